/-
  Counts: the walks of the turns.
-/
import Derived.Test.YtalonmhoamjcnaaA1
namespace Go.Proofs.Ytalonmhoamjcnaa
open Go.RowKit Go.Proofs.YtalonmhoamjcnaaW.PrintWords

/-- A turn's block. -/
def TurnAt (W : World) (B : Nat) (t r : Int) (o : Bool) : Prop := W.heap[B]? = some (.cells #[.int .i64 t, .int .i64 r, .bool o] 50 (0, 0))
theorem TurnAt.cells {W : World} {B : Nat} {t r : Int} {o : Bool} (h : TurnAt W B t r o) : W.cell? ⟨B, 0, none⟩ = some (.int .i64 t) ∧ W.cell? ⟨B, 1, none⟩ = some (.int .i64 r) ∧ W.cell? ⟨B, 2, none⟩ = some (.bool o) ∧ W.frozen? ⟨B, 0, none⟩ = false ∧ W.frozen? ⟨B, 1, none⟩ = false ∧ W.frozen? ⟨B, 2, none⟩ = false := by
  simp [World.cell?, World.frozen?, show W.heap[B]? = _ from h]
theorem TurnAt.lt {W : World} {B : Nat} {t r : Int} {o : Bool} (h : TurnAt W B t r o) : B < W.heap.size := (Array.getElem?_eq_some_iff.1 h).1
theorem TurnAt.set0 {W : World} {B : Nat} {t r : Int} {o : Bool} (h : TurnAt W B t r o) (t' : Int) : TurnAt (W.setCell ⟨B, 0, none⟩ (.int .i64 t')) B t' r o := by
  obtain ⟨hlt, hk⟩ := Array.getElem?_eq_some_iff.1 h
  show (W.heap.modify B _)[B]? = _
  rw [Array.getElem?_eq_getElem (by rw [Array.size_modify]; exact hlt), Array.getElem_modify_self, hk]
  rfl
theorem TurnAt.set1 {W : World} {B : Nat} {t r : Int} {o : Bool} (h : TurnAt W B t r o) (r' : Int) : TurnAt (W.setCell ⟨B, 1, none⟩ (.int .i64 r')) B t r' o := by
  obtain ⟨hlt, hk⟩ := Array.getElem?_eq_some_iff.1 h
  show (W.heap.modify B _)[B]? = _
  rw [Array.getElem?_eq_getElem (by rw [Array.size_modify]; exact hlt), Array.getElem_modify_self, hk]
  rfl
theorem TurnAt.set2 {W : World} {B : Nat} {t r : Int} {o : Bool} (h : TurnAt W B t r o) (o' : Bool) : TurnAt (W.setCell ⟨B, 2, none⟩ (.bool o')) B t r o' := by
  obtain ⟨hlt, hk⟩ := Array.getElem?_eq_some_iff.1 h
  show (W.heap.modify B _)[B]? = _
  rw [Array.getElem?_eq_getElem (by rw [Array.size_modify]; exact hlt), Array.getElem_modify_self, hk]
  rfl
theorem TurnAt.under {W W' : World} {n B : Nat} {t r : Int} {o : Bool} (h : TurnAt W B t r o) (hb : Below n W W') (hB : B < n) : TurnAt W' B t r o := (hb.block B hB).trans h

/-- Nothing but block B was written. -/
def Turned (B : Nat) (W W' : World) : Prop := Below B W W' ∧ ∀ k, k ≠ B → W'.heap[k]? = W.heap[k]?
theorem Turned.refl (B : Nat) (W : World) : Turned B W W := ⟨Below.refl _ _, fun _ _ => rfl⟩
theorem Turned.set {B : Nat} {W W' : World} (h : Turned B W W') (i : Nat) (v : Value) : Turned B W (W'.setCell ⟨B, i, none⟩ v) :=
  ⟨h.1.setCell (p := ⟨B, i, none⟩) (Nat.le_refl _) v, fun k hk => (Below.heap_setCell _ _ _ k (fun e => hk e)).trans (h.2 k hk)⟩
theorem Turned.drew {B : Nat} {W W' : World} (h : Turned B W W') : Turned B W W'.drew := ⟨h.1.drew, h.2⟩
set_option maxHeartbeats 1000000 in
theorem sent_calls (B : Nat) (t r : Int) (o : Bool) (W : World) (h : TurnAt W B t r o) (h0 : 0 ≤ t ∧ t ≤ 256) :
    Calls Try.prog 24 #[.pointer (some ⟨B, 0, none⟩)] W fun e W' => (∃ v, e = .returned v) ∧ TurnAt W' B (if 0 < t then t - 1 else 0) r o ∧ Turned B W W' := by
  obtain ⟨y0, y1, y2, f0, f1, f2⟩ := h.cells
  have H := Aside0.mk h
  clear h
  by_cases c : 0 < t
  · rw [if_pos c]
    go_enter Try.func24, Try.ntmps24
    go_wp2
    go_end0
    exact ⟨⟨_, rfl⟩, H.out.set0 _, (Turned.refl _ _).set 0 _⟩
  · rw [if_neg c]
    obtain rfl : t = 0 := by omega
    go_enter Try.func24, Try.ntmps24
    go_wp2
    go_end0
    exact ⟨⟨_, rfl⟩, H.out.set0 _, (Turned.refl _ _).set 0 _⟩

set_option maxHeartbeats 1000000 in
theorem received_calls (B : Nat) (t r : Int) (o : Bool) (W : World) (h : TurnAt W B t r o) (h0 : 0 ≤ r ∧ r ≤ 255) :
    Calls Try.prog 25 #[.pointer (some ⟨B, 0, none⟩)] W fun e W' => (∃ v, e = .returned v) ∧ TurnAt W' B t (if 127 < r then 119 else if 0 < r then r - 1 else 0) o ∧ Turned B W W' := by
  obtain ⟨y0, y1, y2, f0, f1, f2⟩ := h.cells
  have H := Aside0.mk h
  clear h
  by_cases c : 127 < r
  · rw [if_pos c]
    go_enter Try.func25, Try.ntmps25
    go_wp2
    refine bodyPost_ret (results_none rfl _ _ _) rfl ?_
    exact ⟨⟨_, rfl⟩, H.out.set1 _, (Turned.refl _ _).set 1 _⟩
  · rw [if_neg c]
    by_cases d : 0 < r
    · rw [if_pos d]
      go_enter Try.func25, Try.ntmps25
      go_wp2
      go_end0
      exact ⟨⟨_, rfl⟩, H.out.set1 _, (Turned.refl _ _).set 1 _⟩
    · rw [if_neg d]
      obtain rfl : r = 0 := by omega
      go_enter Try.func25, Try.ntmps25
      go_wp2
      go_end0
      exact ⟨⟨_, rfl⟩, H.out.set1 _, (Turned.refl _ _).set 1 _⟩

set_option maxHeartbeats 1000000 in
theorem tx_calls (B : Nat) (t r : Int) (W : World) (h : TurnAt W B t r false) (h0 : 0 ≤ t ∧ t ≤ 256) :
    Calls Try.prog 26 #[.pointer (some ⟨B, 0, none⟩)] W fun e W' => (∃ v, e = .returned v) ∧ TurnAt W' B (if 247 < t then 256 else t + 8) r (decide (247 < t)) ∧ Turned B W W' := by
  obtain ⟨y0, y1, y2, f0, f1, f2⟩ := h.cells
  have H := Aside0.mk h
  clear h
  by_cases c : 247 < t
  · rw [if_pos c, decide_eq_true c]
    have c2 : 255 < t + 8 := by omega
    go_enter Try.func26, Try.ntmps26
    go_wp2
    go_end0
    exact ⟨⟨_, rfl⟩, ((H.out.set0 _).set0 _).set2 _, (((Turned.refl _ _).set 0 _).set 0 _).set 2 _⟩
  · rw [if_neg c, decide_eq_false c]
    have c2 : ¬ 255 < t + 8 := by omega
    go_enter Try.func26, Try.ntmps26
    go_wp2
    go_end0
    exact ⟨⟨_, rfl⟩, H.out.set0 _, (Turned.refl _ _).set 0 _⟩

set_option maxHeartbeats 1000000 in
theorem rx_calls (B P Q : Nat) (t r g : Int) (o : Bool) (W : World) (h : TurnAt W B t r o) (h0 : 0 ≤ r ∧ r ≤ 255) (hg : g = 1 ∨ g = 8) (hP : W.cell? ⟨P, 0, none⟩ = some (.pointer (some ⟨B, 0, none⟩))) (hQ : W.cell? ⟨Q, 0, none⟩ = some (.int .i64 g)) :
    Calls Try.prog 27 #[.pointer (some ⟨P, 0, none⟩), .pointer (some ⟨Q, 0, none⟩)] W fun e W' => (∃ v, e = .returned v) ∧ TurnAt W' B t (if r + g ≤ 255 then r + g else 255) o ∧ Turned B W W' := by
  obtain ⟨y0, y1, y2, f0, f1, f2⟩ := h.cells
  have H := Aside0.mk h
  clear h
  by_cases c : r + g ≤ 255
  · rw [if_pos c]
    go_enter Try.func27, Try.ntmps27
    go_wp2
    go_region
    go_wp2
    go_end0
    exact ⟨⟨_, rfl⟩, H.out.set1 _, ((Turned.refl _ _).set 1 _).drew⟩
  · rw [if_neg c]
    go_enter Try.func27, Try.ntmps27
    go_wp2
    go_region
    go_wp2
    go_end0
    exact ⟨⟨_, rfl⟩, H.out.set1 _, ((Turned.refl _ _).set 1 _).drew⟩
end Go.Proofs.Ytalonmhoamjcnaa
