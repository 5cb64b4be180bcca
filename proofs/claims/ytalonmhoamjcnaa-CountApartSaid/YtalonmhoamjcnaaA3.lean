/-
  Counts: the walks of runs.
-/
import Derived.Test.YtalonmhoamjcnaaA2
namespace Go.Proofs.Ytalonmhoamjcnaa
open Go.RowKit Go.Proofs.YtalonmhoamjcnaaW.PrintWords

theorem TurnAt.below {W W' : World} {B : Nat} {t r : Int} {o : Bool} (h : TurnAt W B t r o) (hb : Below W.heap.size W W') : TurnAt W' B t r o := h.under hb h.lt
theorem check_cv (t r : Int) (o : Bool) (z : Int) (hz : z = if ok t r o then 0 else 10) (w : World) :
    Calls Try.prog 9 #[.agg #[.int .i64 t, .int .i64 r, .bool o]] w fun e w' => e = .returned (.int .i64 z) ∧ Below w.heap.size w w' := check_calls t r o z hz w

/-- Counts' block. -/
def CountAt (W : World) (B : Nat) (t r : Int) (o : Bool) : Prop := W.heap[B]? = some (.cells #[.int .i64 t, .int .i64 r, .bool o] 23 (0, 0))
theorem CountAt.cells {W : World} {B : Nat} {t r : Int} {o : Bool} (h : CountAt W B t r o) : W.cell? ⟨B, 0, none⟩ = some (.int .i64 t) ∧ W.cell? ⟨B, 1, none⟩ = some (.int .i64 r) ∧ W.cell? ⟨B, 2, none⟩ = some (.bool o) ∧ W.frozen? ⟨B, 0, none⟩ = false ∧ W.frozen? ⟨B, 1, none⟩ = false ∧ W.frozen? ⟨B, 2, none⟩ = false := by
  simp [World.cell?, World.frozen?, show W.heap[B]? = _ from h]
theorem CountAt.lt {W : World} {B : Nat} {t r : Int} {o : Bool} (h : CountAt W B t r o) : B < W.heap.size := (Array.getElem?_eq_some_iff.1 h).1
theorem CountAt.below {W W' : World} {B : Nat} {t r : Int} {o : Bool} (h : CountAt W B t r o) (hb : Below W.heap.size W W') : CountAt W' B t r o := (hb.block B h.lt).trans h

theorem CountAt.set0 {W : World} {B : Nat} {t r : Int} {o : Bool} (h : CountAt W B t r o) (t' : Int) : CountAt (W.setCell ⟨B, 0, none⟩ (.int .i64 t')) B t' r o := by
  obtain ⟨hlt, hk⟩ := Array.getElem?_eq_some_iff.1 h
  show (W.heap.modify B _)[B]? = _
  rw [Array.getElem?_eq_getElem (by rw [Array.size_modify]; exact hlt), Array.getElem_modify_self, hk]
  rfl
theorem CountAt.set1 {W : World} {B : Nat} {t r : Int} {o : Bool} (h : CountAt W B t r o) (r' : Int) : CountAt (W.setCell ⟨B, 1, none⟩ (.int .i64 r')) B t r' o := by
  obtain ⟨hlt, hk⟩ := Array.getElem?_eq_some_iff.1 h
  show (W.heap.modify B _)[B]? = _
  rw [Array.getElem?_eq_getElem (by rw [Array.size_modify]; exact hlt), Array.getElem_modify_self, hk]
  rfl
theorem CountAt.set2 {W : World} {B : Nat} {t r : Int} {o : Bool} (h : CountAt W B t r o) (o' : Bool) : CountAt (W.setCell ⟨B, 2, none⟩ (.bool o')) B t r o' := by
  obtain ⟨hlt, hk⟩ := Array.getElem?_eq_some_iff.1 h
  show (W.heap.modify B _)[B]? = _
  rw [Array.getElem?_eq_getElem (by rw [Array.size_modify]; exact hlt), Array.getElem_modify_self, hk]
  rfl
theorem CountAt.put {W : World} {B : Nat} {t r : Int} {o : Bool} (h : CountAt W B t r o) (t' r' : Int) (o' : Bool) : CountAt (((W.setCell ⟨B, 0, none⟩ (.int .i64 t')).setCell ⟨B, 1, none⟩ (.int .i64 r')).setCell ⟨B, 2, none⟩ (.bool o')) B t' r' o' := ((h.set0 t').set1 r').set2 o'
theorem Below.put {n : Nat} {W W' : World} (h : Below n W W') (B : Nat) (hB : n ≤ B) (x y z : Value) : Below n W (((W'.setCell ⟨B, 0, none⟩ x).setCell ⟨B, 1, none⟩ y).setCell ⟨B, 2, none⟩ z) :=
  ((h.setCell (p := ⟨B, 0, none⟩) hB x).setCell (p := ⟨B, 1, none⟩) hB y).setCell (p := ⟨B, 2, none⟩) hB z

set_option maxHeartbeats 2000000 in
theorem runs_skip (B : Nat) (g : Value) (t r : Int) (o : Bool) (W : World) (h : TurnAt W B t r o) (hk : (ok t r o && !o) = false) :
    Calls Try.prog 23 #[.pointer (some ⟨B, 0, none⟩), g] W fun e W' => e = .returned (cv t r o) ∧ Below W.heap.size W W' := by
  obtain ⟨W1, hW1⟩ : ∃ W1, W.alloc (.cells #[.int .i64 0, .int .i64 0, .bool false] 23) = W1 := ⟨_, rfl⟩
  have H1 := Aside0.mk (show TurnAt W1 B t r o from hW1 ▸ h.below ((Below.refl _ _).alloc (Nat.le_refl _) _))
  have C1 := Aside0.mk (show CountAt W1 W.heap.size 0 0 false from hW1 ▸ heap_alloc_new W _)
  have B1 := Aside0.mk (show Below W.heap.size W W1 from hW1 ▸ (Below.refl _ _).alloc (Nat.le_refl _) _)
  have hn : Aside0 (B ≠ W.heap.size) := ⟨by have := h.lt; omega⟩
  obtain ⟨y0, y1, y2, -, -, -⟩ := H1.out.cells
  clear h
  by_cases hok : ok t r o = true
  · obtain rfl : o = true := by rw [hok] at hk; cases o <;> simp_all
    have HO := Aside0.mk hok
    clear hok hk
    go_enter Try.func23, Try.ntmps23
    go_wp2_with fail
    refine (check_cv t r true 0 (by rw [HO.out]; rfl) W1).mono ?_
    rintro e w2 ⟨rfl, b2⟩
    have H2 := Aside0.mk (H1.out.below b2)
    have C2 := Aside0.mk (C1.out.below b2)
    have B2 := Aside0.mk (below_step B1.out b2)
    clear b2 y0 y1 y2 hW1
    obtain ⟨y0, y1, y2, -, -, -⟩ := H2.out.cells
    obtain ⟨x0, x1, x2, f0, f1, f2⟩ := C2.out.cells
    simp only []
    repeat go_step
    have C3 := CountAt.put C2.out t r true
    have B3 := Below.put B2.out W.heap.size (Nat.le_refl _) (.int .i64 t) (.int .i64 r) (.bool true)
    obtain ⟨z0, z1, z2, -, -, -⟩ := C3.cells
    refine bodyPost_ret (v := cv t r true) ?_ rfl ⟨rfl, B3⟩
    simp [results, Try.f23, go_sem, z0, z1, z2, cv]
  · have HO := Aside0.mk (show ok t r o = false by simpa using hok)
    clear hok hk
    go_enter Try.func23, Try.ntmps23
    go_wp2_with fail
    refine (check_cv t r o 10 (by rw [HO.out]; rfl) W1).mono ?_
    rintro e w2 ⟨rfl, b2⟩
    have H2 := Aside0.mk (H1.out.below b2)
    have C2 := Aside0.mk (C1.out.below b2)
    have B2 := Aside0.mk (below_step B1.out b2)
    clear b2 y0 y1 y2 hW1
    obtain ⟨y0, y1, y2, -, -, -⟩ := H2.out.cells
    obtain ⟨x0, x1, x2, f0, f1, f2⟩ := C2.out.cells
    go_wp2_with fail
    have C3 := CountAt.put C2.out t r o
    have B3 := Below.put B2.out W.heap.size (Nat.le_refl _) (.int .i64 t) (.int .i64 r) (.bool o)
    obtain ⟨z0, z1, z2, -, -, -⟩ := C3.cells
    refine bodyPost_ret (v := cv t r o) ?_ rfl ⟨rfl, B3⟩
    simp [results, Try.f23, go_sem, z0, z1, z2, cv]
end Go.Proofs.Ytalonmhoamjcnaa
