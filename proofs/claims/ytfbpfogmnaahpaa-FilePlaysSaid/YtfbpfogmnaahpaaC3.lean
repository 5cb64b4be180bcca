/-
  Files: the document's answer (Crash).
-/
import Derived.Test.YtfbpfogmnaahpaaC2
namespace Go.Proofs.Ytfbpfogmnaahpaa
open Go.RowKit Go.Proofs.YtfbpfogmnaahpaaW.PrintWords

/-- The first bytes, garbled. -/
def rg (ys lL : List Int) : Nat → List Int
  | 0 => []
  | i + 1 => rg ys lL i ++ [if i < ys.length then bits .xor .u8 (rd lL i) (rd ys i) else rd lL i]
theorem rg_length (ys lL : List Int) (i : Nat) : (rg ys lL i).length = i := by
  induction i with
  | zero => rfl
  | succ i ih => simp [rg, ih]
theorem rd_rg (ys lL : List Int) (i j : Nat) (h : j < i) : rd (rg ys lL i) (j : Int) = if j < ys.length then bits .xor .u8 (rd lL j) (rd ys j) else rd lL j := by
  induction i with
  | zero => omega
  | succ i ih =>
    by_cases hj : j < i
    · rw [rg, rd_app_left _ _ _ (by rw [rg_length]; exact hj), ih hj]
    · obtain rfl : j = i := by omega
      have := rd_app_right (rg ys lL j) [if j < ys.length then bits .xor .u8 (rd lL j) (rd ys j) else rd lL j] 0
      rw [rg_length, Nat.add_zero] at this
      rw [rg, this]
      rfl
theorem eq_of_rd {l m : List Int} (h : l.length = m.length) (hr : ∀ i : Nat, i < l.length → rd l (i : Int) = rd m i) : l = m := by
  apply List.ext_getElem h
  intro i h1 h2
  have := hr i h1
  unfold rd at this
  simpa [List.getD_eq_getElem?_getD, List.getElem?_eq_getElem h1, List.getElem?_eq_getElem h2] using this
theorem grb_rg (s k : Nat) (ys lF lL : List Int) (hs : lF.length = s) (hk : k ≤ lL.length) : grb s ys ((lF ++ lL).take (s + k)) (min k ys.length) = lF ++ rg ys lL k := by
  apply eq_of_rd
  · rw [grb_length, List.length_take, List.length_append, List.length_append, rg_length]; omega
  intro i hi
  rw [grb_length, List.length_take, List.length_append] at hi
  by_cases h : i < s
  · have e1 : rd (grb s ys ((lF ++ lL).take (s + k)) (min k ys.length)) (i : Int) = rd ((grb s ys ((lF ++ lL).take (s + k)) (min k ys.length)).take s) i := (rd_take _ _ _ h).symm
    rw [e1, grb_take, rd_take _ _ _ h, rd_take _ _ _ (by omega), rd_app_left _ _ _ (by omega), rd_app_left _ _ _ (by omega)]
  · obtain ⟨j, rfl⟩ : ∃ j, i = s + j := ⟨i - s, by omega⟩
    rw [rd_grb _ _ _ _ _ (by rw [List.length_take, List.length_append]; omega), rd_take _ _ _ (by omega)]
    have e2 := rd_app_right lF lL j
    have e3 := rd_app_right lF (rg ys lL k) j
    rw [hs] at e2 e3
    rw [e2, e3, rd_rg _ _ _ _ (by omega)]
    by_cases hj : j < ys.length
    · rw [if_pos hj, if_pos (by omega)]
    · rw [if_neg hj, if_neg (by omega)]

theorem rcrash_crashed (b r : Nat) (qF : Option Nat) (AF : Option Addr) (cF nF : Nat) (lF : List Int) (qL : Option Nat) (AL : Option Addr) (cL nL : Nat) (lL : List Int) (most : Int) (j : Int) (X : Option Addr) (m cx : Nat) (w : World) (h : RefAt w b r qF AF cF nF lF qL AL cL nL lL most true) :
    Calls Try.prog 20 #[.pointer (some ⟨r, 0, none⟩), .int .i64 j, .slice X m cx] w fun e w' => e = .returned (.int .i64 25) ∧ w = w' := by
  obtain ⟨-, -, -, y3⟩ := h.cells
  clear h
  go_enter Try.func20, Try.ntmps20
  go_wp2
  go_ret
  simp
theorem rcrash_range (b r : Nat) (qF : Option Nat) (AF : Option Addr) (cF nF : Nat) (lF : List Int) (qL : Option Nat) (AL : Option Addr) (cL nL : Nat) (lL : List Int) (most : Int) (j : Int) (X : Option Addr) (m cx : Nat) (w : World) (h : RefAt w b r qF AF cF nF lF qL AL cL nL lL most false) (hj : j < 0 ∨ nL < j) :
    Calls Try.prog 20 #[.pointer (some ⟨r, 0, none⟩), .int .i64 j, .slice X m cx] w fun e w' => e = .returned (.int .i64 10) ∧ w = w' := by
  obtain ⟨-, -, y2, y3⟩ := h.cells
  clear h
  by_cases c1 : j < 0
  · clear hj
    go_enter Try.func20, Try.ntmps20
    go_wp2
    go_ret
    simp
  · have c2 : (nL : Int) < j := by omega
    clear hj
    go_enter Try.func20, Try.ntmps20
    go_wp2
    go_ret
    simp
set_option maxRecDepth 20000 in
set_option maxHeartbeats 8000000 in
theorem rcrash_calls (b r : Nat) (qF : Option Nat) (AF : Option Addr) (cF nF : Nat) (lF : List Int) (qL : Option Nat) (AL : Option Addr) (cL nL : Nat) (lL : List Int) (most : Int) (k : Nat) (hk : k ≤ nL) (X : Option Addr) (cx m : Nat) (ys : List Int) (w : World) (h : RefAt w b r qF AF cF nF lF qL AL cL nL lL most false) (hY : Bs w X cx ys) (hlen : ys.length = m) (hb : b ≤ w.heap.size) (hkb : k ≤ 140737488355327) :
    Calls Try.prog 20 #[.pointer (some ⟨r, 0, none⟩), .int .i64 k, .slice X m cx] w fun e w' => e = .returned (.int .i64 0) ∧ ∃ q' A' c', RefAt w' b r qF AF cF nF lF q' A' c' k (rg ys lL k) most true ∧ Did b w w' r none ∧ (∀ j, q' = some j → w.heap.size ≤ j) := by
  obtain ⟨-, -, y2, y3⟩ := h.cells
  have c1 : ¬ (k : Int) < 0 := by omega
  have c2 : ¬ (nL : Int) < (k : Int) := by omega
  have HH := Aside0.mk h
  have HY := Aside0.mk hY
  have HM := Aside0.mk hlen
  have HBW := Aside0.mk hb
  clear h hY hlen
  go_enter Try.func20, Try.ntmps20
  go_upto_region 6 with fail
  obtain ⟨w1, hw1⟩ : ∃ w1, w.alloc (.cells #[] 5) = w1 := ⟨_, rfl⟩
  have R1 := Aside0.mk (lit_row #[] [] 0 rfl rfl (by simp) (by decide) hw1)
  have B1 := Aside0.mk (grow hw1)
  rw [hw1]
  clear hw1 y2 y3 c1 c2
  go_wp2_with fail
  go_loopw [7, 8] (fun v vi wr => ∃ i : Nat, i ≤ k ∧ vi = .int .i64 i ∧ (∃ q A c, v = .slice A i c ∧ Row wr w.heap.size q A c (rg ys lL i)) ∧ Below w.heap.size w wr) (fun _ vi _ => k - (intOf vi).toNat)
  case atStart => exact ⟨0, by omega, rfl, ⟨_, _, _, rfl, R1.out⟩, B1.out⟩
  case round =>
    clear R1 B1
    obtain ⟨i, hi, rfl, ⟨q, A, c, rfl, hR⟩, hB⟩ := hrel
    by_cases hlt : i < k
    · have i0 : (0 : Int) ≤ (i : Int) := by omega
      have i1 : (i : Int) < (k : Int) := by omega
      have i2 : (i : Int) < (nL : Int) := by omega
      obtain ⟨-, -, y2, -⟩ := (HH.out.below hB).cells
      obtain ⟨al, e0, v0, v1, v2⟩ := (HH.out.below hB).rowL.bs.at_ i (by have := HH.out.lenL; omega)
      subst e0
      obtain ⟨lb, hlb⟩ : ∃ x, x = rd lL i := ⟨_, rfl⟩
      rw [← hlb] at v0 v1 v2
      have R := Aside0.mk hR
      have HB := Aside0.mk hB
      by_cases hm : i < m
      · have i3 : (i : Int) < (m : Int) := by omega
        obtain ⟨ag, rfl, u0, u1, u2⟩ := (HY.out.below hB).at_ i (by have := HM.out; omega)
        obtain ⟨gb, hgb⟩ : ∃ x, x = rd ys i := ⟨_, rfl⟩
        rw [← hgb] at u0 u1 u2
        have XB := Aside0.mk (xor_byte ⟨v1, v2⟩ ⟨u1, u2⟩)
        have E := Aside0.mk (And.intro hlb hgb)
        clear hR hB hlb hgb v1 v2 u1 u2
        obtain ⟨w2, hw2⟩ : ∃ w2, wr.alloc (.cells #[.int .u8 (bits .xor .u8 lb gb)] 5) = w2 := ⟨_, rfl⟩
        have Y2 := Aside0.mk (lit_row #[.int .u8 (bits .xor .u8 lb gb)] [(bits .xor .u8 lb gb)] 1 rfl rfl (by intro y hy; simp only [List.mem_cons, List.not_mem_nil, or_false] at hy; subst hy; exact XB.out) (by decide) hw2)
        have R2 := Aside0.mk (R.out.below (grow hw2))
        have B2 := Aside0.mk (HB.out.trans ((grow hw2).mono HB.out.size))
        have HW2 := Aside0.mk hw2
        clear hw2
        have gi : rg ys lL i ++ [(bits .xor .u8 lb gb)] = rg ys lL (i + 1) := by rw [rg, if_pos (by have := HM.out; omega), ← E.out.1, ← E.out.2]
        have GI := Aside0.mk gi
        clear gi
        go_wp2_with (at_builtin; rw [HW2.out]; refine wpList_append_N (b := w.heap.size) (n := i) (l := rg ys lL i) rfl _ _ rfl _ 1 1 [(bits .xor .u8 lb gb)] rfl rfl ?c1 (i + 1) rfl R2.out ?c2 ?c3 ?c4 ?c5 ?_)
        case c1 => exact rg_length _ _ _
        case c2 => exact Y2.out.bs.reads
        case c3 => first | exact Y2.out.byte | exact XB.out | (simpa using XB.out)
        case c4 => omega
        case c5 => exact B2.out.size
        intro A3 c3 q3 w3 hr3 hg3 hq3
        have R3 := Aside0.mk (show Row w3 w.heap.size q3 A3 c3 (rg ys lL (i + 1)) by rw [← GI.out]; exact hr3)
        have B3 := Aside0.mk (B2.out.grown hg3 B2.out.size (fun j hj => (R2.out.size j hj).1))
        clear hr3 hg3 hq3 Y2 R2 B2 HW2 GI R HB
        go_wp2_with fail
        go_roundw
        case rel => exact ⟨i + 1, by omega, by go_num, ⟨q3, A3, c3, rfl, R3.out⟩, B3.out⟩
        case measure => simp [intOf]; omega
      · have i3 : ¬ (i : Int) < (m : Int) := by omega
        have XB := Aside0.mk (And.intro v1 v2)
        have E := Aside0.mk hlb
        clear hR hB hlb v1 v2
        obtain ⟨w2, hw2⟩ : ∃ w2, wr.alloc (.cells #[.int .u8 lb] 5) = w2 := ⟨_, rfl⟩
        have Y2 := Aside0.mk (lit_row #[.int .u8 lb] [lb] 1 rfl rfl (by intro y hy; simp only [List.mem_cons, List.not_mem_nil, or_false] at hy; subst hy; exact XB.out) (by decide) hw2)
        have R2 := Aside0.mk (R.out.below (grow hw2))
        have B2 := Aside0.mk (HB.out.trans ((grow hw2).mono HB.out.size))
        have HW2 := Aside0.mk hw2
        clear hw2
        have gi : rg ys lL i ++ [lb] = rg ys lL (i + 1) := by rw [rg, if_neg (by have := HM.out; omega), ← E.out]
        have GI := Aside0.mk gi
        clear gi
        go_wp2_with (at_builtin; rw [HW2.out]; refine wpList_append_N (b := w.heap.size) (n := i) (l := rg ys lL i) rfl _ _ rfl _ 1 1 [lb] rfl rfl ?c1 (i + 1) rfl R2.out ?c2 ?c3 ?c4 ?c5 ?_)
        case c1 => exact rg_length _ _ _
        case c2 => exact Y2.out.bs.reads
        case c3 => first | exact Y2.out.byte | exact XB.out | (simpa using XB.out)
        case c4 => omega
        case c5 => exact B2.out.size
        intro A3 c3 q3 w3 hr3 hg3 hq3
        have R3 := Aside0.mk (show Row w3 w.heap.size q3 A3 c3 (rg ys lL (i + 1)) by rw [← GI.out]; exact hr3)
        have B3 := Aside0.mk (B2.out.grown hg3 B2.out.size (fun j hj => (R2.out.size j hj).1))
        clear hr3 hg3 hq3 Y2 R2 B2 HW2 GI R HB
        go_wp2_with fail
        go_roundw
        case rel => exact ⟨i + 1, by omega, by go_num, ⟨q3, A3, c3, rfl, R3.out⟩, B3.out⟩
        case measure => simp [intOf]; omega
    · obtain rfl : k = i := by omega
      have H2 := HH.out.below hB
      obtain ⟨-, -, y2, y3⟩ := H2.cells
      obtain ⟨-, f2, f3⟩ := H2.free
      have hqr : q ≠ some r := fun e => by have := (hR.size _ e).1; have := HH.out.lt; omega
      have F := Aside0.mk (show RefAt ((wr.setCell ⟨r, 2, none⟩ (.slice A k c)).setCell ⟨r, 3, none⟩ (.bool true)) b r qF AF cF nF lF q A c k (rg ys lL k) most true from
        ⟨refput 3 _ (refput 2 _ H2.blk), H2.own, H2.lenF, rg_length _ _ _, (H2.rowF.set _ H2.apF _).set _ H2.apF _, ((hR.weaken HBW.out).set _ hqr _).set _ hqr _, H2.apF, hqr, fun j hj e => by have := (hR.size _ e).1; have := (HH.out.rowF.size _ hj).2; omega⟩)
      have D := Aside0.mk (show Did b w ((wr.setCell ⟨r, 2, none⟩ (.slice A k c)).setCell ⟨r, 3, none⟩ (.bool true)) r none from
        ⟨((hB.mono HBW.out).setCell (p := ⟨r, 2, none⟩) H2.own _).setCell (p := ⟨r, 3, none⟩) H2.own _, fun j hj h1 h2 => (Below.heap_setCell _ _ _ j h1).trans ((Below.heap_setCell _ _ _ j h1).trans (hB.block j hj))⟩)
      have N := Aside0.mk (show ∀ j, q = some j → w.heap.size ≤ j from fun j hj => (hR.size _ hj).1)
      clear hR hB H2 hqr
      go_wp2
      go_ret
      exact ⟨rfl, q, A, c, F.out, D.out, N.out⟩
end Go.Proofs.Ytfbpfogmnaahpaa
