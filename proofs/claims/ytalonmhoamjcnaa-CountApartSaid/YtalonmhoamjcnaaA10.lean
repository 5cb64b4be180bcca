/-
  Counts: the document's answer (Right, State, Come).
-/
import Derived.Test.YtalonmhoamjcnaaA9
namespace Go.Proofs.Ytalonmhoamjcnaa
open Go.RowKit Go.Proofs.YtalonmhoamjcnaaW.PrintWords

/-- The block of the reference's counts. -/
def RefAt (W : World) (B : Nat) (t r : Int) (o : Bool) : Prop := W.heap[B]? = some (.cells #[.int .i64 t, .int .i64 r, .bool o] 32 (0, 0))
theorem RefAt.cells {W : World} {B : Nat} {t r : Int} {o : Bool} (h : RefAt W B t r o) : W.cell? ⟨B, 0, none⟩ = some (.int .i64 t) ∧ W.cell? ⟨B, 1, none⟩ = some (.int .i64 r) ∧ W.cell? ⟨B, 2, none⟩ = some (.bool o) ∧ W.frozen? ⟨B, 0, none⟩ = false ∧ W.frozen? ⟨B, 1, none⟩ = false ∧ W.frozen? ⟨B, 2, none⟩ = false := by
  simp [World.cell?, World.frozen?, show W.heap[B]? = _ from h]
theorem RefAt.lt {W : World} {B : Nat} {t r : Int} {o : Bool} (h : RefAt W B t r o) : B < W.heap.size := (Array.getElem?_eq_some_iff.1 h).1
theorem RefAt.below {W W' : World} {B : Nat} {t r : Int} {o : Bool} (h : RefAt W B t r o) (hb : Below W.heap.size W W') : RefAt W' B t r o := (hb.block B h.lt).trans h

theorem RefAt.set0 {W : World} {B : Nat} {t r : Int} {o : Bool} (h : RefAt W B t r o) (t' : Int) : RefAt (W.setCell ⟨B, 0, none⟩ (.int .i64 t')) B t' r o := by
  obtain ⟨hlt, hk⟩ := Array.getElem?_eq_some_iff.1 h
  show (W.heap.modify B _)[B]? = _
  rw [Array.getElem?_eq_getElem (by rw [Array.size_modify]; exact hlt), Array.getElem_modify_self, hk]
  rfl
theorem RefAt.set1 {W : World} {B : Nat} {t r : Int} {o : Bool} (h : RefAt W B t r o) (r' : Int) : RefAt (W.setCell ⟨B, 1, none⟩ (.int .i64 r')) B t r' o := by
  obtain ⟨hlt, hk⟩ := Array.getElem?_eq_some_iff.1 h
  show (W.heap.modify B _)[B]? = _
  rw [Array.getElem?_eq_getElem (by rw [Array.size_modify]; exact hlt), Array.getElem_modify_self, hk]
  rfl
theorem RefAt.set2 {W : World} {B : Nat} {t r : Int} {o : Bool} (h : RefAt W B t r o) (o' : Bool) : RefAt (W.setCell ⟨B, 2, none⟩ (.bool o')) B t r o' := by
  obtain ⟨hlt, hk⟩ := Array.getElem?_eq_some_iff.1 h
  show (W.heap.modify B _)[B]? = _
  rw [Array.getElem?_eq_getElem (by rw [Array.size_modify]; exact hlt), Array.getElem_modify_self, hk]
  rfl
theorem RefAt.put {W : World} {B : Nat} {t r : Int} {o : Bool} (h : RefAt W B t r o) (t' r' : Int) (o' : Bool) : RefAt (((W.setCell ⟨B, 0, none⟩ (.int .i64 t')).setCell ⟨B, 1, none⟩ (.int .i64 r')).setCell ⟨B, 2, none⟩ (.bool o')) B t' r' o' := ((h.set0 t').set1 r').set2 o'

theorem RefAt.other {W : World} {B : Nat} {t r : Int} {o : Bool} (h : RefAt W B t r o) (p : Addr) (hp : B ≠ p.block) (v : Value) : RefAt (W.setCell p v) B t r o :=
  (Below.heap_setCell _ _ _ B hp).trans h
theorem RefAt.other3 {W : World} {B : Nat} {t r : Int} {o : Bool} (h : RefAt W B t r o) (A : Nat) (hp : B ≠ A) (x y z : Value) : RefAt (((W.setCell ⟨A, 0, none⟩ x).setCell ⟨A, 1, none⟩ y).setCell ⟨A, 2, none⟩ z) B t r o :=
  ((h.other ⟨A, 0, none⟩ hp x).other ⟨A, 1, none⟩ hp y).other ⟨A, 2, none⟩ hp z

set_option maxHeartbeats 2000000 in
theorem right_calls (t r : Int) (o : Bool) (b : Bool) (hb : ok t r o = b) (W : World) :
    Calls Try.prog 17 #[cv t r o] W fun e W' => e = .returned (.bool b) ∧ Below W.heap.size W W' := by
  unfold ok at hb
  by_cases r0 : r < 0
  · have HB := Aside0.mk (show b = false by rw [← hb]; simp; omega)
    clear hb
    unfold cv
    go_enter Try.func17, Try.ntmps17
    go_wp2_with fail
    go_ret
    exact ⟨by rw [HB.out]; try rfl, (Below.refl _ _).alloc (Nat.le_refl _) _⟩
  by_cases r1 : 255 < r
  · have HB := Aside0.mk (show b = false by rw [← hb]; simp; omega)
    clear hb
    unfold cv
    go_enter Try.func17, Try.ntmps17
    go_wp2_with fail
    go_ret
    exact ⟨by rw [HB.out]; try rfl, (Below.refl _ _).alloc (Nat.le_refl _) _⟩
  cases o
  · by_cases t0 : 0 ≤ t
    · have HB := Aside0.mk (show b = decide (t ≤ 255) by rw [← hb, Bool.eq_iff_iff]; simp; omega)
      clear hb
      unfold cv
      go_enter Try.func17, Try.ntmps17
      go_wp2_with fail
      go_ret
      exact ⟨by rw [HB.out]; try rfl, (Below.refl _ _).alloc (Nat.le_refl _) _⟩
    · have HB := Aside0.mk (show b = false by rw [← hb]; simp; omega)
      clear hb
      unfold cv
      go_enter Try.func17, Try.ntmps17
      go_wp2_with fail
      go_ret
      exact ⟨by rw [HB.out]; try rfl, (Below.refl _ _).alloc (Nat.le_refl _) _⟩
  · have HB := Aside0.mk (show b = (t == 256) by rw [← hb, Bool.eq_iff_iff]; simp; omega)
    clear hb
    unfold cv
    go_enter Try.func17, Try.ntmps17
    go_wp2_with fail
    go_ret
    exact ⟨by rw [HB.out]; try rfl, (Below.refl _ _).alloc (Nat.le_refl _) _⟩

set_option maxHeartbeats 2000000 in
theorem refState_calls (t r : Int) (o : Bool) (z : Int) (hz : z = if o then 2 else if 127 < t ∨ 127 < r then 1 else 0) (w : World) :
    Calls Try.prog 16 #[cv t r o] w fun e w' => e = .returned (.int .i64 z) ∧ Below w.heap.size w w' := by
  have HZ := Aside0.mk hz
  clear hz
  cases o
  · by_cases h1 : 128 ≤ t
    · go_enter Try.func16, Try.ntmps16
      unfold cv
      go_wp2
      go_ret
      exact ⟨by rw [HZ.out]; simp [show 127 < t by omega], (Below.refl _ _).alloc (Nat.le_refl _) _⟩
    · by_cases h2 : 128 ≤ r
      · go_enter Try.func16, Try.ntmps16
        unfold cv
        go_wp2
        go_ret
        exact ⟨by rw [HZ.out]; simp [show 127 < r by omega], (Below.refl _ _).alloc (Nat.le_refl _) _⟩
      · go_enter Try.func16, Try.ntmps16
        unfold cv
        go_wp2
        go_ret
        exact ⟨by rw [HZ.out]; simp [show ¬ 127 < t by omega, show ¬ 127 < r by omega], (Below.refl _ _).alloc (Nat.le_refl _) _⟩
  · go_enter Try.func16, Try.ntmps16
    unfold cv
    go_wp2
    go_ret
    exact ⟨by rw [HZ.out]; rfl, (Below.refl _ _).alloc (Nat.le_refl _) _⟩

set_option maxHeartbeats 4000000 in
theorem come_0 (t r : Int) (g : Int) (t' r' : Int) (o' : Bool) (hok : ok t r false = true) (h : behind ⟨t, r, false⟩ 0 g = ⟨t', r', o'⟩) (W : World) :
    Calls Try.prog 14 #[cv t r false, .int .i64 0, .int .i64 g] W fun e W' => e = .returned (cv t' r' o') ∧ Below W.heap.size W W' := by
  have hrun : Ct.runs ⟨t, r, false⟩ = true := by simp [Ct.runs, hok]
  obtain ⟨r0, r1, t0, t1⟩ := ok_rng hok
  by_cases c : 0 < t
  · have HV := Aside0.mk (show cv t' r' o' = cv (t - 1) (r) false by
      have h' : behind ⟨t, r, false⟩ 0 g = ⟨t - 1, r, false⟩ := by simp [behind, sentC, hrun, c]
      obtain ⟨a1, a2, a3⟩ := Ct.mk.inj (h'.symm.trans h)
      rw [← a1, ← a2, ← a3])
    clear h
    have HO := Aside0.mk hok
    clear hok hrun
    unfold cv
    go_enter Try.func14, Try.ntmps14
    go_wp2_with fail
    obtain ⟨W2, hW2⟩ : ∃ W2, (W.alloc (.cells #[.int .i64 t, .int .i64 r, .bool false] 32)).alloc (.cells #[.int .i64 0, .int .i64 0, .bool false] 32) = W2 := ⟨_, rfl⟩
    have R2 : RefAt W2 (W.heap.size + 1) 0 0 false := by
      have h1 := heap_alloc_new (W.alloc (.cells #[.int .i64 t, .int .i64 r, .bool false] 32)) (.cells #[.int .i64 0, .int .i64 0, .bool false] 32)
      rw [hW2, World.size_alloc] at h1
      exact h1
    have A2 : RefAt W2 W.heap.size t r false := by
      have h1 := heap_alloc_new W (.cells #[.int .i64 t, .int .i64 r, .bool false] 32)
      have h2 : RefAt (W.alloc (.cells #[.int .i64 t, .int .i64 r, .bool false] 32)) W.heap.size t r false := h1
      exact hW2 ▸ h2.below ((Below.refl _ _).alloc (Nat.le_refl _) _)
    have B2 : Below W.heap.size W W2 := hW2 ▸ (((Below.refl _ _).alloc (Nat.le_refl _) _).alloc (by simp) _)
    rw [hW2]
    clear hW2
    refine (right_calls t r false true HO.out W2).mono ?_
    rintro e w3 ⟨rfl, b3⟩
    have A3 := Aside0.mk (A2.below b3)
    have R3 := Aside0.mk (R2.below b3)
    have B3 := Aside0.mk (show Below W.heap.size W w3 from B2.trans (b3.mono B2.size))
    clear b3 A2 R2 B2
    obtain ⟨x0, x1, x2, f0, f1, f2⟩ := A3.out.cells
    obtain ⟨y0, y1, y2, g0, g1, g2⟩ := R3.out.cells
    go_wp2_with fail
    have R4 := R3.out
    have B4 := B3.out
    replace R4 := R4.other ⟨W.heap.size, 0, none⟩ (by simp) (.int .i64 (t - 1))
    replace B4 := B4.setCell (p := ⟨W.heap.size, 0, none⟩) (Nat.le_refl _) (.int .i64 (t - 1))
    have R5 := R4.put (t - 1) (r) false
    have B5 := Below.put B4 (W.heap.size + 1) (by omega) (.int .i64 (t - 1)) (.int .i64 (r)) (.bool false)
    obtain ⟨z0, z1, z2, -, -, -⟩ := R5.cells
    refine bodyPost_ret (v := cv (t - 1) (r) false) ?_ rfl ⟨congrArg Ending.returned HV.out.symm, B5⟩
    simp [results, Try.f14, go_sem, z0, z1, z2, cv]
  · have HV := Aside0.mk (show cv t' r' o' = cv (t) (r) false by
      have h' : behind ⟨t, r, false⟩ 0 g = ⟨t, r, false⟩ := by simp [behind, sentC, show t = 0 by omega]
      obtain ⟨a1, a2, a3⟩ := Ct.mk.inj (h'.symm.trans h)
      rw [← a1, ← a2, ← a3])
    clear h
    have HO := Aside0.mk hok
    clear hok hrun
    unfold cv
    go_enter Try.func14, Try.ntmps14
    go_wp2_with fail
    obtain ⟨W2, hW2⟩ : ∃ W2, (W.alloc (.cells #[.int .i64 t, .int .i64 r, .bool false] 32)).alloc (.cells #[.int .i64 0, .int .i64 0, .bool false] 32) = W2 := ⟨_, rfl⟩
    have R2 : RefAt W2 (W.heap.size + 1) 0 0 false := by
      have h1 := heap_alloc_new (W.alloc (.cells #[.int .i64 t, .int .i64 r, .bool false] 32)) (.cells #[.int .i64 0, .int .i64 0, .bool false] 32)
      rw [hW2, World.size_alloc] at h1
      exact h1
    have A2 : RefAt W2 W.heap.size t r false := by
      have h1 := heap_alloc_new W (.cells #[.int .i64 t, .int .i64 r, .bool false] 32)
      have h2 : RefAt (W.alloc (.cells #[.int .i64 t, .int .i64 r, .bool false] 32)) W.heap.size t r false := h1
      exact hW2 ▸ h2.below ((Below.refl _ _).alloc (Nat.le_refl _) _)
    have B2 : Below W.heap.size W W2 := hW2 ▸ (((Below.refl _ _).alloc (Nat.le_refl _) _).alloc (by simp) _)
    rw [hW2]
    clear hW2
    refine (right_calls t r false true HO.out W2).mono ?_
    rintro e w3 ⟨rfl, b3⟩
    have A3 := Aside0.mk (A2.below b3)
    have R3 := Aside0.mk (R2.below b3)
    have B3 := Aside0.mk (show Below W.heap.size W w3 from B2.trans (b3.mono B2.size))
    clear b3 A2 R2 B2
    obtain ⟨x0, x1, x2, f0, f1, f2⟩ := A3.out.cells
    obtain ⟨y0, y1, y2, g0, g1, g2⟩ := R3.out.cells
    go_wp2_with fail
    have R4 := R3.out
    have B4 := B3.out
    have R5 := R4.put (t) (r) false
    have B5 := Below.put B4 (W.heap.size + 1) (by omega) (.int .i64 (t)) (.int .i64 (r)) (.bool false)
    obtain ⟨z0, z1, z2, -, -, -⟩ := R5.cells
    refine bodyPost_ret (v := cv (t) (r) false) ?_ rfl ⟨congrArg Ending.returned HV.out.symm, B5⟩
    simp [results, Try.f14, go_sem, z0, z1, z2, cv]
set_option maxHeartbeats 4000000 in
theorem come_1 (t r : Int) (g : Int) (t' r' : Int) (o' : Bool) (hok : ok t r false = true) (h : behind ⟨t, r, false⟩ 1 g = ⟨t', r', o'⟩) (W : World) :
    Calls Try.prog 14 #[cv t r false, .int .i64 1, .int .i64 g] W fun e W' => e = .returned (cv t' r' o') ∧ Below W.heap.size W W' := by
  have hrun : Ct.runs ⟨t, r, false⟩ = true := by simp [Ct.runs, hok]
  obtain ⟨r0, r1, t0, t1⟩ := ok_rng hok
  by_cases c : 128 ≤ r
  · have HV := Aside0.mk (show cv t' r' o' = cv (t) (119) false by
      have h' : behind ⟨t, r, false⟩ 1 g = ⟨t, 119, false⟩ := by simp [behind, recvC, hrun, show 127 < r by omega]
      obtain ⟨a1, a2, a3⟩ := Ct.mk.inj (h'.symm.trans h)
      rw [← a1, ← a2, ← a3])
    clear h
    have HO := Aside0.mk hok
    clear hok hrun
    unfold cv
    go_enter Try.func14, Try.ntmps14
    go_wp2_with fail
    obtain ⟨W2, hW2⟩ : ∃ W2, (W.alloc (.cells #[.int .i64 t, .int .i64 r, .bool false] 32)).alloc (.cells #[.int .i64 0, .int .i64 0, .bool false] 32) = W2 := ⟨_, rfl⟩
    have R2 : RefAt W2 (W.heap.size + 1) 0 0 false := by
      have h1 := heap_alloc_new (W.alloc (.cells #[.int .i64 t, .int .i64 r, .bool false] 32)) (.cells #[.int .i64 0, .int .i64 0, .bool false] 32)
      rw [hW2, World.size_alloc] at h1
      exact h1
    have A2 : RefAt W2 W.heap.size t r false := by
      have h1 := heap_alloc_new W (.cells #[.int .i64 t, .int .i64 r, .bool false] 32)
      have h2 : RefAt (W.alloc (.cells #[.int .i64 t, .int .i64 r, .bool false] 32)) W.heap.size t r false := h1
      exact hW2 ▸ h2.below ((Below.refl _ _).alloc (Nat.le_refl _) _)
    have B2 : Below W.heap.size W W2 := hW2 ▸ (((Below.refl _ _).alloc (Nat.le_refl _) _).alloc (by simp) _)
    rw [hW2]
    clear hW2
    refine (right_calls t r false true HO.out W2).mono ?_
    rintro e w3 ⟨rfl, b3⟩
    have A3 := Aside0.mk (A2.below b3)
    have R3 := Aside0.mk (R2.below b3)
    have B3 := Aside0.mk (show Below W.heap.size W w3 from B2.trans (b3.mono B2.size))
    clear b3 A2 R2 B2
    obtain ⟨x0, x1, x2, f0, f1, f2⟩ := A3.out.cells
    obtain ⟨y0, y1, y2, g0, g1, g2⟩ := R3.out.cells
    go_wp2_with fail
    have R4 := R3.out
    have B4 := B3.out
    replace R4 := R4.other ⟨W.heap.size, 1, none⟩ (by simp) (.int .i64 119)
    replace B4 := B4.setCell (p := ⟨W.heap.size, 1, none⟩) (Nat.le_refl _) (.int .i64 119)
    have R5 := R4.put (t) (119) false
    have B5 := Below.put B4 (W.heap.size + 1) (by omega) (.int .i64 (t)) (.int .i64 (119)) (.bool false)
    obtain ⟨z0, z1, z2, -, -, -⟩ := R5.cells
    refine bodyPost_ret (v := cv (t) (119) false) ?_ rfl ⟨congrArg Ending.returned HV.out.symm, B5⟩
    simp [results, Try.f14, go_sem, z0, z1, z2, cv]
  · by_cases d : 0 < r
    · have HV := Aside0.mk (show cv t' r' o' = cv (t) (r - 1) false by
        have h' : behind ⟨t, r, false⟩ 1 g = ⟨t, r - 1, false⟩ := by simp [behind, recvC, hrun, show ¬ 127 < r by omega, d]
        obtain ⟨a1, a2, a3⟩ := Ct.mk.inj (h'.symm.trans h)
        rw [← a1, ← a2, ← a3])
      clear h
      have HO := Aside0.mk hok
      clear hok hrun
      unfold cv
      go_enter Try.func14, Try.ntmps14
      go_wp2_with fail
      obtain ⟨W2, hW2⟩ : ∃ W2, (W.alloc (.cells #[.int .i64 t, .int .i64 r, .bool false] 32)).alloc (.cells #[.int .i64 0, .int .i64 0, .bool false] 32) = W2 := ⟨_, rfl⟩
      have R2 : RefAt W2 (W.heap.size + 1) 0 0 false := by
        have h1 := heap_alloc_new (W.alloc (.cells #[.int .i64 t, .int .i64 r, .bool false] 32)) (.cells #[.int .i64 0, .int .i64 0, .bool false] 32)
        rw [hW2, World.size_alloc] at h1
        exact h1
      have A2 : RefAt W2 W.heap.size t r false := by
        have h1 := heap_alloc_new W (.cells #[.int .i64 t, .int .i64 r, .bool false] 32)
        have h2 : RefAt (W.alloc (.cells #[.int .i64 t, .int .i64 r, .bool false] 32)) W.heap.size t r false := h1
        exact hW2 ▸ h2.below ((Below.refl _ _).alloc (Nat.le_refl _) _)
      have B2 : Below W.heap.size W W2 := hW2 ▸ (((Below.refl _ _).alloc (Nat.le_refl _) _).alloc (by simp) _)
      rw [hW2]
      clear hW2
      refine (right_calls t r false true HO.out W2).mono ?_
      rintro e w3 ⟨rfl, b3⟩
      have A3 := Aside0.mk (A2.below b3)
      have R3 := Aside0.mk (R2.below b3)
      have B3 := Aside0.mk (show Below W.heap.size W w3 from B2.trans (b3.mono B2.size))
      clear b3 A2 R2 B2
      obtain ⟨x0, x1, x2, f0, f1, f2⟩ := A3.out.cells
      obtain ⟨y0, y1, y2, g0, g1, g2⟩ := R3.out.cells
      go_wp2_with fail
      have R4 := R3.out
      have B4 := B3.out
      replace R4 := R4.other ⟨W.heap.size, 1, none⟩ (by simp) (.int .i64 (r - 1))
      replace B4 := B4.setCell (p := ⟨W.heap.size, 1, none⟩) (Nat.le_refl _) (.int .i64 (r - 1))
      have R5 := R4.put (t) (r - 1) false
      have B5 := Below.put B4 (W.heap.size + 1) (by omega) (.int .i64 (t)) (.int .i64 (r - 1)) (.bool false)
      obtain ⟨z0, z1, z2, -, -, -⟩ := R5.cells
      refine bodyPost_ret (v := cv (t) (r - 1) false) ?_ rfl ⟨congrArg Ending.returned HV.out.symm, B5⟩
      simp [results, Try.f14, go_sem, z0, z1, z2, cv]
    · have HV := Aside0.mk (show cv t' r' o' = cv (t) (r) false by
        have h' : behind ⟨t, r, false⟩ 1 g = ⟨t, r, false⟩ := by simp [behind, recvC, show r = 0 by omega]
        obtain ⟨a1, a2, a3⟩ := Ct.mk.inj (h'.symm.trans h)
        rw [← a1, ← a2, ← a3])
      clear h
      have HO := Aside0.mk hok
      clear hok hrun
      unfold cv
      go_enter Try.func14, Try.ntmps14
      go_wp2_with fail
      obtain ⟨W2, hW2⟩ : ∃ W2, (W.alloc (.cells #[.int .i64 t, .int .i64 r, .bool false] 32)).alloc (.cells #[.int .i64 0, .int .i64 0, .bool false] 32) = W2 := ⟨_, rfl⟩
      have R2 : RefAt W2 (W.heap.size + 1) 0 0 false := by
        have h1 := heap_alloc_new (W.alloc (.cells #[.int .i64 t, .int .i64 r, .bool false] 32)) (.cells #[.int .i64 0, .int .i64 0, .bool false] 32)
        rw [hW2, World.size_alloc] at h1
        exact h1
      have A2 : RefAt W2 W.heap.size t r false := by
        have h1 := heap_alloc_new W (.cells #[.int .i64 t, .int .i64 r, .bool false] 32)
        have h2 : RefAt (W.alloc (.cells #[.int .i64 t, .int .i64 r, .bool false] 32)) W.heap.size t r false := h1
        exact hW2 ▸ h2.below ((Below.refl _ _).alloc (Nat.le_refl _) _)
      have B2 : Below W.heap.size W W2 := hW2 ▸ (((Below.refl _ _).alloc (Nat.le_refl _) _).alloc (by simp) _)
      rw [hW2]
      clear hW2
      refine (right_calls t r false true HO.out W2).mono ?_
      rintro e w3 ⟨rfl, b3⟩
      have A3 := Aside0.mk (A2.below b3)
      have R3 := Aside0.mk (R2.below b3)
      have B3 := Aside0.mk (show Below W.heap.size W w3 from B2.trans (b3.mono B2.size))
      clear b3 A2 R2 B2
      obtain ⟨x0, x1, x2, f0, f1, f2⟩ := A3.out.cells
      obtain ⟨y0, y1, y2, g0, g1, g2⟩ := R3.out.cells
      go_wp2_with fail
      have R4 := R3.out
      have B4 := B3.out
      have R5 := R4.put (t) (r) false
      have B5 := Below.put B4 (W.heap.size + 1) (by omega) (.int .i64 (t)) (.int .i64 (r)) (.bool false)
      obtain ⟨z0, z1, z2, -, -, -⟩ := R5.cells
      refine bodyPost_ret (v := cv (t) (r) false) ?_ rfl ⟨congrArg Ending.returned HV.out.symm, B5⟩
      simp [results, Try.f14, go_sem, z0, z1, z2, cv]
set_option maxHeartbeats 4000000 in
theorem come_2 (t r : Int) (g : Int) (t' r' : Int) (o' : Bool) (hok : ok t r false = true) (h : behind ⟨t, r, false⟩ 2 g = ⟨t', r', o'⟩) (W : World) :
    Calls Try.prog 14 #[cv t r false, .int .i64 2, .int .i64 g] W fun e W' => e = .returned (cv t' r' o') ∧ Below W.heap.size W W' := by
  have hrun : Ct.runs ⟨t, r, false⟩ = true := by simp [Ct.runs, hok]
  obtain ⟨r0, r1, t0, t1⟩ := ok_rng hok
  by_cases c : 256 ≤ t + 8
  · have HV := Aside0.mk (show cv t' r' o' = cv (256) (r) true by
      have h' : behind ⟨t, r, false⟩ 2 g = ⟨256, r, true⟩ := by simp [behind, txC, hrun, show 247 < t by omega]
      obtain ⟨a1, a2, a3⟩ := Ct.mk.inj (h'.symm.trans h)
      rw [← a1, ← a2, ← a3])
    clear h
    have HO := Aside0.mk hok
    clear hok hrun
    unfold cv
    go_enter Try.func14, Try.ntmps14
    go_wp2_with fail
    obtain ⟨W2, hW2⟩ : ∃ W2, (W.alloc (.cells #[.int .i64 t, .int .i64 r, .bool false] 32)).alloc (.cells #[.int .i64 0, .int .i64 0, .bool false] 32) = W2 := ⟨_, rfl⟩
    have R2 : RefAt W2 (W.heap.size + 1) 0 0 false := by
      have h1 := heap_alloc_new (W.alloc (.cells #[.int .i64 t, .int .i64 r, .bool false] 32)) (.cells #[.int .i64 0, .int .i64 0, .bool false] 32)
      rw [hW2, World.size_alloc] at h1
      exact h1
    have A2 : RefAt W2 W.heap.size t r false := by
      have h1 := heap_alloc_new W (.cells #[.int .i64 t, .int .i64 r, .bool false] 32)
      have h2 : RefAt (W.alloc (.cells #[.int .i64 t, .int .i64 r, .bool false] 32)) W.heap.size t r false := h1
      exact hW2 ▸ h2.below ((Below.refl _ _).alloc (Nat.le_refl _) _)
    have B2 : Below W.heap.size W W2 := hW2 ▸ (((Below.refl _ _).alloc (Nat.le_refl _) _).alloc (by simp) _)
    rw [hW2]
    clear hW2
    refine (right_calls t r false true HO.out W2).mono ?_
    rintro e w3 ⟨rfl, b3⟩
    have A3 := Aside0.mk (A2.below b3)
    have R3 := Aside0.mk (R2.below b3)
    have B3 := Aside0.mk (show Below W.heap.size W w3 from B2.trans (b3.mono B2.size))
    clear b3 A2 R2 B2
    obtain ⟨x0, x1, x2, f0, f1, f2⟩ := A3.out.cells
    obtain ⟨y0, y1, y2, g0, g1, g2⟩ := R3.out.cells
    go_wp2_with fail
    have R4 := R3.out
    have B4 := B3.out
    replace R4 := R4.other ⟨W.heap.size, 0, none⟩ (by simp) (.int .i64 (t + 8))
    replace B4 := B4.setCell (p := ⟨W.heap.size, 0, none⟩) (Nat.le_refl _) (.int .i64 (t + 8))
    replace R4 := R4.other ⟨W.heap.size, 0, none⟩ (by simp) (.int .i64 256)
    replace B4 := B4.setCell (p := ⟨W.heap.size, 0, none⟩) (Nat.le_refl _) (.int .i64 256)
    replace R4 := R4.other ⟨W.heap.size, 2, none⟩ (by simp) (.bool true)
    replace B4 := B4.setCell (p := ⟨W.heap.size, 2, none⟩) (Nat.le_refl _) (.bool true)
    have R5 := R4.put (256) (r) true
    have B5 := Below.put B4 (W.heap.size + 1) (by omega) (.int .i64 (256)) (.int .i64 (r)) (.bool true)
    obtain ⟨z0, z1, z2, -, -, -⟩ := R5.cells
    refine bodyPost_ret (v := cv (256) (r) true) ?_ rfl ⟨congrArg Ending.returned HV.out.symm, B5⟩
    simp [results, Try.f14, go_sem, z0, z1, z2, cv]
  · have HV := Aside0.mk (show cv t' r' o' = cv (t + 8) (r) false by
      have h' : behind ⟨t, r, false⟩ 2 g = ⟨t + 8, r, false⟩ := by simp [behind, txC, hrun, show ¬ 247 < t by omega]
      obtain ⟨a1, a2, a3⟩ := Ct.mk.inj (h'.symm.trans h)
      rw [← a1, ← a2, ← a3])
    clear h
    have HO := Aside0.mk hok
    clear hok hrun
    unfold cv
    go_enter Try.func14, Try.ntmps14
    go_wp2_with fail
    obtain ⟨W2, hW2⟩ : ∃ W2, (W.alloc (.cells #[.int .i64 t, .int .i64 r, .bool false] 32)).alloc (.cells #[.int .i64 0, .int .i64 0, .bool false] 32) = W2 := ⟨_, rfl⟩
    have R2 : RefAt W2 (W.heap.size + 1) 0 0 false := by
      have h1 := heap_alloc_new (W.alloc (.cells #[.int .i64 t, .int .i64 r, .bool false] 32)) (.cells #[.int .i64 0, .int .i64 0, .bool false] 32)
      rw [hW2, World.size_alloc] at h1
      exact h1
    have A2 : RefAt W2 W.heap.size t r false := by
      have h1 := heap_alloc_new W (.cells #[.int .i64 t, .int .i64 r, .bool false] 32)
      have h2 : RefAt (W.alloc (.cells #[.int .i64 t, .int .i64 r, .bool false] 32)) W.heap.size t r false := h1
      exact hW2 ▸ h2.below ((Below.refl _ _).alloc (Nat.le_refl _) _)
    have B2 : Below W.heap.size W W2 := hW2 ▸ (((Below.refl _ _).alloc (Nat.le_refl _) _).alloc (by simp) _)
    rw [hW2]
    clear hW2
    refine (right_calls t r false true HO.out W2).mono ?_
    rintro e w3 ⟨rfl, b3⟩
    have A3 := Aside0.mk (A2.below b3)
    have R3 := Aside0.mk (R2.below b3)
    have B3 := Aside0.mk (show Below W.heap.size W w3 from B2.trans (b3.mono B2.size))
    clear b3 A2 R2 B2
    obtain ⟨x0, x1, x2, f0, f1, f2⟩ := A3.out.cells
    obtain ⟨y0, y1, y2, g0, g1, g2⟩ := R3.out.cells
    go_wp2_with fail
    have R4 := R3.out
    have B4 := B3.out
    replace R4 := R4.other ⟨W.heap.size, 0, none⟩ (by simp) (.int .i64 (t + 8))
    replace B4 := B4.setCell (p := ⟨W.heap.size, 0, none⟩) (Nat.le_refl _) (.int .i64 (t + 8))
    have R5 := R4.put (t + 8) (r) false
    have B5 := Below.put B4 (W.heap.size + 1) (by omega) (.int .i64 (t + 8)) (.int .i64 (r)) (.bool false)
    obtain ⟨z0, z1, z2, -, -, -⟩ := R5.cells
    refine bodyPost_ret (v := cv (t + 8) (r) false) ?_ rfl ⟨congrArg Ending.returned HV.out.symm, B5⟩
    simp [results, Try.f14, go_sem, z0, z1, z2, cv]
set_option maxHeartbeats 4000000 in
theorem come_3 (t r : Int) (g : Int) (t' r' : Int) (o' : Bool) (hok : ok t r false = true) (h : behind ⟨t, r, false⟩ 3 g = ⟨t', r', o'⟩) (W : World) :
    Calls Try.prog 14 #[cv t r false, .int .i64 3, .int .i64 g] W fun e W' => e = .returned (cv t' r' o') ∧ Below W.heap.size W W' := by
  have hrun : Ct.runs ⟨t, r, false⟩ = true := by simp [Ct.runs, hok]
  obtain ⟨r0, r1, t0, t1⟩ := ok_rng hok
  by_cases g1 : g = 1
  · subst g1
    by_cases c : 255 < r + 1
    · have HV := Aside0.mk (show cv t' r' o' = cv (t) (255) false by
        have h' : behind ⟨t, r, false⟩ 3 1 = ⟨t, 255, false⟩ := by simp [behind, rxC, hrun, show ¬ r + 1 ≤ 255 by omega]
        obtain ⟨a1, a2, a3⟩ := Ct.mk.inj (h'.symm.trans h)
        rw [← a1, ← a2, ← a3])
      clear h
      have HO := Aside0.mk hok
      clear hok hrun
      unfold cv
      go_enter Try.func14, Try.ntmps14
      go_wp2_with fail
      obtain ⟨W2, hW2⟩ : ∃ W2, (W.alloc (.cells #[.int .i64 t, .int .i64 r, .bool false] 32)).alloc (.cells #[.int .i64 0, .int .i64 0, .bool false] 32) = W2 := ⟨_, rfl⟩
      have R2 : RefAt W2 (W.heap.size + 1) 0 0 false := by
        have h1 := heap_alloc_new (W.alloc (.cells #[.int .i64 t, .int .i64 r, .bool false] 32)) (.cells #[.int .i64 0, .int .i64 0, .bool false] 32)
        rw [hW2, World.size_alloc] at h1
        exact h1
      have A2 : RefAt W2 W.heap.size t r false := by
        have h1 := heap_alloc_new W (.cells #[.int .i64 t, .int .i64 r, .bool false] 32)
        have h2 : RefAt (W.alloc (.cells #[.int .i64 t, .int .i64 r, .bool false] 32)) W.heap.size t r false := h1
        exact hW2 ▸ h2.below ((Below.refl _ _).alloc (Nat.le_refl _) _)
      have B2 : Below W.heap.size W W2 := hW2 ▸ (((Below.refl _ _).alloc (Nat.le_refl _) _).alloc (by simp) _)
      rw [hW2]
      clear hW2
      refine (right_calls t r false true HO.out W2).mono ?_
      rintro e w3 ⟨rfl, b3⟩
      have A3 := Aside0.mk (A2.below b3)
      have R3 := Aside0.mk (R2.below b3)
      have B3 := Aside0.mk (show Below W.heap.size W w3 from B2.trans (b3.mono B2.size))
      clear b3 A2 R2 B2
      obtain ⟨x0, x1, x2, f0, f1, f2⟩ := A3.out.cells
      obtain ⟨y0, y1, y2, g0, g1, g2⟩ := R3.out.cells
      go_wp2_with fail
      have R4 := R3.out
      have B4 := B3.out
      replace R4 := R4.other ⟨W.heap.size, 1, none⟩ (by simp) (.int .i64 (r + 1))
      replace B4 := B4.setCell (p := ⟨W.heap.size, 1, none⟩) (Nat.le_refl _) (.int .i64 (r + 1))
      replace R4 := R4.other ⟨W.heap.size, 1, none⟩ (by simp) (.int .i64 255)
      replace B4 := B4.setCell (p := ⟨W.heap.size, 1, none⟩) (Nat.le_refl _) (.int .i64 255)
      have R5 := R4.put (t) (255) false
      have B5 := Below.put B4 (W.heap.size + 1) (by omega) (.int .i64 (t)) (.int .i64 (255)) (.bool false)
      obtain ⟨z0, z1, z2, -, -, -⟩ := R5.cells
      refine bodyPost_ret (v := cv (t) (255) false) ?_ rfl ⟨congrArg Ending.returned HV.out.symm, B5⟩
      simp [results, Try.f14, go_sem, z0, z1, z2, cv]
    · have HV := Aside0.mk (show cv t' r' o' = cv (t) (r + 1) false by
        have h' : behind ⟨t, r, false⟩ 3 1 = ⟨t, r + 1, false⟩ := by simp [behind, rxC, hrun, show r + 1 ≤ 255 by omega]
        obtain ⟨a1, a2, a3⟩ := Ct.mk.inj (h'.symm.trans h)
        rw [← a1, ← a2, ← a3])
      clear h
      have HO := Aside0.mk hok
      clear hok hrun
      unfold cv
      go_enter Try.func14, Try.ntmps14
      go_wp2_with fail
      obtain ⟨W2, hW2⟩ : ∃ W2, (W.alloc (.cells #[.int .i64 t, .int .i64 r, .bool false] 32)).alloc (.cells #[.int .i64 0, .int .i64 0, .bool false] 32) = W2 := ⟨_, rfl⟩
      have R2 : RefAt W2 (W.heap.size + 1) 0 0 false := by
        have h1 := heap_alloc_new (W.alloc (.cells #[.int .i64 t, .int .i64 r, .bool false] 32)) (.cells #[.int .i64 0, .int .i64 0, .bool false] 32)
        rw [hW2, World.size_alloc] at h1
        exact h1
      have A2 : RefAt W2 W.heap.size t r false := by
        have h1 := heap_alloc_new W (.cells #[.int .i64 t, .int .i64 r, .bool false] 32)
        have h2 : RefAt (W.alloc (.cells #[.int .i64 t, .int .i64 r, .bool false] 32)) W.heap.size t r false := h1
        exact hW2 ▸ h2.below ((Below.refl _ _).alloc (Nat.le_refl _) _)
      have B2 : Below W.heap.size W W2 := hW2 ▸ (((Below.refl _ _).alloc (Nat.le_refl _) _).alloc (by simp) _)
      rw [hW2]
      clear hW2
      refine (right_calls t r false true HO.out W2).mono ?_
      rintro e w3 ⟨rfl, b3⟩
      have A3 := Aside0.mk (A2.below b3)
      have R3 := Aside0.mk (R2.below b3)
      have B3 := Aside0.mk (show Below W.heap.size W w3 from B2.trans (b3.mono B2.size))
      clear b3 A2 R2 B2
      obtain ⟨x0, x1, x2, f0, f1, f2⟩ := A3.out.cells
      obtain ⟨y0, y1, y2, g0, g1, g2⟩ := R3.out.cells
      go_wp2_with fail
      have R4 := R3.out
      have B4 := B3.out
      replace R4 := R4.other ⟨W.heap.size, 1, none⟩ (by simp) (.int .i64 (r + 1))
      replace B4 := B4.setCell (p := ⟨W.heap.size, 1, none⟩) (Nat.le_refl _) (.int .i64 (r + 1))
      have R5 := R4.put (t) (r + 1) false
      have B5 := Below.put B4 (W.heap.size + 1) (by omega) (.int .i64 (t)) (.int .i64 (r + 1)) (.bool false)
      obtain ⟨z0, z1, z2, -, -, -⟩ := R5.cells
      refine bodyPost_ret (v := cv (t) (r + 1) false) ?_ rfl ⟨congrArg Ending.returned HV.out.symm, B5⟩
      simp [results, Try.f14, go_sem, z0, z1, z2, cv]
  by_cases g8 : g = 8
  · subst g8
    by_cases c : 255 < r + 8
    · have HV := Aside0.mk (show cv t' r' o' = cv (t) (255) false by
        have h' : behind ⟨t, r, false⟩ 3 8 = ⟨t, 255, false⟩ := by simp [behind, rxC, hrun, show ¬ r + 8 ≤ 255 by omega]
        obtain ⟨a1, a2, a3⟩ := Ct.mk.inj (h'.symm.trans h)
        rw [← a1, ← a2, ← a3])
      clear h
      have HO := Aside0.mk hok
      clear hok hrun
      unfold cv
      go_enter Try.func14, Try.ntmps14
      go_wp2_with fail
      obtain ⟨W2, hW2⟩ : ∃ W2, (W.alloc (.cells #[.int .i64 t, .int .i64 r, .bool false] 32)).alloc (.cells #[.int .i64 0, .int .i64 0, .bool false] 32) = W2 := ⟨_, rfl⟩
      have R2 : RefAt W2 (W.heap.size + 1) 0 0 false := by
        have h1 := heap_alloc_new (W.alloc (.cells #[.int .i64 t, .int .i64 r, .bool false] 32)) (.cells #[.int .i64 0, .int .i64 0, .bool false] 32)
        rw [hW2, World.size_alloc] at h1
        exact h1
      have A2 : RefAt W2 W.heap.size t r false := by
        have h1 := heap_alloc_new W (.cells #[.int .i64 t, .int .i64 r, .bool false] 32)
        have h2 : RefAt (W.alloc (.cells #[.int .i64 t, .int .i64 r, .bool false] 32)) W.heap.size t r false := h1
        exact hW2 ▸ h2.below ((Below.refl _ _).alloc (Nat.le_refl _) _)
      have B2 : Below W.heap.size W W2 := hW2 ▸ (((Below.refl _ _).alloc (Nat.le_refl _) _).alloc (by simp) _)
      rw [hW2]
      clear hW2
      refine (right_calls t r false true HO.out W2).mono ?_
      rintro e w3 ⟨rfl, b3⟩
      have A3 := Aside0.mk (A2.below b3)
      have R3 := Aside0.mk (R2.below b3)
      have B3 := Aside0.mk (show Below W.heap.size W w3 from B2.trans (b3.mono B2.size))
      clear b3 A2 R2 B2
      obtain ⟨x0, x1, x2, f0, f1, f2⟩ := A3.out.cells
      obtain ⟨y0, y1, y2, g0, g1, g2⟩ := R3.out.cells
      go_wp2_with fail
      have R4 := R3.out
      have B4 := B3.out
      replace R4 := R4.other ⟨W.heap.size, 1, none⟩ (by simp) (.int .i64 (r + 8))
      replace B4 := B4.setCell (p := ⟨W.heap.size, 1, none⟩) (Nat.le_refl _) (.int .i64 (r + 8))
      replace R4 := R4.other ⟨W.heap.size, 1, none⟩ (by simp) (.int .i64 255)
      replace B4 := B4.setCell (p := ⟨W.heap.size, 1, none⟩) (Nat.le_refl _) (.int .i64 255)
      have R5 := R4.put (t) (255) false
      have B5 := Below.put B4 (W.heap.size + 1) (by omega) (.int .i64 (t)) (.int .i64 (255)) (.bool false)
      obtain ⟨z0, z1, z2, -, -, -⟩ := R5.cells
      refine bodyPost_ret (v := cv (t) (255) false) ?_ rfl ⟨congrArg Ending.returned HV.out.symm, B5⟩
      simp [results, Try.f14, go_sem, z0, z1, z2, cv]
    · have HV := Aside0.mk (show cv t' r' o' = cv (t) (r + 8) false by
        have h' : behind ⟨t, r, false⟩ 3 8 = ⟨t, r + 8, false⟩ := by simp [behind, rxC, hrun, show r + 8 ≤ 255 by omega]
        obtain ⟨a1, a2, a3⟩ := Ct.mk.inj (h'.symm.trans h)
        rw [← a1, ← a2, ← a3])
      clear h
      have HO := Aside0.mk hok
      clear hok hrun
      unfold cv
      go_enter Try.func14, Try.ntmps14
      go_wp2_with fail
      obtain ⟨W2, hW2⟩ : ∃ W2, (W.alloc (.cells #[.int .i64 t, .int .i64 r, .bool false] 32)).alloc (.cells #[.int .i64 0, .int .i64 0, .bool false] 32) = W2 := ⟨_, rfl⟩
      have R2 : RefAt W2 (W.heap.size + 1) 0 0 false := by
        have h1 := heap_alloc_new (W.alloc (.cells #[.int .i64 t, .int .i64 r, .bool false] 32)) (.cells #[.int .i64 0, .int .i64 0, .bool false] 32)
        rw [hW2, World.size_alloc] at h1
        exact h1
      have A2 : RefAt W2 W.heap.size t r false := by
        have h1 := heap_alloc_new W (.cells #[.int .i64 t, .int .i64 r, .bool false] 32)
        have h2 : RefAt (W.alloc (.cells #[.int .i64 t, .int .i64 r, .bool false] 32)) W.heap.size t r false := h1
        exact hW2 ▸ h2.below ((Below.refl _ _).alloc (Nat.le_refl _) _)
      have B2 : Below W.heap.size W W2 := hW2 ▸ (((Below.refl _ _).alloc (Nat.le_refl _) _).alloc (by simp) _)
      rw [hW2]
      clear hW2
      refine (right_calls t r false true HO.out W2).mono ?_
      rintro e w3 ⟨rfl, b3⟩
      have A3 := Aside0.mk (A2.below b3)
      have R3 := Aside0.mk (R2.below b3)
      have B3 := Aside0.mk (show Below W.heap.size W w3 from B2.trans (b3.mono B2.size))
      clear b3 A2 R2 B2
      obtain ⟨x0, x1, x2, f0, f1, f2⟩ := A3.out.cells
      obtain ⟨y0, y1, y2, g0, g1, g2⟩ := R3.out.cells
      go_wp2_with fail
      have R4 := R3.out
      have B4 := B3.out
      replace R4 := R4.other ⟨W.heap.size, 1, none⟩ (by simp) (.int .i64 (r + 8))
      replace B4 := B4.setCell (p := ⟨W.heap.size, 1, none⟩) (Nat.le_refl _) (.int .i64 (r + 8))
      have R5 := R4.put (t) (r + 8) false
      have B5 := Below.put B4 (W.heap.size + 1) (by omega) (.int .i64 (t)) (.int .i64 (r + 8)) (.bool false)
      obtain ⟨z0, z1, z2, -, -, -⟩ := R5.cells
      refine bodyPost_ret (v := cv (t) (r + 8) false) ?_ rfl ⟨congrArg Ending.returned HV.out.symm, B5⟩
      simp [results, Try.f14, go_sem, z0, z1, z2, cv]
  have HV := Aside0.mk (show cv t' r' o' = cv (t) (r) false by
    have h' : behind ⟨t, r, false⟩ 3 g = ⟨t, r, false⟩ := by simp [behind, rxC, hrun, g1, g8]
    obtain ⟨a1, a2, a3⟩ := Ct.mk.inj (h'.symm.trans h)
    rw [← a1, ← a2, ← a3])
  clear h
  have HO := Aside0.mk hok
  clear hok hrun
  unfold cv
  have e1 : (g == 1) = false := by simpa using g1
  have e8 : (g == 8) = false := by simpa using g8
  clear g1 g8
  go_enter Try.func14, Try.ntmps14
  go_wp2_with fail
  obtain ⟨W2, hW2⟩ : ∃ W2, (W.alloc (.cells #[.int .i64 t, .int .i64 r, .bool false] 32)).alloc (.cells #[.int .i64 0, .int .i64 0, .bool false] 32) = W2 := ⟨_, rfl⟩
  have R2 : RefAt W2 (W.heap.size + 1) 0 0 false := by
    have h1 := heap_alloc_new (W.alloc (.cells #[.int .i64 t, .int .i64 r, .bool false] 32)) (.cells #[.int .i64 0, .int .i64 0, .bool false] 32)
    rw [hW2, World.size_alloc] at h1
    exact h1
  have A2 : RefAt W2 W.heap.size t r false := by
    have h1 := heap_alloc_new W (.cells #[.int .i64 t, .int .i64 r, .bool false] 32)
    have h2 : RefAt (W.alloc (.cells #[.int .i64 t, .int .i64 r, .bool false] 32)) W.heap.size t r false := h1
    exact hW2 ▸ h2.below ((Below.refl _ _).alloc (Nat.le_refl _) _)
  have B2 : Below W.heap.size W W2 := hW2 ▸ (((Below.refl _ _).alloc (Nat.le_refl _) _).alloc (by simp) _)
  rw [hW2]
  clear hW2
  refine (right_calls t r false true HO.out W2).mono ?_
  rintro e w3 ⟨rfl, b3⟩
  have A3 := Aside0.mk (A2.below b3)
  have R3 := Aside0.mk (R2.below b3)
  have B3 := Aside0.mk (show Below W.heap.size W w3 from B2.trans (b3.mono B2.size))
  clear b3 A2 R2 B2
  obtain ⟨x0, x1, x2, f0, f1, f2⟩ := A3.out.cells
  obtain ⟨y0, y1, y2, g0, g1, g2⟩ := R3.out.cells
  go_wp2_with fail
  have R4 := R3.out
  have B4 := B3.out
  have R5 := R4.put (t) (r) false
  have B5 := Below.put B4 (W.heap.size + 1) (by omega) (.int .i64 (t)) (.int .i64 (r)) (.bool false)
  obtain ⟨z0, z1, z2, -, -, -⟩ := R5.cells
  refine bodyPost_ret (v := cv (t) (r) false) ?_ rfl ⟨congrArg Ending.returned HV.out.symm, B5⟩
  simp [results, Try.f14, go_sem, z0, z1, z2, cv]
set_option maxHeartbeats 4000000 in
theorem come_5 (t r : Int) (x : Int) (g : Int) (t' r' : Int) (o' : Bool) (hok : ok t r false = true) (h0 : x ≠ 0) (h1 : x ≠ 1) (h2 : x ≠ 2) (h3 : x ≠ 3) (h4 : x ≠ 4) (h : behind ⟨t, r, false⟩ x g = ⟨t', r', o'⟩) (W : World) :
    Calls Try.prog 14 #[cv t r false, .int .i64 x, .int .i64 g] W fun e W' => e = .returned (cv t' r' o') ∧ Below W.heap.size W W' := by
  have hrun : Ct.runs ⟨t, r, false⟩ = true := by simp [Ct.runs, hok]
  obtain ⟨r0, r1, t0, t1⟩ := ok_rng hok
  have HV := Aside0.mk (show cv t' r' o' = cv (t) (r) false by
    have h' : behind ⟨t, r, false⟩ x g = ⟨t, r, false⟩ := by simp [behind, h0, h1, h2, h3, h4]
    obtain ⟨a1, a2, a3⟩ := Ct.mk.inj (h'.symm.trans h)
    rw [← a1, ← a2, ← a3])
  clear h
  have HO := Aside0.mk hok
  clear hok hrun
  unfold cv
  have e0 : (x == 0) = false := by simpa using h0
  have e1 : (x == 1) = false := by simpa using h1
  have e2 : (x == 2) = false := by simpa using h2
  have e3 : (x == 3) = false := by simpa using h3
  have e4 : (x == 4) = false := by simpa using h4
  clear h0 h1 h2 h3 h4
  go_enter Try.func14, Try.ntmps14
  go_wp2_with fail
  obtain ⟨W2, hW2⟩ : ∃ W2, (W.alloc (.cells #[.int .i64 t, .int .i64 r, .bool false] 32)).alloc (.cells #[.int .i64 0, .int .i64 0, .bool false] 32) = W2 := ⟨_, rfl⟩
  have R2 : RefAt W2 (W.heap.size + 1) 0 0 false := by
    have h1 := heap_alloc_new (W.alloc (.cells #[.int .i64 t, .int .i64 r, .bool false] 32)) (.cells #[.int .i64 0, .int .i64 0, .bool false] 32)
    rw [hW2, World.size_alloc] at h1
    exact h1
  have A2 : RefAt W2 W.heap.size t r false := by
    have h1 := heap_alloc_new W (.cells #[.int .i64 t, .int .i64 r, .bool false] 32)
    have h2 : RefAt (W.alloc (.cells #[.int .i64 t, .int .i64 r, .bool false] 32)) W.heap.size t r false := h1
    exact hW2 ▸ h2.below ((Below.refl _ _).alloc (Nat.le_refl _) _)
  have B2 : Below W.heap.size W W2 := hW2 ▸ (((Below.refl _ _).alloc (Nat.le_refl _) _).alloc (by simp) _)
  rw [hW2]
  clear hW2
  refine (right_calls t r false true HO.out W2).mono ?_
  rintro e w3 ⟨rfl, b3⟩
  have A3 := Aside0.mk (A2.below b3)
  have R3 := Aside0.mk (R2.below b3)
  have B3 := Aside0.mk (show Below W.heap.size W w3 from B2.trans (b3.mono B2.size))
  clear b3 A2 R2 B2
  obtain ⟨x0, x1, x2, f0, f1, f2⟩ := A3.out.cells
  obtain ⟨y0, y1, y2, g0, g1, g2⟩ := R3.out.cells
  go_wp2_with fail
  have R4 := R3.out
  have B4 := B3.out
  have R5 := R4.put (t) (r) false
  have B5 := Below.put B4 (W.heap.size + 1) (by omega) (.int .i64 (t)) (.int .i64 (r)) (.bool false)
  obtain ⟨z0, z1, z2, -, -, -⟩ := R5.cells
  refine bodyPost_ret (v := cv (t) (r) false) ?_ rfl ⟨congrArg Ending.returned HV.out.symm, B5⟩
  simp [results, Try.f14, go_sem, z0, z1, z2, cv]
set_option maxHeartbeats 4000000 in
theorem come_idle (t r : Int) (o : Bool) (x : Int) (g : Int) (t' r' : Int) (o' : Bool) (hr : ¬ Ct.runs ⟨t, r, o⟩ = true) (h4 : x ≠ 4) (h : behind ⟨t, r, o⟩ x g = ⟨t', r', o'⟩) (W : World) :
    Calls Try.prog 14 #[cv t r o, .int .i64 x, .int .i64 g] W fun e W' => e = .returned (cv t' r' o') ∧ Below W.heap.size W W' := by
  have hn : Ct.runs ⟨t, r, o⟩ = false := by simpa using hr
  have hb : behind ⟨t, r, o⟩ x g = ⟨t, r, o⟩ := by
    unfold behind sentC recvC txC rxC
    rw [if_neg h4]
    simp [hn]
  have HV := Aside0.mk (show cv t' r' o' = cv t r o by
    obtain ⟨a1, a2, a3⟩ := Ct.mk.inj (hb.symm.trans h)
    rw [← a1, ← a2, ← a3])
  clear h hb
  have e4 : (x == 4) = false := by simpa using h4
  clear h4
  by_cases hok : ok t r o = true
  · obtain rfl : o = true := by
      unfold Ct.runs at hn
      revert hn
      simp only [hok]
      cases o <;> simp
    have HO := Aside0.mk hok
    clear hok hn hr
    unfold cv
    go_enter Try.func14, Try.ntmps14
    go_wp2_with fail
    obtain ⟨W2, hW2⟩ : ∃ W2, (W.alloc (.cells #[.int .i64 t, .int .i64 r, .bool true] 32)).alloc (.cells #[.int .i64 0, .int .i64 0, .bool false] 32) = W2 := ⟨_, rfl⟩
    have R2 : RefAt W2 (W.heap.size + 1) 0 0 false := by
      have h1 := heap_alloc_new (W.alloc (.cells #[.int .i64 t, .int .i64 r, .bool true] 32)) (.cells #[.int .i64 0, .int .i64 0, .bool false] 32)
      rw [hW2, World.size_alloc] at h1
      exact h1
    have A2 : RefAt W2 W.heap.size t r true := by
      have h1 := heap_alloc_new W (.cells #[.int .i64 t, .int .i64 r, .bool true] 32)
      have h2 : RefAt (W.alloc (.cells #[.int .i64 t, .int .i64 r, .bool true] 32)) W.heap.size t r true := h1
      exact hW2 ▸ h2.below ((Below.refl _ _).alloc (Nat.le_refl _) _)
    have B2 : Below W.heap.size W W2 := hW2 ▸ (((Below.refl _ _).alloc (Nat.le_refl _) _).alloc (by simp) _)
    rw [hW2]
    clear hW2
    refine (right_calls t r true true HO.out W2).mono ?_
    rintro e w3 ⟨rfl, b3⟩
    have A3 := Aside0.mk (A2.below b3)
    have R3 := Aside0.mk (R2.below b3)
    have B3 := Aside0.mk (show Below W.heap.size W w3 from B2.trans (b3.mono B2.size))
    clear b3 A2 R2 B2
    obtain ⟨x0, x1, x2, f0, f1, f2⟩ := A3.out.cells
    obtain ⟨y0, y1, y2, g0, g1, g2⟩ := R3.out.cells
    go_wp2_with fail
    have R4 := R3.out
    have B4 := B3.out
    have R5 := R4.put (t) (r) true
    have B5 := Below.put B4 (W.heap.size + 1) (by omega) (.int .i64 (t)) (.int .i64 (r)) (.bool true)
    obtain ⟨z0, z1, z2, -, -, -⟩ := R5.cells
    refine bodyPost_ret (v := cv (t) (r) true) ?_ rfl ⟨congrArg Ending.returned HV.out.symm, B5⟩
    simp [results, Try.f14, go_sem, z0, z1, z2, cv]
  · have HO := Aside0.mk (show ok t r o = false by simpa using hok)
    clear hok hn hr
    unfold cv
    go_enter Try.func14, Try.ntmps14
    go_wp2_with fail
    obtain ⟨W2, hW2⟩ : ∃ W2, (W.alloc (.cells #[.int .i64 t, .int .i64 r, .bool o] 32)).alloc (.cells #[.int .i64 0, .int .i64 0, .bool false] 32) = W2 := ⟨_, rfl⟩
    have R2 : RefAt W2 (W.heap.size + 1) 0 0 false := by
      have h1 := heap_alloc_new (W.alloc (.cells #[.int .i64 t, .int .i64 r, .bool o] 32)) (.cells #[.int .i64 0, .int .i64 0, .bool false] 32)
      rw [hW2, World.size_alloc] at h1
      exact h1
    have A2 : RefAt W2 W.heap.size t r o := by
      have h1 := heap_alloc_new W (.cells #[.int .i64 t, .int .i64 r, .bool o] 32)
      have h2 : RefAt (W.alloc (.cells #[.int .i64 t, .int .i64 r, .bool o] 32)) W.heap.size t r o := h1
      exact hW2 ▸ h2.below ((Below.refl _ _).alloc (Nat.le_refl _) _)
    have B2 : Below W.heap.size W W2 := hW2 ▸ (((Below.refl _ _).alloc (Nat.le_refl _) _).alloc (by simp) _)
    rw [hW2]
    clear hW2
    refine (right_calls t r o false HO.out W2).mono ?_
    rintro e w3 ⟨rfl, b3⟩
    have A3 := Aside0.mk (A2.below b3)
    have R3 := Aside0.mk (R2.below b3)
    have B3 := Aside0.mk (show Below W.heap.size W w3 from B2.trans (b3.mono B2.size))
    clear b3 A2 R2 B2
    obtain ⟨x0, x1, x2, f0, f1, f2⟩ := A3.out.cells
    obtain ⟨y0, y1, y2, g0, g1, g2⟩ := R3.out.cells
    go_wp2_with fail
    have R4 := R3.out
    have B4 := B3.out
    have R5 := R4.put (t) (r) o
    have B5 := Below.put B4 (W.heap.size + 1) (by omega) (.int .i64 (t)) (.int .i64 (r)) (.bool o)
    obtain ⟨z0, z1, z2, -, -, -⟩ := R5.cells
    refine bodyPost_ret (v := cv (t) (r) o) ?_ rfl ⟨congrArg Ending.returned HV.out.symm, B5⟩
    simp [results, Try.f14, go_sem, z0, z1, z2, cv]
set_option maxHeartbeats 2000000 in
theorem come_4 (t r : Int) (o : Bool) (g : Int) (W : World) :
    Calls Try.prog 14 #[cv t r o, .int .i64 4, .int .i64 g] W fun e W' => e = .returned (cv 0 0 false) ∧ Below W.heap.size W W' := by
  unfold cv
  go_enter Try.func14, Try.ntmps14
  go_wp2
  refine bodyPost_ret (v := cv 0 0 false) ?_ rfl ⟨rfl, ((Below.refl _ _).alloc (Nat.le_refl _) _).alloc (by simp) _⟩
  simp [results, Try.f14, go_sem, cv]
theorem Come_uni (t r : Int) (o : Bool) (x g : Int) (t' r' : Int) (o' : Bool) (h : behind ⟨t, r, o⟩ x g = ⟨t', r', o'⟩) (W : World) :
    Calls Try.prog 14 #[cv t r o, .int .i64 x, .int .i64 g] W fun e W' => e = .returned (cv t' r' o') ∧ Below W.heap.size W W' := by
  by_cases h4 : x = 4
  · subst h4
    obtain ⟨k1, k2, k3⟩ : _ ∧ _ ∧ _ := Ct.mk.inj h
    subst k1 k2 k3
    exact come_4 t r o g W
  by_cases hr : Ct.runs ⟨t, r, o⟩ = true
  · obtain ⟨hok, rfl⟩ := runs_split hr
    by_cases h0 : x = 0
    · subst h0; exact come_0 t r g t' r' o' hok h W
    by_cases h1 : x = 1
    · subst h1; exact come_1 t r g t' r' o' hok h W
    by_cases h2 : x = 2
    · subst h2; exact come_2 t r g t' r' o' hok h W
    by_cases h3 : x = 3
    · subst h3; exact come_3 t r g t' r' o' hok h W
    exact come_5 t r x g t' r' o' hok h0 h1 h2 h3 h4 h W
  · exact come_idle t r o x g t' r' o' hr h4 h W
end Go.Proofs.Ytalonmhoamjcnaa
