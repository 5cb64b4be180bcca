/-
  Counts: what each turn makes of counts, as a plain function; one, Behind.
-/
import Derived.Test.YtalonmhoamjcnaaA8
namespace Go.Proofs.Ytalonmhoamjcnaa
open Go.RowKit Go.Proofs.YtalonmhoamjcnaaW.PrintWords

/-- Counts. -/
structure Ct where
  t : Int
  r : Int
  o : Bool
/-- Do they run? -/
def Ct.runs (c : Ct) : Bool := ok c.t c.r c.o && !c.o
def sentC (c : Ct) : Ct := if c.runs = true then ⟨if 0 < c.t then c.t - 1 else 0, c.r, c.o⟩ else c
def recvC (c : Ct) : Ct := if c.runs = true then ⟨c.t, if 127 < c.r then 119 else if 0 < c.r then c.r - 1 else 0, c.o⟩ else c
def txC (c : Ct) : Ct := if c.runs = true then ⟨if 247 < c.t then 256 else c.t + 8, c.r, decide (247 < c.t)⟩ else c
def rxC (c : Ct) (g : Int) : Ct := if c.runs = true ∧ (g = 1 ∨ g = 8) then ⟨c.t, if c.r + g ≤ 255 then c.r + g else 255, c.o⟩ else c
/-- Counts behind what comes. -/
def behind (c : Ct) (x g : Int) : Ct := if x = 0 then sentC c else if x = 1 then recvC c else if x = 2 then txC c else if x = 3 then rxC c g else if x = 4 then ⟨0, 0, false⟩ else c
theorem runs_split {t r : Int} {o : Bool} (h : Ct.runs ⟨t, r, o⟩ = true) : ok t r o = true ∧ o = false := by
  unfold Ct.runs at h
  revert h
  simp only []
  cases ok t r o <;> cases o <;> simp
theorem runs_not {t r : Int} {o : Bool} (h : ¬ Ct.runs ⟨t, r, o⟩ = true) : (ok t r o && !o) = false := by
  unfold Ct.runs at h
  revert h
  simp only []
  cases ok t r o <;> cases o <;> simp
theorem put3 {n : Nat} {W W' : World} (h : Below n W W') (B : Nat) (hB : n ≤ B) (x y z : Value) : Below n W (((W'.setCell ⟨B, 0, none⟩ x).setCell ⟨B, 1, none⟩ y).setCell ⟨B, 2, none⟩ z) :=
  Below.put h B hB x y z

theorem Sent_uni (t r : Int) (o : Bool) (t' r' : Int) (o' : Bool) (h : sentC ⟨t, r, o⟩ = ⟨t', r', o'⟩) (W : World) :
    Calls Try.prog 11 #[cv t r o] W fun e W' => e = .returned (cv t' r' o') ∧ Below W.heap.size W W' := by
  unfold sentC at h
  split at h
  · rename_i hr
    obtain ⟨h1, h2, h3⟩ : _ ∧ _ ∧ _ := Ct.mk.inj h
    simp only [] at h1 h2 h3
    obtain ⟨k1, k2⟩ := runs_split hr
    subst h2 h3
    exact Sent_calls t r o k1 k2 t' h1 W
  · rename_i hr
    obtain ⟨h1, h2, h3⟩ : _ ∧ _ ∧ _ := Ct.mk.inj h
    subst h1 h2 h3
    exact Sent_idle t r o (runs_not hr) W
theorem Received_uni (t r : Int) (o : Bool) (t' r' : Int) (o' : Bool) (h : recvC ⟨t, r, o⟩ = ⟨t', r', o'⟩) (W : World) :
    Calls Try.prog 13 #[cv t r o] W fun e W' => e = .returned (cv t' r' o') ∧ Below W.heap.size W W' := by
  unfold recvC at h
  split at h
  · rename_i hr
    obtain ⟨h1, h2, h3⟩ : _ ∧ _ ∧ _ := Ct.mk.inj h
    simp only [] at h1 h2 h3
    obtain ⟨k1, k2⟩ := runs_split hr
    subst h1 h3
    exact Received_calls t r o k1 k2 r' h2 W
  · rename_i hr
    obtain ⟨h1, h2, h3⟩ : _ ∧ _ ∧ _ := Ct.mk.inj h
    subst h1 h2 h3
    exact Received_idle t r o (runs_not hr) W
theorem Tx_uni (t r : Int) (o : Bool) (t' r' : Int) (o' : Bool) (h : txC ⟨t, r, o⟩ = ⟨t', r', o'⟩) (W : World) :
    Calls Try.prog 18 #[cv t r o] W fun e W' => e = .returned (cv t' r' o') ∧ Below W.heap.size W W' := by
  unfold txC at h
  split at h
  · rename_i hr
    obtain ⟨h1, h2, h3⟩ : _ ∧ _ ∧ _ := Ct.mk.inj h
    simp only [] at h1 h2 h3
    obtain ⟨k1, k2⟩ := runs_split hr
    subst h2
    exact Tx_calls t r o k1 k2 t' o' h1 h3 W
  · rename_i hr
    obtain ⟨h1, h2, h3⟩ : _ ∧ _ ∧ _ := Ct.mk.inj h
    subst h1 h2 h3
    exact Tx_idle t r o (runs_not hr) W
theorem Rx_uni (t r : Int) (o : Bool) (g : Int) (t' r' : Int) (o' : Bool) (h : rxC ⟨t, r, o⟩ g = ⟨t', r', o'⟩) (W : World) :
    Calls Try.prog 19 #[cv t r o, .int .i64 g] W fun e W' => e = .returned (cv t' r' o') ∧ Below W.heap.size W W' := by
  unfold rxC at h
  split at h
  · rename_i hr
    obtain ⟨h1, h2, h3⟩ : _ ∧ _ ∧ _ := Ct.mk.inj h
    simp only [] at h1 h2 h3
    obtain ⟨k1, k2⟩ := runs_split hr.1
    subst h1 h3
    exact Rx_calls t r o g hr.2 k1 k2 r' h2 W
  · rename_i hr
    obtain ⟨h1, h2, h3⟩ : _ ∧ _ ∧ _ := Ct.mk.inj h
    subst h1 h2 h3
    by_cases hg : g = 1 ∨ g = 8
    · exact Rx_idle t r o g hg (runs_not fun hk => hr ⟨hk, hg⟩) W
    · exact Rx_other t r o g (fun e => hg (.inl e)) (fun e => hg (.inr e)) W
theorem Back_uni (t r : Int) (o : Bool) (t' r' : Int) (o' : Bool) (h : (⟨0, 0, false⟩ : Ct) = ⟨t', r', o'⟩) (W : World) :
    Calls Try.prog 20 #[cv t r o] W fun e W' => e = .returned (cv t' r' o') ∧ Below W.heap.size W W' := by
  obtain ⟨h1, h2, h3⟩ : _ ∧ _ ∧ _ := Ct.mk.inj h
  subst h1 h2 h3
  exact back_calls t r o W

set_option maxHeartbeats 2000000 in
theorem one_uni (t r : Int) (o b : Bool) (t' r' : Int) (o' : Bool) (h : (if b = true then txC ⟨t, r, o⟩ else sentC ⟨t, r, o⟩) = ⟨t', r', o'⟩) (W : World) :
    Calls Try.prog 21 #[cv t r o, .bool b] W fun e W' => e = .returned (cv t' r' o') ∧ Below W.heap.size W W' := by
  have H := Aside0.mk h
  clear h
  unfold cv
  cases b
  · go_enter Try.func21, Try.ntmps21
    go_wp2_with fail
    obtain ⟨W3, hW3⟩ : ∃ W3, (W.alloc (.cells #[.int .i64 t, .int .i64 r, .bool o] 23)).alloc (.cells #[.int .i64 0, .int .i64 0, .bool false] 23) = W3 := ⟨_, rfl⟩
    have C3 : CountAt W3 (W.heap.size + 1) 0 0 false := by
      have h1 := heap_alloc_new (W.alloc (.cells #[.int .i64 t, .int .i64 r, .bool o] 23)) (.cells #[.int .i64 0, .int .i64 0, .bool false] 23)
      rw [hW3, World.size_alloc] at h1
      exact h1
    have B3 : Below W.heap.size W W3 := hW3 ▸ (((Below.refl _ _).alloc (Nat.le_refl _) _).alloc (by simp) _)
    rw [hW3]
    clear hW3
    refine (Sent_uni t r o t' r' o' H.out W3).mono ?_
    rintro e w4 ⟨rfl, b4⟩
    have C4 := Aside0.mk (show CountAt w4 (W.heap.size + 1) 0 0 false from (b4.block _ C3.lt).trans C3)
    have B4 := Aside0.mk (show Below W.heap.size W w4 from B3.trans (b4.mono B3.size))
    clear b4 C3 B3
    obtain ⟨x0, x1, x2, f0, f1, f2⟩ := C4.out.cells
    unfold cv
    go_wp2_with fail
    have C5 := CountAt.put C4.out t' r' o'
    have B5 := Below.put B4.out (W.heap.size + 1) (by omega) (.int .i64 t') (.int .i64 r') (.bool o')
    obtain ⟨z0, z1, z2, -, -, -⟩ := C5.cells
    refine bodyPost_ret (v := cv t' r' o') ?_ rfl ⟨rfl, B5⟩
    simp [results, Try.f21, go_sem, z0, z1, z2, cv]
  · go_enter Try.func21, Try.ntmps21
    go_wp2_with fail
    obtain ⟨W3, hW3⟩ : ∃ W3, (W.alloc (.cells #[.int .i64 t, .int .i64 r, .bool o] 23)).alloc (.cells #[.int .i64 0, .int .i64 0, .bool false] 23) = W3 := ⟨_, rfl⟩
    have C3 : CountAt W3 (W.heap.size + 1) 0 0 false := by
      have h1 := heap_alloc_new (W.alloc (.cells #[.int .i64 t, .int .i64 r, .bool o] 23)) (.cells #[.int .i64 0, .int .i64 0, .bool false] 23)
      rw [hW3, World.size_alloc] at h1
      exact h1
    have B3 : Below W.heap.size W W3 := hW3 ▸ (((Below.refl _ _).alloc (Nat.le_refl _) _).alloc (by simp) _)
    rw [hW3]
    clear hW3
    refine (Tx_uni t r o t' r' o' H.out W3).mono ?_
    rintro e w4 ⟨rfl, b4⟩
    have C4 := Aside0.mk (show CountAt w4 (W.heap.size + 1) 0 0 false from (b4.block _ C3.lt).trans C3)
    have B4 := Aside0.mk (show Below W.heap.size W w4 from B3.trans (b4.mono B3.size))
    clear b4 C3 B3
    obtain ⟨x0, x1, x2, f0, f1, f2⟩ := C4.out.cells
    unfold cv
    go_wp2_with fail
    have C5 := CountAt.put C4.out t' r' o'
    have B5 := Below.put B4.out (W.heap.size + 1) (by omega) (.int .i64 t') (.int .i64 r') (.bool o')
    obtain ⟨z0, z1, z2, -, -, -⟩ := C5.cells
    refine bodyPost_ret (v := cv t' r' o') ?_ rfl ⟨rfl, B5⟩
    simp [results, Try.f21, go_sem, z0, z1, z2, cv]
set_option maxHeartbeats 2000000 in
theorem behind_0 (t r : Int) (o : Bool) (g : Int) (t' r' : Int) (o' : Bool) (h : behind ⟨t, r, o⟩ 0 g = ⟨t', r', o'⟩) (W : World) :
    Calls Try.prog 15 #[cv t r o, .agg #[.int .i64 0, .int .i64 g]] W fun e W' => e = .returned (cv t' r' o') ∧ Below W.heap.size W W' := by
  have H := Aside0.mk h
  clear h
  unfold cv
  go_enter Try.func15, Try.ntmps15
  go_wp2_with fail
  obtain ⟨W3, hW3⟩ : ∃ W3, ((W.alloc (.cells #[.int .i64 t, .int .i64 r, .bool o] 23)).alloc (.cells #[.int .i64 0, .int .i64 g] 31)).alloc (.cells #[.int .i64 0, .int .i64 0, .bool false] 23) = W3 := ⟨_, rfl⟩
  have C3 : CountAt W3 (W.heap.size + 1 + 1) 0 0 false := by
    have h1 := heap_alloc_new ((W.alloc (.cells #[.int .i64 t, .int .i64 r, .bool o] 23)).alloc (.cells #[.int .i64 0, .int .i64 g] 31)) (.cells #[.int .i64 0, .int .i64 0, .bool false] 23)
    rw [hW3, World.size_alloc, World.size_alloc] at h1
    exact h1
  have B3 : Below W.heap.size W W3 := hW3 ▸ ((((Below.refl _ _).alloc (Nat.le_refl _) _).alloc (by simp) _).alloc (by simp; omega) _)
  rw [hW3]
  clear hW3
  refine (Sent_uni t r o t' r' o' H.out W3).mono ?_
  rintro e w4 ⟨rfl, b4⟩
  have C4 := Aside0.mk (show CountAt w4 (W.heap.size + 1 + 1) 0 0 false from (b4.block _ C3.lt).trans C3)
  have B4 := Aside0.mk (show Below W.heap.size W w4 from B3.trans (b4.mono B3.size))
  clear b4 C3 B3
  obtain ⟨x0, x1, x2, f0, f1, f2⟩ := C4.out.cells
  unfold cv
  go_wp2_with fail
  have C5 := CountAt.put C4.out t' r' o'
  have B5 := Below.put B4.out (W.heap.size + 1 + 1) (by omega) (.int .i64 t') (.int .i64 r') (.bool o')
  obtain ⟨z0, z1, z2, -, -, -⟩ := C5.cells
  refine bodyPost_ret (v := cv t' r' o') ?_ rfl ⟨rfl, B5⟩
  simp [results, Try.f15, go_sem, z0, z1, z2, cv]
set_option maxHeartbeats 2000000 in
theorem behind_1 (t r : Int) (o : Bool) (g : Int) (t' r' : Int) (o' : Bool) (h : behind ⟨t, r, o⟩ 1 g = ⟨t', r', o'⟩) (W : World) :
    Calls Try.prog 15 #[cv t r o, .agg #[.int .i64 1, .int .i64 g]] W fun e W' => e = .returned (cv t' r' o') ∧ Below W.heap.size W W' := by
  have H := Aside0.mk h
  clear h
  unfold cv
  go_enter Try.func15, Try.ntmps15
  go_wp2_with fail
  obtain ⟨W3, hW3⟩ : ∃ W3, ((W.alloc (.cells #[.int .i64 t, .int .i64 r, .bool o] 23)).alloc (.cells #[.int .i64 1, .int .i64 g] 31)).alloc (.cells #[.int .i64 0, .int .i64 0, .bool false] 23) = W3 := ⟨_, rfl⟩
  have C3 : CountAt W3 (W.heap.size + 1 + 1) 0 0 false := by
    have h1 := heap_alloc_new ((W.alloc (.cells #[.int .i64 t, .int .i64 r, .bool o] 23)).alloc (.cells #[.int .i64 1, .int .i64 g] 31)) (.cells #[.int .i64 0, .int .i64 0, .bool false] 23)
    rw [hW3, World.size_alloc, World.size_alloc] at h1
    exact h1
  have B3 : Below W.heap.size W W3 := hW3 ▸ ((((Below.refl _ _).alloc (Nat.le_refl _) _).alloc (by simp) _).alloc (by simp; omega) _)
  rw [hW3]
  clear hW3
  refine (Received_uni t r o t' r' o' H.out W3).mono ?_
  rintro e w4 ⟨rfl, b4⟩
  have C4 := Aside0.mk (show CountAt w4 (W.heap.size + 1 + 1) 0 0 false from (b4.block _ C3.lt).trans C3)
  have B4 := Aside0.mk (show Below W.heap.size W w4 from B3.trans (b4.mono B3.size))
  clear b4 C3 B3
  obtain ⟨x0, x1, x2, f0, f1, f2⟩ := C4.out.cells
  unfold cv
  go_wp2_with fail
  have C5 := CountAt.put C4.out t' r' o'
  have B5 := Below.put B4.out (W.heap.size + 1 + 1) (by omega) (.int .i64 t') (.int .i64 r') (.bool o')
  obtain ⟨z0, z1, z2, -, -, -⟩ := C5.cells
  refine bodyPost_ret (v := cv t' r' o') ?_ rfl ⟨rfl, B5⟩
  simp [results, Try.f15, go_sem, z0, z1, z2, cv]
set_option maxHeartbeats 2000000 in
theorem behind_2 (t r : Int) (o : Bool) (g : Int) (t' r' : Int) (o' : Bool) (h : behind ⟨t, r, o⟩ 2 g = ⟨t', r', o'⟩) (W : World) :
    Calls Try.prog 15 #[cv t r o, .agg #[.int .i64 2, .int .i64 g]] W fun e W' => e = .returned (cv t' r' o') ∧ Below W.heap.size W W' := by
  have H := Aside0.mk h
  clear h
  unfold cv
  go_enter Try.func15, Try.ntmps15
  go_wp2_with fail
  obtain ⟨W3, hW3⟩ : ∃ W3, ((W.alloc (.cells #[.int .i64 t, .int .i64 r, .bool o] 23)).alloc (.cells #[.int .i64 2, .int .i64 g] 31)).alloc (.cells #[.int .i64 0, .int .i64 0, .bool false] 23) = W3 := ⟨_, rfl⟩
  have C3 : CountAt W3 (W.heap.size + 1 + 1) 0 0 false := by
    have h1 := heap_alloc_new ((W.alloc (.cells #[.int .i64 t, .int .i64 r, .bool o] 23)).alloc (.cells #[.int .i64 2, .int .i64 g] 31)) (.cells #[.int .i64 0, .int .i64 0, .bool false] 23)
    rw [hW3, World.size_alloc, World.size_alloc] at h1
    exact h1
  have B3 : Below W.heap.size W W3 := hW3 ▸ ((((Below.refl _ _).alloc (Nat.le_refl _) _).alloc (by simp) _).alloc (by simp; omega) _)
  rw [hW3]
  clear hW3
  refine (Tx_uni t r o t' r' o' H.out W3).mono ?_
  rintro e w4 ⟨rfl, b4⟩
  have C4 := Aside0.mk (show CountAt w4 (W.heap.size + 1 + 1) 0 0 false from (b4.block _ C3.lt).trans C3)
  have B4 := Aside0.mk (show Below W.heap.size W w4 from B3.trans (b4.mono B3.size))
  clear b4 C3 B3
  obtain ⟨x0, x1, x2, f0, f1, f2⟩ := C4.out.cells
  unfold cv
  go_wp2_with fail
  have C5 := CountAt.put C4.out t' r' o'
  have B5 := Below.put B4.out (W.heap.size + 1 + 1) (by omega) (.int .i64 t') (.int .i64 r') (.bool o')
  obtain ⟨z0, z1, z2, -, -, -⟩ := C5.cells
  refine bodyPost_ret (v := cv t' r' o') ?_ rfl ⟨rfl, B5⟩
  simp [results, Try.f15, go_sem, z0, z1, z2, cv]
set_option maxHeartbeats 2000000 in
theorem behind_3 (t r : Int) (o : Bool) (g : Int) (t' r' : Int) (o' : Bool) (h : behind ⟨t, r, o⟩ 3 g = ⟨t', r', o'⟩) (W : World) :
    Calls Try.prog 15 #[cv t r o, .agg #[.int .i64 3, .int .i64 g]] W fun e W' => e = .returned (cv t' r' o') ∧ Below W.heap.size W W' := by
  have H := Aside0.mk h
  clear h
  unfold cv
  go_enter Try.func15, Try.ntmps15
  go_wp2_with fail
  obtain ⟨W3, hW3⟩ : ∃ W3, ((W.alloc (.cells #[.int .i64 t, .int .i64 r, .bool o] 23)).alloc (.cells #[.int .i64 3, .int .i64 g] 31)).alloc (.cells #[.int .i64 0, .int .i64 0, .bool false] 23) = W3 := ⟨_, rfl⟩
  have C3 : CountAt W3 (W.heap.size + 1 + 1) 0 0 false := by
    have h1 := heap_alloc_new ((W.alloc (.cells #[.int .i64 t, .int .i64 r, .bool o] 23)).alloc (.cells #[.int .i64 3, .int .i64 g] 31)) (.cells #[.int .i64 0, .int .i64 0, .bool false] 23)
    rw [hW3, World.size_alloc, World.size_alloc] at h1
    exact h1
  have B3 : Below W.heap.size W W3 := hW3 ▸ ((((Below.refl _ _).alloc (Nat.le_refl _) _).alloc (by simp) _).alloc (by simp; omega) _)
  rw [hW3]
  clear hW3
  refine (Rx_uni t r o g t' r' o' H.out W3).mono ?_
  rintro e w4 ⟨rfl, b4⟩
  have C4 := Aside0.mk (show CountAt w4 (W.heap.size + 1 + 1) 0 0 false from (b4.block _ C3.lt).trans C3)
  have B4 := Aside0.mk (show Below W.heap.size W w4 from B3.trans (b4.mono B3.size))
  clear b4 C3 B3
  obtain ⟨x0, x1, x2, f0, f1, f2⟩ := C4.out.cells
  unfold cv
  go_wp2_with fail
  have C5 := CountAt.put C4.out t' r' o'
  have B5 := Below.put B4.out (W.heap.size + 1 + 1) (by omega) (.int .i64 t') (.int .i64 r') (.bool o')
  obtain ⟨z0, z1, z2, -, -, -⟩ := C5.cells
  refine bodyPost_ret (v := cv t' r' o') ?_ rfl ⟨rfl, B5⟩
  simp [results, Try.f15, go_sem, z0, z1, z2, cv]
set_option maxHeartbeats 2000000 in
theorem behind_4 (t r : Int) (o : Bool) (g : Int) (t' r' : Int) (o' : Bool) (h : behind ⟨t, r, o⟩ 4 g = ⟨t', r', o'⟩) (W : World) :
    Calls Try.prog 15 #[cv t r o, .agg #[.int .i64 4, .int .i64 g]] W fun e W' => e = .returned (cv t' r' o') ∧ Below W.heap.size W W' := by
  have H := Aside0.mk h
  clear h
  unfold cv
  go_enter Try.func15, Try.ntmps15
  go_wp2_with fail
  obtain ⟨W3, hW3⟩ : ∃ W3, ((W.alloc (.cells #[.int .i64 t, .int .i64 r, .bool o] 23)).alloc (.cells #[.int .i64 4, .int .i64 g] 31)).alloc (.cells #[.int .i64 0, .int .i64 0, .bool false] 23) = W3 := ⟨_, rfl⟩
  have C3 : CountAt W3 (W.heap.size + 1 + 1) 0 0 false := by
    have h1 := heap_alloc_new ((W.alloc (.cells #[.int .i64 t, .int .i64 r, .bool o] 23)).alloc (.cells #[.int .i64 4, .int .i64 g] 31)) (.cells #[.int .i64 0, .int .i64 0, .bool false] 23)
    rw [hW3, World.size_alloc, World.size_alloc] at h1
    exact h1
  have B3 : Below W.heap.size W W3 := hW3 ▸ ((((Below.refl _ _).alloc (Nat.le_refl _) _).alloc (by simp) _).alloc (by simp; omega) _)
  rw [hW3]
  clear hW3
  refine (Back_uni t r o t' r' o' H.out W3).mono ?_
  rintro e w4 ⟨rfl, b4⟩
  have C4 := Aside0.mk (show CountAt w4 (W.heap.size + 1 + 1) 0 0 false from (b4.block _ C3.lt).trans C3)
  have B4 := Aside0.mk (show Below W.heap.size W w4 from B3.trans (b4.mono B3.size))
  clear b4 C3 B3
  obtain ⟨x0, x1, x2, f0, f1, f2⟩ := C4.out.cells
  unfold cv
  go_wp2_with fail
  have C5 := CountAt.put C4.out t' r' o'
  have B5 := Below.put B4.out (W.heap.size + 1 + 1) (by omega) (.int .i64 t') (.int .i64 r') (.bool o')
  obtain ⟨z0, z1, z2, -, -, -⟩ := C5.cells
  refine bodyPost_ret (v := cv t' r' o') ?_ rfl ⟨rfl, B5⟩
  simp [results, Try.f15, go_sem, z0, z1, z2, cv]
set_option maxHeartbeats 2000000 in
theorem behind_5 (t r : Int) (o : Bool) (x g : Int) (h0 : x ≠ 0) (h1 : x ≠ 1) (h2 : x ≠ 2) (h3 : x ≠ 3) (h4 : x ≠ 4) (W : World) :
    Calls Try.prog 15 #[cv t r o, .agg #[.int .i64 x, .int .i64 g]] W fun e W' => e = .returned (cv t r o) ∧ Below W.heap.size W W' := by
  have e0 : (x == 0) = false := by simpa using h0
  have e1 : (x == 1) = false := by simpa using h1
  have e2 : (x == 2) = false := by simpa using h2
  have e3 : (x == 3) = false := by simpa using h3
  have e4 : (x == 4) = false := by simpa using h4
  clear h0 h1 h2 h3 h4
  unfold cv
  go_enter Try.func15, Try.ntmps15
  go_wp2
  refine bodyPost_ret (v := cv t r o) ?_ rfl ⟨rfl, ?_⟩
  · simp [results, Try.f15, go_sem, cv]
  · exact (((Below.refl _ _).alloc (Nat.le_refl _) _).alloc (by simp) _).alloc (by simp; omega) _
theorem Behind_uni (t r : Int) (o : Bool) (x g : Int) (t' r' : Int) (o' : Bool) (h : behind ⟨t, r, o⟩ x g = ⟨t', r', o'⟩) (W : World) :
    Calls Try.prog 15 #[cv t r o, .agg #[.int .i64 x, .int .i64 g]] W fun e W' => e = .returned (cv t' r' o') ∧ Below W.heap.size W W' := by
  by_cases h0 : x = 0
  · subst h0; exact behind_0 t r o g t' r' o' h W
  by_cases h1 : x = 1
  · subst h1; exact behind_1 t r o g t' r' o' h W
  by_cases h2 : x = 2
  · subst h2; exact behind_2 t r o g t' r' o' h W
  by_cases h3 : x = 3
  · subst h3; exact behind_3 t r o g t' r' o' h W
  by_cases h4 : x = 4
  · subst h4; exact behind_4 t r o g t' r' o' h W
  simp only [behind, if_neg h0, if_neg h1, if_neg h2, if_neg h3, if_neg h4] at h
  obtain ⟨k1, k2, k3⟩ : _ ∧ _ ∧ _ := Ct.mk.inj h
  subst k1 k2 k3
  exact behind_5 t r o x g h0 h1 h2 h3 h4 W
end Go.Proofs.Ytalonmhoamjcnaa
