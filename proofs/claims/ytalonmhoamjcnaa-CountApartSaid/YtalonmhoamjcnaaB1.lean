/-
  Counts: the walk of CountReturns.
-/
import Derived.Test.YtalonmhoamjcnaaB0
namespace Go.Proofs.Ytalonmhoamjcnaa
open Go.RowKit Go.Proofs.YtalonmhoamjcnaaW.PrintWords

theorem nodrew {W w1 : World} (h : Below W.drew.heap.size W.drew w1) : Below W.heap.size W w1 := below_step (Below.refl _ _).drew h
theorem cb {W w1 : World} (h : Below W.heap.size W w1) {p : Addr} {u : Value} (hc : W.cell? p = some u) : w1.cell? p = some u := pw_cell_below h hc

theorem sent_state {t r : Int} {o : Bool} (hok : ok t r o = true) (hs : ¬ (if o then (2 : Int) else if 127 < t ∨ 127 < r then 1 else 0) = 1) (t' r' : Int) (o' : Bool) (h : sentC ⟨t, r, o⟩ = ⟨t', r', o'⟩) :
    (if o' then (2 : Int) else if 127 < t' ∨ 127 < r' then 1 else 0) = (if o then (2 : Int) else if 127 < t ∨ 127 < r then 1 else 0) := by
  unfold sentC at h
  split at h
  · rename_i hr
    obtain ⟨-, rfl⟩ := runs_split hr
    obtain ⟨h1, h2, h3⟩ : _ ∧ _ ∧ _ := Ct.mk.inj h
    simp only [] at h1 h2 h3
    subst h2 h3
    have hc : ¬ (127 < t ∨ 127 < r) := by
      intro hc
      simp [hc] at hs
    have hc' : ¬ (127 < t' ∨ 127 < r) := by
      rw [← h1]
      split <;> omega
    simp [hc, hc']
  · obtain ⟨h1, h2, h3⟩ : _ ∧ _ ∧ _ := Ct.mk.inj h
    subst h1 h2 h3
    rfl

set_option maxHeartbeats 2000000 in
theorem returns_wrong (t r : Int) (o : Bool) (hok : ok t r o = false) (W : World) :
    Calls Try.prog 3 #[cv t r o] W fun e W' => e = .returned (.bool true) ∧ Below W.heap.size W W' := by
  have HO := Aside0.mk hok
  clear hok
  unfold cv
  go_enter Try.func3, Try.ntmps3
  go_wp2_with fail
  obtain ⟨W1, hW1⟩ : ∃ W1, W.alloc (.cells #[.int .i64 t, .int .i64 r, .bool o] 23) = W1 := ⟨_, rfl⟩
  have C1 : CountAt W1 W.heap.size t r o := hW1 ▸ heap_alloc_new W _
  have B1 := Aside0.mk (show Below W.heap.size W W1 from hW1 ▸ (Below.refl _ _).alloc (Nat.le_refl _) _)
  rw [hW1]
  clear hW1
  refine (check_cv t r o 10 (by rw [HO.out]; rfl) W1).mono ?_
  rintro e w2 ⟨rfl, b2⟩
  have C2 := C1.below b2
  have B2 := Aside0.mk (below_step B1.out b2)
  clear b2 C1 B1
  obtain ⟨x0, x1, x2, -, -, -⟩ := C2.cells
  clear C2
  go_wp2_with fail
  refine wp_region_held_drew (S := fun w' => w'.cell? ⟨W.heap.size, 0, none⟩ = some (.int .i64 t) ∧ w'.cell? ⟨W.heap.size, 1, none⟩ = some (.int .i64 r) ∧ w'.cell? ⟨W.heap.size, 2, none⟩ = some (.bool o)) (by kernel_rfl) (by go_keep) (fun hHeld => ?_)
  refine takeH 0 (some 15) ?_ (by rfl) (by kernel_rfl) (by kernel_rfl) (by kernel_rfl) (fun _ _ _ h => h) ?_ hHeld ?_
  rotate_left
  · intro o ho
    simp only [List.getElem?_toArray, List.getElem?_cons_zero, Option.some.injEq] at ho
    subst ho
    refine ⟨by rfl, fun w hSw => ?_⟩
    try dsimp only at hSw
    go_simp
    try with_reducible rfl
  try simp only [Act.put, List.setIfInBounds_toArray, List.set_cons_zero, List.set_cons_succ]
  refine oneH 1 (by kernel_rfl) (by rfl) (fun o ho K hK => ?_)
  simp only [List.getElem?_toArray, List.getElem?_cons_succ, List.getElem?_cons_zero, Option.some.injEq] at ho
  subst ho
  go_simp
  refine (check_cv t r o 10 (by rw [HO.out]; rfl) _).mono ?_
  rintro e w3 ⟨rfl, q3⟩
  have b3 := nodrew q3
  try go_wp2_with fail
  refine hK.out _ _ ?_ (fun hHeld2 => ?_)
  · exact ⟨cb b3 x0, cb b3 x1, cb b3 x2⟩
  clear hK K hHeld
  rename _ => hHeld
  try simp only [Act.put, List.setIfInBounds_toArray, List.set_cons_zero, List.set_cons_succ]
  refine takeH 2 (some 17) ?_ (by rfl) (by kernel_rfl) (by kernel_rfl) (by kernel_rfl) (fun _ _ _ h => h) ?_ hHeld ?_
  rotate_left
  · intro o ho
    simp only [List.getElem?_toArray, List.getElem?_cons_succ, List.getElem?_cons_zero, Option.some.injEq] at ho
    subst ho
    refine ⟨by rfl, fun w hSw => ?_⟩
    try dsimp only at hSw
    go_simp
    try with_reducible rfl
  try simp only [Act.put, List.setIfInBounds_toArray, List.set_cons_zero, List.set_cons_succ]
  refine takeH 3 (some 18) ?_ (by rfl) (by kernel_rfl) (by kernel_rfl) (by kernel_rfl) (fun _ _ _ h => h) ?_ hHeld ?_
  rotate_left
  · intro o ho
    simp only [List.getElem?_toArray, List.getElem?_cons_succ, List.getElem?_cons_zero, Option.some.injEq] at ho
    subst ho
    refine ⟨by rfl, fun w hSw => ?_⟩
    try dsimp only at hSw
    go_simp
    try with_reducible rfl
  try simp only [Act.put, List.setIfInBounds_toArray, List.set_cons_zero, List.set_cons_succ]
  refine skipH 4 (some 19) (by rfl) (by kernel_rfl) (by kernel_rfl) (by kernel_rfl) (fun _ _ _ h => h) (by rfl) hHeld ?_
  try simp only [Act.put, List.setIfInBounds_toArray, List.set_cons_zero, List.set_cons_succ]
  refine skipH 5 (some 20) (by rfl) (by kernel_rfl) (by kernel_rfl) (by kernel_rfl) (fun _ _ _ h => h) (by rfl) hHeld ?_
  try simp only [Act.put, List.setIfInBounds_toArray, List.set_cons_zero, List.set_cons_succ]
  refine skipH 6 (some 21) (by rfl) (by kernel_rfl) (by kernel_rfl) (by kernel_rfl) (fun _ _ _ h => h) (by rfl) hHeld ?_
  try simp only [Act.put, List.setIfInBounds_toArray, List.set_cons_zero, List.set_cons_succ]
  refine skipH 7 (some 22) (by rfl) (by kernel_rfl) (by kernel_rfl) (by kernel_rfl) (fun _ _ _ h => h) (by rfl) hHeld ?_
  try simp only [Act.put, List.setIfInBounds_toArray, List.set_cons_zero, List.set_cons_succ]
  refine skipH 8 (some 23) (by rfl) (by kernel_rfl) (by kernel_rfl) (by kernel_rfl) (fun _ _ _ h => h) (by rfl) hHeld ?_
  try simp only [Act.put, List.setIfInBounds_toArray, List.set_cons_zero, List.set_cons_succ]
  refine skipH 9 (some 24) (by rfl) (by kernel_rfl) (by kernel_rfl) (by kernel_rfl) (fun _ _ _ h => h) (by rfl) hHeld ?_
  try simp only [Act.put, List.setIfInBounds_toArray, List.set_cons_zero, List.set_cons_succ]
  refine takeH 10 (some 25) ?_ (by rfl) (by kernel_rfl) (by kernel_rfl) (by kernel_rfl) (fun _ _ _ h => h) ?_ hHeld ?_
  rotate_left
  · intro o ho
    simp only [List.getElem?_toArray, List.getElem?_cons_succ, List.getElem?_cons_zero, Option.some.injEq] at ho
    subst ho
    refine ⟨by rfl, fun w hSw => ?_⟩
    try dsimp only at hSw
    go_simp
    try with_reducible rfl
  try simp only [Act.put, List.setIfInBounds_toArray, List.set_cons_zero, List.set_cons_succ]
  refine takeH 11 (some 26) ?_ (by rfl) (by kernel_rfl) (by kernel_rfl) (by kernel_rfl) (fun _ _ _ h => h) ?_ hHeld ?_
  rotate_left
  · intro o ho
    simp only [List.getElem?_toArray, List.getElem?_cons_succ, List.getElem?_cons_zero, Option.some.injEq] at ho
    subst ho
    refine ⟨by rfl, fun w hSw => ?_⟩
    try dsimp only at hSw
    go_simp
    try with_reducible rfl
  try simp only [Act.put, List.setIfInBounds_toArray, List.set_cons_zero, List.set_cons_succ]
  refine oneH 12 (by kernel_rfl) (by rfl) (fun o ho K hK => ?_)
  simp only [List.getElem?_toArray, List.getElem?_cons_succ, List.getElem?_cons_zero, Option.some.injEq] at ho
  subst ho
  go_simp
  refine (awake_calls _).mono ?_
  rintro e w4 ⟨rfl, q4⟩
  have b4 := below_step b3 q4
  try go_wp2_with fail
  refine hK.out _ _ ?_ (fun hHeld2 => ?_)
  · exact ⟨cb b4 x0, cb b4 x1, cb b4 x2⟩
  clear hK K hHeld
  rename _ => hHeld
  try simp only [Act.put, List.setIfInBounds_toArray, List.set_cons_zero, List.set_cons_succ]
  refine takeH 13 (some 28) ?_ (by rfl) (by kernel_rfl) (by kernel_rfl) (by kernel_rfl) (fun _ _ _ h => h) ?_ hHeld ?_
  rotate_left
  · intro o ho
    simp only [List.getElem?_toArray, List.getElem?_cons_succ, List.getElem?_cons_zero, Option.some.injEq] at ho
    subst ho
    refine ⟨by rfl, fun w hSw => ?_⟩
    try dsimp only at hSw
    go_simp
    try with_reducible rfl
  try simp only [Act.put, List.setIfInBounds_toArray, List.set_cons_zero, List.set_cons_succ]
  refine takeH 14 (some 2) ?_ (by rfl) (by kernel_rfl) (by kernel_rfl) (by kernel_rfl) (fun _ _ _ h => h) ?_ hHeld ?_
  rotate_left
  · intro o ho
    simp only [List.getElem?_toArray, List.getElem?_cons_succ, List.getElem?_cons_zero, Option.some.injEq] at ho
    subst ho
    refine ⟨by rfl, fun w hSw => ?_⟩
    try dsimp only at hSw
    go_simp
    try with_reducible rfl
  try simp only [Act.put, List.setIfInBounds_toArray, List.set_cons_zero, List.set_cons_succ]
  refine wpAnyH_done (by kernel_rfl) ?_ _
  go_wp2
  go_ret
  exact ⟨rfl, below_step B2.out b4⟩
end Go.Proofs.Ytalonmhoamjcnaa
