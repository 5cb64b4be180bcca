/-
  Counts: the walk of CountComes.
-/
import Derived.Test.YtalonmhoamjcnaaB3
namespace Go.Proofs.Ytalonmhoamjcnaa
open Go.RowKit Go.Proofs.YtalonmhoamjcnaaW.PrintWords

theorem ref_new {W W' : World} {t r : Int} {o : Bool} (h : W.alloc (.cells #[.int .i64 t, .int .i64 r, .bool o] 32) = W') : RefAt W' W.heap.size t r o := h ▸ heap_alloc_new W _
theorem grow {W W' : World} {x : Obj} (h : W.alloc x = W') : Below W.heap.size W W' := h ▸ (Below.refl _ _).alloc (Nat.le_refl _) _
theorem Come_cv (t r : Int) (o : Bool) (x g : Int) (t' r' : Int) (o' : Bool) (h : behind ⟨t, r, o⟩ x g = ⟨t', r', o'⟩) (W : World) :
    Calls Try.prog 14 #[.agg #[.int .i64 t, .int .i64 r, .bool o], .int .i64 x, .int .i64 g] W fun e W' => e = .returned (.agg #[.int .i64 t', .int .i64 r', .bool o']) ∧ Below W.heap.size W W' := Come_uni t r o x g t' r' o' h W
theorem Behind_cv (t r : Int) (o : Bool) (x g : Int) (t' r' : Int) (o' : Bool) (h : behind ⟨t, r, o⟩ x g = ⟨t', r', o'⟩) (W : World) :
    Calls Try.prog 15 #[.agg #[.int .i64 t, .int .i64 r, .bool o], .agg #[.int .i64 x, .int .i64 g]] W fun e W' => e = .returned (.agg #[.int .i64 t', .int .i64 r', .bool o']) ∧ Below W.heap.size W W' := Behind_uni t r o x g t' r' o' h W

theorem refState_cv (t r : Int) (o : Bool) (z : Int) (hz : z = if o then 2 else if 127 < t ∨ 127 < r then 1 else 0) (w : World) :
    Calls Try.prog 16 #[.agg #[.int .i64 t, .int .i64 r, .bool o]] w fun e w' => e = .returned (.int .i64 z) ∧ Below w.heap.size w w' := refState_calls t r o z hz w
theorem state_rng (t r : Int) (o : Bool) : (if o then (2 : Int) else if 127 < t ∨ 127 < r then 1 else 0) = 0 ∨ (if o then (2 : Int) else if 127 < t ∨ 127 < r then 1 else 0) = 1 ∨ (if o then (2 : Int) else if 127 < t ∨ 127 < r then 1 else 0) = 2 := by
  split
  · simp
  · split <;> simp

set_option maxRecDepth 20000 in
set_option maxHeartbeats 8000000 in
theorem comes_calls (t r : Int) (o : Bool) (x g : Int) (W : World) (_ : True) (_ : True) :
    Calls Try.prog 4 #[cv t r o, .agg #[.int .i64 x, .int .i64 g]] W fun e W' => e = .returned (.bool true) ∧ Below W.heap.size W W' := by
  obtain ⟨⟨t', r', o'⟩, hs⟩ : ∃ c, behind ⟨t, r, o⟩ x g = c := ⟨_, rfl⟩
  have HS := Aside0.mk hs
  obtain ⟨z, hz⟩ : ∃ z : Int, z = if o then 2 else if 127 < t ∨ 127 < r then 1 else 0 := ⟨_, rfl⟩
  have HZ := Aside0.mk hz
  have HZR := Aside0.mk (show z = 0 ∨ z = 1 ∨ z = 2 by rw [hz]; exact state_rng t r o)
  clear hs hz
  unfold cv
  go_enter Try.func4, Try.ntmps4
  go_upto_region 2 with fail
  obtain ⟨W1, hW1⟩ : ∃ W1, W.alloc (.cells #[.int .i64 t, .int .i64 r, .bool o] 23) = W1 := ⟨_, rfl⟩
  have C1 := count_new hW1
  have B1 := grow hW1
  have S1 : W1.heap.size = W.heap.size + 1 := by rw [← hW1]; simp
  rw [hW1]
  clear hW1
  obtain ⟨W2, hW2⟩ : ∃ W2, W1.alloc (.cells #[.int .i64 x, .int .i64 g] 31) = W2 := ⟨_, rfl⟩
  have C2 := C1.below (grow hW2)
  have B2 := below_step B1 (grow hW2)
  have X2 : W2.heap[W.heap.size + 1]? = some (.cells #[.int .i64 x, .int .i64 g] 31 (0, 0)) := by rw [← S1, ← hW2]; exact heap_alloc_new W1 _
  have S2 : W2.heap.size = W.heap.size + 1 + 1 := by rw [← S1, ← hW2]; simp
  rw [hW2]
  clear hW2 C1 B1
  obtain ⟨W3, hW3⟩ : ∃ W3, W2.alloc (.cells #[.int .i64 t, .int .i64 r, .bool o] 32) = W3 := ⟨_, rfl⟩
  have C3 := Aside0.mk (C2.below (grow hW3))
  have B3 := Aside0.mk (below_step B2 (grow hW3))
  have X3 := ((grow hW3).block (W.heap.size + 1) (by omega)).trans X2
  have R3 := ref_new hW3
  rw [S2] at R3
  rw [hW3]
  clear hW3 C2 B2 X2 S2 S1
  have X3a : W3.cell? ⟨W.heap.size + 1, 0, none⟩ = some (.int .i64 x) := by unfold World.cell?; simp only []; rw [X3]; rfl
  have X3b : W3.cell? ⟨W.heap.size + 1, 1, none⟩ = some (.int .i64 g) := by unfold World.cell?; simp only []; rw [X3]; rfl
  obtain ⟨c0, c1, c2, -, -, -⟩ := R3.cells
  have R3 := Aside0.mk R3
  clear X3
  go_wp2_with fail
  refine (Come_cv t r o x g t' r' o' HS.out W3).mono ?_
  rintro e w4 ⟨rfl, b4⟩
  have C4 := C3.out.below b4
  have R4 := Aside0.mk (R3.out.below b4)
  have B4 := Aside0.mk (below_step B3.out b4)
  have X4a := cb b4 X3a
  have X4b := cb b4 X3b
  clear c0 c1 c2 X3a X3b R3 C3 B3 b4
  go_upto_region 3 with fail
  obtain ⟨w5, hw5⟩ : ∃ w5, w4.alloc (.cells #[.int .i64 t', .int .i64 r', .bool o'] 32) = w5 := ⟨_, rfl⟩
  have G5 := grow hw5
  have C5 := C4.below G5
  have R5 := Aside0.mk (R4.out.below G5)
  have B5 := Aside0.mk (below_step B4.out G5)
  have V5 := Aside0.mk (ref_new hw5)
  have X5a := cb G5 X4a
  have X5b := cb G5 X4b
  rw [hw5]
  obtain ⟨a0, a1, a2, -, -, -⟩ := C5.cells
  have C5 := Aside0.mk C5
  clear hw5 G5 C4 R4 B4 X4a X4b
  go_wp2_with fail
  refine (Behind_cv t r o x g t' r' o' HS.out w5).mono ?_
  rintro e w6 ⟨rfl, b6⟩
  have C6 := Aside0.mk (C5.out.below b6)
  have R6 := Aside0.mk (R5.out.below b6)
  have V6 := Aside0.mk (V5.out.below b6)
  have B6 := Aside0.mk (below_step B5.out b6)
  clear a0 a1 a2 X5a X5b C5 R5 V5 B5 b6
  go_upto_region 4 with fail
  obtain ⟨w7, hw7⟩ : ∃ w7, w6.alloc (.cells #[.int .i64 t', .int .i64 r', .bool o'] 23) = w7 := ⟨_, rfl⟩
  have G7 := grow hw7
  have C7 := Aside0.mk (C6.out.below G7)
  have R7 := R6.out.below G7
  have V7 := Aside0.mk (V6.out.below G7)
  have D7 := Aside0.mk (count_new hw7)
  have B7 := Aside0.mk (below_step B6.out G7)
  rw [hw7]
  clear hw7 G7 C6 R6 V6 B6
  obtain ⟨c0, c1, c2, -, -, -⟩ := R7.cells
  have R7 := Aside0.mk R7
  go_cut [8] (fun s8 wx => s8 = .int .i64 z ∧ Below w7.heap.size w7 wx)
  case first =>
    obtain ⟨w8, hw8⟩ : ∃ w8, w7.alloc (.cells #[.int .i64 0, .int .i64 1, .int .i64 2] 3) = w8 := ⟨_, rfl⟩
    have G8 := grow hw8
    have n0 : (w7.alloc (.cells #[.int .i64 0, .int .i64 1, .int .i64 2] 3)).cell? ⟨W.heap.size + 1 + 1, 0, none⟩ = some (.int .i64 t) := by rw [hw8]; exact cb G8 c0
    have n1 : (w7.alloc (.cells #[.int .i64 0, .int .i64 1, .int .i64 2] 3)).cell? ⟨W.heap.size + 1 + 1, 1, none⟩ = some (.int .i64 r) := by rw [hw8]; exact cb G8 c1
    have n2 : (w7.alloc (.cells #[.int .i64 0, .int .i64 1, .int .i64 2] 3)).cell? ⟨W.heap.size + 1 + 1, 2, none⟩ = some (.bool o) := by rw [hw8]; exact cb G8 c2
    have HW8 := Aside0.mk hw8
    have G8' := Aside0.mk G8
    have V8 := Aside0.mk (show w8.heap[w7.heap.size]? = some (.cells #[.int .i64 0, .int .i64 1, .int .i64 2] 3 (0, 0)) by rw [← hw8]; exact heap_alloc_new w7 _)
    clear hw8 G8 c0 c1 c2
    go_wp2_with fail
    rw [HW8.out]
    clear n0 n1 n2
    refine (refState_cv t r o z HZ.out w8).mono ?_
    rintro e w9 ⟨rfl, b9⟩
    have V9 := (b9.block w7.heap.size (by have := G8'.out.size; have := (Array.getElem?_eq_some_iff.1 V8.out).1; omega)).trans V8.out
    have m0 : w9.cell? ⟨w7.heap.size, 0, none⟩ = some (.int .i64 0) := by unfold World.cell?; simp only []; rw [V9]; rfl
    have m1 : w9.cell? ⟨w7.heap.size, 1, none⟩ = some (.int .i64 1) := by unfold World.cell?; simp only []; rw [V9]; rfl
    have m2 : w9.cell? ⟨w7.heap.size, 2, none⟩ = some (.int .i64 2) := by unfold World.cell?; simp only []; rw [V9]; rfl
    have B9 := Aside0.mk (below_step G8'.out b9)
    clear V9 b9
    rcases HZR.out with rfl | rfl | rfl
    · go_wp2_with fail
      go_meet
      exact ⟨rfl, B9.out⟩
    · go_wp2_with fail
      go_meet
      exact ⟨rfl, B9.out⟩
    · go_wp2_with fail
      go_meet
      exact ⟨rfl, B9.out⟩
  case rest =>
    obtain ⟨rfl, bc⟩ := hcut
    have B8 := Aside0.mk (below_step B7.out bc)
    obtain ⟨a0, a1, a2, -, -, -⟩ := (C7.out.below bc).cells
    replace c0 := cb bc c0
    replace c1 := cb bc c1
    replace c2 := cb bc c2
    obtain ⟨d0, d1, d2, -, -, -⟩ := (D7.out.below bc).cells
    obtain ⟨e0, e1, e2, -, -, -⟩ := (V7.out.below bc).cells
    clear bc
    have ef : (z == z) = true := by simp
    go_wp2_with fail
    by_cases hok : ok t r o = true
    · have HO := Aside0.mk hok
      clear hok
      refine wp_region_held_drew (S := fun w' => w'.cell? ⟨W.heap.size, 0, none⟩ = some (.int .i64 t) ∧ w'.cell? ⟨W.heap.size, 1, none⟩ = some (.int .i64 r) ∧ w'.cell? ⟨W.heap.size, 2, none⟩ = some (.bool o) ∧ w'.cell? ⟨W.heap.size + 1 + 1, 0, none⟩ = some (.int .i64 t) ∧ w'.cell? ⟨W.heap.size + 1 + 1, 1, none⟩ = some (.int .i64 r) ∧ w'.cell? ⟨W.heap.size + 1 + 1, 2, none⟩ = some (.bool o) ∧ w'.cell? ⟨w4.heap.size, 0, none⟩ = some (.int .i64 t') ∧ w'.cell? ⟨w4.heap.size, 1, none⟩ = some (.int .i64 r') ∧ w'.cell? ⟨w4.heap.size, 2, none⟩ = some (.bool o') ∧ w'.cell? ⟨w6.heap.size, 0, none⟩ = some (.int .i64 t') ∧ w'.cell? ⟨w6.heap.size, 1, none⟩ = some (.int .i64 r') ∧ w'.cell? ⟨w6.heap.size, 2, none⟩ = some (.bool o')) (by kernel_rfl) ?_ (fun hHeld => ?_)
      · exact ⟨a0, a1, a2, c0, c1, c2, e0, e1, e2, d0, d1, d2⟩
      refine takeH 0 (some 30) ?_ (by rfl) (by kernel_rfl) (by kernel_rfl) (by kernel_rfl) (fun _ _ _ h => h) ?_ hHeld ?_
      rotate_left
      · intro o ho
        simp only [List.getElem?_toArray, List.getElem?_cons_zero, Option.some.injEq] at ho
        subst ho
        refine ⟨by rfl, fun w hSw => ?_⟩
        try dsimp only at hSw
        go_simp
        try with_reducible rfl
      try simp only [Act.put, List.setIfInBounds_toArray, List.set_cons_zero, List.set_cons_succ]
      refine takeH 1 (some 31) ?_ (by rfl) (by kernel_rfl) (by kernel_rfl) (by kernel_rfl) (fun _ _ _ h => h) ?_ hHeld ?_
      rotate_left
      · intro o ho
        simp only [List.getElem?_toArray, List.getElem?_cons_succ, List.getElem?_cons_zero, Option.some.injEq] at ho
        subst ho
        refine ⟨by rfl, fun w hSw => ?_⟩
        try dsimp only at hSw
        go_simp
        try with_reducible rfl
      try simp only [Act.put, List.setIfInBounds_toArray, List.set_cons_zero, List.set_cons_succ]
      refine takeH 2 (some 32) ?_ (by rfl) (by kernel_rfl) (by kernel_rfl) (by kernel_rfl) (fun _ _ _ h => h) ?_ hHeld ?_
      rotate_left
      · intro o ho
        simp only [List.getElem?_toArray, List.getElem?_cons_succ, List.getElem?_cons_zero, Option.some.injEq] at ho
        subst ho
        refine ⟨by rfl, fun w hSw => ?_⟩
        try dsimp only at hSw
        go_simp
        try with_reducible rfl
      try simp only [Act.put, List.setIfInBounds_toArray, List.set_cons_zero, List.set_cons_succ]
      refine takeH 3 (some 33) ?_ (by rfl) (by kernel_rfl) (by kernel_rfl) (by kernel_rfl) (fun _ _ _ h => h) ?_ hHeld ?_
      rotate_left
      · intro o ho
        simp only [List.getElem?_toArray, List.getElem?_cons_succ, List.getElem?_cons_zero, Option.some.injEq] at ho
        subst ho
        refine ⟨by rfl, fun w hSw => ?_⟩
        try dsimp only at hSw
        go_simp
        try with_reducible rfl
      try simp only [Act.put, List.setIfInBounds_toArray, List.set_cons_zero, List.set_cons_succ]
      refine takeH 4 (some 34) ?_ (by rfl) (by kernel_rfl) (by kernel_rfl) (by kernel_rfl) (fun _ _ _ h => h) ?_ hHeld ?_
      rotate_left
      · intro o ho
        simp only [List.getElem?_toArray, List.getElem?_cons_succ, List.getElem?_cons_zero, Option.some.injEq] at ho
        subst ho
        refine ⟨by rfl, fun w hSw => ?_⟩
        try dsimp only at hSw
        go_simp
        try with_reducible rfl
      try simp only [Act.put, List.setIfInBounds_toArray, List.set_cons_zero, List.set_cons_succ]
      refine takeH 5 (some 35) ?_ (by rfl) (by kernel_rfl) (by kernel_rfl) (by kernel_rfl) (fun _ _ _ h => h) ?_ hHeld ?_
      rotate_left
      · intro o ho
        simp only [List.getElem?_toArray, List.getElem?_cons_succ, List.getElem?_cons_zero, Option.some.injEq] at ho
        subst ho
        refine ⟨by rfl, fun w hSw => ?_⟩
        try dsimp only at hSw
        go_simp
        try with_reducible rfl
      try simp only [Act.put, List.setIfInBounds_toArray, List.set_cons_zero, List.set_cons_succ]
      refine takeH 6 (some 36) ?_ (by rfl) (by kernel_rfl) (by kernel_rfl) (by kernel_rfl) (fun _ _ _ h => h) ?_ hHeld ?_
      rotate_left
      · intro o ho
        simp only [List.getElem?_toArray, List.getElem?_cons_succ, List.getElem?_cons_zero, Option.some.injEq] at ho
        subst ho
        refine ⟨by rfl, fun w hSw => ?_⟩
        try dsimp only at hSw
        go_simp
        try with_reducible rfl
      try simp only [Act.put, List.setIfInBounds_toArray, List.set_cons_zero, List.set_cons_succ]
      refine takeH 7 (some 37) ?_ (by rfl) (by kernel_rfl) (by kernel_rfl) (by kernel_rfl) (fun _ _ _ h => h) ?_ hHeld ?_
      rotate_left
      · intro o ho
        simp only [List.getElem?_toArray, List.getElem?_cons_succ, List.getElem?_cons_zero, Option.some.injEq] at ho
        subst ho
        refine ⟨by rfl, fun w hSw => ?_⟩
        try dsimp only at hSw
        go_simp
        try with_reducible rfl
      try simp only [Act.put, List.setIfInBounds_toArray, List.set_cons_zero, List.set_cons_succ]
      refine takeH 8 (some 38) ?_ (by rfl) (by kernel_rfl) (by kernel_rfl) (by kernel_rfl) (fun _ _ _ h => h) ?_ hHeld ?_
      rotate_left
      · intro o ho
        simp only [List.getElem?_toArray, List.getElem?_cons_succ, List.getElem?_cons_zero, Option.some.injEq] at ho
        subst ho
        refine ⟨by rfl, fun w hSw => ?_⟩
        try dsimp only at hSw
        go_simp
        try with_reducible rfl
      try simp only [Act.put, List.setIfInBounds_toArray, List.set_cons_zero, List.set_cons_succ]
      refine takeH 9 (some 39) ?_ (by rfl) (by kernel_rfl) (by kernel_rfl) (by kernel_rfl) (fun _ _ _ h => h) ?_ hHeld ?_
      rotate_left
      · intro o ho
        simp only [List.getElem?_toArray, List.getElem?_cons_succ, List.getElem?_cons_zero, Option.some.injEq] at ho
        subst ho
        refine ⟨by rfl, fun w hSw => ?_⟩
        try dsimp only at hSw
        go_simp
        try with_reducible rfl
      try simp only [Act.put, List.setIfInBounds_toArray, List.set_cons_zero, List.set_cons_succ]
      refine takeH 10 (some 40) ?_ (by rfl) (by kernel_rfl) (by kernel_rfl) (by kernel_rfl) (fun _ _ _ h => h) ?_ hHeld ?_
      rotate_left
      · intro o ho
        simp only [List.getElem?_toArray, List.getElem?_cons_succ, List.getElem?_cons_zero, Option.some.injEq] at ho
        subst ho
        refine ⟨by rfl, fun w hSw => ?_⟩
        try dsimp only at hSw
        go_simp
        try with_reducible rfl
      try simp only [Act.put, List.setIfInBounds_toArray, List.set_cons_zero, List.set_cons_succ]
      refine takeH 11 (some 41) ?_ (by rfl) (by kernel_rfl) (by kernel_rfl) (by kernel_rfl) (fun _ _ _ h => h) ?_ hHeld ?_
      rotate_left
      · intro o ho
        simp only [List.getElem?_toArray, List.getElem?_cons_succ, List.getElem?_cons_zero, Option.some.injEq] at ho
        subst ho
        refine ⟨by rfl, fun w hSw => ?_⟩
        try dsimp only at hSw
        go_simp
        try with_reducible rfl
      try simp only [Act.put, List.setIfInBounds_toArray, List.set_cons_zero, List.set_cons_succ]
      refine takeH 12 (some 42) ?_ (by rfl) (by kernel_rfl) (by kernel_rfl) (by kernel_rfl) (fun _ _ _ h => h) ?_ hHeld ?_
      rotate_left
      · intro o ho
        simp only [List.getElem?_toArray, List.getElem?_cons_succ, List.getElem?_cons_zero, Option.some.injEq] at ho
        subst ho
        refine ⟨by rfl, fun w hSw => ?_⟩
        try dsimp only at hSw
        go_simp
        try with_reducible rfl
      try simp only [Act.put, List.setIfInBounds_toArray, List.set_cons_zero, List.set_cons_succ]
      refine takeH 13 (some 43) ?_ (by rfl) (by kernel_rfl) (by kernel_rfl) (by kernel_rfl) (fun _ _ _ h => h) ?_ hHeld ?_
      rotate_left
      · intro o ho
        simp only [List.getElem?_toArray, List.getElem?_cons_succ, List.getElem?_cons_zero, Option.some.injEq] at ho
        subst ho
        refine ⟨by rfl, fun w hSw => ?_⟩
        try dsimp only at hSw
        go_simp
        try with_reducible rfl
      try simp only [Act.put, List.setIfInBounds_toArray, List.set_cons_zero, List.set_cons_succ]
      refine takeH 14 (some 44) ?_ (by rfl) (by kernel_rfl) (by kernel_rfl) (by kernel_rfl) (fun _ _ _ h => h) ?_ hHeld ?_
      rotate_left
      · intro o ho
        simp only [List.getElem?_toArray, List.getElem?_cons_succ, List.getElem?_cons_zero, Option.some.injEq] at ho
        subst ho
        refine ⟨by rfl, fun w hSw => ?_⟩
        try dsimp only at hSw
        go_simp
        try with_reducible rfl
      try simp only [Act.put, List.setIfInBounds_toArray, List.set_cons_zero, List.set_cons_succ]
      refine takeH 15 (some 45) ?_ (by rfl) (by kernel_rfl) (by kernel_rfl) (by kernel_rfl) (fun _ _ _ h => h) ?_ hHeld ?_
      rotate_left
      · intro o ho
        simp only [List.getElem?_toArray, List.getElem?_cons_succ, List.getElem?_cons_zero, Option.some.injEq] at ho
        subst ho
        refine ⟨by rfl, fun w hSw => ?_⟩
        try dsimp only at hSw
        go_simp
        try with_reducible rfl
      try simp only [Act.put, List.setIfInBounds_toArray, List.set_cons_zero, List.set_cons_succ]
      refine takeH 16 (some 46) ?_ (by rfl) (by kernel_rfl) (by kernel_rfl) (by kernel_rfl) (fun _ _ _ h => h) ?_ hHeld ?_
      rotate_left
      · intro o ho
        simp only [List.getElem?_toArray, List.getElem?_cons_succ, List.getElem?_cons_zero, Option.some.injEq] at ho
        subst ho
        refine ⟨by rfl, fun w hSw => ?_⟩
        try dsimp only at hSw
        go_simp
        try with_reducible rfl
      try simp only [Act.put, List.setIfInBounds_toArray, List.set_cons_zero, List.set_cons_succ]
      refine takeH 17 (some 47) ?_ (by rfl) (by kernel_rfl) (by kernel_rfl) (by kernel_rfl) (fun _ _ _ h => h) ?_ hHeld ?_
      rotate_left
      · intro o ho
        simp only [List.getElem?_toArray, List.getElem?_cons_succ, List.getElem?_cons_zero, Option.some.injEq] at ho
        subst ho
        refine ⟨by rfl, fun w hSw => ?_⟩
        try dsimp only at hSw
        go_simp
        try with_reducible rfl
      try simp only [Act.put, List.setIfInBounds_toArray, List.set_cons_zero, List.set_cons_succ]
      refine takeH 18 (some 48) ?_ (by rfl) (by kernel_rfl) (by kernel_rfl) (by kernel_rfl) (fun _ _ _ h => h) ?_ hHeld ?_
      rotate_left
      · intro o ho
        simp only [List.getElem?_toArray, List.getElem?_cons_succ, List.getElem?_cons_zero, Option.some.injEq] at ho
        subst ho
        refine ⟨by rfl, fun w hSw => ?_⟩
        try dsimp only at hSw
        go_simp
        try with_reducible rfl
      try simp only [Act.put, List.setIfInBounds_toArray, List.set_cons_zero, List.set_cons_succ]
      refine takeH 19 (some 49) ?_ (by rfl) (by kernel_rfl) (by kernel_rfl) (by kernel_rfl) (fun _ _ _ h => h) ?_ hHeld ?_
      rotate_left
      · intro o ho
        simp only [List.getElem?_toArray, List.getElem?_cons_succ, List.getElem?_cons_zero, Option.some.injEq] at ho
        subst ho
        refine ⟨by rfl, fun w hSw => ?_⟩
        try dsimp only at hSw
        go_simp
        try with_reducible rfl
      try simp only [Act.put, List.setIfInBounds_toArray, List.set_cons_zero, List.set_cons_succ]
      refine takeH 20 (some 50) ?_ (by rfl) (by kernel_rfl) (by kernel_rfl) (by kernel_rfl) (fun _ _ _ h => h) ?_ hHeld ?_
      rotate_left
      · intro o ho
        simp only [List.getElem?_toArray, List.getElem?_cons_succ, List.getElem?_cons_zero, Option.some.injEq] at ho
        subst ho
        refine ⟨by rfl, fun w hSw => ?_⟩
        try dsimp only at hSw
        go_simp
        try with_reducible rfl
      try simp only [Act.put, List.setIfInBounds_toArray, List.set_cons_zero, List.set_cons_succ]
      refine takeH 22 (some 52) ?_ (by rfl) (by kernel_rfl) (by kernel_rfl) (by kernel_rfl) (fun _ _ _ h => h) ?_ hHeld ?_
      rotate_left
      · intro o ho
        simp only [List.getElem?_toArray, List.getElem?_cons_succ, List.getElem?_cons_zero, Option.some.injEq] at ho
        subst ho
        refine ⟨by rfl, fun w hSw => ?_⟩
        try dsimp only at hSw
        go_simp
        try with_reducible rfl
      try simp only [Act.put, List.setIfInBounds_toArray, List.set_cons_zero, List.set_cons_succ]
      refine oneH 21 (by kernel_rfl) (by rfl) (fun o ho K hK => ?_)
      simp only [List.getElem?_toArray, List.getElem?_cons_succ, List.getElem?_cons_zero, Option.some.injEq] at ho
      subst ho
      go_simp
      refine (state_cv t r o z HZ.out _).mono ?_
      rintro e v1 ⟨rfl, q1⟩
      have b1 := nodrew q1
      try go_wp2_with fail
      refine hK.out _ _ ?_ (fun hHeld2 => ?_)
      · exact ⟨cb b1 a0, cb b1 a1, cb b1 a2, cb b1 c0, cb b1 c1, cb b1 c2, cb b1 e0, cb b1 e1, cb b1 e2, cb b1 d0, cb b1 d1, cb b1 d2⟩
      clear hK K hHeld
      rename _ => hHeld
      try simp only [Act.put, List.setIfInBounds_toArray, List.set_cons_zero, List.set_cons_succ]
      refine takeH 23 (some 53) ?_ (by rfl) (by kernel_rfl) (by kernel_rfl) (by kernel_rfl) (fun _ _ _ h => h) ?_ hHeld ?_
      rotate_left
      · intro o ho
        simp only [List.getElem?_toArray, List.getElem?_cons_succ, List.getElem?_cons_zero, Option.some.injEq] at ho
        subst ho
        refine ⟨by rfl, fun w hSw => ?_⟩
        try dsimp only at hSw
        go_simp
        try with_reducible rfl
      try simp only [Act.put, List.setIfInBounds_toArray, List.set_cons_zero, List.set_cons_succ]
      refine takeH 24 (some 54) ?_ (by rfl) (by kernel_rfl) (by kernel_rfl) (by kernel_rfl) (fun _ _ _ h => h) ?_ hHeld ?_
      rotate_left
      · intro o ho
        simp only [List.getElem?_toArray, List.getElem?_cons_succ, List.getElem?_cons_zero, Option.some.injEq] at ho
        subst ho
        refine ⟨by rfl, fun w hSw => ?_⟩
        try dsimp only at hSw
        go_simp
        try with_reducible rfl
      try simp only [Act.put, List.setIfInBounds_toArray, List.set_cons_zero, List.set_cons_succ]
      refine takeH 25 (some 55) ?_ (by rfl) (by kernel_rfl) (by kernel_rfl) (by kernel_rfl) (fun _ _ _ h => h) ?_ hHeld ?_
      rotate_left
      · intro o ho
        simp only [List.getElem?_toArray, List.getElem?_cons_succ, List.getElem?_cons_zero, Option.some.injEq] at ho
        subst ho
        refine ⟨by rfl, fun w hSw => ?_⟩
        try dsimp only at hSw
        go_simp
        try with_reducible rfl
      try simp only [Act.put, List.setIfInBounds_toArray, List.set_cons_zero, List.set_cons_succ]
      refine takeH 26 (some 56) ?_ (by rfl) (by kernel_rfl) (by kernel_rfl) (by kernel_rfl) (fun _ _ _ h => h) ?_ hHeld ?_
      rotate_left
      · intro o ho
        simp only [List.getElem?_toArray, List.getElem?_cons_succ, List.getElem?_cons_zero, Option.some.injEq] at ho
        subst ho
        refine ⟨by rfl, fun w hSw => ?_⟩
        try dsimp only at hSw
        go_simp
        try with_reducible rfl
      try simp only [Act.put, List.setIfInBounds_toArray, List.set_cons_zero, List.set_cons_succ]
      refine takeH 29 (some 59) ?_ (by rfl) (by kernel_rfl) (by kernel_rfl) (by kernel_rfl) (fun _ _ _ h => h) ?_ hHeld ?_
      rotate_left
      · intro o ho
        simp only [List.getElem?_toArray, List.getElem?_cons_succ, List.getElem?_cons_zero, Option.some.injEq] at ho
        subst ho
        refine ⟨by rfl, fun w hSw => ?_⟩
        try dsimp only at hSw
        go_simp
        try with_reducible rfl
      try simp only [Act.put, List.setIfInBounds_toArray, List.set_cons_zero, List.set_cons_succ]
      refine oneH 27 (by kernel_rfl) (by rfl) (fun o ho K hK => ?_)
      simp only [List.getElem?_toArray, List.getElem?_cons_succ, List.getElem?_cons_zero, Option.some.injEq] at ho
      subst ho
      go_simp
      refine (check_cv t r o 0 (by rw [HO.out]; rfl) _).mono ?_
      rintro e v2 ⟨rfl, q2⟩
      have b2 := below_step b1 q2
      try go_wp2_with fail
      refine hK.out _ _ ?_ (fun hHeld2 => ?_)
      · exact ⟨cb b2 a0, cb b2 a1, cb b2 a2, cb b2 c0, cb b2 c1, cb b2 c2, cb b2 e0, cb b2 e1, cb b2 e2, cb b2 d0, cb b2 d1, cb b2 d2⟩
      clear hK K hHeld
      rename _ => hHeld
      try simp only [Act.put, List.setIfInBounds_toArray, List.set_cons_zero, List.set_cons_succ]
      refine takeH 28 (some 58) ?_ (by rfl) (by kernel_rfl) (by kernel_rfl) (by kernel_rfl) (fun _ _ _ h => h) ?_ hHeld ?_
      rotate_left
      · intro o ho
        simp only [List.getElem?_toArray, List.getElem?_cons_succ, List.getElem?_cons_zero, Option.some.injEq] at ho
        subst ho
        refine ⟨by rfl, fun w hSw => ?_⟩
        try dsimp only at hSw
        go_simp
        try with_reducible rfl
      try simp only [Act.put, List.setIfInBounds_toArray, List.set_cons_zero, List.set_cons_succ]
      refine oneH 30 (by kernel_rfl) (by rfl) (fun o ho K hK => ?_)
      simp only [List.getElem?_toArray, List.getElem?_cons_succ, List.getElem?_cons_zero, Option.some.injEq] at ho
      subst ho
      go_simp
      refine (right_calls t r o true HO.out _).mono ?_
      rintro e v3 ⟨rfl, q3⟩
      have b3 := below_step b2 q3
      try go_wp2_with fail
      refine hK.out _ _ ?_ (fun hHeld2 => ?_)
      · exact ⟨cb b3 a0, cb b3 a1, cb b3 a2, cb b3 c0, cb b3 c1, cb b3 c2, cb b3 e0, cb b3 e1, cb b3 e2, cb b3 d0, cb b3 d1, cb b3 d2⟩
      clear hK K hHeld
      rename _ => hHeld
      try simp only [Act.put, List.setIfInBounds_toArray, List.set_cons_zero, List.set_cons_succ]
      refine takeH 31 (some 61) ?_ (by rfl) (by kernel_rfl) (by kernel_rfl) (by kernel_rfl) (fun _ _ _ h => h) ?_ hHeld ?_
      rotate_left
      · intro o ho
        simp only [List.getElem?_toArray, List.getElem?_cons_succ, List.getElem?_cons_zero, Option.some.injEq] at ho
        subst ho
        refine ⟨by rfl, fun w hSw => ?_⟩
        try dsimp only at hSw
        go_simp
        try with_reducible rfl
      try simp only [Act.put, List.setIfInBounds_toArray, List.set_cons_zero, List.set_cons_succ]
      refine takeH 32 (some 62) ?_ (by rfl) (by kernel_rfl) (by kernel_rfl) (by kernel_rfl) (fun _ _ _ h => h) ?_ hHeld ?_
      rotate_left
      · intro o ho
        simp only [List.getElem?_toArray, List.getElem?_cons_succ, List.getElem?_cons_zero, Option.some.injEq] at ho
        subst ho
        refine ⟨by rfl, fun w hSw => ?_⟩
        try dsimp only at hSw
        go_simp
        try with_reducible rfl
      try simp only [Act.put, List.setIfInBounds_toArray, List.set_cons_zero, List.set_cons_succ]
      refine takeH 33 (some 63) ?_ (by rfl) (by kernel_rfl) (by kernel_rfl) (by kernel_rfl) (fun _ _ _ h => h) ?_ hHeld ?_
      rotate_left
      · intro o ho
        simp only [List.getElem?_toArray, List.getElem?_cons_succ, List.getElem?_cons_zero, Option.some.injEq] at ho
        subst ho
        refine ⟨by rfl, fun w hSw => ?_⟩
        try dsimp only at hSw
        go_simp
        try with_reducible rfl
      try simp only [Act.put, List.setIfInBounds_toArray, List.set_cons_zero, List.set_cons_succ]
      refine takeH 34 (some 64) ?_ (by rfl) (by kernel_rfl) (by kernel_rfl) (by kernel_rfl) (fun _ _ _ h => h) ?_ hHeld ?_
      rotate_left
      · intro o ho
        simp only [List.getElem?_toArray, List.getElem?_cons_succ, List.getElem?_cons_zero, Option.some.injEq] at ho
        subst ho
        refine ⟨by rfl, fun w hSw => ?_⟩
        try dsimp only at hSw
        go_simp
        try with_reducible rfl
      try simp only [Act.put, List.setIfInBounds_toArray, List.set_cons_zero, List.set_cons_succ]
      refine oneH 35 (by kernel_rfl) (by rfl) (fun o ho K hK => ?_)
      simp only [List.getElem?_toArray, List.getElem?_cons_succ, List.getElem?_cons_zero, Option.some.injEq] at ho
      subst ho
      go_simp
      refine (check_cv t r o 0 (by rw [HO.out]; rfl) _).mono ?_
      rintro e v4 ⟨rfl, q4⟩
      have b4 := below_step b3 q4
      try go_wp2_with fail
      refine hK.out _ _ ?_ (fun hHeld2 => ?_)
      · exact ⟨cb b4 a0, cb b4 a1, cb b4 a2, cb b4 c0, cb b4 c1, cb b4 c2, cb b4 e0, cb b4 e1, cb b4 e2, cb b4 d0, cb b4 d1, cb b4 d2⟩
      clear hK K hHeld
      rename _ => hHeld
      try simp only [Act.put, List.setIfInBounds_toArray, List.set_cons_zero, List.set_cons_succ]
      refine takeH 36 (some 66) ?_ (by rfl) (by kernel_rfl) (by kernel_rfl) (by kernel_rfl) (fun _ _ _ h => h) ?_ hHeld ?_
      rotate_left
      · intro o ho
        simp only [List.getElem?_toArray, List.getElem?_cons_succ, List.getElem?_cons_zero, Option.some.injEq] at ho
        subst ho
        refine ⟨by rfl, fun w hSw => ?_⟩
        try dsimp only at hSw
        go_simp
        try with_reducible rfl
      try simp only [Act.put, List.setIfInBounds_toArray, List.set_cons_zero, List.set_cons_succ]
      refine takeH 37 (some 67) ?_ (by rfl) (by kernel_rfl) (by kernel_rfl) (by kernel_rfl) (fun _ _ _ h => h) ?_ hHeld ?_
      rotate_left
      · intro o ho
        simp only [List.getElem?_toArray, List.getElem?_cons_succ, List.getElem?_cons_zero, Option.some.injEq] at ho
        subst ho
        refine ⟨by rfl, fun w hSw => ?_⟩
        try dsimp only at hSw
        go_simp
        try with_reducible rfl
      try simp only [Act.put, List.setIfInBounds_toArray, List.set_cons_zero, List.set_cons_succ]
      refine skipH 38 (some 68) (by rfl) (by kernel_rfl) (by kernel_rfl) (by kernel_rfl) (fun _ _ _ h => h) (by rfl) hHeld ?_
      try simp only [Act.put, List.setIfInBounds_toArray, List.set_cons_zero, List.set_cons_succ]
      refine skipH 39 (some 69) (by rfl) (by kernel_rfl) (by kernel_rfl) (by kernel_rfl) (fun _ _ _ h => h) (by rfl) hHeld ?_
      try simp only [Act.put, List.setIfInBounds_toArray, List.set_cons_zero, List.set_cons_succ]
      refine skipH 40 (some 70) (by rfl) (by kernel_rfl) (by kernel_rfl) (by kernel_rfl) (fun _ _ _ h => h) (by rfl) hHeld ?_
      try simp only [Act.put, List.setIfInBounds_toArray, List.set_cons_zero, List.set_cons_succ]
      refine takeH 41 (some 71) ?_ (by rfl) (by kernel_rfl) (by kernel_rfl) (by kernel_rfl) (fun _ _ _ h => h) ?_ hHeld ?_
      rotate_left
      · intro o ho
        simp only [List.getElem?_toArray, List.getElem?_cons_succ, List.getElem?_cons_zero, Option.some.injEq] at ho
        subst ho
        refine ⟨by rfl, fun w hSw => ?_⟩
        try dsimp only at hSw
        go_simp
        try with_reducible rfl
      try simp only [Act.put, List.setIfInBounds_toArray, List.set_cons_zero, List.set_cons_succ]
      refine takeH 42 (some 72) ?_ (by rfl) (by kernel_rfl) (by kernel_rfl) (by kernel_rfl) (fun _ _ _ h => h) ?_ hHeld ?_
      rotate_left
      · intro o ho
        simp only [List.getElem?_toArray, List.getElem?_cons_succ, List.getElem?_cons_zero, Option.some.injEq] at ho
        subst ho
        refine ⟨by rfl, fun w hSw => ?_⟩
        try dsimp only at hSw
        go_simp
        try with_reducible rfl
      try simp only [Act.put, List.setIfInBounds_toArray, List.set_cons_zero, List.set_cons_succ]
      refine takeH 43 (some 73) ?_ (by rfl) (by kernel_rfl) (by kernel_rfl) (by kernel_rfl) (fun _ _ _ h => h) ?_ hHeld ?_
      rotate_left
      · intro o ho
        simp only [List.getElem?_toArray, List.getElem?_cons_succ, List.getElem?_cons_zero, Option.some.injEq] at ho
        subst ho
        refine ⟨by rfl, fun w hSw => ?_⟩
        try dsimp only at hSw
        go_simp
        try with_reducible rfl
      try simp only [Act.put, List.setIfInBounds_toArray, List.set_cons_zero, List.set_cons_succ]
      refine oneH 44 (by kernel_rfl) (by rfl) (fun o ho K hK => ?_)
      simp only [List.getElem?_toArray, List.getElem?_cons_succ, List.getElem?_cons_zero, Option.some.injEq] at ho
      subst ho
      go_simp
      refine (awake_calls _).mono ?_
      rintro e v6 ⟨rfl, q6⟩
      have b6 := below_step b4 q6
      try go_wp2_with fail
      refine hK.out _ _ ?_ (fun hHeld2 => ?_)
      · exact ⟨cb b6 a0, cb b6 a1, cb b6 a2, cb b6 c0, cb b6 c1, cb b6 c2, cb b6 e0, cb b6 e1, cb b6 e2, cb b6 d0, cb b6 d1, cb b6 d2⟩
      clear hK K hHeld
      rename _ => hHeld
      try simp only [Act.put, List.setIfInBounds_toArray, List.set_cons_zero, List.set_cons_succ]
      refine takeH 45 (some 75) ?_ (by rfl) (by kernel_rfl) (by kernel_rfl) (by kernel_rfl) (fun _ _ _ h => h) ?_ hHeld ?_
      rotate_left
      · intro o ho
        simp only [List.getElem?_toArray, List.getElem?_cons_succ, List.getElem?_cons_zero, Option.some.injEq] at ho
        subst ho
        refine ⟨by rfl, fun w hSw => ?_⟩
        try dsimp only at hSw
        go_simp
        try with_reducible rfl
      try simp only [Act.put, List.setIfInBounds_toArray, List.set_cons_zero, List.set_cons_succ]
      refine takeH 46 (some 4) ?_ (by rfl) (by kernel_rfl) (by kernel_rfl) (by kernel_rfl) (fun _ _ _ h => h) ?_ hHeld ?_
      rotate_left
      · intro o ho
        simp only [List.getElem?_toArray, List.getElem?_cons_succ, List.getElem?_cons_zero, Option.some.injEq] at ho
        subst ho
        refine ⟨by rfl, fun w hSw => ?_⟩
        try dsimp only at hSw
        go_simp
        try with_reducible rfl
      try simp only [Act.put, List.setIfInBounds_toArray, List.set_cons_zero, List.set_cons_succ]
      refine wpAnyH_done (by kernel_rfl) ?_ _
      go_wp2_with fail
      go_ret
      exact ⟨rfl, below_step B8.out b6⟩
    · have HO := Aside0.mk (show ok t r o = false by simpa using hok)
      clear hok
      refine wp_region_held_drew (S := fun w' => w'.cell? ⟨W.heap.size, 0, none⟩ = some (.int .i64 t) ∧ w'.cell? ⟨W.heap.size, 1, none⟩ = some (.int .i64 r) ∧ w'.cell? ⟨W.heap.size, 2, none⟩ = some (.bool o) ∧ w'.cell? ⟨W.heap.size + 1 + 1, 0, none⟩ = some (.int .i64 t) ∧ w'.cell? ⟨W.heap.size + 1 + 1, 1, none⟩ = some (.int .i64 r) ∧ w'.cell? ⟨W.heap.size + 1 + 1, 2, none⟩ = some (.bool o) ∧ w'.cell? ⟨w4.heap.size, 0, none⟩ = some (.int .i64 t') ∧ w'.cell? ⟨w4.heap.size, 1, none⟩ = some (.int .i64 r') ∧ w'.cell? ⟨w4.heap.size, 2, none⟩ = some (.bool o') ∧ w'.cell? ⟨w6.heap.size, 0, none⟩ = some (.int .i64 t') ∧ w'.cell? ⟨w6.heap.size, 1, none⟩ = some (.int .i64 r') ∧ w'.cell? ⟨w6.heap.size, 2, none⟩ = some (.bool o')) (by kernel_rfl) ?_ (fun hHeld => ?_)
      · exact ⟨a0, a1, a2, c0, c1, c2, e0, e1, e2, d0, d1, d2⟩
      refine takeH 0 (some 30) ?_ (by rfl) (by kernel_rfl) (by kernel_rfl) (by kernel_rfl) (fun _ _ _ h => h) ?_ hHeld ?_
      rotate_left
      · intro o ho
        simp only [List.getElem?_toArray, List.getElem?_cons_zero, Option.some.injEq] at ho
        subst ho
        refine ⟨by rfl, fun w hSw => ?_⟩
        try dsimp only at hSw
        go_simp
        try with_reducible rfl
      try simp only [Act.put, List.setIfInBounds_toArray, List.set_cons_zero, List.set_cons_succ]
      refine takeH 1 (some 31) ?_ (by rfl) (by kernel_rfl) (by kernel_rfl) (by kernel_rfl) (fun _ _ _ h => h) ?_ hHeld ?_
      rotate_left
      · intro o ho
        simp only [List.getElem?_toArray, List.getElem?_cons_succ, List.getElem?_cons_zero, Option.some.injEq] at ho
        subst ho
        refine ⟨by rfl, fun w hSw => ?_⟩
        try dsimp only at hSw
        go_simp
        try with_reducible rfl
      try simp only [Act.put, List.setIfInBounds_toArray, List.set_cons_zero, List.set_cons_succ]
      refine takeH 2 (some 32) ?_ (by rfl) (by kernel_rfl) (by kernel_rfl) (by kernel_rfl) (fun _ _ _ h => h) ?_ hHeld ?_
      rotate_left
      · intro o ho
        simp only [List.getElem?_toArray, List.getElem?_cons_succ, List.getElem?_cons_zero, Option.some.injEq] at ho
        subst ho
        refine ⟨by rfl, fun w hSw => ?_⟩
        try dsimp only at hSw
        go_simp
        try with_reducible rfl
      try simp only [Act.put, List.setIfInBounds_toArray, List.set_cons_zero, List.set_cons_succ]
      refine takeH 3 (some 33) ?_ (by rfl) (by kernel_rfl) (by kernel_rfl) (by kernel_rfl) (fun _ _ _ h => h) ?_ hHeld ?_
      rotate_left
      · intro o ho
        simp only [List.getElem?_toArray, List.getElem?_cons_succ, List.getElem?_cons_zero, Option.some.injEq] at ho
        subst ho
        refine ⟨by rfl, fun w hSw => ?_⟩
        try dsimp only at hSw
        go_simp
        try with_reducible rfl
      try simp only [Act.put, List.setIfInBounds_toArray, List.set_cons_zero, List.set_cons_succ]
      refine takeH 4 (some 34) ?_ (by rfl) (by kernel_rfl) (by kernel_rfl) (by kernel_rfl) (fun _ _ _ h => h) ?_ hHeld ?_
      rotate_left
      · intro o ho
        simp only [List.getElem?_toArray, List.getElem?_cons_succ, List.getElem?_cons_zero, Option.some.injEq] at ho
        subst ho
        refine ⟨by rfl, fun w hSw => ?_⟩
        try dsimp only at hSw
        go_simp
        try with_reducible rfl
      try simp only [Act.put, List.setIfInBounds_toArray, List.set_cons_zero, List.set_cons_succ]
      refine takeH 5 (some 35) ?_ (by rfl) (by kernel_rfl) (by kernel_rfl) (by kernel_rfl) (fun _ _ _ h => h) ?_ hHeld ?_
      rotate_left
      · intro o ho
        simp only [List.getElem?_toArray, List.getElem?_cons_succ, List.getElem?_cons_zero, Option.some.injEq] at ho
        subst ho
        refine ⟨by rfl, fun w hSw => ?_⟩
        try dsimp only at hSw
        go_simp
        try with_reducible rfl
      try simp only [Act.put, List.setIfInBounds_toArray, List.set_cons_zero, List.set_cons_succ]
      refine takeH 6 (some 36) ?_ (by rfl) (by kernel_rfl) (by kernel_rfl) (by kernel_rfl) (fun _ _ _ h => h) ?_ hHeld ?_
      rotate_left
      · intro o ho
        simp only [List.getElem?_toArray, List.getElem?_cons_succ, List.getElem?_cons_zero, Option.some.injEq] at ho
        subst ho
        refine ⟨by rfl, fun w hSw => ?_⟩
        try dsimp only at hSw
        go_simp
        try with_reducible rfl
      try simp only [Act.put, List.setIfInBounds_toArray, List.set_cons_zero, List.set_cons_succ]
      refine takeH 7 (some 37) ?_ (by rfl) (by kernel_rfl) (by kernel_rfl) (by kernel_rfl) (fun _ _ _ h => h) ?_ hHeld ?_
      rotate_left
      · intro o ho
        simp only [List.getElem?_toArray, List.getElem?_cons_succ, List.getElem?_cons_zero, Option.some.injEq] at ho
        subst ho
        refine ⟨by rfl, fun w hSw => ?_⟩
        try dsimp only at hSw
        go_simp
        try with_reducible rfl
      try simp only [Act.put, List.setIfInBounds_toArray, List.set_cons_zero, List.set_cons_succ]
      refine takeH 8 (some 38) ?_ (by rfl) (by kernel_rfl) (by kernel_rfl) (by kernel_rfl) (fun _ _ _ h => h) ?_ hHeld ?_
      rotate_left
      · intro o ho
        simp only [List.getElem?_toArray, List.getElem?_cons_succ, List.getElem?_cons_zero, Option.some.injEq] at ho
        subst ho
        refine ⟨by rfl, fun w hSw => ?_⟩
        try dsimp only at hSw
        go_simp
        try with_reducible rfl
      try simp only [Act.put, List.setIfInBounds_toArray, List.set_cons_zero, List.set_cons_succ]
      refine takeH 9 (some 39) ?_ (by rfl) (by kernel_rfl) (by kernel_rfl) (by kernel_rfl) (fun _ _ _ h => h) ?_ hHeld ?_
      rotate_left
      · intro o ho
        simp only [List.getElem?_toArray, List.getElem?_cons_succ, List.getElem?_cons_zero, Option.some.injEq] at ho
        subst ho
        refine ⟨by rfl, fun w hSw => ?_⟩
        try dsimp only at hSw
        go_simp
        try with_reducible rfl
      try simp only [Act.put, List.setIfInBounds_toArray, List.set_cons_zero, List.set_cons_succ]
      refine takeH 10 (some 40) ?_ (by rfl) (by kernel_rfl) (by kernel_rfl) (by kernel_rfl) (fun _ _ _ h => h) ?_ hHeld ?_
      rotate_left
      · intro o ho
        simp only [List.getElem?_toArray, List.getElem?_cons_succ, List.getElem?_cons_zero, Option.some.injEq] at ho
        subst ho
        refine ⟨by rfl, fun w hSw => ?_⟩
        try dsimp only at hSw
        go_simp
        try with_reducible rfl
      try simp only [Act.put, List.setIfInBounds_toArray, List.set_cons_zero, List.set_cons_succ]
      refine takeH 11 (some 41) ?_ (by rfl) (by kernel_rfl) (by kernel_rfl) (by kernel_rfl) (fun _ _ _ h => h) ?_ hHeld ?_
      rotate_left
      · intro o ho
        simp only [List.getElem?_toArray, List.getElem?_cons_succ, List.getElem?_cons_zero, Option.some.injEq] at ho
        subst ho
        refine ⟨by rfl, fun w hSw => ?_⟩
        try dsimp only at hSw
        go_simp
        try with_reducible rfl
      try simp only [Act.put, List.setIfInBounds_toArray, List.set_cons_zero, List.set_cons_succ]
      refine takeH 12 (some 42) ?_ (by rfl) (by kernel_rfl) (by kernel_rfl) (by kernel_rfl) (fun _ _ _ h => h) ?_ hHeld ?_
      rotate_left
      · intro o ho
        simp only [List.getElem?_toArray, List.getElem?_cons_succ, List.getElem?_cons_zero, Option.some.injEq] at ho
        subst ho
        refine ⟨by rfl, fun w hSw => ?_⟩
        try dsimp only at hSw
        go_simp
        try with_reducible rfl
      try simp only [Act.put, List.setIfInBounds_toArray, List.set_cons_zero, List.set_cons_succ]
      refine takeH 13 (some 43) ?_ (by rfl) (by kernel_rfl) (by kernel_rfl) (by kernel_rfl) (fun _ _ _ h => h) ?_ hHeld ?_
      rotate_left
      · intro o ho
        simp only [List.getElem?_toArray, List.getElem?_cons_succ, List.getElem?_cons_zero, Option.some.injEq] at ho
        subst ho
        refine ⟨by rfl, fun w hSw => ?_⟩
        try dsimp only at hSw
        go_simp
        try with_reducible rfl
      try simp only [Act.put, List.setIfInBounds_toArray, List.set_cons_zero, List.set_cons_succ]
      refine takeH 14 (some 44) ?_ (by rfl) (by kernel_rfl) (by kernel_rfl) (by kernel_rfl) (fun _ _ _ h => h) ?_ hHeld ?_
      rotate_left
      · intro o ho
        simp only [List.getElem?_toArray, List.getElem?_cons_succ, List.getElem?_cons_zero, Option.some.injEq] at ho
        subst ho
        refine ⟨by rfl, fun w hSw => ?_⟩
        try dsimp only at hSw
        go_simp
        try with_reducible rfl
      try simp only [Act.put, List.setIfInBounds_toArray, List.set_cons_zero, List.set_cons_succ]
      refine takeH 15 (some 45) ?_ (by rfl) (by kernel_rfl) (by kernel_rfl) (by kernel_rfl) (fun _ _ _ h => h) ?_ hHeld ?_
      rotate_left
      · intro o ho
        simp only [List.getElem?_toArray, List.getElem?_cons_succ, List.getElem?_cons_zero, Option.some.injEq] at ho
        subst ho
        refine ⟨by rfl, fun w hSw => ?_⟩
        try dsimp only at hSw
        go_simp
        try with_reducible rfl
      try simp only [Act.put, List.setIfInBounds_toArray, List.set_cons_zero, List.set_cons_succ]
      refine takeH 16 (some 46) ?_ (by rfl) (by kernel_rfl) (by kernel_rfl) (by kernel_rfl) (fun _ _ _ h => h) ?_ hHeld ?_
      rotate_left
      · intro o ho
        simp only [List.getElem?_toArray, List.getElem?_cons_succ, List.getElem?_cons_zero, Option.some.injEq] at ho
        subst ho
        refine ⟨by rfl, fun w hSw => ?_⟩
        try dsimp only at hSw
        go_simp
        try with_reducible rfl
      try simp only [Act.put, List.setIfInBounds_toArray, List.set_cons_zero, List.set_cons_succ]
      refine takeH 17 (some 47) ?_ (by rfl) (by kernel_rfl) (by kernel_rfl) (by kernel_rfl) (fun _ _ _ h => h) ?_ hHeld ?_
      rotate_left
      · intro o ho
        simp only [List.getElem?_toArray, List.getElem?_cons_succ, List.getElem?_cons_zero, Option.some.injEq] at ho
        subst ho
        refine ⟨by rfl, fun w hSw => ?_⟩
        try dsimp only at hSw
        go_simp
        try with_reducible rfl
      try simp only [Act.put, List.setIfInBounds_toArray, List.set_cons_zero, List.set_cons_succ]
      refine takeH 18 (some 48) ?_ (by rfl) (by kernel_rfl) (by kernel_rfl) (by kernel_rfl) (fun _ _ _ h => h) ?_ hHeld ?_
      rotate_left
      · intro o ho
        simp only [List.getElem?_toArray, List.getElem?_cons_succ, List.getElem?_cons_zero, Option.some.injEq] at ho
        subst ho
        refine ⟨by rfl, fun w hSw => ?_⟩
        try dsimp only at hSw
        go_simp
        try with_reducible rfl
      try simp only [Act.put, List.setIfInBounds_toArray, List.set_cons_zero, List.set_cons_succ]
      refine takeH 19 (some 49) ?_ (by rfl) (by kernel_rfl) (by kernel_rfl) (by kernel_rfl) (fun _ _ _ h => h) ?_ hHeld ?_
      rotate_left
      · intro o ho
        simp only [List.getElem?_toArray, List.getElem?_cons_succ, List.getElem?_cons_zero, Option.some.injEq] at ho
        subst ho
        refine ⟨by rfl, fun w hSw => ?_⟩
        try dsimp only at hSw
        go_simp
        try with_reducible rfl
      try simp only [Act.put, List.setIfInBounds_toArray, List.set_cons_zero, List.set_cons_succ]
      refine takeH 20 (some 50) ?_ (by rfl) (by kernel_rfl) (by kernel_rfl) (by kernel_rfl) (fun _ _ _ h => h) ?_ hHeld ?_
      rotate_left
      · intro o ho
        simp only [List.getElem?_toArray, List.getElem?_cons_succ, List.getElem?_cons_zero, Option.some.injEq] at ho
        subst ho
        refine ⟨by rfl, fun w hSw => ?_⟩
        try dsimp only at hSw
        go_simp
        try with_reducible rfl
      try simp only [Act.put, List.setIfInBounds_toArray, List.set_cons_zero, List.set_cons_succ]
      refine takeH 22 (some 52) ?_ (by rfl) (by kernel_rfl) (by kernel_rfl) (by kernel_rfl) (fun _ _ _ h => h) ?_ hHeld ?_
      rotate_left
      · intro o ho
        simp only [List.getElem?_toArray, List.getElem?_cons_succ, List.getElem?_cons_zero, Option.some.injEq] at ho
        subst ho
        refine ⟨by rfl, fun w hSw => ?_⟩
        try dsimp only at hSw
        go_simp
        try with_reducible rfl
      try simp only [Act.put, List.setIfInBounds_toArray, List.set_cons_zero, List.set_cons_succ]
      refine oneH 21 (by kernel_rfl) (by rfl) (fun o ho K hK => ?_)
      simp only [List.getElem?_toArray, List.getElem?_cons_succ, List.getElem?_cons_zero, Option.some.injEq] at ho
      subst ho
      go_simp
      refine (state_cv t r o z HZ.out _).mono ?_
      rintro e v1 ⟨rfl, q1⟩
      have b1 := nodrew q1
      try go_wp2_with fail
      refine hK.out _ _ ?_ (fun hHeld2 => ?_)
      · exact ⟨cb b1 a0, cb b1 a1, cb b1 a2, cb b1 c0, cb b1 c1, cb b1 c2, cb b1 e0, cb b1 e1, cb b1 e2, cb b1 d0, cb b1 d1, cb b1 d2⟩
      clear hK K hHeld
      rename _ => hHeld
      try simp only [Act.put, List.setIfInBounds_toArray, List.set_cons_zero, List.set_cons_succ]
      refine takeH 23 (some 53) ?_ (by rfl) (by kernel_rfl) (by kernel_rfl) (by kernel_rfl) (fun _ _ _ h => h) ?_ hHeld ?_
      rotate_left
      · intro o ho
        simp only [List.getElem?_toArray, List.getElem?_cons_succ, List.getElem?_cons_zero, Option.some.injEq] at ho
        subst ho
        refine ⟨by rfl, fun w hSw => ?_⟩
        try dsimp only at hSw
        go_simp
        try with_reducible rfl
      try simp only [Act.put, List.setIfInBounds_toArray, List.set_cons_zero, List.set_cons_succ]
      refine takeH 24 (some 54) ?_ (by rfl) (by kernel_rfl) (by kernel_rfl) (by kernel_rfl) (fun _ _ _ h => h) ?_ hHeld ?_
      rotate_left
      · intro o ho
        simp only [List.getElem?_toArray, List.getElem?_cons_succ, List.getElem?_cons_zero, Option.some.injEq] at ho
        subst ho
        refine ⟨by rfl, fun w hSw => ?_⟩
        try dsimp only at hSw
        go_simp
        try with_reducible rfl
      try simp only [Act.put, List.setIfInBounds_toArray, List.set_cons_zero, List.set_cons_succ]
      refine takeH 25 (some 55) ?_ (by rfl) (by kernel_rfl) (by kernel_rfl) (by kernel_rfl) (fun _ _ _ h => h) ?_ hHeld ?_
      rotate_left
      · intro o ho
        simp only [List.getElem?_toArray, List.getElem?_cons_succ, List.getElem?_cons_zero, Option.some.injEq] at ho
        subst ho
        refine ⟨by rfl, fun w hSw => ?_⟩
        try dsimp only at hSw
        go_simp
        try with_reducible rfl
      try simp only [Act.put, List.setIfInBounds_toArray, List.set_cons_zero, List.set_cons_succ]
      refine takeH 26 (some 56) ?_ (by rfl) (by kernel_rfl) (by kernel_rfl) (by kernel_rfl) (fun _ _ _ h => h) ?_ hHeld ?_
      rotate_left
      · intro o ho
        simp only [List.getElem?_toArray, List.getElem?_cons_succ, List.getElem?_cons_zero, Option.some.injEq] at ho
        subst ho
        refine ⟨by rfl, fun w hSw => ?_⟩
        try dsimp only at hSw
        go_simp
        try with_reducible rfl
      try simp only [Act.put, List.setIfInBounds_toArray, List.set_cons_zero, List.set_cons_succ]
      refine takeH 29 (some 59) ?_ (by rfl) (by kernel_rfl) (by kernel_rfl) (by kernel_rfl) (fun _ _ _ h => h) ?_ hHeld ?_
      rotate_left
      · intro o ho
        simp only [List.getElem?_toArray, List.getElem?_cons_succ, List.getElem?_cons_zero, Option.some.injEq] at ho
        subst ho
        refine ⟨by rfl, fun w hSw => ?_⟩
        try dsimp only at hSw
        go_simp
        try with_reducible rfl
      try simp only [Act.put, List.setIfInBounds_toArray, List.set_cons_zero, List.set_cons_succ]
      refine oneH 27 (by kernel_rfl) (by rfl) (fun o ho K hK => ?_)
      simp only [List.getElem?_toArray, List.getElem?_cons_succ, List.getElem?_cons_zero, Option.some.injEq] at ho
      subst ho
      go_simp
      refine (check_cv t r o 10 (by rw [HO.out]; rfl) _).mono ?_
      rintro e v2 ⟨rfl, q2⟩
      have b2 := below_step b1 q2
      try go_wp2_with fail
      refine hK.out _ _ ?_ (fun hHeld2 => ?_)
      · exact ⟨cb b2 a0, cb b2 a1, cb b2 a2, cb b2 c0, cb b2 c1, cb b2 c2, cb b2 e0, cb b2 e1, cb b2 e2, cb b2 d0, cb b2 d1, cb b2 d2⟩
      clear hK K hHeld
      rename _ => hHeld
      try simp only [Act.put, List.setIfInBounds_toArray, List.set_cons_zero, List.set_cons_succ]
      refine takeH 28 (some 58) ?_ (by rfl) (by kernel_rfl) (by kernel_rfl) (by kernel_rfl) (fun _ _ _ h => h) ?_ hHeld ?_
      rotate_left
      · intro o ho
        simp only [List.getElem?_toArray, List.getElem?_cons_succ, List.getElem?_cons_zero, Option.some.injEq] at ho
        subst ho
        refine ⟨by rfl, fun w hSw => ?_⟩
        try dsimp only at hSw
        go_simp
        try with_reducible rfl
      try simp only [Act.put, List.setIfInBounds_toArray, List.set_cons_zero, List.set_cons_succ]
      refine oneH 30 (by kernel_rfl) (by rfl) (fun o ho K hK => ?_)
      simp only [List.getElem?_toArray, List.getElem?_cons_succ, List.getElem?_cons_zero, Option.some.injEq] at ho
      subst ho
      go_simp
      refine (right_calls t r o false HO.out _).mono ?_
      rintro e v3 ⟨rfl, q3⟩
      have b3 := below_step b2 q3
      try go_wp2_with fail
      refine hK.out _ _ ?_ (fun hHeld2 => ?_)
      · exact ⟨cb b3 a0, cb b3 a1, cb b3 a2, cb b3 c0, cb b3 c1, cb b3 c2, cb b3 e0, cb b3 e1, cb b3 e2, cb b3 d0, cb b3 d1, cb b3 d2⟩
      clear hK K hHeld
      rename _ => hHeld
      try simp only [Act.put, List.setIfInBounds_toArray, List.set_cons_zero, List.set_cons_succ]
      refine takeH 31 (some 61) ?_ (by rfl) (by kernel_rfl) (by kernel_rfl) (by kernel_rfl) (fun _ _ _ h => h) ?_ hHeld ?_
      rotate_left
      · intro o ho
        simp only [List.getElem?_toArray, List.getElem?_cons_succ, List.getElem?_cons_zero, Option.some.injEq] at ho
        subst ho
        refine ⟨by rfl, fun w hSw => ?_⟩
        try dsimp only at hSw
        go_simp
        try with_reducible rfl
      try simp only [Act.put, List.setIfInBounds_toArray, List.set_cons_zero, List.set_cons_succ]
      refine takeH 32 (some 62) ?_ (by rfl) (by kernel_rfl) (by kernel_rfl) (by kernel_rfl) (fun _ _ _ h => h) ?_ hHeld ?_
      rotate_left
      · intro o ho
        simp only [List.getElem?_toArray, List.getElem?_cons_succ, List.getElem?_cons_zero, Option.some.injEq] at ho
        subst ho
        refine ⟨by rfl, fun w hSw => ?_⟩
        try dsimp only at hSw
        go_simp
        try with_reducible rfl
      try simp only [Act.put, List.setIfInBounds_toArray, List.set_cons_zero, List.set_cons_succ]
      refine takeH 33 (some 63) ?_ (by rfl) (by kernel_rfl) (by kernel_rfl) (by kernel_rfl) (fun _ _ _ h => h) ?_ hHeld ?_
      rotate_left
      · intro o ho
        simp only [List.getElem?_toArray, List.getElem?_cons_succ, List.getElem?_cons_zero, Option.some.injEq] at ho
        subst ho
        refine ⟨by rfl, fun w hSw => ?_⟩
        try dsimp only at hSw
        go_simp
        try with_reducible rfl
      try simp only [Act.put, List.setIfInBounds_toArray, List.set_cons_zero, List.set_cons_succ]
      refine takeH 34 (some 64) ?_ (by rfl) (by kernel_rfl) (by kernel_rfl) (by kernel_rfl) (fun _ _ _ h => h) ?_ hHeld ?_
      rotate_left
      · intro o ho
        simp only [List.getElem?_toArray, List.getElem?_cons_succ, List.getElem?_cons_zero, Option.some.injEq] at ho
        subst ho
        refine ⟨by rfl, fun w hSw => ?_⟩
        try dsimp only at hSw
        go_simp
        try with_reducible rfl
      try simp only [Act.put, List.setIfInBounds_toArray, List.set_cons_zero, List.set_cons_succ]
      refine oneH 35 (by kernel_rfl) (by rfl) (fun o ho K hK => ?_)
      simp only [List.getElem?_toArray, List.getElem?_cons_succ, List.getElem?_cons_zero, Option.some.injEq] at ho
      subst ho
      go_simp
      refine (check_cv t r o 10 (by rw [HO.out]; rfl) _).mono ?_
      rintro e v4 ⟨rfl, q4⟩
      have b4 := below_step b3 q4
      try go_wp2_with fail
      refine hK.out _ _ ?_ (fun hHeld2 => ?_)
      · exact ⟨cb b4 a0, cb b4 a1, cb b4 a2, cb b4 c0, cb b4 c1, cb b4 c2, cb b4 e0, cb b4 e1, cb b4 e2, cb b4 d0, cb b4 d1, cb b4 d2⟩
      clear hK K hHeld
      rename _ => hHeld
      try simp only [Act.put, List.setIfInBounds_toArray, List.set_cons_zero, List.set_cons_succ]
      refine takeH 36 (some 66) ?_ (by rfl) (by kernel_rfl) (by kernel_rfl) (by kernel_rfl) (fun _ _ _ h => h) ?_ hHeld ?_
      rotate_left
      · intro o ho
        simp only [List.getElem?_toArray, List.getElem?_cons_succ, List.getElem?_cons_zero, Option.some.injEq] at ho
        subst ho
        refine ⟨by rfl, fun w hSw => ?_⟩
        try dsimp only at hSw
        go_simp
        try with_reducible rfl
      try simp only [Act.put, List.setIfInBounds_toArray, List.set_cons_zero, List.set_cons_succ]
      refine takeH 37 (some 67) ?_ (by rfl) (by kernel_rfl) (by kernel_rfl) (by kernel_rfl) (fun _ _ _ h => h) ?_ hHeld ?_
      rotate_left
      · intro o ho
        simp only [List.getElem?_toArray, List.getElem?_cons_succ, List.getElem?_cons_zero, Option.some.injEq] at ho
        subst ho
        refine ⟨by rfl, fun w hSw => ?_⟩
        try dsimp only at hSw
        go_simp
        try with_reducible rfl
      try simp only [Act.put, List.setIfInBounds_toArray, List.set_cons_zero, List.set_cons_succ]
      refine takeH 38 (some 68) ?_ (by rfl) (by kernel_rfl) (by kernel_rfl) (by kernel_rfl) (fun _ _ _ h => h) ?_ hHeld ?_
      rotate_left
      · intro o ho
        simp only [List.getElem?_toArray, List.getElem?_cons_succ, List.getElem?_cons_zero, Option.some.injEq] at ho
        subst ho
        refine ⟨by rfl, fun w hSw => ?_⟩
        try dsimp only at hSw
        go_simp
        try with_reducible rfl
      try simp only [Act.put, List.setIfInBounds_toArray, List.set_cons_zero, List.set_cons_succ]
      refine oneH 39 (by kernel_rfl) (by rfl) (fun o ho K hK => ?_)
      simp only [List.getElem?_toArray, List.getElem?_cons_succ, List.getElem?_cons_zero, Option.some.injEq] at ho
      subst ho
      go_simp
      refine (check_cv t r o 10 (by rw [HO.out]; rfl) _).mono ?_
      rintro e v5 ⟨rfl, q5⟩
      have b5 := below_step b4 q5
      try go_wp2_with fail
      refine hK.out _ _ ?_ (fun hHeld2 => ?_)
      · exact ⟨cb b5 a0, cb b5 a1, cb b5 a2, cb b5 c0, cb b5 c1, cb b5 c2, cb b5 e0, cb b5 e1, cb b5 e2, cb b5 d0, cb b5 d1, cb b5 d2⟩
      clear hK K hHeld
      rename _ => hHeld
      try simp only [Act.put, List.setIfInBounds_toArray, List.set_cons_zero, List.set_cons_succ]
      refine takeH 40 (some 70) ?_ (by rfl) (by kernel_rfl) (by kernel_rfl) (by kernel_rfl) (fun _ _ _ h => h) ?_ hHeld ?_
      rotate_left
      · intro o ho
        simp only [List.getElem?_toArray, List.getElem?_cons_succ, List.getElem?_cons_zero, Option.some.injEq] at ho
        subst ho
        refine ⟨by rfl, fun w hSw => ?_⟩
        try dsimp only at hSw
        go_simp
        try with_reducible rfl
      try simp only [Act.put, List.setIfInBounds_toArray, List.set_cons_zero, List.set_cons_succ]
      refine takeH 41 (some 71) ?_ (by rfl) (by kernel_rfl) (by kernel_rfl) (by kernel_rfl) (fun _ _ _ h => h) ?_ hHeld ?_
      rotate_left
      · intro o ho
        simp only [List.getElem?_toArray, List.getElem?_cons_succ, List.getElem?_cons_zero, Option.some.injEq] at ho
        subst ho
        refine ⟨by rfl, fun w hSw => ?_⟩
        try dsimp only at hSw
        go_simp
        try with_reducible rfl
      try simp only [Act.put, List.setIfInBounds_toArray, List.set_cons_zero, List.set_cons_succ]
      refine takeH 42 (some 72) ?_ (by rfl) (by kernel_rfl) (by kernel_rfl) (by kernel_rfl) (fun _ _ _ h => h) ?_ hHeld ?_
      rotate_left
      · intro o ho
        simp only [List.getElem?_toArray, List.getElem?_cons_succ, List.getElem?_cons_zero, Option.some.injEq] at ho
        subst ho
        refine ⟨by rfl, fun w hSw => ?_⟩
        try dsimp only at hSw
        go_simp
        try with_reducible rfl
      try simp only [Act.put, List.setIfInBounds_toArray, List.set_cons_zero, List.set_cons_succ]
      refine takeH 43 (some 73) ?_ (by rfl) (by kernel_rfl) (by kernel_rfl) (by kernel_rfl) (fun _ _ _ h => h) ?_ hHeld ?_
      rotate_left
      · intro o ho
        simp only [List.getElem?_toArray, List.getElem?_cons_succ, List.getElem?_cons_zero, Option.some.injEq] at ho
        subst ho
        refine ⟨by rfl, fun w hSw => ?_⟩
        try dsimp only at hSw
        go_simp
        try with_reducible rfl
      try simp only [Act.put, List.setIfInBounds_toArray, List.set_cons_zero, List.set_cons_succ]
      refine oneH 44 (by kernel_rfl) (by rfl) (fun o ho K hK => ?_)
      simp only [List.getElem?_toArray, List.getElem?_cons_succ, List.getElem?_cons_zero, Option.some.injEq] at ho
      subst ho
      go_simp
      refine (awake_calls _).mono ?_
      rintro e v6 ⟨rfl, q6⟩
      have b6 := below_step b5 q6
      try go_wp2_with fail
      refine hK.out _ _ ?_ (fun hHeld2 => ?_)
      · exact ⟨cb b6 a0, cb b6 a1, cb b6 a2, cb b6 c0, cb b6 c1, cb b6 c2, cb b6 e0, cb b6 e1, cb b6 e2, cb b6 d0, cb b6 d1, cb b6 d2⟩
      clear hK K hHeld
      rename _ => hHeld
      try simp only [Act.put, List.setIfInBounds_toArray, List.set_cons_zero, List.set_cons_succ]
      refine takeH 45 (some 75) ?_ (by rfl) (by kernel_rfl) (by kernel_rfl) (by kernel_rfl) (fun _ _ _ h => h) ?_ hHeld ?_
      rotate_left
      · intro o ho
        simp only [List.getElem?_toArray, List.getElem?_cons_succ, List.getElem?_cons_zero, Option.some.injEq] at ho
        subst ho
        refine ⟨by rfl, fun w hSw => ?_⟩
        try dsimp only at hSw
        go_simp
        try with_reducible rfl
      try simp only [Act.put, List.setIfInBounds_toArray, List.set_cons_zero, List.set_cons_succ]
      refine takeH 46 (some 4) ?_ (by rfl) (by kernel_rfl) (by kernel_rfl) (by kernel_rfl) (fun _ _ _ h => h) ?_ hHeld ?_
      rotate_left
      · intro o ho
        simp only [List.getElem?_toArray, List.getElem?_cons_succ, List.getElem?_cons_zero, Option.some.injEq] at ho
        subst ho
        refine ⟨by rfl, fun w hSw => ?_⟩
        try dsimp only at hSw
        go_simp
        try with_reducible rfl
      try simp only [Act.put, List.setIfInBounds_toArray, List.set_cons_zero, List.set_cons_succ]
      refine wpAnyH_done (by kernel_rfl) ?_ _
      go_wp2_with fail
      go_ret
      exact ⟨rfl, below_step B8.out b6⟩
end Go.Proofs.Ytalonmhoamjcnaa
