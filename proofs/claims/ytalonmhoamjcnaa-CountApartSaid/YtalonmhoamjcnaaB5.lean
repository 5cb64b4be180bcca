/-
  Counts: the walk of CountRows.
-/
import Derived.Test.YtalonmhoamjcnaaB4
import Derived.Test.YtalonmhoamjcnaaR
import Derived.StillTailTactics
namespace Go.Proofs.Ytalonmhoamjcnaa
open Go.RowKit Go.Proofs.YtalonmhoamjcnaaW.PrintWords

theorem add_next (a : Addr) (n : Nat) : (⟨(a.add n).block, (a.add n).off + 1, none⟩ : Addr) = a.add (n + 1) := by
  unfold Addr.add
  by_cases h : n = 0
  · subst h; simp
  · simp [h]; omega
theorem next_cell {w : World} {a : Addr} {n : Nat} {v : Value} (h : w.cell? (a.add (n + 1)) = some v) : w.cell? ⟨(a.add n).block, (a.add n).off + 1, none⟩ = some v := by
  rw [add_next]; exact h
theorem count_other3 {W : World} {B : Nat} {t r : Int} {o : Bool} (h : CountAt W B t r o) (A : Nat) (hp : B ≠ A) (x y z : Value) : CountAt (((W.setCell ⟨A, 0, none⟩ x).setCell ⟨A, 1, none⟩ y).setCell ⟨A, 2, none⟩ z) B t r o := by
  unfold CountAt at *
  rw [Below.heap_setCell _ _ _ _ (by exact hp), Below.heap_setCell _ _ _ _ (by exact hp), Below.heap_setCell _ _ _ _ (by exact hp)]
  exact h
theorem drew_count {w : World} {B : Nat} {t r : Int} {o : Bool} (h : CountAt w B t r o) : CountAt w.drew B t r o := h

set_option maxHeartbeats 2000000 in
theorem rows_long (A : Option Addr) (len c : Nat) (W : World) (hl : 300 < len) :
    Calls Try.prog 5 #[.slice A len c] W fun e W' => e = .returned (.bool true) ∧ Below W.heap.size W W' := by
  have t0 : (300 : Int) < (len : Int) := by omega
  go_enter Try.func5, Try.ntmps5
  go_wp2_with fail
  refine (awake_calls _).mono ?_
  rintro e w1 ⟨rfl, b1⟩
  go_wp2
  go_ret
  exact ⟨rfl, b1⟩

set_option maxRecDepth 20000 in
set_option maxHeartbeats 8000000 in
theorem rows_short (A : Option Addr) (len c : Nat) (f g : Nat → Int) (W : World) (h : Comes W A len f g) (hl : len ≤ 300) :
    Calls Try.prog 5 #[.slice A len c] W fun e W' => e = .returned (.bool true) ∧ Below W.heap.size W W' := by
  have t0 : ¬ (300 : Int) < (len : Int) := by omega
  go_enter Try.func5, Try.ntmps5
  go_wp2_with fail
  obtain ⟨W1, hW1⟩ : ∃ W1, W.alloc (.cells #[.int .i64 0, .int .i64 0, .bool false] 23) = W1 := ⟨_, rfl⟩
  have C1 := count_new hW1
  have S1 : W1.heap.size = W.heap.size + 1 := by rw [← hW1]; simp
  have B1 := grow hW1
  rw [hW1]
  clear hW1
  obtain ⟨W2, hW2⟩ : ∃ W2, W1.alloc (.cells #[.int .i64 0, .int .i64 0, .bool false] 32) = W2 := ⟨_, rfl⟩
  have C2 := Aside0.mk (C1.below (grow hW2))
  have R2 := ref_new hW2
  rw [S1] at R2
  have R2 := Aside0.mk R2
  have B2 := Aside0.mk (below_step B1 (grow hW2))
  rw [hW2]
  clear hW2 C1 B1 S1
  go_loopw [5] (fun i wr => ∃ k : Nat, k ≤ len ∧ i = .int .i64 k ∧ (∃ t r o, CountAt wr W.heap.size t r o ∧ RefAt wr (W.heap.size + 1) t r o) ∧ Below W.heap.size W wr) (fun i _ => len - (intOf i).toNat)
  case atStart => exact ⟨0, by omega, rfl, ⟨0, 0, false, C2.out, R2.out⟩, B2.out⟩
  case round =>
    obtain ⟨k, hk, rfl, ⟨t, r, o, hC, hR⟩, hB⟩ := hrel
    by_cases hlt : k < len
    · obtain ⟨a, rfl, v0, v1⟩ := h k hlt
      have i0 : (0 : Int) ≤ (k : Int) := by omega
      have i1 : (k : Int) < (len : Int) := by omega
      obtain ⟨⟨t', r', o'⟩, hs⟩ : ∃ d, behind ⟨t, r, o⟩ (f k) (g k) = d := ⟨_, rfl⟩
      have HS := Aside0.mk hs
      have HR := Aside0.mk hR
      have HB := Aside0.mk hB
      have z0 := pw_cell_below hB v0
      have z1 := next_cell (pw_cell_below hB v1)
      obtain ⟨x0, x1, x2, f0, f1, f2⟩ := hC.cells
      have HC := Aside0.mk hC
      have VV := Aside0.mk (And.intro v0 v1)
      clear hs hC hR hB v0 v1
      go_wp2_with fail
      go_still_tail 5, (by kernel_rfl)
      change wpList _ _ _ _ _ wr.drew
      obtain ⟨w3, hw3⟩ : ∃ w3, wr.drew = w3 := ⟨_, rfl⟩
      have HC3 : CountAt w3 W.heap.size t r o := hw3 ▸ HC.out
      have HR3 := Aside0.mk (show RefAt w3 (W.heap.size + 1) t r o from hw3 ▸ HR.out)
      have HB3 := Aside0.mk (show Below W.heap.size W w3 from hw3 ▸ HB.out.drew)
      rw [hw3]
      clear hw3 x0 x1 x2 f0 f1 f2 HC z0 z1 HR HB
      have HC3 := Aside0.mk HC3
      go_wp2_with fail
      refine (Behind_cv t r o (f k) (g k) t' r' o' HS.out w3).mono ?_
      rintro e w4 ⟨rfl, b4⟩
      have HC4 := Aside0.mk (HC3.out.below b4)
      have HR4 := Aside0.mk (HR3.out.below b4)
      have HB4 := Aside0.mk (below_step HB3.out b4)
      clear b4 HC3 HR3 HB3
      obtain ⟨x0, x1, x2, f0, f1, f2⟩ := HC4.out.cells
      go_upto_region 9 with fail
      obtain ⟨w5, hw5⟩ : ∃ w5, ((w4.setCell ⟨W.heap.size, 0, none⟩ (.int .i64 t')).setCell ⟨W.heap.size, 1, none⟩ (.int .i64 r')).setCell ⟨W.heap.size, 2, none⟩ (.bool o') = w5 := ⟨_, rfl⟩
      have HC5 := Aside0.mk (show CountAt w5 W.heap.size t' r' o' from hw5 ▸ HC4.out.put t' r' o')
      have HR5 := show RefAt w5 (W.heap.size + 1) t r o from hw5 ▸ HR4.out.other3 W.heap.size (by omega) _ _ _
      have HB5 := Aside0.mk (show Below W.heap.size W w5 from hw5 ▸ Below.put HB4.out W.heap.size (Nat.le_refl _) _ _ _)
      rw [hw5]
      clear hw5 x0 x1 x2 f0 f1 f2 HC4 HR4 HB4
      obtain ⟨y0, y1, y2, g0, g1, g2⟩ := HR5.cells
      have HR5 := Aside0.mk HR5
      have z0 := pw_cell_below HB5.out VV.out.1
      have z1 := next_cell (pw_cell_below HB5.out VV.out.2)
      go_still_tail 11, (by kernel_rfl)
      change wpList _ _ _ _ _ w5.drew
      obtain ⟨w6, hw6⟩ : ∃ w6, w5.drew = w6 := ⟨_, rfl⟩
      have HC6 := Aside0.mk (show CountAt w6 W.heap.size t' r' o' from hw6 ▸ HC5.out)
      have HR6 := Aside0.mk (show RefAt w6 (W.heap.size + 1) t r o from hw6 ▸ HR5.out)
      have HB6 := Aside0.mk (show Below W.heap.size W w6 from hw6 ▸ HB5.out.drew)
      rw [hw6]
      clear hw6 y0 y1 y2 g0 g1 g2 HC5 z0 z1 HR5 HB5
      go_wp2_with fail
      refine (Come_cv t r o (f k) (g k) t' r' o' HS.out w6).mono ?_
      rintro e w7 ⟨rfl, b7⟩
      have HC7 := Aside0.mk (HC6.out.below b7)
      have HR7 := Aside0.mk (HR6.out.below b7)
      have HB7 := Aside0.mk (below_step HB6.out b7)
      clear b7 HC6 HR6 HB6
      obtain ⟨y0, y1, y2, g0, g1, g2⟩ := HR7.out.cells
      go_upto_region 10 with fail
      obtain ⟨w8, hw8⟩ : ∃ w8, ((w7.setCell ⟨W.heap.size + 1, 0, none⟩ (.int .i64 t')).setCell ⟨W.heap.size + 1, 1, none⟩ (.int .i64 r')).setCell ⟨W.heap.size + 1, 2, none⟩ (.bool o') = w8 := ⟨_, rfl⟩
      have HR8 := show RefAt w8 (W.heap.size + 1) t' r' o' from hw8 ▸ HR7.out.put t' r' o'
      have HC8 := show CountAt w8 W.heap.size t' r' o' from hw8 ▸ count_other3 HC7.out (W.heap.size + 1) (by omega) _ _ _
      have HB8 := Aside0.mk (show Below W.heap.size W w8 from hw8 ▸ Below.put HB7.out (W.heap.size + 1) (by omega) _ _ _)
      rw [hw8]
      clear hw8 y0 y1 y2 g0 g1 g2 HC7 HR7 HB7
      obtain ⟨x0, x1, x2, -, -, -⟩ := HC8.cells
      obtain ⟨y0, y1, y2, -, -, -⟩ := HR8.cells
      have HC8 := Aside0.mk HC8
      have HR8 := Aside0.mk HR8
      obtain ⟨z, hz⟩ : ∃ z : Int, z = if o' then 2 else if 127 < t' ∨ 127 < r' then 1 else 0 := ⟨_, rfl⟩
      have HZ := Aside0.mk hz
      clear hz
      refine wp_region_held_drew (S := fun w' => w'.cell? ⟨W.heap.size, 0, none⟩ = some (.int .i64 t') ∧ w'.cell? ⟨W.heap.size, 1, none⟩ = some (.int .i64 r') ∧ w'.cell? ⟨W.heap.size, 2, none⟩ = some (.bool o') ∧ w'.cell? ⟨W.heap.size + 1, 0, none⟩ = some (.int .i64 t') ∧ w'.cell? ⟨W.heap.size + 1, 1, none⟩ = some (.int .i64 r') ∧ w'.cell? ⟨W.heap.size + 1, 2, none⟩ = some (.bool o')) (by kernel_rfl) ?_ (fun hHeld => ?_)
      · exact ⟨x0, x1, x2, y0, y1, y2⟩
      refine takeH 0 (some 36) ?_ (by rfl) (by kernel_rfl) (by kernel_rfl) (by kernel_rfl) (fun _ _ _ h => h) ?_ hHeld ?_
      rotate_left
      · intro o ho
        simp only [List.getElem?_toArray, List.getElem?_cons_zero, Option.some.injEq] at ho
        subst ho
        refine ⟨by rfl, fun w hSw => ?_⟩
        try dsimp only at hSw
        go_simp
        try with_reducible rfl
      try simp only [Act.put, List.setIfInBounds_toArray, List.set_cons_zero, List.set_cons_succ]
      refine takeH 1 (some 37) ?_ (by rfl) (by kernel_rfl) (by kernel_rfl) (by kernel_rfl) (fun _ _ _ h => h) ?_ hHeld ?_
      rotate_left
      · intro o ho
        simp only [List.getElem?_toArray, List.getElem?_cons_succ, List.getElem?_cons_zero, Option.some.injEq] at ho
        subst ho
        refine ⟨by rfl, fun w hSw => ?_⟩
        try dsimp only at hSw
        go_simp
        try with_reducible rfl
      try simp only [Act.put, List.setIfInBounds_toArray, List.set_cons_zero, List.set_cons_succ]
      refine takeH 2 (some 38) ?_ (by rfl) (by kernel_rfl) (by kernel_rfl) (by kernel_rfl) (fun _ _ _ h => h) ?_ hHeld ?_
      rotate_left
      · intro o ho
        simp only [List.getElem?_toArray, List.getElem?_cons_succ, List.getElem?_cons_zero, Option.some.injEq] at ho
        subst ho
        refine ⟨by rfl, fun w hSw => ?_⟩
        try dsimp only at hSw
        go_simp
        try with_reducible rfl
      try simp only [Act.put, List.setIfInBounds_toArray, List.set_cons_zero, List.set_cons_succ]
      refine takeH 3 (some 39) ?_ (by rfl) (by kernel_rfl) (by kernel_rfl) (by kernel_rfl) (fun _ _ _ h => h) ?_ hHeld ?_
      rotate_left
      · intro o ho
        simp only [List.getElem?_toArray, List.getElem?_cons_succ, List.getElem?_cons_zero, Option.some.injEq] at ho
        subst ho
        refine ⟨by rfl, fun w hSw => ?_⟩
        try dsimp only at hSw
        go_simp
        try with_reducible rfl
      try simp only [Act.put, List.setIfInBounds_toArray, List.set_cons_zero, List.set_cons_succ]
      refine takeH 4 (some 40) ?_ (by rfl) (by kernel_rfl) (by kernel_rfl) (by kernel_rfl) (fun _ _ _ h => h) ?_ hHeld ?_
      rotate_left
      · intro o ho
        simp only [List.getElem?_toArray, List.getElem?_cons_succ, List.getElem?_cons_zero, Option.some.injEq] at ho
        subst ho
        refine ⟨by rfl, fun w hSw => ?_⟩
        try dsimp only at hSw
        go_simp
        try with_reducible rfl
      try simp only [Act.put, List.setIfInBounds_toArray, List.set_cons_zero, List.set_cons_succ]
      refine takeH 5 (some 41) ?_ (by rfl) (by kernel_rfl) (by kernel_rfl) (by kernel_rfl) (fun _ _ _ h => h) ?_ hHeld ?_
      rotate_left
      · intro o ho
        simp only [List.getElem?_toArray, List.getElem?_cons_succ, List.getElem?_cons_zero, Option.some.injEq] at ho
        subst ho
        refine ⟨by rfl, fun w hSw => ?_⟩
        try dsimp only at hSw
        go_simp
        try with_reducible rfl
      try simp only [Act.put, List.setIfInBounds_toArray, List.set_cons_zero, List.set_cons_succ]
      refine takeH 6 (some 42) ?_ (by rfl) (by kernel_rfl) (by kernel_rfl) (by kernel_rfl) (fun _ _ _ h => h) ?_ hHeld ?_
      rotate_left
      · intro o ho
        simp only [List.getElem?_toArray, List.getElem?_cons_succ, List.getElem?_cons_zero, Option.some.injEq] at ho
        subst ho
        refine ⟨by rfl, fun w hSw => ?_⟩
        try dsimp only at hSw
        go_simp
        try with_reducible rfl
      try simp only [Act.put, List.setIfInBounds_toArray, List.set_cons_zero, List.set_cons_succ]
      refine takeH 7 (some 43) ?_ (by rfl) (by kernel_rfl) (by kernel_rfl) (by kernel_rfl) (fun _ _ _ h => h) ?_ hHeld ?_
      rotate_left
      · intro o ho
        simp only [List.getElem?_toArray, List.getElem?_cons_succ, List.getElem?_cons_zero, Option.some.injEq] at ho
        subst ho
        refine ⟨by rfl, fun w hSw => ?_⟩
        try dsimp only at hSw
        go_simp
        try with_reducible rfl
      try simp only [Act.put, List.setIfInBounds_toArray, List.set_cons_zero, List.set_cons_succ]
      refine takeH 8 (some 44) ?_ (by rfl) (by kernel_rfl) (by kernel_rfl) (by kernel_rfl) (fun _ _ _ h => h) ?_ hHeld ?_
      rotate_left
      · intro o ho
        simp only [List.getElem?_toArray, List.getElem?_cons_succ, List.getElem?_cons_zero, Option.some.injEq] at ho
        subst ho
        refine ⟨by rfl, fun w hSw => ?_⟩
        try dsimp only at hSw
        go_simp
        try with_reducible rfl
      try simp only [Act.put, List.setIfInBounds_toArray, List.set_cons_zero, List.set_cons_succ]
      refine takeH 9 (some 45) ?_ (by rfl) (by kernel_rfl) (by kernel_rfl) (by kernel_rfl) (fun _ _ _ h => h) ?_ hHeld ?_
      rotate_left
      · intro o ho
        simp only [List.getElem?_toArray, List.getElem?_cons_succ, List.getElem?_cons_zero, Option.some.injEq] at ho
        subst ho
        refine ⟨by rfl, fun w hSw => ?_⟩
        try dsimp only at hSw
        go_simp
        try with_reducible rfl
      try simp only [Act.put, List.setIfInBounds_toArray, List.set_cons_zero, List.set_cons_succ]
      refine takeH 10 (some 46) ?_ (by rfl) (by kernel_rfl) (by kernel_rfl) (by kernel_rfl) (fun _ _ _ h => h) ?_ hHeld ?_
      rotate_left
      · intro o ho
        simp only [List.getElem?_toArray, List.getElem?_cons_succ, List.getElem?_cons_zero, Option.some.injEq] at ho
        subst ho
        refine ⟨by rfl, fun w hSw => ?_⟩
        try dsimp only at hSw
        go_simp
        try with_reducible rfl
      try simp only [Act.put, List.setIfInBounds_toArray, List.set_cons_zero, List.set_cons_succ]
      refine takeH 11 (some 47) ?_ (by rfl) (by kernel_rfl) (by kernel_rfl) (by kernel_rfl) (fun _ _ _ h => h) ?_ hHeld ?_
      rotate_left
      · intro o ho
        simp only [List.getElem?_toArray, List.getElem?_cons_succ, List.getElem?_cons_zero, Option.some.injEq] at ho
        subst ho
        refine ⟨by rfl, fun w hSw => ?_⟩
        try dsimp only at hSw
        go_simp
        try with_reducible rfl
      try simp only [Act.put, List.setIfInBounds_toArray, List.set_cons_zero, List.set_cons_succ]
      refine takeH 12 (some 48) ?_ (by rfl) (by kernel_rfl) (by kernel_rfl) (by kernel_rfl) (fun _ _ _ h => h) ?_ hHeld ?_
      rotate_left
      · intro o ho
        simp only [List.getElem?_toArray, List.getElem?_cons_succ, List.getElem?_cons_zero, Option.some.injEq] at ho
        subst ho
        refine ⟨by rfl, fun w hSw => ?_⟩
        try dsimp only at hSw
        go_simp
        try with_reducible rfl
      try simp only [Act.put, List.setIfInBounds_toArray, List.set_cons_zero, List.set_cons_succ]
      refine takeH 13 (some 49) ?_ (by rfl) (by kernel_rfl) (by kernel_rfl) (by kernel_rfl) (fun _ _ _ h => h) ?_ hHeld ?_
      rotate_left
      · intro o ho
        simp only [List.getElem?_toArray, List.getElem?_cons_succ, List.getElem?_cons_zero, Option.some.injEq] at ho
        subst ho
        refine ⟨by rfl, fun w hSw => ?_⟩
        try dsimp only at hSw
        go_simp
        try with_reducible rfl
      try simp only [Act.put, List.setIfInBounds_toArray, List.set_cons_zero, List.set_cons_succ]
      refine takeH 14 (some 50) ?_ (by rfl) (by kernel_rfl) (by kernel_rfl) (by kernel_rfl) (fun _ _ _ h => h) ?_ hHeld ?_
      rotate_left
      · intro o ho
        simp only [List.getElem?_toArray, List.getElem?_cons_succ, List.getElem?_cons_zero, Option.some.injEq] at ho
        subst ho
        refine ⟨by rfl, fun w hSw => ?_⟩
        try dsimp only at hSw
        go_simp
        try with_reducible rfl
      try simp only [Act.put, List.setIfInBounds_toArray, List.set_cons_zero, List.set_cons_succ]
      refine takeH 15 (some 51) ?_ (by rfl) (by kernel_rfl) (by kernel_rfl) (by kernel_rfl) (fun _ _ _ h => h) ?_ hHeld ?_
      rotate_left
      · intro o ho
        simp only [List.getElem?_toArray, List.getElem?_cons_succ, List.getElem?_cons_zero, Option.some.injEq] at ho
        subst ho
        refine ⟨by rfl, fun w hSw => ?_⟩
        try dsimp only at hSw
        go_simp
        try with_reducible rfl
      try simp only [Act.put, List.setIfInBounds_toArray, List.set_cons_zero, List.set_cons_succ]
      refine takeH 16 (some 52) ?_ (by rfl) (by kernel_rfl) (by kernel_rfl) (by kernel_rfl) (fun _ _ _ h => h) ?_ hHeld ?_
      rotate_left
      · intro o ho
        simp only [List.getElem?_toArray, List.getElem?_cons_succ, List.getElem?_cons_zero, Option.some.injEq] at ho
        subst ho
        refine ⟨by rfl, fun w hSw => ?_⟩
        try dsimp only at hSw
        go_simp
        try with_reducible rfl
      try simp only [Act.put, List.setIfInBounds_toArray, List.set_cons_zero, List.set_cons_succ]
      refine takeH 17 (some 53) ?_ (by rfl) (by kernel_rfl) (by kernel_rfl) (by kernel_rfl) (fun _ _ _ h => h) ?_ hHeld ?_
      rotate_left
      · intro o ho
        simp only [List.getElem?_toArray, List.getElem?_cons_succ, List.getElem?_cons_zero, Option.some.injEq] at ho
        subst ho
        refine ⟨by rfl, fun w hSw => ?_⟩
        try dsimp only at hSw
        go_simp
        try with_reducible rfl
      try simp only [Act.put, List.setIfInBounds_toArray, List.set_cons_zero, List.set_cons_succ]
      refine takeH 18 (some 54) ?_ (by rfl) (by kernel_rfl) (by kernel_rfl) (by kernel_rfl) (fun _ _ _ h => h) ?_ hHeld ?_
      rotate_left
      · intro o ho
        simp only [List.getElem?_toArray, List.getElem?_cons_succ, List.getElem?_cons_zero, Option.some.injEq] at ho
        subst ho
        refine ⟨by rfl, fun w hSw => ?_⟩
        try dsimp only at hSw
        go_simp
        try with_reducible rfl
      try simp only [Act.put, List.setIfInBounds_toArray, List.set_cons_zero, List.set_cons_succ]
      refine takeH 19 (some 55) ?_ (by rfl) (by kernel_rfl) (by kernel_rfl) (by kernel_rfl) (fun _ _ _ h => h) ?_ hHeld ?_
      rotate_left
      · intro o ho
        simp only [List.getElem?_toArray, List.getElem?_cons_succ, List.getElem?_cons_zero, Option.some.injEq] at ho
        subst ho
        refine ⟨by rfl, fun w hSw => ?_⟩
        try dsimp only at hSw
        go_simp
        try with_reducible rfl
      try simp only [Act.put, List.setIfInBounds_toArray, List.set_cons_zero, List.set_cons_succ]
      refine takeH 20 (some 56) ?_ (by rfl) (by kernel_rfl) (by kernel_rfl) (by kernel_rfl) (fun _ _ _ h => h) ?_ hHeld ?_
      rotate_left
      · intro o ho
        simp only [List.getElem?_toArray, List.getElem?_cons_succ, List.getElem?_cons_zero, Option.some.injEq] at ho
        subst ho
        refine ⟨by rfl, fun w hSw => ?_⟩
        try dsimp only at hSw
        go_simp
        try with_reducible rfl
      try simp only [Act.put, List.setIfInBounds_toArray, List.set_cons_zero, List.set_cons_succ]
      refine takeH 22 (some 58) ?_ (by rfl) (by kernel_rfl) (by kernel_rfl) (by kernel_rfl) (fun _ _ _ h => h) ?_ hHeld ?_
      rotate_left
      · intro o ho
        simp only [List.getElem?_toArray, List.getElem?_cons_succ, List.getElem?_cons_zero, Option.some.injEq] at ho
        subst ho
        refine ⟨by rfl, fun w hSw => ?_⟩
        try dsimp only at hSw
        go_simp
        try with_reducible rfl
      try simp only [Act.put, List.setIfInBounds_toArray, List.set_cons_zero, List.set_cons_succ]
      refine oneH 21 (by kernel_rfl) (by rfl) (fun o ho K hK => ?_)
      simp only [List.getElem?_toArray, List.getElem?_cons_succ, List.getElem?_cons_zero, Option.some.injEq] at ho
      subst ho
      go_simp
      refine (state_cv t' r' o' z HZ.out _).mono ?_
      rintro e v8 ⟨rfl, q8⟩
      have b8 := nodrew q8
      try go_wp2_with fail
      refine hK.out _ _ ?_ (fun hHeld2 => ?_)
      · exact ⟨cb b8 x0, cb b8 x1, cb b8 x2, cb b8 y0, cb b8 y1, cb b8 y2⟩
      clear hK K hHeld
      rename _ => hHeld
      try simp only [Act.put, List.setIfInBounds_toArray, List.set_cons_zero, List.set_cons_succ]
      refine oneH 23 (by kernel_rfl) (by rfl) (fun o ho K hK => ?_)
      simp only [List.getElem?_toArray, List.getElem?_cons_succ, List.getElem?_cons_zero, Option.some.injEq] at ho
      subst ho
      go_simp
      refine (refState_cv t' r' o' z HZ.out _).mono ?_
      rintro e v9 ⟨rfl, q9⟩
      have b9 := below_step b8 q9
      try go_wp2_with fail
      refine hK.out _ _ ?_ (fun hHeld2 => ?_)
      · exact ⟨cb b9 x0, cb b9 x1, cb b9 x2, cb b9 y0, cb b9 y1, cb b9 y2⟩
      clear hK K hHeld
      rename _ => hHeld
      try simp only [Act.put, List.setIfInBounds_toArray, List.set_cons_zero, List.set_cons_succ]
      refine takeH 24 (some 60) ?_ (by rfl) (by kernel_rfl) (by kernel_rfl) (by kernel_rfl) (fun _ _ _ h => h) ?_ hHeld ?_
      rotate_left
      · intro o ho
        simp only [List.getElem?_toArray, List.getElem?_cons_succ, List.getElem?_cons_zero, Option.some.injEq] at ho
        subst ho
        refine ⟨by rfl, fun w hSw => ?_⟩
        try dsimp only at hSw
        go_simp
        try with_reducible rfl
      try simp only [Act.put, List.setIfInBounds_toArray, List.set_cons_zero, List.set_cons_succ]
      refine takeH 25 (some 61) ?_ (by rfl) (by kernel_rfl) (by kernel_rfl) (by kernel_rfl) (fun _ _ _ h => h) ?_ hHeld ?_
      rotate_left
      · intro o ho
        simp only [List.getElem?_toArray, List.getElem?_cons_succ, List.getElem?_cons_zero, Option.some.injEq] at ho
        subst ho
        refine ⟨by rfl, fun w hSw => ?_⟩
        try dsimp only at hSw
        go_simp
        try with_reducible rfl
      try simp only [Act.put, List.setIfInBounds_toArray, List.set_cons_zero, List.set_cons_succ]
      refine wpAnyH_done (by kernel_rfl) ?_ _
      have HC9 := Aside0.mk (HC8.out.below b9)
      have HR9 := Aside0.mk (HR8.out.below b9)
      have HB9 := Aside0.mk (below_step HB8.out b9)
      clear b9 b8 x0 x1 x2 y0 y1 y2 HC8 HR8 HB8 hHeld q8 q9
      go_wp2_with fail
      go_roundw
      case rel => exact ⟨k + 1, by omega, by go_num, ⟨t', r', o', HC9.out, HR9.out⟩, HB9.out⟩
      case measure => simp [intOf]; omega
    · obtain rfl : k = len := by omega
      have HB := Aside0.mk hB
      clear hC hR hB
      go_wp2_with fail
      refine (awake_calls _).mono ?_
      rintro e w3 ⟨rfl, b3⟩
      have HB3 := Aside0.mk (below_step HB.out b3)
      clear b3
      go_wp2
      go_ret
      exact ⟨rfl, HB3.out⟩

theorem rows_calls (A : Option Addr) (len c : Nat) (f g : Nat → Int) (W : World) (h : Comes W A len f g) :
    Calls Try.prog 5 #[.slice A len c] W fun e W' => e = .returned (.bool true) ∧ Below W.heap.size W W' := by
  by_cases hl : len ≤ 300
  · exact rows_short A len c f g W h hl
  · exact rows_long A len c W (by omega)
end Go.Proofs.Ytalonmhoamjcnaa
