/-
  Counts: the walk of CountStays, where counts are right.
-/
import Derived.Test.YtalonmhoamjcnaaB6
namespace Go.Proofs.Ytalonmhoamjcnaa
open Go.RowKit Go.Proofs.YtalonmhoamjcnaaW.PrintWords

theorem CountAt.trans' {W W' : World} {n B : Nat} {t r : Int} {o : Bool} (h : CountAt W B t r o) (hb : Below n W W') (hB : B < n) : CountAt W' B t r o := (hb.block B hB).trans h
theorem off_state (t r : Int) (o : Bool) (z : Int) (hz : z = if o then 2 else if 127 < t ∨ 127 < r then 1 else 0) : (z == 2) = o := by
  rw [hz]
  cases o
  · simp; split <;> decide
  · rfl

set_option maxRecDepth 20000 in
set_option maxHeartbeats 16000000 in
theorem stays_right (t r : Int) (o : Bool) (hok : ok t r o = true) (A : Option Addr) (len c : Nat) (f g : Nat → Int) (W : World) (h : Comes W A len f g) (hl : len ≤ 300) :
    Calls Try.prog 6 #[cv t r o, .slice A len c] W fun e W' => e = .returned (.bool true) ∧ Below W.heap.size W W' := by
  have t0 : ¬ (300 : Int) < (len : Int) := by omega
  have HO := Aside0.mk hok
  clear hok
  unfold cv
  go_enter Try.func6, Try.ntmps6
  go_wp2_with fail
  obtain ⟨W1, hW1⟩ : ∃ W1, W.alloc (.cells #[.int .i64 t, .int .i64 r, .bool o] 23) = W1 := ⟨_, rfl⟩
  have C1 := count_new hW1
  have B1 := Aside0.mk (grow hW1)
  rw [hW1]
  clear hW1
  refine (check_cv t r o 0 (by rw [HO.out]; rfl) W1).mono ?_
  rintro e w2 ⟨rfl, b2⟩
  have C2 := Aside0.mk (C1.below b2)
  have B2 := Aside0.mk (below_step B1.out b2)
  clear b2 C1 B1
  go_wp2_with fail
  go_loopw [6] (fun i wr => ∃ k : Nat, k ≤ len ∧ i = .int .i64 k ∧ (∃ t r o, CountAt wr W.heap.size t r o ∧ ok t r o = true) ∧ Below W.heap.size W wr) (fun i _ => len - (intOf i).toNat)
  case atStart => exact ⟨0, by omega, rfl, ⟨t, r, o, C2.out, HO.out⟩, B2.out⟩
  case round =>
    clear C2 B2 HO
    obtain ⟨k, hk, rfl, ⟨t, r, o, hC, hok⟩, hB⟩ := hrel
    by_cases hlt : k < len
    · obtain ⟨a, rfl, v0, v1⟩ := h k hlt
      have i0 : (0 : Int) ≤ (k : Int) := by omega
      have i1 : (k : Int) < (len : Int) := by omega
      obtain ⟨⟨t', r', o'⟩, hs⟩ : ∃ d, behind ⟨t, r, o⟩ (f k) (g k) = d := ⟨_, rfl⟩
      have HS := Aside0.mk hs
      have HL := Aside0.mk (behind_laws hok hs).1
      have HOK := Aside0.mk (behind_laws hok hs).2
      have HC := Aside0.mk hC
      have HB := Aside0.mk hB
      have z0 := pw_cell_below hB v0
      have z1 := next_cell (pw_cell_below hB v1)
      have VV := Aside0.mk v0
      obtain ⟨x0, x1, x2, -, -, -⟩ := hC.cells
      have LC := Aside0.mk hC.lt
      clear hs hC hB v0 v1 hok
      go_upto_region 13 with fail
      go_cut [7] (fun s7 wx => ∃ D, s7 = .pointer (some ⟨D, 0, none⟩) ∧ W.heap.size < D ∧ CountAt wx D t' r' o' ∧ CountAt wx W.heap.size t r o ∧ Below W.heap.size W wx)
      case first =>
        refine wp_region_held_drew (S := fun w' => w'.cell? ⟨W.heap.size, 0, none⟩ = some (.int .i64 t) ∧ w'.cell? ⟨W.heap.size, 1, none⟩ = some (.int .i64 r) ∧ w'.cell? ⟨W.heap.size, 2, none⟩ = some (.bool o) ∧ w'.cell? (a.add (k * 2)) = some (.int .i64 (f k)) ∧ w'.cell? ⟨(a.add (k * 2)).block, (a.add (k * 2)).off + 1, none⟩ = some (.int .i64 (g k))) (by kernel_rfl) ?_ (fun hHeld => ?_)
        · exact ⟨x0, x1, x2, z0, z1⟩
        refine takeH 0 (some 44) ?_ (by rfl) (by kernel_rfl) (by kernel_rfl) (by kernel_rfl) (fun _ _ _ h => h) ?_ hHeld ?_
        rotate_left
        · intro o ho
          simp only [List.getElem?_toArray, List.getElem?_cons_zero, Option.some.injEq] at ho
          subst ho
          refine ⟨by rfl, fun w hSw => ?_⟩
          try dsimp only at hSw
          go_simp
          try with_reducible rfl
        try simp only [Act.put, List.setIfInBounds_toArray, List.set_cons_zero, List.set_cons_succ]
        refine takeH 1 (some 45) ?_ (by rfl) (by kernel_rfl) (by kernel_rfl) (by kernel_rfl) (fun _ _ _ h => h) ?_ hHeld ?_
        rotate_left
        · intro o ho
          simp only [List.getElem?_toArray, List.getElem?_cons_succ, List.getElem?_cons_zero, Option.some.injEq] at ho
          subst ho
          refine ⟨by rfl, fun w hSw => ?_⟩
          try dsimp only at hSw
          go_simp
          try with_reducible rfl
        try simp only [Act.put, List.setIfInBounds_toArray, List.set_cons_zero, List.set_cons_succ]
        refine takeH 2 (some 46) ?_ (by rfl) (by kernel_rfl) (by kernel_rfl) (by kernel_rfl) (fun _ _ _ h => h) ?_ hHeld ?_
        rotate_left
        · intro o ho
          simp only [List.getElem?_toArray, List.getElem?_cons_succ, List.getElem?_cons_zero, Option.some.injEq] at ho
          subst ho
          refine ⟨by rfl, fun w hSw => ?_⟩
          try dsimp only at hSw
          go_simp
          try with_reducible rfl
        try simp only [Act.put, List.setIfInBounds_toArray, List.set_cons_zero, List.set_cons_succ]
        refine takeH 3 (some 47) ?_ (by rfl) (by kernel_rfl) (by kernel_rfl) (by kernel_rfl) (fun _ _ _ h => h) ?_ hHeld ?_
        rotate_left
        · intro o ho
          simp only [List.getElem?_toArray, List.getElem?_cons_succ, List.getElem?_cons_zero, Option.some.injEq] at ho
          subst ho
          refine ⟨by rfl, fun w hSw => ?_⟩
          try dsimp only at hSw
          go_simp
          try with_reducible rfl
        try simp only [Act.put, List.setIfInBounds_toArray, List.set_cons_zero, List.set_cons_succ]
        refine takeH 4 (some 48) ?_ (by rfl) (by kernel_rfl) (by kernel_rfl) (by kernel_rfl) (fun _ _ _ h => h) ?_ hHeld ?_
        rotate_left
        · intro o ho
          simp only [List.getElem?_toArray, List.getElem?_cons_succ, List.getElem?_cons_zero, Option.some.injEq] at ho
          subst ho
          refine ⟨by rfl, fun w hSw => ?_⟩
          try dsimp only at hSw
          go_simp
          try with_reducible rfl
        try simp only [Act.put, List.setIfInBounds_toArray, List.set_cons_zero, List.set_cons_succ]
        refine twoH 5 6 (by kernel_rfl) (by rfl) (by rfl) (fun o ho K hK => ?_) (fun o ho K hK => ?_)
        · simp only [List.getElem?_toArray, List.getElem?_cons_succ, List.getElem?_cons_zero, Option.some.injEq] at ho
          subst ho
          go_simp
          refine (Behind_cv t r o (f k) (g k) t' r' o' HS.out _).mono ?_
          rintro e w3 ⟨rfl, q3⟩
          have bq0 : Below wr.heap.size wr w3 := nodrew q3
          try go_wp2_with fail
          refine hK.out _ _ ?_ (fun hHeld2 => ?_)
          · exact ⟨cb bq0 x0, cb bq0 x1, cb bq0 x2, cb bq0 z0, cb bq0 z1⟩
          clear hK K hHeld
          rename _ => hHeld
          try simp only [Act.put, List.setIfInBounds_toArray, List.set_cons_zero, List.set_cons_succ]
          refine oneH 6 (by kernel_rfl) (by rfl) (fun o ho K hK => ?_)
          simp only [List.getElem?_toArray, List.getElem?_cons_succ, List.getElem?_cons_zero, Option.some.injEq] at ho
          subst ho
          go_simp
          obtain ⟨w4, hw4⟩ : ∃ w4, w3.alloc (.cells #[.int .i64 0, .int .i64 0, .bool false] 23) = w4 := ⟨_, rfl⟩
          have DD := Aside0.mk (count_new hw4)
          have bq := below_step bq0 (grow hw4)
          have bp : Below w3.heap.size w4 (((w4.setCell ⟨w3.heap.size, 0, none⟩ (.int .i64 t')).setCell ⟨w3.heap.size, 1, none⟩ (.int .i64 r')).setCell ⟨w3.heap.size, 2, none⟩ (.bool o')) := Below.put (Below.refl _ _) _ (Nat.le_refl _) _ _ _
          rw [hw4]
          clear hw4
          refine hK.out _ _ ?_ (fun hHeld2 => ?_)
          · exact ⟨cb bq x0, cb bq x1, cb bq x2, cb bq z0, cb bq z1⟩
          clear hK K hHeld
          rename _ => hHeld
          try simp only [Act.put, List.setIfInBounds_toArray, List.set_cons_zero, List.set_cons_succ]
          obtain ⟨d0, d1, d2, e0, e1, e2⟩ := DD.out.cells
          refine oneH 7 (by kernel_rfl) (by rfl) (fun o ho K hK => ?_)
          simp only [List.getElem?_toArray, List.getElem?_cons_succ, List.getElem?_cons_zero, Option.some.injEq] at ho
          subst ho
          go_simp
          refine hK.out _ _ ?_ (fun hHeld2 => ?_)
          · exact ⟨cbn bp (cb bq x0) (by have := World.block_lt_of_cell? _ _ (cb bq0 x0); simpa using this), cbn bp (cb bq x1) (by have := World.block_lt_of_cell? _ _ (cb bq0 x1); simpa using this), cbn bp (cb bq x2) (by have := World.block_lt_of_cell? _ _ (cb bq0 x2); simpa using this), cbn bp (cb bq z0) (by have := World.block_lt_of_cell? _ _ (cb bq0 z0); simpa using this), cbn bp (cb bq z1) (by have := World.block_lt_of_cell? _ _ (cb bq0 z1); simpa using this)⟩
          clear hK K hHeld
          rename _ => hHeld
          try simp only [Act.put, List.setIfInBounds_toArray, List.set_cons_zero, List.set_cons_succ]
          refine wpAnyH_done (by kernel_rfl) ?_ _
          go_wp2_with fail
          go_meet
          exact ⟨_, rfl, by have := LC.out; have := bq0.size; omega, DD.out.put t' r' o', ((HC.out.below bq).trans' bp (by have := LC.out; have := bq0.size; omega)), Below.put (below_step HB.out bq) _ (by have := LC.out; have := bq0.size; omega) _ _ _⟩

        · simp only [List.getElem?_toArray, List.getElem?_cons_succ, List.getElem?_cons_zero, Option.some.injEq] at ho
          subst ho
          go_simp
          obtain ⟨w4, hw4⟩ : ∃ w4, (wr.alloc (.cells #[.int .i64 0, .int .i64 0, .bool false] 23)).drew = w4 := ⟨_, rfl⟩
          have D4 : CountAt w4 wr.heap.size 0 0 false := hw4 ▸ heap_alloc_new wr _
          have bq4 : Below wr.heap.size wr w4 := hw4 ▸ ((Below.refl _ _).alloc (Nat.le_refl _) _).drew
          rw [hw4]
          clear hw4
          refine hK.out _ _ ?_ (fun hHeld2 => ?_)
          · exact ⟨cb bq4 x0, cb bq4 x1, cb bq4 x2, cb bq4 z0, cb bq4 z1⟩
          clear hK K hHeld
          rename _ => hHeld
          try simp only [Act.put, List.setIfInBounds_toArray, List.set_cons_zero, List.set_cons_succ]
          refine oneH 5 (by kernel_rfl) (by rfl) (fun o ho K hK => ?_)
          simp only [List.getElem?_toArray, List.getElem?_cons_succ, List.getElem?_cons_zero, Option.some.injEq] at ho
          subst ho
          go_simp
          refine (Behind_cv t r o (f k) (g k) t' r' o' HS.out _).mono ?_
          rintro e w3 ⟨rfl, q3⟩
          have DD := Aside0.mk (D4.below q3)
          clear D4
          have bq : Below wr.heap.size wr w3 := below_step bq4 q3
          try go_wp2_with fail
          refine hK.out _ _ ?_ (fun hHeld2 => ?_)
          · exact ⟨cb bq x0, cb bq x1, cb bq x2, cb bq z0, cb bq z1⟩
          clear hK K hHeld
          rename _ => hHeld
          try simp only [Act.put, List.setIfInBounds_toArray, List.set_cons_zero, List.set_cons_succ]
          obtain ⟨d0, d1, d2, e0, e1, e2⟩ := DD.out.cells
          have bq0 : Below wr.heap.size wr wr := Below.refl _ _
          have bp : Below wr.heap.size w3 (((w3.setCell ⟨wr.heap.size, 0, none⟩ (.int .i64 t')).setCell ⟨wr.heap.size, 1, none⟩ (.int .i64 r')).setCell ⟨wr.heap.size, 2, none⟩ (.bool o')) := Below.put (Below.refl _ _) _ (Nat.le_refl _) _ _ _
          refine oneH 7 (by kernel_rfl) (by rfl) (fun o ho K hK => ?_)
          simp only [List.getElem?_toArray, List.getElem?_cons_succ, List.getElem?_cons_zero, Option.some.injEq] at ho
          subst ho
          go_simp
          refine hK.out _ _ ?_ (fun hHeld2 => ?_)
          · exact ⟨cbn bp (cb bq x0) (by have := World.block_lt_of_cell? _ _ (cb bq0 x0); simpa using this), cbn bp (cb bq x1) (by have := World.block_lt_of_cell? _ _ (cb bq0 x1); simpa using this), cbn bp (cb bq x2) (by have := World.block_lt_of_cell? _ _ (cb bq0 x2); simpa using this), cbn bp (cb bq z0) (by have := World.block_lt_of_cell? _ _ (cb bq0 z0); simpa using this), cbn bp (cb bq z1) (by have := World.block_lt_of_cell? _ _ (cb bq0 z1); simpa using this)⟩
          clear hK K hHeld
          rename _ => hHeld
          try simp only [Act.put, List.setIfInBounds_toArray, List.set_cons_zero, List.set_cons_succ]
          refine wpAnyH_done (by kernel_rfl) ?_ _
          go_wp2_with fail
          go_meet
          exact ⟨_, rfl, by have := LC.out; have := bq0.size; omega, DD.out.put t' r' o', ((HC.out.below bq).trans' bp (by have := LC.out; have := bq0.size; omega)), Below.put (below_step HB.out bq) _ (by have := LC.out; have := bq0.size; omega) _ _ _⟩

      case rest =>
        obtain ⟨D, rfl, hCD, hD, hC, hB⟩ := hcut
        obtain ⟨x0, x1, x2, -, -, -⟩ := hC.cells
        obtain ⟨y0, y1, y2, -, -, -⟩ := hD.cells
        have HC4 := Aside0.mk hC
        have HD4 := Aside0.mk hD
        have HB4 := Aside0.mk hB
        clear hD hC hB HC HB z0 z1
        obtain ⟨zs, hz⟩ : ∃ z : Int, z = if o' then 2 else if 127 < t' ∨ 127 < r' then 1 else 0 := ⟨_, rfl⟩
        have HZ := Aside0.mk hz
        have hq := off_state t' r' o' zs hz
        clear hz
        go_wp2_with fail
        refine wp_region_held_drew (S := fun w' => w'.cell? ⟨W.heap.size, 0, none⟩ = some (.int .i64 t) ∧ w'.cell? ⟨W.heap.size, 1, none⟩ = some (.int .i64 r) ∧ w'.cell? ⟨W.heap.size, 2, none⟩ = some (.bool o) ∧ w'.cell? ⟨D, 0, none⟩ = some (.int .i64 t') ∧ w'.cell? ⟨D, 1, none⟩ = some (.int .i64 r') ∧ w'.cell? ⟨D, 2, none⟩ = some (.bool o')) (by kernel_rfl) ?_ (fun hHeld => ?_)
        · exact ⟨x0, x1, x2, y0, y1, y2⟩
        refine takeH 0 (some 50) ?_ (by rfl) (by kernel_rfl) (by kernel_rfl) (by kernel_rfl) (fun _ _ _ h => h) ?_ hHeld ?_
        rotate_left
        · intro o ho
          simp only [List.getElem?_toArray, List.getElem?_cons_zero, Option.some.injEq] at ho
          subst ho
          refine ⟨by rfl, fun w hSw => ?_⟩
          try dsimp only at hSw
          go_simp
          try with_reducible rfl
        try simp only [Act.put, List.setIfInBounds_toArray, List.set_cons_zero, List.set_cons_succ]
        refine oneH 1 (by kernel_rfl) (by rfl) (fun o ho K hK => ?_)
        simp only [List.getElem?_toArray, List.getElem?_cons_succ, List.getElem?_cons_zero, Option.some.injEq] at ho
        subst ho
        go_simp
        refine (check_cv t' r' o' 0 (by rw [HOK.out]; rfl) _).mono ?_
        rintro e w5 ⟨rfl, q5⟩
        have b5 := nodrew q5
        try go_wp2_with fail
        refine hK.out _ _ ?_ (fun hHeld2 => ?_)
        · exact ⟨cb b5 x0, cb b5 x1, cb b5 x2, cb b5 y0, cb b5 y1, cb b5 y2⟩
        clear hK K hHeld
        rename _ => hHeld
        try simp only [Act.put, List.setIfInBounds_toArray, List.set_cons_zero, List.set_cons_succ]
        refine takeH 2 (some 52) ?_ (by rfl) (by kernel_rfl) (by kernel_rfl) (by kernel_rfl) (fun _ _ _ h => h) ?_ hHeld ?_
        rotate_left
        · intro o ho
          simp only [List.getElem?_toArray, List.getElem?_cons_succ, List.getElem?_cons_zero, Option.some.injEq] at ho
          subst ho
          refine ⟨by rfl, fun w hSw => ?_⟩
          try dsimp only at hSw
          go_simp
          try with_reducible rfl
        try simp only [Act.put, List.setIfInBounds_toArray, List.set_cons_zero, List.set_cons_succ]
        refine takeH 3 (some 53) ?_ (by rfl) (by kernel_rfl) (by kernel_rfl) (by kernel_rfl) (fun _ _ _ h => h) ?_ hHeld ?_
        rotate_left
        · intro o ho
          simp only [List.getElem?_toArray, List.getElem?_cons_succ, List.getElem?_cons_zero, Option.some.injEq] at ho
          subst ho
          refine ⟨by rfl, fun w hSw => ?_⟩
          try dsimp only at hSw
          go_simp
          try with_reducible rfl
        try simp only [Act.put, List.setIfInBounds_toArray, List.set_cons_zero, List.set_cons_succ]
        refine takeH 4 (some 54) ?_ (by rfl) (by kernel_rfl) (by kernel_rfl) (by kernel_rfl) (fun _ _ _ h => h) ?_ hHeld ?_
        rotate_left
        · intro o ho
          simp only [List.getElem?_toArray, List.getElem?_cons_succ, List.getElem?_cons_zero, Option.some.injEq] at ho
          subst ho
          refine ⟨by rfl, fun w hSw => ?_⟩
          try dsimp only at hSw
          go_simp
          try with_reducible rfl
        try simp only [Act.put, List.setIfInBounds_toArray, List.set_cons_zero, List.set_cons_succ]
        refine takeH 7 (some 57) ?_ (by rfl) (by kernel_rfl) (by kernel_rfl) (by kernel_rfl) (fun _ _ _ h => h) ?_ hHeld ?_
        rotate_left
        · intro o ho
          simp only [List.getElem?_toArray, List.getElem?_cons_succ, List.getElem?_cons_zero, Option.some.injEq] at ho
          subst ho
          refine ⟨by rfl, fun w hSw => ?_⟩
          try dsimp only at hSw
          go_simp
          try with_reducible rfl
        try simp only [Act.put, List.setIfInBounds_toArray, List.set_cons_zero, List.set_cons_succ]
        refine takeH 8 (some 58) ?_ (by rfl) (by kernel_rfl) (by kernel_rfl) (by kernel_rfl) (fun _ _ _ h => h) ?_ hHeld ?_
        rotate_left
        · intro o ho
          simp only [List.getElem?_toArray, List.getElem?_cons_succ, List.getElem?_cons_zero, Option.some.injEq] at ho
          subst ho
          refine ⟨by rfl, fun w hSw => ?_⟩
          try dsimp only at hSw
          go_simp
          try with_reducible rfl
        try simp only [Act.put, List.setIfInBounds_toArray, List.set_cons_zero, List.set_cons_succ]
        refine oneH 5 (by kernel_rfl) (by rfl) (fun o ho K hK => ?_)
        simp only [List.getElem?_toArray, List.getElem?_cons_succ, List.getElem?_cons_zero, Option.some.injEq] at ho
        subst ho
        go_simp
        refine (state_cv t' r' o' zs HZ.out _).mono ?_
        rintro e w6 ⟨rfl, q6⟩
        have b6 := below_step b5 q6
        try go_wp2_with fail
        refine hK.out _ _ ?_ (fun hHeld2 => ?_)
        · exact ⟨cb b6 x0, cb b6 x1, cb b6 x2, cb b6 y0, cb b6 y1, cb b6 y2⟩
        clear hK K hHeld
        rename _ => hHeld
        try simp only [Act.put, List.setIfInBounds_toArray, List.set_cons_zero, List.set_cons_succ]
        refine takeH 6 (some 56) ?_ (by rfl) (by kernel_rfl) (by kernel_rfl) (by kernel_rfl) (fun _ _ _ h => h) ?_ hHeld ?_
        rotate_left
        · intro o ho
          simp only [List.getElem?_toArray, List.getElem?_cons_succ, List.getElem?_cons_zero, Option.some.injEq] at ho
          subst ho
          refine ⟨by rfl, fun w hSw => ?_⟩
          try dsimp only at hSw
          go_simp
          try with_reducible rfl
        try simp only [Act.put, List.setIfInBounds_toArray, List.set_cons_zero, List.set_cons_succ]
        refine takeH 9 (some 59) ?_ (by rfl) (by kernel_rfl) (by kernel_rfl) (by kernel_rfl) (fun _ _ _ h => h) ?_ hHeld ?_
        rotate_left
        · intro o ho
          simp only [List.getElem?_toArray, List.getElem?_cons_succ, List.getElem?_cons_zero, Option.some.injEq] at ho
          subst ho
          refine ⟨by rfl, fun w hSw => ?_⟩
          try dsimp only at hSw
          go_simp
          try with_reducible rfl
        try simp only [Act.put, List.setIfInBounds_toArray, List.set_cons_zero, List.set_cons_succ]
        refine takeH 10 (some 60) ?_ (by rfl) (by kernel_rfl) (by kernel_rfl) (by kernel_rfl) (fun _ _ _ h => h) ?_ hHeld ?_
        rotate_left
        · intro o ho
          simp only [List.getElem?_toArray, List.getElem?_cons_succ, List.getElem?_cons_zero, Option.some.injEq] at ho
          subst ho
          refine ⟨by rfl, fun w hSw => ?_⟩
          try dsimp only at hSw
          go_simp
          try with_reducible rfl
        try simp only [Act.put, List.setIfInBounds_toArray, List.set_cons_zero, List.set_cons_succ]
        refine wpAnyH_done (by kernel_rfl) ?_ _
        have hC6 := HC4.out.below b6
        have hD6 := HD4.out.below b6
        have HB6 := Aside0.mk (below_step HB4.out b6)
        clear hHeld b6 b5 q5 q6 x0 x1 x2 y0 y1 y2 HC4 HD4 HB4 hq HZ
        obtain ⟨x0, x1, x2, f0, f1, f2⟩ := hC6.cells
        obtain ⟨y0, y1, y2, -, -, -⟩ := hD6.cells
        have z0 := pw_cell_below HB6.out VV.out
        have HC6 := Aside0.mk hC6
        have HD6 := Aside0.mk hD6
        clear hC6 hD6
        have HLL := HL.out
        unfold Laws at HLL
        clear HL HS
        go_upto_region 16 with fail
        rcases HLL with ⟨hx, rfl, rfl, rfl⟩ | ⟨rfl, rfl, rfl, rfl, hx | hx | hx | hx | ⟨h0, h1, h2, h3, h4⟩⟩ | ⟨rfl, ⟨hx, rfl, rfl, hm⟩ | ⟨hx, rfl, rfl, hm⟩ | ⟨hx, rfl, hm⟩ | ⟨hx, rfl, rfl, hm⟩ | ⟨rfl, rfl, rfl, h0, h1, h2, h3, h4⟩⟩
        · have n0 : (f k == 0) = false := by rw [hx]; rfl
          have n1 : (f k == 1) = false := by rw [hx]; rfl
          have n2 : (f k == 2) = false := by rw [hx]; rfl
          have n3 : (f k == 3) = false := by rw [hx]; rfl
          have n4 : (f k == 4) = true := by rw [hx]; rfl
          clear hx
          go_wp2_with fail
          have HC7 := Aside0.mk (HC6.out.put 0 0 false)
          have HB7 := Aside0.mk (Below.put HB6.out W.heap.size (Nat.le_refl _) (.int .i64 0) (.int .i64 0) (.bool false))
          clear x0 x1 x2 f0 f1 f2 y0 y1 y2 z0 HC6 HB6 HD6
          go_roundw
          case rel => exact ⟨k + 1, by omega, by go_num, ⟨0, 0, false, HC7.out, HOK.out⟩, HB7.out⟩
          case measure => simp [intOf]; omega
        · have n0 : (f k == 0) = true := by rw [hx]; rfl
          have n1 : (f k == 1) = false := by rw [hx]; rfl
          have n2 : (f k == 2) = false := by rw [hx]; rfl
          have n3 : (f k == 3) = false := by rw [hx]; rfl
          have n4 : (f k == 4) = false := by rw [hx]; rfl
          clear hx
          go_wp2_with fail
          have HC7 := Aside0.mk (HC6.out.put t' r' true)
          have HB7 := Aside0.mk (Below.put HB6.out W.heap.size (Nat.le_refl _) (.int .i64 t') (.int .i64 r') (.bool true))
          clear x0 x1 x2 f0 f1 f2 y0 y1 y2 z0 HC6 HB6 HD6
          go_roundw
          case rel => exact ⟨k + 1, by omega, by go_num, ⟨t', r', true, HC7.out, HOK.out⟩, HB7.out⟩
          case measure => simp [intOf]; omega
        · have n0 : (f k == 0) = false := by rw [hx]; rfl
          have n1 : (f k == 1) = true := by rw [hx]; rfl
          have n2 : (f k == 2) = false := by rw [hx]; rfl
          have n3 : (f k == 3) = false := by rw [hx]; rfl
          have n4 : (f k == 4) = false := by rw [hx]; rfl
          clear hx
          go_wp2_with fail
          have HC7 := Aside0.mk (HC6.out.put t' r' true)
          have HB7 := Aside0.mk (Below.put HB6.out W.heap.size (Nat.le_refl _) (.int .i64 t') (.int .i64 r') (.bool true))
          clear x0 x1 x2 f0 f1 f2 y0 y1 y2 z0 HC6 HB6 HD6
          go_roundw
          case rel => exact ⟨k + 1, by omega, by go_num, ⟨t', r', true, HC7.out, HOK.out⟩, HB7.out⟩
          case measure => simp [intOf]; omega
        · have n0 : (f k == 0) = false := by rw [hx]; rfl
          have n1 : (f k == 1) = false := by rw [hx]; rfl
          have n2 : (f k == 2) = true := by rw [hx]; rfl
          have n3 : (f k == 3) = false := by rw [hx]; rfl
          have n4 : (f k == 4) = false := by rw [hx]; rfl
          clear hx
          go_wp2_with fail
          have HC7 := Aside0.mk (HC6.out.put t' r' true)
          have HB7 := Aside0.mk (Below.put HB6.out W.heap.size (Nat.le_refl _) (.int .i64 t') (.int .i64 r') (.bool true))
          clear x0 x1 x2 f0 f1 f2 y0 y1 y2 z0 HC6 HB6 HD6
          go_roundw
          case rel => exact ⟨k + 1, by omega, by go_num, ⟨t', r', true, HC7.out, HOK.out⟩, HB7.out⟩
          case measure => simp [intOf]; omega
        · have n0 : (f k == 0) = false := by rw [hx]; rfl
          have n1 : (f k == 1) = false := by rw [hx]; rfl
          have n2 : (f k == 2) = false := by rw [hx]; rfl
          have n3 : (f k == 3) = true := by rw [hx]; rfl
          have n4 : (f k == 4) = false := by rw [hx]; rfl
          clear hx
          go_wp2_with fail
          have HC7 := Aside0.mk (HC6.out.put t' r' true)
          have HB7 := Aside0.mk (Below.put HB6.out W.heap.size (Nat.le_refl _) (.int .i64 t') (.int .i64 r') (.bool true))
          clear x0 x1 x2 f0 f1 f2 y0 y1 y2 z0 HC6 HB6 HD6
          go_roundw
          case rel => exact ⟨k + 1, by omega, by go_num, ⟨t', r', true, HC7.out, HOK.out⟩, HB7.out⟩
          case measure => simp [intOf]; omega
        · have n0 : (f k == 0) = false := by simpa using h0
          have n1 : (f k == 1) = false := by simpa using h1
          have n2 : (f k == 2) = false := by simpa using h2
          have n3 : (f k == 3) = false := by simpa using h3
          have n4 : (f k == 4) = false := by simpa using h4
          clear h0 h1 h2 h3 h4
          go_wp2_with fail
          have HC7 := Aside0.mk (HC6.out.put t' r' true)
          have HB7 := Aside0.mk (Below.put HB6.out W.heap.size (Nat.le_refl _) (.int .i64 t') (.int .i64 r') (.bool true))
          clear x0 x1 x2 f0 f1 f2 y0 y1 y2 z0 HC6 HB6 HD6
          go_roundw
          case rel => exact ⟨k + 1, by omega, by go_num, ⟨t', r', true, HC7.out, HOK.out⟩, HB7.out⟩
          case measure => simp [intOf]; omega
        · have n0 : (f k == 0) = true := by rw [hx]; rfl
          have n1 : (f k == 1) = false := by rw [hx]; rfl
          have n2 : (f k == 2) = false := by rw [hx]; rfl
          have n3 : (f k == 3) = false := by rw [hx]; rfl
          have n4 : (f k == 4) = false := by rw [hx]; rfl
          clear hx
          have nm : ¬ t < t' := by omega
          clear hm
          go_wp2_with fail
          have HC7 := Aside0.mk (HC6.out.put t' r' false)
          have HB7 := Aside0.mk (Below.put HB6.out W.heap.size (Nat.le_refl _) (.int .i64 t') (.int .i64 r') (.bool false))
          clear x0 x1 x2 f0 f1 f2 y0 y1 y2 z0 HC6 HB6 HD6
          go_roundw
          case rel => exact ⟨k + 1, by omega, by go_num, ⟨t', r', false, HC7.out, HOK.out⟩, HB7.out⟩
          case measure => simp [intOf]; omega
        · have n0 : (f k == 0) = false := by rw [hx]; rfl
          have n1 : (f k == 1) = true := by rw [hx]; rfl
          have n2 : (f k == 2) = false := by rw [hx]; rfl
          have n3 : (f k == 3) = false := by rw [hx]; rfl
          have n4 : (f k == 4) = false := by rw [hx]; rfl
          clear hx
          have nm : ¬ r < r' := by omega
          clear hm
          go_wp2_with fail
          have HC7 := Aside0.mk (HC6.out.put t' r' false)
          have HB7 := Aside0.mk (Below.put HB6.out W.heap.size (Nat.le_refl _) (.int .i64 t') (.int .i64 r') (.bool false))
          clear x0 x1 x2 f0 f1 f2 y0 y1 y2 z0 HC6 HB6 HD6
          go_roundw
          case rel => exact ⟨k + 1, by omega, by go_num, ⟨t', r', false, HC7.out, HOK.out⟩, HB7.out⟩
          case measure => simp [intOf]; omega
        · have n0 : (f k == 0) = false := by rw [hx]; rfl
          have n1 : (f k == 1) = false := by rw [hx]; rfl
          have n2 : (f k == 2) = true := by rw [hx]; rfl
          have n3 : (f k == 3) = false := by rw [hx]; rfl
          have n4 : (f k == 4) = false := by rw [hx]; rfl
          clear hx
          have nm : ¬ t' < t := by omega
          clear hm
          go_wp2_with fail
          have HC7 := Aside0.mk (HC6.out.put t' r' o')
          have HB7 := Aside0.mk (Below.put HB6.out W.heap.size (Nat.le_refl _) (.int .i64 t') (.int .i64 r') (.bool o'))
          clear x0 x1 x2 f0 f1 f2 y0 y1 y2 z0 HC6 HB6 HD6
          go_roundw
          case rel => exact ⟨k + 1, by omega, by go_num, ⟨t', r', o', HC7.out, HOK.out⟩, HB7.out⟩
          case measure => simp [intOf]; omega
        · have n0 : (f k == 0) = false := by rw [hx]; rfl
          have n1 : (f k == 1) = false := by rw [hx]; rfl
          have n2 : (f k == 2) = false := by rw [hx]; rfl
          have n3 : (f k == 3) = true := by rw [hx]; rfl
          have n4 : (f k == 4) = false := by rw [hx]; rfl
          clear hx
          have nm : ¬ r' < r := by omega
          clear hm
          go_wp2_with fail
          have HC7 := Aside0.mk (HC6.out.put t' r' false)
          have HB7 := Aside0.mk (Below.put HB6.out W.heap.size (Nat.le_refl _) (.int .i64 t') (.int .i64 r') (.bool false))
          clear x0 x1 x2 f0 f1 f2 y0 y1 y2 z0 HC6 HB6 HD6
          go_roundw
          case rel => exact ⟨k + 1, by omega, by go_num, ⟨t', r', false, HC7.out, HOK.out⟩, HB7.out⟩
          case measure => simp [intOf]; omega
        · have n0 : (f k == 0) = false := by simpa using h0
          have n1 : (f k == 1) = false := by simpa using h1
          have n2 : (f k == 2) = false := by simpa using h2
          have n3 : (f k == 3) = false := by simpa using h3
          have n4 : (f k == 4) = false := by simpa using h4
          clear h0 h1 h2 h3 h4
          go_wp2_with fail
          have HC7 := Aside0.mk (HC6.out.put t' r' false)
          have HB7 := Aside0.mk (Below.put HB6.out W.heap.size (Nat.le_refl _) (.int .i64 t') (.int .i64 r') (.bool false))
          clear x0 x1 x2 f0 f1 f2 y0 y1 y2 z0 HC6 HB6 HD6
          go_roundw
          case rel => exact ⟨k + 1, by omega, by go_num, ⟨t', r', false, HC7.out, HOK.out⟩, HB7.out⟩
          case measure => simp [intOf]; omega
    · obtain rfl : k = len := by omega
      have HB := Aside0.mk hB
      clear hC hB
      go_wp2_with fail
      refine (awake_calls _).mono ?_
      rintro e w3 ⟨rfl, b3⟩
      have HB3 := Aside0.mk (below_step HB.out b3)
      clear b3
      go_wp2
      go_ret
      exact ⟨rfl, HB3.out⟩
end Go.Proofs.Ytalonmhoamjcnaa
