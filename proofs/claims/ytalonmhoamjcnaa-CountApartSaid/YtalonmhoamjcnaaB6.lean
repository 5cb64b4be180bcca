/-
  Counts: the walk of CountStays.
-/
import Derived.Test.YtalonmhoamjcnaaB5
namespace Go.Proofs.Ytalonmhoamjcnaa
open Go.RowKit Go.Proofs.YtalonmhoamjcnaaW.PrintWords

theorem behind_wrong {t r : Int} {o : Bool} (hok : ok t r o = false) {x : Int} (hx : x ≠ 4) (g : Int) : behind ⟨t, r, o⟩ x g = ⟨t, r, o⟩ := by
  have hn : Ct.runs ⟨t, r, o⟩ = false := by simp [Ct.runs, hok]
  unfold behind sentC recvC txC rxC
  rw [if_neg hx]
  simp [hn]
/-- What comes, and what it makes of counts that are right. -/
def Laws (t r : Int) (o : Bool) (x : Int) (t' r' : Int) (o' : Bool) : Prop :=
  (x = 4 ∧ t' = 0 ∧ r' = 0 ∧ o' = false) ∨
  (o = true ∧ t' = t ∧ r' = r ∧ o' = true ∧ (x = 0 ∨ x = 1 ∨ x = 2 ∨ x = 3 ∨ (x ≠ 0 ∧ x ≠ 1 ∧ x ≠ 2 ∧ x ≠ 3 ∧ x ≠ 4))) ∨
  (o = false ∧ ((x = 0 ∧ r' = r ∧ o' = false ∧ t' ≤ t) ∨ (x = 1 ∧ t' = t ∧ o' = false ∧ r' ≤ r) ∨ (x = 2 ∧ r' = r ∧ t ≤ t') ∨ (x = 3 ∧ t' = t ∧ o' = false ∧ r ≤ r') ∨ (t' = t ∧ r' = r ∧ o' = false ∧ x ≠ 0 ∧ x ≠ 1 ∧ x ≠ 2 ∧ x ≠ 3 ∧ x ≠ 4)))
theorem behind_off (t r : Int) (x : Int) (hx : x ≠ 4) (g : Int) : behind ⟨t, r, true⟩ x g = ⟨t, r, true⟩ := by
  have hn : Ct.runs ⟨t, r, true⟩ = false := by simp [Ct.runs]
  unfold behind sentC recvC txC rxC
  rw [if_neg hx]
  simp [hn]
theorem behind_laws {t r : Int} {o : Bool} (hok : ok t r o = true) {x g : Int} {t' r' : Int} {o' : Bool} (h : behind ⟨t, r, o⟩ x g = ⟨t', r', o'⟩) : Laws t r o x t' r' o' ∧ ok t' r' o' = true := by
  by_cases h4 : x = 4
  · subst h4
    obtain ⟨rfl, rfl, rfl⟩ : 0 = t' ∧ 0 = r' ∧ false = o' := Ct.mk.inj h
    exact ⟨.inl ⟨rfl, rfl, rfl, rfl⟩, by decide⟩
  cases o
  · have hrg := ok_rng hok
    have hrun : Ct.runs ⟨t, r, false⟩ = true := by simp [Ct.runs, hok]
    by_cases h0 : x = 0
    · subst h0
      have h' : (⟨if 0 < t then t - 1 else 0, r, false⟩ : Ct) = ⟨t', r', o'⟩ := by simpa [behind, sentC, hrun] using h
      obtain ⟨h1, rfl, rfl⟩ := Ct.mk.inj h'
      refine ⟨.inr (.inr ⟨rfl, .inl ⟨rfl, rfl, rfl, ?_⟩⟩), ?_⟩
      · rw [← h1]; split <;> omega
      · simp [ok]; split at h1 <;> omega
    by_cases h1 : x = 1
    · subst h1
      have h' : (⟨t, if 127 < r then 119 else if 0 < r then r - 1 else 0, false⟩ : Ct) = ⟨t', r', o'⟩ := by simpa [behind, recvC, hrun] using h
      obtain ⟨rfl, h2, rfl⟩ := Ct.mk.inj h'
      refine ⟨.inr (.inr ⟨rfl, .inr (.inl ⟨rfl, rfl, rfl, ?_⟩)⟩), ?_⟩
      · rw [← h2]; split <;> (try split) <;> omega
      · simp [ok]; split at h2 <;> (try split at h2) <;> omega
    by_cases h2 : x = 2
    · subst h2
      have h' : (⟨if 247 < t then 256 else t + 8, r, decide (247 < t)⟩ : Ct) = ⟨t', r', o'⟩ := by simpa [behind, txC, hrun] using h
      obtain ⟨h3, rfl, h5⟩ := Ct.mk.inj h'
      refine ⟨.inr (.inr ⟨rfl, .inr (.inr (.inl ⟨rfl, rfl, ?_⟩))⟩), ?_⟩
      · rw [← h3]; split <;> omega
      · subst h5; simp [ok]; split at h3 <;> (refine ⟨by omega, ?_⟩; first | omega | (rw [Bool.eq_iff_iff]; simp; omega))
    by_cases h3 : x = 3
    · subst h3
      by_cases hg : g = 1 ∨ g = 8
      · have h' : (⟨t, if r + g ≤ 255 then r + g else 255, false⟩ : Ct) = ⟨t', r', o'⟩ := by simpa [behind, rxC, hrun, hg] using h
        obtain ⟨rfl, h5, rfl⟩ := Ct.mk.inj h'
        refine ⟨.inr (.inr ⟨rfl, .inr (.inr (.inr (.inl ⟨rfl, rfl, rfl, ?_⟩)))⟩), ?_⟩
        · rw [← h5]; split <;> omega
        · simp [ok]; split at h5 <;> omega
      · have h' : (⟨t, r, false⟩ : Ct) = ⟨t', r', o'⟩ := by simpa [behind, rxC, hrun, hg] using h
        obtain ⟨rfl, rfl, rfl⟩ := Ct.mk.inj h'
        exact ⟨.inr (.inr ⟨rfl, .inr (.inr (.inr (.inl ⟨rfl, rfl, rfl, Int.le_refl _⟩)))⟩), hok⟩
    · have h' : (⟨t, r, false⟩ : Ct) = ⟨t', r', o'⟩ := by simpa [behind, h0, h1, h2, h3, h4] using h
      obtain ⟨rfl, rfl, rfl⟩ := Ct.mk.inj h'
      exact ⟨.inr (.inr ⟨rfl, .inr (.inr (.inr (.inr ⟨rfl, rfl, rfl, h0, h1, h2, h3, h4⟩)))⟩), hok⟩
  · rw [behind_off t r x h4 g] at h
    obtain ⟨rfl, rfl, rfl⟩ := Ct.mk.inj h
    refine ⟨.inr (.inl ⟨rfl, rfl, rfl, rfl, ?_⟩), hok⟩
    by_cases h0 : x = 0
    · exact .inl h0
    by_cases h1 : x = 1
    · exact .inr (.inl h1)
    by_cases h2 : x = 2
    · exact .inr (.inr (.inl h2))
    by_cases h3 : x = 3
    · exact .inr (.inr (.inr (.inl h3)))
    exact .inr (.inr (.inr (.inr ⟨h0, h1, h2, h3, h4⟩)))

set_option maxRecDepth 20000 in
set_option maxHeartbeats 2000000 in
theorem stays_long (t r : Int) (o : Bool) (A : Option Addr) (len c : Nat) (W : World) (hl : 300 < len) :
    Calls Try.prog 6 #[cv t r o, .slice A len c] W fun e W' => e = .returned (.bool true) ∧ Below W.heap.size W W' := by
  have t0 : (300 : Int) < (len : Int) := by omega
  unfold cv
  go_enter Try.func6, Try.ntmps6
  go_wp2_with fail
  refine (awake_calls _).mono ?_
  rintro e w1 ⟨rfl, b1⟩
  go_wp2
  go_ret
  exact ⟨rfl, below_step ((Below.refl _ _).alloc (Nat.le_refl _) _) b1⟩

set_option maxRecDepth 20000 in
set_option maxHeartbeats 8000000 in
theorem stays_wrong (t r : Int) (o : Bool) (hok : ok t r o = false) (A : Option Addr) (len c : Nat) (f g : Nat → Int) (W : World) (h : Comes W A len f g) (hl : len ≤ 300) :
    Calls Try.prog 6 #[cv t r o, .slice A len c] W fun e W' => e = .returned (.bool true) ∧ Below W.heap.size W W' := by
  have t0 : ¬ (300 : Int) < (len : Int) := by omega
  have HO := Aside0.mk hok
  clear hok
  unfold cv
  go_enter Try.func6, Try.ntmps6
  go_wp2_with fail
  obtain ⟨W1, hW1⟩ : ∃ W1, W.alloc (.cells #[.int .i64 t, .int .i64 r, .bool o] 23) = W1 := ⟨_, rfl⟩
  have C1 := count_new hW1
  have B1 := Aside0.mk (grow hW1)
  rw [hW1]
  clear hW1
  refine (check_cv t r o 10 (by rw [HO.out]; rfl) W1).mono ?_
  rintro e w2 ⟨rfl, b2⟩
  have C2 := Aside0.mk (C1.below b2)
  have B2 := Aside0.mk (below_step B1.out b2)
  clear b2 C1 B1
  go_wp2_with fail
  go_loopw [5] (fun i wr => ∃ k : Nat, k ≤ len ∧ i = .int .i64 k ∧ CountAt wr W.heap.size t r o ∧ Below W.heap.size W wr) (fun i _ => len - (intOf i).toNat)
  case atStart => exact ⟨0, by omega, rfl, C2.out, B2.out⟩
  case round =>
    obtain ⟨k, hk, rfl, hC, hB⟩ := hrel
    by_cases hlt : k < len
    · obtain ⟨a, rfl, v0, v1⟩ := h k hlt
      have i0 : (0 : Int) ≤ (k : Int) := by omega
      have i1 : (k : Int) < (len : Int) := by omega
      have z0 := pw_cell_below hB v0
      have z1 := next_cell (pw_cell_below hB v1)
      obtain ⟨x0, x1, x2, -, -, -⟩ := hC.cells
      have HC := Aside0.mk hC
      have HB := Aside0.mk hB
      clear hC hB v0 v1
      by_cases h4 : f k = 4
      · have n4 : (f k != 4) = false := by simp [h4]
        have e4 : (4 : Int) = f k := h4.symm
        clear h4 e4
        go_upto_region 7 with fail
        refine wp_region_held_drew (S := fun w' => w'.cell? ⟨W.heap.size, 0, none⟩ = some (.int .i64 t) ∧ w'.cell? ⟨W.heap.size, 1, none⟩ = some (.int .i64 r) ∧ w'.cell? ⟨W.heap.size, 2, none⟩ = some (.bool o) ∧ w'.cell? (a.add (k * 2)) = some (.int .i64 (f k)) ∧ w'.cell? ⟨(a.add (k * 2)).block, (a.add (k * 2)).off + 1, none⟩ = some (.int .i64 (g k))) (by kernel_rfl) ?_ (fun hHeld => ?_)
        · exact ⟨x0, x1, x2, z0, z1⟩
        refine takeH 0 (some 21) ?_ (by rfl) (by kernel_rfl) (by kernel_rfl) (by kernel_rfl) (fun _ _ _ h => h) ?_ hHeld ?_
        rotate_left
        · intro o ho
          simp only [List.getElem?_toArray, List.getElem?_cons_zero, Option.some.injEq] at ho
          subst ho
          refine ⟨by rfl, fun w hSw => ?_⟩
          try dsimp only at hSw
          go_simp
          try with_reducible rfl
        try simp only [Act.put, List.setIfInBounds_toArray, List.set_cons_zero, List.set_cons_succ]
        refine takeH 1 (some 22) ?_ (by rfl) (by kernel_rfl) (by kernel_rfl) (by kernel_rfl) (fun _ _ _ h => h) ?_ hHeld ?_
        rotate_left
        · intro o ho
          simp only [List.getElem?_toArray, List.getElem?_cons_succ, List.getElem?_cons_zero, Option.some.injEq] at ho
          subst ho
          refine ⟨by rfl, fun w hSw => ?_⟩
          try dsimp only at hSw
          go_simp
          try with_reducible rfl
        try simp only [Act.put, List.setIfInBounds_toArray, List.set_cons_zero, List.set_cons_succ]
        refine takeH 2 (some 23) ?_ (by rfl) (by kernel_rfl) (by kernel_rfl) (by kernel_rfl) (fun _ _ _ h => h) ?_ hHeld ?_
        rotate_left
        · intro o ho
          simp only [List.getElem?_toArray, List.getElem?_cons_succ, List.getElem?_cons_zero, Option.some.injEq] at ho
          subst ho
          refine ⟨by rfl, fun w hSw => ?_⟩
          try dsimp only at hSw
          go_simp
          try with_reducible rfl
        try simp only [Act.put, List.setIfInBounds_toArray, List.set_cons_zero, List.set_cons_succ]
        refine takeH 3 (some 24) ?_ (by rfl) (by kernel_rfl) (by kernel_rfl) (by kernel_rfl) (fun _ _ _ h => h) ?_ hHeld ?_
        rotate_left
        · intro o ho
          simp only [List.getElem?_toArray, List.getElem?_cons_succ, List.getElem?_cons_zero, Option.some.injEq] at ho
          subst ho
          refine ⟨by rfl, fun w hSw => ?_⟩
          try dsimp only at hSw
          go_simp
          try with_reducible rfl
        try simp only [Act.put, List.setIfInBounds_toArray, List.set_cons_zero, List.set_cons_succ]
        refine takeH 4 (some 25) ?_ (by rfl) (by kernel_rfl) (by kernel_rfl) (by kernel_rfl) (fun _ _ _ h => h) ?_ hHeld ?_
        rotate_left
        · intro o ho
          simp only [List.getElem?_toArray, List.getElem?_cons_succ, List.getElem?_cons_zero, Option.some.injEq] at ho
          subst ho
          refine ⟨by rfl, fun w hSw => ?_⟩
          try dsimp only at hSw
          go_simp
          try with_reducible rfl
        try simp only [Act.put, List.setIfInBounds_toArray, List.set_cons_zero, List.set_cons_succ]
        refine takeH 5 (some 26) ?_ (by rfl) (by kernel_rfl) (by kernel_rfl) (by kernel_rfl) (fun _ _ _ h => h) ?_ hHeld ?_
        rotate_left
        · intro o ho
          simp only [List.getElem?_toArray, List.getElem?_cons_succ, List.getElem?_cons_zero, Option.some.injEq] at ho
          subst ho
          refine ⟨by rfl, fun w hSw => ?_⟩
          try dsimp only at hSw
          go_simp
          try with_reducible rfl
        try simp only [Act.put, List.setIfInBounds_toArray, List.set_cons_zero, List.set_cons_succ]
        refine takeH 6 (some 27) ?_ (by rfl) (by kernel_rfl) (by kernel_rfl) (by kernel_rfl) (fun _ _ _ h => h) ?_ hHeld ?_
        rotate_left
        · intro o ho
          simp only [List.getElem?_toArray, List.getElem?_cons_succ, List.getElem?_cons_zero, Option.some.injEq] at ho
          subst ho
          refine ⟨by rfl, fun w hSw => ?_⟩
          try dsimp only at hSw
          go_simp
          try with_reducible rfl
        try simp only [Act.put, List.setIfInBounds_toArray, List.set_cons_zero, List.set_cons_succ]
        refine skipH 7 (some 28) (by rfl) (by kernel_rfl) (by kernel_rfl) (by kernel_rfl) (fun _ _ _ h => h) (by rfl) hHeld ?_
        try simp only [Act.put, List.setIfInBounds_toArray, List.set_cons_zero, List.set_cons_succ]
        refine skipH 8 (some 29) (by rfl) (by kernel_rfl) (by kernel_rfl) (by kernel_rfl) (fun _ _ _ h => h) (by rfl) hHeld ?_
        try simp only [Act.put, List.setIfInBounds_toArray, List.set_cons_zero, List.set_cons_succ]
        refine skipH 9 (some 30) (by rfl) (by kernel_rfl) (by kernel_rfl) (by kernel_rfl) (fun _ _ _ h => h) (by rfl) hHeld ?_
        try simp only [Act.put, List.setIfInBounds_toArray, List.set_cons_zero, List.set_cons_succ]
        refine skipH 10 (some 31) (by rfl) (by kernel_rfl) (by kernel_rfl) (by kernel_rfl) (fun _ _ _ h => h) (by rfl) hHeld ?_
        try simp only [Act.put, List.setIfInBounds_toArray, List.set_cons_zero, List.set_cons_succ]
        refine skipH 11 (some 32) (by rfl) (by kernel_rfl) (by kernel_rfl) (by kernel_rfl) (fun _ _ _ h => h) (by rfl) hHeld ?_
        try simp only [Act.put, List.setIfInBounds_toArray, List.set_cons_zero, List.set_cons_succ]
        refine skipH 12 (some 33) (by rfl) (by kernel_rfl) (by kernel_rfl) (by kernel_rfl) (fun _ _ _ h => h) (by rfl) hHeld ?_
        try simp only [Act.put, List.setIfInBounds_toArray, List.set_cons_zero, List.set_cons_succ]
        refine skipH 13 (some 34) (by rfl) (by kernel_rfl) (by kernel_rfl) (by kernel_rfl) (fun _ _ _ h => h) (by rfl) hHeld ?_
        try simp only [Act.put, List.setIfInBounds_toArray, List.set_cons_zero, List.set_cons_succ]
        refine skipH 14 (some 35) (by rfl) (by kernel_rfl) (by kernel_rfl) (by kernel_rfl) (fun _ _ _ h => h) (by rfl) hHeld ?_
        try simp only [Act.put, List.setIfInBounds_toArray, List.set_cons_zero, List.set_cons_succ]
        refine takeH 15 (some 36) ?_ (by rfl) (by kernel_rfl) (by kernel_rfl) (by kernel_rfl) (fun _ _ _ h => h) ?_ hHeld ?_
        rotate_left
        · intro o ho
          simp only [List.getElem?_toArray, List.getElem?_cons_succ, List.getElem?_cons_zero, Option.some.injEq] at ho
          subst ho
          refine ⟨by rfl, fun w hSw => ?_⟩
          try dsimp only at hSw
          go_simp
          try with_reducible rfl
        try simp only [Act.put, List.setIfInBounds_toArray, List.set_cons_zero, List.set_cons_succ]
        refine wpAnyH_done (by kernel_rfl) ?_ _
        have HC3 := Aside0.mk (show CountAt wr.drew W.heap.size t r o from HC.out)
        have HB3 := Aside0.mk (HB.out.drew)
        clear hHeld x0 x1 x2 z0 z1 HC HB
        go_wp2_with fail
        go_roundw
        case rel => exact ⟨k + 1, by omega, by go_num, HC3.out, HB3.out⟩
        case measure => simp [intOf]; omega
      · have n4 : (f k != 4) = true := by simp [h4]
        have HS := Aside0.mk (behind_wrong HO.out h4 (g k))
        clear h4
        go_upto_region 7 with fail
        refine wp_region_held_drew (S := fun w' => w'.cell? ⟨W.heap.size, 0, none⟩ = some (.int .i64 t) ∧ w'.cell? ⟨W.heap.size, 1, none⟩ = some (.int .i64 r) ∧ w'.cell? ⟨W.heap.size, 2, none⟩ = some (.bool o) ∧ w'.cell? (a.add (k * 2)) = some (.int .i64 (f k)) ∧ w'.cell? ⟨(a.add (k * 2)).block, (a.add (k * 2)).off + 1, none⟩ = some (.int .i64 (g k))) (by kernel_rfl) ?_ (fun hHeld => ?_)
        · exact ⟨x0, x1, x2, z0, z1⟩
        refine takeH 0 (some 21) ?_ (by rfl) (by kernel_rfl) (by kernel_rfl) (by kernel_rfl) (fun _ _ _ h => h) ?_ hHeld ?_
        rotate_left
        · intro o ho
          simp only [List.getElem?_toArray, List.getElem?_cons_zero, Option.some.injEq] at ho
          subst ho
          refine ⟨by rfl, fun w hSw => ?_⟩
          try dsimp only at hSw
          go_simp
          try with_reducible rfl
        try simp only [Act.put, List.setIfInBounds_toArray, List.set_cons_zero, List.set_cons_succ]
        refine takeH 1 (some 22) ?_ (by rfl) (by kernel_rfl) (by kernel_rfl) (by kernel_rfl) (fun _ _ _ h => h) ?_ hHeld ?_
        rotate_left
        · intro o ho
          simp only [List.getElem?_toArray, List.getElem?_cons_succ, List.getElem?_cons_zero, Option.some.injEq] at ho
          subst ho
          refine ⟨by rfl, fun w hSw => ?_⟩
          try dsimp only at hSw
          go_simp
          try with_reducible rfl
        try simp only [Act.put, List.setIfInBounds_toArray, List.set_cons_zero, List.set_cons_succ]
        refine takeH 2 (some 23) ?_ (by rfl) (by kernel_rfl) (by kernel_rfl) (by kernel_rfl) (fun _ _ _ h => h) ?_ hHeld ?_
        rotate_left
        · intro o ho
          simp only [List.getElem?_toArray, List.getElem?_cons_succ, List.getElem?_cons_zero, Option.some.injEq] at ho
          subst ho
          refine ⟨by rfl, fun w hSw => ?_⟩
          try dsimp only at hSw
          go_simp
          try with_reducible rfl
        try simp only [Act.put, List.setIfInBounds_toArray, List.set_cons_zero, List.set_cons_succ]
        refine takeH 3 (some 24) ?_ (by rfl) (by kernel_rfl) (by kernel_rfl) (by kernel_rfl) (fun _ _ _ h => h) ?_ hHeld ?_
        rotate_left
        · intro o ho
          simp only [List.getElem?_toArray, List.getElem?_cons_succ, List.getElem?_cons_zero, Option.some.injEq] at ho
          subst ho
          refine ⟨by rfl, fun w hSw => ?_⟩
          try dsimp only at hSw
          go_simp
          try with_reducible rfl
        try simp only [Act.put, List.setIfInBounds_toArray, List.set_cons_zero, List.set_cons_succ]
        refine takeH 4 (some 25) ?_ (by rfl) (by kernel_rfl) (by kernel_rfl) (by kernel_rfl) (fun _ _ _ h => h) ?_ hHeld ?_
        rotate_left
        · intro o ho
          simp only [List.getElem?_toArray, List.getElem?_cons_succ, List.getElem?_cons_zero, Option.some.injEq] at ho
          subst ho
          refine ⟨by rfl, fun w hSw => ?_⟩
          try dsimp only at hSw
          go_simp
          try with_reducible rfl
        try simp only [Act.put, List.setIfInBounds_toArray, List.set_cons_zero, List.set_cons_succ]
        refine takeH 5 (some 26) ?_ (by rfl) (by kernel_rfl) (by kernel_rfl) (by kernel_rfl) (fun _ _ _ h => h) ?_ hHeld ?_
        rotate_left
        · intro o ho
          simp only [List.getElem?_toArray, List.getElem?_cons_succ, List.getElem?_cons_zero, Option.some.injEq] at ho
          subst ho
          refine ⟨by rfl, fun w hSw => ?_⟩
          try dsimp only at hSw
          go_simp
          try with_reducible rfl
        try simp only [Act.put, List.setIfInBounds_toArray, List.set_cons_zero, List.set_cons_succ]
        refine takeH 6 (some 27) ?_ (by rfl) (by kernel_rfl) (by kernel_rfl) (by kernel_rfl) (fun _ _ _ h => h) ?_ hHeld ?_
        rotate_left
        · intro o ho
          simp only [List.getElem?_toArray, List.getElem?_cons_succ, List.getElem?_cons_zero, Option.some.injEq] at ho
          subst ho
          refine ⟨by rfl, fun w hSw => ?_⟩
          try dsimp only at hSw
          go_simp
          try with_reducible rfl
        try simp only [Act.put, List.setIfInBounds_toArray, List.set_cons_zero, List.set_cons_succ]
        refine takeH 7 (some 28) ?_ (by rfl) (by kernel_rfl) (by kernel_rfl) (by kernel_rfl) (fun _ _ _ h => h) ?_ hHeld ?_
        rotate_left
        · intro o ho
          simp only [List.getElem?_toArray, List.getElem?_cons_succ, List.getElem?_cons_zero, Option.some.injEq] at ho
          subst ho
          refine ⟨by rfl, fun w hSw => ?_⟩
          try dsimp only at hSw
          go_simp
          try with_reducible rfl
        try simp only [Act.put, List.setIfInBounds_toArray, List.set_cons_zero, List.set_cons_succ]
        refine takeH 8 (some 29) ?_ (by rfl) (by kernel_rfl) (by kernel_rfl) (by kernel_rfl) (fun _ _ _ h => h) ?_ hHeld ?_
        rotate_left
        · intro o ho
          simp only [List.getElem?_toArray, List.getElem?_cons_succ, List.getElem?_cons_zero, Option.some.injEq] at ho
          subst ho
          refine ⟨by rfl, fun w hSw => ?_⟩
          try dsimp only at hSw
          go_simp
          try with_reducible rfl
        try simp only [Act.put, List.setIfInBounds_toArray, List.set_cons_zero, List.set_cons_succ]
        refine takeH 9 (some 30) ?_ (by rfl) (by kernel_rfl) (by kernel_rfl) (by kernel_rfl) (fun _ _ _ h => h) ?_ hHeld ?_
        rotate_left
        · intro o ho
          simp only [List.getElem?_toArray, List.getElem?_cons_succ, List.getElem?_cons_zero, Option.some.injEq] at ho
          subst ho
          refine ⟨by rfl, fun w hSw => ?_⟩
          try dsimp only at hSw
          go_simp
          try with_reducible rfl
        try simp only [Act.put, List.setIfInBounds_toArray, List.set_cons_zero, List.set_cons_succ]
        refine takeH 10 (some 31) ?_ (by rfl) (by kernel_rfl) (by kernel_rfl) (by kernel_rfl) (fun _ _ _ h => h) ?_ hHeld ?_
        rotate_left
        · intro o ho
          simp only [List.getElem?_toArray, List.getElem?_cons_succ, List.getElem?_cons_zero, Option.some.injEq] at ho
          subst ho
          refine ⟨by rfl, fun w hSw => ?_⟩
          try dsimp only at hSw
          go_simp
          try with_reducible rfl
        try simp only [Act.put, List.setIfInBounds_toArray, List.set_cons_zero, List.set_cons_succ]
        refine takeH 11 (some 32) ?_ (by rfl) (by kernel_rfl) (by kernel_rfl) (by kernel_rfl) (fun _ _ _ h => h) ?_ hHeld ?_
        rotate_left
        · intro o ho
          simp only [List.getElem?_toArray, List.getElem?_cons_succ, List.getElem?_cons_zero, Option.some.injEq] at ho
          subst ho
          refine ⟨by rfl, fun w hSw => ?_⟩
          try dsimp only at hSw
          go_simp
          try with_reducible rfl
        try simp only [Act.put, List.setIfInBounds_toArray, List.set_cons_zero, List.set_cons_succ]
        refine takeH 13 (some 34) ?_ (by rfl) (by kernel_rfl) (by kernel_rfl) (by kernel_rfl) (fun _ _ _ h => h) ?_ hHeld ?_
        rotate_left
        · intro o ho
          simp only [List.getElem?_toArray, List.getElem?_cons_succ, List.getElem?_cons_zero, Option.some.injEq] at ho
          subst ho
          refine ⟨by rfl, fun w hSw => ?_⟩
          try dsimp only at hSw
          go_simp
          try with_reducible rfl
        try simp only [Act.put, List.setIfInBounds_toArray, List.set_cons_zero, List.set_cons_succ]
        refine oneH 12 (by kernel_rfl) (by rfl) (fun o ho K hK => ?_)
        simp only [List.getElem?_toArray, List.getElem?_cons_succ, List.getElem?_cons_zero, Option.some.injEq] at ho
        subst ho
        go_simp
        refine (Behind_cv t r o (f k) (g k) t r o HS.out _).mono ?_
        rintro e w3 ⟨rfl, q3⟩
        have b3 := nodrew q3
        try go_wp2_with fail
        refine hK.out _ _ ?_ (fun hHeld2 => ?_)
        · exact ⟨cb b3 x0, cb b3 x1, cb b3 x2, cb b3 z0, cb b3 z1⟩
        clear hK K hHeld
        rename _ => hHeld
        try simp only [Act.put, List.setIfInBounds_toArray, List.set_cons_zero, List.set_cons_succ]
        refine takeH 14 (some 35) ?_ (by rfl) (by kernel_rfl) (by kernel_rfl) (by kernel_rfl) (fun _ _ _ h => h) ?_ hHeld ?_
        rotate_left
        · intro o ho
          simp only [List.getElem?_toArray, List.getElem?_cons_succ, List.getElem?_cons_zero, Option.some.injEq] at ho
          subst ho
          refine ⟨by rfl, fun w hSw => ?_⟩
          try dsimp only at hSw
          go_simp
          try with_reducible rfl
        try simp only [Act.put, List.setIfInBounds_toArray, List.set_cons_zero, List.set_cons_succ]
        refine takeH 15 (some 36) ?_ (by rfl) (by kernel_rfl) (by kernel_rfl) (by kernel_rfl) (fun _ _ _ h => h) ?_ hHeld ?_
        rotate_left
        · intro o ho
          simp only [List.getElem?_toArray, List.getElem?_cons_succ, List.getElem?_cons_zero, Option.some.injEq] at ho
          subst ho
          refine ⟨by rfl, fun w hSw => ?_⟩
          try dsimp only at hSw
          go_simp
          try with_reducible rfl
        try simp only [Act.put, List.setIfInBounds_toArray, List.set_cons_zero, List.set_cons_succ]
        refine wpAnyH_done (by kernel_rfl) ?_ _
        have HC3 := Aside0.mk (HC.out.below b3)
        have HB3 := Aside0.mk (below_step HB.out b3)
        clear hHeld b3 q3 x0 x1 x2 z0 z1 HC HB
        go_wp2_with fail
        go_roundw
        case rel => exact ⟨k + 1, by omega, by go_num, HC3.out, HB3.out⟩
        case measure => simp [intOf]; omega
    · obtain rfl : k = len := by omega
      have HB := Aside0.mk hB
      clear hC hB
      go_wp2_with fail
      refine (awake_calls _).mono ?_
      rintro e w3 ⟨rfl, b3⟩
      have HB3 := Aside0.mk (below_step HB.out b3)
      clear b3
      go_wp2
      go_ret
      exact ⟨rfl, HB3.out⟩
end Go.Proofs.Ytalonmhoamjcnaa
