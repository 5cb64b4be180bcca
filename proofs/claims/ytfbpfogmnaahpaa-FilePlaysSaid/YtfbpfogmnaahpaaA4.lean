/-
  Files: keep, Cut, Open.
-/
import Derived.Test.YtfbpfogmnaahpaaA3
namespace Go.Proofs.Ytfbpfogmnaahpaa
open Go.RowKit Go.Proofs.YtfbpfogmnaahpaaW.PrintWords

set_option maxHeartbeats 1000000 in
theorem keep_calls (b p : Nat) (q : Option Nat) (A : Option Addr) (c n : Nat) (l : List Int) (s : Nat) (most : Int) (k : Nat) (w : World) (h : FileAt w b p q A c n l s most false) (hk : k ≤ n) (hb : b ≤ w.heap.size) :
    Calls Try.prog 29 #[.pointer (some ⟨p, 0, none⟩), .int .i64 k] w fun e w' => (∃ v, e = .returned v) ∧ FileAt w' b p q A k k (l.take k) (min s k) most false ∧ Did b w w' p q := by
  obtain ⟨y0, y1, -, -⟩ := h.cells
  obtain ⟨f0, f1, -, -⟩ := h.free
  have k0 : (0 : Int) ≤ (k : Int) := by omega
  have k1 : (k : Int) ≤ (c : Int) := by have := h.bs.cap; have := h.len; omega
  have H := Aside0.mk h
  clear h
  have fin : ∀ j : Nat, j = min s k → FileAt ((w.setCell ⟨p, 0, none⟩ (.slice A k k)).setCell ⟨p, 1, none⟩ (.int .i64 j)) b p q A k k (l.take k) (min s k) most false ∧ Did b w ((w.setCell ⟨p, 0, none⟩ (.slice A k k)).setCell ⟨p, 1, none⟩ (.int .i64 j)) p q := by
    intro j hj
    subst hj
    refine ⟨⟨FileAt.put1 _ (FileAt.put0 H.out.blk), H.out.own, by have := H.out.len; simp; omega, ((H.out.row.keep k (by have := H.out.len; omega)).set _ H.out.apart _).set _ H.out.apart _, H.out.apart, by omega, H.out.rng⟩,
      ⟨(((Below.refl _ _).mono hb).setCell (p := ⟨p, 0, none⟩) H.out.own _).setCell (p := ⟨p, 1, none⟩) H.out.own _, fun j hj h1 h2 => (Below.heap_setCell _ _ _ j h1).trans (Below.heap_setCell _ _ _ j h1)⟩⟩
  have FIN := Aside0.mk fin
  clear fin
  by_cases hks : k < s
  · have FJ := Aside0.mk (FIN.out k (by omega))
    go_enter Try.func29, Try.ntmps29
    go_wp2
    go_end0
    exact ⟨⟨_, rfl⟩, FJ.out⟩
  · have FJ := Aside0.mk (FIN.out s (by omega))
    go_enter Try.func29, Try.ntmps29
    go_wp2
    go_end0
    exact ⟨⟨_, rfl⟩, FJ.out⟩

theorem cut_nil (k : Int) (w : World) : Calls Try.prog 18 #[.pointer none, .int .i64 k] w fun e w' => e = .returned (.int .i64 2) ∧ w = w' := by
  go_enter Try.func18, Try.ntmps18
  go_wp2_with fail
  refine (check_nil w).mono ?_
  rintro e w' ⟨rfl, rfl⟩
  go_wp2
  go_ret
  simp
theorem cut_crashed (b p : Nat) (q : Option Nat) (A : Option Addr) (c n : Nat) (l : List Int) (s : Nat) (most : Int) (k : Int) (w : World) (h : FileAt w b p q A c n l s most true) :
    Calls Try.prog 18 #[.pointer (some ⟨p, 0, none⟩), .int .i64 k] w fun e w' => e = .returned (.int .i64 25) ∧ w = w' := by
  obtain ⟨-, -, -, y3⟩ := h.cells
  clear h
  go_enter Try.func18, Try.ntmps18
  go_wp2_with fail
  refine (check_calls p true 25 rfl w y3).mono ?_
  rintro e w' ⟨rfl, rfl⟩
  go_wp2
  go_ret
  simp
theorem cut_range (b p : Nat) (q : Option Nat) (A : Option Addr) (c n : Nat) (l : List Int) (s : Nat) (most : Int) (k : Int) (w : World) (h : FileAt w b p q A c n l s most false) (hk : k < 0 ∨ n < k) :
    Calls Try.prog 18 #[.pointer (some ⟨p, 0, none⟩), .int .i64 k] w fun e w' => e = .returned (.int .i64 10) ∧ w = w' := by
  obtain ⟨y0, -, -, y3⟩ := h.cells
  clear h
  by_cases c1 : k < 0
  · clear hk
    go_enter Try.func18, Try.ntmps18
    go_wp2_with fail
    refine (check_calls p false 0 rfl w y3).mono ?_
    rintro e w' ⟨rfl, rfl⟩
    go_wp2_with fail
    go_ret
    simp
  · have c2 : (n : Int) < k := by omega
    clear hk
    go_enter Try.func18, Try.ntmps18
    go_wp2_with fail
    refine (check_calls p false 0 rfl w y3).mono ?_
    rintro e w' ⟨rfl, rfl⟩
    go_wp2_with fail
    refine (size_calls p A c n w y0).mono ?_
    rintro e w' ⟨rfl, rfl⟩
    go_wp2_with fail
    go_ret
    simp
theorem cut_calls (b p : Nat) (q : Option Nat) (A : Option Addr) (c n : Nat) (l : List Int) (s : Nat) (most : Int) (k : Nat) (w : World) (h : FileAt w b p q A c n l s most false) (hk : k ≤ n) (hb : b ≤ w.heap.size) :
    Calls Try.prog 18 #[.pointer (some ⟨p, 0, none⟩), .int .i64 k] w fun e w' => e = .returned (.int .i64 0) ∧ FileAt w' b p q A k k (l.take k) (min s k) most false ∧ Did b w w' p q := by
  obtain ⟨y0, -, -, y3⟩ := h.cells
  have H := Aside0.mk h
  have c1 : ¬ (k : Int) < 0 := by omega
  have c2 : ¬ (n : Int) < (k : Int) := by omega
  clear h
  go_enter Try.func18, Try.ntmps18
  go_wp2_with fail
  refine (check_calls p false 0 rfl w y3).mono ?_
  rintro e w' ⟨rfl, rfl⟩
  go_wp2_with fail
  refine (size_calls p A c n w y0).mono ?_
  rintro e w' ⟨rfl, rfl⟩
  go_wp2_with fail
  refine (keep_calls b p q A c n l s most k w H.out hk hb).mono ?_
  rintro e w1 ⟨⟨v, rfl⟩, hf, hd⟩
  have F := Aside0.mk hf
  have D := Aside0.mk hd
  clear hf hd
  go_wp2
  go_ret
  exact ⟨rfl, F.out, D.out⟩

theorem open_nil (w : World) : Calls Try.prog 21 #[.pointer none] w fun e w' => e = .returned (.tuple #[.pointer none, .int .i64 2]) ∧ w = w' := by
  go_enter Try.func21, Try.ntmps21
  go_wp2
  go_ret2
  exact ⟨rfl, rfl⟩
set_option maxHeartbeats 1000000 in
theorem open_calls (b p : Nat) (q : Option Nat) (A : Option Addr) (c n : Nat) (l : List Int) (s : Nat) (most : Int) (cr : Bool) (w : World) (h : FileAt w b p q A c n l s most cr) (hl : n ≤ 140737488355328) (hb : b ≤ w.heap.size) :
    Calls Try.prog 21 #[.pointer (some ⟨p, 0, none⟩)] w fun e w' => ∃ p' q' A' c', e = .returned (.tuple #[.pointer (some ⟨p', 0, none⟩), .int .i64 0]) ∧ FileAt w' b p' q' A' c' n l n most false ∧ w.heap.size ≤ p' ∧ (∀ k, q' = some k → w.heap.size ≤ k) ∧ Below w.heap.size w w' := by
  obtain ⟨y0, -, y2, -⟩ := h.cells
  have H := Aside0.mk h
  clear h
  go_enter Try.func21, Try.ntmps21
  go_wp2_with fail
  refine wp_region_held_drew (S := fun w' => w'.cell? ⟨p, 0, none⟩ = some (.slice A n c) ∧ w'.cell? ⟨p, 2, none⟩ = some (.int .i64 most)) (by kernel_rfl) ?_ (fun hHeld => ?_)
  · exact ⟨y0, y2⟩
  refine takeH 0 (some 6) ?_ (by rfl) (by kernel_rfl) (by kernel_rfl) (by kernel_rfl) (fun _ _ _ h => h) ?_ hHeld ?_
  rotate_left
  · intro o ho
    simp only [List.getElem?_toArray, List.getElem?_cons_zero, Option.some.injEq] at ho
    subst ho
    refine ⟨by rfl, fun w hSw => ?_⟩
    try dsimp only at hSw
    go_simp
    try with_reducible rfl
  try simp only [Act.put, List.setIfInBounds_toArray, List.set_cons_zero, List.set_cons_succ]
  refine takeH 1 (some 7) ?_ (by rfl) (by kernel_rfl) (by kernel_rfl) (by kernel_rfl) (fun _ _ _ h => h) ?_ hHeld ?_
  rotate_left
  · intro o ho
    simp only [List.getElem?_toArray, List.getElem?_cons_succ, List.getElem?_cons_zero, Option.some.injEq] at ho
    subst ho
    refine ⟨by rfl, fun w hSw => ?_⟩
    try dsimp only at hSw
    go_simp
    try with_reducible rfl
  try simp only [Act.put, List.setIfInBounds_toArray, List.set_cons_zero, List.set_cons_succ]
  refine takeH 2 (some 8) ?_ (by rfl) (by kernel_rfl) (by kernel_rfl) (by kernel_rfl) (fun _ _ _ h => h) ?_ hHeld ?_
  rotate_left
  · intro o ho
    simp only [List.getElem?_toArray, List.getElem?_cons_succ, List.getElem?_cons_zero, Option.some.injEq] at ho
    subst ho
    refine ⟨by rfl, fun w hSw => ?_⟩
    try dsimp only at hSw
    go_simp
    try with_reducible rfl
  try simp only [Act.put, List.setIfInBounds_toArray, List.set_cons_zero, List.set_cons_succ]
  refine takeH 3 (some 9) ?_ (by rfl) (by kernel_rfl) (by kernel_rfl) (by kernel_rfl) (fun _ _ _ h => h) ?_ hHeld ?_
  rotate_left
  · intro o ho
    simp only [List.getElem?_toArray, List.getElem?_cons_succ, List.getElem?_cons_zero, Option.some.injEq] at ho
    subst ho
    refine ⟨by rfl, fun w hSw => ?_⟩
    try dsimp only at hSw
    go_simp
    try with_reducible rfl
  try simp only [Act.put, List.setIfInBounds_toArray, List.set_cons_zero, List.set_cons_succ]
  refine takeH 4 (some 10) ?_ (by rfl) (by kernel_rfl) (by kernel_rfl) (by kernel_rfl) (fun _ _ _ h => h) ?_ hHeld ?_
  rotate_left
  · intro o ho
    simp only [List.getElem?_toArray, List.getElem?_cons_succ, List.getElem?_cons_zero, Option.some.injEq] at ho
    subst ho
    refine ⟨by rfl, fun w hSw => ?_⟩
    try dsimp only at hSw
    go_simp
    try with_reducible rfl
  try simp only [Act.put, List.setIfInBounds_toArray, List.set_cons_zero, List.set_cons_succ]
  refine takeH 6 (some 12) ?_ (by rfl) (by kernel_rfl) (by kernel_rfl) (by kernel_rfl) (fun _ _ _ h => h) ?_ hHeld ?_
  rotate_left
  · intro o ho
    simp only [List.getElem?_toArray, List.getElem?_cons_succ, List.getElem?_cons_zero, Option.some.injEq] at ho
    subst ho
    refine ⟨by rfl, fun w hSw => ?_⟩
    try dsimp only at hSw
    go_simp
    try with_reducible rfl
  try simp only [Act.put, List.setIfInBounds_toArray, List.set_cons_zero, List.set_cons_succ]
  refine takeH 7 (some 13) ?_ (by rfl) (by kernel_rfl) (by kernel_rfl) (by kernel_rfl) (fun _ _ _ h => h) ?_ hHeld ?_
  rotate_left
  · intro o ho
    simp only [List.getElem?_toArray, List.getElem?_cons_succ, List.getElem?_cons_zero, Option.some.injEq] at ho
    subst ho
    refine ⟨by rfl, fun w hSw => ?_⟩
    try dsimp only at hSw
    go_simp
    try with_reducible rfl
  try simp only [Act.put, List.setIfInBounds_toArray, List.set_cons_zero, List.set_cons_succ]
  refine takeH 8 (some 14) ?_ (by rfl) (by kernel_rfl) (by kernel_rfl) (by kernel_rfl) (fun _ _ _ h => h) ?_ hHeld ?_
  rotate_left
  · intro o ho
    simp only [List.getElem?_toArray, List.getElem?_cons_succ, List.getElem?_cons_zero, Option.some.injEq] at ho
    subst ho
    refine ⟨by rfl, fun w hSw => ?_⟩
    try dsimp only at hSw
    go_simp
    try with_reducible rfl
  try simp only [Act.put, List.setIfInBounds_toArray, List.set_cons_zero, List.set_cons_succ]
  refine takeH 11 (some 17) ?_ (by rfl) (by kernel_rfl) (by kernel_rfl) (by kernel_rfl) (fun _ _ _ h => h) ?_ hHeld ?_
  rotate_left
  · intro o ho
    simp only [List.getElem?_toArray, List.getElem?_cons_succ, List.getElem?_cons_zero, Option.some.injEq] at ho
    subst ho
    refine ⟨by rfl, fun w hSw => ?_⟩
    try dsimp only at hSw
    go_simp
    try with_reducible rfl
  try simp only [Act.put, List.setIfInBounds_toArray, List.set_cons_zero, List.set_cons_succ]
  refine takeH 12 (some 18) ?_ (by rfl) (by kernel_rfl) (by kernel_rfl) (by kernel_rfl) (fun _ _ _ h => h) ?_ hHeld ?_
  rotate_left
  · intro o ho
    simp only [List.getElem?_toArray, List.getElem?_cons_succ, List.getElem?_cons_zero, Option.some.injEq] at ho
    subst ho
    refine ⟨by rfl, fun w hSw => ?_⟩
    try dsimp only at hSw
    go_simp
    try with_reducible rfl
  try simp only [Act.put, List.setIfInBounds_toArray, List.set_cons_zero, List.set_cons_succ]
  refine takeH 13 (some 19) ?_ (by rfl) (by kernel_rfl) (by kernel_rfl) (by kernel_rfl) (fun _ _ _ h => h) ?_ hHeld ?_
  rotate_left
  · intro o ho
    simp only [List.getElem?_toArray, List.getElem?_cons_succ, List.getElem?_cons_zero, Option.some.injEq] at ho
    subst ho
    refine ⟨by rfl, fun w hSw => ?_⟩
    try dsimp only at hSw
    go_simp
    try with_reducible rfl
  try simp only [Act.put, List.setIfInBounds_toArray, List.set_cons_zero, List.set_cons_succ]
  refine takeH 14 (some 20) ?_ (by rfl) (by kernel_rfl) (by kernel_rfl) (by kernel_rfl) (fun _ _ _ h => h) ?_ hHeld ?_
  rotate_left
  · intro o ho
    simp only [List.getElem?_toArray, List.getElem?_cons_succ, List.getElem?_cons_zero, Option.some.injEq] at ho
    subst ho
    refine ⟨by rfl, fun w hSw => ?_⟩
    try dsimp only at hSw
    go_simp
    try with_reducible rfl
  try simp only [Act.put, List.setIfInBounds_toArray, List.set_cons_zero, List.set_cons_succ]
  refine oneH 5 (by kernel_rfl) (by rfl) (fun o ho K hK => ?_)
  simp only [List.getElem?_toArray, List.getElem?_cons_succ, List.getElem?_cons_zero, Option.some.injEq] at ho
  subst ho
  go_simp
  refine (clone_calls A c n l H.out.len _ (by exact H.out.bs.drewN 1) hl).mono ?_
  rintro e w1 ⟨A', c', q', rfl, hr, q1⟩
  have b1 := nodrew q1
  try go_wp2_with fail
  refine hK.out _ _ ?_ (fun hHeld2 => ?_)
  · exact ⟨cb b1 y0, cb b1 y2⟩
  clear hK K hHeld
  rename _ => hHeld
  try simp only [Act.put, List.setIfInBounds_toArray, List.set_cons_zero, List.set_cons_succ]
  refine oneH 9 (by kernel_rfl) (by rfl) (fun o ho K hK => ?_)
  simp only [List.getElem?_toArray, List.getElem?_cons_succ, List.getElem?_cons_zero, Option.some.injEq] at ho
  subst ho
  go_simp
  refine (size_calls p A c n _ (by exact hHeld.1)).mono ?_
  rintro e v1 ⟨rfl, rfl⟩
  try go_wp2_with fail
  refine hK.out _ _ ?_ (fun hHeld2 => ?_)
  · exact hHeld
  clear hK K hHeld
  rename _ => hHeld
  try simp only [Act.put, List.setIfInBounds_toArray, List.set_cons_zero, List.set_cons_succ]
  refine takeH 10 (some 16) ?_ (by rfl) (by kernel_rfl) (by kernel_rfl) (by kernel_rfl) (fun _ _ _ h => h) ?_ hHeld ?_
  rotate_left
  · intro o ho
    simp only [List.getElem?_toArray, List.getElem?_cons_succ, List.getElem?_cons_zero, Option.some.injEq] at ho
    subst ho
    refine ⟨by rfl, fun w hSw => ?_⟩
    try dsimp only at hSw
    go_simp
    try with_reducible rfl
  try simp only [Act.put, List.setIfInBounds_toArray, List.set_cons_zero, List.set_cons_succ]
  refine takeH 15 (some 21) ?_ (by rfl) (by kernel_rfl) (by kernel_rfl) (by kernel_rfl) (fun _ _ _ h => h) ?_ hHeld ?_
  rotate_left
  · intro o ho
    simp only [List.getElem?_toArray, List.getElem?_cons_succ, List.getElem?_cons_zero, Option.some.injEq] at ho
    subst ho
    refine ⟨by rfl, fun w hSw => ?_⟩
    try dsimp only at hSw
    go_simp
    try with_reducible rfl
  try simp only [Act.put, List.setIfInBounds_toArray, List.set_cons_zero, List.set_cons_succ]
  refine oneH 16 (by kernel_rfl) (by rfl) (fun o ho K hK => ?_)
  simp only [List.getElem?_toArray, List.getElem?_cons_succ, List.getElem?_cons_zero, Option.some.injEq] at ho
  subst ho
  go_simp
  obtain ⟨w2, hw2⟩ : ∃ w2, w1.alloc (.cells #[.slice A' n c', .int .i64 n, .int .i64 most, .bool false] 56) = w2 := ⟨_, rfl⟩
  rw [hw2]
  have g2 := grow hw2
  refine hK.out _ _ ?_ (fun hHeld2 => ?_)
  · exact ⟨cb (below_step b1 g2) y0, cb (below_step b1 g2) y2⟩
  clear hK K hHeld
  rename _ => hHeld
  try simp only [Act.put, List.setIfInBounds_toArray, List.set_cons_zero, List.set_cons_succ]
  refine takeH 17 (some 2) ?_ (by rfl) (by kernel_rfl) (by kernel_rfl) (by kernel_rfl) (fun _ _ _ h => h) ?_ hHeld ?_
  rotate_left
  · intro o ho
    simp only [List.getElem?_toArray, List.getElem?_cons_succ, List.getElem?_cons_zero, Option.some.injEq] at ho
    subst ho
    refine ⟨by rfl, fun w hSw => ?_⟩
    try dsimp only at hSw
    go_simp
    try with_reducible rfl
  try simp only [Act.put, List.setIfInBounds_toArray, List.set_cons_zero, List.set_cons_succ]
  refine takeH 18 (some 3) ?_ (by rfl) (by kernel_rfl) (by kernel_rfl) (by kernel_rfl) (fun _ _ _ h => h) ?_ hHeld ?_
  rotate_left
  · intro o ho
    simp only [List.getElem?_toArray, List.getElem?_cons_succ, List.getElem?_cons_zero, Option.some.injEq] at ho
    subst ho
    refine ⟨by rfl, fun w hSw => ?_⟩
    try dsimp only at hSw
    go_simp
    try with_reducible rfl
  try simp only [Act.put, List.setIfInBounds_toArray, List.set_cons_zero, List.set_cons_succ]
  refine wpAnyH_done (by kernel_rfl) ?_ _
  go_wp2
  go_ret2
  have hs := b1.size
  have hq := fun k hk => (hr.size k hk)
  refine ⟨_, q', A', c', rfl, ⟨hw2 ▸ heap_alloc_new w1 _, by omega, H.out.len, ?_, ?_, Nat.le_refl _, H.out.rng⟩, hs, fun k hk => (hq k hk).1, below_step b1 g2⟩
  · have hr2 := hr.below g2
    refine ⟨hr2.byte, ?_⟩
    rcases hr2.lies with h | ⟨g, cur, h1, h2, h3, h4⟩
    · exact .inl h
    · have hs0 : w.drew.heap.size = w.heap.size := rfl
      exact .inr ⟨g, cur, h1, h2, by omega, h4⟩
  · intro e
    have := (hq _ e).2
    omega
end Go.Proofs.Ytfbpfogmnaahpaa
