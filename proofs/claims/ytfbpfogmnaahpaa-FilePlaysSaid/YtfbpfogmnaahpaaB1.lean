/-
  Files: the walk of FileGarbles.
-/
import Derived.Test.YtfbpfogmnaahpaaA6
namespace Go.Proofs.Ytfbpfogmnaahpaa
open Go.RowKit Go.Proofs.YtfbpfogmnaahpaaW.PrintWords

theorem rd_set (l : List Int) (i j : Nat) (x : Int) (hi : i < l.length) : rd (l.set i x) (j : Int) = if i = j then x else rd l j := by
  unfold rd
  simp only [Int.toNat_natCast, List.getD_eq_getElem?_getD, List.getElem?_set]
  by_cases h : i = j
  · subst h; simp [hi]
  · simp [h]
theorem rd_take (l : List Int) (k j : Nat) (h : j < k) : rd (l.take k) (j : Int) = rd l j := by
  unfold rd
  simp [List.getD_eq_getElem?_getD, h]
theorem rd_app_left (l m : List Int) (j : Nat) (h : j < l.length) : rd (l ++ m) (j : Int) = rd l j := by
  unfold rd
  simp [List.getD_eq_getElem?_getD, List.getElem?_append_left h]
theorem rd_app_right (l m : List Int) (j : Nat) : rd (l ++ m) ((l.length + j : Nat) : Int) = rd m j := by
  unfold rd
  simp only [Int.toNat_natCast, List.getD_eq_getElem?_getD]
  rw [List.getElem?_append_right (by omega)]
  simp
theorem grb_take (s : Nat) (ys l : List Int) (j : Nat) : (grb s ys l j).take s = l.take s := by
  induction j with
  | zero => rfl
  | succ j ih => simp only [grb]; rw [List.take_set_of_le (by omega), ih]
theorem rd_grb (s : Nat) (ys l : List Int) (j i : Nat) (hj : s + j ≤ l.length) : rd (grb s ys l j) ((s + i : Nat) : Int) = if i < j then bits .xor .u8 (rd l ((s + i : Nat) : Int)) (rd ys i) else rd l ((s + i : Nat) : Int) := by
  induction j with
  | zero => simp [grb]
  | succ j ih =>
    simp only [grb]
    rw [rd_set _ _ _ _ (by rw [grb_length]; omega)]
    have ih' := ih (by omega)
    by_cases h : i = j
    · subst h
      rw [if_pos rfl, if_pos (by omega), ih', if_neg (by omega)]
    · rw [if_neg (by omega), ih']
      by_cases h2 : i < j
      · rw [if_pos h2, if_pos (by omega)]
      · rw [if_neg h2, if_neg (by omega)]
theorem xor_back {a b : Int} (ha : 0 ≤ a ∧ a < 256) (hb : 0 ≤ b ∧ b < 256) : bits .xor .u8 (bits .xor .u8 a b) b = a := by
  have h := xor_byte ha hb
  rw [u8_xor _ b h.1 h.2 hb.1 hb.2, u8_xor a b ha.1 ha.2 hb.1 hb.2, Int.toNat_natCast, Nat.xor_assoc, Nat.xor_self, Nat.xor_zero]
  omega
theorem Bs.cut {W : World} {A : Option Addr} {c : Nat} {l : List Int} (h : Bs W A c l) (k : Nat) (hk : k ≤ l.length) : Bs W A c (l.take k) := by
  refine ⟨⟨rfl, ?_, fun hn => ?_⟩, by have := h.cap; simp; omega, fun x hx => h.byte x (List.mem_of_mem_take hx)⟩
  · have := h.reads.2.1; simp; omega
  · have hl : (l.take k).length = k := by simp; omega
    rw [hl] at hn ⊢
    obtain ⟨ad, e, hc⟩ := h.reads.2.2 (by omega)
    refine ⟨ad, e, fun j hj => ?_⟩
    rw [hc j (by omega)]
    simp [List.getD_eq_getElem?_getD, hj]
theorem Bs.blocks {W : World} {A : Option Addr} {c : Nat} {l : List Int} (h : Bs W A c l) (hl : 0 < l.length) : ∀ a, A = some a → a.block < W.heap.size := by
  intro a ha
  obtain ⟨ad, e, hc⟩ := h.reads.2.2 hl
  rw [ha] at e
  cases e
  have hb : (a.add 0).block = a.block := rfl
  rw [← hb]
  exact World.block_lt_of_cell? W _ (hc 0 hl)

set_option maxRecDepth 20000 in
set_option maxHeartbeats 8000000 in
theorem garbles_long (A0 : Option Addr) (c0 n0 : Nat) (A1 : Option Addr) (c1 n1 : Nat) (left : Int) (G : Option Addr) (cg ng : Nat) (W : World) (h : 200 < n0 ∨ 200 < n1 ∨ 200 < ng ∨ left < 0 ∨ n1 < left) :
    Calls Try.prog 3 #[.agg #[.slice A0 n0 c0, .slice A1 n1 c1], .int .i64 left, .slice G ng cg] W fun e W' => e = .returned (.bool true) ∧ Below W.heap.size W W' := by
  by_cases t0 : (200 : Int) < (n0 : Int)
  · clear h
    go_enter Try.func3, Try.ntmps3
    go_wp2_with fail
    obtain ⟨W1, hW1⟩ : ∃ W1, W.alloc (.cells #[.slice A0 n0 c0, .slice A1 n1 c1] 23) = W1 := ⟨_, rfl⟩
    have B1 := Aside0.mk (grow hW1)
    rw [hW1]
    clear hW1
    refine (awake_calls W1).mono ?_
    rintro e wz ⟨rfl, bz⟩
    have BZ := Aside0.mk (below_step B1.out bz)
    clear bz
    go_wp2
    go_ret
    exact ⟨rfl, BZ.out⟩
  by_cases t1 : (200 : Int) < (n1 : Int)
  · clear h
    go_enter Try.func3, Try.ntmps3
    go_wp2_with fail
    obtain ⟨W1, hW1⟩ : ∃ W1, W.alloc (.cells #[.slice A0 n0 c0, .slice A1 n1 c1] 23) = W1 := ⟨_, rfl⟩
    have B1 := Aside0.mk (grow hW1)
    rw [hW1]
    clear hW1
    refine (awake_calls W1).mono ?_
    rintro e wz ⟨rfl, bz⟩
    have BZ := Aside0.mk (below_step B1.out bz)
    clear bz
    go_wp2
    go_ret
    exact ⟨rfl, BZ.out⟩
  by_cases t2 : (200 : Int) < (ng : Int)
  · clear h
    go_enter Try.func3, Try.ntmps3
    go_wp2_with fail
    obtain ⟨W1, hW1⟩ : ∃ W1, W.alloc (.cells #[.slice A0 n0 c0, .slice A1 n1 c1] 23) = W1 := ⟨_, rfl⟩
    have B1 := Aside0.mk (grow hW1)
    rw [hW1]
    clear hW1
    refine (awake_calls W1).mono ?_
    rintro e wz ⟨rfl, bz⟩
    have BZ := Aside0.mk (below_step B1.out bz)
    clear bz
    go_wp2
    go_ret
    exact ⟨rfl, BZ.out⟩
  by_cases t3 : left < 0
  · clear h
    go_enter Try.func3, Try.ntmps3
    go_wp2_with fail
    obtain ⟨W1, hW1⟩ : ∃ W1, W.alloc (.cells #[.slice A0 n0 c0, .slice A1 n1 c1] 23) = W1 := ⟨_, rfl⟩
    have B1 := Aside0.mk (grow hW1)
    rw [hW1]
    clear hW1
    refine (awake_calls W1).mono ?_
    rintro e wz ⟨rfl, bz⟩
    have BZ := Aside0.mk (below_step B1.out bz)
    clear bz
    go_wp2
    go_ret
    exact ⟨rfl, BZ.out⟩
  have t4 : (n1 : Int) < left := by omega
  clear h
  go_enter Try.func3, Try.ntmps3
  go_wp2_with fail
  obtain ⟨W1, hW1⟩ : ∃ W1, W.alloc (.cells #[.slice A0 n0 c0, .slice A1 n1 c1] 23) = W1 := ⟨_, rfl⟩
  have B1 := Aside0.mk (grow hW1)
  rw [hW1]
  clear hW1
  refine (awake_calls W1).mono ?_
  rintro e wz ⟨rfl, bz⟩
  have BZ := Aside0.mk (below_step B1.out bz)
  clear bz
  go_wp2
  go_ret
  exact ⟨rfl, BZ.out⟩

set_option maxRecDepth 20000 in
set_option maxHeartbeats 16000000 in
theorem garbles_short (A0 : Option Addr) (c0 n0 : Nat) (l0 : List Int) (A1 : Option Addr) (c1 n1 : Nat) (l1 : List Int) (k : Nat) (G : Option Addr) (cg ng : Nat) (ys : List Int) (W : World)
    (h0 : Bs W A0 c0 l0) (h1 : Bs W A1 c1 l1) (hg : Bs W G cg ys) (e0 : l0.length = n0) (e1 : l1.length = n1) (eg : ys.length = ng) (u0 : n0 ≤ 200) (u1 : n1 ≤ 200) (ug : ng ≤ 200) (uk : k ≤ n1) :
    Calls Try.prog 3 #[.agg #[.slice A0 n0 c0, .slice A1 n1 c1], .int .i64 k, .slice G ng cg] W fun e W' => e = .returned (.bool true) ∧ Below W.heap.size W W' := by
  have t0 : ¬ (200 : Int) < (n0 : Int) := by omega
  have t1 : ¬ (200 : Int) < (n1 : Int) := by omega
  have t2 : ¬ (200 : Int) < (ng : Int) := by omega
  have t3 : ¬ (k : Int) < 0 := by omega
  have t4 : ¬ (n1 : Int) < (k : Int) := by omega
  have H0 := Aside0.mk (And.intro h0 e0)
  have H1 := Aside0.mk (And.intro h1 e1)
  have HG := Aside0.mk (And.intro hg eg)
  clear h0 h1 hg e0 e1 eg
  go_enter Try.func3, Try.ntmps3
  go_wp2_with fail
  obtain ⟨W1, hW1⟩ : ∃ W1, W.alloc (.cells #[.slice A0 n0 c0, .slice A1 n1 c1] 23) = W1 := ⟨_, rfl⟩
  have B1 := Aside0.mk (grow hW1)
  have hT : W1.heap[W.heap.size]? = some (.cells #[.slice A0 n0 c0, .slice A1 n1 c1] 23 (0, 0)) := hW1 ▸ heap_alloc_new W _
  have X1 := Aside0.mk (show W1.cell? ⟨W.heap.size, 0, none⟩ = some (.slice A0 n0 c0) ∧ W1.cell? ⟨W.heap.size, 1, none⟩ = some (.slice A1 n1 c1) by simp [World.cell?, hT])
  rw [hW1]
  clear hW1 hT
  refine (new_calls 1000 (by decide) (by decide) W1.heap.size W1 (Nat.le_refl _)).mono ?_
  rintro e w2 ⟨rfl, f2, b2⟩
  have F2 := Aside0.mk f2
  have B2 := Aside0.mk b2
  clear f2 b2
  have x0 := cb B2.out X1.out.1
  go_wp2_with fail
  refine (append_calls _ _ _ _ _ _ _ _ _ A0 c0 n0 l0 w2 F2.out ((H0.out.1.below B1.out).below B2.out) H0.out.2 (by simp; omega) (by omega) B2.out.size).mono ?_
  rintro e w3 ⟨rfl, A3, c3, q3, f3, d3, h3⟩
  have F3 := Aside0.mk (show FileAt w3 W1.heap.size W1.heap.size q3 A3 c3 n0 l0 0 1000 false by simpa using f3)
  have B3 := Aside0.mk (B2.out.trans d3.below)
  clear f3 d3 h3 x0 F2 B2
  go_wp2_with fail
  refine (flush_calls _ _ _ _ _ _ _ _ _ w3 F3.out B3.out.size).mono ?_
  rintro e w4 ⟨rfl, f4, d4⟩
  have F4 := Aside0.mk f4
  have B4 := Aside0.mk (B3.out.trans d4.below)
  clear f4 d4 F3 B3
  have x1 := cb B4.out X1.out.2
  go_wp2_with fail
  refine (append_calls _ _ _ _ _ _ _ _ _ A1 c1 n1 l1 w4 F4.out ((H1.out.1.below B1.out).below B4.out) H1.out.2 (by omega) (by omega) B4.out.size).mono ?_
  rintro e w5 ⟨rfl, A5, c5, q5, f5, d5, h5⟩
  have F5 := Aside0.mk f5
  have B5 := Aside0.mk (B4.out.trans d5.below)
  clear f5 d5 h5 x1 F4 B4
  go_wp2_with fail
  have hGq : 0 < ng → ∀ a, G = some a → a.block ≠ W1.heap.size ∧ some a.block ≠ q5 := by
    intro hn a ha
    have hl := (HG.out.1.below B1.out).blocks (by have := HG.out.2; omega) a ha
    refine ⟨by omega, fun e => ?_⟩
    have := (F5.out.row.size _ e.symm).1
    omega
  have HGQ := Aside0.mk hGq
  clear hGq
  obtain ⟨J, hJ⟩ : ∃ J, J = min k ng := ⟨_, rfl⟩
  have hJb : J ≤ k ∧ J ≤ ng ∧ (J = k ∨ J = ng) := by omega
  refine (crash_calls _ _ _ _ _ _ _ _ _ k (n0 + k) rfl (by omega) G cg ng ys J hJ w5 F5.out ((HG.out.1.below B1.out).below B5.out) HG.out.2 HGQ.out B5.out.size).mono ?_
  rintro e w6 ⟨rfl, f6, d6⟩
  obtain ⟨F, hF⟩ : ∃ F, F = grb n0 ys ((l0 ++ l1).take (n0 + k)) J := ⟨_, rfl⟩
  obtain ⟨N, hN⟩ : ∃ N, N = n0 + k := ⟨_, rfl⟩
  rw [← hF, ← hN] at f6
  have hTT : F.take n0 = l0 := by
    rw [hF, grb_take, List.take_take, Nat.min_eq_left (by omega), ← H0.out.2]
    exact List.take_left
  have hRD : ∀ i : Nat, i < k → rd F ((n0 + i : Nat) : Int) = if i < J then bits .xor .u8 (rd l1 i) (rd ys i) else rd l1 i := by
    intro i hi
    have e := rd_grb n0 ys ((l0 ++ l1).take (n0 + k)) J i (by have := H0.out.2; have := H1.out.2; simp; omega)
    rw [hF, e, rd_take _ _ _ (by omega)]
    have e2 := rd_app_right l0 l1 i
    rw [H0.out.2] at e2
    rw [e2]
  have HT := Aside0.mk hTT
  have HRD := Aside0.mk hRD
  have HFL := Aside0.mk f6.len
  have HNN := Aside0.mk hN
  have HJ := Aside0.mk hJb
  have F6 := Aside0.mk f6
  have B6 := Aside0.mk (B5.out.trans d6.below)
  clear f6 d6 F5 B5 hF hN hTT hRD hJ hJb HGQ
  go_wp2_with fail
  obtain ⟨y0, -, -, -⟩ := F6.out.cells
  refine (bytes_calls _ _ _ _ F HFL.out (by have := HNN.out; omega) w6 y0 F6.out.bs).mono ?_
  rintro e w7 ⟨A7, c7, q7, rfl, r7, b7⟩
  have RB := Aside0.mk r7
  have B7 := Aside0.mk (B6.out.trans (b7.mono B6.out.size))
  clear r7 b7 y0 F6 B6
  have x0 := cb B7.out X1.out.1
  go_wp2_with fail
  have g0 : (n0 : Int) ≤ (N : Int) := by have := HNN.out; omega
  have g1 : (0 : Int) ≤ (n0 : Int) := by omega
  have g2 : (n0 : Int) ≤ (c7 : Int) := by have := RB.out.bs.cap; have := HFL.out; omega
  have g3 : (((N : Nat) : Int) != IntKind.i64.wrap ((n0 : Int) + (k : Int))) = false := by rw [wrap_in (by omega) (by omega), HNN.out]; simp
  have H0r := Aside0.mk ((H0.out.1.below B1.out).below B7.out)
  refine wp_region_held_drew (S := fun w' => w'.cell? ⟨W.heap.size, 0, none⟩ = some (.slice A0 n0 c0)) (by kernel_rfl) ?_ (fun hHeld => ?_)
  · exact x0
  refine takeH 0 (some 81) ?_ (by rfl) (by kernel_rfl) (by kernel_rfl) (by kernel_rfl) (fun _ _ _ h => h) ?_ hHeld ?_
  rotate_left
  · intro o ho
    simp only [List.getElem?_toArray, List.getElem?_cons_zero, Option.some.injEq] at ho
    subst ho
    refine ⟨by rfl, fun w hSw => ?_⟩
    try dsimp only at hSw
    go_simp
    try with_reducible rfl
  try simp only [Act.put, List.setIfInBounds_toArray, List.set_cons_zero, List.set_cons_succ]
  refine takeH 1 (some 82) ?_ (by rfl) (by kernel_rfl) (by kernel_rfl) (by kernel_rfl) (fun _ _ _ h => h) ?_ hHeld ?_
  rotate_left
  · intro o ho
    simp only [List.getElem?_toArray, List.getElem?_cons_succ, List.getElem?_cons_zero, Option.some.injEq] at ho
    subst ho
    refine ⟨by rfl, fun w hSw => ?_⟩
    try dsimp only at hSw
    go_simp
    try with_reducible rfl
  try simp only [Act.put, List.setIfInBounds_toArray, List.set_cons_zero, List.set_cons_succ]
  refine takeH 2 (some 83) ?_ (by rfl) (by kernel_rfl) (by kernel_rfl) (by kernel_rfl) (fun _ _ _ h => h) ?_ hHeld ?_
  rotate_left
  · intro o ho
    simp only [List.getElem?_toArray, List.getElem?_cons_succ, List.getElem?_cons_zero, Option.some.injEq] at ho
    subst ho
    refine ⟨by rfl, fun w hSw => ?_⟩
    try dsimp only at hSw
    go_simp
    try with_reducible rfl
  try simp only [Act.put, List.setIfInBounds_toArray, List.set_cons_zero, List.set_cons_succ]
  refine takeH 3 (some 84) ?_ (by rfl) (by kernel_rfl) (by kernel_rfl) (by kernel_rfl) (fun _ _ _ h => h) ?_ hHeld ?_
  rotate_left
  · intro o ho
    simp only [List.getElem?_toArray, List.getElem?_cons_succ, List.getElem?_cons_zero, Option.some.injEq] at ho
    subst ho
    refine ⟨by rfl, fun w hSw => ?_⟩
    try dsimp only at hSw
    go_simp
    try with_reducible rfl
  try simp only [Act.put, List.setIfInBounds_toArray, List.set_cons_zero, List.set_cons_succ]
  refine takeH 4 (some 85) ?_ (by rfl) (by kernel_rfl) (by kernel_rfl) (by kernel_rfl) (fun _ _ _ h => h) ?_ hHeld ?_
  rotate_left
  · intro o ho
    simp only [List.getElem?_toArray, List.getElem?_cons_succ, List.getElem?_cons_zero, Option.some.injEq] at ho
    subst ho
    refine ⟨by rfl, fun w hSw => ?_⟩
    try dsimp only at hSw
    go_simp
    try with_reducible rfl
  try simp only [Act.put, List.setIfInBounds_toArray, List.set_cons_zero, List.set_cons_succ]
  refine takeH 5 (some 86) ?_ (by rfl) (by kernel_rfl) (by kernel_rfl) (by kernel_rfl) (fun _ _ _ h => h) ?_ hHeld ?_
  rotate_left
  · intro o ho
    simp only [List.getElem?_toArray, List.getElem?_cons_succ, List.getElem?_cons_zero, Option.some.injEq] at ho
    subst ho
    refine ⟨by rfl, fun w hSw => ?_⟩
    try dsimp only at hSw
    go_simp
    try with_reducible rfl
  try simp only [Act.put, List.setIfInBounds_toArray, List.set_cons_zero, List.set_cons_succ]
  refine takeH 6 (some 87) ?_ (by rfl) (by kernel_rfl) (by kernel_rfl) (by kernel_rfl) (fun _ _ _ h => h) ?_ hHeld ?_
  rotate_left
  · intro o ho
    simp only [List.getElem?_toArray, List.getElem?_cons_succ, List.getElem?_cons_zero, Option.some.injEq] at ho
    subst ho
    refine ⟨by rfl, fun w hSw => ?_⟩
    try dsimp only at hSw
    go_simp
    try with_reducible rfl
  try simp only [Act.put, List.setIfInBounds_toArray, List.set_cons_zero, List.set_cons_succ]
  refine takeH 7 (some 88) ?_ (by rfl) (by kernel_rfl) (by kernel_rfl) (by kernel_rfl) (fun _ _ _ h => h) ?_ hHeld ?_
  rotate_left
  · intro o ho
    simp only [List.getElem?_toArray, List.getElem?_cons_succ, List.getElem?_cons_zero, Option.some.injEq] at ho
    subst ho
    refine ⟨by rfl, fun w hSw => ?_⟩
    try dsimp only at hSw
    go_simp
    try with_reducible rfl
  try simp only [Act.put, List.setIfInBounds_toArray, List.set_cons_zero, List.set_cons_succ]
  refine takeH 8 (some 89) ?_ (by rfl) (by kernel_rfl) (by kernel_rfl) (by kernel_rfl) (fun _ _ _ h => h) ?_ hHeld ?_
  rotate_left
  · intro o ho
    simp only [List.getElem?_toArray, List.getElem?_cons_succ, List.getElem?_cons_zero, Option.some.injEq] at ho
    subst ho
    refine ⟨by rfl, fun w hSw => ?_⟩
    try dsimp only at hSw
    go_simp
    try with_reducible rfl
  try simp only [Act.put, List.setIfInBounds_toArray, List.set_cons_zero, List.set_cons_succ]
  refine takeH 9 (some 90) ?_ (by rfl) (by kernel_rfl) (by kernel_rfl) (by kernel_rfl) (fun _ _ _ h => h) ?_ hHeld ?_
  rotate_left
  · intro o ho
    simp only [List.getElem?_toArray, List.getElem?_cons_succ, List.getElem?_cons_zero, Option.some.injEq] at ho
    subst ho
    refine ⟨by rfl, fun w hSw => ?_⟩
    try dsimp only at hSw
    go_simp
    try with_reducible rfl
  try simp only [Act.put, List.setIfInBounds_toArray, List.set_cons_zero, List.set_cons_succ]
  refine takeH 10 (some 91) ?_ (by rfl) (by kernel_rfl) (by kernel_rfl) (by kernel_rfl) (fun _ _ _ h => h) ?_ hHeld ?_
  rotate_left
  · intro o ho
    simp only [List.getElem?_toArray, List.getElem?_cons_succ, List.getElem?_cons_zero, Option.some.injEq] at ho
    subst ho
    refine ⟨by rfl, fun w hSw => ?_⟩
    try dsimp only at hSw
    go_simp
    try with_reducible rfl
  try simp only [Act.put, List.setIfInBounds_toArray, List.set_cons_zero, List.set_cons_succ]
  refine takeH 11 (some 92) ?_ (by rfl) (by kernel_rfl) (by kernel_rfl) (by kernel_rfl) (fun _ _ _ h => h) ?_ hHeld ?_
  rotate_left
  · intro o ho
    simp only [List.getElem?_toArray, List.getElem?_cons_succ, List.getElem?_cons_zero, Option.some.injEq] at ho
    subst ho
    refine ⟨by rfl, fun w hSw => ?_⟩
    try dsimp only at hSw
    go_simp
    try with_reducible rfl
  try simp only [Act.put, List.setIfInBounds_toArray, List.set_cons_zero, List.set_cons_succ]
  refine oneH 12 (by kernel_rfl) (by rfl) (fun o ho K hK => ?_)
  simp only [List.getElem?_toArray, List.getElem?_cons_succ, List.getElem?_cons_zero, Option.some.injEq] at ho
  subst ho
  go_simp
  refine (same_calls _ _ n0 (F.take n0) (by rw [List.length_take, HFL.out]; omega) _ _ n0 l0 H0.out.2 _ (by exact (RB.out.bs.cut n0 (by rw [HFL.out]; omega)).drewN 1) (by exact (H0r.out).drewN 1)).mono ?_
  rintro e w9 ⟨rfl, hd9⟩
  rw [HT.out]
  have b9 := nodrew (same_below hd9)
  try go_wp2_with fail
  refine hK.out _ _ ?_ (fun hHeld2 => ?_)
  · exact cb b9 x0
  clear hK K hHeld
  rename _ => hHeld
  try simp only [Act.put, List.setIfInBounds_toArray, List.set_cons_zero, List.set_cons_succ]
  refine takeH 13 (some 94) ?_ (by rfl) (by kernel_rfl) (by kernel_rfl) (by kernel_rfl) (fun _ _ _ h => h) ?_ hHeld ?_
  rotate_left
  · intro o ho
    simp only [List.getElem?_toArray, List.getElem?_cons_succ, List.getElem?_cons_zero, Option.some.injEq] at ho
    subst ho
    refine ⟨by rfl, fun w hSw => ?_⟩
    try dsimp only at hSw
    go_simp
    try with_reducible rfl
  try simp only [Act.put, List.setIfInBounds_toArray, List.set_cons_zero, List.set_cons_succ]
  refine takeH 14 (some 95) ?_ (by rfl) (by kernel_rfl) (by kernel_rfl) (by kernel_rfl) (fun _ _ _ h => h) ?_ hHeld ?_
  rotate_left
  · intro o ho
    simp only [List.getElem?_toArray, List.getElem?_cons_succ, List.getElem?_cons_zero, Option.some.injEq] at ho
    subst ho
    refine ⟨by rfl, fun w hSw => ?_⟩
    try dsimp only at hSw
    go_simp
    try with_reducible rfl
  try simp only [Act.put, List.setIfInBounds_toArray, List.set_cons_zero, List.set_cons_succ]
  refine wpAnyH_done (by kernel_rfl) ?_ _
  go_wp2_with fail
  have B9 := Aside0.mk (B7.out.trans (b9.mono B7.out.size))
  have R9 := Aside0.mk (RB.out.below b9).bs
  clear hHeld x0 b9 hd9 B7 RB H0r g0 g1 g2 g3
  have x1 := cb B9.out X1.out.2
  go_loopw [11] (fun i wr => ∃ j : Nat, j ≤ k ∧ i = .int .i64 j ∧ w9 = wr) (fun i _ => k - (intOf i).toNat)
  case atStart => exact ⟨0, by omega, rfl, rfl⟩
  case round =>
    obtain ⟨j, hj, rfl, rfl⟩ := hrel
    by_cases hlt : j < k
    · have i0 : (0 : Int) ≤ (j : Int) := by omega
      have i1 : (j : Int) < (k : Int) := by omega
      have i2 : (j : Int) < (n1 : Int) := by omega
      obtain ⟨a7, rfl, u0, u1, u2⟩ := R9.out.at_ (n0 + j) (by have := HFL.out; have := HNN.out; omega)
      obtain ⟨a1, rfl, v0, v1, v2⟩ := ((H1.out.1.below B1.out).below B9.out).at_ j (by have := H1.out.2; omega)
      have t0 : (0 : Int) ≤ (n0 : Int) + (j : Int) := by omega
      have t1 : (n0 : Int) + (j : Int) < (N : Int) := by have := HNN.out; omega
      have t2 : ((n0 : Int) + (j : Int)).toNat = n0 + j := by omega
      have t3 : IntKind.i64.wrap ((n0 : Int) + (j : Int)) = (n0 : Int) + (j : Int) := wrap_in (by omega) (by omega)
      have hv := HRD.out j hlt
      obtain ⟨fb, hfb⟩ : ∃ x, x = rd F ((n0 + j : Nat) : Int) := ⟨_, rfl⟩
      obtain ⟨lb, hlb⟩ : ∃ x, x = rd l1 j := ⟨_, rfl⟩
      rw [← hfb] at u0 hv
      rw [← hlb] at v0 v1 v2 hv
      by_cases hg : j < ng
      · have i3 : (j : Int) < (ng : Int) := by omega
        obtain ⟨ag, rfl, z0, z1, z2⟩ := ((HG.out.1.below B1.out).below B9.out).at_ j (by have := HG.out.2; omega)
        have hx : (bits .xor .u8 fb (rd ys j) != lb) = false := by
          rw [hv, if_pos (by have := HJ.out; omega), xor_back ⟨v1, v2⟩ ⟨z1, z2⟩]
          simp
        obtain ⟨gb, hgb⟩ : ∃ x, x = rd ys j := ⟨_, rfl⟩
        rw [← hgb] at z0 hx
        clear hv hfb hlb hgb u1 u2 v1 v2 z1 z2
        go_wp2_with fail
        go_roundw
        case rel => exact ⟨j + 1, by omega, by go_num, trivial⟩
        case measure => simp [intOf]; omega
      · have i3 : ¬ (j : Int) < (ng : Int) := by omega
        have hx : (fb != lb) = false := by
          rw [hv, if_neg (by have := HJ.out; omega)]
          simp
        clear hv hfb hlb u1 u2 v1 v2
        go_wp2_with fail
        go_roundw
        case rel => exact ⟨j + 1, by omega, by go_num, trivial⟩
        case measure => simp [intOf]; omega
    · obtain rfl : j = k := by omega
      go_wp2_with fail
      refine (awake_calls w9).mono ?_
      rintro e wz ⟨rfl, bz⟩
      have BZ := Aside0.mk (below_step (B1.out.trans (B9.out.mono B1.out.size)) bz)
      clear bz
      go_wp2
      go_ret
      exact ⟨rfl, BZ.out⟩

theorem garbles_calls (A0 : Option Addr) (c0 : Nat) (l0 : List Int) (A1 : Option Addr) (c1 : Nat) (l1 : List Int) (left : Int) (G : Option Addr) (cg : Nat) (ys : List Int) (W : World)
    (h : Bs W A0 c0 l0 ∧ Bs W A1 c1 l1) (hw : (Lit.int .i64 left).wf = true) (hg : Bs W G cg ys) :
    Calls Try.prog 3 #[.agg #[.slice A0 l0.length c0, .slice A1 l1.length c1], .int .i64 left, .slice G ys.length cg] W fun e W' => e = .returned (.bool true) ∧ Below W.heap.size W W' := by
  by_cases hl : 200 < l0.length ∨ 200 < l1.length ∨ 200 < ys.length ∨ left < 0 ∨ (l1.length : Int) < left
  · exact garbles_long A0 c0 _ A1 c1 _ left G cg _ W hl
  · obtain ⟨k, rfl⟩ : ∃ k : Nat, left = (k : Int) := ⟨left.toNat, by omega⟩
    exact garbles_short A0 c0 _ l0 A1 c1 _ l1 k G cg _ ys W h.1 h.2 hg rfl rfl rfl (by omega) (by omega) (by omega) (by omega)
end Go.Proofs.Ytfbpfogmnaahpaa
