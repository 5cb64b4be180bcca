/-
  Files: the walk of FileParts.
-/
import Derived.Test.YtfbpfogmnaahpaaB1
namespace Go.Proofs.Ytfbpfogmnaahpaa
open Go.RowKit Go.Proofs.YtfbpfogmnaahpaaW.PrintWords

theorem Row.drew {W : World} {b : Nat} {q : Option Nat} {A : Option Addr} {c : Nat} {l : List Int} (h : Row W b q A c l) : Row W.drew b q A c l := ⟨h.byte, h.lies⟩
theorem Bs.of {W W' : World} {A : Option Addr} {c : Nat} {l : List Int} {n : Nat} (h : Bs W A c l ∧ l.length = n) (hb : Below W.heap.size W W') : ReadsInt W' .u8 A n l := by
  have := (h.1.below hb).reads
  rw [h.2] at this
  exact this
/-- append(v, ys...) at a step of a region that draws its order. -/
theorem step_append_Row {ops : Array Oper} {o : Oper} {a : Act} {Q : Exit → Act → World → Prop} {K : Act → World → Prop} {E : Prop} {W : World} {b : Nat} {q : Option Nat} {A : Option Addr} {c n : Nat} {l : List Int} (hw : Region.wanted o (yielded ops a.tmps) = true) (s x : Operand)
    (ho : o.op = .call { callee := .builtin .append, args := #[s, x], argTypes := #[22, 22] }) (X : Option Addr) (m cx : Nat) (ys : List Int) (hs : a.eval s = .slice A n c) (hx : a.eval x = .slice X m cx) (hn : l.length = n) (N : Nat) (hN : n + m = N)
    (h : Row W b q A c l) (hY : ReadsInt W .u8 X m ys) (hyb : ∀ x ∈ ys, 0 ≤ x ∧ x < 256) (hl : n + m ≤ 140737488355328) (hbase : b ≤ W.heap.size)
    (hk : ∀ A' c' q' W', Row W' b q' A' c' (l ++ ys) → W.grownBy W' q → (q' = q ∨ ∃ k, q' = some k ∧ W.heap.size ≤ k) → K (a.put o.dst (.slice A' N c')) W') :
    if Region.wanted o (yielded ops a.tmps) = true then Oper.wp Try.prog o a W K Q else E := by
  rw [if_pos hw]
  subst hn hN
  obtain ⟨A', c', q', W', hr, h1, h2, h3⟩ := run_append_Row h (cx := cx) hY hyb hl hbase o.type
  unfold Oper.wp execOp
  simp only [ho, resolve, invoke, builtin, Sem.run_bind, Sem.run_pure, Result.andThen_ok, List.map_toArray, List.map_cons, List.map_nil, hs, hx, hr]
  exact hk A' c' q' W' h1 h2 h3
theorem replicate_byte (z : Nat) : ∀ x ∈ List.replicate z (0 : Int), 0 ≤ x ∧ x < 256 := by
  intro x hx
  obtain rfl := List.eq_of_mem_replicate hx
  omega
theorem made_bs {W W' : World} (z : Nat) (hz : z ≤ 140737488355328) (h : W.alloc (.cells (madeCells #[.int .u8 0] z) 5) = W') : Bs W' (some ⟨W.heap.size, 0, none⟩) z (List.replicate z 0) := by
  subst h
  obtain ⟨q, hq⟩ := Row.of_own (by simp) (own_made W W.heap.size 5 .u8 z (Nat.le_refl _) (by omega)) (replicate_byte z)
  exact hq.bs

/-- A block that is not older than another one. -/
def Fresh (q : Option Nat) (m : Nat) : Prop := ∀ k, q = some k → m ≤ k
theorem Fresh.step {q q' : Option Nat} {m n : Nat} (h : Fresh q m) (hq : q' = q ∨ ∃ k, q' = some k ∧ n ≤ k) (hn : m ≤ n) : Fresh q' m := by
  rcases hq with rfl | ⟨k, rfl, hk⟩
  · exact h
  · intro j hj; cases hj; omega
theorem Row.did2 {W W' : World} {b b2 : Nat} {q : Option Nat} {A : Option Addr} {c : Nat} {l : List Int} {p2 : Nat} {q2 : Option Nat} (h : Row W b q A c l) (hd : Did b2 W W' p2 q2) (h1 : q ≠ some p2) (h2 : ∀ k, q = some k → some k ≠ q2) : Row W' b q A c l :=
  ⟨h.byte, by
    rcases h.lies with h | ⟨g, cur, h3, h4, h5, h6, h7⟩
    · exact .inl h
    · exact .inr ⟨g, cur, h3, h4, h5, (hd.kept g (Array.getElem?_eq_some_iff.1 h6).1 (fun e => h1 (by rw [h3, e])) (h2 g h3)).trans h6, h7⟩⟩

set_option maxRecDepth 20000 in
set_option maxHeartbeats 8000000 in
theorem parts_long (A0 : Option Addr) (c0 n0 : Nat) (A1 : Option Addr) (c1 n1 : Nat) (most : Int) (W : World) (h : 200 < n0 ∨ 200 < n1 ∨ most < 1 ∨ 1000 < most) :
    Calls Try.prog 7 #[.agg #[.slice A0 n0 c0, .slice A1 n1 c1], .int .i64 most] W fun e W' => e = .returned (.bool true) ∧ Below W.heap.size W W' := by
  by_cases t0 : (200 : Int) < (n0 : Int)
  · clear h
    go_enter Try.func7, Try.ntmps7
    go_wp2_with fail
    obtain ⟨W1, hW1⟩ : ∃ W1, W.alloc (.cells #[.slice A0 n0 c0, .slice A1 n1 c1] 23) = W1 := ⟨_, rfl⟩
    have B1 := Aside0.mk (grow hW1)
    rw [hW1]
    clear hW1
    refine (awake_calls W1).mono ?_
    rintro e wz ⟨rfl, bz⟩
    have BZ := Aside0.mk (below_step B1.out bz)
    clear bz
    go_wp2
    go_ret
    exact ⟨rfl, BZ.out⟩
  by_cases t1 : (200 : Int) < (n1 : Int)
  · clear h
    go_enter Try.func7, Try.ntmps7
    go_wp2_with fail
    obtain ⟨W1, hW1⟩ : ∃ W1, W.alloc (.cells #[.slice A0 n0 c0, .slice A1 n1 c1] 23) = W1 := ⟨_, rfl⟩
    have B1 := Aside0.mk (grow hW1)
    rw [hW1]
    clear hW1
    refine (awake_calls W1).mono ?_
    rintro e wz ⟨rfl, bz⟩
    have BZ := Aside0.mk (below_step B1.out bz)
    clear bz
    go_wp2
    go_ret
    exact ⟨rfl, BZ.out⟩
  by_cases t2 : most < 1
  · clear h
    go_enter Try.func7, Try.ntmps7
    go_wp2_with fail
    obtain ⟨W1, hW1⟩ : ∃ W1, W.alloc (.cells #[.slice A0 n0 c0, .slice A1 n1 c1] 23) = W1 := ⟨_, rfl⟩
    have B1 := Aside0.mk (grow hW1)
    rw [hW1]
    clear hW1
    refine (awake_calls W1).mono ?_
    rintro e wz ⟨rfl, bz⟩
    have BZ := Aside0.mk (below_step B1.out bz)
    clear bz
    go_wp2
    go_ret
    exact ⟨rfl, BZ.out⟩
  have t3 : 1000 < most := by omega
  clear h
  go_enter Try.func7, Try.ntmps7
  go_wp2_with fail
  obtain ⟨W1, hW1⟩ : ∃ W1, W.alloc (.cells #[.slice A0 n0 c0, .slice A1 n1 c1] 23) = W1 := ⟨_, rfl⟩
  have B1 := Aside0.mk (grow hW1)
  rw [hW1]
  clear hW1
  refine (awake_calls W1).mono ?_
  rintro e wz ⟨rfl, bz⟩
  have BZ := Aside0.mk (below_step B1.out bz)
  clear bz
  go_wp2
  go_ret
  exact ⟨rfl, BZ.out⟩

set_option maxRecDepth 20000 in
set_option maxHeartbeats 16000000 in
theorem parts_short (A0 : Option Addr) (c0 n0 : Nat) (l0 : List Int) (A1 : Option Addr) (c1 n1 : Nat) (l1 : List Int) (most : Int) (W : World)
    (h0 : Bs W A0 c0 l0) (h1 : Bs W A1 c1 l1) (e0 : l0.length = n0) (e1 : l1.length = n1) (u0 : n0 ≤ 200) (u1 : n1 ≤ 200) (m0 : 1 ≤ most) (m1 : most ≤ 1000) :
    Calls Try.prog 7 #[.agg #[.slice A0 n0 c0, .slice A1 n1 c1], .int .i64 most] W fun e W' => e = .returned (.bool true) ∧ Below W.heap.size W W' := by
  have t0 : ¬ (200 : Int) < (n0 : Int) := by omega
  have t1 : ¬ (200 : Int) < (n1 : Int) := by omega
  have t2 : ¬ most < 1 := by omega
  have t3 : ¬ 1000 < most := by omega
  have H0 := Aside0.mk (And.intro h0 e0)
  have H1 := Aside0.mk (And.intro h1 e1)
  have HM := Aside0.mk (And.intro m0 m1)
  obtain ⟨M, hM⟩ : ∃ M, n0 + n1 = M := ⟨_, rfl⟩
  have HMM := Aside0.mk hM
  clear hM
  clear h0 h1 e0 e1 m0 m1
  go_enter Try.func7, Try.ntmps7
  go_wp2_with fail
  obtain ⟨W1, hW1⟩ : ∃ W1, W.alloc (.cells #[.slice A0 n0 c0, .slice A1 n1 c1] 23) = W1 := ⟨_, rfl⟩
  have B1 := Aside0.mk (grow hW1)
  have hT : W1.heap[W.heap.size]? = some (.cells #[.slice A0 n0 c0, .slice A1 n1 c1] 23 (0, 0)) := hW1 ▸ heap_alloc_new W _
  have X1 := Aside0.mk (show W1.cell? ⟨W.heap.size, 0, none⟩ = some (.slice A0 n0 c0) ∧ W1.cell? ⟨W.heap.size, 1, none⟩ = some (.slice A1 n1 c1) by simp [World.cell?, hT])
  rw [hW1]
  clear hW1 hT t0 t1 t2 t3
  refine (new_calls most HM.out.1 (by have := HM.out.2; omega) W1.heap.size W1 (Nat.le_refl _)).mono ?_
  rintro e w2 ⟨rfl, f2, b2⟩
  have F2 := Aside0.mk f2
  have B2 := Aside0.mk b2
  clear f2 b2
  go_wp2_with fail
  refine (new_calls most HM.out.1 (by have := HM.out.2; omega) W1.heap.size w2 B2.out.size).mono ?_
  rintro e w3 ⟨rfl, f3, b3⟩
  have G3 := Aside0.mk f3
  have F3 := Aside0.mk (F2.out.below b3)
  have B3 := Aside0.mk (B2.out.trans (b3.mono B2.out.size))
  have PP := Aside0.mk (show W1.heap.size < w2.heap.size from F2.out.lt)
  clear f3 b3 F2 B2
  have x0 := cb B3.out X1.out.1
  have x1 := cb B3.out X1.out.2
  have H0w3 := Aside0.mk (show Bs w3 A0 c0 l0 ∧ l0.length = n0 from ⟨(H0.out.1.below B1.out).below B3.out, H0.out.2⟩)
  have H1w3 := Aside0.mk (show Bs w3 A1 c1 l1 ∧ l1.length = n1 from ⟨(H1.out.1.below B1.out).below B3.out, H1.out.2⟩)
  go_wp2_with fail
  refine wp_region_held_drew (S := fun w' => w'.cell? ⟨W.heap.size, 0, none⟩ = some (.slice A0 n0 c0) ∧ w'.cell? ⟨W.heap.size, 1, none⟩ = some (.slice A1 n1 c1)) (by kernel_rfl) ?_ (fun hHeld => ?_)
  · exact ⟨x0, x1⟩
  refine takeH 1 (some 58) ?_ (by rfl) (by kernel_rfl) (by kernel_rfl) (by kernel_rfl) (fun _ _ _ h => h) ?_ hHeld ?_
  rotate_left
  · intro o ho
    simp only [List.getElem?_toArray, List.getElem?_cons_succ, List.getElem?_cons_zero, Option.some.injEq] at ho
    subst ho
    refine ⟨by rfl, fun w hSw => ?_⟩
    try dsimp only at hSw
    go_simp
    try with_reducible rfl
  try simp only [Act.put, List.setIfInBounds_toArray, List.set_cons_zero, List.set_cons_succ]
  refine takeH 2 (some 59) ?_ (by rfl) (by kernel_rfl) (by kernel_rfl) (by kernel_rfl) (fun _ _ _ h => h) ?_ hHeld ?_
  rotate_left
  · intro o ho
    simp only [List.getElem?_toArray, List.getElem?_cons_succ, List.getElem?_cons_zero, Option.some.injEq] at ho
    subst ho
    refine ⟨by rfl, fun w hSw => ?_⟩
    try dsimp only at hSw
    go_simp
    try with_reducible rfl
  try simp only [Act.put, List.setIfInBounds_toArray, List.set_cons_zero, List.set_cons_succ]
  refine takeH 4 (some 61) ?_ (by rfl) (by kernel_rfl) (by kernel_rfl) (by kernel_rfl) (fun _ _ _ h => h) ?_ hHeld ?_
  rotate_left
  · intro o ho
    simp only [List.getElem?_toArray, List.getElem?_cons_succ, List.getElem?_cons_zero, Option.some.injEq] at ho
    subst ho
    refine ⟨by rfl, fun w hSw => ?_⟩
    try dsimp only at hSw
    go_simp
    try with_reducible rfl
  try simp only [Act.put, List.setIfInBounds_toArray, List.set_cons_zero, List.set_cons_succ]
  refine takeH 5 (some 62) ?_ (by rfl) (by kernel_rfl) (by kernel_rfl) (by kernel_rfl) (fun _ _ _ h => h) ?_ hHeld ?_
  rotate_left
  · intro o ho
    simp only [List.getElem?_toArray, List.getElem?_cons_succ, List.getElem?_cons_zero, Option.some.injEq] at ho
    subst ho
    refine ⟨by rfl, fun w hSw => ?_⟩
    try dsimp only at hSw
    go_simp
    try with_reducible rfl
  try simp only [Act.put, List.setIfInBounds_toArray, List.set_cons_zero, List.set_cons_succ]
  refine oneH 0 (by kernel_rfl) (by rfl) (fun o ho K hK => ?_)
  simp only [List.getElem?_toArray, List.getElem?_cons_zero, Option.some.injEq] at ho
  subst ho
  go_simp
  obtain ⟨w4, hw4⟩ : ∃ w4, (w3.alloc (.cells #[] 5)).drew = w4 := ⟨_, rfl⟩
  have q4 : Below w3.heap.size w3 w4 := hw4 ▸ ((Below.refl _ _).alloc (Nat.le_refl _) _).drew
  have R4 : Row w4 w3.heap.size (some w3.heap.size) (some ⟨w3.heap.size, 0, none⟩) 0 [] := hw4 ▸ (lit_row #[] [] 0 rfl rfl (by simp) (by decide) rfl).drew
  rw [hw4]
  clear hw4
  refine hK.out _ _ ?_ (fun hHeld2 => ?_)
  · exact ⟨cb q4 x0, cb q4 x1⟩
  clear hK K hHeld
  rename _ => hHeld
  try simp only [Act.put, List.setIfInBounds_toArray, List.set_cons_zero, List.set_cons_succ]
  refine oneH 3 (by kernel_rfl) (by rfl) (fun o ho K hK => ?_)
  simp only [List.getElem?_toArray, List.getElem?_cons_succ, List.getElem?_cons_zero, Option.some.injEq] at ho
  subst ho
  refine step_append_Row (b := w3.heap.size) (n := 0) (l := []) (by rfl) _ _ rfl A0 n0 c0 l0 rfl rfl rfl n0 (Nat.zero_add n0) R4 (Bs.of H0w3.out q4) H0.out.1.byte (by omega) q4.size ?_
  intro A5 c5 q5 w5 R5 g5 hq5
  have q5' : Below w3.heap.size w3 w5 := q4.grown g5 q4.size (fun k hk => by injection hk with hk; omega)
  refine hK.out _ _ ?_ (fun hHeld2 => ?_)
  · exact ⟨cb q5' x0, cb q5' x1⟩
  clear hK K hHeld
  rename _ => hHeld
  try simp only [Act.put, List.setIfInBounds_toArray, List.set_cons_zero, List.set_cons_succ]
  refine oneH 6 (by kernel_rfl) (by rfl) (fun o ho K hK => ?_)
  simp only [List.getElem?_toArray, List.getElem?_cons_succ, List.getElem?_cons_zero, Option.some.injEq] at ho
  subst ho
  refine step_append_Row (b := w3.heap.size) (n := n0) (l := [] ++ l0) (by rfl) _ _ rfl A1 n1 c1 l1 rfl rfl (by have := H0.out.2; simp; omega) M HMM.out R5 (Bs.of H1w3.out q5') H1.out.1.byte (by omega) q5'.size ?_
  intro A6 c6 q6 w6 R6 g6 hq6
  have q6' : Below w3.heap.size w3 w6 := q5'.grown g6 q5'.size (fun k hk => (R5.size k hk).1)
  refine hK.out _ _ ?_ (fun hHeld2 => ?_)
  · exact ⟨cb q6' x0, cb q6' x1⟩
  clear hK K hHeld
  rename _ => hHeld
  try simp only [Act.put, List.setIfInBounds_toArray, List.set_cons_zero, List.set_cons_succ]
  refine takeH 7 (some 9) ?_ (by rfl) (by kernel_rfl) (by kernel_rfl) (by kernel_rfl) (fun _ _ _ h => h) ?_ hHeld ?_
  rotate_left
  · intro o ho
    simp only [List.getElem?_toArray, List.getElem?_cons_succ, List.getElem?_cons_zero, Option.some.injEq] at ho
    subst ho
    refine ⟨by rfl, fun w hSw => ?_⟩
    try dsimp only at hSw
    go_simp
    try with_reducible rfl
  try simp only [Act.put, List.setIfInBounds_toArray, List.set_cons_zero, List.set_cons_succ]
  refine wpAnyH_done (by kernel_rfl) ?_ _
  obtain ⟨lm, hlm⟩ : ∃ lm, lm = [] ++ l0 ++ l1 := ⟨_, rfl⟩
  rw [← hlm] at R6
  have HLM := Aside0.mk (show lm = l0 ++ l1 ∧ lm.length = M from ⟨by rw [hlm, List.nil_append], by have := H0.out.2; have := H1.out.2; have := HMM.out; rw [hlm]; simp; omega⟩)
  have AL6 := Aside0.mk R6
  have F6 := Aside0.mk (F3.out.below q6')
  have G6 := Aside0.mk (G3.out.below q6')
  have B6 := Aside0.mk (B3.out.trans (q6'.mono B3.out.size))
  have P6 := Aside0.mk (show W1.heap.size < w2.heap.size ∧ w2.heap.size < w3.heap.size ∧ w3.heap.size ≤ w6.heap.size from ⟨PP.out, G3.out.lt, q6'.size⟩)
  clear hlm R6 g6 hq6 q6' R5 g5 hq5 q5' R4 q4 hHeld x0 x1 H0w3 H1w3 F3 G3 B3 PP
  by_cases cM : (M : Int) ≤ most
  · have cn : (n0 : Int) ≤ most := by have := HMM.out; omega
    have FQ6 := Aside0.mk (show Fresh none w6.heap.size from fun k hk => by cases hk)
    have W66 := Aside0.mk (Nat.le_refl w6.heap.size)
    have x0 := cb B6.out X1.out.1
    go_wp2_with fail
    refine (append_calls _ _ _ _ _ _ _ _ _ A0 c0 n0 l0 w6 F6.out ((H0.out.1.below B1.out).below B6.out) H0.out.2 (by simp; omega) (by omega) B6.out.size).mono ?_
    rintro e w7 ⟨rfl, Af7, cf7, qf7, hf, hd, hq⟩
    have AL7 := Aside0.mk (AL6.out.did2 hd (by intro e; have := (AL6.out.size _ e).1; have := P6.out; omega) (by intro k hk e; have := AL6.out.size _ hk; have := FQ6.out k e.symm; omega))
    have G7 := Aside0.mk (G6.out.did hd (by have := P6.out; omega) (by intro e; have := FQ6.out _ e.symm; have := P6.out; omega) (by simp) (by simp))
    have F7 := Aside0.mk (show FileAt w7 W1.heap.size W1.heap.size qf7 Af7 cf7 n0 l0 0 most false by first | exact hf | (simpa using hf) | (have := HMM.out; subst this; exact hf))
    have B7 := Aside0.mk (B6.out.trans hd.below)
    have FQ7 := Aside0.mk (show Fresh qf7 w6.heap.size from FQ6.out.step hq W66.out)
    have W67 := Aside0.mk (show w6.heap.size ≤ w7.heap.size by have := W66.out; have := hd.below.size; omega)
    clear hf hd hq x0 F6 B6  G6 FQ6 W66
    have x1 := cb B7.out X1.out.2
    go_wp2_with fail
    refine (append_calls _ _ _ _ _ _ _ _ _ A1 c1 n1 l1 w7 F7.out ((H1.out.1.below B1.out).below B7.out) H1.out.2 (by have := HMM.out; omega) (by omega) B7.out.size).mono ?_
    rintro e w8 ⟨rfl, Af8, cf8, qf8, hf, hd, hq⟩
    have AL8 := Aside0.mk (AL7.out.did2 hd (by intro e; have := (AL7.out.size _ e).1; have := P6.out; omega) (by intro k hk e; have := AL6.out.size _ hk; have := FQ7.out k e.symm; omega))
    have G8 := Aside0.mk (G7.out.did hd (by have := P6.out; omega) (by intro e; have := FQ7.out _ e.symm; have := P6.out; omega) (by simp) (by simp))
    have F8 := Aside0.mk (show FileAt w8 W1.heap.size W1.heap.size qf8 Af8 cf8 M (l0 ++ l1) 0 most false by first | exact hf | (simpa using hf) | (have := HMM.out; subst this; exact hf))
    have B8 := Aside0.mk (B7.out.trans hd.below)
    have FQ8 := Aside0.mk (show Fresh qf8 w6.heap.size from FQ7.out.step hq W67.out)
    have W68 := Aside0.mk (show w6.heap.size ≤ w8.heap.size by have := W67.out; have := hd.below.size; omega)
    clear hf hd hq x1 F7 B7 AL7 G7 FQ7 W67
    go_wp2_with fail
    refine (append_calls _ _ _ _ _ _ _ _ _ A6 c6 M lm w8 G8.out AL8.out.bs HLM.out.2 (by simp; omega) (by have := HMM.out; omega) B8.out.size).mono ?_
    rintro e w9 ⟨rfl, Ag9, cg9, qg9, hg, hd, hq⟩
    have F9 := Aside0.mk (F8.out.did hd (by have := P6.out; omega) (by simp) (by intro e; have := FQ8.out _ e; have := P6.out; omega) (by simp))
    have G9 := Aside0.mk (show FileAt w9 W1.heap.size w2.heap.size qg9 Ag9 cg9 M lm 0 most false by simpa using hg)
    have B9 := Aside0.mk (B8.out.trans hd.below)
    clear hg hd hq F8 G8 AL8 B8 FQ8 W68
    have x0 := cb B9.out X1.out.1
    go_wp2_with fail
    clear x0
    obtain ⟨yf, -, -, -⟩ := F9.out.cells
    refine (bytes_calls _ _ _ _ (l0 ++ l1) (by have := F9.out.len; exact this) (by have := HMM.out; omega) w9 yf F9.out.bs).mono ?_
    rintro e w10 ⟨A10, c10, q10, rfl, r10, b10⟩
    have R10 := Aside0.mk r10
    have F10 := Aside0.mk (F9.out.below b10)
    have G10 := Aside0.mk (G9.out.below b10)
    have B10 := Aside0.mk (B9.out.trans (b10.mono B9.out.size))
    clear r10 b10 yf F9 G9 B9
    go_wp2_with fail
    obtain ⟨yg, -, -, -⟩ := G10.out.cells
    refine (bytes_calls _ _ _ _ lm HLM.out.2 (by have := HMM.out; omega) w10 yg G10.out.bs).mono ?_
    rintro e w11 ⟨A11, c11, q11, rfl, r11, b11⟩
    have R11 := Aside0.mk r11
    have S11 := Aside0.mk (R10.out.below b11)
    have F11 := Aside0.mk (F10.out.below b11)
    have B11 := Aside0.mk (B10.out.trans (b11.mono B10.out.size))
    clear r11 b11 yg R10 F10 G10 B10
    go_wp2_with fail
    refine (same_calls _ _ M (l0 ++ l1) (by have := F11.out.len; exact this) _ _ M lm HLM.out.2 w11 S11.out.bs R11.out.bs).mono ?_
    rintro e w12 ⟨rfl, hd⟩
    have dd : decide (l0 ++ l1 = lm) = true := by rw [HLM.out.1]; simp
    rw [dd]
    have FX := Aside0.mk (F11.out.below (same_below hd))
    have BX := Aside0.mk (B11.out.trans ((same_below hd).mono B11.out.size))
    clear hd dd R11 S11 F11 B11
    have hle : (M : Int) ≤ most := cM
    clear cM cn
    have HNX := Aside0.mk FX.out.len
    generalize l0 ++ l1 = lx at *
    obtain ⟨z, hz⟩ : ∃ z : Nat, (z : Int) = most - M := ⟨(most - M).toNat, by omega⟩
    have hwz : IntKind.i64.wrap (most - (M : Int)) = (z : Int) := by rw [hz]; exact wrap_in (by have := HM.out; omega) (by have := HM.out; omega)
    have hmk := print_make (P := Try.prog) 22 5 .u8 1 Try.underlying22 info5 (by decide) z (by have := HM.out; omega)
    have cz : ¬ most < (M : Int) := by omega
    have HZ := Aside0.mk hz
    clear hz
    go_wp2_with fail
    obtain ⟨y0, -, -, -⟩ := FX.out.cells
    refine (len_calls _ _ _ _ _ y0).mono ?_
    rintro e w' ⟨rfl, rfl⟩
    clear y0
    go_wp2_with fail
    obtain ⟨v1, hv1⟩ : ∃ v1, w12.alloc (.cells (madeCells #[.int .u8 0] z) 5) = v1 := ⟨_, rfl⟩
    rw [hv1]
    refine (append_calls _ _ _ _ _ _ _ _ _ _ z z (List.replicate z 0) v1 (FX.out.below (grow hv1)) (made_bs z (by have := HM.out; have := HZ.out; omega) hv1) (by simp) (by have := HZ.out; omega) (by have := HM.out; have := HZ.out; omega) (BX.out.trans ((grow hv1).mono BX.out.size)).size).mono ?_
    rintro e v2 ⟨rfl, Ay, cy, qy, hf, hd, -⟩
    have FY := Aside0.mk hf
    have BY := Aside0.mk ((BX.out.trans ((grow hv1).mono BX.out.size)).trans hd.below)
    clear hf hd hv1 FX BX
    go_wp2_with fail
    obtain ⟨v3, hv3⟩ : ∃ v3, v2.alloc (.cells #[.int .u8 1] 5) = v3 := ⟨_, rfl⟩
    rw [hv3]
    refine (append_full _ _ _ _ _ _ _ _ _ _ 1 _ v3 (FY.out.below (grow hv3)) (by have := HZ.out; push_cast; omega)).mono ?_
    rintro e v4 ⟨rfl, hb⟩
    have FZ := Aside0.mk ((FY.out.below (grow hv3)).below hb)
    have BZ4 := Aside0.mk (BY.out.trans ((below_step (grow hv3) hb).mono BY.out.size))
    clear hb hv3 FY BY
    go_wp2_with fail
    refine (cut_calls _ _ _ _ _ _ _ _ _ M v4 FZ.out (by omega) BZ4.out.size).mono ?_
    rintro e v5 ⟨rfl, hf, hd⟩
    have F5' := Aside0.mk (show FileAt v5 W1.heap.size W1.heap.size qy Ay M M lx 0 most false by
      have e : (lx ++ List.replicate z 0).take M = lx := by rw [← HNX.out]; exact List.take_left
      rw [e, Nat.zero_min] at hf
      exact hf)
    have B5' := Aside0.mk (BZ4.out.trans hd.below)
    clear hf hd FZ BZ4
    go_wp2_with fail
    obtain ⟨y0, -, -, -⟩ := F5'.out.cells
    refine (len_calls _ _ _ _ _ y0).mono ?_
    rintro e w' ⟨rfl, rfl⟩
    clear y0
    go_wp2_with fail
    obtain ⟨v6, hv6⟩ : ∃ v6, v5.alloc (.cells (madeCells #[.int .u8 0] z) 5) = v6 := ⟨_, rfl⟩
    rw [hv6]
    refine (append_calls _ _ _ _ _ _ _ _ _ _ z z (List.replicate z 0) v6 (F5'.out.below (grow hv6)) (made_bs z (by have := HM.out; have := HZ.out; omega) hv6) (by simp) (by have := HZ.out; omega) (by have := HM.out; have := HZ.out; omega) (B5'.out.trans ((grow hv6).mono B5'.out.size)).size).mono ?_
    rintro e v7 ⟨rfl, Au, cu, qu, hf, hd, -⟩
    obtain ⟨T, hT⟩ : ∃ T, M + z = T := ⟨_, rfl⟩
    have eT : (T : Int) = most := by have := HZ.out; omega
    have F7' := Aside0.mk (show FileAt v7 W1.heap.size W1.heap.size qu Au cu T (lx ++ List.replicate z 0) 0 most false by rw [← hT]; exact hf)
    have B7' := Aside0.mk ((B5'.out.trans ((grow hv6).mono B5'.out.size)).trans hd.below)
    have ET := Aside0.mk eT
    clear hf hd hv6 F5' B5' hT eT
    go_wp2_with fail
    obtain ⟨y0, -, -, -⟩ := F7'.out.cells
    refine (len_calls _ _ _ _ _ y0).mono ?_
    rintro e w' ⟨rfl, rfl⟩
    clear y0
    have eT2 : ((T : Int) == most) = true := by rw [ET.out]; simp
    go_wp2_with fail
    refine (awake_calls v7).mono ?_
    rintro e v8 ⟨rfl, bz⟩
    have BZ := Aside0.mk (below_step (B1.out.trans (B7'.out.mono B1.out.size)) bz)
    clear bz
    go_wp2_with fail
    go_ret
    exact ⟨rfl, BZ.out⟩
  · by_cases cn : (n0 : Int) ≤ most
    · have FQ6 := Aside0.mk (show Fresh none w6.heap.size from fun k hk => by cases hk)
      have W66 := Aside0.mk (Nat.le_refl w6.heap.size)
      have x0 := cb B6.out X1.out.1
      go_wp2_with fail
      refine (append_calls _ _ _ _ _ _ _ _ _ A0 c0 n0 l0 w6 F6.out ((H0.out.1.below B1.out).below B6.out) H0.out.2 (by simp; omega) (by omega) B6.out.size).mono ?_
      rintro e w7 ⟨rfl, Af7, cf7, qf7, hf, hd, hq⟩
      have AL7 := Aside0.mk (AL6.out.did2 hd (by intro e; have := (AL6.out.size _ e).1; have := P6.out; omega) (by intro k hk e; have := AL6.out.size _ hk; have := FQ6.out k e.symm; omega))
      have G7 := Aside0.mk (G6.out.did hd (by have := P6.out; omega) (by intro e; have := FQ6.out _ e.symm; have := P6.out; omega) (by simp) (by simp))
      have F7 := Aside0.mk (show FileAt w7 W1.heap.size W1.heap.size qf7 Af7 cf7 n0 l0 0 most false by first | exact hf | (simpa using hf) | (have := HMM.out; subst this; exact hf))
      have B7 := Aside0.mk (B6.out.trans hd.below)
      have FQ7 := Aside0.mk (show Fresh qf7 w6.heap.size from FQ6.out.step hq W66.out)
      have W67 := Aside0.mk (show w6.heap.size ≤ w7.heap.size by have := W66.out; have := hd.below.size; omega)
      clear hf hd hq x0 F6 B6  G6 FQ6 W66
      have x1 := cb B7.out X1.out.2
      go_wp2_with fail
      refine (append_full _ _ _ _ _ _ _ _ _ A1 n1 c1 w7 F7.out (by have := HMM.out; omega)).mono ?_
      rintro e w8 ⟨rfl, hb⟩
      have F8 := Aside0.mk (F7.out.below hb)
      have G8 := Aside0.mk (G7.out.below hb)
      have AL8 := Aside0.mk (AL7.out.below hb)
      have B8 := Aside0.mk (B7.out.trans (hb.mono B7.out.size))
      have FQ8 := FQ7
      have W68 := Aside0.mk (show w6.heap.size ≤ w8.heap.size by have := W67.out; have := hb.size; omega)
      clear hb x1 F7 B7 AL7 G7 FQ7 W67
      go_wp2_with fail
      refine (append_full _ _ _ _ _ _ _ _ _ A6 M c6 w8 G8.out (by simp; omega)).mono ?_
      rintro e w9 ⟨rfl, hb⟩
      have F9 := Aside0.mk (F8.out.below hb)
      have G9 := Aside0.mk (G8.out.below hb)
      have B9 := Aside0.mk (B8.out.trans (hb.mono B8.out.size))
      clear hb F8 G8 AL8 B8 FQ8 W68
      have x0 := cb B9.out X1.out.1
      go_wp2_with fail
      obtain ⟨yg, -, -, -⟩ := G9.out.cells
      refine (len_calls _ _ _ _ w9 yg).mono ?_
      rintro e w' ⟨rfl, rfl⟩
      clear yg
      go_wp2_with fail
      obtain ⟨y0, -, -, -⟩ := F9.out.cells
      refine wp_region_held_drew (S := fun w' => w'.cell? ⟨W.heap.size, 0, none⟩ = some (.slice A0 n0 c0) ∧ w'.cell? ⟨W1.heap.size, 0, none⟩ = some (.slice Af7 n0 cf7)) (by kernel_rfl) ?_ (fun hHeld => ?_)
      · exact ⟨x0, y0⟩
      refine takeH 0 (some 121) ?_ (by rfl) (by kernel_rfl) (by kernel_rfl) (by kernel_rfl) (fun _ _ _ h => h) ?_ hHeld ?_
      rotate_left
      · intro o ho
        simp only [List.getElem?_toArray, List.getElem?_cons_zero, Option.some.injEq] at ho
        subst ho
        refine ⟨by rfl, fun w hSw => ?_⟩
        try dsimp only at hSw
        go_simp
        try with_reducible rfl
      try simp only [Act.put, List.setIfInBounds_toArray, List.set_cons_zero, List.set_cons_succ]
      refine takeH 1 (some 122) ?_ (by rfl) (by kernel_rfl) (by kernel_rfl) (by kernel_rfl) (fun _ _ _ h => h) ?_ hHeld ?_
      rotate_left
      · intro o ho
        simp only [List.getElem?_toArray, List.getElem?_cons_succ, List.getElem?_cons_zero, Option.some.injEq] at ho
        subst ho
        refine ⟨by rfl, fun w hSw => ?_⟩
        try dsimp only at hSw
        go_simp
        try with_reducible rfl
      try simp only [Act.put, List.setIfInBounds_toArray, List.set_cons_zero, List.set_cons_succ]
      refine takeH 2 (some 123) ?_ (by rfl) (by kernel_rfl) (by kernel_rfl) (by kernel_rfl) (fun _ _ _ h => h) ?_ hHeld ?_
      rotate_left
      · intro o ho
        simp only [List.getElem?_toArray, List.getElem?_cons_succ, List.getElem?_cons_zero, Option.some.injEq] at ho
        subst ho
        refine ⟨by rfl, fun w hSw => ?_⟩
        try dsimp only at hSw
        go_simp
        try with_reducible rfl
      try simp only [Act.put, List.setIfInBounds_toArray, List.set_cons_zero, List.set_cons_succ]
      refine takeH 3 (some 124) ?_ (by rfl) (by kernel_rfl) (by kernel_rfl) (by kernel_rfl) (fun _ _ _ h => h) ?_ hHeld ?_
      rotate_left
      · intro o ho
        simp only [List.getElem?_toArray, List.getElem?_cons_succ, List.getElem?_cons_zero, Option.some.injEq] at ho
        subst ho
        refine ⟨by rfl, fun w hSw => ?_⟩
        try dsimp only at hSw
        go_simp
        try with_reducible rfl
      try simp only [Act.put, List.setIfInBounds_toArray, List.set_cons_zero, List.set_cons_succ]
      refine takeH 4 (some 125) ?_ (by rfl) (by kernel_rfl) (by kernel_rfl) (by kernel_rfl) (fun _ _ _ h => h) ?_ hHeld ?_
      rotate_left
      · intro o ho
        simp only [List.getElem?_toArray, List.getElem?_cons_succ, List.getElem?_cons_zero, Option.some.injEq] at ho
        subst ho
        refine ⟨by rfl, fun w hSw => ?_⟩
        try dsimp only at hSw
        go_simp
        try with_reducible rfl
      try simp only [Act.put, List.setIfInBounds_toArray, List.set_cons_zero, List.set_cons_succ]
      refine takeH 5 (some 126) ?_ (by rfl) (by kernel_rfl) (by kernel_rfl) (by kernel_rfl) (fun _ _ _ h => h) ?_ hHeld ?_
      rotate_left
      · intro o ho
        simp only [List.getElem?_toArray, List.getElem?_cons_succ, List.getElem?_cons_zero, Option.some.injEq] at ho
        subst ho
        refine ⟨by rfl, fun w hSw => ?_⟩
        try dsimp only at hSw
        go_simp
        try with_reducible rfl
      try simp only [Act.put, List.setIfInBounds_toArray, List.set_cons_zero, List.set_cons_succ]
      refine takeH 6 (some 127) ?_ (by rfl) (by kernel_rfl) (by kernel_rfl) (by kernel_rfl) (fun _ _ _ h => h) ?_ hHeld ?_
      rotate_left
      · intro o ho
        simp only [List.getElem?_toArray, List.getElem?_cons_succ, List.getElem?_cons_zero, Option.some.injEq] at ho
        subst ho
        refine ⟨by rfl, fun w hSw => ?_⟩
        try dsimp only at hSw
        go_simp
        try with_reducible rfl
      try simp only [Act.put, List.setIfInBounds_toArray, List.set_cons_zero, List.set_cons_succ]
      refine takeH 8 (some 129) ?_ (by rfl) (by kernel_rfl) (by kernel_rfl) (by kernel_rfl) (fun _ _ _ h => h) ?_ hHeld ?_
      rotate_left
      · intro o ho
        simp only [List.getElem?_toArray, List.getElem?_cons_succ, List.getElem?_cons_zero, Option.some.injEq] at ho
        subst ho
        refine ⟨by rfl, fun w hSw => ?_⟩
        try dsimp only at hSw
        go_simp
        try with_reducible rfl
      try simp only [Act.put, List.setIfInBounds_toArray, List.set_cons_zero, List.set_cons_succ]
      refine takeH 9 (some 130) ?_ (by rfl) (by kernel_rfl) (by kernel_rfl) (by kernel_rfl) (fun _ _ _ h => h) ?_ hHeld ?_
      rotate_left
      · intro o ho
        simp only [List.getElem?_toArray, List.getElem?_cons_succ, List.getElem?_cons_zero, Option.some.injEq] at ho
        subst ho
        refine ⟨by rfl, fun w hSw => ?_⟩
        try dsimp only at hSw
        go_simp
        try with_reducible rfl
      try simp only [Act.put, List.setIfInBounds_toArray, List.set_cons_zero, List.set_cons_succ]
      refine oneH 7 (by kernel_rfl) (by rfl) (fun o ho K hK => ?_)
      simp only [List.getElem?_toArray, List.getElem?_cons_succ, List.getElem?_cons_zero, Option.some.injEq] at ho
      subst ho
      go_simp
      refine (bytes_calls _ _ _ _ l0 H0.out.2 (by omega) _ (by exact y0) (by exact F9.out.bs.drewN 1)).mono ?_
      rintro e w10 ⟨A10, c10, q10, rfl, r10, b10'⟩
      have b10 := nodrew b10'
      try go_wp2_with fail
      refine hK.out _ _ ?_ (fun hHeld2 => ?_)
      · exact ⟨cb b10 x0, cb b10 y0⟩
      clear hK K hHeld
      rename _ => hHeld
      try simp only [Act.put, List.setIfInBounds_toArray, List.set_cons_zero, List.set_cons_succ]
      refine oneH 10 (by kernel_rfl) (by rfl) (fun o ho K hK => ?_)
      simp only [List.getElem?_toArray, List.getElem?_cons_succ, List.getElem?_cons_zero, Option.some.injEq] at ho
      subst ho
      go_simp
      refine (same_calls _ _ n0 l0 H0.out.2 _ _ n0 l0 H0.out.2 w10 r10.bs (by exact (((H0.out.1.below B1.out).below B9.out).below b10))).mono ?_
      rintro e w11 ⟨rfl, hd⟩
      have dd : decide (l0 = l0) = true := by simp
      rw [dd]
      have b11 := below_step b10 (same_below hd)
      try go_wp2_with fail
      refine hK.out _ _ ?_ (fun hHeld2 => ?_)
      · exact ⟨cb b11 x0, cb b11 y0⟩
      clear hK K hHeld
      rename _ => hHeld
      try simp only [Act.put, List.setIfInBounds_toArray, List.set_cons_zero, List.set_cons_succ]
      refine takeH 11 (some 132) ?_ (by rfl) (by kernel_rfl) (by kernel_rfl) (by kernel_rfl) (fun _ _ _ h => h) ?_ hHeld ?_
      rotate_left
      · intro o ho
        simp only [List.getElem?_toArray, List.getElem?_cons_succ, List.getElem?_cons_zero, Option.some.injEq] at ho
        subst ho
        refine ⟨by rfl, fun w hSw => ?_⟩
        try dsimp only at hSw
        go_simp
        try with_reducible rfl
      try simp only [Act.put, List.setIfInBounds_toArray, List.set_cons_zero, List.set_cons_succ]
      refine takeH 12 (some 133) ?_ (by rfl) (by kernel_rfl) (by kernel_rfl) (by kernel_rfl) (fun _ _ _ h => h) ?_ hHeld ?_
      rotate_left
      · intro o ho
        simp only [List.getElem?_toArray, List.getElem?_cons_succ, List.getElem?_cons_zero, Option.some.injEq] at ho
        subst ho
        refine ⟨by rfl, fun w hSw => ?_⟩
        try dsimp only at hSw
        go_simp
        try with_reducible rfl
      try simp only [Act.put, List.setIfInBounds_toArray, List.set_cons_zero, List.set_cons_succ]
      refine takeH 13 (some 134) ?_ (by rfl) (by kernel_rfl) (by kernel_rfl) (by kernel_rfl) (fun _ _ _ h => h) ?_ hHeld ?_
      rotate_left
      · intro o ho
        simp only [List.getElem?_toArray, List.getElem?_cons_succ, List.getElem?_cons_zero, Option.some.injEq] at ho
        subst ho
        refine ⟨by rfl, fun w hSw => ?_⟩
        try dsimp only at hSw
        go_simp
        try with_reducible rfl
      try simp only [Act.put, List.setIfInBounds_toArray, List.set_cons_zero, List.set_cons_succ]
      refine wpAnyH_done (by kernel_rfl) ?_ _
      have FX := Aside0.mk (F9.out.below b11)
      have BX := Aside0.mk (B9.out.trans (b11.mono B9.out.size))
      clear hHeld b10 b10' b11 r10 hd dd x0 y0 F9 B9 G9
      have HNX := Aside0.mk FX.out.len
      obtain ⟨z, hz⟩ : ∃ z : Nat, (z : Int) = most - n0 := ⟨(most - n0).toNat, by omega⟩
      have hwz : IntKind.i64.wrap (most - (n0 : Int)) = (z : Int) := by rw [hz]; exact wrap_in (by have := HM.out; omega) (by have := HM.out; omega)
      have hmk := print_make (P := Try.prog) 22 5 .u8 1 Try.underlying22 info5 (by decide) z (by have := HM.out; omega)
      have cz : ¬ most < (n0 : Int) := by omega
      have HZ := Aside0.mk hz
      clear hz
      go_wp2_with fail
      obtain ⟨y0, -, -, -⟩ := FX.out.cells
      refine (len_calls _ _ _ _ _ y0).mono ?_
      rintro e w' ⟨rfl, rfl⟩
      clear y0
      go_wp2_with fail
      obtain ⟨v1, hv1⟩ : ∃ v1, w11.alloc (.cells (madeCells #[.int .u8 0] z) 5) = v1 := ⟨_, rfl⟩
      rw [hv1]
      refine (append_calls _ _ _ _ _ _ _ _ _ _ z z (List.replicate z 0) v1 (FX.out.below (grow hv1)) (made_bs z (by have := HM.out; have := HZ.out; omega) hv1) (by simp) (by have := HZ.out; omega) (by have := HM.out; have := HZ.out; omega) (BX.out.trans ((grow hv1).mono BX.out.size)).size).mono ?_
      rintro e v2 ⟨rfl, Ay, cy, qy, hf, hd, -⟩
      have FY := Aside0.mk hf
      have BY := Aside0.mk ((BX.out.trans ((grow hv1).mono BX.out.size)).trans hd.below)
      clear hf hd hv1 FX BX
      go_wp2_with fail
      obtain ⟨v3, hv3⟩ : ∃ v3, v2.alloc (.cells #[.int .u8 1] 5) = v3 := ⟨_, rfl⟩
      rw [hv3]
      refine (append_full _ _ _ _ _ _ _ _ _ _ 1 _ v3 (FY.out.below (grow hv3)) (by have := HZ.out; push_cast; omega)).mono ?_
      rintro e v4 ⟨rfl, hb⟩
      have FZ := Aside0.mk ((FY.out.below (grow hv3)).below hb)
      have BZ4 := Aside0.mk (BY.out.trans ((below_step (grow hv3) hb).mono BY.out.size))
      clear hb hv3 FY BY
      go_wp2_with fail
      refine (cut_calls _ _ _ _ _ _ _ _ _ n0 v4 FZ.out (by omega) BZ4.out.size).mono ?_
      rintro e v5 ⟨rfl, hf, hd⟩
      have F5' := Aside0.mk (show FileAt v5 W1.heap.size W1.heap.size qy Ay n0 n0 l0 0 most false by
        have e : (l0 ++ List.replicate z 0).take n0 = l0 := by rw [← HNX.out]; exact List.take_left
        rw [e, Nat.zero_min] at hf
        exact hf)
      have B5' := Aside0.mk (BZ4.out.trans hd.below)
      clear hf hd FZ BZ4
      go_wp2_with fail
      obtain ⟨y0, -, -, -⟩ := F5'.out.cells
      refine (len_calls _ _ _ _ _ y0).mono ?_
      rintro e w' ⟨rfl, rfl⟩
      clear y0
      go_wp2_with fail
      obtain ⟨v6, hv6⟩ : ∃ v6, v5.alloc (.cells (madeCells #[.int .u8 0] z) 5) = v6 := ⟨_, rfl⟩
      rw [hv6]
      refine (append_calls _ _ _ _ _ _ _ _ _ _ z z (List.replicate z 0) v6 (F5'.out.below (grow hv6)) (made_bs z (by have := HM.out; have := HZ.out; omega) hv6) (by simp) (by have := HZ.out; omega) (by have := HM.out; have := HZ.out; omega) (B5'.out.trans ((grow hv6).mono B5'.out.size)).size).mono ?_
      rintro e v7 ⟨rfl, Au, cu, qu, hf, hd, -⟩
      obtain ⟨T, hT⟩ : ∃ T, n0 + z = T := ⟨_, rfl⟩
      have eT : (T : Int) = most := by have := HZ.out; omega
      have F7' := Aside0.mk (show FileAt v7 W1.heap.size W1.heap.size qu Au cu T (l0 ++ List.replicate z 0) 0 most false by rw [← hT]; exact hf)
      have B7' := Aside0.mk ((B5'.out.trans ((grow hv6).mono B5'.out.size)).trans hd.below)
      have ET := Aside0.mk eT
      clear hf hd hv6 F5' B5' hT eT
      go_wp2_with fail
      obtain ⟨y0, -, -, -⟩ := F7'.out.cells
      refine (len_calls _ _ _ _ _ y0).mono ?_
      rintro e w' ⟨rfl, rfl⟩
      clear y0
      have eT2 : ((T : Int) == most) = true := by rw [ET.out]; simp
      go_wp2_with fail
      refine (awake_calls v7).mono ?_
      rintro e v8 ⟨rfl, bz⟩
      have BZ := Aside0.mk (below_step (B1.out.trans (B7'.out.mono B1.out.size)) bz)
      clear bz
      go_wp2_with fail
      go_ret
      exact ⟨rfl, BZ.out⟩
    · by_cases cn1 : (n1 : Int) ≤ most
      · have FQ6 := Aside0.mk (show Fresh none w6.heap.size from fun k hk => by cases hk)
        have W66 := Aside0.mk (Nat.le_refl w6.heap.size)
        have x0 := cb B6.out X1.out.1
        go_wp2_with fail
        refine (append_full _ _ _ _ _ _ _ _ _ A0 n0 c0 w6 F6.out (by simp; omega)).mono ?_
        rintro e w7 ⟨rfl, hb⟩
        have F7 := Aside0.mk (F6.out.below hb)
        have G7 := Aside0.mk (G6.out.below hb)
        have AL7 := Aside0.mk (AL6.out.below hb)
        have B7 := Aside0.mk (B6.out.trans (hb.mono B6.out.size))
        have FQ7 := FQ6
        have W67 := Aside0.mk (show w6.heap.size ≤ w7.heap.size by have := W66.out; have := hb.size; omega)
        clear hb x0 F6 B6  G6 FQ6 W66
        have x1 := cb B7.out X1.out.2
        go_wp2_with fail
        refine (append_calls _ _ _ _ _ _ _ _ _ A1 c1 n1 l1 w7 F7.out ((H1.out.1.below B1.out).below B7.out) H1.out.2 (by simp; omega) (by omega) B7.out.size).mono ?_
        rintro e w8 ⟨rfl, Af8, cf8, qf8, hf, hd, hq⟩
        have AL8 := Aside0.mk (AL7.out.did2 hd (by intro e; have := (AL7.out.size _ e).1; have := P6.out; omega) (by intro k hk e; have := AL6.out.size _ hk; have := FQ7.out k e.symm; omega))
        have G8 := Aside0.mk (G7.out.did hd (by have := P6.out; omega) (by intro e; have := FQ7.out _ e.symm; have := P6.out; omega) (by simp) (by simp))
        have F8 := Aside0.mk (show FileAt w8 W1.heap.size W1.heap.size qf8 Af8 cf8 n1 l1 0 most false by first | exact hf | (simpa using hf) | (have := HMM.out; subst this; exact hf))
        have B8 := Aside0.mk (B7.out.trans hd.below)
        have FQ8 := Aside0.mk (show Fresh qf8 w6.heap.size from FQ7.out.step hq W67.out)
        have W68 := Aside0.mk (show w6.heap.size ≤ w8.heap.size by have := W67.out; have := hd.below.size; omega)
        clear hf hd hq x1 F7 B7 AL7 G7 FQ7 W67
        go_wp2_with fail
        refine (append_full _ _ _ _ _ _ _ _ _ A6 M c6 w8 G8.out (by simp; omega)).mono ?_
        rintro e w9 ⟨rfl, hb⟩
        have F9 := Aside0.mk (F8.out.below hb)
        have G9 := Aside0.mk (G8.out.below hb)
        have B9 := Aside0.mk (B8.out.trans (hb.mono B8.out.size))
        clear hb F8 G8 AL8 B8 FQ8 W68
        have x0 := cb B9.out X1.out.1
        go_wp2_with fail
        obtain ⟨yg, -, -, -⟩ := G9.out.cells
        refine (len_calls _ _ _ _ w9 yg).mono ?_
        rintro e w' ⟨rfl, rfl⟩
        clear yg
        go_wp2_with fail
        refine wp_region_held_drew (S := fun w' => w'.cell? ⟨W.heap.size, 0, none⟩ = some (.slice A0 n0 c0)) (by kernel_rfl) ?_ (fun hHeld => ?_)
        · exact x0
        refine takeH 0 (some 121) ?_ (by rfl) (by kernel_rfl) (by kernel_rfl) (by kernel_rfl) (fun _ _ _ h => h) ?_ hHeld ?_
        rotate_left
        · intro o ho
          simp only [List.getElem?_toArray, List.getElem?_cons_zero, Option.some.injEq] at ho
          subst ho
          refine ⟨by rfl, fun w hSw => ?_⟩
          try dsimp only at hSw
          go_simp
          try with_reducible rfl
        try simp only [Act.put, List.setIfInBounds_toArray, List.set_cons_zero, List.set_cons_succ]
        refine takeH 1 (some 122) ?_ (by rfl) (by kernel_rfl) (by kernel_rfl) (by kernel_rfl) (fun _ _ _ h => h) ?_ hHeld ?_
        rotate_left
        · intro o ho
          simp only [List.getElem?_toArray, List.getElem?_cons_succ, List.getElem?_cons_zero, Option.some.injEq] at ho
          subst ho
          refine ⟨by rfl, fun w hSw => ?_⟩
          try dsimp only at hSw
          go_simp
          try with_reducible rfl
        try simp only [Act.put, List.setIfInBounds_toArray, List.set_cons_zero, List.set_cons_succ]
        refine takeH 2 (some 123) ?_ (by rfl) (by kernel_rfl) (by kernel_rfl) (by kernel_rfl) (fun _ _ _ h => h) ?_ hHeld ?_
        rotate_left
        · intro o ho
          simp only [List.getElem?_toArray, List.getElem?_cons_succ, List.getElem?_cons_zero, Option.some.injEq] at ho
          subst ho
          refine ⟨by rfl, fun w hSw => ?_⟩
          try dsimp only at hSw
          go_simp
          try with_reducible rfl
        try simp only [Act.put, List.setIfInBounds_toArray, List.set_cons_zero, List.set_cons_succ]
        refine skipH 3 (some 124) (by rfl) (by kernel_rfl) (by kernel_rfl) (by kernel_rfl) (fun _ _ _ h => h) (by rfl) hHeld ?_
        try simp only [Act.put, List.setIfInBounds_toArray, List.set_cons_zero, List.set_cons_succ]
        refine skipH 4 (some 125) (by rfl) (by kernel_rfl) (by kernel_rfl) (by kernel_rfl) (fun _ _ _ h => h) (by rfl) hHeld ?_
        try simp only [Act.put, List.setIfInBounds_toArray, List.set_cons_zero, List.set_cons_succ]
        refine skipH 5 (some 126) (by rfl) (by kernel_rfl) (by kernel_rfl) (by kernel_rfl) (fun _ _ _ h => h) (by rfl) hHeld ?_
        try simp only [Act.put, List.setIfInBounds_toArray, List.set_cons_zero, List.set_cons_succ]
        refine skipH 6 (some 127) (by rfl) (by kernel_rfl) (by kernel_rfl) (by kernel_rfl) (fun _ _ _ h => h) (by rfl) hHeld ?_
        try simp only [Act.put, List.setIfInBounds_toArray, List.set_cons_zero, List.set_cons_succ]
        refine skipH 7 (some 128) (by rfl) (by kernel_rfl) (by kernel_rfl) (by kernel_rfl) (fun _ _ _ h => h) (by rfl) hHeld ?_
        try simp only [Act.put, List.setIfInBounds_toArray, List.set_cons_zero, List.set_cons_succ]
        refine skipH 8 (some 129) (by rfl) (by kernel_rfl) (by kernel_rfl) (by kernel_rfl) (fun _ _ _ h => h) (by rfl) hHeld ?_
        try simp only [Act.put, List.setIfInBounds_toArray, List.set_cons_zero, List.set_cons_succ]
        refine skipH 9 (some 130) (by rfl) (by kernel_rfl) (by kernel_rfl) (by kernel_rfl) (fun _ _ _ h => h) (by rfl) hHeld ?_
        try simp only [Act.put, List.setIfInBounds_toArray, List.set_cons_zero, List.set_cons_succ]
        refine skipH 10 (some 131) (by rfl) (by kernel_rfl) (by kernel_rfl) (by kernel_rfl) (fun _ _ _ h => h) (by rfl) hHeld ?_
        try simp only [Act.put, List.setIfInBounds_toArray, List.set_cons_zero, List.set_cons_succ]
        refine skipH 11 (some 132) (by rfl) (by kernel_rfl) (by kernel_rfl) (by kernel_rfl) (fun _ _ _ h => h) (by rfl) hHeld ?_
        try simp only [Act.put, List.setIfInBounds_toArray, List.set_cons_zero, List.set_cons_succ]
        refine skipH 12 (some 133) (by rfl) (by kernel_rfl) (by kernel_rfl) (by kernel_rfl) (fun _ _ _ h => h) (by rfl) hHeld ?_
        try simp only [Act.put, List.setIfInBounds_toArray, List.set_cons_zero, List.set_cons_succ]
        refine takeH 13 (some 134) ?_ (by rfl) (by kernel_rfl) (by kernel_rfl) (by kernel_rfl) (fun _ _ _ h => h) ?_ hHeld ?_
        rotate_left
        · intro o ho
          simp only [List.getElem?_toArray, List.getElem?_cons_succ, List.getElem?_cons_zero, Option.some.injEq] at ho
          subst ho
          refine ⟨by rfl, fun w hSw => ?_⟩
          try dsimp only at hSw
          go_simp
          try with_reducible rfl
        try simp only [Act.put, List.setIfInBounds_toArray, List.set_cons_zero, List.set_cons_succ]
        refine wpAnyH_done (by kernel_rfl) ?_ _
        have FX := Aside0.mk (F9.out.below (Below.refl _ _).drew)
        have BX := Aside0.mk (B9.out.trans ((Below.refl _ _).drew.mono B9.out.size))
        clear hHeld x0 F9 B9 G9
        obtain ⟨wd, hwd⟩ : ∃ wd, w9.drew = wd := ⟨_, rfl⟩
        rw [hwd] at FX BX ⊢
        clear hwd
        have HNX := Aside0.mk FX.out.len
        obtain ⟨z, hz⟩ : ∃ z : Nat, (z : Int) = most - n1 := ⟨(most - n1).toNat, by omega⟩
        have hwz : IntKind.i64.wrap (most - (n1 : Int)) = (z : Int) := by rw [hz]; exact wrap_in (by have := HM.out; omega) (by have := HM.out; omega)
        have hmk := print_make (P := Try.prog) 22 5 .u8 1 Try.underlying22 info5 (by decide) z (by have := HM.out; omega)
        have cz : ¬ most < (n1 : Int) := by omega
        have HZ := Aside0.mk hz
        clear hz
        go_wp2_with fail
        obtain ⟨y0, -, -, -⟩ := FX.out.cells
        refine (len_calls _ _ _ _ _ y0).mono ?_
        rintro e w' ⟨rfl, rfl⟩
        clear y0
        go_wp2_with fail
        obtain ⟨v1, hv1⟩ : ∃ v1, wd.alloc (.cells (madeCells #[.int .u8 0] z) 5) = v1 := ⟨_, rfl⟩
        rw [hv1]
        refine (append_calls _ _ _ _ _ _ _ _ _ _ z z (List.replicate z 0) v1 (FX.out.below (grow hv1)) (made_bs z (by have := HM.out; have := HZ.out; omega) hv1) (by simp) (by have := HZ.out; omega) (by have := HM.out; have := HZ.out; omega) (BX.out.trans ((grow hv1).mono BX.out.size)).size).mono ?_
        rintro e v2 ⟨rfl, Ay, cy, qy, hf, hd, -⟩
        have FY := Aside0.mk hf
        have BY := Aside0.mk ((BX.out.trans ((grow hv1).mono BX.out.size)).trans hd.below)
        clear hf hd hv1 FX BX
        go_wp2_with fail
        obtain ⟨v3, hv3⟩ : ∃ v3, v2.alloc (.cells #[.int .u8 1] 5) = v3 := ⟨_, rfl⟩
        rw [hv3]
        refine (append_full _ _ _ _ _ _ _ _ _ _ 1 _ v3 (FY.out.below (grow hv3)) (by have := HZ.out; push_cast; omega)).mono ?_
        rintro e v4 ⟨rfl, hb⟩
        have FZ := Aside0.mk ((FY.out.below (grow hv3)).below hb)
        have BZ4 := Aside0.mk (BY.out.trans ((below_step (grow hv3) hb).mono BY.out.size))
        clear hb hv3 FY BY
        go_wp2_with fail
        refine (cut_calls _ _ _ _ _ _ _ _ _ n1 v4 FZ.out (by omega) BZ4.out.size).mono ?_
        rintro e v5 ⟨rfl, hf, hd⟩
        have F5' := Aside0.mk (show FileAt v5 W1.heap.size W1.heap.size qy Ay n1 n1 l1 0 most false by
          have e : (l1 ++ List.replicate z 0).take n1 = l1 := by rw [← HNX.out]; exact List.take_left
          rw [e, Nat.zero_min] at hf
          exact hf)
        have B5' := Aside0.mk (BZ4.out.trans hd.below)
        clear hf hd FZ BZ4
        go_wp2_with fail
        obtain ⟨y0, -, -, -⟩ := F5'.out.cells
        refine (len_calls _ _ _ _ _ y0).mono ?_
        rintro e w' ⟨rfl, rfl⟩
        clear y0
        go_wp2_with fail
        obtain ⟨v6, hv6⟩ : ∃ v6, v5.alloc (.cells (madeCells #[.int .u8 0] z) 5) = v6 := ⟨_, rfl⟩
        rw [hv6]
        refine (append_calls _ _ _ _ _ _ _ _ _ _ z z (List.replicate z 0) v6 (F5'.out.below (grow hv6)) (made_bs z (by have := HM.out; have := HZ.out; omega) hv6) (by simp) (by have := HZ.out; omega) (by have := HM.out; have := HZ.out; omega) (B5'.out.trans ((grow hv6).mono B5'.out.size)).size).mono ?_
        rintro e v7 ⟨rfl, Au, cu, qu, hf, hd, -⟩
        obtain ⟨T, hT⟩ : ∃ T, n1 + z = T := ⟨_, rfl⟩
        have eT : (T : Int) = most := by have := HZ.out; omega
        have F7' := Aside0.mk (show FileAt v7 W1.heap.size W1.heap.size qu Au cu T (l1 ++ List.replicate z 0) 0 most false by rw [← hT]; exact hf)
        have B7' := Aside0.mk ((B5'.out.trans ((grow hv6).mono B5'.out.size)).trans hd.below)
        have ET := Aside0.mk eT
        clear hf hd hv6 F5' B5' hT eT
        go_wp2_with fail
        obtain ⟨y0, -, -, -⟩ := F7'.out.cells
        refine (len_calls _ _ _ _ _ y0).mono ?_
        rintro e w' ⟨rfl, rfl⟩
        clear y0
        have eT2 : ((T : Int) == most) = true := by rw [ET.out]; simp
        go_wp2_with fail
        refine (awake_calls v7).mono ?_
        rintro e v8 ⟨rfl, bz⟩
        have BZ := Aside0.mk (below_step (B1.out.trans (B7'.out.mono B1.out.size)) bz)
        clear bz
        go_wp2_with fail
        go_ret
        exact ⟨rfl, BZ.out⟩
      · have FQ6 := Aside0.mk (show Fresh none w6.heap.size from fun k hk => by cases hk)
        have W66 := Aside0.mk (Nat.le_refl w6.heap.size)
        have x0 := cb B6.out X1.out.1
        go_wp2_with fail
        refine (append_full _ _ _ _ _ _ _ _ _ A0 n0 c0 w6 F6.out (by simp; omega)).mono ?_
        rintro e w7 ⟨rfl, hb⟩
        have F7 := Aside0.mk (F6.out.below hb)
        have G7 := Aside0.mk (G6.out.below hb)
        have AL7 := Aside0.mk (AL6.out.below hb)
        have B7 := Aside0.mk (B6.out.trans (hb.mono B6.out.size))
        have FQ7 := FQ6
        have W67 := Aside0.mk (show w6.heap.size ≤ w7.heap.size by have := W66.out; have := hb.size; omega)
        clear hb x0 F6 B6  G6 FQ6 W66
        have x1 := cb B7.out X1.out.2
        go_wp2_with fail
        refine (append_full _ _ _ _ _ _ _ _ _ A1 n1 c1 w7 F7.out (by simp; omega)).mono ?_
        rintro e w8 ⟨rfl, hb⟩
        have F8 := Aside0.mk (F7.out.below hb)
        have G8 := Aside0.mk (G7.out.below hb)
        have AL8 := Aside0.mk (AL7.out.below hb)
        have B8 := Aside0.mk (B7.out.trans (hb.mono B7.out.size))
        have FQ8 := FQ7
        have W68 := Aside0.mk (show w6.heap.size ≤ w8.heap.size by have := W67.out; have := hb.size; omega)
        clear hb x1 F7 B7 AL7 G7 FQ7 W67
        go_wp2_with fail
        refine (append_full _ _ _ _ _ _ _ _ _ A6 M c6 w8 G8.out (by simp; omega)).mono ?_
        rintro e w9 ⟨rfl, hb⟩
        have F9 := Aside0.mk (F8.out.below hb)
        have G9 := Aside0.mk (G8.out.below hb)
        have B9 := Aside0.mk (B8.out.trans (hb.mono B8.out.size))
        clear hb F8 G8 AL8 B8 FQ8 W68
        have x0 := cb B9.out X1.out.1
        go_wp2_with fail
        obtain ⟨yg, -, -, -⟩ := G9.out.cells
        refine (len_calls _ _ _ _ w9 yg).mono ?_
        rintro e w' ⟨rfl, rfl⟩
        clear yg
        go_wp2_with fail
        refine wp_region_held_drew (S := fun w' => w'.cell? ⟨W.heap.size, 0, none⟩ = some (.slice A0 n0 c0)) (by kernel_rfl) ?_ (fun hHeld => ?_)
        · exact x0
        refine takeH 0 (some 121) ?_ (by rfl) (by kernel_rfl) (by kernel_rfl) (by kernel_rfl) (fun _ _ _ h => h) ?_ hHeld ?_
        rotate_left
        · intro o ho
          simp only [List.getElem?_toArray, List.getElem?_cons_zero, Option.some.injEq] at ho
          subst ho
          refine ⟨by rfl, fun w hSw => ?_⟩
          try dsimp only at hSw
          go_simp
          try with_reducible rfl
        try simp only [Act.put, List.setIfInBounds_toArray, List.set_cons_zero, List.set_cons_succ]
        refine takeH 1 (some 122) ?_ (by rfl) (by kernel_rfl) (by kernel_rfl) (by kernel_rfl) (fun _ _ _ h => h) ?_ hHeld ?_
        rotate_left
        · intro o ho
          simp only [List.getElem?_toArray, List.getElem?_cons_succ, List.getElem?_cons_zero, Option.some.injEq] at ho
          subst ho
          refine ⟨by rfl, fun w hSw => ?_⟩
          try dsimp only at hSw
          go_simp
          try with_reducible rfl
        try simp only [Act.put, List.setIfInBounds_toArray, List.set_cons_zero, List.set_cons_succ]
        refine takeH 2 (some 123) ?_ (by rfl) (by kernel_rfl) (by kernel_rfl) (by kernel_rfl) (fun _ _ _ h => h) ?_ hHeld ?_
        rotate_left
        · intro o ho
          simp only [List.getElem?_toArray, List.getElem?_cons_succ, List.getElem?_cons_zero, Option.some.injEq] at ho
          subst ho
          refine ⟨by rfl, fun w hSw => ?_⟩
          try dsimp only at hSw
          go_simp
          try with_reducible rfl
        try simp only [Act.put, List.setIfInBounds_toArray, List.set_cons_zero, List.set_cons_succ]
        refine skipH 3 (some 124) (by rfl) (by kernel_rfl) (by kernel_rfl) (by kernel_rfl) (fun _ _ _ h => h) (by rfl) hHeld ?_
        try simp only [Act.put, List.setIfInBounds_toArray, List.set_cons_zero, List.set_cons_succ]
        refine skipH 4 (some 125) (by rfl) (by kernel_rfl) (by kernel_rfl) (by kernel_rfl) (fun _ _ _ h => h) (by rfl) hHeld ?_
        try simp only [Act.put, List.setIfInBounds_toArray, List.set_cons_zero, List.set_cons_succ]
        refine skipH 5 (some 126) (by rfl) (by kernel_rfl) (by kernel_rfl) (by kernel_rfl) (fun _ _ _ h => h) (by rfl) hHeld ?_
        try simp only [Act.put, List.setIfInBounds_toArray, List.set_cons_zero, List.set_cons_succ]
        refine skipH 6 (some 127) (by rfl) (by kernel_rfl) (by kernel_rfl) (by kernel_rfl) (fun _ _ _ h => h) (by rfl) hHeld ?_
        try simp only [Act.put, List.setIfInBounds_toArray, List.set_cons_zero, List.set_cons_succ]
        refine skipH 7 (some 128) (by rfl) (by kernel_rfl) (by kernel_rfl) (by kernel_rfl) (fun _ _ _ h => h) (by rfl) hHeld ?_
        try simp only [Act.put, List.setIfInBounds_toArray, List.set_cons_zero, List.set_cons_succ]
        refine skipH 8 (some 129) (by rfl) (by kernel_rfl) (by kernel_rfl) (by kernel_rfl) (fun _ _ _ h => h) (by rfl) hHeld ?_
        try simp only [Act.put, List.setIfInBounds_toArray, List.set_cons_zero, List.set_cons_succ]
        refine skipH 9 (some 130) (by rfl) (by kernel_rfl) (by kernel_rfl) (by kernel_rfl) (fun _ _ _ h => h) (by rfl) hHeld ?_
        try simp only [Act.put, List.setIfInBounds_toArray, List.set_cons_zero, List.set_cons_succ]
        refine skipH 10 (some 131) (by rfl) (by kernel_rfl) (by kernel_rfl) (by kernel_rfl) (fun _ _ _ h => h) (by rfl) hHeld ?_
        try simp only [Act.put, List.setIfInBounds_toArray, List.set_cons_zero, List.set_cons_succ]
        refine skipH 11 (some 132) (by rfl) (by kernel_rfl) (by kernel_rfl) (by kernel_rfl) (fun _ _ _ h => h) (by rfl) hHeld ?_
        try simp only [Act.put, List.setIfInBounds_toArray, List.set_cons_zero, List.set_cons_succ]
        refine skipH 12 (some 133) (by rfl) (by kernel_rfl) (by kernel_rfl) (by kernel_rfl) (fun _ _ _ h => h) (by rfl) hHeld ?_
        try simp only [Act.put, List.setIfInBounds_toArray, List.set_cons_zero, List.set_cons_succ]
        refine takeH 13 (some 134) ?_ (by rfl) (by kernel_rfl) (by kernel_rfl) (by kernel_rfl) (fun _ _ _ h => h) ?_ hHeld ?_
        rotate_left
        · intro o ho
          simp only [List.getElem?_toArray, List.getElem?_cons_succ, List.getElem?_cons_zero, Option.some.injEq] at ho
          subst ho
          refine ⟨by rfl, fun w hSw => ?_⟩
          try dsimp only at hSw
          go_simp
          try with_reducible rfl
        try simp only [Act.put, List.setIfInBounds_toArray, List.set_cons_zero, List.set_cons_succ]
        refine wpAnyH_done (by kernel_rfl) ?_ _
        have FX := Aside0.mk (F9.out.below (Below.refl _ _).drew)
        have BX := Aside0.mk (B9.out.trans ((Below.refl _ _).drew.mono B9.out.size))
        clear hHeld x0 F9 B9 G9
        obtain ⟨wd, hwd⟩ : ∃ wd, w9.drew = wd := ⟨_, rfl⟩
        rw [hwd] at FX BX ⊢
        clear hwd
        obtain ⟨nx, lx, cx, hnx, hlx, hcx⟩ : ∃ (nx : Nat) (lx : List Int) (cx : Nat), nx = 0 ∧ lx = [] ∧ cx = 0 := ⟨_, _, _, rfl, rfl, rfl⟩
        replace FX := Aside0.mk (show FileAt wd W1.heap.size W1.heap.size _ _ cx nx lx 0 most false by rw [hnx, hlx, hcx]; exact FX.out)
        have hle : (nx : Int) ≤ most := by have := HM.out; omega
        clear hnx hlx hcx
        have HNX := Aside0.mk FX.out.len
        obtain ⟨z, hz⟩ : ∃ z : Nat, (z : Int) = most - nx := ⟨(most - nx).toNat, by omega⟩
        have hwz : IntKind.i64.wrap (most - (nx : Int)) = (z : Int) := by rw [hz]; exact wrap_in (by have := HM.out; omega) (by have := HM.out; omega)
        have hmk := print_make (P := Try.prog) 22 5 .u8 1 Try.underlying22 info5 (by decide) z (by have := HM.out; omega)
        have cz : ¬ most < (nx : Int) := by omega
        have HZ := Aside0.mk hz
        clear hz
        go_wp2_with fail
        obtain ⟨y0, -, -, -⟩ := FX.out.cells
        refine (len_calls _ _ _ _ _ y0).mono ?_
        rintro e w' ⟨rfl, rfl⟩
        clear y0
        go_wp2_with fail
        obtain ⟨v1, hv1⟩ : ∃ v1, wd.alloc (.cells (madeCells #[.int .u8 0] z) 5) = v1 := ⟨_, rfl⟩
        rw [hv1]
        refine (append_calls _ _ _ _ _ _ _ _ _ _ z z (List.replicate z 0) v1 (FX.out.below (grow hv1)) (made_bs z (by have := HM.out; have := HZ.out; omega) hv1) (by simp) (by have := HZ.out; omega) (by have := HM.out; have := HZ.out; omega) (BX.out.trans ((grow hv1).mono BX.out.size)).size).mono ?_
        rintro e v2 ⟨rfl, Ay, cy, qy, hf, hd, -⟩
        have FY := Aside0.mk hf
        have BY := Aside0.mk ((BX.out.trans ((grow hv1).mono BX.out.size)).trans hd.below)
        clear hf hd hv1 FX BX
        go_wp2_with fail
        obtain ⟨v3, hv3⟩ : ∃ v3, v2.alloc (.cells #[.int .u8 1] 5) = v3 := ⟨_, rfl⟩
        rw [hv3]
        refine (append_full _ _ _ _ _ _ _ _ _ _ 1 _ v3 (FY.out.below (grow hv3)) (by have := HZ.out; push_cast; omega)).mono ?_
        rintro e v4 ⟨rfl, hb⟩
        have FZ := Aside0.mk ((FY.out.below (grow hv3)).below hb)
        have BZ4 := Aside0.mk (BY.out.trans ((below_step (grow hv3) hb).mono BY.out.size))
        clear hb hv3 FY BY
        go_wp2_with fail
        refine (cut_calls _ _ _ _ _ _ _ _ _ nx v4 FZ.out (by omega) BZ4.out.size).mono ?_
        rintro e v5 ⟨rfl, hf, hd⟩
        have F5' := Aside0.mk (show FileAt v5 W1.heap.size W1.heap.size qy Ay nx nx lx 0 most false by
          have e : (lx ++ List.replicate z 0).take nx = lx := by rw [← HNX.out]; exact List.take_left
          rw [e, Nat.zero_min] at hf
          exact hf)
        have B5' := Aside0.mk (BZ4.out.trans hd.below)
        clear hf hd FZ BZ4
        go_wp2_with fail
        obtain ⟨y0, -, -, -⟩ := F5'.out.cells
        refine (len_calls _ _ _ _ _ y0).mono ?_
        rintro e w' ⟨rfl, rfl⟩
        clear y0
        go_wp2_with fail
        obtain ⟨v6, hv6⟩ : ∃ v6, v5.alloc (.cells (madeCells #[.int .u8 0] z) 5) = v6 := ⟨_, rfl⟩
        rw [hv6]
        refine (append_calls _ _ _ _ _ _ _ _ _ _ z z (List.replicate z 0) v6 (F5'.out.below (grow hv6)) (made_bs z (by have := HM.out; have := HZ.out; omega) hv6) (by simp) (by have := HZ.out; omega) (by have := HM.out; have := HZ.out; omega) (B5'.out.trans ((grow hv6).mono B5'.out.size)).size).mono ?_
        rintro e v7 ⟨rfl, Au, cu, qu, hf, hd, -⟩
        obtain ⟨T, hT⟩ : ∃ T, nx + z = T := ⟨_, rfl⟩
        have eT : (T : Int) = most := by have := HZ.out; omega
        have F7' := Aside0.mk (show FileAt v7 W1.heap.size W1.heap.size qu Au cu T (lx ++ List.replicate z 0) 0 most false by rw [← hT]; exact hf)
        have B7' := Aside0.mk ((B5'.out.trans ((grow hv6).mono B5'.out.size)).trans hd.below)
        have ET := Aside0.mk eT
        clear hf hd hv6 F5' B5' hT eT
        go_wp2_with fail
        obtain ⟨y0, -, -, -⟩ := F7'.out.cells
        refine (len_calls _ _ _ _ _ y0).mono ?_
        rintro e w' ⟨rfl, rfl⟩
        clear y0
        have eT2 : ((T : Int) == most) = true := by rw [ET.out]; simp
        go_wp2_with fail
        refine (awake_calls v7).mono ?_
        rintro e v8 ⟨rfl, bz⟩
        have BZ := Aside0.mk (below_step (B1.out.trans (B7'.out.mono B1.out.size)) bz)
        clear bz
        go_wp2_with fail
        go_ret
        exact ⟨rfl, BZ.out⟩

theorem parts_calls (A0 : Option Addr) (c0 : Nat) (l0 : List Int) (A1 : Option Addr) (c1 : Nat) (l1 : List Int) (most : Int) (W : World) (h : Bs W A0 c0 l0 ∧ Bs W A1 c1 l1) (_ : (Lit.int .i64 most).wf = true) :
    Calls Try.prog 7 #[.agg #[.slice A0 l0.length c0, .slice A1 l1.length c1], .int .i64 most] W fun e W' => e = .returned (.bool true) ∧ Below W.heap.size W W' := by
  by_cases hl : 200 < l0.length ∨ 200 < l1.length ∨ most < 1 ∨ 1000 < most
  · exact parts_long A0 c0 _ A1 c1 _ most W hl
  · exact parts_short A0 c0 _ l0 A1 c1 _ l1 most W h.1 h.2 rfl rfl (by omega) (by omega) (by omega) (by omega)
end Go.Proofs.Ytfbpfogmnaahpaa
