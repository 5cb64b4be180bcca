/-
  Files: Append, Flush, keep, Cut.
-/
import Derived.Test.YtfbpfogmnaahpaaA2
namespace Go.Proofs.Ytfbpfogmnaahpaa
open Go.RowKit Go.Proofs.YtfbpfogmnaahpaaW.PrintWords
section
variable {P : Program} {md : Region.Mode} {ops : Array Oper} {Q : Exit → Act → World → Prop} {S : World → Prop} {fuel : Nat} {listed : Array Bool} {a : Act} {w : World}
theorem skipH (i : Nat) (d : Option Tmp) (hd : (ops[i]?).map (·.dst) = some d) (hs : Region.noSelect ops = true) (hf : Region.free md ops listed i = true) (hr : (Region.ready md ops listed).contains i = true)
    (hQ : ∀ c a w, Q (.panic c) (a.put d undef) w → Q (.panic c) a w) (hw : (ops[i]?).map (fun o => Region.wanted o (yielded ops a.tmps)) = some false) (hS : S w)
    (h : wpAnyH P md ops Q S fuel (listed.setIfInBounds i true) (a.put d undef) w) : wpAnyH P md ops Q S (fuel + 1) listed a w := by
  cases ho : ops[i]? with
  | none => simp [ho] at hd
  | some o =>
    simp only [ho, Option.map_some, Option.some.injEq] at hd hw
    subst hd
    exact wpAnyH_take ho hs hf hr hQ (Or.inr ⟨hw, rfl⟩) hS h
theorem takeH (i : Nat) (d : Option Tmp) (v : Value) (hd : (ops[i]?).map (·.dst) = some d) (hs : Region.noSelect ops = true) (hf : Region.free md ops listed i = true) (hr : (Region.ready md ops listed).contains i = true)
    (hQ : ∀ c a w, Q (.panic c) (a.put d v) w → Q (.panic c) a w) (hy : ∀ o, ops[i]? = some o → Region.wanted o (yielded ops a.tmps) = true ∧ ∀ w, S w → (execOp a.eval o).run P w = .ok (.value v) w) (hS : S w)
    (h : wpAnyH P md ops Q S fuel (listed.setIfInBounds i true) (a.put d v) w) : wpAnyH P md ops Q S (fuel + 1) listed a w := by
  cases ho : ops[i]? with
  | none => simp [ho] at hd
  | some o =>
    simp only [ho, Option.map_some, Option.some.injEq] at hd
    subst hd
    exact wpAnyH_take ho hs hf hr hQ (Or.inl (hy o ho)) hS h
theorem oneH (i : Nat) (hr : Region.ready md ops listed = [i]) (hi : (ops[i]?).isSome = true)
    (h : ∀ o, ops[i]? = some o → ∀ K' : Act → World → Prop, Shut (∀ a w, S w → (S w → wpAnyH P md ops Q S fuel (listed.setIfInBounds i true) a w) → K' a w) → if Region.wanted o (yielded ops a.tmps) = true then Oper.wp P o a w K' Q else K' (a.put o.dst undef) w) :
    wpAnyH P md ops Q S (fuel + 1) listed a w := by
  cases ho : ops[i]? with
  | none => simp [ho] at hi
  | some o => exact wpAnyH_ready hr (by simp) (AllReadyH.cons ho (h o ho) AllReadyH.nil)
theorem twoH (i j : Nat) (hr : Region.ready md ops listed = [i, j]) (hi : (ops[i]?).isSome = true) (hj : (ops[j]?).isSome = true)
    (h : ∀ o, ops[i]? = some o → ∀ K' : Act → World → Prop, Shut (∀ a w, S w → (S w → wpAnyH P md ops Q S fuel (listed.setIfInBounds i true) a w) → K' a w) → if Region.wanted o (yielded ops a.tmps) = true then Oper.wp P o a w K' Q else K' (a.put o.dst undef) w)
    (h2 : ∀ o, ops[j]? = some o → ∀ K' : Act → World → Prop, Shut (∀ a w, S w → (S w → wpAnyH P md ops Q S fuel (listed.setIfInBounds j true) a w) → K' a w) → if Region.wanted o (yielded ops a.tmps) = true then Oper.wp P o a w K' Q else K' (a.put o.dst undef) w) :
    wpAnyH P md ops Q S (fuel + 1) listed a w := by
  cases ho : ops[i]? with
  | none => simp [ho] at hi
  | some o =>
    cases ho2 : ops[j]? with
    | none => simp [ho2] at hj
    | some o2 => exact wpAnyH_ready hr (by simp) (AllReadyH.cons ho (h o ho) (AllReadyH.cons ho2 (h2 o2 ho2) AllReadyH.nil))
theorem cbn {n : Nat} {W w1 : World} (h : Below n W w1) {p : Addr} {u : Value} (hc : W.cell? p = some u) (hp : p.block < n) : w1.cell? p = some u := by
  unfold World.cell? at *
  rw [h.block _ hp]
  exact hc
end

theorem wrap_in {x : Int} (h0 : -9223372036854775808 ≤ x) (h1 : x ≤ 9223372036854775807) : IntKind.i64.wrap x = x := IntWalk.i64_in _ (by omega)

theorem append_nil (X : Option Addr) (m cx : Nat) (w : World) : Calls Try.prog 10 #[.pointer none, .slice X m cx] w fun e w' => e = .returned (.int .i64 2) ∧ w = w' := by
  go_enter Try.func10, Try.ntmps10
  go_wp2_with fail
  refine (check_nil w).mono ?_
  rintro e w' ⟨rfl, rfl⟩
  go_wp2
  go_ret
  simp
theorem append_crashed (b p : Nat) (q : Option Nat) (A : Option Addr) (c n : Nat) (l : List Int) (s : Nat) (most : Int) (X : Option Addr) (m cx : Nat) (w : World) (h : FileAt w b p q A c n l s most true) :
    Calls Try.prog 10 #[.pointer (some ⟨p, 0, none⟩), .slice X m cx] w fun e w' => e = .returned (.int .i64 25) ∧ w = w' := by
  obtain ⟨-, -, -, y3⟩ := h.cells
  clear h
  go_enter Try.func10, Try.ntmps10
  go_wp2_with fail
  refine (check_calls p true 25 rfl w y3).mono ?_
  rintro e w' ⟨rfl, rfl⟩
  go_wp2
  go_ret
  simp
set_option maxHeartbeats 1000000 in
theorem append_full (b p : Nat) (q : Option Nat) (A : Option Addr) (c n : Nat) (l : List Int) (s : Nat) (most : Int) (X : Option Addr) (m cx : Nat) (w : World) (h : FileAt w b p q A c n l s most false) (hm : most - n < m) :
    Calls Try.prog 10 #[.pointer (some ⟨p, 0, none⟩), .slice X m cx] w fun e w' => e = .returned (.int .i64 15) ∧ Below w.heap.size w w' := by
  obtain ⟨y0, -, y2, y3⟩ := h.cells
  have hw : IntKind.i64.wrap (most - (n : Int)) = most - n := wrap_in (by have := h.rng; have := h.nlt; omega) (by have := h.rng; have := h.nlt; omega)
  clear h
  go_enter Try.func10, Try.ntmps10
  go_wp2_with fail
  refine (check_calls p false 0 rfl w y3).mono ?_
  rintro e w' ⟨rfl, rfl⟩
  go_wp2_with fail
  refine wp_region_held_drew (S := fun w' => w'.cell? ⟨p, 0, none⟩ = some (.slice A n c) ∧ w'.cell? ⟨p, 2, none⟩ = some (.int .i64 most)) (by kernel_rfl) ?_ (fun hHeld => ?_)
  · exact ⟨y0, y2⟩
  refine takeH 0 (some 11) ?_ (by rfl) (by kernel_rfl) (by kernel_rfl) (by kernel_rfl) (fun _ _ _ h => h) ?_ hHeld ?_
  rotate_left
  · intro o ho
    simp only [List.getElem?_toArray, List.getElem?_cons_zero, Option.some.injEq] at ho
    subst ho
    refine ⟨by rfl, fun w hSw => ?_⟩
    try dsimp only at hSw
    go_simp
    try with_reducible rfl
  try simp only [Act.put, List.setIfInBounds_toArray, List.set_cons_zero, List.set_cons_succ]
  refine takeH 1 (some 12) ?_ (by rfl) (by kernel_rfl) (by kernel_rfl) (by kernel_rfl) (fun _ _ _ h => h) ?_ hHeld ?_
  rotate_left
  · intro o ho
    simp only [List.getElem?_toArray, List.getElem?_cons_succ, List.getElem?_cons_zero, Option.some.injEq] at ho
    subst ho
    refine ⟨by rfl, fun w hSw => ?_⟩
    try dsimp only at hSw
    go_simp
    try with_reducible rfl
  try simp only [Act.put, List.setIfInBounds_toArray, List.set_cons_zero, List.set_cons_succ]
  refine takeH 2 (some 13) ?_ (by rfl) (by kernel_rfl) (by kernel_rfl) (by kernel_rfl) (fun _ _ _ h => h) ?_ hHeld ?_
  rotate_left
  · intro o ho
    simp only [List.getElem?_toArray, List.getElem?_cons_succ, List.getElem?_cons_zero, Option.some.injEq] at ho
    subst ho
    refine ⟨by rfl, fun w hSw => ?_⟩
    try dsimp only at hSw
    go_simp
    try with_reducible rfl
  try simp only [Act.put, List.setIfInBounds_toArray, List.set_cons_zero, List.set_cons_succ]
  refine takeH 3 (some 14) ?_ (by rfl) (by kernel_rfl) (by kernel_rfl) (by kernel_rfl) (fun _ _ _ h => h) ?_ hHeld ?_
  rotate_left
  · intro o ho
    simp only [List.getElem?_toArray, List.getElem?_cons_succ, List.getElem?_cons_zero, Option.some.injEq] at ho
    subst ho
    refine ⟨by rfl, fun w hSw => ?_⟩
    try dsimp only at hSw
    go_simp
    try with_reducible rfl
  try simp only [Act.put, List.setIfInBounds_toArray, List.set_cons_zero, List.set_cons_succ]
  refine takeH 4 (some 15) ?_ (by rfl) (by kernel_rfl) (by kernel_rfl) (by kernel_rfl) (fun _ _ _ h => h) ?_ hHeld ?_
  rotate_left
  · intro o ho
    simp only [List.getElem?_toArray, List.getElem?_cons_succ, List.getElem?_cons_zero, Option.some.injEq] at ho
    subst ho
    refine ⟨by rfl, fun w hSw => ?_⟩
    try dsimp only at hSw
    go_simp
    try with_reducible rfl
  try simp only [Act.put, List.setIfInBounds_toArray, List.set_cons_zero, List.set_cons_succ]
  refine takeH 5 (some 16) ?_ (by rfl) (by kernel_rfl) (by kernel_rfl) (by kernel_rfl) (fun _ _ _ h => h) ?_ hHeld ?_
  rotate_left
  · intro o ho
    simp only [List.getElem?_toArray, List.getElem?_cons_succ, List.getElem?_cons_zero, Option.some.injEq] at ho
    subst ho
    refine ⟨by rfl, fun w hSw => ?_⟩
    try dsimp only at hSw
    go_simp
    try with_reducible rfl
  try simp only [Act.put, List.setIfInBounds_toArray, List.set_cons_zero, List.set_cons_succ]
  refine takeH 6 (some 17) ?_ (by rfl) (by kernel_rfl) (by kernel_rfl) (by kernel_rfl) (fun _ _ _ h => h) ?_ hHeld ?_
  rotate_left
  · intro o ho
    simp only [List.getElem?_toArray, List.getElem?_cons_succ, List.getElem?_cons_zero, Option.some.injEq] at ho
    subst ho
    refine ⟨by rfl, fun w hSw => ?_⟩
    try dsimp only at hSw
    go_simp
    try with_reducible rfl
  try simp only [Act.put, List.setIfInBounds_toArray, List.set_cons_zero, List.set_cons_succ]
  refine takeH 7 (some 18) ?_ (by rfl) (by kernel_rfl) (by kernel_rfl) (by kernel_rfl) (fun _ _ _ h => h) ?_ hHeld ?_
  rotate_left
  · intro o ho
    simp only [List.getElem?_toArray, List.getElem?_cons_succ, List.getElem?_cons_zero, Option.some.injEq] at ho
    subst ho
    refine ⟨by rfl, fun w hSw => ?_⟩
    try dsimp only at hSw
    go_simp
    try with_reducible rfl
  try simp only [Act.put, List.setIfInBounds_toArray, List.set_cons_zero, List.set_cons_succ]
  refine takeH 8 (some 19) ?_ (by rfl) (by kernel_rfl) (by kernel_rfl) (by kernel_rfl) (fun _ _ _ h => h) ?_ hHeld ?_
  rotate_left
  · intro o ho
    simp only [List.getElem?_toArray, List.getElem?_cons_succ, List.getElem?_cons_zero, Option.some.injEq] at ho
    subst ho
    refine ⟨by rfl, fun w hSw => ?_⟩
    try dsimp only at hSw
    go_simp
    try with_reducible rfl
  try simp only [Act.put, List.setIfInBounds_toArray, List.set_cons_zero, List.set_cons_succ]
  refine oneH 9 (by kernel_rfl) (by rfl) (fun o ho K hK => ?_)
  simp only [List.getElem?_toArray, List.getElem?_cons_succ, List.getElem?_cons_zero, Option.some.injEq] at ho
  subst ho
  go_simp
  refine (size_calls p A c n _ (by exact hHeld.1)).mono ?_
  rintro e v1 ⟨rfl, rfl⟩
  try go_wp2_with fail
  refine hK.out _ _ ?_ (fun hHeld2 => ?_)
  · exact hHeld
  clear hK K hHeld
  rename _ => hHeld
  try simp only [Act.put, List.setIfInBounds_toArray, List.set_cons_zero, List.set_cons_succ]
  refine takeH 10 (some 21) ?_ (by rfl) (by kernel_rfl) (by kernel_rfl) (by kernel_rfl) (fun _ _ _ h => h) ?_ hHeld ?_
  rotate_left
  · intro o ho
    simp only [List.getElem?_toArray, List.getElem?_cons_succ, List.getElem?_cons_zero, Option.some.injEq] at ho
    subst ho
    refine ⟨by rfl, fun w hSw => ?_⟩
    try dsimp only at hSw
    go_simp
    try with_reducible rfl
  try simp only [Act.put, List.setIfInBounds_toArray, List.set_cons_zero, List.set_cons_succ]
  refine takeH 11 (some 22) ?_ (by rfl) (by kernel_rfl) (by kernel_rfl) (by kernel_rfl) (fun _ _ _ h => h) ?_ hHeld ?_
  rotate_left
  · intro o ho
    simp only [List.getElem?_toArray, List.getElem?_cons_succ, List.getElem?_cons_zero, Option.some.injEq] at ho
    subst ho
    refine ⟨by rfl, fun w hSw => ?_⟩
    try dsimp only at hSw
    go_simp
    try with_reducible rfl
  try simp only [Act.put, List.setIfInBounds_toArray, List.set_cons_zero, List.set_cons_succ]
  refine wpAnyH_done (by kernel_rfl) ?_ _
  go_wp2
  go_ret
  exact ⟨rfl, (Below.refl _ _).drew⟩
set_option maxHeartbeats 1000000 in
theorem append_calls (b p : Nat) (q : Option Nat) (A : Option Addr) (c n : Nat) (l : List Int) (s : Nat) (most : Int) (X : Option Addr) (cx m : Nat) (ys : List Int) (w : World) (h : FileAt w b p q A c n l s most false) (hY : Bs w X cx ys) (hlen : ys.length = m) (hm : ¬ most - n < m) (hl : n + m ≤ 140737488355328) (hb : b ≤ w.heap.size) :
    Calls Try.prog 10 #[.pointer (some ⟨p, 0, none⟩), .slice X m cx] w fun e w' => e = .returned (.int .i64 0) ∧ ∃ A' c' q', FileAt w' b p q' A' c' (n + m) (l ++ ys) s most false ∧ Did b w w' p q ∧ (q' = q ∨ ∃ k, q' = some k ∧ w.heap.size ≤ k) := by
  obtain ⟨y0, -, y2, y3⟩ := h.cells
  have hw : IntKind.i64.wrap (most - (n : Int)) = most - n := wrap_in (by have := h.rng; have := h.nlt; omega) (by have := h.rng; have := h.nlt; omega)
  have H := Aside0.mk h
  have HY := Aside0.mk hY
  have HM := Aside0.mk hlen
  clear h hY hlen
  go_enter Try.func10, Try.ntmps10
  go_wp2_with fail
  refine (check_calls p false 0 rfl w y3).mono ?_
  rintro e w' ⟨rfl, rfl⟩
  go_wp2_with fail
  refine wp_region_held_drew (S := fun w' => w'.cell? ⟨p, 0, none⟩ = some (.slice A n c) ∧ w'.cell? ⟨p, 2, none⟩ = some (.int .i64 most)) (by kernel_rfl) ?_ (fun hHeld => ?_)
  · exact ⟨y0, y2⟩
  refine takeH 0 (some 11) ?_ (by rfl) (by kernel_rfl) (by kernel_rfl) (by kernel_rfl) (fun _ _ _ h => h) ?_ hHeld ?_
  rotate_left
  · intro o ho
    simp only [List.getElem?_toArray, List.getElem?_cons_zero, Option.some.injEq] at ho
    subst ho
    refine ⟨by rfl, fun w hSw => ?_⟩
    try dsimp only at hSw
    go_simp
    try with_reducible rfl
  try simp only [Act.put, List.setIfInBounds_toArray, List.set_cons_zero, List.set_cons_succ]
  refine takeH 1 (some 12) ?_ (by rfl) (by kernel_rfl) (by kernel_rfl) (by kernel_rfl) (fun _ _ _ h => h) ?_ hHeld ?_
  rotate_left
  · intro o ho
    simp only [List.getElem?_toArray, List.getElem?_cons_succ, List.getElem?_cons_zero, Option.some.injEq] at ho
    subst ho
    refine ⟨by rfl, fun w hSw => ?_⟩
    try dsimp only at hSw
    go_simp
    try with_reducible rfl
  try simp only [Act.put, List.setIfInBounds_toArray, List.set_cons_zero, List.set_cons_succ]
  refine takeH 2 (some 13) ?_ (by rfl) (by kernel_rfl) (by kernel_rfl) (by kernel_rfl) (fun _ _ _ h => h) ?_ hHeld ?_
  rotate_left
  · intro o ho
    simp only [List.getElem?_toArray, List.getElem?_cons_succ, List.getElem?_cons_zero, Option.some.injEq] at ho
    subst ho
    refine ⟨by rfl, fun w hSw => ?_⟩
    try dsimp only at hSw
    go_simp
    try with_reducible rfl
  try simp only [Act.put, List.setIfInBounds_toArray, List.set_cons_zero, List.set_cons_succ]
  refine takeH 3 (some 14) ?_ (by rfl) (by kernel_rfl) (by kernel_rfl) (by kernel_rfl) (fun _ _ _ h => h) ?_ hHeld ?_
  rotate_left
  · intro o ho
    simp only [List.getElem?_toArray, List.getElem?_cons_succ, List.getElem?_cons_zero, Option.some.injEq] at ho
    subst ho
    refine ⟨by rfl, fun w hSw => ?_⟩
    try dsimp only at hSw
    go_simp
    try with_reducible rfl
  try simp only [Act.put, List.setIfInBounds_toArray, List.set_cons_zero, List.set_cons_succ]
  refine takeH 4 (some 15) ?_ (by rfl) (by kernel_rfl) (by kernel_rfl) (by kernel_rfl) (fun _ _ _ h => h) ?_ hHeld ?_
  rotate_left
  · intro o ho
    simp only [List.getElem?_toArray, List.getElem?_cons_succ, List.getElem?_cons_zero, Option.some.injEq] at ho
    subst ho
    refine ⟨by rfl, fun w hSw => ?_⟩
    try dsimp only at hSw
    go_simp
    try with_reducible rfl
  try simp only [Act.put, List.setIfInBounds_toArray, List.set_cons_zero, List.set_cons_succ]
  refine takeH 5 (some 16) ?_ (by rfl) (by kernel_rfl) (by kernel_rfl) (by kernel_rfl) (fun _ _ _ h => h) ?_ hHeld ?_
  rotate_left
  · intro o ho
    simp only [List.getElem?_toArray, List.getElem?_cons_succ, List.getElem?_cons_zero, Option.some.injEq] at ho
    subst ho
    refine ⟨by rfl, fun w hSw => ?_⟩
    try dsimp only at hSw
    go_simp
    try with_reducible rfl
  try simp only [Act.put, List.setIfInBounds_toArray, List.set_cons_zero, List.set_cons_succ]
  refine takeH 6 (some 17) ?_ (by rfl) (by kernel_rfl) (by kernel_rfl) (by kernel_rfl) (fun _ _ _ h => h) ?_ hHeld ?_
  rotate_left
  · intro o ho
    simp only [List.getElem?_toArray, List.getElem?_cons_succ, List.getElem?_cons_zero, Option.some.injEq] at ho
    subst ho
    refine ⟨by rfl, fun w hSw => ?_⟩
    try dsimp only at hSw
    go_simp
    try with_reducible rfl
  try simp only [Act.put, List.setIfInBounds_toArray, List.set_cons_zero, List.set_cons_succ]
  refine takeH 7 (some 18) ?_ (by rfl) (by kernel_rfl) (by kernel_rfl) (by kernel_rfl) (fun _ _ _ h => h) ?_ hHeld ?_
  rotate_left
  · intro o ho
    simp only [List.getElem?_toArray, List.getElem?_cons_succ, List.getElem?_cons_zero, Option.some.injEq] at ho
    subst ho
    refine ⟨by rfl, fun w hSw => ?_⟩
    try dsimp only at hSw
    go_simp
    try with_reducible rfl
  try simp only [Act.put, List.setIfInBounds_toArray, List.set_cons_zero, List.set_cons_succ]
  refine takeH 8 (some 19) ?_ (by rfl) (by kernel_rfl) (by kernel_rfl) (by kernel_rfl) (fun _ _ _ h => h) ?_ hHeld ?_
  rotate_left
  · intro o ho
    simp only [List.getElem?_toArray, List.getElem?_cons_succ, List.getElem?_cons_zero, Option.some.injEq] at ho
    subst ho
    refine ⟨by rfl, fun w hSw => ?_⟩
    try dsimp only at hSw
    go_simp
    try with_reducible rfl
  try simp only [Act.put, List.setIfInBounds_toArray, List.set_cons_zero, List.set_cons_succ]
  refine oneH 9 (by kernel_rfl) (by rfl) (fun o ho K hK => ?_)
  simp only [List.getElem?_toArray, List.getElem?_cons_succ, List.getElem?_cons_zero, Option.some.injEq] at ho
  subst ho
  go_simp
  refine (size_calls p A c n _ (by exact hHeld.1)).mono ?_
  rintro e v1 ⟨rfl, rfl⟩
  try go_wp2_with fail
  refine hK.out _ _ ?_ (fun hHeld2 => ?_)
  · exact hHeld
  clear hK K hHeld
  rename _ => hHeld
  try simp only [Act.put, List.setIfInBounds_toArray, List.set_cons_zero, List.set_cons_succ]
  refine takeH 10 (some 21) ?_ (by rfl) (by kernel_rfl) (by kernel_rfl) (by kernel_rfl) (fun _ _ _ h => h) ?_ hHeld ?_
  rotate_left
  · intro o ho
    simp only [List.getElem?_toArray, List.getElem?_cons_succ, List.getElem?_cons_zero, Option.some.injEq] at ho
    subst ho
    refine ⟨by rfl, fun w hSw => ?_⟩
    try dsimp only at hSw
    go_simp
    try with_reducible rfl
  try simp only [Act.put, List.setIfInBounds_toArray, List.set_cons_zero, List.set_cons_succ]
  refine takeH 11 (some 22) ?_ (by rfl) (by kernel_rfl) (by kernel_rfl) (by kernel_rfl) (fun _ _ _ h => h) ?_ hHeld ?_
  rotate_left
  · intro o ho
    simp only [List.getElem?_toArray, List.getElem?_cons_succ, List.getElem?_cons_zero, Option.some.injEq] at ho
    subst ho
    refine ⟨by rfl, fun w hSw => ?_⟩
    try dsimp only at hSw
    go_simp
    try with_reducible rfl
  try simp only [Act.put, List.setIfInBounds_toArray, List.set_cons_zero, List.set_cons_succ]
  refine wpAnyH_done (by kernel_rfl) ?_ _
  go_wp2_with fail
  obtain ⟨w1, hw1⟩ : ∃ w1, w.drew = w1 := ⟨_, rfl⟩
  have H1 := Aside0.mk (show FileAt w1 b p q A c n l s most false from hw1 ▸ H.out.below (Below.refl _ _).drew)
  have HY1 := Aside0.mk (show Bs w1 X cx ys from hw1 ▸ HY.out.below (Below.refl _ _).drew)
  have B1 := Aside0.mk (show Below w.heap.size w w1 from hw1 ▸ (Below.refl _ _).drew)
  have S1 : w1.heap.size = w.heap.size := by rw [← hw1]; rfl
  rw [hw1]
  clear hw1 hHeld y0 y2 y3 hw
  refine (add_calls b p q A c n l s most false X cx m ys w1 H1.out HY1.out HM.out hl (by omega)).mono ?_
  rintro e w2 ⟨⟨v, rfl⟩, A', c', q', hf, hd, hq⟩
  have F := Aside0.mk hf
  have D := Aside0.mk (show Did b w w2 p q from ⟨(B1.out.mono (by omega)).trans hd.below, fun k hk h1 h2 => (hd.kept k (by omega) h1 h2).trans (B1.out.block k hk)⟩)
  have Q := Aside0.mk hq
  clear hf hd hq
  go_wp2
  go_ret
  exact ⟨rfl, A', c', q', F.out, D.out, by rw [← S1]; exact Q.out⟩

theorem flush_nil (w : World) : Calls Try.prog 11 #[.pointer none] w fun e w' => e = .returned (.int .i64 2) ∧ w = w' := by
  go_enter Try.func11, Try.ntmps11
  go_wp2_with fail
  refine (check_nil w).mono ?_
  rintro e w' ⟨rfl, rfl⟩
  go_wp2
  go_ret
  simp
theorem flush_crashed (b p : Nat) (q : Option Nat) (A : Option Addr) (c n : Nat) (l : List Int) (s : Nat) (most : Int) (w : World) (h : FileAt w b p q A c n l s most true) :
    Calls Try.prog 11 #[.pointer (some ⟨p, 0, none⟩)] w fun e w' => e = .returned (.int .i64 25) ∧ w = w' := by
  obtain ⟨-, -, -, y3⟩ := h.cells
  clear h
  go_enter Try.func11, Try.ntmps11
  go_wp2_with fail
  refine (check_calls p true 25 rfl w y3).mono ?_
  rintro e w' ⟨rfl, rfl⟩
  go_wp2
  go_ret
  simp
theorem flush_calls (b p : Nat) (q : Option Nat) (A : Option Addr) (c n : Nat) (l : List Int) (s : Nat) (most : Int) (w : World) (h : FileAt w b p q A c n l s most false) (hb : b ≤ w.heap.size) :
    Calls Try.prog 11 #[.pointer (some ⟨p, 0, none⟩)] w fun e w' => e = .returned (.int .i64 0) ∧ FileAt w' b p q A c n l n most false ∧ Did b w w' p q := by
  obtain ⟨y0, y1, -, y3⟩ := h.cells
  obtain ⟨f0, f1, -, -⟩ := h.free
  have H := Aside0.mk h
  clear h
  go_enter Try.func11, Try.ntmps11
  go_wp2_with fail
  refine (check_calls p false 0 rfl w y3).mono ?_
  rintro e w' ⟨rfl, rfl⟩
  go_wp2_with fail
  refine (size_calls p A c n w y0).mono ?_
  rintro e w' ⟨rfl, rfl⟩
  go_wp2
  go_ret
  exact ⟨rfl, ⟨FileAt.put1 _ H.out.blk, H.out.own, H.out.len, H.out.row.set _ H.out.apart _, H.out.apart, Nat.le_refl _, H.out.rng⟩,
    ⟨((Below.refl _ _).mono hb).setCell (p := ⟨p, 1, none⟩) H.out.own _, fun k hk h1 h2 => Below.heap_setCell _ _ _ k h1⟩⟩

theorem Row.keep {W : World} {b : Nat} {q : Option Nat} {A : Option Addr} {c : Nat} {l : List Int} (h : Row W b q A c l) (k : Nat) (hk : k ≤ l.length) : Row W b q A k (l.take k) := by
  refine ⟨fun x hx => h.byte x (List.mem_of_mem_take hx), ?_⟩
  rcases h.lies with ⟨rfl, rfl, rfl, rfl⟩ | ⟨g, cur, h1, rfl, h3, h4, h5, h6, h7, h8⟩
  · exact .inl ⟨rfl, by simpa using hk, by simp, rfl⟩
  · refine .inr ⟨g, cur, h1, rfl, h3, h4, by simp; omega, by omega, by omega, ?_⟩
    have e : (l.take k).length = k := by simp; omega
    rw [e]
    have : (cur.toList.take l.length).take k = (nums .u8 l).take k := by rw [h8]
    rw [List.take_take, Nat.min_eq_left hk] at this
    rw [this]
    simp [nums, List.map_take]
end Go.Proofs.Ytfbpfogmnaahpaa
