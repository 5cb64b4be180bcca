/-
  Files: the document's answer (All, Append, Flush, Open).
-/
import Derived.Test.YtfbpfogmnaahpaaA7
namespace Go.Proofs.Ytfbpfogmnaahpaa
open Go.RowKit Go.Proofs.YtfbpfogmnaahpaaW.PrintWords

theorem FileAt.set {W : World} {b p : Nat} {q : Option Nat} {A : Option Addr} {c n : Nat} {l : List Int} {s : Nat} {most : Int} {cr : Bool} (h : FileAt W b p q A c n l s most cr) (a : Addr) (ha : a.block ≠ p) (hq : some a.block ≠ q) (v : Value) : FileAt (W.setCell a v) b p q A c n l s most cr :=
  ⟨(Below.heap_setCell _ _ _ p (fun e => ha e.symm)).trans h.blk, h.own, h.len, h.row.set a (fun e => hq e.symm) v, h.apart, h.sure, h.rng⟩

theorem Row.weaken {W : World} {b b' : Nat} {q : Option Nat} {A : Option Addr} {c : Nat} {l : List Int} (h : Row W b q A c l) (hb : b' ≤ b) : Row W b' q A c l :=
  ⟨h.byte, by
    rcases h.lies with h | ⟨g, cur, h3, h4, h5, h6⟩
    · exact .inl h
    · exact .inr ⟨g, cur, h3, h4, by omega, h6⟩⟩
theorem take_cut_n (A : Option Addr) (c n m : Nat) (l : List Int) (hm : l.length = m) (hn : n ≤ m) (hc : l.length ≤ c) :
    (∀ W : World, (Instr.slice 22 (.slice A m c) none (some (.int .i64 (n : Int))) none).run Try.prog W = .ok (.slice A n c) W) ∧ (∀ w : World, Bs w A c l → Bs w A c (l.take n)) := by
  subst hm
  obtain ⟨i5, hi, hii⟩ := Option.map_eq_some_iff.1 info5
  have hsz : i5.size = 1 := by simp only [Prod.mk.injEq] at hii; exact hii.2.1
  obtain ⟨cut1, r1, q1⟩ := print_take_int (k := .u8) 22 5 Try.underlying22 hi hsz A c l (n : Int) (by omega) (by omega) hc
  rw [Int.toNat_natCast] at cut1 r1 q1
  refine ⟨fun W => ?_, fun w h => ⟨r1 w h.reads, q1, fun x hx => h.byte x (List.mem_of_mem_take hx)⟩⟩
  rw [cut1 W, List.length_take, show min n l.length = n from by omega]
theorem drop_cut_n (A : Option Addr) (c n m : Nat) (l : List Int) (hm : l.length = m) (hn : n ≤ m) (hc : l.length ≤ c) : ∃ A2 : Option Addr,
    (∀ W : World, (Instr.slice 22 (.slice A m c) (some (.int .i64 (n : Int))) none none).run Try.prog W = .ok (.slice A2 (m - n) (c - n)) W) ∧ (∀ w : World, Bs w A c l → Bs w A2 (c - n) (l.drop n)) := by
  subst hm
  obtain ⟨i5, hi, hii⟩ := Option.map_eq_some_iff.1 info5
  have hsz : i5.size = 1 := by simp only [Prod.mk.injEq] at hii; exact hii.2.1
  obtain ⟨A2, cut2, r2, q2⟩ := print_cut_int (k := .u8) 22 5 Try.underlying22 hi hsz A c l (n : Int) (by omega) (by omega) hc
  rw [Int.toNat_natCast] at cut2 r2 q2
  refine ⟨A2, fun W => ?_, fun w h => ⟨r2 w h.reads, q2, fun x hx => h.byte x (List.mem_of_mem_drop hx)⟩⟩
  rw [cut2 W, List.length_drop]

/-- The reference's file: its block r, its rows' blocks qF, qL. -/
structure RefAt (W : World) (b r : Nat) (qF : Option Nat) (AF : Option Addr) (cF nF : Nat) (lF : List Int) (qL : Option Nat) (AL : Option Addr) (cL nL : Nat) (lL : List Int) (most : Int) (cr : Bool) : Prop where
  blk : W.heap[r]? = some (.cells #[.int .i64 most, .slice AF nF cF, .slice AL nL cL, .bool cr] 39 (0, 0))
  own : b ≤ r
  lenF : lF.length = nF
  lenL : lL.length = nL
  rowF : Row W b qF AF cF lF
  rowL : Row W b qL AL cL lL
  apF : qF ≠ some r
  apL : qL ≠ some r
  apt : ∀ k, qF = some k → qL ≠ some k
section
variable {W W' : World} {b r : Nat} {qF : Option Nat} {AF : Option Addr} {cF nF : Nat} {lF : List Int} {qL : Option Nat} {AL : Option Addr} {cL nL : Nat} {lL : List Int} {most : Int} {cr : Bool}
theorem RefAt.cells (h : RefAt W b r qF AF cF nF lF qL AL cL nL lL most cr) : W.cell? ⟨r, 0, none⟩ = some (.int .i64 most) ∧ W.cell? ⟨r, 1, none⟩ = some (.slice AF nF cF) ∧ W.cell? ⟨r, 2, none⟩ = some (.slice AL nL cL) ∧ W.cell? ⟨r, 3, none⟩ = some (.bool cr) := by
  simp [World.cell?, h.blk]
theorem RefAt.free (h : RefAt W b r qF AF cF nF lF qL AL cL nL lL most cr) : W.frozen? ⟨r, 1, none⟩ = false ∧ W.frozen? ⟨r, 2, none⟩ = false ∧ W.frozen? ⟨r, 3, none⟩ = false := by
  simp [World.frozen?, h.blk]
theorem RefAt.lt (h : RefAt W b r qF AF cF nF lF qL AL cL nL lL most cr) : r < W.heap.size := (Array.getElem?_eq_some_iff.1 h.blk).1
theorem RefAt.below (h : RefAt W b r qF AF cF nF lF qL AL cL nL lL most cr) (hb : Below W.heap.size W W') : RefAt W' b r qF AF cF nF lF qL AL cL nL lL most cr :=
  ⟨(hb.block r h.lt).trans h.blk, h.own, h.lenF, h.lenL, h.rowF.below hb, h.rowL.below hb, h.apF, h.apL, h.apt⟩
theorem RefAt.did {b2 p2 : Nat} {q2 : Option Nat} (h : RefAt W b r qF AF cF nF lF qL AL cL nL lL most cr) (hd : Did b2 W W' p2 q2) (h1 : r ≠ p2) (h2 : some r ≠ q2) (h3 : qF ≠ some p2) (h4 : qL ≠ some p2) (h5 : ∀ k, qF = some k → some k ≠ q2) (h6 : ∀ k, qL = some k → some k ≠ q2) : RefAt W' b r qF AF cF nF lF qL AL cL nL lL most cr :=
  ⟨(hd.kept r h.lt h1 h2).trans h.blk, h.own, h.lenF, h.lenL, h.rowF.did2 hd h3 h5, h.rowL.did2 hd h4 h6, h.apF, h.apL, h.apt⟩
end
theorem refput {W : World} {r : Nat} {a0 a1 a2 a3 : Value} (i : Nat) (x : Value) (h : W.heap[r]? = some (.cells #[a0, a1, a2, a3] 39 (0, 0))) : (W.setCell ⟨r, i, none⟩ x).heap[r]? = some (.cells (#[a0, a1, a2, a3].setIfInBounds i x) 39 (0, 0)) :=
  heap_setCell_same W r i _ 39 x h
/-- A block of these two, or a new one. -/
def From (n : Nat) (qF qL q : Option Nat) : Prop := q = qF ∨ q = qL ∨ ∀ k, q = some k → n ≤ k

set_option maxHeartbeats 2000000 in
theorem all_calls (b r : Nat) (qF : Option Nat) (AF : Option Addr) (cF nF : Nat) (lF : List Int) (qL : Option Nat) (AL : Option Addr) (cL nL : Nat) (lL : List Int) (most : Int) (cr : Bool) (n : Nat) (hn : nF + nL = n) (hl : n ≤ 140737488355328) (w : World) (h : RefAt w b r qF AF cF nF lF qL AL cL nL lL most cr) :
    Calls Try.prog 23 #[.pointer (some ⟨r, 0, none⟩)] w fun e w' => ∃ A' c' q', e = .returned (.slice A' n c') ∧ Row w' w.heap.size q' A' c' (lF ++ lL) ∧ Below w.heap.size w w' := by
  obtain ⟨-, y1, y2, -⟩ := h.cells
  have HH := Aside0.mk h
  have HN := Aside0.mk hn
  have hnF : nF ≤ 140737488355328 := by omega
  clear h hn
  go_enter Try.func23, Try.ntmps23
  go_wp2_with fail
  refine wp_region_held_drew (S := fun w' => w'.cell? ⟨r, 1, none⟩ = some (.slice AF nF cF) ∧ w'.cell? ⟨r, 2, none⟩ = some (.slice AL nL cL)) (by kernel_rfl) ?_ (fun hHeld => ?_)
  · exact ⟨y1, y2⟩
  refine takeH 1 (some 4) ?_ (by rfl) (by kernel_rfl) (by kernel_rfl) (by kernel_rfl) (fun _ _ _ h => h) ?_ hHeld ?_
  rotate_left
  · intro o ho
    simp only [List.getElem?_toArray, List.getElem?_cons_succ, List.getElem?_cons_zero, Option.some.injEq] at ho
    subst ho
    refine ⟨by rfl, fun w hSw => ?_⟩
    try dsimp only at hSw
    go_simp
    try with_reducible rfl
  try simp only [Act.put, List.setIfInBounds_toArray, List.set_cons_zero, List.set_cons_succ]
  refine takeH 2 (some 5) ?_ (by rfl) (by kernel_rfl) (by kernel_rfl) (by kernel_rfl) (fun _ _ _ h => h) ?_ hHeld ?_
  rotate_left
  · intro o ho
    simp only [List.getElem?_toArray, List.getElem?_cons_succ, List.getElem?_cons_zero, Option.some.injEq] at ho
    subst ho
    refine ⟨by rfl, fun w hSw => ?_⟩
    try dsimp only at hSw
    go_simp
    try with_reducible rfl
  try simp only [Act.put, List.setIfInBounds_toArray, List.set_cons_zero, List.set_cons_succ]
  refine takeH 3 (some 6) ?_ (by rfl) (by kernel_rfl) (by kernel_rfl) (by kernel_rfl) (fun _ _ _ h => h) ?_ hHeld ?_
  rotate_left
  · intro o ho
    simp only [List.getElem?_toArray, List.getElem?_cons_succ, List.getElem?_cons_zero, Option.some.injEq] at ho
    subst ho
    refine ⟨by rfl, fun w hSw => ?_⟩
    try dsimp only at hSw
    go_simp
    try with_reducible rfl
  try simp only [Act.put, List.setIfInBounds_toArray, List.set_cons_zero, List.set_cons_succ]
  refine takeH 4 (some 7) ?_ (by rfl) (by kernel_rfl) (by kernel_rfl) (by kernel_rfl) (fun _ _ _ h => h) ?_ hHeld ?_
  rotate_left
  · intro o ho
    simp only [List.getElem?_toArray, List.getElem?_cons_succ, List.getElem?_cons_zero, Option.some.injEq] at ho
    subst ho
    refine ⟨by rfl, fun w hSw => ?_⟩
    try dsimp only at hSw
    go_simp
    try with_reducible rfl
  try simp only [Act.put, List.setIfInBounds_toArray, List.set_cons_zero, List.set_cons_succ]
  refine takeH 6 (some 9) ?_ (by rfl) (by kernel_rfl) (by kernel_rfl) (by kernel_rfl) (fun _ _ _ h => h) ?_ hHeld ?_
  rotate_left
  · intro o ho
    simp only [List.getElem?_toArray, List.getElem?_cons_succ, List.getElem?_cons_zero, Option.some.injEq] at ho
    subst ho
    refine ⟨by rfl, fun w hSw => ?_⟩
    try dsimp only at hSw
    go_simp
    try with_reducible rfl
  try simp only [Act.put, List.setIfInBounds_toArray, List.set_cons_zero, List.set_cons_succ]
  refine takeH 7 (some 10) ?_ (by rfl) (by kernel_rfl) (by kernel_rfl) (by kernel_rfl) (fun _ _ _ h => h) ?_ hHeld ?_
  rotate_left
  · intro o ho
    simp only [List.getElem?_toArray, List.getElem?_cons_succ, List.getElem?_cons_zero, Option.some.injEq] at ho
    subst ho
    refine ⟨by rfl, fun w hSw => ?_⟩
    try dsimp only at hSw
    go_simp
    try with_reducible rfl
  try simp only [Act.put, List.setIfInBounds_toArray, List.set_cons_zero, List.set_cons_succ]
  refine takeH 8 (some 11) ?_ (by rfl) (by kernel_rfl) (by kernel_rfl) (by kernel_rfl) (fun _ _ _ h => h) ?_ hHeld ?_
  rotate_left
  · intro o ho
    simp only [List.getElem?_toArray, List.getElem?_cons_succ, List.getElem?_cons_zero, Option.some.injEq] at ho
    subst ho
    refine ⟨by rfl, fun w hSw => ?_⟩
    try dsimp only at hSw
    go_simp
    try with_reducible rfl
  try simp only [Act.put, List.setIfInBounds_toArray, List.set_cons_zero, List.set_cons_succ]
  refine takeH 9 (some 12) ?_ (by rfl) (by kernel_rfl) (by kernel_rfl) (by kernel_rfl) (fun _ _ _ h => h) ?_ hHeld ?_
  rotate_left
  · intro o ho
    simp only [List.getElem?_toArray, List.getElem?_cons_succ, List.getElem?_cons_zero, Option.some.injEq] at ho
    subst ho
    refine ⟨by rfl, fun w hSw => ?_⟩
    try dsimp only at hSw
    go_simp
    try with_reducible rfl
  try simp only [Act.put, List.setIfInBounds_toArray, List.set_cons_zero, List.set_cons_succ]
  refine oneH 0 (by kernel_rfl) (by rfl) (fun o ho K hK => ?_)
  simp only [List.getElem?_toArray, List.getElem?_cons_zero, Option.some.injEq] at ho
  subst ho
  go_simp
  obtain ⟨w4, hw4⟩ : ∃ w4, (w.alloc (.cells #[] 5)).drew = w4 := ⟨_, rfl⟩
  have q4 : Below w.heap.size w w4 := hw4 ▸ ((Below.refl _ _).alloc (Nat.le_refl _) _).drew
  have R4 : Row w4 w.heap.size (some w.heap.size) (some ⟨w.heap.size, 0, none⟩) 0 [] := hw4 ▸ (lit_row #[] [] 0 rfl rfl (by simp) (by decide) rfl).drew
  rw [hw4]
  clear hw4
  refine hK.out _ _ ?_ (fun hHeld2 => ?_)
  · exact ⟨cb q4 y1, cb q4 y2⟩
  clear hK K hHeld
  rename _ => hHeld
  try simp only [Act.put, List.setIfInBounds_toArray, List.set_cons_zero, List.set_cons_succ]
  refine oneH 5 (by kernel_rfl) (by rfl) (fun o ho K hK => ?_)
  simp only [List.getElem?_toArray, List.getElem?_cons_succ, List.getElem?_cons_zero, Option.some.injEq] at ho
  subst ho
  refine step_append_Row (b := w.heap.size) (n := 0) (l := []) (by rfl) _ _ rfl AF nF cF lF rfl rfl rfl nF (Nat.zero_add nF) R4 (Bs.of ⟨HH.out.rowF.bs, HH.out.lenF⟩ q4) HH.out.rowF.byte (by omega) q4.size ?_
  intro A5 c5 q5 w5 R5 g5 hq5
  have q5' : Below w.heap.size w w5 := q4.grown g5 q4.size (fun k hk => by injection hk with hk; omega)
  refine hK.out _ _ ?_ (fun hHeld2 => ?_)
  · exact ⟨cb q5' y1, cb q5' y2⟩
  clear hK K hHeld
  rename _ => hHeld
  try simp only [Act.put, List.setIfInBounds_toArray, List.set_cons_zero, List.set_cons_succ]
  refine oneH 10 (by kernel_rfl) (by rfl) (fun o ho K hK => ?_)
  simp only [List.getElem?_toArray, List.getElem?_cons_succ, List.getElem?_cons_zero, Option.some.injEq] at ho
  subst ho
  refine step_append_Row (b := w.heap.size) (n := nF) (l := [] ++ lF) (by rfl) _ _ rfl AL nL cL lL rfl rfl (by have := HH.out.lenF; simp; omega) n HN.out R5 (Bs.of ⟨HH.out.rowL.bs, HH.out.lenL⟩ q5') HH.out.rowL.byte (by have := HN.out; omega) q5'.size ?_
  intro A6 c6 q6 w6 R6 g6 hq6
  have q6' : Below w.heap.size w w6 := q5'.grown g6 q5'.size (fun k hk => (R5.size k hk).1)
  refine hK.out _ _ ?_ (fun hHeld2 => ?_)
  · exact ⟨cb q6' y1, cb q6' y2⟩
  clear hK K hHeld
  rename _ => hHeld
  try simp only [Act.put, List.setIfInBounds_toArray, List.set_cons_zero, List.set_cons_succ]
  refine takeH 11 (some 2) ?_ (by rfl) (by kernel_rfl) (by kernel_rfl) (by kernel_rfl) (fun _ _ _ h => h) ?_ hHeld ?_
  rotate_left
  · intro o ho
    simp only [List.getElem?_toArray, List.getElem?_cons_succ, List.getElem?_cons_zero, Option.some.injEq] at ho
    subst ho
    refine ⟨by rfl, fun w hSw => ?_⟩
    try dsimp only at hSw
    go_simp
    try with_reducible rfl
  try simp only [Act.put, List.setIfInBounds_toArray, List.set_cons_zero, List.set_cons_succ]
  refine wpAnyH_done (by kernel_rfl) ?_ _
  go_wp2
  go_ret
  exact ⟨A6, c6, q6, rfl, by simpa using R6, q6'⟩

theorem rappend_crashed (b r : Nat) (qF : Option Nat) (AF : Option Addr) (cF nF : Nat) (lF : List Int) (qL : Option Nat) (AL : Option Addr) (cL nL : Nat) (lL : List Int) (most : Int) (X : Option Addr) (m cx : Nat) (w : World) (h : RefAt w b r qF AF cF nF lF qL AL cL nL lL most true) :
    Calls Try.prog 16 #[.pointer (some ⟨r, 0, none⟩), .slice X m cx] w fun e w' => e = .returned (.int .i64 25) ∧ w = w' := by
  obtain ⟨-, -, -, y3⟩ := h.cells
  clear h
  go_enter Try.func16, Try.ntmps16
  go_wp2
  go_ret
  simp
set_option maxHeartbeats 2000000 in
theorem rappend_full (b r : Nat) (qF : Option Nat) (AF : Option Addr) (cF nF : Nat) (lF : List Int) (qL : Option Nat) (AL : Option Addr) (cL nL : Nat) (lL : List Int) (most : Int) (X : Option Addr) (m cx : Nat) (w : World) (h : RefAt w b r qF AF cF nF lF qL AL cL nL lL most false) (hl : nF + nL + m ≤ 140737488355328) (hm : most < (nF : Int) + nL + m) :
    Calls Try.prog 16 #[.pointer (some ⟨r, 0, none⟩), .slice X m cx] w fun e w' => e = .returned (.int .i64 15) ∧ Below w.heap.size w w' := by
  obtain ⟨y0, y1, y2, y3⟩ := h.cells
  have hw1 : IntKind.i64.wrap ((nF : Int) + (nL : Int)) = (nF : Int) + nL := wrap_in (by omega) (by omega)
  have hw2 : IntKind.i64.wrap ((nF : Int) + (nL : Int) + (m : Int)) = (nF : Int) + nL + m := wrap_in (by omega) (by omega)
  clear h
  go_enter Try.func16, Try.ntmps16
  go_wp2_with fail
  refine wp_region_held_drew (S := fun w' => w'.cell? ⟨r, 0, none⟩ = some (.int .i64 most) ∧ w'.cell? ⟨r, 1, none⟩ = some (.slice AF nF cF) ∧ w'.cell? ⟨r, 2, none⟩ = some (.slice AL nL cL)) (by kernel_rfl) ?_ (fun hHeld => ?_)
  · exact ⟨y0, y1, y2⟩
  refine takeH 0 (some 9) ?_ (by rfl) (by kernel_rfl) (by kernel_rfl) (by kernel_rfl) (fun _ _ _ h => h) ?_ hHeld ?_
  rotate_left
  · intro o ho
    simp only [List.getElem?_toArray, List.getElem?_cons_zero, Option.some.injEq] at ho
    subst ho
    refine ⟨by rfl, fun w hSw => ?_⟩
    try dsimp only at hSw
    go_simp
    try with_reducible rfl
  try simp only [Act.put, List.setIfInBounds_toArray, List.set_cons_zero, List.set_cons_succ]
  refine takeH 1 (some 10) ?_ (by rfl) (by kernel_rfl) (by kernel_rfl) (by kernel_rfl) (fun _ _ _ h => h) ?_ hHeld ?_
  rotate_left
  · intro o ho
    simp only [List.getElem?_toArray, List.getElem?_cons_succ, List.getElem?_cons_zero, Option.some.injEq] at ho
    subst ho
    refine ⟨by rfl, fun w hSw => ?_⟩
    try dsimp only at hSw
    go_simp
    try with_reducible rfl
  try simp only [Act.put, List.setIfInBounds_toArray, List.set_cons_zero, List.set_cons_succ]
  refine takeH 2 (some 11) ?_ (by rfl) (by kernel_rfl) (by kernel_rfl) (by kernel_rfl) (fun _ _ _ h => h) ?_ hHeld ?_
  rotate_left
  · intro o ho
    simp only [List.getElem?_toArray, List.getElem?_cons_succ, List.getElem?_cons_zero, Option.some.injEq] at ho
    subst ho
    refine ⟨by rfl, fun w hSw => ?_⟩
    try dsimp only at hSw
    go_simp
    try with_reducible rfl
  try simp only [Act.put, List.setIfInBounds_toArray, List.set_cons_zero, List.set_cons_succ]
  refine takeH 3 (some 12) ?_ (by rfl) (by kernel_rfl) (by kernel_rfl) (by kernel_rfl) (fun _ _ _ h => h) ?_ hHeld ?_
  rotate_left
  · intro o ho
    simp only [List.getElem?_toArray, List.getElem?_cons_succ, List.getElem?_cons_zero, Option.some.injEq] at ho
    subst ho
    refine ⟨by rfl, fun w hSw => ?_⟩
    try dsimp only at hSw
    go_simp
    try with_reducible rfl
  try simp only [Act.put, List.setIfInBounds_toArray, List.set_cons_zero, List.set_cons_succ]
  refine takeH 4 (some 13) ?_ (by rfl) (by kernel_rfl) (by kernel_rfl) (by kernel_rfl) (fun _ _ _ h => h) ?_ hHeld ?_
  rotate_left
  · intro o ho
    simp only [List.getElem?_toArray, List.getElem?_cons_succ, List.getElem?_cons_zero, Option.some.injEq] at ho
    subst ho
    refine ⟨by rfl, fun w hSw => ?_⟩
    try dsimp only at hSw
    go_simp
    try with_reducible rfl
  try simp only [Act.put, List.setIfInBounds_toArray, List.set_cons_zero, List.set_cons_succ]
  refine takeH 5 (some 14) ?_ (by rfl) (by kernel_rfl) (by kernel_rfl) (by kernel_rfl) (fun _ _ _ h => h) ?_ hHeld ?_
  rotate_left
  · intro o ho
    simp only [List.getElem?_toArray, List.getElem?_cons_succ, List.getElem?_cons_zero, Option.some.injEq] at ho
    subst ho
    refine ⟨by rfl, fun w hSw => ?_⟩
    try dsimp only at hSw
    go_simp
    try with_reducible rfl
  try simp only [Act.put, List.setIfInBounds_toArray, List.set_cons_zero, List.set_cons_succ]
  refine takeH 6 (some 15) ?_ (by rfl) (by kernel_rfl) (by kernel_rfl) (by kernel_rfl) (fun _ _ _ h => h) ?_ hHeld ?_
  rotate_left
  · intro o ho
    simp only [List.getElem?_toArray, List.getElem?_cons_succ, List.getElem?_cons_zero, Option.some.injEq] at ho
    subst ho
    refine ⟨by rfl, fun w hSw => ?_⟩
    try dsimp only at hSw
    go_simp
    try with_reducible rfl
  try simp only [Act.put, List.setIfInBounds_toArray, List.set_cons_zero, List.set_cons_succ]
  refine takeH 7 (some 16) ?_ (by rfl) (by kernel_rfl) (by kernel_rfl) (by kernel_rfl) (fun _ _ _ h => h) ?_ hHeld ?_
  rotate_left
  · intro o ho
    simp only [List.getElem?_toArray, List.getElem?_cons_succ, List.getElem?_cons_zero, Option.some.injEq] at ho
    subst ho
    refine ⟨by rfl, fun w hSw => ?_⟩
    try dsimp only at hSw
    go_simp
    try with_reducible rfl
  try simp only [Act.put, List.setIfInBounds_toArray, List.set_cons_zero, List.set_cons_succ]
  refine takeH 8 (some 17) ?_ (by rfl) (by kernel_rfl) (by kernel_rfl) (by kernel_rfl) (fun _ _ _ h => h) ?_ hHeld ?_
  rotate_left
  · intro o ho
    simp only [List.getElem?_toArray, List.getElem?_cons_succ, List.getElem?_cons_zero, Option.some.injEq] at ho
    subst ho
    refine ⟨by rfl, fun w hSw => ?_⟩
    try dsimp only at hSw
    go_simp
    try with_reducible rfl
  try simp only [Act.put, List.setIfInBounds_toArray, List.set_cons_zero, List.set_cons_succ]
  refine takeH 9 (some 18) ?_ (by rfl) (by kernel_rfl) (by kernel_rfl) (by kernel_rfl) (fun _ _ _ h => h) ?_ hHeld ?_
  rotate_left
  · intro o ho
    simp only [List.getElem?_toArray, List.getElem?_cons_succ, List.getElem?_cons_zero, Option.some.injEq] at ho
    subst ho
    refine ⟨by rfl, fun w hSw => ?_⟩
    try dsimp only at hSw
    go_simp
    try with_reducible rfl
  try simp only [Act.put, List.setIfInBounds_toArray, List.set_cons_zero, List.set_cons_succ]
  refine takeH 10 (some 19) ?_ (by rfl) (by kernel_rfl) (by kernel_rfl) (by kernel_rfl) (fun _ _ _ h => h) ?_ hHeld ?_
  rotate_left
  · intro o ho
    simp only [List.getElem?_toArray, List.getElem?_cons_succ, List.getElem?_cons_zero, Option.some.injEq] at ho
    subst ho
    refine ⟨by rfl, fun w hSw => ?_⟩
    try dsimp only at hSw
    go_simp
    try with_reducible rfl
  try simp only [Act.put, List.setIfInBounds_toArray, List.set_cons_zero, List.set_cons_succ]
  refine takeH 11 (some 20) ?_ (by rfl) (by kernel_rfl) (by kernel_rfl) (by kernel_rfl) (fun _ _ _ h => h) ?_ hHeld ?_
  rotate_left
  · intro o ho
    simp only [List.getElem?_toArray, List.getElem?_cons_succ, List.getElem?_cons_zero, Option.some.injEq] at ho
    subst ho
    refine ⟨by rfl, fun w hSw => ?_⟩
    try dsimp only at hSw
    go_simp
    try with_reducible rfl
  try simp only [Act.put, List.setIfInBounds_toArray, List.set_cons_zero, List.set_cons_succ]
  refine takeH 12 (some 21) ?_ (by rfl) (by kernel_rfl) (by kernel_rfl) (by kernel_rfl) (fun _ _ _ h => h) ?_ hHeld ?_
  rotate_left
  · intro o ho
    simp only [List.getElem?_toArray, List.getElem?_cons_succ, List.getElem?_cons_zero, Option.some.injEq] at ho
    subst ho
    refine ⟨by rfl, fun w hSw => ?_⟩
    try dsimp only at hSw
    go_simp
    try with_reducible rfl
  try simp only [Act.put, List.setIfInBounds_toArray, List.set_cons_zero, List.set_cons_succ]
  refine takeH 13 (some 22) ?_ (by rfl) (by kernel_rfl) (by kernel_rfl) (by kernel_rfl) (fun _ _ _ h => h) ?_ hHeld ?_
  rotate_left
  · intro o ho
    simp only [List.getElem?_toArray, List.getElem?_cons_succ, List.getElem?_cons_zero, Option.some.injEq] at ho
    subst ho
    refine ⟨by rfl, fun w hSw => ?_⟩
    try dsimp only at hSw
    go_simp
    try with_reducible rfl
  try simp only [Act.put, List.setIfInBounds_toArray, List.set_cons_zero, List.set_cons_succ]
  refine takeH 14 (some 23) ?_ (by rfl) (by kernel_rfl) (by kernel_rfl) (by kernel_rfl) (fun _ _ _ h => h) ?_ hHeld ?_
  rotate_left
  · intro o ho
    simp only [List.getElem?_toArray, List.getElem?_cons_succ, List.getElem?_cons_zero, Option.some.injEq] at ho
    subst ho
    refine ⟨by rfl, fun w hSw => ?_⟩
    try dsimp only at hSw
    go_simp
    try with_reducible rfl
  try simp only [Act.put, List.setIfInBounds_toArray, List.set_cons_zero, List.set_cons_succ]
  refine takeH 15 (some 24) ?_ (by rfl) (by kernel_rfl) (by kernel_rfl) (by kernel_rfl) (fun _ _ _ h => h) ?_ hHeld ?_
  rotate_left
  · intro o ho
    simp only [List.getElem?_toArray, List.getElem?_cons_succ, List.getElem?_cons_zero, Option.some.injEq] at ho
    subst ho
    refine ⟨by rfl, fun w hSw => ?_⟩
    try dsimp only at hSw
    go_simp
    try with_reducible rfl
  try simp only [Act.put, List.setIfInBounds_toArray, List.set_cons_zero, List.set_cons_succ]
  refine takeH 16 (some 25) ?_ (by rfl) (by kernel_rfl) (by kernel_rfl) (by kernel_rfl) (fun _ _ _ h => h) ?_ hHeld ?_
  rotate_left
  · intro o ho
    simp only [List.getElem?_toArray, List.getElem?_cons_succ, List.getElem?_cons_zero, Option.some.injEq] at ho
    subst ho
    refine ⟨by rfl, fun w hSw => ?_⟩
    try dsimp only at hSw
    go_simp
    try with_reducible rfl
  try simp only [Act.put, List.setIfInBounds_toArray, List.set_cons_zero, List.set_cons_succ]
  refine takeH 17 (some 26) ?_ (by rfl) (by kernel_rfl) (by kernel_rfl) (by kernel_rfl) (fun _ _ _ h => h) ?_ hHeld ?_
  rotate_left
  · intro o ho
    simp only [List.getElem?_toArray, List.getElem?_cons_succ, List.getElem?_cons_zero, Option.some.injEq] at ho
    subst ho
    refine ⟨by rfl, fun w hSw => ?_⟩
    try dsimp only at hSw
    go_simp
    try with_reducible rfl
  try simp only [Act.put, List.setIfInBounds_toArray, List.set_cons_zero, List.set_cons_succ]
  refine takeH 18 (some 27) ?_ (by rfl) (by kernel_rfl) (by kernel_rfl) (by kernel_rfl) (fun _ _ _ h => h) ?_ hHeld ?_
  rotate_left
  · intro o ho
    simp only [List.getElem?_toArray, List.getElem?_cons_succ, List.getElem?_cons_zero, Option.some.injEq] at ho
    subst ho
    refine ⟨by rfl, fun w hSw => ?_⟩
    try dsimp only at hSw
    go_simp
    try with_reducible rfl
  try simp only [Act.put, List.setIfInBounds_toArray, List.set_cons_zero, List.set_cons_succ]
  refine wpAnyH_done (by kernel_rfl) ?_ _
  go_wp2
  go_ret
  exact ⟨rfl, (Below.refl _ _).drew⟩
set_option maxHeartbeats 4000000 in
theorem rappend_calls (b r : Nat) (qF : Option Nat) (AF : Option Addr) (cF nF : Nat) (lF : List Int) (qL : Option Nat) (AL : Option Addr) (cL nL : Nat) (lL : List Int) (most : Int) (X : Option Addr) (cx m : Nat) (ys : List Int) (w : World) (h : RefAt w b r qF AF cF nF lF qL AL cL nL lL most false) (hY : Bs w X cx ys) (hlen : ys.length = m) (hl : nF + nL + m ≤ 140737488355328) (hm : ¬ most < (nF : Int) + nL + m) (hb : b ≤ w.heap.size) :
    Calls Try.prog 16 #[.pointer (some ⟨r, 0, none⟩), .slice X m cx] w fun e w' => e = .returned (.int .i64 0) ∧ ∃ A' c' q', RefAt w' b r qF AF cF nF lF q' A' c' (nL + m) (lL ++ ys) most false ∧ Did b w w' r qL ∧ (q' = qL ∨ ∃ k, q' = some k ∧ w.heap.size ≤ k) := by
  obtain ⟨y0, y1, y2, y3⟩ := h.cells
  have hw1 : IntKind.i64.wrap ((nF : Int) + (nL : Int)) = (nF : Int) + nL := wrap_in (by omega) (by omega)
  have hw2 : IntKind.i64.wrap ((nF : Int) + (nL : Int) + (m : Int)) = (nF : Int) + nL + m := wrap_in (by omega) (by omega)
  have HH := Aside0.mk h
  have HY := Aside0.mk hY
  have HM := Aside0.mk hlen
  clear h hY hlen
  go_enter Try.func16, Try.ntmps16
  go_wp2_with fail
  refine wp_region_held_drew (S := fun w' => w'.cell? ⟨r, 0, none⟩ = some (.int .i64 most) ∧ w'.cell? ⟨r, 1, none⟩ = some (.slice AF nF cF) ∧ w'.cell? ⟨r, 2, none⟩ = some (.slice AL nL cL)) (by kernel_rfl) ?_ (fun hHeld => ?_)
  · exact ⟨y0, y1, y2⟩
  refine takeH 0 (some 9) ?_ (by rfl) (by kernel_rfl) (by kernel_rfl) (by kernel_rfl) (fun _ _ _ h => h) ?_ hHeld ?_
  rotate_left
  · intro o ho
    simp only [List.getElem?_toArray, List.getElem?_cons_zero, Option.some.injEq] at ho
    subst ho
    refine ⟨by rfl, fun w hSw => ?_⟩
    try dsimp only at hSw
    go_simp
    try with_reducible rfl
  try simp only [Act.put, List.setIfInBounds_toArray, List.set_cons_zero, List.set_cons_succ]
  refine takeH 1 (some 10) ?_ (by rfl) (by kernel_rfl) (by kernel_rfl) (by kernel_rfl) (fun _ _ _ h => h) ?_ hHeld ?_
  rotate_left
  · intro o ho
    simp only [List.getElem?_toArray, List.getElem?_cons_succ, List.getElem?_cons_zero, Option.some.injEq] at ho
    subst ho
    refine ⟨by rfl, fun w hSw => ?_⟩
    try dsimp only at hSw
    go_simp
    try with_reducible rfl
  try simp only [Act.put, List.setIfInBounds_toArray, List.set_cons_zero, List.set_cons_succ]
  refine takeH 2 (some 11) ?_ (by rfl) (by kernel_rfl) (by kernel_rfl) (by kernel_rfl) (fun _ _ _ h => h) ?_ hHeld ?_
  rotate_left
  · intro o ho
    simp only [List.getElem?_toArray, List.getElem?_cons_succ, List.getElem?_cons_zero, Option.some.injEq] at ho
    subst ho
    refine ⟨by rfl, fun w hSw => ?_⟩
    try dsimp only at hSw
    go_simp
    try with_reducible rfl
  try simp only [Act.put, List.setIfInBounds_toArray, List.set_cons_zero, List.set_cons_succ]
  refine takeH 3 (some 12) ?_ (by rfl) (by kernel_rfl) (by kernel_rfl) (by kernel_rfl) (fun _ _ _ h => h) ?_ hHeld ?_
  rotate_left
  · intro o ho
    simp only [List.getElem?_toArray, List.getElem?_cons_succ, List.getElem?_cons_zero, Option.some.injEq] at ho
    subst ho
    refine ⟨by rfl, fun w hSw => ?_⟩
    try dsimp only at hSw
    go_simp
    try with_reducible rfl
  try simp only [Act.put, List.setIfInBounds_toArray, List.set_cons_zero, List.set_cons_succ]
  refine takeH 4 (some 13) ?_ (by rfl) (by kernel_rfl) (by kernel_rfl) (by kernel_rfl) (fun _ _ _ h => h) ?_ hHeld ?_
  rotate_left
  · intro o ho
    simp only [List.getElem?_toArray, List.getElem?_cons_succ, List.getElem?_cons_zero, Option.some.injEq] at ho
    subst ho
    refine ⟨by rfl, fun w hSw => ?_⟩
    try dsimp only at hSw
    go_simp
    try with_reducible rfl
  try simp only [Act.put, List.setIfInBounds_toArray, List.set_cons_zero, List.set_cons_succ]
  refine takeH 5 (some 14) ?_ (by rfl) (by kernel_rfl) (by kernel_rfl) (by kernel_rfl) (fun _ _ _ h => h) ?_ hHeld ?_
  rotate_left
  · intro o ho
    simp only [List.getElem?_toArray, List.getElem?_cons_succ, List.getElem?_cons_zero, Option.some.injEq] at ho
    subst ho
    refine ⟨by rfl, fun w hSw => ?_⟩
    try dsimp only at hSw
    go_simp
    try with_reducible rfl
  try simp only [Act.put, List.setIfInBounds_toArray, List.set_cons_zero, List.set_cons_succ]
  refine takeH 6 (some 15) ?_ (by rfl) (by kernel_rfl) (by kernel_rfl) (by kernel_rfl) (fun _ _ _ h => h) ?_ hHeld ?_
  rotate_left
  · intro o ho
    simp only [List.getElem?_toArray, List.getElem?_cons_succ, List.getElem?_cons_zero, Option.some.injEq] at ho
    subst ho
    refine ⟨by rfl, fun w hSw => ?_⟩
    try dsimp only at hSw
    go_simp
    try with_reducible rfl
  try simp only [Act.put, List.setIfInBounds_toArray, List.set_cons_zero, List.set_cons_succ]
  refine takeH 7 (some 16) ?_ (by rfl) (by kernel_rfl) (by kernel_rfl) (by kernel_rfl) (fun _ _ _ h => h) ?_ hHeld ?_
  rotate_left
  · intro o ho
    simp only [List.getElem?_toArray, List.getElem?_cons_succ, List.getElem?_cons_zero, Option.some.injEq] at ho
    subst ho
    refine ⟨by rfl, fun w hSw => ?_⟩
    try dsimp only at hSw
    go_simp
    try with_reducible rfl
  try simp only [Act.put, List.setIfInBounds_toArray, List.set_cons_zero, List.set_cons_succ]
  refine takeH 8 (some 17) ?_ (by rfl) (by kernel_rfl) (by kernel_rfl) (by kernel_rfl) (fun _ _ _ h => h) ?_ hHeld ?_
  rotate_left
  · intro o ho
    simp only [List.getElem?_toArray, List.getElem?_cons_succ, List.getElem?_cons_zero, Option.some.injEq] at ho
    subst ho
    refine ⟨by rfl, fun w hSw => ?_⟩
    try dsimp only at hSw
    go_simp
    try with_reducible rfl
  try simp only [Act.put, List.setIfInBounds_toArray, List.set_cons_zero, List.set_cons_succ]
  refine takeH 9 (some 18) ?_ (by rfl) (by kernel_rfl) (by kernel_rfl) (by kernel_rfl) (fun _ _ _ h => h) ?_ hHeld ?_
  rotate_left
  · intro o ho
    simp only [List.getElem?_toArray, List.getElem?_cons_succ, List.getElem?_cons_zero, Option.some.injEq] at ho
    subst ho
    refine ⟨by rfl, fun w hSw => ?_⟩
    try dsimp only at hSw
    go_simp
    try with_reducible rfl
  try simp only [Act.put, List.setIfInBounds_toArray, List.set_cons_zero, List.set_cons_succ]
  refine takeH 10 (some 19) ?_ (by rfl) (by kernel_rfl) (by kernel_rfl) (by kernel_rfl) (fun _ _ _ h => h) ?_ hHeld ?_
  rotate_left
  · intro o ho
    simp only [List.getElem?_toArray, List.getElem?_cons_succ, List.getElem?_cons_zero, Option.some.injEq] at ho
    subst ho
    refine ⟨by rfl, fun w hSw => ?_⟩
    try dsimp only at hSw
    go_simp
    try with_reducible rfl
  try simp only [Act.put, List.setIfInBounds_toArray, List.set_cons_zero, List.set_cons_succ]
  refine takeH 11 (some 20) ?_ (by rfl) (by kernel_rfl) (by kernel_rfl) (by kernel_rfl) (fun _ _ _ h => h) ?_ hHeld ?_
  rotate_left
  · intro o ho
    simp only [List.getElem?_toArray, List.getElem?_cons_succ, List.getElem?_cons_zero, Option.some.injEq] at ho
    subst ho
    refine ⟨by rfl, fun w hSw => ?_⟩
    try dsimp only at hSw
    go_simp
    try with_reducible rfl
  try simp only [Act.put, List.setIfInBounds_toArray, List.set_cons_zero, List.set_cons_succ]
  refine takeH 12 (some 21) ?_ (by rfl) (by kernel_rfl) (by kernel_rfl) (by kernel_rfl) (fun _ _ _ h => h) ?_ hHeld ?_
  rotate_left
  · intro o ho
    simp only [List.getElem?_toArray, List.getElem?_cons_succ, List.getElem?_cons_zero, Option.some.injEq] at ho
    subst ho
    refine ⟨by rfl, fun w hSw => ?_⟩
    try dsimp only at hSw
    go_simp
    try with_reducible rfl
  try simp only [Act.put, List.setIfInBounds_toArray, List.set_cons_zero, List.set_cons_succ]
  refine takeH 13 (some 22) ?_ (by rfl) (by kernel_rfl) (by kernel_rfl) (by kernel_rfl) (fun _ _ _ h => h) ?_ hHeld ?_
  rotate_left
  · intro o ho
    simp only [List.getElem?_toArray, List.getElem?_cons_succ, List.getElem?_cons_zero, Option.some.injEq] at ho
    subst ho
    refine ⟨by rfl, fun w hSw => ?_⟩
    try dsimp only at hSw
    go_simp
    try with_reducible rfl
  try simp only [Act.put, List.setIfInBounds_toArray, List.set_cons_zero, List.set_cons_succ]
  refine takeH 14 (some 23) ?_ (by rfl) (by kernel_rfl) (by kernel_rfl) (by kernel_rfl) (fun _ _ _ h => h) ?_ hHeld ?_
  rotate_left
  · intro o ho
    simp only [List.getElem?_toArray, List.getElem?_cons_succ, List.getElem?_cons_zero, Option.some.injEq] at ho
    subst ho
    refine ⟨by rfl, fun w hSw => ?_⟩
    try dsimp only at hSw
    go_simp
    try with_reducible rfl
  try simp only [Act.put, List.setIfInBounds_toArray, List.set_cons_zero, List.set_cons_succ]
  refine takeH 15 (some 24) ?_ (by rfl) (by kernel_rfl) (by kernel_rfl) (by kernel_rfl) (fun _ _ _ h => h) ?_ hHeld ?_
  rotate_left
  · intro o ho
    simp only [List.getElem?_toArray, List.getElem?_cons_succ, List.getElem?_cons_zero, Option.some.injEq] at ho
    subst ho
    refine ⟨by rfl, fun w hSw => ?_⟩
    try dsimp only at hSw
    go_simp
    try with_reducible rfl
  try simp only [Act.put, List.setIfInBounds_toArray, List.set_cons_zero, List.set_cons_succ]
  refine takeH 16 (some 25) ?_ (by rfl) (by kernel_rfl) (by kernel_rfl) (by kernel_rfl) (fun _ _ _ h => h) ?_ hHeld ?_
  rotate_left
  · intro o ho
    simp only [List.getElem?_toArray, List.getElem?_cons_succ, List.getElem?_cons_zero, Option.some.injEq] at ho
    subst ho
    refine ⟨by rfl, fun w hSw => ?_⟩
    try dsimp only at hSw
    go_simp
    try with_reducible rfl
  try simp only [Act.put, List.setIfInBounds_toArray, List.set_cons_zero, List.set_cons_succ]
  refine takeH 17 (some 26) ?_ (by rfl) (by kernel_rfl) (by kernel_rfl) (by kernel_rfl) (fun _ _ _ h => h) ?_ hHeld ?_
  rotate_left
  · intro o ho
    simp only [List.getElem?_toArray, List.getElem?_cons_succ, List.getElem?_cons_zero, Option.some.injEq] at ho
    subst ho
    refine ⟨by rfl, fun w hSw => ?_⟩
    try dsimp only at hSw
    go_simp
    try with_reducible rfl
  try simp only [Act.put, List.setIfInBounds_toArray, List.set_cons_zero, List.set_cons_succ]
  refine takeH 18 (some 27) ?_ (by rfl) (by kernel_rfl) (by kernel_rfl) (by kernel_rfl) (fun _ _ _ h => h) ?_ hHeld ?_
  rotate_left
  · intro o ho
    simp only [List.getElem?_toArray, List.getElem?_cons_succ, List.getElem?_cons_zero, Option.some.injEq] at ho
    subst ho
    refine ⟨by rfl, fun w hSw => ?_⟩
    try dsimp only at hSw
    go_simp
    try with_reducible rfl
  try simp only [Act.put, List.setIfInBounds_toArray, List.set_cons_zero, List.set_cons_succ]
  refine wpAnyH_done (by kernel_rfl) ?_ _
  go_upto_region 5 with fail
  obtain ⟨w1, hw1'⟩ : ∃ w1, w.drew = w1 := ⟨_, rfl⟩
  have H1 := Aside0.mk (show RefAt w1 b r qF AF cF nF lF qL AL cL nL lL most false from hw1' ▸ HH.out.below (Below.refl _ _).drew)
  have HY1 := Aside0.mk (show Bs w1 X cx ys from hw1' ▸ HY.out.below (Below.refl _ _).drew)
  have B1 := Aside0.mk (show Below w.heap.size w w1 from hw1' ▸ (Below.refl _ _).drew)
  have S1 : w1.heap.size = w.heap.size := by rw [← hw1']; rfl
  rw [hw1']
  clear hw1' hHeld y0 y1 y2 y3 hw1 hw2
  obtain ⟨-, -, y2, -⟩ := H1.out.cells
  go_wp2_with (at_builtin; refine wpList_append_Row (b := b) (q := qL) (l := lL) rfl _ _ rfl X m cx ys rfl rfl ?c1 ?c2 ?c3 ?c4 ?c5 ?c6 ?_)
  case c1 => exact H1.out.lenL
  case c2 => exact H1.out.rowL
  case c3 => have := HY1.out.reads; rw [HM.out] at this; exact this
  case c4 => exact HY1.out.byte
  case c5 => omega
  case c6 => omega
  intro A' c' q' W' hr hg hq
  have hblk := (hg.block r H1.out.lt (fun e => H1.out.apL e.symm)).trans H1.out.blk
  have z2 : W'.cell? ⟨r, 2, none⟩ = some (.slice AL nL cL) := by simp [World.cell?, hblk]
  have f2 : W'.frozen? ⟨r, 2, none⟩ = false := by simp [World.frozen?, hblk]
  have hqr : q' ≠ some r := by
    rcases hq with rfl | ⟨k, rfl, hk⟩
    · exact H1.out.apL
    · intro e; cases e; have := H1.out.lt; omega
  have HB : Below b w1 W' := (Below.refl _ _).grown hg (by omega) (fun k hk => (H1.out.rowL.size k hk).1)
  have hapt : ∀ k, qF = some k → q' ≠ some k := by
    intro k hk
    rcases hq with rfl | ⟨j, rfl, hj⟩
    · exact H1.out.apt k hk
    · intro e; cases e; have := (H1.out.rowF.size k hk).2; omega
  have F := Aside0.mk (show RefAt (W'.setCell ⟨r, 2, none⟩ (.slice A' (nL + m) c')) b r qF AF cF nF lF q' A' c' (nL + m) (lL ++ ys) most false from
    ⟨refput 2 _ hblk, H1.out.own, H1.out.lenF, by rw [List.length_append, H1.out.lenL, HM.out], (H1.out.rowF.grown hg (fun k hk e => H1.out.apt k hk e.symm)).set _ H1.out.apF _, hr.set _ hqr _, H1.out.apF, hqr, hapt⟩)
  have D := Aside0.mk (show Did b w (W'.setCell ⟨r, 2, none⟩ (.slice A' (nL + m) c')) r qL from
    ⟨(B1.out.mono (by omega)).trans (HB.setCell (p := ⟨r, 2, none⟩) H1.out.own _), fun k hk h1 h2 => (Below.heap_setCell _ _ _ k h1).trans ((hg.block k (by omega) h2).trans (B1.out.block k hk))⟩)
  have Q := Aside0.mk hq
  clear hr hg hq hblk hqr HB hapt
  go_wp2
  go_ret
  exact ⟨rfl, A', c', q', F.out, D.out, by first | exact Q.out | (rw [← S1]; exact Q.out)⟩

theorem rflush_crashed (b r : Nat) (qF : Option Nat) (AF : Option Addr) (cF nF : Nat) (lF : List Int) (qL : Option Nat) (AL : Option Addr) (cL nL : Nat) (lL : List Int) (most : Int) (w : World) (h : RefAt w b r qF AF cF nF lF qL AL cL nL lL most true) :
    Calls Try.prog 17 #[.pointer (some ⟨r, 0, none⟩)] w fun e w' => e = .returned (.int .i64 25) ∧ w = w' := by
  obtain ⟨-, -, -, y3⟩ := h.cells
  clear h
  go_enter Try.func17, Try.ntmps17
  go_wp2
  go_ret
  simp
set_option maxHeartbeats 4000000 in
theorem rflush_calls (b r : Nat) (qF : Option Nat) (AF : Option Addr) (cF nF : Nat) (lF : List Int) (qL : Option Nat) (AL : Option Addr) (cL nL : Nat) (lL : List Int) (most : Int) (n : Nat) (hn : nF + nL = n) (hl : n ≤ 140737488355328) (w : World) (h : RefAt w b r qF AF cF nF lF qL AL cL nL lL most false) (hb : b ≤ w.heap.size) :
    Calls Try.prog 17 #[.pointer (some ⟨r, 0, none⟩)] w fun e w' => e = .returned (.int .i64 0) ∧ ∃ A' c' q', RefAt w' b r q' A' c' n (lF ++ lL) none none 0 0 [] most false ∧ Did b w w' r none ∧ (∀ k, q' = some k → w.heap.size ≤ k) := by
  obtain ⟨-, -, -, y3⟩ := h.cells
  have HH := Aside0.mk h
  clear h
  go_enter Try.func17, Try.ntmps17
  go_wp2_with fail
  refine (all_calls b r qF AF cF nF lF qL AL cL nL lL most false n hn hl w HH.out).mono ?_
  rintro e w1 ⟨A', c', q', rfl, hr, hb1⟩
  have H1 := HH.out.below hb1
  have hrs := fun k hk => hr.size k hk
  have hqr : q' ≠ some r := fun e => by have := (hrs _ e).1; have := HH.out.lt; omega
  have hrb : Row w1 b q' A' c' (lF ++ lL) := hr.weaken hb
  have F := Aside0.mk (show RefAt ((w1.setCell ⟨r, 1, none⟩ (.slice A' n c')).setCell ⟨r, 2, none⟩ (.slice none 0 0)) b r q' A' c' n (lF ++ lL) none none 0 0 [] most false from
    ⟨refput 2 _ (refput 1 _ H1.blk), H1.own, by rw [List.length_append, H1.lenF, H1.lenL, hn], rfl, (hrb.set _ hqr _).set _ hqr _, Row.nil _ _, hqr, by simp, by simp⟩)
  have D := Aside0.mk (show Did b w ((w1.setCell ⟨r, 1, none⟩ (.slice A' n c')).setCell ⟨r, 2, none⟩ (.slice none 0 0)) r none from
    ⟨((hb1.mono hb).setCell (p := ⟨r, 1, none⟩) H1.own _).setCell (p := ⟨r, 2, none⟩) H1.own _, fun k hk h1 h2 => (Below.heap_setCell _ _ _ k h1).trans ((Below.heap_setCell _ _ _ k h1).trans (hb1.block k hk))⟩)
  have Q := Aside0.mk (show ∀ k, q' = some k → w.heap.size ≤ k from fun k hk => (hrs k hk).1)
  obtain ⟨-, y1, y2, -⟩ := H1.cells
  obtain ⟨f1, f2, -⟩ := H1.free
  clear hr hb1 H1 hrs hqr hrb y3
  go_wp2
  go_ret
  exact ⟨rfl, A', c', q', F.out, D.out, Q.out⟩

set_option maxHeartbeats 4000000 in
theorem ropen_calls (b r : Nat) (qF : Option Nat) (AF : Option Addr) (cF nF : Nat) (lF : List Int) (qL : Option Nat) (AL : Option Addr) (cL nL : Nat) (lL : List Int) (most : Int) (cr : Bool) (n : Nat) (hn : nF + nL = n) (hl : n ≤ 140737488355328) (w : World) (h : RefAt w b r qF AF cF nF lF qL AL cL nL lL most cr) (hb : b ≤ w.heap.size) :
    Calls Try.prog 22 #[.pointer (some ⟨r, 0, none⟩)] w fun e w' => ∃ r' A' c' q', e = .returned (.pointer (some ⟨r', 0, none⟩)) ∧ RefAt w' b r' q' A' c' n (lF ++ lL) none none 0 0 [] most false ∧ w.heap.size ≤ r' ∧ (∀ k, q' = some k → w.heap.size ≤ k) ∧ Below w.heap.size w w' := by
  obtain ⟨y0, -, -, -⟩ := h.cells
  have HH := Aside0.mk h
  have HN := Aside0.mk hn
  clear h hn
  go_enter Try.func22, Try.ntmps22
  go_wp2_with fail
  refine wp_region_held_drew (S := fun w' => w'.cell? ⟨r, 0, none⟩ = some (.int .i64 most)) (by kernel_rfl) ?_ (fun hHeld => ?_)
  · exact y0
  refine takeH 0 (some 3) ?_ (by rfl) (by kernel_rfl) (by kernel_rfl) (by kernel_rfl) (fun _ _ _ h => h) ?_ hHeld ?_
  rotate_left
  · intro o ho
    simp only [List.getElem?_toArray, List.getElem?_cons_zero, Option.some.injEq] at ho
    subst ho
    refine ⟨by rfl, fun w hSw => ?_⟩
    try dsimp only at hSw
    go_simp
    try with_reducible rfl
  try simp only [Act.put, List.setIfInBounds_toArray, List.set_cons_zero, List.set_cons_succ]
  refine takeH 1 (some 4) ?_ (by rfl) (by kernel_rfl) (by kernel_rfl) (by kernel_rfl) (fun _ _ _ h => h) ?_ hHeld ?_
  rotate_left
  · intro o ho
    simp only [List.getElem?_toArray, List.getElem?_cons_succ, List.getElem?_cons_zero, Option.some.injEq] at ho
    subst ho
    refine ⟨by rfl, fun w hSw => ?_⟩
    try dsimp only at hSw
    go_simp
    try with_reducible rfl
  try simp only [Act.put, List.setIfInBounds_toArray, List.set_cons_zero, List.set_cons_succ]
  refine takeH 2 (some 5) ?_ (by rfl) (by kernel_rfl) (by kernel_rfl) (by kernel_rfl) (fun _ _ _ h => h) ?_ hHeld ?_
  rotate_left
  · intro o ho
    simp only [List.getElem?_toArray, List.getElem?_cons_succ, List.getElem?_cons_zero, Option.some.injEq] at ho
    subst ho
    refine ⟨by rfl, fun w hSw => ?_⟩
    try dsimp only at hSw
    go_simp
    try with_reducible rfl
  try simp only [Act.put, List.setIfInBounds_toArray, List.set_cons_zero, List.set_cons_succ]
  refine takeH 3 (some 6) ?_ (by rfl) (by kernel_rfl) (by kernel_rfl) (by kernel_rfl) (fun _ _ _ h => h) ?_ hHeld ?_
  rotate_left
  · intro o ho
    simp only [List.getElem?_toArray, List.getElem?_cons_succ, List.getElem?_cons_zero, Option.some.injEq] at ho
    subst ho
    refine ⟨by rfl, fun w hSw => ?_⟩
    try dsimp only at hSw
    go_simp
    try with_reducible rfl
  try simp only [Act.put, List.setIfInBounds_toArray, List.set_cons_zero, List.set_cons_succ]
  refine takeH 4 (some 7) ?_ (by rfl) (by kernel_rfl) (by kernel_rfl) (by kernel_rfl) (fun _ _ _ h => h) ?_ hHeld ?_
  rotate_left
  · intro o ho
    simp only [List.getElem?_toArray, List.getElem?_cons_succ, List.getElem?_cons_zero, Option.some.injEq] at ho
    subst ho
    refine ⟨by rfl, fun w hSw => ?_⟩
    try dsimp only at hSw
    go_simp
    try with_reducible rfl
  try simp only [Act.put, List.setIfInBounds_toArray, List.set_cons_zero, List.set_cons_succ]
  refine oneH 5 (by kernel_rfl) (by rfl) (fun o ho K hK => ?_)
  simp only [List.getElem?_toArray, List.getElem?_cons_succ, List.getElem?_cons_zero, Option.some.injEq] at ho
  subst ho
  go_simp
  refine (all_calls b r qF AF cF nF lF qL AL cL nL lL most cr n HN.out hl w.drew (HH.out.below (Below.refl _ _).drew)).mono ?_
  rintro e w1 ⟨A1, c1, q1, rfl, r1, b1'⟩
  have b1 := nodrew b1'
  try go_wp2_with fail
  refine hK.out _ _ ?_ (fun hHeld2 => ?_)
  · exact cb b1 y0
  clear hK K hHeld
  rename _ => hHeld
  try simp only [Act.put, List.setIfInBounds_toArray, List.set_cons_zero, List.set_cons_succ]
  refine takeH 6 (some 9) ?_ (by rfl) (by kernel_rfl) (by kernel_rfl) (by kernel_rfl) (fun _ _ _ h => h) ?_ hHeld ?_
  rotate_left
  · intro o ho
    simp only [List.getElem?_toArray, List.getElem?_cons_succ, List.getElem?_cons_zero, Option.some.injEq] at ho
    subst ho
    refine ⟨by rfl, fun w hSw => ?_⟩
    try dsimp only at hSw
    go_simp
    try with_reducible rfl
  try simp only [Act.put, List.setIfInBounds_toArray, List.set_cons_zero, List.set_cons_succ]
  refine oneH 7 (by kernel_rfl) (by rfl) (fun o ho K hK => ?_)
  simp only [List.getElem?_toArray, List.getElem?_cons_succ, List.getElem?_cons_zero, Option.some.injEq] at ho
  subst ho
  go_simp
  obtain ⟨w2, hw2⟩ : ∃ w2, w1.alloc (.cells #[.int .i64 most, .slice A1 n c1, .slice none 0 0, .bool false] 39) = w2 := ⟨_, rfl⟩
  rw [hw2]
  have g2 := grow hw2
  refine hK.out _ _ ?_ (fun hHeld2 => ?_)
  · exact cb (below_step b1 g2) y0
  clear hK K hHeld
  rename _ => hHeld
  try simp only [Act.put, List.setIfInBounds_toArray, List.set_cons_zero, List.set_cons_succ]
  refine takeH 8 (some 2) ?_ (by rfl) (by kernel_rfl) (by kernel_rfl) (by kernel_rfl) (fun _ _ _ h => h) ?_ hHeld ?_
  rotate_left
  · intro o ho
    simp only [List.getElem?_toArray, List.getElem?_cons_succ, List.getElem?_cons_zero, Option.some.injEq] at ho
    subst ho
    refine ⟨by rfl, fun w hSw => ?_⟩
    try dsimp only at hSw
    go_simp
    try with_reducible rfl
  try simp only [Act.put, List.setIfInBounds_toArray, List.set_cons_zero, List.set_cons_succ]
  refine wpAnyH_done (by kernel_rfl) ?_ _
  go_wp2
  go_ret
  have hs := b1.size
  have hq := fun k hk => (r1.size k hk)
  have hs0 : w.drew.heap.size = w.heap.size := rfl
  refine ⟨_, A1, c1, q1, rfl, ⟨hw2 ▸ heap_alloc_new w1 _, by omega, by rw [List.length_append, HH.out.lenF, HH.out.lenL, HN.out], rfl, (r1.below g2).weaken (by omega), Row.nil _ _, ?_, by simp, by simp⟩, hs, fun k hk => (hq k hk).1, below_step b1 g2⟩
  intro e
  have := (hq _ e).2
  omega
end Go.Proofs.Ytfbpfogmnaahpaa
