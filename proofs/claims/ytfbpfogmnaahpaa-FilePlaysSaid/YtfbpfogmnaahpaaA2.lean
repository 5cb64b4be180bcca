/-
  Files: a file's block; New, size, check, Len, Sure, Bytes, add.
-/
import Derived.Test.YtfbpfogmnaahpaaA1
namespace Go.Proofs.Ytfbpfogmnaahpaa
open Go.RowKit Go.Proofs.YtfbpfogmnaahpaaW.PrintWords

/-- A file: its block p, its bytes' block q. -/
structure FileAt (W : World) (b p : Nat) (q : Option Nat) (A : Option Addr) (c n : Nat) (l : List Int) (s : Nat) (most : Int) (cr : Bool) : Prop where
  blk : W.heap[p]? = some (.cells #[.slice A n c, .int .i64 s, .int .i64 most, .bool cr] 56 (0, 0))
  own : b ≤ p
  len : l.length = n
  row : Row W b q A c l
  apart : q ≠ some p
  sure : s ≤ n
  rng : 1 ≤ most ∧ most ≤ 67108864
section
variable {W W' : World} {b p : Nat} {q : Option Nat} {A : Option Addr} {c n : Nat} {l : List Int} {s : Nat} {most : Int} {cr : Bool}
theorem FileAt.cells (h : FileAt W b p q A c n l s most cr) : W.cell? ⟨p, 0, none⟩ = some (.slice A n c) ∧ W.cell? ⟨p, 1, none⟩ = some (.int .i64 s) ∧ W.cell? ⟨p, 2, none⟩ = some (.int .i64 most) ∧ W.cell? ⟨p, 3, none⟩ = some (.bool cr) := by
  simp [World.cell?, h.blk]
theorem FileAt.free (h : FileAt W b p q A c n l s most cr) : W.frozen? ⟨p, 0, none⟩ = false ∧ W.frozen? ⟨p, 1, none⟩ = false ∧ W.frozen? ⟨p, 2, none⟩ = false ∧ W.frozen? ⟨p, 3, none⟩ = false := by
  simp [World.frozen?, h.blk]
theorem FileAt.lt (h : FileAt W b p q A c n l s most cr) : p < W.heap.size := (Array.getElem?_eq_some_iff.1 h.blk).1
theorem FileAt.below (h : FileAt W b p q A c n l s most cr) (hb : Below W.heap.size W W') : FileAt W' b p q A c n l s most cr :=
  ⟨(hb.block p h.lt).trans h.blk, h.own, h.len, h.row.below hb, h.apart, h.sure, h.rng⟩
theorem FileAt.bs (h : FileAt W b p q A c n l s most cr) : Bs W A c l := h.row.bs
theorem FileAt.nlt (h : FileAt W b p q A c n l s most cr) : (n : Int) ≤ 9223372036854775807 := by have := h.row.bs.reads.2.1; have := h.len; omega
end
/-- What a call did to a file: other blocks are as they were. -/
structure Did (b : Nat) (W W' : World) (p : Nat) (q : Option Nat) : Prop where
  below : Below b W W'
  kept : ∀ k, k < W.heap.size → k ≠ p → some k ≠ q → W'.heap[k]? = W.heap[k]?
theorem Did.of {b : Nat} {W W' : World} (h : Below W.heap.size W W') (hb : b ≤ W.heap.size) (p : Nat) (q : Option Nat) : Did b W W' p q := ⟨h.mono hb, fun k hk _ _ => h.block k hk⟩
theorem Row.did {W W' : World} {b : Nat} {q : Option Nat} {A : Option Addr} {c : Nat} {l : List Int} {p2 : Nat} {q2 : Option Nat} (h : Row W b q A c l) (hd : Did b W W' p2 q2) (h1 : q ≠ some p2) (h2 : ∀ k, q = some k → some k ≠ q2) : Row W' b q A c l := by
  refine ⟨h.byte, ?_⟩
  rcases h.lies with h | ⟨g, cur, h3, h4, h5, h6, h7⟩
  · exact .inl h
  · exact .inr ⟨g, cur, h3, h4, h5, (hd.kept g (Array.getElem?_eq_some_iff.1 h6).1 (fun e => h1 (by rw [h3, e])) (h2 g h3)).trans h6, h7⟩
theorem FileAt.did {W W' : World} {b p : Nat} {q : Option Nat} {A : Option Addr} {c n : Nat} {l : List Int} {s : Nat} {most : Int} {cr : Bool} {p2 : Nat} {q2 : Option Nat} (h : FileAt W b p q A c n l s most cr) (hd : Did b W W' p2 q2)
    (hp : p ≠ p2) (hq : some p ≠ q2) (h1 : q ≠ some p2) (h2 : ∀ k, q = some k → some k ≠ q2) : FileAt W' b p q A c n l s most cr :=
  ⟨(hd.kept p h.lt hp hq).trans h.blk, h.own, h.len, h.row.did hd h1 h2, h.apart, h.sure, h.rng⟩

theorem nodrew {W w1 : World} (h : Below W.drew.heap.size W.drew w1) : Below W.heap.size W w1 := below_step (Below.refl _ _).drew h
theorem cb {W w1 : World} (h : Below W.heap.size W w1) {p : Addr} {u : Value} (hc : W.cell? p = some u) : w1.cell? p = some u := pw_cell_below h hc
theorem grow {W W' : World} {x : Obj} (h : W.alloc x = W') : Below W.heap.size W W' := h ▸ (Below.refl _ _).alloc (Nat.le_refl _) _

theorem size_calls (p : Nat) (A : Option Addr) (c n : Nat) (w : World) (y0 : w.cell? ⟨p, 0, none⟩ = some (.slice A n c)) :
    Calls Try.prog 27 #[.pointer (some ⟨p, 0, none⟩)] w fun e w' => e = .returned (.int .i64 n) ∧ w = w' := by
  go_enter Try.func27, Try.ntmps27
  go_wp2
  go_ret
  simp
theorem check_calls (p : Nat) (cr : Bool) (z : Int) (hz : z = if cr then 25 else 0) (w : World) (y3 : w.cell? ⟨p, 3, none⟩ = some (.bool cr)) :
    Calls Try.prog 26 #[.pointer (some ⟨p, 0, none⟩)] w fun e w' => e = .returned (.int .i64 z) ∧ w = w' := by
  subst hz
  cases cr
  · go_enter Try.func26, Try.ntmps26
    go_wp2
    go_ret
    simp
  · go_enter Try.func26, Try.ntmps26
    go_wp2
    go_ret
    simp
theorem check_nil (w : World) : Calls Try.prog 26 #[.pointer none] w fun e w' => e = .returned (.int .i64 2) ∧ w = w' := by
  go_enter Try.func26, Try.ntmps26
  go_wp2
  go_ret
  simp
theorem len_calls (p : Nat) (A : Option Addr) (c n : Nat) (w : World) (y0 : w.cell? ⟨p, 0, none⟩ = some (.slice A n c)) :
    Calls Try.prog 24 #[.pointer (some ⟨p, 0, none⟩)] w fun e w' => e = .returned (.int .i64 n) ∧ w = w' := by
  go_enter Try.func24, Try.ntmps24
  go_wp2_with fail
  refine (size_calls p A c n w y0).mono ?_
  rintro e w' ⟨rfl, rfl⟩
  go_wp2
  go_ret
  simp
theorem len_nil (w : World) : Calls Try.prog 24 #[.pointer none] w fun e w' => e = .returned (.int .i64 0) ∧ w = w' := by
  go_enter Try.func24, Try.ntmps24
  go_wp2
  go_ret
  simp
theorem sure_calls (p : Nat) (s : Int) (w : World) (y1 : w.cell? ⟨p, 1, none⟩ = some (.int .i64 s)) :
    Calls Try.prog 25 #[.pointer (some ⟨p, 0, none⟩)] w fun e w' => e = .returned (.int .i64 s) ∧ w = w' := by
  go_enter Try.func25, Try.ntmps25
  go_wp2
  go_ret
  simp
theorem sure_nil (w : World) : Calls Try.prog 25 #[.pointer none] w fun e w' => e = .returned (.int .i64 0) ∧ w = w' := by
  go_enter Try.func25, Try.ntmps25
  go_wp2
  go_ret
  simp
theorem bytes_calls (p : Nat) (A : Option Addr) (c n : Nat) (l : List Int) (hn : l.length = n) (hl : n ≤ 140737488355328) (w : World) (y0 : w.cell? ⟨p, 0, none⟩ = some (.slice A n c)) (h : Bs w A c l) :
    Calls Try.prog 13 #[.pointer (some ⟨p, 0, none⟩)] w fun e w' => ∃ A' c' q', e = .returned (.slice A' n c') ∧ Row w' w.heap.size q' A' c' l ∧ Below w.heap.size w w' := by
  have H := Aside0.mk h
  clear h
  go_enter Try.func13, Try.ntmps13
  go_wp2_with fail
  refine (clone_calls A c n l hn w H.out hl).mono ?_
  rintro e w' ⟨A', c', q', rfl, hr, hb⟩
  have HR := Aside0.mk hr
  have HB := Aside0.mk hb
  clear hr hb
  go_wp2
  go_ret
  exact ⟨A', c', q', rfl, HR.out, HB.out⟩
theorem bytes_nil (w : World) : Calls Try.prog 13 #[.pointer none] w fun e w' => e = .returned (.slice none 0 0) ∧ w = w' := by
  go_enter Try.func13, Try.ntmps13
  go_wp2
  go_ret
  simp
theorem new_calls (most : Int) (h1 : 1 ≤ most) (h2 : most ≤ 67108864) (b : Nat) (w : World) (hb : b ≤ w.heap.size) :
    Calls Try.prog 9 #[.int .i64 most] w fun e w' => e = .returned (.tuple #[.pointer (some ⟨w.heap.size, 0, none⟩), .int .i64 0]) ∧ FileAt w' b w.heap.size none none 0 0 [] 0 most false ∧ Below w.heap.size w w' := by
  have c1 : ¬ most < 1 := by omega
  have c2 : ¬ 67108864 < most := by omega
  have HB := Aside0.mk hb
  have HR := Aside0.mk (And.intro h1 h2)
  clear h1 h2 hb
  go_enter Try.func9, Try.ntmps9
  go_wp2
  go_ret2
  exact ⟨rfl, ⟨heap_alloc_new w _, HB.out, rfl, Row.nil _ _, by simp, by simp, HR.out⟩, (Below.refl _ _).alloc (Nat.le_refl _) _⟩
theorem new_range (most : Int) (h : most < 1 ∨ 67108864 < most) (w : World) :
    Calls Try.prog 9 #[.int .i64 most] w fun e w' => e = .returned (.tuple #[.pointer none, .int .i64 10]) ∧ w = w' := by
  by_cases c1 : most < 1
  · clear h
    go_enter Try.func9, Try.ntmps9
    go_wp2
    go_ret2
    exact ⟨rfl, rfl⟩
  · have c2 : 67108864 < most := by omega
    clear h
    go_enter Try.func9, Try.ntmps9
    go_wp2
    go_ret2
    exact ⟨rfl, rfl⟩

theorem wpList_append_Row {ops : Array Oper} {rest : List Oper} {o : Oper} {a : Act} {Q : Exit → Act → World → Prop} {W : World} {b : Nat} {q : Option Nat} {A : Option Addr} {c n : Nat} {l : List Int} (hgd : o.guard = none) (s x : Operand)
    (ho : o.op = .call { callee := .builtin .append, args := #[s, x], argTypes := #[22, 22] }) (X : Option Addr) (m cx : Nat) (ys : List Int) (hs : a.eval s = .slice A n c) (hx : a.eval x = .slice X m cx) (hn : l.length = n)
    (h : Row W b q A c l) (hY : ReadsInt W .u8 X m ys) (hyb : ∀ x ∈ ys, 0 ≤ x ∧ x < 256) (hl : n + m ≤ 140737488355328) (hbase : b ≤ W.heap.size)
    (hk : ∀ A' c' q' W', Row W' b q' A' c' (l ++ ys) → W.grownBy W' q → (q' = q ∨ ∃ k, q' = some k ∧ W.heap.size ≤ k) → wpList Try.prog ops Q rest (a.put o.dst (.slice A' (n + m) c')) W') :
    wpList Try.prog ops Q (o :: rest) a W := by
  subst hn
  obtain ⟨A', c', q', W', hr, h1, h2, h3⟩ := run_append_Row h (cx := cx) hY hyb hl hbase o.type
  refine wpList_plain hgd fun K hK => ?_
  unfold Oper.wp execOp
  simp only [ho, resolve, invoke, builtin, Sem.run_bind, Sem.run_pure, Result.andThen_ok, List.map_toArray, List.map_cons, List.map_nil, hs, hx, hr]
  exact hK _ _ (hk A' c' q' W' h1 h2 h3)

theorem FileAt.put0 {W : World} {p : Nat} {v v' : Value} {s : Nat} {most : Int} {cr : Bool} (h : W.heap[p]? = some (.cells #[v, .int .i64 s, .int .i64 most, .bool cr] 56 (0, 0))) : (W.setCell ⟨p, 0, none⟩ v').heap[p]? = some (.cells #[v', .int .i64 s, .int .i64 most, .bool cr] 56 (0, 0)) := by
  obtain ⟨hlt, hk⟩ := Array.getElem?_eq_some_iff.1 h
  show (W.heap.modify p _)[p]? = _
  rw [Array.getElem?_eq_getElem (by rw [Array.size_modify]; exact hlt), Array.getElem_modify_self, hk]
  rfl
theorem FileAt.put1 {W : World} {p : Nat} {v : Value} {s : Int} (x : Value) {most : Int} {cr : Bool} (h : W.heap[p]? = some (.cells #[v, .int .i64 s, .int .i64 most, .bool cr] 56 (0, 0))) : (W.setCell ⟨p, 1, none⟩ x).heap[p]? = some (.cells #[v, x, .int .i64 most, .bool cr] 56 (0, 0)) := by
  obtain ⟨hlt, hk⟩ := Array.getElem?_eq_some_iff.1 h
  show (W.heap.modify p _)[p]? = _
  rw [Array.getElem?_eq_getElem (by rw [Array.size_modify]; exact hlt), Array.getElem_modify_self, hk]
  rfl
theorem FileAt.put3 {W : World} {p : Nat} {v : Value} {s : Int} (x : Value) {most : Int} {cr : Bool} (h : W.heap[p]? = some (.cells #[v, .int .i64 s, .int .i64 most, .bool cr] 56 (0, 0))) : (W.setCell ⟨p, 3, none⟩ x).heap[p]? = some (.cells #[v, .int .i64 s, .int .i64 most, x] 56 (0, 0)) := by
  obtain ⟨hlt, hk⟩ := Array.getElem?_eq_some_iff.1 h
  show (W.heap.modify p _)[p]? = _
  rw [Array.getElem?_eq_getElem (by rw [Array.size_modify]; exact hlt), Array.getElem_modify_self, hk]
  rfl
theorem Row.set {W : World} {b : Nat} {q : Option Nat} {A : Option Addr} {c : Nat} {l : List Int} (h : Row W b q A c l) (p : Addr) (hp : q ≠ some p.block) (v : Value) : Row (W.setCell p v) b q A c l := by
  refine ⟨h.byte, ?_⟩
  rcases h.lies with h | ⟨g, cur, h3, h4, h5, h6, h7⟩
  · exact .inl h
  · exact .inr ⟨g, cur, h3, h4, h5, (Below.heap_setCell _ _ _ g (fun e => hp (by rw [h3, e]))).trans h6, h7⟩

set_option maxHeartbeats 1000000 in
theorem add_calls (b p : Nat) (q : Option Nat) (A : Option Addr) (c n : Nat) (l : List Int) (s : Nat) (most : Int) (cr : Bool) (X : Option Addr) (cx m : Nat) (ys : List Int) (w : World) (h : FileAt w b p q A c n l s most cr)
    (hY : Bs w X cx ys) (hm : ys.length = m) (hl : n + m ≤ 140737488355328) (hb : b ≤ w.heap.size) :
    Calls Try.prog 28 #[.pointer (some ⟨p, 0, none⟩), .slice X m cx] w fun e w' => (∃ v, e = .returned v) ∧ ∃ A' c' q', FileAt w' b p q' A' c' (n + m) (l ++ ys) s most cr ∧ Did b w w' p q ∧ (q' = q ∨ ∃ k, q' = some k ∧ w.heap.size ≤ k) := by
  obtain ⟨y0, -, -, -⟩ := h.cells
  have H := Aside0.mk h
  have HY := Aside0.mk hY
  have HM := Aside0.mk hm
  clear h hY hm
  go_enter Try.func28, Try.ntmps28
  go_wp2_with (at_builtin; refine wpList_append_Row (b := b) (q := q) (l := l) rfl _ _ rfl X m cx ys rfl rfl ?c1 ?c2 ?c3 ?c4 ?c5 ?c6 ?_)
  case c1 => exact H.out.len
  case c2 => exact H.out.row
  case c3 => have := HY.out.reads; rw [HM.out] at this; exact this
  case c4 => exact HY.out.byte
  case c5 => exact hl
  case c6 => exact hb
  intro A' c' q' W' hr hg hq
  have hblk := (hg.block p H.out.lt (fun e => H.out.apart e.symm)).trans H.out.blk
  have z0 : W'.cell? ⟨p, 0, none⟩ = some (.slice A n c) := by simp [World.cell?, hblk]
  have f0 : W'.frozen? ⟨p, 0, none⟩ = false := by simp [World.frozen?, hblk]
  have hqp : q' ≠ some p := by
    rcases hq with rfl | ⟨k, rfl, hk⟩
    · exact H.out.apart
    · intro e; cases e; have := H.out.lt; omega
  have HB : Below b w W' := (Below.refl _ _).grown hg hb (fun k hk => (H.out.row.size k hk).1)
  have F := Aside0.mk (show FileAt (W'.setCell ⟨p, 0, none⟩ (.slice A' (n + m) c')) b p q' A' c' (n + m) (l ++ ys) s most cr from
    ⟨FileAt.put0 hblk, H.out.own, by rw [List.length_append, H.out.len, HM.out], hr.set _ hqp _, hqp, by have := H.out.sure; omega, H.out.rng⟩)
  have D := Aside0.mk (show Did b w (W'.setCell ⟨p, 0, none⟩ (.slice A' (n + m) c')) p q from
    ⟨HB.setCell (p := ⟨p, 0, none⟩) H.out.own _, fun k hk h1 h2 => (Below.heap_setCell _ _ _ k h1).trans (hg.block k hk h2)⟩)
  have Q := Aside0.mk hq
  clear hr hg hq hblk hqp HB
  go_wp2
  go_end0
  exact ⟨⟨_, rfl⟩, A', c', q', F.out, D.out, Q.out⟩
end Go.Proofs.Ytfbpfogmnaahpaa
