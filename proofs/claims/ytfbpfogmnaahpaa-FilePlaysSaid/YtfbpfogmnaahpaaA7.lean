/-
  Files: laws on rows for the walks of the laws.
-/
import Derived.Test.YtfbpfogmnaahpaaB1
namespace Go.Proofs.Ytfbpfogmnaahpaa
open Go.RowKit Go.Proofs.YtfbpfogmnaahpaaW.PrintWords
theorem Row.drew {W : World} {b : Nat} {q : Option Nat} {A : Option Addr} {c : Nat} {l : List Int} (h : Row W b q A c l) : Row W.drew b q A c l := ⟨h.byte, h.lies⟩
theorem Bs.of {W W' : World} {A : Option Addr} {c : Nat} {l : List Int} {n : Nat} (h : Bs W A c l ∧ l.length = n) (hb : Below W.heap.size W W') : ReadsInt W' .u8 A n l := by
  have := (h.1.below hb).reads
  rw [h.2] at this
  exact this
/-- append(v, ys...) at a step of a region that draws its order. -/
theorem step_append_Row {ops : Array Oper} {o : Oper} {a : Act} {Q : Exit → Act → World → Prop} {K : Act → World → Prop} {E : Prop} {W : World} {b : Nat} {q : Option Nat} {A : Option Addr} {c n : Nat} {l : List Int} (hw : Region.wanted o (yielded ops a.tmps) = true) (s x : Operand)
    (ho : o.op = .call { callee := .builtin .append, args := #[s, x], argTypes := #[22, 22] }) (X : Option Addr) (m cx : Nat) (ys : List Int) (hs : a.eval s = .slice A n c) (hx : a.eval x = .slice X m cx) (hn : l.length = n) (N : Nat) (hN : n + m = N)
    (h : Row W b q A c l) (hY : ReadsInt W .u8 X m ys) (hyb : ∀ x ∈ ys, 0 ≤ x ∧ x < 256) (hl : n + m ≤ 140737488355328) (hbase : b ≤ W.heap.size)
    (hk : ∀ A' c' q' W', Row W' b q' A' c' (l ++ ys) → W.grownBy W' q → (q' = q ∨ ∃ k, q' = some k ∧ W.heap.size ≤ k) → K (a.put o.dst (.slice A' N c')) W') :
    if Region.wanted o (yielded ops a.tmps) = true then Oper.wp Try.prog o a W K Q else E := by
  rw [if_pos hw]
  subst hn hN
  obtain ⟨A', c', q', W', hr, h1, h2, h3⟩ := run_append_Row h (cx := cx) hY hyb hl hbase o.type
  unfold Oper.wp execOp
  simp only [ho, resolve, invoke, builtin, Sem.run_bind, Sem.run_pure, Result.andThen_ok, List.map_toArray, List.map_cons, List.map_nil, hs, hx, hr]
  exact hk A' c' q' W' h1 h2 h3
theorem replicate_byte (z : Nat) : ∀ x ∈ List.replicate z (0 : Int), 0 ≤ x ∧ x < 256 := by
  intro x hx
  obtain rfl := List.eq_of_mem_replicate hx
  omega
theorem made_bs {W W' : World} (z : Nat) (hz : z ≤ 140737488355328) (h : W.alloc (.cells (madeCells #[.int .u8 0] z) 5) = W') : Bs W' (some ⟨W.heap.size, 0, none⟩) z (List.replicate z 0) := by
  subst h
  obtain ⟨q, hq⟩ := Row.of_own (by simp) (own_made W W.heap.size 5 .u8 z (Nat.le_refl _) (by omega)) (replicate_byte z)
  exact hq.bs

/-- A block that is not older than another one. -/
def Fresh (q : Option Nat) (m : Nat) : Prop := ∀ k, q = some k → m ≤ k
theorem Fresh.step {q q' : Option Nat} {m n : Nat} (h : Fresh q m) (hq : q' = q ∨ ∃ k, q' = some k ∧ n ≤ k) (hn : m ≤ n) : Fresh q' m := by
  rcases hq with rfl | ⟨k, rfl, hk⟩
  · exact h
  · intro j hj; cases hj; omega
theorem Row.did2 {W W' : World} {b b2 : Nat} {q : Option Nat} {A : Option Addr} {c : Nat} {l : List Int} {p2 : Nat} {q2 : Option Nat} (h : Row W b q A c l) (hd : Did b2 W W' p2 q2) (h1 : q ≠ some p2) (h2 : ∀ k, q = some k → some k ≠ q2) : Row W' b q A c l :=
  ⟨h.byte, by
    rcases h.lies with h | ⟨g, cur, h3, h4, h5, h6, h7⟩
    · exact .inl h
    · exact .inr ⟨g, cur, h3, h4, h5, (hd.kept g (Array.getElem?_eq_some_iff.1 h6).1 (fun e => h1 (by rw [h3, e])) (h2 g h3)).trans h6, h7⟩⟩

end Go.Proofs.Ytfbpfogmnaahpaa
