/-
  A region that draws its order, walked operation by operation: what is guarded and not wanted is skipped; one way alone.
-/
import Derived.Test.YtalonmhoamjcnaaA11
namespace Go.Proofs.Ytalonmhoamjcnaa
open Go.RowKit Go.Proofs.YtalonmhoamjcnaaW.PrintWords
section
variable {P : Program} {md : Region.Mode} {ops : Array Oper} {Q : Exit → Act → World → Prop} {S : World → Prop} {fuel : Nat} {listed : Array Bool} {a : Act} {w : World}
theorem skipH (i : Nat) (d : Option Tmp) (hd : (ops[i]?).map (·.dst) = some d) (hs : Region.noSelect ops = true) (hf : Region.free md ops listed i = true) (hr : (Region.ready md ops listed).contains i = true)
    (hQ : ∀ c a w, Q (.panic c) (a.put d undef) w → Q (.panic c) a w) (hw : (ops[i]?).map (fun o => Region.wanted o (yielded ops a.tmps)) = some false) (hS : S w)
    (h : wpAnyH P md ops Q S fuel (listed.setIfInBounds i true) (a.put d undef) w) : wpAnyH P md ops Q S (fuel + 1) listed a w := by
  cases ho : ops[i]? with
  | none => simp [ho] at hd
  | some o =>
    simp only [ho, Option.map_some, Option.some.injEq] at hd hw
    subst hd
    exact wpAnyH_take ho hs hf hr hQ (Or.inr ⟨hw, rfl⟩) hS h
theorem takeH (i : Nat) (d : Option Tmp) (v : Value) (hd : (ops[i]?).map (·.dst) = some d) (hs : Region.noSelect ops = true) (hf : Region.free md ops listed i = true) (hr : (Region.ready md ops listed).contains i = true)
    (hQ : ∀ c a w, Q (.panic c) (a.put d v) w → Q (.panic c) a w) (hy : ∀ o, ops[i]? = some o → Region.wanted o (yielded ops a.tmps) = true ∧ ∀ w, S w → (execOp a.eval o).run P w = .ok (.value v) w) (hS : S w)
    (h : wpAnyH P md ops Q S fuel (listed.setIfInBounds i true) (a.put d v) w) : wpAnyH P md ops Q S (fuel + 1) listed a w := by
  cases ho : ops[i]? with
  | none => simp [ho] at hd
  | some o =>
    simp only [ho, Option.map_some, Option.some.injEq] at hd
    subst hd
    exact wpAnyH_take ho hs hf hr hQ (Or.inl (hy o ho)) hS h
theorem oneH (i : Nat) (hr : Region.ready md ops listed = [i]) (hi : (ops[i]?).isSome = true)
    (h : ∀ o, ops[i]? = some o → ∀ K' : Act → World → Prop, Shut (∀ a w, S w → (S w → wpAnyH P md ops Q S fuel (listed.setIfInBounds i true) a w) → K' a w) → if Region.wanted o (yielded ops a.tmps) = true then Oper.wp P o a w K' Q else K' (a.put o.dst undef) w) :
    wpAnyH P md ops Q S (fuel + 1) listed a w := by
  cases ho : ops[i]? with
  | none => simp [ho] at hi
  | some o => exact wpAnyH_ready hr (by simp) (AllReadyH.cons ho (h o ho) AllReadyH.nil)
theorem twoH (i j : Nat) (hr : Region.ready md ops listed = [i, j]) (hi : (ops[i]?).isSome = true) (hj : (ops[j]?).isSome = true)
    (h : ∀ o, ops[i]? = some o → ∀ K' : Act → World → Prop, Shut (∀ a w, S w → (S w → wpAnyH P md ops Q S fuel (listed.setIfInBounds i true) a w) → K' a w) → if Region.wanted o (yielded ops a.tmps) = true then Oper.wp P o a w K' Q else K' (a.put o.dst undef) w)
    (h2 : ∀ o, ops[j]? = some o → ∀ K' : Act → World → Prop, Shut (∀ a w, S w → (S w → wpAnyH P md ops Q S fuel (listed.setIfInBounds j true) a w) → K' a w) → if Region.wanted o (yielded ops a.tmps) = true then Oper.wp P o a w K' Q else K' (a.put o.dst undef) w) :
    wpAnyH P md ops Q S (fuel + 1) listed a w := by
  cases ho : ops[i]? with
  | none => simp [ho] at hi
  | some o =>
    cases ho2 : ops[j]? with
    | none => simp [ho2] at hj
    | some o2 => exact wpAnyH_ready hr (by simp) (AllReadyH.cons ho (h o ho) (AllReadyH.cons ho2 (h2 o2 ho2) AllReadyH.nil))
theorem cbn {n : Nat} {W w1 : World} (h : Below n W w1) {p : Addr} {u : Value} (hc : W.cell? p = some u) (hp : p.block < n) : w1.cell? p = some u := by
  unfold World.cell? at *
  rw [h.block _ hp]
  exact hc
end
end Go.Proofs.Ytalonmhoamjcnaa
