/-
  How the arguments of these laws are opened: a slice of bytes; an array of two of them.
-/
import Derived.Test.YtfbpfogmnaahpaaA1
import Derived.Test.YtfbpfogmnaahpaaRows
import Derived.ProofKit
import Derived.OpenShut
import Derived.ShutString
import Derived.ChangeOld
import Derived.Laws.IdiomArrays
import Derived.Lib.SmallJoins
namespace Go.Proofs.Ytfbpfogmnaahpaa
open Go.ChangeShapes Go.WideShapes Go.ChangeAt Go.RowKit Go.Proofs.YtfbpfogmnaahpaaW.PrintWords

theorem own : ownKnob Try.prog.godebug = none := by kernel_rfl
theorem laidOut : laidOutB Try.prog = true := by kernel_rfl

theorem byte_of {x : Int} (h : (Lit.int .u8 x).wf = true) : 0 ≤ x ∧ x < 256 := by
  have hmin : IntKind.u8.min = 0 := rfl
  have hmax : IntKind.u8.max = 255 := rfl
  simp only [Lit.wf, Bool.and_eq_true, decide_eq_true_eq, hmin, hmax] at h
  omega
section
variable {H : Type} {enc : TypeId × Value → H} {w : World} {base : Nat} {spare : Nat → Bool} {held : Bool} {fuel : Nat}
theorem bs_of {cs : List Value} {x : DataW H × List MemPlace} (h : DataW.trod enc Try.prog w base spare held fuel 22 cs = some x) : ∃ A l c, cs = [.slice A (l : List Int).length c] ∧ Bs w A c l := by
  rcases open_ints Try.underlying22 Try.underlying5 (by kernel_rfl) h with ⟨rfl, _⟩ | ⟨a, len, cap, zs, rfl, _, hl, hm, hz, _, hcell, hwz⟩
  · exact ⟨none, [], 0, rfl, ⟨⟨rfl, by simp, fun h => absurd h (by simp)⟩, by simp, by simp⟩⟩
  · have hz' : len ≤ zs.length := by rw [hz]; split <;> omega
    have e : (zs.take len).length = len := by simp; omega
    have hr : ReadsInt w .u8 (some a) len (zs.take len) := by
      refine ⟨e, by unfold maxLen at hm; omega, fun _ => ⟨a, rfl, fun j hj => ?_⟩⟩
      rw [hcell j (by omega)]
      simp [List.getD_eq_getElem?_getD, hj]
    exact ⟨some a, zs.take len, cap, by rw [e], ⟨by rw [e]; exact hr, by rw [e]; exact hl, fun x hx => byte_of (hwz x (List.mem_of_mem_take hx))⟩⟩
theorem trod_pair {P : Program} {t e : TypeId} {fuel : Nat} {c0 c1 : Value} {x : DataW H × List MemPlace} (ht : P.underlying t = some (.array 2 e)) (hce : P.cellsOf e = 1)
    (h : DataW.trod enc P w base spare held fuel t [c0, c1] = some x) :
    ∃ y0 y1 n, x = (.agg [y0.1, y1.1], y0.2 ++ y1.2) ∧ DataW.trod enc P w base spare held n e [c0] = some y0 ∧ DataW.trod enc P w base spare held n e [c1] = some y1 := by
  cases fuel with
  | zero => simp [DataW.trod] at h
  | succ n =>
    unfold DataW.trod at h
    rw [ht] at h
    have r2 : List.range 2 = [0, 1] := rfl
    simp [r2, hce] at h
    obtain ⟨_, h⟩ := h
    cases h0 : DataW.trod enc P w base spare held n e [c0] with
    | none => simp [h0] at h
    | some y0 =>
      cases h1 : DataW.trod enc P w base spare held n e [c1] with
      | none => simp [h0, h1] at h
      | some y1 =>
        simp [h0, h1] at h
        exact ⟨y0, y1, n, h.symm, h0, h1⟩
theorem two_of {r : Reach} {b0 : Nat} {v : Value} {d : DataW H} {p : List MemPlace} (hv : Value.okWide Try.prog w r b0 23 v) (h : DataW.Trod enc Try.prog w base spare held 23 v d p) :
    ∃ (A0 : Option Addr) (k0 : Nat) (l0 : List Int) (A1 : Option Addr) (k1 : Nat) (l1 : List Int), v = .agg #[.slice A0 l0.length k0, .slice A1 l1.length k1] ∧ (Bs w A0 k0 l0 ∧ Bs w A1 k1 l1) := by
  obtain ⟨cs, rfl, hsz, _⟩ : ∃ cs, v = .agg cs ∧ cs.size = Try.prog.cellsOf 23 ∧ Row.okWide Try.prog w r b0 23 cs := by
    simpa [Value.okWide, Try.underlying23] using hv
  rw [show Try.prog.cellsOf 23 = 2 from by kernel_rfl] at hsz
  obtain ⟨c0, c1, rfl⟩ := Joins.array2 hsz
  obtain ⟨fuel, hf⟩ := h
  obtain ⟨y0, y1, m, _, h0, h1⟩ := trod_pair Try.underlying23 (show Try.prog.cellsOf 22 = 1 from by kernel_rfl) hf
  obtain ⟨A0, l0, k0, e0, b0⟩ := bs_of h0
  obtain ⟨A1, l1, k1, e1, b1⟩ := bs_of h1
  simp only [List.cons.injEq, and_true] at e0 e1
  subst e0 e1
  exact ⟨A0, k0, l0, A1, k1, l1, rfl, b0, b1⟩
end
end Go.Proofs.Ytfbpfogmnaahpaa
