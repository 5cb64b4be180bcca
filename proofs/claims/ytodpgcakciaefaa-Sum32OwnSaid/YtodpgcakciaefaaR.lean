/-
  How the arguments of these laws are opened: a slice of bytes that came in; an array of three of them; an array of four bytes.
-/
import Derived.Test.YtodpgcakciaefaaA2
import Derived.Test.YtodpgcakciaefaaRows
import Derived.ProofKit
import Derived.OpenShut
import Derived.ShutString
import Derived.ChangeOld
import Derived.Laws.IdiomArrays
import Derived.Lib.SmallJoins
namespace Go.Proofs.Ytodpgcakciaefaa
open Go.ChangeShapes Go.WideShapes Go.ChangeAt Go.RowKit Go.Proofs.YtodpgcakciaefaaW.PrintWords

theorem own : ownKnob Try.prog.godebug = none := by kernel_rfl
theorem laidOut : laidOutB Try.prog = true := by kernel_rfl

theorem byte_of {x : Int} (h : (Lit.int .u8 x).wf = true) : 0 ≤ x ∧ x < 256 := by
  have hmin : IntKind.u8.min = 0 := rfl
  have hmax : IntKind.u8.max = 255 := rfl
  simp only [Lit.wf, Bool.and_eq_true, decide_eq_true_eq, hmin, hmax] at h
  omega

section
variable {H : Type} {enc : TypeId × Value → H} {w : World} {base : Nat} {spare : Nat → Bool} {held : Bool} {fuel : Nat}
theorem bs_of {cs : List Value} {x : DataW H × List MemPlace} (h : DataW.trod enc Try.prog w base spare held fuel 22 cs = some x) : ∃ A l c, cs = [.slice A (l : List Int).length c] ∧ Bs w A c l := by
  rcases open_ints Try.underlying22 Try.underlying5 (by kernel_rfl) h with ⟨rfl, _⟩ | ⟨a, len, cap, zs, rfl, _, hl, hm, hz, _, hcell, hwz⟩
  · exact ⟨none, [], 0, rfl, ⟨⟨rfl, by simp, fun h => absurd h (by simp)⟩, by simp, by simp⟩⟩
  · have hz' : len ≤ zs.length := by rw [hz]; split <;> omega
    have e : (zs.take len).length = len := by simp; omega
    have hr : ReadsInt w .u8 (some a) len (zs.take len) := by
      refine ⟨e, by unfold maxLen at hm; omega, fun _ => ⟨a, rfl, fun j hj => ?_⟩⟩
      rw [hcell j (by omega)]
      simp [List.getD_eq_getElem?_getD, hj]
    exact ⟨some a, zs.take len, cap, by rw [e], ⟨by rw [e]; exact hr, by rw [e]; exact hl, fun x hx => byte_of (hwz x (List.mem_of_mem_take hx))⟩⟩
theorem arr4_of {r : Reach} {b0 : Nat} {v : Value} {d : DataW H} {p : List MemPlace} (hv : Value.okWide Try.prog w r b0 34 v) (h : DataW.Trod enc Try.prog w base spare held 34 v d p) :
    ∃ f0 f1 f2 f3 : Int, v = .agg #[.int .u8 f0, .int .u8 f1, .int .u8 f2, .int .u8 f3] ∧ ∀ x ∈ [f0, f1, f2, f3], 0 ≤ x ∧ x < 256 := by
  obtain ⟨cs, rfl, hsz, _⟩ : ∃ cs, v = .agg cs ∧ cs.size = Try.prog.cellsOf 34 ∧ Row.okWide Try.prog w r b0 34 cs := by
    simpa [Value.okWide, Try.underlying34] using hv
  rw [show Try.prog.cellsOf 34 = 4 from by kernel_rfl] at hsz
  obtain ⟨c0, c1, c2, c3, rfl⟩ := Joins.array4 hsz
  obtain ⟨fuel, hf⟩ := h
  obtain ⟨y0, y1, y2, y3, m, _, h0, h1, h2, h3⟩ := trod_array4 Try.underlying34 (show Try.prog.cellsOf 5 = 1 from by kernel_rfl) hf
  obtain ⟨x0, e0, _, w0⟩ := DataW.trod_int Try.underlying5 h0
  obtain ⟨x1, e1, _, w1⟩ := DataW.trod_int Try.underlying5 h1
  obtain ⟨x2, e2, _, w2⟩ := DataW.trod_int Try.underlying5 h2
  obtain ⟨x3, e3, _, w3⟩ := DataW.trod_int Try.underlying5 h3
  simp only [List.cons.injEq, and_true] at e0 e1 e2 e3
  subst e0 e1 e2 e3
  refine ⟨x0, x1, x2, x3, rfl, fun x hx => ?_⟩
  simp only [List.mem_cons, List.not_mem_nil, or_false] at hx
  rcases hx with rfl | rfl | rfl | rfl
  · exact byte_of w0
  · exact byte_of w1
  · exact byte_of w2
  · exact byte_of w3
end
end Go.Proofs.Ytodpgcakciaefaa
