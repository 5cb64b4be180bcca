/-
  How a slice of numbers that came in is opened.
-/
import Derived.Test.YtbneaecpjeffkaaR
namespace Go.Proofs.Ytbneaecpjeffkaa
open Go.ChangeShapes Go.WideShapes Go.ChangeAt Go.RowKit Go.Proofs.YtbneaecpjeffkaaW.PrintWords
section
variable {H : Type} {enc : TypeId × Value → H} {w : World} {base : Nat} {spare : Nat → Bool} {held : Bool} {fuel : Nat}
theorem us_of {cs : List Value} {x : DataW H × List MemPlace} (h : DataW.trod enc Try.prog w base spare held fuel 28 cs = some x) : ∃ A l c, cs = [.slice A (l : List Int).length c] ∧ Us w A c l := by
  rcases open_ints Try.underlying28 Try.underlying24 (by kernel_rfl) h with ⟨rfl, _⟩ | ⟨a, len, cap, zs, rfl, _, hl, hm, hz, _, hcell, hwz⟩
  · exact ⟨none, [], 0, rfl, ⟨⟨rfl, by simp, fun h => absurd h (by simp)⟩, by simp, by simp⟩⟩
  · have hz' : len ≤ zs.length := by rw [hz]; split <;> omega
    have e : (zs.take len).length = len := by simp; omega
    have hr : ReadsInt w .u64 (some a) len (zs.take len) := by
      refine ⟨e, by unfold maxLen at hm; omega, fun _ => ⟨a, rfl, fun j hj => ?_⟩⟩
      rw [hcell j (by omega)]
      simp [List.getD_eq_getElem?_getD, hj]
    refine ⟨some a, zs.take len, cap, by rw [e], ⟨by rw [e]; exact hr, by rw [e]; exact hl, fun x hx => ?_⟩⟩
    obtain ⟨n, rfl, hn⟩ := u64_of (hwz x (List.mem_of_mem_take hx))
    unfold B64
    omega
theorem us_arg {r : Reach} {b0 : Nat} {v : Value} {d : DataW H} {p : List MemPlace} (hv : Value.okWide Try.prog w r b0 28 v) (h : DataW.Trod enc Try.prog w base spare held 28 v d p) :
    ∃ A c l, v = .slice A (l : List Int).length c ∧ Us w A c l := by
  obtain ⟨a, len, cap, rfl⟩ := okWide_slice Try.underlying28 hv
  obtain ⟨fuel, hf⟩ := h
  obtain ⟨A, l, c, e, k⟩ := us_of hf
  simp only [Value.cells, List.cons.injEq, and_true, Value.slice.injEq] at e
  obtain ⟨rfl, rfl, rfl⟩ := e
  exact ⟨_, _, _, rfl, k⟩
end
end Go.Proofs.Ytbneaecpjeffkaa
