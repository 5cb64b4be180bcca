/-
  How the arguments of these laws are opened: a slice of slices of bytes; a slice of bools.
-/
import Derived.Test.YtfbpfogmnaahpaaB4
import Derived.Test.YtfbpfogmnaahpaaR
import Derived.Deep.Slices
namespace Go.Proofs.Ytfbpfogmnaahpaa
open Go.Deep Go.ChangeShapes Go.WideShapes Go.ChangeAt Go.RowKit Go.Proofs.YtfbpfogmnaahpaaW.PrintWords
section
variable {H : Type} {enc : TypeId × Value → H} {w : World} {base : Nat} {spare : Nat → Bool} {held : Bool} {fuel : Nat}
theorem slices_of {r : Reach} {b0 : Nat} {v : Value} {d : DataW H} {p : List MemPlace} (hv : Value.okWide Try.prog w r b0 48 v) (h : DataW.Trod enc Try.prog w base spare held 48 v d p) :
    ∃ (A : Option Addr) (n c : Nat), v = .slice A n c ∧ Slices w A n := by
  obtain ⟨A, n, c, rfl⟩ := okWide_slice Try.underlying48 hv
  obtain ⟨fuel, hf⟩ := h
  rcases open_slice1 Try.underlying48 (by kernel_rfl) hf with ⟨e, _⟩ | ⟨a, l, cap, m, n, V, D, Pl, e, _, hl, _, hm, _, hx⟩
  · simp [Value.cells] at e
    obtain ⟨rfl, rfl, rfl⟩ := e
    exact ⟨none, 0, 0, rfl, fun i hi => absurd hi (by omega)⟩
  · simp [Value.cells] at e
    obtain ⟨rfl, rfl, rfl⟩ := e
    refine ⟨some a, _, c, rfl, fun i hi => ⟨a, rfl, ?_⟩⟩
    obtain ⟨h0, h1⟩ := hx i (by rw [hm]; split <;> omega)
    obtain ⟨X, lx, cx, e0, hb⟩ := bs_of h1
    simp only [List.cons.injEq, and_true] at e0
    exact ⟨X, lx.length, cx, lx, by rw [h0, e0], hb, rfl⟩
theorem bools_of {r : Reach} {b0 : Nat} {v : Value} {d : DataW H} {p : List MemPlace} (hv : Value.okWide Try.prog w r b0 49 v) (h : DataW.Trod enc Try.prog w base spare held 49 v d p) :
    ∃ (A : Option Addr) (n c : Nat), v = .slice A n c ∧ Bools w A n := by
  obtain ⟨A, n, c, rfl⟩ := okWide_slice Try.underlying49 hv
  obtain ⟨fuel, hf⟩ := h
  rcases open_slice1 Try.underlying49 (by kernel_rfl) hf with ⟨e, _⟩ | ⟨a, l, cap, m, n, V, D, Pl, e, _, hl, _, hm, _, hx⟩
  · simp [Value.cells] at e
    obtain ⟨rfl, rfl, rfl⟩ := e
    exact ⟨none, 0, 0, rfl, fun i hi => absurd hi (by omega)⟩
  · simp [Value.cells] at e
    obtain ⟨rfl, rfl, rfl⟩ := e
    refine ⟨some a, _, c, rfl, fun i hi => ⟨a, rfl, ?_⟩⟩
    obtain ⟨h0, h1⟩ := hx i (by rw [hm]; split <;> omega)
    obtain ⟨b, e0, _⟩ := DataW.trod_bool Try.underlying4 h1
    simp only [List.cons.injEq, and_true] at e0
    exact ⟨b, by rw [h0, e0]⟩
end
end Go.Proofs.Ytfbpfogmnaahpaa
