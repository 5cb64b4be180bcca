/-
  How the arguments of these laws are opened: counts; what comes; a slice of what comes; a slice of bools.
-/
import Derived.Test.YtalonmhoamjcnaaA1
import Derived.Test.YtalonmhoamjcnaaRows
import Derived.ProofKit
import Derived.OpenShut
import Derived.ShutString
import Derived.ChangeOld
import Derived.Laws.IdiomArrays
import Derived.Lib.SmallJoins
import Derived.Deep.SlicePairs
import Derived.Deep.Grids
namespace Go.Proofs.Ytalonmhoamjcnaa
open Go.Deep Go.ChangeShapes Go.WideShapes Go.ChangeAt Go.RowKit Go.Proofs.YtalonmhoamjcnaaW.PrintWords

theorem own : ownKnob Try.prog.godebug = none := by kernel_rfl
theorem laidOut : laidOutB Try.prog = true := by kernel_rfl

/-- Cells that hold what comes. -/
def Comes (w : World) (A : Option Addr) (len : Nat) (f g : Nat → Int) : Prop :=
  ∀ i, i < len → ∃ a, A = some a ∧ w.cell? (a.add (i * 2)) = some (.int .i64 (f i)) ∧ w.cell? (a.add (i * 2 + 1)) = some (.int .i64 (g i))
/-- Cells that hold bools. -/
def Bools (w : World) (A : Option Addr) (len : Nat) (f : Nat → Bool) : Prop :=
  ∀ i, i < len → ∃ a, A = some a ∧ w.cell? (a.add i) = some (.bool (f i))

section
variable {H : Type} {enc : TypeId × Value → H} {w : World} {base : Nat} {spare : Nat → Bool} {held : Bool} {fuel : Nat}
theorem ct_of {r : Reach} {b0 : Nat} {v : Value} {d : DataW H} {p : List MemPlace} (hv : Value.okWide Try.prog w r b0 23 v) (h : DataW.Trod enc Try.prog w base spare held 23 v d p) :
    ∃ (t r : Int) (o : Bool), v = cv t r o ∧ True := by
  obtain ⟨cs, rfl, hsz⟩ := okWide_struct Try.underlying23 hv
  rw [show Try.prog.cellsOf 23 = 3 from by kernel_rfl] at hsz
  obtain ⟨c0, c1, c2, rfl⟩ := Joins.array3 hsz
  obtain ⟨fuel, hf⟩ := h
  obtain ⟨xs, n, _, _, _, hlen, hx⟩ := DataW.trod_struct Try.underlying23 hf
  have h0 := hx 0 _ rfl
  have h1 := hx 1 _ rfl
  have h2 := hx 2 _ rfl
  match xs, hlen with
  | [y0, y1, y2], _ =>
    have c3 : Try.prog.cellsOf 3 = 1 := by kernel_rfl
    have c4 : Try.prog.cellsOf 4 = 1 := by kernel_rfl
    change DataW.trod enc Try.prog w base spare held n 3 (List.take (Try.prog.cellsOf 3) [c0, c1, c2]) = some y0 at h0
    change DataW.trod enc Try.prog w base spare held n 3 (List.take (Try.prog.cellsOf 3) [c1, c2]) = some y1 at h1
    change DataW.trod enc Try.prog w base spare held n 4 (List.take (Try.prog.cellsOf 4) [c2]) = some y2 at h2
    rw [c3] at h0 h1
    rw [c4] at h2
    obtain ⟨n0, e0, _⟩ := DataW.trod_int Try.underlying3 h0
    obtain ⟨n1, e1, _⟩ := DataW.trod_int Try.underlying3 h1
    obtain ⟨b2, e2, _⟩ := DataW.trod_bool Try.underlying4 h2
    simp at e0 e1 e2
    subst e0 e1 e2
    exact ⟨n0, n1, b2, rfl, trivial⟩
theorem come_of {r : Reach} {b0 : Nat} {v : Value} {d : DataW H} {p : List MemPlace} (hv : Value.okWide Try.prog w r b0 31 v) (h : DataW.Trod enc Try.prog w base spare held 31 v d p) :
    ∃ (x g : Int), v = .agg #[.int .i64 x, .int .i64 g] ∧ True := by
  obtain ⟨cs, rfl, hsz⟩ := okWide_struct Try.underlying31 hv
  rw [show Try.prog.cellsOf 31 = 2 from by kernel_rfl] at hsz
  obtain ⟨c0, c1, rfl⟩ := Joins.array2 hsz
  obtain ⟨fuel, hf⟩ := h
  obtain ⟨xs, n, _, _, _, hlen, hx⟩ := DataW.trod_struct Try.underlying31 hf
  have h0 := hx 0 _ rfl
  have h1 := hx 1 _ rfl
  match xs, hlen with
  | [y0, y1], _ =>
    have c3 : Try.prog.cellsOf 3 = 1 := by kernel_rfl
    change DataW.trod enc Try.prog w base spare held n 3 (List.take (Try.prog.cellsOf 3) [c0, c1]) = some y0 at h0
    change DataW.trod enc Try.prog w base spare held n 3 (List.take (Try.prog.cellsOf 3) [c1]) = some y1 at h1
    rw [c3] at h0 h1
    obtain ⟨n0, e0, _⟩ := DataW.trod_int Try.underlying3 h0
    obtain ⟨n1, e1, _⟩ := DataW.trod_int Try.underlying3 h1
    simp at e0 e1
    subst e0 e1
    exact ⟨n0, n1, rfl, trivial⟩
theorem comes_of {r : Reach} {b0 : Nat} {v : Value} {d : DataW H} {p : List MemPlace} (hv : Value.okWide Try.prog w r b0 39 v) (h : DataW.Trod enc Try.prog w base spare held 39 v d p) :
    ∃ (A : Option Addr) (len c : Nat) (f g : Nat → Int), v = .slice A len c ∧ Comes w A len f g := by
  obtain ⟨A, len, c, rfl⟩ := okWide_slice Try.underlying39 hv
  obtain ⟨fuel, hf⟩ := h
  rcases open_slice_pairs Try.underlying39 Try.underlying31 (by kernel_rfl) rfl rfl (by kernel_rfl) (by kernel_rfl) hf with ⟨e, _⟩ | ⟨a, l, cap, m, n, V0, V1, D0, D1, P0, P1, e, _, hl, _, hm, _, hx⟩
  · simp [Value.cells] at e
    obtain ⟨rfl, rfl, rfl⟩ := e
    exact ⟨none, 0, 0, fun _ => 0, fun _ => 0, rfl, fun i hi => absurd hi (by omega)⟩
  · simp [Value.cells] at e
    obtain ⟨rfl, rfl, rfl⟩ := e
    have hlm : len ≤ m := by rw [hm]; split <;> omega
    refine ⟨some a, len, c, fun i => (match V0 i with | .int _ k => k | _ => 0), fun i => (match V1 i with | .int _ k => k | _ => 0), rfl, fun i hi => ⟨a, rfl, ?_, ?_⟩⟩
    · obtain ⟨h0, _, h2, _⟩ := hx i (by omega)
      obtain ⟨n0, e0, _⟩ := DataW.trod_int Try.underlying3 h2
      simp at e0
      rw [h0]
      simp only [e0]
    · obtain ⟨_, h1, _, h3⟩ := hx i (by omega)
      obtain ⟨n0, e0, _⟩ := DataW.trod_int Try.underlying3 h3
      simp at e0
      rw [h1]
      simp only [e0]
theorem bools_of {r : Reach} {b0 : Nat} {v : Value} {d : DataW H} {p : List MemPlace} (hv : Value.okWide Try.prog w r b0 42 v) (h : DataW.Trod enc Try.prog w base spare held 42 v d p) :
    ∃ (A : Option Addr) (len c : Nat) (f : Nat → Bool), v = .slice A len c ∧ Bools w A len f := by
  obtain ⟨A, len, c, rfl⟩ := okWide_slice Try.underlying42 hv
  obtain ⟨fuel, hf⟩ := h
  rcases open_slice1 Try.underlying42 (by kernel_rfl) hf with ⟨e, _⟩ | ⟨a, l, cap, m, n, V, D, Pl, e, _, hl, _, hm, _, hx⟩
  · simp [Value.cells] at e
    obtain ⟨rfl, rfl, rfl⟩ := e
    exact ⟨none, 0, 0, fun _ => false, rfl, fun i hi => absurd hi (by omega)⟩
  · simp [Value.cells] at e
    obtain ⟨rfl, rfl, rfl⟩ := e
    have hlm : len ≤ m := by rw [hm]; split <;> omega
    refine ⟨some a, len, c, fun i => (match V i with | .bool k => k | _ => false), rfl, fun i hi => ⟨a, rfl, ?_⟩⟩
    obtain ⟨h0, h1⟩ := hx i (by omega)
    obtain ⟨n0, e0, _⟩ := DataW.trod_bool Try.underlying4 h1
    simp at e0
    rw [h0]
    simp only [e0]
end
end Go.Proofs.Ytalonmhoamjcnaa
