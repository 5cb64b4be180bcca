/-
  How the arguments of these laws are opened: a slice of acts.
-/
import Derived.Test.YtfbpfogmnaahpaaC4
import Derived.Test.YtfbpfogmnaahpaaR
import Derived.Deep.Slices
namespace Go.Proofs.Ytfbpfogmnaahpaa
open Go.Deep Go.ChangeShapes Go.WideShapes Go.ChangeAt Go.RowKit Go.Proofs.YtfbpfogmnaahpaaW.PrintWords
theorem add_off (a : Addr) (n k : Nat) (hk : 0 < k) : (a.add n).add k = ⟨(a.add n).block, (a.add n).off + k, none⟩ := by
  conv => lhs; unfold Addr.add
  rw [if_neg (by omega)]
  rfl
section
variable {H : Type} {enc : TypeId × Value → H} {w : World} {base : Nat} {spare : Nat → Bool} {held : Bool} {fuel : Nat}
theorem act_of {cs : List Value} {x : DataW H × List MemPlace} (h : DataW.trod enc Try.prog w base spare held fuel 41 cs = some x) (hl : cs.length = 3) :
    ∃ (d j : Int) (X : Option Addr) (l : List Int) (c : Nat), cs = [.int .i64 d, .int .i64 j, .slice X l.length c] ∧ Bs w X c l := by
  obtain ⟨xs, n, _, _, _, hlen, hx⟩ := DataW.trod_struct Try.underlying41 h
  have h0 := hx 0 _ rfl
  have h1 := hx 1 _ rfl
  have h2 := hx 2 _ rfl
  match xs, hlen, cs, hl with
  | [y0, y1, y2], _, [c0, c1, c2], _ =>
    have e3 : Try.prog.cellsOf 3 = 1 := by kernel_rfl
    have e22 : Try.prog.cellsOf 22 = 1 := by kernel_rfl
    change DataW.trod enc Try.prog w base spare held n 3 (List.take (Try.prog.cellsOf 3) [c0, c1, c2]) = some y0 at h0
    change DataW.trod enc Try.prog w base spare held n 3 (List.take (Try.prog.cellsOf 3) [c1, c2]) = some y1 at h1
    change DataW.trod enc Try.prog w base spare held n 22 (List.take (Try.prog.cellsOf 22) [c2]) = some y2 at h2
    rw [e3] at h0 h1
    rw [e22] at h2
    obtain ⟨n0, k0, _⟩ := DataW.trod_int Try.underlying3 h0
    obtain ⟨n1, k1, _⟩ := DataW.trod_int Try.underlying3 h1
    obtain ⟨X, l, c, k2, hb⟩ := bs_of h2
    simp at k0 k1 k2
    subst k0 k1 k2
    exact ⟨n0, n1, X, l, c, rfl, hb⟩
theorem acts_of {r : Reach} {b0 : Nat} {v : Value} {d : DataW H} {p : List MemPlace} (hv : Value.okWide Try.prog w r b0 35 v) (h : DataW.Trod enc Try.prog w base spare held 35 v d p) :
    ∃ (A : Option Addr) (n c : Nat) (ml : Nat → Nat), v = .slice A n c ∧ Acts w A n ml := by
  obtain ⟨A, n, c, rfl⟩ := okWide_slice Try.underlying35 hv
  obtain ⟨fuel, hf⟩ := h
  rcases open_slice Try.underlying35 hf with ⟨e, _⟩ | ⟨a, l, cap, m, n', D, Pl, e, _, hl, _, hm, _, hx⟩
  · simp [Value.cells] at e
    obtain ⟨rfl, rfl, rfl⟩ := e
    exact ⟨none, 0, 0, fun _ => 0, rfl, fun i hi => absurd hi (by omega)⟩
  · simp [Value.cells] at e
    obtain ⟨rfl, rfl, rfl⟩ := e
    obtain ⟨ml, hml⟩ : ∃ ml : Nat → Nat, ∀ i X k c, w.cell? ⟨(a.add (i * 3)).block, (a.add (i * 3)).off + 2, none⟩ = some (.slice X k c) → ml i = k :=
      ⟨fun i => (match w.cell? ⟨(a.add (i * 3)).block, (a.add (i * 3)).off + 2, none⟩ with | some (.slice _ k _) => k | _ => 0), fun i X k c h => by simp only [h]⟩
    refine ⟨some a, _, c, ml, rfl, fun i hi => ⟨a, rfl, ?_⟩⟩
    obtain ⟨cs, h1, h2⟩ := hx i (by rw [hm]; split <;> omega)
    rw [show Try.prog.cellsOf 41 = 3 from by kernel_rfl] at h1
    obtain ⟨_, hlen, hcell⟩ := World.cells?_some h1
    obtain ⟨d, j, X, lx, cx, rfl, hb⟩ := act_of h2 hlen
    have e0 := hcell 0 (by omega)
    have e1 := hcell 1 (by omega)
    have e2 := hcell 2 (by omega)
    rw [add_off _ _ _ (by omega)] at e1 e2
    have e0' : w.cell? (a.add (i * 3)) = some (.int .i64 d) := e0
    have e1' : w.cell? ⟨(a.add (i * 3)).block, (a.add (i * 3)).off + 1, none⟩ = some (.int .i64 j) := e1
    have e2' : w.cell? ⟨(a.add (i * 3)).block, (a.add (i * 3)).off + 2, none⟩ = some (.slice X lx.length cx) := e2
    have em := hml i X lx.length cx e2'
    exact ⟨d, j, X, cx, lx, e0', e1', by rw [e2', em], hb, em.symm⟩
end
end Go.Proofs.Ytfbpfogmnaahpaa
