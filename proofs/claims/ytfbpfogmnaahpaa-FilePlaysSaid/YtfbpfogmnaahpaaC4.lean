/-
  Files: what is done to two files alike (the state of FilePlays); Few.
-/
import Derived.Test.YtfbpfogmnaahpaaC3
namespace Go.Proofs.Ytfbpfogmnaahpaa
open Go.RowKit Go.Proofs.YtfbpfogmnaahpaaW.PrintWords

section
variable {P : Program} {md : Region.Mode} {ops : Array Oper} {Q : Exit → Act → World → Prop} {S : World → Prop} {fuel : Nat} {listed : Array Bool} {a : Act} {w : World}
theorem tk (i : Nat) (d : Option Tmp) (v : Value) (hd : (ops[i]?).map (·.dst) = some d) (hk : (Region.noSelect ops && Region.free md ops listed i && (Region.ready md ops listed).contains i) = true)
    (hQ : ∀ c a w, Q (.panic c) (a.put d v) w → Q (.panic c) a w) (hy : ∀ o, ops[i]? = some o → Region.wanted o (yielded ops a.tmps) = true ∧ ∀ w, S w → (execOp a.eval o).run P w = .ok (.value v) w) (hS : S w)
    (h : wpAnyH P md ops Q S fuel (listed.setIfInBounds i true) (a.put d v) w) : wpAnyH P md ops Q S (fuel + 1) listed a w := by
  simp only [Bool.and_eq_true] at hk
  exact takeH i d v hd hk.1.1 hk.1.2 hk.2 hQ hy hS h
end

/-- A file, and the reference's, that hold the same, apart. -/
structure St (W : World) (b p : Nat) (qf : Option Nat) (Af : Option Addr) (cf nn : Nat) (r : Nat) (qF : Option Nat) (AF : Option Addr) (cF nF : Nat) (lF : List Int) (qL : Option Nat) (AL : Option Addr) (cL nL : Nat) (lL : List Int) (most : Int) (cr : Bool) : Prop where
  f : FileAt W b p qf Af cf nn (lF ++ lL) nF most cr
  g : RefAt W b r qF AF cF nF lF qL AL cL nL lL most cr
  n : nF + nL = nn
  s1 : p ≠ r
  s2 : qf ≠ some r
  s3 : qF ≠ some p
  s4 : qL ≠ some p
  s5 : ∀ k, qf = some k → qF ≠ some k ∧ qL ≠ some k
section
variable {W W' : World} {b p : Nat} {qf : Option Nat} {Af : Option Addr} {cf nn : Nat} {r : Nat} {qF : Option Nat} {AF : Option Addr} {cF nF : Nat} {lF : List Int} {qL : Option Nat} {AL : Option Addr} {cL nL : Nat} {lL : List Int} {most : Int} {cr : Bool}
theorem St.below (h : St W b p qf Af cf nn r qF AF cF nF lF qL AL cL nL lL most cr) (hb : Below W.heap.size W W') : St W' b p qf Af cf nn r qF AF cF nF lF qL AL cL nL lL most cr :=
  ⟨h.f.below hb, h.g.below hb, h.n, h.s1, h.s2, h.s3, h.s4, h.s5⟩
/-- The reference's file, as the other one was turned. -/
theorem St.refDid (h : St W b p qf Af cf nn r qF AF cF nF lF qL AL cL nL lL most cr) (hd : Did b W W' p qf) : RefAt W' b r qF AF cF nF lF qL AL cL nL lL most cr :=
  h.g.did hd (fun e => h.s1 e.symm) (fun e => h.s2 e.symm) h.s3 h.s4 (fun k hk e => (h.s5 k e.symm).1 hk) (fun k hk e => (h.s5 k e.symm).2 hk)
end

/-- Cells that hold acts. -/
def Acts (w : World) (A : Option Addr) (len : Nat) (ml : Nat → Nat) : Prop :=
  ∀ i, i < len → ∃ a, A = some a ∧ ∃ d j X c l, w.cell? (a.add (i * 3)) = some (.int .i64 d) ∧ w.cell? ⟨(a.add (i * 3)).block, (a.add (i * 3)).off + 1, none⟩ = some (.int .i64 j) ∧
    w.cell? ⟨(a.add (i * 3)).block, (a.add (i * 3)).off + 2, none⟩ = some (.slice X (ml i) c) ∧ Bs w X c l ∧ l.length = ml i

/-- What Few tells. -/
def FewOut (e : Ending) (n : Nat) (ml : Nat → Nat) : Prop := ∃ b, e = .returned (.bool b) ∧ (b = true → n ≤ 60 ∧ ∀ i, i < n → ml i ≤ 100)
theorem fewOut (b : Bool) {n : Nat} {ml : Nat → Nat} (h : b = true → n ≤ 60 ∧ ∀ i, i < n → ml i ≤ 100) : FewOut (.returned (.bool b)) n ml := by
  unfold FewOut
  exact ⟨b, rfl, h⟩
set_option maxHeartbeats 2000000 in
theorem few_calls (A : Option Addr) (n c : Nat) (ml : Nat → Nat) (w : World) (h : Acts w A n ml) :
    Calls Try.prog 15 #[.slice A n c] w fun e w' => FewOut e n ml ∧ w = w' := by
  go_enter Try.func15, Try.ntmps15
  go_wp2_with fail
  go_loopw [3] (fun vi wr => ∃ i : Nat, i ≤ n ∧ i ≤ 61 ∧ vi = .int .i64 i ∧ Aside0 (∀ j, j < i → ml j ≤ 100) ∧ w = wr) (fun vi _ => n - (intOf vi).toNat)
  case atStart => exact ⟨0, by omega, by omega, rfl, ⟨fun j hj => absurd hj (by omega)⟩, rfl⟩
  case round =>
    obtain ⟨i, hi, hi2, rfl, HA, rfl⟩ := hrel
    by_cases c1 : i < n
    · by_cases c2 : i < 61
      · have i0 : (0 : Int) ≤ (i : Int) := by omega
        have i1 : (i : Int) < (n : Int) := by omega
        have i2 : (i : Int) < 61 := by omega
        obtain ⟨a, rfl, d, j, X, cx, l, -, -, v2, -, -⟩ := h i c1
        by_cases cm : (100 : Int) < (ml i : Int)
        · go_wp2_with fail
          go_ret
          exact ⟨fewOut false (fun h => by cases h), rfl⟩
        · have HA2 := Aside0.mk (show ∀ j, j < i + 1 → ml j ≤ 100 from fun j hj => by
            by_cases e : j = i
            · subst e; omega
            · exact HA.out j (by omega))
          go_wp2_with fail
          go_roundw
          case rel => exact ⟨i + 1, by omega, by omega, by go_num, HA2, trivial⟩
          case measure => simp [intOf]; omega
      · have i1 : (i : Int) < (n : Int) := by omega
        have i2 : ¬ (i : Int) < 61 := by omega
        have c3 : ¬ (n : Int) ≤ 60 := by omega
        go_wp2_with fail
        go_ret
        exact ⟨fewOut false (fun h => by cases h), rfl⟩
    · obtain rfl : n = i := by omega
      have i1 : ¬ (n : Int) < (n : Int) := by omega
      by_cases c3 : (n : Int) ≤ 60
      · go_wp2_with fail
        go_ret
        exact ⟨fewOut true (fun _ => ⟨by omega, fun j hj => HA.out j hj⟩), rfl⟩
      · go_wp2_with fail
        go_ret
        exact ⟨fewOut false (fun h => by cases h), rfl⟩
end Go.Proofs.Ytfbpfogmnaahpaa
