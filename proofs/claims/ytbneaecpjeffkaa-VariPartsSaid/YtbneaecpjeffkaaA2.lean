/-
  The iterator over the numbers of bytes, and All.
-/
import Derived.RangeFuncNested
import Derived.RangeFuncBound
import Derived.RangeFuncCalls
import Derived.RangeFuncLeaves
import Derived.Shelf.Abstract
import Derived.WalkKit
import Derived.OwnWalkIn
import Derived.TacticsInMore
import Derived.LoopNIn
import Derived.LoopIn
import Derived.Maps.AppendAt
import Derived.Test.YtbneaecpjeffkaaA1
namespace Go.Proofs.Ytbneaecpjeffkaa
open Go.RowKit Go.Shelf Go.Proofs.YtbneaecpjeffkaaW.PrintWords

attribute [local go_sem] Oper.semAt_some

/-- A number that comes: which, where it begins, what is wrong. -/
abbrev Item := Nat × Nat × Int
def encI (x : Item) : Array Value := #[.agg #[.int .u64 (x.1 : Nat), .int .i64 (x.2.1 : Nat), .int .i64 x.2.2]]
def outs (pre : List Item) : List Int := pre.map (fun x => (x.1 : Int))
theorem outs_snoc (pre : List Item) (x : Item) : outs (pre ++ [x]) = outs pre ++ [(x.1 : Int)] := by simp [outs]
/-- What a round that goes on keeps. -/
def KpI (n₀ Bn : Nat) (W W' : World) : Prop := Below n₀ W W' ∧ ∀ v, Boxed W Bn 22 v → Boxed W' Bn 22 v
/-- All have come. -/
def SI (l : List Int) (pre : List Item) : Prop := (∀ x ∈ pre, x.2.2 = 0) → Pl.all l = (outs pre, 0, 0)
/-- A part has come. -/
def SpI (l : List Int) (pre : List Item) : Prop := ∀ p (x : Item), pre = p ++ [x] → x.2.2 ≠ 0 → Pl.all l = ([], x.2.1, x.2.2)

theorem allFrom_stop {l : List Int} {f a : Nat} {out : List Int} (h : l ≠ []) (he : (Pl.get l).2.2 ≠ 0) : Pl.allFrom (f + 1) l a out = ([], a, (Pl.get l).2.2) := by
  simp only [Pl.allFrom, if_neg h, if_neg he]
theorem allFrom_on {l : List Int} {f a : Nat} {out : List Int} (h : l ≠ []) (he : (Pl.get l).2.2 = 0) : Pl.allFrom (f + 1) l a out = Pl.allFrom f (l.drop (Pl.get l).2.1) (a + (Pl.get l).2.1) (out ++ [((Pl.get l).1 : Int)]) := by
  simp only [Pl.allFrom, if_neg h, if_pos he]

set_option maxRecDepth 100000 in
set_option maxHeartbeats 2000000 in
theorem iter_in (n : Nat) (hn : 1 ≤ n) (r Bn : Nat) (A : Option Addr) (c : Nat) (l : List Int) (w0 : World) (h : Bs w0 A c l) (J Jx : List Item → World → Prop)
    (hY : ∀ pre x W, J pre W → pre.length < l.length → YieldAt Fence.wide (n - 1) Try.prog r (encI x) W fun e W' =>
      (e = .returned (.bool true) ∧ J (pre ++ [x]) W' ∧ KpI w0.heap.size Bn W W') ∨ (e = .returned (.bool false) ∧ Jx (pre ++ [x]) W'))
    (W : World) (hBn : Boxed W Bn 22 (.slice A l.length c)) (hB : Below w0.heap.size w0 W) (h0 : J [] W) :
    CallsIn Fence.wide n Try.prog 21 #[.func (.yield r) #[] #[], .pointer (some ⟨Bn, 0, none⟩)] W fun e W' => (∃ v, e = .returned v) ∧
      ((∃ ys, SI l ys ∧ J ys W') ∨ (∃ pre, SpI l pre ∧ Jx pre W')) := by
  have hlen : (l.length : Int) ≤ 9223372036854775807 := by have := h.reads.2.1; omega
  have hcap := h.cap
  have H := Aside0.mk h
  clear h
  refine callsIn_of_wp Try.func21 rfl trivial ?_ rfl
  simp only [Try.ntmps21, List.size_toArray, List.length_cons, List.length_nil, Nat.reduceAdd, Nat.reduceSub, Array.replicate_succ, Array.replicate_zero, List.push_toArray, List.append_toArray, List.nil_append, List.cons_append]
  gi_wp2
  gi_loopw [3, 4, 5, 6] (fun a _ _ _ wr => ∃ (pre : List Item) (off : Nat), off ≤ l.length ∧ a = .int .i64 off ∧ pre.length ≤ off ∧ Aside0 (Pl.all l = Pl.allFrom ((l.drop off).length + 1) (l.drop off) off (outs pre)) ∧ J pre wr ∧ Aside0 (Below w0.heap.size w0 wr) ∧ Boxed wr Bn 22 (.slice A l.length c))
    (fun a _ _ _ _ => l.length - (intOf a).toNat)
  case atStart => exact ⟨[], 0, by omega, rfl, by simp, ⟨rfl⟩, h0, ⟨hB⟩, hBn⟩
  case round =>
    obtain ⟨pre, off, hoff, rfl, hpl, HA, hJ, HB, bX⟩ := hrel
    have cX := bX.cell
    by_cases hlt : off < l.length
    · obtain ⟨A2, cut1, kb⟩ := drop_cut_n A c off l.length l rfl (by omega) hcap
      have hne : l.drop off ≠ [] := by
        intro h
        have := congrArg List.length h
        simp at this
        omega
      obtain ⟨v, m, e, hg⟩ : ∃ v m e, Pl.get (l.drop off) = (v, m, e) := ⟨_, _, _, rfl⟩
      have HG := Aside0.mk hg
      clear hg
      obtain ⟨fn, tmps, assign, body, hy, hR⟩ := hY pre (v, off, e) wr hJ (by omega)
      simp only [encI] at hy
      have HK := Aside0.mk kb
      clear kb
      have hbs : Bs wr A2 (c - off) (l.drop off) := HK.out wr (H.out.below HB.out)
      have G := (callsIn_wide (n := n - 1)).2 (get_n A2 (l.length - off) (c - off) (l.drop off) (by simp) wr hbs)
      rw [HG.out] at G
      clear hbs
      gi_wp2
      refine ⟨trivial, ?_⟩
      gi_at_call 10
      refine G.mono ?_
      rintro ew w2 ⟨rfl, rfl⟩
      clear G
      gi_wp2
      refine hR.mono ?_
      rintro ew W3 (⟨rfl, hJ3, hk3⟩ | ⟨rfl, hJx3⟩)
      · have bX3 := hk3.2 _ bX
        by_cases he : e = 0
        · subst he
          have hb := Pl.get_bound (l := l.drop off) (by rw [HG.out])
          rw [HG.out, List.length_drop] at hb
          simp only at hb
          have HA2 : Aside0 (Pl.all l = Pl.allFrom ((l.drop (off + m)).length + 1) (l.drop (off + m)) (off + m) (outs (pre ++ [(v, off, 0)]))) := by
            refine ⟨?_⟩
            rw [HA.out, allFrom_on hne (by rw [HG.out]), HG.out, List.drop_drop, outs_snoc]
            exact Pl.allFrom_more _ _ _ _ _ (by simp; omega) (by simp)
          gi_wp2
          go_roundw
          case rel => exact ⟨pre ++ [(v, off, 0)], off + m, by omega, by go_num, by simp; omega, HA2, hJ3, ⟨HB.out.trans hk3.1⟩, bX3⟩
          case measure =>
            simp [intOf]
            omega
        · have t1 : (e != 0) = true := by simp [he]
          have HE := Aside0.mk he
          clear he
          gi_wp2
          refine bodyPost_ret (results_none rfl _ _ _) rfl ?_
          exact ⟨⟨_, rfl⟩, .inl ⟨_, fun h => absurd (h (v, off, e) (by simp)) HE.out, hJ3⟩⟩
      · gi_wp2
        refine bodyPost_ret (results_none rfl _ _ _) rfl ?_
        refine ⟨⟨_, rfl⟩, .inr ⟨_, ?_, hJx3⟩⟩
        intro p x hx he
        obtain ⟨rfl, h2⟩ := List.append_inj' hx rfl
        obtain rfl : (v, off, e) = x := by simpa using h2
        rw [HA.out, allFrom_stop hne (by rw [HG.out]; exact he), HG.out]
    · obtain rfl : off = l.length := by omega
      gi_wp2
      go_end0
      refine ⟨⟨_, rfl⟩, .inl ⟨pre, fun _ => ?_, hJ⟩⟩
      rw [HA.out]
      simp [Pl.allFrom]
end Go.Proofs.Ytbneaecpjeffkaa
