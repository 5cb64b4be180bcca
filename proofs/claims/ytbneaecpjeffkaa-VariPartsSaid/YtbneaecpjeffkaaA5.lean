/-
  The walk of the document's All.
-/
import Derived.Test.YtbneaecpjeffkaaA4
namespace Go.Proofs.Ytbneaecpjeffkaa
open Go.RowKit Go.Proofs.YtbneaecpjeffkaaW.PrintWords

theorem refget_n (A : Option Addr) (n c : Nat) (l : List Int) (hn : l.length = n) (w : World) (h : Bs w A c l) :
    Calls Try.prog 11 #[.slice A n c] w fun e w' => e = .returned (.tuple #[.int .u64 ((Pl.get l).1 : Nat), .int .i64 ((Pl.get l).2.1 : Nat), .int .i64 (Pl.get l).2.2]) ∧ w = w' := by subst hn; exact refget_calls A c l w h

set_option maxRecDepth 100000 in
set_option maxHeartbeats 2000000 in
theorem refall_calls (A : Option Addr) (c : Nat) (l : List Int) (hl : l.length ≤ 1000) (w : World) (h : Bs w A c l) :
    Calls Try.prog 13 #[.slice A l.length c] w fun e w' => ∃ A' c', e = .returned (.tuple #[.slice A' (Pl.all l).1.length c', .int .i64 ((Pl.all l).2.1 : Nat), .int .i64 (Pl.all l).2.2]) ∧ OwnU w' w.heap.size A' c' (Pl.all l).1 ∧ Below w.heap.size w w' := by
  have HR := Aside0.mk (all_rng (l := l) (fun x hx => (h.rng x hx).1))
  have hcap := h.cap
  have H := Aside0.mk h
  clear h
  go_enter Try.func13, Try.ntmps13
  go_wp2
  go_loopw [5, 6, 7, 8, 9] (fun o a _ _ _ wr => ∃ (pre : List Int) (off : Nat), off ≤ l.length ∧ a = .int .i64 off ∧ pre.length ≤ off ∧ Aside0 (Pl.all l = Pl.allFrom ((l.drop off).length + 1) (l.drop off) off pre) ∧ Aside0 (wr.ownsRow w.heap.size 24 1 o pre.length (nums .u64 pre)) ∧ Below w.heap.size w wr)
    (fun _ a _ _ _ _ => l.length - (intOf a).toNat)
  case atStart => exact ⟨[], 0, by omega, rfl, by simp, ⟨rfl⟩, ⟨own_lit w w.heap.size 24 .u64 [] (Nat.le_refl _) (by decide)⟩, (Below.refl _ _).alloc (Nat.le_refl _) _⟩
  case round =>
    obtain ⟨pre, off, hoff, rfl, hpl, HA, hown, hB⟩ := hrel
    have HPL := Aside0.mk hpl
    by_cases hlt : off < l.length
    · obtain ⟨A2, cut1, kb⟩ := drop_cut_n A c off l.length l rfl (by omega) hcap
      have HNE := Aside0.mk (show l.drop off ≠ [] from by
        intro h
        have := congrArg List.length h
        simp at this
        omega)
      obtain ⟨v, m, e, hg⟩ : ∃ v m e, Pl.get (l.drop off) = (v, m, e) := ⟨_, _, _, rfl⟩
      have HG := Aside0.mk hg
      clear hg
      have G := refget_n A2 (l.length - off) (c - off) (l.drop off) (by simp) wr (kb wr (H.out.below hB))
      rw [HG.out] at G
      clear kb
      go_wp2_with fail
      refine G.mono ?_
      rintro ew w2 ⟨rfl, rfl⟩
      clear G
      by_cases he : e = 0
      · subst he
        have hb := Pl.get_bound (l := l.drop off) (by rw [HG.out])
        rw [HG.out, List.length_drop] at hb
        simp only at hb
        have HA2 : Aside0 (Pl.all l = Pl.allFrom ((l.drop (off + m)).length + 1) (l.drop (off + m)) (off + m) (pre ++ [(v : Int)])) := by
          refine ⟨?_⟩
          rw [HA.out, allFrom_on HNE.out (by rw [HG.out]), HG.out, List.drop_drop]
          exact Pl.allFrom_more _ _ _ _ _ (by simp; omega) (by simp)
        go_wp2_with (at_builtin; refine print_append_num (w0 := w) w.heap.size rfl _ _ 28 24 .u64 8 rfl Try.underlying28 info24 (by decide) _ pre (v : Int) rfl rfl (by exact hown.out) (by exact hB) (by exact hB.size) (by have := HPL.out; omega) ?_)
        intro v2 w2 hown2 hB2 _ _
        have HO := Aside0.mk hown2
        clear hown2
        go_wp2
        go_roundw
        case rel => exact ⟨pre ++ [(v : Int)], off + m, by omega, by go_num, by simp; omega, HA2, ⟨by simpa using HO.out⟩, hB2⟩
        case measure =>
          simp [intOf]
          omega
      · have t1 : (e != 0) = true := by simp [he]
        have HS := Aside0.mk (show Pl.all l = ([], off, e) by rw [HA.out, allFrom_stop HNE.out (by rw [HG.out]; exact he), HG.out])
        clear he
        go_wp2
        go_ret3
        refine ⟨none, 0, ?_, ⟨?_, HR.out⟩, hB⟩
        · rw [HS.out]; rfl
        · rw [HS.out]; exact own_nil _ _ _ _
    · obtain rfl : off = l.length := by omega
      have HS := Aside0.mk (show Pl.all l = (pre, 0, 0) by rw [HA.out]; simp [Pl.allFrom])
      obtain ⟨A', c', rfl⟩ := own_slice hown.out
      go_wp2
      go_ret3
      refine ⟨A', c', ?_, ⟨?_, HR.out⟩, hB⟩
      · rw [HS.out]; rfl
      · rw [HS.out]; exact hown.out
end Go.Proofs.Ytbneaecpjeffkaa
