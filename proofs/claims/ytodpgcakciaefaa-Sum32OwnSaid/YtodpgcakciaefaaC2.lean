/-
  The walk of the document's Open.
-/
import Derived.Test.YtodpgcakciaefaaC1
namespace Go.Proofs.Ytodpgcakciaefaa
open Go.RowKit Go.Proofs.YtodpgcakciaefaaW.PrintWords

theorem opened_eq (l : List Int) (n : Nat) (hn : l.length = n + 4) : opened l = if sealed (l.take n) = l then (l.take n, 0) else ([], 18) := by
  unfold opened
  rw [if_neg (by omega), show l.length - 4 = n from by omega]
  have e : (l.drop n = tl (Pl.sum (l.take n))) ↔ sealed (l.take n) = l := by
    unfold sealed
    constructor
    · intro h
      rw [← h, List.take_append_drop]
    · intro h
      have h2 : l.take n ++ tl (Pl.sum (l.take n)) = l.take n ++ l.drop n := by rw [h, List.take_append_drop]
      exact (List.append_cancel_left h2).symm
  by_cases h : l.drop n = tl (Pl.sum (l.take n))
  · rw [if_pos h, if_pos (e.1 h)]
  · rw [if_neg h, if_neg (fun h' => h (e.2 h'))]

set_option maxHeartbeats 1000000 in
theorem refopen_long (A : Option Addr) (c n : Nat) (l : List Int) (w : World) (h : Bs w A c l) (hn : l.length = n + 4) (hm : l.length ≤ 140737488350000) :
    Calls Try.prog 11 #[.slice A l.length c] w fun e w' => ∃ A' c', e = .returned (.tuple #[.slice A' (opened l).1.length c', .int .i64 (opened l).2]) ∧ Bs w' A' c' (opened l).1 ∧ Below w.heap.size w w' := by
  have h4 : ¬ (l.length : Int) < 4 := by omega
  obtain ⟨A2, _, cut1, hr⟩ := cuts A c n l hn h.cap
  obtain ⟨_, ht⟩ := hr w h
  have H := Aside0.mk h
  have HN := Aside0.mk hn
  have HT := Aside0.mk ht
  have htl : (l.take n).length = n := by simp; omega
  have HTL := Aside0.mk htl
  have HO := Aside0.mk (opened_eq l n hn)
  have hsl : (sealed (l.take n)).length = l.length := by rw [sealed_len, htl, hn]
  have HSL := Aside0.mk hsl
  have hnn : n ≤ 140737488350000 := by omega
  have hl0 : (l.length : Int) = (n : Int) + 4 := by omega
  have HL0 := Aside0.mk hl0
  have hln : (l.length : Int) ≤ 140737488350000 := by omega
  have hl4 : (4 : Int) ≤ (l.length : Int) := by omega
  clear h hn hr ht htl hsl hl0 hm
  generalize l.take n = lt at *
  go_enter Try.func11, Try.ntmps11
  go_wp2_with fail
  refine (refseal_calls A n c lt HTL.out w HT.out (by rw [HTL.out]; exact hnn)).mono ?_
  rintro e w1 ⟨A1, c1, rfl, h1, b1⟩
  have H1 := Aside0.mk h1.bs
  have B1 := Aside0.mk b1
  clear h1 b1
  generalize hsd : sealed lt = sd at *
  have HSD := Aside0.mk hsd
  clear hsd
  have hn4 := HL0.out
  have h04 := Aside0.mk hn4
  clear hn4
  go_wp2
  go_loopw [5] (fun v wr => ∃ k : Nat, k ≤ l.length ∧ v = .int .i64 k ∧ Aside0 (sd.take k = l.take k) ∧ Drawn0 w1 wr) (fun v _ => l.length - (intOf v).toNat)
  case atStart => exact ⟨0, by omega, rfl, ⟨by simp⟩, Drawn0.refl _⟩
  case round =>
    obtain ⟨k, hk, rfl, HK, ⟨q, rfl⟩⟩ := hrel
    by_cases hlt : k < l.length
    · have hlt' : k < sd.length := by rw [HSL.out]; exact hlt
      obtain ⟨ad, rfl, hc, _, _⟩ := H1.out.at_ k hlt'
      obtain ⟨ad', rfl, hc', _, _⟩ := (H.out.below B1.out).at_ k hlt
      have i0 : (0 : Int) ≤ (k : Int) := by omega
      have i1 : (k : Int) < (l.length : Int) := by omega
      have i2 : (k : Int) < (n : Int) + 4 := by have := HL0.out; omega
      by_cases he : rd sd k = rd l k
      · have hb : (rd sd k != rd l k) = false := by simp [he]
        have HK1 := Aside0.mk ((take_eq_succ HK.out hlt' hlt).2 he)
        clear he HK
        go_wp2
        go_quiet (fail)
        go_wp2
        go_roundw
        case rel => exact ⟨k + 1, by omega, by go_num, HK1, ⟨⟨_, rfl⟩⟩⟩
        case measure => simp [intOf]; omega
      · have hb : (rd sd k != rd l k) = true := by simp [he]
        have HK1 := Aside0.mk (fun e => he ((take_eq_succ HK.out hlt' hlt).1 e))
        clear he HK
        go_wp2
        go_quiet (fail)
        go_wp2
        go_ret2
        have hne : sd ≠ l := fun e => HK1.out (by rw [e])
        rw [HO.out, if_neg hne]
        exact ⟨none, 0, rfl, ⟨ReadsInt.nil _ _, by simp, by simp⟩, pw_below_drewN (pw_below_drewN B1.out _) _⟩
    · have i2 : ¬ (k : Int) < (n : Int) + 4 := by have := HL0.out; omega
      have heq := Aside0.mk (show sd = l by
        have := HK.out
        rwa [List.take_of_length_le (by rw [HSL.out]; omega), List.take_of_length_le (by omega)] at this)
      go_wp2
      go_ret2
      rw [HO.out, if_pos heq.out]
      exact ⟨A, c, by rw [HTL.out]; rfl, (HT.out.below B1.out).drewN _, pw_below_drewN B1.out _⟩

/-- The document's Open, of whatever bytes. -/
theorem refopen_calls (A : Option Addr) (c : Nat) (l : List Int) (w : World) (h : Bs w A c l) (hm : l.length ≤ 140737488350000) :
    Calls Try.prog 11 #[.slice A l.length c] w fun e w' => ∃ A' c', e = .returned (.tuple #[.slice A' (opened l).1.length c', .int .i64 (opened l).2]) ∧ Bs w' A' c' (opened l).1 ∧ Below w.heap.size w w' := by
  by_cases hl : l.length < 4
  · have hl' : (l.length : Int) < 4 := by omega
    have HL := Aside0.mk hl
    go_enter Try.func11, Try.ntmps11
    go_wp2
    go_ret2
    unfold opened
    rw [if_pos HL.out]
    exact ⟨none, 0, rfl, ⟨ReadsInt.nil _ _, by simp, by simp⟩, Below.refl _ _⟩
  · exact refopen_long A c (l.length - 4) l w h (by omega) hm

end Go.Proofs.Ytodpgcakciaefaa
