/-
  The walk of Get.
-/
import Derived.Test.YtbneaecpjeffkaaV
import Derived.Test.YtbneaecpjeffkaaNum
namespace Go.Proofs.Ytbneaecpjeffkaa
open Go.RowKit Go.Proofs.YtbneaecpjeffkaaW.PrintWords

theorem ret3_eq {k1 k2 k3 : IntKind} {a a' b b' c c' : Int} (h1 : a = a') (h2 : b = b') (h3 : c = c') : Ending.returned (.tuple #[.int k1 a, .int k2 b, .int k3 c]) = .returned (.tuple #[.int k1 a', .int k2 b', .int k3 c']) := by rw [h1, h2, h3]
set_option maxHeartbeats 2000000 in
theorem get_calls (A : Option Addr) (c : Nat) (l : List Int) (w : World) (h : Bs w A c l) :
    Calls Try.prog 10 #[.slice A l.length c] w fun e w' => e = .returned (.tuple #[.int .u64 ((Pl.get l).1 : Nat), .int .i64 ((Pl.get l).2.1 : Nat), .int .i64 (Pl.get l).2.2]) ∧ w = w' := by
  have hlen : (l.length : Int) ≤ 9223372036854775807 := by have := h.reads.2.1; omega
  have H := Aside0.mk h
  clear h
  go_enter Try.func10, Try.ntmps10
  go_wp2
  go_step3
  go_wp2
  go_step3
  go_wp2
  go_loop [5, 6, 7, 12] (fun n e k i => ∃ j m : Nat, j ≤ l.length ∧ j ≤ 9 ∧ i = .int .i64 j ∧ n = .int .u64 m ∧ e = .int .i64 13 ∧ k = .int .i64 0 ∧ Aside0 (m < 128 ^ j ∧ Pl.get l = Pl.getFrom (l.drop j) j m)) (fun _ _ _ i => l.length - (intOf i).toNat)
  case atStart => exact ⟨0, 0, by omega, by omega, rfl, rfl, rfl, rfl, ⟨by decide, rfl⟩⟩
  case round =>
    obtain ⟨j, m, hj, hj9, rfl, rfl, rfl, rfl, HM⟩ := hrel
    by_cases hlt : j < l.length
    · obtain ⟨ad, rfl, hc, h0, h1⟩ := H.out.at_ j hlt
      have HD := Aside0.mk (show l.drop j = rd l j :: l.drop (j + 1) by rw [List.drop_eq_getElem_cons hlt]; simp [rd, List.getD_eq_getElem?_getD, List.getElem?_eq_getElem hlt])
      generalize rd l j = x at *
      have HS := Aside0.mk (fun h9 => seven_lt m j x HM.out.1 hj9 h9 h0)
      have HV := Aside0.mk (fun h9 => or_val m j x HM.out.1 hj9 h9 h0 h1)
      by_cases c1 : j = 9
      · have t1 : ((j : Int) == 9) = true := by rw [beq_iff_eq]; omega
        have C1 := Aside0.mk c1
        clear c1
        by_cases c2 : 1 < x
        · have hg := Aside0.mk (show Pl.get l = (0, 0, 10) by rw [HM.out.2, HD.out, Pl.getFrom, if_pos ⟨C1.out, c2⟩])
          go_wp2
          go_ret3
          exact ⟨by rw [hg.out]; rfl, rfl⟩
        · by_cases c3 : x = 0
          · have hj1 : (0 : Int) < (j : Int) := by have := C1.out; omega
            have hg := Aside0.mk (show Pl.get l = (0, 0, 11) by rw [HM.out.2, HD.out, Pl.getFrom, if_neg (fun h => c2 h.2), if_pos ⟨c3, by omega⟩])
            have t2 : (x == 0) = true := by rw [beq_iff_eq]; exact c3
            have C3 := Aside0.mk c3
            clear c3
            go_wp2
            go_ret3
            exact ⟨by rw [hg.out]; rfl, rfl⟩
          · have t2 : (x == 0) = false := by rw [beq_eq_false_iff_ne]; exact c3
            have hx : x < 128 := by omega
            have hg := Aside0.mk (show Pl.get l = (m + x.toNat % 128 * 128 ^ j, j + 1, 0) by rw [HM.out.2, HD.out, Pl.getFrom, if_neg (fun h => c2 h.2), if_neg (fun h => c3 h.1), if_pos hx])
            have hv := Aside0.mk (HV.out (fun _ => by omega))
            have C3 := Aside0.mk c3
            clear c3
            go_wp2
            go_ret3
            refine ⟨?_, rfl⟩
            rw [hg.out]
            exact ret3_eq hv.out (by simp) rfl
      · have t1 : ((j : Int) == 9) = false := by rw [beq_eq_false_iff_ne]; omega
        have hv := Aside0.mk (HV.out (fun h => absurd h c1))
        have hs := Aside0.mk (HS.out (fun h => absurd h c1))
        have C1 := Aside0.mk c1
        clear c1
        by_cases c3 : x = 0
        · have t2 : (x == 0) = true := by rw [beq_iff_eq]; exact c3
          have C3 := Aside0.mk c3
          clear c3
          by_cases c4 : 0 < j
          · have hg := Aside0.mk (show Pl.get l = (0, 0, 11) by rw [HM.out.2, HD.out, Pl.getFrom, if_neg (fun h => C1.out h.1), if_pos ⟨C3.out, c4⟩])
            have hj1 : (0 : Int) < (j : Int) := by omega
            go_wp2
            go_ret3
            exact ⟨by rw [hg.out]; rfl, rfl⟩
          · have hj1 : ¬ (0 : Int) < (j : Int) := by omega
            have hx : x < 128 := by have := C3.out; omega
            have hg := Aside0.mk (show Pl.get l = (m + x.toNat % 128 * 128 ^ j, j + 1, 0) by rw [HM.out.2, HD.out, Pl.getFrom, if_neg (fun h => C1.out h.1), if_neg (fun h => c4 h.2), if_pos hx])
            go_wp2
            go_ret3
            refine ⟨?_, rfl⟩
            rw [hg.out]
            exact ret3_eq hv.out (by simp) rfl
        · have t2 : (x == 0) = false := by rw [beq_eq_false_iff_ne]; exact c3
          have C3 := Aside0.mk c3
          clear c3
          by_cases c4 : x < 128
          · have hg := Aside0.mk (show Pl.get l = (m + x.toNat % 128 * 128 ^ j, j + 1, 0) by rw [HM.out.2, HD.out, Pl.getFrom, if_neg (fun h => C1.out h.1), if_neg (fun h => C3.out h.1), if_pos c4])
            go_wp2
            go_ret3
            refine ⟨?_, rfl⟩
            rw [hg.out]
            exact ret3_eq hv.out (by simp) rfl
          · have hg := Aside0.mk (show Pl.get l = Pl.getFrom (l.drop (j + 1)) (j + 1) (m + x.toNat % 128 * 128 ^ j) by rw [HM.out.2, HD.out, Pl.getFrom, if_neg (fun h => C1.out h.1), if_neg (fun h => C3.out h.1), if_neg c4])
            have hj8 : j + 1 ≤ 9 := by have := C1.out; omega
            go_wp2
            go_round
            case rel => exact ⟨j + 1, m + x.toNat % 128 * 128 ^ j, by omega, hj8, by go_num, int_eq hv.out, rfl, rfl, ⟨hs.out.2.1, hg.out⟩⟩
            case measure => simp [intOf]; omega
    · have hg := Aside0.mk (show Pl.get l = (0, 0, 13) by rw [HM.out.2, List.drop_eq_nil_of_le (by omega)]; rfl)
      go_wp2
      go_ret3
      exact ⟨by rw [hg.out]; rfl, rfl⟩
theorem get_n (A : Option Addr) (n c : Nat) (l : List Int) (hn : l.length = n) (w : World) (h : Bs w A c l) :
    Calls Try.prog 10 #[.slice A n c] w fun e w' => e = .returned (.tuple #[.int .u64 ((Pl.get l).1 : Nat), .int .i64 ((Pl.get l).2.1 : Nat), .int .i64 (Pl.get l).2.2]) ∧ w = w' := by subst hn; exact get_calls A c l w h
end Go.Proofs.Ytbneaecpjeffkaa
