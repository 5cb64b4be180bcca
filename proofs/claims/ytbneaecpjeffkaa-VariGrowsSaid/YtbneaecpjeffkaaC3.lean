/-
  The walk of VariGrows.
-/
import Derived.Test.YtbneaecpjeffkaaC1
import Derived.Test.YtbneaecpjeffkaaR
namespace Go.Proofs.Ytbneaecpjeffkaa
open Go.RowKit Go.Proofs.YtbneaecpjeffkaaW.PrintWords

theorem put_mono : ∀ (f m n : Nat), m < f → n ≤ m → (Pl.put n).length ≤ (Pl.put m).length
  | 0, _, _, h, _ => by omega
  | f + 1, m, n, h, hnm => by
    by_cases c : n < 128
    · have := put_pos m
      rw [put_small c]
      simp only [List.length_singleton]
      omega
    · rw [put_big c, put_big (show ¬ m < 128 by omega)]
      have := put_mono f (m / 128) (n / 128) (by omega) (by omega)
      simpa using this
theorem put_up {n : Nat} (h : 0 < n) : (Pl.put (n * 128)).length = (Pl.put n).length + 1 := by
  rw [put_big (show ¬ n * 128 < 128 by omega), show n * 128 / 128 = n by omega]
  rfl
theorem put_more : ∀ (f n : Nat), n < f → ∀ i : Nat, i < (Pl.put n).length → (128 ≤ rd (Pl.put n) i ↔ i + 1 < (Pl.put n).length)
  | 0, _, h, _, _ => by omega
  | f + 1, n, h, i, hi => by
    by_cases c : n < 128
    · rw [put_small c] at hi ⊢
      simp only [List.length_singleton] at hi ⊢
      obtain rfl : i = 0 := by omega
      simp [rd]
      omega
    · rw [put_big c] at hi ⊢
      simp only [List.length_cons] at hi ⊢
      have hp := put_pos (n / 128)
      cases i with
      | zero =>
        simp [rd]
        omega
      | succ i =>
        have ih := put_more f (n / 128) (by omega) i (by omega)
        rw [show rd (((n % 128 + 128 : Nat) : Int) :: Pl.put (n / 128)) ((i + 1 : Nat) : Int) = rd (Pl.put (n / 128)) (i : Nat) from by
          unfold rd
          rw [Int.toNat_natCast, Int.toNat_natCast, List.getD_cons_succ]]
        rw [ih]
        omega

set_option maxRecDepth 100000 in
set_option maxHeartbeats 4000000 in
theorem grows_main (n m : Nat) (hn : n < U64) (hm : m < U64) (w : World) :
    Calls Try.prog 8 #[.int .u64 n, .int .u64 m] w fun e w' => e = .returned (.bool true) ∧ Below w.heap.size w w' := by
  have HN := Aside0.mk hn
  have HM := Aside0.mk hm
  clear hn hm
  by_cases hmn : m < n
  · have t0 : (m : Int) < (n : Int) := by omega
    obtain ⟨ka, hka⟩ : ∃ k, (Pl.put m).length = k := ⟨_, rfl⟩
    obtain ⟨kb, hkb⟩ : ∃ k, (Pl.put n).length = k := ⟨_, rfl⟩
    have hle : ka ≤ kb := by rw [← hka, ← hkb]; exact put_mono (n + 1) n m (by omega) (by omega)
    have HUP := Aside0.mk (fun h : 0 < m => (put_up h).trans (by rw [hka]) : 0 < m → (Pl.put (m * 128)).length = ka + 1)
    have HMO := Aside0.mk (put_more (n + 1) n (by omega))
    have hkp : 0 < kb := by rw [← hkb]; exact put_pos n
    have hk10 : kb ≤ 10 := by rw [← hkb]; exact put_ten HN.out
    have HKA := Aside0.mk hka
    have HKB := Aside0.mk hkb
    have t1 : ¬ (kb : Int) < (ka : Int) := by omega
    clear hka hkb
    obtain ⟨L, hL⟩ : ∃ L : Int, (144115188075855872 : Int) = L := ⟨_, rfl⟩
    go_enter Try.func8, Try.ntmps8
    rw [hL]
    have HLL := Aside0.mk hL
    clear hL
    go_wp2_with fail
    refine (len_at m HM.out ka HKA.out w).mono ?_
    rintro e w4 ⟨rfl, rfl⟩
    simp only []
    repeat go_step
    refine (len_at n HN.out kb HKB.out w).mono ?_
    rintro e w4 ⟨rfl, rfl⟩
    simp only []
    repeat go_step
    refine (put_at n HN.out kb HKB.out w).mono ?_
    rintro e w2 ⟨A2, c2, rfl, h2, b2⟩
    have H2 := Aside0.mk h2
    have HS := Aside0.mk h2.ks
    have B2 := Aside0.mk b2
    clear h2 b2
    simp only []
    repeat go_step
    go_loop [6] (fun i => ∃ j : Nat, j ≤ kb ∧ i = .int .i64 j) (fun i => kb - (intOf i).toNat)
    case atStart => exact ⟨0, by omega, rfl⟩
    case round =>
      obtain ⟨j, hj, rfl⟩ := hrel
      by_cases hlt : j < kb
      · obtain ⟨ad, rfl, hc, h0, h1⟩ := HS.out.at_ j (by rw [HKB.out]; exact hlt)
        have hmo := HMO.out j (by rw [HKB.out]; exact hlt)
        rw [HKB.out] at hmo
        generalize rd (Pl.put n) j = x at *
        by_cases c1 : j + 1 < kb
        · have t3 : (128 : Int) ≤ x := hmo.2 c1
          have t4 : (j : Int) < (kb : Int) - 1 := by omega
          clear hmo
          go_wp2
          go_round
          case rel => exact ⟨j + 1, by omega, by go_num⟩
          case measure => simp [intOf]; omega
        · have t3 : ¬ (128 : Int) ≤ x := fun h => c1 (hmo.1 h)
          have t4 : ¬ (j : Int) < (kb : Int) - 1 := by omega
          clear hmo
          go_wp2
          go_round
          case rel => exact ⟨j + 1, by omega, by go_num⟩
          case measure => simp [intOf]; omega
      · obtain rfl : j = kb := by omega
        by_cases c1 : 0 < m
        · have t3 : (0 : Int) < (m : Int) := by omega
          by_cases c2 : m < 144115188075855872
          · have t4 : (m : Int) < L := by have := HLL.out; omega
            obtain ⟨a2, ha2⟩ : ∃ a2, m * 128 = a2 := ⟨_, rfl⟩
            have hq : IntKind.u64.wrap ((m : Int) * 128) = (a2 : Int) := by rw [show (m : Int) * 128 = (a2 : Int) by omega, wrap64n _ (by omega)]
            have HA2 := Aside0.mk (show a2 < U64 by unfold U64; omega)
            have HL2 := Aside0.mk (show (Pl.put a2).length = ka + 1 by rw [← ha2]; exact HUP.out c1)
            clear c1 c2 ha2
            repeat go_step
            refine (len_at a2 HA2.out (ka + 1) HL2.out w2).mono ?_
            rintro e w4 ⟨rfl, rfl⟩
            simp only []
            repeat go_step
            refine (len_at m HM.out ka HKA.out w2).mono ?_
            rintro e w4 ⟨rfl, rfl⟩
            simp only []
            repeat go_step
            refine (len_at n HN.out j HKB.out w2).mono ?_
            rintro e w4 ⟨rfl, rfl⟩
            simp only []
            repeat go_step
            refine (awake_calls w2).mono ?_
            rintro e w5 ⟨rfl, b5⟩
            have B5 := Aside0.mk (below_step B2.out b5)
            clear b5
            simp only []
            repeat go_step
            go_ret
            exact ⟨by simp, B5.out⟩
          · have t4 : ¬ (m : Int) < L := by have := HLL.out; omega
            clear c1 c2
            go_wp2_with fail
            refine (len_at n HN.out j HKB.out w2).mono ?_
            rintro e w4 ⟨rfl, rfl⟩
            simp only []
            repeat go_step
            refine (awake_calls w2).mono ?_
            rintro e w5 ⟨rfl, b5⟩
            have B5 := Aside0.mk (below_step B2.out b5)
            clear b5
            simp only []
            repeat go_step
            go_ret
            exact ⟨by simp, B5.out⟩
        · have t3 : ¬ (0 : Int) < (m : Int) := by omega
          clear c1
          go_wp2_with fail
          refine (len_at n HN.out j HKB.out w2).mono ?_
          rintro e w4 ⟨rfl, rfl⟩
          simp only []
          repeat go_step
          refine (awake_calls w2).mono ?_
          rintro e w5 ⟨rfl, b5⟩
          have B5 := Aside0.mk (below_step B2.out b5)
          clear b5
          simp only []
          repeat go_step
          go_ret
          exact ⟨by simp, B5.out⟩
  · have t0 : ¬ (m : Int) < (n : Int) := by omega
    obtain ⟨ka, hka⟩ : ∃ k, (Pl.put n).length = k := ⟨_, rfl⟩
    obtain ⟨kb, hkb⟩ : ∃ k, (Pl.put m).length = k := ⟨_, rfl⟩
    have hle : ka ≤ kb := by rw [← hka, ← hkb]; exact put_mono (m + 1) m n (by omega) (by omega)
    have HUP := Aside0.mk (fun h : 0 < n => (put_up h).trans (by rw [hka]) : 0 < n → (Pl.put (n * 128)).length = ka + 1)
    have HMO := Aside0.mk (put_more (m + 1) m (by omega))
    have hkp : 0 < kb := by rw [← hkb]; exact put_pos m
    have hk10 : kb ≤ 10 := by rw [← hkb]; exact put_ten HM.out
    have HKA := Aside0.mk hka
    have HKB := Aside0.mk hkb
    have t1 : ¬ (kb : Int) < (ka : Int) := by omega
    clear hka hkb
    obtain ⟨L, hL⟩ : ∃ L : Int, (144115188075855872 : Int) = L := ⟨_, rfl⟩
    go_enter Try.func8, Try.ntmps8
    rw [hL]
    have HLL := Aside0.mk hL
    clear hL
    go_wp2_with fail
    refine (len_at n HN.out ka HKA.out w).mono ?_
    rintro e w4 ⟨rfl, rfl⟩
    simp only []
    repeat go_step
    refine (len_at m HM.out kb HKB.out w).mono ?_
    rintro e w4 ⟨rfl, rfl⟩
    simp only []
    repeat go_step
    refine (put_at m HM.out kb HKB.out w).mono ?_
    rintro e w2 ⟨A2, c2, rfl, h2, b2⟩
    have H2 := Aside0.mk h2
    have HS := Aside0.mk h2.ks
    have B2 := Aside0.mk b2
    clear h2 b2
    simp only []
    repeat go_step
    go_loop [6] (fun i => ∃ j : Nat, j ≤ kb ∧ i = .int .i64 j) (fun i => kb - (intOf i).toNat)
    case atStart => exact ⟨0, by omega, rfl⟩
    case round =>
      obtain ⟨j, hj, rfl⟩ := hrel
      by_cases hlt : j < kb
      · obtain ⟨ad, rfl, hc, h0, h1⟩ := HS.out.at_ j (by rw [HKB.out]; exact hlt)
        have hmo := HMO.out j (by rw [HKB.out]; exact hlt)
        rw [HKB.out] at hmo
        generalize rd (Pl.put m) j = x at *
        by_cases c1 : j + 1 < kb
        · have t3 : (128 : Int) ≤ x := hmo.2 c1
          have t4 : (j : Int) < (kb : Int) - 1 := by omega
          clear hmo
          go_wp2
          go_round
          case rel => exact ⟨j + 1, by omega, by go_num⟩
          case measure => simp [intOf]; omega
        · have t3 : ¬ (128 : Int) ≤ x := fun h => c1 (hmo.1 h)
          have t4 : ¬ (j : Int) < (kb : Int) - 1 := by omega
          clear hmo
          go_wp2
          go_round
          case rel => exact ⟨j + 1, by omega, by go_num⟩
          case measure => simp [intOf]; omega
      · obtain rfl : j = kb := by omega
        by_cases c1 : 0 < n
        · have t3 : (0 : Int) < (n : Int) := by omega
          by_cases c2 : n < 144115188075855872
          · have t4 : (n : Int) < L := by have := HLL.out; omega
            obtain ⟨a2, ha2⟩ : ∃ a2, n * 128 = a2 := ⟨_, rfl⟩
            have hq : IntKind.u64.wrap ((n : Int) * 128) = (a2 : Int) := by rw [show (n : Int) * 128 = (a2 : Int) by omega, wrap64n _ (by omega)]
            have HA2 := Aside0.mk (show a2 < U64 by unfold U64; omega)
            have HL2 := Aside0.mk (show (Pl.put a2).length = ka + 1 by rw [← ha2]; exact HUP.out c1)
            clear c1 c2 ha2
            repeat go_step
            refine (len_at a2 HA2.out (ka + 1) HL2.out w2).mono ?_
            rintro e w4 ⟨rfl, rfl⟩
            simp only []
            repeat go_step
            refine (len_at n HN.out ka HKA.out w2).mono ?_
            rintro e w4 ⟨rfl, rfl⟩
            simp only []
            repeat go_step
            refine (len_at m HM.out j HKB.out w2).mono ?_
            rintro e w4 ⟨rfl, rfl⟩
            simp only []
            repeat go_step
            refine (awake_calls w2).mono ?_
            rintro e w5 ⟨rfl, b5⟩
            have B5 := Aside0.mk (below_step B2.out b5)
            clear b5
            simp only []
            repeat go_step
            go_ret
            exact ⟨by simp, B5.out⟩
          · have t4 : ¬ (n : Int) < L := by have := HLL.out; omega
            clear c1 c2
            go_wp2_with fail
            refine (len_at m HM.out j HKB.out w2).mono ?_
            rintro e w4 ⟨rfl, rfl⟩
            simp only []
            repeat go_step
            refine (awake_calls w2).mono ?_
            rintro e w5 ⟨rfl, b5⟩
            have B5 := Aside0.mk (below_step B2.out b5)
            clear b5
            simp only []
            repeat go_step
            go_ret
            exact ⟨by simp, B5.out⟩
        · have t3 : ¬ (0 : Int) < (n : Int) := by omega
          clear c1
          go_wp2_with fail
          refine (len_at m HM.out j HKB.out w2).mono ?_
          rintro e w4 ⟨rfl, rfl⟩
          simp only []
          repeat go_step
          refine (awake_calls w2).mono ?_
          rintro e w5 ⟨rfl, b5⟩
          have B5 := Aside0.mk (below_step B2.out b5)
          clear b5
          simp only []
          repeat go_step
          go_ret
          exact ⟨by simp, B5.out⟩

theorem grows_int (x y : Int) (w : World) (h : (Lit.int .u64 x).wf = true) (h' : (Lit.int .u64 y).wf = true) :
    Calls Try.prog 8 #[.int .u64 x, .int .u64 y] w fun e w' => e = .returned (.bool true) ∧ Below w.heap.size w w' := by
  obtain ⟨n, rfl, hn⟩ := u64_of h
  obtain ⟨m, rfl, hm⟩ := u64_of h'
  exact grows_main n m hn hm w
end Go.Proofs.Ytbneaecpjeffkaa
