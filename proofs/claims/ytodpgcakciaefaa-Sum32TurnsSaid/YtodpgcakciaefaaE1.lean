/-
  The walk of Sum32Turns.
-/
import Derived.Test.YtodpgcakciaefaaD1
import Derived.Test.YtodpgcakciaefaaTurn
namespace Go.Proofs.Ytodpgcakciaefaa
open Go.RowKit Go.Proofs.YtodpgcakciaefaaW.PrintWords

theorem run_app (x : Nat) (a b : List Int) : Pl.run x (a ++ b) = Pl.run (Pl.run x a) b := by simp [Pl.run]
/-- Sealed bytes leave one register. -/
theorem run_sealed (l : List Int) (h : ∀ x ∈ l, 0 ≤ x ∧ x < 256) : Pl.run 4294967295 (sealed l) = Pl.ones 32 4294967295 := by
  unfold sealed
  rw [run_app]
  have e := Pl.run_four (Pl.run 4294967295 l) (Pl.sum l) (sum_lt h)
  rw [show tl (Pl.sum l) = [((Pl.sum l % 256 : Nat) : Int), ((Pl.sum l / 256 % 256 : Nat) : Int), ((Pl.sum l / 65536 % 256 : Nat) : Int), ((Pl.sum l / 16777216 % 256 : Nat) : Int)] from rfl, e]
  unfold Pl.sum
  rw [← Nat.xor_assoc, Nat.xor_self, Nat.zero_xor]
theorem opened_turned (V : List Int) (n : Nat) (hn : V.length = n + 4) (hb : ∀ x ∈ V, 0 ≤ x ∧ x < 256) (hR : Pl.run 4294967295 V ≠ Pl.ones 32 4294967295) : opened V = ([], 18) := by
  rw [opened_eq V n hn, if_neg]
  intro h
  apply hR
  have := run_sealed (V.take n) (fun x hx => hb x (List.mem_of_mem_take hx))
  rwa [h] at this

theorem from_ok (f : Int) (m : Nat) (hm : 0 < m) (hm2 : m ≤ 100000) : ∃ F : Nat, (wrap64 (f.tmod (m : Int) + (m : Int))).tmod (m : Int) = (F : Int) ∧ F < m := by
  have h1 : -(m : Int) < f.tmod (m : Int) := by
    have e := Int.natAbs_tmod f (m : Int)
    have := Nat.mod_lt f.natAbs (y := (m : Int).natAbs) (by omega)
    omega
  have h2 : f.tmod (m : Int) < (m : Int) := Int.tmod_lt_of_pos f (by omega)
  generalize f.tmod (m : Int) = r at *
  have e : wrap64 (r + (m : Int)) = r + m := by unfold wrap64; omega
  rw [e]
  have h3 := Int.tmod_nonneg (a := r + (m : Int)) (m : Int) (by omega)
  have h4 := Int.tmod_lt_of_pos (r + (m : Int)) (b := (m : Int)) (by omega)
  exact ⟨((r + (m : Int)).tmod (m : Int)).toNat, by omega, by omega⟩

theorem bit_on (P i : Nat) (hP : P < 4294967296) (h : P.testBit i = true) : (bits .and .u32 ((P : Int) / 2 ^ i) 1 == 1) = true := by
  have e : (P : Int) / 2 ^ i = ((P / 2 ^ i : Nat) : Int) := by simp
  have h1 : P / 2 ^ i < 4294967296 := Nat.lt_of_le_of_lt (Nat.div_le_self _ _) hP
  rw [e, show (1 : Int) = ((1 : Nat) : Int) from rfl, u32_and_nat _ _ h1 (by omega), Nat.and_one_is_mod]
  rw [Nat.testBit_eq_decide_div_mod_eq] at h
  have h2 : P / 2 ^ i % 2 = 1 := by simpa using h
  rw [h2]; rfl
theorem bit_off (P i : Nat) (hP : P < 4294967296) (h : P.testBit i = false) : (bits .and .u32 ((P : Int) / 2 ^ i) 1 == 1) = false := by
  have e : (P : Int) / 2 ^ i = ((P / 2 ^ i : Nat) : Int) := by simp
  have h1 : P / 2 ^ i < 4294967296 := Nat.lt_of_le_of_lt (Nat.div_le_self _ _) hP
  rw [e, show (1 : Int) = ((1 : Nat) : Int) from rfl, u32_and_nat _ _ h1 (by omega), Nat.and_one_is_mod]
  rw [Nat.testBit_eq_decide_div_mod_eq] at h
  have h2 : P / 2 ^ i % 2 = 0 := by simp at h; omega
  rw [h2]; rfl

/-- What holds of the bytes when i bits have been gone through. -/
structure TR (l : List Int) (base g n c1 F P i : Nat) (b : Bool) (V : List Int) (wr : World) : Prop where
  row : wr.ownsRow base 5 1 (.slice (some ⟨g, 0, none⟩) (n + 4) c1) (n + 4) (nums .u8 V)
  len : V.length = n + 4
  byte : ∀ x ∈ V, 0 ≤ x ∧ x < 256
  reg : Pl.run 4294967295 V = Pl.ones 32 4294967295 ^^^ Pl.ones (8 * (n + 4) - F) (P % 2 ^ i)
  yes : b = true → P % 2 ^ i ≠ 0
  no : b = false → P % 2 ^ i = 0 ∧ V = sealed l

theorem bits_turn (v : Int) (e : Nat) (h0 : 0 ≤ v) (h1 : v < 256) (he : e < 8) : bits .xor .u8 v (2 ^ e % 256) = ((v.toNat ^^^ 2 ^ e : Nat) : Int) ∧ v.toNat ^^^ 2 ^ e < 256 := by
  have h2 : 2 ^ e < 2 ^ 8 := Nat.pow_lt_pow_right (by omega) he
  have e1 : (2 ^ e % 256 : Int) = ((2 ^ e : Nat) : Int) := by
    have e0 : (2 ^ e : Int) = ((2 ^ e : Nat) : Int) := by simp
    rw [e0]
    generalize 2 ^ e = x at *
    omega
  rw [e1, u8_xor _ _ h0 h1 (by omega) (by omega), Int.toNat_natCast]
  exact ⟨rfl, Nat.xor_lt_two_pow (n := 8) (by omega) h2⟩

theorem TR.turn {l : List Int} {base g n c1 F P i : Nat} {b : Bool} {V : List Int} {wr : World} (h : TR l base g n c1 F P i b V wr) (hlt : F + i < 8 * (n + 4)) (hp : P.testBit i = true) :
    ∃ V', TR l base g n c1 F P (i + 1) true V' (wr.setCell ⟨g, (F + i) / 8, none⟩ (.int .u8 (bits .xor .u8 (rd V (((F : Int) + (i : Int)) / 8)) (2 ^ ((F + i) % 8) % 256)))).drew := by
  have hj : (F + i) / 8 < V.length := by have := h.len; omega
  have hb : (F + i) % 8 < 8 := by omega
  have hv := h.byte _ (rd_mem (l := V) (i := (((F + i) / 8 : Nat) : Int)) (by omega) (by omega))
  rw [show ((F : Int) + (i : Int)) / 8 = (((F + i) / 8 : Nat) : Int) from by omega]
  obtain ⟨e1, e2⟩ := bits_turn _ ((F + i) % 8) hv.1 hv.2 hb
  rw [e1]
  have hs := (own_store h.row (((F + i) / 8 : Nat) : Int) (((rd V (((F + i) / 8 : Nat) : Int)).toNat ^^^ 2 ^ ((F + i) % 8) : Nat) : Int)).1
  rw [Int.toNat_natCast] at hs
  have ht := Pl.run_turn 4294967295 V ((F + i) / 8) ((F + i) % 8) hj hb (rd V (((F + i) / 8 : Nat) : Int)).toNat (by unfold rd; rw [Int.toNat_natCast])
  refine ⟨_, hs, by simp [h.len], ?_, ?_, fun _ => ?_, (fun h => by cases h)⟩
  · intro x hx
    rcases List.mem_or_eq_of_mem_set hx with hx | rfl
    · exact h.byte x hx
    · omega
  · rw [ht, h.reg, h.len, show 8 * (n + 4 - (F + i) / 8) - (F + i) % 8 = 8 * (n + 4) - F - i from by omega]
    exact Pl.turned_step _ P _ i (by omega) hp
  · intro h0
    have h1 : (P % 2 ^ (i + 1)).testBit i = true := by rw [Nat.testBit_mod_two_pow]; simp [hp]
    rw [h0] at h1
    simp at h1
theorem TR.stay {l : List Int} {base g n c1 F P i : Nat} {b : Bool} {V : List Int} {wr : World} (h : TR l base g n c1 F P i b V wr) (hp : P.testBit i = false) : TR l base g n c1 F P (i + 1) b V wr := by
  have e := Pl.turned_stay P i hp
  exact ⟨h.row, h.len, h.byte, by rw [e]; exact h.reg, by rw [e]; exact h.yes, by rw [e]; exact h.no⟩
/-- At the end: what was turned is seen. -/
theorem TR.end_ {l : List Int} {base g n c1 F P i : Nat} {b : Bool} {V : List Int} {wr : World} (h : TR l base g n c1 F P i b V wr) (hi : i ≤ 32) (hb : b = true) : opened V = ([], 18) := by
  refine opened_turned V n h.len h.byte ?_
  rw [h.reg]
  intro e
  have hz : Pl.ones (8 * (n + 4) - F) (P % 2 ^ i) = 0 := by
    have := congrArg (Pl.ones 32 4294967295 ^^^ ·) e
    simpa [← Nat.xor_assoc] using this
  have hlt : P % 2 ^ i < 4294967296 := by
    have h1 := Nat.mod_lt P (y := 2 ^ i) (Nat.two_pow_pos i)
    have h2 : 2 ^ i ≤ 2 ^ 32 := Nat.pow_le_pow_right (by omega) hi
    omega
  exact Pl.ones_ne hlt (h.yes hb) _ hz

set_option maxHeartbeats 4000000 in
theorem turns_main (A : Option Addr) (c : Nat) (l : List Int) (from_ : Int) (p : Int) (w : World) (h : Bs w A c l) (hs : l.length ≤ 300) (hp : 0 ≤ p ∧ p < 4294967296) :
    Calls Try.prog 6 #[.slice A l.length c, .int .i64 from_, .int .u32 p] w fun e w' => e = .returned (.bool true) ∧ Below w.heap.size w w' := by
  have t0 : ¬ (300 : Int) < (l.length : Int) := by omega
  have H := Aside0.mk h
  have HSL := Aside0.mk (sealed_len l)
  clear h
  go_enter Try.func6, Try.ntmps6
  go_wp2_with fail
  refine (seal_calls_n A l.length c l rfl w H.out (by omega)).mono ?_
  rintro e w1 ⟨A1, c1, rfl, h1, b1⟩
  have H1 := Aside0.mk h1
  have B1 := Aside0.mk b1
  clear h1 b1
  go_wp2_with fail
  obtain ⟨F, hF, hFm⟩ := from_ok from_ (8 * (l.length + 4)) (by omega) (by omega)
  rw [show ((8 * (l.length + 4) : Nat) : Int) = 8 * ((l.length : Int) + 4) from by omega] at hF
  rw [hF]
  have hown := H1.out.row
  have hsb := Aside0.mk (show ∀ x ∈ sealed l, 0 ≤ x ∧ x < 256 from sealed_byte H.out.byte)
  have hrs := Aside0.mk (run_sealed l H.out.byte)
  rw [HSL.out] at hown
  obtain ⟨g, cap, hA1, hgb, hgl⟩ := hown.form (by omega)
  injection hA1 with hA1 _ hc1
  subst hA1
  subst hc1
  have HO := Aside0.mk hown
  clear hown hF H1 hgb hgl
  obtain ⟨P, hP, hPb⟩ : ∃ P : Nat, p = (P : Int) ∧ P < 4294967296 := ⟨p.toNat, by omega, by omega⟩
  subst hP
  go_loopw [9, 10] (fun tb iv wr => ∃ (i : Nat) (b : Bool) (V : List Int), tb = .bool b ∧ iv = .int .i64 i ∧ i ≤ 32 ∧ F + i ≤ 8 * (l.length + 4) ∧ TR l w.heap.size g l.length c1 F P i b V wr ∧ Below w.heap.size w wr)
    (fun _ iv _ => 32 - (intOf iv).toNat)
  case atStart =>
    refine ⟨0, false, sealed l, rfl, rfl, by omega, by omega, ⟨HO.out, HSL.out, hsb.out, ?_, (fun h => by cases h), fun _ => ⟨by simp [Nat.mod_one], rfl⟩⟩, B1.out⟩
    rw [hrs.out, Nat.pow_zero, Nat.mod_one]
    have : Pl.ones (8 * (l.length + 4) - F) 0 = 0 := by
      generalize 8 * (l.length + 4) - F = q
      induction q with
      | zero => rfl
      | succ q ih => show Pl.one (Pl.ones q 0) = 0; rw [ih]; rfl
    rw [this, Nat.xor_zero]
  case round =>
    obtain ⟨i, b, V, rfl, rfl, hi, hFi, HV, hB⟩ := hrel
    have HV := Aside0.mk HV
    clear hsb hrs HO
    by_cases hgo : i < 32 ∧ F + i < 8 * (l.length + 4)
    · obtain ⟨hi32, hlt⟩ := hgo
      have g1 : (F : Int) + (i : Int) < 8 * ((l.length : Int) + 4) := by omega
      by_cases ht : P.testBit i = true
      · have hb := bit_on P i hPb ht
        obtain ⟨V', HV'⟩ := HV.out.turn hlt ht
        have HV' := Aside0.mk HV'
        clear ht
        have hj0 : (0 : Int) ≤ ((F : Int) + (i : Int)) / 8 := by omega
        have hj1 : ((F : Int) + (i : Int)) / 8 < (l.length : Int) + 4 := by omega
        have hm0 : (0 : Int) ≤ ((F : Int) + (i : Int)) % 8 := by omega
        have hm1 : ((F : Int) + (i : Int)) % 8 < 8 := by omega
        have hgb : w.heap.size ≤ g := own_base HV.out.row g rfl
        obtain ⟨hc, hf⟩ := own_at HV.out.row (((F + i) / 8 : Nat) : Int) (by omega) (by omega)
        rw [Int.toNat_natCast] at hc hf
        go_wp2_with fail
        go_region
        go_wp2
        go_roundw
        case rel => exact ⟨i + 1, true, V', rfl, by go_num, by omega, by omega, HV'.out, (hB.setCell hgb _).drew⟩
        case measure => simp [intOf]; omega
      · have ht : P.testBit i = false := by simpa using ht
        have hb := bit_off P i hPb ht
        have HV' := Aside0.mk (HV.out.stay ht)
        clear ht
        go_wp2
        go_roundw
        case rel => exact ⟨i + 1, b, V, rfl, by go_num, by omega, by omega, HV'.out, hB⟩
        case measure => simp [intOf]; omega
    · have HV2 := Aside0.mk (show Bs wr (some ⟨g, 0, none⟩) c1 V from ⟨by rw [HV.out.len]; exact own_reads' HV.out.row, by rw [HV.out.len]; exact own_cap HV.out.row, HV.out.byte⟩)
      have HVL := Aside0.mk HV.out.len
      have HB := Aside0.mk hB
      have HVE := Aside0.mk (fun hb => HV.out.end_ hi hb)
      have HVN := Aside0.mk (fun hb => (HV.out.no hb).2)
      have HOS := Aside0.mk (opened_sealed l)
      clear hB HV
      by_cases hi32 : i < 32
      · have g1 : ¬ (F : Int) + (i : Int) < 8 * ((l.length : Int) + 4) := by omega
        clear hgo
        cases b
        · obtain rfl := HVN.out rfl
          go_wp2_with fail
          refine (open_calls_n (some ⟨g, 0, none⟩) (l.length + 4) c1 (sealed l) HVL.out wr HV2.out (by omega) l 0 (by rw [HOS.out]) (by rw [HOS.out])).mono ?_
          rintro e w2 ⟨A2, c2, rfl, h2, b2⟩
          have H2 := Aside0.mk h2.bs
          have B2 := Aside0.mk (below_step HB.out b2)
          clear h2 b2
          go_wp2_with fail
          refine (same_calls_n A2 l.length c2 l rfl A l.length c l rfl w2 H2.out (H.out.below B2.out)).mono ?_
          rintro e w3 ⟨rfl, ⟨q3, rfl⟩⟩
          have ett : decide (l = l) = true := by simp
          go_wp2_with fail
          refine (awake_calls _).mono ?_
          rintro e w4 ⟨rfl, b4⟩
          go_wp2
          go_ret
          exact ⟨by simp, below_step (pw_below_drewN B2.out _) b4⟩
        · have hop := Aside0.mk (HVE.out rfl)
          go_wp2_with fail
          refine (open_calls_n (some ⟨g, 0, none⟩) (l.length + 4) c1 V HVL.out wr HV2.out (by omega) [] 18 (by rw [hop.out]) (by rw [hop.out])).mono ?_
          rintro e w2 ⟨A2, c2, rfl, h2, b2⟩
          have B2 := Aside0.mk (below_step HB.out b2)
          clear h2 b2
          go_wp2_with fail
          refine (awake_calls _).mono ?_
          rintro e w4 ⟨rfl, b4⟩
          go_wp2
          go_ret
          exact ⟨by simp, below_step B2.out b4⟩
      · clear hgo
        cases b
        · obtain rfl := HVN.out rfl
          go_wp2_with fail
          refine (open_calls_n (some ⟨g, 0, none⟩) (l.length + 4) c1 (sealed l) HVL.out wr HV2.out (by omega) l 0 (by rw [HOS.out]) (by rw [HOS.out])).mono ?_
          rintro e w2 ⟨A2, c2, rfl, h2, b2⟩
          have H2 := Aside0.mk h2.bs
          have B2 := Aside0.mk (below_step HB.out b2)
          clear h2 b2
          go_wp2_with fail
          refine (same_calls_n A2 l.length c2 l rfl A l.length c l rfl w2 H2.out (H.out.below B2.out)).mono ?_
          rintro e w3 ⟨rfl, ⟨q3, rfl⟩⟩
          have ett : decide (l = l) = true := by simp
          go_wp2_with fail
          refine (awake_calls _).mono ?_
          rintro e w4 ⟨rfl, b4⟩
          go_wp2
          go_ret
          exact ⟨by simp, below_step (pw_below_drewN B2.out _) b4⟩
        · have hop := Aside0.mk (HVE.out rfl)
          go_wp2_with fail
          refine (open_calls_n (some ⟨g, 0, none⟩) (l.length + 4) c1 V HVL.out wr HV2.out (by omega) [] 18 (by rw [hop.out]) (by rw [hop.out])).mono ?_
          rintro e w2 ⟨A2, c2, rfl, h2, b2⟩
          have B2 := Aside0.mk (below_step HB.out b2)
          clear h2 b2
          go_wp2_with fail
          refine (awake_calls _).mono ?_
          rintro e w4 ⟨rfl, b4⟩
          go_wp2
          go_ret
          exact ⟨by simp, below_step B2.out b4⟩

theorem u32_of {x : Int} (h : (Lit.int .u32 x).wf = true) : 0 ≤ x ∧ x < 4294967296 := by
  have hmin : IntKind.u32.min = 0 := rfl
  have hmax : IntKind.u32.max = 4294967295 := rfl
  simp only [Lit.wf, Bool.and_eq_true, decide_eq_true_eq, hmin, hmax] at h
  omega

theorem turns_calls (A : Option Addr) (c : Nat) (l : List Int) (from_ p : Int) (w : World) (h : Bs w A c l) (_ : (Lit.int .i64 from_).wf = true) (hp : (Lit.int .u32 p).wf = true) :
    Calls Try.prog 6 #[.slice A l.length c, .int .i64 from_, .int .u32 p] w fun e w' => e = .returned (.bool true) ∧ Below w.heap.size w w' := by
  by_cases hs : l.length ≤ 300
  · exact turns_main A c l from_ p w h hs (u32_of hp)
  · have t0 : (300 : Int) < (l.length : Int) := by omega
    clear h hp
    go_enter Try.func6, Try.ntmps6
    go_wp2_with fail
    refine (awake_calls _).mono ?_
    rintro e w1 ⟨rfl, b1⟩
    go_wp2
    go_ret
    exact ⟨rfl, b1⟩
end Go.Proofs.Ytodpgcakciaefaa
