/-
  Counts: the walk of CountSteps.
-/
import Derived.Test.YtalonmhoamjcnaaB6
namespace Go.Proofs.Ytalonmhoamjcnaa
open Go.RowKit Go.Proofs.YtalonmhoamjcnaaW.PrintWords

theorem Tx_cv (t r : Int) (o : Bool) (t' r' : Int) (o' : Bool) (h : txC ⟨t, r, o⟩ = ⟨t', r', o'⟩) (W : World) :
    Calls Try.prog 18 #[.agg #[.int .i64 t, .int .i64 r, .bool o]] W fun e W' => e = .returned (.agg #[.int .i64 t', .int .i64 r', .bool o']) ∧ Below W.heap.size W W' := Tx_uni t r o t' r' o' h W
theorem Rx_cv (t r : Int) (o : Bool) (g : Int) (t' r' : Int) (o' : Bool) (h : rxC ⟨t, r, o⟩ g = ⟨t', r', o'⟩) (W : World) :
    Calls Try.prog 19 #[.agg #[.int .i64 t, .int .i64 r, .bool o], .int .i64 g] W fun e W' => e = .returned (.agg #[.int .i64 t', .int .i64 r', .bool o']) ∧ Below W.heap.size W W' := Rx_uni t r o g t' r' o' h W
theorem Back_cv (t r : Int) (o : Bool) (W : World) :
    Calls Try.prog 20 #[.agg #[.int .i64 t, .int .i64 r, .bool o]] W fun e W' => e = .returned (.agg #[.int .i64 0, .int .i64 0, .bool false]) ∧ Below W.heap.size W W' := back_calls t r o W

/-- Received errors of weight 8. -/
def rdk (k : Nat) : Int := if 8 * (k : Int) ≤ 255 then 8 * (k : Int) else 255
theorem rx_law (k : Nat) : rxC ⟨0, rdk k, false⟩ 8 = ⟨0, rdk (k + 1), false⟩ := by
  have hrun : Ct.runs ⟨0, rdk k, false⟩ = true := by simp [Ct.runs, ok, rdk]; split <;> omega
  unfold rxC
  rw [if_pos ⟨hrun, .inr rfl⟩]
  have : (if rdk k + 8 ≤ 255 then rdk k + 8 else 255) = rdk (k + 1) := by
    unfold rdk
    split <;> split <;> (try split) <;> omega
  simp only [this]
theorem tx_law {t : Int} {k : Nat} {o : Bool} {t1 r1 : Int} {o1 : Bool} (hok : ok t 0 o = true) (hk : t ≤ 8 * (k : Int)) (h : txC ⟨t, 0, o⟩ = ⟨t1, r1, o1⟩) :
    r1 = 0 ∧ ok t1 0 o1 = true ∧ t1 ≤ 8 * ((k + 1 : Nat) : Int) ∧ (o = true → o1 = true) ∧ (o1 = true → 31 ≤ k) := by
  have hb := behind_laws hok (x := 2) (g := 0) (t' := t1) (r' := r1) (o' := o1) (by simpa [behind] using h)
  cases o
  · have hrun : Ct.runs ⟨t, 0, false⟩ = true := by simp [Ct.runs, hok]
    unfold txC at h
    rw [if_pos hrun] at h
    obtain ⟨h1, h2, h3⟩ := Ct.mk.inj h
    simp only [] at h1 h2 h3
    subst h2
    refine ⟨rfl, hb.2, ?_, by simp, ?_⟩
    · split at h1 <;> omega
    · intro ho; rw [ho] at h3; simp at h3; omega
  · rw [show txC ⟨t, 0, true⟩ = ⟨t, 0, true⟩ by simp [txC, Ct.runs]] at h
    obtain ⟨h1, h2, h3⟩ := Ct.mk.inj h
    subst h1 h2 h3
    refine ⟨rfl, hok, by omega, fun _ => rfl, fun _ => ?_⟩
    simp [ok] at hok
    omega
theorem sent_law {t : Int} {o : Bool} {t1 r1 : Int} {o1 : Bool} (hok : ok t 0 o = true) (h : sentC ⟨t, 0, o⟩ = ⟨t1, r1, o1⟩) :
    r1 = 0 ∧ o1 = o ∧ ok t1 0 o1 = true ∧ t1 ≤ t := by
  have hb := behind_laws hok (x := 0) (g := 0) (t' := t1) (r' := r1) (o' := o1) (by simpa [behind] using h)
  cases o
  · have hrun : Ct.runs ⟨t, 0, false⟩ = true := by simp [Ct.runs, hok]
    unfold sentC at h
    rw [if_pos hrun] at h
    obtain ⟨h1, h2, h3⟩ := Ct.mk.inj h
    simp only [] at h1 h2 h3
    subst h2 h3
    refine ⟨rfl, rfl, hb.2, ?_⟩
    have := (ok_rng hok)
    split at h1 <;> omega
  · rw [show sentC ⟨t, 0, true⟩ = ⟨t, 0, true⟩ by simp [sentC, Ct.runs]] at h
    obtain ⟨h1, h2, h3⟩ := Ct.mk.inj h
    subst h1 h2 h3
    exact ⟨rfl, rfl, hok, Int.le_refl _⟩

set_option maxRecDepth 20000 in
set_option maxHeartbeats 2000000 in
theorem steps_long (A : Option Addr) (len c : Nat) (W : World) (hl : 300 < len) :
    Calls Try.prog 7 #[.slice A len c] W fun e W' => e = .returned (.bool true) ∧ Below W.heap.size W W' := by
  have t0 : (300 : Int) < (len : Int) := by omega
  go_enter Try.func7, Try.ntmps7
  go_wp2_with fail
  refine (awake_calls _).mono ?_
  rintro e w1 ⟨rfl, b1⟩
  go_wp2
  go_ret
  exact ⟨rfl, b1⟩

set_option maxRecDepth 20000 in
set_option maxHeartbeats 16000000 in
theorem steps_short (A : Option Addr) (len c : Nat) (f : Nat → Bool) (W : World) (h : Bools W A len f) (hl : len ≤ 300) :
    Calls Try.prog 7 #[.slice A len c] W fun e W' => e = .returned (.bool true) ∧ Below W.heap.size W W' := by
  have t0 : ¬ (300 : Int) < (len : Int) := by omega
  go_enter Try.func7, Try.ntmps7
  go_wp2_with fail
  obtain ⟨W1, hW1⟩ : ∃ W1, W.alloc (.cells #[.int .i64 0, .int .i64 0, .bool false] 23) = W1 := ⟨_, rfl⟩
  have C1 := count_new hW1
  have S1 : W1.heap.size = W.heap.size + 1 := by rw [← hW1]; simp
  have B1 := grow hW1
  rw [hW1]
  clear hW1
  obtain ⟨W2, hW2⟩ : ∃ W2, W1.alloc (.cells #[.int .i64 0, .int .i64 0, .bool false] 23) = W2 := ⟨_, rfl⟩
  have C2 := Aside0.mk (C1.below (grow hW2))
  have D2 := count_new hW2
  rw [S1] at D2
  have D2 := Aside0.mk D2
  have B2 := Aside0.mk (below_step B1 (grow hW2))
  rw [hW2]
  clear hW2 C1 B1 S1
  go_loopw [5, 6] (fun b i wr => ∃ k : Nat, k ≤ len ∧ i = .int .i64 k ∧ (∃ t o, b = .bool o ∧ CountAt wr W.heap.size t 0 o ∧ CountAt wr (W.heap.size + 1) 0 (rdk k) false ∧ ok t 0 o = true ∧ t ≤ 8 * (k : Int)) ∧ Below W.heap.size W wr) (fun _ i _ => len - (intOf i).toNat)
  case atStart => exact ⟨0, by omega, rfl, ⟨0, false, rfl, C2.out, D2.out, by decide, by simp⟩, B2.out⟩
  case round =>
    clear C2 D2 B2
    obtain ⟨k, hk, rfl, ⟨t, o, rfl, hC, hD, hok, ht⟩, hB⟩ := hrel
    by_cases hlt : k < len
    · obtain ⟨a, rfl, v0⟩ := h k hlt
      have i0 : (0 : Int) ≤ (k : Int) := by omega
      have i1 : (k : Int) < (len : Int) := by omega
      obtain ⟨⟨t1, r1, o1⟩, hs⟩ : ∃ d, txC ⟨t, 0, o⟩ = d := ⟨_, rfl⟩
      obtain ⟨hr1, hok1, ht1, hoo, hk31⟩ := tx_law hok ht hs
      subst hr1
      have HS := Aside0.mk hs
      have H1 := Aside0.mk (And.intro hok1 (And.intro ht1 (And.intro hoo hk31)))
      obtain ⟨rd0, hrd0⟩ : ∃ x, rdk k = x := ⟨_, rfl⟩
      obtain ⟨rd1, hrd1⟩ : ∃ x, x = rdk (k + 1) := ⟨_, rfl⟩
      have HX := Aside0.mk (show rxC ⟨0, rd0, false⟩ 8 = ⟨0, rd1, false⟩ by rw [← hrd0, hrd1]; exact rx_law k)
      have HRD := Aside0.mk hrd1
      rw [hrd0] at hD
      have VV := Aside0.mk v0
      obtain ⟨x0, x1, x2, f0, f1, f2⟩ := hC.cells
      have HC := Aside0.mk hC
      have HD := Aside0.mk hD
      have HB := Aside0.mk hB
      clear hs hC hD hB v0 hok ht hok1 ht1 hoo hk31 hrd0 hrd1
      go_wp2_with fail
      refine (Tx_cv t 0 o t1 0 o1 HS.out wr).mono ?_
      rintro e w3 ⟨rfl, b3⟩
      have hC3 := HC.out.below b3
      have HD3 := Aside0.mk (HD.out.below b3)
      have HB3 := Aside0.mk (below_step HB.out b3)
      clear b3 HC HD HB x0 x1 x2 f0 f1 f2
      obtain ⟨x0, x1, x2, f0, f1, f2⟩ := hC3.cells
      have HC3 := Aside0.mk hC3
      clear hC3
      go_upto_region 10 with fail
      obtain ⟨w4, hw4⟩ : ∃ w4, ((w3.setCell ⟨W.heap.size, 0, none⟩ (.int .i64 t1)).setCell ⟨W.heap.size, 1, none⟩ (.int .i64 0)).setCell ⟨W.heap.size, 2, none⟩ (.bool o1) = w4 := ⟨_, rfl⟩
      have HC4 := Aside0.mk (show CountAt w4 W.heap.size t1 0 o1 from hw4 ▸ HC3.out.put t1 0 o1)
      have hD4 := show CountAt w4 (W.heap.size + 1) 0 rd0 false from hw4 ▸ count_other3 HD3.out W.heap.size (by omega) _ _ _
      have HB4 := Aside0.mk (show Below W.heap.size W w4 from hw4 ▸ Below.put HB3.out W.heap.size (Nat.le_refl _) _ _ _)
      rw [hw4]
      clear hw4 x0 x1 x2 f0 f1 f2 HC3 HD3 HB3
      obtain ⟨y0, y1, y2, g0, g1, g2⟩ := hD4.cells
      have HD4 := Aside0.mk hD4
      clear hD4
      go_wp2_with fail
      refine (Rx_cv 0 rd0 false 8 0 rd1 false HX.out w4).mono ?_
      rintro e w5 ⟨rfl, b5⟩
      have HC5 := Aside0.mk (HC4.out.below b5)
      have hD5 := HD4.out.below b5
      have HB5 := Aside0.mk (below_step HB4.out b5)
      clear b5 HC4 HD4 HB4 y0 y1 y2 g0 g1 g2
      obtain ⟨y0, y1, y2, g0, g1, g2⟩ := hD5.cells
      have HD5 := Aside0.mk hD5
      clear hD5
      go_upto_region 11 with fail
      obtain ⟨w6, hw6⟩ : ∃ w6, ((w5.setCell ⟨W.heap.size + 1, 0, none⟩ (.int .i64 0)).setCell ⟨W.heap.size + 1, 1, none⟩ (.int .i64 rd1)).setCell ⟨W.heap.size + 1, 2, none⟩ (.bool false) = w6 := ⟨_, rfl⟩
      have hC6 := show CountAt w6 W.heap.size t1 0 o1 from hw6 ▸ count_other3 HC5.out (W.heap.size + 1) (by omega) _ _ _
      have HD6 := Aside0.mk (show CountAt w6 (W.heap.size + 1) 0 rd1 false from hw6 ▸ HD5.out.put 0 rd1 false)
      have HB6 := Aside0.mk (show Below W.heap.size W w6 from hw6 ▸ Below.put HB5.out (W.heap.size + 1) (by omega) _ _ _)
      rw [hw6]
      clear hw6 y0 y1 y2 g0 g1 g2 HC5 HD5 HB5
      obtain ⟨x0, x1, x2, -, -, -⟩ := hC6.cells
      have HC6 := Aside0.mk hC6
      clear hC6
      go_cut [5] (fun s5 wx => s5 = .bool o1 ∧ w6 = wx)
      case first =>
        cases o
        · go_wp2_with fail
          go_meet
          exact ⟨rfl, rfl⟩
        · obtain rfl : o1 = true := H1.out.2.2.1 rfl
          go_wp2_with fail
          go_meet
          exact ⟨rfl, rfl⟩
      case rest =>
      obtain ⟨rfl, rfl⟩ := hcut
      go_upto_region 12 with fail
      go_cut [50] (fun s50 wx => s50 = .bool false ∧ Below w6.heap.size w6 wx)
      case first =>
        by_cases ho : o1 = true
        · have hk31 := H1.out.2.2.2 ho
          subst ho
          have c1 : ¬ (k : Int) < 15 := by omega
          have c2 : ¬ (k : Int) < 31 := by omega
          clear hk31
          go_wp2_with fail
          refine (state_cv t1 0 true 2 rfl w6).mono ?_
          rintro e w7 ⟨rfl, b7⟩
          go_wp2_with fail
          go_meet
          exact ⟨rfl, b7⟩
        · obtain rfl : o1 = false := by simpa using ho
          clear ho
          by_cases c1 : (k : Int) < 15
          · have c2 : (k : Int) < 31 := by omega
            have ht : ¬ 127 < t1 := by have := H1.out.2.1; omega
            go_wp2_with fail
            refine (state_cv t1 0 false 0 (by simp [ht]) w6).mono ?_
            rintro e w7 ⟨rfl, b7⟩
            replace x2 := cb b7 x2
            go_wp2_with fail
            go_meet
            exact ⟨rfl, b7⟩
          · by_cases c2 : (k : Int) < 31
            · go_wp2_with fail
              go_meet
              exact ⟨rfl, Below.refl _ _⟩
            · go_wp2_with fail
              go_meet
              exact ⟨rfl, Below.refl _ _⟩
      case rest =>
      obtain ⟨rfl, bc⟩ := hcut
      have hC7 := HC6.out.below bc
      have HD7 := Aside0.mk (HD6.out.below bc)
      have HB7 := Aside0.mk (below_step HB6.out bc)
      clear bc HC6 HD6 HB6 x0 x1 x2
      obtain ⟨x0, x1, x2, f0, f1, f2⟩ := hC7.cells
      have z0 := pw_cell_below HB7.out VV.out
      have HC7 := Aside0.mk hC7
      clear hC7
      cases hf : f k
      · rw [hf] at z0
        clear hf
        go_upto_region 16 with fail
        have HC8 := HC7
        have HD8 := HD7
        have HB8 := HB7
        obtain ⟨t2, ht2⟩ : ∃ t2, t1 = t2 := ⟨_, rfl⟩
        have H2 := Aside0.mk (show ok t2 0 o1 = true ∧ t2 ≤ t1 by subst ht2; exact ⟨H1.out.1, Int.le_refl _⟩)
        rw [ht2] at HC8
        clear ht2 HC7 HD7 HB7 x0 x1 x2 f0 f1 f2 z0
        obtain ⟨y0, y1, y2, -, -, -⟩ := HD8.out.cells
        by_cases c15 : (k : Int) < 15
        · have c15' : ¬ 15 ≤ (k : Int) := by omega
          have hrd : ¬ 127 < rd1 := by have := HRD.out; unfold rdk at this; rw [this]; split <;> omega
          go_wp2_with fail
          refine (state_cv 0 rd1 false 0 (by simp [hrd]) wc).mono ?_
          rintro e w9 ⟨rfl, b9⟩
          have HC9 := Aside0.mk (HC8.out.below b9)
          have hD9 := HD8.out.below b9
          have HB9 := Aside0.mk (below_step HB8.out b9)
          clear b9 y0 y1 y2 HC8 HD8 HB8
          obtain ⟨y0, y1, y2, -, -, -⟩ := hD9.cells
          have HD9 := Aside0.mk hD9
          clear hD9
          go_wp2_with fail
          go_roundw
          case rel => exact ⟨k + 1, by omega, by go_num, ⟨t2, o1, rfl, HC9.out, by have := HRD.out; rw [← this]; exact HD9.out, H2.out.1, by have := H2.out.2; have := H1.out.2.1; omega⟩, HB9.out⟩
          case measure => simp [intOf]; omega
        · have c15' : 15 ≤ (k : Int) := by omega
          have hrd : 127 < rd1 := by have := HRD.out; unfold rdk at this; rw [this]; split <;> omega
          go_wp2_with fail
          refine (state_cv 0 rd1 false 1 (by simp [hrd]) wc).mono ?_
          rintro e w9 ⟨rfl, b9⟩
          have HC9 := Aside0.mk (HC8.out.below b9)
          have hD9 := HD8.out.below b9
          have HB9 := Aside0.mk (below_step HB8.out b9)
          clear b9 y0 y1 y2 HC8 HD8 HB8
          obtain ⟨y0, y1, y2, -, -, -⟩ := hD9.cells
          have HD9 := Aside0.mk hD9
          clear hD9
          go_wp2_with fail
          refine (state_cv 0 rd1 false 1 (by simp [hrd]) w9).mono ?_
          rintro e w10 ⟨rfl, b10⟩
          have HC10 := Aside0.mk (HC9.out.below b10)
          have HD10 := Aside0.mk (HD9.out.below b10)
          have HB10 := Aside0.mk (below_step HB9.out b10)
          clear b10 y0 y1 y2 HC9 HD9 HB9
          go_wp2_with fail
          go_roundw
          case rel => exact ⟨k + 1, by omega, by go_num, ⟨t2, o1, rfl, HC10.out, by have := HRD.out; rw [← this]; exact HD10.out, H2.out.1, by have := H2.out.2; have := H1.out.2.1; omega⟩, HB10.out⟩
          case measure => simp [intOf]; omega
      · rw [hf] at z0
        clear hf
        obtain ⟨⟨t2, r2, o2⟩, hs2⟩ : ∃ d, sentC ⟨t1, 0, o1⟩ = d := ⟨_, rfl⟩
        obtain ⟨hr2, ho2, hok2, ht2⟩ := sent_law H1.out.1 hs2
        subst hr2 ho2
        have HS2 := Aside0.mk hs2
        have H2 := Aside0.mk (And.intro hok2 ht2)
        clear hs2 hok2 ht2
        go_wp2_with fail
        refine (Sent_cv t1 0 o2 t2 0 o2 HS2.out wc).mono ?_
        rintro e w7 ⟨rfl, b7⟩
        have hC8 := HC7.out.below b7
        have HD8' := Aside0.mk (HD7.out.below b7)
        have HB8' := Aside0.mk (below_step HB7.out b7)
        clear b7 HC7 HD7 HB7 x0 x1 x2 f0 f1 f2 z0
        obtain ⟨x0, x1, x2, f0, f1, f2⟩ := hC8.cells
        have HC8' := Aside0.mk hC8
        clear hC8
        go_upto_region 16 with fail
        obtain ⟨w8, hw8⟩ : ∃ w8, ((w7.setCell ⟨W.heap.size, 0, none⟩ (.int .i64 t2)).setCell ⟨W.heap.size, 1, none⟩ (.int .i64 0)).setCell ⟨W.heap.size, 2, none⟩ (.bool o2) = w8 := ⟨_, rfl⟩
        have HC8 := Aside0.mk (show CountAt w8 W.heap.size t2 0 o2 from hw8 ▸ HC8'.out.put t2 0 o2)
        have HD8 := Aside0.mk (show CountAt w8 (W.heap.size + 1) 0 rd1 false from hw8 ▸ count_other3 HD8'.out W.heap.size (by omega) _ _ _)
        have HB8 := Aside0.mk (show Below W.heap.size W w8 from hw8 ▸ Below.put HB8'.out W.heap.size (Nat.le_refl _) _ _ _)
        rw [hw8]
        clear hw8 x0 x1 x2 f0 f1 f2 HC8' HD8' HB8'
        obtain ⟨y0, y1, y2, -, -, -⟩ := HD8.out.cells
        by_cases c15 : (k : Int) < 15
        · have c15' : ¬ 15 ≤ (k : Int) := by omega
          have hrd : ¬ 127 < rd1 := by have := HRD.out; unfold rdk at this; rw [this]; split <;> omega
          go_wp2_with fail
          refine (state_cv 0 rd1 false 0 (by simp [hrd]) w8).mono ?_
          rintro e w9 ⟨rfl, b9⟩
          have HC9 := Aside0.mk (HC8.out.below b9)
          have hD9 := HD8.out.below b9
          have HB9 := Aside0.mk (below_step HB8.out b9)
          clear b9 y0 y1 y2 HC8 HD8 HB8
          obtain ⟨y0, y1, y2, -, -, -⟩ := hD9.cells
          have HD9 := Aside0.mk hD9
          clear hD9
          go_wp2_with fail
          go_roundw
          case rel => exact ⟨k + 1, by omega, by go_num, ⟨t2, o2, rfl, HC9.out, by have := HRD.out; rw [← this]; exact HD9.out, H2.out.1, by have := H2.out.2; have := H1.out.2.1; omega⟩, HB9.out⟩
          case measure => simp [intOf]; omega
        · have c15' : 15 ≤ (k : Int) := by omega
          have hrd : 127 < rd1 := by have := HRD.out; unfold rdk at this; rw [this]; split <;> omega
          go_wp2_with fail
          refine (state_cv 0 rd1 false 1 (by simp [hrd]) w8).mono ?_
          rintro e w9 ⟨rfl, b9⟩
          have HC9 := Aside0.mk (HC8.out.below b9)
          have hD9 := HD8.out.below b9
          have HB9 := Aside0.mk (below_step HB8.out b9)
          clear b9 y0 y1 y2 HC8 HD8 HB8
          obtain ⟨y0, y1, y2, -, -, -⟩ := hD9.cells
          have HD9 := Aside0.mk hD9
          clear hD9
          go_wp2_with fail
          refine (state_cv 0 rd1 false 1 (by simp [hrd]) w9).mono ?_
          rintro e w10 ⟨rfl, b10⟩
          have HC10 := Aside0.mk (HC9.out.below b10)
          have HD10 := Aside0.mk (HD9.out.below b10)
          have HB10 := Aside0.mk (below_step HB9.out b10)
          clear b10 y0 y1 y2 HC9 HD9 HB9
          go_wp2_with fail
          go_roundw
          case rel => exact ⟨k + 1, by omega, by go_num, ⟨t2, o2, rfl, HC10.out, by have := HRD.out; rw [← this]; exact HD10.out, H2.out.1, by have := H2.out.2; have := H1.out.2.1; omega⟩, HB10.out⟩
          case measure => simp [intOf]; omega
    · obtain rfl : k = len := by omega
      obtain ⟨x0, x1, x2, -, -, -⟩ := hC.cells
      have HB := Aside0.mk hB
      have HC := Aside0.mk hC
      clear hC hD hB hok ht
      cases o
      · go_wp2_with fail
        refine wp_region_held_drew (S := fun w' => w'.cell? ⟨W.heap.size, 0, none⟩ = some (.int .i64 t) ∧ w'.cell? ⟨W.heap.size, 1, none⟩ = some (.int .i64 0) ∧ w'.cell? ⟨W.heap.size, 2, none⟩ = some (.bool false)) (by kernel_rfl) ?_ (fun hHeld => ?_)
        · exact ⟨x0, x1, x2⟩
        refine takeH 0 (some 78) ?_ (by rfl) (by kernel_rfl) (by kernel_rfl) (by kernel_rfl) (fun _ _ _ h => h) ?_ hHeld ?_
        rotate_left
        · intro o ho
          simp only [List.getElem?_toArray, List.getElem?_cons_zero, Option.some.injEq] at ho
          subst ho
          refine ⟨by rfl, fun w hSw => ?_⟩
          try dsimp only at hSw
          go_simp
          try with_reducible rfl
        try simp only [Act.put, List.setIfInBounds_toArray, List.set_cons_zero, List.set_cons_succ]
        refine takeH 1 (some 79) ?_ (by rfl) (by kernel_rfl) (by kernel_rfl) (by kernel_rfl) (fun _ _ _ h => h) ?_ hHeld ?_
        rotate_left
        · intro o ho
          simp only [List.getElem?_toArray, List.getElem?_cons_succ, List.getElem?_cons_zero, Option.some.injEq] at ho
          subst ho
          refine ⟨by rfl, fun w hSw => ?_⟩
          try dsimp only at hSw
          go_simp
          try with_reducible rfl
        try simp only [Act.put, List.setIfInBounds_toArray, List.set_cons_zero, List.set_cons_succ]
        refine skipH 2 (some 80) (by rfl) (by kernel_rfl) (by kernel_rfl) (by kernel_rfl) (fun _ _ _ h => h) (by rfl) hHeld ?_
        try simp only [Act.put, List.setIfInBounds_toArray, List.set_cons_zero, List.set_cons_succ]
        refine skipH 3 (some 81) (by rfl) (by kernel_rfl) (by kernel_rfl) (by kernel_rfl) (fun _ _ _ h => h) (by rfl) hHeld ?_
        try simp only [Act.put, List.setIfInBounds_toArray, List.set_cons_zero, List.set_cons_succ]
        refine skipH 4 (some 82) (by rfl) (by kernel_rfl) (by kernel_rfl) (by kernel_rfl) (fun _ _ _ h => h) (by rfl) hHeld ?_
        try simp only [Act.put, List.setIfInBounds_toArray, List.set_cons_zero, List.set_cons_succ]
        refine skipH 5 (some 83) (by rfl) (by kernel_rfl) (by kernel_rfl) (by kernel_rfl) (fun _ _ _ h => h) (by rfl) hHeld ?_
        try simp only [Act.put, List.setIfInBounds_toArray, List.set_cons_zero, List.set_cons_succ]
        refine skipH 6 (some 84) (by rfl) (by kernel_rfl) (by kernel_rfl) (by kernel_rfl) (fun _ _ _ h => h) (by rfl) hHeld ?_
        try simp only [Act.put, List.setIfInBounds_toArray, List.set_cons_zero, List.set_cons_succ]
        refine skipH 7 (some 85) (by rfl) (by kernel_rfl) (by kernel_rfl) (by kernel_rfl) (fun _ _ _ h => h) (by rfl) hHeld ?_
        try simp only [Act.put, List.setIfInBounds_toArray, List.set_cons_zero, List.set_cons_succ]
        refine skipH 8 (some 86) (by rfl) (by kernel_rfl) (by kernel_rfl) (by kernel_rfl) (fun _ _ _ h => h) (by rfl) hHeld ?_
        try simp only [Act.put, List.setIfInBounds_toArray, List.set_cons_zero, List.set_cons_succ]
        refine skipH 9 (some 87) (by rfl) (by kernel_rfl) (by kernel_rfl) (by kernel_rfl) (fun _ _ _ h => h) (by rfl) hHeld ?_
        try simp only [Act.put, List.setIfInBounds_toArray, List.set_cons_zero, List.set_cons_succ]
        refine skipH 10 (some 88) (by rfl) (by kernel_rfl) (by kernel_rfl) (by kernel_rfl) (fun _ _ _ h => h) (by rfl) hHeld ?_
        try simp only [Act.put, List.setIfInBounds_toArray, List.set_cons_zero, List.set_cons_succ]
        refine skipH 11 (some 89) (by rfl) (by kernel_rfl) (by kernel_rfl) (by kernel_rfl) (fun _ _ _ h => h) (by rfl) hHeld ?_
        try simp only [Act.put, List.setIfInBounds_toArray, List.set_cons_zero, List.set_cons_succ]
        refine skipH 12 (some 90) (by rfl) (by kernel_rfl) (by kernel_rfl) (by kernel_rfl) (fun _ _ _ h => h) (by rfl) hHeld ?_
        try simp only [Act.put, List.setIfInBounds_toArray, List.set_cons_zero, List.set_cons_succ]
        refine skipH 13 (some 91) (by rfl) (by kernel_rfl) (by kernel_rfl) (by kernel_rfl) (fun _ _ _ h => h) (by rfl) hHeld ?_
        try simp only [Act.put, List.setIfInBounds_toArray, List.set_cons_zero, List.set_cons_succ]
        refine skipH 14 (some 92) (by rfl) (by kernel_rfl) (by kernel_rfl) (by kernel_rfl) (fun _ _ _ h => h) (by rfl) hHeld ?_
        try simp only [Act.put, List.setIfInBounds_toArray, List.set_cons_zero, List.set_cons_succ]
        refine skipH 15 (some 93) (by rfl) (by kernel_rfl) (by kernel_rfl) (by kernel_rfl) (fun _ _ _ h => h) (by rfl) hHeld ?_
        try simp only [Act.put, List.setIfInBounds_toArray, List.set_cons_zero, List.set_cons_succ]
        refine skipH 16 (some 94) (by rfl) (by kernel_rfl) (by kernel_rfl) (by kernel_rfl) (fun _ _ _ h => h) (by rfl) hHeld ?_
        try simp only [Act.put, List.setIfInBounds_toArray, List.set_cons_zero, List.set_cons_succ]
        refine skipH 17 (some 95) (by rfl) (by kernel_rfl) (by kernel_rfl) (by kernel_rfl) (fun _ _ _ h => h) (by rfl) hHeld ?_
        try simp only [Act.put, List.setIfInBounds_toArray, List.set_cons_zero, List.set_cons_succ]
        refine skipH 18 (some 96) (by rfl) (by kernel_rfl) (by kernel_rfl) (by kernel_rfl) (fun _ _ _ h => h) (by rfl) hHeld ?_
        try simp only [Act.put, List.setIfInBounds_toArray, List.set_cons_zero, List.set_cons_succ]
        refine skipH 19 (some 97) (by rfl) (by kernel_rfl) (by kernel_rfl) (by kernel_rfl) (fun _ _ _ h => h) (by rfl) hHeld ?_
        try simp only [Act.put, List.setIfInBounds_toArray, List.set_cons_zero, List.set_cons_succ]
        refine skipH 20 (some 98) (by rfl) (by kernel_rfl) (by kernel_rfl) (by kernel_rfl) (fun _ _ _ h => h) (by rfl) hHeld ?_
        try simp only [Act.put, List.setIfInBounds_toArray, List.set_cons_zero, List.set_cons_succ]
        refine skipH 21 (some 99) (by rfl) (by kernel_rfl) (by kernel_rfl) (by kernel_rfl) (fun _ _ _ h => h) (by rfl) hHeld ?_
        try simp only [Act.put, List.setIfInBounds_toArray, List.set_cons_zero, List.set_cons_succ]
        refine skipH 22 (some 100) (by rfl) (by kernel_rfl) (by kernel_rfl) (by kernel_rfl) (fun _ _ _ h => h) (by rfl) hHeld ?_
        try simp only [Act.put, List.setIfInBounds_toArray, List.set_cons_zero, List.set_cons_succ]
        refine skipH 23 (some 101) (by rfl) (by kernel_rfl) (by kernel_rfl) (by kernel_rfl) (fun _ _ _ h => h) (by rfl) hHeld ?_
        try simp only [Act.put, List.setIfInBounds_toArray, List.set_cons_zero, List.set_cons_succ]
        refine takeH 24 (some 102) ?_ (by rfl) (by kernel_rfl) (by kernel_rfl) (by kernel_rfl) (fun _ _ _ h => h) ?_ hHeld ?_
        rotate_left
        · intro o ho
          simp only [List.getElem?_toArray, List.getElem?_cons_succ, List.getElem?_cons_zero, Option.some.injEq] at ho
          subst ho
          refine ⟨by rfl, fun w hSw => ?_⟩
          try dsimp only at hSw
          go_simp
          try with_reducible rfl
        try simp only [Act.put, List.setIfInBounds_toArray, List.set_cons_zero, List.set_cons_succ]
        refine wpAnyH_done (by kernel_rfl) ?_ _
        have hC3 : CountAt wr.drew W.heap.size t 0 false := HC.out
        have HB3 := Aside0.mk (HB.out.drew)
        clear hHeld x0 x1 x2 HC HB
        obtain ⟨w3, hw3⟩ : ∃ w3, wr.drew = w3 := ⟨_, rfl⟩
        rw [hw3] at hC3 HB3 ⊢
        clear hw3
        obtain ⟨x0, x1, x2, -, -, -⟩ := hC3.cells
        clear hC3
        go_wp2_with fail
        refine (Back_cv t 0 false _).mono ?_
        rintro e v5 ⟨rfl, q5⟩
        have HB5 := Aside0.mk (below_step HB3.out q5)
        clear q5
        go_wp2_with fail
        refine (awake_calls _).mono ?_
        rintro e v6 ⟨rfl, q6⟩
        have HB6 := Aside0.mk (below_step HB5.out q6)
        clear q6
        go_wp2
        go_ret
        exact ⟨rfl, HB6.out⟩
      · go_wp2_with fail
        refine wp_region_held_drew (S := fun w' => w'.cell? ⟨W.heap.size, 0, none⟩ = some (.int .i64 t) ∧ w'.cell? ⟨W.heap.size, 1, none⟩ = some (.int .i64 0) ∧ w'.cell? ⟨W.heap.size, 2, none⟩ = some (.bool true)) (by kernel_rfl) ?_ (fun hHeld => ?_)
        · exact ⟨x0, x1, x2⟩
        refine takeH 0 (some 78) ?_ (by rfl) (by kernel_rfl) (by kernel_rfl) (by kernel_rfl) (fun _ _ _ h => h) ?_ hHeld ?_
        rotate_left
        · intro o ho
          simp only [List.getElem?_toArray, List.getElem?_cons_zero, Option.some.injEq] at ho
          subst ho
          refine ⟨by rfl, fun w hSw => ?_⟩
          try dsimp only at hSw
          go_simp
          try with_reducible rfl
        try simp only [Act.put, List.setIfInBounds_toArray, List.set_cons_zero, List.set_cons_succ]
        refine takeH 1 (some 79) ?_ (by rfl) (by kernel_rfl) (by kernel_rfl) (by kernel_rfl) (fun _ _ _ h => h) ?_ hHeld ?_
        rotate_left
        · intro o ho
          simp only [List.getElem?_toArray, List.getElem?_cons_succ, List.getElem?_cons_zero, Option.some.injEq] at ho
          subst ho
          refine ⟨by rfl, fun w hSw => ?_⟩
          try dsimp only at hSw
          go_simp
          try with_reducible rfl
        try simp only [Act.put, List.setIfInBounds_toArray, List.set_cons_zero, List.set_cons_succ]
        refine takeH 2 (some 80) ?_ (by rfl) (by kernel_rfl) (by kernel_rfl) (by kernel_rfl) (fun _ _ _ h => h) ?_ hHeld ?_
        rotate_left
        · intro o ho
          simp only [List.getElem?_toArray, List.getElem?_cons_succ, List.getElem?_cons_zero, Option.some.injEq] at ho
          subst ho
          refine ⟨by rfl, fun w hSw => ?_⟩
          try dsimp only at hSw
          go_simp
          try with_reducible rfl
        try simp only [Act.put, List.setIfInBounds_toArray, List.set_cons_zero, List.set_cons_succ]
        refine takeH 4 (some 82) ?_ (by rfl) (by kernel_rfl) (by kernel_rfl) (by kernel_rfl) (fun _ _ _ h => h) ?_ hHeld ?_
        rotate_left
        · intro o ho
          simp only [List.getElem?_toArray, List.getElem?_cons_succ, List.getElem?_cons_zero, Option.some.injEq] at ho
          subst ho
          refine ⟨by rfl, fun w hSw => ?_⟩
          try dsimp only at hSw
          go_simp
          try with_reducible rfl
        try simp only [Act.put, List.setIfInBounds_toArray, List.set_cons_zero, List.set_cons_succ]
        refine oneH 3 (by kernel_rfl) (by rfl) (fun o ho K hK => ?_)
        simp only [List.getElem?_toArray, List.getElem?_cons_succ, List.getElem?_cons_zero, Option.some.injEq] at ho
        subst ho
        go_simp
        refine (Sent_cv t 0 true t 0 true (by simp [sentC, Ct.runs]) _).mono ?_
        rintro e v1 ⟨rfl, q1⟩
        have b1 := nodrew q1
        try go_wp2_with fail
        refine hK.out _ _ ?_ (fun hHeld2 => ?_)
        · exact ⟨cb b1 x0, cb b1 x1, cb b1 x2⟩
        clear hK K hHeld
        rename _ => hHeld
        try simp only [Act.put, List.setIfInBounds_toArray, List.set_cons_zero, List.set_cons_succ]
        refine takeH 5 (some 83) ?_ (by rfl) (by kernel_rfl) (by kernel_rfl) (by kernel_rfl) (fun _ _ _ h => h) ?_ hHeld ?_
        rotate_left
        · intro o ho
          simp only [List.getElem?_toArray, List.getElem?_cons_succ, List.getElem?_cons_zero, Option.some.injEq] at ho
          subst ho
          refine ⟨by rfl, fun w hSw => ?_⟩
          try dsimp only at hSw
          go_simp
          try with_reducible rfl
        try simp only [Act.put, List.setIfInBounds_toArray, List.set_cons_zero, List.set_cons_succ]
        refine takeH 6 (some 84) ?_ (by rfl) (by kernel_rfl) (by kernel_rfl) (by kernel_rfl) (fun _ _ _ h => h) ?_ hHeld ?_
        rotate_left
        · intro o ho
          simp only [List.getElem?_toArray, List.getElem?_cons_succ, List.getElem?_cons_zero, Option.some.injEq] at ho
          subst ho
          refine ⟨by rfl, fun w hSw => ?_⟩
          try dsimp only at hSw
          go_simp
          try with_reducible rfl
        try simp only [Act.put, List.setIfInBounds_toArray, List.set_cons_zero, List.set_cons_succ]
        refine takeH 7 (some 85) ?_ (by rfl) (by kernel_rfl) (by kernel_rfl) (by kernel_rfl) (fun _ _ _ h => h) ?_ hHeld ?_
        rotate_left
        · intro o ho
          simp only [List.getElem?_toArray, List.getElem?_cons_succ, List.getElem?_cons_zero, Option.some.injEq] at ho
          subst ho
          refine ⟨by rfl, fun w hSw => ?_⟩
          try dsimp only at hSw
          go_simp
          try with_reducible rfl
        try simp only [Act.put, List.setIfInBounds_toArray, List.set_cons_zero, List.set_cons_succ]
        refine takeH 9 (some 87) ?_ (by rfl) (by kernel_rfl) (by kernel_rfl) (by kernel_rfl) (fun _ _ _ h => h) ?_ hHeld ?_
        rotate_left
        · intro o ho
          simp only [List.getElem?_toArray, List.getElem?_cons_succ, List.getElem?_cons_zero, Option.some.injEq] at ho
          subst ho
          refine ⟨by rfl, fun w hSw => ?_⟩
          try dsimp only at hSw
          go_simp
          try with_reducible rfl
        try simp only [Act.put, List.setIfInBounds_toArray, List.set_cons_zero, List.set_cons_succ]
        refine oneH 8 (by kernel_rfl) (by rfl) (fun o ho K hK => ?_)
        simp only [List.getElem?_toArray, List.getElem?_cons_succ, List.getElem?_cons_zero, Option.some.injEq] at ho
        subst ho
        go_simp
        refine (Tx_cv t 0 true t 0 true (by simp [txC, Ct.runs]) _).mono ?_
        rintro e v2 ⟨rfl, q2⟩
        have b2 := below_step b1 q2
        try go_wp2_with fail
        refine hK.out _ _ ?_ (fun hHeld2 => ?_)
        · exact ⟨cb b2 x0, cb b2 x1, cb b2 x2⟩
        clear hK K hHeld
        rename _ => hHeld
        try simp only [Act.put, List.setIfInBounds_toArray, List.set_cons_zero, List.set_cons_succ]
        refine takeH 10 (some 88) ?_ (by rfl) (by kernel_rfl) (by kernel_rfl) (by kernel_rfl) (fun _ _ _ h => h) ?_ hHeld ?_
        rotate_left
        · intro o ho
          simp only [List.getElem?_toArray, List.getElem?_cons_succ, List.getElem?_cons_zero, Option.some.injEq] at ho
          subst ho
          refine ⟨by rfl, fun w hSw => ?_⟩
          try dsimp only at hSw
          go_simp
          try with_reducible rfl
        try simp only [Act.put, List.setIfInBounds_toArray, List.set_cons_zero, List.set_cons_succ]
        refine takeH 11 (some 89) ?_ (by rfl) (by kernel_rfl) (by kernel_rfl) (by kernel_rfl) (fun _ _ _ h => h) ?_ hHeld ?_
        rotate_left
        · intro o ho
          simp only [List.getElem?_toArray, List.getElem?_cons_succ, List.getElem?_cons_zero, Option.some.injEq] at ho
          subst ho
          refine ⟨by rfl, fun w hSw => ?_⟩
          try dsimp only at hSw
          go_simp
          try with_reducible rfl
        try simp only [Act.put, List.setIfInBounds_toArray, List.set_cons_zero, List.set_cons_succ]
        refine takeH 12 (some 90) ?_ (by rfl) (by kernel_rfl) (by kernel_rfl) (by kernel_rfl) (fun _ _ _ h => h) ?_ hHeld ?_
        rotate_left
        · intro o ho
          simp only [List.getElem?_toArray, List.getElem?_cons_succ, List.getElem?_cons_zero, Option.some.injEq] at ho
          subst ho
          refine ⟨by rfl, fun w hSw => ?_⟩
          try dsimp only at hSw
          go_simp
          try with_reducible rfl
        try simp only [Act.put, List.setIfInBounds_toArray, List.set_cons_zero, List.set_cons_succ]
        refine takeH 13 (some 91) ?_ (by rfl) (by kernel_rfl) (by kernel_rfl) (by kernel_rfl) (fun _ _ _ h => h) ?_ hHeld ?_
        rotate_left
        · intro o ho
          simp only [List.getElem?_toArray, List.getElem?_cons_succ, List.getElem?_cons_zero, Option.some.injEq] at ho
          subst ho
          refine ⟨by rfl, fun w hSw => ?_⟩
          try dsimp only at hSw
          go_simp
          try with_reducible rfl
        try simp only [Act.put, List.setIfInBounds_toArray, List.set_cons_zero, List.set_cons_succ]
        refine takeH 15 (some 93) ?_ (by rfl) (by kernel_rfl) (by kernel_rfl) (by kernel_rfl) (fun _ _ _ h => h) ?_ hHeld ?_
        rotate_left
        · intro o ho
          simp only [List.getElem?_toArray, List.getElem?_cons_succ, List.getElem?_cons_zero, Option.some.injEq] at ho
          subst ho
          refine ⟨by rfl, fun w hSw => ?_⟩
          try dsimp only at hSw
          go_simp
          try with_reducible rfl
        try simp only [Act.put, List.setIfInBounds_toArray, List.set_cons_zero, List.set_cons_succ]
        refine oneH 14 (by kernel_rfl) (by rfl) (fun o ho K hK => ?_)
        simp only [List.getElem?_toArray, List.getElem?_cons_succ, List.getElem?_cons_zero, Option.some.injEq] at ho
        subst ho
        go_simp
        refine (Received_cv t 0 true t 0 true (by simp [recvC, Ct.runs]) _).mono ?_
        rintro e v3 ⟨rfl, q3⟩
        have b3 := below_step b2 q3
        try go_wp2_with fail
        refine hK.out _ _ ?_ (fun hHeld2 => ?_)
        · exact ⟨cb b3 x0, cb b3 x1, cb b3 x2⟩
        clear hK K hHeld
        rename _ => hHeld
        try simp only [Act.put, List.setIfInBounds_toArray, List.set_cons_zero, List.set_cons_succ]
        refine takeH 16 (some 94) ?_ (by rfl) (by kernel_rfl) (by kernel_rfl) (by kernel_rfl) (fun _ _ _ h => h) ?_ hHeld ?_
        rotate_left
        · intro o ho
          simp only [List.getElem?_toArray, List.getElem?_cons_succ, List.getElem?_cons_zero, Option.some.injEq] at ho
          subst ho
          refine ⟨by rfl, fun w hSw => ?_⟩
          try dsimp only at hSw
          go_simp
          try with_reducible rfl
        try simp only [Act.put, List.setIfInBounds_toArray, List.set_cons_zero, List.set_cons_succ]
        refine takeH 17 (some 95) ?_ (by rfl) (by kernel_rfl) (by kernel_rfl) (by kernel_rfl) (fun _ _ _ h => h) ?_ hHeld ?_
        rotate_left
        · intro o ho
          simp only [List.getElem?_toArray, List.getElem?_cons_succ, List.getElem?_cons_zero, Option.some.injEq] at ho
          subst ho
          refine ⟨by rfl, fun w hSw => ?_⟩
          try dsimp only at hSw
          go_simp
          try with_reducible rfl
        try simp only [Act.put, List.setIfInBounds_toArray, List.set_cons_zero, List.set_cons_succ]
        refine takeH 18 (some 96) ?_ (by rfl) (by kernel_rfl) (by kernel_rfl) (by kernel_rfl) (fun _ _ _ h => h) ?_ hHeld ?_
        rotate_left
        · intro o ho
          simp only [List.getElem?_toArray, List.getElem?_cons_succ, List.getElem?_cons_zero, Option.some.injEq] at ho
          subst ho
          refine ⟨by rfl, fun w hSw => ?_⟩
          try dsimp only at hSw
          go_simp
          try with_reducible rfl
        try simp only [Act.put, List.setIfInBounds_toArray, List.set_cons_zero, List.set_cons_succ]
        refine takeH 19 (some 97) ?_ (by rfl) (by kernel_rfl) (by kernel_rfl) (by kernel_rfl) (fun _ _ _ h => h) ?_ hHeld ?_
        rotate_left
        · intro o ho
          simp only [List.getElem?_toArray, List.getElem?_cons_succ, List.getElem?_cons_zero, Option.some.injEq] at ho
          subst ho
          refine ⟨by rfl, fun w hSw => ?_⟩
          try dsimp only at hSw
          go_simp
          try with_reducible rfl
        try simp only [Act.put, List.setIfInBounds_toArray, List.set_cons_zero, List.set_cons_succ]
        refine takeH 21 (some 99) ?_ (by rfl) (by kernel_rfl) (by kernel_rfl) (by kernel_rfl) (fun _ _ _ h => h) ?_ hHeld ?_
        rotate_left
        · intro o ho
          simp only [List.getElem?_toArray, List.getElem?_cons_succ, List.getElem?_cons_zero, Option.some.injEq] at ho
          subst ho
          refine ⟨by rfl, fun w hSw => ?_⟩
          try dsimp only at hSw
          go_simp
          try with_reducible rfl
        try simp only [Act.put, List.setIfInBounds_toArray, List.set_cons_zero, List.set_cons_succ]
        refine oneH 20 (by kernel_rfl) (by rfl) (fun o ho K hK => ?_)
        simp only [List.getElem?_toArray, List.getElem?_cons_succ, List.getElem?_cons_zero, Option.some.injEq] at ho
        subst ho
        go_simp
        refine (Rx_cv t 0 true 1 t 0 true (by simp [rxC, Ct.runs]) _).mono ?_
        rintro e v4 ⟨rfl, q4⟩
        have b4 := below_step b3 q4
        try go_wp2_with fail
        refine hK.out _ _ ?_ (fun hHeld2 => ?_)
        · exact ⟨cb b4 x0, cb b4 x1, cb b4 x2⟩
        clear hK K hHeld
        rename _ => hHeld
        try simp only [Act.put, List.setIfInBounds_toArray, List.set_cons_zero, List.set_cons_succ]
        refine takeH 22 (some 100) ?_ (by rfl) (by kernel_rfl) (by kernel_rfl) (by kernel_rfl) (fun _ _ _ h => h) ?_ hHeld ?_
        rotate_left
        · intro o ho
          simp only [List.getElem?_toArray, List.getElem?_cons_succ, List.getElem?_cons_zero, Option.some.injEq] at ho
          subst ho
          refine ⟨by rfl, fun w hSw => ?_⟩
          try dsimp only at hSw
          go_simp
          try with_reducible rfl
        try simp only [Act.put, List.setIfInBounds_toArray, List.set_cons_zero, List.set_cons_succ]
        refine takeH 23 (some 101) ?_ (by rfl) (by kernel_rfl) (by kernel_rfl) (by kernel_rfl) (fun _ _ _ h => h) ?_ hHeld ?_
        rotate_left
        · intro o ho
          simp only [List.getElem?_toArray, List.getElem?_cons_succ, List.getElem?_cons_zero, Option.some.injEq] at ho
          subst ho
          refine ⟨by rfl, fun w hSw => ?_⟩
          try dsimp only at hSw
          go_simp
          try with_reducible rfl
        try simp only [Act.put, List.setIfInBounds_toArray, List.set_cons_zero, List.set_cons_succ]
        refine takeH 24 (some 102) ?_ (by rfl) (by kernel_rfl) (by kernel_rfl) (by kernel_rfl) (fun _ _ _ h => h) ?_ hHeld ?_
        rotate_left
        · intro o ho
          simp only [List.getElem?_toArray, List.getElem?_cons_succ, List.getElem?_cons_zero, Option.some.injEq] at ho
          subst ho
          refine ⟨by rfl, fun w hSw => ?_⟩
          try dsimp only at hSw
          go_simp
          try with_reducible rfl
        try simp only [Act.put, List.setIfInBounds_toArray, List.set_cons_zero, List.set_cons_succ]
        refine wpAnyH_done (by kernel_rfl) ?_ _
        have hC3 := HC.out.below b4
        have HB3 := Aside0.mk (below_step HB.out b4)
        clear hHeld b1 b2 b3 b4 q1 q2 q3 q4 x0 x1 x2 HC HB
        obtain ⟨x0, x1, x2, -, -, -⟩ := hC3.cells
        clear hC3
        go_wp2_with fail
        refine (Back_cv t 0 true _).mono ?_
        rintro e v5 ⟨rfl, q5⟩
        have HB5 := Aside0.mk (below_step HB3.out q5)
        clear q5
        go_wp2_with fail
        refine (awake_calls _).mono ?_
        rintro e v6 ⟨rfl, q6⟩
        have HB6 := Aside0.mk (below_step HB5.out q6)
        clear q6
        go_wp2
        go_ret
        exact ⟨rfl, HB6.out⟩

theorem steps_calls (A : Option Addr) (len c : Nat) (f : Nat → Bool) (W : World) (h : Bools W A len f) :
    Calls Try.prog 7 #[.slice A len c] W fun e W' => e = .returned (.bool true) ∧ Below W.heap.size W W' := by
  by_cases hl : len ≤ 300
  · exact steps_short A len c f W h hl
  · exact steps_long A len c W (by omega)
end Go.Proofs.Ytalonmhoamjcnaa
