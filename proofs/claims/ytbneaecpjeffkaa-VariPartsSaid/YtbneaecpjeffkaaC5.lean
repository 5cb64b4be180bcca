/-
  The walk of VariRows.
-/
import Derived.Test.YtbneaecpjeffkaaC4
import Derived.Test.YtbneaecpjeffkaaPlain3
namespace Go.Proofs.Ytbneaecpjeffkaa
open Go.RowKit Go.Proofs.YtbneaecpjeffkaaW.PrintWords

def ints (l : List Nat) : List Int := l.map (fun n : Nat => (n : Int))
theorem ints_len (l : List Nat) : (ints l).length = l.length := by simp [ints]
theorem nats_of {l : List Int} (h : ∀ x ∈ l, 0 ≤ x ∧ x < B64) : ∃ ns : List Nat, l = ints ns ∧ ∀ n ∈ ns, n < U64 := by
  refine ⟨l.map Int.toNat, ?_, ?_⟩
  · unfold ints
    rw [List.map_map]
    conv => lhs; rw [← List.map_id l]
    apply List.map_congr_left
    intro x hx
    have := h x hx
    simp
    omega
  · intro n hn
    obtain ⟨x, hx, rfl⟩ := List.mem_map.1 hn
    have := h x hx
    unfold B64 at this
    unfold U64
    omega
theorem rd_ints {ns : List Nat} {j : Nat} (h : j < ns.length) : rd (ints ns) j = ((ns[j] : Nat) : Int) := by
  unfold rd ints
  rw [Int.toNat_natCast, List.getD_eq_getElem?_getD, List.getElem?_map, List.getElem?_eq_getElem h]
  rfl
theorem take_nats {ns : List Nat} {j : Nat} (h : j < ns.length) : ns.take (j + 1) = ns.take j ++ [ns[j]] := by
  rw [List.take_add_one, List.getElem?_eq_getElem h]
  rfl
theorem row_len : ∀ (ns : List Nat), (∀ n ∈ ns, n < U64) → (Pl.row ns).length ≤ 10 * ns.length
  | [], _ => by simp [Pl.row]
  | n :: ns, h => by
    have h1 := put_ten (h n (by simp))
    have h2 := row_len ns (fun m hm => h m (by simp [hm]))
    rw [Pl.row, List.length_append, List.length_cons]
    omega
theorem row_rng : ∀ (ns : List Nat), ∀ x ∈ Pl.row ns, 0 ≤ x ∧ x < 256
  | [], x, hx => by simp [Pl.row] at hx
  | n :: ns, x, hx => by
    rw [Pl.row] at hx
    rcases List.mem_append.1 hx with h | h
    · exact put_rng n x h
    · exact row_rng ns x h
theorem row_append : ∀ (a b : List Nat), Pl.row (a ++ b) = Pl.row a ++ Pl.row b
  | [], b => by simp [Pl.row]
  | n :: a, b => by rw [List.cons_append, Pl.row, row_append a b, Pl.row, List.append_assoc]
theorem row_ge : ∀ (ns : List Nat), ns.length ≤ (Pl.row ns).length
  | [] => by simp
  | n :: ns => by
    have h1 := put_pos n
    have h2 := row_ge ns
    rw [Pl.row, List.length_append, List.length_cons]
    omega
theorem all_n' (A : Option Addr) (n c : Nat) (l : List Int) (hn : l.length = n) (hl : n ≤ 1000) (w : World) (h : Bs w A c l) (a : List Int) (b : Nat) (e : Int) (hg : Pl.all l = (a, b, e)) (k : Nat) (hk : a.length = k) :
    Calls Try.prog 12 #[.slice A n c] w fun x w' => ∃ A' c', x = .returned (.tuple #[.slice A' k c', .int .i64 (b : Int), .int .i64 e]) ∧ OwnU w' w.heap.size A' c' a ∧ Below w.heap.size w w' := all_at A n c l hn hl w h a b e hg k hk (b : Int) rfl
theorem nums_yes (A : Option Addr) (n c : Nat) (l : List Int) (hn : l.length = n) (B : Option Addr) (d : Nat) (m : List Int) (hm : m.length = n) (he : l = m) (w : World) (h : Us w A c l) (h' : Us w B d m) :
    Calls Try.prog 14 #[.slice A n c, .slice B n d] w fun e w' => e = .returned (.bool true) ∧ Drawn0 w w' := by
  have := nums_n A n c l hn B n d m hm w h h'
  rw [decide_eq_true he] at this
  exact this

theorem row_cut (ns : List Nat) (hns : ∀ n ∈ ns, n < U64) (j : Nat) (hj : ns.length = j) (pre : List Int) (hp : pre = Pl.row ns) (q : Nat) (hq : q = (Pl.row (ns.take (j - 1))).length) (y : Nat) (h1 : 1 ≤ y) (h2 : y < pre.length - q) :
    Pl.all (pre.take (pre.length - y)) = ([], q, 13) := by
  have hj0 : 0 < j := by
    rcases Nat.eq_zero_or_pos j with h | h
    · have : ns = [] := List.length_eq_zero_iff.1 (by omega)
      subst this
      subst hp
      simp [Pl.row] at h2
    · exact h
  have hlt : j - 1 < ns.length := by omega
  have ht := take_nats hlt
  rw [show j - 1 + 1 = ns.length by omega, List.take_length] at ht
  have hm := hns ns[j - 1] (List.getElem_mem _)
  generalize ns[j - 1] = m at *
  have hsub : ∀ n ∈ ns.take (j - 1), n < U64 := fun n hn => hns n (List.mem_of_mem_take hn)
  generalize ns.take (j - 1) = a at *
  subst ht
  rw [Pl.row_snoc] at hp
  have hl : pre.length = q + (Pl.put m).length := by rw [hp, List.length_append, hq]
  have e : pre.take (pre.length - y) = Pl.row a ++ (Pl.put m).take ((Pl.put m).length - y) := by
    rw [hl, show q + (Pl.put m).length - y = q + ((Pl.put m).length - y) by omega, hp, hq, List.take_length_add_append]
  rw [e, hq]
  exact Pl.all_cut a hsub m _ (put_ten hm) (by omega) (by omega)

set_option maxRecDepth 100000 in
set_option maxHeartbeats 8000000 in
theorem rows_main (A0 : Option Addr) (c0 : Nat) (L : List Int) (A : Option Addr) (c : Nat) (l : List Int) (z : Int) (w : World) (h0 : Us w A0 c0 L) (h : Bs w A c l) (hz : -9223372036854775808 ≤ z ∧ z ≤ 9223372036854775807) :
    Calls Try.prog 4 #[.slice A0 L.length c0, .slice A l.length c, .int .i64 z] w fun e w' => e = .returned (.bool true) ∧ Below w.heap.size w w' := by
  obtain ⟨ns, rfl, hns⟩ := nats_of h0.rng
  have H0 := Aside0.mk h0
  have H := Aside0.mk h
  have hll := ints_len ns
  obtain ⟨n, hn⟩ : ∃ n, ns.length = n := ⟨_, rfl⟩
  rw [hn] at hll
  have HNS := Aside0.mk hns
  have HN := Aside0.mk hn
  have HLL := Aside0.mk hll
  rw [hll]
  clear h0 h hll hns hn
  by_cases hbig : 60 < n ∨ 300 < l.length
  · by_cases b1 : 60 < n
    · have t0 : (60 : Int) < (n : Int) := by omega
      clear hbig b1
      go_enter Try.func4, Try.ntmps4
      go_wp2_with fail
      refine (awake_calls w).mono ?_
      rintro e w5 ⟨rfl, b5⟩
      have B5 := Aside0.mk b5
      clear b5
      simp only []
      repeat go_step
      go_ret
      exact ⟨by simp, B5.out⟩
    · have t0 : ¬ (60 : Int) < (n : Int) := by omega
      have t1 : (300 : Int) < (l.length : Int) := by omega
      clear hbig b1
      go_enter Try.func4, Try.ntmps4
      go_wp2_with fail
      refine (awake_calls w).mono ?_
      rintro e w5 ⟨rfl, b5⟩
      have B5 := Aside0.mk b5
      clear b5
      simp only []
      repeat go_step
      go_ret
      exact ⟨by simp, B5.out⟩
  · have t0 : ¬ (60 : Int) < (n : Int) := by omega
    have t1 : ¬ (300 : Int) < (l.length : Int) := by omega
    have hn60 : n ≤ 60 := by omega
    have hl300 : l.length ≤ 300 := by omega
    clear hbig
    go_enter Try.func4, Try.ntmps4
    go_wp2
    go_loopw [7, 8, 9] (fun row last i wr => ∃ (j q : Nat) (pre : List Int), j ≤ n ∧ i = .int .i64 j ∧ last = .int .i64 q ∧ Aside0 (pre = Pl.row (ns.take j) ∧ q = (Pl.row (ns.take (j - 1))).length) ∧ Aside0 (wr.ownsRow w.heap.size 5 1 row pre.length (nums .u8 pre)) ∧ Below w.heap.size w wr) (fun _ _ i _ => n - (intOf i).toNat)
    case atStart => exact ⟨0, 0, [], by omega, rfl, rfl, ⟨rfl, rfl⟩, ⟨own_lit w w.heap.size 5 .u8 [] (Nat.le_refl _) (by decide)⟩, (Below.refl _ _).alloc (Nat.le_refl _) _⟩
    case round =>
      obtain ⟨j, q, pre, hj, rfl, rfl, HPQ, hown, hB⟩ := hrel
      have HPL := Aside0.mk (show pre.length ≤ 600 by
        have h1 := row_len (ns.take j) (fun m hm => HNS.out m (List.mem_of_mem_take hm))
        rw [← HPQ.out.1, List.length_take] at h1
        omega)
      obtain ⟨A1, c1, rfl⟩ := own_slice hown.out
      by_cases hlt : j < n
      · have hlt' : j < ns.length := by rw [HN.out]; exact hlt
        obtain ⟨ad, rfl, hc, _, _⟩ := (H0.out.below hB).at_ j (by rw [HLL.out]; exact hlt)
        rw [rd_ints hlt'] at hc
        have HT := Aside0.mk (take_nats hlt')
        have HV := Aside0.mk (HNS.out ns[j] (List.getElem_mem _))
        generalize ns[j] = v at *
        obtain ⟨k, hk⟩ : ∃ k, (Pl.put v).length = k := ⟨_, rfl⟩
        have hk10 : k ≤ 10 := by rw [← hk]; exact put_ten HV.out
        have HK := Aside0.mk hk
        clear hk
        obtain ⟨np, hnp⟩ : ∃ np, pre.length = np := ⟨_, rfl⟩
        have HNP := Aside0.mk hnp
        rw [hnp]
        go_wp2_with fail
        refine (put_at v HV.out k HK.out wr).mono ?_
        rintro e w2 ⟨A2, c2, rfl, h2, b2⟩
        have H2 := Aside0.mk h2.ks
        have B2 := Aside0.mk (below_step hB b2)
        have O2 := Aside0.mk (pw_own_below hown.out b2)
        clear h2 b2
        go_wp2_with (at_builtin; refine print_append_row (w0 := w) w.heap.size rfl (.tmp 39) (.tmp 44) 22 5 .u8 1 rfl Try.underlying22 info5 (by decide) _ pre (Pl.put v) A2 k c2 rfl rfl (by have := O2.out; rw [HNP.out] at this ⊢; exact this) (by rw [← HK.out]; exact H2.out.reads) (by exact B2.out) (by exact B2.out.size) (by have := HPL.out; omega) ?_; intro v3 w3 hown3 hB3 _ _; have O3 := Aside0.mk hown3; have B3 := Aside0.mk hB3; clear hown3 hB3)
        go_roundw
        case rel => exact ⟨j + 1, np, pre ++ Pl.put v, by omega, by go_num, rfl, ⟨by rw [HPQ.out.1, HT.out, Pl.row_snoc], by rw [Nat.add_sub_cancel, ← HPQ.out.1, HNP.out]⟩, ⟨O3.out⟩, B3.out⟩
        case measure => simp [intOf]; omega
      · obtain rfl : j = n := by omega
        have HRW := Aside0.mk (show pre = Pl.row ns by rw [HPQ.out.1, ← HN.out, List.take_length])
        obtain ⟨r, hr⟩ : ∃ r, pre.length = r := ⟨_, rfl⟩
        have HR := Aside0.mk hr
        have hr600 : r ≤ 600 := by rw [← hr]; exact HPL.out
        have HPB := Aside0.mk (show Bs wr A1 c1 pre from ⟨own_reads' hown.out, own_cap hown.out, by rw [HRW.out]; exact row_rng ns⟩)
        have HCAP := Aside0.mk HPB.out.cap
        have HALL := Aside0.mk (show Pl.all pre = (ints ns, 0, 0) by rw [HRW.out]; exact Pl.all_row ns (fun m hm => HNS.out m hm))
        have HQR := Aside0.mk (show q ≤ r by
          rw [← hr, HRW.out, HPQ.out.2]
          have : ns = ns.take (j - 1) ++ ns.drop (j - 1) := (List.take_append_drop _ _).symm
          conv => rhs; rw [this]
          rw [row_append, List.length_append]
          omega)
        rw [hr]
        clear hr hown
        go_wp2_with fail
        refine (all_n' A1 r c1 pre HR.out (by omega) wr HPB.out (ints ns) 0 0 HALL.out j HLL.out).mono ?_
        rintro e w4 ⟨A4, c4, rfl, h4, b4⟩
        have H4 := Aside0.mk h4.ks
        have B4 := Aside0.mk (below_step hB b4)
        have HP4 := Aside0.mk (HPB.out.below b4)
        clear h4 b4
        simp only []
        repeat go_step
        refine (nums_yes A4 j c4 (ints ns) HLL.out A0 c0 (ints ns) HLL.out rfl w4 H4.out (H0.out.below B4.out)).mono ?_
        rintro e w5 ⟨rfl, hw⟩
        obtain ⟨q5, hw⟩ := hw
        have B5 := Aside0.mk (show Below w.heap.size w w5 from hw ▸ pw_below_drewN B4.out q5)
        have HP5 := Aside0.mk (show Bs w5 A1 c1 pre from hw ▸ HP4.out.drewN q5)
        clear hw
        simp only []
        repeat go_step
        obtain ⟨C, tz, f, hC⟩ : ∃ a b e, Pl.all l = (a, b, e) := ⟨_, _, _, rfl⟩
        obtain ⟨kc, hkc⟩ : ∃ k, C.length = k := ⟨_, rfl⟩
        have HC := Aside0.mk hC
        have HKC := Aside0.mk hkc
        clear hC hkc
        refine (all_n' A l.length c l rfl (by omega) w5 (H.out.below B5.out) C tz f HC.out kc HKC.out).mono ?_
        rintro e w6 ⟨A6, c6, rfl, h6, b6⟩
        have H6 := Aside0.mk h6.ks
        have B6 := Aside0.mk (below_step B5.out b6)
        have HP6 := Aside0.mk (HP5.out.below b6)
        clear h6 b6
        have HF := Aside0.mk (Pl.all_form l)
        rw [HC.out] at HF
        have cyz0 : True := trivial
        by_cases hf : f = 0
        · subst hf
          obtain rfl : tz = 0 := by
            rcases HF.out with h | h
            · exact h.2
            · exact absurd rfl h.1
          obtain ⟨cs, hcs, hrow⟩ := Pl.row_all (l := l) H.out.rng (by rw [HC.out])
          rw [HC.out] at hcs
          have hcs : C = ints cs := hcs
          have HCS := Aside0.mk (show ∀ m ∈ cs, m < U64 by
            intro m hm
            have := H6.out.rng (m : Int) (by rw [hcs]; exact List.mem_map.2 ⟨m, hm, rfl⟩)
            unfold B64 at this
            unfold U64
            omega)
          have HCE := Aside0.mk hcs
          have HRO := Aside0.mk hrow
          have HCN := Aside0.mk (show cs.length = kc by rw [← HKC.out, hcs, ints_len])
          have hkc300 : kc ≤ 300 := by
            have := row_ge cs
            rw [hrow, HCN.out] at this
            omega
          clear hcs hrow
          simp only []
          go_wp2_with fail
          have HP7 := Aside0.mk HP6.out
          go_loopw [16, 17] (fun row i wr => ∃ (j2 : Nat) (pre2 : List Int), j2 ≤ kc ∧ i = .int .i64 j2 ∧ Aside0 (pre2 = Pl.row (cs.take j2)) ∧ Aside0 (wr.ownsRow w6.heap.size 5 1 row pre2.length (nums .u8 pre2)) ∧ Aside0 (Below w6.heap.size w6 wr)) (fun _ i _ => kc - (intOf i).toNat)
          case atStart => exact ⟨0, [], by omega, rfl, ⟨rfl⟩, ⟨own_lit w6 w6.heap.size 5 .u8 [] (Nat.le_refl _) (by decide)⟩, ⟨(Below.refl _ _).alloc (Nat.le_refl _) _⟩⟩
          case round =>
            rename_i wr2
            obtain ⟨j2, pre2, hj2, rfl, HPQ2, hown2, HB2⟩ := hrel
            have HPL2 := Aside0.mk (show pre2.length ≤ 3000 by
              have h1 := row_len (cs.take j2) (fun m hm => HCS.out m (List.mem_of_mem_take hm))
              rw [← HPQ2.out, List.length_take] at h1
              omega)
            obtain ⟨A9, c9, rfl⟩ := own_slice hown2.out
            by_cases hlt : j2 < kc
            · have hlt' : j2 < cs.length := by rw [HCN.out]; exact hlt
              obtain ⟨ad, rfl, hc, _, _⟩ := (H6.out.below HB2.out).at_ j2 (by rw [HKC.out]; exact hlt)
              rw [HCE.out, rd_ints hlt'] at hc
              have HT := Aside0.mk (take_nats hlt')
              have HV := Aside0.mk (HCS.out cs[j2] (List.getElem_mem _))
              generalize cs[j2] = v at *
              obtain ⟨k, hk⟩ : ∃ k, (Pl.put v).length = k := ⟨_, rfl⟩
              have hk10 : k ≤ 10 := by rw [← hk]; exact put_ten HV.out
              have HK := Aside0.mk hk
              clear hk
              obtain ⟨np, hnp⟩ : ∃ np, pre2.length = np := ⟨_, rfl⟩
              have HNP := Aside0.mk hnp
              rw [hnp]
              go_wp2_with fail
              refine (put_at v HV.out k HK.out _).mono ?_
              rintro e w12 ⟨A2, c2, rfl, h2, b2⟩
              have H2 := Aside0.mk h2.ks
              have B2 := Aside0.mk (below_step HB2.out b2)
              have O2 := Aside0.mk (pw_own_below hown2.out b2)
              clear h2 b2
              go_wp2_with (at_builtin; refine print_append_row (w0 := w6) w6.heap.size rfl (.tmp 79) (.tmp 84) 22 5 .u8 1 rfl Try.underlying22 info5 (by decide) _ pre2 (Pl.put v) A2 k c2 rfl rfl (by have := O2.out; rw [HNP.out] at this ⊢; exact this) (by rw [← HK.out]; exact H2.out.reads) (by exact B2.out) (by exact B2.out.size) (by have := HPL2.out; omega) ?_; intro v13 w13 hown3 hB3 _ _; have O3 := Aside0.mk hown3; have B3 := Aside0.mk hB3; clear hown3 hB3)
              go_roundw
              case rel => exact ⟨j2 + 1, pre2 ++ Pl.put v, by omega, by go_num, ⟨by rw [HPQ2.out, HT.out, Pl.row_snoc]⟩, ⟨O3.out⟩, B3⟩
              case measure => simp [intOf]; omega
            · have hj2k : j2 = kc := by omega
              have hp2 : pre2 = l := by rw [HPQ2.out, hj2k, ← HCN.out, List.take_length, HRO.out]
              have HPS := Aside0.mk (show Bs _ A9 c9 pre2 from ⟨own_reads' hown2.out, own_cap hown2.out, by rw [hp2]; exact H.out.rng⟩)
              have HP2 := Aside0.mk hp2
              rw [hp2] at HPS
              have HL2 := Aside0.mk (congrArg List.length hp2)
              rw [show pre2.length = l.length from HL2.out]
              have hnl : ¬ j2 < kc := by omega
              clear hp2 hown2
              have B7 := Aside0.mk (below_step B6.out HB2.out)
              have HP8 := Aside0.mk (HP7.out.below HB2.out)
              go_wp2_with fail
              refine (same_yes A9 l.length c9 l rfl A c l rfl rfl _ HPS.out (H.out.below B7.out)).mono ?_
              rintro e w15 ⟨rfl, hw⟩
              obtain ⟨q15, hw⟩ := hw
              have BT := Aside0.mk (show Below w.heap.size w w15 from hw ▸ pw_below_drewN B7.out q15)
              have HPT := Aside0.mk (show Bs w15 A1 c1 pre from hw ▸ HP8.out.drewN q15)
              clear hw
              have hqr := HQR.out
              by_cases cz : z < 1
              · clear cyz0
                go_wp2_with fail
                refine (awake_calls w15).mono ?_
                rintro e w20 ⟨rfl, b20⟩
                have B20 := Aside0.mk (below_step BT.out b20)
                clear b20
                simp only []
                repeat go_step
                go_ret
                exact ⟨by simp, B20.out⟩
              · by_cases cy : (r : Int) - (q : Int) ≤ z
                · clear cyz0
                  go_wp2_with fail
                  refine (awake_calls w15).mono ?_
                  rintro e w20 ⟨rfl, b20⟩
                  have B20 := Aside0.mk (below_step BT.out b20)
                  clear b20
                  simp only []
                  repeat go_step
                  go_ret
                  exact ⟨by simp, B20.out⟩
                · clear cyz0
                  obtain ⟨y, hy⟩ : ∃ y : Nat, z = (y : Int) := ⟨z.toNat, by omega⟩
                  obtain ⟨cut1, kb⟩ := take_cut_n A1 c1 (r - y) r pre HR.out (by omega) HCAP.out
                  rw [show ((r - y : Nat) : Int) = (r : Int) - z by omega] at cut1
                  have HKB := Aside0.mk kb
                  have HCUT := Aside0.mk (row_cut ns HNS.out j HN.out pre HRW.out q HPQ.out.2 y (by omega) (by rw [HR.out]; omega))
                  have HCL := Aside0.mk (show (pre.take (r - y)).length = r - y by rw [List.length_take, HR.out]; omega)
                  have hry : r - y ≤ 1000 := by omega
                  clear kb hy
                  rw [HR.out] at HCUT
                  go_wp2_with fail
                  refine (all_n' A1 (r - y) c1 (pre.take (r - y)) HCL.out hry w15 (HKB.out _ HPT.out) [] q 13 HCUT.out 0 rfl).mono ?_
                  rintro e w21 ⟨A21, c21, rfl, -, b21⟩
                  have B21 := Aside0.mk (below_step BT.out b21)
                  clear b21
                  simp only []
                  repeat go_step
                  refine (awake_calls w21).mono ?_
                  rintro e w20 ⟨rfl, b20⟩
                  have B20 := Aside0.mk (below_step B21.out b20)
                  clear b20
                  simp only []
                  repeat go_step
                  go_ret
                  exact ⟨by simp, B20.out⟩
        · obtain ⟨h1, h2⟩ : C = [] ∧ tz < l.length := by
            rcases HF.out with h | h
            · exact absurd h.1 hf
            · exact h.2
          obtain rfl : kc = 0 := by rw [← HKC.out, h1]; rfl
          have t3 : (f == 0) = false := by rw [beq_eq_false_iff_ne]; exact hf
          have t4 : ¬ (l.length : Int) ≤ (tz : Int) := by omega
          have BT := Aside0.mk B6.out
          have HPT := Aside0.mk HP6.out
          clear hf h1
          have hqr := HQR.out
          by_cases cz : z < 1
          · clear cyz0
            go_wp2_with fail
            refine (awake_calls w6).mono ?_
            rintro e w20 ⟨rfl, b20⟩
            have B20 := Aside0.mk (below_step BT.out b20)
            clear b20
            simp only []
            repeat go_step
            go_ret
            exact ⟨by simp, B20.out⟩
          · by_cases cy : (r : Int) - (q : Int) ≤ z
            · clear cyz0
              go_wp2_with fail
              refine (awake_calls w6).mono ?_
              rintro e w20 ⟨rfl, b20⟩
              have B20 := Aside0.mk (below_step BT.out b20)
              clear b20
              simp only []
              repeat go_step
              go_ret
              exact ⟨by simp, B20.out⟩
            · clear cyz0
              obtain ⟨y, hy⟩ : ∃ y : Nat, z = (y : Int) := ⟨z.toNat, by omega⟩
              obtain ⟨cut1, kb⟩ := take_cut_n A1 c1 (r - y) r pre HR.out (by omega) HCAP.out
              rw [show ((r - y : Nat) : Int) = (r : Int) - z by omega] at cut1
              have HKB := Aside0.mk kb
              have HCUT := Aside0.mk (row_cut ns HNS.out j HN.out pre HRW.out q HPQ.out.2 y (by omega) (by rw [HR.out]; omega))
              have HCL := Aside0.mk (show (pre.take (r - y)).length = r - y by rw [List.length_take, HR.out]; omega)
              have hry : r - y ≤ 1000 := by omega
              clear kb hy
              rw [HR.out] at HCUT
              go_wp2_with fail
              refine (all_n' A1 (r - y) c1 (pre.take (r - y)) HCL.out hry w6 (HKB.out _ HPT.out) [] q 13 HCUT.out 0 rfl).mono ?_
              rintro e w21 ⟨A21, c21, rfl, -, b21⟩
              have B21 := Aside0.mk (below_step BT.out b21)
              clear b21
              simp only []
              repeat go_step
              refine (awake_calls w21).mono ?_
              rintro e w20 ⟨rfl, b20⟩
              have B20 := Aside0.mk (below_step B21.out b20)
              clear b20
              simp only []
              repeat go_step
              go_ret
              exact ⟨by simp, B20.out⟩

theorem i64_of {x : Int} (h : (Lit.int .i64 x).wf = true) : -9223372036854775808 ≤ x ∧ x ≤ 9223372036854775807 := by
  have hmin : IntKind.i64.min = -9223372036854775808 := rfl
  have hmax : IntKind.i64.max = 9223372036854775807 := rfl
  simp only [Lit.wf, Bool.and_eq_true, decide_eq_true_eq, hmin, hmax] at h
  exact h
theorem rows_int (A0 : Option Addr) (c0 : Nat) (L : List Int) (A : Option Addr) (c : Nat) (l : List Int) (z : Int) (w : World) (h0 : Us w A0 c0 L) (h : Bs w A c l) (hz : (Lit.int .i64 z).wf = true) :
    Calls Try.prog 4 #[.slice A0 L.length c0, .slice A l.length c, .int .i64 z] w fun e w' => e = .returned (.bool true) ∧ Below w.heap.size w w' := rows_main A0 c0 L A c l z w h0 h (i64_of hz)
end Go.Proofs.Ytbneaecpjeffkaa
