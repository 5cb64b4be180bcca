/-
  Files: the walk of FileOwn.
-/
import Derived.Test.YtfbpfogmnaahpaaA7
namespace Go.Proofs.Ytfbpfogmnaahpaa
open Go.RowKit Go.Proofs.YtfbpfogmnaahpaaW.PrintWords

theorem FileAt.set {W : World} {b p : Nat} {q : Option Nat} {A : Option Addr} {c n : Nat} {l : List Int} {s : Nat} {most : Int} {cr : Bool} (h : FileAt W b p q A c n l s most cr) (a : Addr) (ha : a.block ≠ p) (hq : some a.block ≠ q) (v : Value) : FileAt (W.setCell a v) b p q A c n l s most cr :=
  ⟨(Below.heap_setCell _ _ _ p (fun e => ha e.symm)).trans h.blk, h.own, h.len, h.row.set a (fun e => hq e.symm) v, h.apart, h.sure, h.rng⟩

theorem Row.weaken {W : World} {b b' : Nat} {q : Option Nat} {A : Option Addr} {c : Nat} {l : List Int} (h : Row W b q A c l) (hb : b' ≤ b) : Row W b' q A c l :=
  ⟨h.byte, by
    rcases h.lies with h | ⟨g, cur, h3, h4, h5, h6⟩
    · exact .inl h
    · exact .inr ⟨g, cur, h3, h4, by omega, h6⟩⟩
theorem take_cut_n (A : Option Addr) (c n m : Nat) (l : List Int) (hm : l.length = m) (hn : n ≤ m) (hc : l.length ≤ c) :
    (∀ W : World, (Instr.slice 22 (.slice A m c) none (some (.int .i64 (n : Int))) none).run Try.prog W = .ok (.slice A n c) W) ∧ (∀ w : World, Bs w A c l → Bs w A c (l.take n)) := by
  subst hm
  obtain ⟨i5, hi, hii⟩ := Option.map_eq_some_iff.1 info5
  have hsz : i5.size = 1 := by simp only [Prod.mk.injEq] at hii; exact hii.2.1
  obtain ⟨cut1, r1, q1⟩ := print_take_int (k := .u8) 22 5 Try.underlying22 hi hsz A c l (n : Int) (by omega) (by omega) hc
  rw [Int.toNat_natCast] at cut1 r1 q1
  refine ⟨fun W => ?_, fun w h => ⟨r1 w h.reads, q1, fun x hx => h.byte x (List.mem_of_mem_take hx)⟩⟩
  rw [cut1 W, List.length_take, show min n l.length = n from by omega]
theorem drop_cut_n (A : Option Addr) (c n m : Nat) (l : List Int) (hm : l.length = m) (hn : n ≤ m) (hc : l.length ≤ c) : ∃ A2 : Option Addr,
    (∀ W : World, (Instr.slice 22 (.slice A m c) (some (.int .i64 (n : Int))) none none).run Try.prog W = .ok (.slice A2 (m - n) (c - n)) W) ∧ (∀ w : World, Bs w A c l → Bs w A2 (c - n) (l.drop n)) := by
  subst hm
  obtain ⟨i5, hi, hii⟩ := Option.map_eq_some_iff.1 info5
  have hsz : i5.size = 1 := by simp only [Prod.mk.injEq] at hii; exact hii.2.1
  obtain ⟨A2, cut2, r2, q2⟩ := print_cut_int (k := .u8) 22 5 Try.underlying22 hi hsz A c l (n : Int) (by omega) (by omega) hc
  rw [Int.toNat_natCast] at cut2 r2 q2
  refine ⟨A2, fun W => ?_, fun w h => ⟨r2 w h.reads, q2, fun x hx => h.byte x (List.mem_of_mem_drop hx)⟩⟩
  rw [cut2 W, List.length_drop]

set_option maxRecDepth 20000 in
set_option maxHeartbeats 8000000 in
theorem own_long (A0 : Option Addr) (c0 n0 : Nat) (most : Int) (at_ : Int) (W : World) (h : 200 < n0 ∨ most < 1 ∨ 1000 < most) :
    Calls Try.prog 6 #[.slice A0 n0 c0, .int .i64 most, .int .i64 at_] W fun e W' => e = .returned (.bool true) ∧ Below W.heap.size W W' := by
  by_cases t0 : (200 : Int) < (n0 : Int)
  · clear h
    go_enter Try.func6, Try.ntmps6
    go_wp2_with fail
    refine (open_nil W).mono ?_
    rintro e w' ⟨rfl, rfl⟩
    go_wp2_with fail
    refine (append_nil _ _ _ W).mono ?_
    rintro e w' ⟨rfl, rfl⟩
    go_wp2_with fail
    refine (flush_nil W).mono ?_
    rintro e w' ⟨rfl, rfl⟩
    go_wp2_with fail
    refine (crash_nil _ _ _ _ W).mono ?_
    rintro e w' ⟨rfl, rfl⟩
    go_wp2_with fail
    refine (cut_nil _ W).mono ?_
    rintro e w' ⟨rfl, rfl⟩
    go_wp2_with fail
    refine (len_nil W).mono ?_
    rintro e w' ⟨rfl, rfl⟩
    go_wp2_with fail
    refine (sure_nil W).mono ?_
    rintro e w' ⟨rfl, rfl⟩
    go_wp2_with fail
    refine (bytes_nil W).mono ?_
    rintro e w' ⟨rfl, rfl⟩
    go_wp2_with fail
    refine (awake_calls W).mono ?_
    rintro e wz ⟨rfl, bz⟩
    have BZ := Aside0.mk (below_step (Below.refl _ _) bz)
    clear bz
    go_wp2_with fail
    go_ret
    exact ⟨rfl, BZ.out⟩
  by_cases t1 : most < 1
  · clear h
    go_enter Try.func6, Try.ntmps6
    go_wp2_with fail
    refine (open_nil W).mono ?_
    rintro e w' ⟨rfl, rfl⟩
    go_wp2_with fail
    refine (append_nil _ _ _ W).mono ?_
    rintro e w' ⟨rfl, rfl⟩
    go_wp2_with fail
    refine (flush_nil W).mono ?_
    rintro e w' ⟨rfl, rfl⟩
    go_wp2_with fail
    refine (crash_nil _ _ _ _ W).mono ?_
    rintro e w' ⟨rfl, rfl⟩
    go_wp2_with fail
    refine (cut_nil _ W).mono ?_
    rintro e w' ⟨rfl, rfl⟩
    go_wp2_with fail
    refine (len_nil W).mono ?_
    rintro e w' ⟨rfl, rfl⟩
    go_wp2_with fail
    refine (sure_nil W).mono ?_
    rintro e w' ⟨rfl, rfl⟩
    go_wp2_with fail
    refine (bytes_nil W).mono ?_
    rintro e w' ⟨rfl, rfl⟩
    go_wp2_with fail
    refine (awake_calls W).mono ?_
    rintro e wz ⟨rfl, bz⟩
    have BZ := Aside0.mk (below_step (Below.refl _ _) bz)
    clear bz
    go_wp2_with fail
    go_ret
    exact ⟨rfl, BZ.out⟩
  have t2 : 1000 < most := by omega
  clear h
  go_enter Try.func6, Try.ntmps6
  go_wp2_with fail
  refine (open_nil W).mono ?_
  rintro e w' ⟨rfl, rfl⟩
  go_wp2_with fail
  refine (append_nil _ _ _ W).mono ?_
  rintro e w' ⟨rfl, rfl⟩
  go_wp2_with fail
  refine (flush_nil W).mono ?_
  rintro e w' ⟨rfl, rfl⟩
  go_wp2_with fail
  refine (crash_nil _ _ _ _ W).mono ?_
  rintro e w' ⟨rfl, rfl⟩
  go_wp2_with fail
  refine (cut_nil _ W).mono ?_
  rintro e w' ⟨rfl, rfl⟩
  go_wp2_with fail
  refine (len_nil W).mono ?_
  rintro e w' ⟨rfl, rfl⟩
  go_wp2_with fail
  refine (sure_nil W).mono ?_
  rintro e w' ⟨rfl, rfl⟩
  go_wp2_with fail
  refine (bytes_nil W).mono ?_
  rintro e w' ⟨rfl, rfl⟩
  go_wp2_with fail
  refine (awake_calls W).mono ?_
  rintro e wz ⟨rfl, bz⟩
  have BZ := Aside0.mk (below_step (Below.refl _ _) bz)
  clear bz
  go_wp2_with fail
  go_ret
  exact ⟨rfl, BZ.out⟩

set_option maxRecDepth 20000 in
set_option maxHeartbeats 16000000 in
theorem own_short (A0 : Option Addr) (c0 n0 : Nat) (l0 : List Int) (most : Int) (at_ : Int) (W : World) (h0 : Bs W A0 c0 l0) (e0 : l0.length = n0) (u0 : n0 ≤ 200) (m0 : 1 ≤ most) (m1 : most ≤ 1000) :
    Calls Try.prog 6 #[.slice A0 n0 c0, .int .i64 most, .int .i64 at_] W fun e W' => e = .returned (.bool true) ∧ Below W.heap.size W W' := by
  have t0 : ¬ (200 : Int) < (n0 : Int) := by omega
  have t1 : ¬ most < 1 := by omega
  have t2 : ¬ 1000 < most := by omega
  have H0 := Aside0.mk (And.intro h0 e0)
  have HM := Aside0.mk (And.intro m0 m1)
  clear h0 e0 m0 m1
  go_enter Try.func6, Try.ntmps6
  go_wp2_with fail
  refine (open_nil W).mono ?_
  rintro e w' ⟨rfl, rfl⟩
  go_wp2_with fail
  refine (append_nil _ _ _ W).mono ?_
  rintro e w' ⟨rfl, rfl⟩
  go_wp2_with fail
  refine (flush_nil W).mono ?_
  rintro e w' ⟨rfl, rfl⟩
  go_wp2_with fail
  refine (crash_nil _ _ _ _ W).mono ?_
  rintro e w' ⟨rfl, rfl⟩
  go_wp2_with fail
  refine (cut_nil _ W).mono ?_
  rintro e w' ⟨rfl, rfl⟩
  go_wp2_with fail
  refine (len_nil W).mono ?_
  rintro e w' ⟨rfl, rfl⟩
  go_wp2_with fail
  refine (sure_nil W).mono ?_
  rintro e w' ⟨rfl, rfl⟩
  go_wp2_with fail
  refine (bytes_nil W).mono ?_
  rintro e w' ⟨rfl, rfl⟩
  go_wp2_with fail
  refine (new_calls most HM.out.1 (by have := HM.out.2; omega) W.heap.size W (Nat.le_refl _)).mono ?_
  rintro e w1 ⟨rfl, f1, b1⟩
  have F1 := Aside0.mk f1
  have B1 := Aside0.mk b1
  clear f1 b1 t0 t1 t2
  obtain ⟨w2, hw2⟩ : ∃ w2, w1.alloc (.cells #[] 5) = w2 := ⟨_, rfl⟩
  have G2 := Aside0.mk (grow hw2)
  have R2 := Aside0.mk (lit_row #[] [] 0 rfl rfl (by simp) (by decide) hw2)
  have HW2 := Aside0.mk hw2
  clear hw2
  go_wp2_with (at_builtin; rw [HW2.out]; refine wpList_append_Row (b := w1.heap.size) (n := 0) (l := []) rfl _ _ rfl A0 n0 c0 l0 rfl rfl rfl R2.out ?c1 ?c2 ?c3 ?c4 ?_)
  case c1 => exact Bs.of ⟨H0.out.1.below B1.out, H0.out.2⟩ G2.out
  case c2 => exact H0.out.1.byte
  case c3 => omega
  case c4 => exact G2.out.size
  intro Ah ch qh w3 hR hg hq
  have hb3 : Below w1.heap.size w1 w3 := G2.out.grown hg G2.out.size (fun k hk => (R2.out.size k hk).1)
  have R3 := Aside0.mk (show Row w3 w1.heap.size qh Ah ch l0 from hR)
  have F3 := Aside0.mk (F1.out.below hb3)
  have B3 := Aside0.mk (B1.out.trans (hb3.mono B1.out.size))
  have S3 := Aside0.mk (show w1.heap.size ≤ w3.heap.size from hb3.size)
  have L1 := Aside0.mk F1.out.lt
  have B1' := Aside0.mk B1.out.size
  clear hR hg hq hb3 R2 G2 HW2 F1 B1
  go_wp2_with fail
  by_cases cn : (n0 : Int) ≤ most
  · have cn2 : ¬ most < (n0 : Int) := by omega
    refine (append_calls _ _ _ _ _ _ _ _ _ Ah ch n0 l0 w3 F3.out R3.out.bs H0.out.2 (by simp; omega) (by omega) B3.out.size).mono ?_
    rintro e w4 ⟨rfl, Af, cf, qf, hf, hd, hq⟩
    have F4 := Aside0.mk (show FileAt w4 W.heap.size W.heap.size qf Af cf n0 l0 0 most false by simpa using hf)
    have B4 := Aside0.mk (B3.out.trans hd.below)
    have hfr : Fresh qf w3.heap.size := Fresh.step (q := none) (fun k hk => by cases hk) hq (Nat.le_refl _)
    have hne : ∀ j, qh = some j → j ≠ W.heap.size := fun j hj => by have := (R3.out.size j hj).1; have := L1.out; omega
    have R4 := Aside0.mk (show Row w4 W.heap.size qh Ah ch l0 ∧ l0.length = n0 from ⟨(R3.out.did2 hd (fun e => hne _ e rfl) (fun k hk => by simp)).weaken B1'.out, H0.out.2⟩)
    have SEP := Aside0.mk (show ∀ j, qh = some j → j ≠ W.heap.size ∧ some j ≠ qf from fun j hj => ⟨hne j hj, fun e => by have := hfr j e.symm; have := (R3.out.size j hj).2; omega⟩)
    clear hf hd hq hfr hne R3 F3 B3
    go_wp2_with fail
    go_loopw [14] (fun i wr => ∃ k : Nat, k ≤ n0 ∧ i = .int .i64 k ∧ (∃ lh : List Int, lh.length = n0 ∧ Row wr W.heap.size qh Ah ch lh) ∧ FileAt wr W.heap.size W.heap.size qf Af cf n0 l0 0 most false ∧ Below W.heap.size W wr) (fun i _ => n0 - (intOf i).toNat)
    case atStart => exact ⟨0, by omega, rfl, ⟨_, R4.out.2, R4.out.1⟩, F4.out, B4.out⟩
    case round =>
      clear R4 F4 B4
      obtain ⟨k, hk, rfl, ⟨lh, hlh, hR⟩, hF, hB⟩ := hrel
      by_cases hlt : k < n0
      · have i0 : (0 : Int) ≤ (k : Int) := by omega
        have i1 : (k : Int) < (n0 : Int) := by omega
        obtain ⟨g, hqg, rfl⟩ := hR.at_some (by omega)
        have hsep := SEP.out g hqg
        obtain ⟨ad, e0, v0, v1, v2⟩ := hR.bs.at_ k (by omega)
        have hRg := hR
        rw [hqg] at hRg
        have hfz := hRg.frozen k
        injection e0 with e0
        subst e0
        rw [addr0_add] at v0
        obtain ⟨old, hold⟩ : ∃ x, x = rd lh k := ⟨_, rfl⟩
        rw [← hold] at v0 v1 v2
        have hrb := hRg.setByte k ((old + 1) % 256) (by omega)
        have G := Aside0.mk (show Row (wr.setCell ⟨g, k, none⟩ (.int .u8 ((old + 1) % 256))) W.heap.size qh (some ⟨g, 0, none⟩) ch (lh.set k ((old + 1) % 256)) by rw [hqg]; exact hrb)
        have GF := Aside0.mk (hF.set ⟨g, k, none⟩ hsep.1 hsep.2 (.int .u8 ((old + 1) % 256)))
        have GB := Aside0.mk (hB.setCell (p := ⟨g, k, none⟩) (hR.size g hqg).1 (.int .u8 ((old + 1) % 256)))
        have HLH := Aside0.mk hlh
        clear hold hRg hR hF hB hrb hsep hqg hlh v1 v2
        go_wp2_with fail
        go_roundw
        case rel => exact ⟨k + 1, by omega, by go_num, ⟨_, by rw [List.length_set]; exact HLH.out, G.out⟩, GF.out, GB.out⟩
        case measure => simp [intOf]; omega
      · obtain rfl : n0 = k := by omega
        have F2 := Aside0.mk hF
        have B2 := Aside0.mk hB
        clear hR hF hB
        go_wp2_with fail
        refine (bytes_calls _ _ _ _ l0 H0.out.2 (by omega) wr F2.out.cells.1 F2.out.bs).mono ?_
        rintro e w5 ⟨At, ct, qt, rfl, r5, b5⟩
        have R5 := Aside0.mk (show Row w5 W.heap.size qt At ct l0 ∧ l0.length = n0 from ⟨r5.weaken B2.out.size, H0.out.2⟩)
        have F5 := Aside0.mk (F2.out.below b5)
        have B5 := Aside0.mk (B2.out.trans (b5.mono B2.out.size))
        clear SEP
        have SEP := Aside0.mk (show ∀ j, qt = some j → j ≠ W.heap.size ∧ some j ≠ qf from fun j hj => ⟨by have := (r5.size j hj).1; have := F2.out.lt; omega, fun e => by have := (r5.size j hj).1; have := (F2.out.row.size j e.symm).2; omega⟩)
        clear r5 b5 F2 B2
        go_wp2_with fail
        go_loopw [16] (fun i wr => ∃ k : Nat, k ≤ n0 ∧ i = .int .i64 k ∧ (∃ lh : List Int, lh.length = n0 ∧ Row wr W.heap.size qt At ct lh) ∧ FileAt wr W.heap.size W.heap.size qf Af cf n0 l0 0 most false ∧ Below W.heap.size W wr) (fun i _ => n0 - (intOf i).toNat)
        case atStart => exact ⟨0, by omega, rfl, ⟨_, R5.out.2, R5.out.1⟩, F5.out, B5.out⟩
        case round =>
          clear R5 F5 B5
          obtain ⟨k, hk, rfl, ⟨lh, hlh, hR⟩, hF, hB⟩ := hrel
          by_cases hlt : k < n0
          · have i0 : (0 : Int) ≤ (k : Int) := by omega
            have i1 : (k : Int) < (n0 : Int) := by omega
            obtain ⟨g, hqg, rfl⟩ := hR.at_some (by omega)
            have hsep := SEP.out g hqg
            obtain ⟨ad, e0, v0, v1, v2⟩ := hR.bs.at_ k (by omega)
            have hRg := hR
            rw [hqg] at hRg
            have hfz := hRg.frozen k
            injection e0 with e0
            subst e0
            rw [addr0_add] at v0
            obtain ⟨old, hold⟩ : ∃ x, x = rd lh k := ⟨_, rfl⟩
            rw [← hold] at v0 v1 v2
            have hrb := hRg.setByte k ((old + 2) % 256) (by omega)
            have G := Aside0.mk (show Row (wr.setCell ⟨g, k, none⟩ (.int .u8 ((old + 2) % 256))) W.heap.size qt (some ⟨g, 0, none⟩) ct (lh.set k ((old + 2) % 256)) by rw [hqg]; exact hrb)
            have GF := Aside0.mk (hF.set ⟨g, k, none⟩ hsep.1 hsep.2 (.int .u8 ((old + 2) % 256)))
            have GB := Aside0.mk (hB.setCell (p := ⟨g, k, none⟩) (hR.size g hqg).1 (.int .u8 ((old + 2) % 256)))
            have HLH := Aside0.mk hlh
            clear hold hRg hR hF hB hrb hsep hqg hlh v1 v2
            go_wp2_with fail
            go_roundw
            case rel => exact ⟨k + 1, by omega, by go_num, ⟨_, by rw [List.length_set]; exact HLH.out, G.out⟩, GF.out, GB.out⟩
            case measure => simp [intOf]; omega
          · obtain rfl : n0 = k := by omega
            have F2 := Aside0.mk hF
            have B2 := Aside0.mk hB
            clear hR hF hB
            go_wp2_with fail
            refine (open_calls _ _ _ _ _ _ _ _ _ false wr F2.out (by omega) B2.out.size).mono ?_
            rintro e wa ⟨pp, qp, Ap, cp, rfl, hfp, hpp, hqp, hbp⟩
            have PA := Aside0.mk hfp
            have FA := Aside0.mk (F2.out.below hbp)
            have BA := Aside0.mk (B2.out.trans (hbp.mono B2.out.size))
            have LP := Aside0.mk (show W.heap.size < wr.heap.size ∧ wr.heap.size ≤ pp from ⟨F2.out.lt, hpp⟩)
            have FPA := Aside0.mk (show Fresh qp wr.heap.size from hqp)
            have LQ := Aside0.mk (show ∀ j, qf = some j → j < wr.heap.size from fun j hj => (F2.out.row.size j hj).2)
            have SA := Aside0.mk hbp.size
            clear hfp hpp hqp hbp F2 B2
            go_wp2_with fail
            refine (bytes_calls _ _ _ _ l0 H0.out.2 (by omega) wa PA.out.cells.1 PA.out.bs).mono ?_
            rintro e wb ⟨Ab, cb_, qb, rfl, rb, bb⟩
            have RB := Aside0.mk rb
            have PB := Aside0.mk (PA.out.below bb)
            have FB := Aside0.mk (FA.out.below bb)
            have BB := Aside0.mk (BA.out.trans (bb.mono BA.out.size))
            have SB := Aside0.mk (Nat.le_trans SA.out bb.size)
            clear rb bb PA FA BA SA
            go_wp2_with fail
            refine (same_calls _ _ n0 l0 H0.out.2 _ _ n0 l0 H0.out.2 wb RB.out.bs (H0.out.1.below BB.out)).mono ?_
            rintro e wc ⟨rfl, hd⟩
            have dd : decide (l0 = l0) = true := by simp
            rw [dd]
            have PC := Aside0.mk (PB.out.below (same_below hd))
            have FC := Aside0.mk (FB.out.below (same_below hd))
            have BC := Aside0.mk (BB.out.trans ((same_below hd).mono BB.out.size))
            have SC := Aside0.mk (Nat.le_trans SB.out (same_below hd).size)
            clear hd dd PB FB BB RB SB
            obtain ⟨z, hz⟩ : ∃ z : Nat, (z : Int) = most - n0 := ⟨(most - n0).toNat, by omega⟩
            have hwz : IntKind.i64.wrap (most - (n0 : Int)) = (z : Int) := by rw [hz]; exact wrap_in (by have := HM.out; omega) (by have := HM.out; omega)
            have hmk := print_make (P := Try.prog) 22 5 .u8 1 Try.underlying22 info5 (by decide) z (by have := HM.out; omega)
            have HZ := Aside0.mk hz
            clear hz
            go_wp2_with fail
            obtain ⟨v1, hv1⟩ : ∃ v1, wc.alloc (.cells (madeCells #[.int .u8 0] z) 5) = v1 := ⟨_, rfl⟩
            rw [hv1]
            refine (append_calls _ _ _ _ _ _ _ _ _ _ z z (List.replicate z 0) v1 (PC.out.below (grow hv1)) (made_bs z (by have := HM.out; have := HZ.out; omega) hv1) (by simp) (by have := HZ.out; omega) (by have := HM.out; have := HZ.out; omega) (BC.out.trans ((grow hv1).mono BC.out.size)).size).mono ?_
            rintro e v2 ⟨rfl, Ay, cy, qy, hf, hd, hqy⟩
            have PD := Aside0.mk hf
            have FD := Aside0.mk ((FC.out.below (grow hv1)).did hd (by have := LP.out; omega) (by intro e; have := FPA.out _ e.symm; have := LP.out; omega) (by intro e; have := LQ.out _ e; have := LP.out; omega) (by intro j hj e; have := LQ.out _ hj; have := FPA.out _ e.symm; omega))
            have BD := Aside0.mk ((BC.out.trans ((grow hv1).mono BC.out.size)).trans hd.below)
            have FP := Aside0.mk (show Fresh qy wr.heap.size from FPA.out.step hqy (Nat.le_trans SC.out (grow hv1).size))
            clear hf hd hqy hv1 PC FC BC FPA SC
            go_wp2_with fail
            obtain ⟨v3, hv3⟩ : ∃ v3, v2.alloc (.cells #[.int .u8 1] 5) = v3 := ⟨_, rfl⟩
            rw [hv3]
            refine (append_full _ _ _ _ _ _ _ _ _ _ 1 _ v3 (PD.out.below (grow hv3)) (by have := HZ.out; push_cast; omega)).mono ?_
            rintro e v4 ⟨rfl, hb⟩
            have PE := Aside0.mk ((PD.out.below (grow hv3)).below hb)
            have FE := Aside0.mk ((FD.out.below (grow hv3)).below hb)
            have BE := Aside0.mk (BD.out.trans ((below_step (grow hv3) hb).mono BD.out.size))
            clear hb hv3 PD FD BD
            go_wp2_with fail
            refine (crash_calls _ _ _ _ _ _ _ _ _ 0 n0 (by omega) (by omega) none 0 0 [] 0 rfl v4 PE.out ⟨⟨rfl, by simp, fun h => absurd h (by simp)⟩, by simp, by simp⟩ rfl (fun h => absurd h (by simp)) BE.out.size).mono ?_
            rintro e v5 ⟨rfl, hf, hd⟩
            have P9' := Aside0.mk (show FileAt v5 W.heap.size pp qy Ay n0 n0 l0 n0 most true by
              have e : (l0 ++ List.replicate z 0).take n0 = l0 := by rw [← H0.out.2]; exact List.take_left
              have e2 : grb n0 [] ((l0 ++ List.replicate z 0).take n0) 0 = l0 := by rw [e]; rfl
              rw [e2] at hf
              exact hf)
            have F9' := Aside0.mk (FE.out.did hd (by have := LP.out; omega) (by intro e; have := FP.out _ e.symm; have := LP.out; omega) (by intro e; have := LQ.out _ e; have := LP.out; omega) (by intro j hj e; have := LQ.out _ hj; have := FP.out _ e.symm; omega))
            have B9' := Aside0.mk (BE.out.trans hd.below)
            clear hf hd PE FE BE hmk hwz
            go_wp2_with fail
            refine (bytes_calls _ _ _ _ l0 H0.out.2 (by omega) v5 F9'.out.cells.1 F9'.out.bs).mono ?_
            rintro e v6 ⟨Ac, cc, qc, rfl, rc, bc⟩
            have RC := Aside0.mk rc
            have P6 := Aside0.mk (P9'.out.below bc)
            have F6 := Aside0.mk (F9'.out.below bc)
            have B6 := Aside0.mk (B9'.out.trans (bc.mono B9'.out.size))
            clear rc bc P9' F9' B9'
            go_wp2_with fail
            refine (same_calls _ _ n0 l0 H0.out.2 _ _ n0 l0 H0.out.2 v6 RC.out.bs (H0.out.1.below B6.out)).mono ?_
            rintro e v7 ⟨rfl, hd⟩
            have dd : decide (l0 = l0) = true := by simp
            rw [dd]
            have P9 := Aside0.mk (P6.out.below (same_below hd))
            have F9 := Aside0.mk (F6.out.below (same_below hd))
            have B9 := Aside0.mk (B6.out.trans ((same_below hd).mono B6.out.size))
            clear hd dd P6 F6 B6 RC
            go_wp2_with fail
            refine (sure_calls _ _ v7 F9.out.cells.2.1).mono ?_
            rintro e w' ⟨rfl, rfl⟩
            by_cases ca : at_ < 0
            · go_wp2_with fail
              refine (cut_range _ _ _ _ _ _ _ _ _ _ v7 F9.out (.inl ca)).mono ?_
              rintro e w' ⟨rfl, rfl⟩
              go_wp2_with fail
              obtain ⟨y0, -, -, -⟩ := F9.out.cells
              refine (len_calls _ _ _ _ _ y0).mono ?_
              rintro e w' ⟨rfl, rfl⟩
              clear y0
              go_wp2_with fail
              refine (awake_calls v7).mono ?_
              rintro e wz ⟨rfl, bz⟩
              have BZ := Aside0.mk (below_step B9.out bz)
              clear bz
              go_wp2_with fail
              go_ret
              exact ⟨rfl, BZ.out⟩
            by_cases ca2 : (n0 : Int) < at_
            · go_wp2_with fail
              refine (cut_range _ _ _ _ _ _ _ _ _ _ v7 F9.out (.inr ca2)).mono ?_
              rintro e w' ⟨rfl, rfl⟩
              go_wp2_with fail
              obtain ⟨y0, -, -, -⟩ := F9.out.cells
              refine (len_calls _ _ _ _ _ y0).mono ?_
              rintro e w' ⟨rfl, rfl⟩
              clear y0
              go_wp2_with fail
              refine (awake_calls v7).mono ?_
              rintro e wz ⟨rfl, bz⟩
              have BZ := Aside0.mk (below_step B9.out bz)
              clear bz
              go_wp2_with fail
              go_ret
              exact ⟨rfl, BZ.out⟩
            obtain ⟨k, rfl⟩ : ∃ k : Nat, at_ = (k : Int) := ⟨at_.toNat, by omega⟩
            have hk : k ≤ n0 := by omega
            go_wp2_with fail
            obtain ⟨r, hr⟩ : ∃ r, n0 - k = r := ⟨_, rfl⟩
            have HR := Aside0.mk hr
            obtain ⟨cut1, kb1⟩ := take_cut_n A0 c0 k n0 l0 H0.out.2 hk (by have := H0.out.1.cap; omega)
            obtain ⟨A2, cut2, kb2⟩ := drop_cut_n A0 c0 k n0 l0 H0.out.2 hk (by have := H0.out.1.cap; omega)
            rw [hr] at cut2
            clear hr
            refine wp_region_held_drew (S := fun w' => True) (by kernel_rfl) ?_ (fun hHeld => ?_)
            · trivial
            refine takeH 0 (some 215) ?_ (by rfl) (by kernel_rfl) (by kernel_rfl) (by kernel_rfl) (fun _ _ _ h => h) ?_ hHeld ?_
            rotate_left
            · intro o ho
              simp only [List.getElem?_toArray, List.getElem?_cons_zero, Option.some.injEq] at ho
              subst ho
              refine ⟨by rfl, fun w hSw => ?_⟩
              try dsimp only at hSw
              go_simp
              try with_reducible rfl
            try simp only [Act.put, List.setIfInBounds_toArray, List.set_cons_zero, List.set_cons_succ]
            refine takeH 1 (some 216) ?_ (by rfl) (by kernel_rfl) (by kernel_rfl) (by kernel_rfl) (fun _ _ _ h => h) ?_ hHeld ?_
            rotate_left
            · intro o ho
              simp only [List.getElem?_toArray, List.getElem?_cons_succ, List.getElem?_cons_zero, Option.some.injEq] at ho
              subst ho
              refine ⟨by rfl, fun w hSw => ?_⟩
              try dsimp only at hSw
              go_simp
              try with_reducible rfl
            try simp only [Act.put, List.setIfInBounds_toArray, List.set_cons_zero, List.set_cons_succ]
            refine oneH 2 (by kernel_rfl) (by rfl) (fun o ho K hK => ?_)
            simp only [List.getElem?_toArray, List.getElem?_cons_succ, List.getElem?_cons_zero, Option.some.injEq] at ho
            subst ho
            go_simp
            refine (cut_calls _ _ _ _ _ _ _ _ _ k _ (F9.out.below (Below.refl _ _).drew) hk (by exact B9.out.size)).mono ?_
            rintro e x1 ⟨rfl, f1, d1⟩
            have FX1 := Aside0.mk (show FileAt x1 W.heap.size W.heap.size qf Af k k (l0.take k) 0 most false by rw [Nat.zero_min] at f1; exact f1)
            have PX1 := Aside0.mk ((P9.out.below (Below.refl _ _).drew).did d1 (by have := LP.out; omega) (by intro e; have := LQ.out _ e.symm; have := LP.out; omega) (by intro e; have := FP.out _ e; have := LP.out; omega) (by intro j hj e; have := FP.out _ hj; have := LQ.out _ e.symm; omega))
            have BX1 := Aside0.mk (B9.out.drew.trans d1.below)
            clear f1 d1
            try go_wp2_with fail
            refine hK.out _ _ ?_ (fun hHeld2 => ?_)
            · trivial
            clear hK K hHeld
            rename _ => hHeld
            try simp only [Act.put, List.setIfInBounds_toArray, List.set_cons_zero, List.set_cons_succ]
            refine takeH 3 (some 218) ?_ (by rfl) (by kernel_rfl) (by kernel_rfl) (by kernel_rfl) (fun _ _ _ h => h) ?_ hHeld ?_
            rotate_left
            · intro o ho
              simp only [List.getElem?_toArray, List.getElem?_cons_succ, List.getElem?_cons_zero, Option.some.injEq] at ho
              subst ho
              refine ⟨by rfl, fun w hSw => ?_⟩
              try dsimp only at hSw
              go_simp
              try with_reducible rfl
            try simp only [Act.put, List.setIfInBounds_toArray, List.set_cons_zero, List.set_cons_succ]
            refine takeH 4 (some 219) ?_ (by rfl) (by kernel_rfl) (by kernel_rfl) (by kernel_rfl) (fun _ _ _ h => h) ?_ hHeld ?_
            rotate_left
            · intro o ho
              simp only [List.getElem?_toArray, List.getElem?_cons_succ, List.getElem?_cons_zero, Option.some.injEq] at ho
              subst ho
              refine ⟨by rfl, fun w hSw => ?_⟩
              try dsimp only at hSw
              go_simp
              try with_reducible rfl
            try simp only [Act.put, List.setIfInBounds_toArray, List.set_cons_zero, List.set_cons_succ]
            refine takeH 5 (some 220) ?_ (by rfl) (by kernel_rfl) (by kernel_rfl) (by kernel_rfl) (fun _ _ _ h => h) ?_ hHeld ?_
            rotate_left
            · intro o ho
              simp only [List.getElem?_toArray, List.getElem?_cons_succ, List.getElem?_cons_zero, Option.some.injEq] at ho
              subst ho
              refine ⟨by rfl, fun w hSw => ?_⟩
              try dsimp only at hSw
              go_simp
              try with_reducible rfl
            try simp only [Act.put, List.setIfInBounds_toArray, List.set_cons_zero, List.set_cons_succ]
            refine takeH 7 (some 222) ?_ (by rfl) (by kernel_rfl) (by kernel_rfl) (by kernel_rfl) (fun _ _ _ h => h) ?_ hHeld ?_
            rotate_left
            · intro o ho
              simp only [List.getElem?_toArray, List.getElem?_cons_succ, List.getElem?_cons_zero, Option.some.injEq] at ho
              subst ho
              refine ⟨by rfl, fun w hSw => ?_⟩
              try dsimp only at hSw
              go_simp
              try with_reducible rfl
            try simp only [Act.put, List.setIfInBounds_toArray, List.set_cons_zero, List.set_cons_succ]
            refine takeH 8 (some 223) ?_ (by rfl) (by kernel_rfl) (by kernel_rfl) (by kernel_rfl) (fun _ _ _ h => h) ?_ hHeld ?_
            rotate_left
            · intro o ho
              simp only [List.getElem?_toArray, List.getElem?_cons_succ, List.getElem?_cons_zero, Option.some.injEq] at ho
              subst ho
              refine ⟨by rfl, fun w hSw => ?_⟩
              try dsimp only at hSw
              go_simp
              try with_reducible rfl
            try simp only [Act.put, List.setIfInBounds_toArray, List.set_cons_zero, List.set_cons_succ]
            refine takeH 9 (some 224) ?_ (by rfl) (by kernel_rfl) (by kernel_rfl) (by kernel_rfl) (fun _ _ _ h => h) ?_ hHeld ?_
            rotate_left
            · intro o ho
              simp only [List.getElem?_toArray, List.getElem?_cons_succ, List.getElem?_cons_zero, Option.some.injEq] at ho
              subst ho
              refine ⟨by rfl, fun w hSw => ?_⟩
              try dsimp only at hSw
              go_simp
              try with_reducible rfl
            try simp only [Act.put, List.setIfInBounds_toArray, List.set_cons_zero, List.set_cons_succ]
            refine oneH 6 (by kernel_rfl) (by rfl) (fun o ho K hK => ?_)
            simp only [List.getElem?_toArray, List.getElem?_cons_succ, List.getElem?_cons_zero, Option.some.injEq] at ho
            subst ho
            go_simp
            refine (bytes_calls _ _ _ _ (l0.take k) FX1.out.len (by omega) x1 FX1.out.cells.1 FX1.out.bs).mono ?_
            rintro e x2 ⟨At, ct, qt, rfl, r2, b2⟩
            have FX2 := Aside0.mk (FX1.out.below b2)
            have PX2 := Aside0.mk (PX1.out.below b2)
            have BX2 := Aside0.mk (BX1.out.trans (b2.mono BX1.out.size))
            have RX2 := Aside0.mk r2
            clear r2 b2 FX1 PX1 BX1
            try go_wp2_with fail
            refine hK.out _ _ ?_ (fun hHeld2 => ?_)
            · trivial
            clear hK K hHeld
            rename _ => hHeld
            try simp only [Act.put, List.setIfInBounds_toArray, List.set_cons_zero, List.set_cons_succ]
            refine oneH 10 (by kernel_rfl) (by rfl) (fun o ho K hK => ?_)
            simp only [List.getElem?_toArray, List.getElem?_cons_succ, List.getElem?_cons_zero, Option.some.injEq] at ho
            subst ho
            go_simp
            refine (same_calls _ _ k (l0.take k) FX2.out.len _ _ k (l0.take k) FX2.out.len x2 RX2.out.bs (kb1 _ (H0.out.1.below BX2.out))).mono ?_
            rintro e x3 ⟨rfl, hd⟩
            have dd : decide (l0.take k = l0.take k) = true := by simp
            rw [dd]
            have FX3 := Aside0.mk (FX2.out.below (same_below hd))
            have PX3 := Aside0.mk (PX2.out.below (same_below hd))
            have BX3 := Aside0.mk (BX2.out.trans ((same_below hd).mono BX2.out.size))
            clear hd dd FX2 PX2 BX2 RX2
            try go_wp2_with fail
            refine hK.out _ _ ?_ (fun hHeld2 => ?_)
            · trivial
            clear hK K hHeld
            rename _ => hHeld
            try simp only [Act.put, List.setIfInBounds_toArray, List.set_cons_zero, List.set_cons_succ]
            refine takeH 11 (some 226) ?_ (by rfl) (by kernel_rfl) (by kernel_rfl) (by kernel_rfl) (fun _ _ _ h => h) ?_ hHeld ?_
            rotate_left
            · intro o ho
              simp only [List.getElem?_toArray, List.getElem?_cons_succ, List.getElem?_cons_zero, Option.some.injEq] at ho
              subst ho
              refine ⟨by rfl, fun w hSw => ?_⟩
              try dsimp only at hSw
              go_simp
              try with_reducible rfl
            try simp only [Act.put, List.setIfInBounds_toArray, List.set_cons_zero, List.set_cons_succ]
            refine takeH 12 (some 227) ?_ (by rfl) (by kernel_rfl) (by kernel_rfl) (by kernel_rfl) (fun _ _ _ h => h) ?_ hHeld ?_
            rotate_left
            · intro o ho
              simp only [List.getElem?_toArray, List.getElem?_cons_succ, List.getElem?_cons_zero, Option.some.injEq] at ho
              subst ho
              refine ⟨by rfl, fun w hSw => ?_⟩
              try dsimp only at hSw
              go_simp
              try with_reducible rfl
            try simp only [Act.put, List.setIfInBounds_toArray, List.set_cons_zero, List.set_cons_succ]
            refine takeH 13 (some 228) ?_ (by rfl) (by kernel_rfl) (by kernel_rfl) (by kernel_rfl) (fun _ _ _ h => h) ?_ hHeld ?_
            rotate_left
            · intro o ho
              simp only [List.getElem?_toArray, List.getElem?_cons_succ, List.getElem?_cons_zero, Option.some.injEq] at ho
              subst ho
              refine ⟨by rfl, fun w hSw => ?_⟩
              try dsimp only at hSw
              go_simp
              try with_reducible rfl
            try simp only [Act.put, List.setIfInBounds_toArray, List.set_cons_zero, List.set_cons_succ]
            refine oneH 14 (by kernel_rfl) (by rfl) (fun o ho K hK => ?_)
            simp only [List.getElem?_toArray, List.getElem?_cons_succ, List.getElem?_cons_zero, Option.some.injEq] at ho
            subst ho
            go_simp
            refine (sure_calls _ _ x3 FX3.out.cells.2.1).mono ?_
            rintro e x4 ⟨rfl, rfl⟩
            try go_wp2_with fail
            refine hK.out _ _ ?_ (fun hHeld2 => ?_)
            · trivial
            clear hK K hHeld
            rename _ => hHeld
            try simp only [Act.put, List.setIfInBounds_toArray, List.set_cons_zero, List.set_cons_succ]
            refine takeH 15 (some 230) ?_ (by rfl) (by kernel_rfl) (by kernel_rfl) (by kernel_rfl) (fun _ _ _ h => h) ?_ hHeld ?_
            rotate_left
            · intro o ho
              simp only [List.getElem?_toArray, List.getElem?_cons_succ, List.getElem?_cons_zero, Option.some.injEq] at ho
              subst ho
              refine ⟨by rfl, fun w hSw => ?_⟩
              try dsimp only at hSw
              go_simp
              try with_reducible rfl
            try simp only [Act.put, List.setIfInBounds_toArray, List.set_cons_zero, List.set_cons_succ]
            refine takeH 16 (some 231) ?_ (by rfl) (by kernel_rfl) (by kernel_rfl) (by kernel_rfl) (fun _ _ _ h => h) ?_ hHeld ?_
            rotate_left
            · intro o ho
              simp only [List.getElem?_toArray, List.getElem?_cons_succ, List.getElem?_cons_zero, Option.some.injEq] at ho
              subst ho
              refine ⟨by rfl, fun w hSw => ?_⟩
              try dsimp only at hSw
              go_simp
              try with_reducible rfl
            try simp only [Act.put, List.setIfInBounds_toArray, List.set_cons_zero, List.set_cons_succ]
            refine takeH 17 (some 232) ?_ (by rfl) (by kernel_rfl) (by kernel_rfl) (by kernel_rfl) (fun _ _ _ h => h) ?_ hHeld ?_
            rotate_left
            · intro o ho
              simp only [List.getElem?_toArray, List.getElem?_cons_succ, List.getElem?_cons_zero, Option.some.injEq] at ho
              subst ho
              refine ⟨by rfl, fun w hSw => ?_⟩
              try dsimp only at hSw
              go_simp
              try with_reducible rfl
            try simp only [Act.put, List.setIfInBounds_toArray, List.set_cons_zero, List.set_cons_succ]
            refine takeH 18 (some 233) ?_ (by rfl) (by kernel_rfl) (by kernel_rfl) (by kernel_rfl) (fun _ _ _ h => h) ?_ hHeld ?_
            rotate_left
            · intro o ho
              simp only [List.getElem?_toArray, List.getElem?_cons_succ, List.getElem?_cons_zero, Option.some.injEq] at ho
              subst ho
              refine ⟨by rfl, fun w hSw => ?_⟩
              try dsimp only at hSw
              go_simp
              try with_reducible rfl
            try simp only [Act.put, List.setIfInBounds_toArray, List.set_cons_zero, List.set_cons_succ]
            refine takeH 19 (some 234) ?_ (by rfl) (by kernel_rfl) (by kernel_rfl) (by kernel_rfl) (fun _ _ _ h => h) ?_ hHeld ?_
            rotate_left
            · intro o ho
              simp only [List.getElem?_toArray, List.getElem?_cons_succ, List.getElem?_cons_zero, Option.some.injEq] at ho
              subst ho
              refine ⟨by rfl, fun w hSw => ?_⟩
              try dsimp only at hSw
              go_simp
              try with_reducible rfl
            try simp only [Act.put, List.setIfInBounds_toArray, List.set_cons_zero, List.set_cons_succ]
            refine takeH 20 (some 235) ?_ (by rfl) (by kernel_rfl) (by kernel_rfl) (by kernel_rfl) (fun _ _ _ h => h) ?_ hHeld ?_
            rotate_left
            · intro o ho
              simp only [List.getElem?_toArray, List.getElem?_cons_succ, List.getElem?_cons_zero, Option.some.injEq] at ho
              subst ho
              refine ⟨by rfl, fun w hSw => ?_⟩
              try dsimp only at hSw
              go_simp
              try with_reducible rfl
            try simp only [Act.put, List.setIfInBounds_toArray, List.set_cons_zero, List.set_cons_succ]
            refine takeH 21 (some 236) ?_ (by rfl) (by kernel_rfl) (by kernel_rfl) (by kernel_rfl) (fun _ _ _ h => h) ?_ hHeld ?_
            rotate_left
            · intro o ho
              simp only [List.getElem?_toArray, List.getElem?_cons_succ, List.getElem?_cons_zero, Option.some.injEq] at ho
              subst ho
              refine ⟨by rfl, fun w hSw => ?_⟩
              try dsimp only at hSw
              go_simp
              try with_reducible rfl
            try simp only [Act.put, List.setIfInBounds_toArray, List.set_cons_zero, List.set_cons_succ]
            refine oneH 22 (by kernel_rfl) (by rfl) (fun o ho K hK => ?_)
            simp only [List.getElem?_toArray, List.getElem?_cons_succ, List.getElem?_cons_zero, Option.some.injEq] at ho
            subst ho
            go_simp
            refine (append_calls _ _ _ _ _ _ _ _ _ A2 (c0 - k) r (l0.drop k) x3 FX3.out (kb2 _ (H0.out.1.below BX3.out)) (by rw [List.length_drop, H0.out.2]; exact HR.out) (by have := HR.out; omega) (by have := HR.out; omega) BX3.out.size).mono ?_
            rintro e x5 ⟨rfl, Ax, cx, qx, f5, d5, h5⟩
            have FX5 := Aside0.mk (show FileAt x5 W.heap.size W.heap.size qx Ax cx n0 l0 0 most false by rw [List.take_append_drop, show k + r = n0 from by have := HR.out; omega] at f5; exact f5)
            have PX5 := Aside0.mk (PX3.out.did d5 (by have := LP.out; omega) (by intro e; have := LQ.out _ e.symm; have := LP.out; omega) (by intro e; have := FP.out _ e; have := LP.out; omega) (by intro j hj e; have := FP.out _ hj; have := LQ.out _ e.symm; omega))
            have BX5 := Aside0.mk (BX3.out.trans d5.below)
            clear f5 d5 h5 FX3 PX3 BX3
            try go_wp2_with fail
            refine hK.out _ _ ?_ (fun hHeld2 => ?_)
            · trivial
            clear hK K hHeld
            rename _ => hHeld
            try simp only [Act.put, List.setIfInBounds_toArray, List.set_cons_zero, List.set_cons_succ]
            refine takeH 23 (some 238) ?_ (by rfl) (by kernel_rfl) (by kernel_rfl) (by kernel_rfl) (fun _ _ _ h => h) ?_ hHeld ?_
            rotate_left
            · intro o ho
              simp only [List.getElem?_toArray, List.getElem?_cons_succ, List.getElem?_cons_zero, Option.some.injEq] at ho
              subst ho
              refine ⟨by rfl, fun w hSw => ?_⟩
              try dsimp only at hSw
              go_simp
              try with_reducible rfl
            try simp only [Act.put, List.setIfInBounds_toArray, List.set_cons_zero, List.set_cons_succ]
            refine takeH 24 (some 239) ?_ (by rfl) (by kernel_rfl) (by kernel_rfl) (by kernel_rfl) (fun _ _ _ h => h) ?_ hHeld ?_
            rotate_left
            · intro o ho
              simp only [List.getElem?_toArray, List.getElem?_cons_succ, List.getElem?_cons_zero, Option.some.injEq] at ho
              subst ho
              refine ⟨by rfl, fun w hSw => ?_⟩
              try dsimp only at hSw
              go_simp
              try with_reducible rfl
            try simp only [Act.put, List.setIfInBounds_toArray, List.set_cons_zero, List.set_cons_succ]
            refine takeH 25 (some 240) ?_ (by rfl) (by kernel_rfl) (by kernel_rfl) (by kernel_rfl) (fun _ _ _ h => h) ?_ hHeld ?_
            rotate_left
            · intro o ho
              simp only [List.getElem?_toArray, List.getElem?_cons_succ, List.getElem?_cons_zero, Option.some.injEq] at ho
              subst ho
              refine ⟨by rfl, fun w hSw => ?_⟩
              try dsimp only at hSw
              go_simp
              try with_reducible rfl
            try simp only [Act.put, List.setIfInBounds_toArray, List.set_cons_zero, List.set_cons_succ]
            refine takeH 26 (some 241) ?_ (by rfl) (by kernel_rfl) (by kernel_rfl) (by kernel_rfl) (fun _ _ _ h => h) ?_ hHeld ?_
            rotate_left
            · intro o ho
              simp only [List.getElem?_toArray, List.getElem?_cons_succ, List.getElem?_cons_zero, Option.some.injEq] at ho
              subst ho
              refine ⟨by rfl, fun w hSw => ?_⟩
              try dsimp only at hSw
              go_simp
              try with_reducible rfl
            try simp only [Act.put, List.setIfInBounds_toArray, List.set_cons_zero, List.set_cons_succ]
            refine takeH 28 (some 243) ?_ (by rfl) (by kernel_rfl) (by kernel_rfl) (by kernel_rfl) (fun _ _ _ h => h) ?_ hHeld ?_
            rotate_left
            · intro o ho
              simp only [List.getElem?_toArray, List.getElem?_cons_succ, List.getElem?_cons_zero, Option.some.injEq] at ho
              subst ho
              refine ⟨by rfl, fun w hSw => ?_⟩
              try dsimp only at hSw
              go_simp
              try with_reducible rfl
            try simp only [Act.put, List.setIfInBounds_toArray, List.set_cons_zero, List.set_cons_succ]
            refine oneH 27 (by kernel_rfl) (by rfl) (fun o ho K hK => ?_)
            simp only [List.getElem?_toArray, List.getElem?_cons_succ, List.getElem?_cons_zero, Option.some.injEq] at ho
            subst ho
            go_simp
            refine (bytes_calls _ _ _ _ l0 FX5.out.len (by omega) x5 FX5.out.cells.1 FX5.out.bs).mono ?_
            rintro e x6 ⟨Au, cu, qu, rfl, r6, b6⟩
            have PX6 := Aside0.mk (PX5.out.below b6)
            have BX6 := Aside0.mk (BX5.out.trans (b6.mono BX5.out.size))
            have RX6 := Aside0.mk r6
            clear r6 b6 FX5 PX5 BX5
            try go_wp2_with fail
            refine hK.out _ _ ?_ (fun hHeld2 => ?_)
            · trivial
            clear hK K hHeld
            rename _ => hHeld
            try simp only [Act.put, List.setIfInBounds_toArray, List.set_cons_zero, List.set_cons_succ]
            refine oneH 29 (by kernel_rfl) (by rfl) (fun o ho K hK => ?_)
            simp only [List.getElem?_toArray, List.getElem?_cons_succ, List.getElem?_cons_zero, Option.some.injEq] at ho
            subst ho
            go_simp
            refine (same_calls _ _ n0 l0 H0.out.2 _ _ n0 l0 H0.out.2 x6 RX6.out.bs (H0.out.1.below BX6.out)).mono ?_
            rintro e x7 ⟨rfl, hd⟩
            have dd : decide (l0 = l0) = true := by simp
            rw [dd]
            have PX7 := Aside0.mk (PX6.out.below (same_below hd))
            have BX7 := Aside0.mk (BX6.out.trans ((same_below hd).mono BX6.out.size))
            clear hd dd PX6 BX6 RX6
            try go_wp2_with fail
            refine hK.out _ _ ?_ (fun hHeld2 => ?_)
            · trivial
            clear hK K hHeld
            rename _ => hHeld
            try simp only [Act.put, List.setIfInBounds_toArray, List.set_cons_zero, List.set_cons_succ]
            refine takeH 30 (some 245) ?_ (by rfl) (by kernel_rfl) (by kernel_rfl) (by kernel_rfl) (fun _ _ _ h => h) ?_ hHeld ?_
            rotate_left
            · intro o ho
              simp only [List.getElem?_toArray, List.getElem?_cons_succ, List.getElem?_cons_zero, Option.some.injEq] at ho
              subst ho
              refine ⟨by rfl, fun w hSw => ?_⟩
              try dsimp only at hSw
              go_simp
              try with_reducible rfl
            try simp only [Act.put, List.setIfInBounds_toArray, List.set_cons_zero, List.set_cons_succ]
            refine takeH 31 (some 246) ?_ (by rfl) (by kernel_rfl) (by kernel_rfl) (by kernel_rfl) (fun _ _ _ h => h) ?_ hHeld ?_
            rotate_left
            · intro o ho
              simp only [List.getElem?_toArray, List.getElem?_cons_succ, List.getElem?_cons_zero, Option.some.injEq] at ho
              subst ho
              refine ⟨by rfl, fun w hSw => ?_⟩
              try dsimp only at hSw
              go_simp
              try with_reducible rfl
            try simp only [Act.put, List.setIfInBounds_toArray, List.set_cons_zero, List.set_cons_succ]
            refine takeH 32 (some 247) ?_ (by rfl) (by kernel_rfl) (by kernel_rfl) (by kernel_rfl) (fun _ _ _ h => h) ?_ hHeld ?_
            rotate_left
            · intro o ho
              simp only [List.getElem?_toArray, List.getElem?_cons_succ, List.getElem?_cons_zero, Option.some.injEq] at ho
              subst ho
              refine ⟨by rfl, fun w hSw => ?_⟩
              try dsimp only at hSw
              go_simp
              try with_reducible rfl
            try simp only [Act.put, List.setIfInBounds_toArray, List.set_cons_zero, List.set_cons_succ]
            refine takeH 34 (some 249) ?_ (by rfl) (by kernel_rfl) (by kernel_rfl) (by kernel_rfl) (fun _ _ _ h => h) ?_ hHeld ?_
            rotate_left
            · intro o ho
              simp only [List.getElem?_toArray, List.getElem?_cons_succ, List.getElem?_cons_zero, Option.some.injEq] at ho
              subst ho
              refine ⟨by rfl, fun w hSw => ?_⟩
              try dsimp only at hSw
              go_simp
              try with_reducible rfl
            try simp only [Act.put, List.setIfInBounds_toArray, List.set_cons_zero, List.set_cons_succ]
            refine takeH 35 (some 250) ?_ (by rfl) (by kernel_rfl) (by kernel_rfl) (by kernel_rfl) (fun _ _ _ h => h) ?_ hHeld ?_
            rotate_left
            · intro o ho
              simp only [List.getElem?_toArray, List.getElem?_cons_succ, List.getElem?_cons_zero, Option.some.injEq] at ho
              subst ho
              refine ⟨by rfl, fun w hSw => ?_⟩
              try dsimp only at hSw
              go_simp
              try with_reducible rfl
            try simp only [Act.put, List.setIfInBounds_toArray, List.set_cons_zero, List.set_cons_succ]
            refine oneH 33 (by kernel_rfl) (by rfl) (fun o ho K hK => ?_)
            simp only [List.getElem?_toArray, List.getElem?_cons_succ, List.getElem?_cons_zero, Option.some.injEq] at ho
            subst ho
            go_simp
            refine (len_calls _ _ _ _ x7 PX7.out.cells.1).mono ?_
            rintro e x8 ⟨rfl, rfl⟩
            try go_wp2_with fail
            refine hK.out _ _ ?_ (fun hHeld2 => ?_)
            · trivial
            clear hK K hHeld
            rename _ => hHeld
            try simp only [Act.put, List.setIfInBounds_toArray, List.set_cons_zero, List.set_cons_succ]
            refine takeH 36 (some 251) ?_ (by rfl) (by kernel_rfl) (by kernel_rfl) (by kernel_rfl) (fun _ _ _ h => h) ?_ hHeld ?_
            rotate_left
            · intro o ho
              simp only [List.getElem?_toArray, List.getElem?_cons_succ, List.getElem?_cons_zero, Option.some.injEq] at ho
              subst ho
              refine ⟨by rfl, fun w hSw => ?_⟩
              try dsimp only at hSw
              go_simp
              try with_reducible rfl
            try simp only [Act.put, List.setIfInBounds_toArray, List.set_cons_zero, List.set_cons_succ]
            refine takeH 37 (some 252) ?_ (by rfl) (by kernel_rfl) (by kernel_rfl) (by kernel_rfl) (fun _ _ _ h => h) ?_ hHeld ?_
            rotate_left
            · intro o ho
              simp only [List.getElem?_toArray, List.getElem?_cons_succ, List.getElem?_cons_zero, Option.some.injEq] at ho
              subst ho
              refine ⟨by rfl, fun w hSw => ?_⟩
              try dsimp only at hSw
              go_simp
              try with_reducible rfl
            try simp only [Act.put, List.setIfInBounds_toArray, List.set_cons_zero, List.set_cons_succ]
            refine takeH 38 (some 253) ?_ (by rfl) (by kernel_rfl) (by kernel_rfl) (by kernel_rfl) (fun _ _ _ h => h) ?_ hHeld ?_
            rotate_left
            · intro o ho
              simp only [List.getElem?_toArray, List.getElem?_cons_succ, List.getElem?_cons_zero, Option.some.injEq] at ho
              subst ho
              refine ⟨by rfl, fun w hSw => ?_⟩
              try dsimp only at hSw
              go_simp
              try with_reducible rfl
            try simp only [Act.put, List.setIfInBounds_toArray, List.set_cons_zero, List.set_cons_succ]
            refine oneH 39 (by kernel_rfl) (by rfl) (fun o ho K hK => ?_)
            simp only [List.getElem?_toArray, List.getElem?_cons_succ, List.getElem?_cons_zero, Option.some.injEq] at ho
            subst ho
            go_simp
            refine (awake_calls x7).mono ?_
            rintro e x9 ⟨rfl, b9⟩
            have BX9 := Aside0.mk (below_step BX7.out b9)
            clear b9 PX7 BX7
            try go_wp2_with fail
            refine hK.out _ _ ?_ (fun hHeld2 => ?_)
            · trivial
            clear hK K hHeld
            rename _ => hHeld
            try simp only [Act.put, List.setIfInBounds_toArray, List.set_cons_zero, List.set_cons_succ]
            refine takeH 40 (some 255) ?_ (by rfl) (by kernel_rfl) (by kernel_rfl) (by kernel_rfl) (fun _ _ _ h => h) ?_ hHeld ?_
            rotate_left
            · intro o ho
              simp only [List.getElem?_toArray, List.getElem?_cons_succ, List.getElem?_cons_zero, Option.some.injEq] at ho
              subst ho
              refine ⟨by rfl, fun w hSw => ?_⟩
              try dsimp only at hSw
              go_simp
              try with_reducible rfl
            try simp only [Act.put, List.setIfInBounds_toArray, List.set_cons_zero, List.set_cons_succ]
            refine takeH 41 (some 6) ?_ (by rfl) (by kernel_rfl) (by kernel_rfl) (by kernel_rfl) (fun _ _ _ h => h) ?_ hHeld ?_
            rotate_left
            · intro o ho
              simp only [List.getElem?_toArray, List.getElem?_cons_succ, List.getElem?_cons_zero, Option.some.injEq] at ho
              subst ho
              refine ⟨by rfl, fun w hSw => ?_⟩
              try dsimp only at hSw
              go_simp
              try with_reducible rfl
            try simp only [Act.put, List.setIfInBounds_toArray, List.set_cons_zero, List.set_cons_succ]
            refine wpAnyH_done (by kernel_rfl) ?_ _
            go_wp2_with fail
            go_ret
            exact ⟨rfl, BX9.out⟩
  · have cn2 : most < (n0 : Int) := by omega
    refine (append_full _ _ _ _ _ _ _ _ _ Ah n0 ch w3 F3.out (by simp; omega)).mono ?_
    rintro e w4 ⟨rfl, hb⟩
    have F4 := Aside0.mk (F3.out.below hb)
    have B4 := Aside0.mk (B3.out.trans (hb.mono B3.out.size))
    have R4 := Aside0.mk (show Row w4 W.heap.size qh Ah ch l0 ∧ l0.length = n0 from ⟨(R3.out.below hb).weaken B1'.out, H0.out.2⟩)
    have SEP := Aside0.mk (show ∀ j, qh = some j → j ≠ W.heap.size ∧ some j ≠ none from fun j hj => ⟨by have := (R3.out.size j hj).1; have := L1.out; omega, by simp⟩)
    clear hb R3 F3 B3
    go_wp2_with fail
    go_loopw [14] (fun i wr => ∃ k : Nat, k ≤ n0 ∧ i = .int .i64 k ∧ (∃ lh : List Int, lh.length = n0 ∧ Row wr W.heap.size qh Ah ch lh) ∧ FileAt wr W.heap.size W.heap.size none none 0 0 [] 0 most false ∧ Below W.heap.size W wr) (fun i _ => n0 - (intOf i).toNat)
    case atStart => exact ⟨0, by omega, rfl, ⟨_, R4.out.2, R4.out.1⟩, F4.out, B4.out⟩
    case round =>
      clear R4 F4 B4
      obtain ⟨k, hk, rfl, ⟨lh, hlh, hR⟩, hF, hB⟩ := hrel
      by_cases hlt : k < n0
      · have i0 : (0 : Int) ≤ (k : Int) := by omega
        have i1 : (k : Int) < (n0 : Int) := by omega
        obtain ⟨g, hqg, rfl⟩ := hR.at_some (by omega)
        have hsep := SEP.out g hqg
        obtain ⟨ad, e0, v0, v1, v2⟩ := hR.bs.at_ k (by omega)
        have hRg := hR
        rw [hqg] at hRg
        have hfz := hRg.frozen k
        injection e0 with e0
        subst e0
        rw [addr0_add] at v0
        obtain ⟨old, hold⟩ : ∃ x, x = rd lh k := ⟨_, rfl⟩
        rw [← hold] at v0 v1 v2
        have hrb := hRg.setByte k ((old + 1) % 256) (by omega)
        have G := Aside0.mk (show Row (wr.setCell ⟨g, k, none⟩ (.int .u8 ((old + 1) % 256))) W.heap.size qh (some ⟨g, 0, none⟩) ch (lh.set k ((old + 1) % 256)) by rw [hqg]; exact hrb)
        have GF := Aside0.mk (hF.set ⟨g, k, none⟩ hsep.1 hsep.2 (.int .u8 ((old + 1) % 256)))
        have GB := Aside0.mk (hB.setCell (p := ⟨g, k, none⟩) (hR.size g hqg).1 (.int .u8 ((old + 1) % 256)))
        have HLH := Aside0.mk hlh
        clear hold hRg hR hF hB hrb hsep hqg hlh v1 v2
        go_wp2_with fail
        go_roundw
        case rel => exact ⟨k + 1, by omega, by go_num, ⟨_, by rw [List.length_set]; exact HLH.out, G.out⟩, GF.out, GB.out⟩
        case measure => simp [intOf]; omega
      · obtain rfl : n0 = k := by omega
        have F2 := Aside0.mk hF
        have B2 := Aside0.mk hB
        clear hR hF hB
        go_wp2_with fail
        obtain ⟨y0, -, -, -⟩ := F2.out.cells
        refine (len_calls _ _ _ _ _ y0).mono ?_
        rintro e w' ⟨rfl, rfl⟩
        clear y0
        go_wp2_with fail
        refine (awake_calls wr).mono ?_
        rintro e wz ⟨rfl, bz⟩
        have BZ := Aside0.mk (below_step B2.out bz)
        clear bz
        go_wp2_with fail
        go_ret
        exact ⟨rfl, BZ.out⟩

theorem own_calls (A0 : Option Addr) (c0 : Nat) (l0 : List Int) (most at_ : Int) (W : World) (h : Bs W A0 c0 l0) (_ : (Lit.int .i64 most).wf = true) (_ : (Lit.int .i64 at_).wf = true) :
    Calls Try.prog 6 #[.slice A0 l0.length c0, .int .i64 most, .int .i64 at_] W fun e W' => e = .returned (.bool true) ∧ Below W.heap.size W W' := by
  by_cases hl : 200 < l0.length ∨ most < 1 ∨ 1000 < most
  · exact own_long A0 c0 _ most at_ W hl
  · exact own_short A0 c0 _ l0 most at_ W h rfl (by omega) (by omega) (by omega)
end Go.Proofs.Ytfbpfogmnaahpaa
