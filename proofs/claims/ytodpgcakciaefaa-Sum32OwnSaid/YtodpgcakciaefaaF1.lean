/-
  The walk of Sum32Own.
-/
import Derived.Test.YtodpgcakciaefaaD1
namespace Go.Proofs.Ytodpgcakciaefaa
open Go.RowKit Go.Proofs.YtodpgcakciaefaaW.PrintWords

/-- make([]byte, 0, n). -/
theorem make_cap (n : Nat) (hn : n ≤ 100000) : ∀ W : World, (Instr.makeSlice 22 (.int .i64 0) (.int .i64 (n : Int))).run Try.prog W = .ok (.slice (some ⟨W.heap.size, 0, none⟩) 0 n) (W.alloc (.cells (madeCells #[.int .u8 0] n) 5)) := by
  intro W
  obtain ⟨i0, hi, hz0, hz1, hz2⟩ := info_parts info5
  have hr := run_make (P := Try.prog) W 22 5 i0 (.int .u8 0) Try.underlying22 hi hz0 .i64 .i64 0 (n : Int) (by omega) (by omega) (by rw [hz2]; omega) (by omega)
  simp only [Int.toNat_natCast] at hr
  rw [hz1, Nat.mul_one] at hr
  exact hr
theorem made_row (n : Nat) (hn : n ≤ 100000) : ∃ cur : Array Value, (∀ W : World, (Instr.makeSlice 22 (.int .i64 0) (.int .i64 (n : Int))).run Try.prog W = .ok (.slice (some ⟨W.heap.size, 0, none⟩) 0 n) (W.alloc (.cells cur 5))) ∧
    ∀ W : World, (W.alloc (.cells cur 5)).ownsRow W.heap.size 5 1 (.slice (some ⟨W.heap.size, 0, none⟩) 0 n) 0 (nums .u8 []) :=
  ⟨madeCells #[.int .u8 0] n, make_cap n hn, fun W => World.ownsRow_made W _ n (Nat.le_refl _) (by unfold maxLen; omega) (by simp [size_madeCells])⟩

theorem own_form {w : World} {base n c : Nat} {A : Option Addr} {xs : List Value} (h : w.ownsRow base 5 1 (.slice A n c) n xs) (hn : 0 < n) : ∃ g, A = some ⟨g, 0, none⟩ ∧ base ≤ g := by
  obtain ⟨g, cap, he, hb, _⟩ := h.form hn
  injection he with h1 _ _
  exact ⟨g, h1, hb⟩

/-- 'l[:n]', the length a letter. -/
theorem take_cut_n (A : Option Addr) (c n m : Nat) (l : List Int) (hm : l.length = m) (hn : n ≤ m) (hc : l.length ≤ c) :
    (∀ W : World, (Instr.slice 22 (.slice A m c) none (some (.int .i64 (n : Int))) none).run Try.prog W = .ok (.slice A n c) W) ∧ (∀ w : World, Bs w A c l → Bs w A c (l.take n)) := by
  subst hm
  obtain ⟨i5, hi, hii⟩ := Option.map_eq_some_iff.1 info5
  have hsz : i5.size = 1 := by simp only [Prod.mk.injEq] at hii; exact hii.2.1
  obtain ⟨cut1, r1, q1⟩ := print_take_int (k := .u8) 22 5 Try.underlying22 hi hsz A c l (n : Int) (by omega) (by omega) hc
  rw [Int.toNat_natCast] at cut1 r1 q1
  refine ⟨fun W => ?_, fun w h => ⟨r1 w h.reads, q1, fun x hx => h.byte x (List.mem_of_mem_take hx)⟩⟩
  rw [cut1 W, List.length_take, show min n l.length = n from by omega]

set_option maxHeartbeats 4000000 in
theorem own_main (A : Option Addr) (c : Nat) (l : List Int) (bh : Int) (w : World) (h : Bs w A c l) (hs : l.length ≤ 300) (hp : 0 ≤ bh ∧ bh < 256) :
    Calls Try.prog 7 #[.slice A l.length c, .int .u8 bh] w fun e w' => e = .returned (.bool true) ∧ Below w.heap.size w w' := by
  have t0 : ¬ (300 : Int) < (l.length : Int) := by omega
  have H := Aside0.mk h
  have HSL := Aside0.mk (sealed_len l)
  have HP := Aside0.mk hp
  have HOS := Aside0.mk (opened_sealed l)
  obtain ⟨cur, hmk, hrow⟩ := made_row (l.length + 8) (by omega)
  rw [show ((l.length + 8 : Nat) : Int) = (l.length : Int) + 8 from by omega] at hmk
  have HR := Aside0.mk (hrow w)
  clear h hp hrow
  go_enter Try.func7, Try.ntmps7
  go_wp2_with (first
    | (at_builtin; refine print_append_row (w0 := w) w.heap.size rfl (.tmp 21) (.tmp 22) 22 5 .u8 1 rfl Try.underlying22 info5 (by decide) _ [] l A l.length c rfl rfl (by exact HR.out) (by exact H.out.reads.allocS _) (by exact (Below.refl _ _).alloc (Nat.le_refl _) _) (by simp) (by simp; omega) ?_; intro v1 w1 hown1 hB1 _ _)
    | (at_builtin; refine print_append_row (w0 := w) w.heap.size rfl (.tmp 23) (.tmp 28) 22 5 .u8 1 rfl Try.underlying22 info5 (by decide) _ l [bh, bh, bh, bh] (some ⟨w1.heap.size, 0, none⟩) 4 4 rfl rfl (by exact hown1.alloc _) (by exact own_reads' (own_lit w1 w.heap.size 5 .u8 [bh, bh, bh, bh] hB1.size (by simp))) (by exact hB1.alloc hB1.size _) (by have := hB1.size; simp; omega) (by simp; omega) ?_; intro v2 w2 hown2 hB2 _ _))
  rw [show (l ++ [bh, bh, bh, bh]).length = l.length + 4 from by simp] at hown2
  obtain ⟨A2, c2, rfl⟩ := own_slice hown2
  have hrl : (l ++ [bh, bh, bh, bh]).length = l.length + 4 := by simp
  have HRM := Aside0.mk (show Bs w2 A2 c2 (l ++ [bh, bh, bh, bh]) from ⟨by rw [hrl]; exact own_reads' hown2, by rw [hrl]; exact own_cap hown2, fun x hx => (List.mem_append.1 hx).elim (H.out.byte x) (fun hx => by simp at hx; subst hx; exact HP.out)⟩)
  have B2 := Aside0.mk hB2
  obtain ⟨cut1, r1⟩ := take_cut_n A2 c2 l.length (l.length + 4) (l ++ [bh, bh, bh, bh]) hrl (by omega) HRM.out.cap
  rw [show (l ++ [bh, bh, bh, bh]).take l.length = l from by simp] at r1
  have R1 := Aside0.mk r1
  have HRL := Aside0.mk hrl
  have HBH := Aside0.mk (show ∀ i : Nat, i < 4 → rd (l ++ [bh, bh, bh, bh]) ((l.length + i : Nat) : Int) = bh by
    intro i hi
    unfold rd
    rw [Int.toNat_natCast, List.getD_eq_getElem?_getD, List.getElem?_append_right (by omega)]
    have : i = 0 ∨ i = 1 ∨ i = 2 ∨ i = 3 := by omega
    rcases this with rfl | rfl | rfl | rfl <;> simp)
  generalize l ++ [bh, bh, bh, bh] = rm at *
  clear hown1 hown2 hB1 hB2 hmk r1 hrl
  rw [cut1]
  go_wp2_with fail
  refine (seal_calls_n A2 l.length c2 l rfl w2 (R1.out w2 HRM.out) (by omega)).mono ?_
  rintro e w3 ⟨A3, c3, rfl, h3, b3⟩
  have H3 := Aside0.mk h3
  have HRM3 := Aside0.mk (HRM.out.below b3)
  have B3 := Aside0.mk (below_step B2.out b3)
  have b3' := Aside0.mk b3
  clear h3 b3
  go_wp2
  go_loop [7] (fun v => ∃ i : Nat, i ≤ 4 ∧ v = .int .i64 i) (fun v => 4 - (intOf v).toNat)
  case atStart => exact ⟨0, by omega, rfl⟩
  case round =>
    obtain ⟨i, hi, rfl⟩ := hrel
    by_cases hlt : i < 4
    · obtain ⟨ad, rfl, hc, _, _⟩ := HRM3.out.at_ (l.length + i) (by rw [HRL.out]; omega)
      rw [HBH.out i hlt] at hc
      have hb : (bh != bh) = false := by simp
      go_wp2
      go_round
      case rel => exact ⟨i + 1, by omega, by go_num⟩
      case measure => simp [intOf]; omega
    · go_wp2_with fail
      refine (open_calls_n A3 (l.length + 4) c3 (sealed l) HSL.out w3 H3.out.bs (by omega) l 0 (by rw [HOS.out]) (by rw [HOS.out])).mono ?_
      rintro e w4 ⟨A4, c4, rfl, h4, b4⟩
      have HX := Aside0.mk h4
      have b4' := Aside0.mk b4
      clear h4 b4
      go_wp2
      go_loopw [10] (fun v wr => ∃ (k : Nat) (X : List Int), k ≤ l.length ∧ v = .int .i64 k ∧ X.length = l.length ∧ Aside0 (Own wr w3.heap.size A4 c4 X) ∧ Below w3.heap.size w3 wr) (fun v _ => l.length - (intOf v).toNat)
      case atStart => exact ⟨0, l, by omega, rfl, rfl, HX, b4'.out⟩
      case round =>
        obtain ⟨k, X, hk, rfl, hX, HX, hB⟩ := hrel
        by_cases hlt : k < l.length
        · have hrow := HX.out.row
          obtain ⟨g, rfl, hgb⟩ := own_form hrow (by omega)
          obtain ⟨hc, hf⟩ := own_at hrow (k : Int) (by omega) (by omega)
          have hst := Aside0.mk (own_put hrow (k : Int) ((rd X k + 1) % 256))
          rw [Int.toNat_natCast] at hc hf hst
          have hbyte := HX.out.byte _ (rd_mem (l := X) (i := (k : Int)) (by omega) (by omega))
          have hbs := Aside0.mk HX.out.byte
          have HXL := Aside0.mk hX
          clear hrow hX HX
          go_wp2
          go_roundw
          case rel =>
            refine ⟨k + 1, X.set k ((rd X k + 1) % 256), by omega, by go_num, by rw [List.length_set]; exact HXL.out, ⟨⟨by simpa using hst.out, ?_⟩⟩, ?_⟩
            · intro x hx
              rcases List.mem_or_eq_of_mem_set hx with hx | rfl
              · exact hbs.out x hx
              · omega
            · exact hB.setCell hgb _
          case measure => simp [intOf]; omega
        · have H3' := Aside0.mk (H3.out.below hB)
          have HB3 := Aside0.mk (below_step b3'.out hB)
          clear hB
          go_wp2_with fail
          have HRM4 := Aside0.mk (HRM.out.below HB3.out)
          have B4 := Aside0.mk (below_step B2.out HB3.out)
          refine (open_calls_n A3 (l.length + 4) c3 (sealed l) HSL.out wr H3'.out.bs (by omega) l 0 (by rw [HOS.out]) (by rw [HOS.out])).mono ?_
          rintro e w5 ⟨A5, c5, rfl, h5, b5⟩
          have H5 := Aside0.mk h5.bs
          have B5 := Aside0.mk (below_step B4.out b5)
          have HB5 := Aside0.mk (below_step HB3.out b5)
          have H3 := Aside0.mk (H3'.out.below b5)
          clear h5 b5
          go_wp2_with fail
          refine (same_calls_n A5 l.length c5 l rfl A l.length c l rfl w5 H5.out (H.out.below B5.out)).mono ?_
          rintro e w6 ⟨rfl, ⟨q6, rfl⟩⟩
          have ett : decide (l = l) = true := by simp
          have B6 := Aside0.mk (pw_below_drewN B5.out q6)
          have HB6 := Aside0.mk (pw_below_drewN HB5.out q6)
          have H3 := Aside0.mk (show Own (w5.drewN q6) w2.heap.size A3 c3 (sealed l) from ⟨pw_own_drewN H3.out.row q6, H3.out.byte⟩)
          clear H5 B5 HB5 H3'
          go_wp2
          generalize w5.drewN q6 = w6 at *
          clear ett
          go_loopw [13] (fun v wr => ∃ (k : Nat) (X : List Int), k ≤ l.length + 4 ∧ v = .int .i64 k ∧ X.length = l.length + 4 ∧ Aside0 (Own wr w2.heap.size A3 c3 X) ∧ Below w2.heap.size w2 wr) (fun v _ => (l.length + 4) - (intOf v).toNat)
          case atStart => exact ⟨0, sealed l, by omega, rfl, HSL.out, H3, HB6.out⟩
          case round =>
            obtain ⟨k, X, hk, rfl, hX, HX, hB⟩ := hrel
            by_cases hlt : k < l.length + 4
            · have hrow := HX.out.row
              obtain ⟨g, rfl, hgb⟩ := own_form hrow (by omega)
              obtain ⟨hc, hf⟩ := own_at hrow (k : Int) (by omega) (by omega)
              have hst := Aside0.mk (own_put hrow (k : Int) 0)
              rw [Int.toNat_natCast] at hc hf hst
              have hbs := Aside0.mk HX.out.byte
              have HXL := Aside0.mk hX
              have i1 : (k : Int) < (l.length : Int) + 4 := by omega
              clear hrow hX HX
              go_wp2
              go_roundw
              case rel =>
                refine ⟨k + 1, X.set k 0, by omega, by go_num, by rw [List.length_set]; exact HXL.out, ⟨⟨by simpa using hst.out, ?_⟩⟩, ?_⟩
                · intro x hx
                  rcases List.mem_or_eq_of_mem_set hx with hx | rfl
                  · exact hbs.out x hx
                  · omega
                · exact hB.setCell hgb _
              case measure => simp [intOf]; omega
            · have i1 : ¬ (k : Int) < (l.length : Int) + 4 := by omega
              have HB7 := Aside0.mk hB
              have HRM7 := Aside0.mk (R1.out wr (HRM.out.below hB))
              have B7 := Aside0.mk (below_step B2.out hB)
              clear hB
              go_wp2_with fail
              refine (same_calls_n A2 l.length c2 l rfl A l.length c l rfl wr HRM7.out (H.out.below B7.out)).mono ?_
              rintro e w8 ⟨rfl, ⟨q8, rfl⟩⟩
              have ett : decide (l = l) = true := by simp
              go_wp2_with fail
              refine (awake_calls _).mono ?_
              rintro e w9 ⟨rfl, b9⟩
              go_wp2
              go_ret
              exact ⟨by simp, below_step (pw_below_drewN B7.out _) b9⟩

theorem own_law (A : Option Addr) (c : Nat) (l : List Int) (bh : Int) (w : World) (h : Bs w A c l) (hp : 0 ≤ bh ∧ bh < 256) :
    Calls Try.prog 7 #[.slice A l.length c, .int .u8 bh] w fun e w' => e = .returned (.bool true) ∧ Below w.heap.size w w' := by
  by_cases hs : l.length ≤ 300
  · exact own_main A c l bh w h hs hp
  · have t0 : (300 : Int) < (l.length : Int) := by omega
    clear h hp
    go_enter Try.func7, Try.ntmps7
    go_wp2_with fail
    refine (awake_calls _).mono ?_
    rintro e w1 ⟨rfl, b1⟩
    go_wp2
    go_ret
    exact ⟨rfl, b1⟩
theorem own_calls (A : Option Addr) (c : Nat) (l : List Int) (bh : Int) (w : World) (h : Bs w A c l) (hp : (Lit.int .u8 bh).wf = true) :
    Calls Try.prog 7 #[.slice A l.length c, .int .u8 bh] w fun e w' => e = .returned (.bool true) ∧ Below w.heap.size w w' := by
  have hmin : IntKind.u8.min = 0 := rfl
  have hmax : IntKind.u8.max = 255 := rfl
  simp only [Lit.wf, Bool.and_eq_true, decide_eq_true_eq, hmin, hmax] at hp
  exact own_law A c l bh w h (by omega)
end Go.Proofs.Ytodpgcakciaefaa
