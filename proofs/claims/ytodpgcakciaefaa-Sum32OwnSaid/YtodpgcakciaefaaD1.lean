/-
  The walk of Sum32Back.
-/
import Derived.Test.YtodpgcakciaefaaC2
import Derived.Deep.AppendLies
import Derived.Deep.RegionHeld3
namespace Go.Proofs.Ytodpgcakciaefaa
open Go.RowKit Go.Proofs.YtodpgcakciaefaaW.PrintWords

section
variable {P : Program} {ops : Array Oper} {o : Oper} {a : Act} {Q : Exit → Act → World → Prop} {K : Act → World → Prop} {E : Prop}
/-- append(v, ys...) at a step of a region that draws its order: v a row of the call's own, ys a slice that is read, nil let in. -/
theorem step_append_row {w0 W : World} (base : Nat) (hw : Region.wanted o (yielded ops a.tmps) = true) (s x : Operand) (t e : TypeId) (k : IntKind) (bytes : Nat)
    (ho : o.op = .call { callee := .builtin .append, args := #[s, x], argTypes := #[t, t] })
    (ht : P.underlying t = some (.slice e)) (hinfo : (P.info? e).map (fun i => (i.zero, i.size, i.bytes)) = some (some (.int k 0), 1, bytes)) (hb0 : 0 < bytes)
    (v : Value) (n : Nat) (xs ys : List Int) (A : Option Addr) (m c : Nat) (hs : a.eval s = v) (hx : a.eval x = .slice A m c)
    (HO : W.ownsRow base e 1 v n (nums k xs)) (HR : ReadsInt W k A m ys) (HB : Below base w0 W) (hbase : base ≤ W.heap.size) (hl : (n + m) * bytes ≤ 140737488355328)
    (h : ∀ v1 w1, w1.ownsRow base e 1 v1 (n + m) (nums k (xs ++ ys)) → Below base w0 w1 → W.grownBy w1 v.ownBlock → (v1.ownBlock = v.ownBlock ∨ ∃ b, v1.ownBlock = some b ∧ W.heap.size ≤ b) → K (a.put o.dst v1) w1) :
    if Region.wanted o (yielded ops a.tmps) = true then Oper.wp P o a W K Q else E := by
  rw [if_pos hw]
  have hxn : xs.length = n := by have := HO.1; simp [nums] at this; exact this
  have hyn : ys.length = m := HR.1
  subst hxn
  obtain ⟨v1, w1, hr, hown, hg, hat⟩ : ∃ v1 w1, (Builtin.append_ #[t, t] o.type #[v, .slice A m c]).run P W = .ok v1 w1 ∧ w1.ownsRow base e 1 v1 (xs.length + m) (nums k (xs ++ ys)) ∧ W.grownBy w1 v.ownBlock ∧ (v1.ownBlock = v.ownBlock ∨ v1.ownBlock = some W.heap.size) := by
    obtain ⟨i0, hi, hzz⟩ := Option.map_eq_some_iff.1 hinfo
    simp only [Prod.mk.injEq] at hzz
    obtain ⟨hz0, hz1, hz2⟩ := hzz
    have hlen : xs.length + m ≤ 140737488355328 := Nat.le_trans (Nat.le_mul_of_pos_right _ hb0) hl
    rcases A with _ | ad
    · have h0 : m = 0 := by
        rcases Nat.eq_zero_or_pos m with h0 | h0
        · exact h0
        · obtain ⟨ad, h, _⟩ := HR.2.2 h0
          cases h
      subst h0
      obtain rfl : ys = [] := List.eq_nil_of_length_eq_zero hyn
      refine ⟨v, W, ?_, by simpa using HO, World.grownBy.refl W _, .inl rfl⟩
      rcases HO.2 with ⟨rfl, hn⟩ | ⟨g, cap, cur, rfl, _, _, hnc, _⟩
      · simp [Builtin.append_, run_underlying ht, sizeOf, typeInfo, hi, Builtin.lenOf, Builtin.firstCells]
      · simp [Builtin.append_, run_underlying ht, sizeOf, typeInfo, hi, Builtin.lenOf, Builtin.firstCells, hnc, storeCells]
    · have hcells : ∀ j u, (nums k ys)[j]? = some u → W.cell? (ad.add j) = some u := by
        intro j u hu
        have hj : j < ys.length := by
          rcases Nat.lt_or_ge j ys.length with h | h
          · exact h
          · simp [nums, List.getElem?_eq_none h] at hu
        obtain ⟨ad', h', hc⟩ := HR.2.2 (by omega)
        injection h' with h'
        subst h'
        have := hc j (by omega)
        simp [nums, List.getElem?_eq_getElem hj] at hu
        subst hu
        rw [this]
        simp [List.getD_eq_getElem?_getD, List.getElem?_eq_getElem hj]
      obtain ⟨v1, w1, hr, h2, h3, _, h5⟩ := run_append_own_at (P := P) W base t o.type e i0 (.int k 0) 1 bytes ht hi hz0 hz1 hz2 rfl (by omega) v xs.length (nums k xs) HO ad m c (nums k ys) (by simp [nums, hyn]) hcells
        (by intro u hu; simp only [nums, List.mem_map] at hu; obtain ⟨q, _, rfl⟩ := hu; rfl) (by simp only [maxLen]; omega) hl hbase
      exact ⟨v1, w1, hr, by simpa [nums] using h2, h3, h5⟩
  unfold Oper.wp execOp
  simp only [ho, resolve, invoke, builtin, Sem.run_bind, Sem.run_pure, Result.andThen_ok, List.map_toArray, List.map_cons, List.map_nil, hs, hx, hr]
  refine h v1 w1 hown (HB.grown hg hbase (own_base HO)) hg ?_
  rcases hat with hat | hat
  · exact .inl hat
  · exact .inr ⟨_, hat, Nat.le_refl _⟩
end

theorem opened_sealed (l : List Int) : opened (sealed l) = (l, 0) := by
  have hl := sealed_len l
  rw [opened_eq (sealed l) l.length hl]
  have e : (sealed l).take l.length = l := by simp [sealed]
  rw [e, if_pos rfl]
theorem opened_cases (l : List Int) : (l.length < 4 ∧ (opened l).1 = [] ∧ (opened l).2 = 13) ∨ (4 ≤ l.length ∧ (opened l).2 = 0 ∧ sealed (opened l).1 = l) ∨ (4 ≤ l.length ∧ (opened l).1 = [] ∧ (opened l).2 = 18) := by
  by_cases h : l.length < 4
  · refine .inl ⟨h, ?_, ?_⟩ <;> unfold opened <;> rw [if_pos h]
  · have e := opened_eq l (l.length - 4) (by omega)
    by_cases h2 : sealed (l.take (l.length - 4)) = l
    · rw [if_pos h2] at e
      refine .inr (.inl ⟨by omega, by rw [e], by rw [e]; exact h2⟩)
    · rw [if_neg h2] at e
      refine .inr (.inr ⟨by omega, by rw [e], by rw [e]⟩)
theorem reads_row {w : World} {g : Nat} {x0 x1 x2 x3 : Int} (h : w.heap[g]? = some (.cells #[.int .u8 x0, .int .u8 x1, .int .u8 x2, .int .u8 x3] 34 (0, 0))) : ReadsInt w .u8 (some ⟨g, 0, none⟩) 4 [x0, x1, x2, x3] := by
  refine ⟨rfl, by omega, fun _ => ⟨_, rfl, fun j hj => ?_⟩⟩
  rw [add_plain, blk_cell h]
  have : j = 0 ∨ j = 1 ∨ j = 2 ∨ j = 3 := by omega
  rcases this with rfl | rfl | rfl | rfl <;> rfl
theorem opened_app (l f : List Int) (hf : f.length = 4) : opened (l ++ f) = if l ++ f = sealed l then (l, 0) else ([], 18) := by
  rw [opened_eq (l ++ f) l.length (by simp [hf])]
  have e : (l ++ f).take l.length = l := by simp
  rw [e]
  by_cases h : sealed l = l ++ f
  · rw [if_pos h, if_pos h.symm]
  · rw [if_neg h, if_neg (fun h' => h h'.symm)]

theorem open_calls_n (A : Option Addr) (n c : Nat) (l : List Int) (hn : l.length = n) (w : World) (h : Bs w A c l) (hm : n ≤ 140737488350000) (o : List Int) (e0 : Int) (ho : (opened l).1 = o) (he : (opened l).2 = e0) :
    Calls Try.prog 10 #[.slice A n c] w fun e w' => ∃ A' c', e = .returned (.tuple #[.slice A' o.length c', .int .i64 e0]) ∧ Own w' w.heap.size A' c' o ∧ Below w.heap.size w w' := by
  subst hn; subst ho; subst he; exact open_calls A c l w h hm

set_option maxHeartbeats 4000000 in
theorem back_short (A : Option Addr) (c : Nat) (l : List Int) (f0 f1 f2 f3 : Int) (w : World) (h : Bs w A c l) (hf : ∀ x ∈ [f0, f1, f2, f3], 0 ≤ x ∧ x < 256) (hs : l.length ≤ 1000) (hc : l.length < 4) (ho : (opened l).1 = []) (he : (opened l).2 = 13) :
    Calls Try.prog 5 #[.slice A l.length c, .agg #[.int .u8 f0, .int .u8 f1, .int .u8 f2, .int .u8 f3]] w fun e w' => e = .returned (.bool true) ∧ Below w.heap.size w w' := by
  have t0 : ¬ (1000 : Int) < (l.length : Int) := by omega
  have HC := Aside0.mk hc
  have hc1 : (l.length : Int) < 4 := by omega
  have HO := Aside0.mk ho
  have HE := Aside0.mk he
  have HF := Aside0.mk hf
  have H := Aside0.mk h
  have HOS := Aside0.mk (opened_sealed l)
  have HSL := Aside0.mk (sealed_len l)
  have hbx := Aside0.mk (bs_lit w [f0, f1, f2, f3] hf (nums .u8 [f0, f1, f2, f3]).toArray rfl (by simp) (0, 0))
  clear h ho he hf hc
  obtain ⟨i5, hi, hz0, hz1, hz2⟩ := info_parts info5
  have HI := Aside0.mk hi
  have HZ := Aside0.mk (And.intro hz0 (And.intro hz1 hz2))
  clear hi hz0 hz1 hz2
  generalize hsd : sealed l = sd at *
  have HSD := Aside0.mk hsd
  clear hsd
  go_enter Try.func5, Try.ntmps5
  go_wp2_with fail
  have b0 : Below w.heap.size w (w.alloc (.cells #[.int .u8 f0, .int .u8 f1, .int .u8 f2, .int .u8 f3] 34)) := (Below.refl _ _).alloc (Nat.le_refl _) _
  have x0 := heap_alloc_new w (.cells #[.int .u8 f0, .int .u8 f1, .int .u8 f2, .int .u8 f3] 34)
  generalize w.alloc (.cells #[.int .u8 f0, .int .u8 f1, .int .u8 f2, .int .u8 f3] 34) = W0 at *
  have B0 := Aside0.mk b0
  have X0 := Aside0.mk x0
  clear b0 x0 hbx
  refine (seal_calls_n A l.length c l rfl W0 (H.out.below B0.out) (by omega)).mono ?_
  rintro e w1 ⟨A1, c1, rfl, h1, b1⟩
  have H1 := Aside0.mk h1.bs
  have B1 := Aside0.mk (below_step B0.out b1)
  have X1 := Aside0.mk (blk_below X0.out b1)
  clear h1 b1
  go_wp2_with fail
  refine (open_calls_n A1 (l.length + 4) c1 sd HSL.out w1 (by have := H1.out; rw [HSD.out] at this; exact this) (by omega) l 0 (by rw [HOS.out]) (by rw [HOS.out])).mono ?_
  rintro e w2 ⟨A2, c2, rfl, h2, b2⟩
  have H2 := Aside0.mk h2.bs
  have H1 := Aside0.mk (H1.out.below b2)
  have B2 := Aside0.mk (below_step B1.out b2)
  have X2 := Aside0.mk (blk_below X1.out b2)
  clear h2 b2
  go_wp2_with fail
  refine (same_calls_n A2 l.length c2 l rfl A l.length c l rfl w2 H2.out (H.out.below B2.out)).mono ?_
  rintro e w3 ⟨rfl, ⟨q3, rfl⟩⟩
  have ett : decide (l = l) = true := by simp
  go_wp2_with fail
  refine (open_calls_n A l.length c l rfl _ ((H.out.below B2.out).drewN _) (by omega) [] 13 HO.out HE.out).mono ?_
  rintro e w4 ⟨A4, c4, rfl, h4, b4⟩
  have H4 := Aside0.mk h4.bs
  have b4' := below_step (pw_below_drewN (Below.refl w2.heap.size w2) q3) b4
  have H1 := Aside0.mk (H1.out.below b4')
  have B4 := Aside0.mk (below_step B2.out b4')
  have X4 := Aside0.mk (blk_below X2.out b4')
  clear h4 b4 b4'
  clear ett
  go_wp2_with fail
  generalize w4 = W6 at *
  have H6 := Aside0.mk (H.out.below B4.out)
  have RF := Aside0.mk (reads_row X4.out)
  go_region_held3 (fun w' => True) (trivial)
    (first
      | (refine step_append_row (w0 := W6) W6.heap.size (by rfl) (.tmp 71) (.tmp 72) 22 5 .u8 1 (by rfl) Try.underlying22 info5 (by decide) _ 0 [] l A l.length c (by rfl) (by rfl) (by exact own_lit W6 W6.heap.size 5 .u8 [] (Nat.le_refl _) (by decide)) (by exact H6.out.reads.allocS _)
          (by exact ((Below.refl _ _).alloc (Nat.le_refl _) _).drew) (by simp) (by simp; omega) ?_; intro v7 w7 hown7 hB7 _ _)
      | (refine step_append_row (w0 := W6) W6.heap.size (by rfl) (.tmp 73) (.tmp 74) 22 5 .u8 1 (by rfl) Try.underlying22 info5 (by decide) _ (0 + l.length) ([] ++ l) [f0, f1, f2, f3] (some ⟨w.heap.size, 0, none⟩) 4 4 (by rfl) (by rfl) (by exact hown7) (by exact RF.out.below hB7)
          (by exact hB7) (by exact hB7.size) (by simp; omega) ?_; intro v8 w8 hown8 hB8 _ _))
  rw [show 0 + l.length + 4 = l.length + 4 from by omega, List.nil_append] at hown8
  obtain ⟨A8, c8, rfl⟩ := own_slice hown8
  have hzl : (l ++ [f0, f1, f2, f3]).length = l.length + 4 := by simp
  have H8 := Aside0.mk (show Bs w8 A8 c8 (l ++ [f0, f1, f2, f3]) from ⟨by rw [hzl]; exact own_reads' hown8, by rw [hzl]; exact own_cap hown8, fun x hx => (List.mem_append.1 hx).elim (H.out.byte x) (HF.out x)⟩)
  have B8 := Aside0.mk (below_step B4.out hB8)
  have H1 := Aside0.mk (H1.out.below hB8)
  have HZL := Aside0.mk hzl
  have HOZ := Aside0.mk (opened_app l [f0, f1, f2, f3] rfl)
  clear hown8 hown7 hB7 hB8 hzl
  have HZE := Aside0.mk (show (l ++ [f0, f1, f2, f3] = sealed l) ↔ (l ++ [f0, f1, f2, f3] = sd) by rw [HSD.out])
  generalize l ++ [f0, f1, f2, f3] = z at *
  by_cases hz : z = sd
  · have hd : decide (z = sd) = true := by simp [hz]
    have HZ' := Aside0.mk hz
    clear hz
    go_wp2_with fail
    refine (open_calls_n A8 (l.length + 4) c8 z HZL.out w8 H8.out (by omega) l 0 (by rw [HOZ.out, if_pos (HZE.out.2 HZ'.out)]) (by rw [HOZ.out, if_pos (HZE.out.2 HZ'.out)])).mono ?_
    rintro e w9 ⟨A9, c9, rfl, _, b9⟩
    have H8 := Aside0.mk (H8.out.below b9)
    have H1 := Aside0.mk (H1.out.below b9)
    have B9 := Aside0.mk (below_step B8.out b9)
    clear b9
    go_wp2_with fail
    refine (same_calls_n A8 (l.length + 4) c8 z HZL.out A1 (l.length + 4) c1 sd HSL.out w9 H8.out (by have := H1.out; rw [HSD.out] at this; exact this)).mono ?_
    rintro e w10 ⟨rfl, ⟨q10, rfl⟩⟩
    go_wp2_with fail
    refine (awake_calls _).mono ?_
    rintro e w11 ⟨rfl, b11⟩
    go_wp2
    go_ret
    exact ⟨by simp, below_step (pw_below_drewN B9.out _) b11⟩
  · have hd : decide (z = sd) = false := by simp [hz]
    have HZ' := Aside0.mk hz
    clear hz
    go_wp2_with fail
    refine (open_calls_n A8 (l.length + 4) c8 z HZL.out w8 H8.out (by omega) [] 18 (by rw [HOZ.out, if_neg (fun h => HZ'.out (HZE.out.1 h))]) (by rw [HOZ.out, if_neg (fun h => HZ'.out (HZE.out.1 h))])).mono ?_
    rintro e w9 ⟨A9, c9, rfl, _, b9⟩
    have H8 := Aside0.mk (H8.out.below b9)
    have H1 := Aside0.mk (H1.out.below b9)
    have B9 := Aside0.mk (below_step B8.out b9)
    clear b9
    go_wp2_with fail
    refine (same_calls_n A8 (l.length + 4) c8 z HZL.out A1 (l.length + 4) c1 sd HSL.out w9 H8.out (by have := H1.out; rw [HSD.out] at this; exact this)).mono ?_
    rintro e w10 ⟨rfl, ⟨q10, rfl⟩⟩
    go_wp2_with fail
    refine (awake_calls _).mono ?_
    rintro e w11 ⟨rfl, b11⟩
    go_wp2
    go_ret
    exact ⟨by simp, below_step (pw_below_drewN B9.out _) b11⟩

set_option maxHeartbeats 4000000 in
theorem back_ok (A : Option Addr) (c : Nat) (l : List Int) (f0 f1 f2 f3 : Int) (w : World) (h : Bs w A c l) (hf : ∀ x ∈ [f0, f1, f2, f3], 0 ≤ x ∧ x < 256) (hs : l.length ≤ 1000) (hc : 4 ≤ l.length) (y : List Int) (hy : (opened l).1 = y) (hsy : sealed y = l)  (he : (opened l).2 = 0) :
    Calls Try.prog 5 #[.slice A l.length c, .agg #[.int .u8 f0, .int .u8 f1, .int .u8 f2, .int .u8 f3]] w fun e w' => e = .returned (.bool true) ∧ Below w.heap.size w w' := by
  have t0 : ¬ (1000 : Int) < (l.length : Int) := by omega
  have HC := Aside0.mk hc
  have hc1 : ¬ (l.length : Int) < 4 := by omega
  have HSY := Aside0.mk hsy
  have ho := hy
  have hyl : y.length + 4 = l.length := by rw [← hsy, sealed_len]
  have HYL := Aside0.mk hyl
  clear hsy hyl hy
  have HO := Aside0.mk ho
  have HE := Aside0.mk he
  have HF := Aside0.mk hf
  have H := Aside0.mk h
  have HOS := Aside0.mk (opened_sealed l)
  have HSL := Aside0.mk (sealed_len l)
  have hbx := Aside0.mk (bs_lit w [f0, f1, f2, f3] hf (nums .u8 [f0, f1, f2, f3]).toArray rfl (by simp) (0, 0))
  clear h ho he hf hc
  obtain ⟨i5, hi, hz0, hz1, hz2⟩ := info_parts info5
  have HI := Aside0.mk hi
  have HZ := Aside0.mk (And.intro hz0 (And.intro hz1 hz2))
  clear hi hz0 hz1 hz2
  generalize hsd : sealed l = sd at *
  have HSD := Aside0.mk hsd
  clear hsd
  go_enter Try.func5, Try.ntmps5
  go_wp2_with fail
  have b0 : Below w.heap.size w (w.alloc (.cells #[.int .u8 f0, .int .u8 f1, .int .u8 f2, .int .u8 f3] 34)) := (Below.refl _ _).alloc (Nat.le_refl _) _
  have x0 := heap_alloc_new w (.cells #[.int .u8 f0, .int .u8 f1, .int .u8 f2, .int .u8 f3] 34)
  generalize w.alloc (.cells #[.int .u8 f0, .int .u8 f1, .int .u8 f2, .int .u8 f3] 34) = W0 at *
  have B0 := Aside0.mk b0
  have X0 := Aside0.mk x0
  clear b0 x0 hbx
  refine (seal_calls_n A l.length c l rfl W0 (H.out.below B0.out) (by omega)).mono ?_
  rintro e w1 ⟨A1, c1, rfl, h1, b1⟩
  have H1 := Aside0.mk h1.bs
  have B1 := Aside0.mk (below_step B0.out b1)
  have X1 := Aside0.mk (blk_below X0.out b1)
  clear h1 b1
  go_wp2_with fail
  refine (open_calls_n A1 (l.length + 4) c1 sd HSL.out w1 (by have := H1.out; rw [HSD.out] at this; exact this) (by omega) l 0 (by rw [HOS.out]) (by rw [HOS.out])).mono ?_
  rintro e w2 ⟨A2, c2, rfl, h2, b2⟩
  have H2 := Aside0.mk h2.bs
  have H1 := Aside0.mk (H1.out.below b2)
  have B2 := Aside0.mk (below_step B1.out b2)
  have X2 := Aside0.mk (blk_below X1.out b2)
  clear h2 b2
  go_wp2_with fail
  refine (same_calls_n A2 l.length c2 l rfl A l.length c l rfl w2 H2.out (H.out.below B2.out)).mono ?_
  rintro e w3 ⟨rfl, ⟨q3, rfl⟩⟩
  have ett : decide (l = l) = true := by simp
  go_wp2_with fail
  refine (open_calls_n A l.length c l rfl _ ((H.out.below B2.out).drewN _) (by omega) y 0 HO.out HE.out).mono ?_
  rintro e w4 ⟨A4, c4, rfl, h4, b4⟩
  have H4 := Aside0.mk h4.bs
  have b4' := below_step (pw_below_drewN (Below.refl w2.heap.size w2) q3) b4
  have H1 := Aside0.mk (H1.out.below b4')
  have B4 := Aside0.mk (below_step B2.out b4')
  have X4 := Aside0.mk (blk_below X2.out b4')
  clear h4 b4 b4'
  clear ett
  go_wp2_with fail
  refine (seal_calls_n A4 y.length c4 y rfl w4 H4.out (by have := HYL.out; omega)).mono ?_
  rintro e w5 ⟨A5, c5, rfl, h5, b5⟩
  have H5 := Aside0.mk (show Bs w5 A5 c5 l from HSY.out ▸ h5.bs)
  have H1 := Aside0.mk (H1.out.below b5)
  have B5 := Aside0.mk (below_step B4.out b5)
  have X5 := Aside0.mk (blk_below X4.out b5)
  clear h5 b5
  go_wp2_with fail
  refine (same_calls_n A5 (y.length + 4) c5 l HYL.out.symm A l.length c l rfl w5 H5.out (H.out.below B5.out)).mono ?_
  rintro e w6 ⟨rfl, ⟨q6, rfl⟩⟩
  have ett : decide (l = l) = true := by simp
  have H1 := Aside0.mk (H1.out.drewN q6)
  have B4 := Aside0.mk (pw_below_drewN B5.out q6)
  have X4 := Aside0.mk (blk_drewN X5.out q6)
  clear X5 B5
  go_wp2_with fail
  clear ett
  generalize w5.drewN q6 = W6 at *
  have H6 := Aside0.mk (H.out.below B4.out)
  have RF := Aside0.mk (reads_row X4.out)
  go_region_held3 (fun w' => True) (trivial)
    (first
      | (refine step_append_row (w0 := W6) W6.heap.size (by rfl) (.tmp 71) (.tmp 72) 22 5 .u8 1 (by rfl) Try.underlying22 info5 (by decide) _ 0 [] l A l.length c (by rfl) (by rfl) (by exact own_lit W6 W6.heap.size 5 .u8 [] (Nat.le_refl _) (by decide)) (by exact H6.out.reads.allocS _)
          (by exact ((Below.refl _ _).alloc (Nat.le_refl _) _).drew) (by simp) (by simp; omega) ?_; intro v7 w7 hown7 hB7 _ _)
      | (refine step_append_row (w0 := W6) W6.heap.size (by rfl) (.tmp 73) (.tmp 74) 22 5 .u8 1 (by rfl) Try.underlying22 info5 (by decide) _ (0 + l.length) ([] ++ l) [f0, f1, f2, f3] (some ⟨w.heap.size, 0, none⟩) 4 4 (by rfl) (by rfl) (by exact hown7) (by exact RF.out.below hB7)
          (by exact hB7) (by exact hB7.size) (by simp; omega) ?_; intro v8 w8 hown8 hB8 _ _))
  rw [show 0 + l.length + 4 = l.length + 4 from by omega, List.nil_append] at hown8
  obtain ⟨A8, c8, rfl⟩ := own_slice hown8
  have hzl : (l ++ [f0, f1, f2, f3]).length = l.length + 4 := by simp
  have H8 := Aside0.mk (show Bs w8 A8 c8 (l ++ [f0, f1, f2, f3]) from ⟨by rw [hzl]; exact own_reads' hown8, by rw [hzl]; exact own_cap hown8, fun x hx => (List.mem_append.1 hx).elim (H.out.byte x) (HF.out x)⟩)
  have B8 := Aside0.mk (below_step B4.out hB8)
  have H1 := Aside0.mk (H1.out.below hB8)
  have HZL := Aside0.mk hzl
  have HOZ := Aside0.mk (opened_app l [f0, f1, f2, f3] rfl)
  clear hown8 hown7 hB7 hB8 hzl
  have HZE := Aside0.mk (show (l ++ [f0, f1, f2, f3] = sealed l) ↔ (l ++ [f0, f1, f2, f3] = sd) by rw [HSD.out])
  generalize l ++ [f0, f1, f2, f3] = z at *
  by_cases hz : z = sd
  · have hd : decide (z = sd) = true := by simp [hz]
    have HZ' := Aside0.mk hz
    clear hz
    go_wp2_with fail
    refine (open_calls_n A8 (l.length + 4) c8 z HZL.out w8 H8.out (by omega) l 0 (by rw [HOZ.out, if_pos (HZE.out.2 HZ'.out)]) (by rw [HOZ.out, if_pos (HZE.out.2 HZ'.out)])).mono ?_
    rintro e w9 ⟨A9, c9, rfl, _, b9⟩
    have H8 := Aside0.mk (H8.out.below b9)
    have H1 := Aside0.mk (H1.out.below b9)
    have B9 := Aside0.mk (below_step B8.out b9)
    clear b9
    go_wp2_with fail
    refine (same_calls_n A8 (l.length + 4) c8 z HZL.out A1 (l.length + 4) c1 sd HSL.out w9 H8.out (by have := H1.out; rw [HSD.out] at this; exact this)).mono ?_
    rintro e w10 ⟨rfl, ⟨q10, rfl⟩⟩
    go_wp2_with fail
    refine (awake_calls _).mono ?_
    rintro e w11 ⟨rfl, b11⟩
    go_wp2
    go_ret
    exact ⟨by simp, below_step (pw_below_drewN B9.out _) b11⟩
  · have hd : decide (z = sd) = false := by simp [hz]
    have HZ' := Aside0.mk hz
    clear hz
    go_wp2_with fail
    refine (open_calls_n A8 (l.length + 4) c8 z HZL.out w8 H8.out (by omega) [] 18 (by rw [HOZ.out, if_neg (fun h => HZ'.out (HZE.out.1 h))]) (by rw [HOZ.out, if_neg (fun h => HZ'.out (HZE.out.1 h))])).mono ?_
    rintro e w9 ⟨A9, c9, rfl, _, b9⟩
    have H8 := Aside0.mk (H8.out.below b9)
    have H1 := Aside0.mk (H1.out.below b9)
    have B9 := Aside0.mk (below_step B8.out b9)
    clear b9
    go_wp2_with fail
    refine (same_calls_n A8 (l.length + 4) c8 z HZL.out A1 (l.length + 4) c1 sd HSL.out w9 H8.out (by have := H1.out; rw [HSD.out] at this; exact this)).mono ?_
    rintro e w10 ⟨rfl, ⟨q10, rfl⟩⟩
    go_wp2_with fail
    refine (awake_calls _).mono ?_
    rintro e w11 ⟨rfl, b11⟩
    go_wp2
    go_ret
    exact ⟨by simp, below_step (pw_below_drewN B9.out _) b11⟩

set_option maxHeartbeats 4000000 in
theorem back_wrong (A : Option Addr) (c : Nat) (l : List Int) (f0 f1 f2 f3 : Int) (w : World) (h : Bs w A c l) (hf : ∀ x ∈ [f0, f1, f2, f3], 0 ≤ x ∧ x < 256) (hs : l.length ≤ 1000) (hc : 4 ≤ l.length) (ho : (opened l).1 = []) (he : (opened l).2 = 18) :
    Calls Try.prog 5 #[.slice A l.length c, .agg #[.int .u8 f0, .int .u8 f1, .int .u8 f2, .int .u8 f3]] w fun e w' => e = .returned (.bool true) ∧ Below w.heap.size w w' := by
  have t0 : ¬ (1000 : Int) < (l.length : Int) := by omega
  have HC := Aside0.mk hc
  have hc1 : ¬ (l.length : Int) < 4 := by omega
  have HO := Aside0.mk ho
  have HE := Aside0.mk he
  have HF := Aside0.mk hf
  have H := Aside0.mk h
  have HOS := Aside0.mk (opened_sealed l)
  have HSL := Aside0.mk (sealed_len l)
  have hbx := Aside0.mk (bs_lit w [f0, f1, f2, f3] hf (nums .u8 [f0, f1, f2, f3]).toArray rfl (by simp) (0, 0))
  clear h ho he hf hc
  obtain ⟨i5, hi, hz0, hz1, hz2⟩ := info_parts info5
  have HI := Aside0.mk hi
  have HZ := Aside0.mk (And.intro hz0 (And.intro hz1 hz2))
  clear hi hz0 hz1 hz2
  generalize hsd : sealed l = sd at *
  have HSD := Aside0.mk hsd
  clear hsd
  go_enter Try.func5, Try.ntmps5
  go_wp2_with fail
  have b0 : Below w.heap.size w (w.alloc (.cells #[.int .u8 f0, .int .u8 f1, .int .u8 f2, .int .u8 f3] 34)) := (Below.refl _ _).alloc (Nat.le_refl _) _
  have x0 := heap_alloc_new w (.cells #[.int .u8 f0, .int .u8 f1, .int .u8 f2, .int .u8 f3] 34)
  generalize w.alloc (.cells #[.int .u8 f0, .int .u8 f1, .int .u8 f2, .int .u8 f3] 34) = W0 at *
  have B0 := Aside0.mk b0
  have X0 := Aside0.mk x0
  clear b0 x0 hbx
  refine (seal_calls_n A l.length c l rfl W0 (H.out.below B0.out) (by omega)).mono ?_
  rintro e w1 ⟨A1, c1, rfl, h1, b1⟩
  have H1 := Aside0.mk h1.bs
  have B1 := Aside0.mk (below_step B0.out b1)
  have X1 := Aside0.mk (blk_below X0.out b1)
  clear h1 b1
  go_wp2_with fail
  refine (open_calls_n A1 (l.length + 4) c1 sd HSL.out w1 (by have := H1.out; rw [HSD.out] at this; exact this) (by omega) l 0 (by rw [HOS.out]) (by rw [HOS.out])).mono ?_
  rintro e w2 ⟨A2, c2, rfl, h2, b2⟩
  have H2 := Aside0.mk h2.bs
  have H1 := Aside0.mk (H1.out.below b2)
  have B2 := Aside0.mk (below_step B1.out b2)
  have X2 := Aside0.mk (blk_below X1.out b2)
  clear h2 b2
  go_wp2_with fail
  refine (same_calls_n A2 l.length c2 l rfl A l.length c l rfl w2 H2.out (H.out.below B2.out)).mono ?_
  rintro e w3 ⟨rfl, ⟨q3, rfl⟩⟩
  have ett : decide (l = l) = true := by simp
  go_wp2_with fail
  refine (open_calls_n A l.length c l rfl _ ((H.out.below B2.out).drewN _) (by omega) [] 18 HO.out HE.out).mono ?_
  rintro e w4 ⟨A4, c4, rfl, h4, b4⟩
  have H4 := Aside0.mk h4.bs
  have b4' := below_step (pw_below_drewN (Below.refl w2.heap.size w2) q3) b4
  have H1 := Aside0.mk (H1.out.below b4')
  have B4 := Aside0.mk (below_step B2.out b4')
  have X4 := Aside0.mk (blk_below X2.out b4')
  clear h4 b4 b4'
  clear ett
  go_wp2_with fail
  generalize w4 = W6 at *
  have H6 := Aside0.mk (H.out.below B4.out)
  have RF := Aside0.mk (reads_row X4.out)
  go_region_held3 (fun w' => True) (trivial)
    (first
      | (refine step_append_row (w0 := W6) W6.heap.size (by rfl) (.tmp 71) (.tmp 72) 22 5 .u8 1 (by rfl) Try.underlying22 info5 (by decide) _ 0 [] l A l.length c (by rfl) (by rfl) (by exact own_lit W6 W6.heap.size 5 .u8 [] (Nat.le_refl _) (by decide)) (by exact H6.out.reads.allocS _)
          (by exact ((Below.refl _ _).alloc (Nat.le_refl _) _).drew) (by simp) (by simp; omega) ?_; intro v7 w7 hown7 hB7 _ _)
      | (refine step_append_row (w0 := W6) W6.heap.size (by rfl) (.tmp 73) (.tmp 74) 22 5 .u8 1 (by rfl) Try.underlying22 info5 (by decide) _ (0 + l.length) ([] ++ l) [f0, f1, f2, f3] (some ⟨w.heap.size, 0, none⟩) 4 4 (by rfl) (by rfl) (by exact hown7) (by exact RF.out.below hB7)
          (by exact hB7) (by exact hB7.size) (by simp; omega) ?_; intro v8 w8 hown8 hB8 _ _))
  rw [show 0 + l.length + 4 = l.length + 4 from by omega, List.nil_append] at hown8
  obtain ⟨A8, c8, rfl⟩ := own_slice hown8
  have hzl : (l ++ [f0, f1, f2, f3]).length = l.length + 4 := by simp
  have H8 := Aside0.mk (show Bs w8 A8 c8 (l ++ [f0, f1, f2, f3]) from ⟨by rw [hzl]; exact own_reads' hown8, by rw [hzl]; exact own_cap hown8, fun x hx => (List.mem_append.1 hx).elim (H.out.byte x) (HF.out x)⟩)
  have B8 := Aside0.mk (below_step B4.out hB8)
  have H1 := Aside0.mk (H1.out.below hB8)
  have HZL := Aside0.mk hzl
  have HOZ := Aside0.mk (opened_app l [f0, f1, f2, f3] rfl)
  clear hown8 hown7 hB7 hB8 hzl
  have HZE := Aside0.mk (show (l ++ [f0, f1, f2, f3] = sealed l) ↔ (l ++ [f0, f1, f2, f3] = sd) by rw [HSD.out])
  generalize l ++ [f0, f1, f2, f3] = z at *
  by_cases hz : z = sd
  · have hd : decide (z = sd) = true := by simp [hz]
    have HZ' := Aside0.mk hz
    clear hz
    go_wp2_with fail
    refine (open_calls_n A8 (l.length + 4) c8 z HZL.out w8 H8.out (by omega) l 0 (by rw [HOZ.out, if_pos (HZE.out.2 HZ'.out)]) (by rw [HOZ.out, if_pos (HZE.out.2 HZ'.out)])).mono ?_
    rintro e w9 ⟨A9, c9, rfl, _, b9⟩
    have H8 := Aside0.mk (H8.out.below b9)
    have H1 := Aside0.mk (H1.out.below b9)
    have B9 := Aside0.mk (below_step B8.out b9)
    clear b9
    go_wp2_with fail
    refine (same_calls_n A8 (l.length + 4) c8 z HZL.out A1 (l.length + 4) c1 sd HSL.out w9 H8.out (by have := H1.out; rw [HSD.out] at this; exact this)).mono ?_
    rintro e w10 ⟨rfl, ⟨q10, rfl⟩⟩
    go_wp2_with fail
    refine (awake_calls _).mono ?_
    rintro e w11 ⟨rfl, b11⟩
    go_wp2
    go_ret
    exact ⟨by simp, below_step (pw_below_drewN B9.out _) b11⟩
  · have hd : decide (z = sd) = false := by simp [hz]
    have HZ' := Aside0.mk hz
    clear hz
    go_wp2_with fail
    refine (open_calls_n A8 (l.length + 4) c8 z HZL.out w8 H8.out (by omega) [] 18 (by rw [HOZ.out, if_neg (fun h => HZ'.out (HZE.out.1 h))]) (by rw [HOZ.out, if_neg (fun h => HZ'.out (HZE.out.1 h))])).mono ?_
    rintro e w9 ⟨A9, c9, rfl, _, b9⟩
    have H8 := Aside0.mk (H8.out.below b9)
    have H1 := Aside0.mk (H1.out.below b9)
    have B9 := Aside0.mk (below_step B8.out b9)
    clear b9
    go_wp2_with fail
    refine (same_calls_n A8 (l.length + 4) c8 z HZL.out A1 (l.length + 4) c1 sd HSL.out w9 H8.out (by have := H1.out; rw [HSD.out] at this; exact this)).mono ?_
    rintro e w10 ⟨rfl, ⟨q10, rfl⟩⟩
    go_wp2_with fail
    refine (awake_calls _).mono ?_
    rintro e w11 ⟨rfl, b11⟩
    go_wp2
    go_ret
    exact ⟨by simp, below_step (pw_below_drewN B9.out _) b11⟩

theorem back_calls (A : Option Addr) (c : Nat) (l : List Int) (f0 f1 f2 f3 : Int) (w : World) (h : Bs w A c l) (hf : ∀ x ∈ [f0, f1, f2, f3], 0 ≤ x ∧ x < 256) :
    Calls Try.prog 5 #[.slice A l.length c, .agg #[.int .u8 f0, .int .u8 f1, .int .u8 f2, .int .u8 f3]] w fun e w' => e = .returned (.bool true) ∧ Below w.heap.size w w' := by
  by_cases hs : l.length ≤ 1000
  · rcases opened_cases l with ⟨h1, h2, h3⟩ | ⟨h1, h2, h3⟩ | ⟨h1, h2, h3⟩
    · exact back_short A c l f0 f1 f2 f3 w h hf hs h1 h2 h3
    · exact back_ok A c l f0 f1 f2 f3 w h hf hs h1 _ rfl h3 h2
    · exact back_wrong A c l f0 f1 f2 f3 w h hf hs h1 h2 h3
  · have t0 : (1000 : Int) < (l.length : Int) := by omega
    clear h hf
    go_enter Try.func5, Try.ntmps5
    go_wp2_with fail
    refine (awake_calls _).mono ?_
    rintro e w1 ⟨rfl, b1⟩
    go_wp2
    go_ret
    exact ⟨rfl, below_step ((Below.refl _ _).alloc (Nat.le_refl _) _) b1⟩
end Go.Proofs.Ytodpgcakciaefaa
