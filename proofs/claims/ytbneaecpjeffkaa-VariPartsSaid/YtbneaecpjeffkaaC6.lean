/-
  The walk of VariParts.
-/
import Derived.Test.YtbneaecpjeffkaaC5
namespace Go.Proofs.Ytbneaecpjeffkaa
open Go.RowKit Go.Proofs.YtbneaecpjeffkaaW.PrintWords

section
variable {P : Program} {ops : Array Oper} {o : Oper} {a : Act} {Q : Exit → Act → World → Prop} {K : Act → World → Prop} {E : Prop}
/-- append(v, ys...) at a step of a region that draws its order: v a row of the call's own, ys a slice that is read, nil let in. -/
theorem step_append_row {w0 W : World} (base : Nat) (hw : Region.wanted o (yielded ops a.tmps) = true) (s x : Operand) (t e : TypeId) (k : IntKind) (bytes : Nat)
    (ho : o.op = .call { callee := .builtin .append, args := #[s, x], argTypes := #[t, t] })
    (ht : P.underlying t = some (.slice e)) (hinfo : (P.info? e).map (fun i => (i.zero, i.size, i.bytes)) = some (some (.int k 0), 1, bytes)) (hb0 : 0 < bytes)
    (v : Value) (n : Nat) (xs ys : List Int) (A : Option Addr) (m c : Nat) (hs : a.eval s = v) (hx : a.eval x = .slice A m c)
    (HO : W.ownsRow base e 1 v n (nums k xs)) (HR : ReadsInt W k A m ys) (HB : Below base w0 W) (hbase : base ≤ W.heap.size) (hl : (n + m) * bytes ≤ 140737488355328)
    (h : ∀ v1 w1, w1.ownsRow base e 1 v1 (n + m) (nums k (xs ++ ys)) → Below base w0 w1 → W.grownBy w1 v.ownBlock → (v1.ownBlock = v.ownBlock ∨ ∃ b, v1.ownBlock = some b ∧ W.heap.size ≤ b) → K (a.put o.dst v1) w1) :
    if Region.wanted o (yielded ops a.tmps) = true then Oper.wp P o a W K Q else E := by
  rw [if_pos hw]
  have hxn : xs.length = n := by have := HO.1; simp [nums] at this; exact this
  have hyn : ys.length = m := HR.1
  subst hxn
  obtain ⟨v1, w1, hr, hown, hg, hat⟩ : ∃ v1 w1, (Builtin.append_ #[t, t] o.type #[v, .slice A m c]).run P W = .ok v1 w1 ∧ w1.ownsRow base e 1 v1 (xs.length + m) (nums k (xs ++ ys)) ∧ W.grownBy w1 v.ownBlock ∧ (v1.ownBlock = v.ownBlock ∨ v1.ownBlock = some W.heap.size) := by
    obtain ⟨i0, hi, hzz⟩ := Option.map_eq_some_iff.1 hinfo
    simp only [Prod.mk.injEq] at hzz
    obtain ⟨hz0, hz1, hz2⟩ := hzz
    have hlen : xs.length + m ≤ 140737488355328 := Nat.le_trans (Nat.le_mul_of_pos_right _ hb0) hl
    rcases A with _ | ad
    · have h0 : m = 0 := by
        rcases Nat.eq_zero_or_pos m with h0 | h0
        · exact h0
        · obtain ⟨ad, h, _⟩ := HR.2.2 h0
          cases h
      subst h0
      obtain rfl : ys = [] := List.eq_nil_of_length_eq_zero hyn
      refine ⟨v, W, ?_, by simpa using HO, World.grownBy.refl W _, .inl rfl⟩
      rcases HO.2 with ⟨rfl, hn⟩ | ⟨g, cap, cur, rfl, _, _, hnc, _⟩
      · simp [Builtin.append_, run_underlying ht, sizeOf, typeInfo, hi, Builtin.lenOf, Builtin.firstCells]
      · simp [Builtin.append_, run_underlying ht, sizeOf, typeInfo, hi, Builtin.lenOf, Builtin.firstCells, hnc, storeCells]
    · have hcells : ∀ j u, (nums k ys)[j]? = some u → W.cell? (ad.add j) = some u := by
        intro j u hu
        have hj : j < ys.length := by
          rcases Nat.lt_or_ge j ys.length with h | h
          · exact h
          · simp [nums, List.getElem?_eq_none h] at hu
        obtain ⟨ad', h', hc⟩ := HR.2.2 (by omega)
        injection h' with h'
        subst h'
        have := hc j (by omega)
        simp [nums, List.getElem?_eq_getElem hj] at hu
        subst hu
        rw [this]
        simp [List.getD_eq_getElem?_getD, List.getElem?_eq_getElem hj]
      obtain ⟨v1, w1, hr, h2, h3, _, h5⟩ := run_append_own_at (P := P) W base t o.type e i0 (.int k 0) 1 bytes ht hi hz0 hz1 hz2 rfl (by omega) v xs.length (nums k xs) HO ad m c (nums k ys) (by simp [nums, hyn]) hcells
        (by intro u hu; simp only [nums, List.mem_map] at hu; obtain ⟨q, _, rfl⟩ := hu; rfl) (by simp only [maxLen]; omega) hl hbase
      exact ⟨v1, w1, hr, by simpa [nums] using h2, h3, h5⟩
  unfold Oper.wp execOp
  simp only [ho, resolve, invoke, builtin, Sem.run_bind, Sem.run_pure, Result.andThen_ok, List.map_toArray, List.map_cons, List.map_nil, hs, hx, hr]
  refine h v1 w1 hown (HB.grown hg hbase (own_base HO)) hg ?_
  rcases hat with hat | hat
  · exact .inl hat
  · exact .inr ⟨_, hat, Nat.le_refl _⟩
end


theorem bs_own {w : World} {base n c : Nat} {A : Option Addr} {l : List Int} (h : w.ownsRow base 5 1 (.slice A n c) n (nums .u8 l)) (hn : l.length = n) (hr : ∀ x ∈ l, 0 ≤ x ∧ x < 256) : Bs w A c l := by
  subst hn
  exact ⟨own_reads' h, own_cap h, hr⟩

set_option maxRecDepth 100000 in
set_option maxHeartbeats 8000000 in
theorem parts_main (A0 : Option Addr) (c0 : Nat) (l0 : List Int) (A1 : Option Addr) (c1 : Nat) (l1 : List Int) (w : World) (h0 : Bs w A0 c0 l0) (h1 : Bs w A1 c1 l1) (s0 : l0.length ≤ 150) (s1 : l1.length ≤ 150) :
    Calls Try.prog 5 #[.agg #[.slice A0 l0.length c0, .slice A1 l1.length c1]] w fun e w' => e = .returned (.bool true) ∧ Below w.heap.size w w' := by
  have t0 : ¬ (150 : Int) < (l0.length : Int) := by omega
  have t1 : ¬ (150 : Int) < (l1.length : Int) := by omega
  obtain ⟨a, i, e0, ha⟩ : ∃ a b e, Pl.all l0 = (a, b, e) := ⟨_, _, _, rfl⟩
  obtain ⟨b, k, f0, hb⟩ : ∃ a b e, Pl.all l1 = (a, b, e) := ⟨_, _, _, rfl⟩
  obtain ⟨C, t, g, hT⟩ : ∃ a b e, Pl.all (l0 ++ l1) = (a, b, e) := ⟨_, _, _, rfl⟩
  obtain ⟨na, hna⟩ : ∃ n, a.length = n := ⟨_, rfl⟩
  obtain ⟨nb, hnb⟩ : ∃ n, b.length = n := ⟨_, rfl⟩
  obtain ⟨nc, hnc⟩ : ∃ n, C.length = n := ⟨_, rfl⟩
  have HNA := Aside0.mk hna
  have HNB := Aside0.mk hnb
  have HNC := Aside0.mk hnc
  have HA := Aside0.mk ha
  have HB := Aside0.mk hb
  have HT := Aside0.mk hT
  have H0 := Aside0.mk h0
  have H1 := Aside0.mk h1
  clear h0 h1 ha hb hT hna hnb hnc
  go_enter Try.func5, Try.ntmps5
  go_wp2_with fail
  obtain ⟨W0, hW0⟩ : ∃ W0, w.alloc (.cells #[.slice A0 l0.length c0, .slice A1 l1.length c1] 36) = W0 := ⟨_, rfl⟩
  have X0 := Aside0.mk (show W0.heap[w.heap.size]? = some (.cells #[.slice A0 l0.length c0, .slice A1 l1.length c1] 36 (0, 0)) from hW0 ▸ World.alloc_heap_new w _)
  have B0 := Aside0.mk (show Below w.heap.size w W0 from hW0 ▸ (Below.refl _ _).alloc (Nat.le_refl _) _)
  rw [hW0]
  clear hW0
  refine (all_n' A0 l0.length c0 l0 rfl (by omega) W0 (H0.out.below B0.out) a i e0 HA.out na HNA.out).mono ?_
  rintro e w1 ⟨A2, c2, rfl, h2, b1⟩
  have H2 := Aside0.mk h2.ks
  have X1 := Aside0.mk (blk_below X0.out b1)
  have B1 := Aside0.mk (below_step B0.out b1)
  clear h2 b1
  have y1 : w1.cell? ⟨w.heap.size, 1, none⟩ = some (.slice A1 l1.length c1) := by rw [blk_cell X1.out]; rfl
  simp only []
  repeat go_step
  refine (all_n' A1 l1.length c1 l1 rfl (by omega) w1 (H1.out.below B1.out) b k f0 HB.out nb HNB.out).mono ?_
  rintro e W6 ⟨A3, c3, rfl, h3, b2⟩
  have H3 := Aside0.mk h3.ks
  have H26 := Aside0.mk (H2.out.below b2)
  have X6 := Aside0.mk (blk_below X1.out b2)
  have B6 := Aside0.mk (below_step B1.out b2)
  clear h3 b2 y1
  simp only []
  repeat go_step
  have y0 : W6.cell? ⟨w.heap.size, 0, none⟩ = some (.slice A0 l0.length c0) := by rw [blk_cell X6.out]; rfl
  have y1 : W6.cell? ⟨w.heap.size, 1, none⟩ = some (.slice A1 l1.length c1) := by rw [blk_cell X6.out]; rfl
  have R0 := Aside0.mk (H0.out.below B6.out)
  have R1 := Aside0.mk (H1.out.below B6.out)
  go_region_held3 (fun w' => w'.cell? ⟨w.heap.size, 0, none⟩ = some (.slice A0 l0.length c0) ∧ w'.cell? ⟨w.heap.size, 1, none⟩ = some (.slice A1 l1.length c1))
    (first | go_keep | (exact ⟨cb (below_step hB8 b9) y0, cb (below_step hB8 b9) y1⟩) | (exact ⟨cb hB8 y0, cb hB8 y1⟩) | (exact ⟨cb hB7 y0, cb hB7 y1⟩))
    (first
      | (refine step_append_row (w0 := W6) W6.heap.size (by rfl) (.tmp 38) (.tmp 40) 22 5 .u8 1 (by rfl) Try.underlying22 info5 (by decide) _ 0 [] l0 A0 l0.length c0 (by rfl) (by rfl) (by exact own_lit W6 W6.heap.size 5 .u8 [] (Nat.le_refl _) (by decide)) (by exact R0.out.reads.allocS _)
          (by exact ((Below.refl _ _).alloc (Nat.le_refl _) _).drew) (by simp) (by simp; omega) ?_; intro v7 w7 hown7 hB7 _ _)
      | (refine step_append_row (w0 := W6) W6.heap.size (by rfl) (.tmp 41) (.tmp 43) 22 5 .u8 1 (by rfl) Try.underlying22 info5 (by decide) _ (0 + l0.length) ([] ++ l0) l1 A1 l1.length c1 (by rfl) (by rfl) (by exact hown7) (by exact R1.out.reads.below hB7)
          (by exact hB7) (by exact hB7.size) (by simp; omega) ?_; intro v8 w8 hown8 hB8 _ _; rw [show 0 + l0.length + l1.length = l0.length + l1.length from by omega, List.nil_append] at hown8; obtain ⟨A8, c8, rfl⟩ := own_slice hown8)
      | (go_at_call_of 12 (Value.slice A8 (l0.length + l1.length) c8); refine (all_n' A8 (l0.length + l1.length) c8 (l0 ++ l1) (by simp) (by omega) _ (by exact bs_own hown8 (by simp) (fun x hx => (List.mem_append.1 hx).elim (H0.out.rng x) (H1.out.rng x))) C t g HT.out nc HNC.out).mono ?_; rintro e w9 ⟨A9, c9, rfl, h9, b9⟩))
  have bb := below_step hB8 b9
  have H9 := Aside0.mk h9.ks
  have H2f := Aside0.mk (H26.out.below bb)
  have H3f := Aside0.mk (H3.out.below bb)
  have X9 := Aside0.mk (blk_below X6.out bb)
  have B9 := Aside0.mk (below_step B6.out bb)
  have y9 : w9.cell? ⟨w.heap.size, 0, none⟩ = some (.slice A0 l0.length c0) := by rw [blk_cell X9.out]; rfl
  have HF0 := Aside0.mk (Pl.all_form l0)
  have HF1 := Aside0.mk (Pl.all_form l1)
  rw [HA.out] at HF0
  rw [HB.out] at HF1
  clear bb h9 b9 hB8 hB7 hown7 hown8 y0 y1
  by_cases e13 : e0 = 13
  · subst e13
    obtain ⟨h1, h2⟩ : a = [] ∧ i < l0.length := by
      rcases HF0.out with h | h
      · exact absurd h.1 (by simp)
      · exact h.2
    obtain rfl : na = 0 := by rw [← HNA.out, h1]; rfl
    have u1 : (i : Int) < (l0.length : Int) := by omega
    clear h1
    go_wp2_with fail
    refine (awake_calls w9).mono ?_
    rintro e w20 ⟨rfl, b20⟩
    have B20 := Aside0.mk (below_step B9.out b20)
    clear b20
    simp only []
    repeat go_step
    go_ret
    exact ⟨by simp, B20.out⟩
  · by_cases e00 : e0 = 0
    · subst e00
      obtain rfl : i = 0 := by
        rcases HF0.out with h | h
        · exact h.2
        · exact absurd rfl h.1
      have hap := Pl.all_app (l := l0) l1 (by rw [HA.out])
      rw [HT.out, HA.out, HB.out] at hap
      simp only at hap
      by_cases f00 : f0 = 0
      · subst f00
        obtain rfl : k = 0 := by
          rcases HF1.out with h | h
          · exact h.2
          · exact absurd rfl h.1
        rw [if_pos rfl] at hap
        obtain ⟨hC, rfl, rfl⟩ : C = a ++ b ∧ t = 0 ∧ g = 0 := by simpa using hap
        have HCC := Aside0.mk hC
        obtain rfl : nc = na + nb := by rw [← HNC.out, hC, List.length_append, HNA.out, HNB.out]
        have hb1 : na ≤ 150 := by
          obtain ⟨ns, h1, h2⟩ := Pl.row_all (l := l0) H0.out.rng (by rw [HA.out])
          rw [HA.out] at h1
          have h1 : a = ints ns := h1
          have := row_ge ns
          rw [h2] at this
          rw [← HNA.out, h1, ints_len]
          omega
        have hb2 : nb ≤ 150 := by
          obtain ⟨ns, h1, h2⟩ := Pl.row_all (l := l1) H1.out.rng (by rw [HB.out])
          rw [HB.out] at h1
          have h1 : b = ints ns := h1
          have := row_ge ns
          rw [h2] at this
          rw [← HNB.out, h1, ints_len]
          omega
        clear hap hC e13
        go_wp2_with (first
          | (at_builtin; refine unguard (by rfl) ?_; refine print_append_row (w0 := w9) w9.heap.size rfl (.tmp 126) (.tmp 127) 28 24 .u64 8 rfl Try.underlying28 info24 (by decide) _ [] a A2 na c2 rfl rfl (by exact own_lit w9 w9.heap.size 24 .u64 [] (Nat.le_refl _) (by decide)) (by rw [← HNA.out]; exact H2f.out.reads.allocS _) (by exact (Below.refl _ _).alloc (Nat.le_refl _) _) (by simp) (by simp; omega) ?_; intro v12 w12 hown12 hB12 hg12 _; rw [List.nil_append] at hown12; rw [HNA.out] at hown12; obtain ⟨A12, c12, rfl⟩ := own_slice hown12)
          | (at_builtin; refine unguard (by rfl) ?_; refine print_append_row (w0 := w9) w9.heap.size rfl (.tmp 128) (.tmp 129) 28 24 .u64 8 rfl Try.underlying28 info24 (by decide) _ a b A3 nb c3 rfl rfl (by rw [HNA.out]; exact hown12) (by rw [← HNB.out]; exact (H3f.out.below hB12).reads) (by exact hB12) (by exact hB12.size) (by have := HNA.out; omega) ?_; intro v13 w13 hown13 hB13 hg13 _; rw [List.length_append, HNA.out, HNB.out] at hown13; obtain ⟨A13, c13, rfl⟩ := own_slice hown13))
        have HLL := Aside0.mk (show (a ++ b).length = na + nb by rw [List.length_append, HNA.out, HNB.out])
        have U13 := Aside0.mk (show Us w13 A13 c13 (a ++ b) from ⟨by rw [HLL.out]; exact own_reads' hown13, by rw [HLL.out]; exact own_cap hown13, fun x hx => (List.mem_append.1 hx).elim (H2f.out.rng x) (H3f.out.rng x)⟩)
        have B13 := Aside0.mk (below_step B9.out hB13)
        have U9 := Aside0.mk (H9.out.below hB13)
        clear hown13 hown12 hB12 hB13 hg12 hg13
        refine (nums_yes A9 (na + nb) c9 C HNC.out A13 c13 (a ++ b) HLL.out HCC.out w13 U9.out U13.out).mono ?_
        rintro e w14 ⟨rfl, hw⟩
        obtain ⟨q14, hw⟩ := hw
        have B14 := Aside0.mk (show Below w.heap.size w w14 from hw ▸ pw_below_drewN B13.out q14)
        clear hw
        simp only []
        repeat go_step
        refine (awake_calls w14).mono ?_
        rintro e w20 ⟨rfl, b20⟩
        have B20 := Aside0.mk (below_step B14.out b20)
        clear b20
        simp only []
        repeat go_step
        go_ret
        exact ⟨by simp, B20.out⟩
      · rw [if_neg f00] at hap
        obtain ⟨hC, ht, rfl⟩ : C = [] ∧ t = k + l0.length ∧ g = f0 := by simpa using hap
        obtain ⟨h1, h2⟩ : b = [] ∧ k < l1.length := by
          rcases HF1.out with h | h
          · exact absurd h.1 f00
          · exact h.2
        obtain rfl : nb = 0 := by rw [← HNB.out, h1]; rfl
        obtain rfl : nc = 0 := by rw [← HNC.out, hC]; rfl
        have u1 : (g != 0) = true := by simp [f00]
        have u2 : ((t : Int) == (k : Int) + (l0.length : Int)) = true := by rw [beq_iff_eq]; omega
        clear hap hC h1 f00 e13 ht
        go_wp2_with fail
        refine (awake_calls w9).mono ?_
        rintro e w20 ⟨rfl, b20⟩
        have B20 := Aside0.mk (below_step B9.out b20)
        clear b20
        simp only []
        repeat go_step
        go_ret
        exact ⟨by simp, B20.out⟩
    · have hap := Pl.all_app_err (l := l0) l1 (by rw [HA.out]; exact e00) (by rw [HA.out]; exact e13)
      rw [HT.out, HA.out] at hap
      obtain ⟨hC, rfl, rfl⟩ : C = a ∧ t = i ∧ g = e0 := by simpa using hap
      obtain ⟨h1, h2⟩ : a = [] ∧ t < l0.length := by
        rcases HF0.out with h | h
        · exact absurd h.1 e00
        · exact h.2
      obtain rfl : na = 0 := by rw [← HNA.out, h1]; rfl
      obtain rfl : nc = 0 := by rw [← HNC.out, hC, h1]; rfl
      have u1 : (g == 13) = false := by rw [beq_eq_false_iff_ne]; exact e13
      have u2 : (g != 0) = true := by simp [e00]
      clear hap hC h1 e00 e13
      go_wp2_with fail
      refine (awake_calls w9).mono ?_
      rintro e w20 ⟨rfl, b20⟩
      have B20 := Aside0.mk (below_step B9.out b20)
      clear b20
      simp only []
      repeat go_step
      go_ret
      exact ⟨by simp, B20.out⟩

set_option maxRecDepth 100000 in
set_option maxHeartbeats 4000000 in
theorem parts_long (A0 : Option Addr) (c0 : Nat) (l0 : List Int) (A1 : Option Addr) (c1 : Nat) (l1 : List Int) (w : World) (h : 150 < l0.length ∨ 150 < l1.length) :
    Calls Try.prog 5 #[.agg #[.slice A0 l0.length c0, .slice A1 l1.length c1]] w fun e w' => e = .returned (.bool true) ∧ Below w.heap.size w w' := by
  by_cases s0 : 150 < l0.length
  · have t0 : (150 : Int) < (l0.length : Int) := by omega
    clear h
    go_enter Try.func5, Try.ntmps5
    go_wp2_with fail
    refine (awake_calls _).mono ?_
    rintro e w20 ⟨rfl, b20⟩
    have B20 := Aside0.mk (below_step ((Below.refl w.heap.size w).alloc (Nat.le_refl _) _) b20)
    clear b20
    simp only []
    repeat go_step
    go_ret
    exact ⟨by simp, B20.out⟩
  · have t0 : ¬ (150 : Int) < (l0.length : Int) := by omega
    have t1 : (150 : Int) < (l1.length : Int) := by omega
    clear h
    go_enter Try.func5, Try.ntmps5
    go_wp2_with fail
    refine (awake_calls _).mono ?_
    rintro e w20 ⟨rfl, b20⟩
    have B20 := Aside0.mk (below_step ((Below.refl w.heap.size w).alloc (Nat.le_refl _) _) b20)
    clear b20
    simp only []
    repeat go_step
    go_ret
    exact ⟨by simp, B20.out⟩
theorem parts_calls (A0 : Option Addr) (c0 : Nat) (l0 : List Int) (A1 : Option Addr) (c1 : Nat) (l1 : List Int) (w : World) (h0 : Bs w A0 c0 l0) (h1 : Bs w A1 c1 l1) :
    Calls Try.prog 5 #[.agg #[.slice A0 l0.length c0, .slice A1 l1.length c1]] w fun e w' => e = .returned (.bool true) ∧ Below w.heap.size w w' := by
  by_cases s0 : 150 < l0.length
  · exact parts_long A0 c0 l0 A1 c1 l1 w (.inl s0)
  · by_cases s1 : 150 < l1.length
    · exact parts_long A0 c0 l0 A1 c1 l1 w (.inr s1)
    · exact parts_main A0 c0 l0 A1 c1 l1 w h0 h1 (by omega) (by omega)
end Go.Proofs.Ytbneaecpjeffkaa
