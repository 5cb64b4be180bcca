/-
  All.
-/
import Derived.Test.YtbneaecpjeffkaaA2
namespace Go.Proofs.Ytbneaecpjeffkaa
open Go.RowKit Go.Shelf Go.Proofs.YtbneaecpjeffkaaW.PrintWords

attribute [local go_sem] Oper.semAt_some

theorem Boxed.under {W W' : World} {n B : Nat} {t : TypeId} {v : Value} (h : Boxed W B t v) (hb : Below n W W') (hB : B < n) : Boxed W' B t v := (hb.block B hB).trans h

theorem iter_stops (n : Nat) (hn : 1 ≤ n) (Bn : Nat) (A : Option Addr) (c : Nat) (l : List Int) (w0 : World) (h : Bs w0 A c l) (w : World) (hBn : Boxed w Bn 22 (.slice A l.length c)) (hB : Below w0.heap.size w0 w) :
    SeqStopsK Fence.wide n Try.prog 21 #[.pointer (some ⟨Bn, 0, none⟩)] encI (KpI w0.heap.size Bn) (SI l) (SpI l) l.length w := fun r J Jx W hW _ _ hY h0 =>
  iter_in n hn r Bn A c l w0 h J Jx hY W (Boxed.under hBn hW hBn.lt) (hB.trans (hW.mono hB.size)) h0

set_option maxHeartbeats 1000000 in
theorem numbers_calls (A : Option Addr) (n c : Nat) (w : World) :
    Calls Try.prog 19 #[.slice A n c] w fun e w' => e = .returned (.func (.func 21) #[] #[.pointer (some ⟨w.heap.size, 0, none⟩)]) ∧ w' = w.alloc (.cells #[.slice A n c] 22) := by
  go_enter Try.func19, Try.ntmps19
  go_wp2
  go_ret
  exact ⟨rfl, rfl⟩

/-- A number's box: three cells. -/
def Box3 (W : World) (B : Nat) (x : Item) : Prop := W.heap[B]? = some (.cells #[.int .u64 (x.1 : Nat), .int .i64 (x.2.1 : Nat), .int .i64 x.2.2] 46 (0, 0))
theorem Box3.cells {W : World} {B : Nat} {x : Item} (h : Box3 W B x) : W.cell? ⟨B, 0, none⟩ = some (.int .u64 (x.1 : Nat)) ∧ W.cell? ⟨B, 1, none⟩ = some (.int .i64 (x.2.1 : Nat)) ∧ W.cell? ⟨B, 2, none⟩ = some (.int .i64 x.2.2) := by
  simp [World.cell?, show W.heap[B]? = _ from h]
/-- What lies between two rounds. -/
structure InAll (l : List Int) (w : World) (A : Option Addr) (c : Nat) (pre : List Item) (W : World) : Prop where
  out : ∃ v, Boxed W (w.heap.size + 1 + 1 + 1) 28 v ∧ W.ownsRow w.heap.size 24 1 v (outs pre).length ((outs pre).map (Value.int .u64)) ∧ True
  r0 : Boxed W w.heap.size 28 (.slice none 0 0)
  r1 : Boxed W (w.heap.size + 1) 3 (.int .i64 0)
  r2 : Boxed W (w.heap.size + 1 + 1) 25 (.int .i64 0)
  ok : ∀ x ∈ pre, x.2.2 = 0
  blw : Below w.heap.size w W
structure OutAll (w : World) (pre : List Item) (W : World) : Prop where
  some_ : ∃ p x, pre = p ++ [x] ∧ x.2.2 ≠ 0 ∧ Boxed W (w.heap.size + 1) 3 (.int .i64 (x.2.1 : Nat)) ∧ Boxed W (w.heap.size + 1 + 1) 25 (.int .i64 x.2.2)
  r0 : Boxed W w.heap.size 28 (.slice none 0 0)
  blw : Below w.heap.size w W
theorem boxed_from {β : Type} (D B : Nat) (t : TypeId) (v : Value) : OwnFrom D (fun (_ : β) W => Boxed W B t v) := Own.from (boxed_own B t (fun _ => v)) D
theorem inAll_own (D : Nat) (l : List Int) (w : World) (A : Option Addr) (c : Nat) (hD : w.heap.size ≤ D) : OwnFrom D (InAll l w A c) := fun s X Y row hs hg hr =>
  ⟨Own.from (holdsRow_own w.heap.size (w.heap.size + 1 + 1 + 1) 28 24 1 (fun pre => (outs pre).length) (fun pre => (outs pre).map (Value.int .u64)) (fun _ _ => True)) D s X Y row hs.out hg hr,
   boxed_from D _ _ _ s X Y row hs.r0 hg hr, boxed_from D _ _ _ s X Y row hs.r1 hg hr, boxed_from D _ _ _ s X Y row hs.r2 hg hr, hs.ok, ownFrom_below (Nat.le_refl _) hD s X Y row hs.blw hg hr⟩
theorem outAll_own (D : Nat) (w : World) (hD : w.heap.size ≤ D) : OwnFrom D (OutAll w) := fun s X Y row hs hg hr => by
  obtain ⟨⟨p, x, h1, h2, h3, h4⟩, h5, h6⟩ := hs
  exact ⟨⟨p, x, h1, h2, boxed_from D _ _ _ s X Y row h3 hg hr, boxed_from D _ _ _ s X Y row h4 hg hr⟩, boxed_from D _ _ _ s X Y row h5 hg hr, ownFrom_below (Nat.le_refl _) hD s X Y row h6 hg hr⟩
theorem kpI_b {w0 w : World} {Bn : Nat} (hn : w0.heap.size ≤ w.heap.size) (hlt : Bn < w.heap.size) (W : World) (l : Nat) (o o' : Obj) (hl : w.heap.size ≤ l) (h : W.heap[l]? = some o) (h1 : o.isCells = false) (h2 : o.isWalk = false) : KpI w0.heap.size Bn W (W.putObj l o') :=
  ⟨belowK_b hn W l o o' hl h h1 h2, fun _ hv => hv.kept (grownBy_putObj' W l o') (fun e => by cases e; omega)⟩
theorem kpI_t {n Bn : Nat} {A B C : World} (h : KpI n Bn A B) (k : KpI n Bn B C) : KpI n Bn A C := ⟨h.1.trans k.1, fun v hv => k.2 v (h.2 v hv)⟩
theorem kpI_refl (n Bn : Nat) (A : World) : KpI n Bn A A := ⟨Below.refl _ _, fun _ h => h⟩

theorem own_value {W : World} {base : Nat} {e : TypeId} {size : Nat} {v : Value} {k : Nat} {xs : List Value} (h : W.ownsRow base e size v k xs) : ∃ A c, v = .slice A k c := by
  rcases h.2 with ⟨h1, h0⟩ | ⟨g, cap, _, h1, _⟩
  · exact ⟨none, 0, by rw [h1, show k = 0 from by simpa using h0]⟩
  · exact ⟨_, cap, h1⟩
theorem getFrom_lt : ∀ (l : List Int) (i n : Nat), i ≤ 9 → n < 128 ^ i → (∀ x ∈ l, 0 ≤ x) → (Pl.getFrom l i n).1 < 18446744073709551616
  | [], i, n, _, _, _ => by simp [Pl.getFrom]
  | x :: r, i, n, h9, hn, h0 => by
    have hx := h0 x (by simp)
    unfold Pl.getFrom
    split
    · simp
    · rename_i c1
      split
      · simp
      · split
        · rename_i c3
          exact (seven_lt n i x hn h9 (fun h => by omega) hx).2.2
        · rename_i c3
          have h8 : i + 1 ≤ 9 := by omega
          exact getFrom_lt r (i + 1) _ h8 (seven_lt n i x hn h9 (fun h => by omega) hx).2.1 (fun y hy => h0 y (by simp [hy]))
theorem get_lt {l : List Int} (h : ∀ x ∈ l, 0 ≤ x) : (Pl.get l).1 < 18446744073709551616 := getFrom_lt l 0 0 (by omega) (by simp) h
theorem allFrom_rng : ∀ (f : Nat) (l : List Int) (a : Nat) (out : List Int), (∀ x ∈ l, 0 ≤ x) → (∀ x ∈ out, 0 ≤ x ∧ x < B64) → ∀ x ∈ (Pl.allFrom f l a out).1, 0 ≤ x ∧ x < B64
  | 0, _, _, _, _, ho => by simpa [Pl.allFrom] using ho
  | f + 1, l, a, out, h, ho => by
    unfold Pl.allFrom
    split
    · exact ho
    · split
      · refine allFrom_rng f _ _ _ (fun x hx => h x (List.mem_of_mem_drop hx)) (fun x hx => (List.mem_append.1 hx).elim (ho x) (fun e => ?_))
        have := get_lt h
        simp at e
        subst e
        unfold B64
        omega
      · simp
theorem all_rng {l : List Int} (h : ∀ x ∈ l, 0 ≤ x) : ∀ x ∈ (Pl.all l).1, 0 ≤ x ∧ x < B64 := allFrom_rng _ _ _ _ h (by simp)

set_option maxRecDepth 100000 in
set_option maxHeartbeats 4000000 in
theorem all_calls (A : Option Addr) (c : Nat) (l : List Int) (hl : l.length ≤ 1000) (w : World) (h : Bs w A c l) :
    Calls Try.prog 12 #[.slice A l.length c] w fun e w' => ∃ A' c', e = .returned (.tuple #[.slice A' (Pl.all l).1.length c', .int .i64 ((Pl.all l).2.1 : Nat), .int .i64 (Pl.all l).2.2]) ∧ OwnU w' w.heap.size A' c' (Pl.all l).1 ∧ Below w.heap.size w w' := by
  obtain ⟨i0, hi, hz0, hz1, hz2⟩ := info_parts info24
  refine (callsIn_wide (n := 6)).1 ?_
  refine callsIn_of_wp_marks Try.func12 rfl trivial ?_ rfl
  simp only [Try.ntmps12, List.size_toArray, List.length_cons, List.length_nil, Nat.reduceAdd, Nat.reduceSub, Array.replicate_succ, Array.replicate_zero, List.push_toArray, List.append_toArray, List.nil_append, List.cons_append]
  gi_wp2_with (refine ⟨trivial, ?_⟩; gi_at_call 19; refine (callsIn_wide.2 (numbers_calls A l.length c _)).mono ?_; rintro e w' ⟨rfl, rfl⟩)
  have b0 := ((((Boxed.new w 28 (.slice none 0 0)).alloc (.cells #[.int .i64 0] 3)).alloc (.cells #[.int .i64 0] 25)).alloc (.cells #[.slice none 0 0] 28)).alloc (.cells #[.slice A l.length c] 22)
  have b1 := (((Boxed.new (w.alloc (.cells #[.slice none 0 0] 28)) 3 (.int .i64 0)).alloc (.cells #[.int .i64 0] 25)).alloc (.cells #[.slice none 0 0] 28)).alloc (.cells #[.slice A l.length c] 22)
  have b2 := ((Boxed.new ((w.alloc (.cells #[.slice none 0 0] 28)).alloc (.cells #[.int .i64 0] 3)) 25 (.int .i64 0)).alloc (.cells #[.slice none 0 0] 28)).alloc (.cells #[.slice A l.length c] 22)
  have b3 := (Boxed.new (((w.alloc (.cells #[.slice none 0 0] 28)).alloc (.cells #[.int .i64 0] 3)).alloc (.cells #[.int .i64 0] 25)) 28 (.slice none 0 0)).alloc (.cells #[.slice A l.length c] 22)
  have b4 := Boxed.new ((((w.alloc (.cells #[.slice none 0 0] 28)).alloc (.cells #[.int .i64 0] 3)).alloc (.cells #[.int .i64 0] 25)).alloc (.cells #[.slice none 0 0] 28)) 22 (.slice A l.length c)
  simp only [World.size_alloc] at b1 b2 b3 b4
  have hB0 : Below w.heap.size w (((((w.alloc (.cells #[.slice none 0 0] 28)).alloc (.cells #[.int .i64 0] 3)).alloc (.cells #[.int .i64 0] 25)).alloc (.cells #[.slice none 0 0] 28)).alloc (.cells #[.slice A l.length c] 22)) :=
    (((((Below.refl _ w).alloc (Nat.le_refl _) _).alloc (by simp) _).alloc (by simp; omega) _).alloc (by simp; omega) _).alloc (by simp; omega) _
  have hsz : (((((w.alloc (.cells #[.slice none 0 0] 28)).alloc (.cells #[.int .i64 0] 3)).alloc (.cells #[.int .i64 0] 25)).alloc (.cells #[.slice none 0 0] 28)).alloc (.cells #[.slice A l.length c] 22)).heap.size = w.heap.size + 5 := by simp
  obtain ⟨W0, hW0⟩ : ∃ W0, (((((w.alloc (.cells #[.slice none 0 0] 28)).alloc (.cells #[.int .i64 0] 3)).alloc (.cells #[.int .i64 0] 25)).alloc (.cells #[.slice none 0 0] 28)).alloc (.cells #[.slice A l.length c] 22)) = W0 := ⟨_, rfl⟩
  rw [hW0] at b0 b1 b2 b3 b4 hB0 hsz ⊢
  clear hW0
  have hD : w.heap.size ≤ W0.heap.size := by omega
  refine wpIn_rangeFunc_ownH rfl (by omega) (gf := 21) (lb := #[.pointer (some ⟨w.heap.size + 1 + 1 + 1 + 1, 0, none⟩)]) rfl trivial (enters_of Try.func21 (by kernel_rfl) rfl)
    (iter_stops (6 - 1) (by omega) (w.heap.size + 1 + 1 + 1 + 1) A c l w h W0 b4 hB0) kpI_t (kpI_b hD (by omega)) (Below.refl _ _) (fun _ => rfl)
    (InAll l w A c) (fun k pre W => k = .ret ∧ OutAll w pre W) (inAll_own _ l w A c hD) (fun k s X Y row hs hg hr => ⟨hs.1, outAll_own _ w hD s X Y row hs.2 hg hr⟩)
    ⟨⟨_, b3, World.ownsRow_nil _ _ _ _, trivial⟩, b0, b1, b2, by simp, hB0⟩
    (fun x a' W => ∃ Bx, w.heap.size + 1 + 1 + 1 < Bx ∧ Box3 W Bx x ∧ a' = { tmps := #[.slice A l.length c, undef, .pointer (some ⟨w.heap.size, 0, none⟩), .pointer (some ⟨w.heap.size + 1, 0, none⟩), .pointer (some ⟨w.heap.size + 1 + 1, 0, none⟩), .pointer (some ⟨w.heap.size + 1 + 1 + 1, 0, none⟩), .pointer (some ⟨Bx, 0, none⟩), .slice A l.length c, .func (.func 21) #[] #[.pointer (some ⟨w.heap.size + 1 + 1 + 1 + 1, 0, none⟩)], .agg #[.int .u64 (x.1 : Nat), .int .i64 (x.2.1 : Nat), .int .i64 x.2.2], undef, undef, undef, undef, undef, undef, undef, undef, undef, undef, undef, undef, undef], defers := [] })
    (fun x a' _ X Y row hs hg hr => by
      obtain ⟨Bx, h1, h2, h3⟩ := hs
      refine ⟨Bx, h1, (hg.block Bx (Array.getElem?_eq_some_iff.1 h2).1 (fun e => ?_)).trans h2, h3⟩
      obtain ⟨o, ho, hc⟩ := (hr Bx e.symm).2
      rw [show X.heap[Bx]? = _ from h2] at ho
      cases ho
      cases hc)
    ?assign ?body ?done ?stop
  case assign =>
    rintro r pre x W K hi hK
    have hlt3 : w.heap.size + 1 + 1 + 1 < W.heap.size := by
      obtain ⟨v, hv, _⟩ := hi.out
      exact hv.lt
    unfold encI
    gi_wp2
    exact hK _ _ ((KeepsOthers.alloc _ _).from _) ⟨(Below.refl _ W).alloc hi.blw.size _, fun v hv => hv.alloc _⟩ ((inAll_own W0.heap.size l w A c hD).alloc _ hi) ⟨W.heap.size, hlt3, World.alloc_heap_new W _, rfl⟩
  case body =>
    rintro r pre x a' W hl ⟨rr, hr⟩ hi ⟨Bx, hBx, bX, rfl⟩ hlt
    obtain ⟨⟨v, hv, hrow, -⟩, hr0, hr1, hr2, hok, hblw⟩ := hi
    obtain ⟨x0, x1, x2⟩ := bX.cells
    have c0 := hr0.cell
    have f0 := hr0.frozen
    have c1 := hr1.cell
    have f1 := hr1.frozen
    have c2 := hr2.cell
    have f2 := hr2.frozen
    have hc := hv.cell
    have HB := Aside0.mk hblw
    clear hblw
    have hpl : (outs pre).length ≤ 1000 := by simp [outs]; omega
    by_cases he : x.2.2 = 0
    · have t1 : (x.2.2 != 0) = false := by simp [he]
      have HE := Aside0.mk he
      clear he
      gi_wp2_with (gi_at_builtin; refine wpListIn_append_own _ rfl _ _ 28 rfl w.heap.size 24 i0 (.int .u64 0) 1 8 Try.underlying28 hi hz0 hz1 hz2 rfl (by decide) _ _ _ rfl (hrow.alloc _) ⟨W.heap.size, 0, none⟩ 1 1 [.int .u64 (x.1 : Nat)] rfl rfl (cell_one_new _ _ _) (by simp [Value.oneCell']) (by unfold maxLen; omega) (by omega) (by have := HB.out.size; simp; omega) ?_; intro v' w1 hown' hgrow _; obtain ⟨g', cap', rfl⟩ := ownsRow_succ hown'; obtain ⟨hv1, hv2, hr3, hk2, hb2⟩ := hv.appended (by decide) hrow HB.out.size (by omega) hown' hgrow; have hc1 := hv1.cell; have hf1 := hv1.frozen)
      have hoth : ∀ (B : Nat) (t : TypeId) (u : Value), Boxed W B t u → t ≠ 24 → B ≠ w.heap.size + 1 + 1 + 1 → Boxed (w1.setCell ⟨w.heap.size + 1 + 1 + 1, 0, none⟩ (.slice (some ⟨g', 0, none⟩) ((outs pre).length + 1) cap')) B t u :=
        fun B t u hu ht hB => ((hu.alloc _).kept hgrow (hu.not_row ht hrow)).other hB _
      exact ⟨hk2.from _, ⟨hb2, fun u hu => hoth _ _ _ hu (by decide) (by omega)⟩, ⟨_, hv2, by rw [outs_snoc]; simpa using hr3, trivial⟩, hoth _ _ _ hr0 (by decide) (by omega), hoth _ _ _ hr1 (by decide) (by omega), hoth _ _ _ hr2 (by decide) (by omega),
        fun y hy => (List.mem_append.1 hy).elim (hok y) (fun e => by simp at e; subst e; exact HE.out), HB.out.trans hb2⟩
    · have t1 : (x.2.2 != 0) = true := by simp [he]
      have HE := Aside0.mk he
      clear he
      gi_wp2
      gi_region
      all_goals gi_wp2
      all_goals
        exact ⟨((((KeepsOthers.setCell _ _ _).trans (KeepsOthers.setCell _ _ _)).trans (KeepsOthers.setCell _ _ _)).trans (KeepsOthers.drew _)).from _, rfl,
          ⟨pre, x, rfl, HE.out, ((hr1.other (by omega) _).set _).other (by omega) _, ((hr2.other (by omega) _).other (by omega) _).set _⟩, ((hr0.set _).other (by omega) _).other (by omega) _,
          (((HB.out.setCell (p := ⟨w.heap.size, 0, none⟩) (by simp) _).setCell (p := ⟨w.heap.size + 1, 0, none⟩) (by simp) _).setCell (p := ⟨w.heap.size + 1 + 1, 0, none⟩) (by simp; omega) _).drew⟩
  case done =>
    rintro D zs W hD1 hS hi hK
    obtain ⟨⟨v, hv, hrow, -⟩, hr0, hr1, hr2, hok, hblw⟩ := hi
    obtain ⟨A', c', rfl⟩ := own_value hrow
    have c0 := hr0.cell
    have f0 := hr0.frozen
    have c1 := hr1.cell
    have f1 := hr1.frozen
    have c2 := hr2.cell
    have f2 := hr2.frozen
    have hc := hv.cell
    have HA := Aside0.mk (hS hok)
    have HB := Aside0.mk hblw
    clear hblw
    gi_wp2
    have hK' := (((KeepsOthers.setCell W ⟨w.heap.size, 0, none⟩ (.slice A' (outs zs).length c')).trans (KeepsOthers.setCell _ ⟨w.heap.size + 1, 0, none⟩ (.int .i64 0))).trans (KeepsOthers.setCell _ ⟨w.heap.size + 1 + 1, 0, none⟩ (.int .i64 0))).same D _ hK rfl
    refine ⟨by simp, .inl ⟨_, _, rfl, run_takeDeferred hK', ?_⟩⟩
    have e0 := ((((hr0.set (.slice A' (outs zs).length c')).other (show w.heap.size ≠ w.heap.size + 1 by omega) (.int .i64 0)).other (show w.heap.size ≠ w.heap.size + 1 + 1 by omega) (.int .i64 0)).kept (grownBy_putObj' _ D (.deferred none)) (fun e => by injection e; omega)).cell
    have e1 := ((((hr1.other (show w.heap.size + 1 ≠ w.heap.size by omega) (.slice A' (outs zs).length c')).set (.int .i64 0)).other (show w.heap.size + 1 ≠ w.heap.size + 1 + 1 by omega) (.int .i64 0)).kept (grownBy_putObj' _ D (.deferred none)) (fun e => by injection e; omega)).cell
    have e2 := ((((hr2.other (show w.heap.size + 1 + 1 ≠ w.heap.size by omega) (.slice A' (outs zs).length c')).other (show w.heap.size + 1 + 1 ≠ w.heap.size + 1 by omega) (.int .i64 0)).set (.int .i64 0)).kept (grownBy_putObj' _ D (.deferred none)) (fun e => by injection e; omega)).cell
    have hB3 := ((HB.out.setCell (p := ⟨w.heap.size, 0, none⟩) (by simp) (.slice A' (outs zs).length c')).setCell (p := ⟨w.heap.size + 1, 0, none⟩) (by simp) (.int .i64 0)).setCell (p := ⟨w.heap.size + 1 + 1, 0, none⟩) (by simp; omega) (.int .i64 0)
    have q0 := hr0.not_row (by decide) hrow
    have q1 := hr1.not_row (by decide) hrow
    have q2 := hr2.not_row (by decide) hrow
    have hrow3 := ((hrow.kept (grownBy_setCell' W w.heap.size (.slice A' (outs zs).length c')) (.inr q0.symm)).kept (grownBy_setCell' _ (w.heap.size + 1) (.int .i64 0)) (.inr q1.symm)).kept (grownBy_setCell' _ (w.heap.size + 1 + 1) (.int .i64 0)) (.inr q2.symm)
    refine ⟨.tuple #[.slice A' (outs zs).length c', .int .i64 0, .int .i64 0], ?_, A', c', by rw [HA.out]; rfl, ⟨?_, all_rng (fun x hx => (h.rng x hx).1)⟩, hB3.trans (belowK_b (w := w) (Nat.le_refl _) _ D _ _ (by omega) hK' rfl rfl)⟩
    · simp [results, Try.f12, go_sem, e0, e1, e2]
    · rw [HA.out]
      exact ownsRow_putObj hrow3 _ hK' rfl
  case stop =>
    rintro D k pre W hD1 hS ⟨rfl, ho⟩ hK
    obtain ⟨⟨p, x, hx, he, hb1, hb2⟩, hb0, hblw⟩ := ho
    have c0 := hb0.cell
    have c1 := hb1.cell
    have c2 := hb2.cell
    have HA := Aside0.mk (hS p x hx he)
    have HB := Aside0.mk hblw
    clear hblw
    gi_wp2
    refine ⟨by simp, .inl ⟨_, _, rfl, run_takeDeferred hK, ?_⟩⟩
    have e0 := (hb0.kept (grownBy_putObj' _ D (.deferred none)) (fun e => by injection e; omega)).cell
    have e1 := (hb1.kept (grownBy_putObj' _ D (.deferred none)) (fun e => by injection e; omega)).cell
    have e2 := (hb2.kept (grownBy_putObj' _ D (.deferred none)) (fun e => by injection e; omega)).cell
    refine ⟨.tuple #[.slice none 0 0, .int .i64 (x.2.1 : Nat), .int .i64 x.2.2], ?_, none, 0, by rw [HA.out]; rfl, ⟨?_, all_rng (fun x hx => (h.rng x hx).1)⟩, HB.out.trans (belowK_b (w := w) (Nat.le_refl _) _ D _ _ (by omega) hK rfl rfl)⟩
    · simp [results, Try.f12, go_sem, e0, e1, e2]
    · rw [HA.out]
      exact own_nil _ _ _ _
end Go.Proofs.Ytbneaecpjeffkaa
