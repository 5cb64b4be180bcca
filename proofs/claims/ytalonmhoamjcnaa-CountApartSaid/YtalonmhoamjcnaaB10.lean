/-
  Counts: the walk of CountApart.
-/
import Derived.Test.YtalonmhoamjcnaaB9
namespace Go.Proofs.Ytalonmhoamjcnaa
open Go.RowKit Go.Proofs.YtalonmhoamjcnaaW.PrintWords

/-- An error as one sends, or a frame that was sent. -/
def oneC (b : Bool) (c : Ct) : Ct := if b = true then txC c else sentC c
def onesC (f : Nat → Bool) (c : Ct) : Nat → Ct
  | 0 => c
  | k + 1 => oneC (f k) (onesC f c k)
/-- A frame, or an error, that was received. -/
def rcvC (x g : Int) (c : Ct) : Ct := if x = 1 then recvC c else rxC c g
def rcvsC (f g : Nat → Int) (c : Ct) : Nat → Ct
  | 0 => c
  | k + 1 => rcvC (f k) (g k) (rcvsC f g c k)
theorem oneC_idle {c : Ct} (h : ¬ c.runs = true) (b : Bool) : oneC b c = c := by
  unfold oneC txC sentC
  rw [if_neg h, if_neg h]
  simp
theorem rcvC_idle {c : Ct} (h : ¬ c.runs = true) (x g : Int) : rcvC x g c = c := by
  unfold rcvC recvC rxC
  rw [if_neg h, if_neg (fun k : c.runs = true ∧ (g = 1 ∨ g = 8) => h k.1)]
  simp
theorem onesC_idle {c : Ct} (h : ¬ c.runs = true) (f : Nat → Bool) (k : Nat) : onesC f c k = c := by
  induction k with
  | zero => rfl
  | succ k ih => show oneC (f k) (onesC f c k) = c; rw [ih, oneC_idle h]
theorem rcvsC_idle {c : Ct} (h : ¬ c.runs = true) (f g : Nat → Int) (k : Nat) : rcvsC f g c k = c := by
  induction k with
  | zero => rfl
  | succ k ih => show rcvC (f k) (g k) (rcvsC f g c k) = c; rw [ih, rcvC_idle h]
theorem runs_of {t r : Int} (ht : 0 ≤ t ∧ t ≤ 255) (hr : 0 ≤ r ∧ r ≤ 255) : Ct.runs ⟨t, r, false⟩ = true := by
  simp [Ct.runs, ok]; omega
theorem rng_of {t r : Int} {o : Bool} (h : Ct.runs ⟨t, r, o⟩ = true) : o = false ∧ (0 ≤ t ∧ t ≤ 255) ∧ (0 ≤ r ∧ r ≤ 255) := by
  obtain ⟨h1, rfl⟩ := runs_split h
  have := ok_rng h1
  exact ⟨rfl, ⟨this.2.2.1, this.2.2.2⟩, this.1, this.2.1⟩
theorem oneC_run {t r : Int} (ht : 0 ≤ t ∧ t ≤ 255) (hr : 0 ≤ r ∧ r ≤ 255) (b : Bool) :
    oneC b ⟨t, r, false⟩ = ⟨if b = true then (if 247 < t then 256 else t + 8) else if 0 < t then t - 1 else 0, r, b && decide (247 < t)⟩ := by
  unfold oneC txC sentC
  rw [if_pos (runs_of ht hr), if_pos (runs_of ht hr)]
  cases b <;> simp
theorem rcvC_run {r : Int} (hr : 0 ≤ r ∧ r ≤ 255) (x g : Int) :
    ∃ q : Int, (0 ≤ q ∧ q ≤ 255) ∧ ∀ t', 0 ≤ t' ∧ t' ≤ 255 → rcvC x g ⟨t', r, false⟩ = ⟨t', q, false⟩ := by
  unfold rcvC recvC rxC
  by_cases hx : x = 1
  · refine ⟨if 127 < r then 119 else if 0 < r then r - 1 else 0, by split <;> (try split) <;> omega, fun t' h' => ?_⟩
    rw [if_pos hx, if_pos (runs_of h' hr)]
  · by_cases hg : g = 1 ∨ g = 8
    · refine ⟨if r + g ≤ 255 then r + g else 255, by split <;> omega, fun t' h' => ?_⟩
      rw [if_neg hx, if_pos ⟨runs_of h' hr, hg⟩]
    · refine ⟨r, hr, fun t' h' => ?_⟩
      rw [if_neg hx, if_neg (fun k => hg k.2)]
theorem ones_run {t r : Int} (ht : 0 ≤ t ∧ t ≤ 255) (hr : 0 ≤ r ∧ r ≤ 255) (f : Nat → Bool) (k : Nat) (ho : (onesC f ⟨t, r, false⟩ k).o = false) :
    ∃ q : Int, (0 ≤ q ∧ q ≤ 255) ∧ ∀ r', 0 ≤ r' ∧ r' ≤ 255 → onesC f ⟨t, r', false⟩ k = ⟨q, r', false⟩ := by
  induction k with
  | zero => exact ⟨t, ht, fun _ _ => rfl⟩
  | succ k ih =>
    have ho' : (onesC f ⟨t, r, false⟩ k).o = false := by
      cases h : (onesC f ⟨t, r, false⟩ k).o with
      | false => rfl
      | true =>
        have hn : ¬ (onesC f ⟨t, r, false⟩ k).runs = true := by unfold Ct.runs; simp [h]
        have e : onesC f ⟨t, r, false⟩ (k + 1) = onesC f ⟨t, r, false⟩ k := oneC_idle hn (f k)
        rw [e, h] at ho
        cases ho
    obtain ⟨q, hq, hall⟩ := ih ho'
    have e : onesC f ⟨t, r, false⟩ (k + 1) = oneC (f k) (onesC f ⟨t, r, false⟩ k) := rfl
    rw [e, hall r hr, oneC_run hq hr] at ho
    replace ho : (f k && decide (247 < q)) = false := ho
    refine ⟨if f k = true then (if 247 < q then 256 else q + 8) else if 0 < q then q - 1 else 0, ?_, fun r' h' => ?_⟩
    · simp at ho
      cases hf : f k
      · simp; split <;> omega
      · have := ho hf
        simp; omega
    · show oneC (f k) (onesC f ⟨t, r', false⟩ k) = _
      rw [hall r' h', oneC_run hq h', ho]
theorem rcvs_run {r : Int} (hr : 0 ≤ r ∧ r ≤ 255) (f g : Nat → Int) (k : Nat) :
    ∃ q : Int, (0 ≤ q ∧ q ≤ 255) ∧ ∀ t', 0 ≤ t' ∧ t' ≤ 255 → rcvsC f g ⟨t', r, false⟩ k = ⟨t', q, false⟩ := by
  induction k with
  | zero => exact ⟨r, hr, fun _ _ => rfl⟩
  | succ k ih =>
    obtain ⟨q, hq, hall⟩ := ih
    obtain ⟨q2, hq2, hall2⟩ := rcvC_run hq (f k) (g k)
    refine ⟨q2, hq2, fun t' h' => ?_⟩
    show rcvC (f k) (g k) (rcvsC f g ⟨t', r, false⟩ k) = _
    rw [hall t' h', hall2 t' h']
/-- What turns TEC, and what turns REC, may come in either order. -/
theorem either (c : Ct) (f : Nat → Bool) (n : Nat) (x g : Nat → Int) (m : Nat) (h : (onesC f c n).o = c.o) : rcvsC x g (onesC f c n) m = onesC f (rcvsC x g c m) n := by
  by_cases hr : c.runs = true
  · obtain ⟨t, r, o⟩ := c
    obtain ⟨rfl, ht, hr'⟩ := rng_of hr
    obtain ⟨q, hq, hall⟩ := ones_run ht hr' f n h
    obtain ⟨p, hp, hall2⟩ := rcvs_run hr' x g m
    rw [hall r hr', hall2 q hq, hall2 t ht, hall p hp]
  · rw [onesC_idle hr, rcvsC_idle hr, onesC_idle hr]
theorem went_off (c : Ct) (f : Nat → Bool) (n : Nat) (h : ¬ (onesC f c n).o = c.o) : (onesC f c n).o = true := by
  obtain ⟨t, r, o⟩ := c
  cases o
  · simpa using h
  · have hn : ¬ Ct.runs ⟨t, r, true⟩ = true := by simp [Ct.runs]
    rw [onesC_idle hn] at h
    exact absurd rfl h
theorem one_cv (t r : Int) (o b : Bool) (t' r' : Int) (o' : Bool) (h : oneC b ⟨t, r, o⟩ = ⟨t', r', o'⟩) (W : World) :
    Calls Try.prog 21 #[.agg #[.int .i64 t, .int .i64 r, .bool o], .bool b] W fun e W' => e = .returned (.agg #[.int .i64 t', .int .i64 r', .bool o']) ∧ Below W.heap.size W W' := one_uni t r o b t' r' o' h W

/-- The block of what comes. -/
def PairAt (W : World) (B : Nat) (x g : Int) : Prop := W.heap[B]? = some (.cells #[.int .i64 x, .int .i64 g] 31 (0, 0))
theorem PairAt.cells {W : World} {B : Nat} {x g : Int} (h : PairAt W B x g) : W.cell? ⟨B, 0, none⟩ = some (.int .i64 x) ∧ W.cell? ⟨B, 1, none⟩ = some (.int .i64 g) ∧ W.frozen? ⟨B, 0, none⟩ = false ∧ W.frozen? ⟨B, 1, none⟩ = false := by
  simp [World.cell?, World.frozen?, show W.heap[B]? = _ from h]
theorem PairAt.lt {W : World} {B : Nat} {x g : Int} (h : PairAt W B x g) : B < W.heap.size := (Array.getElem?_eq_some_iff.1 h).1
theorem PairAt.below {W W' : World} {B : Nat} {x g : Int} (h : PairAt W B x g) (hb : Below W.heap.size W W') : PairAt W' B x g := (hb.block B h.lt).trans h
theorem PairAt.put {W : World} {B : Nat} {x g : Int} (h : PairAt W B x g) (x' g' : Int) : PairAt ((W.setCell ⟨B, 0, none⟩ (.int .i64 x')).setCell ⟨B, 1, none⟩ (.int .i64 g')) B x' g' := by
  have h1 : PairAt (W.setCell ⟨B, 0, none⟩ (.int .i64 x')) B x' g := by
    obtain ⟨hlt, hk⟩ := Array.getElem?_eq_some_iff.1 h
    show (W.heap.modify B _)[B]? = _
    rw [Array.getElem?_eq_getElem (by rw [Array.size_modify]; exact hlt), Array.getElem_modify_self, hk]
    rfl
  obtain ⟨hlt, hk⟩ := Array.getElem?_eq_some_iff.1 h1
  show ((W.setCell ⟨B, 0, none⟩ (.int .i64 x')).heap.modify B _)[B]? = _
  rw [Array.getElem?_eq_getElem (by rw [Array.size_modify]; exact hlt), Array.getElem_modify_self, hk]
  rfl
theorem PairAt.other3 {W : World} {B : Nat} {x' g' : Int} (h : PairAt W B x' g') (A : Nat) (hp : B ≠ A) (x y z : Value) : PairAt (((W.setCell ⟨A, 0, none⟩ x).setCell ⟨A, 1, none⟩ y).setCell ⟨A, 2, none⟩ z) B x' g' := by
  unfold PairAt at *
  rw [Below.heap_setCell _ _ _ _ (by exact hp), Below.heap_setCell _ _ _ _ (by exact hp), Below.heap_setCell _ _ _ _ (by exact hp)]
  exact h

theorem count_other2 {W : World} {B : Nat} {t r : Int} {o : Bool} (h : CountAt W B t r o) (A : Nat) (hp : B ≠ A) (x y : Value) : CountAt ((W.setCell ⟨A, 0, none⟩ x).setCell ⟨A, 1, none⟩ y) B t r o := by
  unfold CountAt at *
  rw [Below.heap_setCell _ _ _ _ (by exact hp), Below.heap_setCell _ _ _ _ (by exact hp)]
  exact h

set_option maxRecDepth 20000 in
set_option maxHeartbeats 2000000 in
theorem apart_long (t r : Int) (o : Bool) (A1 : Option Addr) (n1 c1 : Nat) (A2 : Option Addr) (n2 c2 : Nat) (W : World) (hl : 100 < n1 ∨ 100 < n2) :
    Calls Try.prog 8 #[cv t r o, .slice A1 n1 c1, .slice A2 n2 c2] W fun e W' => e = .returned (.bool true) ∧ Below W.heap.size W W' := by
  unfold cv
  by_cases t1 : (100 : Int) < (n1 : Int)
  · go_enter Try.func8, Try.ntmps8
    go_wp2_with fail
    refine (awake_calls _).mono ?_
    rintro e w1 ⟨rfl, b1⟩
    go_wp2
    go_ret
    exact ⟨rfl, below_step ((Below.refl _ _).alloc (Nat.le_refl _) _) b1⟩
  · have t2 : (100 : Int) < (n2 : Int) := by omega
    go_enter Try.func8, Try.ntmps8
    go_wp2_with fail
    refine (awake_calls _).mono ?_
    rintro e w1 ⟨rfl, b1⟩
    go_wp2
    go_ret
    exact ⟨rfl, below_step ((Below.refl _ _).alloc (Nat.le_refl _) _) b1⟩

set_option maxRecDepth 20000 in
set_option maxHeartbeats 16000000 in
theorem apart_short (t r : Int) (o : Bool) (A1 : Option Addr) (n1 c1 : Nat) (f : Nat → Bool) (A2 : Option Addr) (n2 c2 : Nat) (xs gs : Nat → Int) (W : World) (hb : Bools W A1 n1 f) (hc : Comes W A2 n2 xs gs) (hl1 : n1 ≤ 100) (hl2 : n2 ≤ 100) :
    Calls Try.prog 8 #[cv t r o, .slice A1 n1 c1, .slice A2 n2 c2] W fun e W' => e = .returned (.bool true) ∧ Below W.heap.size W W' := by
  have t1 : ¬ (100 : Int) < (n1 : Int) := by omega
  have t2 : ¬ (100 : Int) < (n2 : Int) := by omega
  unfold cv
  go_enter Try.func8, Try.ntmps8
  go_upto_region 5 with fail
  obtain ⟨W1, hW1⟩ : ∃ W1, W.alloc (.cells #[.int .i64 t, .int .i64 r, .bool o] 23) = W1 := ⟨_, rfl⟩
  have C1 := count_new hW1
  have S1 : W1.heap.size = W.heap.size + 1 := by rw [← hW1]; simp
  have B1 := grow hW1
  rw [hW1]
  clear hW1
  obtain ⟨W2, hW2⟩ : ∃ W2, W1.alloc (.cells #[.int .i64 t, .int .i64 r, .bool o] 23) = W2 := ⟨_, rfl⟩
  have C2 := C1.below (grow hW2)
  have A2' := count_new hW2
  rw [S1] at A2'
  have S2 : W2.heap.size = W.heap.size + 1 + 1 := by rw [← hW2, World.size_alloc, S1]
  have B2 := below_step B1 (grow hW2)
  rw [hW2]
  clear hW2 C1 B1 S1
  obtain ⟨W3, hW3⟩ : ∃ W3, W2.alloc (.cells #[.int .i64 t, .int .i64 r, .bool o] 23) = W3 := ⟨_, rfl⟩
  have C3 := Aside0.mk (C2.below (grow hW3))
  have A3 := Aside0.mk (A2'.below (grow hW3))
  have D3 := count_new hW3
  rw [S2] at D3
  have D3 := Aside0.mk D3
  have B3 := Aside0.mk (below_step B2 (grow hW3))
  rw [hW3]
  clear hW3 C2 A2' B2 S2
  go_wp2_with fail
  go_loopw [9] (fun i wr => ∃ k : Nat, k ≤ n1 ∧ i = .int .i64 k ∧ CountAt wr (W.heap.size + 1) (onesC f ⟨t, r, o⟩ k).t (onesC f ⟨t, r, o⟩ k).r (onesC f ⟨t, r, o⟩ k).o ∧ CountAt wr (W.heap.size + 1 + 1) t r o ∧ CountAt wr W.heap.size t r o ∧ Below W.heap.size W wr) (fun i _ => n1 - (intOf i).toNat)
  case atStart => exact ⟨0, by omega, rfl, A3.out, D3.out, C3.out, B3.out⟩
  case round =>
    clear A3 C3 B3 D3
    obtain ⟨k, hk, rfl, hX, hO, hC, hB⟩ := hrel
    by_cases hlt : k < n1
    · obtain ⟨a, rfl, v0⟩ := hb k hlt
      have i0 : (0 : Int) ≤ (k : Int) := by omega
      have i1 : (k : Int) < (n1 : Int) := by omega
      obtain ⟨⟨tq, rq, oq⟩, ha⟩ : ∃ d, onesC f ⟨t, r, o⟩ k = d := ⟨_, rfl⟩
      rw [ha] at hX
      obtain ⟨⟨t', r', o'⟩, hs⟩ : ∃ d, oneC (f k) ⟨tq, rq, oq⟩ = d := ⟨_, rfl⟩
      have HS := Aside0.mk hs
      have HN := Aside0.mk (show onesC f ⟨t, r, o⟩ (k + 1) = ⟨t', r', o'⟩ by rw [← hs, ← ha]; rfl)
      have z0 := pw_cell_below hB v0
      obtain ⟨x0, x1, x2, f0, f1, f2⟩ := hX.cells
      have HX := Aside0.mk hX
      have HO := Aside0.mk hO
      have HC := Aside0.mk hC
      have HB := Aside0.mk hB
      clear hs ha hX hO hC hB v0
      go_wp2_with fail
      go_still_tail 5, (by kernel_rfl)
      change wpList _ _ _ _ _ wr.drew
      obtain ⟨w3, hw3⟩ : ∃ w3, wr.drew = w3 := ⟨_, rfl⟩
      have HX3 := Aside0.mk (show CountAt w3 (W.heap.size + 1) tq rq oq from hw3 ▸ HX.out)
      have HO3 := Aside0.mk (show CountAt w3 (W.heap.size + 1 + 1) t r o from hw3 ▸ HO.out)
      have HC3 := Aside0.mk (show CountAt w3 W.heap.size t r o from hw3 ▸ HC.out)
      have HB3 := Aside0.mk (show Below W.heap.size W w3 from hw3 ▸ HB.out.drew)
      rw [hw3]
      clear hw3 x0 x1 x2 f0 f1 f2 z0 HX HO HC HB
      go_wp2_with fail
      refine (one_cv tq rq oq (f k) t' r' o' HS.out w3).mono ?_
      rintro e w4 ⟨rfl, b4⟩
      have hX4 := HX3.out.below b4
      have HO4 := Aside0.mk (HO3.out.below b4)
      have HC4 := Aside0.mk (HC3.out.below b4)
      have HB4 := Aside0.mk (below_step HB3.out b4)
      clear b4 HX3 HO3 HC3 HB3
      obtain ⟨x0, x1, x2, f0, f1, f2⟩ := hX4.cells
      have HX4 := Aside0.mk hX4
      clear hX4
      go_wp2_with fail
      have HX5 := Aside0.mk (HX4.out.put t' r' o')
      have HO5 := Aside0.mk (count_other3 HO4.out (W.heap.size + 1) (by omega) (.int .i64 t') (.int .i64 r') (.bool o'))
      have HC5 := Aside0.mk (count_other3 HC4.out (W.heap.size + 1) (by omega) (.int .i64 t') (.int .i64 r') (.bool o'))
      have HB5 := Aside0.mk (Below.put HB4.out (W.heap.size + 1) (by omega) (.int .i64 t') (.int .i64 r') (.bool o'))
      clear x0 x1 x2 f0 f1 f2 HX4 HO4 HC4 HB4
      go_roundw
      case rel => exact ⟨k + 1, by omega, by go_num, by rw [HN.out]; exact HX5.out, HO5.out, HC5.out, HB5.out⟩
      case measure => simp [intOf]; omega
    · obtain rfl : k = n1 := by omega
      obtain ⟨⟨ta, ra, oa⟩, ha⟩ : ∃ d, onesC f ⟨t, r, o⟩ k = d := ⟨_, rfl⟩
      rw [ha] at hX
      have HN := Aside0.mk ha
      obtain ⟨x0, x1, x2, -, -, -⟩ := hX.cells
      obtain ⟨y0, y1, y2, -, -, -⟩ := hC.cells
      have HX := Aside0.mk hX
      have HO := Aside0.mk hO
      have HC := Aside0.mk hC
      have HB := Aside0.mk hB
      clear hX hO hC hB ha
      by_cases hoff : oa = o
      · subst hoff
        go_wp2_with fail
        clear x0 x1 x2 y0 y1 y2
        go_loopw [10] (fun i wr => ∃ j : Nat, j ≤ n2 ∧ i = .int .i64 j ∧ CountAt wr (W.heap.size + 1) (rcvsC xs gs ⟨ta, ra, oa⟩ j).t (rcvsC xs gs ⟨ta, ra, oa⟩ j).r (rcvsC xs gs ⟨ta, ra, oa⟩ j).o ∧ CountAt wr (W.heap.size + 1 + 1) (rcvsC xs gs ⟨t, r, oa⟩ j).t (rcvsC xs gs ⟨t, r, oa⟩ j).r (rcvsC xs gs ⟨t, r, oa⟩ j).o ∧ CountAt wr W.heap.size t r oa ∧ Below W.heap.size W wr) (fun i _ => n2 - (intOf i).toNat)
        case atStart => exact ⟨0, by omega, rfl, HX.out, HO.out, HC.out, HB.out⟩
        case round =>
          clear HX HO HC HB
          obtain ⟨j, hj, rfl, hX, hO, hC, hB⟩ := hrel
          by_cases hlt : j < n2
          · obtain ⟨a, rfl, v0, v1⟩ := hc j hlt
            have i0 : (0 : Int) ≤ (j : Int) := by omega
            have i1 : (j : Int) < (n2 : Int) := by omega
            obtain ⟨⟨sa, pa, ea⟩, ha⟩ : ∃ d, rcvsC xs gs ⟨ta, ra, oa⟩ j = d := ⟨_, rfl⟩
            obtain ⟨⟨tb, rb, ob⟩, hbb⟩ : ∃ d, rcvsC xs gs ⟨t, r, oa⟩ j = d := ⟨_, rfl⟩
            rw [ha] at hX
            rw [hbb] at hO
            obtain ⟨⟨t1', r1', o1'⟩, hs1⟩ : ∃ d, rcvC (xs j) (gs j) ⟨sa, pa, ea⟩ = d := ⟨_, rfl⟩
            obtain ⟨⟨t2', r2', o2'⟩, hs2⟩ : ∃ d, rcvC (xs j) (gs j) ⟨tb, rb, ob⟩ = d := ⟨_, rfl⟩
            have HNA := Aside0.mk (show rcvsC xs gs ⟨ta, ra, oa⟩ (j + 1) = ⟨t1', r1', o1'⟩ by rw [← hs1, ← ha]; rfl)
            have HNB := Aside0.mk (show rcvsC xs gs ⟨t, r, oa⟩ (j + 1) = ⟨t2', r2', o2'⟩ by rw [← hs2, ← hbb]; rfl)
            have HS1 := Aside0.mk hs1
            have HS2 := Aside0.mk hs2
            have z0 := pw_cell_below hB v0
            have z1 := next_cell (pw_cell_below hB v1)
            have LB := Aside0.mk (show W.heap.size + 1 + 1 < wr.heap.size from hO.lt)
            have HX := Aside0.mk hX
            have HO := Aside0.mk hO
            have HC := Aside0.mk hC
            have HB := Aside0.mk hB
            clear ha hbb hs1 hs2 hX hO hC hB v0 v1
            go_upto_region 15 with fail
            obtain ⟨w3, hw3⟩ : ∃ w3, wr.alloc (.cells #[.int .i64 1, .int .i64 0] 31) = w3 := ⟨_, rfl⟩
            have G3 := grow hw3
            have hP3 := show PairAt w3 wr.heap.size 1 0 from hw3 ▸ heap_alloc_new wr _
            have HX3 := Aside0.mk (HX.out.below G3)
            have HO3 := Aside0.mk (HO.out.below G3)
            have HC3 := Aside0.mk (HC.out.below G3)
            have HB3 := Aside0.mk (below_step HB.out G3)
            replace z0 := cb G3 z0
            replace z1 := cb G3 z1
            rw [hw3]
            clear hw3 G3 HX HO HC HB
            obtain ⟨p0, p1, q0, q1⟩ := hP3.cells
            have HP3 := Aside0.mk hP3
            clear hP3
            by_cases hx : xs j = 1
            · have nx : (xs j != 1) = false := by rw [hx]; rfl
              have HSA := Aside0.mk (show behind ⟨sa, pa, ea⟩ 1 0 = ⟨t1', r1', o1'⟩ by have := HS1.out; unfold rcvC at this; rw [if_pos hx] at this; rw [← this]; rfl)
              have HSB := Aside0.mk (show behind ⟨tb, rb, ob⟩ 1 0 = ⟨t2', r2', o2'⟩ by have := HS2.out; unfold rcvC at this; rw [if_pos hx] at this; rw [← this]; rfl)
              clear hx
              go_upto_region 17 with fail
              have HA4 := HX3
              have HB4 := HO3
              have HC4 := HC3
              have HW4 := HB3
              have HP4 := HP3
              obtain ⟨w4, hw4⟩ : ∃ w4, w3 = w4 := ⟨_, rfl⟩
              subst hw4
              clear HX3 HO3 HC3 HB3 HP3 z0 z1 nx
              obtain ⟨x0, x1, x2, -, -, -⟩ := HA4.out.cells
              go_wp2_with fail
              refine (Behind_cv sa pa ea (1) (0) t1' r1' o1' HSA.out w3).mono ?_
              rintro e w5 ⟨rfl, b5⟩
              have hA5 := HA4.out.below b5
              have HB5 := Aside0.mk (HB4.out.below b5)
              have HC5 := Aside0.mk (HC4.out.below b5)
              have HP5 := Aside0.mk (HP4.out.below b5)
              have HW5 := Aside0.mk (below_step HW4.out b5)
              clear b5 x0 x1 x2 p0 p1 q0 q1 HA4 HB4 HC4 HP4 HW4
              obtain ⟨x0, x1, x2, f0, f1, f2⟩ := hA5.cells
              have HA5 := Aside0.mk hA5
              clear hA5
              go_upto_region 18 with fail
              obtain ⟨w6, hw6⟩ : ∃ w6, ((w5.setCell ⟨W.heap.size + 1, 0, none⟩ (.int .i64 t1')).setCell ⟨W.heap.size + 1, 1, none⟩ (.int .i64 r1')).setCell ⟨W.heap.size + 1, 2, none⟩ (.bool o1') = w6 := ⟨_, rfl⟩
              have HA6 := Aside0.mk (show CountAt w6 (W.heap.size + 1) t1' r1' o1' from hw6 ▸ HA5.out.put t1' r1' o1')
              have hB6 := show CountAt w6 (W.heap.size + 1 + 1) tb rb ob from hw6 ▸ count_other3 HB5.out (W.heap.size + 1) (by omega) _ _ _
              have HC6 := Aside0.mk (show CountAt w6 W.heap.size t r oa from hw6 ▸ count_other3 HC5.out (W.heap.size + 1) (by omega) _ _ _)
              have hP6 := show PairAt w6 wr.heap.size (1) (0) from hw6 ▸ HP5.out.other3 (W.heap.size + 1) (by have := LB.out; omega) _ _ _
              have HW6 := Aside0.mk (show Below W.heap.size W w6 from hw6 ▸ Below.put HW5.out (W.heap.size + 1) (by omega) _ _ _)
              rw [hw6]
              clear hw6 x0 x1 x2 f0 f1 f2 HA5 HB5 HC5 HP5 HW5
              obtain ⟨x0, x1, x2, -, -, -⟩ := hB6.cells
              obtain ⟨p0, p1, -, -⟩ := hP6.cells
              have HB6 := Aside0.mk hB6
              clear hB6 hP6
              go_wp2_with fail
              refine (Behind_cv tb rb ob (1) (0) t2' r2' o2' HSB.out w6).mono ?_
              rintro e w7 ⟨rfl, b7⟩
              have HA7 := Aside0.mk (HA6.out.below b7)
              have hB7 := HB6.out.below b7
              have HC7 := Aside0.mk (HC6.out.below b7)
              have HW7 := Aside0.mk (below_step HW6.out b7)
              clear b7 x0 x1 x2 p0 p1 HA6 HB6 HC6 HW6
              obtain ⟨x0, x1, x2, f0, f1, f2⟩ := hB7.cells
              have HB7 := Aside0.mk hB7
              clear hB7
              go_wp2_with fail
              have HA8 := Aside0.mk (count_other3 HA7.out (W.heap.size + 1 + 1) (by omega) (.int .i64 t2') (.int .i64 r2') (.bool o2'))
              have HB8 := Aside0.mk (HB7.out.put t2' r2' o2')
              have HC8 := Aside0.mk (count_other3 HC7.out (W.heap.size + 1 + 1) (by omega) (.int .i64 t2') (.int .i64 r2') (.bool o2'))
              have HW8 := Aside0.mk (Below.put HW7.out (W.heap.size + 1 + 1) (by omega) (.int .i64 t2') (.int .i64 r2') (.bool o2'))
              clear x0 x1 x2 f0 f1 f2 HA7 HB7 HC7 HW7
              go_roundw
              case rel => exact ⟨j + 1, by omega, by go_num, by rw [HNA.out]; exact HA8.out, by rw [HNB.out]; exact HB8.out, HC8.out, HW8.out⟩
              case measure => simp [intOf]; omega
            · have nx : (xs j != 1) = true := by simpa using hx
              have HSA := Aside0.mk (show behind ⟨sa, pa, ea⟩ 3 (gs j) = ⟨t1', r1', o1'⟩ by have := HS1.out; unfold rcvC at this; rw [if_neg hx] at this; rw [← this]; rfl)
              have HSB := Aside0.mk (show behind ⟨tb, rb, ob⟩ 3 (gs j) = ⟨t2', r2', o2'⟩ by have := HS2.out; unfold rcvC at this; rw [if_neg hx] at this; rw [← this]; rfl)
              clear hx
              go_upto_region 17 with fail
              obtain ⟨w4, hw4⟩ : ∃ w4, (w3.setCell ⟨wr.heap.size, 0, none⟩ (.int .i64 3)).setCell ⟨wr.heap.size, 1, none⟩ (.int .i64 (gs j)) = w4 := ⟨_, rfl⟩
              have hP4 := show PairAt w4 wr.heap.size 3 (gs j) from hw4 ▸ HP3.out.put 3 (gs j)
              have hA4 := show CountAt w4 (W.heap.size + 1) sa pa ea from hw4 ▸ count_other2 HX3.out wr.heap.size (by have := LB.out; omega) _ _
              have HB4 := Aside0.mk (show CountAt w4 (W.heap.size + 1 + 1) tb rb ob from hw4 ▸ count_other2 HO3.out wr.heap.size (by have := LB.out; omega) _ _)
              have HC4 := Aside0.mk (show CountAt w4 W.heap.size t r oa from hw4 ▸ count_other2 HC3.out wr.heap.size (by have := LB.out; omega) _ _)
              have HW4 := Aside0.mk (show Below W.heap.size W w4 from hw4 ▸ (HB3.out.setCell (p := ⟨wr.heap.size, 0, none⟩) (by have := LB.out; simp; omega) _).setCell (p := ⟨wr.heap.size, 1, none⟩) (by have := LB.out; simp; omega) _)
              rw [hw4]
              clear hw4 HX3 HO3 HC3 HB3 HP3 z0 z1 nx p0 p1 q0 q1
              obtain ⟨p0, p1, q0, q1⟩ := hP4.cells
              obtain ⟨x0, x1, x2, -, -, -⟩ := hA4.cells
              have HA4 := Aside0.mk hA4
              have HP4 := Aside0.mk hP4
              clear hA4 hP4
              go_wp2_with fail
              refine (Behind_cv sa pa ea (3) (gs j) t1' r1' o1' HSA.out w4).mono ?_
              rintro e w5 ⟨rfl, b5⟩
              have hA5 := HA4.out.below b5
              have HB5 := Aside0.mk (HB4.out.below b5)
              have HC5 := Aside0.mk (HC4.out.below b5)
              have HP5 := Aside0.mk (HP4.out.below b5)
              have HW5 := Aside0.mk (below_step HW4.out b5)
              clear b5 x0 x1 x2 p0 p1 q0 q1 HA4 HB4 HC4 HP4 HW4
              obtain ⟨x0, x1, x2, f0, f1, f2⟩ := hA5.cells
              have HA5 := Aside0.mk hA5
              clear hA5
              go_upto_region 18 with fail
              obtain ⟨w6, hw6⟩ : ∃ w6, ((w5.setCell ⟨W.heap.size + 1, 0, none⟩ (.int .i64 t1')).setCell ⟨W.heap.size + 1, 1, none⟩ (.int .i64 r1')).setCell ⟨W.heap.size + 1, 2, none⟩ (.bool o1') = w6 := ⟨_, rfl⟩
              have HA6 := Aside0.mk (show CountAt w6 (W.heap.size + 1) t1' r1' o1' from hw6 ▸ HA5.out.put t1' r1' o1')
              have hB6 := show CountAt w6 (W.heap.size + 1 + 1) tb rb ob from hw6 ▸ count_other3 HB5.out (W.heap.size + 1) (by omega) _ _ _
              have HC6 := Aside0.mk (show CountAt w6 W.heap.size t r oa from hw6 ▸ count_other3 HC5.out (W.heap.size + 1) (by omega) _ _ _)
              have hP6 := show PairAt w6 wr.heap.size (3) (gs j) from hw6 ▸ HP5.out.other3 (W.heap.size + 1) (by have := LB.out; omega) _ _ _
              have HW6 := Aside0.mk (show Below W.heap.size W w6 from hw6 ▸ Below.put HW5.out (W.heap.size + 1) (by omega) _ _ _)
              rw [hw6]
              clear hw6 x0 x1 x2 f0 f1 f2 HA5 HB5 HC5 HP5 HW5
              obtain ⟨x0, x1, x2, -, -, -⟩ := hB6.cells
              obtain ⟨p0, p1, -, -⟩ := hP6.cells
              have HB6 := Aside0.mk hB6
              clear hB6 hP6
              go_wp2_with fail
              refine (Behind_cv tb rb ob (3) (gs j) t2' r2' o2' HSB.out w6).mono ?_
              rintro e w7 ⟨rfl, b7⟩
              have HA7 := Aside0.mk (HA6.out.below b7)
              have hB7 := HB6.out.below b7
              have HC7 := Aside0.mk (HC6.out.below b7)
              have HW7 := Aside0.mk (below_step HW6.out b7)
              clear b7 x0 x1 x2 p0 p1 HA6 HB6 HC6 HW6
              obtain ⟨x0, x1, x2, f0, f1, f2⟩ := hB7.cells
              have HB7 := Aside0.mk hB7
              clear hB7
              go_wp2_with fail
              have HA8 := Aside0.mk (count_other3 HA7.out (W.heap.size + 1 + 1) (by omega) (.int .i64 t2') (.int .i64 r2') (.bool o2'))
              have HB8 := Aside0.mk (HB7.out.put t2' r2' o2')
              have HC8 := Aside0.mk (count_other3 HC7.out (W.heap.size + 1 + 1) (by omega) (.int .i64 t2') (.int .i64 r2') (.bool o2'))
              have HW8 := Aside0.mk (Below.put HW7.out (W.heap.size + 1 + 1) (by omega) (.int .i64 t2') (.int .i64 r2') (.bool o2'))
              clear x0 x1 x2 f0 f1 f2 HA7 HB7 HC7 HW7
              go_roundw
              case rel => exact ⟨j + 1, by omega, by go_num, by rw [HNA.out]; exact HA8.out, by rw [HNB.out]; exact HB8.out, HC8.out, HW8.out⟩
              case measure => simp [intOf]; omega
          · obtain rfl : j = n2 := by omega
            have HX := Aside0.mk hX
            have HO := Aside0.mk hO
            have HC := Aside0.mk hC
            have HB := Aside0.mk hB
            have HE := Aside0.mk (show rcvsC xs gs ⟨ta, ra, oa⟩ j = onesC f (rcvsC xs gs ⟨t, r, oa⟩ j) k by
              have := either ⟨t, r, oa⟩ f k xs gs j (by rw [HN.out])
              rw [HN.out] at this
              exact this)
            clear hX hO hC hB
            go_wp2_with fail
            obtain ⟨⟨tm, rm, om⟩, hm⟩ : ∃ d, rcvsC xs gs ⟨t, r, oa⟩ j = d := ⟨_, rfl⟩
            have HO := Aside0.mk (show CountAt wr (W.heap.size + 1 + 1) tm rm om by have := HO.out; rw [hm] at this; exact this)
            have HE := Aside0.mk (show rcvsC xs gs ⟨ta, ra, oa⟩ j = onesC f ⟨tm, rm, om⟩ k by rw [HE.out, hm])
            clear hm
            obtain ⟨⟨tz, rz, oz⟩, hz⟩ : ∃ d, rcvsC xs gs ⟨ta, ra, oa⟩ j = d := ⟨_, rfl⟩
            have HX := Aside0.mk (show CountAt wr (W.heap.size + 1) tz rz oz by have := HX.out; rw [hz] at this; exact this)
            have HE := Aside0.mk (show onesC f ⟨tm, rm, om⟩ k = ⟨tz, rz, oz⟩ by rw [← HE.out, hz])
            clear hz
            go_loopw [12] (fun i wr => ∃ l : Nat, l ≤ k ∧ i = .int .i64 l ∧ CountAt wr (W.heap.size + 1 + 1) (onesC f ⟨tm, rm, om⟩ l).t (onesC f ⟨tm, rm, om⟩ l).r (onesC f ⟨tm, rm, om⟩ l).o ∧ CountAt wr (W.heap.size + 1) tz rz oz ∧ CountAt wr W.heap.size t r oa ∧ Below W.heap.size W wr) (fun i _ => k - (intOf i).toNat)
            case atStart => exact ⟨0, by omega, rfl, HO.out, HX.out, HC.out, HB.out⟩
            case round =>
              clear HX HO HC HB
              obtain ⟨l, hl, rfl, hX, hO, hC, hB⟩ := hrel
              by_cases hlt : l < k
              · obtain ⟨a, rfl, v0⟩ := hb l (by omega)
                have i0 : (0 : Int) ≤ (l : Int) := by omega
                have i1 : (l : Int) < (k : Int) := by omega
                obtain ⟨⟨tq, rq, oq⟩, ha⟩ : ∃ d, onesC f ⟨tm, rm, om⟩ l = d := ⟨_, rfl⟩
                rw [ha] at hX
                obtain ⟨⟨t', r', o'⟩, hs⟩ : ∃ d, oneC (f l) ⟨tq, rq, oq⟩ = d := ⟨_, rfl⟩
                have HS := Aside0.mk hs
                have HN := Aside0.mk (show onesC f ⟨tm, rm, om⟩ (l + 1) = ⟨t', r', o'⟩ by rw [← hs, ← ha]; rfl)
                have z0 := pw_cell_below hB v0
                obtain ⟨x0, x1, x2, f0, f1, f2⟩ := hX.cells
                have HX := Aside0.mk hX
                have HO := Aside0.mk hO
                have HC := Aside0.mk hC
                have HB := Aside0.mk hB
                clear hs ha hX hO hC hB v0
                go_wp2_with fail
                go_still_tail 5, (by kernel_rfl)
                change wpList _ _ _ _ _ wr.drew
                obtain ⟨w3, hw3⟩ : ∃ w3, wr.drew = w3 := ⟨_, rfl⟩
                have HX3 := Aside0.mk (show CountAt w3 (W.heap.size + 1 + 1) tq rq oq from hw3 ▸ HX.out)
                have HO3 := Aside0.mk (show CountAt w3 (W.heap.size + 1) tz rz oz from hw3 ▸ HO.out)
                have HC3 := Aside0.mk (show CountAt w3 W.heap.size t r oa from hw3 ▸ HC.out)
                have HB3 := Aside0.mk (show Below W.heap.size W w3 from hw3 ▸ HB.out.drew)
                rw [hw3]
                clear hw3 x0 x1 x2 f0 f1 f2 z0 HX HO HC HB
                go_wp2_with fail
                refine (one_cv tq rq oq (f l) t' r' o' HS.out w3).mono ?_
                rintro e w4 ⟨rfl, b4⟩
                have hX4 := HX3.out.below b4
                have HO4 := Aside0.mk (HO3.out.below b4)
                have HC4 := Aside0.mk (HC3.out.below b4)
                have HB4 := Aside0.mk (below_step HB3.out b4)
                clear b4 HX3 HO3 HC3 HB3
                obtain ⟨x0, x1, x2, f0, f1, f2⟩ := hX4.cells
                have HX4 := Aside0.mk hX4
                clear hX4
                go_wp2_with fail
                have HX5 := Aside0.mk (HX4.out.put t' r' o')
                have HO5 := Aside0.mk (count_other3 HO4.out (W.heap.size + 1 + 1) (by omega) (.int .i64 t') (.int .i64 r') (.bool o'))
                have HC5 := Aside0.mk (count_other3 HC4.out (W.heap.size + 1 + 1) (by omega) (.int .i64 t') (.int .i64 r') (.bool o'))
                have HB5 := Aside0.mk (Below.put HB4.out (W.heap.size + 1 + 1) (by omega) (.int .i64 t') (.int .i64 r') (.bool o'))
                clear x0 x1 x2 f0 f1 f2 HX4 HO4 HC4 HB4
                go_roundw
                case rel => exact ⟨l + 1, by omega, by go_num, by rw [HN.out]; exact HX5.out, HO5.out, HC5.out, HB5.out⟩
                case measure => simp [intOf]; omega
              · obtain rfl : l = k := by omega
                rw [HE.out] at hX
                obtain ⟨x0, x1, x2, -, -, -⟩ := hX.cells
                obtain ⟨y0, y1, y2, -, -, -⟩ := hO.cells
                have HB := Aside0.mk hB
                clear hX hO hC hB
                go_wp2_with fail
                refine (awake_calls wr).mono ?_
                rintro e w3 ⟨rfl, b3⟩
                have HB3 := Aside0.mk (below_step HB.out b3)
                clear b3
                go_wp2_with fail
                go_ret
                exact ⟨rfl, HB3.out⟩
      · have hoa : oa = true := by
          have := went_off ⟨t, r, o⟩ f k (by rw [HN.out]; exact hoff)
          rw [HN.out] at this
          exact this
        have hof : o = false := by cases o <;> simp_all
        subst hoa hof
        go_wp2_with fail
        refine (state_cv ta ra true 2 rfl wr).mono ?_
        rintro e w3 ⟨rfl, b3⟩
        have HB3 := Aside0.mk (below_step HB.out b3)
        clear b3
        go_wp2_with fail
        refine (awake_calls w3).mono ?_
        rintro e w4 ⟨rfl, b4⟩
        have HB4 := Aside0.mk (below_step HB3.out b4)
        clear b4
        go_wp2_with fail
        go_ret
        exact ⟨rfl, HB4.out⟩

theorem apart_calls (t r : Int) (o : Bool) (A1 : Option Addr) (n1 c1 : Nat) (f : Nat → Bool) (A2 : Option Addr) (n2 c2 : Nat) (xs gs : Nat → Int) (W : World) (_ : True) (hb : Bools W A1 n1 f) (hc : Comes W A2 n2 xs gs) :
    Calls Try.prog 8 #[cv t r o, .slice A1 n1 c1, .slice A2 n2 c2] W fun e W' => e = .returned (.bool true) ∧ Below W.heap.size W W' := by
  by_cases h1 : n1 ≤ 100
  · by_cases h2 : n2 ≤ 100
    · exact apart_short t r o A1 n1 c1 f A2 n2 c2 xs gs W hb hc h1 h2
    · exact apart_long t r o A1 n1 c1 A2 n2 c2 W (.inr (by omega))
  · exact apart_long t r o A1 n1 c1 A2 n2 c2 W (.inl (by omega))
end Go.Proofs.Ytalonmhoamjcnaa
