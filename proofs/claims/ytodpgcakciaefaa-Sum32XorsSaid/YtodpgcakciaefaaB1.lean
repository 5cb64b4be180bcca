/-
  The walk of Sum32Xors.
-/
import Derived.Test.YtodpgcakciaefaaA5
import Derived.Deep.AppendLies
namespace Go.Proofs.Ytodpgcakciaefaa
open Go.RowKit Go.Proofs.YtodpgcakciaefaaW.PrintWords

theorem int_eq {k : IntKind} {a b : Int} (h : a = b) : Value.int k a = .int k b := by rw [h]
/-- A cell of an elder block stays where a row of the call's own grows. -/
theorem pw_cell_grown {W w1 : World} {base n : Nat} {v : Value} {xs : List Value} {o : Obj} {p : Addr} {u : Value} (hg : (W.alloc o).drew.grownBy w1 v.ownBlock) (hc : W.cell? p = some u) (hp : p.block < base)
    (HO : W.ownsRow base 5 1 v n xs) : w1.cell? p = some u := by
  have hlt := World.block_lt_of_cell? W p hc
  have h1 : (W.alloc o).drew.cell? p = some u := (World.cell?_alloc_lt W o p hlt).trans hc
  rw [hg.cell_far p (by simp; omega) (fun e => by have := own_base HO _ e.symm; omega)]
  exact h1
/-- Byte by byte xor each other. -/
def x3 (l0 l1 l2 : List Int) (j : Nat) : Int := (((rd l0 j).toNat ^^^ (rd l1 j).toNat ^^^ (rd l2 j).toNat : Nat) : Int)
def xr (l0 l1 l2 : List Int) (k : Nat) : List Int := (List.range k).map (x3 l0 l1 l2)
theorem xr_succ (l0 l1 l2 : List Int) (k : Nat) : xr l0 l1 l2 (k + 1) = xr l0 l1 l2 k ++ [x3 l0 l1 l2 k] := by simp [xr, List.range_succ]
theorem xr_len (l0 l1 l2 : List Int) (k : Nat) : (xr l0 l1 l2 k).length = k := by simp [xr]
theorem rd_byte {l : List Int} (h : ∀ x ∈ l, 0 ≤ x ∧ x < 256) {j : Nat} (hj : j < l.length) : 0 ≤ rd l j ∧ rd l j < 256 := h _ (rd_mem (by omega) (by omega))
theorem x3_byte {l0 l1 l2 : List Int} {j : Nat} (h0 : 0 ≤ rd l0 j ∧ rd l0 j < 256) (h1 : 0 ≤ rd l1 j ∧ rd l1 j < 256) (h2 : 0 ≤ rd l2 j ∧ rd l2 j < 256) : 0 ≤ x3 l0 l1 l2 j ∧ x3 l0 l1 l2 j < 256 := by
  unfold x3
  have := Nat.xor_lt_two_pow (n := 8) (Nat.xor_lt_two_pow (n := 8) (x := (rd l0 j).toNat) (y := (rd l1 j).toNat) (by omega) (by omega)) (show (rd l2 j).toNat < 2 ^ 8 by omega)
  omega
theorem bits_x3 (l0 l1 l2 : List Int) (k : Nat) (p0 : 0 ≤ rd l0 k) (q0 : rd l0 k < 256) (p1 : 0 ≤ rd l1 k) (q1 : rd l1 k < 256) (p2 : 0 ≤ rd l2 k) (q2 : rd l2 k < 256) :
    bits .xor .u8 (bits .xor .u8 (rd l0 k) (rd l1 k)) (rd l2 k) = x3 l0 l1 l2 k := by
  rw [u8_xor _ _ p0 q0 p1 q1]
  have hx : ((rd l0 k).toNat ^^^ (rd l1 k).toNat) < 256 := Nat.xor_lt_two_pow (n := 8) (by omega) (by omega)
  rw [u8_xor _ _ (by omega) (by omega) p2 q2, Int.toNat_natCast]
  rfl
theorem xr_byte {l0 l1 l2 : List Int} {k : Nat} (h0 : ∀ x ∈ l0, 0 ≤ x ∧ x < 256) (h1 : ∀ x ∈ l1, 0 ≤ x ∧ x < 256) (h2 : ∀ x ∈ l2, 0 ≤ x ∧ x < 256) (k0 : k ≤ l0.length) (k1 : k ≤ l1.length) (k2 : k ≤ l2.length) :
    ∀ x ∈ xr l0 l1 l2 k, 0 ≤ x ∧ x < 256 := by
  intro x hx
  simp only [xr, List.mem_map, List.mem_range] at hx
  obtain ⟨j, hj, rfl⟩ := hx
  exact x3_byte (rd_byte h0 (by omega)) (rd_byte h1 (by omega)) (rd_byte h2 (by omega))
theorem take_map (l : List Int) (k : Nat) (h : k ≤ l.length) : l.take k = (List.range k).map fun (j : Nat) => rd l (j : Int) := by
  apply List.ext_getElem
  · simp; omega
  · intro i h1 h2
    simp at h1
    simp [rd, List.getElem?_eq_getElem (show i < l.length by omega)]
theorem sum_xr (l0 l1 l2 : List Int) (k : Nat) (k0 : k ≤ l0.length) (k1 : k ≤ l1.length) (k2 : k ≤ l2.length) :
    Pl.sum (xr l0 l1 l2 k) = Pl.sum (l0.take k) ^^^ Pl.sum (l1.take k) ^^^ Pl.sum (l2.take k) := by
  rw [take_map l0 k k0, take_map l1 k k1, take_map l2 k k2]
  exact Pl.sum3 _ _ _ k
/-- 'l[:n]'. -/
theorem take_cut (A : Option Addr) (c n : Nat) (l : List Int) (hn : n ≤ l.length) (hc : l.length ≤ c) :
    (∀ W : World, (Instr.slice 22 (.slice A l.length c) none (some (.int .i64 (n : Int))) none).run Try.prog W = .ok (.slice A n c) W) ∧ (∀ w : World, Bs w A c l → Bs w A c (l.take n)) := by
  obtain ⟨i5, hi, hii⟩ := Option.map_eq_some_iff.1 info5
  have hsz : i5.size = 1 := by simp only [Prod.mk.injEq] at hii; exact hii.2.1
  obtain ⟨cut1, r1, q1⟩ := print_take_int (k := .u8) 22 5 Try.underlying22 hi hsz A c l (n : Int) (by omega) (by omega) hc
  rw [Int.toNat_natCast] at cut1 r1 q1
  refine ⟨fun W => ?_, fun w h => ⟨r1 w h.reads, q1, fun x hx => h.byte x (List.mem_of_mem_take hx)⟩⟩
  rw [cut1 W, List.length_take, show min n l.length = n from by omega]

theorem nodrew {W w1 : World} (h : Below W.drew.heap.size W.drew w1) : Below W.heap.size W w1 := below_step (Below.refl _ _).drew h
theorem cb {W w1 : World} (h : Below W.heap.size W w1) {p : Addr} {u : Value} (hc : W.cell? p = some u) : w1.cell? p = some u := pw_cell_below h hc
/-- The least of the first k lengths. -/
def mnTo (a b c : Nat) : Nat → Nat
  | 1 => a
  | 2 => min a b
  | _ => min (min a b) c

set_option maxHeartbeats 2000000 in
theorem xors_main (A0 : Option Addr) (c0 : Nat) (l0 : List Int) (A1 : Option Addr) (c1 : Nat) (l1 : List Int) (A2 : Option Addr) (c2 : Nat) (l2 : List Int) (w : World)
    (h0 : Bs w A0 c0 l0) (h1 : Bs w A1 c1 l1) (h2 : Bs w A2 c2 l2) (s0 : l0.length ≤ 300) (s1 : l1.length ≤ 300) (s2 : l2.length ≤ 300) :
    Calls Try.prog 3 #[.agg #[.slice A0 l0.length c0, .slice A1 l1.length c1, .slice A2 l2.length c2]] w fun e w' => e = .returned (.bool true) ∧ Below w.heap.size w w' := by
  have t0 : ¬ (300 : Int) < (l0.length : Int) := by omega
  have t1 : ¬ (300 : Int) < (l1.length : Int) := by omega
  have t2 : ¬ (300 : Int) < (l2.length : Int) := by omega
  have H0 := Aside0.mk h0
  have H1 := Aside0.mk h1
  have H2 := Aside0.mk h2
  clear h0 h1 h2
  go_enter Try.func3, Try.ntmps3
  go_wp2
  have bx := heap_alloc_new w (.cells #[.slice A0 l0.length c0, .slice A1 l1.length c1, .slice A2 l2.length c2] 23)
  have b0 : Below w.heap.size w (w.alloc (.cells #[.slice A0 l0.length c0, .slice A1 l1.length c1, .slice A2 l2.length c2] 23)) := (Below.refl _ _).alloc (Nat.le_refl _) _
  have sz : (w.alloc (.cells #[.slice A0 l0.length c0, .slice A1 l1.length c1, .slice A2 l2.length c2] 23)).heap.size = w.heap.size + 1 := by simp
  generalize w.alloc (.cells #[.slice A0 l0.length c0, .slice A1 l1.length c1, .slice A2 l2.length c2] 23) = W0 at *
  have x0 := blk_cell bx 0
  have x1 := blk_cell bx 1
  have x2 := blk_cell bx 2
  simp only [List.getElem?_toArray, List.getElem?_cons_zero, List.getElem?_cons_succ] at x0 x1 x2
  have BX := Aside0.mk bx
  have B0 := Aside0.mk b0
  have SZ := Aside0.mk sz
  clear bx b0 sz
  go_loop [3, 4] (fun n i => ∃ k : Nat, 1 ≤ k ∧ k ≤ 3 ∧ i = .int .i64 k ∧ n = .int .i64 (mnTo l0.length l1.length l2.length k : Nat)) (fun _ i => 3 - (intOf i).toNat)
  case atStart => exact ⟨1, by omega, by omega, rfl, rfl⟩
  case round =>
    obtain ⟨k, hk1, hk3, rfl, rfl⟩ := hrel
    by_cases e1 : k = 1
    · subst e1
      by_cases hlt : l1.length < l0.length
      · have u1 : (l1.length : Int) < (mnTo l0.length l1.length l2.length 1 : Nat) := by simp only [mnTo]; omega
        go_wp2
        exact ⟨⟨2, by omega, by omega, rfl, int_eq (by simp only [mnTo]; omega)⟩, by simp [intOf]⟩
      · have u1 : ¬ (l1.length : Int) < (mnTo l0.length l1.length l2.length 1 : Nat) := by simp only [mnTo]; omega
        go_wp2
        exact ⟨⟨2, by omega, by omega, rfl, int_eq (by simp only [mnTo]; omega)⟩, by simp [intOf]⟩
    · by_cases e2 : k = 2
      · subst e2
        by_cases hlt : l2.length < min l0.length l1.length
        · have u1 : (l2.length : Int) < (mnTo l0.length l1.length l2.length 2 : Nat) := by simp only [mnTo]; omega
          go_wp2
          exact ⟨⟨3, by omega, by omega, rfl, int_eq (by simp only [mnTo]; omega)⟩, by simp [intOf]⟩
        · have u1 : ¬ (l2.length : Int) < (mnTo l0.length l1.length l2.length 2 : Nat) := by simp only [mnTo]; omega
          go_wp2
          exact ⟨⟨3, by omega, by omega, rfl, int_eq (by simp only [mnTo]; omega)⟩, by simp [intOf]⟩
      · obtain rfl : k = 3 := by omega
        have m0 : mnTo l0.length l1.length l2.length 3 ≤ l0.length := by simp only [mnTo]; omega
        have m1 : mnTo l0.length l1.length l2.length 3 ≤ l1.length := by simp only [mnTo]; omega
        have m2 : mnTo l0.length l1.length l2.length 3 ≤ l2.length := by simp only [mnTo]; omega
        clear e1 e2 hk1 hk3
        generalize mnTo l0.length l1.length l2.length 3 = n at *
        go_wp2
        go_loopw [5, 6] (fun v i wr => ∃ k : Nat, k ≤ n ∧ i = .int .i64 k ∧ wr.ownsRow W0.heap.size 5 1 v k (nums .u8 (xr l0 l1 l2 k)) ∧ Below W0.heap.size W0 wr) (fun _ i _ => n - (intOf i).toNat)
        case atStart => exact ⟨0, by omega, rfl, own_lit W0 W0.heap.size 5 .u8 [] (Nat.le_refl _) (by decide), (Below.refl _ _).alloc (Nat.le_refl _) _⟩
        case round =>
          obtain ⟨k, hk, rfl, hown, hB⟩ := hrel
          have y0 := pw_cell_below hB x0
          have y1 := pw_cell_below hB x1
          have y2 := pw_cell_below hB x2
          by_cases hlt : k < n
          · obtain ⟨a0, rfl, v0, p0, q0⟩ := (H0.out.below B0.out).at_ k (by omega)
            obtain ⟨a1, rfl, v1, p1, q1⟩ := (H1.out.below B0.out).at_ k (by omega)
            obtain ⟨a2, rfl, v2, p2, q2⟩ := (H2.out.below B0.out).at_ k (by omega)
            have i0 : (0 : Int) ≤ (k : Int) := by omega
            have i1 : (k : Int) < (l0.length : Int) := by omega
            have i2 : (k : Int) < (l1.length : Int) := by omega
            have i3 : (k : Int) < (l2.length : Int) := by omega
            obtain ⟨i5, hi, hz0, hz1, hz2⟩ := info_parts info5
            have HI := Aside0.mk hi
            have HZ := Aside0.mk (And.intro hz0 (And.intro hz1 hz2))
            have HO := Aside0.mk hown
            have HB := Aside0.mk hB
            have z0 := pw_cell_below hB v0
            have z1 := pw_cell_below hB v1
            have z2 := pw_cell_below hB v2
            have L0 : w.heap.size < W0.heap.size := World.block_lt_of_cell? W0 _ x0
            have L1 := World.block_lt_of_cell? W0 _ v0
            have L2 := World.block_lt_of_cell? W0 _ v1
            have L3 := World.block_lt_of_cell? W0 _ v2
            clear hi hz0 hz1 hz2 hown hB x0 x1 x2 v0 v1 v2
            go_wp2
            go_region_held3 (fun w' => w'.cell? ⟨w.heap.size, 0, none⟩ = some (.slice (some a0) l0.length c0) ∧ w'.cell? ⟨w.heap.size, 1, none⟩ = some (.slice (some a1) l1.length c1) ∧ w'.cell? ⟨w.heap.size, 2, none⟩ = some (.slice (some a2) l2.length c2) ∧
                w'.cell? (a0.add k) = some (.int .u8 (rd l0 k)) ∧ w'.cell? (a1.add k) = some (.int .u8 (rd l1 k)) ∧ w'.cell? (a2.add k) = some (.int .u8 (rd l2 k)))
              (first | go_keep | (exact ⟨pw_cell_grown hgrow y0 L0 HO.out, pw_cell_grown hgrow y1 L0 HO.out, pw_cell_grown hgrow y2 L0 HO.out, pw_cell_grown hgrow z0 L1 HO.out, pw_cell_grown hgrow z1 L2 HO.out, pw_cell_grown hgrow z2 L3 HO.out⟩))
              ((refine step_append_lies _ (by rfl) _ _ _ (by rfl) W0.heap.size 5 i5 (.int .u8 0) 1 1 Try.underlying22 HI.out HZ.out.1 HZ.out.2.1 HZ.out.2.2 rfl (by omega) u5 k (nums .u8 (xr l0 l1 l2 k)) (by rfl) ((HO.out.alloc _).drew)
                    ⟨wr.heap.size, 0, none⟩ 1 1 [.int .u8 (bits .xor .u8 (bits .xor .u8 (rd l0 k) (rd l1 k)) (rd l2 k))] (by rfl) (by rfl) (World.news_of_block (cs := #[.int .u8 (bits .xor .u8 (bits .xor .u8 (rd l0 k) (rd l1 k)) (rd l2 k))]) (t := 5) (fr := (0, 0)) (heap_alloc_new wr _)) (by simp [Value.oneCell'])
                    (by omega) (by unfold maxLen; omega) (by omega) (by have := HB.out.size; simp; omega) (wr.heap.size + 1) (by simp) ?_; intro gg cap w1 hown1 hgrow hat hlt1))
            have e1 : bits .xor .u8 (bits .xor .u8 (rd l0 k) (rd l1 k)) (rd l2 k) = x3 l0 l1 l2 k := bits_x3 l0 l1 l2 k p0 q0 p1 q1 p2 q2
            rw [e1] at hown1
            have hown2 : w1.ownsRow W0.heap.size 5 1 (.slice (some ⟨gg, 0, none⟩) (k + 1) cap) (k + 1) (nums .u8 (xr l0 l1 l2 (k + 1))) := by rw [xr_succ]; simpa [nums] using hown1
            have hB2 : Below W0.heap.size W0 w1 := (((HB.out.alloc HB.out.size _).drew).grown hgrow (by have := HB.out.size; simp; omega) (fun j hj => own_base HO.out j hj))
            clear e1 hown1 hgrow hat hlt1
            have HO2 := Aside0.mk hown2
            have HB2 := Aside0.mk hB2
            clear hown2 hB2
            go_wp2
            go_roundw
            case rel => exact ⟨k + 1, by omega, by go_num, by simpa using HO2.out, HB2.out⟩
            case measure => simp [intOf]; omega
          · obtain rfl : k = n := by omega
            obtain ⟨Ax, cx, rfl⟩ := own_slice hown
            have hx : Bs wr Ax cx (xr l0 l1 l2 k) := by
              have hl := xr_len l0 l1 l2 k
              exact ⟨by rw [hl]; exact own_reads' hown, by rw [hl]; exact own_cap hown, xr_byte H0.out.byte H1.out.byte H2.out.byte m0 m1 m2⟩
            have HX := Aside0.mk hx
            have HB := Aside0.mk hB
            obtain ⟨cut0, r0⟩ := take_cut A0 c0 k l0 m0 H0.out.cap
            obtain ⟨cut1, r1⟩ := take_cut A1 c1 k l1 m1 H1.out.cap
            obtain ⟨cut2, r2⟩ := take_cut A2 c2 k l2 m2 H2.out.cap
            have B := Aside0.mk (below_step B0.out hB)
            have T0 := Aside0.mk (r0 wr (H0.out.below B.out))
            have T1 := Aside0.mk (r1 wr (H1.out.below B.out))
            have T2 := Aside0.mk (r2 wr (H2.out.below B.out))
            have L0 : w.heap.size < wr.heap.size := World.block_lt_of_cell? wr _ y0
            have hs := sum_xr l0 l1 l2 k m0 m1 m2
            have g0 := sum_lt T0.out.byte
            have g1 := sum_lt T1.out.byte
            have g2 := sum_lt T2.out.byte
            have he : (((Pl.sum (xr l0 l1 l2 k) : Nat) : Int) == bits .xor .u32 (bits .xor .u32 (Pl.sum (l0.take k) : Nat) (Pl.sum (l1.take k) : Nat)) (Pl.sum (l2.take k) : Nat)) = true := by
              rw [u32_xor_nat _ _ g0 g1, u32_xor_nat _ _ (Nat.xor_lt_two_pow (n := 32) g0 g1) g2, hs]
              simp
            have XL := Aside0.mk (xr_len l0 l1 l2 k)
            have TL0 := Aside0.mk (show (l0.take k).length = k by simp; omega)
            have TL1 := Aside0.mk (show (l1.take k).length = k by simp; omega)
            have TL2 := Aside0.mk (show (l2.take k).length = k by simp; omega)
            clear hown hx hB r0 r1 r2 hs g0 g1 g2 x0 x1 x2
            generalize l0.take k = d0 at *
            generalize l1.take k = d1 at *
            generalize l2.take k = d2 at *
            generalize xr l0 l1 l2 k = dx at *
            go_wp2
            go_region_held3 (fun w' => w'.cell? ⟨w.heap.size, 0, none⟩ = some (.slice A0 l0.length c0) ∧ w'.cell? ⟨w.heap.size, 1, none⟩ = some (.slice A1 l1.length c1) ∧ w'.cell? ⟨w.heap.size, 2, none⟩ = some (.slice A2 l2.length c2))
              (first | go_keep | exact ⟨cb b1 y0, cb b1 y1, cb b1 y2⟩ | exact ⟨cb b2 y0, cb b2 y1, cb b2 y2⟩ | exact ⟨cb b3 y0, cb b3 y1, cb b3 y2⟩ | exact ⟨cb b4 y0, cb b4 y1, cb b4 y2⟩ | exact ⟨cb b5 y0, cb b5 y1, cb b5 y2⟩)
              (first
                | (go_at_call_of 9 (Value.slice Ax k cx); refine (sum_calls_n Ax k cx dx XL.out _ (by exact HX.out.drew)).mono ?_; rintro e w1 ⟨rfl, q1⟩; have b1 := nodrew q1)
                | (go_at_call_of 9 (Value.slice A0 k c0); refine (sum_calls_n A0 k c0 d0 TL0.out _ (by exact T0.out.below b1)).mono ?_; rintro e w2 ⟨rfl, q2⟩; have b2 := below_step b1 q2)
                | (go_at_call_of 9 (Value.slice A1 k c1); refine (sum_calls_n A1 k c1 d1 TL1.out _ (by exact T1.out.below b2)).mono ?_; rintro e w3 ⟨rfl, q3⟩; have b3 := below_step b2 q3)
                | (go_at_call_of 9 (Value.slice A2 k c2); refine (sum_calls_n A2 k c2 d2 TL2.out _ (by exact T2.out.below b3)).mono ?_; rintro e w4 ⟨rfl, q4⟩; have b4 := below_step b3 q4)
                | (go_at_call 8; refine (awake_calls _).mono ?_; rintro e w5 ⟨rfl, q5⟩; have b5 := below_step b4 q5))
            go_wp2
            go_ret
            exact ⟨rfl, below_step B.out b5⟩

set_option maxHeartbeats 1000000 in
theorem xors_long (A0 : Option Addr) (c0 : Nat) (l0 : List Int) (A1 : Option Addr) (c1 : Nat) (l1 : List Int) (A2 : Option Addr) (c2 : Nat) (l2 : List Int) (w : World)
    (h : 300 < l0.length ∨ 300 < l1.length ∨ 300 < l2.length) :
    Calls Try.prog 3 #[.agg #[.slice A0 l0.length c0, .slice A1 l1.length c1, .slice A2 l2.length c2]] w fun e w' => e = .returned (.bool true) ∧ Below w.heap.size w w' := by
  by_cases s0 : 300 < l0.length
  · have t0 : (300 : Int) < (l0.length : Int) := by omega
    go_enter Try.func3, Try.ntmps3
    go_wp2_with fail
    refine (awake_calls _).mono ?_
    rintro e w1 ⟨rfl, b1⟩
    go_wp2
    go_ret
    exact ⟨rfl, below_step ((Below.refl _ _).alloc (Nat.le_refl _) _) b1⟩
  · by_cases s1 : 300 < l1.length
    · have t0 : ¬ (300 : Int) < (l0.length : Int) := by omega
      have t1 : (300 : Int) < (l1.length : Int) := by omega
      go_enter Try.func3, Try.ntmps3
      go_wp2_with fail
      refine (awake_calls _).mono ?_
      rintro e w1 ⟨rfl, b1⟩
      go_wp2
      go_ret
      exact ⟨rfl, below_step ((Below.refl _ _).alloc (Nat.le_refl _) _) b1⟩
    · have t0 : ¬ (300 : Int) < (l0.length : Int) := by omega
      have t1 : ¬ (300 : Int) < (l1.length : Int) := by omega
      have t2 : (300 : Int) < (l2.length : Int) := by omega
      go_enter Try.func3, Try.ntmps3
      go_wp2_with fail
      refine (awake_calls _).mono ?_
      rintro e w1 ⟨rfl, b1⟩
      go_wp2
      go_ret
      exact ⟨rfl, below_step ((Below.refl _ _).alloc (Nat.le_refl _) _) b1⟩

theorem xors_calls (A0 : Option Addr) (c0 : Nat) (l0 : List Int) (A1 : Option Addr) (c1 : Nat) (l1 : List Int) (A2 : Option Addr) (c2 : Nat) (l2 : List Int) (w : World)
    (h0 : Bs w A0 c0 l0) (h1 : Bs w A1 c1 l1) (h2 : Bs w A2 c2 l2) :
    Calls Try.prog 3 #[.agg #[.slice A0 l0.length c0, .slice A1 l1.length c1, .slice A2 l2.length c2]] w fun e w' => e = .returned (.bool true) ∧ Below w.heap.size w w' := by
  by_cases s0 : 300 < l0.length
  · exact xors_long A0 c0 l0 A1 c1 l1 A2 c2 l2 w (.inl s0)
  · by_cases s1 : 300 < l1.length
    · exact xors_long A0 c0 l0 A1 c1 l1 A2 c2 l2 w (.inr (.inl s1))
    · by_cases s2 : 300 < l2.length
      · exact xors_long A0 c0 l0 A1 c1 l1 A2 c2 l2 w (.inr (.inr s2))
      · exact xors_main A0 c0 l0 A1 c1 l1 A2 c2 l2 w h0 h1 h2 (by omega) (by omega) (by omega)
end Go.Proofs.Ytodpgcakciaefaa
