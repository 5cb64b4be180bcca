/-
  The walks of the document's answers: Sum, Seal, Open.
-/
import Derived.Test.YtodpgcakciaefaaA5
namespace Go.Proofs.Ytodpgcakciaefaa
open Go.RowKit Go.Proofs.YtodpgcakciaefaaW.PrintWords

theorem int_eq' {k : IntKind} {a b : Int} (h : a = b) : Value.int k a = .int k b := by rw [h]
theorem one_odd (x : Nat) (h : x < 4294967296) (ho : x % 2 = 1) : bits BinOp.xor IntKind.u32 ((x : Int) / 2) 3988292384 = ((Pl.one x : Nat) : Int) := by
  rw [show (x : Int) / 2 = ((x / 2 : Nat) : Int) from by omega, show (3988292384 : Int) = ((3988292384 : Nat) : Int) from rfl, u32_xor_nat _ _ (by omega) (by omega)]
  unfold Pl.one
  rw [ho]
theorem one_even (x : Nat) (he : x % 2 = 0) : (x : Int) / 2 = ((Pl.one x : Nat) : Int) := by
  unfold Pl.one
  rw [he]
  simp

set_option maxHeartbeats 1000000 in
theorem refsum_calls (A : Option Addr) (c : Nat) (l : List Int) (w : World) (h : Bs w A c l) :
    Calls Try.prog 12 #[.slice A l.length c] w fun e w' => e = .returned (.int .u32 (Pl.sum l : Nat)) ∧ w = w' := by
  have hlen : (l.length : Int) ≤ 9223372036854775807 := by have := h.reads.2.1; omega
  have H := Aside0.mk h
  clear h
  go_enter Try.func12, Try.ntmps12
  go_wp2
  go_loop [3, 4] (fun x i => ∃ k : Nat, k ≤ l.length ∧ i = .int .i64 k ∧ x = .int .u32 (Pl.run 4294967295 (l.take k) : Nat)) (fun _ i => l.length - (intOf i).toNat)
  case atStart => exact ⟨0, by omega, rfl, rfl⟩
  case round =>
    obtain ⟨k, hk, rfl, rfl⟩ := hrel
    have hrl := Pl.run_lt (l := l.take k) (x := 4294967295) (by omega) (fun c hc => (H.out.byte c (List.mem_of_mem_take hc)).2)
    by_cases hlt : k < l.length
    · obtain ⟨ad, rfl, hcell, h0, h1⟩ := H.out.at_ k hlt
      have hts := Aside0.mk (show Pl.run 4294967295 (l.take (k + 1)) = Pl.byte (Pl.run 4294967295 (l.take k)) (rd l k).toNat by rw [take_rd l k hlt, Pl.run_snoc])
      have hxc : (Pl.run 4294967295 (l.take k)) ^^^ (rd l k).toNat < 4294967296 := Nat.xor_lt_two_pow (n := 32) hrl (by omega)
      have hx0 := Aside0.mk (show bits .xor .u32 (Pl.run 4294967295 (l.take k) : Nat) (rd l k) = ((Pl.run 4294967295 (l.take k)) ^^^ (rd l k).toNat : Nat) by
        rw [u32_xor _ _ (by omega) (by omega) h0 (by omega), Int.toNat_natCast])
      generalize Pl.run 4294967295 (l.take k) = x at *
      generalize rd l k = b at *
      go_wp2
      go_loop [3, 5] (fun x' j => ∃ q : Nat, q ≤ 8 ∧ j = .int .i64 q ∧ x' = .int .u32 (Pl.ones q (x ^^^ b.toNat) : Nat)) (fun _ j => 8 - (intOf j).toNat)
      case atStart => exact ⟨0, by omega, rfl, int_eq' hx0.out⟩
      case round =>
        obtain ⟨q, hq, rfl, rfl⟩ := hrel
        have hol := Pl.ones_lt hxc q
        have hos := Aside0.mk (show Pl.ones (q + 1) (x ^^^ b.toNat) = Pl.one (Pl.ones q (x ^^^ b.toNat)) from rfl)
        have hend := Aside0.mk (show Pl.ones 8 (x ^^^ b.toNat) = Pl.byte x b.toNat from rfl)
        generalize hy : Pl.ones q (x ^^^ b.toNat) = y at *
        have HY := Aside0.mk hy
        clear hy
        by_cases hq8 : q < 8
        · by_cases ho : y % 2 = 1
          · have hb : ((y : Int) % 2 == 1) = true := by rw [beq_iff_eq]; omega
            have HO := Aside0.mk ho
            clear ho
            go_wp2
            go_round
            case rel => exact ⟨q + 1, by omega, by go_num, int_eq' (by rw [hos.out]; exact one_odd y hol HO.out)⟩
            case measure => simp [intOf]; omega
          · have hb : ((y : Int) % 2 == 1) = false := by rw [beq_eq_false_iff_ne]; omega
            have HO := Aside0.mk ho
            clear ho
            go_wp2
            go_round
            case rel => exact ⟨q + 1, by omega, by go_num, int_eq' (by rw [hos.out]; exact one_even y (by have := HO.out; omega))⟩
            case measure => simp [intOf]; omega
        · go_wp2
          go_round
          case rel => exact ⟨k + 1, by omega, by go_num, int_eq' (by rw [hts.out, ← hend.out, ← HY.out, show q = 8 from by omega])⟩
          case measure => simp [intOf]; omega
    · obtain rfl : k = l.length := by omega
      rw [List.take_length] at hrl
      go_wp2
      go_ret
      refine ⟨ret_int ?_, rfl⟩
      rw [show (4294967295 : Int) = ((4294967295 : Nat) : Int) from rfl, u32_xor_nat _ _ hrl (by omega)]
      rfl

theorem tl_take (s k : Nat) (hk : k < 4) : (tl s).take (k + 1) = (tl s).take k ++ [((s / 256 ^ k % 256 : Nat) : Int)] := by
  have h : k = 0 ∨ k = 1 ∨ k = 2 ∨ k = 3 := by omega
  rcases h with rfl | rfl | rfl | rfl <;> simp [tl]

theorem refsum_n (A : Option Addr) (n c : Nat) (l : List Int) (hn : l.length = n) (w : World) (h : Bs w A c l) :
    Calls Try.prog 12 #[.slice A n c] w fun e w' => e = .returned (.int .u32 (Pl.sum l : Nat)) ∧ w = w' := by subst hn; exact refsum_calls A c l w h

set_option maxHeartbeats 1000000 in
theorem refseal_calls (A : Option Addr) (n c : Nat) (l : List Int) (hn : l.length = n) (w : World) (h : Bs w A c l) (hl : l.length ≤ 140737488350000) :
    Calls Try.prog 15 #[.slice A n c] w fun e w' => ∃ A' c', e = .returned (.slice A' (n + 4) c') ∧ Own w' w.heap.size A' c' (sealed l) ∧ Below w.heap.size w w' := by
  have H := Aside0.mk h
  have HN := Aside0.mk hn
  have hnn : n ≤ 140737488350000 := by omega
  clear h hn hl
  go_enter Try.func15, Try.ntmps15
  go_wp2_with fail
  refine (refsum_n A n c l HN.out w H.out).mono ?_
  rintro e w1 ⟨rfl, rfl⟩
  go_wp2_with (at_builtin; refine print_append_row (w0 := w) w.heap.size rfl _ _ 22 5 .u8 1 rfl Try.underlying22 info5 (by decide) _ [] l A n c rfl rfl ?c1 ?c2 ?c3 ?c4 ?c5 ?_)
  case c1 => exact own_lit w w.heap.size 5 .u8 [] (Nat.le_refl _) (by decide)
  case c2 => rw [← HN.out]; exact H.out.reads.allocS _
  case c3 => exact (Below.refl _ _).alloc (Nat.le_refl _) _
  case c4 => simp
  case c5 => simp; omega
  intro v1 w1 hown hB _ _
  have hs := sum_lt H.out.byte
  have HS := Aside0.mk (show ∀ x ∈ sealed l, 0 ≤ x ∧ x < 256 from sealed_byte H.out.byte)
  have HE := Aside0.mk (show sealed l = l ++ tl (Pl.sum l) from rfl)
  have hown := Aside0.mk hown
  generalize Pl.sum l = s at *
  go_wp2
  go_loopw [3, 4, 5] (fun x v i wr => ∃ k : Nat, k ≤ 4 ∧ i = .int .i64 k ∧ x = .int .u32 (s / 256 ^ k : Nat) ∧ Aside0 (wr.ownsRow w.heap.size 5 1 v (l ++ (tl s).take k).length (nums .u8 (l ++ (tl s).take k))) ∧ Below w.heap.size w wr)
    (fun _ _ i _ => 4 - (intOf i).toNat)
  case atStart => exact ⟨0, by omega, rfl, by simp, ⟨by simpa using hown.out⟩, hB⟩
  case round =>
    obtain ⟨k, hk, rfl, rfl, hown, hB⟩ := hrel
    have hll : (l ++ (tl s).take k).length ≤ n + 4 := by have := HN.out; simp [tl]; omega
    have HLL := Aside0.mk hll
    have hd : s / 256 ^ k < 4294967296 := Nat.lt_of_le_of_lt (Nat.div_le_self _ _) hs
    have hnx := Aside0.mk (show s / 256 ^ (k + 1) = s / 256 ^ k / 256 by rw [Nat.pow_succ, Nat.div_div_eq_div_mul])
    by_cases hlt : k < 4
    · have htk := Aside0.mk (show l ++ (tl s).take (k + 1) = (l ++ (tl s).take k) ++ [((s / 256 ^ k : Nat) : Int) % 256] by rw [tl_take s k hlt, List.append_assoc, Int.natCast_emod]; rfl)
      generalize s / 256 ^ k = d at *
      generalize l ++ (tl s).take k = r at *
      go_wp2_with (at_builtin; refine print_append_num (w0 := w) w.heap.size rfl _ _ 22 5 .u8 1 rfl Try.underlying22 info5 (by decide) _ r ((d : Int) % 256) rfl rfl ?d1 ?d2 ?d3 ?d4 ?_)
      case d1 => exact hown.out
      case d2 => exact hB
      case d3 => exact hB.size
      case d4 => have := HLL.out; omega
      intro v2 w2 hown2 hB2 _ _
      have hown2 := Aside0.mk hown2
      go_wp2
      go_roundw
      case rel => exact ⟨k + 1, by omega, by go_num, int_eq' (by rw [hnx.out]; omega), ⟨by rw [htk.out]; simpa using hown2.out⟩, hB2⟩
      case measure => simp [intOf]; omega
    · obtain rfl : k = 4 := by omega
      have h2 : w.heap.size ≤ wr.heap.size := hB.size
      have hown2 := hown.out
      rw [show (tl s).take 4 = tl s from rfl, ← HE.out] at hown2
      have hl4 : (sealed l).length = n + 4 := by rw [sealed_len, HN.out]
      rw [hl4] at hown2
      obtain ⟨A', c', rfl⟩ := own_slice hown2
      have hown2 := Aside0.mk hown2
      have HL4 := Aside0.mk hl4
      clear hl4
      go_wp2
      go_ret
      exact ⟨A', c', rfl, ⟨by rw [HL4.out]; exact hown2.out, HS.out⟩, hB⟩

end Go.Proofs.Ytodpgcakciaefaa
