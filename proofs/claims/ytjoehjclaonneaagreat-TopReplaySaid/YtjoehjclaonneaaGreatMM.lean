/- A part of the proof of TopReplay (no condition of its own). -/
import Derived.Laws.BitsAllLaws
import Derived.Lib.Tables
import Derived.Lib.BitFns
import Derived.BigQuiet
import Derived.Deep.RegionHeld3
import Derived.Deep.QuietTactic
import Derived.Test.YtjoehjclaonneaaGreatMK
import Derived.Test.YtjoehjclaonneaaGreatMD
namespace Go.Proofs.YtjoehjclaonneaaGreat
open Go.RowKit Go.Proofs.YtjoehjclaonneaaGreatW.PrintWords
set_option maxHeartbeats 8000000
set_option linter.unusedVariables false
set_option linter.unusedSimpArgs false
namespace Vr.Pl
def put (n : Nat) : List Int := if n < 128 then [(n : Int)] else ((n % 128 + 128 : Nat) : Int) :: put (n / 128)
 termination_by n
 decreasing_by omega
def getFrom : List Int -> Nat -> Nat -> Nat × Nat × Int
 | [], _, _ => (0, 0, 13)
 | x :: r, i, n => if i = 9 /\ 1 < x then (0, 0, 10) else if x = 0 /\ 0 < i then (0, 0, 11) else
     if x < 128 then (n + x.toNat % 128 * 128 ^ i, i + 1, 0) else getFrom r (i + 1) (n + x.toNat % 128 * 128 ^ i)
def get (l : List Int) : Nat × Nat × Int := getFrom l 0 0
def allFrom : Nat -> List Int -> Nat -> List Int -> List Int × Nat × Int
 | 0, _, _, out => (out, 0, 0)
 | f + 1, l, at_, out => if l = [] then (out, 0, 0) else if (get l).2.2 = 0 then allFrom f (l.drop (get l).2.1) (at_ + (get l).2.1) (out ++ [((get l).1 : Int)]) else ([], at_, (get l).2.2)
def all (l : List Int) : List Int × Nat × Int := allFrom (l.length + 1) l 0 []
end Vr.Pl
namespace Vr
theorem and127 (x : Int) (h0 : 0 <= x) (h1 : x < 256) : bits .and .u8 x 127 = ((x.toNat % 128 : Nat) : Int) := by
 rw [u8_and x 127 h0 h1 (by omega) (by omega)]
 have : x.toNat &&& (127 : Int).toNat = x.toNat % 128 := Nat.and_two_pow_sub_one_eq_mod x.toNat 7
 rw [this]
theorem pow128 (j : Nat) : (2 : Int) ^ (7 * j) = ((128 ^ j : Nat) : Int) := by
 rw [Int.natCast_pow, Int.pow_mul]
 rfl
theorem pow_le9 (j : Nat) (h : j <= 9) : 128 ^ j <= 9223372036854775808 := by
 have : (128 : Nat) ^ j <= 128 ^ 9 := Nat.pow_le_pow_right (by omega) h
 have e : (128 : Nat) ^ 9 = 9223372036854775808 := by decide
 omega
theorem pow_le8 (j : Nat) (h : j <= 8) : 128 ^ j <= 72057594037927936 := by
 have : (128 : Nat) ^ j <= 128 ^ 8 := Nat.pow_le_pow_right (by omega) h
 have e : (128 : Nat) ^ 8 = 72057594037927936 := by decide
 omega
theorem seven_lt (m j : Nat) (x : Int) (hm : m < 128 ^ j) (hj : j <= 9) (h9 : j = 9 -> x <= 1) (h0 : 0 <= x) : x.toNat % 128 * 128 ^ j <= 9223372036854775808 /\ m + x.toNat % 128 * 128 ^ j < 128 ^ (j + 1) /\ m + x.toNat % 128 * 128 ^ j < 18446744073709551616 := by
 have hp := pow_le9 j hj
 have hy : x.toNat % 128 <= 127 := by omega
 have e1 : 128 ^ (j + 1) = 128 * 128 ^ j := by rw [Nat.pow_succ, Nat.mul_comm]
 have e2 : x.toNat % 128 * 128 ^ j <= 127 * 128 ^ j := Nat.mul_le_mul_right _ hy
 rw [e1]
 by_cases h : j = 9
 · have hx : x.toNat % 128 <= 1 := by have := h9 h; omega
   have e3 : x.toNat % 128 * 128 ^ j <= 1 * 128 ^ j := Nat.mul_le_mul_right _ hx
   generalize 128 ^ j = p at *
   generalize x.toNat % 128 * p = y at *
   omega
 · have hp8 := pow_le8 j (by omega)
   generalize 128 ^ j = p at *
   generalize x.toNat % 128 * p = y at *
   omega
theorem or_add (m j y : Nat) (hm : m < 128 ^ j) : m ||| y * 128 ^ j = m + y * 128 ^ j := by
 have e : (128 : Nat) ^ j = 2 ^ (7 * j) := by rw [Nat.pow_mul]
 rw [e] at hm ⊢
 have := Nat.two_pow_add_eq_or_of_lt hm y
 rw [Nat.mul_comm y, Nat.or_comm, <- this, Nat.add_comm]
theorem or_val (m j : Nat) (x : Int) (hm : m < 128 ^ j) (hj : j <= 9) (h9 : j = 9 -> x <= 1) (h0 : 0 <= x) (h1 : x < 256) :
   bits .or .u64 (m : Int) (IntKind.u64.wrap (IntKind.u64.wrap (bits .and .u8 x 127) * 2 ^ (7 * j))) = ((m + x.toNat % 128 * 128 ^ j : Nat) : Int) := by
 obtain ⟨s1, s2, s3⟩ := seven_lt m j x hm hj h9 h0
 have w : ∀ n : Nat, n < 18446744073709551616 -> IntKind.u64.wrap (n : Int) = (n : Int) := by
   intro n hn
   simp [IntKind.wrap, IntKind.bits, IntKind.signed]
   omega
 rw [and127 x h0 h1, w _ (by omega), pow128, <- Int.natCast_mul, w _ (by omega), u64_or_nat _ _ (by omega) (by omega), or_add m j _ hm]
theorem put_small {n : Nat} (h : n < 128) : Pl.put n = [(n : Int)] := by rw [Pl.put, if_pos h]
theorem put_big {n : Nat} (h : ¬ n < 128) : Pl.put n = ((n % 128 + 128 : Nat) : Int) :: Pl.put (n / 128) := by rw [Pl.put, if_neg h]
theorem put_le : ∀ (k n : Nat), n < 128 ^ (k + 1) -> (Pl.put n).length <= k + 1
 | 0, n, h => by rw [put_small (by simpa using h)]; simp
 | k + 1, n, h => by
   by_cases hn : n < 128
   · rw [put_small hn]; simp
   · rw [put_big hn]
     have := put_le k (n / 128) (by rw [Nat.pow_succ] at h; omega)
     simp
     omega
theorem put_ten {n : Nat} (h : n < 18446744073709551616) : (Pl.put n).length <= 10 := by
 have e : (128 : Nat) ^ 10 = 1180591620717411303424 := by decide
 exact put_le 9 n (by omega)
theorem put_byte : ∀ (f n : Nat), n < f -> ∀ x ∈ Pl.put n, 0 <= x /\ x < 256
 | 0, _, h => by omega
 | f + 1, n, h => by
   by_cases hn : n < 128
   · rw [put_small hn]
     intro x hx
     simp at hx
     omega
   · rw [put_big hn]
     intro x hx
     rcases List.mem_cons.1 hx with rfl | hx
     · omega
     · exact put_byte f (n / 128) (by omega) x hx
theorem put_rng (n : Nat) : ∀ x ∈ Pl.put n, 0 <= x /\ x < 256 := put_byte (n + 1) n (by omega)
theorem wrap64_nat (n : Nat) (h : n < 18446744073709551616) : IntKind.u64.wrap (n : Int) = (n : Int) := by
 rw [IntKind.wrap_u64]
 omega
theorem or128_all : ∀ x : Fin 256, x.val ||| 128 = x.val % 128 + 128 := by decide +kernel
theorem or128 (m : Nat) : bits .or .u8 ((m : Int) % 256) 128 = ((m % 128 + 128 : Nat) : Int) := by
 rw [show (m : Int) % 256 = ((m % 256 : Nat) : Int) by omega, u8_or _ _ (by omega) (by omega) (by omega) (by omega)]
 have h := or128_all ⟨m % 256, by omega⟩
 simp only [Int.toNat_natCast] at h ⊢
 rw [show (128 : Int).toNat = 128 from rfl, h]
 omega
end Vr
namespace Vr.Pl
theorem put_lt {n : Nat} (h : n < 128) : put n = [(n : Int)] := by rw [put, if_pos h]
theorem put_ge {n : Nat} (h : ¬ n < 128) : put n = ((n % 128 + 128 : Nat) : Int) :: put (n / 128) := by rw [put, if_neg h]
theorem put_one (n : Nat) : 0 < (put n).length := by
 by_cases h : n < 128
 · simp [put_lt h]
 · simp [put_ge h]
theorem p9 : (128 : Nat) ^ 9 = 9223372036854775808 := by decide
theorem getFrom_put : ∀ (f m i n : Nat) (r : List Int), m < f -> i <= 9 -> (0 < i -> 0 < m) -> n + m * 128 ^ i < 18446744073709551616 ->
   getFrom (put m ++ r) i n = (n + m * 128 ^ i, i + (put m).length, 0)
 | 0, _, _, _, _, h, _, _, _ => by omega
 | f + 1, m, i, n, r, h, h9, hp, hlt => by
   by_cases c : m < 128
   · rw [put_lt c]
     simp only [List.cons_append, List.nil_append, List.length_singleton]
     have e9 : ¬ (i = 9 /\ (1 : Int) < (m : Int)) := by
       rintro ⟨rfl, h1⟩
       rw [p9] at hlt
       omega
     have e0 : ¬ ((m : Int) = 0 /\ 0 < i) := by
       rintro ⟨h1, h2⟩
       have := hp h2
       omega
     rw [getFrom, if_neg e9, if_neg e0, if_pos (by omega), Int.toNat_natCast, Nat.mod_eq_of_lt c]
   · have e9 : ¬ (i = 9 /\ (1 : Int) < ((m % 128 + 128 : Nat) : Int)) := by
       rintro ⟨rfl, h1⟩
       rw [p9] at hlt
       omega
     rw [put_ge c]
     simp only [List.cons_append, List.length_cons]
     have e8 : i + 1 <= 9 := by
       rcases Nat.lt_or_ge i 9 with h | h
       · omega
       · exact absurd ⟨by omega, by omega⟩ e9
     have e : (m % 128 + 128) % 128 = m % 128 := by omega
     have em : m % 128 * 128 ^ i + m / 128 * 128 ^ (i + 1) = m * 128 ^ i := by
       rw [Nat.pow_succ, Nat.mul_comm (128 ^ i) 128, <- Nat.mul_assoc, <- Nat.add_mul, show m % 128 + m / 128 * 128 = m by omega]
     rw [getFrom, if_neg e9, if_neg (by omega), if_neg (by omega), Int.toNat_natCast, e,
       getFrom_put f (m / 128) (i + 1) (n + m % 128 * 128 ^ i) r (by omega) e8 (fun _ => by omega) (by omega)]
     rw [Nat.add_assoc, em]
     simp only [Prod.mk.injEq, and_true, true_and]
     omega
theorem get_put (n : Nat) (h : n < 18446744073709551616) (r : List Int) : get (put n ++ r) = (n, (put n).length, 0) := by
 unfold get
 rw [getFrom_put (n + 1) n 0 0 r (by omega) (by omega) (by omega) (by simpa using h)]
 simp
def row : List Nat -> List Int
 | [] => []
 | n :: r => put n ++ row r
theorem row_snoc : ∀ (l : List Nat) (n : Nat), row (l ++ [n]) = row l ++ put n
 | [], n => by simp [row]
 | m :: l, n => by rw [List.cons_append, row, row_snoc l n, row, List.append_assoc]
end Vr.Pl
theorem Rd.byte {w : World} {A : Option Addr} {c : Nat} {l : List Int} (h : Rd By w A c l) {j : Nat} {x : Int} (hj : l[j]? = some x) : ∃ g o, A = some ⟨g, o, none⟩ /\ w.cell? ⟨g, o + j, none⟩ = some (.int .u8 x) := by
 obtain ⟨g, o, e, hc⟩ := h.cells hj
 refine ⟨g, o, e, ?_⟩
 have := hc 0 (.int .u8 x) rfl
 rwa [show o + j * By.sz + 0 = o + j by simp [By]] at this
theorem Ow.made {α : Type} (E : El α) (W : World) (cs : Array Value) (c : Nat) (h : c * E.sz <= cs.size) (hm : c <= maxLen) : Ow E (W.alloc (.cells cs E.t)) W.heap.size (some W.heap.size) (some ⟨W.heap.size, 0, none⟩) c [] :=
 ⟨.inr ⟨_, cs, rfl, rfl, Nat.le_refl _, heap_alloc_new W _, Nat.zero_le _, h, hm, by simp [El.flat]⟩⟩
theorem make10 (W : World) : (Instr.makeSlice 64 (.int .i64 0) (.int .i64 10)).run Tryz.prog W = .ok (.slice (some ⟨W.heap.size, 0, none⟩) 0 10) (W.alloc (.cells #[.int .u8 0, .int .u8 0, .int .u8 0, .int .u8 0, .int .u8 0, .int .u8 0, .int .u8 0, .int .u8 0, .int .u8 0, .int .u8 0] 5)) := by
 obtain ⟨i0, hi, hz⟩ := Option.map_eq_some_iff.1 By.info
 simp only [Prod.mk.injEq] at hz
 obtain ⟨hz0, hz1, hz2⟩ := hz
 have hr := run_make (P := Tryz.prog) W 64 5 i0 (.int .u8 0) Tryz.underlying64 hi hz0 .i64 .i64 0 10 (by omega) (by omega) (by rw [hz2]; decide) (by decide)
 rw [hz1] at hr
 exact hr.trans (by kernel_rfl)
namespace Vr
theorem get_calls (A : Option Addr) (c n : Nat) (l : List Int) (hn : l.length = n) (hb : ∀ x ∈ l, 0 <= x /\ x < 256) (w : World) (h : Rd By w A c l) :
   Calls Tryz.prog 73 #[.slice A n c] w fun e w' => e = .returned (.tuple #[.int .u64 ((Pl.get l).1 : Nat), .int .i64 ((Pl.get l).2.1 : Nat), .int .i64 (Pl.get l).2.2]) /\ w = w' := by
 have hlen := h.len63 hn
 subst hn
 have H := Ad h
 have HB := Ad hb
 clear h hb
 go_enter Tryz.func73, Tryz.ntmps73
 go_wp2
 go_step3
 go_wp2
 go_step3
 go_wp2
 go_loop [5, 6, 7, 12] (fun n e k i => ∃ j m : Nat, j <= l.length /\ j <= 9 /\ i = .int .i64 j /\ n = .int .u64 m /\ e = .int .i64 13 /\ k = .int .i64 0 /\ Aside0 (m < 128 ^ j /\ Pl.get l = Pl.getFrom (l.drop j) j m)) (fun _ _ _ i => l.length - (intOf i).toNat)
 case atStart => exact ⟨0, 0, by omega, by omega, rfl, rfl, rfl, rfl, ⟨by decide, rfl⟩⟩
 case round =>
   obtain ⟨j, m, hj, hj9, rfl, rfl, rfl, rfl, HM⟩ := hrel
   by_cases hlt : j < l.length
   · obtain ⟨x, hx⟩ : ∃ x, l[j]? = some x := ⟨_, List.getElem?_eq_getElem hlt⟩
     obtain ⟨g0, o0, rfl, hc⟩ := H.out.byte hx
     obtain ⟨h0, h1⟩ := HB.out x (List.mem_of_getElem? hx)
     have HD := Ad (show l.drop j = x :: l.drop (j + 1) by rw [List.drop_eq_getElem_cons hlt, (List.getElem?_eq_some_iff.1 hx).2])
     clear hx
     have HS := Ad (fun h9 => seven_lt m j x HM.out.1 hj9 h9 h0)
     have HV := Ad (fun h9 => or_val m j x HM.out.1 hj9 h9 h0 h1)
     by_cases c1 : j = 9
     · have t1 : ((j : Int) == 9) = true := by rw [beq_iff_eq]; omega
       have C1 := Ad c1
       clear c1
       by_cases c2 : 1 < x
       · have hg := Ad (show Pl.get l = (0, 0, 10) by rw [HM.out.2, HD.out, Pl.getFrom, if_pos ⟨C1.out, c2⟩])
         go_wp2
         go_ret3
         exact ⟨by rw [hg.out]; rfl, rfl⟩
       · by_cases c3 : x = 0
         · have hj1 : (0 : Int) < (j : Int) := by have := C1.out; omega
           have hg := Ad (show Pl.get l = (0, 0, 11) by rw [HM.out.2, HD.out, Pl.getFrom, if_neg (fun h => c2 h.2), if_pos ⟨c3, by omega⟩])
           have t2 : (x == 0) = true := by rw [beq_iff_eq]; exact c3
           have C3 := Ad c3
           clear c3
           go_wp2
           go_ret3
           exact ⟨by rw [hg.out]; rfl, rfl⟩
         · have t2 : (x == 0) = false := by rw [beq_eq_false_iff_ne]; exact c3
           have hx : x < 128 := by omega
           have hg := Ad (show Pl.get l = (m + x.toNat % 128 * 128 ^ j, j + 1, 0) by rw [HM.out.2, HD.out, Pl.getFrom, if_neg (fun h => c2 h.2), if_neg (fun h => c3 h.1), if_pos hx])
           have hv := Ad (HV.out (fun _ => by omega))
           have C3 := Ad c3
           clear c3
           go_wp2
           go_ret3
           refine ⟨?_, rfl⟩
           rw [hg.out]
           exact ret3_eq hv.out (by simp) rfl
     · have t1 : ((j : Int) == 9) = false := by rw [beq_eq_false_iff_ne]; omega
       have hv := Ad (HV.out (fun h => absurd h c1))
       have hs := Ad (HS.out (fun h => absurd h c1))
       have C1 := Ad c1
       clear c1
       by_cases c3 : x = 0
       · have t2 : (x == 0) = true := by rw [beq_iff_eq]; exact c3
         have C3 := Ad c3
         clear c3
         by_cases c4 : 0 < j
         · have hg := Ad (show Pl.get l = (0, 0, 11) by rw [HM.out.2, HD.out, Pl.getFrom, if_neg (fun h => C1.out h.1), if_pos ⟨C3.out, c4⟩])
           have hj1 : (0 : Int) < (j : Int) := by omega
           go_wp2
           go_ret3
           exact ⟨by rw [hg.out]; rfl, rfl⟩
         · have hj1 : ¬ (0 : Int) < (j : Int) := by omega
           have hx : x < 128 := by have := C3.out; omega
           have hg := Ad (show Pl.get l = (m + x.toNat % 128 * 128 ^ j, j + 1, 0) by rw [HM.out.2, HD.out, Pl.getFrom, if_neg (fun h => C1.out h.1), if_neg (fun h => c4 h.2), if_pos hx])
           go_wp2
           go_ret3
           refine ⟨?_, rfl⟩
           rw [hg.out]
           exact ret3_eq hv.out (by simp) rfl
       · have t2 : (x == 0) = false := by rw [beq_eq_false_iff_ne]; exact c3
         have C3 := Ad c3
         clear c3
         by_cases c4 : x < 128
         · have hg := Ad (show Pl.get l = (m + x.toNat % 128 * 128 ^ j, j + 1, 0) by rw [HM.out.2, HD.out, Pl.getFrom, if_neg (fun h => C1.out h.1), if_neg (fun h => C3.out h.1), if_pos c4])
           go_wp2
           go_ret3
           refine ⟨?_, rfl⟩
           rw [hg.out]
           exact ret3_eq hv.out (by simp) rfl
         · have hg := Ad (show Pl.get l = Pl.getFrom (l.drop (j + 1)) (j + 1) (m + x.toNat % 128 * 128 ^ j) by rw [HM.out.2, HD.out, Pl.getFrom, if_neg (fun h => C1.out h.1), if_neg (fun h => C3.out h.1), if_neg c4])
           have hj8 : j + 1 <= 9 := by have := C1.out; omega
           go_wp2
           go_round
           case rel => exact ⟨j + 1, m + x.toNat % 128 * 128 ^ j, by omega, hj8, by go_num, int_eq hv.out, rfl, rfl, ⟨hs.out.2.1, hg.out⟩⟩
           case measure => simp [intOf]; omega
   · have hg := Ad (show Pl.get l = (0, 0, 13) by rw [HM.out.2, List.drop_eq_nil_of_le (by omega)]; rfl)
     go_wp2
     go_ret3
     exact ⟨by rw [hg.out]; rfl, rfl⟩
set_option maxRecDepth 100000 in
theorem put_calls (n : Nat) (hn : n < 18446744073709551616) (w : World) :
   Calls Tryz.prog 87 #[.int .u64 n] w fun e w' => ∃ A c q m, e = .returned (.slice A m c) /\ ((Pl.put n).length = m /\ Ow By w' w.heap.size q A c (Pl.put n)) /\ Ch [] w w' := by
 have H10 := Ad (put_ten hn)
 have HN := Ad hn
 obtain ⟨U, hU⟩ : ∃ U, (18446744073709551616 : Nat) = U := ⟨_, rfl⟩
 have HU := Ad hU
 rw [hU] at hn HN
 clear hU
 have hmk := make10
 have O0 := Ad (Ow.made By w #[.int .u8 0, .int .u8 0, .int .u8 0, .int .u8 0, .int .u8 0, .int .u8 0, .int .u8 0, .int .u8 0, .int .u8 0, .int .u8 0] 10 (by decide) (by decide))
 have C0 := Ad ((Ch.refl [] w).alloc (.cells #[.int .u8 0, .int .u8 0, .int .u8 0, .int .u8 0, .int .u8 0, .int .u8 0, .int .u8 0, .int .u8 0, .int .u8 0, .int .u8 0] 5))
 go_enter Tryz.func87, Tryz.ntmps87
 go_wp2_with fail
 obtain ⟨w0, hw0⟩ : ∃ w0, w.alloc (.cells #[.int .u8 0, .int .u8 0, .int .u8 0, .int .u8 0, .int .u8 0, .int .u8 0, .int .u8 0, .int .u8 0, .int .u8 0, .int .u8 0] 5) = w0 := ⟨_, rfl⟩
 have O1 := Ad (show Ow By w0 w.heap.size (some w.heap.size) (some ⟨w.heap.size, 0, none⟩) 10 [] from hw0 ▸ O0.out)
 have C1 := Ad (show Ch [] w w0 from hw0 ▸ C0.out)
 rw [hw0]
 clear hw0 O0 C0 hmk
 go_loopw [0, 3] (fun x v wr => ∃ (m : Nat) (pre : List Int), m <= n /\ x = .int .u64 m /\ Aside0 (Pl.put n = pre ++ Pl.put m) /\ (∃ A c q, v = .slice A pre.length c /\ Aside0 (Ow By wr w.heap.size q A c pre)) /\ Aside0 (Ch [] w wr)) (fun x _ _ => (intOf x).toNat)
 case atStart => exact ⟨n, [], by omega, rfl, ⟨rfl⟩, ⟨_, _, _, rfl, O1⟩, C1⟩
 case round =>
   obtain ⟨m, pre, hm, rfl, HP, ⟨A2, c2, q2, rfl, O⟩, HC⟩ := hrel
   obtain ⟨pl, hpl⟩ : ∃ pl, pre.length = pl := ⟨_, rfl⟩
   have hpl9 : pl <= 10 := by
     have := congrArg List.length HP.out
     have h10 := H10.out
     rw [List.length_append] at this
     omega
   have HPL := Ad hpl
   rw [hpl]
   clear hpl
   by_cases c : m < 128
   · have t1 : ¬ (128 : Int) <= (m : Int) := by omega
     have t2 : (m : Int) % 256 = m := by omega
     have OW := Ad (O.out.on ((Ch.refl [] wr).alloc (.cells #[.int .u8 m] 5)))
     have YW := Ad (Ow.lit By wr [(m : Int)] #[.int .u8 m] (by rfl) (by decide : 1 <= maxLen)).rd
     have BW := Ad (show w.heap.size <= (wr.alloc (.cells #[.int .u8 m] 5)).heap.size from (HC.out.alloc _).size)
     have hP := HP.out
     rw [put_small c] at hP
     have HP2 := Ad hP
     clear hP
     go_wp2_with (at_builtin; go_loud (refine wpList_append_Ow rfl (.tmp 15) (.tmp 18) 64 (by rfl) (by rfl) (some ⟨wr.heap.size, 0, none⟩) 1 1 [(m : Int)] (by rfl) (by rfl) HPL.out OW.out YW.out rfl (by show (pl + 1) * 1 <= _; omega) BW.out ?_))
     intro A' c' q' w4 hO hC hq
     have O4 := Ad (show (Pl.put n).length = pl + 1 /\ Ow By w4 w.heap.size q' A' c' (Pl.put n) from by rw [HP2.out]; exact ⟨by rw [List.length_append, HPL.out]; rfl, hO⟩)
     have C4 := Ad ((HC.out.alloc (.cells #[.int .u8 m] 5)).trans hC (fun y hy => by rw [Option.mem_toList] at hy; exact .inr (OW.out.size y hy).1))
     clear hO hC hq OW YW BW
     go_wp2_with fail
     go_ret
     exact ⟨A', c', q', _, rfl, O4.out, C4.out⟩
   · have t1 : (128 : Int) <= (m : Int) := by omega
     have hq := Ad (show IntKind.u64.wrap ((m : Int) / 128) = ((m / 128 : Nat) : Int) from by
       rw [show (m : Int) / 128 = ((m / 128 : Nat) : Int) by omega, wrap64_nat _ (by have := HN.out; have := HU.out; omega)])
     have hy := Ad (or128 m)
     have OW := Ad (O.out.on ((Ch.refl [] wr).alloc (.cells #[.int .u8 (bits .or .u8 ((m : Int) % 256) 128)] 5)))
     have YW := Ad (Ow.lit By wr [bits .or .u8 ((m : Int) % 256) 128] #[.int .u8 (bits .or .u8 ((m : Int) % 256) 128)] (by rfl) (by decide : 1 <= maxLen)).rd
     have BW := Ad (show w.heap.size <= (wr.alloc (.cells #[.int .u8 (bits .or .u8 ((m : Int) % 256) 128)] 5)).heap.size from (HC.out.alloc _).size)
     go_wp2_with (at_builtin; go_loud (refine wpList_append_Ow rfl (.tmp 9) (.tmp 13) 64 (by rfl) (by rfl) (some ⟨wr.heap.size, 0, none⟩) 1 1 [bits .or .u8 ((m : Int) % 256) 128] (by rfl) (by rfl) HPL.out OW.out YW.out rfl (by show (pl + 1) * 1 <= _; omega) BW.out ?_))
     intro A' c' q' w4 hO hC hq'
     have O4 := Ad (show Ow By w4 w.heap.size q' A' c' (pre ++ [((m % 128 + 128 : Nat) : Int)]) from by rw [<- hy.out]; exact hO)
     have C4 := Ad ((HC.out.alloc (.cells #[.int .u8 (bits .or .u8 ((m : Int) % 256) 128)] 5)).trans hC (fun y hy => by rw [Option.mem_toList] at hy; exact .inr (OW.out.size y hy).1))
     clear hO hC hq' OW YW BW
     go_wp2_with fail
     go_roundw
     case rel => exact ⟨m / 128, pre ++ [((m % 128 + 128 : Nat) : Int)], by omega, int_eq (by omega), ⟨by rw [HP.out, put_big c]; simp⟩, ⟨A', c', q', by rw [List.length_append, HPL.out]; rfl, O4⟩, C4⟩
     case measure => simp [intOf]; omega
end Vr
theorem tab_get (k : Nat) (h : k < Lib.len8tab.size) : (((Lib.len8tab[k]'h).toNat : Nat) : Int) = (Lib.bitLen k : Nat) := by
 have h2 : k < 256 := by rw [Lib.len8tab_size] at h; exact h
 have := Lib.len8_of (k : Int) (by omega) (by omega)
 rw [Int.toNat_natCast] at this
 rw [<- this]
 unfold Lib.len8
 rw [Int.toNat_natCast, getElem?_pos Lib.len8tab k h]
 rfl
theorem bitLen_le (m n : Nat) (hn : n <= 8) (h : m < 2 ^ n) : Lib.bitLen m <= n := by
 have key : ∀ n : Fin 9, ∀ m : Fin 256, m.val < 2 ^ n.val -> Lib.bitLen m.val <= n.val := by decide +kernel
 have h8 : 2 ^ n <= 2 ^ 8 := Nat.pow_le_pow_right (by decide) hn
 exact key ⟨n, by omega⟩ ⟨m, by omega⟩ h
set_option maxRecDepth 1000000 in
theorem len32_calls (n : Nat) (hn : n < 256) (w : World) :
   Calls Tryz.prog 35 #[.int .u32 n] w fun e w' => e = .returned (.int .i64 (Lib.bitLen n : Nat)) /\ w = w' := by
 have t2 : ¬ (65536 : Int) <= (n : Int) := by omega
 have t3 : ¬ (256 : Int) <= (n : Int) := by omega
 have hb : Lib.bitLen n <= 8 := bitLen_le n 8 (by omega) hn
 have HX := Ad hn
 clear hn
 go_enter Tryz.func35, Tryz.ntmps35
 conv in (Value.string _) => change Value.string Lib.len8tab
 have hsz := Lib.len8tab_size
 have HG := Ad tab_get
 generalize Lib.len8tab = T at *
 repeat go_step
 rw [dif_pos (by have := HX.out; omega)]
 simp only [HG.out]
 try rw [Nat.mod_eq_of_lt HX.out]
 generalize hq : Lib.bitLen n = q at *
 go_simp
 repeat go_step
 go_ret
 exact ⟨ret_int (by omega), rfl⟩
namespace Sm.Pl
def one (x : Nat) : Nat := (x / 2) ^^^ (x % 2 * 3988292384)
def ones : Nat -> Nat -> Nat
 | 0, x => x
 | k + 1, x => one (ones k x)
def byte (x c : Nat) : Nat := ones 8 (x ^^^ c)
def run (x : Nat) (l : List Int) : Nat := l.foldl (fun x c => byte x c.toNat) x
def sum (l : List Int) : Nat := run 4294967295 l ^^^ 4294967295
theorem one_lt {x : Nat} (h : x < 4294967296) : one x < 4294967296 := by
 unfold one
 have h1 : x / 2 < 2 ^ 32 := by omega
 have h2 : x % 2 * 3988292384 < 2 ^ 32 := by omega
 exact Nat.xor_lt_two_pow (n := 32) h1 h2
theorem ones_lt {x : Nat} (h : x < 4294967296) : ∀ k, ones k x < 4294967296
 | 0 => h
 | k + 1 => one_lt (ones_lt h k)
theorem byte_lt {x c : Nat} (h : x < 4294967296) (hc : c < 256) : byte x c < 4294967296 :=
 ones_lt (Nat.xor_lt_two_pow (n := 32) h (by omega)) 8
theorem run_lt {l : List Int} : ∀ {x : Nat}, x < 4294967296 -> (∀ c ∈ l, c < 256) -> run x l < 4294967296 := by
 induction l with
 | nil => intro x h _; exact h
 | cons c l ih =>
   intro x h hc
   have h1 : c.toNat < 256 := by have := hc c (by simp); omega
   exact ih (x := byte x c.toNat) (byte_lt h h1) (fun d hd => hc d (by simp [hd]))
theorem sum_lt {l : List Int} (hc : ∀ c ∈ l, c < 256) : sum l < 4294967296 :=
 Nat.xor_lt_two_pow (n := 32) (run_lt (by omega) hc) (by omega)
theorem run_snoc (x : Nat) (l : List Int) (c : Int) : run x (l ++ [c]) = byte (run x l) c.toNat := by
 simp [run]
def tl (n : Nat) : List Int := [((n % 256 : Nat) : Int), ((n / 256 % 256 : Nat) : Int), ((n / 65536 % 256 : Nat) : Int), ((n / 16777216 % 256 : Nat) : Int)]
theorem tl_byte (n : Nat) : ∀ x ∈ tl n, 0 <= x /\ x < 256 := by
 intro x hx
 simp only [tl, List.mem_cons, List.not_mem_nil, or_false] at hx
 omega
def sealed (l : List Int) : List Int := l ++ tl (sum l)
theorem sealed_len (l : List Int) : (sealed l).length = l.length + 4 := by simp [sealed, tl]
theorem sealed_byte {l : List Int} (h : ∀ x ∈ l, 0 <= x /\ x < 256) : ∀ x ∈ sealed l, 0 <= x /\ x < 256 := by
 intro x hx
 rcases List.mem_append.1 hx with hx | hx
 · exact h x hx
 · exact tl_byte _ x hx
end Sm.Pl
namespace Sm
theorem one_bits (x : Nat) (h : x < 4294967296) : bits BinOp.xor IntKind.u32 ((x : Int) / 2) (bits BinOp.and IntKind.u32 (x : Int) 1 * 3988292384 % 4294967296) = ((Pl.one x : Nat) : Int) := by
 have e1 : bits BinOp.and IntKind.u32 (x : Int) 1 = ((x % 2 : Nat) : Int) := by
   have := u32_and_nat x 1 h (by omega)
   rw [show ((1 : Nat) : Int) = 1 from rfl] at this
   rw [this, Nat.and_one_is_mod]
 rw [e1]
 have e2 : ((x % 2 : Nat) : Int) * 3988292384 % 4294967296 = ((x % 2 * 3988292384 : Nat) : Int) := by omega
 have e3 : (x : Int) / 2 = ((x / 2 : Nat) : Int) := by omega
 rw [e2, e3, u32_xor_nat _ _ (by omega) (by omega)]
 rfl
theorem on_calls (g x : Nat) (c : Int) (hx : x < 4294967296) (h0 : 0 <= c) (h1 : c < 256) (w : World) (hb : Bx w g 25 (.int .u32 x)) :
   Calls Tryz.prog 115 #[.int .u8 c, .pointer (some ⟨g, 0, none⟩)] w fun e w' => e = .returned (.tuple #[]) /\ Bx w' g 25 (.int .u32 (Pl.byte x c.toNat : Nat)) /\ Ch [g] w w' := by
 obtain ⟨n, rfl⟩ := Int.eq_ofNat_of_zero_le h0
 have hc : n < 256 := by omega
 have hc0 := hb.cell
 have hf0 := hb.free
 have hxc : x ^^^ n < 4294967296 := Nat.xor_lt_two_pow (n := 32) hx (by omega)
 have HX := Ad hb
 clear hb h0 h1
 go_enter Tryz.func115, Tryz.ntmps115
 go_wp2
 go_loopw [7] (fun v wr => ∃ k : Nat, k <= 8 /\ v = .int .i64 k /\ Bx wr g 25 (.int .u32 (Pl.ones k (x ^^^ n) : Nat)) /\ Ch [g] w wr) (fun v _ => 8 - (intOf v).toNat)
 case atStart =>
   refine ⟨0, by omega, rfl, ?_, (Ch.refl _ _).set _ _ (.inl (by simp))⟩
   rw [u32_xor_nat _ _ hx (by omega)]
   exact HX.out.set _
 case round =>
   obtain ⟨k, hk, rfl, hb1, hg1⟩ := hrel
   have hc1 := hb1.cell
   have hf1 := hb1.free
   by_cases hlt : k < 8
   · go_wp2
     refine ⟨⟨k + 1, by omega, by go_num, ?_, hg1.set _ _ (.inl (by simp))⟩, by simp [intOf]; omega⟩
     rw [one_bits _ (Pl.ones_lt hxc k)]
     exact hb1.set _
   · go_wp2
     obtain rfl : k = 8 := by omega
     go_end0
     exact ⟨rfl, hb1, hg1⟩
theorem sum_calls (A : Option Addr) (c n : Nat) (l : List Int) (hn : l.length = n) (hb : ∀ x ∈ l, 0 <= x /\ x < 256) (w : World) (h : Rd By w A c l) :
   Calls Tryz.prog 92 #[.slice A n c] w fun e w' => e = .returned (.int .u32 (Pl.sum l : Nat)) /\ Ch [] w w' := by
 have hmf : ∀ (fn : Fn) (first cap : Array Value) (w : World), (Instr.makeFunc fn first cap).run Tryz.prog w = .ok (.func fn first cap) w := fun _ _ _ _ => rfl
 have hlen := h.len63 hn
 have H := Ad h
 have HN := Ad hn
 have HB := Ad hb
 clear h hn hb
 go_enter Tryz.func92, Tryz.ntmps92
 go_wp2
 go_loopw [6, 10] (fun _ v wr => ∃ k : Nat, k <= n /\ v = .int .i64 k /\ Bx wr w.heap.size 25 (.int .u32 (Pl.run 4294967295 (l.take k) : Nat)) /\ Ch [] w wr)
   (fun _ v _ => n - (intOf v).toNat)
 case atStart => exact ⟨0, by omega, rfl, Bx.new w _ _, (Ch.refl _ _).alloc _⟩
 case round =>
   obtain ⟨k, hk, rfl, hb1, hB⟩ := hrel
   have hc1 := hb1.cell
   have hf1 := hb1.free
   have hrl := Pl.run_lt (l := l.take k) (x := 4294967295) (by omega) (fun c hc => (HB.out c (List.mem_of_mem_take hc)).2)
   by_cases hlt : k < n
   · obtain ⟨x, hx⟩ : ∃ x, l[k]? = some x := ⟨_, List.getElem?_eq_getElem (by rw [HN.out]; exact hlt)⟩
     obtain ⟨g0, o0, rfl, hcell⟩ := (H.out.on hB).byte hx
     obtain ⟨h0, h1⟩ := HB.out x (List.mem_of_getElem? hx)
     have hon := Ad (on_calls w.heap.size _ x hrl h0 h1 wr hb1)
     have hts := Ad (show l.take (k + 1) = l.take k ++ [x] by rw [List.take_add_one, hx]; rfl)
     have HC := Ad hB
     clear hb1 hc1 hf1 hrl hx hB
     go_wp2_with fail
     refine (hon.out).mono ?_
     rintro e w' ⟨rfl, hb2, hg2⟩
     have Q2 := Ad (show Bx w' w.heap.size 25 (.int .u32 (Pl.run 4294967295 (l.take (k + 1)) : Nat)) from by rw [hts.out, Pl.run_snoc]; exact hb2)
     have C2 := Ad (show Ch [] w w' from HC.out.trans hg2 (fun y hy => by simp at hy; subst hy; exact .inr (Nat.le_refl _)))
     clear hb2 hg2 hon
     go_wp2
     go_roundw
     case rel => exact ⟨k + 1, by omega, by go_num, Q2.out, C2.out⟩
     case measure => simp [intOf]; omega
   · obtain rfl : k = n := by omega
     rw [List.take_of_length_le (by rw [HN.out]; exact Nat.le_refl _)] at hb1 hc1 hrl
     go_wp2
     go_ret
     refine ⟨?_, hB⟩
     rw [show (4294967295 : Int) = ((4294967295 : Nat) : Int) from rfl, u32_xor_nat _ _ hrl (by omega)]
     rfl
theorem make4 (W : World) : (Instr.makeSlice 64 (.int .i64 4) (.int .i64 4)).run Tryz.prog W = .ok (.slice (some ⟨W.heap.size, 0, none⟩) 4 4) (W.alloc (.cells #[.int .u8 0, .int .u8 0, .int .u8 0, .int .u8 0] 5)) := by
 obtain ⟨i0, hi, hz⟩ := Option.map_eq_some_iff.1 By.info
 simp only [Prod.mk.injEq] at hz
 obtain ⟨hz0, hz1, hz2⟩ := hz
 have hr := run_make (P := Tryz.prog) W 64 5 i0 (.int .u8 0) Tryz.underlying64 hi hz0 .i64 .i64 4 4 (by omega) (by omega) (by rw [hz2]; decide) (by decide)
 rw [hz1] at hr
 exact hr.trans (by kernel_rfl)
theorem tail_calls (n : Nat) (hn : n < 4294967296) (w : World) :
   Calls Tryz.prog 91 #[.int .u32 n] w fun e w' => ∃ A c q, e = .returned (.slice A 4 c) /\ Ow By w' w.heap.size q A c (Pl.tl n) /\ Ch [] w w' := by
 have hmk := make4
 go_enter Tryz.func91, Tryz.ntmps91
 go_wp2
 refine wp_loop_rounds 5 ?_
 rw [rounds_succ]
 go_wp2
 rw [rounds_succ]
 go_wp2
 rw [rounds_succ]
 go_wp2
 rw [rounds_succ]
 go_wp2
 rw [rounds_succ]
 go_wp2
 go_ret
 refine ⟨_, _, _, rfl, Ow.lit By w (Pl.tl n) _ ?_ (by decide : 4 <= maxLen), (Ch.refl _ _).alloc _⟩
 simp [Pl.tl, El.flat, By]
 omega
theorem Rd.reads {w : World} {A : Option Addr} {c n : Nat} {l : List Int} (h : Rd By w A c l) (hn : l.length = n) : ReadsInt w .u8 A n l := by
 refine ⟨hn, by have := h.len63 hn; omega, fun h0 => ?_⟩
 obtain ⟨g, o, rfl, _⟩ := h.at_ (by omega)
 refine ⟨_, rfl, fun j hj => ?_⟩
 obtain ⟨g', o', e, hc⟩ := h.byte (List.getElem?_eq_getElem (show j < l.length by omega))
 cases e
 rw [List.getD_eq_getElem?_getD, List.getElem?_eq_getElem (show j < l.length by omega)]
 unfold Addr.add
 split
 · rename_i h9
   subst h9
   exact hc
 · exact hc
theorem equal_calls (A : Option Addr) (c n : Nat) (l : List Int) (hn : l.length = n) (B : Option Addr) (d : Nat) (w : World) (h : Rd By w A c l) (h' : Rd By w B d l) :
   Calls Tryz.prog 90 #[.slice A n c, .slice B n d] w fun e w' => e = .returned (.bool true) /\ w = w' := by
 have h1 := string_of_reads (c := c) Tryz.underlying64 Tryz.underlying5 Tryz.underlying9 (Rd.reads h hn)
 have h2 := string_of_reads (c := d) Tryz.underlying64 Tryz.underlying5 Tryz.underlying9 (Rd.reads h' hn)
 clear h h'
 go_enter Tryz.func90, Tryz.ntmps90
 go_wp2
 go_ret
 exact ⟨rfl, rfl⟩
theorem clone_calls (A : Option Addr) (c n : Nat) (l : List Int) (hn : l.length = n) (hl : n <= 140737488355328) (w : World) (h : Rd By w A c l) :
   Calls Tryz.prog 23 #[.slice A n c] w fun e w' => ∃ A' c' q', e = .returned (.slice A' n c') /\ Ow By w' w.heap.size q' A' c' l /\ Ch [] w w' := by
 have q22 : ∀ (w : World) (a : Option Addr) (n c n' c' : Nat), (binOp .eql 64 (.slice a n c) (.slice none n' c')).run Tryz.prog w = .ok (.bool a.isNone) w := fun w a n c n' c' => Lib.run_eql_slice_nil w _ _ a n c n' c' Tryz.underlying64
 have H := Ad h
 have HN := Ad hn
 rcases A with _ | ad
 · have hl : l = [] := by
     rcases l with _ | ⟨a, l⟩
     · rfl
     · obtain ⟨g, o, h, _⟩ := h.at_ (by simp)
       cases h
   have hn0 : n = 0 := by rw [<- hn, hl]; rfl
   subst hl
   subst hn0
   clear h hn
   go_enter Tryz.func23, Tryz.ntmps23
   go_wp2
   go_ret
   exact ⟨none, 0, none, rfl, Ow.nil By _ _, Ch.refl _ _⟩
 · have O0 := Ad (Ow.lit By w [] #[] (by rfl) (by decide : 0 <= maxLen))
   have C0 := Ad ((Ch.refl [] w).alloc (.cells #[] 5))
   clear h hn
   go_enter Tryz.func23, Tryz.ntmps23
   go_wp2_with (at_builtin; refine wpList_append_Ow rfl (.tmp 5) (.tmp 6) 64 (by rfl) (by rfl) (some ad) n c l (by rfl) (by rfl) rfl O0.out (H.out.on C0.out) HN.out (by show (0 + n) * 1 <= _; omega) C0.out.size ?_)
   intro A' c' q' w1 hO hC hq
   have O1 := Ad hO
   have C1 := Ad (show Ch [] w w1 from C0.out.trans hC (fun y hy => by simp at hy; subst hy; exact .inr (Nat.le_refl _)))
   clear hO hC hq
   go_wp2
   go_ret
   exact ⟨A', c', q', rfl, O1.out, C1.out⟩
theorem seal_calls (A : Option Addr) (c n : Nat) (l : List Int) (hn : l.length = n) (hl : n <= 100000000) (hb : ∀ x ∈ l, 0 <= x /\ x < 256) (w : World) (h : Rd By w A c l) :
   Calls Tryz.prog 88 #[.slice A n c] w fun e w' => ∃ A' c' q', e = .returned (.slice A' (n + 4) c') /\ Ow By w' w.heap.size q' A' c' (Pl.sealed l) /\ Ch [] w w' := by
 have H := Ad h
 have HN := Ad hn
 have HB := Ad hb
 clear h hn hb
 go_enter Tryz.func88, Tryz.ntmps88
 go_wp2_with fail
 refine (clone_calls A c n l HN.out (by omega) w H.out).mono ?_
 rintro e w1 ⟨A1, c1, q1, rfl, h1, b1⟩
 have H1 := Ad h1
 have B1 := Ad b1
 clear h1 b1
 go_wp2_with fail
 refine (sum_calls A c n l HN.out HB.out w1 (H.out.on B1.out)).mono ?_
 rintro e w2 ⟨rfl, b2⟩
 have B2 := Ad b2
 clear b2
 go_wp2_with fail
 refine (tail_calls (Pl.sum l) (Pl.sum_lt fun c hc => (HB.out c hc).2) w2).mono ?_
 rintro e w3 ⟨A3, c3, q3, rfl, h3, b3⟩
 have H3 := Ad h3
 have O1 := Ad ((H1.out.on B2.out).on b3)
 have B13 := Ad ((B1.out.then B2.out).then b3)
 clear h3 b3
 go_wp2_with (at_builtin; refine wpList_append_Ow rfl (.tmp 4) (.tmp 7) 64 (by rfl) (by rfl) A3 4 c3 (Pl.tl (Pl.sum l)) (by rfl) (by rfl) HN.out O1.out H3.out.rd rfl (by show (n + 4) * 1 <= _; omega) B13.out.size ?_)
 intro A4 c4 q4 w4 hO hC hq
 have O4 := Ad hO
 have C4 := Ad (show Ch [] w w4 from B13.out.trans hC (fun y hy => by rw [Option.mem_toList] at hy; exact .inr (O1.out.size y hy).1))
 clear hO hC hq
 go_wp2
 go_ret
 exact ⟨A4, c4, q4, rfl, O4.out, C4.out⟩
end Sm
namespace Sm
theorem open_calls (A : Option Addr) (c n m : Nat) (l : List Int) (hn : l.length = n) (hm : n + 4 = m) (hl : n <= 100000000) (hb : ∀ x ∈ l, 0 <= x /\ x < 256) (w : World) (h : Rd By w A c (Pl.sealed l)) :
   Calls Tryz.prog 72 #[.slice A m c] w fun e w' => ∃ A' c' q', e = .returned (.tuple #[.slice A' n c', .int .i64 0]) /\ Ow By w' w.heap.size q' A' c' l /\ Ch [] w w' := by
 have hs : (Pl.sealed l).length = m := by rw [Pl.sealed_len]; omega
 have hcap := h.cap
 rw [hs] at hcap
 have hm4 : (m : Int) - 4 = (n : Int) := by omega
 obtain ⟨A2, cut2, k2, -⟩ := cut_drop By 64 rfl A c n m (by omega) hcap
 have cut1 := cut_take By 64 rfl A c n m (by omega) hcap
 have rd2 := k2 w _ hs h
 have e2 : (Pl.sealed l).drop n = Pl.tl (Pl.sum l) := by rw [<- hn, Pl.sealed, List.drop_left]
 have e1 : (Pl.sealed l).take n = l := by rw [<- hn, Pl.sealed, List.take_left]
 rw [e2] at rd2
 rw [show m - n = 4 by omega] at cut2
 have rd1 := h.take n
 rw [e1] at rd1
 have D1 := Ad rd1
 have D2 := Ad rd2
 have HN := Ad hn
 have HB := Ad hb
 have SL := Ad (Pl.sum_lt fun c hc => (hb c hc).2)
 have n0 : (0 : Int) <= (n : Int) := by omega
 clear h k2 rd2 e2 e1 rd1 hn hb hs hcap
 go_enter Tryz.func72, Tryz.ntmps72
 go_wp2_with fail
 go_region_with (first
   | (go_at_call 92; refine (sum_calls A c n l HN.out HB.out _ (by exact D1.out.drew)).mono ?_; rintro e w1 ⟨rfl, b1⟩)
   | (go_at_call 91; refine (tail_calls (Pl.sum l) SL.out _).mono ?_; rintro e w2 ⟨A3, c3, q3, rfl, h3, b2⟩)
   | (go_at_call 90; refine (equal_calls A2 (c - n) 4 (Pl.tl (Pl.sum l)) rfl A3 c3 _ (by exact (D2.out.drew.on b1).on b2) (by exact h3.rd)).mono ?_; rintro e w3 ⟨rfl, rfl⟩))
 have B2 := Ad (show Ch [] w w2 from ((Ch.refl [] w).drew.then b1).then b2)
 clear b1 b2 h3
 go_wp2_with fail
 refine (clone_calls A c n l HN.out (by omega) _ (by exact D1.out.on B2.out)).mono ?_
 rintro e w5 ⟨A5, c5, q5, rfl, h5, b5⟩
 have H5 := Ad h5
 have B5 := Ad b5
 clear h5 b5
 go_wp2
 go_ret2
 exact ⟨A5, c5, q5, rfl, H5.out.less B2.out.size, B2.out.then B5.out⟩
end Sm
section
structure FileAt (W : World) (b p : Nat) (q : Option Nat) (A : Option Addr) (c n : Nat) (l : List Int) (s : Nat) (most : Int) : Prop where
 blk : Cs W p 68 [.slice A n c, .int .i64 s, .int .i64 most, .bool false]
 own : b <= p
 len : l.length = n
 row : Ow By W b q A c l
 sure : s <= n
 rng : 1 <= most /\ most <= 67108864
 fits : (n : Int) <= most
section
variable {W W' : World} {b p : Nat} {q : Option Nat} {A : Option Addr} {c n : Nat} {l : List Int} {s : Nat} {most : Int}
theorem FileAt.apart (h : FileAt W b p q A c n l s most) : q ≠ some p := fun e => h.row.ne h.blk (by decide) e
theorem FileAt.keep (h : FileAt W b p q A c n l s most) {F : List Nat} (hc : Ch F W W') (h1 : p ∉ F) (h2 : ∀ k, q = some k -> k ∉ F) : FileAt W' b p q A c n l s most :=
 ⟨h.blk.keep hc h1, h.own, h.len, h.row.keep hc h2, h.sure, h.rng, h.fits⟩
theorem FileAt.on (h : FileAt W b p q A c n l s most) (hc : Ch [] W W') : FileAt W' b p q A c n l s most := h.keep hc (by simp) (by simp)
theorem FileAt.cells (h : FileAt W b p q A c n l s most) : W.cell? ⟨p, 0, none⟩ = some (.slice A n c) /\ W.cell? ⟨p, 1, none⟩ = some (.int .i64 s) /\ W.cell? ⟨p, 2, none⟩ = some (.int .i64 most) /\ W.cell? ⟨p, 3, none⟩ = some (.bool false) :=
 ⟨h.blk.cell rfl, h.blk.cell rfl, h.blk.cell rfl, h.blk.cell rfl⟩
def ffp (p : Nat) (q : Option Nat) : List Nat := p :: q.toList
theorem FileAt.fp_ge (h : FileAt W b p q A c n l s most) : ∀ k, k ∈ ffp p q -> b <= k /\ k < W.heap.size := fun k hk => by
 rcases List.mem_cons.1 hk with rfl | hk
 · exact ⟨h.own, h.blk.lt⟩
 · rw [Option.mem_toList] at hk
   exact h.row.size k hk
theorem FileAt.kinds (h : FileAt W b p q A c n l s most) : ∀ k, k ∈ ffp p q -> ∃ cur T, W.heap[k]? = some (.cells cur T (0, 0)) /\ (T = 68 ∨ T = 5) := fun k hk => by
 rcases List.mem_cons.1 hk with rfl | hk
 · exact ⟨_, _, h.blk, .inl rfl⟩
 · rw [Option.mem_toList] at hk
   have h9 := h.row
   rw [hk] at h9
   obtain ⟨cur, hc⟩ := h9.blk
   exact ⟨cur, 5, hc, .inr rfl⟩
theorem FileAt.noT (h : FileAt W b p q A c n l s most) {k : Nat} {cur : Array Value} {T : TypeId} (hk : W.heap[k]? = some (.cells cur T (0, 0))) (hT : T ≠ 68 /\ T ≠ 5) : k ∉ ffp p q := by
 intro hm
 obtain ⟨cur', T', hb, h2⟩ := h.kinds k hm
 rw [hk] at hb
 cases hb
 rcases h2 with e | e
 · exact hT.1 e
 · exact hT.2 e
end
theorem wrap64 {x : Int} (h0 : -9223372036854775808 <= x) (h1 : x <= 9223372036854775807) : IntKind.i64.wrap x = x := IntWalk.i64_in _ (by omega)
theorem Ow.short {α : Type} {E : El α} {w : World} {b : Nat} {q : Option Nat} {A : Option Addr} {c n : Nat} {l : List α} (h : Ow E w b q A c l) (hn : l.length = n) : Ow E w b q A n l := by
 have hc := h.cap
 rcases h.lies with ⟨h1, h2, h3, h4⟩ | ⟨g, cur, h1, h2, h3, h4, h5, h6, h7, h8⟩
 · subst h3
   exact ⟨.inl ⟨h1, hn.symm, rfl, h4⟩⟩
 · exact ⟨.inr ⟨g, cur, h1, h2, h3, h4, by omega, Nat.le_trans (Nat.mul_le_mul_right _ (by omega)) h6, by omega, h8⟩⟩
namespace Fl
theorem new_calls (most : Int) (h1 : 1 <= most) (h2 : most <= 67108864) (w : World) :
   Calls Tryz.prog 6 #[.int .i64 most] w fun e w' => e = .returned (.tuple #[.pointer (some ⟨w.heap.size, 0, none⟩), .int .i64 0]) /\ FileAt w' w.heap.size w.heap.size none none 0 0 [] 0 most /\ Ch [] w w' := by
 have c1 : ¬ most < 1 := by omega
 have c2 : ¬ 67108864 < most := by omega
 have HR := Ad (And.intro h1 h2)
 clear h1 h2
 go_enter Tryz.func6, Tryz.ntmps6
 go_wp2
 go_ret2
 exact ⟨rfl, ⟨Cs.new w _ 68, Nat.le_refl _, rfl, Ow.nil By _ _, by simp, HR.out, by have := HR.out; omega⟩, (Ch.refl _ _).alloc _⟩
theorem size_calls (p : Nat) (A : Option Addr) (c n : Nat) (w : World) (y0 : w.cell? ⟨p, 0, none⟩ = some (.slice A n c)) :
   Calls Tryz.prog 24 #[.pointer (some ⟨p, 0, none⟩)] w fun e w' => e = .returned (.int .i64 n) /\ w = w' := by
 go_enter Tryz.func24, Tryz.ntmps24
 go_wp2
 go_ret
 simp
theorem check_calls (p : Nat) (w : World) (y3 : w.cell? ⟨p, 3, none⟩ = some (.bool false)) :
   Calls Tryz.prog 51 #[.pointer (some ⟨p, 0, none⟩)] w fun e w' => e = .returned (.int .i64 0) /\ w = w' := by
 go_enter Tryz.func51, Tryz.ntmps51
 go_wp2
 go_ret
 simp
theorem len_calls (p : Nat) (A : Option Addr) (c n : Nat) (w : World) (y0 : w.cell? ⟨p, 0, none⟩ = some (.slice A n c)) :
   Calls Tryz.prog 27 #[.pointer (some ⟨p, 0, none⟩)] w fun e w' => e = .returned (.int .i64 n) /\ w = w' := by
 go_enter Tryz.func27, Tryz.ntmps27
 go_wp2_with fail
 refine (size_calls p A c n w y0).mono ?_
 rintro e w' ⟨rfl, rfl⟩
 go_wp2
 go_ret
 simp
theorem bytes_calls (p : Nat) (A : Option Addr) (c n : Nat) (l : List Int) (hn : l.length = n) (hl : n <= 140737488355328) (w : World) (y0 : w.cell? ⟨p, 0, none⟩ = some (.slice A n c)) (h : Rd By w A c l) :
   Calls Tryz.prog 22 #[.pointer (some ⟨p, 0, none⟩)] w fun e w' => ∃ A' c' q', e = .returned (.slice A' n c') /\ Ow By w' w.heap.size q' A' c' l /\ Ch [] w w' := by
 have H := Ad h
 clear h
 go_enter Tryz.func22, Tryz.ntmps22
 go_wp2_with fail
 refine (Sm.clone_calls A c n l hn hl w H.out).mono ?_
 rintro e w' ⟨A', c', q', rfl, hr, hb⟩
 have HR := Ad hr
 have HB := Ad hb
 clear hr hb
 go_wp2
 go_ret
 exact ⟨A', c', q', rfl, HR.out, HB.out⟩
theorem add_calls (b p : Nat) (q : Option Nat) (A : Option Addr) (c n : Nat) (l : List Int) (s : Nat) (most : Int) (X : Option Addr) (cx m : Nat) (ys : List Int) (w : World) (h : FileAt w b p q A c n l s most)
   (hY : Rd By w X cx ys) (hm : ys.length = m) (hl : (n : Int) + m <= most) :
   Calls Tryz.prog 89 #[.pointer (some ⟨p, 0, none⟩), .slice X m cx] w fun e w' => (∃ v, e = .returned v) /\ ∃ A' c' q', FileAt w' b p q' A' c' (n + m) (l ++ ys) s most /\ Ch (ffp p q) w w' /\ (q' = q ∨ q' = some w.heap.size) := by
 obtain ⟨y0, -, -, -⟩ := h.cells
 have hp := h.blk.lt
 have hbw : b <= w.heap.size := by have := h.own; omega
 have hr := h.rng
 have H := Ad h
 have HY := Ad hY
 have HM := Ad hm
 clear h hY hm
 go_enter Tryz.func89, Tryz.ntmps89
 go_wp2_with (at_builtin; refine wpList_append_Ow rfl (.tmp 8) (.tmp 9) 64 (by rfl) (by rfl) X m cx ys (by rfl) (by rfl) H.out.len H.out.row HY.out HM.out (by show (n + m) * 1 <= _; omega) hbw ?_)
 intro A' c' q' W' hO hC hq
 have hB := H.out.blk.keep hC (fun hm => H.out.apart (by rwa [Option.mem_toList] at hm))
 have z0 : W'.cell? ⟨p, 0, none⟩ = some (.slice A n c) := hB.cell rfl
 have f0 : W'.frozen? ⟨p, 0, none⟩ = false := hB.free 0
 have F := Ad (show FileAt (W'.setCell ⟨p, 0, none⟩ (.slice A' (n + m) c')) b p q' A' c' (n + m) (l ++ ys) s most from by
   have hN := hB.set 0 (.slice A' (n + m) c')
   refine ⟨hN, H.out.own, by rw [List.length_append, H.out.len, HM.out], hO.keep ((Ch.refl [p] W').set ⟨p, 0, none⟩ _ (.inl (by simp))) (fun k hk hm => ?_), by have := H.out.sure; omega, H.out.rng, by omega⟩
   simp at hm
   subst hm
   exact hO.ne hB (by decide) hk)
 have C := Ad (show Ch (ffp p q) w (W'.setCell ⟨p, 0, none⟩ (.slice A' (n + m) c')) from (hC.sub (fun x hx => by simp [ffp]; rw [Option.mem_toList] at hx; exact .inr hx)).set ⟨p, 0, none⟩ _ (.inl (by simp [ffp])))
 have Q := Ad hq
 clear hO hC hq hB
 go_wp2
 go_end0
 exact ⟨⟨_, rfl⟩, A', c', q', F.out, C.out, Q.out⟩
theorem append_calls (b p : Nat) (q : Option Nat) (A : Option Addr) (c n : Nat) (l : List Int) (s : Nat) (most : Int) (X : Option Addr) (cx m : Nat) (ys : List Int) (w : World) (h : FileAt w b p q A c n l s most)
   (hY : Rd By w X cx ys) (hm : ys.length = m) (hl : (n : Int) + m <= most) :
   Calls Tryz.prog 70 #[.pointer (some ⟨p, 0, none⟩), .slice X m cx] w fun e w' => e = .returned (.int .i64 0) /\ ∃ A' c' q', FileAt w' b p q' A' c' (n + m) (l ++ ys) s most /\ Ch (ffp p q) w w' /\ (q' = q ∨ q' = some w.heap.size) := by
 obtain ⟨y0, -, y2, y3⟩ := h.cells
 have hw : IntKind.i64.wrap (most - (n : Int)) = most - n := wrap64 (by have := h.rng; have := h.fits; omega) (by have := h.rng; omega)
 have hgt : ¬ most - (n : Int) < m := by omega
 have H := Ad h
 have HY := Ad hY
 have HM := Ad hm
 have HL := Ad hl
 clear h hY hm hl
 go_enter Tryz.func70, Tryz.ntmps70
 go_wp2_with fail
 refine (check_calls p w y3).mono ?_
 rintro e w' ⟨rfl, rfl⟩
 go_wp2_with fail
 go_quiet ((go_at_call 24; exact Calls.quiet_of_same ((size_calls p A c n (w.drewN _) (by exact y0)).mono (fun _ _ h => ⟨h.1, h.2.symm⟩))))
 go_wp2_with fail
 refine (add_calls b p q A c n l s most X cx m ys _ (by exact H.out.on ((Ch.refl [] w).drewN _)) (by exact HY.out.drewN _) HM.out HL.out).mono ?_
 rintro e w2 ⟨⟨v, rfl⟩, A', c', q', hF, hC, hq⟩
 have F := Ad hF
 have C := Ad hC
 have Q := Ad hq
 clear hF hC hq
 go_wp2
 go_ret
 exact ⟨rfl, A', c', q', F.out, ((Ch.refl _ _).drewN _).then C.out, Q.out⟩
theorem flush_calls (b p : Nat) (q : Option Nat) (A : Option Addr) (c n : Nat) (l : List Int) (s : Nat) (most : Int) (w : World) (h : FileAt w b p q A c n l s most) :
   Calls Tryz.prog 68 #[.pointer (some ⟨p, 0, none⟩)] w fun e w' => e = .returned (.int .i64 0) /\ FileAt w' b p q A c n l n most /\ Ch [p] w w' := by
 obtain ⟨y0, y1, -, y3⟩ := h.cells
 have f1 := h.blk.free 1
 have H := Ad h
 clear h
 go_enter Tryz.func68, Tryz.ntmps68
 go_wp2_with fail
 refine (check_calls p w y3).mono ?_
 rintro e w' ⟨rfl, rfl⟩
 go_wp2_with fail
 refine (size_calls p A c n w y0).mono ?_
 rintro e w' ⟨rfl, rfl⟩
 go_wp2
 go_ret
 have hc := (Ch.refl [p] w).set ⟨p, 1, none⟩ (.int .i64 n) (.inl (by simp))
 refine ⟨rfl, ⟨H.out.blk.set 1 (.int .i64 n), H.out.own, H.out.len, H.out.row.keep hc (fun k hk hm => ?_), Nat.le_refl _, H.out.rng, H.out.fits⟩, hc⟩
 simp at hm
 subst hm
 exact H.out.apart hk
theorem keep_calls (b p : Nat) (q : Option Nat) (A : Option Addr) (c n : Nat) (l : List Int) (s : Nat) (most : Int) (w : World) (h : FileAt w b p q A c n l s most) :
   Calls Tryz.prog 52 #[.pointer (some ⟨p, 0, none⟩), .int .i64 n] w fun e w' => (∃ v, e = .returned v) /\ FileAt w' b p q A n n l s most /\ Ch [p] w w' := by
 obtain ⟨y0, y1, -, -⟩ := h.cells
 have hcap := h.row.cap
 rw [h.len] at hcap
 have f0 := h.blk.free 0
 have f1 := h.blk.free 1
 have k0 : (0 : Int) <= (n : Int) := by omega
 have k1 : (n : Int) <= (c : Int) := by omega
 have hks : ¬ n < s := by have := h.sure; omega
 have H := Ad h
 have hc := ((Ch.refl [p] w).set ⟨p, 0, none⟩ (.slice A n n) (.inl (by simp))).set ⟨p, 1, none⟩ (.int .i64 s) (.inl (by simp))
 have FIN := Ad (show FileAt ((w.setCell ⟨p, 0, none⟩ (.slice A n n)).setCell ⟨p, 1, none⟩ (.int .i64 s)) b p q A n n l s most from
   ⟨(h.blk.set 0 (.slice A n n)).set 1 (.int .i64 s), h.own, h.len, (h.row.short h.len).keep hc (fun k hk hm => by simp at hm; subst hm; exact h.apart hk), h.sure, h.rng, h.fits⟩)
 have HC := Ad hc
 clear h hcap hc
 go_enter Tryz.func52, Tryz.ntmps52
 go_wp2
 go_end0
 exact ⟨⟨_, rfl⟩, FIN.out, HC.out⟩
theorem cut_calls (b p : Nat) (q : Option Nat) (A : Option Addr) (c n : Nat) (l : List Int) (s : Nat) (most : Int) (w : World) (h : FileAt w b p q A c n l s most) :
   Calls Tryz.prog 29 #[.pointer (some ⟨p, 0, none⟩), .int .i64 n] w fun e w' => e = .returned (.int .i64 0) /\ FileAt w' b p q A n n l s most /\ Ch [p] w w' := by
 obtain ⟨y0, -, -, y3⟩ := h.cells
 have k0 : ¬ (n : Int) < 0 := by omega
 have H := Ad h
 clear h
 go_enter Tryz.func29, Tryz.ntmps29
 go_wp2_with fail
 refine (check_calls p w y3).mono ?_
 rintro e w' ⟨rfl, rfl⟩
 go_wp2_with fail
 refine (size_calls p A c n w y0).mono ?_
 rintro e w' ⟨rfl, rfl⟩
 go_wp2_with fail
 refine (keep_calls b p q A c n l s most w H.out).mono ?_
 rintro e w2 ⟨⟨v, rfl⟩, hF, hC⟩
 have F := Ad hF
 have C := Ad hC
 clear hF hC
 go_wp2
 go_ret
 exact ⟨rfl, F.out, C.out⟩
theorem open_calls (b p : Nat) (q : Option Nat) (A : Option Addr) (c n : Nat) (l : List Int) (s : Nat) (most : Int) (w : World) (h : FileAt w b p q A c n l s most) :
   Calls Tryz.prog 8 #[.pointer (some ⟨p, 0, none⟩)] w fun e w' => ∃ p' A' c' q', e = .returned (.tuple #[.pointer (some ⟨p', 0, none⟩), .int .i64 0]) /\ FileAt w' w.heap.size p' q' A' c' n l n most /\ Ch [] w w' := by
 obtain ⟨y0, y1, y2, -⟩ := h.cells
 have H := Ad h
 have N48 := Ad (show n <= 140737488355328 by have := h.rng; have := h.fits; omega)
 have SK := Ad (fun (W' : World) (hc : Ch [] w W') => (⟨hc.cell y0 (by simp), hc.cell y2 (by simp), ⟨hc⟩⟩ : W'.cell? ⟨p, 0, none⟩ = some (.slice A n c) /\ W'.cell? ⟨p, 2, none⟩ = some (.int .i64 most) /\ Aside0 (Ch [] w W')))
 clear h
 go_enter Tryz.func8, Tryz.ntmps8
 go_wp2_with fail
 go_region_held3 (fun W' => W'.cell? ⟨p, 0, none⟩ = some (.slice A n c) /\ W'.cell? ⟨p, 2, none⟩ = some (.int .i64 most) /\ Aside0 (Ch [] w W'))
   (exact SK.out _ (by repeat (first | exact CQ.out | exact (Ch.refl _ _).drew | refine Ch.alloc ?_ _)))
   ((first
     | (go_at_call 23
        have CP := Ad (show Ch [] w _ from (by repeat (first | exact CQ.out | exact (Ch.refl _ _).drew)))
        refine (Sm.clone_calls A c n l H.out.len N48.out _ (by exact H.out.row.rd.on CP.out)).mono ?_
        rintro e w9 ⟨A3, c3, q3, rfl, hO3, hC3⟩
        have CQ := Ad (CP.out.then hC3)
        have O3 := Ad hO3
        clear hO3)
     | (go_at_call 24
        refine (size_calls p A c n _ (by first | exact hHeld.1 | exact (SK.out _ CQ.out).1 | exact y0)).mono ?_
        rintro e w8 ⟨rfl, rfl⟩)))
 go_wp2
 go_ret2
 have hC9 := (Ch.refl [] w9).alloc (.cells #[.slice A3 n c3, .int .i64 n, .int .i64 most, .bool false] 68)
 exact ⟨w9.heap.size, A3, c3, q3, rfl, ⟨Cs.new w9 _ 68, hC3.size, H.out.len, O3.out.on hC9, Nat.le_refl _, H.out.rng, H.out.fits⟩, CQ.out.then hC9⟩
end Fl
end
def fl93 : List Field := [{ name := "N", type := 3, offset := 0, embedded := false, tag := "", pkgPath := "", byteOffset := 0 }, { name := "Bus", type := 3, offset := 1, embedded := false, tag := "", pkgPath := "", byteOffset := 8 }, { name := "Drive", type := 25, offset := 2, embedded := false, tag := "", pkgPath := "", byteOffset := 16 }]
theorem fields93 : (Tryz.prog.fieldsOf 93).toList = fl93 := by
 unfold Program.fieldsOf
 rw [Tryz.underlying93]
 rfl
theorem underlying93' : Tryz.prog.underlying 93 = some (.struct (Tryz.prog.fieldsOf 93)) := by
 unfold Program.fieldsOf
 rw [Tryz.underlying93]
theorem held93 : Tryz.prog.stoodInHeld 93 = false := by kernel_rfl
theorem underlying51' : Tryz.prog.underlying 51 = some (.struct (Tryz.prog.fieldsOf 51)) := by
 unfold Program.fieldsOf
 rw [Tryz.underlying51]
theorem held51 : Tryz.prog.stoodInHeld 51 = false := by kernel_rfl
def fl51 : List Field := [{ name := "Tick", type := 3, offset := 0, embedded := false, tag := "", pkgPath := "", byteOffset := 0 }, { name := "Node", type := 3, offset := 1, embedded := false, tag := "", pkgPath := "", byteOffset := 8 }, { name := "Kind", type := 3, offset := 2, embedded := false, tag := "", pkgPath := "", byteOffset := 16 }, { name := "Frame", type := 49, offset := 3, embedded := false, tag := "", pkgPath := "", byteOffset := 24 }]
theorem fields51 : (Tryz.prog.fieldsOf 51).toList = fl51 := by
 unfold Program.fieldsOf
 rw [Tryz.underlying51]
 rfl
set_option maxRecDepth 4000 in
theorem eqIn49 (w : World) (d : Nat) (f : Pl.Fr) : (Op.equalIn (d + 3) 49 (.agg (frc f).toArray) (.agg (frc f).toArray)).run Tryz.prog w = .ok true w := by
 have E : (Op.equalIn (d + 3) 49 (.agg (frc f).toArray) (.agg (frc f).toArray)).run Tryz.prog w = .ok (f.id == f.id && (f.ext == f.ext && (f.rtr == f.rtr && (f.len == f.len && (([f.d0, f.d1, f.d2, f.d3, f.d4, f.d5, f.d6, f.d7] == [f.d0, f.d1, f.d2, f.d3, f.d4, f.d5, f.d6, f.d7]) && true))))) w := by
   rw [run_equalIn_struct w (d + 2) 49 _ _ underlying49' held49, fields49]
   unfold fl49
   refine eqf_cons (by rfl) (a := .int .i64 f.id) (b := .int .i64 f.id) (by simp [part, isAgg, run_underlying Tryz.underlying3, frc]) (by simp [part, isAgg, run_underlying Tryz.underlying3, frc]) (by rw [run_equalIn_int w (d + 1) _ _ _ _ _ Tryz.underlying3]) ?_
   refine eqf_cons (by rfl) (a := .bool f.ext) (b := .bool f.ext) (by simp [part, isAgg, run_underlying Tryz.underlying4, frc]) (by simp [part, isAgg, run_underlying Tryz.underlying4, frc]) (by rw [run_equalIn_bool' w (d + 1) _ _ _ Tryz.underlying4]) ?_
   refine eqf_cons (by rfl) (a := .bool f.rtr) (b := .bool f.rtr) (by simp [part, isAgg, run_underlying Tryz.underlying4, frc]) (by simp [part, isAgg, run_underlying Tryz.underlying4, frc]) (by rw [run_equalIn_bool' w (d + 1) _ _ _ Tryz.underlying4]) ?_
   refine eqf_cons (by rfl) (a := .int .i64 f.len) (b := .int .i64 f.len) (by simp [part, isAgg, run_underlying Tryz.underlying3, frc]) (by simp [part, isAgg, run_underlying Tryz.underlying3, frc]) (by rw [run_equalIn_int w (d + 1) _ _ _ _ _ Tryz.underlying3]) ?_
   refine eqf_cons (by rfl) (a := .agg (([f.d0, f.d1, f.d2, f.d3, f.d4, f.d5, f.d6, f.d7].map (Value.int .u8)).toArray)) (b := .agg (([f.d0, f.d1, f.d2, f.d3, f.d4, f.d5, f.d6, f.d7].map (Value.int .u8)).toArray)) ?_ ?_ (run_equalIn_ints w d 47 5 8 .u8 Tryz.underlying47 Tryz.underlying5 (run_size size5) _ _ rfl rfl) eqf_nil
   · exact run_part_agg size47 Tryz.underlying47 rfl w
   · exact run_part_agg size47 Tryz.underlying47 rfl w
 rw [E]
 simp
theorem neq51 (x : Ev) (w : World) : (binOp .neq 51 (.agg (Evv.enc x).toArray) (.agg (Evv.enc x).toArray)).run Tryz.prog w = .ok (.bool false) w := by
 have E : (Op.equalIn 10000 51 (.agg (Evv.enc x).toArray) (.agg (Evv.enc x).toArray)).run Tryz.prog w = .ok (x.tick == x.tick && (x.node == x.node && (x.kind == x.kind && (true && true)))) w := by
   rw [run_equalIn_struct w 9999 51 _ _ underlying51' held51, fields51]
   unfold fl51
   refine eqf_cons (by rfl) (a := .int .i64 x.tick) (b := .int .i64 x.tick) (by simp [part, isAgg, run_underlying Tryz.underlying3, Evv]) (by simp [part, isAgg, run_underlying Tryz.underlying3, Evv]) (by rw [run_equalIn_int w 9998 _ _ _ _ _ Tryz.underlying3]) ?_
   refine eqf_cons (by rfl) (a := .int .i64 x.node) (b := .int .i64 x.node) (by simp [part, isAgg, run_underlying Tryz.underlying3, Evv]) (by simp [part, isAgg, run_underlying Tryz.underlying3, Evv]) (by rw [run_equalIn_int w 9998 _ _ _ _ _ Tryz.underlying3]) ?_
   refine eqf_cons (by rfl) (a := .int .i64 x.kind) (b := .int .i64 x.kind) (by simp [part, isAgg, run_underlying Tryz.underlying3, Evv]) (by simp [part, isAgg, run_underlying Tryz.underlying3, Evv]) (by rw [run_equalIn_int w 9998 _ _ _ _ _ Tryz.underlying3]) ?_
   refine eqf_cons (by rfl) (a := .agg (frc x.f).toArray) (b := .agg (frc x.f).toArray) ?_ ?_ (eqIn49 w 9996 x.f) eqf_nil
   · exact run_part_agg size49 Tryz.underlying49 rfl w
   · exact run_part_agg size49 Tryz.underlying49 rfl w
 rw [run_neq_struct, E]
 simp
theorem neq93 (x : Run) (w : World) : (binOp .neq 93 (.agg (Rv.enc x).toArray) (.agg (Rv.enc x).toArray)).run Tryz.prog w = .ok (.bool false) w := by
 have E : (Op.equalIn 10000 93 (.agg (Rv.enc x).toArray) (.agg (Rv.enc x).toArray)).run Tryz.prog w = .ok (x.n == x.n && (x.bus == x.bus && (x.drv == x.drv && true))) w := by
   rw [run_equalIn_struct w 9999 93 _ _ underlying93' held93, fields93]
   unfold fl93
   refine eqf_cons (by rfl) (a := .int .i64 x.n) (b := .int .i64 x.n) (by simp [part, isAgg, run_underlying Tryz.underlying3, Rv]) (by simp [part, isAgg, run_underlying Tryz.underlying3, Rv]) (by rw [run_equalIn_int w 9998 _ _ _ _ _ Tryz.underlying3]) ?_
   refine eqf_cons (by rfl) (a := .int .i64 x.bus) (b := .int .i64 x.bus) (by simp [part, isAgg, run_underlying Tryz.underlying3, Rv]) (by simp [part, isAgg, run_underlying Tryz.underlying3, Rv]) (by rw [run_equalIn_int w 9998 _ _ _ _ _ Tryz.underlying3]) ?_
   refine eqf_cons (by rfl) (a := .int .u32 x.drv) (b := .int .u32 x.drv) (by simp [part, isAgg, run_underlying Tryz.underlying25, Rv]) (by simp [part, isAgg, run_underlying Tryz.underlying25, Rv]) (by rw [run_equalIn_int w 9998 _ _ _ _ _ Tryz.underlying25]) eqf_nil
 rw [run_neq_struct, E]
 simp
set_option maxRecDepth 100000 in
theorem lruns_calls (A B : Option Addr) (c d m : Nat) (l : List Run) (hm : l.length = m) (w : World) (h : Rd Rv w A c l) (k : Rd Rv w B d l) :
   Calls Tryz.prog 13 #[.slice A m c, .slice B m d] w fun e w' => e = .returned (.bool true) /\ Ch [] w w' := by
 have hlen := h.len63 hm
 have H := Ad h
 have K := Ad k
 have HM := Ad hm
 clear h k hm
 go_enter Tryz.func13, Tryz.ntmps13
 go_wp2_with fail
 go_loopw [5] (fun i wr => ∃ j : Nat, j <= m /\ i = .int .i64 j /\ Aside0 (Ch [] w wr)) (fun i _ => m - (intOf i).toNat)
 case atStart => exact ⟨0, by omega, rfl, ⟨Ch.refl _ _⟩⟩
 case round =>
   obtain ⟨j, hj, rfl, CW⟩ := hrel
   by_cases hlt : j < m
   · obtain ⟨x, hx⟩ : ∃ x, l[j]? = some x := ⟨_, List.getElem?_eq_getElem (by rw [HM.out]; exact hlt)⟩
     obtain ⟨g, o, rfl, hrc⟩ := (H.out.on CW.out).cells hx
     obtain ⟨g2, o2, rfl, hrc2⟩ := (K.out.on CW.out).cells hx
     have a0 : wr.cell? ⟨g, o + j * 3, none⟩ = some (.int .i64 x.n) := hrc 0 _ rfl
     have a1 : wr.cell? ⟨g, o + j * 3 + 1, none⟩ = some (.int .i64 x.bus) := hrc 1 _ rfl
     have a2 : wr.cell? ⟨g, o + j * 3 + 2, none⟩ = some (.int .u32 x.drv) := hrc 2 _ rfl
     have b0 : wr.cell? ⟨g2, o2 + j * 3, none⟩ = some (.int .i64 x.n) := hrc2 0 _ rfl
     have b1 : wr.cell? ⟨g2, o2 + j * 3 + 1, none⟩ = some (.int .i64 x.bus) := hrc2 1 _ rfl
     have b2 : wr.cell? ⟨g2, o2 + j * 3 + 2, none⟩ = some (.int .u32 x.drv) := hrc2 2 _ rfl
     have k0 : (0 : Int) <= (j : Int) := by omega
     have k1 : (j : Int) < (m : Int) := by omega
     have NE : ∀ w : World, (binOp .neq 93 (.agg #[Value.int .i64 x.n, .int .i64 x.bus, .int .u32 x.drv]) (.agg #[Value.int .i64 x.n, .int .i64 x.bus, .int .u32 x.drv])).run Tryz.prog w = .ok (.bool false) w := fun w => neq93 x w
     clear hrc hrc2 hx
     go_wp2_with fail
     go_quiet (fail)
     go_wp2_with fail
     exact ⟨⟨j + 1, by omega, by go_num, ⟨CW.out.drewN _⟩⟩, by simp [intOf]; omega⟩
   · have hjm : j = m := by omega
     subst hjm
     go_wp2_with fail
     go_ret
     exact ⟨rfl, CW.out⟩
set_option maxRecDepth 100000 in
theorem levents_calls (A B : Option Addr) (c d m : Nat) (l : List Ev) (hm : l.length = m) (w : World) (h : Rd Evv w A c l) (k : Rd Evv w B d l) :
   Calls Tryz.prog 14 #[.slice A m c, .slice B m d] w fun e w' => e = .returned (.bool true) /\ Ch [] w w' := by
 have hlen := h.len63 hm
 have H := Ad h
 have K := Ad k
 have HM := Ad hm
 clear h k hm
 go_enter Tryz.func14, Tryz.ntmps14
 go_wp2_with fail
 go_loopw [5] (fun i wr => ∃ j : Nat, j <= m /\ i = .int .i64 j /\ Aside0 (Ch [] w wr)) (fun i _ => m - (intOf i).toNat)
 case atStart => exact ⟨0, by omega, rfl, ⟨Ch.refl _ _⟩⟩
 case round =>
   obtain ⟨j, hj, rfl, CW⟩ := hrel
   by_cases hlt : j < m
   · obtain ⟨x, hx⟩ : ∃ x, l[j]? = some x := ⟨_, List.getElem?_eq_getElem (by rw [HM.out]; exact hlt)⟩
     obtain ⟨g, o, rfl, hrc⟩ := (H.out.on CW.out).cells hx
     obtain ⟨g2, o2, rfl, hrc2⟩ := (K.out.on CW.out).cells hx
     have a0 : wr.cell? ⟨g, o + j * 15, none⟩ = some (.int .i64 x.tick) := hrc 0 _ rfl
     have a1 : wr.cell? ⟨g, o + j * 15 + 1, none⟩ = some (.int .i64 x.node) := hrc 1 _ rfl
     have a2 : wr.cell? ⟨g, o + j * 15 + 2, none⟩ = some (.int .i64 x.kind) := hrc 2 _ rfl
     have a3 : wr.cell? ⟨g, o + j * 15 + 3, none⟩ = some (.int .i64 x.f.id) := hrc 3 _ rfl
     have a4 : wr.cell? ⟨g, o + j * 15 + 4, none⟩ = some (.bool x.f.ext) := hrc 4 _ rfl
     have a5 : wr.cell? ⟨g, o + j * 15 + 5, none⟩ = some (.bool x.f.rtr) := hrc 5 _ rfl
     have a6 : wr.cell? ⟨g, o + j * 15 + 6, none⟩ = some (.int .i64 x.f.len) := hrc 6 _ rfl
     have a7 : wr.cell? ⟨g, o + j * 15 + 7, none⟩ = some (.int .u8 x.f.d0) := hrc 7 _ rfl
     have a8 : wr.cell? ⟨g, o + j * 15 + 8, none⟩ = some (.int .u8 x.f.d1) := hrc 8 _ rfl
     have a9 : wr.cell? ⟨g, o + j * 15 + 9, none⟩ = some (.int .u8 x.f.d2) := hrc 9 _ rfl
     have a10 : wr.cell? ⟨g, o + j * 15 + 10, none⟩ = some (.int .u8 x.f.d3) := hrc 10 _ rfl
     have a11 : wr.cell? ⟨g, o + j * 15 + 11, none⟩ = some (.int .u8 x.f.d4) := hrc 11 _ rfl
     have a12 : wr.cell? ⟨g, o + j * 15 + 12, none⟩ = some (.int .u8 x.f.d5) := hrc 12 _ rfl
     have a13 : wr.cell? ⟨g, o + j * 15 + 13, none⟩ = some (.int .u8 x.f.d6) := hrc 13 _ rfl
     have a14 : wr.cell? ⟨g, o + j * 15 + 14, none⟩ = some (.int .u8 x.f.d7) := hrc 14 _ rfl
     have b0 : wr.cell? ⟨g2, o2 + j * 15, none⟩ = some (.int .i64 x.tick) := hrc2 0 _ rfl
     have b1 : wr.cell? ⟨g2, o2 + j * 15 + 1, none⟩ = some (.int .i64 x.node) := hrc2 1 _ rfl
     have b2 : wr.cell? ⟨g2, o2 + j * 15 + 2, none⟩ = some (.int .i64 x.kind) := hrc2 2 _ rfl
     have b3 : wr.cell? ⟨g2, o2 + j * 15 + 3, none⟩ = some (.int .i64 x.f.id) := hrc2 3 _ rfl
     have b4 : wr.cell? ⟨g2, o2 + j * 15 + 4, none⟩ = some (.bool x.f.ext) := hrc2 4 _ rfl
     have b5 : wr.cell? ⟨g2, o2 + j * 15 + 5, none⟩ = some (.bool x.f.rtr) := hrc2 5 _ rfl
     have b6 : wr.cell? ⟨g2, o2 + j * 15 + 6, none⟩ = some (.int .i64 x.f.len) := hrc2 6 _ rfl
     have b7 : wr.cell? ⟨g2, o2 + j * 15 + 7, none⟩ = some (.int .u8 x.f.d0) := hrc2 7 _ rfl
     have b8 : wr.cell? ⟨g2, o2 + j * 15 + 8, none⟩ = some (.int .u8 x.f.d1) := hrc2 8 _ rfl
     have b9 : wr.cell? ⟨g2, o2 + j * 15 + 9, none⟩ = some (.int .u8 x.f.d2) := hrc2 9 _ rfl
     have b10 : wr.cell? ⟨g2, o2 + j * 15 + 10, none⟩ = some (.int .u8 x.f.d3) := hrc2 10 _ rfl
     have b11 : wr.cell? ⟨g2, o2 + j * 15 + 11, none⟩ = some (.int .u8 x.f.d4) := hrc2 11 _ rfl
     have b12 : wr.cell? ⟨g2, o2 + j * 15 + 12, none⟩ = some (.int .u8 x.f.d5) := hrc2 12 _ rfl
     have b13 : wr.cell? ⟨g2, o2 + j * 15 + 13, none⟩ = some (.int .u8 x.f.d6) := hrc2 13 _ rfl
     have b14 : wr.cell? ⟨g2, o2 + j * 15 + 14, none⟩ = some (.int .u8 x.f.d7) := hrc2 14 _ rfl
     have k0 : (0 : Int) <= (j : Int) := by omega
     have k1 : (j : Int) < (m : Int) := by omega
     have NE : ∀ w : World, (binOp .neq 51 (.agg #[Value.int .i64 x.tick, .int .i64 x.node, .int .i64 x.kind, .int .i64 x.f.id, .bool x.f.ext, .bool x.f.rtr, .int .i64 x.f.len, .int .u8 x.f.d0, .int .u8 x.f.d1, .int .u8 x.f.d2, .int .u8 x.f.d3, .int .u8 x.f.d4, .int .u8 x.f.d5, .int .u8 x.f.d6, .int .u8 x.f.d7]) (.agg #[Value.int .i64 x.tick, .int .i64 x.node, .int .i64 x.kind, .int .i64 x.f.id, .bool x.f.ext, .bool x.f.rtr, .int .i64 x.f.len, .int .u8 x.f.d0, .int .u8 x.f.d1, .int .u8 x.f.d2, .int .u8 x.f.d3, .int .u8 x.f.d4, .int .u8 x.f.d5, .int .u8 x.f.d6, .int .u8 x.f.d7])).run Tryz.prog w = .ok (.bool false) w := fun w => neq51 x w
     clear hrc hrc2 hx
     go_wp2_with fail
     go_quiet (fail)
     go_wp2_with fail
     exact ⟨⟨j + 1, by omega, by go_num, ⟨CW.out.drewN _⟩⟩, by simp [intOf]; omega⟩
   · have hjm : j = m := by omega
     subst hjm
     go_wp2_with fail
     go_ret
     exact ⟨rfl, CW.out⟩
end Go.Proofs.YtjoehjclaonneaaGreat
