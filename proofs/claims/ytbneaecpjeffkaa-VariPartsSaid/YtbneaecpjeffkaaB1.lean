/-
  The walks of Put and of the document's answer.
-/
import Derived.Test.YtbneaecpjeffkaaA1
namespace Go.Proofs.Ytbneaecpjeffkaa
open Go.RowKit Go.Proofs.YtbneaecpjeffkaaW.PrintWords

theorem put_small {n : Nat} (h : n < 128) : Pl.put n = [(n : Int)] := by rw [Pl.put, if_pos h]
theorem put_big {n : Nat} (h : ¬ n < 128) : Pl.put n = ((n % 128 + 128 : Nat) : Int) :: Pl.put (n / 128) := by rw [Pl.put, if_neg h]
theorem put_pos (n : Nat) : 0 < (Pl.put n).length := by
  by_cases h : n < 128
  · simp [put_small h]
  · simp [put_big h]
theorem put_le : ∀ (k n : Nat), n < 128 ^ (k + 1) → (Pl.put n).length ≤ k + 1
  | 0, n, h => by rw [put_small (by simpa using h)]; simp
  | k + 1, n, h => by
    by_cases hn : n < 128
    · rw [put_small hn]; simp
    · rw [put_big hn]
      have := put_le k (n / 128) (by rw [Nat.pow_succ] at h; omega)
      simp
      omega
theorem put_ten {n : Nat} (h : n < 18446744073709551616) : (Pl.put n).length ≤ 10 := by
  have e : (128 : Nat) ^ 10 = 1180591620717411303424 := by decide
  exact put_le 9 n (by omega)
theorem put_byte : ∀ (f n : Nat), n < f → ∀ x ∈ Pl.put n, 0 ≤ x ∧ x < 256
  | 0, _, h => by omega
  | f + 1, n, h => by
    by_cases hn : n < 128
    · rw [put_small hn]
      intro x hx
      simp at hx
      omega
    · rw [put_big hn]
      intro x hx
      rcases List.mem_cons.1 hx with rfl | hx
      · omega
      · exact put_byte f (n / 128) (by omega) x hx
theorem put_rng (n : Nat) : ∀ x ∈ Pl.put n, 0 ≤ x ∧ x < 256 := put_byte (n + 1) n (by omega)

theorem wrap64_nat (n : Nat) (h : n < 18446744073709551616) : IntKind.u64.wrap (n : Int) = (n : Int) := by
  rw [IntKind.wrap_u64]
  omega
theorem make_cap (n : Nat) (hn : n ≤ 100000) : ∀ W : World, (Instr.makeSlice 22 (.int .i64 0) (.int .i64 (n : Int))).run Try.prog W = .ok (.slice (some ⟨W.heap.size, 0, none⟩) 0 n) (W.alloc (.cells (madeCells #[.int .u8 0] n) 5)) := by
  intro W
  obtain ⟨i0, hi, hz0, hz1, hz2⟩ := info_parts info5
  have hr := run_make (P := Try.prog) W 22 5 i0 (.int .u8 0) Try.underlying22 hi hz0 .i64 .i64 0 (n : Int) (by omega) (by omega) (by rw [hz2]; omega) (by omega)
  simp only [Int.toNat_natCast] at hr
  rw [hz1, Nat.mul_one] at hr
  exact hr
theorem made_row (n : Nat) (hn : n ≤ 100000) : ∃ cur : Array Value, (∀ W : World, (Instr.makeSlice 22 (.int .i64 0) (.int .i64 (n : Int))).run Try.prog W = .ok (.slice (some ⟨W.heap.size, 0, none⟩) 0 n) (W.alloc (.cells cur 5))) ∧
    ∀ W : World, (W.alloc (.cells cur 5)).ownsRow W.heap.size 5 1 (.slice (some ⟨W.heap.size, 0, none⟩) 0 n) 0 (nums .u8 []) :=
  ⟨madeCells #[.int .u8 0] n, make_cap n hn, fun W => World.ownsRow_made W _ n (Nat.le_refl _) (by unfold maxLen; omega) (by simp [size_madeCells])⟩

def U64 : Nat := 18446744073709551616
set_option maxRecDepth 100000 in
set_option maxHeartbeats 1000000 in
theorem refput_calls (n : Nat) (hn : n < U64) (w : World) :
    Calls Try.prog 17 #[.int .u64 n] w fun e w' => ∃ A c, e = .returned (.slice A (Pl.put n).length c) ∧ Own w' w.heap.size A c (Pl.put n) ∧ Below w.heap.size w w' := by
  have H10 := Aside0.mk (put_ten hn)
  have HR := Aside0.mk (put_rng n)
  have HN := Aside0.mk hn
  clear hn
  go_enter Try.func17, Try.ntmps17
  go_wp2
  go_loopw [0, 3] (fun x v wr => ∃ (m : Nat) (pre : List Int), m ≤ n ∧ x = .int .u64 m ∧ Aside0 (Pl.put n = pre ++ Pl.put m) ∧ Aside0 (wr.ownsRow w.heap.size 5 1 v pre.length (nums .u8 pre)) ∧ Below w.heap.size w wr) (fun x _ _ => (intOf x).toNat)
  case atStart => exact ⟨n, [], by omega, rfl, ⟨rfl⟩, ⟨own_lit w w.heap.size 5 .u8 [] (Nat.le_refl _) (by decide)⟩, (Below.refl _ _).alloc (Nat.le_refl _) _⟩
  case round =>
    obtain ⟨m, pre, hm, rfl, HP, hown, hB⟩ := hrel
    have hpl : pre.length ≤ 10 := by
      have := congrArg List.length HP.out
      have h10 := H10.out
      simp at this
      omega
    have HL := Aside0.mk hpl
    by_cases c : m < 128
    · have t1 : ¬ (127 : Int) < (m : Int) := by omega
      have t2 : (m : Int) % 256 = m := by omega
      go_wp2_with (at_builtin; refine print_append_num (w0 := w) w.heap.size rfl _ _ 22 5 .u8 1 rfl Try.underlying22 info5 (by decide) _ pre (m : Int) rfl rfl (by exact hown.out) (by exact hB) (by exact hB.size) (by have := HL.out; omega) ?_)
      intro v1 w1 hown1 hB1 _ _
      have hP := HP.out
      rw [put_small c] at hP
      rw [← hP] at hown1
      obtain ⟨A', c', rfl⟩ := own_slice hown1
      have HO := Aside0.mk hown1
      have HLn := Aside0.mk (show (Pl.put n).length = pre.length + 1 by rw [hP]; simp)
      clear hown1 hP
      go_wp2
      go_ret
      refine ⟨A', c', ?_, ⟨?_, HR.out⟩, hB1⟩
      · rw [HLn.out]; rfl
      · rw [HLn.out]; exact HO.out
    · have t1 : (127 : Int) < (m : Int) := by omega
      have hq := Aside0.mk (show IntKind.u64.wrap ((m : Int) / 128) = ((m / 128 : Nat) : Int) from by
        rw [show (m : Int) / 128 = ((m / 128 : Nat) : Int) by omega, wrap64_nat _ (by have := HN.out; unfold U64 at this; omega)])
      have hy := Aside0.mk (show (m : Int) % 128 + 128 = ((m % 128 + 128 : Nat) : Int) by omega)
      go_wp2_with (at_builtin; refine print_append_num (w0 := w) w.heap.size rfl _ _ 22 5 .u8 1 rfl Try.underlying22 info5 (by decide) _ pre ((m : Int) % 128 + 128) rfl rfl (by exact hown.out) (by exact hB) (by exact hB.size) (by have := HL.out; omega) ?_)
      intro v2 w2 hown2 hB2 _ _
      have HO := Aside0.mk hown2
      clear hown2
      go_wp2
      go_roundw
      case rel => exact ⟨m / 128, pre ++ [((m % 128 + 128 : Nat) : Int)], by omega, int_eq hq.out, ⟨by rw [HP.out, put_big c]; simp⟩, ⟨by rw [← hy.out]; simpa using HO.out⟩, hB2⟩
      case measure => simp only [hq.out]; simp [intOf]; omega
end Go.Proofs.Ytbneaecpjeffkaa
