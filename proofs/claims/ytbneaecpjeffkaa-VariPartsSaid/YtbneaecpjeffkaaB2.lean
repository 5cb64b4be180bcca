/-
  The walk of Put.
-/
import Derived.Test.YtbneaecpjeffkaaB1
namespace Go.Proofs.Ytbneaecpjeffkaa
open Go.RowKit Go.Proofs.YtbneaecpjeffkaaW.PrintWords

theorem or128_all : ∀ x : Fin 256, x.val ||| 128 = x.val % 128 + 128 := by decide +kernel
theorem or128 (m : Nat) : bits .or .u8 ((m : Int) % 256) 128 = ((m % 128 + 128 : Nat) : Int) := by
  rw [show (m : Int) % 256 = ((m % 256 : Nat) : Int) by omega, u8_or _ _ (by omega) (by omega) (by omega) (by omega)]
  have h := or128_all ⟨m % 256, by omega⟩
  simp only [Int.toNat_natCast] at h ⊢
  rw [show (128 : Int).toNat = 128 from rfl, h]
  omega
set_option maxRecDepth 100000 in
set_option maxHeartbeats 1000000 in
theorem put_calls (n : Nat) (hn : n < U64) (w : World) :
    Calls Try.prog 15 #[.int .u64 n] w fun e w' => ∃ A c, e = .returned (.slice A (Pl.put n).length c) ∧ Own w' w.heap.size A c (Pl.put n) ∧ Below w.heap.size w w' := by
  have H10 := Aside0.mk (put_ten hn)
  have HR := Aside0.mk (put_rng n)
  have HN := Aside0.mk hn
  clear hn
  obtain ⟨cur, hmk, hrow⟩ := made_row 10 (by omega)
  rw [show ((10 : Nat) : Int) = 10 from rfl] at hmk
  have HW := Aside0.mk (hrow w)
  clear hrow
  go_enter Try.func15, Try.ntmps15
  go_wp2
  go_loopw [0, 3] (fun x v wr => ∃ (m : Nat) (pre : List Int), m ≤ n ∧ x = .int .u64 m ∧ Aside0 (Pl.put n = pre ++ Pl.put m) ∧ Aside0 (wr.ownsRow w.heap.size 5 1 v pre.length (nums .u8 pre)) ∧ Below w.heap.size w wr) (fun x _ _ => (intOf x).toNat)
  case atStart => exact ⟨n, [], by omega, rfl, ⟨rfl⟩, ⟨HW.out⟩, (Below.refl _ _).alloc (Nat.le_refl _) _⟩
  case round =>
    obtain ⟨m, pre, hm, rfl, HP, hown, hB⟩ := hrel
    have hpl : pre.length ≤ 10 := by
      have := congrArg List.length HP.out
      have h10 := H10.out
      simp at this
      omega
    have HL := Aside0.mk hpl
    by_cases c : m < 128
    · have t1 : ¬ (128 : Int) ≤ (m : Int) := by omega
      have t2 : (m : Int) % 256 = m := by omega
      go_wp2_with (at_builtin; refine print_append_num (w0 := w) w.heap.size rfl _ _ 22 5 .u8 1 rfl Try.underlying22 info5 (by decide) _ pre (m : Int) rfl rfl (by exact hown.out) (by exact hB) (by exact hB.size) (by have := HL.out; omega) ?_)
      intro v1 w1 hown1 hB1 _ _
      have hP := HP.out
      rw [put_small c] at hP
      rw [← hP] at hown1
      obtain ⟨A', c', rfl⟩ := own_slice hown1
      have HO := Aside0.mk hown1
      have HLn := Aside0.mk (show (Pl.put n).length = pre.length + 1 by rw [hP]; simp)
      clear hown1 hP
      go_wp2
      go_ret
      refine ⟨A', c', ?_, ⟨?_, HR.out⟩, hB1⟩
      · rw [HLn.out]; rfl
      · rw [HLn.out]; exact HO.out
    · have t1 : (128 : Int) ≤ (m : Int) := by omega
      have hq := Aside0.mk (show IntKind.u64.wrap ((m : Int) / 128) = ((m / 128 : Nat) : Int) from by
        rw [show (m : Int) / 128 = ((m / 128 : Nat) : Int) by omega, wrap64_nat _ (by have := HN.out; unfold U64 at this; omega)])
      have hy := Aside0.mk (or128 m)
      go_wp2_with (at_builtin; refine print_append_num (w0 := w) w.heap.size rfl _ _ 22 5 .u8 1 rfl Try.underlying22 info5 (by decide) _ pre (bits .or .u8 ((m : Int) % 256) 128) rfl rfl (by exact hown.out) (by exact hB) (by exact hB.size) (by have := HL.out; omega) ?_)
      intro v2 w2 hown2 hB2 _ _
      have HO := Aside0.mk hown2
      clear hown2
      go_wp2
      go_roundw
      case rel => exact ⟨m / 128, pre ++ [((m % 128 + 128 : Nat) : Int)], by omega, int_eq (by omega), ⟨by rw [HP.out, put_big c]; simp⟩, ⟨by rw [← hy.out]; simpa using HO.out⟩, hB2⟩
      case measure => simp [intOf]; omega
end Go.Proofs.Ytbneaecpjeffkaa
