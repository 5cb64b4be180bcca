/-
  Numbers of 64 bits: seven bits more.
-/
import Derived.Test.YtbneaecpjeffkaaV
import Derived.Test.YtbneaecpjeffkaaPlain
namespace Go.Proofs.Ytbneaecpjeffkaa
open Go.RowKit Go.Proofs.YtbneaecpjeffkaaW.PrintWords

theorem and127 (x : Int) (h0 : 0 ≤ x) (h1 : x < 256) : bits .and .u8 x 127 = ((x.toNat % 128 : Nat) : Int) := by
  rw [u8_and x 127 h0 h1 (by omega) (by omega)]
  have : x.toNat &&& (127 : Int).toNat = x.toNat % 128 := Nat.and_two_pow_sub_one_eq_mod x.toNat 7
  rw [this]
theorem pow128 (j : Nat) : (2 : Int) ^ (7 * j) = ((128 ^ j : Nat) : Int) := by
  rw [Int.natCast_pow, Int.pow_mul]
  rfl
theorem pow_le9 (j : Nat) (h : j ≤ 9) : 128 ^ j ≤ 9223372036854775808 := by
  have : (128 : Nat) ^ j ≤ 128 ^ 9 := Nat.pow_le_pow_right (by omega) h
  have e : (128 : Nat) ^ 9 = 9223372036854775808 := by decide
  omega
theorem pow_le8 (j : Nat) (h : j ≤ 8) : 128 ^ j ≤ 72057594037927936 := by
  have : (128 : Nat) ^ j ≤ 128 ^ 8 := Nat.pow_le_pow_right (by omega) h
  have e : (128 : Nat) ^ 8 = 72057594037927936 := by decide
  omega
theorem seven_lt (m j : Nat) (x : Int) (hm : m < 128 ^ j) (hj : j ≤ 9) (h9 : j = 9 → x ≤ 1) (h0 : 0 ≤ x) : x.toNat % 128 * 128 ^ j ≤ 9223372036854775808 ∧ m + x.toNat % 128 * 128 ^ j < 128 ^ (j + 1) ∧ m + x.toNat % 128 * 128 ^ j < 18446744073709551616 := by
  have hp := pow_le9 j hj
  have hy : x.toNat % 128 ≤ 127 := by omega
  have e1 : 128 ^ (j + 1) = 128 * 128 ^ j := by rw [Nat.pow_succ, Nat.mul_comm]
  have e2 : x.toNat % 128 * 128 ^ j ≤ 127 * 128 ^ j := Nat.mul_le_mul_right _ hy
  rw [e1]
  by_cases h : j = 9
  · have hx : x.toNat % 128 ≤ 1 := by have := h9 h; omega
    have e3 : x.toNat % 128 * 128 ^ j ≤ 1 * 128 ^ j := Nat.mul_le_mul_right _ hx
    generalize 128 ^ j = p at *
    generalize x.toNat % 128 * p = y at *
    omega
  · have hp8 := pow_le8 j (by omega)
    generalize 128 ^ j = p at *
    generalize x.toNat % 128 * p = y at *
    omega
theorem or_add (m j y : Nat) (hm : m < 128 ^ j) : m ||| y * 128 ^ j = m + y * 128 ^ j := by
  have e : (128 : Nat) ^ j = 2 ^ (7 * j) := by rw [Nat.pow_mul]
  rw [e] at hm ⊢
  have := Nat.two_pow_add_eq_or_of_lt hm y
  rw [Nat.mul_comm y, Nat.or_comm, ← this, Nat.add_comm]
theorem or_val (m j : Nat) (x : Int) (hm : m < 128 ^ j) (hj : j ≤ 9) (h9 : j = 9 → x ≤ 1) (h0 : 0 ≤ x) (h1 : x < 256) :
    bits .or .u64 (m : Int) (IntKind.u64.wrap (IntKind.u64.wrap (bits .and .u8 x 127) * 2 ^ (7 * j))) = ((m + x.toNat % 128 * 128 ^ j : Nat) : Int) := by
  obtain ⟨s1, s2, s3⟩ := seven_lt m j x hm hj h9 h0
  have w : ∀ n : Nat, n < 18446744073709551616 → IntKind.u64.wrap (n : Int) = (n : Int) := by
    intro n hn
    simp [IntKind.wrap, IntKind.bits, IntKind.signed]
    omega
  rw [and127 x h0 h1, w _ (by omega), pow128, ← Int.natCast_mul, w _ (by omega), u64_or_nat _ _ (by omega) (by omega), or_add m j _ hm]
end Go.Proofs.Ytbneaecpjeffkaa
