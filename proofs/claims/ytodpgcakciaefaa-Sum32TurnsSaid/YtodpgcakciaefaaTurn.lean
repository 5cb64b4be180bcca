/-
  Plain facts on turned bits: what a turned bit does to the register; sealed bytes leave one known register.
-/
import Derived.Test.YtodpgcakciaefaaPlain
namespace Go.Proofs.Ytodpgcakciaefaa.Pl

theorem low_high (t k : Nat) : t = t % 2 ^ k ^^^ 2 ^ k * (t / 2 ^ k) := by
  apply Nat.eq_of_testBit_eq
  intro i
  rw [Nat.testBit_xor, Nat.testBit_mod_two_pow, Nat.testBit_two_pow_mul, Nat.testBit_div_two_pow]
  by_cases h : i < k
  · simp [h, show ¬ k ≤ i by omega]
  · simp [h, show k ≤ i by omega]
/-- The register behind the bytes of a number, the least first: as if it came at once. -/
theorem byte_low (x t : Nat) : byte x (t % 256) ^^^ t / 256 = ones 8 (x ^^^ t) := by
  have h := low_high t 8
  rw [show (2 : Nat) ^ 8 = 256 from rfl] at h
  have e : x ^^^ t = (x ^^^ t % 256) ^^^ 256 * (t / 256) := by rw [Nat.xor_assoc, ← h]
  rw [e, ones_xor, show 256 * (t / 256) = 2 ^ 8 * (t / 256) from rfl, ones_shift]
  rfl
theorem run_four (x t : Nat) (ht : t < 4294967296) : run x [((t % 256 : Nat) : Int), ((t / 256 % 256 : Nat) : Int), ((t / 65536 % 256 : Nat) : Int), ((t / 16777216 % 256 : Nat) : Int)] = ones 32 (x ^^^ t) := by
  simp only [run, List.foldl_cons, List.foldl_nil, Int.toNat_natCast]
  have e0 := byte_low x t
  have e1 := byte_low (byte x (t % 256)) (t / 256)
  have e2 := byte_low (byte (byte x (t % 256)) (t / 256 % 256)) (t / 65536)
  have e3 := byte_low (byte (byte (byte x (t % 256)) (t / 256 % 256)) (t / 65536 % 256)) (t / 16777216)
  rw [show t / 256 / 256 = t / 65536 from by omega] at e1
  rw [show t / 65536 / 256 = t / 16777216 from by omega] at e2
  rw [show t / 16777216 / 256 = 0 from by omega, Nat.xor_zero] at e3
  rw [e3, e2, ← ones_add, e1, ← ones_add, e0, ← ones_add]

/-- A turned bit: the b-th one of the j-th byte. -/
theorem run_turn (x : Nat) (l : List Int) (j b : Nat) (hj : j < l.length) (hb : b < 8) (v : Nat) (hv : (l.getD j 0).toNat = v) :
    run x (l.set j ((v ^^^ 2 ^ b : Nat) : Int)) = run x l ^^^ ones (8 * (l.length - j) - b) 1 := by
  have hsplit : l = l.take j ++ l.getD j 0 :: l.drop (j + 1) := by
    rw [List.getD_eq_getElem?_getD, List.getElem?_eq_getElem hj]
    simp
  have hset : l.set j ((v ^^^ 2 ^ b : Nat) : Int) = l.take j ++ ((v ^^^ 2 ^ b : Nat) : Int) :: l.drop (j + 1) := by
    rw [List.set_eq_take_append_cons_drop, if_pos hj]
  have hrun : ∀ (a c : List Int) (y : Nat), run y (a ++ c) = run (run y a) c := fun a c y => by simp [run]
  rw [hset, hrun]
  have e0 : run x l = run (run x (l.take j)) (l.getD j 0 :: l.drop (j + 1)) := by rw [← hrun, ← hsplit]
  rw [e0]
  generalize run x (l.take j) = s
  show run (byte s _) _ = run (byte s _) _ ^^^ _
  rw [Int.toNat_natCast, hv]
  have e1 : byte s (v ^^^ 2 ^ b) = byte s v ^^^ ones (8 - b) 1 := by
    have := byte_xor s 0 v (2 ^ b)
    rw [Nat.xor_zero] at this
    rw [this]
    congr 1
    show ones 8 (0 ^^^ 2 ^ b) = _
    rw [Nat.zero_xor, show 8 = (8 - b) + b from by omega, ones_add, show (2 : Nat) ^ b = 2 ^ b * 1 from by rw [Nat.mul_one], ones_shift, show 8 - b + b - b = 8 - b from by omega]
  rw [e1, run_state, ← ones_add]
  congr 2
  rw [List.length_drop]
  omega

/-- The bits of a number that have been gone through, one more. -/
theorem low_succ (p i : Nat) : p % 2 ^ (i + 1) = if p.testBit i then p % 2 ^ i ^^^ 2 ^ i else p % 2 ^ i := by
  apply Nat.eq_of_testBit_eq
  intro k
  rw [Nat.testBit_mod_two_pow]
  by_cases hp : p.testBit i
  · rw [if_pos hp, Nat.testBit_xor, Nat.testBit_mod_two_pow, Nat.testBit_two_pow]
    by_cases hk : k = i
    · subst hk; simp [hp]
    · by_cases hlt : k < i
      · simp [hlt, show k < i + 1 by omega, show ¬ i = k by omega]
      · simp [hlt, show ¬ k < i + 1 by omega, show ¬ i = k by omega]
  · rw [if_neg hp, Nat.testBit_mod_two_pow]
    by_cases hk : k = i
    · subst hk; simp [hp]
    · by_cases hlt : k < i
      · simp [hlt, show k < i + 1 by omega]
      · simp [hlt, show ¬ k < i + 1 by omega]
/-- The register turns by what these bits make of it. -/
theorem turned_step (R p M i : Nat) (hi : i ≤ M) (hp : p.testBit i = true) : (R ^^^ ones M (p % 2 ^ i)) ^^^ ones (M - i) 1 = R ^^^ ones M (p % 2 ^ (i + 1)) := by
  rw [low_succ, if_pos hp, ones_xor, Nat.xor_assoc]
  congr 2
  have e : ones M (2 ^ i) = ones (M - i) 1 := by
    have h := ones_add (2 ^ i) (M - i) i
    rw [show M - i + i = M from by omega] at h
    rw [h, show (2 : Nat) ^ i = 2 ^ i * 1 from by rw [Nat.mul_one], ones_shift]
  rw [e]
theorem turned_stay (p i : Nat) (hp : p.testBit i = false) : p % 2 ^ (i + 1) = p % 2 ^ i := by
  rw [low_succ, hp]; rfl
end Go.Proofs.Ytodpgcakciaefaa.Pl
