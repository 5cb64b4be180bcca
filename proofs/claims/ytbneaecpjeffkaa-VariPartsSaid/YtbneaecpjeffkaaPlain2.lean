/-
  Plain facts: what is put is got, and what is got is put.
-/
import Derived.Test.YtbneaecpjeffkaaPlain
namespace Go.Proofs.Ytbneaecpjeffkaa.Pl

theorem put_lt {n : Nat} (h : n < 128) : put n = [(n : Int)] := by rw [put, if_pos h]
theorem put_ge {n : Nat} (h : ¬ n < 128) : put n = ((n % 128 + 128 : Nat) : Int) :: put (n / 128) := by rw [put, if_neg h]
theorem put_one (n : Nat) : 0 < (put n).length := by
  by_cases h : n < 128
  · simp [put_lt h]
  · simp [put_ge h]
theorem p9 : (128 : Nat) ^ 9 = 9223372036854775808 := by decide

theorem getFrom_put : ∀ (f m i n : Nat) (r : List Int), m < f → i ≤ 9 → (0 < i → 0 < m) → n + m * 128 ^ i < 18446744073709551616 →
    getFrom (put m ++ r) i n = (n + m * 128 ^ i, i + (put m).length, 0)
  | 0, _, _, _, _, h, _, _, _ => by omega
  | f + 1, m, i, n, r, h, h9, hp, hlt => by
    by_cases c : m < 128
    · rw [put_lt c]
      simp only [List.cons_append, List.nil_append, List.length_singleton]
      have e9 : ¬ (i = 9 ∧ (1 : Int) < (m : Int)) := by
        rintro ⟨rfl, h1⟩
        rw [p9] at hlt
        omega
      have e0 : ¬ ((m : Int) = 0 ∧ 0 < i) := by
        rintro ⟨h1, h2⟩
        have := hp h2
        omega
      rw [getFrom, if_neg e9, if_neg e0, if_pos (by omega), Int.toNat_natCast, Nat.mod_eq_of_lt c]
    · have e9 : ¬ (i = 9 ∧ (1 : Int) < ((m % 128 + 128 : Nat) : Int)) := by
        rintro ⟨rfl, h1⟩
        rw [p9] at hlt
        omega
      rw [put_ge c]
      simp only [List.cons_append, List.length_cons]
      have e8 : i + 1 ≤ 9 := by
        rcases Nat.lt_or_ge i 9 with h | h
        · omega
        · exact absurd ⟨by omega, by omega⟩ e9
      have e : (m % 128 + 128) % 128 = m % 128 := by omega
      have em : m % 128 * 128 ^ i + m / 128 * 128 ^ (i + 1) = m * 128 ^ i := by
        rw [Nat.pow_succ, Nat.mul_comm (128 ^ i) 128, ← Nat.mul_assoc, ← Nat.add_mul, show m % 128 + m / 128 * 128 = m by omega]
      rw [getFrom, if_neg e9, if_neg (by omega), if_neg (by omega), Int.toNat_natCast, e,
        getFrom_put f (m / 128) (i + 1) (n + m % 128 * 128 ^ i) r (by omega) e8 (fun _ => by omega) (by omega)]
      rw [Nat.add_assoc, em]
      simp only [Prod.mk.injEq, and_true, true_and]
      omega
theorem get_put (n : Nat) (h : n < 18446744073709551616) (r : List Int) : get (put n ++ r) = (n, (put n).length, 0) := by
  unfold get
  rw [getFrom_put (n + 1) n 0 0 r (by omega) (by omega) (by omega) (by simpa using h)]
  simp

theorem put_getFrom : ∀ (l : List Int) (i n : Nat), (∀ x ∈ l, 0 ≤ x ∧ x < 256) → (getFrom l i n).2.2 = 0 →
    ∃ m, (getFrom l i n).1 = n + m * 128 ^ i ∧ put m = l.take ((getFrom l i n).2.1 - i) ∧ i < (getFrom l i n).2.1 ∧ (0 < i → 0 < m)
  | [], i, n, _, h => by simp [getFrom] at h
  | x :: r, i, n, hb, h => by
    have hx := hb x (by simp)
    unfold getFrom at h ⊢
    split
    · rename_i c
      rw [if_pos c] at h
      simp at h
    · rename_i c1
      rw [if_neg c1] at h
      split
      · rename_i c
        rw [if_pos c] at h
        simp at h
      · rename_i c2
        rw [if_neg c2] at h
        split
        · rename_i c3
          refine ⟨x.toNat, ?_, ?_, by simp, fun hi => ?_⟩
          · simp only
            rw [Nat.mod_eq_of_lt (by omega)]
          · rw [put_lt (by omega)]
            simp
            omega
          · by_cases hz : x = 0
            · exact absurd ⟨hz, hi⟩ c2
            · omega
        · rename_i c3
          rw [if_neg c3] at h
          obtain ⟨m, h1, h2, h3, h4⟩ := put_getFrom r (i + 1) (n + x.toNat % 128 * 128 ^ i) (fun y hy => hb y (by simp [hy])) h
          have hm := h4 (by omega)
          refine ⟨x.toNat % 128 + m * 128, ?_, ?_, by omega, fun _ => by omega⟩
          · rw [h1, Nat.add_assoc, Nat.pow_succ, Nat.mul_comm (128 ^ i) 128, ← Nat.mul_assoc, ← Nat.add_mul]
          · rw [put_ge (by omega), show (x.toNat % 128 + m * 128) / 128 = m by omega, h2,
              show (getFrom r (i + 1) (n + x.toNat % 128 * 128 ^ i)).2.1 - i = ((getFrom r (i + 1) (n + x.toNat % 128 * 128 ^ i)).2.1 - (i + 1)) + 1 by omega, List.take_succ_cons]
            congr 1
            omega
theorem put_get {l : List Int} (hb : ∀ x ∈ l, 0 ≤ x ∧ x < 256) (h : (get l).2.2 = 0) : put (get l).1 = l.take (get l).2.1 := by
  obtain ⟨m, h1, h2, _, _⟩ := put_getFrom l 0 0 hb h
  unfold get
  rw [show (getFrom l 0 0).1 = m by rw [h1]; simp]
  simpa using h2
end Go.Proofs.Ytbneaecpjeffkaa.Pl
