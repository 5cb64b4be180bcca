/-
  Plain facts on whole numbers as bytes, seven bits each: no Go in it.
-/
namespace Go.Proofs.Ytbneaecpjeffkaa.Pl

/-- The bytes of a number. -/
def put (n : Nat) : List Int := if n < 128 then [(n : Int)] else ((n % 128 + 128 : Nat) : Int) :: put (n / 128)
termination_by n
decreasing_by omega

/-- The number that bytes begin with, i bytes having been gone through, which made n; how many these are; and what is wrong. -/
def getFrom : List Int → Nat → Nat → Nat × Nat × Int
  | [], _, _ => (0, 0, 13)
  | x :: r, i, n => if i = 9 ∧ 1 < x then (0, 0, 10) else if x = 0 ∧ 0 < i then (0, 0, 11) else
      if x < 128 then (n + x.toNat % 128 * 128 ^ i, i + 1, 0) else getFrom r (i + 1) (n + x.toNat % 128 * 128 ^ i)
def get (l : List Int) : Nat × Nat × Int := getFrom l 0 0

theorem getFrom_bound : ∀ (l : List Int) (i n : Nat), (getFrom l i n).2.2 = 0 → i < (getFrom l i n).2.1 ∧ (getFrom l i n).2.1 ≤ i + l.length
  | [], i, n => by simp [getFrom]
  | x :: r, i, n => by
    unfold getFrom
    split
    · simp
    · split
      · simp
      · split
        · simp
        · intro h
          have := getFrom_bound r (i + 1) _ h
          simp only [List.length_cons]
          omega
theorem get_bound {l : List Int} (h : (get l).2.2 = 0) : 0 < (get l).2.1 ∧ (get l).2.1 ≤ l.length := by
  have := getFrom_bound l 0 0 h
  unfold get
  omega
theorem getFrom_code : ∀ (l : List Int) (i n : Nat), (getFrom l i n).2.2 = 0 ∨ ((getFrom l i n).2.2 = 10 ∨ (getFrom l i n).2.2 = 11 ∨ (getFrom l i n).2.2 = 13) ∧ (getFrom l i n).1 = 0 ∧ (getFrom l i n).2.1 = 0
  | [], i, n => by simp [getFrom]
  | x :: r, i, n => by
    unfold getFrom
    split
    · simp
    · split
      · simp
      · split
        · simp
        · exact getFrom_code r (i + 1) _

/-- The numbers of bytes, the place of those that are left, what came so far. -/
def allFrom : Nat → List Int → Nat → List Int → List Int × Nat × Int
  | 0, _, _, out => (out, 0, 0)
  | f + 1, l, at_, out => if l = [] then (out, 0, 0) else if (get l).2.2 = 0 then allFrom f (l.drop (get l).2.1) (at_ + (get l).2.1) (out ++ [((get l).1 : Int)]) else ([], at_, (get l).2.2)
def all (l : List Int) : List Int × Nat × Int := allFrom (l.length + 1) l 0 []
/-- More rounds give the same. -/
theorem allFrom_more : ∀ (f g : Nat) (l : List Int) (a : Nat) (out : List Int), l.length < f → l.length < g → allFrom f l a out = allFrom g l a out
  | 0, _, _, _, _, h, _ => by omega
  | f + 1, 0, _, _, _, _, h => by omega
  | f + 1, g + 1, l, a, out, h1, h2 => by
    unfold allFrom
    split
    · rfl
    · split
      · rename_i hl he
        have hb := get_bound he
        exact allFrom_more f g _ _ _ (by rw [List.length_drop]; omega) (by rw [List.length_drop]; omega)
      · rfl
end Go.Proofs.Ytbneaecpjeffkaa.Pl
