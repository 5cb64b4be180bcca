/-
  Plain facts on the sum of 32 bits: no Go in it. A step of the sum; its rows.
-/
namespace Go.Proofs.Ytodpgcakciaefaa.Pl

/-- One eighth of a step: the half, and xor 0xEDB88320 where the number is odd. -/
def one (x : Nat) : Nat := (x / 2) ^^^ (x % 2 * 3988292384)
/-- k eighths. -/
def ones : Nat → Nat → Nat
  | 0, x => x
  | k + 1, x => one (ones k x)
/-- A byte comes. -/
def byte (x c : Nat) : Nat := ones 8 (x ^^^ c)
/-- Bytes come, the first one first. -/
def run (x : Nat) (l : List Int) : Nat := l.foldl (fun x c => byte x c.toNat) x
/-- The sum of bytes. -/
def sum (l : List Int) : Nat := run 4294967295 l ^^^ 4294967295

theorem one_lt {x : Nat} (h : x < 4294967296) : one x < 4294967296 := by
  unfold one
  have h1 : x / 2 < 2 ^ 32 := by omega
  have h2 : x % 2 * 3988292384 < 2 ^ 32 := by omega
  exact Nat.xor_lt_two_pow (n := 32) h1 h2
theorem ones_lt {x : Nat} (h : x < 4294967296) : ∀ k, ones k x < 4294967296
  | 0 => h
  | k + 1 => one_lt (ones_lt h k)
theorem byte_lt {x c : Nat} (h : x < 4294967296) (hc : c < 256) : byte x c < 4294967296 :=
  ones_lt (Nat.xor_lt_two_pow (n := 32) h (by omega)) 8
theorem run_lt {l : List Int} : ∀ {x : Nat}, x < 4294967296 → (∀ c ∈ l, c < 256) → run x l < 4294967296 := by
  induction l with
  | nil => intro x h _; exact h
  | cons c l ih =>
    intro x h hc
    have h1 : c.toNat < 256 := by have := hc c (by simp); omega
    exact ih (x := byte x c.toNat) (byte_lt h h1) (fun d hd => hc d (by simp [hd]))
theorem sum_lt {l : List Int} (hc : ∀ c ∈ l, c < 256) : sum l < 4294967296 :=
  Nat.xor_lt_two_pow (n := 32) (run_lt (by omega) hc) (by omega)
theorem run_snoc (x : Nat) (l : List Int) (c : Int) : run x (l ++ [c]) = byte (run x l) c.toNat := by
  simp [run]

/-! ### The sum is linear -/
theorem one_xor (x y : Nat) : one (x ^^^ y) = one x ^^^ one y := by
  unfold one
  have h1 : (x ^^^ y) / 2 = x / 2 ^^^ y / 2 := by
    have := Nat.shiftRight_xor_distrib (a := x) (b := y) (i := 1)
    simpa only [Nat.shiftRight_eq_div_pow, Nat.pow_one] using this
  have h2 : (x ^^^ y) % 2 = x % 2 ^^^ y % 2 := by
    have := Nat.xor_mod_two_pow (a := x) (b := y) (n := 1)
    simpa using this
  have h3 : (x % 2 ^^^ y % 2) * 3988292384 = x % 2 * 3988292384 ^^^ y % 2 * 3988292384 := by
    rcases Nat.mod_two_eq_zero_or_one x with hx | hx <;> rcases Nat.mod_two_eq_zero_or_one y with hy | hy <;> rw [hx, hy] <;> simp
  rw [h1, h2, h3]
  ac_rfl
theorem ones_xor (x y : Nat) : ∀ k, ones k (x ^^^ y) = ones k x ^^^ ones k y
  | 0 => rfl
  | k + 1 => by simp only [ones]; rw [ones_xor x y k, one_xor]
theorem byte_xor (x y c d : Nat) : byte (x ^^^ y) (c ^^^ d) = byte x c ^^^ byte y d := by
  unfold byte
  rw [← ones_xor]
  congr 1
  ac_rfl
/-- Three rows at once, of which the k-th bytes are told by functions. -/
theorem run3 (f g h : Nat → Int) (a b c : Nat) : ∀ n, run (a ^^^ b ^^^ c) ((List.range n).map fun j => ((((f j).toNat ^^^ (g j).toNat ^^^ (h j).toNat : Nat)) : Int)) =
    run a ((List.range n).map f) ^^^ run b ((List.range n).map g) ^^^ run c ((List.range n).map h)
  | 0 => rfl
  | n + 1 => by
    simp only [List.range_succ, List.map_append, List.map_cons, List.map_nil, run_snoc]
    rw [run3 f g h a b c n, Int.toNat_natCast, byte_xor, byte_xor]
theorem sum3 (f g h : Nat → Int) (n : Nat) : sum ((List.range n).map fun j => ((((f j).toNat ^^^ (g j).toNat ^^^ (h j).toNat : Nat)) : Int)) =
    sum ((List.range n).map f) ^^^ sum ((List.range n).map g) ^^^ sum ((List.range n).map h) := by
  unfold sum
  have e := run3 f g h 4294967295 4294967295 4294967295 n
  rw [show (4294967295 ^^^ 4294967295 ^^^ 4294967295 : Nat) = 4294967295 from by decide] at e
  rw [e]
  generalize run 4294967295 ((List.range n).map f) = p
  generalize run 4294967295 ((List.range n).map g) = q
  generalize run 4294967295 ((List.range n).map h) = r
  have e2 : ∀ o : Nat, p ^^^ q ^^^ r ^^^ o = (p ^^^ o) ^^^ (q ^^^ o) ^^^ (r ^^^ o) := by
    intro o
    have : (p ^^^ o) ^^^ (q ^^^ o) ^^^ (r ^^^ o) = p ^^^ q ^^^ r ^^^ o ^^^ (o ^^^ o) := by ac_rfl
    rw [this, Nat.xor_self, Nat.xor_zero]
  exact e2 _

end Go.Proofs.Ytodpgcakciaefaa.Pl

/-! ### Turned bits -/
namespace Go.Proofs.Ytodpgcakciaefaa.Pl
theorem ones_succ' (x : Nat) : ∀ k, ones (k + 1) x = ones k (one x)
  | 0 => rfl
  | k + 1 => by
    show one (ones (k + 1) x) = one (ones k (one x))
    rw [ones_succ' x k]
theorem ones_add (x a : Nat) : ∀ b, ones (a + b) x = ones a (ones b x)
  | 0 => rfl
  | b + 1 => by
    rw [show a + (b + 1) = (a + b) + 1 from rfl, ones_succ', ones_add (one x) a b, ones_succ']
theorem one_zero : one 0 = 0 := by decide
theorem one_two (y : Nat) : one (2 * y) = y := by
  unfold one
  rw [show 2 * y / 2 = y from by omega, show 2 * y % 2 = 0 from by omega]
  simp
theorem ones_shift (y : Nat) : ∀ k, ones k (2 ^ k * y) = y
  | 0 => by simp [ones]
  | k + 1 => by
    rw [ones_succ', show 2 ^ (k + 1) * y = 2 * (2 ^ k * y) from by rw [Nat.pow_succ]; ac_rfl, one_two, ones_shift y k]
theorem one_ne {x : Nat} (h : x < 4294967296) (h0 : x ≠ 0) : one x ≠ 0 := by
  intro e
  unfold one at e
  have e2 : x / 2 = x % 2 * 3988292384 := by
    have := congrArg (· ^^^ (x % 2 * 3988292384)) e
    simpa [Nat.xor_assoc] using this
  omega
theorem ones_ne {x : Nat} (h : x < 4294967296) (h0 : x ≠ 0) : ∀ k, ones k x ≠ 0
  | 0 => h0
  | k + 1 => one_ne (ones_lt h k) (ones_ne h h0 k)
theorem byte_state (s d c : Nat) : byte (s ^^^ d) c = byte s c ^^^ ones 8 d := by
  have := byte_xor s d c 0
  rw [Nat.xor_zero] at this
  rw [this]
  simp [byte]
theorem run_state (d : Nat) : ∀ (l : List Int) (s : Nat), run (s ^^^ d) l = run s l ^^^ ones (8 * l.length) d
  | [], s => by simp [run, ones]
  | c :: l, s => by
    show run (byte (s ^^^ d) c.toNat) l = run (byte s c.toNat) l ^^^ _
    rw [byte_state]
    generalize byte s c.toNat = s'
    have h := fun d' => run_state d' l s'
    rw [h (ones 8 d), ← ones_add, List.length_cons, show 8 * l.length + 8 = 8 * (l.length + 1) from by omega]
end Go.Proofs.Ytodpgcakciaefaa.Pl
