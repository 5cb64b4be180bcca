/-
  Plain facts: numbers of bytes that lie one behind the other.
-/
import Derived.Test.YtbneaecpjeffkaaPlain2
namespace Go.Proofs.Ytbneaecpjeffkaa.Pl

theorem getFrom_app (r : List Int) : ∀ (l : List Int) (i n : Nat), (getFrom l i n).2.2 ≠ 13 → getFrom (l ++ r) i n = getFrom l i n
  | [], i, n, h => by simp [getFrom] at h
  | x :: l, i, n, h => by
    rw [List.cons_append]
    unfold getFrom at h ⊢
    split
    · rfl
    · rename_i c1
      rw [if_neg c1] at h
      split
      · rfl
      · rename_i c2
        rw [if_neg c2] at h
        split
        · rfl
        · rename_i c3
          rw [if_neg c3] at h
          exact getFrom_app r l (i + 1) _ h
theorem get_app {l : List Int} (r : List Int) (h : (get l).2.2 ≠ 13) : get (l ++ r) = get l := getFrom_app r l 0 0 h

/-- What all numbers of bytes tell, in terms of the first. -/
theorem allFrom_nil (f a : Nat) (out : List Int) : allFrom f [] a out = (out, 0, 0) := by cases f <;> simp [allFrom]
theorem allFrom_step {f a : Nat} {l out : List Int} (h : l ≠ []) (he : (get l).2.2 = 0) : allFrom (f + 1) l a out = allFrom f (l.drop (get l).2.1) (a + (get l).2.1) (out ++ [((get l).1 : Int)]) := by
  simp only [allFrom, if_neg h, if_pos he]
theorem allFrom_err {f a : Nat} {l out : List Int} (h : l ≠ []) (he : (get l).2.2 ≠ 0) : allFrom (f + 1) l a out = ([], a, (get l).2.2) := by
  simp only [allFrom, if_neg h, if_neg he]

/-- Moved, and with numbers ahead. -/
theorem allFrom_shift : ∀ (f : Nat) (l : List Int) (a s : Nat) (o out : List Int), l.length < f →
    allFrom f l (a + s) (o ++ out) = if (allFrom f l a out).2.2 = 0 then (o ++ (allFrom f l a out).1, 0, 0) else ([], (allFrom f l a out).2.1 + s, (allFrom f l a out).2.2)
  | 0, _, _, _, _, _, h => by omega
  | f + 1, l, a, s, o, out, h => by
    by_cases hl : l = []
    · subst hl
      simp [allFrom_nil]
    · by_cases he : (get l).2.2 = 0
      · have hb := get_bound he
        rw [allFrom_step hl he, allFrom_step hl he, List.append_assoc, show a + s + (get l).2.1 = a + (get l).2.1 + s by omega]
        exact allFrom_shift f _ _ s o _ (by rw [List.length_drop]; omega)
      · rw [allFrom_err hl he, allFrom_err hl he]
        simp [he]
/-- An error tells no numbers, and where it is; none tells no place. -/
theorem allFrom_form : ∀ (f : Nat) (l : List Int) (a : Nat) (out : List Int), l.length < f →
    ((allFrom f l a out).2.2 = 0 ∧ (allFrom f l a out).2.1 = 0) ∨ ((allFrom f l a out).2.2 ≠ 0 ∧ (allFrom f l a out).1 = [] ∧ a ≤ (allFrom f l a out).2.1 ∧ (allFrom f l a out).2.1 < a + l.length)
  | 0, _, _, _, h => by omega
  | f + 1, l, a, out, h => by
    by_cases hl : l = []
    · subst hl
      simp [allFrom_nil]
    · have hpos : 0 < l.length := List.length_pos_iff.2 hl
      by_cases he : (get l).2.2 = 0
      · have hb := get_bound he
        rw [allFrom_step hl he]
        have ih := allFrom_form f (l.drop (get l).2.1) (a + (get l).2.1) (out ++ [((get l).1 : Int)]) (by rw [List.length_drop]; omega)
        rw [List.length_drop] at ih
        rcases ih with ih | ⟨h1, h2, h3, h4⟩
        · exact .inl ih
        · exact .inr ⟨h1, h2, by omega, by omega⟩
      · rw [allFrom_err hl he]
        exact .inr ⟨he, rfl, by simp, by simp only; omega⟩
theorem all_form (l : List Int) : ((all l).2.2 = 0 ∧ (all l).2.1 = 0) ∨ ((all l).2.2 ≠ 0 ∧ (all l).1 = [] ∧ (all l).2.1 < l.length) := by
  rcases allFrom_form (l.length + 1) l 0 [] (by omega) with h | ⟨h1, h2, _, h4⟩
  · exact .inl h
  · exact .inr ⟨h1, h2, by unfold all; omega⟩

theorem allFrom_app (r : List Int) : ∀ (f : Nat) (l : List Int) (a : Nat) (out : List Int), l.length < f →
    ((allFrom f l a out).2.2 = 0 → allFrom (f + r.length) (l ++ r) a out = allFrom (r.length + 1) r (a + l.length) (allFrom f l a out).1) ∧
    ((allFrom f l a out).2.2 ≠ 0 → (allFrom f l a out).2.2 ≠ 13 → allFrom (f + r.length) (l ++ r) a out = allFrom f l a out)
  | 0, _, _, _, h => by omega
  | f + 1, l, a, out, h => by
    by_cases hl : l = []
    · subst hl
      simp only [allFrom_nil, List.nil_append, List.length_nil, Nat.add_zero]
      exact ⟨fun _ => allFrom_more _ _ _ _ _ (by omega) (by omega), fun h => absurd rfl h⟩
    · have hlr : l ++ r ≠ [] := by simp [hl]
      by_cases he : (get l).2.2 = 0
      · have hb := get_bound he
        have hg := get_app r (l := l) (by rw [he]; decide)
        have ih := allFrom_app r f (l.drop (get l).2.1) (a + (get l).2.1) (out ++ [((get l).1 : Int)]) (by rw [List.length_drop]; omega)
        rw [show f + 1 + r.length = f + r.length + 1 by omega, allFrom_step hl he, allFrom_step hlr (by rw [hg]; exact he), hg, List.drop_append_of_le_length hb.2]
        refine ⟨fun h => ?_, ih.2⟩
        rw [ih.1 h, List.length_drop]
        congr 1
        omega
      · rw [show f + 1 + r.length = f + r.length + 1 by omega, allFrom_err hl he]
        refine ⟨fun h => absurd h he, fun _ h13 => ?_⟩
        have hg := get_app r (l := l) h13
        rw [allFrom_err hlr (by rw [hg]; exact he), hg]
/-- Both: an error of the ones ahead stays; numbers lie ahead of numbers. -/
theorem all_app_err {l : List Int} (r : List Int) (h : (all l).2.2 ≠ 0) (h13 : (all l).2.2 ≠ 13) : all (l ++ r) = all l := by
  have := (allFrom_app r (l.length + 1) l 0 [] (by omega)).2 h h13
  unfold all at h h13 ⊢
  rw [List.length_append, show l.length + r.length + 1 = l.length + 1 + r.length by omega, this]
theorem all_app {l : List Int} (r : List Int) (h : (all l).2.2 = 0) : all (l ++ r) = if (all r).2.2 = 0 then ((all l).1 ++ (all r).1, 0, 0) else ([], (all r).2.1 + l.length, (all r).2.2) := by
  have h1 := (allFrom_app r (l.length + 1) l 0 [] (by omega)).1 h
  have h2 := allFrom_shift (r.length + 1) r 0 l.length (all l).1 [] (by omega)
  rw [List.append_nil] at h2
  unfold all at h h2 ⊢
  rw [List.length_append, show l.length + r.length + 1 = l.length + 1 + r.length by omega, h1, h2]

theorem all_put {n : Nat} (h : n < 18446744073709551616) : all (put n) = ([(n : Int)], 0, 0) := by
  have hg := get_put n h []
  rw [List.append_nil] at hg
  have hp := put_one n
  have hne : put n ≠ [] := List.length_pos_iff.1 hp
  unfold all
  rw [allFrom_step hne (by rw [hg]), hg]
  simp only [List.drop_length, allFrom_nil, List.nil_append]
/-- The bytes of numbers, one behind the other. -/
def row : List Nat → List Int
  | [] => []
  | n :: r => put n ++ row r
theorem row_snoc : ∀ (l : List Nat) (n : Nat), row (l ++ [n]) = row l ++ put n
  | [], n => by simp [row]
  | m :: l, n => by rw [List.cons_append, row, row_snoc l n, row, List.append_assoc]
theorem all_row : ∀ (l : List Nat), (∀ n ∈ l, n < 18446744073709551616) → all (row l) = (l.map (fun n : Nat => (n : Int)), 0, 0)
  | [], _ => by simp [row, all, allFrom_nil]
  | n :: l, h => by
    have hp := all_put (h n (by simp))
    rw [row, all_app _ (by rw [hp]), all_row l (fun m hm => h m (by simp [hm])), hp]
    simp
theorem row_of_all : ∀ (f : Nat) (l : List Int) (a : Nat) (out : List Int), l.length < f → (∀ x ∈ l, 0 ≤ x ∧ x < 256) → (allFrom f l a out).2.2 = 0 →
    ∃ ns : List Nat, (allFrom f l a out).1 = out ++ ns.map (fun n : Nat => (n : Int)) ∧ row ns = l
  | 0, _, _, _, h, _, _ => by omega
  | f + 1, l, a, out, h, hb, he => by
    by_cases hl : l = []
    · subst hl
      exact ⟨[], by simp [allFrom_nil], rfl⟩
    · by_cases hg : (get l).2.2 = 0
      · have hbd := get_bound hg
        rw [allFrom_step hl hg] at he ⊢
        obtain ⟨ns, h1, h2⟩ := row_of_all f (l.drop (get l).2.1) _ _ (by rw [List.length_drop]; omega) (fun x hx => hb x (List.mem_of_mem_drop hx)) he
        refine ⟨(get l).1 :: ns, by rw [h1]; simp, ?_⟩
        rw [row, h2, put_get hb hg, List.take_append_drop]
      · rw [allFrom_err hl hg] at he
        exact absurd he hg
theorem row_all {l : List Int} (hb : ∀ x ∈ l, 0 ≤ x ∧ x < 256) (h : (all l).2.2 = 0) : ∃ ns : List Nat, (all l).1 = ns.map (fun n : Nat => (n : Int)) ∧ row ns = l := by
  obtain ⟨ns, h1, h2⟩ := row_of_all (l.length + 1) l 0 [] (by omega) hb h
  exact ⟨ns, by unfold all; rw [h1]; simp, h2⟩
/-- Bytes of a number that end too early. -/
theorem getFrom_cut : ∀ (f m i n j : Nat), m < f → j < (put m).length → i + (put m).length ≤ 10 → getFrom ((put m).take j) i n = (0, 0, 13)
  | 0, _, _, _, _, h, _, _ => by omega
  | f + 1, m, i, n, j, h, hj, hi => by
    by_cases c : m < 128
    · rw [put_lt c] at hj ⊢
      simp only [List.length_singleton] at hj
      obtain rfl : j = 0 := by omega
      simp [getFrom]
    · have hp := put_one (m / 128)
      rw [put_ge c] at hj hi ⊢
      simp only [List.length_cons] at hj hi
      cases j with
      | zero => simp [getFrom]
      | succ j =>
        rw [List.take_succ_cons, getFrom, if_neg (by omega), if_neg (by omega), if_neg (by omega)]
        exact getFrom_cut f (m / 128) (i + 1) _ j (by omega) (by omega) (by omega)
theorem all_cut (l : List Nat) (hl : ∀ n ∈ l, n < 18446744073709551616) (m j : Nat) (hm : (put m).length ≤ 10) (h0 : 0 < j) (hj : j < (put m).length) : all (row l ++ (put m).take j) = ([], (row l).length, 13) := by
  have hr := all_row l hl
  have hg : get ((put m).take j) = (0, 0, 13) := getFrom_cut (m + 1) m 0 0 j (by omega) hj (by omega)
  have hne : (put m).take j ≠ [] := by
    intro h
    have h2 : ((put m).take j).length = 0 := by rw [h]; rfl
    rw [List.length_take] at h2
    omega
  have ha : all ((put m).take j) = ([], 0, 13) := by
    unfold all
    rw [allFrom_err hne (by rw [hg]; decide), hg]
  rw [all_app _ (by rw [hr]), ha]
  simp
end Go.Proofs.Ytbneaecpjeffkaa.Pl
