/-
  Counts: the walks of within, Check, State.
-/
import Derived.Test.YtalonmhoamjcnaaProg
import Derived.Test.YtalonmhoamjcnaaWWords
namespace Go.Proofs.Ytalonmhoamjcnaa
open Go.RowKit Go.Proofs.YtalonmhoamjcnaaW.PrintWords

/-- Counts, as a value. -/
def cv (t r : Int) (o : Bool) : Value := .agg #[.int .i64 t, .int .i64 r, .bool o]
/-- Counts that are right. -/
def ok (t r : Int) (o : Bool) : Bool := decide (0 ≤ r ∧ r ≤ 255 ∧ 0 ≤ t ∧ t ≤ 256) && (o == decide (255 < t))

set_option maxHeartbeats 1000000 in
theorem within_calls (n m : Int) (b : Bool) (hb : b = decide (0 ≤ n ∧ n ≤ m)) (w : World) :
    Calls Try.prog 22 #[.int .i64 n, .int .i64 m] w fun e w' => e = .returned (.bool b) ∧ w = w' := by
  subst hb
  go_enter Try.func22, Try.ntmps22
  by_cases h : 0 ≤ n
  · by_cases h2 : n ≤ m
    · go_wp2
      go_ret
      simp [h, h2]
    · go_wp2
      go_ret
      simp [h2]
  · go_wp2
    go_ret
    simp
    omega
set_option maxHeartbeats 1000000 in
theorem check_calls (t r : Int) (o : Bool) (z : Int) (hz : z = if ok t r o then 0 else 10) (w : World) :
    Calls Try.prog 9 #[cv t r o] w fun e w' => e = .returned (.int .i64 z) ∧ Below w.heap.size w w' := by
  by_cases hr : 0 ≤ r ∧ r ≤ 255
  · by_cases ht : 0 ≤ t ∧ t ≤ 256
    · by_cases h3 : o = decide (255 < t)
      · have HO := Aside0.mk (show z = 0 by rw [hz, show ok t r o = true by unfold ok; simp [h3]; omega]; rfl)
        clear hz
        subst h3
        go_enter Try.func9, Try.ntmps9
        unfold cv
        go_wp2_with fail
        refine (within_calls r 255 true (by simp; omega) _).mono ?_
        rintro e w2 ⟨rfl, rfl⟩
        go_wp2_with fail
        refine (within_calls t 256 true (by simp; omega) _).mono ?_
        rintro e w2 ⟨rfl, rfl⟩
        go_wp2_with fail
        go_ret
        exact ⟨by rw [HO.out]; try rfl, (Below.refl _ _).alloc (Nat.le_refl _) _⟩
      · have HO := Aside0.mk (show z = 10 by rw [hz, show ok t r o = false by unfold ok; simp [h3]]; rfl)
        clear hz
        have h4 : (o != decide (255 < t)) = true := by simp [h3]
        have h5 : o = !decide (255 < t) := by revert h3; cases o <;> cases (decide (255 < t)) <;> simp
        clear h3 h4
        subst h5
        go_enter Try.func9, Try.ntmps9
        unfold cv
        go_wp2_with fail
        refine (within_calls r 255 true (by simp; omega) _).mono ?_
        rintro e w2 ⟨rfl, rfl⟩
        go_wp2_with fail
        refine (within_calls t 256 true (by simp; omega) _).mono ?_
        rintro e w2 ⟨rfl, rfl⟩
        go_wp2_with fail
        go_ret
        exact ⟨by rw [HO.out]; try rfl, (Below.refl _ _).alloc (Nat.le_refl _) _⟩
    · have HO := Aside0.mk (show z = 10 by rw [hz, show ok t r o = false by unfold ok; simp; intros; omega]; rfl)
      clear hz
      go_enter Try.func9, Try.ntmps9
      unfold cv
      go_wp2_with fail
      refine (within_calls r 255 true (by simp; omega) _).mono ?_
      rintro e w2 ⟨rfl, rfl⟩
      go_wp2_with fail
      refine (within_calls t 256 false (by simp; omega) _).mono ?_
      rintro e w2 ⟨rfl, rfl⟩
      go_wp2_with fail
      go_ret
      exact ⟨by rw [HO.out]; try rfl, (Below.refl _ _).alloc (Nat.le_refl _) _⟩
  · have HO := Aside0.mk (show z = 10 by rw [hz, show ok t r o = false by unfold ok; simp; intros; omega]; rfl)
    clear hz
    go_enter Try.func9, Try.ntmps9
    unfold cv
    go_wp2_with fail
    refine (within_calls r 255 false (by simp; omega) _).mono ?_
    rintro e w2 ⟨rfl, rfl⟩
    go_wp2_with fail
    go_ret
    exact ⟨by rw [HO.out]; try rfl, (Below.refl _ _).alloc (Nat.le_refl _) _⟩
set_option maxHeartbeats 1000000 in
theorem state_calls (t r : Int) (o : Bool) (z : Int) (hz : z = if o then 2 else if 127 < t ∨ 127 < r then 1 else 0) (w : World) :
    Calls Try.prog 10 #[cv t r o] w fun e w' => e = .returned (.int .i64 z) ∧ Below w.heap.size w w' := by
  have HZ := Aside0.mk hz
  clear hz
  cases o
  · by_cases h1 : 127 < t
    · go_enter Try.func10, Try.ntmps10
      unfold cv
      go_wp2
      go_ret
      exact ⟨by rw [HZ.out]; simp [h1], (Below.refl _ _).alloc (Nat.le_refl _) _⟩
    · by_cases h2 : 127 < r
      · go_enter Try.func10, Try.ntmps10
        unfold cv
        go_wp2
        go_ret
        exact ⟨by rw [HZ.out]; simp [h2], (Below.refl _ _).alloc (Nat.le_refl _) _⟩
      · go_enter Try.func10, Try.ntmps10
        unfold cv
        go_wp2
        go_ret
        exact ⟨by rw [HZ.out]; simp [h1, h2], (Below.refl _ _).alloc (Nat.le_refl _) _⟩
  · go_enter Try.func10, Try.ntmps10
    unfold cv
    go_wp2
    go_ret
    exact ⟨by rw [HZ.out]; rfl, (Below.refl _ _).alloc (Nat.le_refl _) _⟩
end Go.Proofs.Ytalonmhoamjcnaa
