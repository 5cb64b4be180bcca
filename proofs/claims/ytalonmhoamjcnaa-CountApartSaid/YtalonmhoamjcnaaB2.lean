/-
  Counts: the walk of CountReturns, where the node is Active or Off.
-/
import Derived.Test.YtalonmhoamjcnaaB1
namespace Go.Proofs.Ytalonmhoamjcnaa
open Go.RowKit Go.Proofs.YtalonmhoamjcnaaW.PrintWords

theorem state_cv (t r : Int) (o : Bool) (z : Int) (hz : z = if o then 2 else if 127 < t ∨ 127 < r then 1 else 0) (w : World) :
    Calls Try.prog 10 #[.agg #[.int .i64 t, .int .i64 r, .bool o]] w fun e w' => e = .returned (.int .i64 z) ∧ Below w.heap.size w w' := state_calls t r o z hz w
theorem Sent_cv (t r : Int) (o : Bool) (t' r' : Int) (o' : Bool) (h : sentC ⟨t, r, o⟩ = ⟨t', r', o'⟩) (W : World) :
    Calls Try.prog 11 #[.agg #[.int .i64 t, .int .i64 r, .bool o]] W fun e W' => e = .returned (.agg #[.int .i64 t', .int .i64 r', .bool o']) ∧ Below W.heap.size W W' := Sent_uni t r o t' r' o' h W

set_option maxHeartbeats 2000000 in
theorem returns_other (t r : Int) (o : Bool) (hok : ok t r o = true) (z : Int) (hz : z = if o then 2 else if 127 < t ∨ 127 < r then 1 else 0) (h1 : z ≠ 1) (W : World) :
    Calls Try.prog 3 #[cv t r o] W fun e W' => e = .returned (.bool true) ∧ Below W.heap.size W W' := by
  have HO := Aside0.mk hok
  have HZ := Aside0.mk hz
  obtain ⟨⟨t', r', o'⟩, hs⟩ : ∃ c, sentC ⟨t, r, o⟩ = c := ⟨_, rfl⟩
  have HS := Aside0.mk hs
  have HY := Aside0.mk (sent_state hok (by rw [← hz]; exact h1) t' r' o' hs)
  have n1 : (z != 1) = true := by simp [h1]
  clear hok hz h1 hs
  unfold cv
  go_enter Try.func3, Try.ntmps3
  go_wp2_with fail
  obtain ⟨W1, hW1⟩ : ∃ W1, W.alloc (.cells #[.int .i64 t, .int .i64 r, .bool o] 23) = W1 := ⟨_, rfl⟩
  have C1 : CountAt W1 W.heap.size t r o := hW1 ▸ heap_alloc_new W _
  have B1 := Aside0.mk (show Below W.heap.size W W1 from hW1 ▸ (Below.refl _ _).alloc (Nat.le_refl _) _)
  rw [hW1]
  clear hW1
  refine (check_cv t r o 0 (by rw [HO.out]; rfl) W1).mono ?_
  rintro e w2 ⟨rfl, b2⟩
  have C2 := C1.below b2
  have B2 := Aside0.mk (below_step B1.out b2)
  clear b2 C1 B1
  obtain ⟨x0, x1, x2, -, -, -⟩ := C2.cells
  go_wp2_with fail
  refine (state_cv t r o z HZ.out w2).mono ?_
  rintro e w3 ⟨rfl, b3⟩
  have C3 := C2.below b3
  have B3 := Aside0.mk (below_step B2.out b3)
  clear b3 C2 B2 x0 x1 x2
  obtain ⟨x0, x1, x2, -, -, -⟩ := C3.cells
  clear C3
  go_wp2_with fail
  first | (go_region_held3 (fun w' => w'.cell? ⟨W.heap.size, 0, none⟩ = some (.int .i64 t) ∧ w'.cell? ⟨W.heap.size, 1, none⟩ = some (.int .i64 r) ∧ w'.cell? ⟨W.heap.size, 2, none⟩ = some (.bool o))
    (first | go_keep | exact ⟨cb b4 x0, cb b4 x1, cb b4 x2⟩ | exact ⟨cb b5 x0, cb b5 x1, cb b5 x2⟩ | exact ⟨cb b6 x0, cb b6 x1, cb b6 x2⟩ | exact ⟨cb b7 x0, cb b7 x1, cb b7 x2⟩ | exact ⟨cb b8 x0, cb b8 x1, cb b8 x2⟩)
    (first
      | (go_at_call 9; refine (check_cv t r o 0 (by rw [HO.out]; rfl) _).mono ?_; rintro e w4 ⟨rfl, q4⟩; have b4 := nodrew q4)
      | (go_at_call 11; refine (Sent_cv t r o t' r' o' HS.out _).mono ?_; rintro e w5 ⟨rfl, q5⟩; have b5 := below_step b4 q5)
      | (go_at_call_of 10 (Value.agg #[.int .i64 t', .int .i64 r', .bool o']); refine (state_cv t' r' o' z (by rw [HY.out, HZ.out]) _).mono ?_; rintro e w6 ⟨rfl, q6⟩; have b6 := below_step b5 q6)
      | (go_at_call_of 10 (Value.agg #[.int .i64 t, .int .i64 r, .bool o]); refine (state_cv t r o z HZ.out _).mono ?_; rintro e w7 ⟨rfl, q7⟩; have b7 := below_step b6 q7)
      | (go_at_call 12; refine (awake_calls _).mono ?_; rintro e w8 ⟨rfl, q8⟩; have b8 := below_step b7 q8))) | fail
  all_goals (go_wp2; go_ret; exact ⟨by simp, below_step B3.out b8⟩)
end Go.Proofs.Ytalonmhoamjcnaa
