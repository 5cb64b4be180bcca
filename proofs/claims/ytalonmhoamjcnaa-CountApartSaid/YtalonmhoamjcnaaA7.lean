/-
  Counts: the walk of Rx.
-/
import Derived.Test.YtalonmhoamjcnaaA6
namespace Go.Proofs.Ytalonmhoamjcnaa
open Go.RowKit Go.Proofs.YtalonmhoamjcnaaW.PrintWords

set_option maxHeartbeats 2000000 in
theorem Rx_other (t r : Int) (o : Bool) (g : Int) (h1 : g ≠ 1) (h8 : g ≠ 8) (W : World) :
    Calls Try.prog 19 #[cv t r o, .int .i64 g] W fun e W' => e = .returned (cv t r o) ∧ Below W.heap.size W W' := by
  have e1 : (g != 1) = true := by simp [h1]
  have e8 : (g != 8) = true := by simp [h8]
  clear h1 h8
  unfold cv
  go_enter Try.func19, Try.ntmps19
  go_wp2
  refine bodyPost_ret (v := cv t r o) ?_ rfl ⟨rfl, ?_⟩
  · simp [results, Try.f19, go_sem, cv]
  · exact (((((Below.refl _ _).alloc (Nat.le_refl _) _).alloc (by simp) _).alloc (by simp; omega) _).alloc (by simp; omega) _).alloc (by simp; omega) _
end Go.Proofs.Ytalonmhoamjcnaa
