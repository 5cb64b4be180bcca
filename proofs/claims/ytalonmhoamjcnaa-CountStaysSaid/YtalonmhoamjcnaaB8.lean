/-
  Counts: the walk of CountStays, whole.
-/
import Derived.Test.YtalonmhoamjcnaaB7
namespace Go.Proofs.Ytalonmhoamjcnaa
open Go.RowKit Go.Proofs.YtalonmhoamjcnaaW.PrintWords
theorem stays_calls (t r : Int) (o : Bool) (A : Option Addr) (len c : Nat) (f g : Nat → Int) (W : World) (_ : True) (h : Comes W A len f g) :
    Calls Try.prog 6 #[cv t r o, .slice A len c] W fun e W' => e = .returned (.bool true) ∧ Below W.heap.size W W' := by
  by_cases hl : len ≤ 300
  · by_cases hok : ok t r o = true
    · exact stays_right t r o hok A len c f g W h hl
    · exact stays_wrong t r o (by simpa using hok) A len c f g W h hl
  · exact stays_long t r o A len c W (by omega)
end Go.Proofs.Ytalonmhoamjcnaa
