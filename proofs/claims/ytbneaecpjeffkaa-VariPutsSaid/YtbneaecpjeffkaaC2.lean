/-
  VariPuts' walk at the argument as it comes.
-/
import Derived.Test.YtbneaecpjeffkaaC1
import Derived.Test.YtbneaecpjeffkaaR
namespace Go.Proofs.Ytbneaecpjeffkaa
open Go.RowKit Go.Proofs.YtbneaecpjeffkaaW.PrintWords

theorem puts_int (x : Int) (w : World) (h : (Lit.int .u64 x).wf = true) :
    Calls Try.prog 6 #[.int .u64 x] w fun e w' => e = .returned (.bool true) ∧ Below w.heap.size w w' := by
  obtain ⟨n, rfl, hn⟩ := u64_of h
  exact puts_main n hn w
end Go.Proofs.Ytbneaecpjeffkaa
