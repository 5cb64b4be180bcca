/-
  No cell of these rows narrows 'for every input' (looked for: loops, veiled, ifaces, maps, wideKeys, modest, calm, conditions, laid).
  DERIVED. THE GIVEN ROWS OF THIS SEAT. 6 by the template 'for every input the law returns true; each argument reads behind the call as it read before'; 0 by the template 'total and deterministic' (their statements: YtalonmhoamjcnaaTotals.lean).
  GIVEN WITH THE SEED: the statements are not yours to turn. If you find one false, say at which input.
  Laid BY PROGRAM, IN A SANDBOX (cutbox-rows.mjs): the forced cells as the released guide's own fill.sh prints them over the translation 798dc4a817de21cd… (all of the seat's roots in one cut). By AI agents, Wed Nov 11 2026. No macro, syntax, notation, axiom, sorry.
-/
import Derived.Test.YtalonmhoamjcnaaChecked
import GoSem.Claim
import GoSem.ClaimJoined
import GoSem.ClaimMapViews
import Derived.JoinedTies
import Derived.KernelRfl
namespace Go.Proofs.Ytalonmhoamjcnaa
/- THE CELL 'sum', in the pinned program and in every row, IS THE sha256 OF THE DUMP (.gsa) THAT YtalonmhoamjcnaaProg.lean LOADS. Nothing in Lean hashes anything: it is a label: what it is worth is what the hold of that sum in a sandbox is worth. -/
noncomputable def Try.pinned : Pinned := { name := "ytalonmhoamjcnaa", sum := "798dc4a817de21cdbac120bafc3d66047eac0dfbead57a4b5efbe2bd902df43b", checked := Try.checked }
namespace Rows
def none {H : Type} : Left H := { results := [], args := [] }

/-- 'magnetolaw08.CountReturns': WHATEVER THE INPUT: true; the input reads as it did. -/
def countReturnsSpec : ChangeSpec := { name := "countReturns", fn := fun _ => fun
  | [d] => { results := [.lit (.bool true)], args := [d] }
  | _ => none }
def countReturnsRow : OpenClaim := { program := "ytalonmhoamjcnaa", sum := "798dc4a817de21cdbac120bafc3d66047eac0dfbead57a4b5efbe2bd902df43b", func := "magneto/magnetolaw08.CountReturns", spec := "countReturns", unfollowed := true, recurses := true, apart := false }
def CountReturnsSaid : Prop := countReturnsRow.holds Try.pinned (OpenSpec.ofChange countReturnsSpec)

/-- ITS FALSE NEIGHBOUR: 'it returns false'. Refute it at one input. -/
def countReturnsWrong : ChangeSpec := { name := "countReturns", fn := fun _ => fun
  | [d] => { results := [.lit (.bool false)], args := [d] }
  | _ => none }
def CountReturnsWrongFalsely : Prop := countReturnsRow.holds Try.pinned (OpenSpec.ofChange countReturnsWrong)

/-- 'magnetolaw08.CountComes': WHATEVER THE INPUT: true; the input reads as it did. -/
def countComesSpec : ChangeSpec := { name := "countComes", fn := fun _ => fun
  | [d1, d2] => { results := [.lit (.bool true)], args := [d1, d2] }
  | _ => none }
def countComesRow : OpenClaim := { program := "ytalonmhoamjcnaa", sum := "798dc4a817de21cdbac120bafc3d66047eac0dfbead57a4b5efbe2bd902df43b", func := "magneto/magnetolaw08.CountComes", spec := "countComes", unfollowed := true, recurses := true, apart := false }
def CountComesSaid : Prop := countComesRow.holds Try.pinned (OpenSpec.ofChange countComesSpec)

/-- ITS FALSE NEIGHBOUR: 'it returns false'. Refute it at one input. -/
def countComesWrong : ChangeSpec := { name := "countComes", fn := fun _ => fun
  | [d1, d2] => { results := [.lit (.bool false)], args := [d1, d2] }
  | _ => none }
def CountComesWrongFalsely : Prop := countComesRow.holds Try.pinned (OpenSpec.ofChange countComesWrong)

/-- 'magnetolaw08.CountRows': WHATEVER THE INPUT: true; the input reads as it did. -/
def countRowsSpec : ChangeSpec := { name := "countRows", fn := fun _ => fun
  | [d] => { results := [.lit (.bool true)], args := [d] }
  | _ => none }
def countRowsRow : OpenClaim := { program := "ytalonmhoamjcnaa", sum := "798dc4a817de21cdbac120bafc3d66047eac0dfbead57a4b5efbe2bd902df43b", func := "magneto/magnetolaw08.CountRows", spec := "countRows", unfollowed := true, recurses := true, apart := false }
def CountRowsSaid : Prop := countRowsRow.holds Try.pinned (OpenSpec.ofChange countRowsSpec)

/-- ITS FALSE NEIGHBOUR: 'it returns false'. Refute it at one input. -/
def countRowsWrong : ChangeSpec := { name := "countRows", fn := fun _ => fun
  | [d] => { results := [.lit (.bool false)], args := [d] }
  | _ => none }
def CountRowsWrongFalsely : Prop := countRowsRow.holds Try.pinned (OpenSpec.ofChange countRowsWrong)

/-- 'magnetolaw08.CountStays': WHATEVER THE INPUT: true; the input reads as it did. -/
def countStaysSpec : ChangeSpec := { name := "countStays", fn := fun _ => fun
  | [d1, d2] => { results := [.lit (.bool true)], args := [d1, d2] }
  | _ => none }
def countStaysRow : OpenClaim := { program := "ytalonmhoamjcnaa", sum := "798dc4a817de21cdbac120bafc3d66047eac0dfbead57a4b5efbe2bd902df43b", func := "magneto/magnetolaw08.CountStays", spec := "countStays", unfollowed := true, recurses := true, apart := false }
def CountStaysSaid : Prop := countStaysRow.holds Try.pinned (OpenSpec.ofChange countStaysSpec)

/-- ITS FALSE NEIGHBOUR: 'it returns false'. Refute it at one input. -/
def countStaysWrong : ChangeSpec := { name := "countStays", fn := fun _ => fun
  | [d1, d2] => { results := [.lit (.bool false)], args := [d1, d2] }
  | _ => none }
def CountStaysWrongFalsely : Prop := countStaysRow.holds Try.pinned (OpenSpec.ofChange countStaysWrong)

/-- 'magnetolaw08.CountSteps': WHATEVER THE INPUT: true; the input reads as it did. -/
def countStepsSpec : ChangeSpec := { name := "countSteps", fn := fun _ => fun
  | [d] => { results := [.lit (.bool true)], args := [d] }
  | _ => none }
def countStepsRow : OpenClaim := { program := "ytalonmhoamjcnaa", sum := "798dc4a817de21cdbac120bafc3d66047eac0dfbead57a4b5efbe2bd902df43b", func := "magneto/magnetolaw08.CountSteps", spec := "countSteps", unfollowed := true, recurses := true, apart := false }
def CountStepsSaid : Prop := countStepsRow.holds Try.pinned (OpenSpec.ofChange countStepsSpec)

/-- ITS FALSE NEIGHBOUR: 'it returns false'. Refute it at one input. -/
def countStepsWrong : ChangeSpec := { name := "countSteps", fn := fun _ => fun
  | [d] => { results := [.lit (.bool false)], args := [d] }
  | _ => none }
def CountStepsWrongFalsely : Prop := countStepsRow.holds Try.pinned (OpenSpec.ofChange countStepsWrong)

/-- 'magnetolaw08.CountApart': WHATEVER THE INPUT: true; the input reads as it did. -/
def countApartSpec : ChangeSpec := { name := "countApart", fn := fun _ => fun
  | [d1, d2, d3] => { results := [.lit (.bool true)], args := [d1, d2, d3] }
  | _ => none }
def countApartRow : OpenClaim := { program := "ytalonmhoamjcnaa", sum := "798dc4a817de21cdbac120bafc3d66047eac0dfbead57a4b5efbe2bd902df43b", func := "magneto/magnetolaw08.CountApart", spec := "countApart", unfollowed := true, recurses := true, apart := false }
def CountApartSaid : Prop := countApartRow.holds Try.pinned (OpenSpec.ofChange countApartSpec)

/-- ITS FALSE NEIGHBOUR: 'it returns false'. Refute it at one input. -/
def countApartWrong : ChangeSpec := { name := "countApart", fn := fun _ => fun
  | [d1, d2, d3] => { results := [.lit (.bool false)], args := [d1, d2, d3] }
  | _ => none }
def CountApartWrongFalsely : Prop := countApartRow.holds Try.pinned (OpenSpec.ofChange countApartWrong)

/- THE SECOND FORM. 'bulk': how many values and letters a reading holds, each counted each time it is reached (what is shared counts as often as it is met; a slice's spare places count too). A statement '..UptoSaid' is the law's where the arguments, and the package variables that the reading takes, are together of bulk at most 1048576: NARROWER than '..Said'. Prove '..Said' where nothing that the law and all that it calls make is longer than what came in: it says more and counts as full. Else prove '..UptoSaid'. A law counts once. -/
mutual
def uptoBulk {H : Type} : DataW H → Nat
  | .lit (.string bytes) => bytes.length + 1
  | .lit _ => 1
  | .nil => 1
  | .ptr d => uptoBulk d + 1
  | .slice elems spare => uptoBulkAll elems + uptoBulkAll spare + 1
  | .agg parts => uptoBulkAll parts + 1
  | .iface _ d => uptoBulk d + 1
  | .map entries => uptoBulkEntries entries + 1
  | .held _ => 1
def uptoBulkAll {H : Type} : List (DataW H) → Nat
  | [] => 0
  | d :: r => uptoBulk d + uptoBulkAll r
def uptoBulkEntries {H : Type} : List (Lit × DataW H) → Nat
  | [] => 0
  | x :: r => uptoBulkEntry x + uptoBulkEntries r
def uptoBulkEntry {H : Type} : Lit × DataW H → Nat
  | (.string bytes, d) => bytes.length + uptoBulk d + 1
  | (_, d) => uptoBulk d + 1
 end
def uptoSmall : (H : Type) → List (DataW H) → Bool := fun _ ds => decide (uptoBulkAll ds ≤ 1048576)
def OpenSpec.upto (s : _root_.Go.ChangeSpec) : _root_.Go.OpenSpec := { _root_.Go.OpenSpec.ofChange s with cond := some uptoSmall }

/-- 'magnetolaw08.CountReturns', WHERE WHAT IT READS IS OF BULK AT MOST 1048576: true; the input reads as it did. -/
def countReturnsUptoRow : OpenClaim := { program := "ytalonmhoamjcnaa", sum := "798dc4a817de21cdbac120bafc3d66047eac0dfbead57a4b5efbe2bd902df43b", func := "magneto/magnetolaw08.CountReturns", spec := "countReturns", unfollowed := true, recurses := true, apart := false, narrowed := true }
def CountReturnsUptoSaid : Prop := countReturnsUptoRow.holds Try.pinned (OpenSpec.upto countReturnsSpec)

/-- 'magnetolaw08.CountComes', WHERE WHAT IT READS IS OF BULK AT MOST 1048576: true; the input reads as it did. -/
def countComesUptoRow : OpenClaim := { program := "ytalonmhoamjcnaa", sum := "798dc4a817de21cdbac120bafc3d66047eac0dfbead57a4b5efbe2bd902df43b", func := "magneto/magnetolaw08.CountComes", spec := "countComes", unfollowed := true, recurses := true, apart := false, narrowed := true }
def CountComesUptoSaid : Prop := countComesUptoRow.holds Try.pinned (OpenSpec.upto countComesSpec)

/-- 'magnetolaw08.CountRows', WHERE WHAT IT READS IS OF BULK AT MOST 1048576: true; the input reads as it did. -/
def countRowsUptoRow : OpenClaim := { program := "ytalonmhoamjcnaa", sum := "798dc4a817de21cdbac120bafc3d66047eac0dfbead57a4b5efbe2bd902df43b", func := "magneto/magnetolaw08.CountRows", spec := "countRows", unfollowed := true, recurses := true, apart := false, narrowed := true }
def CountRowsUptoSaid : Prop := countRowsUptoRow.holds Try.pinned (OpenSpec.upto countRowsSpec)

/-- 'magnetolaw08.CountStays', WHERE WHAT IT READS IS OF BULK AT MOST 1048576: true; the input reads as it did. -/
def countStaysUptoRow : OpenClaim := { program := "ytalonmhoamjcnaa", sum := "798dc4a817de21cdbac120bafc3d66047eac0dfbead57a4b5efbe2bd902df43b", func := "magneto/magnetolaw08.CountStays", spec := "countStays", unfollowed := true, recurses := true, apart := false, narrowed := true }
def CountStaysUptoSaid : Prop := countStaysUptoRow.holds Try.pinned (OpenSpec.upto countStaysSpec)

/-- 'magnetolaw08.CountSteps', WHERE WHAT IT READS IS OF BULK AT MOST 1048576: true; the input reads as it did. -/
def countStepsUptoRow : OpenClaim := { program := "ytalonmhoamjcnaa", sum := "798dc4a817de21cdbac120bafc3d66047eac0dfbead57a4b5efbe2bd902df43b", func := "magneto/magnetolaw08.CountSteps", spec := "countSteps", unfollowed := true, recurses := true, apart := false, narrowed := true }
def CountStepsUptoSaid : Prop := countStepsUptoRow.holds Try.pinned (OpenSpec.upto countStepsSpec)

/-- 'magnetolaw08.CountApart', WHERE WHAT IT READS IS OF BULK AT MOST 1048576: true; the input reads as it did. -/
def countApartUptoRow : OpenClaim := { program := "ytalonmhoamjcnaa", sum := "798dc4a817de21cdbac120bafc3d66047eac0dfbead57a4b5efbe2bd902df43b", func := "magneto/magnetolaw08.CountApart", spec := "countApart", unfollowed := true, recurses := true, apart := false, narrowed := true }
def CountApartUptoSaid : Prop := countApartUptoRow.holds Try.pinned (OpenSpec.upto countApartSpec)

end Rows
end Go.Proofs.Ytalonmhoamjcnaa
