/-
  No cell of these rows narrows 'for every input' (looked for: loops, veiled, ifaces, maps, wideKeys, modest, calm, conditions, laid).
  DERIVED. THE GIVEN ROWS OF THIS SEAT. 6 by the template 'for every input the law returns true; each argument reads behind the call as it read before'; 0 by the template 'total and deterministic' (their statements: YtbneaecpjeffkaaTotals.lean).
  GIVEN WITH THE SEED: the statements are not yours to turn. If you find one false, say at which input.
  Laid BY PROGRAM, IN A SANDBOX (cutbox-rows.mjs): the forced cells as the released guide's own fill.sh prints them over the translation 12229e6544bf991c… (all of the seat's roots in one cut). By AI agents, Wed Nov 11 2026. No macro, syntax, notation, axiom, sorry.
-/
import Derived.Test.YtbneaecpjeffkaaChecked
import GoSem.Claim
import GoSem.ClaimJoined
import GoSem.ClaimMapViews
import Derived.JoinedTies
import Derived.KernelRfl
namespace Go.Proofs.Ytbneaecpjeffkaa
/- THE CELL 'sum', in the pinned program and in every row, IS THE sha256 OF THE DUMP (.gsa) THAT YtbneaecpjeffkaaProg.lean LOADS. Nothing in Lean hashes anything: it is a label: what it is worth is what the hold of that sum in a sandbox is worth. -/
noncomputable def Try.pinned : Pinned := { name := "ytbneaecpjeffkaa", sum := "12229e6544bf991c35adb7e66989324b34ff9f14a489ccc9d79a37790e942cc9", checked := Try.checked }
namespace Rows
def none {H : Type} : Left H := { results := [], args := [] }

/-- 'magnetolaw13.VariGets': WHATEVER THE INPUT: true; the input reads as it did. -/
def variGetsSpec : ChangeSpec := { name := "variGets", fn := fun _ => fun
  | [d] => { results := [.lit (.bool true)], args := [d] }
  | _ => none }
def variGetsRow : OpenClaim := { program := "ytbneaecpjeffkaa", sum := "12229e6544bf991c35adb7e66989324b34ff9f14a489ccc9d79a37790e942cc9", func := "magneto/magnetolaw13.VariGets", spec := "variGets", unfollowed := true, recurses := true, apart := false }
def VariGetsSaid : Prop := variGetsRow.holds Try.pinned (OpenSpec.ofChange variGetsSpec)

/-- ITS FALSE NEIGHBOUR: 'it returns false'. Refute it at one input. -/
def variGetsWrong : ChangeSpec := { name := "variGets", fn := fun _ => fun
  | [d] => { results := [.lit (.bool false)], args := [d] }
  | _ => none }
def VariGetsWrongFalsely : Prop := variGetsRow.holds Try.pinned (OpenSpec.ofChange variGetsWrong)

/-- 'magnetolaw13.VariRows': WHATEVER THE INPUT: true; the input reads as it did. -/
def variRowsSpec : ChangeSpec := { name := "variRows", fn := fun _ => fun
  | [d1, d2, d3] => { results := [.lit (.bool true)], args := [d1, d2, d3] }
  | _ => none }
def variRowsRow : OpenClaim := { program := "ytbneaecpjeffkaa", sum := "12229e6544bf991c35adb7e66989324b34ff9f14a489ccc9d79a37790e942cc9", func := "magneto/magnetolaw13.VariRows", spec := "variRows", unfollowed := true, recurses := true, apart := false }
def VariRowsSaid : Prop := variRowsRow.holds Try.pinned (OpenSpec.ofChange variRowsSpec)

/-- ITS FALSE NEIGHBOUR: 'it returns false'. Refute it at one input. -/
def variRowsWrong : ChangeSpec := { name := "variRows", fn := fun _ => fun
  | [d1, d2, d3] => { results := [.lit (.bool false)], args := [d1, d2, d3] }
  | _ => none }
def VariRowsWrongFalsely : Prop := variRowsRow.holds Try.pinned (OpenSpec.ofChange variRowsWrong)

/-- 'magnetolaw13.VariParts': WHATEVER THE INPUT: true; the input reads as it did. -/
def variPartsSpec : ChangeSpec := { name := "variParts", fn := fun _ => fun
  | [d] => { results := [.lit (.bool true)], args := [d] }
  | _ => none }
def variPartsRow : OpenClaim := { program := "ytbneaecpjeffkaa", sum := "12229e6544bf991c35adb7e66989324b34ff9f14a489ccc9d79a37790e942cc9", func := "magneto/magnetolaw13.VariParts", spec := "variParts", unfollowed := true, recurses := true, apart := false }
def VariPartsSaid : Prop := variPartsRow.holds Try.pinned (OpenSpec.ofChange variPartsSpec)

/-- ITS FALSE NEIGHBOUR: 'it returns false'. Refute it at one input. -/
def variPartsWrong : ChangeSpec := { name := "variParts", fn := fun _ => fun
  | [d] => { results := [.lit (.bool false)], args := [d] }
  | _ => none }
def VariPartsWrongFalsely : Prop := variPartsRow.holds Try.pinned (OpenSpec.ofChange variPartsWrong)

/-- 'magnetolaw13.VariPuts': WHATEVER THE INPUT: true; the input reads as it did. -/
def variPutsSpec : ChangeSpec := { name := "variPuts", fn := fun _ => fun
  | [d] => { results := [.lit (.bool true)], args := [d] }
  | _ => none }
def variPutsRow : OpenClaim := { program := "ytbneaecpjeffkaa", sum := "12229e6544bf991c35adb7e66989324b34ff9f14a489ccc9d79a37790e942cc9", func := "magneto/magnetolaw13.VariPuts", spec := "variPuts", unfollowed := true, recurses := true, apart := false }
def VariPutsSaid : Prop := variPutsRow.holds Try.pinned (OpenSpec.ofChange variPutsSpec)

/-- ITS FALSE NEIGHBOUR: 'it returns false'. Refute it at one input. -/
def variPutsWrong : ChangeSpec := { name := "variPuts", fn := fun _ => fun
  | [d] => { results := [.lit (.bool false)], args := [d] }
  | _ => none }
def VariPutsWrongFalsely : Prop := variPutsRow.holds Try.pinned (OpenSpec.ofChange variPutsWrong)

/-- 'magnetolaw13.VariBack': WHATEVER THE INPUT: true; the input reads as it did. -/
def variBackSpec : ChangeSpec := { name := "variBack", fn := fun _ => fun
  | [d1, d2] => { results := [.lit (.bool true)], args := [d1, d2] }
  | _ => none }
def variBackRow : OpenClaim := { program := "ytbneaecpjeffkaa", sum := "12229e6544bf991c35adb7e66989324b34ff9f14a489ccc9d79a37790e942cc9", func := "magneto/magnetolaw13.VariBack", spec := "variBack", unfollowed := true, recurses := true, apart := false }
def VariBackSaid : Prop := variBackRow.holds Try.pinned (OpenSpec.ofChange variBackSpec)

/-- ITS FALSE NEIGHBOUR: 'it returns false'. Refute it at one input. -/
def variBackWrong : ChangeSpec := { name := "variBack", fn := fun _ => fun
  | [d1, d2] => { results := [.lit (.bool false)], args := [d1, d2] }
  | _ => none }
def VariBackWrongFalsely : Prop := variBackRow.holds Try.pinned (OpenSpec.ofChange variBackWrong)

/-- 'magnetolaw13.VariGrows': WHATEVER THE INPUT: true; the input reads as it did. -/
def variGrowsSpec : ChangeSpec := { name := "variGrows", fn := fun _ => fun
  | [d1, d2] => { results := [.lit (.bool true)], args := [d1, d2] }
  | _ => none }
def variGrowsRow : OpenClaim := { program := "ytbneaecpjeffkaa", sum := "12229e6544bf991c35adb7e66989324b34ff9f14a489ccc9d79a37790e942cc9", func := "magneto/magnetolaw13.VariGrows", spec := "variGrows", unfollowed := true, recurses := true, apart := false }
def VariGrowsSaid : Prop := variGrowsRow.holds Try.pinned (OpenSpec.ofChange variGrowsSpec)

/-- ITS FALSE NEIGHBOUR: 'it returns false'. Refute it at one input. -/
def variGrowsWrong : ChangeSpec := { name := "variGrows", fn := fun _ => fun
  | [d1, d2] => { results := [.lit (.bool false)], args := [d1, d2] }
  | _ => none }
def VariGrowsWrongFalsely : Prop := variGrowsRow.holds Try.pinned (OpenSpec.ofChange variGrowsWrong)

/- THE SECOND FORM. 'bulk': how many values and letters a reading holds, each counted each time it is reached (what is shared counts as often as it is met; a slice's spare places count too). A statement '..UptoSaid' is the law's where the arguments, and the package variables that the reading takes, are together of bulk at most 1048576: NARROWER than '..Said'. Prove '..Said' where nothing that the law and all that it calls make is longer than what came in: it says more and counts as full. Else prove '..UptoSaid'. A law counts once. -/
mutual
def uptoBulk {H : Type} : DataW H → Nat
  | .lit (.string bytes) => bytes.length + 1
  | .lit _ => 1
  | .nil => 1
  | .ptr d => uptoBulk d + 1
  | .slice elems spare => uptoBulkAll elems + uptoBulkAll spare + 1
  | .agg parts => uptoBulkAll parts + 1
  | .iface _ d => uptoBulk d + 1
  | .map entries => uptoBulkEntries entries + 1
  | .held _ => 1
def uptoBulkAll {H : Type} : List (DataW H) → Nat
  | [] => 0
  | d :: r => uptoBulk d + uptoBulkAll r
def uptoBulkEntries {H : Type} : List (Lit × DataW H) → Nat
  | [] => 0
  | x :: r => uptoBulkEntry x + uptoBulkEntries r
def uptoBulkEntry {H : Type} : Lit × DataW H → Nat
  | (.string bytes, d) => bytes.length + uptoBulk d + 1
  | (_, d) => uptoBulk d + 1
 end
def uptoSmall : (H : Type) → List (DataW H) → Bool := fun _ ds => decide (uptoBulkAll ds ≤ 1048576)
def OpenSpec.upto (s : _root_.Go.ChangeSpec) : _root_.Go.OpenSpec := { _root_.Go.OpenSpec.ofChange s with cond := some uptoSmall }

/-- 'magnetolaw13.VariGets', WHERE WHAT IT READS IS OF BULK AT MOST 1048576: true; the input reads as it did. -/
def variGetsUptoRow : OpenClaim := { program := "ytbneaecpjeffkaa", sum := "12229e6544bf991c35adb7e66989324b34ff9f14a489ccc9d79a37790e942cc9", func := "magneto/magnetolaw13.VariGets", spec := "variGets", unfollowed := true, recurses := true, apart := false, narrowed := true }
def VariGetsUptoSaid : Prop := variGetsUptoRow.holds Try.pinned (OpenSpec.upto variGetsSpec)

/-- 'magnetolaw13.VariRows', WHERE WHAT IT READS IS OF BULK AT MOST 1048576: true; the input reads as it did. -/
def variRowsUptoRow : OpenClaim := { program := "ytbneaecpjeffkaa", sum := "12229e6544bf991c35adb7e66989324b34ff9f14a489ccc9d79a37790e942cc9", func := "magneto/magnetolaw13.VariRows", spec := "variRows", unfollowed := true, recurses := true, apart := false, narrowed := true }
def VariRowsUptoSaid : Prop := variRowsUptoRow.holds Try.pinned (OpenSpec.upto variRowsSpec)

/-- 'magnetolaw13.VariParts', WHERE WHAT IT READS IS OF BULK AT MOST 1048576: true; the input reads as it did. -/
def variPartsUptoRow : OpenClaim := { program := "ytbneaecpjeffkaa", sum := "12229e6544bf991c35adb7e66989324b34ff9f14a489ccc9d79a37790e942cc9", func := "magneto/magnetolaw13.VariParts", spec := "variParts", unfollowed := true, recurses := true, apart := false, narrowed := true }
def VariPartsUptoSaid : Prop := variPartsUptoRow.holds Try.pinned (OpenSpec.upto variPartsSpec)

/-- 'magnetolaw13.VariPuts', WHERE WHAT IT READS IS OF BULK AT MOST 1048576: true; the input reads as it did. -/
def variPutsUptoRow : OpenClaim := { program := "ytbneaecpjeffkaa", sum := "12229e6544bf991c35adb7e66989324b34ff9f14a489ccc9d79a37790e942cc9", func := "magneto/magnetolaw13.VariPuts", spec := "variPuts", unfollowed := true, recurses := true, apart := false, narrowed := true }
def VariPutsUptoSaid : Prop := variPutsUptoRow.holds Try.pinned (OpenSpec.upto variPutsSpec)

/-- 'magnetolaw13.VariBack', WHERE WHAT IT READS IS OF BULK AT MOST 1048576: true; the input reads as it did. -/
def variBackUptoRow : OpenClaim := { program := "ytbneaecpjeffkaa", sum := "12229e6544bf991c35adb7e66989324b34ff9f14a489ccc9d79a37790e942cc9", func := "magneto/magnetolaw13.VariBack", spec := "variBack", unfollowed := true, recurses := true, apart := false, narrowed := true }
def VariBackUptoSaid : Prop := variBackUptoRow.holds Try.pinned (OpenSpec.upto variBackSpec)

/-- 'magnetolaw13.VariGrows', WHERE WHAT IT READS IS OF BULK AT MOST 1048576: true; the input reads as it did. -/
def variGrowsUptoRow : OpenClaim := { program := "ytbneaecpjeffkaa", sum := "12229e6544bf991c35adb7e66989324b34ff9f14a489ccc9d79a37790e942cc9", func := "magneto/magnetolaw13.VariGrows", spec := "variGrows", unfollowed := true, recurses := true, apart := false, narrowed := true }
def VariGrowsUptoSaid : Prop := variGrowsUptoRow.holds Try.pinned (OpenSpec.upto variGrowsSpec)

end Rows
end Go.Proofs.Ytbneaecpjeffkaa
