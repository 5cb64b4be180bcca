/-
  No cell of these rows narrows 'for every input' (looked for: loops, veiled, ifaces, maps, wideKeys, modest, calm, conditions, laid).
  DERIVED. THE GIVEN ROWS OF THIS SEAT. 5 by the template 'for every input the law returns true; each argument reads behind the call as it read before'; 0 by the template 'total and deterministic' (their statements: YtfbpfogmnaahpaaTotals.lean).
  GIVEN WITH THE SEED: the statements are not yours to turn. If you find one false, say at which input.
  Laid BY PROGRAM, IN A SANDBOX (cutbox-rows.mjs): the forced cells as the released guide's own fill.sh prints them over the translation e5c7a4fafac1db9c… (all of the seat's roots in one cut). By AI agents, Wed Nov 11 2026. No macro, syntax, notation, axiom, sorry.
-/
import Derived.Test.YtfbpfogmnaahpaaChecked
import GoSem.Claim
import GoSem.ClaimJoined
import GoSem.ClaimMapViews
import Derived.JoinedTies
import Derived.KernelRfl
namespace Go.Proofs.Ytfbpfogmnaahpaa
/- THE CELL 'sum', in the pinned program and in every row, IS THE sha256 OF THE DUMP (.gsa) THAT YtfbpfogmnaahpaaProg.lean LOADS. Nothing in Lean hashes anything: it is a label: what it is worth is what the hold of that sum in a sandbox is worth. -/
noncomputable def Try.pinned : Pinned := { name := "ytfbpfogmnaahpaa", sum := "e5c7a4fafac1db9cd1cb8cea0864af124473ffa2af8c059e0c242267fe5f13ff", checked := Try.checked }
namespace Rows
def none {H : Type} : Left H := { results := [], args := [] }

/-- 'magnetolaw16.FileGarbles': WHATEVER THE INPUT: true; the input reads as it did. -/
def fileGarblesSpec : ChangeSpec := { name := "fileGarbles", fn := fun _ => fun
  | [d1, d2, d3] => { results := [.lit (.bool true)], args := [d1, d2, d3] }
  | _ => none }
def fileGarblesRow : OpenClaim := { program := "ytfbpfogmnaahpaa", sum := "e5c7a4fafac1db9cd1cb8cea0864af124473ffa2af8c059e0c242267fe5f13ff", func := "magneto/magnetolaw16.FileGarbles", spec := "fileGarbles", apart := false }
def FileGarblesSaid : Prop := fileGarblesRow.holds Try.pinned (OpenSpec.ofChange fileGarblesSpec)

/-- ITS FALSE NEIGHBOUR: 'it returns false'. Refute it at one input. -/
def fileGarblesWrong : ChangeSpec := { name := "fileGarbles", fn := fun _ => fun
  | [d1, d2, d3] => { results := [.lit (.bool false)], args := [d1, d2, d3] }
  | _ => none }
def FileGarblesWrongFalsely : Prop := fileGarblesRow.holds Try.pinned (OpenSpec.ofChange fileGarblesWrong)

/-- 'magnetolaw16.FilePlays': WHATEVER THE INPUT: true; the input reads as it did. -/
def filePlaysSpec : ChangeSpec := { name := "filePlays", fn := fun _ => fun
  | [d1, d2] => { results := [.lit (.bool true)], args := [d1, d2] }
  | _ => none }
def filePlaysRow : OpenClaim := { program := "ytfbpfogmnaahpaa", sum := "e5c7a4fafac1db9cd1cb8cea0864af124473ffa2af8c059e0c242267fe5f13ff", func := "magneto/magnetolaw16.FilePlays", spec := "filePlays", apart := false }
def FilePlaysSaid : Prop := filePlaysRow.holds Try.pinned (OpenSpec.ofChange filePlaysSpec)

/-- ITS FALSE NEIGHBOUR: 'it returns false'. Refute it at one input. -/
def filePlaysWrong : ChangeSpec := { name := "filePlays", fn := fun _ => fun
  | [d1, d2] => { results := [.lit (.bool false)], args := [d1, d2] }
  | _ => none }
def FilePlaysWrongFalsely : Prop := filePlaysRow.holds Try.pinned (OpenSpec.ofChange filePlaysWrong)

/-- 'magnetolaw16.FileSure': WHATEVER THE INPUT: true; the input reads as it did. -/
def fileSureSpec : ChangeSpec := { name := "fileSure", fn := fun _ => fun
  | [d1, d2, d3] => { results := [.lit (.bool true)], args := [d1, d2, d3] }
  | _ => none }
def fileSureRow : OpenClaim := { program := "ytfbpfogmnaahpaa", sum := "e5c7a4fafac1db9cd1cb8cea0864af124473ffa2af8c059e0c242267fe5f13ff", func := "magneto/magnetolaw16.FileSure", spec := "fileSure", apart := false }
def FileSureSaid : Prop := fileSureRow.holds Try.pinned (OpenSpec.ofChange fileSureSpec)

/-- ITS FALSE NEIGHBOUR: 'it returns false'. Refute it at one input. -/
def fileSureWrong : ChangeSpec := { name := "fileSure", fn := fun _ => fun
  | [d1, d2, d3] => { results := [.lit (.bool false)], args := [d1, d2, d3] }
  | _ => none }
def FileSureWrongFalsely : Prop := fileSureRow.holds Try.pinned (OpenSpec.ofChange fileSureWrong)

/-- 'magnetolaw16.FileOwn': WHATEVER THE INPUT: true; the input reads as it did. -/
def fileOwnSpec : ChangeSpec := { name := "fileOwn", fn := fun _ => fun
  | [d1, d2, d3] => { results := [.lit (.bool true)], args := [d1, d2, d3] }
  | _ => none }
def fileOwnRow : OpenClaim := { program := "ytfbpfogmnaahpaa", sum := "e5c7a4fafac1db9cd1cb8cea0864af124473ffa2af8c059e0c242267fe5f13ff", func := "magneto/magnetolaw16.FileOwn", spec := "fileOwn", apart := false }
def FileOwnSaid : Prop := fileOwnRow.holds Try.pinned (OpenSpec.ofChange fileOwnSpec)

/-- ITS FALSE NEIGHBOUR: 'it returns false'. Refute it at one input. -/
def fileOwnWrong : ChangeSpec := { name := "fileOwn", fn := fun _ => fun
  | [d1, d2, d3] => { results := [.lit (.bool false)], args := [d1, d2, d3] }
  | _ => none }
def FileOwnWrongFalsely : Prop := fileOwnRow.holds Try.pinned (OpenSpec.ofChange fileOwnWrong)

/-- 'magnetolaw16.FileParts': WHATEVER THE INPUT: true; the input reads as it did. -/
def filePartsSpec : ChangeSpec := { name := "fileParts", fn := fun _ => fun
  | [d1, d2] => { results := [.lit (.bool true)], args := [d1, d2] }
  | _ => none }
def filePartsRow : OpenClaim := { program := "ytfbpfogmnaahpaa", sum := "e5c7a4fafac1db9cd1cb8cea0864af124473ffa2af8c059e0c242267fe5f13ff", func := "magneto/magnetolaw16.FileParts", spec := "fileParts", apart := false }
def FilePartsSaid : Prop := filePartsRow.holds Try.pinned (OpenSpec.ofChange filePartsSpec)

/-- ITS FALSE NEIGHBOUR: 'it returns false'. Refute it at one input. -/
def filePartsWrong : ChangeSpec := { name := "fileParts", fn := fun _ => fun
  | [d1, d2] => { results := [.lit (.bool false)], args := [d1, d2] }
  | _ => none }
def FilePartsWrongFalsely : Prop := filePartsRow.holds Try.pinned (OpenSpec.ofChange filePartsWrong)

/- THE SECOND FORM. 'bulk': how many values and letters a reading holds, each counted each time it is reached (what is shared counts as often as it is met; a slice's spare places count too). A statement '..UptoSaid' is the law's where the arguments, and the package variables that the reading takes, are together of bulk at most 1048576: NARROWER than '..Said'. Prove '..Said' where nothing that the law and all that it calls make is longer than what came in: it says more and counts as full. Else prove '..UptoSaid'. A law counts once. -/
mutual
def uptoBulk {H : Type} : DataW H → Nat
  | .lit (.string bytes) => bytes.length + 1
  | .lit _ => 1
  | .nil => 1
  | .ptr d => uptoBulk d + 1
  | .slice elems spare => uptoBulkAll elems + uptoBulkAll spare + 1
  | .agg parts => uptoBulkAll parts + 1
  | .iface _ d => uptoBulk d + 1
  | .map entries => uptoBulkEntries entries + 1
  | .held _ => 1
def uptoBulkAll {H : Type} : List (DataW H) → Nat
  | [] => 0
  | d :: r => uptoBulk d + uptoBulkAll r
def uptoBulkEntries {H : Type} : List (Lit × DataW H) → Nat
  | [] => 0
  | x :: r => uptoBulkEntry x + uptoBulkEntries r
def uptoBulkEntry {H : Type} : Lit × DataW H → Nat
  | (.string bytes, d) => bytes.length + uptoBulk d + 1
  | (_, d) => uptoBulk d + 1
 end
def uptoSmall : (H : Type) → List (DataW H) → Bool := fun _ ds => decide (uptoBulkAll ds ≤ 1048576)
def OpenSpec.upto (s : _root_.Go.ChangeSpec) : _root_.Go.OpenSpec := { _root_.Go.OpenSpec.ofChange s with cond := some uptoSmall }

/-- 'magnetolaw16.FileGarbles', WHERE WHAT IT READS IS OF BULK AT MOST 1048576: true; the input reads as it did. -/
def fileGarblesUptoRow : OpenClaim := { program := "ytfbpfogmnaahpaa", sum := "e5c7a4fafac1db9cd1cb8cea0864af124473ffa2af8c059e0c242267fe5f13ff", func := "magneto/magnetolaw16.FileGarbles", spec := "fileGarbles", apart := false, narrowed := true }
def FileGarblesUptoSaid : Prop := fileGarblesUptoRow.holds Try.pinned (OpenSpec.upto fileGarblesSpec)

/-- 'magnetolaw16.FilePlays', WHERE WHAT IT READS IS OF BULK AT MOST 1048576: true; the input reads as it did. -/
def filePlaysUptoRow : OpenClaim := { program := "ytfbpfogmnaahpaa", sum := "e5c7a4fafac1db9cd1cb8cea0864af124473ffa2af8c059e0c242267fe5f13ff", func := "magneto/magnetolaw16.FilePlays", spec := "filePlays", apart := false, narrowed := true }
def FilePlaysUptoSaid : Prop := filePlaysUptoRow.holds Try.pinned (OpenSpec.upto filePlaysSpec)

/-- 'magnetolaw16.FileSure', WHERE WHAT IT READS IS OF BULK AT MOST 1048576: true; the input reads as it did. -/
def fileSureUptoRow : OpenClaim := { program := "ytfbpfogmnaahpaa", sum := "e5c7a4fafac1db9cd1cb8cea0864af124473ffa2af8c059e0c242267fe5f13ff", func := "magneto/magnetolaw16.FileSure", spec := "fileSure", apart := false, narrowed := true }
def FileSureUptoSaid : Prop := fileSureUptoRow.holds Try.pinned (OpenSpec.upto fileSureSpec)

/-- 'magnetolaw16.FileOwn', WHERE WHAT IT READS IS OF BULK AT MOST 1048576: true; the input reads as it did. -/
def fileOwnUptoRow : OpenClaim := { program := "ytfbpfogmnaahpaa", sum := "e5c7a4fafac1db9cd1cb8cea0864af124473ffa2af8c059e0c242267fe5f13ff", func := "magneto/magnetolaw16.FileOwn", spec := "fileOwn", apart := false, narrowed := true }
def FileOwnUptoSaid : Prop := fileOwnUptoRow.holds Try.pinned (OpenSpec.upto fileOwnSpec)

/-- 'magnetolaw16.FileParts', WHERE WHAT IT READS IS OF BULK AT MOST 1048576: true; the input reads as it did. -/
def filePartsUptoRow : OpenClaim := { program := "ytfbpfogmnaahpaa", sum := "e5c7a4fafac1db9cd1cb8cea0864af124473ffa2af8c059e0c242267fe5f13ff", func := "magneto/magnetolaw16.FileParts", spec := "fileParts", apart := false, narrowed := true }
def FilePartsUptoSaid : Prop := filePartsUptoRow.holds Try.pinned (OpenSpec.upto filePartsSpec)

end Rows
end Go.Proofs.Ytfbpfogmnaahpaa
