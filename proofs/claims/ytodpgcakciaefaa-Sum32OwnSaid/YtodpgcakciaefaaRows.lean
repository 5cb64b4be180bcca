/-
  No cell of these rows narrows 'for every input' (looked for: loops, veiled, ifaces, maps, wideKeys, modest, calm, conditions, laid).
  DERIVED. THE GIVEN ROWS OF THIS SEAT. 5 by the template 'for every input the law returns true; each argument reads behind the call as it read before'; 0 by the template 'total and deterministic' (their statements: YtodpgcakciaefaaTotals.lean).
  GIVEN WITH THE SEED: the statements are not yours to turn. If you find one false, say at which input.
  Laid BY PROGRAM, IN A SANDBOX (cutbox-rows.mjs): the forced cells as the released guide's own fill.sh prints them over the translation b62a86cb71296e14… (all of the seat's roots in one cut). By AI agents, Wed Nov 11 2026. No macro, syntax, notation, axiom, sorry.
-/
import Derived.Test.YtodpgcakciaefaaChecked
import GoSem.Claim
import GoSem.ClaimJoined
import GoSem.ClaimMapViews
import Derived.JoinedTies
import Derived.KernelRfl
namespace Go.Proofs.Ytodpgcakciaefaa
/- THE CELL 'sum', in the pinned program and in every row, IS THE sha256 OF THE DUMP (.gsa) THAT YtodpgcakciaefaaProg.lean LOADS. Nothing in Lean hashes anything: it is a label: what it is worth is what the hold of that sum in a sandbox is worth. -/
noncomputable def Try.pinned : Pinned := { name := "ytodpgcakciaefaa", sum := "b62a86cb71296e149bf5170c02ffe7dec0305810de6fad2722c9591354cc5854", checked := Try.checked }
namespace Rows
def none {H : Type} : Left H := { results := [], args := [] }

/-- 'magnetolaw14.Sum32Xors': WHATEVER THE INPUT: true; the input reads as it did. -/
def sum32XorsSpec : ChangeSpec := { name := "sum32Xors", fn := fun _ => fun
  | [d] => { results := [.lit (.bool true)], args := [d] }
  | _ => none }
def sum32XorsRow : OpenClaim := { program := "ytodpgcakciaefaa", sum := "b62a86cb71296e149bf5170c02ffe7dec0305810de6fad2722c9591354cc5854", func := "magneto/magnetolaw14.Sum32Xors", spec := "sum32Xors", unfollowed := true, recurses := true, apart := false }
def Sum32XorsSaid : Prop := sum32XorsRow.holds Try.pinned (OpenSpec.ofChange sum32XorsSpec)

/-- ITS FALSE NEIGHBOUR: 'it returns false'. Refute it at one input. -/
def sum32XorsWrong : ChangeSpec := { name := "sum32Xors", fn := fun _ => fun
  | [d] => { results := [.lit (.bool false)], args := [d] }
  | _ => none }
def Sum32XorsWrongFalsely : Prop := sum32XorsRow.holds Try.pinned (OpenSpec.ofChange sum32XorsWrong)

/-- 'magnetolaw14.Sum32Sums': WHATEVER THE INPUT: true; the input reads as it did. -/
def sum32SumsSpec : ChangeSpec := { name := "sum32Sums", fn := fun _ => fun
  | [d] => { results := [.lit (.bool true)], args := [d] }
  | _ => none }
def sum32SumsRow : OpenClaim := { program := "ytodpgcakciaefaa", sum := "b62a86cb71296e149bf5170c02ffe7dec0305810de6fad2722c9591354cc5854", func := "magneto/magnetolaw14.Sum32Sums", spec := "sum32Sums", unfollowed := true, recurses := true, apart := false }
def Sum32SumsSaid : Prop := sum32SumsRow.holds Try.pinned (OpenSpec.ofChange sum32SumsSpec)

/-- ITS FALSE NEIGHBOUR: 'it returns false'. Refute it at one input. -/
def sum32SumsWrong : ChangeSpec := { name := "sum32Sums", fn := fun _ => fun
  | [d] => { results := [.lit (.bool false)], args := [d] }
  | _ => none }
def Sum32SumsWrongFalsely : Prop := sum32SumsRow.holds Try.pinned (OpenSpec.ofChange sum32SumsWrong)

/-- 'magnetolaw14.Sum32Back': WHATEVER THE INPUT: true; the input reads as it did. -/
def sum32BackSpec : ChangeSpec := { name := "sum32Back", fn := fun _ => fun
  | [d1, d2] => { results := [.lit (.bool true)], args := [d1, d2] }
  | _ => none }
def sum32BackRow : OpenClaim := { program := "ytodpgcakciaefaa", sum := "b62a86cb71296e149bf5170c02ffe7dec0305810de6fad2722c9591354cc5854", func := "magneto/magnetolaw14.Sum32Back", spec := "sum32Back", unfollowed := true, recurses := true, apart := false }
def Sum32BackSaid : Prop := sum32BackRow.holds Try.pinned (OpenSpec.ofChange sum32BackSpec)

/-- ITS FALSE NEIGHBOUR: 'it returns false'. Refute it at one input. -/
def sum32BackWrong : ChangeSpec := { name := "sum32Back", fn := fun _ => fun
  | [d1, d2] => { results := [.lit (.bool false)], args := [d1, d2] }
  | _ => none }
def Sum32BackWrongFalsely : Prop := sum32BackRow.holds Try.pinned (OpenSpec.ofChange sum32BackWrong)

/-- 'magnetolaw14.Sum32Turns': WHATEVER THE INPUT: true; the input reads as it did. -/
def sum32TurnsSpec : ChangeSpec := { name := "sum32Turns", fn := fun _ => fun
  | [d1, d2, d3] => { results := [.lit (.bool true)], args := [d1, d2, d3] }
  | _ => none }
def sum32TurnsRow : OpenClaim := { program := "ytodpgcakciaefaa", sum := "b62a86cb71296e149bf5170c02ffe7dec0305810de6fad2722c9591354cc5854", func := "magneto/magnetolaw14.Sum32Turns", spec := "sum32Turns", unfollowed := true, recurses := true, apart := false }
def Sum32TurnsSaid : Prop := sum32TurnsRow.holds Try.pinned (OpenSpec.ofChange sum32TurnsSpec)

/-- ITS FALSE NEIGHBOUR: 'it returns false'. Refute it at one input. -/
def sum32TurnsWrong : ChangeSpec := { name := "sum32Turns", fn := fun _ => fun
  | [d1, d2, d3] => { results := [.lit (.bool false)], args := [d1, d2, d3] }
  | _ => none }
def Sum32TurnsWrongFalsely : Prop := sum32TurnsRow.holds Try.pinned (OpenSpec.ofChange sum32TurnsWrong)

/-- 'magnetolaw14.Sum32Own': WHATEVER THE INPUT: true; the input reads as it did. -/
def sum32OwnSpec : ChangeSpec := { name := "sum32Own", fn := fun _ => fun
  | [d1, d2] => { results := [.lit (.bool true)], args := [d1, d2] }
  | _ => none }
def sum32OwnRow : OpenClaim := { program := "ytodpgcakciaefaa", sum := "b62a86cb71296e149bf5170c02ffe7dec0305810de6fad2722c9591354cc5854", func := "magneto/magnetolaw14.Sum32Own", spec := "sum32Own", unfollowed := true, recurses := true, apart := false }
def Sum32OwnSaid : Prop := sum32OwnRow.holds Try.pinned (OpenSpec.ofChange sum32OwnSpec)

/-- ITS FALSE NEIGHBOUR: 'it returns false'. Refute it at one input. -/
def sum32OwnWrong : ChangeSpec := { name := "sum32Own", fn := fun _ => fun
  | [d1, d2] => { results := [.lit (.bool false)], args := [d1, d2] }
  | _ => none }
def Sum32OwnWrongFalsely : Prop := sum32OwnRow.holds Try.pinned (OpenSpec.ofChange sum32OwnWrong)

/- THE SECOND FORM. 'bulk': how many values and letters a reading holds, each counted each time it is reached (what is shared counts as often as it is met; a slice's spare places count too). A statement '..UptoSaid' is the law's where the arguments, and the package variables that the reading takes, are together of bulk at most 1048576: NARROWER than '..Said'. Prove '..Said' where nothing that the law and all that it calls make is longer than what came in: it says more and counts as full. Else prove '..UptoSaid'. A law counts once. -/
mutual
def uptoBulk {H : Type} : DataW H → Nat
  | .lit (.string bytes) => bytes.length + 1
  | .lit _ => 1
  | .nil => 1
  | .ptr d => uptoBulk d + 1
  | .slice elems spare => uptoBulkAll elems + uptoBulkAll spare + 1
  | .agg parts => uptoBulkAll parts + 1
  | .iface _ d => uptoBulk d + 1
  | .map entries => uptoBulkEntries entries + 1
  | .held _ => 1
def uptoBulkAll {H : Type} : List (DataW H) → Nat
  | [] => 0
  | d :: r => uptoBulk d + uptoBulkAll r
def uptoBulkEntries {H : Type} : List (Lit × DataW H) → Nat
  | [] => 0
  | x :: r => uptoBulkEntry x + uptoBulkEntries r
def uptoBulkEntry {H : Type} : Lit × DataW H → Nat
  | (.string bytes, d) => bytes.length + uptoBulk d + 1
  | (_, d) => uptoBulk d + 1
 end
def uptoSmall : (H : Type) → List (DataW H) → Bool := fun _ ds => decide (uptoBulkAll ds ≤ 1048576)
def OpenSpec.upto (s : _root_.Go.ChangeSpec) : _root_.Go.OpenSpec := { _root_.Go.OpenSpec.ofChange s with cond := some uptoSmall }

/-- 'magnetolaw14.Sum32Xors', WHERE WHAT IT READS IS OF BULK AT MOST 1048576: true; the input reads as it did. -/
def sum32XorsUptoRow : OpenClaim := { program := "ytodpgcakciaefaa", sum := "b62a86cb71296e149bf5170c02ffe7dec0305810de6fad2722c9591354cc5854", func := "magneto/magnetolaw14.Sum32Xors", spec := "sum32Xors", unfollowed := true, recurses := true, apart := false, narrowed := true }
def Sum32XorsUptoSaid : Prop := sum32XorsUptoRow.holds Try.pinned (OpenSpec.upto sum32XorsSpec)

/-- 'magnetolaw14.Sum32Sums', WHERE WHAT IT READS IS OF BULK AT MOST 1048576: true; the input reads as it did. -/
def sum32SumsUptoRow : OpenClaim := { program := "ytodpgcakciaefaa", sum := "b62a86cb71296e149bf5170c02ffe7dec0305810de6fad2722c9591354cc5854", func := "magneto/magnetolaw14.Sum32Sums", spec := "sum32Sums", unfollowed := true, recurses := true, apart := false, narrowed := true }
def Sum32SumsUptoSaid : Prop := sum32SumsUptoRow.holds Try.pinned (OpenSpec.upto sum32SumsSpec)

/-- 'magnetolaw14.Sum32Back', WHERE WHAT IT READS IS OF BULK AT MOST 1048576: true; the input reads as it did. -/
def sum32BackUptoRow : OpenClaim := { program := "ytodpgcakciaefaa", sum := "b62a86cb71296e149bf5170c02ffe7dec0305810de6fad2722c9591354cc5854", func := "magneto/magnetolaw14.Sum32Back", spec := "sum32Back", unfollowed := true, recurses := true, apart := false, narrowed := true }
def Sum32BackUptoSaid : Prop := sum32BackUptoRow.holds Try.pinned (OpenSpec.upto sum32BackSpec)

/-- 'magnetolaw14.Sum32Turns', WHERE WHAT IT READS IS OF BULK AT MOST 1048576: true; the input reads as it did. -/
def sum32TurnsUptoRow : OpenClaim := { program := "ytodpgcakciaefaa", sum := "b62a86cb71296e149bf5170c02ffe7dec0305810de6fad2722c9591354cc5854", func := "magneto/magnetolaw14.Sum32Turns", spec := "sum32Turns", unfollowed := true, recurses := true, apart := false, narrowed := true }
def Sum32TurnsUptoSaid : Prop := sum32TurnsUptoRow.holds Try.pinned (OpenSpec.upto sum32TurnsSpec)

/-- 'magnetolaw14.Sum32Own', WHERE WHAT IT READS IS OF BULK AT MOST 1048576: true; the input reads as it did. -/
def sum32OwnUptoRow : OpenClaim := { program := "ytodpgcakciaefaa", sum := "b62a86cb71296e149bf5170c02ffe7dec0305810de6fad2722c9591354cc5854", func := "magneto/magnetolaw14.Sum32Own", spec := "sum32Own", unfollowed := true, recurses := true, apart := false, narrowed := true }
def Sum32OwnUptoSaid : Prop := sum32OwnUptoRow.holds Try.pinned (OpenSpec.upto sum32OwnSpec)

end Rows
end Go.Proofs.Ytodpgcakciaefaa
