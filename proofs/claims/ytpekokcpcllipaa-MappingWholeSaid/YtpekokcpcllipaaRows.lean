/-
  No cell of these rows narrows 'for every input' (looked for: loops, veiled, ifaces, maps, wideKeys, modest, calm, conditions, laid).
  DERIVED. THE GIVEN ROWS OF THIS SEAT. 5 by the template 'for every input the law returns true; each argument reads behind the call as it read before'; 0 by the template 'total and deterministic' (their statements: YtpekokcpcllipaaTotals.lean).
  GIVEN WITH THE SEED: the statements are not yours to turn. If you find one false, say at which input.
  Laid BY PROGRAM, IN A SANDBOX (cutbox-rows.mjs): the forced cells as the released guide's own fill.sh prints them over the translation 50e084b30ffb6491… (all of the seat's roots in one cut). By AI agents, Wed Nov 11 2026. No macro, syntax, notation, axiom, sorry.
-/
import Derived.Test.YtpekokcpcllipaaChecked
import GoSem.Claim
import GoSem.ClaimJoined
import GoSem.ClaimMapViews
import Derived.JoinedTies
import Derived.KernelRfl
namespace Go.Proofs.Ytpekokcpcllipaa
/- THE CELL 'sum', in the pinned program and in every row, IS THE sha256 OF THE DUMP (.gsa) THAT YtpekokcpcllipaaProg.lean LOADS. Nothing in Lean hashes anything: it is a label: what it is worth is what the hold of that sum in a sandbox is worth. -/
noncomputable def Try.pinned : Pinned := { name := "ytpekokcpcllipaa", sum := "50e084b30ffb6491ff8547c6da5f66cb272d757316d9269d03846cad3eabc850", checked := Try.checked }
namespace Rows
def none {H : Type} : Left H := { results := [], args := [] }

/-- 'memfaultlaw12.MappingReturns': WHATEVER THE INPUT: true; the input reads as it did. -/
def mappingReturnsSpec : ChangeSpec := { name := "mappingReturns", fn := fun _ => fun
  | [d1, d2, d3] => { results := [.lit (.bool true)], args := [d1, d2, d3] }
  | _ => none }
def mappingReturnsRow : OpenClaim := { program := "ytpekokcpcllipaa", sum := "50e084b30ffb6491ff8547c6da5f66cb272d757316d9269d03846cad3eabc850", func := "memfault/memfaultlaw12.MappingReturns", spec := "mappingReturns", unfollowed := true, recurses := true, apart := false }
def MappingReturnsSaid : Prop := mappingReturnsRow.holds Try.pinned (OpenSpec.ofChange mappingReturnsSpec)

/-- ITS FALSE NEIGHBOUR: 'it returns false'. Refute it at one input. -/
def mappingReturnsWrong : ChangeSpec := { name := "mappingReturns", fn := fun _ => fun
  | [d1, d2, d3] => { results := [.lit (.bool false)], args := [d1, d2, d3] }
  | _ => none }
def MappingReturnsWrongFalsely : Prop := mappingReturnsRow.holds Try.pinned (OpenSpec.ofChange mappingReturnsWrong)

/-- 'memfaultlaw12.MappingWhole': WHATEVER THE INPUT: true; the input reads as it did. -/
def mappingWholeSpec : ChangeSpec := { name := "mappingWhole", fn := fun _ => fun
  | [d] => { results := [.lit (.bool true)], args := [d] }
  | _ => none }
def mappingWholeRow : OpenClaim := { program := "ytpekokcpcllipaa", sum := "50e084b30ffb6491ff8547c6da5f66cb272d757316d9269d03846cad3eabc850", func := "memfault/memfaultlaw12.MappingWhole", spec := "mappingWhole", unfollowed := true, recurses := true, apart := false }
def MappingWholeSaid : Prop := mappingWholeRow.holds Try.pinned (OpenSpec.ofChange mappingWholeSpec)

/-- ITS FALSE NEIGHBOUR: 'it returns false'. Refute it at one input. -/
def mappingWholeWrong : ChangeSpec := { name := "mappingWhole", fn := fun _ => fun
  | [d] => { results := [.lit (.bool false)], args := [d] }
  | _ => none }
def MappingWholeWrongFalsely : Prop := mappingWholeRow.holds Try.pinned (OpenSpec.ofChange mappingWholeWrong)

/-- 'memfaultlaw12.MappingHoles': WHATEVER THE INPUT: true; the input reads as it did. -/
def mappingHolesSpec : ChangeSpec := { name := "mappingHoles", fn := fun _ => fun
  | [d1, d2] => { results := [.lit (.bool true)], args := [d1, d2] }
  | _ => none }
def mappingHolesRow : OpenClaim := { program := "ytpekokcpcllipaa", sum := "50e084b30ffb6491ff8547c6da5f66cb272d757316d9269d03846cad3eabc850", func := "memfault/memfaultlaw12.MappingHoles", spec := "mappingHoles", unfollowed := true, recurses := true, apart := false }
def MappingHolesSaid : Prop := mappingHolesRow.holds Try.pinned (OpenSpec.ofChange mappingHolesSpec)

/-- ITS FALSE NEIGHBOUR: 'it returns false'. Refute it at one input. -/
def mappingHolesWrong : ChangeSpec := { name := "mappingHoles", fn := fun _ => fun
  | [d1, d2] => { results := [.lit (.bool false)], args := [d1, d2] }
  | _ => none }
def MappingHolesWrongFalsely : Prop := mappingHolesRow.holds Try.pinned (OpenSpec.ofChange mappingHolesWrong)

/-- 'memfaultlaw12.MappingRaw': WHATEVER THE INPUT: true; the input reads as it did. -/
def mappingRawSpec : ChangeSpec := { name := "mappingRaw", fn := fun _ => fun
  | [d1, d2, d3] => { results := [.lit (.bool true)], args := [d1, d2, d3] }
  | _ => none }
def mappingRawRow : OpenClaim := { program := "ytpekokcpcllipaa", sum := "50e084b30ffb6491ff8547c6da5f66cb272d757316d9269d03846cad3eabc850", func := "memfault/memfaultlaw12.MappingRaw", spec := "mappingRaw", unfollowed := true, recurses := true, apart := false }
def MappingRawSaid : Prop := mappingRawRow.holds Try.pinned (OpenSpec.ofChange mappingRawSpec)

/-- ITS FALSE NEIGHBOUR: 'it returns false'. Refute it at one input. -/
def mappingRawWrong : ChangeSpec := { name := "mappingRaw", fn := fun _ => fun
  | [d1, d2, d3] => { results := [.lit (.bool false)], args := [d1, d2, d3] }
  | _ => none }
def MappingRawWrongFalsely : Prop := mappingRawRow.holds Try.pinned (OpenSpec.ofChange mappingRawWrong)

/-- 'memfaultlaw12.MappingMade': WHATEVER THE INPUT: true; the input reads as it did. -/
def mappingMadeSpec : ChangeSpec := { name := "mappingMade", fn := fun _ => fun
  | [d1, d2] => { results := [.lit (.bool true)], args := [d1, d2] }
  | _ => none }
def mappingMadeRow : OpenClaim := { program := "ytpekokcpcllipaa", sum := "50e084b30ffb6491ff8547c6da5f66cb272d757316d9269d03846cad3eabc850", func := "memfault/memfaultlaw12.MappingMade", spec := "mappingMade", unfollowed := true, recurses := true, apart := false }
def MappingMadeSaid : Prop := mappingMadeRow.holds Try.pinned (OpenSpec.ofChange mappingMadeSpec)

/-- ITS FALSE NEIGHBOUR: 'it returns false'. Refute it at one input. -/
def mappingMadeWrong : ChangeSpec := { name := "mappingMade", fn := fun _ => fun
  | [d1, d2] => { results := [.lit (.bool false)], args := [d1, d2] }
  | _ => none }
def MappingMadeWrongFalsely : Prop := mappingMadeRow.holds Try.pinned (OpenSpec.ofChange mappingMadeWrong)

/- THE SECOND FORM. 'bulk': how many values and letters a reading holds, each counted each time it is reached (what is shared counts as often as it is met; a slice's spare places count too). A statement '..UptoSaid' is the law's where the arguments, and the package variables that the reading takes, are together of bulk at most 1048576: NARROWER than '..Said'. Prove '..Said' where nothing that the law and all that it calls make is longer than what came in: it says more and counts as full. Else prove '..UptoSaid'. A law counts once. -/
mutual
def uptoBulk {H : Type} : DataW H → Nat
  | .lit (.string bytes) => bytes.length + 1
  | .lit _ => 1
  | .nil => 1
  | .ptr d => uptoBulk d + 1
  | .slice elems spare => uptoBulkAll elems + uptoBulkAll spare + 1
  | .agg parts => uptoBulkAll parts + 1
  | .iface _ d => uptoBulk d + 1
  | .map entries => uptoBulkEntries entries + 1
  | .held _ => 1
def uptoBulkAll {H : Type} : List (DataW H) → Nat
  | [] => 0
  | d :: r => uptoBulk d + uptoBulkAll r
def uptoBulkEntries {H : Type} : List (Lit × DataW H) → Nat
  | [] => 0
  | x :: r => uptoBulkEntry x + uptoBulkEntries r
def uptoBulkEntry {H : Type} : Lit × DataW H → Nat
  | (.string bytes, d) => bytes.length + uptoBulk d + 1
  | (_, d) => uptoBulk d + 1
 end
def uptoSmall : (H : Type) → List (DataW H) → Bool := fun _ ds => decide (uptoBulkAll ds ≤ 1048576)
def OpenSpec.upto (s : _root_.Go.ChangeSpec) : _root_.Go.OpenSpec := { _root_.Go.OpenSpec.ofChange s with cond := some uptoSmall }

/-- 'memfaultlaw12.MappingReturns', WHERE WHAT IT READS IS OF BULK AT MOST 1048576: true; the input reads as it did. -/
def mappingReturnsUptoRow : OpenClaim := { program := "ytpekokcpcllipaa", sum := "50e084b30ffb6491ff8547c6da5f66cb272d757316d9269d03846cad3eabc850", func := "memfault/memfaultlaw12.MappingReturns", spec := "mappingReturns", unfollowed := true, recurses := true, apart := false, narrowed := true }
def MappingReturnsUptoSaid : Prop := mappingReturnsUptoRow.holds Try.pinned (OpenSpec.upto mappingReturnsSpec)

/-- 'memfaultlaw12.MappingWhole', WHERE WHAT IT READS IS OF BULK AT MOST 1048576: true; the input reads as it did. -/
def mappingWholeUptoRow : OpenClaim := { program := "ytpekokcpcllipaa", sum := "50e084b30ffb6491ff8547c6da5f66cb272d757316d9269d03846cad3eabc850", func := "memfault/memfaultlaw12.MappingWhole", spec := "mappingWhole", unfollowed := true, recurses := true, apart := false, narrowed := true }
def MappingWholeUptoSaid : Prop := mappingWholeUptoRow.holds Try.pinned (OpenSpec.upto mappingWholeSpec)

/-- 'memfaultlaw12.MappingHoles', WHERE WHAT IT READS IS OF BULK AT MOST 1048576: true; the input reads as it did. -/
def mappingHolesUptoRow : OpenClaim := { program := "ytpekokcpcllipaa", sum := "50e084b30ffb6491ff8547c6da5f66cb272d757316d9269d03846cad3eabc850", func := "memfault/memfaultlaw12.MappingHoles", spec := "mappingHoles", unfollowed := true, recurses := true, apart := false, narrowed := true }
def MappingHolesUptoSaid : Prop := mappingHolesUptoRow.holds Try.pinned (OpenSpec.upto mappingHolesSpec)

/-- 'memfaultlaw12.MappingRaw', WHERE WHAT IT READS IS OF BULK AT MOST 1048576: true; the input reads as it did. -/
def mappingRawUptoRow : OpenClaim := { program := "ytpekokcpcllipaa", sum := "50e084b30ffb6491ff8547c6da5f66cb272d757316d9269d03846cad3eabc850", func := "memfault/memfaultlaw12.MappingRaw", spec := "mappingRaw", unfollowed := true, recurses := true, apart := false, narrowed := true }
def MappingRawUptoSaid : Prop := mappingRawUptoRow.holds Try.pinned (OpenSpec.upto mappingRawSpec)

/-- 'memfaultlaw12.MappingMade', WHERE WHAT IT READS IS OF BULK AT MOST 1048576: true; the input reads as it did. -/
def mappingMadeUptoRow : OpenClaim := { program := "ytpekokcpcllipaa", sum := "50e084b30ffb6491ff8547c6da5f66cb272d757316d9269d03846cad3eabc850", func := "memfault/memfaultlaw12.MappingMade", spec := "mappingMade", unfollowed := true, recurses := true, apart := false, narrowed := true }
def MappingMadeUptoSaid : Prop := mappingMadeUptoRow.holds Try.pinned (OpenSpec.upto mappingMadeSpec)

end Rows
end Go.Proofs.Ytpekokcpcllipaa
