/-
  No cell of these rows narrows 'for every input' (looked for: loops, veiled, ifaces, maps, wideKeys, modest, calm, conditions, laid).
  DERIVED. THE GIVEN ROWS OF THIS SEAT. 6 by the template 'for every input the law returns true; each argument reads behind the call as it read before'; 0 by the template 'total and deterministic' (their statements: YtkbadhiolahmnaaTotals.lean).
  GIVEN WITH THE SEED: the statements are not yours to turn. If you find one false, say at which input.
  Laid BY PROGRAM, IN A SANDBOX (cutbox-rows.mjs): the forced cells as the released guide's own fill.sh prints them over the translation b0bf37d4e6c318ee… (all of the seat's roots in one cut). By AI agents, Wed Nov 11 2026. No macro, syntax, notation, axiom, sorry.
-/
import Derived.Test.YtkbadhiolahmnaaChecked
import GoSem.Claim
import GoSem.ClaimJoined
import GoSem.ClaimMapViews
import Derived.JoinedTies
import Derived.KernelRfl
namespace Go.Proofs.Ytkbadhiolahmnaa
/- THE CELL 'sum', in the pinned program and in every row, IS THE sha256 OF THE DUMP (.gsa) THAT YtkbadhiolahmnaaProg.lean LOADS. Nothing in Lean hashes anything: it is a label: what it is worth is what the hold of that sum in a sandbox is worth. -/
noncomputable def Try.pinned : Pinned := { name := "ytkbadhiolahmnaa", sum := "b0bf37d4e6c318eed9c11dfc74a5cc8d4c7cd89bb8a6022e8f5b40339c00655c", checked := Try.checked }
namespace Rows
def none {H : Type} : Left H := { results := [], args := [] }

/-- 'memfaultlaw18.RecordMakes': WHATEVER THE INPUT: true; the input reads as it did. -/
def recordMakesSpec : ChangeSpec := { name := "recordMakes", fn := fun _ => fun
  | [d1, d2, d3] => { results := [.lit (.bool true)], args := [d1, d2, d3] }
  | _ => none }
def recordMakesRow : OpenClaim := { program := "ytkbadhiolahmnaa", sum := "b0bf37d4e6c318eed9c11dfc74a5cc8d4c7cd89bb8a6022e8f5b40339c00655c", func := "memfault/memfaultlaw18.RecordMakes", spec := "recordMakes", unfollowed := true, recurses := true, apart := false }
def RecordMakesSaid : Prop := recordMakesRow.holds Try.pinned (OpenSpec.ofChange recordMakesSpec)

/-- ITS FALSE NEIGHBOUR: 'it returns false'. Refute it at one input. -/
def recordMakesWrong : ChangeSpec := { name := "recordMakes", fn := fun _ => fun
  | [d1, d2, d3] => { results := [.lit (.bool false)], args := [d1, d2, d3] }
  | _ => none }
def RecordMakesWrongFalsely : Prop := recordMakesRow.holds Try.pinned (OpenSpec.ofChange recordMakesWrong)

/-- 'memfaultlaw18.RecordRaw': WHATEVER THE INPUT: true; the input reads as it did. -/
def recordRawSpec : ChangeSpec := { name := "recordRaw", fn := fun _ => fun
  | [d1, d2] => { results := [.lit (.bool true)], args := [d1, d2] }
  | _ => none }
def recordRawRow : OpenClaim := { program := "ytkbadhiolahmnaa", sum := "b0bf37d4e6c318eed9c11dfc74a5cc8d4c7cd89bb8a6022e8f5b40339c00655c", func := "memfault/memfaultlaw18.RecordRaw", spec := "recordRaw", unfollowed := true, recurses := true, apart := false }
def RecordRawSaid : Prop := recordRawRow.holds Try.pinned (OpenSpec.ofChange recordRawSpec)

/-- ITS FALSE NEIGHBOUR: 'it returns false'. Refute it at one input. -/
def recordRawWrong : ChangeSpec := { name := "recordRaw", fn := fun _ => fun
  | [d1, d2] => { results := [.lit (.bool false)], args := [d1, d2] }
  | _ => none }
def RecordRawWrongFalsely : Prop := recordRawRow.holds Try.pinned (OpenSpec.ofChange recordRawWrong)

/-- 'memfaultlaw18.RecordMade': WHATEVER THE INPUT: true; the input reads as it did. -/
def recordMadeSpec : ChangeSpec := { name := "recordMade", fn := fun _ => fun
  | [d] => { results := [.lit (.bool true)], args := [d] }
  | _ => none }
def recordMadeRow : OpenClaim := { program := "ytkbadhiolahmnaa", sum := "b0bf37d4e6c318eed9c11dfc74a5cc8d4c7cd89bb8a6022e8f5b40339c00655c", func := "memfault/memfaultlaw18.RecordMade", spec := "recordMade", unfollowed := true, recurses := true, apart := false }
def RecordMadeSaid : Prop := recordMadeRow.holds Try.pinned (OpenSpec.ofChange recordMadeSpec)

/-- ITS FALSE NEIGHBOUR: 'it returns false'. Refute it at one input. -/
def recordMadeWrong : ChangeSpec := { name := "recordMade", fn := fun _ => fun
  | [d] => { results := [.lit (.bool false)], args := [d] }
  | _ => none }
def RecordMadeWrongFalsely : Prop := recordMadeRow.holds Try.pinned (OpenSpec.ofChange recordMadeWrong)

/-- 'memfaultlaw18.RecordReturns': WHATEVER THE INPUT: true; the input reads as it did. -/
def recordReturnsSpec : ChangeSpec := { name := "recordReturns", fn := fun _ => fun
  | [d1, d2, d3] => { results := [.lit (.bool true)], args := [d1, d2, d3] }
  | _ => none }
def recordReturnsRow : OpenClaim := { program := "ytkbadhiolahmnaa", sum := "b0bf37d4e6c318eed9c11dfc74a5cc8d4c7cd89bb8a6022e8f5b40339c00655c", func := "memfault/memfaultlaw18.RecordReturns", spec := "recordReturns", unfollowed := true, recurses := true, apart := false }
def RecordReturnsSaid : Prop := recordReturnsRow.holds Try.pinned (OpenSpec.ofChange recordReturnsSpec)

/-- ITS FALSE NEIGHBOUR: 'it returns false'. Refute it at one input. -/
def recordReturnsWrong : ChangeSpec := { name := "recordReturns", fn := fun _ => fun
  | [d1, d2, d3] => { results := [.lit (.bool false)], args := [d1, d2, d3] }
  | _ => none }
def RecordReturnsWrongFalsely : Prop := recordReturnsRow.holds Try.pinned (OpenSpec.ofChange recordReturnsWrong)

/-- 'memfaultlaw18.RecordChecks': WHATEVER THE INPUT: true; the input reads as it did. -/
def recordChecksSpec : ChangeSpec := { name := "recordChecks", fn := fun _ => fun
  | [d1, d2, d3] => { results := [.lit (.bool true)], args := [d1, d2, d3] }
  | _ => none }
def recordChecksRow : OpenClaim := { program := "ytkbadhiolahmnaa", sum := "b0bf37d4e6c318eed9c11dfc74a5cc8d4c7cd89bb8a6022e8f5b40339c00655c", func := "memfault/memfaultlaw18.RecordChecks", spec := "recordChecks", unfollowed := true, recurses := true, apart := false }
def RecordChecksSaid : Prop := recordChecksRow.holds Try.pinned (OpenSpec.ofChange recordChecksSpec)

/-- ITS FALSE NEIGHBOUR: 'it returns false'. Refute it at one input. -/
def recordChecksWrong : ChangeSpec := { name := "recordChecks", fn := fun _ => fun
  | [d1, d2, d3] => { results := [.lit (.bool false)], args := [d1, d2, d3] }
  | _ => none }
def RecordChecksWrongFalsely : Prop := recordChecksRow.holds Try.pinned (OpenSpec.ofChange recordChecksWrong)

/-- 'memfaultlaw18.RecordApart': WHATEVER THE INPUT: true; the input reads as it did. -/
def recordApartSpec : ChangeSpec := { name := "recordApart", fn := fun _ => fun
  | [d] => { results := [.lit (.bool true)], args := [d] }
  | _ => none }
def recordApartRow : OpenClaim := { program := "ytkbadhiolahmnaa", sum := "b0bf37d4e6c318eed9c11dfc74a5cc8d4c7cd89bb8a6022e8f5b40339c00655c", func := "memfault/memfaultlaw18.RecordApart", spec := "recordApart", unfollowed := true, recurses := true, apart := false }
def RecordApartSaid : Prop := recordApartRow.holds Try.pinned (OpenSpec.ofChange recordApartSpec)

/-- ITS FALSE NEIGHBOUR: 'it returns false'. Refute it at one input. -/
def recordApartWrong : ChangeSpec := { name := "recordApart", fn := fun _ => fun
  | [d] => { results := [.lit (.bool false)], args := [d] }
  | _ => none }
def RecordApartWrongFalsely : Prop := recordApartRow.holds Try.pinned (OpenSpec.ofChange recordApartWrong)

/- THE SECOND FORM. 'bulk': how many values and letters a reading holds, each counted each time it is reached (what is shared counts as often as it is met; a slice's spare places count too). A statement '..UptoSaid' is the law's where the arguments, and the package variables that the reading takes, are together of bulk at most 1048576: NARROWER than '..Said'. Prove '..Said' where nothing that the law and all that it calls make is longer than what came in: it says more and counts as full. Else prove '..UptoSaid'. A law counts once. -/
mutual
def uptoBulk {H : Type} : DataW H → Nat
  | .lit (.string bytes) => bytes.length + 1
  | .lit _ => 1
  | .nil => 1
  | .ptr d => uptoBulk d + 1
  | .slice elems spare => uptoBulkAll elems + uptoBulkAll spare + 1
  | .agg parts => uptoBulkAll parts + 1
  | .iface _ d => uptoBulk d + 1
  | .map entries => uptoBulkEntries entries + 1
  | .held _ => 1
def uptoBulkAll {H : Type} : List (DataW H) → Nat
  | [] => 0
  | d :: r => uptoBulk d + uptoBulkAll r
def uptoBulkEntries {H : Type} : List (Lit × DataW H) → Nat
  | [] => 0
  | x :: r => uptoBulkEntry x + uptoBulkEntries r
def uptoBulkEntry {H : Type} : Lit × DataW H → Nat
  | (.string bytes, d) => bytes.length + uptoBulk d + 1
  | (_, d) => uptoBulk d + 1
 end
def uptoSmall : (H : Type) → List (DataW H) → Bool := fun _ ds => decide (uptoBulkAll ds ≤ 1048576)
def OpenSpec.upto (s : _root_.Go.ChangeSpec) : _root_.Go.OpenSpec := { _root_.Go.OpenSpec.ofChange s with cond := some uptoSmall }

/-- 'memfaultlaw18.RecordMakes', WHERE WHAT IT READS IS OF BULK AT MOST 1048576: true; the input reads as it did. -/
def recordMakesUptoRow : OpenClaim := { program := "ytkbadhiolahmnaa", sum := "b0bf37d4e6c318eed9c11dfc74a5cc8d4c7cd89bb8a6022e8f5b40339c00655c", func := "memfault/memfaultlaw18.RecordMakes", spec := "recordMakes", unfollowed := true, recurses := true, apart := false, narrowed := true }
def RecordMakesUptoSaid : Prop := recordMakesUptoRow.holds Try.pinned (OpenSpec.upto recordMakesSpec)

/-- 'memfaultlaw18.RecordRaw', WHERE WHAT IT READS IS OF BULK AT MOST 1048576: true; the input reads as it did. -/
def recordRawUptoRow : OpenClaim := { program := "ytkbadhiolahmnaa", sum := "b0bf37d4e6c318eed9c11dfc74a5cc8d4c7cd89bb8a6022e8f5b40339c00655c", func := "memfault/memfaultlaw18.RecordRaw", spec := "recordRaw", unfollowed := true, recurses := true, apart := false, narrowed := true }
def RecordRawUptoSaid : Prop := recordRawUptoRow.holds Try.pinned (OpenSpec.upto recordRawSpec)

/-- 'memfaultlaw18.RecordMade', WHERE WHAT IT READS IS OF BULK AT MOST 1048576: true; the input reads as it did. -/
def recordMadeUptoRow : OpenClaim := { program := "ytkbadhiolahmnaa", sum := "b0bf37d4e6c318eed9c11dfc74a5cc8d4c7cd89bb8a6022e8f5b40339c00655c", func := "memfault/memfaultlaw18.RecordMade", spec := "recordMade", unfollowed := true, recurses := true, apart := false, narrowed := true }
def RecordMadeUptoSaid : Prop := recordMadeUptoRow.holds Try.pinned (OpenSpec.upto recordMadeSpec)

/-- 'memfaultlaw18.RecordReturns', WHERE WHAT IT READS IS OF BULK AT MOST 1048576: true; the input reads as it did. -/
def recordReturnsUptoRow : OpenClaim := { program := "ytkbadhiolahmnaa", sum := "b0bf37d4e6c318eed9c11dfc74a5cc8d4c7cd89bb8a6022e8f5b40339c00655c", func := "memfault/memfaultlaw18.RecordReturns", spec := "recordReturns", unfollowed := true, recurses := true, apart := false, narrowed := true }
def RecordReturnsUptoSaid : Prop := recordReturnsUptoRow.holds Try.pinned (OpenSpec.upto recordReturnsSpec)

/-- 'memfaultlaw18.RecordChecks', WHERE WHAT IT READS IS OF BULK AT MOST 1048576: true; the input reads as it did. -/
def recordChecksUptoRow : OpenClaim := { program := "ytkbadhiolahmnaa", sum := "b0bf37d4e6c318eed9c11dfc74a5cc8d4c7cd89bb8a6022e8f5b40339c00655c", func := "memfault/memfaultlaw18.RecordChecks", spec := "recordChecks", unfollowed := true, recurses := true, apart := false, narrowed := true }
def RecordChecksUptoSaid : Prop := recordChecksUptoRow.holds Try.pinned (OpenSpec.upto recordChecksSpec)

/-- 'memfaultlaw18.RecordApart', WHERE WHAT IT READS IS OF BULK AT MOST 1048576: true; the input reads as it did. -/
def recordApartUptoRow : OpenClaim := { program := "ytkbadhiolahmnaa", sum := "b0bf37d4e6c318eed9c11dfc74a5cc8d4c7cd89bb8a6022e8f5b40339c00655c", func := "memfault/memfaultlaw18.RecordApart", spec := "recordApart", unfollowed := true, recurses := true, apart := false, narrowed := true }
def RecordApartUptoSaid : Prop := recordApartUptoRow.holds Try.pinned (OpenSpec.upto recordApartSpec)

end Rows
end Go.Proofs.Ytkbadhiolahmnaa
