/-
  No cell of these rows narrows 'for every input' (looked for: loops, veiled, ifaces, maps, wideKeys, modest, calm, conditions, laid).
  DERIVED. THE GIVEN ROWS OF THIS SEAT. 5 by the template 'for every input the law returns true; each argument reads behind the call as it read before'; 0 by the template 'total and deterministic' (their statements: YtifdfeahgpghaaaTotals.lean).
  GIVEN WITH THE SEED: the statements are not yours to turn. If you find one false, say at which input.
  Laid BY PROGRAM, IN A SANDBOX (cutbox-rows.mjs): the forced cells as the released guide's own fill.sh prints them over the translation 33bb933dec9f8bc3… (all of the seat's roots in one cut). By AI agents, Wed Nov 11 2026. No macro, syntax, notation, axiom, sorry.
-/
import Derived.Test.YtifdfeahgpghaaaChecked
import GoSem.Claim
import GoSem.ClaimJoined
import GoSem.ClaimMapViews
import Derived.JoinedTies
import Derived.KernelRfl
namespace Go.Proofs.Ytifdfeahgpghaaa
/- THE CELL 'sum', in the pinned program and in every row, IS THE sha256 OF THE DUMP (.gsa) THAT YtifdfeahgpghaaaProg.lean LOADS. Nothing in Lean hashes anything: it is a label: what it is worth is what the hold of that sum in a sandbox is worth. -/
noncomputable def Try.pinned : Pinned := { name := "ytifdfeahgpghaaa", sum := "33bb933dec9f8bc3940cda513123f8d1abba33117773017435ca531a9310eb45", checked := Try.checked }
namespace Rows
def none {H : Type} : Left H := { results := [], args := [] }

/-- 'memfaultlaw20.JournalSurvives': WHATEVER THE INPUT: true; the input reads as it did. -/
def journalSurvivesSpec : ChangeSpec := { name := "journalSurvives", fn := fun _ => fun
  | [d] => { results := [.lit (.bool true)], args := [d] }
  | _ => none }
def journalSurvivesRow : OpenClaim := { program := "ytifdfeahgpghaaa", sum := "33bb933dec9f8bc3940cda513123f8d1abba33117773017435ca531a9310eb45", func := "memfault/memfaultlaw20.JournalSurvives", spec := "journalSurvives", unfollowed := true, recurses := true, apart := false }
def JournalSurvivesSaid : Prop := journalSurvivesRow.holds Try.pinned (OpenSpec.ofChange journalSurvivesSpec)

/-- ITS FALSE NEIGHBOUR: 'it returns false'. Refute it at one input. -/
def journalSurvivesWrong : ChangeSpec := { name := "journalSurvives", fn := fun _ => fun
  | [d] => { results := [.lit (.bool false)], args := [d] }
  | _ => none }
def JournalSurvivesWrongFalsely : Prop := journalSurvivesRow.holds Try.pinned (OpenSpec.ofChange journalSurvivesWrong)

/-- 'memfaultlaw20.JournalTorn': WHATEVER THE INPUT: true; the input reads as it did. -/
def journalTornSpec : ChangeSpec := { name := "journalTorn", fn := fun _ => fun
  | [d1, d2] => { results := [.lit (.bool true)], args := [d1, d2] }
  | _ => none }
def journalTornRow : OpenClaim := { program := "ytifdfeahgpghaaa", sum := "33bb933dec9f8bc3940cda513123f8d1abba33117773017435ca531a9310eb45", func := "memfault/memfaultlaw20.JournalTorn", spec := "journalTorn", unfollowed := true, recurses := true, apart := false }
def JournalTornSaid : Prop := journalTornRow.holds Try.pinned (OpenSpec.ofChange journalTornSpec)

/-- ITS FALSE NEIGHBOUR: 'it returns false'. Refute it at one input. -/
def journalTornWrong : ChangeSpec := { name := "journalTorn", fn := fun _ => fun
  | [d1, d2] => { results := [.lit (.bool false)], args := [d1, d2] }
  | _ => none }
def JournalTornWrongFalsely : Prop := journalTornRow.holds Try.pinned (OpenSpec.ofChange journalTornWrong)

/-- 'memfaultlaw20.JournalRaw': WHATEVER THE INPUT: true; the input reads as it did. -/
def journalRawSpec : ChangeSpec := { name := "journalRaw", fn := fun _ => fun
  | [d1, d2, d3] => { results := [.lit (.bool true)], args := [d1, d2, d3] }
  | _ => none }
def journalRawRow : OpenClaim := { program := "ytifdfeahgpghaaa", sum := "33bb933dec9f8bc3940cda513123f8d1abba33117773017435ca531a9310eb45", func := "memfault/memfaultlaw20.JournalRaw", spec := "journalRaw", unfollowed := true, recurses := true, apart := false }
def JournalRawSaid : Prop := journalRawRow.holds Try.pinned (OpenSpec.ofChange journalRawSpec)

/-- ITS FALSE NEIGHBOUR: 'it returns false'. Refute it at one input. -/
def journalRawWrong : ChangeSpec := { name := "journalRaw", fn := fun _ => fun
  | [d1, d2, d3] => { results := [.lit (.bool false)], args := [d1, d2, d3] }
  | _ => none }
def JournalRawWrongFalsely : Prop := journalRawRow.holds Try.pinned (OpenSpec.ofChange journalRawWrong)

/-- 'memfaultlaw20.JournalMade': WHATEVER THE INPUT: true; the input reads as it did. -/
def journalMadeSpec : ChangeSpec := { name := "journalMade", fn := fun _ => fun
  | [d] => { results := [.lit (.bool true)], args := [d] }
  | _ => none }
def journalMadeRow : OpenClaim := { program := "ytifdfeahgpghaaa", sum := "33bb933dec9f8bc3940cda513123f8d1abba33117773017435ca531a9310eb45", func := "memfault/memfaultlaw20.JournalMade", spec := "journalMade", unfollowed := true, recurses := true, apart := false }
def JournalMadeSaid : Prop := journalMadeRow.holds Try.pinned (OpenSpec.ofChange journalMadeSpec)

/-- ITS FALSE NEIGHBOUR: 'it returns false'. Refute it at one input. -/
def journalMadeWrong : ChangeSpec := { name := "journalMade", fn := fun _ => fun
  | [d] => { results := [.lit (.bool false)], args := [d] }
  | _ => none }
def JournalMadeWrongFalsely : Prop := journalMadeRow.holds Try.pinned (OpenSpec.ofChange journalMadeWrong)

/-- 'memfaultlaw20.JournalDrops': WHATEVER THE INPUT: true; the input reads as it did. -/
def journalDropsSpec : ChangeSpec := { name := "journalDrops", fn := fun _ => fun
  | [d1, d2] => { results := [.lit (.bool true)], args := [d1, d2] }
  | _ => none }
def journalDropsRow : OpenClaim := { program := "ytifdfeahgpghaaa", sum := "33bb933dec9f8bc3940cda513123f8d1abba33117773017435ca531a9310eb45", func := "memfault/memfaultlaw20.JournalDrops", spec := "journalDrops", unfollowed := true, recurses := true, apart := false }
def JournalDropsSaid : Prop := journalDropsRow.holds Try.pinned (OpenSpec.ofChange journalDropsSpec)

/-- ITS FALSE NEIGHBOUR: 'it returns false'. Refute it at one input. -/
def journalDropsWrong : ChangeSpec := { name := "journalDrops", fn := fun _ => fun
  | [d1, d2] => { results := [.lit (.bool false)], args := [d1, d2] }
  | _ => none }
def JournalDropsWrongFalsely : Prop := journalDropsRow.holds Try.pinned (OpenSpec.ofChange journalDropsWrong)

/- THE SECOND FORM. 'bulk': how many values and letters a reading holds, each counted each time it is reached (what is shared counts as often as it is met; a slice's spare places count too). A statement '..UptoSaid' is the law's where the arguments, and the package variables that the reading takes, are together of bulk at most 1048576: NARROWER than '..Said'. Prove '..Said' where nothing that the law and all that it calls make is longer than what came in: it says more and counts as full. Else prove '..UptoSaid'. A law counts once. -/
mutual
def uptoBulk {H : Type} : DataW H → Nat
  | .lit (.string bytes) => bytes.length + 1
  | .lit _ => 1
  | .nil => 1
  | .ptr d => uptoBulk d + 1
  | .slice elems spare => uptoBulkAll elems + uptoBulkAll spare + 1
  | .agg parts => uptoBulkAll parts + 1
  | .iface _ d => uptoBulk d + 1
  | .map entries => uptoBulkEntries entries + 1
  | .held _ => 1
def uptoBulkAll {H : Type} : List (DataW H) → Nat
  | [] => 0
  | d :: r => uptoBulk d + uptoBulkAll r
def uptoBulkEntries {H : Type} : List (Lit × DataW H) → Nat
  | [] => 0
  | x :: r => uptoBulkEntry x + uptoBulkEntries r
def uptoBulkEntry {H : Type} : Lit × DataW H → Nat
  | (.string bytes, d) => bytes.length + uptoBulk d + 1
  | (_, d) => uptoBulk d + 1
 end
def uptoSmall : (H : Type) → List (DataW H) → Bool := fun _ ds => decide (uptoBulkAll ds ≤ 1048576)
def OpenSpec.upto (s : _root_.Go.ChangeSpec) : _root_.Go.OpenSpec := { _root_.Go.OpenSpec.ofChange s with cond := some uptoSmall }

/-- 'memfaultlaw20.JournalSurvives', WHERE WHAT IT READS IS OF BULK AT MOST 1048576: true; the input reads as it did. -/
def journalSurvivesUptoRow : OpenClaim := { program := "ytifdfeahgpghaaa", sum := "33bb933dec9f8bc3940cda513123f8d1abba33117773017435ca531a9310eb45", func := "memfault/memfaultlaw20.JournalSurvives", spec := "journalSurvives", unfollowed := true, recurses := true, apart := false, narrowed := true }
def JournalSurvivesUptoSaid : Prop := journalSurvivesUptoRow.holds Try.pinned (OpenSpec.upto journalSurvivesSpec)

/-- 'memfaultlaw20.JournalTorn', WHERE WHAT IT READS IS OF BULK AT MOST 1048576: true; the input reads as it did. -/
def journalTornUptoRow : OpenClaim := { program := "ytifdfeahgpghaaa", sum := "33bb933dec9f8bc3940cda513123f8d1abba33117773017435ca531a9310eb45", func := "memfault/memfaultlaw20.JournalTorn", spec := "journalTorn", unfollowed := true, recurses := true, apart := false, narrowed := true }
def JournalTornUptoSaid : Prop := journalTornUptoRow.holds Try.pinned (OpenSpec.upto journalTornSpec)

/-- 'memfaultlaw20.JournalRaw', WHERE WHAT IT READS IS OF BULK AT MOST 1048576: true; the input reads as it did. -/
def journalRawUptoRow : OpenClaim := { program := "ytifdfeahgpghaaa", sum := "33bb933dec9f8bc3940cda513123f8d1abba33117773017435ca531a9310eb45", func := "memfault/memfaultlaw20.JournalRaw", spec := "journalRaw", unfollowed := true, recurses := true, apart := false, narrowed := true }
def JournalRawUptoSaid : Prop := journalRawUptoRow.holds Try.pinned (OpenSpec.upto journalRawSpec)

/-- 'memfaultlaw20.JournalMade', WHERE WHAT IT READS IS OF BULK AT MOST 1048576: true; the input reads as it did. -/
def journalMadeUptoRow : OpenClaim := { program := "ytifdfeahgpghaaa", sum := "33bb933dec9f8bc3940cda513123f8d1abba33117773017435ca531a9310eb45", func := "memfault/memfaultlaw20.JournalMade", spec := "journalMade", unfollowed := true, recurses := true, apart := false, narrowed := true }
def JournalMadeUptoSaid : Prop := journalMadeUptoRow.holds Try.pinned (OpenSpec.upto journalMadeSpec)

/-- 'memfaultlaw20.JournalDrops', WHERE WHAT IT READS IS OF BULK AT MOST 1048576: true; the input reads as it did. -/
def journalDropsUptoRow : OpenClaim := { program := "ytifdfeahgpghaaa", sum := "33bb933dec9f8bc3940cda513123f8d1abba33117773017435ca531a9310eb45", func := "memfault/memfaultlaw20.JournalDrops", spec := "journalDrops", unfollowed := true, recurses := true, apart := false, narrowed := true }
def JournalDropsUptoSaid : Prop := journalDropsUptoRow.holds Try.pinned (OpenSpec.upto journalDropsSpec)

end Rows
end Go.Proofs.Ytifdfeahgpghaaa
