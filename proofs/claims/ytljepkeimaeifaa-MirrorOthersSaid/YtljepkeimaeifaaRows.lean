/-
  No cell of these rows narrows 'for every input' (looked for: loops, veiled, ifaces, maps, wideKeys, modest, calm, conditions, laid).
  DERIVED. THE GIVEN ROWS OF THIS SEAT. 4 by the template 'for every input the law returns true; each argument reads behind the call as it read before'; 0 by the template 'total and deterministic' (their statements: YtljepkeimaeifaaTotals.lean).
  GIVEN WITH THE SEED: the statements are not yours to turn. If you find one false, say at which input.
  Laid BY PROGRAM, IN A SANDBOX (cutbox-rows.mjs): the forced cells as the released guide's own fill.sh prints them over the translation 96fae2a557457b07… (all of the seat's roots in one cut). By AI agents, Wed Nov 11 2026. No macro, syntax, notation, axiom, sorry.
-/
import Derived.Test.YtljepkeimaeifaaChecked
import GoSem.Claim
import GoSem.ClaimJoined
import GoSem.ClaimMapViews
import Derived.JoinedTies
import Derived.KernelRfl
namespace Go.Proofs.Ytljepkeimaeifaa
/- THE CELL 'sum', in the pinned program and in every row, IS THE sha256 OF THE DUMP (.gsa) THAT YtljepkeimaeifaaProg.lean LOADS. Nothing in Lean hashes anything: it is a label: what it is worth is what the hold of that sum in a sandbox is worth. -/
noncomputable def Try.pinned : Pinned := { name := "ytljepkeimaeifaa", sum := "96fae2a557457b07e39817b7f4932de1f40bdc282503d9cf02d9c57f43f041bd", checked := Try.checked }
namespace Rows
def none {H : Type} : Left H := { results := [], args := [] }

/-- 'memfaultlaw37.MirrorJoins': WHATEVER THE INPUT: true; the input reads as it did. -/
def mirrorJoinsSpec : ChangeSpec := { name := "mirrorJoins", fn := fun _ => fun
  | [d1, d2] => { results := [.lit (.bool true)], args := [d1, d2] }
  | _ => none }
def mirrorJoinsRow : OpenClaim := { program := "ytljepkeimaeifaa", sum := "96fae2a557457b07e39817b7f4932de1f40bdc282503d9cf02d9c57f43f041bd", func := "memfault/memfaultlaw37.MirrorJoins", spec := "mirrorJoins", unfollowed := true, recurses := true, apart := false }
def MirrorJoinsSaid : Prop := mirrorJoinsRow.holds Try.pinned (OpenSpec.ofChange mirrorJoinsSpec)

/-- ITS FALSE NEIGHBOUR: 'it returns false'. Refute it at one input. -/
def mirrorJoinsWrong : ChangeSpec := { name := "mirrorJoins", fn := fun _ => fun
  | [d1, d2] => { results := [.lit (.bool false)], args := [d1, d2] }
  | _ => none }
def MirrorJoinsWrongFalsely : Prop := mirrorJoinsRow.holds Try.pinned (OpenSpec.ofChange mirrorJoinsWrong)

/-- 'memfaultlaw37.MirrorTwice': WHATEVER THE INPUT: true; the input reads as it did. -/
def mirrorTwiceSpec : ChangeSpec := { name := "mirrorTwice", fn := fun _ => fun
  | [d] => { results := [.lit (.bool true)], args := [d] }
  | _ => none }
def mirrorTwiceRow : OpenClaim := { program := "ytljepkeimaeifaa", sum := "96fae2a557457b07e39817b7f4932de1f40bdc282503d9cf02d9c57f43f041bd", func := "memfault/memfaultlaw37.MirrorTwice", spec := "mirrorTwice", unfollowed := true, recurses := true, apart := false }
def MirrorTwiceSaid : Prop := mirrorTwiceRow.holds Try.pinned (OpenSpec.ofChange mirrorTwiceSpec)

/-- ITS FALSE NEIGHBOUR: 'it returns false'. Refute it at one input. -/
def mirrorTwiceWrong : ChangeSpec := { name := "mirrorTwice", fn := fun _ => fun
  | [d] => { results := [.lit (.bool false)], args := [d] }
  | _ => none }
def MirrorTwiceWrongFalsely : Prop := mirrorTwiceRow.holds Try.pinned (OpenSpec.ofChange mirrorTwiceWrong)

/-- 'memfaultlaw37.MirrorPairs': WHATEVER THE INPUT: true; the input reads as it did. -/
def mirrorPairsSpec : ChangeSpec := { name := "mirrorPairs", fn := fun _ => fun
  | [d1, d2, d3, d4] => { results := [.lit (.bool true)], args := [d1, d2, d3, d4] }
  | _ => none }
def mirrorPairsRow : OpenClaim := { program := "ytljepkeimaeifaa", sum := "96fae2a557457b07e39817b7f4932de1f40bdc282503d9cf02d9c57f43f041bd", func := "memfault/memfaultlaw37.MirrorPairs", spec := "mirrorPairs", unfollowed := true, recurses := true, apart := false }
def MirrorPairsSaid : Prop := mirrorPairsRow.holds Try.pinned (OpenSpec.ofChange mirrorPairsSpec)

/-- ITS FALSE NEIGHBOUR: 'it returns false'. Refute it at one input. -/
def mirrorPairsWrong : ChangeSpec := { name := "mirrorPairs", fn := fun _ => fun
  | [d1, d2, d3, d4] => { results := [.lit (.bool false)], args := [d1, d2, d3, d4] }
  | _ => none }
def MirrorPairsWrongFalsely : Prop := mirrorPairsRow.holds Try.pinned (OpenSpec.ofChange mirrorPairsWrong)

/-- 'memfaultlaw37.MirrorOthers': WHATEVER THE INPUT: true; the input reads as it did. -/
def mirrorOthersSpec : ChangeSpec := { name := "mirrorOthers", fn := fun _ => fun
  | [d] => { results := [.lit (.bool true)], args := [d] }
  | _ => none }
def mirrorOthersRow : OpenClaim := { program := "ytljepkeimaeifaa", sum := "96fae2a557457b07e39817b7f4932de1f40bdc282503d9cf02d9c57f43f041bd", func := "memfault/memfaultlaw37.MirrorOthers", spec := "mirrorOthers", unfollowed := true, recurses := true, apart := false }
def MirrorOthersSaid : Prop := mirrorOthersRow.holds Try.pinned (OpenSpec.ofChange mirrorOthersSpec)

/-- ITS FALSE NEIGHBOUR: 'it returns false'. Refute it at one input. -/
def mirrorOthersWrong : ChangeSpec := { name := "mirrorOthers", fn := fun _ => fun
  | [d] => { results := [.lit (.bool false)], args := [d] }
  | _ => none }
def MirrorOthersWrongFalsely : Prop := mirrorOthersRow.holds Try.pinned (OpenSpec.ofChange mirrorOthersWrong)

/- THE SECOND FORM. 'bulk': how many values and letters a reading holds, each counted each time it is reached (what is shared counts as often as it is met; a slice's spare places count too). A statement '..UptoSaid' is the law's where the arguments, and the package variables that the reading takes, are together of bulk at most 1048576: NARROWER than '..Said'. Prove '..Said' where nothing that the law and all that it calls make is longer than what came in: it says more and counts as full. Else prove '..UptoSaid'. A law counts once. -/
mutual
def uptoBulk {H : Type} : DataW H → Nat
  | .lit (.string bytes) => bytes.length + 1
  | .lit _ => 1
  | .nil => 1
  | .ptr d => uptoBulk d + 1
  | .slice elems spare => uptoBulkAll elems + uptoBulkAll spare + 1
  | .agg parts => uptoBulkAll parts + 1
  | .iface _ d => uptoBulk d + 1
  | .map entries => uptoBulkEntries entries + 1
  | .held _ => 1
def uptoBulkAll {H : Type} : List (DataW H) → Nat
  | [] => 0
  | d :: r => uptoBulk d + uptoBulkAll r
def uptoBulkEntries {H : Type} : List (Lit × DataW H) → Nat
  | [] => 0
  | x :: r => uptoBulkEntry x + uptoBulkEntries r
def uptoBulkEntry {H : Type} : Lit × DataW H → Nat
  | (.string bytes, d) => bytes.length + uptoBulk d + 1
  | (_, d) => uptoBulk d + 1
 end
def uptoSmall : (H : Type) → List (DataW H) → Bool := fun _ ds => decide (uptoBulkAll ds ≤ 1048576)
def OpenSpec.upto (s : _root_.Go.ChangeSpec) : _root_.Go.OpenSpec := { _root_.Go.OpenSpec.ofChange s with cond := some uptoSmall }

/-- 'memfaultlaw37.MirrorJoins', WHERE WHAT IT READS IS OF BULK AT MOST 1048576: true; the input reads as it did. -/
def mirrorJoinsUptoRow : OpenClaim := { program := "ytljepkeimaeifaa", sum := "96fae2a557457b07e39817b7f4932de1f40bdc282503d9cf02d9c57f43f041bd", func := "memfault/memfaultlaw37.MirrorJoins", spec := "mirrorJoins", unfollowed := true, recurses := true, apart := false, narrowed := true }
def MirrorJoinsUptoSaid : Prop := mirrorJoinsUptoRow.holds Try.pinned (OpenSpec.upto mirrorJoinsSpec)

/-- 'memfaultlaw37.MirrorTwice', WHERE WHAT IT READS IS OF BULK AT MOST 1048576: true; the input reads as it did. -/
def mirrorTwiceUptoRow : OpenClaim := { program := "ytljepkeimaeifaa", sum := "96fae2a557457b07e39817b7f4932de1f40bdc282503d9cf02d9c57f43f041bd", func := "memfault/memfaultlaw37.MirrorTwice", spec := "mirrorTwice", unfollowed := true, recurses := true, apart := false, narrowed := true }
def MirrorTwiceUptoSaid : Prop := mirrorTwiceUptoRow.holds Try.pinned (OpenSpec.upto mirrorTwiceSpec)

/-- 'memfaultlaw37.MirrorPairs', WHERE WHAT IT READS IS OF BULK AT MOST 1048576: true; the input reads as it did. -/
def mirrorPairsUptoRow : OpenClaim := { program := "ytljepkeimaeifaa", sum := "96fae2a557457b07e39817b7f4932de1f40bdc282503d9cf02d9c57f43f041bd", func := "memfault/memfaultlaw37.MirrorPairs", spec := "mirrorPairs", unfollowed := true, recurses := true, apart := false, narrowed := true }
def MirrorPairsUptoSaid : Prop := mirrorPairsUptoRow.holds Try.pinned (OpenSpec.upto mirrorPairsSpec)

/-- 'memfaultlaw37.MirrorOthers', WHERE WHAT IT READS IS OF BULK AT MOST 1048576: true; the input reads as it did. -/
def mirrorOthersUptoRow : OpenClaim := { program := "ytljepkeimaeifaa", sum := "96fae2a557457b07e39817b7f4932de1f40bdc282503d9cf02d9c57f43f041bd", func := "memfault/memfaultlaw37.MirrorOthers", spec := "mirrorOthers", unfollowed := true, recurses := true, apart := false, narrowed := true }
def MirrorOthersUptoSaid : Prop := mirrorOthersUptoRow.holds Try.pinned (OpenSpec.upto mirrorOthersSpec)

end Rows
end Go.Proofs.Ytljepkeimaeifaa
