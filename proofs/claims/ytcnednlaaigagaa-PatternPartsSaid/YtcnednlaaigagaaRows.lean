/-
  No cell of these rows narrows 'for every input' (looked for: loops, veiled, ifaces, maps, wideKeys, modest, calm, conditions, laid).
  DERIVED. THE GIVEN ROWS OF THIS SEAT. 5 by the template 'for every input the law returns true; each argument reads behind the call as it read before'; 0 by the template 'total and deterministic' (their statements: YtcnednlaaigagaaTotals.lean).
  GIVEN WITH THE SEED: the statements are not yours to turn. If you find one false, say at which input.
  Laid BY PROGRAM, IN A SANDBOX (cutbox-rows.mjs): the forced cells as the released guide's own fill.sh prints them over the translation ee36c5bc390b62e9… (all of the seat's roots in one cut). By AI agents, Wed Nov 11 2026. No macro, syntax, notation, axiom, sorry.
-/
import Derived.Test.YtcnednlaaigagaaChecked
import GoSem.Claim
import GoSem.ClaimJoined
import GoSem.ClaimMapViews
import Derived.JoinedTies
import Derived.KernelRfl
namespace Go.Proofs.Ytcnednlaaigagaa
/- THE CELL 'sum', in the pinned program and in every row, IS THE sha256 OF THE DUMP (.gsa) THAT YtcnednlaaigagaaProg.lean LOADS. Nothing in Lean hashes anything: it is a label: what it is worth is what the hold of that sum in a sandbox is worth. -/
noncomputable def Try.pinned : Pinned := { name := "ytcnednlaaigagaa", sum := "ee36c5bc390b62e9eab801cecef7e879a7627b6b21e71268581d11f96fe0864a", checked := Try.checked }
namespace Rows
def none {H : Type} : Left H := { results := [], args := [] }

/-- 'memfaultlaw24.PatternNested': WHATEVER THE INPUT: true; the input reads as it did. -/
def patternNestedSpec : ChangeSpec := { name := "patternNested", fn := fun _ => fun
  | [d] => { results := [.lit (.bool true)], args := [d] }
  | _ => none }
def patternNestedRow : OpenClaim := { program := "ytcnednlaaigagaa", sum := "ee36c5bc390b62e9eab801cecef7e879a7627b6b21e71268581d11f96fe0864a", func := "memfault/memfaultlaw24.PatternNested", spec := "patternNested", plainKeys := false, apart := false }
def PatternNestedSaid : Prop := patternNestedRow.holds Try.pinned (OpenSpec.ofChange patternNestedSpec)

/-- ITS FALSE NEIGHBOUR: 'it returns false'. Refute it at one input. -/
def patternNestedWrong : ChangeSpec := { name := "patternNested", fn := fun _ => fun
  | [d] => { results := [.lit (.bool false)], args := [d] }
  | _ => none }
def PatternNestedWrongFalsely : Prop := patternNestedRow.holds Try.pinned (OpenSpec.ofChange patternNestedWrong)

/-- 'memfaultlaw24.PatternCounts': WHATEVER THE INPUT: true; the input reads as it did. -/
def patternCountsSpec : ChangeSpec := { name := "patternCounts", fn := fun _ => fun
  | [d] => { results := [.lit (.bool true)], args := [d] }
  | _ => none }
def patternCountsRow : OpenClaim := { program := "ytcnednlaaigagaa", sum := "ee36c5bc390b62e9eab801cecef7e879a7627b6b21e71268581d11f96fe0864a", func := "memfault/memfaultlaw24.PatternCounts", spec := "patternCounts", unfollowed := true, recurses := true, plainKeys := false, apart := false }
def PatternCountsSaid : Prop := patternCountsRow.holds Try.pinned (OpenSpec.ofChange patternCountsSpec)

/-- ITS FALSE NEIGHBOUR: 'it returns false'. Refute it at one input. -/
def patternCountsWrong : ChangeSpec := { name := "patternCounts", fn := fun _ => fun
  | [d] => { results := [.lit (.bool false)], args := [d] }
  | _ => none }
def PatternCountsWrongFalsely : Prop := patternCountsRow.holds Try.pinned (OpenSpec.ofChange patternCountsWrong)

/-- 'memfaultlaw24.PatternMore': WHATEVER THE INPUT: true; the input reads as it did. -/
def patternMoreSpec : ChangeSpec := { name := "patternMore", fn := fun _ => fun
  | [d] => { results := [.lit (.bool true)], args := [d] }
  | _ => none }
def patternMoreRow : OpenClaim := { program := "ytcnednlaaigagaa", sum := "ee36c5bc390b62e9eab801cecef7e879a7627b6b21e71268581d11f96fe0864a", func := "memfault/memfaultlaw24.PatternMore", spec := "patternMore", unfollowed := true, recurses := true, plainKeys := false, apart := false }
def PatternMoreSaid : Prop := patternMoreRow.holds Try.pinned (OpenSpec.ofChange patternMoreSpec)

/-- ITS FALSE NEIGHBOUR: 'it returns false'. Refute it at one input. -/
def patternMoreWrong : ChangeSpec := { name := "patternMore", fn := fun _ => fun
  | [d] => { results := [.lit (.bool false)], args := [d] }
  | _ => none }
def PatternMoreWrongFalsely : Prop := patternMoreRow.holds Try.pinned (OpenSpec.ofChange patternMoreWrong)

/-- 'memfaultlaw24.PatternTurned': WHATEVER THE INPUT: true; the input reads as it did. -/
def patternTurnedSpec : ChangeSpec := { name := "patternTurned", fn := fun _ => fun
  | [d1, d2] => { results := [.lit (.bool true)], args := [d1, d2] }
  | _ => none }
def patternTurnedRow : OpenClaim := { program := "ytcnednlaaigagaa", sum := "ee36c5bc390b62e9eab801cecef7e879a7627b6b21e71268581d11f96fe0864a", func := "memfault/memfaultlaw24.PatternTurned", spec := "patternTurned", unfollowed := true, recurses := true, plainKeys := false, apart := false }
def PatternTurnedSaid : Prop := patternTurnedRow.holds Try.pinned (OpenSpec.ofChange patternTurnedSpec)

/-- ITS FALSE NEIGHBOUR: 'it returns false'. Refute it at one input. -/
def patternTurnedWrong : ChangeSpec := { name := "patternTurned", fn := fun _ => fun
  | [d1, d2] => { results := [.lit (.bool false)], args := [d1, d2] }
  | _ => none }
def PatternTurnedWrongFalsely : Prop := patternTurnedRow.holds Try.pinned (OpenSpec.ofChange patternTurnedWrong)

/-- 'memfaultlaw24.PatternParts': WHATEVER THE INPUT: true; the input reads as it did. -/
def patternPartsSpec : ChangeSpec := { name := "patternParts", fn := fun _ => fun
  | [d1, d2, d3, d4, d5] => { results := [.lit (.bool true)], args := [d1, d2, d3, d4, d5] }
  | _ => none }
def patternPartsRow : OpenClaim := { program := "ytcnednlaaigagaa", sum := "ee36c5bc390b62e9eab801cecef7e879a7627b6b21e71268581d11f96fe0864a", func := "memfault/memfaultlaw24.PatternParts", spec := "patternParts", unfollowed := true, recurses := true, plainKeys := false, apart := false }
def PatternPartsSaid : Prop := patternPartsRow.holds Try.pinned (OpenSpec.ofChange patternPartsSpec)

/-- ITS FALSE NEIGHBOUR: 'it returns false'. Refute it at one input. -/
def patternPartsWrong : ChangeSpec := { name := "patternParts", fn := fun _ => fun
  | [d1, d2, d3, d4, d5] => { results := [.lit (.bool false)], args := [d1, d2, d3, d4, d5] }
  | _ => none }
def PatternPartsWrongFalsely : Prop := patternPartsRow.holds Try.pinned (OpenSpec.ofChange patternPartsWrong)

/- THE SECOND FORM. 'bulk': how many values and letters a reading holds, each counted each time it is reached (what is shared counts as often as it is met; a slice's spare places count too). A statement '..UptoSaid' is the law's where the arguments, and the package variables that the reading takes, are together of bulk at most 1048576: NARROWER than '..Said'. Prove '..Said' where nothing that the law and all that it calls make is longer than what came in: it says more and counts as full. Else prove '..UptoSaid'. A law counts once. -/
mutual
def uptoBulk {H : Type} : DataW H → Nat
  | .lit (.string bytes) => bytes.length + 1
  | .lit _ => 1
  | .nil => 1
  | .ptr d => uptoBulk d + 1
  | .slice elems spare => uptoBulkAll elems + uptoBulkAll spare + 1
  | .agg parts => uptoBulkAll parts + 1
  | .iface _ d => uptoBulk d + 1
  | .map entries => uptoBulkEntries entries + 1
  | .held _ => 1
def uptoBulkAll {H : Type} : List (DataW H) → Nat
  | [] => 0
  | d :: r => uptoBulk d + uptoBulkAll r
def uptoBulkEntries {H : Type} : List (Lit × DataW H) → Nat
  | [] => 0
  | x :: r => uptoBulkEntry x + uptoBulkEntries r
def uptoBulkEntry {H : Type} : Lit × DataW H → Nat
  | (.string bytes, d) => bytes.length + uptoBulk d + 1
  | (_, d) => uptoBulk d + 1
 end
def uptoSmall : (H : Type) → List (DataW H) → Bool := fun _ ds => decide (uptoBulkAll ds ≤ 1048576)
def OpenSpec.upto (s : _root_.Go.ChangeSpec) : _root_.Go.OpenSpec := { _root_.Go.OpenSpec.ofChange s with cond := some uptoSmall }

/-- 'memfaultlaw24.PatternNested', WHERE WHAT IT READS IS OF BULK AT MOST 1048576: true; the input reads as it did. -/
def patternNestedUptoRow : OpenClaim := { program := "ytcnednlaaigagaa", sum := "ee36c5bc390b62e9eab801cecef7e879a7627b6b21e71268581d11f96fe0864a", func := "memfault/memfaultlaw24.PatternNested", spec := "patternNested", plainKeys := false, apart := false, narrowed := true }
def PatternNestedUptoSaid : Prop := patternNestedUptoRow.holds Try.pinned (OpenSpec.upto patternNestedSpec)

/-- 'memfaultlaw24.PatternCounts', WHERE WHAT IT READS IS OF BULK AT MOST 1048576: true; the input reads as it did. -/
def patternCountsUptoRow : OpenClaim := { program := "ytcnednlaaigagaa", sum := "ee36c5bc390b62e9eab801cecef7e879a7627b6b21e71268581d11f96fe0864a", func := "memfault/memfaultlaw24.PatternCounts", spec := "patternCounts", unfollowed := true, recurses := true, plainKeys := false, apart := false, narrowed := true }
def PatternCountsUptoSaid : Prop := patternCountsUptoRow.holds Try.pinned (OpenSpec.upto patternCountsSpec)

/-- 'memfaultlaw24.PatternMore', WHERE WHAT IT READS IS OF BULK AT MOST 1048576: true; the input reads as it did. -/
def patternMoreUptoRow : OpenClaim := { program := "ytcnednlaaigagaa", sum := "ee36c5bc390b62e9eab801cecef7e879a7627b6b21e71268581d11f96fe0864a", func := "memfault/memfaultlaw24.PatternMore", spec := "patternMore", unfollowed := true, recurses := true, plainKeys := false, apart := false, narrowed := true }
def PatternMoreUptoSaid : Prop := patternMoreUptoRow.holds Try.pinned (OpenSpec.upto patternMoreSpec)

/-- 'memfaultlaw24.PatternTurned', WHERE WHAT IT READS IS OF BULK AT MOST 1048576: true; the input reads as it did. -/
def patternTurnedUptoRow : OpenClaim := { program := "ytcnednlaaigagaa", sum := "ee36c5bc390b62e9eab801cecef7e879a7627b6b21e71268581d11f96fe0864a", func := "memfault/memfaultlaw24.PatternTurned", spec := "patternTurned", unfollowed := true, recurses := true, plainKeys := false, apart := false, narrowed := true }
def PatternTurnedUptoSaid : Prop := patternTurnedUptoRow.holds Try.pinned (OpenSpec.upto patternTurnedSpec)

/-- 'memfaultlaw24.PatternParts', WHERE WHAT IT READS IS OF BULK AT MOST 1048576: true; the input reads as it did. -/
def patternPartsUptoRow : OpenClaim := { program := "ytcnednlaaigagaa", sum := "ee36c5bc390b62e9eab801cecef7e879a7627b6b21e71268581d11f96fe0864a", func := "memfault/memfaultlaw24.PatternParts", spec := "patternParts", unfollowed := true, recurses := true, plainKeys := false, apart := false, narrowed := true }
def PatternPartsUptoSaid : Prop := patternPartsUptoRow.holds Try.pinned (OpenSpec.upto patternPartsSpec)

end Rows
end Go.Proofs.Ytcnednlaaigagaa
