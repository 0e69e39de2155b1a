/-
  No cell of these rows narrows 'for every input' (looked for: loops, veiled, ifaces, maps, wideKeys, modest, calm, conditions, laid).
  DERIVED. THE GIVEN ROWS OF THIS SEAT. 3 by the template 'for every input the law returns true; each argument reads behind the call as it read before'; 0 by the template 'total and deterministic' (their statements: YtofpdleglbbpcaaTotals.lean).
  GIVEN WITH THE SEED: the statements are not yours to turn. If you find one false, say at which input.
  Laid BY PROGRAM, IN A SANDBOX (cutbox-rows.mjs): the forced cells as the released guide's own fill.sh prints them over the translation 5675a16969edb1d8… (all of the seat's roots in one cut). By AI agents, Wed Nov 11 2026. No macro, syntax, notation, axiom, sorry.
-/
import Derived.Test.YtofpdleglbbpcaaChecked
import GoSem.Claim
import GoSem.ClaimJoined
import GoSem.ClaimMapViews
import Derived.JoinedTies
import Derived.KernelRfl
namespace Go.Proofs.Ytofpdleglbbpcaa
/- THE CELL 'sum', in the pinned program and in every row, IS THE sha256 OF THE DUMP (.gsa) THAT YtofpdleglbbpcaaProg.lean LOADS. Nothing in Lean hashes anything: it is a label: what it is worth is what the hold of that sum in a sandbox is worth. -/
noncomputable def Try.pinned : Pinned := { name := "ytofpdleglbbpcaa", sum := "5675a16969edb1d8449af821b2460865bc90566ca87ed636c09750ee23b01eaa", checked := Try.checked }
namespace Rows
def none {H : Type} : Left H := { results := [], args := [] }

/-- 'memfaultlaw16.McbankExact': WHATEVER THE INPUT: true; the input reads as it did. -/
def mcbankExactSpec : ChangeSpec := { name := "mcbankExact", fn := fun _ => fun
  | [d1, d2, d3] => { results := [.lit (.bool true)], args := [d1, d2, d3] }
  | _ => none }
def mcbankExactRow : OpenClaim := { program := "ytofpdleglbbpcaa", sum := "5675a16969edb1d8449af821b2460865bc90566ca87ed636c09750ee23b01eaa", func := "memfault/memfaultlaw16.McbankExact", spec := "mcbankExact", apart := false }
def McbankExactSaid : Prop := mcbankExactRow.holds Try.pinned (OpenSpec.ofChange mcbankExactSpec)

/-- ITS FALSE NEIGHBOUR: 'it returns false'. Refute it at one input. -/
def mcbankExactWrong : ChangeSpec := { name := "mcbankExact", fn := fun _ => fun
  | [d1, d2, d3] => { results := [.lit (.bool false)], args := [d1, d2, d3] }
  | _ => none }
def McbankExactWrongFalsely : Prop := mcbankExactRow.holds Try.pinned (OpenSpec.ofChange mcbankExactWrong)

/-- 'memfaultlaw16.McbankRuns': WHATEVER THE INPUT: true; the input reads as it did. -/
def mcbankRunsSpec : ChangeSpec := { name := "mcbankRuns", fn := fun _ => fun
  | [d1, d2] => { results := [.lit (.bool true)], args := [d1, d2] }
  | _ => none }
def mcbankRunsRow : OpenClaim := { program := "ytofpdleglbbpcaa", sum := "5675a16969edb1d8449af821b2460865bc90566ca87ed636c09750ee23b01eaa", func := "memfault/memfaultlaw16.McbankRuns", spec := "mcbankRuns", apart := false }
def McbankRunsSaid : Prop := mcbankRunsRow.holds Try.pinned (OpenSpec.ofChange mcbankRunsSpec)

/-- ITS FALSE NEIGHBOUR: 'it returns false'. Refute it at one input. -/
def mcbankRunsWrong : ChangeSpec := { name := "mcbankRuns", fn := fun _ => fun
  | [d1, d2] => { results := [.lit (.bool false)], args := [d1, d2] }
  | _ => none }
def McbankRunsWrongFalsely : Prop := mcbankRunsRow.holds Try.pinned (OpenSpec.ofChange mcbankRunsWrong)

/-- 'memfaultlaw16.McbankCounts': WHATEVER THE INPUT: true; the input reads as it did. -/
def mcbankCountsSpec : ChangeSpec := { name := "mcbankCounts", fn := fun _ => fun
  | [d] => { results := [.lit (.bool true)], args := [d] }
  | _ => none }
def mcbankCountsRow : OpenClaim := { program := "ytofpdleglbbpcaa", sum := "5675a16969edb1d8449af821b2460865bc90566ca87ed636c09750ee23b01eaa", func := "memfault/memfaultlaw16.McbankCounts", spec := "mcbankCounts", apart := false }
def McbankCountsSaid : Prop := mcbankCountsRow.holds Try.pinned (OpenSpec.ofChange mcbankCountsSpec)

/-- ITS FALSE NEIGHBOUR: 'it returns false'. Refute it at one input. -/
def mcbankCountsWrong : ChangeSpec := { name := "mcbankCounts", fn := fun _ => fun
  | [d] => { results := [.lit (.bool false)], args := [d] }
  | _ => none }
def McbankCountsWrongFalsely : Prop := mcbankCountsRow.holds Try.pinned (OpenSpec.ofChange mcbankCountsWrong)

/- THE SECOND FORM. 'bulk': how many values and letters a reading holds, each counted each time it is reached (what is shared counts as often as it is met; a slice's spare places count too). A statement '..UptoSaid' is the law's where the arguments, and the package variables that the reading takes, are together of bulk at most 1048576: NARROWER than '..Said'. Prove '..Said' where nothing that the law and all that it calls make is longer than what came in: it says more and counts as full. Else prove '..UptoSaid'. A law counts once. -/
mutual
def uptoBulk {H : Type} : DataW H → Nat
  | .lit (.string bytes) => bytes.length + 1
  | .lit _ => 1
  | .nil => 1
  | .ptr d => uptoBulk d + 1
  | .slice elems spare => uptoBulkAll elems + uptoBulkAll spare + 1
  | .agg parts => uptoBulkAll parts + 1
  | .iface _ d => uptoBulk d + 1
  | .map entries => uptoBulkEntries entries + 1
  | .held _ => 1
def uptoBulkAll {H : Type} : List (DataW H) → Nat
  | [] => 0
  | d :: r => uptoBulk d + uptoBulkAll r
def uptoBulkEntries {H : Type} : List (Lit × DataW H) → Nat
  | [] => 0
  | x :: r => uptoBulkEntry x + uptoBulkEntries r
def uptoBulkEntry {H : Type} : Lit × DataW H → Nat
  | (.string bytes, d) => bytes.length + uptoBulk d + 1
  | (_, d) => uptoBulk d + 1
 end
def uptoSmall : (H : Type) → List (DataW H) → Bool := fun _ ds => decide (uptoBulkAll ds ≤ 1048576)
def OpenSpec.upto (s : _root_.Go.ChangeSpec) : _root_.Go.OpenSpec := { _root_.Go.OpenSpec.ofChange s with cond := some uptoSmall }

/-- 'memfaultlaw16.McbankExact', WHERE WHAT IT READS IS OF BULK AT MOST 1048576: true; the input reads as it did. -/
def mcbankExactUptoRow : OpenClaim := { program := "ytofpdleglbbpcaa", sum := "5675a16969edb1d8449af821b2460865bc90566ca87ed636c09750ee23b01eaa", func := "memfault/memfaultlaw16.McbankExact", spec := "mcbankExact", apart := false, narrowed := true }
def McbankExactUptoSaid : Prop := mcbankExactUptoRow.holds Try.pinned (OpenSpec.upto mcbankExactSpec)

/-- 'memfaultlaw16.McbankRuns', WHERE WHAT IT READS IS OF BULK AT MOST 1048576: true; the input reads as it did. -/
def mcbankRunsUptoRow : OpenClaim := { program := "ytofpdleglbbpcaa", sum := "5675a16969edb1d8449af821b2460865bc90566ca87ed636c09750ee23b01eaa", func := "memfault/memfaultlaw16.McbankRuns", spec := "mcbankRuns", apart := false, narrowed := true }
def McbankRunsUptoSaid : Prop := mcbankRunsUptoRow.holds Try.pinned (OpenSpec.upto mcbankRunsSpec)

/-- 'memfaultlaw16.McbankCounts', WHERE WHAT IT READS IS OF BULK AT MOST 1048576: true; the input reads as it did. -/
def mcbankCountsUptoRow : OpenClaim := { program := "ytofpdleglbbpcaa", sum := "5675a16969edb1d8449af821b2460865bc90566ca87ed636c09750ee23b01eaa", func := "memfault/memfaultlaw16.McbankCounts", spec := "mcbankCounts", apart := false, narrowed := true }
def McbankCountsUptoSaid : Prop := mcbankCountsUptoRow.holds Try.pinned (OpenSpec.upto mcbankCountsSpec)

end Rows
end Go.Proofs.Ytofpdleglbbpcaa
