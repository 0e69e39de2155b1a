/-
  No cell of these rows narrows 'for every input' (looked for: loops, veiled, ifaces, maps, wideKeys, modest, calm, conditions, laid).
  DERIVED. THE GIVEN ROWS OF THIS SEAT. 3 by the template 'for every input the law returns true; each argument reads behind the call as it read before'; 0 by the template 'total and deterministic' (their statements: YthblmkafcmdjhaaTotals.lean).
  GIVEN WITH THE SEED: the statements are not yours to turn. If you find one false, say at which input.
  Laid BY PROGRAM, IN A SANDBOX (cutbox-rows.mjs): the forced cells as the released guide's own fill.sh prints them over the translation 76f1db0c9574fda3… (all of the seat's roots in one cut). By AI agents, Wed Nov 11 2026. No macro, syntax, notation, axiom, sorry.
-/
import Derived.Test.YthblmkafcmdjhaaChecked
import GoSem.Claim
import GoSem.ClaimJoined
import GoSem.ClaimMapViews
import Derived.JoinedTies
import Derived.KernelRfl
namespace Go.Proofs.Ythblmkafcmdjhaa
/- THE CELL 'sum', in the pinned program and in every row, IS THE sha256 OF THE DUMP (.gsa) THAT YthblmkafcmdjhaaProg.lean LOADS. Nothing in Lean hashes anything: it is a label: what it is worth is what the hold of that sum in a sandbox is worth. -/
noncomputable def Try.pinned : Pinned := { name := "ythblmkafcmdjhaa", sum := "76f1db0c9574fda33588ff659fcdf330ade8b0c783c719f7f80d12b20463a38a", checked := Try.checked }
namespace Rows
def none {H : Type} : Left H := { results := [], args := [] }

/-- 'memfaultlaw19.MediaSurvives': WHATEVER THE INPUT: true; the input reads as it did. -/
def mediaSurvivesSpec : ChangeSpec := { name := "mediaSurvives", fn := fun _ => fun
  | [d] => { results := [.lit (.bool true)], args := [d] }
  | _ => none }
def mediaSurvivesRow : OpenClaim := { program := "ythblmkafcmdjhaa", sum := "76f1db0c9574fda33588ff659fcdf330ade8b0c783c719f7f80d12b20463a38a", func := "memfault/memfaultlaw19.MediaSurvives", spec := "mediaSurvives", apart := false }
def MediaSurvivesSaid : Prop := mediaSurvivesRow.holds Try.pinned (OpenSpec.ofChange mediaSurvivesSpec)

/-- ITS FALSE NEIGHBOUR: 'it returns false'. Refute it at one input. -/
def mediaSurvivesWrong : ChangeSpec := { name := "mediaSurvives", fn := fun _ => fun
  | [d] => { results := [.lit (.bool false)], args := [d] }
  | _ => none }
def MediaSurvivesWrongFalsely : Prop := mediaSurvivesRow.holds Try.pinned (OpenSpec.ofChange mediaSurvivesWrong)

/-- 'memfaultlaw19.MediaExact': WHATEVER THE INPUT: true; the input reads as it did. -/
def mediaExactSpec : ChangeSpec := { name := "mediaExact", fn := fun _ => fun
  | [d1, d2, d3] => { results := [.lit (.bool true)], args := [d1, d2, d3] }
  | _ => none }
def mediaExactRow : OpenClaim := { program := "ythblmkafcmdjhaa", sum := "76f1db0c9574fda33588ff659fcdf330ade8b0c783c719f7f80d12b20463a38a", func := "memfault/memfaultlaw19.MediaExact", spec := "mediaExact", apart := false }
def MediaExactSaid : Prop := mediaExactRow.holds Try.pinned (OpenSpec.ofChange mediaExactSpec)

/-- ITS FALSE NEIGHBOUR: 'it returns false'. Refute it at one input. -/
def mediaExactWrong : ChangeSpec := { name := "mediaExact", fn := fun _ => fun
  | [d1, d2, d3] => { results := [.lit (.bool false)], args := [d1, d2, d3] }
  | _ => none }
def MediaExactWrongFalsely : Prop := mediaExactRow.holds Try.pinned (OpenSpec.ofChange mediaExactWrong)

/-- 'memfaultlaw19.MediaParts': WHATEVER THE INPUT: true; the input reads as it did. -/
def mediaPartsSpec : ChangeSpec := { name := "mediaParts", fn := fun _ => fun
  | [d1, d2, d3] => { results := [.lit (.bool true)], args := [d1, d2, d3] }
  | _ => none }
def mediaPartsRow : OpenClaim := { program := "ythblmkafcmdjhaa", sum := "76f1db0c9574fda33588ff659fcdf330ade8b0c783c719f7f80d12b20463a38a", func := "memfault/memfaultlaw19.MediaParts", spec := "mediaParts", apart := false }
def MediaPartsSaid : Prop := mediaPartsRow.holds Try.pinned (OpenSpec.ofChange mediaPartsSpec)

/-- ITS FALSE NEIGHBOUR: 'it returns false'. Refute it at one input. -/
def mediaPartsWrong : ChangeSpec := { name := "mediaParts", fn := fun _ => fun
  | [d1, d2, d3] => { results := [.lit (.bool false)], args := [d1, d2, d3] }
  | _ => none }
def MediaPartsWrongFalsely : Prop := mediaPartsRow.holds Try.pinned (OpenSpec.ofChange mediaPartsWrong)

/- THE SECOND FORM. 'bulk': how many values and letters a reading holds, each counted each time it is reached (what is shared counts as often as it is met; a slice's spare places count too). A statement '..UptoSaid' is the law's where the arguments, and the package variables that the reading takes, are together of bulk at most 1048576: NARROWER than '..Said'. Prove '..Said' where nothing that the law and all that it calls make is longer than what came in: it says more and counts as full. Else prove '..UptoSaid'. A law counts once. -/
mutual
def uptoBulk {H : Type} : DataW H → Nat
  | .lit (.string bytes) => bytes.length + 1
  | .lit _ => 1
  | .nil => 1
  | .ptr d => uptoBulk d + 1
  | .slice elems spare => uptoBulkAll elems + uptoBulkAll spare + 1
  | .agg parts => uptoBulkAll parts + 1
  | .iface _ d => uptoBulk d + 1
  | .map entries => uptoBulkEntries entries + 1
  | .held _ => 1
def uptoBulkAll {H : Type} : List (DataW H) → Nat
  | [] => 0
  | d :: r => uptoBulk d + uptoBulkAll r
def uptoBulkEntries {H : Type} : List (Lit × DataW H) → Nat
  | [] => 0
  | x :: r => uptoBulkEntry x + uptoBulkEntries r
def uptoBulkEntry {H : Type} : Lit × DataW H → Nat
  | (.string bytes, d) => bytes.length + uptoBulk d + 1
  | (_, d) => uptoBulk d + 1
 end
def uptoSmall : (H : Type) → List (DataW H) → Bool := fun _ ds => decide (uptoBulkAll ds ≤ 1048576)
def OpenSpec.upto (s : _root_.Go.ChangeSpec) : _root_.Go.OpenSpec := { _root_.Go.OpenSpec.ofChange s with cond := some uptoSmall }

/-- 'memfaultlaw19.MediaSurvives', WHERE WHAT IT READS IS OF BULK AT MOST 1048576: true; the input reads as it did. -/
def mediaSurvivesUptoRow : OpenClaim := { program := "ythblmkafcmdjhaa", sum := "76f1db0c9574fda33588ff659fcdf330ade8b0c783c719f7f80d12b20463a38a", func := "memfault/memfaultlaw19.MediaSurvives", spec := "mediaSurvives", apart := false, narrowed := true }
def MediaSurvivesUptoSaid : Prop := mediaSurvivesUptoRow.holds Try.pinned (OpenSpec.upto mediaSurvivesSpec)

/-- 'memfaultlaw19.MediaExact', WHERE WHAT IT READS IS OF BULK AT MOST 1048576: true; the input reads as it did. -/
def mediaExactUptoRow : OpenClaim := { program := "ythblmkafcmdjhaa", sum := "76f1db0c9574fda33588ff659fcdf330ade8b0c783c719f7f80d12b20463a38a", func := "memfault/memfaultlaw19.MediaExact", spec := "mediaExact", apart := false, narrowed := true }
def MediaExactUptoSaid : Prop := mediaExactUptoRow.holds Try.pinned (OpenSpec.upto mediaExactSpec)

/-- 'memfaultlaw19.MediaParts', WHERE WHAT IT READS IS OF BULK AT MOST 1048576: true; the input reads as it did. -/
def mediaPartsUptoRow : OpenClaim := { program := "ythblmkafcmdjhaa", sum := "76f1db0c9574fda33588ff659fcdf330ade8b0c783c719f7f80d12b20463a38a", func := "memfault/memfaultlaw19.MediaParts", spec := "mediaParts", apart := false, narrowed := true }
def MediaPartsUptoSaid : Prop := mediaPartsUptoRow.holds Try.pinned (OpenSpec.upto mediaPartsSpec)

end Rows
end Go.Proofs.Ythblmkafcmdjhaa
