/-
  No cell of these rows narrows 'for every input' (looked for: loops, veiled, ifaces, maps, wideKeys, modest, calm, conditions, laid).
  DERIVED. THE GIVEN ROWS OF THIS SEAT. 3 by the template 'for every input the law returns true; each argument reads behind the call as it read before'; 0 by the template 'total and deterministic' (their statements: YtihnmopehcjneaaTotals.lean).
  GIVEN WITH THE SEED: the statements are not yours to turn. If you find one false, say at which input.
  Laid BY PROGRAM, IN A SANDBOX (cutbox-rows.mjs): the forced cells as the released guide's own fill.sh prints them over the translation 745433e5d727972b… (all of the seat's roots in one cut). By AI agents, Wed Nov 11 2026. No macro, syntax, notation, axiom, sorry.
-/
import Derived.Test.YtihnmopehcjneaaChecked
import GoSem.Claim
import GoSem.ClaimJoined
import GoSem.ClaimMapViews
import Derived.JoinedTies
import Derived.KernelRfl
namespace Go.Proofs.Ytihnmopehcjneaa
/- THE CELL 'sum', in the pinned program and in every row, IS THE sha256 OF THE DUMP (.gsa) THAT YtihnmopehcjneaaProg.lean LOADS. Nothing in Lean hashes anything: it is a label: what it is worth is what the hold of that sum in a sandbox is worth. -/
noncomputable def Try.pinned : Pinned := { name := "ytihnmopehcjneaa", sum := "745433e5d727972b3f728cb51793ffcc6e3887b799e19844ab9a32131a072493", checked := Try.checked }
namespace Rows
def none {H : Type} : Left H := { results := [], args := [] }

/-- 'memfaultlaw17.RawExact': WHATEVER THE INPUT: true; the input reads as it did. -/
def rawExactSpec : ChangeSpec := { name := "rawExact", fn := fun _ => fun
  | [d1, d2, d3] => { results := [.lit (.bool true)], args := [d1, d2, d3] }
  | _ => none }
def rawExactRow : OpenClaim := { program := "ytihnmopehcjneaa", sum := "745433e5d727972b3f728cb51793ffcc6e3887b799e19844ab9a32131a072493", func := "memfault/memfaultlaw17.RawExact", spec := "rawExact", apart := false }
def RawExactSaid : Prop := rawExactRow.holds Try.pinned (OpenSpec.ofChange rawExactSpec)

/-- ITS FALSE NEIGHBOUR: 'it returns false'. Refute it at one input. -/
def rawExactWrong : ChangeSpec := { name := "rawExact", fn := fun _ => fun
  | [d1, d2, d3] => { results := [.lit (.bool false)], args := [d1, d2, d3] }
  | _ => none }
def RawExactWrongFalsely : Prop := rawExactRow.holds Try.pinned (OpenSpec.ofChange rawExactWrong)

/-- 'memfaultlaw17.RawReturns': WHATEVER THE INPUT: true; the input reads as it did. -/
def rawReturnsSpec : ChangeSpec := { name := "rawReturns", fn := fun _ => fun
  | [d1, d2] => { results := [.lit (.bool true)], args := [d1, d2] }
  | _ => none }
def rawReturnsRow : OpenClaim := { program := "ytihnmopehcjneaa", sum := "745433e5d727972b3f728cb51793ffcc6e3887b799e19844ab9a32131a072493", func := "memfault/memfaultlaw17.RawReturns", spec := "rawReturns", apart := false }
def RawReturnsSaid : Prop := rawReturnsRow.holds Try.pinned (OpenSpec.ofChange rawReturnsSpec)

/-- ITS FALSE NEIGHBOUR: 'it returns false'. Refute it at one input. -/
def rawReturnsWrong : ChangeSpec := { name := "rawReturns", fn := fun _ => fun
  | [d1, d2] => { results := [.lit (.bool false)], args := [d1, d2] }
  | _ => none }
def RawReturnsWrongFalsely : Prop := rawReturnsRow.holds Try.pinned (OpenSpec.ofChange rawReturnsWrong)

/-- 'memfaultlaw17.RawApart': WHATEVER THE INPUT: true; the input reads as it did. -/
def rawApartSpec : ChangeSpec := { name := "rawApart", fn := fun _ => fun
  | [d] => { results := [.lit (.bool true)], args := [d] }
  | _ => none }
def rawApartRow : OpenClaim := { program := "ytihnmopehcjneaa", sum := "745433e5d727972b3f728cb51793ffcc6e3887b799e19844ab9a32131a072493", func := "memfault/memfaultlaw17.RawApart", spec := "rawApart", apart := false }
def RawApartSaid : Prop := rawApartRow.holds Try.pinned (OpenSpec.ofChange rawApartSpec)

/-- ITS FALSE NEIGHBOUR: 'it returns false'. Refute it at one input. -/
def rawApartWrong : ChangeSpec := { name := "rawApart", fn := fun _ => fun
  | [d] => { results := [.lit (.bool false)], args := [d] }
  | _ => none }
def RawApartWrongFalsely : Prop := rawApartRow.holds Try.pinned (OpenSpec.ofChange rawApartWrong)

/- THE SECOND FORM. 'bulk': how many values and letters a reading holds, each counted each time it is reached (what is shared counts as often as it is met; a slice's spare places count too). A statement '..UptoSaid' is the law's where the arguments, and the package variables that the reading takes, are together of bulk at most 1048576: NARROWER than '..Said'. Prove '..Said' where nothing that the law and all that it calls make is longer than what came in: it says more and counts as full. Else prove '..UptoSaid'. A law counts once. -/
mutual
def uptoBulk {H : Type} : DataW H → Nat
  | .lit (.string bytes) => bytes.length + 1
  | .lit _ => 1
  | .nil => 1
  | .ptr d => uptoBulk d + 1
  | .slice elems spare => uptoBulkAll elems + uptoBulkAll spare + 1
  | .agg parts => uptoBulkAll parts + 1
  | .iface _ d => uptoBulk d + 1
  | .map entries => uptoBulkEntries entries + 1
  | .held _ => 1
def uptoBulkAll {H : Type} : List (DataW H) → Nat
  | [] => 0
  | d :: r => uptoBulk d + uptoBulkAll r
def uptoBulkEntries {H : Type} : List (Lit × DataW H) → Nat
  | [] => 0
  | x :: r => uptoBulkEntry x + uptoBulkEntries r
def uptoBulkEntry {H : Type} : Lit × DataW H → Nat
  | (.string bytes, d) => bytes.length + uptoBulk d + 1
  | (_, d) => uptoBulk d + 1
 end
def uptoSmall : (H : Type) → List (DataW H) → Bool := fun _ ds => decide (uptoBulkAll ds ≤ 1048576)
def OpenSpec.upto (s : _root_.Go.ChangeSpec) : _root_.Go.OpenSpec := { _root_.Go.OpenSpec.ofChange s with cond := some uptoSmall }

/-- 'memfaultlaw17.RawExact', WHERE WHAT IT READS IS OF BULK AT MOST 1048576: true; the input reads as it did. -/
def rawExactUptoRow : OpenClaim := { program := "ytihnmopehcjneaa", sum := "745433e5d727972b3f728cb51793ffcc6e3887b799e19844ab9a32131a072493", func := "memfault/memfaultlaw17.RawExact", spec := "rawExact", apart := false, narrowed := true }
def RawExactUptoSaid : Prop := rawExactUptoRow.holds Try.pinned (OpenSpec.upto rawExactSpec)

/-- 'memfaultlaw17.RawReturns', WHERE WHAT IT READS IS OF BULK AT MOST 1048576: true; the input reads as it did. -/
def rawReturnsUptoRow : OpenClaim := { program := "ytihnmopehcjneaa", sum := "745433e5d727972b3f728cb51793ffcc6e3887b799e19844ab9a32131a072493", func := "memfault/memfaultlaw17.RawReturns", spec := "rawReturns", apart := false, narrowed := true }
def RawReturnsUptoSaid : Prop := rawReturnsUptoRow.holds Try.pinned (OpenSpec.upto rawReturnsSpec)

/-- 'memfaultlaw17.RawApart', WHERE WHAT IT READS IS OF BULK AT MOST 1048576: true; the input reads as it did. -/
def rawApartUptoRow : OpenClaim := { program := "ytihnmopehcjneaa", sum := "745433e5d727972b3f728cb51793ffcc6e3887b799e19844ab9a32131a072493", func := "memfault/memfaultlaw17.RawApart", spec := "rawApart", apart := false, narrowed := true }
def RawApartUptoSaid : Prop := rawApartUptoRow.holds Try.pinned (OpenSpec.upto rawApartSpec)

end Rows
end Go.Proofs.Ytihnmopehcjneaa
