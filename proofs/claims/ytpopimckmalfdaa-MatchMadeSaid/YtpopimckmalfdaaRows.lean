/-
  No cell of these rows narrows 'for every input' (looked for: loops, veiled, ifaces, maps, wideKeys, modest, calm, conditions, laid).
  DERIVED. THE GIVEN ROWS OF THIS SEAT. 5 by the template 'for every input the law returns true; each argument reads behind the call as it read before'; 0 by the template 'total and deterministic' (their statements: YtpopimckmalfdaaTotals.lean).
  GIVEN WITH THE SEED: the statements are not yours to turn. If you find one false, say at which input.
  Laid BY PROGRAM, IN A SANDBOX (cutbox-rows.mjs): the forced cells as the released guide's own fill.sh prints them over the translation bc8e9188f80ef0d2… (all of the seat's roots in one cut). By AI agents, Wed Nov 11 2026. No macro, syntax, notation, axiom, sorry.
-/
import Derived.Test.YtpopimckmalfdaaChecked
import GoSem.Claim
import GoSem.ClaimJoined
import GoSem.ClaimMapViews
import Derived.JoinedTies
import Derived.KernelRfl
namespace Go.Proofs.Ytpopimckmalfdaa
/- THE CELL 'sum', in the pinned program and in every row, IS THE sha256 OF THE DUMP (.gsa) THAT YtpopimckmalfdaaProg.lean LOADS. Nothing in Lean hashes anything: it is a label: what it is worth is what the hold of that sum in a sandbox is worth. -/
noncomputable def Try.pinned : Pinned := { name := "ytpopimckmalfdaa", sum := "bc8e9188f80ef0d29a68c2a6e606455afa44d10bee5bb0fcfbe3b03f8244d998", checked := Try.checked }
namespace Rows
def none {H : Type} : Left H := { results := [], args := [] }

/-- 'memfaultlaw21.MatchSettles': WHATEVER THE INPUT: true; the input reads as it did. -/
def matchSettlesSpec : ChangeSpec := { name := "matchSettles", fn := fun _ => fun
  | [d1, d2] => { results := [.lit (.bool true)], args := [d1, d2] }
  | _ => none }
def matchSettlesRow : OpenClaim := { program := "ytpopimckmalfdaa", sum := "bc8e9188f80ef0d29a68c2a6e606455afa44d10bee5bb0fcfbe3b03f8244d998", func := "memfault/memfaultlaw21.MatchSettles", spec := "matchSettles", unfollowed := true, recurses := true, apart := false }
def MatchSettlesSaid : Prop := matchSettlesRow.holds Try.pinned (OpenSpec.ofChange matchSettlesSpec)

/-- ITS FALSE NEIGHBOUR: 'it returns false'. Refute it at one input. -/
def matchSettlesWrong : ChangeSpec := { name := "matchSettles", fn := fun _ => fun
  | [d1, d2] => { results := [.lit (.bool false)], args := [d1, d2] }
  | _ => none }
def MatchSettlesWrongFalsely : Prop := matchSettlesRow.holds Try.pinned (OpenSpec.ofChange matchSettlesWrong)

/-- 'memfaultlaw21.MatchCounts': WHATEVER THE INPUT: true; the input reads as it did. -/
def matchCountsSpec : ChangeSpec := { name := "matchCounts", fn := fun _ => fun
  | [d1, d2] => { results := [.lit (.bool true)], args := [d1, d2] }
  | _ => none }
def matchCountsRow : OpenClaim := { program := "ytpopimckmalfdaa", sum := "bc8e9188f80ef0d29a68c2a6e606455afa44d10bee5bb0fcfbe3b03f8244d998", func := "memfault/memfaultlaw21.MatchCounts", spec := "matchCounts", unfollowed := true, recurses := true, apart := false }
def MatchCountsSaid : Prop := matchCountsRow.holds Try.pinned (OpenSpec.ofChange matchCountsSpec)

/-- ITS FALSE NEIGHBOUR: 'it returns false'. Refute it at one input. -/
def matchCountsWrong : ChangeSpec := { name := "matchCounts", fn := fun _ => fun
  | [d1, d2] => { results := [.lit (.bool false)], args := [d1, d2] }
  | _ => none }
def MatchCountsWrongFalsely : Prop := matchCountsRow.holds Try.pinned (OpenSpec.ofChange matchCountsWrong)

/-- 'memfaultlaw21.MatchRaw': WHATEVER THE INPUT: true; the input reads as it did. -/
def matchRawSpec : ChangeSpec := { name := "matchRaw", fn := fun _ => fun
  | [d1, d2, d3] => { results := [.lit (.bool true)], args := [d1, d2, d3] }
  | _ => none }
def matchRawRow : OpenClaim := { program := "ytpopimckmalfdaa", sum := "bc8e9188f80ef0d29a68c2a6e606455afa44d10bee5bb0fcfbe3b03f8244d998", func := "memfault/memfaultlaw21.MatchRaw", spec := "matchRaw", unfollowed := true, recurses := true, apart := false }
def MatchRawSaid : Prop := matchRawRow.holds Try.pinned (OpenSpec.ofChange matchRawSpec)

/-- ITS FALSE NEIGHBOUR: 'it returns false'. Refute it at one input. -/
def matchRawWrong : ChangeSpec := { name := "matchRaw", fn := fun _ => fun
  | [d1, d2, d3] => { results := [.lit (.bool false)], args := [d1, d2, d3] }
  | _ => none }
def MatchRawWrongFalsely : Prop := matchRawRow.holds Try.pinned (OpenSpec.ofChange matchRawWrong)

/-- 'memfaultlaw21.MatchMade': WHATEVER THE INPUT: true; the input reads as it did. -/
def matchMadeSpec : ChangeSpec := { name := "matchMade", fn := fun _ => fun
  | [d1, d2] => { results := [.lit (.bool true)], args := [d1, d2] }
  | _ => none }
def matchMadeRow : OpenClaim := { program := "ytpopimckmalfdaa", sum := "bc8e9188f80ef0d29a68c2a6e606455afa44d10bee5bb0fcfbe3b03f8244d998", func := "memfault/memfaultlaw21.MatchMade", spec := "matchMade", unfollowed := true, recurses := true, apart := false }
def MatchMadeSaid : Prop := matchMadeRow.holds Try.pinned (OpenSpec.ofChange matchMadeSpec)

/-- ITS FALSE NEIGHBOUR: 'it returns false'. Refute it at one input. -/
def matchMadeWrong : ChangeSpec := { name := "matchMade", fn := fun _ => fun
  | [d1, d2] => { results := [.lit (.bool false)], args := [d1, d2] }
  | _ => none }
def MatchMadeWrongFalsely : Prop := matchMadeRow.holds Try.pinned (OpenSpec.ofChange matchMadeWrong)

/-- 'memfaultlaw21.MatchJoins': WHATEVER THE INPUT: true; the input reads as it did. -/
def matchJoinsSpec : ChangeSpec := { name := "matchJoins", fn := fun _ => fun
  | [d] => { results := [.lit (.bool true)], args := [d] }
  | _ => none }
def matchJoinsRow : OpenClaim := { program := "ytpopimckmalfdaa", sum := "bc8e9188f80ef0d29a68c2a6e606455afa44d10bee5bb0fcfbe3b03f8244d998", func := "memfault/memfaultlaw21.MatchJoins", spec := "matchJoins", unfollowed := true, recurses := true, apart := false }
def MatchJoinsSaid : Prop := matchJoinsRow.holds Try.pinned (OpenSpec.ofChange matchJoinsSpec)

/-- ITS FALSE NEIGHBOUR: 'it returns false'. Refute it at one input. -/
def matchJoinsWrong : ChangeSpec := { name := "matchJoins", fn := fun _ => fun
  | [d] => { results := [.lit (.bool false)], args := [d] }
  | _ => none }
def MatchJoinsWrongFalsely : Prop := matchJoinsRow.holds Try.pinned (OpenSpec.ofChange matchJoinsWrong)

/- THE SECOND FORM. 'bulk': how many values and letters a reading holds, each counted each time it is reached (what is shared counts as often as it is met; a slice's spare places count too). A statement '..UptoSaid' is the law's where the arguments, and the package variables that the reading takes, are together of bulk at most 1048576: NARROWER than '..Said'. Prove '..Said' where nothing that the law and all that it calls make is longer than what came in: it says more and counts as full. Else prove '..UptoSaid'. A law counts once. -/
mutual
def uptoBulk {H : Type} : DataW H → Nat
  | .lit (.string bytes) => bytes.length + 1
  | .lit _ => 1
  | .nil => 1
  | .ptr d => uptoBulk d + 1
  | .slice elems spare => uptoBulkAll elems + uptoBulkAll spare + 1
  | .agg parts => uptoBulkAll parts + 1
  | .iface _ d => uptoBulk d + 1
  | .map entries => uptoBulkEntries entries + 1
  | .held _ => 1
def uptoBulkAll {H : Type} : List (DataW H) → Nat
  | [] => 0
  | d :: r => uptoBulk d + uptoBulkAll r
def uptoBulkEntries {H : Type} : List (Lit × DataW H) → Nat
  | [] => 0
  | x :: r => uptoBulkEntry x + uptoBulkEntries r
def uptoBulkEntry {H : Type} : Lit × DataW H → Nat
  | (.string bytes, d) => bytes.length + uptoBulk d + 1
  | (_, d) => uptoBulk d + 1
 end
def uptoSmall : (H : Type) → List (DataW H) → Bool := fun _ ds => decide (uptoBulkAll ds ≤ 1048576)
def OpenSpec.upto (s : _root_.Go.ChangeSpec) : _root_.Go.OpenSpec := { _root_.Go.OpenSpec.ofChange s with cond := some uptoSmall }

/-- 'memfaultlaw21.MatchSettles', WHERE WHAT IT READS IS OF BULK AT MOST 1048576: true; the input reads as it did. -/
def matchSettlesUptoRow : OpenClaim := { program := "ytpopimckmalfdaa", sum := "bc8e9188f80ef0d29a68c2a6e606455afa44d10bee5bb0fcfbe3b03f8244d998", func := "memfault/memfaultlaw21.MatchSettles", spec := "matchSettles", unfollowed := true, recurses := true, apart := false, narrowed := true }
def MatchSettlesUptoSaid : Prop := matchSettlesUptoRow.holds Try.pinned (OpenSpec.upto matchSettlesSpec)

/-- 'memfaultlaw21.MatchCounts', WHERE WHAT IT READS IS OF BULK AT MOST 1048576: true; the input reads as it did. -/
def matchCountsUptoRow : OpenClaim := { program := "ytpopimckmalfdaa", sum := "bc8e9188f80ef0d29a68c2a6e606455afa44d10bee5bb0fcfbe3b03f8244d998", func := "memfault/memfaultlaw21.MatchCounts", spec := "matchCounts", unfollowed := true, recurses := true, apart := false, narrowed := true }
def MatchCountsUptoSaid : Prop := matchCountsUptoRow.holds Try.pinned (OpenSpec.upto matchCountsSpec)

/-- 'memfaultlaw21.MatchRaw', WHERE WHAT IT READS IS OF BULK AT MOST 1048576: true; the input reads as it did. -/
def matchRawUptoRow : OpenClaim := { program := "ytpopimckmalfdaa", sum := "bc8e9188f80ef0d29a68c2a6e606455afa44d10bee5bb0fcfbe3b03f8244d998", func := "memfault/memfaultlaw21.MatchRaw", spec := "matchRaw", unfollowed := true, recurses := true, apart := false, narrowed := true }
def MatchRawUptoSaid : Prop := matchRawUptoRow.holds Try.pinned (OpenSpec.upto matchRawSpec)

/-- 'memfaultlaw21.MatchMade', WHERE WHAT IT READS IS OF BULK AT MOST 1048576: true; the input reads as it did. -/
def matchMadeUptoRow : OpenClaim := { program := "ytpopimckmalfdaa", sum := "bc8e9188f80ef0d29a68c2a6e606455afa44d10bee5bb0fcfbe3b03f8244d998", func := "memfault/memfaultlaw21.MatchMade", spec := "matchMade", unfollowed := true, recurses := true, apart := false, narrowed := true }
def MatchMadeUptoSaid : Prop := matchMadeUptoRow.holds Try.pinned (OpenSpec.upto matchMadeSpec)

/-- 'memfaultlaw21.MatchJoins', WHERE WHAT IT READS IS OF BULK AT MOST 1048576: true; the input reads as it did. -/
def matchJoinsUptoRow : OpenClaim := { program := "ytpopimckmalfdaa", sum := "bc8e9188f80ef0d29a68c2a6e606455afa44d10bee5bb0fcfbe3b03f8244d998", func := "memfault/memfaultlaw21.MatchJoins", spec := "matchJoins", unfollowed := true, recurses := true, apart := false, narrowed := true }
def MatchJoinsUptoSaid : Prop := matchJoinsUptoRow.holds Try.pinned (OpenSpec.upto matchJoinsSpec)

end Rows
end Go.Proofs.Ytpopimckmalfdaa
