/-
  DERIVED. GIVEN WITH THE SEED: THE CARDS: each row of YtphmlacpgnjhfaaDoorRows.lean that lists a variable, with what it lists TIED to the program's text (the seventh form; the later family's looks); each row that meets fmt, with fmt's text TOLD by the authors' own Lean function (tested against real Go, not proved from fmt's source: count such statements apart). THE CARD IS WHAT COUNTS. Prove the row's statement (the work); the ties are given (YtphmlacpgnjhfaaDoorTie.lean); close each card by the builder's one call (the guide's Derived/Test/ToyasCard.lean, 'card_holds'). Laid BY PROGRAM, IN A SANDBOX (cutbox-door.mjs). By AI agents, Wed Nov 11 2026. No macro, syntax, notation, axiom, sorry.
-/
import Derived.Test.YtphmlacpgnjhfaaDoorRows
import GoSem.ClaimSeven
namespace Go.Proofs.YtphmlacpgnjhfaaDoor
namespace Rows

/-- THE TIED CARD OF 'memfaultlaw05.BitmatTurns'. -/
def bitmatTurnsCard : Claim7 := { stood := { row := bitmatTurnsRow, standIns := [], harness := (true, "8a82f5460201a77de1ccb56012a4b1a8bd98e2d7560cbb8f072614a40535e3bc"), looks := false }, kinds := [], alts := [], laidByText := true, laidKinds := [.data], laidTests := true, laidLooks := .later }
def BitmatTurnsCardSaid : Prop := Claim7.holds Tryd.pinned (.plain (OpenSpec.ofChange bitmatTurnsSpec)) bitmatTurnsCard

/-- THE TIED CARD OF 'memfaultlaw05.BitmatInverts'. -/
def bitmatInvertsCard : Claim7 := { stood := { row := bitmatInvertsRow, standIns := [], harness := (true, "8a82f5460201a77de1ccb56012a4b1a8bd98e2d7560cbb8f072614a40535e3bc"), looks := false }, kinds := [], alts := [], laidByText := true, laidKinds := [.data], laidTests := true, laidLooks := .later }
def BitmatInvertsCardSaid : Prop := Claim7.holds Tryd.pinned (.plain (OpenSpec.ofChange bitmatInvertsSpec)) bitmatInvertsCard

/-- THE TIED CARD OF 'memfaultlaw05.BitmatRaw'. -/
def bitmatRawCard : Claim7 := { stood := { row := bitmatRawRow, standIns := [], harness := (true, "8a82f5460201a77de1ccb56012a4b1a8bd98e2d7560cbb8f072614a40535e3bc"), looks := false }, kinds := [], alts := [], laidByText := true, laidKinds := [.data], laidTests := true, laidLooks := .later }
def BitmatRawCardSaid : Prop := Claim7.holds Tryd.pinned (.plain (OpenSpec.ofChange bitmatRawSpec)) bitmatRawCard

/-- THE TIED CARD OF 'memfaultlaw05.BitmatMade'. -/
def bitmatMadeCard : Claim7 := { stood := { row := bitmatMadeRow, standIns := [], harness := (true, "8a82f5460201a77de1ccb56012a4b1a8bd98e2d7560cbb8f072614a40535e3bc"), looks := false }, kinds := [], alts := [], laidByText := true, laidKinds := [.data], laidTests := true, laidLooks := .later }
def BitmatMadeCardSaid : Prop := Claim7.holds Tryd.pinned (.plain (OpenSpec.ofChange bitmatMadeSpec)) bitmatMadeCard

/-- THE SECOND FORM's CARD OF 'memfaultlaw05.BitmatTurns'. -/
def bitmatTurnsUptoCard : Claim7 := { stood := { row := bitmatTurnsUptoRow, standIns := [], harness := (true, "8a82f5460201a77de1ccb56012a4b1a8bd98e2d7560cbb8f072614a40535e3bc"), looks := false }, kinds := [], alts := [], laidByText := true, laidKinds := [.data], laidTests := true, laidLooks := .later }
def BitmatTurnsUptoCardSaid : Prop := Claim7.holds Tryd.pinned (.plain (OpenSpec.upto bitmatTurnsSpec)) bitmatTurnsUptoCard

/-- THE SECOND FORM's CARD OF 'memfaultlaw05.BitmatInverts'. -/
def bitmatInvertsUptoCard : Claim7 := { stood := { row := bitmatInvertsUptoRow, standIns := [], harness := (true, "8a82f5460201a77de1ccb56012a4b1a8bd98e2d7560cbb8f072614a40535e3bc"), looks := false }, kinds := [], alts := [], laidByText := true, laidKinds := [.data], laidTests := true, laidLooks := .later }
def BitmatInvertsUptoCardSaid : Prop := Claim7.holds Tryd.pinned (.plain (OpenSpec.upto bitmatInvertsSpec)) bitmatInvertsUptoCard

/-- THE SECOND FORM's CARD OF 'memfaultlaw05.BitmatRaw'. -/
def bitmatRawUptoCard : Claim7 := { stood := { row := bitmatRawUptoRow, standIns := [], harness := (true, "8a82f5460201a77de1ccb56012a4b1a8bd98e2d7560cbb8f072614a40535e3bc"), looks := false }, kinds := [], alts := [], laidByText := true, laidKinds := [.data], laidTests := true, laidLooks := .later }
def BitmatRawUptoCardSaid : Prop := Claim7.holds Tryd.pinned (.plain (OpenSpec.upto bitmatRawSpec)) bitmatRawUptoCard

/-- THE SECOND FORM's CARD OF 'memfaultlaw05.BitmatMade'. -/
def bitmatMadeUptoCard : Claim7 := { stood := { row := bitmatMadeUptoRow, standIns := [], harness := (true, "8a82f5460201a77de1ccb56012a4b1a8bd98e2d7560cbb8f072614a40535e3bc"), looks := false }, kinds := [], alts := [], laidByText := true, laidKinds := [.data], laidTests := true, laidLooks := .later }
def BitmatMadeUptoCardSaid : Prop := Claim7.holds Tryd.pinned (.plain (OpenSpec.upto bitmatMadeSpec)) bitmatMadeUptoCard
end Rows
end Go.Proofs.YtphmlacpgnjhfaaDoor
