/-
  DERIVED. GIVEN WITH THE SEED: THE CARDS: each row of YtffafjcbokfjiaaDoorRows.lean that lists a variable, with what it lists TIED to the program's text (the seventh form; the later family's looks); each row that meets fmt, with fmt's text TOLD by the authors' own Lean function (tested against real Go, not proved from fmt's source: count such statements apart). THE CARD IS WHAT COUNTS. Prove the row's statement (the work); the ties are given (YtffafjcbokfjiaaDoorTie.lean); close each card by the builder's one call (the guide's Derived/Test/ToyasCard.lean, 'card_holds'). Laid BY PROGRAM, IN A SANDBOX (cutbox-door.mjs). By AI agents, Wed Nov 11 2026. No macro, syntax, notation, axiom, sorry.
-/
import Derived.Test.YtffafjcbokfjiaaDoorRows
import GoSem.ClaimSeven
namespace Go.Proofs.YtffafjcbokfjiaaDoor
namespace Rows

/-- THE TIED CARD OF 'memfaultlaw10.HashInverts'. -/
def hashInvertsCard : Claim7 := { stood := { row := hashInvertsRow, standIns := [], harness := (true, "2fb4c870f8a8489afc411356d50ae490e9591fa6daaef5dec80480ffa68de6fc"), looks := false }, kinds := [], alts := [], laidByText := true, laidKinds := [.data], laidTests := true, laidLooks := .later }
def HashInvertsCardSaid : Prop := Claim7.holds Tryd.pinned (.plain (OpenSpec.ofChange hashInvertsSpec)) hashInvertsCard

/-- THE TIED CARD OF 'memfaultlaw10.HashRaw'. -/
def hashRawCard : Claim7 := { stood := { row := hashRawRow, standIns := [], harness := (true, "2fb4c870f8a8489afc411356d50ae490e9591fa6daaef5dec80480ffa68de6fc"), looks := false }, kinds := [], alts := [], laidByText := true, laidKinds := [.data], laidTests := true, laidLooks := .later }
def HashRawCardSaid : Prop := Claim7.holds Tryd.pinned (.plain (OpenSpec.ofChange hashRawSpec)) hashRawCard

/-- THE TIED CARD OF 'memfaultlaw10.HashMade'. -/
def hashMadeCard : Claim7 := { stood := { row := hashMadeRow, standIns := [], harness := (true, "2fb4c870f8a8489afc411356d50ae490e9591fa6daaef5dec80480ffa68de6fc"), looks := false }, kinds := [], alts := [], laidByText := true, laidKinds := [.data], laidTests := true, laidLooks := .later }
def HashMadeCardSaid : Prop := Claim7.holds Tryd.pinned (.plain (OpenSpec.ofChange hashMadeSpec)) hashMadeCard

/-- THE SECOND FORM's CARD OF 'memfaultlaw10.HashInverts'. -/
def hashInvertsUptoCard : Claim7 := { stood := { row := hashInvertsUptoRow, standIns := [], harness := (true, "2fb4c870f8a8489afc411356d50ae490e9591fa6daaef5dec80480ffa68de6fc"), looks := false }, kinds := [], alts := [], laidByText := true, laidKinds := [.data], laidTests := true, laidLooks := .later }
def HashInvertsUptoCardSaid : Prop := Claim7.holds Tryd.pinned (.plain (OpenSpec.upto hashInvertsSpec)) hashInvertsUptoCard

/-- THE SECOND FORM's CARD OF 'memfaultlaw10.HashRaw'. -/
def hashRawUptoCard : Claim7 := { stood := { row := hashRawUptoRow, standIns := [], harness := (true, "2fb4c870f8a8489afc411356d50ae490e9591fa6daaef5dec80480ffa68de6fc"), looks := false }, kinds := [], alts := [], laidByText := true, laidKinds := [.data], laidTests := true, laidLooks := .later }
def HashRawUptoCardSaid : Prop := Claim7.holds Tryd.pinned (.plain (OpenSpec.upto hashRawSpec)) hashRawUptoCard

/-- THE SECOND FORM's CARD OF 'memfaultlaw10.HashMade'. -/
def hashMadeUptoCard : Claim7 := { stood := { row := hashMadeUptoRow, standIns := [], harness := (true, "2fb4c870f8a8489afc411356d50ae490e9591fa6daaef5dec80480ffa68de6fc"), looks := false }, kinds := [], alts := [], laidByText := true, laidKinds := [.data], laidTests := true, laidLooks := .later }
def HashMadeUptoCardSaid : Prop := Claim7.holds Tryd.pinned (.plain (OpenSpec.upto hashMadeSpec)) hashMadeUptoCard
end Rows
end Go.Proofs.YtffafjcbokfjiaaDoor
