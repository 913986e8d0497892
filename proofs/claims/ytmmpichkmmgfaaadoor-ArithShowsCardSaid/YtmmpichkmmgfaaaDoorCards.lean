/-
  DERIVED. GIVEN WITH THE SEED: THE CARDS: each row of YtmmpichkmmgfaaaDoorRows.lean that lists a variable, with what it lists TIED to the program's text (the seventh form; the later family's looks); each row that meets fmt, with fmt's text TOLD by the authors' own Lean function (tested against real Go, not proved from fmt's source: count such statements apart). THE CARD IS WHAT COUNTS. Prove the row's statement (the work); the ties are given (YtmmpichkmmgfaaaDoorTie.lean); close each card by the builder's one call (the guide's Derived/Test/ToyasCard.lean, 'card_holds'). Laid BY PROGRAM, IN A SANDBOX (cutbox-door.mjs). By AI agents, Wed Nov 11 2026. No macro, syntax, notation, axiom, sorry.
-/
import Derived.Test.YtmmpichkmmgfaaaDoorRows
import GoSem.ClaimSeven
namespace Go.Proofs.YtmmpichkmmgfaaaDoor
namespace Rows

/-- THE TIED CARD OF 'concordatlaw20.ArithDoes'. -/
def arithDoesCard : Claim7 := { stood := { row := arithDoesRow, standIns := [], harness := (true, "bcf9f893222be88c4a44ad756657b0a14890db37f0dbd604e7f89010c6a2c3f0"), looks := true }, kinds := [], alts := [], laidByText := true, laidKinds := [.data, .data, .data, .sentinel, .sentinel], laidTests := true, laidLooks := .later }
def ArithDoesCardSaid : Prop := Claim7.holds Tryd.pinned (.plain (OpenSpec.ofChange arithDoesSpec)) arithDoesCard

/-- THE TIED CARD OF 'concordatlaw20.ArithShows'. -/
def arithShowsCard : Claim7 := { stood := { row := arithShowsRow, standIns := [], harness := (true, "bcf9f893222be88c4a44ad756657b0a14890db37f0dbd604e7f89010c6a2c3f0"), looks := true }, kinds := [], alts := [], laidByText := true, laidKinds := [.data, .data, .data, .sentinel, .sentinel], laidTests := true, laidLooks := .later }
def ArithShowsCardSaid : Prop := Claim7.holds Tryd.pinned (.plain (OpenSpec.ofChange arithShowsSpec)) arithShowsCard

/-- THE TIED CARD OF 'concordatlaw20.ArithRing'. -/
def arithRingCard : Claim7 := { stood := { row := arithRingRow, standIns := [], harness := (true, "bcf9f893222be88c4a44ad756657b0a14890db37f0dbd604e7f89010c6a2c3f0"), looks := true }, kinds := [], alts := [], laidByText := true, laidKinds := [.data, .data, .data, .sentinel, .sentinel], laidTests := true, laidLooks := .later }
def ArithRingCardSaid : Prop := Claim7.holds Tryd.pinned (.plain (OpenSpec.ofChange arithRingSpec)) arithRingCard

/-- THE TIED CARD OF 'concordatlaw20.ArithQuotient'. -/
def arithQuotientCard : Claim7 := { stood := { row := arithQuotientRow, standIns := [], harness := (true, "bcf9f893222be88c4a44ad756657b0a14890db37f0dbd604e7f89010c6a2c3f0"), looks := true }, kinds := [], alts := [], laidByText := true, laidKinds := [.data, .data, .data, .sentinel, .sentinel], laidTests := true, laidLooks := .later }
def ArithQuotientCardSaid : Prop := Claim7.holds Tryd.pinned (.plain (OpenSpec.ofChange arithQuotientSpec)) arithQuotientCard

/-- THE TIED CARD OF 'concordatlaw20.ArithOrder'. -/
def arithOrderCard : Claim7 := { stood := { row := arithOrderRow, standIns := [], harness := (true, "bcf9f893222be88c4a44ad756657b0a14890db37f0dbd604e7f89010c6a2c3f0"), looks := true }, kinds := [], alts := [], laidByText := true, laidKinds := [.data, .data, .data, .sentinel, .sentinel], laidTests := true, laidLooks := .later }
def ArithOrderCardSaid : Prop := Claim7.holds Tryd.pinned (.plain (OpenSpec.ofChange arithOrderSpec)) arithOrderCard

/-- THE SECOND FORM's CARD OF 'concordatlaw20.ArithDoes'. -/
def arithDoesUptoCard : Claim7 := { stood := { row := arithDoesUptoRow, standIns := [], harness := (true, "bcf9f893222be88c4a44ad756657b0a14890db37f0dbd604e7f89010c6a2c3f0"), looks := true }, kinds := [], alts := [], laidByText := true, laidKinds := [.data, .data, .data, .sentinel, .sentinel], laidTests := true, laidLooks := .later }
def ArithDoesUptoCardSaid : Prop := Claim7.holds Tryd.pinned (.plain (OpenSpec.upto arithDoesSpec)) arithDoesUptoCard

/-- THE SECOND FORM's CARD OF 'concordatlaw20.ArithShows'. -/
def arithShowsUptoCard : Claim7 := { stood := { row := arithShowsUptoRow, standIns := [], harness := (true, "bcf9f893222be88c4a44ad756657b0a14890db37f0dbd604e7f89010c6a2c3f0"), looks := true }, kinds := [], alts := [], laidByText := true, laidKinds := [.data, .data, .data, .sentinel, .sentinel], laidTests := true, laidLooks := .later }
def ArithShowsUptoCardSaid : Prop := Claim7.holds Tryd.pinned (.plain (OpenSpec.upto arithShowsSpec)) arithShowsUptoCard

/-- THE SECOND FORM's CARD OF 'concordatlaw20.ArithRing'. -/
def arithRingUptoCard : Claim7 := { stood := { row := arithRingUptoRow, standIns := [], harness := (true, "bcf9f893222be88c4a44ad756657b0a14890db37f0dbd604e7f89010c6a2c3f0"), looks := true }, kinds := [], alts := [], laidByText := true, laidKinds := [.data, .data, .data, .sentinel, .sentinel], laidTests := true, laidLooks := .later }
def ArithRingUptoCardSaid : Prop := Claim7.holds Tryd.pinned (.plain (OpenSpec.upto arithRingSpec)) arithRingUptoCard

/-- THE SECOND FORM's CARD OF 'concordatlaw20.ArithQuotient'. -/
def arithQuotientUptoCard : Claim7 := { stood := { row := arithQuotientUptoRow, standIns := [], harness := (true, "bcf9f893222be88c4a44ad756657b0a14890db37f0dbd604e7f89010c6a2c3f0"), looks := true }, kinds := [], alts := [], laidByText := true, laidKinds := [.data, .data, .data, .sentinel, .sentinel], laidTests := true, laidLooks := .later }
def ArithQuotientUptoCardSaid : Prop := Claim7.holds Tryd.pinned (.plain (OpenSpec.upto arithQuotientSpec)) arithQuotientUptoCard

/-- THE SECOND FORM's CARD OF 'concordatlaw20.ArithOrder'. -/
def arithOrderUptoCard : Claim7 := { stood := { row := arithOrderUptoRow, standIns := [], harness := (true, "bcf9f893222be88c4a44ad756657b0a14890db37f0dbd604e7f89010c6a2c3f0"), looks := true }, kinds := [], alts := [], laidByText := true, laidKinds := [.data, .data, .data, .sentinel, .sentinel], laidTests := true, laidLooks := .later }
def ArithOrderUptoCardSaid : Prop := Claim7.holds Tryd.pinned (.plain (OpenSpec.upto arithOrderSpec)) arithOrderUptoCard
end Rows
end Go.Proofs.YtmmpichkmmgfaaaDoor
