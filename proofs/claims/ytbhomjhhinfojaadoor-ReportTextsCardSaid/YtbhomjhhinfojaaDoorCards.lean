/-
  DERIVED. GIVEN WITH THE SEED: THE CARDS: each row of YtbhomjhhinfojaaDoorRows.lean that lists a variable, with what it lists TIED to the program's text (the seventh form; the later family's looks); each row that meets fmt, with fmt's text TOLD by the authors' own Lean function (tested against real Go, not proved from fmt's source: count such statements apart). THE CARD IS WHAT COUNTS. Prove the row's statement (the work); the ties are given (YtbhomjhhinfojaaDoorTie.lean); close each card by the builder's one call (the guide's Derived/Test/ToyasCard.lean, 'card_holds'). Laid BY PROGRAM, IN A SANDBOX (cutbox-door.mjs). By AI agents, Wed Nov 11 2026. No macro, syntax, notation, axiom, sorry.
-/
import Derived.Test.YtbhomjhhinfojaaDoorRows
import GoSem.ClaimSeven
namespace Go.Proofs.YtbhomjhhinfojaaDoor
namespace Rows

/-- THE TIED CARD OF 'concordatlaw33.ReportLines'. -/
def reportLinesCard : Claim7 := { stood := { row := reportLinesRow, standIns := [], harness := (true, "d8064cb73c16a12ae210450645f5a6df6410aab67dbab2ea9ec3e1ba9de87995"), looks := false }, kinds := [], alts := [], laidByText := true, laidKinds := [.widerDeep, .widerDeep, .widerDeep], laidTests := true, laidLooks := .later }
def ReportLinesCardSaid : Prop := Claim7.holds Tryd.pinned (.plain (OpenSpec.ofChange reportLinesSpec)) reportLinesCard

/-- THE TIED CARD OF 'concordatlaw33.ReportTexts'. -/
def reportTextsCard : Claim7 := { stood := { row := reportTextsRow, standIns := [], harness := (true, "d8064cb73c16a12ae210450645f5a6df6410aab67dbab2ea9ec3e1ba9de87995"), looks := false }, kinds := [], alts := [], laidByText := true, laidKinds := [.widerDeep, .widerDeep, .widerDeep], laidTests := true, laidLooks := .later }
def ReportTextsCardSaid : Prop := Claim7.holds Tryd.pinned (.plain (OpenSpec.ofChange reportTextsSpec)) reportTextsCard

/-- THE TIED CARD OF 'concordatlaw33.ReportBack'. -/
def reportBackCard : Claim7 := { stood := { row := reportBackRow, standIns := [], harness := (true, "d8064cb73c16a12ae210450645f5a6df6410aab67dbab2ea9ec3e1ba9de87995"), looks := false }, kinds := [], alts := [], laidByText := true, laidKinds := [.widerDeep, .widerDeep, .widerDeep], laidTests := true, laidLooks := .later }
def ReportBackCardSaid : Prop := Claim7.holds Tryd.pinned (.plain (OpenSpec.ofChange reportBackSpec)) reportBackCard

/-- THE TIED CARD OF 'concordatlaw33.ReportParts'. -/
def reportPartsCard : Claim7 := { stood := { row := reportPartsRow, standIns := [], harness := (true, "d8064cb73c16a12ae210450645f5a6df6410aab67dbab2ea9ec3e1ba9de87995"), looks := false }, kinds := [], alts := [], laidByText := true, laidKinds := [.widerDeep, .widerDeep, .widerDeep], laidTests := true, laidLooks := .later }
def ReportPartsCardSaid : Prop := Claim7.holds Tryd.pinned (.plain (OpenSpec.ofChange reportPartsSpec)) reportPartsCard

/-- THE SECOND FORM's CARD OF 'concordatlaw33.ReportLines'. -/
def reportLinesUptoCard : Claim7 := { stood := { row := reportLinesUptoRow, standIns := [], harness := (true, "d8064cb73c16a12ae210450645f5a6df6410aab67dbab2ea9ec3e1ba9de87995"), looks := false }, kinds := [], alts := [], laidByText := true, laidKinds := [.widerDeep, .widerDeep, .widerDeep], laidTests := true, laidLooks := .later }
def ReportLinesUptoCardSaid : Prop := Claim7.holds Tryd.pinned (.plain (OpenSpec.upto reportLinesSpec)) reportLinesUptoCard

/-- THE SECOND FORM's CARD OF 'concordatlaw33.ReportTexts'. -/
def reportTextsUptoCard : Claim7 := { stood := { row := reportTextsUptoRow, standIns := [], harness := (true, "d8064cb73c16a12ae210450645f5a6df6410aab67dbab2ea9ec3e1ba9de87995"), looks := false }, kinds := [], alts := [], laidByText := true, laidKinds := [.widerDeep, .widerDeep, .widerDeep], laidTests := true, laidLooks := .later }
def ReportTextsUptoCardSaid : Prop := Claim7.holds Tryd.pinned (.plain (OpenSpec.upto reportTextsSpec)) reportTextsUptoCard

/-- THE SECOND FORM's CARD OF 'concordatlaw33.ReportBack'. -/
def reportBackUptoCard : Claim7 := { stood := { row := reportBackUptoRow, standIns := [], harness := (true, "d8064cb73c16a12ae210450645f5a6df6410aab67dbab2ea9ec3e1ba9de87995"), looks := false }, kinds := [], alts := [], laidByText := true, laidKinds := [.widerDeep, .widerDeep, .widerDeep], laidTests := true, laidLooks := .later }
def ReportBackUptoCardSaid : Prop := Claim7.holds Tryd.pinned (.plain (OpenSpec.upto reportBackSpec)) reportBackUptoCard

/-- THE SECOND FORM's CARD OF 'concordatlaw33.ReportParts'. -/
def reportPartsUptoCard : Claim7 := { stood := { row := reportPartsUptoRow, standIns := [], harness := (true, "d8064cb73c16a12ae210450645f5a6df6410aab67dbab2ea9ec3e1ba9de87995"), looks := false }, kinds := [], alts := [], laidByText := true, laidKinds := [.widerDeep, .widerDeep, .widerDeep], laidTests := true, laidLooks := .later }
def ReportPartsUptoCardSaid : Prop := Claim7.holds Tryd.pinned (.plain (OpenSpec.upto reportPartsSpec)) reportPartsUptoCard
end Rows
end Go.Proofs.YtbhomjhhinfojaaDoor
