/-
  DERIVED. GIVEN WITH THE SEED: THE CARDS: each row of YtnhhanmkjpmcnaaDoorRows.lean that lists a variable, with what it lists TIED to the program's text (the seventh form; the later family's looks); each row that meets fmt, with fmt's text TOLD by the authors' own Lean function (tested against real Go, not proved from fmt's source: count such statements apart). THE CARD IS WHAT COUNTS. Prove the row's statement (the work); the ties are given (YtnhhanmkjpmcnaaDoorTie.lean); close each card by the builder's one call (the guide's Derived/Test/ToyasCard.lean, 'card_holds'). Laid BY PROGRAM, IN A SANDBOX (cutbox-door.mjs). By AI agents, Wed Nov 11 2026. No macro, syntax, notation, axiom, sorry.
-/
import Derived.Test.YtnhhanmkjpmcnaaDoorRows
import GoSem.ClaimSeven
namespace Go.Proofs.YtnhhanmkjpmcnaaDoor
namespace Rows

/-- THE TIED CARD OF 'concordatlaw21.HeapPlays'. -/
def heapPlaysCard : Claim7 := { stood := { row := heapPlaysRow, standIns := [], harness := (true, "2b4a5fa7edf0f4b1bb50a5db04db6f3746b5e9130c089e2902936c283720d2f8"), looks := false }, kinds := [], alts := [], laidByText := true, laidKinds := [.data, .data, .data], laidTests := true, laidLooks := .later }
def HeapPlaysCardSaid : Prop := Claim7.holds Tryd.pinned (.plain (OpenSpec.ofChange heapPlaysSpec)) heapPlaysCard

/-- THE TIED CARD OF 'concordatlaw21.HeapShows'. -/
def heapShowsCard : Claim7 := { stood := { row := heapShowsRow, standIns := [], harness := (true, "2b4a5fa7edf0f4b1bb50a5db04db6f3746b5e9130c089e2902936c283720d2f8"), looks := false }, kinds := [], alts := [], laidByText := true, laidKinds := [.data, .data, .data], laidTests := true, laidLooks := .later }
def HeapShowsCardSaid : Prop := Claim7.holds Tryd.pinned (.plain (OpenSpec.ofChange heapShowsSpec)) heapShowsCard

/-- THE TIED CARD OF 'concordatlaw21.HeapApart'. -/
def heapApartCard : Claim7 := { stood := { row := heapApartRow, standIns := [], harness := (true, "2b4a5fa7edf0f4b1bb50a5db04db6f3746b5e9130c089e2902936c283720d2f8"), looks := false }, kinds := [], alts := [], laidByText := true, laidKinds := [.data, .data, .data], laidTests := true, laidLooks := .later }
def HeapApartCardSaid : Prop := Claim7.holds Tryd.pinned (.plain (OpenSpec.ofChange heapApartSpec)) heapApartCard

/-- THE TIED CARD OF 'concordatlaw21.HeapNone'. -/
def heapNoneCard : Claim7 := { stood := { row := heapNoneRow, standIns := [], harness := (true, "2b4a5fa7edf0f4b1bb50a5db04db6f3746b5e9130c089e2902936c283720d2f8"), looks := false }, kinds := [], alts := [], laidByText := true, laidKinds := [.data, .data, .data], laidTests := true, laidLooks := .later }
def HeapNoneCardSaid : Prop := Claim7.holds Tryd.pinned (.plain (OpenSpec.ofChange heapNoneSpec)) heapNoneCard

/-- THE SECOND FORM's CARD OF 'concordatlaw21.HeapPlays'. -/
def heapPlaysUptoCard : Claim7 := { stood := { row := heapPlaysUptoRow, standIns := [], harness := (true, "2b4a5fa7edf0f4b1bb50a5db04db6f3746b5e9130c089e2902936c283720d2f8"), looks := false }, kinds := [], alts := [], laidByText := true, laidKinds := [.data, .data, .data], laidTests := true, laidLooks := .later }
def HeapPlaysUptoCardSaid : Prop := Claim7.holds Tryd.pinned (.plain (OpenSpec.upto heapPlaysSpec)) heapPlaysUptoCard

/-- THE SECOND FORM's CARD OF 'concordatlaw21.HeapShows'. -/
def heapShowsUptoCard : Claim7 := { stood := { row := heapShowsUptoRow, standIns := [], harness := (true, "2b4a5fa7edf0f4b1bb50a5db04db6f3746b5e9130c089e2902936c283720d2f8"), looks := false }, kinds := [], alts := [], laidByText := true, laidKinds := [.data, .data, .data], laidTests := true, laidLooks := .later }
def HeapShowsUptoCardSaid : Prop := Claim7.holds Tryd.pinned (.plain (OpenSpec.upto heapShowsSpec)) heapShowsUptoCard

/-- THE SECOND FORM's CARD OF 'concordatlaw21.HeapApart'. -/
def heapApartUptoCard : Claim7 := { stood := { row := heapApartUptoRow, standIns := [], harness := (true, "2b4a5fa7edf0f4b1bb50a5db04db6f3746b5e9130c089e2902936c283720d2f8"), looks := false }, kinds := [], alts := [], laidByText := true, laidKinds := [.data, .data, .data], laidTests := true, laidLooks := .later }
def HeapApartUptoCardSaid : Prop := Claim7.holds Tryd.pinned (.plain (OpenSpec.upto heapApartSpec)) heapApartUptoCard

/-- THE SECOND FORM's CARD OF 'concordatlaw21.HeapNone'. -/
def heapNoneUptoCard : Claim7 := { stood := { row := heapNoneUptoRow, standIns := [], harness := (true, "2b4a5fa7edf0f4b1bb50a5db04db6f3746b5e9130c089e2902936c283720d2f8"), looks := false }, kinds := [], alts := [], laidByText := true, laidKinds := [.data, .data, .data], laidTests := true, laidLooks := .later }
def HeapNoneUptoCardSaid : Prop := Claim7.holds Tryd.pinned (.plain (OpenSpec.upto heapNoneSpec)) heapNoneUptoCard
end Rows
end Go.Proofs.YtnhhanmkjpmcnaaDoor
