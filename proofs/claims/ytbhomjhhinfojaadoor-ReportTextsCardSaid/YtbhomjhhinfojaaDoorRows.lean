/-
  NARROWER THAN 'FOR EVERY INPUT', by the rows' own cells (each row's printed sentence says how): ReportLines: laid · ReportTexts: laid · ReportBack: laid · ReportParts: laid.
  DERIVED. THE GIVEN ROWS OF THIS SEAT. 4 by the template 'for every input the law returns true; each argument reads behind the call as it read before'; 0 by the template 'total and deterministic' (their statements: YtbhomjhhinfojaaDoorTotals.lean).
  GIVEN WITH THE SEED: the statements are not yours to turn. If you find one false, say at which input.
  Laid BY PROGRAM, IN A SANDBOX (cutbox-rows.mjs): the forced cells as the released guide's own fill.sh prints them over the translation 14b1090bc54024dc… (all of the seat's roots in one cut). By AI agents, Wed Nov 11 2026. No macro, syntax, notation, axiom, sorry.
-/
import Derived.Test.YtbhomjhhinfojaaDoorChecked
import GoSem.Claim
import GoSem.ClaimJoined
import GoSem.ClaimMapViews
import Derived.JoinedTies
import Derived.KernelRfl
namespace Go.Proofs.YtbhomjhhinfojaaDoor
/- THE CELL 'sum', in the pinned program and in every row, IS THE sha256 OF THE DUMP (.gsa) THAT YtbhomjhhinfojaaDoorProg.lean LOADS. Nothing in Lean hashes anything: it is a label: what it is worth is what the hold of that sum in a sandbox is worth. -/
noncomputable def Tryd.pinned : Pinned := { name := "ytbhomjhhinfojaadoor", sum := "14b1090bc54024dcc20962d8b100dc2008274e55a808fad55f2cb3fd934a2813", checked := Tryd.checked }
namespace Rows
def none {H : Type} : Left H := { results := [], args := [] }

/- WHAT THE LISTED PACKAGE-LEVEL VARIABLES READ AS WHEN THE CALL BEGINS. Each datum BY PROGRAM (the guide's laid-datum.mjs) off the statement by which the dump's own 'gosem.cut.vars' lays the variable. In a bare row this is a premise. The card (YtbhomjhhinfojaaDoorCards.lean) ties it to the program's text. -/
def laid_concordat_request_words {H : Type} : DataW H := .agg [.lit (.string []), .lit (.string [114, 101, 110, 97, 109, 101]), .lit (.string [109, 111, 118, 101, 45, 109, 101, 109, 98, 101, 114]), .lit (.string [109, 111, 118, 101, 45, 99, 108, 97, 115, 115])]
def laid_concordat_report_kinds {H : Type} : DataW H := .agg [.lit (.string []), .lit (.string [116, 101, 120, 116]), .lit (.string [111, 114, 100, 101, 114]), .lit (.string [103, 111, 110, 101]), .lit (.string [114, 101, 112, 108, 97, 121]), .lit (.string [116, 121, 112, 101, 115])]
def laid_concordat_report_outcomes {H : Type} : DataW H := .agg [.lit (.string []), .lit (.string [109, 101, 114, 103, 101, 100]), .lit (.string [99, 111, 110, 102, 108, 105, 99, 116, 115]), .lit (.string [116, 101, 120, 116, 117, 97, 108]), .lit (.string [116, 111, 111, 32, 108, 97, 114, 103, 101])]

/-- 'concordatlaw33.ReportLines': WHATEVER THE INPUT: true; the input reads as it did. -/
def reportLinesSpec : ChangeSpec := { name := "reportLines", fn := fun _ => fun
  | [d1, d2, d3] => { results := [.lit (.bool true)], args := [d1, d2, d3] }
  | _ => none }
def reportLinesRow : OpenClaim := { program := "ytbhomjhhinfojaadoor", sum := "14b1090bc54024dcc20962d8b100dc2008274e55a808fad55f2cb3fd934a2813", func := "concordat/concordatlaw33.ReportLines", spec := "reportLines", inPlace := ["internal/bytealg.IndexByteString", "internal/bytealg.IndexString", "internal/abi.NoEscape", "internal/bytealg.MakeNoZero"], named := ["concordat/report.kinds", "internal/bytealg.MaxLen", "concordat/report.outcomes", "concordat/request.words"], apart := false, laid := [("concordat/request.words", laid_concordat_request_words), ("concordat/report.kinds", laid_concordat_report_kinds), ("concordat/report.outcomes", laid_concordat_report_outcomes)] }
def ReportLinesSaid : Prop := reportLinesRow.holds Tryd.pinned (OpenSpec.ofChange reportLinesSpec)

/-- ITS FALSE NEIGHBOUR: 'it returns false'. Refute it at one input. -/
def reportLinesWrong : ChangeSpec := { name := "reportLines", fn := fun _ => fun
  | [d1, d2, d3] => { results := [.lit (.bool false)], args := [d1, d2, d3] }
  | _ => none }
def ReportLinesWrongFalsely : Prop := reportLinesRow.holds Tryd.pinned (OpenSpec.ofChange reportLinesWrong)

/-- 'concordatlaw33.ReportTexts': WHATEVER THE INPUT: true; the input reads as it did. -/
def reportTextsSpec : ChangeSpec := { name := "reportTexts", fn := fun _ => fun
  | [d1, d2, d3] => { results := [.lit (.bool true)], args := [d1, d2, d3] }
  | _ => none }
def reportTextsRow : OpenClaim := { program := "ytbhomjhhinfojaadoor", sum := "14b1090bc54024dcc20962d8b100dc2008274e55a808fad55f2cb3fd934a2813", func := "concordat/concordatlaw33.ReportTexts", spec := "reportTexts", inPlace := ["internal/bytealg.IndexByteString", "internal/bytealg.IndexString", "internal/abi.NoEscape", "internal/bytealg.MakeNoZero"], named := ["concordat/report.kinds", "internal/bytealg.MaxLen", "concordat/report.outcomes", "concordat/request.words"], apart := false, laid := [("concordat/request.words", laid_concordat_request_words), ("concordat/report.kinds", laid_concordat_report_kinds), ("concordat/report.outcomes", laid_concordat_report_outcomes)] }
def ReportTextsSaid : Prop := reportTextsRow.holds Tryd.pinned (OpenSpec.ofChange reportTextsSpec)

/-- ITS FALSE NEIGHBOUR: 'it returns false'. Refute it at one input. -/
def reportTextsWrong : ChangeSpec := { name := "reportTexts", fn := fun _ => fun
  | [d1, d2, d3] => { results := [.lit (.bool false)], args := [d1, d2, d3] }
  | _ => none }
def ReportTextsWrongFalsely : Prop := reportTextsRow.holds Tryd.pinned (OpenSpec.ofChange reportTextsWrong)

/-- 'concordatlaw33.ReportBack': WHATEVER THE INPUT: true; the input reads as it did. -/
def reportBackSpec : ChangeSpec := { name := "reportBack", fn := fun _ => fun
  | [d1, d2] => { results := [.lit (.bool true)], args := [d1, d2] }
  | _ => none }
def reportBackRow : OpenClaim := { program := "ytbhomjhhinfojaadoor", sum := "14b1090bc54024dcc20962d8b100dc2008274e55a808fad55f2cb3fd934a2813", func := "concordat/concordatlaw33.ReportBack", spec := "reportBack", inPlace := ["internal/bytealg.IndexByteString", "internal/bytealg.IndexString", "internal/abi.NoEscape", "internal/bytealg.MakeNoZero"], named := ["concordat/report.kinds", "internal/bytealg.MaxLen", "concordat/report.outcomes", "concordat/request.words"], apart := false, laid := [("concordat/request.words", laid_concordat_request_words), ("concordat/report.kinds", laid_concordat_report_kinds), ("concordat/report.outcomes", laid_concordat_report_outcomes)] }
def ReportBackSaid : Prop := reportBackRow.holds Tryd.pinned (OpenSpec.ofChange reportBackSpec)

/-- ITS FALSE NEIGHBOUR: 'it returns false'. Refute it at one input. -/
def reportBackWrong : ChangeSpec := { name := "reportBack", fn := fun _ => fun
  | [d1, d2] => { results := [.lit (.bool false)], args := [d1, d2] }
  | _ => none }
def ReportBackWrongFalsely : Prop := reportBackRow.holds Tryd.pinned (OpenSpec.ofChange reportBackWrong)

/-- 'concordatlaw33.ReportParts': WHATEVER THE INPUT: true; the input reads as it did. -/
def reportPartsSpec : ChangeSpec := { name := "reportParts", fn := fun _ => fun
  | [d1, d2, d3] => { results := [.lit (.bool true)], args := [d1, d2, d3] }
  | _ => none }
def reportPartsRow : OpenClaim := { program := "ytbhomjhhinfojaadoor", sum := "14b1090bc54024dcc20962d8b100dc2008274e55a808fad55f2cb3fd934a2813", func := "concordat/concordatlaw33.ReportParts", spec := "reportParts", inPlace := ["internal/bytealg.IndexByteString", "internal/bytealg.IndexString", "internal/abi.NoEscape", "internal/bytealg.MakeNoZero"], named := ["concordat/report.kinds", "internal/bytealg.MaxLen", "concordat/report.outcomes", "concordat/request.words"], apart := false, laid := [("concordat/request.words", laid_concordat_request_words), ("concordat/report.kinds", laid_concordat_report_kinds), ("concordat/report.outcomes", laid_concordat_report_outcomes)] }
def ReportPartsSaid : Prop := reportPartsRow.holds Tryd.pinned (OpenSpec.ofChange reportPartsSpec)

/-- ITS FALSE NEIGHBOUR: 'it returns false'. Refute it at one input. -/
def reportPartsWrong : ChangeSpec := { name := "reportParts", fn := fun _ => fun
  | [d1, d2, d3] => { results := [.lit (.bool false)], args := [d1, d2, d3] }
  | _ => none }
def ReportPartsWrongFalsely : Prop := reportPartsRow.holds Tryd.pinned (OpenSpec.ofChange reportPartsWrong)

/- THE SECOND FORM. 'bulk': how many values and letters a reading holds, each counted each time it is reached (what is shared counts as often as it is met; a slice's spare places count too). A statement '..UptoSaid' is the law's where the arguments, and the package variables that the reading takes, are together of bulk at most 1048576: NARROWER than '..Said'. Prove '..Said' where nothing that the law and all that it calls make is longer than what came in: it says more and counts as full. Else prove '..UptoSaid'. A law counts once. -/
mutual
def uptoBulk {H : Type} : DataW H → Nat
  | .lit (.string bytes) => bytes.length + 1
  | .lit _ => 1
  | .nil => 1
  | .ptr d => uptoBulk d + 1
  | .slice elems spare => uptoBulkAll elems + uptoBulkAll spare + 1
  | .agg parts => uptoBulkAll parts + 1
  | .iface _ d => uptoBulk d + 1
  | .map entries => uptoBulkEntries entries + 1
  | .held _ => 1
def uptoBulkAll {H : Type} : List (DataW H) → Nat
  | [] => 0
  | d :: r => uptoBulk d + uptoBulkAll r
def uptoBulkEntries {H : Type} : List (Lit × DataW H) → Nat
  | [] => 0
  | x :: r => uptoBulkEntry x + uptoBulkEntries r
def uptoBulkEntry {H : Type} : Lit × DataW H → Nat
  | (.string bytes, d) => bytes.length + uptoBulk d + 1
  | (_, d) => uptoBulk d + 1
 end
def uptoSmall : (H : Type) → List (DataW H) → Bool := fun _ ds => decide (uptoBulkAll ds ≤ 1048576)
def OpenSpec.upto (s : _root_.Go.ChangeSpec) : _root_.Go.OpenSpec := { _root_.Go.OpenSpec.ofChange s with cond := some uptoSmall }

/-- 'concordatlaw33.ReportLines', WHERE WHAT IT READS IS OF BULK AT MOST 1048576: true; the input reads as it did. -/
def reportLinesUptoRow : OpenClaim := { program := "ytbhomjhhinfojaadoor", sum := "14b1090bc54024dcc20962d8b100dc2008274e55a808fad55f2cb3fd934a2813", func := "concordat/concordatlaw33.ReportLines", spec := "reportLines", inPlace := ["internal/bytealg.IndexByteString", "internal/bytealg.IndexString", "internal/abi.NoEscape", "internal/bytealg.MakeNoZero"], named := ["concordat/report.kinds", "internal/bytealg.MaxLen", "concordat/report.outcomes", "concordat/request.words"], apart := false, laid := [("concordat/request.words", laid_concordat_request_words), ("concordat/report.kinds", laid_concordat_report_kinds), ("concordat/report.outcomes", laid_concordat_report_outcomes)], narrowed := true }
def ReportLinesUptoSaid : Prop := reportLinesUptoRow.holds Tryd.pinned (OpenSpec.upto reportLinesSpec)

/-- 'concordatlaw33.ReportTexts', WHERE WHAT IT READS IS OF BULK AT MOST 1048576: true; the input reads as it did. -/
def reportTextsUptoRow : OpenClaim := { program := "ytbhomjhhinfojaadoor", sum := "14b1090bc54024dcc20962d8b100dc2008274e55a808fad55f2cb3fd934a2813", func := "concordat/concordatlaw33.ReportTexts", spec := "reportTexts", inPlace := ["internal/bytealg.IndexByteString", "internal/bytealg.IndexString", "internal/abi.NoEscape", "internal/bytealg.MakeNoZero"], named := ["concordat/report.kinds", "internal/bytealg.MaxLen", "concordat/report.outcomes", "concordat/request.words"], apart := false, laid := [("concordat/request.words", laid_concordat_request_words), ("concordat/report.kinds", laid_concordat_report_kinds), ("concordat/report.outcomes", laid_concordat_report_outcomes)], narrowed := true }
def ReportTextsUptoSaid : Prop := reportTextsUptoRow.holds Tryd.pinned (OpenSpec.upto reportTextsSpec)

/-- 'concordatlaw33.ReportBack', WHERE WHAT IT READS IS OF BULK AT MOST 1048576: true; the input reads as it did. -/
def reportBackUptoRow : OpenClaim := { program := "ytbhomjhhinfojaadoor", sum := "14b1090bc54024dcc20962d8b100dc2008274e55a808fad55f2cb3fd934a2813", func := "concordat/concordatlaw33.ReportBack", spec := "reportBack", inPlace := ["internal/bytealg.IndexByteString", "internal/bytealg.IndexString", "internal/abi.NoEscape", "internal/bytealg.MakeNoZero"], named := ["concordat/report.kinds", "internal/bytealg.MaxLen", "concordat/report.outcomes", "concordat/request.words"], apart := false, laid := [("concordat/request.words", laid_concordat_request_words), ("concordat/report.kinds", laid_concordat_report_kinds), ("concordat/report.outcomes", laid_concordat_report_outcomes)], narrowed := true }
def ReportBackUptoSaid : Prop := reportBackUptoRow.holds Tryd.pinned (OpenSpec.upto reportBackSpec)

/-- 'concordatlaw33.ReportParts', WHERE WHAT IT READS IS OF BULK AT MOST 1048576: true; the input reads as it did. -/
def reportPartsUptoRow : OpenClaim := { program := "ytbhomjhhinfojaadoor", sum := "14b1090bc54024dcc20962d8b100dc2008274e55a808fad55f2cb3fd934a2813", func := "concordat/concordatlaw33.ReportParts", spec := "reportParts", inPlace := ["internal/bytealg.IndexByteString", "internal/bytealg.IndexString", "internal/abi.NoEscape", "internal/bytealg.MakeNoZero"], named := ["concordat/report.kinds", "internal/bytealg.MaxLen", "concordat/report.outcomes", "concordat/request.words"], apart := false, laid := [("concordat/request.words", laid_concordat_request_words), ("concordat/report.kinds", laid_concordat_report_kinds), ("concordat/report.outcomes", laid_concordat_report_outcomes)], narrowed := true }
def ReportPartsUptoSaid : Prop := reportPartsUptoRow.holds Tryd.pinned (OpenSpec.upto reportPartsSpec)

end Rows
end Go.Proofs.YtbhomjhhinfojaaDoor
