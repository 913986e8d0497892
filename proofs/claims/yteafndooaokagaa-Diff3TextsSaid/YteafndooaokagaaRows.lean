/-
  No cell of these rows narrows 'for every input' (looked for: loops, veiled, ifaces, maps, wideKeys, modest, calm, conditions, laid).
  DERIVED. THE GIVEN ROWS OF THIS SEAT. 5 by the template 'for every input the law returns true; each argument reads behind the call as it read before'; 0 by the template 'total and deterministic' (their statements: YteafndooaokagaaTotals.lean).
  GIVEN WITH THE SEED: the statements are not yours to turn. If you find one false, say at which input.
  Laid BY PROGRAM, IN A SANDBOX (cutbox-rows.mjs): the forced cells as the released guide's own fill.sh prints them over the translation 1aa536dac19ba195… (all of the seat's roots in one cut). By AI agents, Wed Nov 11 2026. No macro, syntax, notation, axiom, sorry.
-/
import Derived.Test.YteafndooaokagaaChecked
import GoSem.Claim
import GoSem.ClaimJoined
import GoSem.ClaimMapViews
import Derived.JoinedTies
import Derived.KernelRfl
namespace Go.Proofs.Yteafndooaokagaa
/- THE CELL 'sum', in the pinned program and in every row, IS THE sha256 OF THE DUMP (.gsa) THAT YteafndooaokagaaProg.lean LOADS. Nothing in Lean hashes anything: it is a label: what it is worth is what the hold of that sum in a sandbox is worth. -/
noncomputable def Try.pinned : Pinned := { name := "yteafndooaokagaa", sum := "1aa536dac19ba1956f8e643d477a36c049015ae4db661dcff045f236975a32a9", checked := Try.checked }
namespace Rows
def none {H : Type} : Left H := { results := [], args := [] }

/-- 'concordatlaw07.Diff3Tells': WHATEVER THE INPUT: true; the input reads as it did. -/
def diff3TellsSpec : ChangeSpec := { name := "diff3Tells", fn := fun _ => fun
  | [d1, d2, d3] => { results := [.lit (.bool true)], args := [d1, d2, d3] }
  | _ => none }
def diff3TellsRow : OpenClaim := { program := "yteafndooaokagaa", sum := "1aa536dac19ba1956f8e643d477a36c049015ae4db661dcff045f236975a32a9", func := "concordat/concordatlaw07.Diff3Tells", spec := "diff3Tells", unfollowed := true, recurses := true, apart := false }
def Diff3TellsSaid : Prop := diff3TellsRow.holds Try.pinned (OpenSpec.ofChange diff3TellsSpec)

/-- ITS FALSE NEIGHBOUR: 'it returns false'. Refute it at one input. -/
def diff3TellsWrong : ChangeSpec := { name := "diff3Tells", fn := fun _ => fun
  | [d1, d2, d3] => { results := [.lit (.bool false)], args := [d1, d2, d3] }
  | _ => none }
def Diff3TellsWrongFalsely : Prop := diff3TellsRow.holds Try.pinned (OpenSpec.ofChange diff3TellsWrong)

/-- 'concordatlaw07.Diff3Texts': WHATEVER THE INPUT: true; the input reads as it did. -/
def diff3TextsSpec : ChangeSpec := { name := "diff3Texts", fn := fun _ => fun
  | [d1, d2, d3] => { results := [.lit (.bool true)], args := [d1, d2, d3] }
  | _ => none }
def diff3TextsRow : OpenClaim := { program := "yteafndooaokagaa", sum := "1aa536dac19ba1956f8e643d477a36c049015ae4db661dcff045f236975a32a9", func := "concordat/concordatlaw07.Diff3Texts", spec := "diff3Texts", unfollowed := true, recurses := true, apart := false }
def Diff3TextsSaid : Prop := diff3TextsRow.holds Try.pinned (OpenSpec.ofChange diff3TextsSpec)

/-- ITS FALSE NEIGHBOUR: 'it returns false'. Refute it at one input. -/
def diff3TextsWrong : ChangeSpec := { name := "diff3Texts", fn := fun _ => fun
  | [d1, d2, d3] => { results := [.lit (.bool false)], args := [d1, d2, d3] }
  | _ => none }
def Diff3TextsWrongFalsely : Prop := diff3TextsRow.holds Try.pinned (OpenSpec.ofChange diff3TextsWrong)

/-- 'concordatlaw07.Diff3All': WHATEVER THE INPUT: true; the input reads as it did. -/
def diff3AllSpec : ChangeSpec := { name := "diff3All", fn := fun _ => fun
  | [d1, d2, d3] => { results := [.lit (.bool true)], args := [d1, d2, d3] }
  | _ => none }
def diff3AllRow : OpenClaim := { program := "yteafndooaokagaa", sum := "1aa536dac19ba1956f8e643d477a36c049015ae4db661dcff045f236975a32a9", func := "concordat/concordatlaw07.Diff3All", spec := "diff3All", unfollowed := true, recurses := true, apart := false }
def Diff3AllSaid : Prop := diff3AllRow.holds Try.pinned (OpenSpec.ofChange diff3AllSpec)

/-- ITS FALSE NEIGHBOUR: 'it returns false'. Refute it at one input. -/
def diff3AllWrong : ChangeSpec := { name := "diff3All", fn := fun _ => fun
  | [d1, d2, d3] => { results := [.lit (.bool false)], args := [d1, d2, d3] }
  | _ => none }
def Diff3AllWrongFalsely : Prop := diff3AllRow.holds Try.pinned (OpenSpec.ofChange diff3AllWrong)

/-- 'concordatlaw07.Diff3Sides': WHATEVER THE INPUT: true; the input reads as it did. -/
def diff3SidesSpec : ChangeSpec := { name := "diff3Sides", fn := fun _ => fun
  | [d1, d2] => { results := [.lit (.bool true)], args := [d1, d2] }
  | _ => none }
def diff3SidesRow : OpenClaim := { program := "yteafndooaokagaa", sum := "1aa536dac19ba1956f8e643d477a36c049015ae4db661dcff045f236975a32a9", func := "concordat/concordatlaw07.Diff3Sides", spec := "diff3Sides", unfollowed := true, recurses := true, apart := false }
def Diff3SidesSaid : Prop := diff3SidesRow.holds Try.pinned (OpenSpec.ofChange diff3SidesSpec)

/-- ITS FALSE NEIGHBOUR: 'it returns false'. Refute it at one input. -/
def diff3SidesWrong : ChangeSpec := { name := "diff3Sides", fn := fun _ => fun
  | [d1, d2] => { results := [.lit (.bool false)], args := [d1, d2] }
  | _ => none }
def Diff3SidesWrongFalsely : Prop := diff3SidesRow.holds Try.pinned (OpenSpec.ofChange diff3SidesWrong)

/-- 'concordatlaw07.Diff3Turned': WHATEVER THE INPUT: true; the input reads as it did. -/
def diff3TurnedSpec : ChangeSpec := { name := "diff3Turned", fn := fun _ => fun
  | [d1, d2, d3] => { results := [.lit (.bool true)], args := [d1, d2, d3] }
  | _ => none }
def diff3TurnedRow : OpenClaim := { program := "yteafndooaokagaa", sum := "1aa536dac19ba1956f8e643d477a36c049015ae4db661dcff045f236975a32a9", func := "concordat/concordatlaw07.Diff3Turned", spec := "diff3Turned", unfollowed := true, recurses := true, apart := false }
def Diff3TurnedSaid : Prop := diff3TurnedRow.holds Try.pinned (OpenSpec.ofChange diff3TurnedSpec)

/-- ITS FALSE NEIGHBOUR: 'it returns false'. Refute it at one input. -/
def diff3TurnedWrong : ChangeSpec := { name := "diff3Turned", fn := fun _ => fun
  | [d1, d2, d3] => { results := [.lit (.bool false)], args := [d1, d2, d3] }
  | _ => none }
def Diff3TurnedWrongFalsely : Prop := diff3TurnedRow.holds Try.pinned (OpenSpec.ofChange diff3TurnedWrong)

/- THE SECOND FORM. 'bulk': how many values and letters a reading holds, each counted each time it is reached (what is shared counts as often as it is met; a slice's spare places count too). A statement '..UptoSaid' is the law's where the arguments, and the package variables that the reading takes, are together of bulk at most 1048576: NARROWER than '..Said'. Prove '..Said' where nothing that the law and all that it calls make is longer than what came in: it says more and counts as full. Else prove '..UptoSaid'. A law counts once. -/
mutual
def uptoBulk {H : Type} : DataW H → Nat
  | .lit (.string bytes) => bytes.length + 1
  | .lit _ => 1
  | .nil => 1
  | .ptr d => uptoBulk d + 1
  | .slice elems spare => uptoBulkAll elems + uptoBulkAll spare + 1
  | .agg parts => uptoBulkAll parts + 1
  | .iface _ d => uptoBulk d + 1
  | .map entries => uptoBulkEntries entries + 1
  | .held _ => 1
def uptoBulkAll {H : Type} : List (DataW H) → Nat
  | [] => 0
  | d :: r => uptoBulk d + uptoBulkAll r
def uptoBulkEntries {H : Type} : List (Lit × DataW H) → Nat
  | [] => 0
  | x :: r => uptoBulkEntry x + uptoBulkEntries r
def uptoBulkEntry {H : Type} : Lit × DataW H → Nat
  | (.string bytes, d) => bytes.length + uptoBulk d + 1
  | (_, d) => uptoBulk d + 1
 end
def uptoSmall : (H : Type) → List (DataW H) → Bool := fun _ ds => decide (uptoBulkAll ds ≤ 1048576)
def OpenSpec.upto (s : _root_.Go.ChangeSpec) : _root_.Go.OpenSpec := { _root_.Go.OpenSpec.ofChange s with cond := some uptoSmall }

/-- 'concordatlaw07.Diff3Tells', WHERE WHAT IT READS IS OF BULK AT MOST 1048576: true; the input reads as it did. -/
def diff3TellsUptoRow : OpenClaim := { program := "yteafndooaokagaa", sum := "1aa536dac19ba1956f8e643d477a36c049015ae4db661dcff045f236975a32a9", func := "concordat/concordatlaw07.Diff3Tells", spec := "diff3Tells", unfollowed := true, recurses := true, apart := false, narrowed := true }
def Diff3TellsUptoSaid : Prop := diff3TellsUptoRow.holds Try.pinned (OpenSpec.upto diff3TellsSpec)

/-- 'concordatlaw07.Diff3Texts', WHERE WHAT IT READS IS OF BULK AT MOST 1048576: true; the input reads as it did. -/
def diff3TextsUptoRow : OpenClaim := { program := "yteafndooaokagaa", sum := "1aa536dac19ba1956f8e643d477a36c049015ae4db661dcff045f236975a32a9", func := "concordat/concordatlaw07.Diff3Texts", spec := "diff3Texts", unfollowed := true, recurses := true, apart := false, narrowed := true }
def Diff3TextsUptoSaid : Prop := diff3TextsUptoRow.holds Try.pinned (OpenSpec.upto diff3TextsSpec)

/-- 'concordatlaw07.Diff3All', WHERE WHAT IT READS IS OF BULK AT MOST 1048576: true; the input reads as it did. -/
def diff3AllUptoRow : OpenClaim := { program := "yteafndooaokagaa", sum := "1aa536dac19ba1956f8e643d477a36c049015ae4db661dcff045f236975a32a9", func := "concordat/concordatlaw07.Diff3All", spec := "diff3All", unfollowed := true, recurses := true, apart := false, narrowed := true }
def Diff3AllUptoSaid : Prop := diff3AllUptoRow.holds Try.pinned (OpenSpec.upto diff3AllSpec)

/-- 'concordatlaw07.Diff3Sides', WHERE WHAT IT READS IS OF BULK AT MOST 1048576: true; the input reads as it did. -/
def diff3SidesUptoRow : OpenClaim := { program := "yteafndooaokagaa", sum := "1aa536dac19ba1956f8e643d477a36c049015ae4db661dcff045f236975a32a9", func := "concordat/concordatlaw07.Diff3Sides", spec := "diff3Sides", unfollowed := true, recurses := true, apart := false, narrowed := true }
def Diff3SidesUptoSaid : Prop := diff3SidesUptoRow.holds Try.pinned (OpenSpec.upto diff3SidesSpec)

/-- 'concordatlaw07.Diff3Turned', WHERE WHAT IT READS IS OF BULK AT MOST 1048576: true; the input reads as it did. -/
def diff3TurnedUptoRow : OpenClaim := { program := "yteafndooaokagaa", sum := "1aa536dac19ba1956f8e643d477a36c049015ae4db661dcff045f236975a32a9", func := "concordat/concordatlaw07.Diff3Turned", spec := "diff3Turned", unfollowed := true, recurses := true, apart := false, narrowed := true }
def Diff3TurnedUptoSaid : Prop := diff3TurnedUptoRow.holds Try.pinned (OpenSpec.upto diff3TurnedSpec)

end Rows
end Go.Proofs.Yteafndooaokagaa
