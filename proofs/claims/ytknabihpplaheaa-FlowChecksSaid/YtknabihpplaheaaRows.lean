/-
  NARROWER THAN 'FOR EVERY INPUT', by the rows' own cells (each row's printed sentence says how): FlowTells: loops · FlowBlocks: loops.
  DERIVED. THE GIVEN ROWS OF THIS SEAT. 4 by the template 'for every input the law returns true; each argument reads behind the call as it read before'; 0 by the template 'total and deterministic' (their statements: YtknabihpplaheaaTotals.lean).
  GIVEN WITH THE SEED: the statements are not yours to turn. If you find one false, say at which input.
  Laid BY PROGRAM, IN A SANDBOX (cutbox-rows.mjs): the forced cells as the released guide's own fill.sh prints them over the translation ea7bbb45f29fdf34… (all of the seat's roots in one cut). By AI agents, Wed Nov 11 2026. No macro, syntax, notation, axiom, sorry.
-/
import Derived.Test.YtknabihpplaheaaChecked
import GoSem.Claim
import GoSem.ClaimJoined
import GoSem.ClaimMapViews
import Derived.JoinedTies
import Derived.KernelRfl
namespace Go.Proofs.Ytknabihpplaheaa
/- THE CELL 'sum', in the pinned program and in every row, IS THE sha256 OF THE DUMP (.gsa) THAT YtknabihpplaheaaProg.lean LOADS. Nothing in Lean hashes anything: it is a label: what it is worth is what the hold of that sum in a sandbox is worth. -/
noncomputable def Try.pinned : Pinned := { name := "ytknabihpplaheaa", sum := "ea7bbb45f29fdf34a7ad5aac285bcd708e9157e0ceab3cf5db3d4d81ecc474b3", checked := Try.checked }
namespace Rows
def none {H : Type} : Left H := { results := [], args := [] }

/-- 'concordatlaw19.FlowTells': WHATEVER THE INPUT: true; the input reads as it did. -/
def flowTellsSpec : ChangeSpec := { name := "flowTells", fn := fun _ => fun
  | [d] => { results := [.lit (.bool true)], args := [d] }
  | _ => none }
def flowTellsRow : OpenClaim := { program := "ytknabihpplaheaa", sum := "ea7bbb45f29fdf34a7ad5aac285bcd708e9157e0ceab3cf5db3d4d81ecc474b3", func := "concordat/concordatlaw19.FlowTells", spec := "flowTells", unfollowed := true, recurses := true, loops := true, apart := false }
def FlowTellsSaid : Prop := flowTellsRow.holds Try.pinned (OpenSpec.ofChange flowTellsSpec)

/-- ITS FALSE NEIGHBOUR: 'it returns false'. Refute it at one input. -/
def flowTellsWrong : ChangeSpec := { name := "flowTells", fn := fun _ => fun
  | [d] => { results := [.lit (.bool false)], args := [d] }
  | _ => none }
def FlowTellsWrongFalsely : Prop := flowTellsRow.holds Try.pinned (OpenSpec.ofChange flowTellsWrong)

/-- 'concordatlaw19.FlowChecks': WHATEVER THE INPUT: true; the input reads as it did. -/
def flowChecksSpec : ChangeSpec := { name := "flowChecks", fn := fun _ => fun
  | [d] => { results := [.lit (.bool true)], args := [d] }
  | _ => none }
def flowChecksRow : OpenClaim := { program := "ytknabihpplaheaa", sum := "ea7bbb45f29fdf34a7ad5aac285bcd708e9157e0ceab3cf5db3d4d81ecc474b3", func := "concordat/concordatlaw19.FlowChecks", spec := "flowChecks", unfollowed := true, recurses := true, apart := false }
def FlowChecksSaid : Prop := flowChecksRow.holds Try.pinned (OpenSpec.ofChange flowChecksSpec)

/-- ITS FALSE NEIGHBOUR: 'it returns false'. Refute it at one input. -/
def flowChecksWrong : ChangeSpec := { name := "flowChecks", fn := fun _ => fun
  | [d] => { results := [.lit (.bool false)], args := [d] }
  | _ => none }
def FlowChecksWrongFalsely : Prop := flowChecksRow.holds Try.pinned (OpenSpec.ofChange flowChecksWrong)

/-- 'concordatlaw19.FlowBlocks': WHATEVER THE INPUT: true; the input reads as it did. -/
def flowBlocksSpec : ChangeSpec := { name := "flowBlocks", fn := fun _ => fun
  | [d1, d2] => { results := [.lit (.bool true)], args := [d1, d2] }
  | _ => none }
def flowBlocksRow : OpenClaim := { program := "ytknabihpplaheaa", sum := "ea7bbb45f29fdf34a7ad5aac285bcd708e9157e0ceab3cf5db3d4d81ecc474b3", func := "concordat/concordatlaw19.FlowBlocks", spec := "flowBlocks", unfollowed := true, recurses := true, loops := true, apart := false }
def FlowBlocksSaid : Prop := flowBlocksRow.holds Try.pinned (OpenSpec.ofChange flowBlocksSpec)

/-- ITS FALSE NEIGHBOUR: 'it returns false'. Refute it at one input. -/
def flowBlocksWrong : ChangeSpec := { name := "flowBlocks", fn := fun _ => fun
  | [d1, d2] => { results := [.lit (.bool false)], args := [d1, d2] }
  | _ => none }
def FlowBlocksWrongFalsely : Prop := flowBlocksRow.holds Try.pinned (OpenSpec.ofChange flowBlocksWrong)

/-- 'concordatlaw19.FlowReached': WHATEVER THE INPUT: true; the input reads as it did. -/
def flowReachedSpec : ChangeSpec := { name := "flowReached", fn := fun _ => fun
  | [d] => { results := [.lit (.bool true)], args := [d] }
  | _ => none }
def flowReachedRow : OpenClaim := { program := "ytknabihpplaheaa", sum := "ea7bbb45f29fdf34a7ad5aac285bcd708e9157e0ceab3cf5db3d4d81ecc474b3", func := "concordat/concordatlaw19.FlowReached", spec := "flowReached", unfollowed := true, recurses := true, apart := false }
def FlowReachedSaid : Prop := flowReachedRow.holds Try.pinned (OpenSpec.ofChange flowReachedSpec)

/-- ITS FALSE NEIGHBOUR: 'it returns false'. Refute it at one input. -/
def flowReachedWrong : ChangeSpec := { name := "flowReached", fn := fun _ => fun
  | [d] => { results := [.lit (.bool false)], args := [d] }
  | _ => none }
def FlowReachedWrongFalsely : Prop := flowReachedRow.holds Try.pinned (OpenSpec.ofChange flowReachedWrong)

/- THE SECOND FORM. 'bulk': how many values and letters a reading holds, each counted each time it is reached (what is shared counts as often as it is met; a slice's spare places count too). A statement '..UptoSaid' is the law's where the arguments, and the package variables that the reading takes, are together of bulk at most 1048576: NARROWER than '..Said'. Prove '..Said' where nothing that the law and all that it calls make is longer than what came in: it says more and counts as full. Else prove '..UptoSaid'. A law counts once. -/
mutual
def uptoBulk {H : Type} : DataW H → Nat
  | .lit (.string bytes) => bytes.length + 1
  | .lit _ => 1
  | .nil => 1
  | .ptr d => uptoBulk d + 1
  | .slice elems spare => uptoBulkAll elems + uptoBulkAll spare + 1
  | .agg parts => uptoBulkAll parts + 1
  | .iface _ d => uptoBulk d + 1
  | .map entries => uptoBulkEntries entries + 1
  | .held _ => 1
def uptoBulkAll {H : Type} : List (DataW H) → Nat
  | [] => 0
  | d :: r => uptoBulk d + uptoBulkAll r
def uptoBulkEntries {H : Type} : List (Lit × DataW H) → Nat
  | [] => 0
  | x :: r => uptoBulkEntry x + uptoBulkEntries r
def uptoBulkEntry {H : Type} : Lit × DataW H → Nat
  | (.string bytes, d) => bytes.length + uptoBulk d + 1
  | (_, d) => uptoBulk d + 1
 end
def uptoSmall : (H : Type) → List (DataW H) → Bool := fun _ ds => decide (uptoBulkAll ds ≤ 1048576)
def OpenSpec.upto (s : _root_.Go.ChangeSpec) : _root_.Go.OpenSpec := { _root_.Go.OpenSpec.ofChange s with cond := some uptoSmall }

/-- 'concordatlaw19.FlowTells', WHERE WHAT IT READS IS OF BULK AT MOST 1048576: true; the input reads as it did. -/
def flowTellsUptoRow : OpenClaim := { program := "ytknabihpplaheaa", sum := "ea7bbb45f29fdf34a7ad5aac285bcd708e9157e0ceab3cf5db3d4d81ecc474b3", func := "concordat/concordatlaw19.FlowTells", spec := "flowTells", unfollowed := true, recurses := true, loops := true, apart := false, narrowed := true }
def FlowTellsUptoSaid : Prop := flowTellsUptoRow.holds Try.pinned (OpenSpec.upto flowTellsSpec)

/-- 'concordatlaw19.FlowChecks', WHERE WHAT IT READS IS OF BULK AT MOST 1048576: true; the input reads as it did. -/
def flowChecksUptoRow : OpenClaim := { program := "ytknabihpplaheaa", sum := "ea7bbb45f29fdf34a7ad5aac285bcd708e9157e0ceab3cf5db3d4d81ecc474b3", func := "concordat/concordatlaw19.FlowChecks", spec := "flowChecks", unfollowed := true, recurses := true, apart := false, narrowed := true }
def FlowChecksUptoSaid : Prop := flowChecksUptoRow.holds Try.pinned (OpenSpec.upto flowChecksSpec)

/-- 'concordatlaw19.FlowBlocks', WHERE WHAT IT READS IS OF BULK AT MOST 1048576: true; the input reads as it did. -/
def flowBlocksUptoRow : OpenClaim := { program := "ytknabihpplaheaa", sum := "ea7bbb45f29fdf34a7ad5aac285bcd708e9157e0ceab3cf5db3d4d81ecc474b3", func := "concordat/concordatlaw19.FlowBlocks", spec := "flowBlocks", unfollowed := true, recurses := true, loops := true, apart := false, narrowed := true }
def FlowBlocksUptoSaid : Prop := flowBlocksUptoRow.holds Try.pinned (OpenSpec.upto flowBlocksSpec)

/-- 'concordatlaw19.FlowReached', WHERE WHAT IT READS IS OF BULK AT MOST 1048576: true; the input reads as it did. -/
def flowReachedUptoRow : OpenClaim := { program := "ytknabihpplaheaa", sum := "ea7bbb45f29fdf34a7ad5aac285bcd708e9157e0ceab3cf5db3d4d81ecc474b3", func := "concordat/concordatlaw19.FlowReached", spec := "flowReached", unfollowed := true, recurses := true, apart := false, narrowed := true }
def FlowReachedUptoSaid : Prop := flowReachedUptoRow.holds Try.pinned (OpenSpec.upto flowReachedSpec)

end Rows
end Go.Proofs.Ytknabihpplaheaa
