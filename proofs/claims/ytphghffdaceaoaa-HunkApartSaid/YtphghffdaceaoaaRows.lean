/-
  No cell of these rows narrows 'for every input' (looked for: loops, veiled, ifaces, maps, wideKeys, modest, calm, conditions, laid).
  DERIVED. THE GIVEN ROWS OF THIS SEAT. 4 by the template 'for every input the law returns true; each argument reads behind the call as it read before'; 0 by the template 'total and deterministic' (their statements: YtphghffdaceaoaaTotals.lean).
  GIVEN WITH THE SEED: the statements are not yours to turn. If you find one false, say at which input.
  Laid BY PROGRAM, IN A SANDBOX (cutbox-rows.mjs): the forced cells as the released guide's own fill.sh prints them over the translation d20e430874177383… (all of the seat's roots in one cut). By AI agents, Wed Nov 11 2026. No macro, syntax, notation, axiom, sorry.
-/
import Derived.Test.YtphghffdaceaoaaChecked
import GoSem.Claim
import GoSem.ClaimJoined
import GoSem.ClaimMapViews
import Derived.JoinedTies
import Derived.KernelRfl
namespace Go.Proofs.Ytphghffdaceaoaa
/- THE CELL 'sum', in the pinned program and in every row, IS THE sha256 OF THE DUMP (.gsa) THAT YtphghffdaceaoaaProg.lean LOADS. Nothing in Lean hashes anything: it is a label: what it is worth is what the hold of that sum in a sandbox is worth. -/
noncomputable def Try.pinned : Pinned := { name := "ytphghffdaceaoaa", sum := "d20e43087417738343015c9ccd8bbe1f7ccc91703fa56a353a29adc62559d2ac", checked := Try.checked }
namespace Rows
def none {H : Type} : Left H := { results := [], args := [] }

/-- 'concordatlaw06.HunkTells': WHATEVER THE INPUT: true; the input reads as it did. -/
def hunkTellsSpec : ChangeSpec := { name := "hunkTells", fn := fun _ => fun
  | [d1, d2, d3] => { results := [.lit (.bool true)], args := [d1, d2, d3] }
  | _ => none }
def hunkTellsRow : OpenClaim := { program := "ytphghffdaceaoaa", sum := "d20e43087417738343015c9ccd8bbe1f7ccc91703fa56a353a29adc62559d2ac", func := "concordat/concordatlaw06.HunkTells", spec := "hunkTells", unfollowed := true, recurses := true, apart := false }
def HunkTellsSaid : Prop := hunkTellsRow.holds Try.pinned (OpenSpec.ofChange hunkTellsSpec)

/-- ITS FALSE NEIGHBOUR: 'it returns false'. Refute it at one input. -/
def hunkTellsWrong : ChangeSpec := { name := "hunkTells", fn := fun _ => fun
  | [d1, d2, d3] => { results := [.lit (.bool false)], args := [d1, d2, d3] }
  | _ => none }
def HunkTellsWrongFalsely : Prop := hunkTellsRow.holds Try.pinned (OpenSpec.ofChange hunkTellsWrong)

/-- 'concordatlaw06.HunkPatches': WHATEVER THE INPUT: true; the input reads as it did. -/
def hunkPatchesSpec : ChangeSpec := { name := "hunkPatches", fn := fun _ => fun
  | [d1, d2, d3] => { results := [.lit (.bool true)], args := [d1, d2, d3] }
  | _ => none }
def hunkPatchesRow : OpenClaim := { program := "ytphghffdaceaoaa", sum := "d20e43087417738343015c9ccd8bbe1f7ccc91703fa56a353a29adc62559d2ac", func := "concordat/concordatlaw06.HunkPatches", spec := "hunkPatches", unfollowed := true, recurses := true, apart := false }
def HunkPatchesSaid : Prop := hunkPatchesRow.holds Try.pinned (OpenSpec.ofChange hunkPatchesSpec)

/-- ITS FALSE NEIGHBOUR: 'it returns false'. Refute it at one input. -/
def hunkPatchesWrong : ChangeSpec := { name := "hunkPatches", fn := fun _ => fun
  | [d1, d2, d3] => { results := [.lit (.bool false)], args := [d1, d2, d3] }
  | _ => none }
def HunkPatchesWrongFalsely : Prop := hunkPatchesRow.holds Try.pinned (OpenSpec.ofChange hunkPatchesWrong)

/-- 'concordatlaw06.HunkBack': WHATEVER THE INPUT: true; the input reads as it did. -/
def hunkBackSpec : ChangeSpec := { name := "hunkBack", fn := fun _ => fun
  | [d1, d2] => { results := [.lit (.bool true)], args := [d1, d2] }
  | _ => none }
def hunkBackRow : OpenClaim := { program := "ytphghffdaceaoaa", sum := "d20e43087417738343015c9ccd8bbe1f7ccc91703fa56a353a29adc62559d2ac", func := "concordat/concordatlaw06.HunkBack", spec := "hunkBack", unfollowed := true, recurses := true, apart := false }
def HunkBackSaid : Prop := hunkBackRow.holds Try.pinned (OpenSpec.ofChange hunkBackSpec)

/-- ITS FALSE NEIGHBOUR: 'it returns false'. Refute it at one input. -/
def hunkBackWrong : ChangeSpec := { name := "hunkBack", fn := fun _ => fun
  | [d1, d2] => { results := [.lit (.bool false)], args := [d1, d2] }
  | _ => none }
def HunkBackWrongFalsely : Prop := hunkBackRow.holds Try.pinned (OpenSpec.ofChange hunkBackWrong)

/-- 'concordatlaw06.HunkApart': WHATEVER THE INPUT: true; the input reads as it did. -/
def hunkApartSpec : ChangeSpec := { name := "hunkApart", fn := fun _ => fun
  | [d1, d2] => { results := [.lit (.bool true)], args := [d1, d2] }
  | _ => none }
def hunkApartRow : OpenClaim := { program := "ytphghffdaceaoaa", sum := "d20e43087417738343015c9ccd8bbe1f7ccc91703fa56a353a29adc62559d2ac", func := "concordat/concordatlaw06.HunkApart", spec := "hunkApart", unfollowed := true, recurses := true, apart := false }
def HunkApartSaid : Prop := hunkApartRow.holds Try.pinned (OpenSpec.ofChange hunkApartSpec)

/-- ITS FALSE NEIGHBOUR: 'it returns false'. Refute it at one input. -/
def hunkApartWrong : ChangeSpec := { name := "hunkApart", fn := fun _ => fun
  | [d1, d2] => { results := [.lit (.bool false)], args := [d1, d2] }
  | _ => none }
def HunkApartWrongFalsely : Prop := hunkApartRow.holds Try.pinned (OpenSpec.ofChange hunkApartWrong)

/- THE SECOND FORM. 'bulk': how many values and letters a reading holds, each counted each time it is reached (what is shared counts as often as it is met; a slice's spare places count too). A statement '..UptoSaid' is the law's where the arguments, and the package variables that the reading takes, are together of bulk at most 1048576: NARROWER than '..Said'. Prove '..Said' where nothing that the law and all that it calls make is longer than what came in: it says more and counts as full. Else prove '..UptoSaid'. A law counts once. -/
mutual
def uptoBulk {H : Type} : DataW H → Nat
  | .lit (.string bytes) => bytes.length + 1
  | .lit _ => 1
  | .nil => 1
  | .ptr d => uptoBulk d + 1
  | .slice elems spare => uptoBulkAll elems + uptoBulkAll spare + 1
  | .agg parts => uptoBulkAll parts + 1
  | .iface _ d => uptoBulk d + 1
  | .map entries => uptoBulkEntries entries + 1
  | .held _ => 1
def uptoBulkAll {H : Type} : List (DataW H) → Nat
  | [] => 0
  | d :: r => uptoBulk d + uptoBulkAll r
def uptoBulkEntries {H : Type} : List (Lit × DataW H) → Nat
  | [] => 0
  | x :: r => uptoBulkEntry x + uptoBulkEntries r
def uptoBulkEntry {H : Type} : Lit × DataW H → Nat
  | (.string bytes, d) => bytes.length + uptoBulk d + 1
  | (_, d) => uptoBulk d + 1
 end
def uptoSmall : (H : Type) → List (DataW H) → Bool := fun _ ds => decide (uptoBulkAll ds ≤ 1048576)
def OpenSpec.upto (s : _root_.Go.ChangeSpec) : _root_.Go.OpenSpec := { _root_.Go.OpenSpec.ofChange s with cond := some uptoSmall }

/-- 'concordatlaw06.HunkTells', WHERE WHAT IT READS IS OF BULK AT MOST 1048576: true; the input reads as it did. -/
def hunkTellsUptoRow : OpenClaim := { program := "ytphghffdaceaoaa", sum := "d20e43087417738343015c9ccd8bbe1f7ccc91703fa56a353a29adc62559d2ac", func := "concordat/concordatlaw06.HunkTells", spec := "hunkTells", unfollowed := true, recurses := true, apart := false, narrowed := true }
def HunkTellsUptoSaid : Prop := hunkTellsUptoRow.holds Try.pinned (OpenSpec.upto hunkTellsSpec)

/-- 'concordatlaw06.HunkPatches', WHERE WHAT IT READS IS OF BULK AT MOST 1048576: true; the input reads as it did. -/
def hunkPatchesUptoRow : OpenClaim := { program := "ytphghffdaceaoaa", sum := "d20e43087417738343015c9ccd8bbe1f7ccc91703fa56a353a29adc62559d2ac", func := "concordat/concordatlaw06.HunkPatches", spec := "hunkPatches", unfollowed := true, recurses := true, apart := false, narrowed := true }
def HunkPatchesUptoSaid : Prop := hunkPatchesUptoRow.holds Try.pinned (OpenSpec.upto hunkPatchesSpec)

/-- 'concordatlaw06.HunkBack', WHERE WHAT IT READS IS OF BULK AT MOST 1048576: true; the input reads as it did. -/
def hunkBackUptoRow : OpenClaim := { program := "ytphghffdaceaoaa", sum := "d20e43087417738343015c9ccd8bbe1f7ccc91703fa56a353a29adc62559d2ac", func := "concordat/concordatlaw06.HunkBack", spec := "hunkBack", unfollowed := true, recurses := true, apart := false, narrowed := true }
def HunkBackUptoSaid : Prop := hunkBackUptoRow.holds Try.pinned (OpenSpec.upto hunkBackSpec)

/-- 'concordatlaw06.HunkApart', WHERE WHAT IT READS IS OF BULK AT MOST 1048576: true; the input reads as it did. -/
def hunkApartUptoRow : OpenClaim := { program := "ytphghffdaceaoaa", sum := "d20e43087417738343015c9ccd8bbe1f7ccc91703fa56a353a29adc62559d2ac", func := "concordat/concordatlaw06.HunkApart", spec := "hunkApart", unfollowed := true, recurses := true, apart := false, narrowed := true }
def HunkApartUptoSaid : Prop := hunkApartUptoRow.holds Try.pinned (OpenSpec.upto hunkApartSpec)

end Rows
end Go.Proofs.Ytphghffdaceaoaa
