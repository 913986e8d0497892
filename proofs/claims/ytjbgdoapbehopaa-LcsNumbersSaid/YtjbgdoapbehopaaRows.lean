/-
  No cell of these rows narrows 'for every input' (looked for: loops, veiled, ifaces, maps, wideKeys, modest, calm, conditions, laid).
  DERIVED. THE GIVEN ROWS OF THIS SEAT. 5 by the template 'for every input the law returns true; each argument reads behind the call as it read before'; 0 by the template 'total and deterministic' (their statements: YtjbgdoapbehopaaTotals.lean).
  GIVEN WITH THE SEED: the statements are not yours to turn. If you find one false, say at which input.
  Laid BY PROGRAM, IN A SANDBOX (cutbox-rows.mjs): the forced cells as the released guide's own fill.sh prints them over the translation c1e02907813f5ce3… (all of the seat's roots in one cut). By AI agents, Wed Nov 11 2026. No macro, syntax, notation, axiom, sorry.
-/
import Derived.Test.YtjbgdoapbehopaaChecked
import GoSem.Claim
import GoSem.ClaimJoined
import GoSem.ClaimMapViews
import Derived.JoinedTies
import Derived.KernelRfl
namespace Go.Proofs.Ytjbgdoapbehopaa
/- THE CELL 'sum', in the pinned program and in every row, IS THE sha256 OF THE DUMP (.gsa) THAT YtjbgdoapbehopaaProg.lean LOADS. Nothing in Lean hashes anything: it is a label: what it is worth is what the hold of that sum in a sandbox is worth. -/
noncomputable def Try.pinned : Pinned := { name := "ytjbgdoapbehopaa", sum := "c1e02907813f5ce37c20d86b18d358893879894ec57b50d61532bca448eacf8f", checked := Try.checked }
namespace Rows
def none {H : Type} : Left H := { results := [], args := [] }

/-- 'concordatlaw05.LcsMatches': WHATEVER THE INPUT: true; the input reads as it did. -/
def lcsMatchesSpec : ChangeSpec := { name := "lcsMatches", fn := fun _ => fun
  | [d1, d2] => { results := [.lit (.bool true)], args := [d1, d2] }
  | _ => none }
def lcsMatchesRow : OpenClaim := { program := "ytjbgdoapbehopaa", sum := "c1e02907813f5ce37c20d86b18d358893879894ec57b50d61532bca448eacf8f", func := "concordat/concordatlaw05.LcsMatches", spec := "lcsMatches", apart := false }
def LcsMatchesSaid : Prop := lcsMatchesRow.holds Try.pinned (OpenSpec.ofChange lcsMatchesSpec)

/-- ITS FALSE NEIGHBOUR: 'it returns false'. Refute it at one input. -/
def lcsMatchesWrong : ChangeSpec := { name := "lcsMatches", fn := fun _ => fun
  | [d1, d2] => { results := [.lit (.bool false)], args := [d1, d2] }
  | _ => none }
def LcsMatchesWrongFalsely : Prop := lcsMatchesRow.holds Try.pinned (OpenSpec.ofChange lcsMatchesWrong)

/-- 'concordatlaw05.LcsNumbers': WHATEVER THE INPUT: true; the input reads as it did. -/
def lcsNumbersSpec : ChangeSpec := { name := "lcsNumbers", fn := fun _ => fun
  | [d1, d2, d3] => { results := [.lit (.bool true)], args := [d1, d2, d3] }
  | _ => none }
def lcsNumbersRow : OpenClaim := { program := "ytjbgdoapbehopaa", sum := "c1e02907813f5ce37c20d86b18d358893879894ec57b50d61532bca448eacf8f", func := "concordat/concordatlaw05.LcsNumbers", spec := "lcsNumbers", apart := false }
def LcsNumbersSaid : Prop := lcsNumbersRow.holds Try.pinned (OpenSpec.ofChange lcsNumbersSpec)

/-- ITS FALSE NEIGHBOUR: 'it returns false'. Refute it at one input. -/
def lcsNumbersWrong : ChangeSpec := { name := "lcsNumbers", fn := fun _ => fun
  | [d1, d2, d3] => { results := [.lit (.bool false)], args := [d1, d2, d3] }
  | _ => none }
def LcsNumbersWrongFalsely : Prop := lcsNumbersRow.holds Try.pinned (OpenSpec.ofChange lcsNumbersWrong)

/-- 'concordatlaw05.LcsRises': WHATEVER THE INPUT: true; the input reads as it did. -/
def lcsRisesSpec : ChangeSpec := { name := "lcsRises", fn := fun _ => fun
  | [d1, d2] => { results := [.lit (.bool true)], args := [d1, d2] }
  | _ => none }
def lcsRisesRow : OpenClaim := { program := "ytjbgdoapbehopaa", sum := "c1e02907813f5ce37c20d86b18d358893879894ec57b50d61532bca448eacf8f", func := "concordat/concordatlaw05.LcsRises", spec := "lcsRises", apart := false }
def LcsRisesSaid : Prop := lcsRisesRow.holds Try.pinned (OpenSpec.ofChange lcsRisesSpec)

/-- ITS FALSE NEIGHBOUR: 'it returns false'. Refute it at one input. -/
def lcsRisesWrong : ChangeSpec := { name := "lcsRises", fn := fun _ => fun
  | [d1, d2] => { results := [.lit (.bool false)], args := [d1, d2] }
  | _ => none }
def LcsRisesWrongFalsely : Prop := lcsRisesRow.holds Try.pinned (OpenSpec.ofChange lcsRisesWrong)

/-- 'concordatlaw05.LcsTurned': WHATEVER THE INPUT: true; the input reads as it did. -/
def lcsTurnedSpec : ChangeSpec := { name := "lcsTurned", fn := fun _ => fun
  | [d1, d2, d3] => { results := [.lit (.bool true)], args := [d1, d2, d3] }
  | _ => none }
def lcsTurnedRow : OpenClaim := { program := "ytjbgdoapbehopaa", sum := "c1e02907813f5ce37c20d86b18d358893879894ec57b50d61532bca448eacf8f", func := "concordat/concordatlaw05.LcsTurned", spec := "lcsTurned", apart := false }
def LcsTurnedSaid : Prop := lcsTurnedRow.holds Try.pinned (OpenSpec.ofChange lcsTurnedSpec)

/-- ITS FALSE NEIGHBOUR: 'it returns false'. Refute it at one input. -/
def lcsTurnedWrong : ChangeSpec := { name := "lcsTurned", fn := fun _ => fun
  | [d1, d2, d3] => { results := [.lit (.bool false)], args := [d1, d2, d3] }
  | _ => none }
def LcsTurnedWrongFalsely : Prop := lcsTurnedRow.holds Try.pinned (OpenSpec.ofChange lcsTurnedWrong)

/-- 'concordatlaw05.LcsLongest': WHATEVER THE INPUT: true; the input reads as it did. -/
def lcsLongestSpec : ChangeSpec := { name := "lcsLongest", fn := fun _ => fun
  | [d1, d2, d3] => { results := [.lit (.bool true)], args := [d1, d2, d3] }
  | _ => none }
def lcsLongestRow : OpenClaim := { program := "ytjbgdoapbehopaa", sum := "c1e02907813f5ce37c20d86b18d358893879894ec57b50d61532bca448eacf8f", func := "concordat/concordatlaw05.LcsLongest", spec := "lcsLongest", apart := false }
def LcsLongestSaid : Prop := lcsLongestRow.holds Try.pinned (OpenSpec.ofChange lcsLongestSpec)

/-- ITS FALSE NEIGHBOUR: 'it returns false'. Refute it at one input. -/
def lcsLongestWrong : ChangeSpec := { name := "lcsLongest", fn := fun _ => fun
  | [d1, d2, d3] => { results := [.lit (.bool false)], args := [d1, d2, d3] }
  | _ => none }
def LcsLongestWrongFalsely : Prop := lcsLongestRow.holds Try.pinned (OpenSpec.ofChange lcsLongestWrong)

/- THE SECOND FORM. 'bulk': how many values and letters a reading holds, each counted each time it is reached (what is shared counts as often as it is met; a slice's spare places count too). A statement '..UptoSaid' is the law's where the arguments, and the package variables that the reading takes, are together of bulk at most 1048576: NARROWER than '..Said'. Prove '..Said' where nothing that the law and all that it calls make is longer than what came in: it says more and counts as full. Else prove '..UptoSaid'. A law counts once. -/
mutual
def uptoBulk {H : Type} : DataW H → Nat
  | .lit (.string bytes) => bytes.length + 1
  | .lit _ => 1
  | .nil => 1
  | .ptr d => uptoBulk d + 1
  | .slice elems spare => uptoBulkAll elems + uptoBulkAll spare + 1
  | .agg parts => uptoBulkAll parts + 1
  | .iface _ d => uptoBulk d + 1
  | .map entries => uptoBulkEntries entries + 1
  | .held _ => 1
def uptoBulkAll {H : Type} : List (DataW H) → Nat
  | [] => 0
  | d :: r => uptoBulk d + uptoBulkAll r
def uptoBulkEntries {H : Type} : List (Lit × DataW H) → Nat
  | [] => 0
  | x :: r => uptoBulkEntry x + uptoBulkEntries r
def uptoBulkEntry {H : Type} : Lit × DataW H → Nat
  | (.string bytes, d) => bytes.length + uptoBulk d + 1
  | (_, d) => uptoBulk d + 1
 end
def uptoSmall : (H : Type) → List (DataW H) → Bool := fun _ ds => decide (uptoBulkAll ds ≤ 1048576)
def OpenSpec.upto (s : _root_.Go.ChangeSpec) : _root_.Go.OpenSpec := { _root_.Go.OpenSpec.ofChange s with cond := some uptoSmall }

/-- 'concordatlaw05.LcsMatches', WHERE WHAT IT READS IS OF BULK AT MOST 1048576: true; the input reads as it did. -/
def lcsMatchesUptoRow : OpenClaim := { program := "ytjbgdoapbehopaa", sum := "c1e02907813f5ce37c20d86b18d358893879894ec57b50d61532bca448eacf8f", func := "concordat/concordatlaw05.LcsMatches", spec := "lcsMatches", apart := false, narrowed := true }
def LcsMatchesUptoSaid : Prop := lcsMatchesUptoRow.holds Try.pinned (OpenSpec.upto lcsMatchesSpec)

/-- 'concordatlaw05.LcsNumbers', WHERE WHAT IT READS IS OF BULK AT MOST 1048576: true; the input reads as it did. -/
def lcsNumbersUptoRow : OpenClaim := { program := "ytjbgdoapbehopaa", sum := "c1e02907813f5ce37c20d86b18d358893879894ec57b50d61532bca448eacf8f", func := "concordat/concordatlaw05.LcsNumbers", spec := "lcsNumbers", apart := false, narrowed := true }
def LcsNumbersUptoSaid : Prop := lcsNumbersUptoRow.holds Try.pinned (OpenSpec.upto lcsNumbersSpec)

/-- 'concordatlaw05.LcsRises', WHERE WHAT IT READS IS OF BULK AT MOST 1048576: true; the input reads as it did. -/
def lcsRisesUptoRow : OpenClaim := { program := "ytjbgdoapbehopaa", sum := "c1e02907813f5ce37c20d86b18d358893879894ec57b50d61532bca448eacf8f", func := "concordat/concordatlaw05.LcsRises", spec := "lcsRises", apart := false, narrowed := true }
def LcsRisesUptoSaid : Prop := lcsRisesUptoRow.holds Try.pinned (OpenSpec.upto lcsRisesSpec)

/-- 'concordatlaw05.LcsTurned', WHERE WHAT IT READS IS OF BULK AT MOST 1048576: true; the input reads as it did. -/
def lcsTurnedUptoRow : OpenClaim := { program := "ytjbgdoapbehopaa", sum := "c1e02907813f5ce37c20d86b18d358893879894ec57b50d61532bca448eacf8f", func := "concordat/concordatlaw05.LcsTurned", spec := "lcsTurned", apart := false, narrowed := true }
def LcsTurnedUptoSaid : Prop := lcsTurnedUptoRow.holds Try.pinned (OpenSpec.upto lcsTurnedSpec)

/-- 'concordatlaw05.LcsLongest', WHERE WHAT IT READS IS OF BULK AT MOST 1048576: true; the input reads as it did. -/
def lcsLongestUptoRow : OpenClaim := { program := "ytjbgdoapbehopaa", sum := "c1e02907813f5ce37c20d86b18d358893879894ec57b50d61532bca448eacf8f", func := "concordat/concordatlaw05.LcsLongest", spec := "lcsLongest", apart := false, narrowed := true }
def LcsLongestUptoSaid : Prop := lcsLongestUptoRow.holds Try.pinned (OpenSpec.upto lcsLongestSpec)

end Rows
end Go.Proofs.Ytjbgdoapbehopaa
