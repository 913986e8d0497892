/-
  NARROWER THAN 'FOR EVERY INPUT', by the rows' own cells (each row's printed sentence says how): NodeCounts: loops · NodeMoves: loops · NodeWays: loops · NodePuts: loops · NodeNames: loops · NodePlaces: loops.
  DERIVED. THE GIVEN ROWS OF THIS SEAT. 6 by the template 'for every input the law returns true; each argument reads behind the call as it read before'; 0 by the template 'total and deterministic' (their statements: YtoadkinlfgcikaaTotals.lean).
  GIVEN WITH THE SEED: the statements are not yours to turn. If you find one false, say at which input.
  Laid BY PROGRAM, IN A SANDBOX (cutbox-rows.mjs): the forced cells as the released guide's own fill.sh prints them over the translation dcc12328cfde87c4… (all of the seat's roots in one cut). By AI agents, Wed Nov 11 2026. No macro, syntax, notation, axiom, sorry.
-/
import Derived.Test.YtoadkinlfgcikaaChecked
import GoSem.Claim
import GoSem.ClaimJoined
import GoSem.ClaimMapViews
import Derived.JoinedTies
import Derived.KernelRfl
namespace Go.Proofs.Ytoadkinlfgcikaa
/- THE CELL 'sum', in the pinned program and in every row, IS THE sha256 OF THE DUMP (.gsa) THAT YtoadkinlfgcikaaProg.lean LOADS. Nothing in Lean hashes anything: it is a label: what it is worth is what the hold of that sum in a sandbox is worth. -/
noncomputable def Try.pinned : Pinned := { name := "ytoadkinlfgcikaa", sum := "dcc12328cfde87c42b069efe9676bbf5a1ac836a6c5612ff4de4464d4bcfa890", checked := Try.checked }
namespace Rows
def none {H : Type} : Left H := { results := [], args := [] }

/-- 'concordatlaw11.NodeCounts': WHATEVER THE INPUT: true; the input reads as it did. -/
def nodeCountsSpec : ChangeSpec := { name := "nodeCounts", fn := fun _ => fun
  | [d1, d2, d3] => { results := [.lit (.bool true)], args := [d1, d2, d3] }
  | _ => none }
def nodeCountsRow : OpenClaim := { program := "ytoadkinlfgcikaa", sum := "dcc12328cfde87c42b069efe9676bbf5a1ac836a6c5612ff4de4464d4bcfa890", func := "concordat/concordatlaw11.NodeCounts", spec := "nodeCounts", unfollowed := true, recurses := true, loops := true, apart := false }
def NodeCountsSaid : Prop := nodeCountsRow.holds Try.pinned (OpenSpec.ofChange nodeCountsSpec)

/-- ITS FALSE NEIGHBOUR: 'it returns false'. Refute it at one input. -/
def nodeCountsWrong : ChangeSpec := { name := "nodeCounts", fn := fun _ => fun
  | [d1, d2, d3] => { results := [.lit (.bool false)], args := [d1, d2, d3] }
  | _ => none }
def NodeCountsWrongFalsely : Prop := nodeCountsRow.holds Try.pinned (OpenSpec.ofChange nodeCountsWrong)

/-- 'concordatlaw11.NodeMoves': WHATEVER THE INPUT: true; the input reads as it did. -/
def nodeMovesSpec : ChangeSpec := { name := "nodeMoves", fn := fun _ => fun
  | [d1, d2, d3] => { results := [.lit (.bool true)], args := [d1, d2, d3] }
  | _ => none }
def nodeMovesRow : OpenClaim := { program := "ytoadkinlfgcikaa", sum := "dcc12328cfde87c42b069efe9676bbf5a1ac836a6c5612ff4de4464d4bcfa890", func := "concordat/concordatlaw11.NodeMoves", spec := "nodeMoves", unfollowed := true, recurses := true, loops := true, apart := false }
def NodeMovesSaid : Prop := nodeMovesRow.holds Try.pinned (OpenSpec.ofChange nodeMovesSpec)

/-- ITS FALSE NEIGHBOUR: 'it returns false'. Refute it at one input. -/
def nodeMovesWrong : ChangeSpec := { name := "nodeMoves", fn := fun _ => fun
  | [d1, d2, d3] => { results := [.lit (.bool false)], args := [d1, d2, d3] }
  | _ => none }
def NodeMovesWrongFalsely : Prop := nodeMovesRow.holds Try.pinned (OpenSpec.ofChange nodeMovesWrong)

/-- 'concordatlaw11.NodeWays': WHATEVER THE INPUT: true; the input reads as it did. -/
def nodeWaysSpec : ChangeSpec := { name := "nodeWays", fn := fun _ => fun
  | [d1, d2, d3] => { results := [.lit (.bool true)], args := [d1, d2, d3] }
  | _ => none }
def nodeWaysRow : OpenClaim := { program := "ytoadkinlfgcikaa", sum := "dcc12328cfde87c42b069efe9676bbf5a1ac836a6c5612ff4de4464d4bcfa890", func := "concordat/concordatlaw11.NodeWays", spec := "nodeWays", unfollowed := true, recurses := true, loops := true, apart := false }
def NodeWaysSaid : Prop := nodeWaysRow.holds Try.pinned (OpenSpec.ofChange nodeWaysSpec)

/-- ITS FALSE NEIGHBOUR: 'it returns false'. Refute it at one input. -/
def nodeWaysWrong : ChangeSpec := { name := "nodeWays", fn := fun _ => fun
  | [d1, d2, d3] => { results := [.lit (.bool false)], args := [d1, d2, d3] }
  | _ => none }
def NodeWaysWrongFalsely : Prop := nodeWaysRow.holds Try.pinned (OpenSpec.ofChange nodeWaysWrong)

/-- 'concordatlaw11.NodePuts': WHATEVER THE INPUT: true; the input reads as it did. -/
def nodePutsSpec : ChangeSpec := { name := "nodePuts", fn := fun _ => fun
  | [d1, d2, d3] => { results := [.lit (.bool true)], args := [d1, d2, d3] }
  | _ => none }
def nodePutsRow : OpenClaim := { program := "ytoadkinlfgcikaa", sum := "dcc12328cfde87c42b069efe9676bbf5a1ac836a6c5612ff4de4464d4bcfa890", func := "concordat/concordatlaw11.NodePuts", spec := "nodePuts", unfollowed := true, recurses := true, loops := true, apart := false }
def NodePutsSaid : Prop := nodePutsRow.holds Try.pinned (OpenSpec.ofChange nodePutsSpec)

/-- ITS FALSE NEIGHBOUR: 'it returns false'. Refute it at one input. -/
def nodePutsWrong : ChangeSpec := { name := "nodePuts", fn := fun _ => fun
  | [d1, d2, d3] => { results := [.lit (.bool false)], args := [d1, d2, d3] }
  | _ => none }
def NodePutsWrongFalsely : Prop := nodePutsRow.holds Try.pinned (OpenSpec.ofChange nodePutsWrong)

/-- 'concordatlaw11.NodeNames': WHATEVER THE INPUT: true; the input reads as it did. -/
def nodeNamesSpec : ChangeSpec := { name := "nodeNames", fn := fun _ => fun
  | [d1, d2, d3] => { results := [.lit (.bool true)], args := [d1, d2, d3] }
  | _ => none }
def nodeNamesRow : OpenClaim := { program := "ytoadkinlfgcikaa", sum := "dcc12328cfde87c42b069efe9676bbf5a1ac836a6c5612ff4de4464d4bcfa890", func := "concordat/concordatlaw11.NodeNames", spec := "nodeNames", unfollowed := true, recurses := true, loops := true, apart := false }
def NodeNamesSaid : Prop := nodeNamesRow.holds Try.pinned (OpenSpec.ofChange nodeNamesSpec)

/-- ITS FALSE NEIGHBOUR: 'it returns false'. Refute it at one input. -/
def nodeNamesWrong : ChangeSpec := { name := "nodeNames", fn := fun _ => fun
  | [d1, d2, d3] => { results := [.lit (.bool false)], args := [d1, d2, d3] }
  | _ => none }
def NodeNamesWrongFalsely : Prop := nodeNamesRow.holds Try.pinned (OpenSpec.ofChange nodeNamesWrong)

/-- 'concordatlaw11.NodePlaces': WHATEVER THE INPUT: true; the input reads as it did. -/
def nodePlacesSpec : ChangeSpec := { name := "nodePlaces", fn := fun _ => fun
  | [d1, d2, d3] => { results := [.lit (.bool true)], args := [d1, d2, d3] }
  | _ => none }
def nodePlacesRow : OpenClaim := { program := "ytoadkinlfgcikaa", sum := "dcc12328cfde87c42b069efe9676bbf5a1ac836a6c5612ff4de4464d4bcfa890", func := "concordat/concordatlaw11.NodePlaces", spec := "nodePlaces", unfollowed := true, recurses := true, loops := true, apart := false }
def NodePlacesSaid : Prop := nodePlacesRow.holds Try.pinned (OpenSpec.ofChange nodePlacesSpec)

/-- ITS FALSE NEIGHBOUR: 'it returns false'. Refute it at one input. -/
def nodePlacesWrong : ChangeSpec := { name := "nodePlaces", fn := fun _ => fun
  | [d1, d2, d3] => { results := [.lit (.bool false)], args := [d1, d2, d3] }
  | _ => none }
def NodePlacesWrongFalsely : Prop := nodePlacesRow.holds Try.pinned (OpenSpec.ofChange nodePlacesWrong)

/- THE SECOND FORM. 'bulk': how many values and letters a reading holds, each counted each time it is reached (what is shared counts as often as it is met; a slice's spare places count too). A statement '..UptoSaid' is the law's where the arguments, and the package variables that the reading takes, are together of bulk at most 1048576: NARROWER than '..Said'. Prove '..Said' where nothing that the law and all that it calls make is longer than what came in: it says more and counts as full. Else prove '..UptoSaid'. A law counts once. -/
mutual
def uptoBulk {H : Type} : DataW H → Nat
  | .lit (.string bytes) => bytes.length + 1
  | .lit _ => 1
  | .nil => 1
  | .ptr d => uptoBulk d + 1
  | .slice elems spare => uptoBulkAll elems + uptoBulkAll spare + 1
  | .agg parts => uptoBulkAll parts + 1
  | .iface _ d => uptoBulk d + 1
  | .map entries => uptoBulkEntries entries + 1
  | .held _ => 1
def uptoBulkAll {H : Type} : List (DataW H) → Nat
  | [] => 0
  | d :: r => uptoBulk d + uptoBulkAll r
def uptoBulkEntries {H : Type} : List (Lit × DataW H) → Nat
  | [] => 0
  | x :: r => uptoBulkEntry x + uptoBulkEntries r
def uptoBulkEntry {H : Type} : Lit × DataW H → Nat
  | (.string bytes, d) => bytes.length + uptoBulk d + 1
  | (_, d) => uptoBulk d + 1
 end
def uptoSmall : (H : Type) → List (DataW H) → Bool := fun _ ds => decide (uptoBulkAll ds ≤ 1048576)
def OpenSpec.upto (s : _root_.Go.ChangeSpec) : _root_.Go.OpenSpec := { _root_.Go.OpenSpec.ofChange s with cond := some uptoSmall }

/-- 'concordatlaw11.NodeCounts', WHERE WHAT IT READS IS OF BULK AT MOST 1048576: true; the input reads as it did. -/
def nodeCountsUptoRow : OpenClaim := { program := "ytoadkinlfgcikaa", sum := "dcc12328cfde87c42b069efe9676bbf5a1ac836a6c5612ff4de4464d4bcfa890", func := "concordat/concordatlaw11.NodeCounts", spec := "nodeCounts", unfollowed := true, recurses := true, loops := true, apart := false, narrowed := true }
def NodeCountsUptoSaid : Prop := nodeCountsUptoRow.holds Try.pinned (OpenSpec.upto nodeCountsSpec)

/-- 'concordatlaw11.NodeMoves', WHERE WHAT IT READS IS OF BULK AT MOST 1048576: true; the input reads as it did. -/
def nodeMovesUptoRow : OpenClaim := { program := "ytoadkinlfgcikaa", sum := "dcc12328cfde87c42b069efe9676bbf5a1ac836a6c5612ff4de4464d4bcfa890", func := "concordat/concordatlaw11.NodeMoves", spec := "nodeMoves", unfollowed := true, recurses := true, loops := true, apart := false, narrowed := true }
def NodeMovesUptoSaid : Prop := nodeMovesUptoRow.holds Try.pinned (OpenSpec.upto nodeMovesSpec)

/-- 'concordatlaw11.NodeWays', WHERE WHAT IT READS IS OF BULK AT MOST 1048576: true; the input reads as it did. -/
def nodeWaysUptoRow : OpenClaim := { program := "ytoadkinlfgcikaa", sum := "dcc12328cfde87c42b069efe9676bbf5a1ac836a6c5612ff4de4464d4bcfa890", func := "concordat/concordatlaw11.NodeWays", spec := "nodeWays", unfollowed := true, recurses := true, loops := true, apart := false, narrowed := true }
def NodeWaysUptoSaid : Prop := nodeWaysUptoRow.holds Try.pinned (OpenSpec.upto nodeWaysSpec)

/-- 'concordatlaw11.NodePuts', WHERE WHAT IT READS IS OF BULK AT MOST 1048576: true; the input reads as it did. -/
def nodePutsUptoRow : OpenClaim := { program := "ytoadkinlfgcikaa", sum := "dcc12328cfde87c42b069efe9676bbf5a1ac836a6c5612ff4de4464d4bcfa890", func := "concordat/concordatlaw11.NodePuts", spec := "nodePuts", unfollowed := true, recurses := true, loops := true, apart := false, narrowed := true }
def NodePutsUptoSaid : Prop := nodePutsUptoRow.holds Try.pinned (OpenSpec.upto nodePutsSpec)

/-- 'concordatlaw11.NodeNames', WHERE WHAT IT READS IS OF BULK AT MOST 1048576: true; the input reads as it did. -/
def nodeNamesUptoRow : OpenClaim := { program := "ytoadkinlfgcikaa", sum := "dcc12328cfde87c42b069efe9676bbf5a1ac836a6c5612ff4de4464d4bcfa890", func := "concordat/concordatlaw11.NodeNames", spec := "nodeNames", unfollowed := true, recurses := true, loops := true, apart := false, narrowed := true }
def NodeNamesUptoSaid : Prop := nodeNamesUptoRow.holds Try.pinned (OpenSpec.upto nodeNamesSpec)

/-- 'concordatlaw11.NodePlaces', WHERE WHAT IT READS IS OF BULK AT MOST 1048576: true; the input reads as it did. -/
def nodePlacesUptoRow : OpenClaim := { program := "ytoadkinlfgcikaa", sum := "dcc12328cfde87c42b069efe9676bbf5a1ac836a6c5612ff4de4464d4bcfa890", func := "concordat/concordatlaw11.NodePlaces", spec := "nodePlaces", unfollowed := true, recurses := true, loops := true, apart := false, narrowed := true }
def NodePlacesUptoSaid : Prop := nodePlacesUptoRow.holds Try.pinned (OpenSpec.upto nodePlacesSpec)

end Rows
end Go.Proofs.Ytoadkinlfgcikaa
