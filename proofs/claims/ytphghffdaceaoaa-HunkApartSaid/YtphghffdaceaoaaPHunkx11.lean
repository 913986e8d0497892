/- Laid by a program of this session out of the seat's translation. -/
import Derived.Test.YtphghffdaceaoaaPHunkx0
namespace Go.Proofs.Ytphghffdaceaoaa.PHunk
open Go.RowKit Go.Proofs.YtphghffdaceaoaaW.PrintWords Go.Proofs.YtphghffdaceaoaaW.PrintLast Go.Proofs.YtphghffdaceaoaaW.PrintMore
attribute [local go_sem] max2_int min2_int max_two min_two max_three min_three max_four min_four   -- for this text's walks alone
set_option linter.unusedVariables false
set_option linter.unusedSimpArgs false
/-! ### r05_table: function 36 -/
def r05_table.T12 : Bool × List (List Nat × List Nat) := (true, [([], []), ([], []), ([0, 1], [0, 1]), ([2], [2]), ([], []), ([], []), ([4, 5], [4, 5]), ([6], [6]), ([3, 7], [3, 7])])
def r05_table.B12 : List Nat := [0, 0, 3, 7, 0, 0, 48, 112, 255]
theorem r05_table.tab12 : rtab .any (opsOf Try.f36 12) = r05_table.T12 := by kernel_rfl
theorem r05_table.bits12 : waitsOk r05_table.T12.2 r05_table.B12 = true := by kernel_rfl
end Go.Proofs.Ytphghffdaceaoaa.PHunk
