/- Laid by a program of this session out of the seat's translation. -/
import Derived.Test.YtphghffdaceaoaaPHunkx0
import Derived.Test.YtphghffdaceaoaaPHunkx9
import Derived.Test.YtphghffdaceaoaaPHunkx10
import Derived.Test.YtphghffdaceaoaaPHunkx12
namespace Go.Proofs.Ytphghffdaceaoaa.PHunk
open Go.RowKit Go.Proofs.YtphghffdaceaoaaW.PrintWords Go.Proofs.YtphghffdaceaoaaW.PrintLast Go.Proofs.YtphghffdaceaoaaW.PrintMore
attribute [local go_sem] max2_int min2_int max_two min_two max_three min_three max_four min_four   -- for this text's walks alone
set_option linter.unusedVariables false
set_option linter.unusedSimpArgs false
/-! ### r05_Texts: function 28 -/
def r05_Texts.T2 : Bool × List (List Nat × List Nat) := (true, [([], []), ([0], [0]), ([1], [1]), ([], []), ([3], [3]), ([4], [4]), ([2, 5], [2, 5]), ([6, 6, 0, 1, 2, 3, 4, 5, 6], [6])])
def r05_Texts.B2 : List Nat := [0, 1, 3, 0, 8, 24, 63, 127]
theorem r05_Texts.tab2 : rtab .any (opsOf Try.f28 2) = r05_Texts.T2 := by kernel_rfl
theorem r05_Texts.bits2 : waitsOk r05_Texts.T2.2 r05_Texts.B2 = true := by kernel_rfl
/-! ### r06_Texts: function 12 -/
end Go.Proofs.Ytphghffdaceaoaa.PHunk
