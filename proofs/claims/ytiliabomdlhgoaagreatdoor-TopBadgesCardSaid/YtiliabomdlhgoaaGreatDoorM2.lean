/- What is reckoned by the kernel: the text and the code of the first thread, for a slot of a length and a badge of each length. -/
import Derived.Test.YtiliabomdlhgoaaGreatDoorBd
set_option linter.unusedSectionVars false
set_option linter.unusedVariables false
namespace Go.Ev
theorem fm20 : fM 2 0 = true := by kernel_rfl
theorem fm21 : fM 2 1 = true := by kernel_rfl
theorem fm22 : fM 2 2 = true := by kernel_rfl
theorem fm23 : fM 2 3 = true := by kernel_rfl
theorem fm24 : fM 2 4 = true := by kernel_rfl
theorem fm25 : fM 2 5 = true := by kernel_rfl
end Go.Ev
