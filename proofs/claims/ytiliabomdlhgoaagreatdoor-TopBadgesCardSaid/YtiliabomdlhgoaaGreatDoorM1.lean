/- What is reckoned by the kernel: the text and the code of the first thread, for a slot of a length and a badge of each length. -/
import Derived.Test.YtiliabomdlhgoaaGreatDoorBd
set_option linter.unusedSectionVars false
set_option linter.unusedVariables false
namespace Go.Ev
theorem fm10 : fM 1 0 = true := by kernel_rfl
theorem fm11 : fM 1 1 = true := by kernel_rfl
theorem fm12 : fM 1 2 = true := by kernel_rfl
theorem fm13 : fM 1 3 = true := by kernel_rfl
theorem fm14 : fM 1 4 = true := by kernel_rfl
theorem fm15 : fM 1 5 = true := by kernel_rfl
end Go.Ev
