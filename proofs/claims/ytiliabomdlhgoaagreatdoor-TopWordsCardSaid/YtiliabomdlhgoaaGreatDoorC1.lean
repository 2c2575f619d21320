/- What is reckoned by the kernel: the text and the code of a sender, for a label of a length and a word of each length. -/
import Derived.Test.YtiliabomdlhgoaaGreatDoorTab
set_option linter.unusedSectionVars false
set_option linter.unusedVariables false
namespace Go.Ev
theorem fc10 : fC 1 0 = true := by kernel_rfl
theorem fc11 : fC 1 1 = true := by kernel_rfl
theorem fc12 : fC 1 2 = true := by kernel_rfl
theorem fc13 : fC 1 3 = true := by kernel_rfl
theorem fc14 : fC 1 4 = true := by kernel_rfl
theorem fc15 : fC 1 5 = true := by kernel_rfl
end Go.Ev
