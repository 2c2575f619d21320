/- What is reckoned by the kernel: the text and the code of a sender, for a label of a length and a word of each length. -/
import Derived.Test.YtiliabomdlhgoaaGreatDoorTab
set_option linter.unusedSectionVars false
set_option linter.unusedVariables false
namespace Go.Ev
theorem fc20 : fC 2 0 = true := by kernel_rfl
theorem fc21 : fC 2 1 = true := by kernel_rfl
theorem fc22 : fC 2 2 = true := by kernel_rfl
theorem fc23 : fC 2 3 = true := by kernel_rfl
theorem fc24 : fC 2 4 = true := by kernel_rfl
theorem fc25 : fC 2 5 = true := by kernel_rfl
end Go.Ev
