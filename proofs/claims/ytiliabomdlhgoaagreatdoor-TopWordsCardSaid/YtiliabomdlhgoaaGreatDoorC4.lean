/- What is reckoned by the kernel: the text and the code of a sender, for a label of a length and a word of each length. -/
import Derived.Test.YtiliabomdlhgoaaGreatDoorTab
set_option linter.unusedSectionVars false
set_option linter.unusedVariables false
namespace Go.Ev
theorem fc40 : fC 4 0 = true := by kernel_rfl
theorem fc41 : fC 4 1 = true := by kernel_rfl
theorem fc42 : fC 4 2 = true := by kernel_rfl
theorem fc43 : fC 4 3 = true := by kernel_rfl
theorem fc44 : fC 4 4 = true := by kernel_rfl
theorem fc45 : fC 4 5 = true := by kernel_rfl
end Go.Ev
