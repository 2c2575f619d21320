/- What is reckoned by the kernel: the text and the code of a sender, for a label of a length and a word of each length. -/
import Derived.Test.YtiliabomdlhgoaaGreatDoorTab
set_option linter.unusedSectionVars false
set_option linter.unusedVariables false
namespace Go.Ev
theorem fc50 : fC 5 0 = true := by kernel_rfl
theorem fc51 : fC 5 1 = true := by kernel_rfl
theorem fc52 : fC 5 2 = true := by kernel_rfl
theorem fc53 : fC 5 3 = true := by kernel_rfl
theorem fc54 : fC 5 4 = true := by kernel_rfl
theorem fc55 : fC 5 5 = true := by kernel_rfl
end Go.Ev
