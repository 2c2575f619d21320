/- What is reckoned by the kernel: the text and the code of a sender, for a label of a length and a word of each length. -/
import Derived.Test.YtiliabomdlhgoaaGreatDoorTab
set_option linter.unusedSectionVars false
set_option linter.unusedVariables false
namespace Go.Ev
theorem fc30 : fC 3 0 = true := by kernel_rfl
theorem fc31 : fC 3 1 = true := by kernel_rfl
theorem fc32 : fC 3 2 = true := by kernel_rfl
theorem fc33 : fC 3 3 = true := by kernel_rfl
theorem fc34 : fC 3 4 = true := by kernel_rfl
theorem fc35 : fC 3 5 = true := by kernel_rfl
end Go.Ev
