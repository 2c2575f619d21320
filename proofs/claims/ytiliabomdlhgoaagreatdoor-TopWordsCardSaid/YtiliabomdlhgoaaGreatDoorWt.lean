/- What is reckoned by the kernel: TopWords, the receiver first. -/
import Derived.Test.YtiliabomdlhgoaaGreatDoorTab
set_option linter.unusedSectionVars false
set_option linter.unusedVariables false
namespace Go.Ev
theorem fw_false : memoAll spW tab 3000 3 (rowW .false) = true := by kernel_rfl
end Go.Ev
