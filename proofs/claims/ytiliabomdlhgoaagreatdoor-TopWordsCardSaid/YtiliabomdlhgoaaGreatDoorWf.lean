/- What is reckoned by the kernel: TopWords, the sender first. -/
import Derived.Test.YtiliabomdlhgoaaGreatDoorTab
set_option linter.unusedSectionVars false
set_option linter.unusedVariables false
namespace Go.Ev
theorem fw_true : memoAll spW tab 3000 3 (rowW .true) = true := by kernel_rfl
end Go.Ev
