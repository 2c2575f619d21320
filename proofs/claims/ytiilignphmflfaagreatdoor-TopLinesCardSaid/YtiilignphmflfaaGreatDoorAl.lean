/- What is reckoned by the kernel: alive. -/
import Derived.Test.YtiilignphmflfaaGreatDoorTab
set_option linter.unusedSectionVars false
set_option linter.unusedVariables false
namespace Go.Ev
theorem alive_is : memoAll spA tab 2000 4 [([], .bool true)] = true := by kernel_rfl
end Go.Ev
