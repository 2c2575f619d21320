/- What is reckoned by the kernel: TopLines with line 1. -/
import Derived.Test.YtiilignphmflfaaGreatDoorTab
set_option linter.unusedSectionVars false
set_option linter.unusedVariables false
namespace Go.Ev
theorem f1_1 : f1 1 = true := by kernel_rfl
theorem f2_1 : f2 1 = true := by kernel_rfl
theorem f3_1 : f3 1 = true := by kernel_rfl
end Go.Ev
