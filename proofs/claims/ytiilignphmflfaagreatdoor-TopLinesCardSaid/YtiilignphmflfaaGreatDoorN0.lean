/- What is reckoned by the kernel: TopLines with line 0. -/
import Derived.Test.YtiilignphmflfaaGreatDoorTab
set_option linter.unusedSectionVars false
set_option linter.unusedVariables false
namespace Go.Ev
theorem f1_0 : f1 0 = true := by kernel_rfl
theorem f2_0 : f2 0 = true := by kernel_rfl
theorem f3_0 : f3 0 = true := by kernel_rfl
end Go.Ev
