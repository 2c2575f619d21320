/- What is reckoned by the kernel: TopLines with line 13. -/
import Derived.Test.YtiilignphmflfaaGreatDoorTab
set_option linter.unusedSectionVars false
set_option linter.unusedVariables false
namespace Go.Ev
theorem f1_13 : f1 13 = true := by kernel_rfl
theorem f2_13 : f2 13 = true := by kernel_rfl
theorem f3_13 : f3 13 = true := by kernel_rfl
end Go.Ev
