/- What is reckoned by the kernel: TopLines with line 8. -/
import Derived.Test.YtiilignphmflfaaGreatDoorTab
set_option linter.unusedSectionVars false
set_option linter.unusedVariables false
namespace Go.Ev
theorem f1_8 : f1 8 = true := by kernel_rfl
theorem f2_8 : f2 8 = true := by kernel_rfl
theorem f3_8 : f3 8 = true := by kernel_rfl
end Go.Ev
