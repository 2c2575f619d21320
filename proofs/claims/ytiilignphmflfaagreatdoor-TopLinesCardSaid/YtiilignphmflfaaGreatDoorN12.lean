/- What is reckoned by the kernel: TopLines with line 12. -/
import Derived.Test.YtiilignphmflfaaGreatDoorTab
set_option linter.unusedSectionVars false
set_option linter.unusedVariables false
namespace Go.Ev
theorem f1_12 : f1 12 = true := by kernel_rfl
theorem f2_12 : f2 12 = true := by kernel_rfl
theorem f3_12 : f3 12 = true := by kernel_rfl
end Go.Ev
