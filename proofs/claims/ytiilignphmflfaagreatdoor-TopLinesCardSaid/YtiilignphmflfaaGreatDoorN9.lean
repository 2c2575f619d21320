/- What is reckoned by the kernel: TopLines with line 9. -/
import Derived.Test.YtiilignphmflfaaGreatDoorTab
set_option linter.unusedSectionVars false
set_option linter.unusedVariables false
namespace Go.Ev
theorem f1_9 : f1 9 = true := by kernel_rfl
theorem f2_9 : f2 9 = true := by kernel_rfl
theorem f3_9 : f3 9 = true := by kernel_rfl
end Go.Ev
