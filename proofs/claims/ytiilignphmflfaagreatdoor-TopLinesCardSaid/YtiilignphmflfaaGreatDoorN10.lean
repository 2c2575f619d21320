/- What is reckoned by the kernel: TopLines with line 10. -/
import Derived.Test.YtiilignphmflfaaGreatDoorTab
set_option linter.unusedSectionVars false
set_option linter.unusedVariables false
namespace Go.Ev
theorem f1_10 : f1 10 = true := by kernel_rfl
theorem f2_10 : f2 10 = true := by kernel_rfl
theorem f3_10 : f3 10 = true := by kernel_rfl
end Go.Ev
