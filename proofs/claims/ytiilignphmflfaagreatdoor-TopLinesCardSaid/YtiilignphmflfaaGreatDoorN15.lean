/- What is reckoned by the kernel: TopLines with line 15. -/
import Derived.Test.YtiilignphmflfaaGreatDoorTab
set_option linter.unusedSectionVars false
set_option linter.unusedVariables false
namespace Go.Ev
theorem f1_15 : f1 15 = true := by kernel_rfl
theorem f2_15 : f2 15 = true := by kernel_rfl
theorem f3_15 : f3 15 = true := by kernel_rfl
end Go.Ev
