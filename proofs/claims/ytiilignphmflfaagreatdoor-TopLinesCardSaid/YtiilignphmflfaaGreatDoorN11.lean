/- What is reckoned by the kernel: TopLines with line 11. -/
import Derived.Test.YtiilignphmflfaaGreatDoorTab
set_option linter.unusedSectionVars false
set_option linter.unusedVariables false
namespace Go.Ev
theorem f1_11 : f1 11 = true := by kernel_rfl
theorem f2_11 : f2 11 = true := by kernel_rfl
theorem f3_11 : f3 11 = true := by kernel_rfl
end Go.Ev
