/- What is reckoned by the kernel: TopLines with line 14. -/
import Derived.Test.YtiilignphmflfaaGreatDoorTab
set_option linter.unusedSectionVars false
set_option linter.unusedVariables false
namespace Go.Ev
theorem f1_14 : f1 14 = true := by kernel_rfl
theorem f2_14 : f2 14 = true := by kernel_rfl
theorem f3_14 : f3 14 = true := by kernel_rfl
end Go.Ev
