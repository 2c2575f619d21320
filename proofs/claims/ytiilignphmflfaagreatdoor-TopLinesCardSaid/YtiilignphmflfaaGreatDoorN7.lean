/- What is reckoned by the kernel: TopLines with line 7. -/
import Derived.Test.YtiilignphmflfaaGreatDoorTab
set_option linter.unusedSectionVars false
set_option linter.unusedVariables false
namespace Go.Ev
theorem f1_7 : f1 7 = true := by kernel_rfl
theorem f2_7 : f2 7 = true := by kernel_rfl
theorem f3_7 : f3 7 = true := by kernel_rfl
end Go.Ev
