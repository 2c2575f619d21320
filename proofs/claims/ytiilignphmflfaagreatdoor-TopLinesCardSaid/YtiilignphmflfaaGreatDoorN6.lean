/- What is reckoned by the kernel: TopLines with line 6. -/
import Derived.Test.YtiilignphmflfaaGreatDoorTab
set_option linter.unusedSectionVars false
set_option linter.unusedVariables false
namespace Go.Ev
theorem f1_6 : f1 6 = true := by kernel_rfl
theorem f2_6 : f2 6 = true := by kernel_rfl
theorem f3_6 : f3 6 = true := by kernel_rfl
end Go.Ev
