/- What is reckoned by the kernel: TopLines with line 5. -/
import Derived.Test.YtiilignphmflfaaGreatDoorTab
set_option linter.unusedSectionVars false
set_option linter.unusedVariables false
namespace Go.Ev
theorem f1_5 : f1 5 = true := by kernel_rfl
theorem f2_5 : f2 5 = true := by kernel_rfl
theorem f3_5 : f3 5 = true := by kernel_rfl
end Go.Ev
