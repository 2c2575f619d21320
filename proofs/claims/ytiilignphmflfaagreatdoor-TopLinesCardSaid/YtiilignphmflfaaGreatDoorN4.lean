/- What is reckoned by the kernel: TopLines with line 4. -/
import Derived.Test.YtiilignphmflfaaGreatDoorTab
set_option linter.unusedSectionVars false
set_option linter.unusedVariables false
namespace Go.Ev
theorem f1_4 : f1 4 = true := by kernel_rfl
theorem f2_4 : f2 4 = true := by kernel_rfl
theorem f3_4 : f3 4 = true := by kernel_rfl
end Go.Ev
