/- What is reckoned by the kernel: TopLines with line 3. -/
import Derived.Test.YtiilignphmflfaaGreatDoorTab
set_option linter.unusedSectionVars false
set_option linter.unusedVariables false
namespace Go.Ev
theorem f1_3 : f1 3 = true := by kernel_rfl
theorem f2_3 : f2 3 = true := by kernel_rfl
theorem f3_3 : f3 3 = true := by kernel_rfl
end Go.Ev
