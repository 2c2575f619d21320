/- What is reckoned by the kernel: TopLines with line 2. -/
import Derived.Test.YtiilignphmflfaaGreatDoorTab
set_option linter.unusedSectionVars false
set_option linter.unusedVariables false
namespace Go.Ev
theorem f1_2 : f1 2 = true := by kernel_rfl
theorem f2_2 : f2 2 = true := by kernel_rfl
theorem f3_2 : f3 2 = true := by kernel_rfl
end Go.Ev
