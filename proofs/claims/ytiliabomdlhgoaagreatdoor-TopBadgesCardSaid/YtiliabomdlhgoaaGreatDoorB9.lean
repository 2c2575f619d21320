/- What is reckoned by the kernel: TopBadges with slot 9. -/
import Derived.Test.YtiliabomdlhgoaaGreatDoorBd
set_option linter.unusedSectionVars false
set_option linter.unusedVariables false
namespace Go.Ev
theorem fb9 : fB 9 = true := by kernel_rfl
end Go.Ev
