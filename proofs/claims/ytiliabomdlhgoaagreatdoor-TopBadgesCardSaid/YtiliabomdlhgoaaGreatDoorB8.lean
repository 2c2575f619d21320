/- What is reckoned by the kernel: TopBadges with slot 8. -/
import Derived.Test.YtiliabomdlhgoaaGreatDoorBd
set_option linter.unusedSectionVars false
set_option linter.unusedVariables false
namespace Go.Ev
theorem fb8 : fB 8 = true := by kernel_rfl
end Go.Ev
