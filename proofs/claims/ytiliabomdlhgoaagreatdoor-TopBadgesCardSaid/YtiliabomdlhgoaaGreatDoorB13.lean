/- What is reckoned by the kernel: TopBadges with slot 13. -/
import Derived.Test.YtiliabomdlhgoaaGreatDoorBd
set_option linter.unusedSectionVars false
set_option linter.unusedVariables false
namespace Go.Ev
theorem fb13 : fB 13 = true := by kernel_rfl
end Go.Ev
