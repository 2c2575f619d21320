/- What is reckoned by the kernel: TopBadges with slot 0. -/
import Derived.Test.YtiliabomdlhgoaaGreatDoorBd
set_option linter.unusedSectionVars false
set_option linter.unusedVariables false
namespace Go.Ev
theorem fb0 : fB 0 = true := by kernel_rfl
end Go.Ev
