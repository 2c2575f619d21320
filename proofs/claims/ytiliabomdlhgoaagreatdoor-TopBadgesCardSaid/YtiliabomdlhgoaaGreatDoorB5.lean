/- What is reckoned by the kernel: TopBadges with slot 5. -/
import Derived.Test.YtiliabomdlhgoaaGreatDoorBd
set_option linter.unusedSectionVars false
set_option linter.unusedVariables false
namespace Go.Ev
theorem fb5 : fB 5 = true := by kernel_rfl
end Go.Ev
