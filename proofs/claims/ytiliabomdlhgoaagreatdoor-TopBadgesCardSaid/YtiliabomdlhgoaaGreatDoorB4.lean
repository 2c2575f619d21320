/- What is reckoned by the kernel: TopBadges with slot 4. -/
import Derived.Test.YtiliabomdlhgoaaGreatDoorBd
set_option linter.unusedSectionVars false
set_option linter.unusedVariables false
namespace Go.Ev
theorem fb4 : fB 4 = true := by kernel_rfl
end Go.Ev
