/- What is reckoned by the kernel: TopBadges with slot 11. -/
import Derived.Test.YtiliabomdlhgoaaGreatDoorBd
set_option linter.unusedSectionVars false
set_option linter.unusedVariables false
namespace Go.Ev
theorem fb11 : fB 11 = true := by kernel_rfl
end Go.Ev
