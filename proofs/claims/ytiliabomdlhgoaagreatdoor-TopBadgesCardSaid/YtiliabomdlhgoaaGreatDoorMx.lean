/- What is reckoned by the kernel: the text and the code of the sender; caps.Mint. -/
import Derived.Test.YtiliabomdlhgoaaGreatDoorBd
set_option linter.unusedSectionVars false
set_option linter.unusedVariables false
namespace Go.Ev
theorem fs1 : fS 1 = true := by kernel_rfl
theorem fs2 : fS 2 = true := by kernel_rfl
theorem min_0 : memoAll spA tab 3000 423 [(minL (i64 0), minV (i64 0))] = true := by kernel_rfl
theorem min_p : memoAll spA tab 3000 423 [(minL vWp, minV vWp)] = true := by kernel_rfl
end Go.Ev
