/- What is reckoned by the kernel: answers on plain values; alive. -/
import Derived.Test.YtiliabomdlhgoaaGreatDoorTab
set_option linter.unusedSectionVars false
set_option linter.unusedVariables false
namespace Go.Ev
theorem m205 : memoAll noSp tab 2000 205 mm205 = true := by kernel_rfl
theorem m157 : memoAll sp1 tab 2000 157 mm157 = true := by kernel_rfl
theorem m104 : memoAll sp2 tab 2000 104 mm104 = true := by kernel_rfl
theorem m62 : memoAll sp3 tab 2000 62 mm62 = true := by kernel_rfl
theorem m211 : memoAll sp3 tab 2000 211 mm211 = true := by kernel_rfl
end Go.Ev
namespace Go.Ev
theorem alive_is : memoAll spA tab 2000 5 [([], .bool true)] = true := by kernel_rfl
end Go.Ev
