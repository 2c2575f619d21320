/- What is reckoned by the kernel: answers on plain values and on known blocks. -/
import Derived.Test.YtiilignphmflfaaGreatDoorTab
set_option linter.unusedSectionVars false
set_option linter.unusedVariables false
namespace Go.Ev
theorem m254 : memoAll noSp tab 2000 254 mm254 = true := by kernel_rfl
end Go.Ev
namespace Go.Ev
theorem m183 : memoAll sp1 tab 2000 183 mm183 = true := by kernel_rfl
end Go.Ev
namespace Go.Ev
theorem m124 : memoAll sp2 tab 2000 124 mm124 = true := by kernel_rfl
end Go.Ev
namespace Go.Ev
theorem m70 : memoAll sp3 tab 2000 70 mm70 = true := by kernel_rfl
end Go.Ev
namespace Go.Ev
theorem m186 : memoAll sp3 tab 2000 186 mm186 = true := by kernel_rfl
end Go.Ev
namespace Go.Ev
noncomputable def allH (f : Nat) : List Hm → Bool
  | [] => true
  | m :: l => bc (hmFact tab (plainC tab 3000) 3000 f m) (allH f l) false
theorem hi_is : allH 66 hiL = true := by kernel_rfl
end Go.Ev
