/- What is reckoned by the kernel: answers on plain values and on known blocks. -/
import Derived.Test.YtokhodhhaenlfaaGreatDoorTab
namespace Go.Ev
theorem m205 : memoAll noSp tab 2000 205 mm205 = true := by kernel_rfl
end Go.Ev
namespace Go.Ev
theorem m158 : memoAll sp1 tab 2000 158 mm158 = true := by kernel_rfl
end Go.Ev
namespace Go.Ev
theorem m105 : memoAll sp2 tab 2000 105 mm105 = true := by kernel_rfl
end Go.Ev
namespace Go.Ev
theorem m63 : memoAll sp3 tab 2000 63 mm63 = true := by kernel_rfl
end Go.Ev
namespace Go.Ev
theorem m211 : memoAll sp3 tab 2000 211 mm211 = true := by kernel_rfl
end Go.Ev
namespace Go.Ev
theorem hi1_is : hmFact tab (plainC tab 3000) 3000 59 hi1 = true := by kernel_rfl
theorem hi2_is : hmFact tab (plainC tab 3000) 3000 59 hi2 = true := by kernel_rfl
theorem ack1_is : hmFact tab (plainC tab 3000) 3000 122 ack1 = true := by kernel_rfl
theorem ack2_is : hmFact tab (plainC tab 3000) 3000 122 ack2 = true := by kernel_rfl
end Go.Ev
