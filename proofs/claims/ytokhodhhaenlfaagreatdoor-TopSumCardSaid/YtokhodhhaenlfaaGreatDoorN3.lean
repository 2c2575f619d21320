/- What is reckoned by the kernel: the ends of TopSum at 8 and 9. -/
import Derived.Test.YtokhodhhaenlfaaGreatDoorTab
namespace Go.Ev
theorem tail8 : okTail (path 2) (ev spB tab 2000 restX (tN 8) (.mk .leaf 0)) = true := by kernel_rfl
end Go.Ev
namespace Go.Ev
theorem tail9 : okTail (path 2) (ev spB tab 2000 restX (tN 9) (.mk .leaf 0)) = true := by kernel_rfl
end Go.Ev
