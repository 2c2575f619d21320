/- What is reckoned by the kernel: the end of TopSum at 11. -/
import Derived.Test.YtokhodhhaenlfaaGreatDoorTab
namespace Go.Ev
theorem tail11 : okTail (path 2) (ev spB tab 2000 restX (tN 11) (.mk .leaf 0)) = true := by kernel_rfl
end Go.Ev
