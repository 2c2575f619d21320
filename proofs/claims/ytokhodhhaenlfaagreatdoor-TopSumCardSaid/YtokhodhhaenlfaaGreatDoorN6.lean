/- What is reckoned by the kernel: the end of TopSum at 12. -/
import Derived.Test.YtokhodhhaenlfaaGreatDoorTab
namespace Go.Ev
theorem tail12 : okTail (path 2) (ev spB tab 2000 restX (tN 12) (.mk .leaf 0)) = true := by kernel_rfl
end Go.Ev
