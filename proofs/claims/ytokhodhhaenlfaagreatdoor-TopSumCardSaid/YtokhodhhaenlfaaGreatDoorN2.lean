/- What is reckoned by the kernel: the ends of TopSum at 5 to 7. -/
import Derived.Test.YtokhodhhaenlfaaGreatDoorTab
namespace Go.Ev
theorem tail5 : okTail (path 2) (ev spB tab 2000 restX (tN 5) (.mk .leaf 0)) = true := by kernel_rfl
end Go.Ev
namespace Go.Ev
theorem tail6 : okTail (path 2) (ev spB tab 2000 restX (tN 6) (.mk .leaf 0)) = true := by kernel_rfl
end Go.Ev
namespace Go.Ev
theorem tail7 : okTail (path 2) (ev spB tab 2000 restX (tN 7) (.mk .leaf 0)) = true := by kernel_rfl
end Go.Ev
