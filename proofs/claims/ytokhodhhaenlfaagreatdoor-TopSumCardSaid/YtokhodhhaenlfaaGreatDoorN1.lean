/- What is reckoned by the kernel: the ends of TopSum at 1 to 4. -/
import Derived.Test.YtokhodhhaenlfaaGreatDoorTab
namespace Go.Ev
theorem tail1 : okTail (path 2) (ev spB tab 2000 restX (tN 1) (.mk .leaf 0)) = true := by kernel_rfl
end Go.Ev
namespace Go.Ev
theorem tail2 : okTail (path 2) (ev spB tab 2000 restX (tN 2) (.mk .leaf 0)) = true := by kernel_rfl
end Go.Ev
namespace Go.Ev
theorem tail3 : okTail (path 2) (ev spB tab 2000 restX (tN 3) (.mk .leaf 0)) = true := by kernel_rfl
end Go.Ev
namespace Go.Ev
theorem tail4 : okTail (path 2) (ev spB tab 2000 restX (tN 4) (.mk .leaf 0)) = true := by kernel_rfl
end Go.Ev
