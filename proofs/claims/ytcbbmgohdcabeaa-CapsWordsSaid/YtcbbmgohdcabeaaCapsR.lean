/- The contract of caps.Right (function 31): it answers rightB of the cap's fields, and makes new memory alone; no condition. -/
import Derived.Test.YtcbbmgohdcabeaaCapsR0
import Derived.Test.YtcbbmgohdcabeaaCapsR1
import Derived.Test.YtcbbmgohdcabeaaCapsR2
import Derived.Test.YtcbbmgohdcabeaaCapsR4
import Derived.Test.YtcbbmgohdcabeaaCapsR5
import Derived.Test.YtcbbmgohdcabeaaCapsR6
import Derived.Test.YtcbbmgohdcabeaaCapsR9
import Derived.Test.YtcbbmgohdcabeaaCapsR10
import Derived.Test.YtcbbmgohdcabeaaCapsRx
namespace Go.Proofs.Ytcbbmgohdcabeaa
open Go.RowKit
theorem right_any (k o r b ra g gb : Int) (d : Bool) (w : World) :
    Calls Try.prog 31 #[.agg #[.int .i64 k, .int .i64 o, .int .i64 r, .int .i64 b, .int .i64 ra, .int .i64 g, .int .i64 gb, .bool d]] w fun e w' =>
      e = .returned (.bool (rightB k o r b ra g gb d)) ∧ Below w.heap.size w w' := by
  by_cases h0 : k = 0
  · subst h0; exact right_0 o r b ra g gb d w
  by_cases h1 : k = 1
  · subst h1; exact right_1 o r b ra g gb d w
  by_cases h2 : k = 2
  · subst h2; exact right_2 o r b ra g gb d w
  by_cases h4 : k = 4
  · subst h4; exact right_4 o r b ra g gb d w
  by_cases h5 : k = 5
  · subst h5; exact right_5 o r b ra g gb d w
  by_cases h6 : k = 6
  · subst h6; exact right_6 o r b ra g gb d w
  by_cases h9 : k = 9
  · subst h9; exact right_9 o r b ra g gb d w
  by_cases h10 : k = 10
  · subst h10; exact right_10 o r b ra g gb d w
  exact right_x k o r b ra g gb d w (by simp [h0]) (by simp [h1]) (by simp [h2]) (by simp [h4]) (by simp [h5]) (by simp [h6]) (by simp [h9]) (by simp [h10])
end Go.Proofs.Ytcbbmgohdcabeaa
