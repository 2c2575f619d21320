/- The contract of viceroyref11.Right (function 32): it answers rightB of the cap's fields, and makes new memory alone. Condition: Rights is a 64-bit number. -/
import Derived.Test.YtcbbmgohdcabeaaCapsQ0
import Derived.Test.YtcbbmgohdcabeaaCapsQ1
import Derived.Test.YtcbbmgohdcabeaaCapsQ2
import Derived.Test.YtcbbmgohdcabeaaCapsQ4
import Derived.Test.YtcbbmgohdcabeaaCapsQ5
import Derived.Test.YtcbbmgohdcabeaaCapsQ6
import Derived.Test.YtcbbmgohdcabeaaCapsQ9
import Derived.Test.YtcbbmgohdcabeaaCapsQ10
import Derived.Test.YtcbbmgohdcabeaaCapsQx
namespace Go.Proofs.Ytcbbmgohdcabeaa
open Go.RowKit
theorem rright_any (k o r b ra g gb : Int) (d : Bool) (w : World) (hr0 : -9223372036854775808 ≤ r) (hr1 : r ≤ 9223372036854775807) :
    Calls Try.prog 32 #[.agg #[.int .i64 k, .int .i64 o, .int .i64 r, .int .i64 b, .int .i64 ra, .int .i64 g, .int .i64 gb, .bool d]] w fun e w' =>
      e = .returned (.bool (rightB k o r b ra g gb d)) ∧ Below w.heap.size w w' := by
  by_cases h0 : k = 0
  · subst h0; exact rright_0 o r b ra g gb d w hr0 hr1
  by_cases h1 : k = 1
  · subst h1; exact rright_1 o r b ra g gb d w hr0 hr1
  by_cases h2 : k = 2
  · subst h2; exact rright_2 o r b ra g gb d w hr0 hr1
  by_cases h4 : k = 4
  · subst h4; exact rright_4 o r b ra g gb d w hr0 hr1
  by_cases h5 : k = 5
  · subst h5; exact rright_5 o r b ra g gb d w hr0 hr1
  by_cases h6 : k = 6
  · subst h6; exact rright_6 o r b ra g gb d w hr0 hr1
  by_cases h9 : k = 9
  · subst h9; exact rright_9 o r b ra g gb d w hr0 hr1
  by_cases h10 : k = 10
  · subst h10; exact rright_10 o r b ra g gb d w hr0 hr1
  exact rright_x k o r b ra g gb d w hr0 hr1 (by simp [h0]) (by simp [h1]) (by simp [h2]) (by simp [h4]) (by simp [h5]) (by simp [h6]) (by simp [h9]) (by simp [h10])
end Go.Proofs.Ytcbbmgohdcabeaa
