/- The contract of caps.Right (function 31): it answers rightB of the cap's fields, and makes new memory alone. Condition: the kind is none of 0, 1, 2, 4, 5, 6, 9, 10. -/
import Derived.Test.YtcbbmgohdcabeaaCapsA
import Derived.Deep.Light
namespace Go.Proofs.Ytcbbmgohdcabeaa
open Go.RowKit
set_option maxRecDepth 100000

set_option maxHeartbeats 4000000 in
theorem right_x (k o r b ra g gb : Int) (d : Bool) (w : World) (h0 : (k == 0) = false) (h1 : (k == 1) = false) (h2 : (k == 2) = false) (h4 : (k == 4) = false) (h5 : (k == 5) = false) (h6 : (k == 6) = false) (h9 : (k == 9) = false) (h10 : (k == 10) = false) :
    Calls Try.prog 31 #[.agg #[.int .i64 k, .int .i64 o, .int .i64 r, .int .i64 b, .int .i64 ra, .int .i64 g, .int .i64 gb, .bool d]] w fun e w' =>
      e = .returned (.bool (rightB k o r b ra g gb d)) ∧ Below w.heap.size w w' := by
  go_enter Try.func31, Try.ntmps31
  go_wp2
  go_region
  all_goals (go_wp2_with (go_at_call 38; refine (guarded_any _ _ _).mono ?_; rintro e w' ⟨rfl, rfl⟩))
  all_goals (try go_region_with ((go_at_call 37; refine (kr_any _ _).mono ?_; rintro e w' ⟨rfl, rfl⟩)))
  all_goals (try go_wp2)
  all_goals
    go_ret
    go_light
    refine ⟨congrArg (fun x => Ending.returned (Value.bool x)) ?_, ?_⟩
    · symm
      first
      | (simp_all [rightB]; done)
      | (simp [rightB]; intros; omega)
      | (simp [rightB, *]; intros; omega)
      | (simp_all [rightB]; omega)
      | (simp_all [rightB] <;> intros <;> simp_all <;> omega)
    · repeat (first | (with_reducible exact Below.refl _ _) | (with_reducible refine Below.drew ?_) | (with_reducible refine Below.setCell ?_ (by first | (simp; done) | (simp; omega)) _) | (with_reducible refine Below.alloc ?_ (by first | (simp; done) | (simp; omega)) _))

end Go.Proofs.Ytcbbmgohdcabeaa
