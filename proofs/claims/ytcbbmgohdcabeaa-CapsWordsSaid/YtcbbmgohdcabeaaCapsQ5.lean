/- The contract of viceroyref11.Right (function 32): it answers rightB of the cap's fields, and makes new memory alone. Conditions: the kind is 5, and Rights is a 64-bit number. -/
import Derived.Test.YtcbbmgohdcabeaaCapsM
import Derived.Deep.Light
import Derived.Deep.QuietTactic
import Derived.BigQuiet
namespace Go.Proofs.Ytcbbmgohdcabeaa
open Go.RowKit
set_option maxRecDepth 100000

set_option maxHeartbeats 8000000 in
theorem rright_5 (o r b ra g gb : Int) (d : Bool) (w : World) (hr0 : -9223372036854775808 ≤ r) (hr1 : r ≤ 9223372036854775807) :
    Calls Try.prog 32 #[.agg #[.int .i64 5, .int .i64 o, .int .i64 r, .int .i64 b, .int .i64 ra, .int .i64 g, .int .i64 gb, .bool d]] w fun e w' =>
      e = .returned (.bool (rightB 5 o r b ra g gb d)) ∧ Below w.heap.size w w' := by
  have hk : kr 5 = 3 := by first | rfl | (simp_all [kr])
  have hmay : ∀ w : World, Calls Try.prog 40 #[.int .i64 5] w fun e w' => e = .returned (.int .i64 3) ∧ w = w' := fun w => by
    have h := may_any 5 w
    rw [hk] at h
    exact h
  by_cases hA : bits .andNot .i64 r 3 = 0
  · obtain ⟨a0, a1, a2⟩ := rights_in r 3 (by decide) (by decide) hr0 hr1 hA
    clear hr0 hr1
    have hn : decide (r < 0) = false := by simpa using a0
    go_enter Try.func32, Try.ntmps32
    go_wp2
    all_goals (try (go_quiet ((go_at_call 40; exact (hmay _).mono (fun e w' h => ⟨h.1, ⟨_, h.2.symm⟩⟩))); go_wp2_with (go_at_call 39; refine (guard_any _ _ _).mono ?_; rintro e w' ⟨rfl, rfl⟩)))
    all_goals
      go_ret
      go_light
      refine ⟨congrArg (fun x => Ending.returned (Value.bool x)) ?_, ?_⟩
      · symm
        first
        | (simp_all [rightB]; done)
        | (simp [rightB]; intros; omega)
        | (simp [rightB, *]; intros; omega)
        | (simp_all [rightB]; omega)
        | (simp_all [rightB] <;> intros <;> simp_all <;> omega)
        | (by_cases hg : gb = 0 <;> simp_all [rightB]; done)
        | (by_cases hg : gb = 0 <;> simp_all [rightB] <;> omega)
      · repeat (first | (with_reducible exact Below.refl _ _) | (with_reducible refine Below.drew ?_) | (refine below_drewN ?_ _) | (with_reducible refine Below.setCell ?_ (by first | (simp; done) | (simp; omega)) _) | (with_reducible refine Below.alloc ?_ (by first | (simp; done) | (simp; omega)) _))
  · have a2 : ¬ bits .and .i64 r 3 = r := fun h => hA (rights_of r 3 h)
    clear hr0 hr1
    have a3 : (bits .and .i64 r 3 != r) = true := by simpa using a2
    have a4 : ¬ r = 0 := by
      intro h0
      subst h0
      exact a2 (by decide)
    by_cases hn0 : r < 0
    · have hn : decide (r < 0) = true := by simpa using hn0
      go_enter Try.func32, Try.ntmps32
      go_wp2
      all_goals (try (go_quiet ((go_at_call 40; exact (hmay _).mono (fun e w' h => ⟨h.1, ⟨_, h.2.symm⟩⟩))); go_wp2_with (go_at_call 39; refine (guard_any _ _ _).mono ?_; rintro e w' ⟨rfl, rfl⟩)))
      all_goals
        go_ret
        go_light
        refine ⟨congrArg (fun x => Ending.returned (Value.bool x)) ?_, ?_⟩
        · symm
          first
          | (simp_all [rightB]; done)
          | (simp [rightB]; intros; omega)
          | (simp [rightB, *]; intros; omega)
          | (simp_all [rightB]; omega)
          | (simp_all [rightB] <;> intros <;> simp_all <;> omega)
          | (by_cases hg : gb = 0 <;> simp_all [rightB]; done)
          | (by_cases hg : gb = 0 <;> simp_all [rightB] <;> omega)
        · repeat (first | (with_reducible exact Below.refl _ _) | (with_reducible refine Below.drew ?_) | (refine below_drewN ?_ _) | (with_reducible refine Below.setCell ?_ (by first | (simp; done) | (simp; omega)) _) | (with_reducible refine Below.alloc ?_ (by first | (simp; done) | (simp; omega)) _))
    · have hn : decide (r < 0) = false := by simpa using hn0
      go_enter Try.func32, Try.ntmps32
      go_wp2
      all_goals (try (go_quiet ((go_at_call 40; exact (hmay _).mono (fun e w' h => ⟨h.1, ⟨_, h.2.symm⟩⟩))); go_wp2_with (go_at_call 39; refine (guard_any _ _ _).mono ?_; rintro e w' ⟨rfl, rfl⟩)))
      all_goals
        go_ret
        go_light
        refine ⟨congrArg (fun x => Ending.returned (Value.bool x)) ?_, ?_⟩
        · symm
          first
          | (simp_all [rightB]; done)
          | (simp [rightB]; intros; omega)
          | (simp [rightB, *]; intros; omega)
          | (simp_all [rightB]; omega)
          | (simp_all [rightB] <;> intros <;> simp_all <;> omega)
          | (by_cases hg : gb = 0 <;> simp_all [rightB]; done)
          | (by_cases hg : gb = 0 <;> simp_all [rightB] <;> omega)
        · repeat (first | (with_reducible exact Below.refl _ _) | (with_reducible refine Below.drew ?_) | (refine below_drewN ?_ _) | (with_reducible refine Below.setCell ?_ (by first | (simp; done) | (simp; omega)) _) | (with_reducible refine Below.alloc ?_ (by first | (simp; done) | (simp; omega)) _))

end Go.Proofs.Ytcbbmgohdcabeaa
