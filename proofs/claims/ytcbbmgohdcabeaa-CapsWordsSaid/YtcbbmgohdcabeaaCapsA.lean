/- The contracts of caps.kindRights, caps.guarded, viceroyref11.guard, viceroyref11.may, with no condition. -/
import Derived.Test.YtcbbmgohdcabeaaRows
import Derived.WalkKit
import Derived.WalkSpells
import Derived.WalkLawsBesides
import Derived.Outline
import Derived.RegionTactic
import Derived.ChangeAlike
import Derived.Deep.RegionWith
namespace Go.Proofs.Ytcbbmgohdcabeaa
open Go.RowKit
set_option maxRecDepth 100000

def kr (k : Int) : Int := if k = 4 then 11 else if k = 5 then 3 else if k = 6 then 7 else 0
def gB (g b : Int) : Bool := decide (0 ≤ b ∧ b ≤ 16 ∧ 0 ≤ g ∧ g < 2 ^ b.toNat)
def rightB (k o r b ra g gb : Int) (d : Bool) : Bool :=
  decide ((k = 0 ∧ o = 0 ∧ r = 0 ∧ b = 0 ∧ ra = 0 ∧ g = 0 ∧ gb = 0 ∧ d = false) ∨
    (0 < k ∧ k ≤ 11 ∧ 0 ≤ o ∧ (k = 9 → o < 16) ∧ (k = 10 → o < 32) ∧ o < 1024 ∧ bits .andNot .i64 r (kr k) = 0 ∧
      (k = 4 ∨ k = 5 → 0 ≤ b ∧ b < 1048576) ∧ (¬ (k = 4 ∨ k = 5) → b = 0) ∧
      (k = 2 → 1 ≤ ra ∧ ra ≤ 4 ∧ gB g gb = true) ∧ (¬ k = 2 → ra = 0 ∧ g = 0 ∧ gb = 0) ∧ (k = 1 ∨ k = 6 ∨ d = false)))

theorem kr_any (k : Int) (w : World) :
    Calls Try.prog 37 #[.int .i64 k] w fun e w' => e = .returned (.int .i64 (kr k)) ∧ w = w' := by
  go_enter Try.func37, Try.ntmps37
  go_wp2
  all_goals
    go_ret
    refine ⟨?_, rfl⟩
    simp_all [kr]

theorem may_any (k : Int) (w : World) :
    Calls Try.prog 40 #[.int .i64 k] w fun e w' => e = .returned (.int .i64 (kr k)) ∧ w = w' := by
  go_enter Try.func40, Try.ntmps40
  go_wp2
  all_goals
    go_ret
    refine ⟨?_, rfl⟩
    simp_all [kr]

theorem wrap_pow (b : Int) (h : b ≤ 16) : wrap64 (2 ^ b.toNat) = 2 ^ b.toNat := by
  have h1 : b.toNat ≤ 16 := by omega
  have h2 : (2 : Nat) ^ b.toNat ≤ 2 ^ 16 := Nat.pow_le_pow_right (by decide) h1
  have h3 : ((2 : Int) ^ b.toNat) = ((2 ^ b.toNat : Nat) : Int) := by simp
  have h4 : (2 : Nat) ^ 16 = 65536 := by decide
  rw [h3]
  generalize 2 ^ b.toNat = m at *
  unfold wrap64
  omega

theorem gB_mk {g b : Int} {p : Bool} (h : p = decide (0 ≤ b ∧ b ≤ 16 ∧ 0 ≤ g ∧ g < 2 ^ b.toNat)) : Ending.returned (.bool p) = .returned (.bool (gB g b)) := by
  rw [h, gB]

theorem guarded_any (g b : Int) (w : World) :
    Calls Try.prog 38 #[.int .i64 g, .int .i64 b] w fun e w' => e = .returned (.bool (gB g b)) ∧ w = w' := by
  go_enter Try.func38, Try.ntmps38
  go_wp2
  all_goals
    go_ret
    refine ⟨gB_mk ?_, rfl⟩
    first
    | (rw [wrap_pow b (by assumption)]; simp [*]; done)
    | (symm; rw [decide_eq_false_iff_not]; omega)

theorem guard_any (g b : Int) (w : World) :
    Calls Try.prog 39 #[.int .i64 g, .int .i64 b] w fun e w' => e = .returned (.bool (gB g b)) ∧ w = w' := by
  go_enter Try.func39, Try.ntmps39
  go_wp2
  all_goals
    go_ret
    refine ⟨gB_mk ?_, rfl⟩
    first
    | (rw [wrap_pow b (by assumption)]; simp [*]; done)
    | (symm; rw [decide_eq_false_iff_not]; omega)

end Go.Proofs.Ytcbbmgohdcabeaa
