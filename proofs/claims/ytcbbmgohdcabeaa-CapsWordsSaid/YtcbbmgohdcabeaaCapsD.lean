/- The contracts of Mask, Derive and Same of caps and of its reference: both of a pair answer the same plain functions, and make the same new memory; no condition. -/
import Derived.Test.YtcbbmgohdcabeaaCapsA
import Derived.Deep.Light
import Derived.WalkSmall
namespace Go.Proofs.Ytcbbmgohdcabeaa
open Go.RowKit
set_option maxRecDepth 100000

/-- Derive's error. -/
def derE (k : Int) : Int := if k = 0 then 131 else if k = 1 ∨ k = 7 ∨ k = 9 ∨ k = 11 then 110 else 0
/-- A field of what Derive answers. -/
def dz (k x : Int) : Int := if derE k = 0 then x else 0
def dzb (k : Int) (d : Bool) : Bool := if derE k = 0 then d else false
/-- The rights that Mask leaves. -/
def mR (k r m : Int) : Int := if k = 4 ∨ k = 5 ∨ k = 6 then bits .and .i64 r m else r
def sameB (k o k' o' : Int) : Bool := decide (k ≠ 0 ∧ k = k' ∧ o = o')

set_option maxHeartbeats 1000000 in
theorem derive_any (k o r b ra g gb : Int) (d : Bool) (w : World) :
    Calls Try.prog 13 #[.agg #[.int .i64 k, .int .i64 o, .int .i64 r, .int .i64 b, .int .i64 ra, .int .i64 g, .int .i64 gb, .bool d]] w fun e w' =>
      e = .returned (.tuple #[.agg #[.int .i64 (dz k k), .int .i64 (dz k o), .int .i64 (dz k r), .int .i64 (dz k b), .int .i64 (dz k ra), .int .i64 (dz k g), .int .i64 (dz k gb), .bool (dzb k d)], .int .i64 (derE k)]) ∧ w' = (w.alloc (.cells #[.int .i64 k, .int .i64 o, .int .i64 r, .int .i64 b, .int .i64 ra, .int .i64 g, .int .i64 gb, .bool d] 23)).alloc (.cells #[.int .i64 (dz k k), .int .i64 (dz k o), .int .i64 (dz k r), .int .i64 (dz k b), .int .i64 (dz k ra), .int .i64 (dz k g), .int .i64 (dz k gb), .bool (dzb k d)] 23) := by
  go_enter Try.func13, Try.ntmps13
  go_wp2
  all_goals
    have hz : derE k = 131 ∨ derE k = 110 ∨ derE k = 0 := by unfold derE; repeat' split <;> omega
    rcases hz with hz | hz | hz
  all_goals first
    | (exfalso; go_light; simp_all [derE]; done)
    | (refine bodyPost_ret (v := .tuple #[.agg #[.int .i64 (dz k k), .int .i64 (dz k o), .int .i64 (dz k r), .int .i64 (dz k b), .int .i64 (dz k ra), .int .i64 (dz k g), .int .i64 (dz k gb), .bool (dzb k d)], .int .i64 (derE k)]) (by simp [results, Try.results13, go_sem, dz, dzb, hz]) rfl ⟨rfl, ?_⟩
       go_light
       simp only [dz, dzb, hz]; first | rfl | (subst_vars; rfl))

set_option maxHeartbeats 1000000 in
theorem rderive_any (k o r b ra g gb : Int) (d : Bool) (w : World) :
    Calls Try.prog 27 #[.agg #[.int .i64 k, .int .i64 o, .int .i64 r, .int .i64 b, .int .i64 ra, .int .i64 g, .int .i64 gb, .bool d]] w fun e w' =>
      e = .returned (.tuple #[.agg #[.int .i64 (dz k k), .int .i64 (dz k o), .int .i64 (dz k r), .int .i64 (dz k b), .int .i64 (dz k ra), .int .i64 (dz k g), .int .i64 (dz k gb), .bool (dzb k d)], .int .i64 (derE k)]) ∧ w' = (w.alloc (.cells #[.int .i64 k, .int .i64 o, .int .i64 r, .int .i64 b, .int .i64 ra, .int .i64 g, .int .i64 gb, .bool d] 23)).alloc (.cells #[.int .i64 (dz k k), .int .i64 (dz k o), .int .i64 (dz k r), .int .i64 (dz k b), .int .i64 (dz k ra), .int .i64 (dz k g), .int .i64 (dz k gb), .bool (dzb k d)] 23) := by
  go_enter Try.func27, Try.ntmps27
  go_wp2
  all_goals
    have hz : derE k = 131 ∨ derE k = 110 ∨ derE k = 0 := by unfold derE; repeat' split <;> omega
    rcases hz with hz | hz | hz
  all_goals first
    | (exfalso; go_light; simp_all [derE]; done)
    | (refine bodyPost_ret (v := .tuple #[.agg #[.int .i64 (dz k k), .int .i64 (dz k o), .int .i64 (dz k r), .int .i64 (dz k b), .int .i64 (dz k ra), .int .i64 (dz k g), .int .i64 (dz k gb), .bool (dzb k d)], .int .i64 (derE k)]) (by simp [results, Try.results27, go_sem, dz, dzb, hz]) rfl ⟨rfl, ?_⟩
       go_light
       simp only [dz, dzb, hz]; first | rfl | (subst_vars; rfl))

set_option maxHeartbeats 1000000 in
theorem mask_any (k o r b ra g gb : Int) (d : Bool) (m : Int) (w : World) :
    Calls Try.prog 11 #[.agg #[.int .i64 k, .int .i64 o, .int .i64 r, .int .i64 b, .int .i64 ra, .int .i64 g, .int .i64 gb, .bool d], .int .i64 m] w fun e w' =>
      e = .returned (.agg #[.int .i64 k, .int .i64 o, .int .i64 (mR k r m), .int .i64 b, .int .i64 ra, .int .i64 g, .int .i64 gb, .bool d]) ∧ w' = (w.alloc (.cells #[.int .i64 k, .int .i64 o, .int .i64 (mR k r m), .int .i64 b, .int .i64 ra, .int .i64 g, .int .i64 gb, .bool d] 23)).alloc (.cells #[.int .i64 k, .int .i64 o, .int .i64 (mR k r m), .int .i64 b, .int .i64 ra, .int .i64 g, .int .i64 gb, .bool d] 23) := by
  by_cases hk : k = 4 ∨ k = 5 ∨ k = 6
  · rcases hk with rfl | rfl | rfl
    · go_enter Try.func11, Try.ntmps11
      go_wp2
      exact bodyPost_ret (v := .agg #[.int .i64 4, .int .i64 o, .int .i64 (mR 4 r m), .int .i64 b, .int .i64 ra, .int .i64 g, .int .i64 gb, .bool d]) (by simp [results, Try.results11, go_sem, mR]) rfl ⟨rfl, by simp [mR]⟩
    · go_enter Try.func11, Try.ntmps11
      go_wp2
      exact bodyPost_ret (v := .agg #[.int .i64 5, .int .i64 o, .int .i64 (mR 5 r m), .int .i64 b, .int .i64 ra, .int .i64 g, .int .i64 gb, .bool d]) (by simp [results, Try.results11, go_sem, mR]) rfl ⟨rfl, by simp [mR]⟩
    · go_enter Try.func11, Try.ntmps11
      go_wp2
      exact bodyPost_ret (v := .agg #[.int .i64 6, .int .i64 o, .int .i64 (mR 6 r m), .int .i64 b, .int .i64 ra, .int .i64 g, .int .i64 gb, .bool d]) (by simp [results, Try.results11, go_sem, mR]) rfl ⟨rfl, by simp [mR]⟩
  · have hr : mR k r m = r := by simp [mR, hk]
    have h4 : (k == 4) = false := by simp; omega
    have h5 : (k == 5) = false := by simp; omega
    have h6 : (k == 6) = false := by simp; omega
    clear hk
    go_enter Try.func11, Try.ntmps11
    go_wp2
    exact bodyPost_ret (v := .agg #[.int .i64 k, .int .i64 o, .int .i64 (mR k r m), .int .i64 b, .int .i64 ra, .int .i64 g, .int .i64 gb, .bool d]) (by simp [results, Try.results11, go_sem, hr]) rfl ⟨rfl, by rw [hr]⟩

set_option maxHeartbeats 1000000 in
theorem rmask_any (k o r b ra g gb : Int) (d : Bool) (m : Int) (w : World) :
    Calls Try.prog 26 #[.agg #[.int .i64 k, .int .i64 o, .int .i64 r, .int .i64 b, .int .i64 ra, .int .i64 g, .int .i64 gb, .bool d], .int .i64 m] w fun e w' =>
      e = .returned (.agg #[.int .i64 k, .int .i64 o, .int .i64 (mR k r m), .int .i64 b, .int .i64 ra, .int .i64 g, .int .i64 gb, .bool d]) ∧ w' = (w.alloc (.cells #[.int .i64 k, .int .i64 o, .int .i64 (mR k r m), .int .i64 b, .int .i64 ra, .int .i64 g, .int .i64 gb, .bool d] 23)).alloc (.cells #[.int .i64 k, .int .i64 o, .int .i64 (mR k r m), .int .i64 b, .int .i64 ra, .int .i64 g, .int .i64 gb, .bool d] 23) := by
  by_cases hk : k = 4 ∨ k = 5 ∨ k = 6
  · rcases hk with rfl | rfl | rfl
    · go_enter Try.func26, Try.ntmps26
      go_wp2
      exact bodyPost_ret (v := .agg #[.int .i64 4, .int .i64 o, .int .i64 (mR 4 r m), .int .i64 b, .int .i64 ra, .int .i64 g, .int .i64 gb, .bool d]) (by simp [results, Try.results26, go_sem, mR]) rfl ⟨rfl, by simp [mR]⟩
    · go_enter Try.func26, Try.ntmps26
      go_wp2
      exact bodyPost_ret (v := .agg #[.int .i64 5, .int .i64 o, .int .i64 (mR 5 r m), .int .i64 b, .int .i64 ra, .int .i64 g, .int .i64 gb, .bool d]) (by simp [results, Try.results26, go_sem, mR]) rfl ⟨rfl, by simp [mR]⟩
    · go_enter Try.func26, Try.ntmps26
      go_wp2
      exact bodyPost_ret (v := .agg #[.int .i64 6, .int .i64 o, .int .i64 (mR 6 r m), .int .i64 b, .int .i64 ra, .int .i64 g, .int .i64 gb, .bool d]) (by simp [results, Try.results26, go_sem, mR]) rfl ⟨rfl, by simp [mR]⟩
  · have hr : mR k r m = r := by simp [mR, hk]
    have h4 : (k == 4) = false := by simp; omega
    have h5 : (k == 5) = false := by simp; omega
    have h6 : (k == 6) = false := by simp; omega
    clear hk
    go_enter Try.func26, Try.ntmps26
    go_wp2
    exact bodyPost_ret (v := .agg #[.int .i64 k, .int .i64 o, .int .i64 (mR k r m), .int .i64 b, .int .i64 ra, .int .i64 g, .int .i64 gb, .bool d]) (by simp [results, Try.results26, go_sem, hr]) rfl ⟨rfl, by rw [hr]⟩

set_option maxHeartbeats 1000000 in
theorem same_any (k o r b ra g gb k' o' r' b' ra' g' gb' : Int) (d d' : Bool) (w : World) :
    Calls Try.prog 29 #[.agg #[.int .i64 k, .int .i64 o, .int .i64 r, .int .i64 b, .int .i64 ra, .int .i64 g, .int .i64 gb, .bool d], .agg #[.int .i64 k', .int .i64 o', .int .i64 r', .int .i64 b', .int .i64 ra', .int .i64 g', .int .i64 gb', .bool d']] w fun e w' =>
      e = .returned (.bool (sameB k o k' o')) ∧ w' = (w.alloc (.cells #[.int .i64 k, .int .i64 o, .int .i64 r, .int .i64 b, .int .i64 ra, .int .i64 g, .int .i64 gb, .bool d] 23)).alloc (.cells #[.int .i64 k', .int .i64 o', .int .i64 r', .int .i64 b', .int .i64 ra', .int .i64 g', .int .i64 gb', .bool d'] 23) := by
  go_enter Try.func29, Try.ntmps29
  go_wp2
  all_goals
    go_ret
    go_light
    refine ⟨congrArg (fun x => Ending.returned (Value.bool x)) ?_, by first | rfl | simp_all⟩
    first | (simp_all [sameB]; done) | (simp_all [sameB]; rw [Bool.eq_iff_iff]; simp [*])

set_option maxHeartbeats 1000000 in
theorem rsame_any (k o r b ra g gb k' o' r' b' ra' g' gb' : Int) (d d' : Bool) (w : World) :
    Calls Try.prog 30 #[.agg #[.int .i64 k, .int .i64 o, .int .i64 r, .int .i64 b, .int .i64 ra, .int .i64 g, .int .i64 gb, .bool d], .agg #[.int .i64 k', .int .i64 o', .int .i64 r', .int .i64 b', .int .i64 ra', .int .i64 g', .int .i64 gb', .bool d']] w fun e w' =>
      e = .returned (.bool (sameB k o k' o')) ∧ w' = (w.alloc (.cells #[.int .i64 k, .int .i64 o, .int .i64 r, .int .i64 b, .int .i64 ra, .int .i64 g, .int .i64 gb, .bool d] 23)).alloc (.cells #[.int .i64 k', .int .i64 o', .int .i64 r', .int .i64 b', .int .i64 ra', .int .i64 g', .int .i64 gb', .bool d'] 23) := by
  go_enter Try.func30, Try.ntmps30
  go_wp2
  all_goals
    go_ret
    go_light
    refine ⟨congrArg (fun x => Ending.returned (Value.bool x)) ?_, by first | rfl | simp_all⟩
    first | (simp_all [sameB]; done) | (simp_all [sameB]; rw [Bool.eq_iff_iff]; simp [*])
end Go.Proofs.Ytcbbmgohdcabeaa
