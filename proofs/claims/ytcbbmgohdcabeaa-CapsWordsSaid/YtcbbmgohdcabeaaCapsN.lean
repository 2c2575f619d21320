/- The contracts of Mint of caps and of its reference: both answer the same plain functions, and make new memory alone; no condition. -/
import Derived.Test.YtcbbmgohdcabeaaCapsD
namespace Go.Proofs.Ytcbbmgohdcabeaa
open Go.RowKit
set_option maxRecDepth 100000

/-- Mint's error. -/
def mintE (k b bd G B : Int) : Int :=
  if derE k ≠ 0 then derE k
  else if (k = 4 ∨ k = 5) ∧ bd ≠ 0 then (if b ≠ 0 then 110 else if bd < 0 ∨ 1048576 ≤ bd then 1 else 0)
  else if k = 2 then (if gB G B = true then 0 else 1) else 0
def mz (e x : Int) : Int := if e = 0 then x else 0
def mzb (e : Int) (d : Bool) : Bool := if e = 0 then d else false
/-- The badge, and a guard's number, of what Mint answers. -/
def mB (k b bd : Int) : Int := if (k = 4 ∨ k = 5) ∧ bd ≠ 0 then bd else b
def mG (k g G : Int) : Int := if k = 2 then G else g
theorem derE_not {k : Int} (h : derE k = 0) : k ≠ 0 ∧ k ≠ 1 ∧ k ≠ 7 ∧ k ≠ 9 ∧ k ≠ 11 := by
  unfold derE at h; repeat' split at h
  all_goals omega

set_option maxHeartbeats 1000000 in
theorem mint_err (k o r b ra g gb : Int) (d : Bool) (m bd G B : Int) (w : World) (hd : derE k ≠ 0) :
    Calls Try.prog 12 #[.agg #[.int .i64 k, .int .i64 o, .int .i64 r, .int .i64 b, .int .i64 ra, .int .i64 g, .int .i64 gb, .bool d], .int .i64 m, .int .i64 bd, .int .i64 G, .int .i64 B] w fun e w' =>
      e = .returned (.tuple #[.agg #[.int .i64 (mz (mintE k b bd G B) k), .int .i64 (mz (mintE k b bd G B) o), .int .i64 (mz (mintE k b bd G B) (mR k r m)), .int .i64 (mz (mintE k b bd G B) (mB k b bd)), .int .i64 (mz (mintE k b bd G B) ra), .int .i64 (mz (mintE k b bd G B) (mG k g G)), .int .i64 (mz (mintE k b bd G B) (mG k gb B)), .bool (mzb (mintE k b bd G B) d)], .int .i64 (mintE k b bd G B)]) ∧ Below w.heap.size w w' := by
  have he : mintE k b bd G B = derE k := by simp [mintE, hd]
  have hn : (derE k != 0) = true := by simp [hd]
  go_enter Try.func12, Try.ntmps12
  go_wp2_with (go_at_call 13; refine (derive_any _ _ _ _ _ _ _ _ _).mono ?_; rintro e w1 ⟨rfl, rfl⟩)
  refine bodyPost_ret (v := .tuple #[.agg #[.int .i64 (mz (mintE k b bd G B) k), .int .i64 (mz (mintE k b bd G B) o), .int .i64 (mz (mintE k b bd G B) (mR k r m)), .int .i64 (mz (mintE k b bd G B) (mB k b bd)), .int .i64 (mz (mintE k b bd G B) ra), .int .i64 (mz (mintE k b bd G B) (mG k g G)), .int .i64 (mz (mintE k b bd G B) (mG k gb B)), .bool (mzb (mintE k b bd G B) d)], .int .i64 (mintE k b bd G B)]) (by simp [results, Try.results12, go_sem, mz, mzb, he, hd]) rfl ⟨rfl, ?_⟩
  go_light
  repeat (first | (with_reducible exact Below.refl _ _) | (with_reducible refine Below.drew ?_) | (with_reducible refine Below.setCell ?_ (by first | (simp; done) | (simp; omega)) _) | (with_reducible refine Below.alloc ?_ (by first | (simp; done) | (simp; omega)) _))

set_option maxHeartbeats 1000000 in
theorem mint_2 (o r b ra g gb : Int) (d : Bool) (m bd G B : Int) (w : World) :
    Calls Try.prog 12 #[.agg #[.int .i64 2, .int .i64 o, .int .i64 r, .int .i64 b, .int .i64 ra, .int .i64 g, .int .i64 gb, .bool d], .int .i64 m, .int .i64 bd, .int .i64 G, .int .i64 B] w fun e w' =>
      e = .returned (.tuple #[.agg #[.int .i64 (mz (mintE 2 b bd G B) 2), .int .i64 (mz (mintE 2 b bd G B) o), .int .i64 (mz (mintE 2 b bd G B) (mR 2 r m)), .int .i64 (mz (mintE 2 b bd G B) (mB 2 b bd)), .int .i64 (mz (mintE 2 b bd G B) ra), .int .i64 (mz (mintE 2 b bd G B) (mG 2 g G)), .int .i64 (mz (mintE 2 b bd G B) (mG 2 gb B)), .bool (mzb (mintE 2 b bd G B) d)], .int .i64 (mintE 2 b bd G B)]) ∧ Below w.heap.size w w' := by
  have hd : derE 2 = 0 := by decide
  go_enter Try.func12, Try.ntmps12
  go_wp2_with (first | (go_at_call 13; refine (derive_any _ _ _ _ _ _ _ _ _).mono ?_; rintro e w1 ⟨rfl, rfl⟩; simp only [dz, dzb, hd, if_true]) | (go_at_call 11; refine (mask_any _ _ _ _ _ _ _ _ _ _).mono ?_; rintro e w2 ⟨rfl, rfl⟩) | (go_at_call 38; refine (guarded_any _ _ _).mono ?_; rintro e w3 ⟨rfl, rfl⟩))
  all_goals
    refine bodyPost_ret (v := .tuple #[.agg #[.int .i64 (mz (mintE 2 b bd G B) 2), .int .i64 (mz (mintE 2 b bd G B) o), .int .i64 (mz (mintE 2 b bd G B) (mR 2 r m)), .int .i64 (mz (mintE 2 b bd G B) (mB 2 b bd)), .int .i64 (mz (mintE 2 b bd G B) ra), .int .i64 (mz (mintE 2 b bd G B) (mG 2 g G)), .int .i64 (mz (mintE 2 b bd G B) (mG 2 gb B)), .bool (mzb (mintE 2 b bd G B) d)], .int .i64 (mintE 2 b bd G B)]) (by simp_all [results, Try.results12, go_sem, mz, mzb, mintE, mB, mG, derE]) rfl ⟨rfl, ?_⟩
    go_light
    repeat (first | (with_reducible exact Below.refl _ _) | (with_reducible refine Below.drew ?_) | (with_reducible refine Below.setCell ?_ (by first | (simp; done) | (simp; omega)) _) | (with_reducible refine Below.alloc ?_ (by first | (simp; done) | (simp; omega)) _))

set_option maxHeartbeats 1000000 in
theorem mint_4 (o r b ra g gb : Int) (d : Bool) (m bd G B : Int) (w : World) :
    Calls Try.prog 12 #[.agg #[.int .i64 4, .int .i64 o, .int .i64 r, .int .i64 b, .int .i64 ra, .int .i64 g, .int .i64 gb, .bool d], .int .i64 m, .int .i64 bd, .int .i64 G, .int .i64 B] w fun e w' =>
      e = .returned (.tuple #[.agg #[.int .i64 (mz (mintE 4 b bd G B) 4), .int .i64 (mz (mintE 4 b bd G B) o), .int .i64 (mz (mintE 4 b bd G B) (mR 4 r m)), .int .i64 (mz (mintE 4 b bd G B) (mB 4 b bd)), .int .i64 (mz (mintE 4 b bd G B) ra), .int .i64 (mz (mintE 4 b bd G B) (mG 4 g G)), .int .i64 (mz (mintE 4 b bd G B) (mG 4 gb B)), .bool (mzb (mintE 4 b bd G B) d)], .int .i64 (mintE 4 b bd G B)]) ∧ Below w.heap.size w w' := by
  have hd : derE 4 = 0 := by decide
  go_enter Try.func12, Try.ntmps12
  go_wp2_with (first | (go_at_call 13; refine (derive_any _ _ _ _ _ _ _ _ _).mono ?_; rintro e w1 ⟨rfl, rfl⟩; simp only [dz, dzb, hd, if_true]) | (go_at_call 11; refine (mask_any _ _ _ _ _ _ _ _ _ _).mono ?_; rintro e w2 ⟨rfl, rfl⟩) | (go_at_call 38; refine (guarded_any _ _ _).mono ?_; rintro e w3 ⟨rfl, rfl⟩))
  all_goals
    refine bodyPost_ret (v := .tuple #[.agg #[.int .i64 (mz (mintE 4 b bd G B) 4), .int .i64 (mz (mintE 4 b bd G B) o), .int .i64 (mz (mintE 4 b bd G B) (mR 4 r m)), .int .i64 (mz (mintE 4 b bd G B) (mB 4 b bd)), .int .i64 (mz (mintE 4 b bd G B) ra), .int .i64 (mz (mintE 4 b bd G B) (mG 4 g G)), .int .i64 (mz (mintE 4 b bd G B) (mG 4 gb B)), .bool (mzb (mintE 4 b bd G B) d)], .int .i64 (mintE 4 b bd G B)]) (by simp_all [results, Try.results12, go_sem, mz, mzb, mintE, mB, mG, derE]) rfl ⟨rfl, ?_⟩
    go_light
    repeat (first | (with_reducible exact Below.refl _ _) | (with_reducible refine Below.drew ?_) | (with_reducible refine Below.setCell ?_ (by first | (simp; done) | (simp; omega)) _) | (with_reducible refine Below.alloc ?_ (by first | (simp; done) | (simp; omega)) _))

set_option maxHeartbeats 1000000 in
theorem mint_5 (o r b ra g gb : Int) (d : Bool) (m bd G B : Int) (w : World) :
    Calls Try.prog 12 #[.agg #[.int .i64 5, .int .i64 o, .int .i64 r, .int .i64 b, .int .i64 ra, .int .i64 g, .int .i64 gb, .bool d], .int .i64 m, .int .i64 bd, .int .i64 G, .int .i64 B] w fun e w' =>
      e = .returned (.tuple #[.agg #[.int .i64 (mz (mintE 5 b bd G B) 5), .int .i64 (mz (mintE 5 b bd G B) o), .int .i64 (mz (mintE 5 b bd G B) (mR 5 r m)), .int .i64 (mz (mintE 5 b bd G B) (mB 5 b bd)), .int .i64 (mz (mintE 5 b bd G B) ra), .int .i64 (mz (mintE 5 b bd G B) (mG 5 g G)), .int .i64 (mz (mintE 5 b bd G B) (mG 5 gb B)), .bool (mzb (mintE 5 b bd G B) d)], .int .i64 (mintE 5 b bd G B)]) ∧ Below w.heap.size w w' := by
  have hd : derE 5 = 0 := by decide
  go_enter Try.func12, Try.ntmps12
  go_wp2_with (first | (go_at_call 13; refine (derive_any _ _ _ _ _ _ _ _ _).mono ?_; rintro e w1 ⟨rfl, rfl⟩; simp only [dz, dzb, hd, if_true]) | (go_at_call 11; refine (mask_any _ _ _ _ _ _ _ _ _ _).mono ?_; rintro e w2 ⟨rfl, rfl⟩) | (go_at_call 38; refine (guarded_any _ _ _).mono ?_; rintro e w3 ⟨rfl, rfl⟩))
  all_goals
    refine bodyPost_ret (v := .tuple #[.agg #[.int .i64 (mz (mintE 5 b bd G B) 5), .int .i64 (mz (mintE 5 b bd G B) o), .int .i64 (mz (mintE 5 b bd G B) (mR 5 r m)), .int .i64 (mz (mintE 5 b bd G B) (mB 5 b bd)), .int .i64 (mz (mintE 5 b bd G B) ra), .int .i64 (mz (mintE 5 b bd G B) (mG 5 g G)), .int .i64 (mz (mintE 5 b bd G B) (mG 5 gb B)), .bool (mzb (mintE 5 b bd G B) d)], .int .i64 (mintE 5 b bd G B)]) (by simp_all [results, Try.results12, go_sem, mz, mzb, mintE, mB, mG, derE]) rfl ⟨rfl, ?_⟩
    go_light
    repeat (first | (with_reducible exact Below.refl _ _) | (with_reducible refine Below.drew ?_) | (with_reducible refine Below.setCell ?_ (by first | (simp; done) | (simp; omega)) _) | (with_reducible refine Below.alloc ?_ (by first | (simp; done) | (simp; omega)) _))

set_option maxHeartbeats 1000000 in
theorem mint_x (k o r b ra g gb : Int) (d : Bool) (m bd G B : Int) (w : World) (hd : derE k = 0) (h2 : (k == 2) = false) (h4 : (k == 4) = false) (h5 : (k == 5) = false) :
    Calls Try.prog 12 #[.agg #[.int .i64 k, .int .i64 o, .int .i64 r, .int .i64 b, .int .i64 ra, .int .i64 g, .int .i64 gb, .bool d], .int .i64 m, .int .i64 bd, .int .i64 G, .int .i64 B] w fun e w' =>
      e = .returned (.tuple #[.agg #[.int .i64 (mz (mintE k b bd G B) k), .int .i64 (mz (mintE k b bd G B) o), .int .i64 (mz (mintE k b bd G B) (mR k r m)), .int .i64 (mz (mintE k b bd G B) (mB k b bd)), .int .i64 (mz (mintE k b bd G B) ra), .int .i64 (mz (mintE k b bd G B) (mG k g G)), .int .i64 (mz (mintE k b bd G B) (mG k gb B)), .bool (mzb (mintE k b bd G B) d)], .int .i64 (mintE k b bd G B)]) ∧ Below w.heap.size w w' := by
  go_enter Try.func12, Try.ntmps12
  go_wp2_with (first | (go_at_call 13; refine (derive_any _ _ _ _ _ _ _ _ _).mono ?_; rintro e w1 ⟨rfl, rfl⟩; simp only [dz, dzb, hd, if_true]) | (go_at_call 11; refine (mask_any _ _ _ _ _ _ _ _ _ _).mono ?_; rintro e w2 ⟨rfl, rfl⟩) | (go_at_call 38; refine (guarded_any _ _ _).mono ?_; rintro e w3 ⟨rfl, rfl⟩))
  all_goals
    refine bodyPost_ret (v := .tuple #[.agg #[.int .i64 (mz (mintE k b bd G B) k), .int .i64 (mz (mintE k b bd G B) o), .int .i64 (mz (mintE k b bd G B) (mR k r m)), .int .i64 (mz (mintE k b bd G B) (mB k b bd)), .int .i64 (mz (mintE k b bd G B) ra), .int .i64 (mz (mintE k b bd G B) (mG k g G)), .int .i64 (mz (mintE k b bd G B) (mG k gb B)), .bool (mzb (mintE k b bd G B) d)], .int .i64 (mintE k b bd G B)]) (by simp_all [results, Try.results12, go_sem, mz, mzb, mintE, mB, mG, derE]) rfl ⟨rfl, ?_⟩
    go_light
    repeat (first | (with_reducible exact Below.refl _ _) | (with_reducible refine Below.drew ?_) | (with_reducible refine Below.setCell ?_ (by first | (simp; done) | (simp; omega)) _) | (with_reducible refine Below.alloc ?_ (by first | (simp; done) | (simp; omega)) _))

theorem mint_any (k o r b ra g gb : Int) (d : Bool) (m bd G B : Int) (w : World) :
    Calls Try.prog 12 #[.agg #[.int .i64 k, .int .i64 o, .int .i64 r, .int .i64 b, .int .i64 ra, .int .i64 g, .int .i64 gb, .bool d], .int .i64 m, .int .i64 bd, .int .i64 G, .int .i64 B] w fun e w' =>
      e = .returned (.tuple #[.agg #[.int .i64 (mz (mintE k b bd G B) k), .int .i64 (mz (mintE k b bd G B) o), .int .i64 (mz (mintE k b bd G B) (mR k r m)), .int .i64 (mz (mintE k b bd G B) (mB k b bd)), .int .i64 (mz (mintE k b bd G B) ra), .int .i64 (mz (mintE k b bd G B) (mG k g G)), .int .i64 (mz (mintE k b bd G B) (mG k gb B)), .bool (mzb (mintE k b bd G B) d)], .int .i64 (mintE k b bd G B)]) ∧ Below w.heap.size w w' := by
  by_cases hd : derE k = 0
  · by_cases h2 : k = 2
    · subst h2; exact mint_2 o r b ra g gb d m bd G B w
    by_cases h4 : k = 4
    · subst h4; exact mint_4 o r b ra g gb d m bd G B w
    by_cases h5 : k = 5
    · subst h5; exact mint_5 o r b ra g gb d m bd G B w
    exact mint_x k o r b ra g gb d m bd G B w hd (by simp [h2]) (by simp [h4]) (by simp [h5])
  · exact mint_err k o r b ra g gb d m bd G B w hd

set_option maxHeartbeats 1000000 in
theorem rmint_err (k o r b ra g gb : Int) (d : Bool) (m bd G B : Int) (w : World) (hd : derE k ≠ 0) :
    Calls Try.prog 28 #[.agg #[.int .i64 k, .int .i64 o, .int .i64 r, .int .i64 b, .int .i64 ra, .int .i64 g, .int .i64 gb, .bool d], .int .i64 m, .int .i64 bd, .int .i64 G, .int .i64 B] w fun e w' =>
      e = .returned (.tuple #[.agg #[.int .i64 (mz (mintE k b bd G B) k), .int .i64 (mz (mintE k b bd G B) o), .int .i64 (mz (mintE k b bd G B) (mR k r m)), .int .i64 (mz (mintE k b bd G B) (mB k b bd)), .int .i64 (mz (mintE k b bd G B) ra), .int .i64 (mz (mintE k b bd G B) (mG k g G)), .int .i64 (mz (mintE k b bd G B) (mG k gb B)), .bool (mzb (mintE k b bd G B) d)], .int .i64 (mintE k b bd G B)]) ∧ Below w.heap.size w w' := by
  have he : mintE k b bd G B = derE k := by simp [mintE, hd]
  have hn : (derE k != 0) = true := by simp [hd]
  go_enter Try.func28, Try.ntmps28
  go_wp2_with (go_at_call 27; refine (rderive_any _ _ _ _ _ _ _ _ _).mono ?_; rintro e w1 ⟨rfl, rfl⟩)
  refine bodyPost_ret (v := .tuple #[.agg #[.int .i64 (mz (mintE k b bd G B) k), .int .i64 (mz (mintE k b bd G B) o), .int .i64 (mz (mintE k b bd G B) (mR k r m)), .int .i64 (mz (mintE k b bd G B) (mB k b bd)), .int .i64 (mz (mintE k b bd G B) ra), .int .i64 (mz (mintE k b bd G B) (mG k g G)), .int .i64 (mz (mintE k b bd G B) (mG k gb B)), .bool (mzb (mintE k b bd G B) d)], .int .i64 (mintE k b bd G B)]) (by simp [results, Try.results28, go_sem, mz, mzb, he, hd]) rfl ⟨rfl, ?_⟩
  go_light
  repeat (first | (with_reducible exact Below.refl _ _) | (with_reducible refine Below.drew ?_) | (with_reducible refine Below.setCell ?_ (by first | (simp; done) | (simp; omega)) _) | (with_reducible refine Below.alloc ?_ (by first | (simp; done) | (simp; omega)) _))

set_option maxHeartbeats 1000000 in
theorem rmint_2 (o r b ra g gb : Int) (d : Bool) (m bd G B : Int) (w : World) :
    Calls Try.prog 28 #[.agg #[.int .i64 2, .int .i64 o, .int .i64 r, .int .i64 b, .int .i64 ra, .int .i64 g, .int .i64 gb, .bool d], .int .i64 m, .int .i64 bd, .int .i64 G, .int .i64 B] w fun e w' =>
      e = .returned (.tuple #[.agg #[.int .i64 (mz (mintE 2 b bd G B) 2), .int .i64 (mz (mintE 2 b bd G B) o), .int .i64 (mz (mintE 2 b bd G B) (mR 2 r m)), .int .i64 (mz (mintE 2 b bd G B) (mB 2 b bd)), .int .i64 (mz (mintE 2 b bd G B) ra), .int .i64 (mz (mintE 2 b bd G B) (mG 2 g G)), .int .i64 (mz (mintE 2 b bd G B) (mG 2 gb B)), .bool (mzb (mintE 2 b bd G B) d)], .int .i64 (mintE 2 b bd G B)]) ∧ Below w.heap.size w w' := by
  have hd : derE 2 = 0 := by decide
  go_enter Try.func28, Try.ntmps28
  go_wp2_with (first | (go_at_call 27; refine (rderive_any _ _ _ _ _ _ _ _ _).mono ?_; rintro e w1 ⟨rfl, rfl⟩; simp only [dz, dzb, hd, if_true]) | (go_at_call 26; refine (rmask_any _ _ _ _ _ _ _ _ _ _).mono ?_; rintro e w2 ⟨rfl, rfl⟩) | (go_at_call 39; refine (guard_any _ _ _).mono ?_; rintro e w3 ⟨rfl, rfl⟩))
  all_goals
    refine bodyPost_ret (v := .tuple #[.agg #[.int .i64 (mz (mintE 2 b bd G B) 2), .int .i64 (mz (mintE 2 b bd G B) o), .int .i64 (mz (mintE 2 b bd G B) (mR 2 r m)), .int .i64 (mz (mintE 2 b bd G B) (mB 2 b bd)), .int .i64 (mz (mintE 2 b bd G B) ra), .int .i64 (mz (mintE 2 b bd G B) (mG 2 g G)), .int .i64 (mz (mintE 2 b bd G B) (mG 2 gb B)), .bool (mzb (mintE 2 b bd G B) d)], .int .i64 (mintE 2 b bd G B)]) (by simp_all [results, Try.results28, go_sem, mz, mzb, mintE, mB, mG, derE]) rfl ⟨rfl, ?_⟩
    go_light
    repeat (first | (with_reducible exact Below.refl _ _) | (with_reducible refine Below.drew ?_) | (with_reducible refine Below.setCell ?_ (by first | (simp; done) | (simp; omega)) _) | (with_reducible refine Below.alloc ?_ (by first | (simp; done) | (simp; omega)) _))

set_option maxHeartbeats 1000000 in
theorem rmint_4 (o r b ra g gb : Int) (d : Bool) (m bd G B : Int) (w : World) :
    Calls Try.prog 28 #[.agg #[.int .i64 4, .int .i64 o, .int .i64 r, .int .i64 b, .int .i64 ra, .int .i64 g, .int .i64 gb, .bool d], .int .i64 m, .int .i64 bd, .int .i64 G, .int .i64 B] w fun e w' =>
      e = .returned (.tuple #[.agg #[.int .i64 (mz (mintE 4 b bd G B) 4), .int .i64 (mz (mintE 4 b bd G B) o), .int .i64 (mz (mintE 4 b bd G B) (mR 4 r m)), .int .i64 (mz (mintE 4 b bd G B) (mB 4 b bd)), .int .i64 (mz (mintE 4 b bd G B) ra), .int .i64 (mz (mintE 4 b bd G B) (mG 4 g G)), .int .i64 (mz (mintE 4 b bd G B) (mG 4 gb B)), .bool (mzb (mintE 4 b bd G B) d)], .int .i64 (mintE 4 b bd G B)]) ∧ Below w.heap.size w w' := by
  have hd : derE 4 = 0 := by decide
  go_enter Try.func28, Try.ntmps28
  go_wp2_with (first | (go_at_call 27; refine (rderive_any _ _ _ _ _ _ _ _ _).mono ?_; rintro e w1 ⟨rfl, rfl⟩; simp only [dz, dzb, hd, if_true]) | (go_at_call 26; refine (rmask_any _ _ _ _ _ _ _ _ _ _).mono ?_; rintro e w2 ⟨rfl, rfl⟩) | (go_at_call 39; refine (guard_any _ _ _).mono ?_; rintro e w3 ⟨rfl, rfl⟩))
  all_goals
    refine bodyPost_ret (v := .tuple #[.agg #[.int .i64 (mz (mintE 4 b bd G B) 4), .int .i64 (mz (mintE 4 b bd G B) o), .int .i64 (mz (mintE 4 b bd G B) (mR 4 r m)), .int .i64 (mz (mintE 4 b bd G B) (mB 4 b bd)), .int .i64 (mz (mintE 4 b bd G B) ra), .int .i64 (mz (mintE 4 b bd G B) (mG 4 g G)), .int .i64 (mz (mintE 4 b bd G B) (mG 4 gb B)), .bool (mzb (mintE 4 b bd G B) d)], .int .i64 (mintE 4 b bd G B)]) (by simp_all [results, Try.results28, go_sem, mz, mzb, mintE, mB, mG, derE]) rfl ⟨rfl, ?_⟩
    go_light
    repeat (first | (with_reducible exact Below.refl _ _) | (with_reducible refine Below.drew ?_) | (with_reducible refine Below.setCell ?_ (by first | (simp; done) | (simp; omega)) _) | (with_reducible refine Below.alloc ?_ (by first | (simp; done) | (simp; omega)) _))

set_option maxHeartbeats 1000000 in
theorem rmint_5 (o r b ra g gb : Int) (d : Bool) (m bd G B : Int) (w : World) :
    Calls Try.prog 28 #[.agg #[.int .i64 5, .int .i64 o, .int .i64 r, .int .i64 b, .int .i64 ra, .int .i64 g, .int .i64 gb, .bool d], .int .i64 m, .int .i64 bd, .int .i64 G, .int .i64 B] w fun e w' =>
      e = .returned (.tuple #[.agg #[.int .i64 (mz (mintE 5 b bd G B) 5), .int .i64 (mz (mintE 5 b bd G B) o), .int .i64 (mz (mintE 5 b bd G B) (mR 5 r m)), .int .i64 (mz (mintE 5 b bd G B) (mB 5 b bd)), .int .i64 (mz (mintE 5 b bd G B) ra), .int .i64 (mz (mintE 5 b bd G B) (mG 5 g G)), .int .i64 (mz (mintE 5 b bd G B) (mG 5 gb B)), .bool (mzb (mintE 5 b bd G B) d)], .int .i64 (mintE 5 b bd G B)]) ∧ Below w.heap.size w w' := by
  have hd : derE 5 = 0 := by decide
  go_enter Try.func28, Try.ntmps28
  go_wp2_with (first | (go_at_call 27; refine (rderive_any _ _ _ _ _ _ _ _ _).mono ?_; rintro e w1 ⟨rfl, rfl⟩; simp only [dz, dzb, hd, if_true]) | (go_at_call 26; refine (rmask_any _ _ _ _ _ _ _ _ _ _).mono ?_; rintro e w2 ⟨rfl, rfl⟩) | (go_at_call 39; refine (guard_any _ _ _).mono ?_; rintro e w3 ⟨rfl, rfl⟩))
  all_goals
    refine bodyPost_ret (v := .tuple #[.agg #[.int .i64 (mz (mintE 5 b bd G B) 5), .int .i64 (mz (mintE 5 b bd G B) o), .int .i64 (mz (mintE 5 b bd G B) (mR 5 r m)), .int .i64 (mz (mintE 5 b bd G B) (mB 5 b bd)), .int .i64 (mz (mintE 5 b bd G B) ra), .int .i64 (mz (mintE 5 b bd G B) (mG 5 g G)), .int .i64 (mz (mintE 5 b bd G B) (mG 5 gb B)), .bool (mzb (mintE 5 b bd G B) d)], .int .i64 (mintE 5 b bd G B)]) (by simp_all [results, Try.results28, go_sem, mz, mzb, mintE, mB, mG, derE]) rfl ⟨rfl, ?_⟩
    go_light
    repeat (first | (with_reducible exact Below.refl _ _) | (with_reducible refine Below.drew ?_) | (with_reducible refine Below.setCell ?_ (by first | (simp; done) | (simp; omega)) _) | (with_reducible refine Below.alloc ?_ (by first | (simp; done) | (simp; omega)) _))

set_option maxHeartbeats 1000000 in
theorem rmint_x (k o r b ra g gb : Int) (d : Bool) (m bd G B : Int) (w : World) (hd : derE k = 0) (h2 : (k == 2) = false) (h4 : (k == 4) = false) (h5 : (k == 5) = false) :
    Calls Try.prog 28 #[.agg #[.int .i64 k, .int .i64 o, .int .i64 r, .int .i64 b, .int .i64 ra, .int .i64 g, .int .i64 gb, .bool d], .int .i64 m, .int .i64 bd, .int .i64 G, .int .i64 B] w fun e w' =>
      e = .returned (.tuple #[.agg #[.int .i64 (mz (mintE k b bd G B) k), .int .i64 (mz (mintE k b bd G B) o), .int .i64 (mz (mintE k b bd G B) (mR k r m)), .int .i64 (mz (mintE k b bd G B) (mB k b bd)), .int .i64 (mz (mintE k b bd G B) ra), .int .i64 (mz (mintE k b bd G B) (mG k g G)), .int .i64 (mz (mintE k b bd G B) (mG k gb B)), .bool (mzb (mintE k b bd G B) d)], .int .i64 (mintE k b bd G B)]) ∧ Below w.heap.size w w' := by
  go_enter Try.func28, Try.ntmps28
  go_wp2_with (first | (go_at_call 27; refine (rderive_any _ _ _ _ _ _ _ _ _).mono ?_; rintro e w1 ⟨rfl, rfl⟩; simp only [dz, dzb, hd, if_true]) | (go_at_call 26; refine (rmask_any _ _ _ _ _ _ _ _ _ _).mono ?_; rintro e w2 ⟨rfl, rfl⟩) | (go_at_call 39; refine (guard_any _ _ _).mono ?_; rintro e w3 ⟨rfl, rfl⟩))
  all_goals
    refine bodyPost_ret (v := .tuple #[.agg #[.int .i64 (mz (mintE k b bd G B) k), .int .i64 (mz (mintE k b bd G B) o), .int .i64 (mz (mintE k b bd G B) (mR k r m)), .int .i64 (mz (mintE k b bd G B) (mB k b bd)), .int .i64 (mz (mintE k b bd G B) ra), .int .i64 (mz (mintE k b bd G B) (mG k g G)), .int .i64 (mz (mintE k b bd G B) (mG k gb B)), .bool (mzb (mintE k b bd G B) d)], .int .i64 (mintE k b bd G B)]) (by simp_all [results, Try.results28, go_sem, mz, mzb, mintE, mB, mG, derE]) rfl ⟨rfl, ?_⟩
    go_light
    repeat (first | (with_reducible exact Below.refl _ _) | (with_reducible refine Below.drew ?_) | (with_reducible refine Below.setCell ?_ (by first | (simp; done) | (simp; omega)) _) | (with_reducible refine Below.alloc ?_ (by first | (simp; done) | (simp; omega)) _))

theorem rmint_any (k o r b ra g gb : Int) (d : Bool) (m bd G B : Int) (w : World) :
    Calls Try.prog 28 #[.agg #[.int .i64 k, .int .i64 o, .int .i64 r, .int .i64 b, .int .i64 ra, .int .i64 g, .int .i64 gb, .bool d], .int .i64 m, .int .i64 bd, .int .i64 G, .int .i64 B] w fun e w' =>
      e = .returned (.tuple #[.agg #[.int .i64 (mz (mintE k b bd G B) k), .int .i64 (mz (mintE k b bd G B) o), .int .i64 (mz (mintE k b bd G B) (mR k r m)), .int .i64 (mz (mintE k b bd G B) (mB k b bd)), .int .i64 (mz (mintE k b bd G B) ra), .int .i64 (mz (mintE k b bd G B) (mG k g G)), .int .i64 (mz (mintE k b bd G B) (mG k gb B)), .bool (mzb (mintE k b bd G B) d)], .int .i64 (mintE k b bd G B)]) ∧ Below w.heap.size w w' := by
  by_cases hd : derE k = 0
  · by_cases h2 : k = 2
    · subst h2; exact rmint_2 o r b ra g gb d m bd G B w
    by_cases h4 : k = 4
    · subst h4; exact rmint_4 o r b ra g gb d m bd G B w
    by_cases h5 : k = 5
    · subst h5; exact rmint_5 o r b ra g gb d m bd G B w
    exact rmint_x k o r b ra g gb d m bd G B w hd (by simp [h2]) (by simp [h4]) (by simp [h5])
  · exact rmint_err k o r b ra g gb d m bd G B w hd
end Go.Proofs.Ytcbbmgohdcabeaa
