/- The contract of viceroyref11.Encode (function 34): the word of a right cap, else ErrKind; it makes new memory alone. Condition: Rights is a 64-bit number. -/
import Derived.Test.YtcbbmgohdcabeaaCapsM
import Derived.Test.YtcbbmgohdcabeaaCapsQ
import Derived.Lib.Hide
import Derived.Deep.QuietTactic
import Derived.BigQuiet
import Derived.WalkSmall
namespace Go.Proofs.Ytcbbmgohdcabeaa
open Go.RowKit
set_option maxRecDepth 100000

set_option maxHeartbeats 1000000 in
theorem rencode_no (k o r b ra g gb : Int) (d : Bool) (w : World) (hr0 : -9223372036854775808 ≤ r) (hr1 : r ≤ 9223372036854775807) (hr : rightB k o r b ra g gb d = false) :
    Calls Try.prog 34 #[.agg #[.int .i64 k, .int .i64 o, .int .i64 r, .int .i64 b, .int .i64 ra, .int .i64 g, .int .i64 gb, .bool d]] w fun e w' =>
      e = .returned (.tuple #[.int .u64 0, .int .i64 141]) ∧ Below w.heap.size w w' := by
  go_enter Try.func34, Try.ntmps34
  go_wp2_with fail
  refine (rright_any _ _ _ _ _ _ _ _ _ hr0 hr1).mono ?_
  rintro e w' ⟨rfl, hb⟩
  rw [hr]
  go_wp2_with fail
  go_ret2
  exact ⟨rfl, (((Below.refl _ _).alloc (Nat.le_refl _) _).trans (hb.mono (by simp)))⟩

theorem rcap_cells (k o r b ra g gb : Int) (d : Bool) (w w2 : World) (h : Below (w.heap.size + 1) (w.alloc (.cells #[.int .i64 k, .int .i64 o, .int .i64 r, .int .i64 b, .int .i64 ra, .int .i64 g, .int .i64 gb, .bool d] 23)) w2) :
    w2.cell? ⟨w.heap.size, 0, none⟩ = some (.int .i64 k) ∧ w2.cell? ⟨w.heap.size, 1, none⟩ = some (.int .i64 o) ∧ w2.cell? ⟨w.heap.size, 2, none⟩ = some (.int .i64 r) ∧
    w2.cell? ⟨w.heap.size, 3, none⟩ = some (.int .i64 b) ∧ w2.cell? ⟨w.heap.size, 4, none⟩ = some (.int .i64 ra) ∧ w2.cell? ⟨w.heap.size, 5, none⟩ = some (.int .i64 g) ∧
    w2.cell? ⟨w.heap.size, 6, none⟩ = some (.int .i64 gb) ∧ w2.cell? ⟨w.heap.size, 7, none⟩ = some (.bool d) := by
  refine ⟨?_, ?_, ?_, ?_, ?_, ?_, ?_, ?_⟩ <;> (rw [h.cell (by simp)]; simp)

set_option maxHeartbeats 2000000 in
theorem rencode_yes (k o r b ra g gb : Int) (d : Bool) (w : World) (hr0 : -9223372036854775808 ≤ r) (hr1 : r ≤ 9223372036854775807) (hr : rightB k o r b ra g gb d = true) :
    Calls Try.prog 34 #[.agg #[.int .i64 k, .int .i64 o, .int .i64 r, .int .i64 b, .int .i64 ra, .int .i64 g, .int .i64 gb, .bool d]] w fun e w' =>
      e = .returned (.tuple #[.int .u64 (wordOf k o r b ra g gb d), .int .i64 0]) ∧ Below w.heap.size w w' := by
  obtain ⟨ka, kb, oa, ob, ra', rb, ba, bb, raa, rab, gba, gbb, ga, gb'⟩ := right_bounds hr0 hr1 hr
  go_enter Try.func34, Try.ntmps34
  go_wp2_with fail
  refine (rright_any _ _ _ _ _ _ _ _ _ hr0 hr1).mono ?_
  rintro e w1 ⟨rfl, hb1⟩
  rw [hr]
  obtain ⟨c0, c1, c2, c3, c4, c5, c6, c7⟩ := rcap_cells k o r b ra g gb d w w1 (hb1.mono (by simp))
  have B1 : Hid (Below w.heap.size w w1) := Lib.hid (((Below.refl _ _).alloc (Nat.le_refl _) _).trans (hb1.mono (by simp)))
  clear hr hb1
  cases d
  · go_wp2_with fail
    go_ret2
    exact ⟨congrArg (fun x => Ending.returned (.tuple #[.int .u64 x, .int .i64 0])) (by simp only [wordOf, if_false, Bool.false_eq_true]; omega), B1.out⟩
  · go_wp2_with fail
    go_ret2
    exact ⟨congrArg (fun x => Ending.returned (.tuple #[.int .u64 x, .int .i64 0])) (by simp only [wordOf, if_true]; omega), B1.out⟩

theorem rencode_any (k o r b ra g gb : Int) (d : Bool) (w : World) (hr0 : -9223372036854775808 ≤ r) (hr1 : r ≤ 9223372036854775807) :
    Calls Try.prog 34 #[.agg #[.int .i64 k, .int .i64 o, .int .i64 r, .int .i64 b, .int .i64 ra, .int .i64 g, .int .i64 gb, .bool d]] w fun e w' =>
      e = .returned (.tuple #[.int .u64 (encW k o r b ra g gb d), .int .i64 (encE k o r b ra g gb d)]) ∧ Below w.heap.size w w' := by
  cases hr : rightB k o r b ra g gb d
  · refine (rencode_no k o r b ra g gb d w hr0 hr1 hr).mono ?_
    rintro e w' ⟨he, hb⟩
    exact ⟨by rw [he, encW, encE, hr]; rfl, hb⟩
  · refine (rencode_yes k o r b ra g gb d w hr0 hr1 hr).mono ?_
    rintro e w' ⟨he, hb⟩
    exact ⟨by rw [he, encW, encE, hr]; rfl, hb⟩
end Go.Proofs.Ytcbbmgohdcabeaa
