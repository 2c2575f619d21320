/- The contract of caps.Encode (function 33): the word of a right cap, else ErrKind; it makes new memory alone. Condition: Rights is a 64-bit number. -/
import Derived.Test.YtcbbmgohdcabeaaCapsM
import Derived.Test.YtcbbmgohdcabeaaCapsR
import Derived.Test.YtcbbmgohdcabeaaCapsF
import Derived.Lib.Hide
import Derived.Deep.QuietTactic
import Derived.BigQuiet
import Derived.WalkSmall
namespace Go.Proofs.Ytcbbmgohdcabeaa
open Go.RowKit
set_option maxRecDepth 100000
theorem bcell {W w1 : World} (hb : Below W.heap.size W w1) : (∀ b o, b < W.heap.size → w1.cell? ⟨b, o, none⟩ = W.cell? ⟨b, o, none⟩) ∧ (∀ b o, b < W.heap.size → w1.frozen? ⟨b, o, none⟩ = W.frozen? ⟨b, o, none⟩) :=
  ⟨fun b o h => hb.cell (p := ⟨b, o, none⟩) h, fun b o h => hb.frozen (p := ⟨b, o, none⟩) h⟩

set_option maxHeartbeats 1000000 in
theorem encode_no (k o r b ra g gb : Int) (d : Bool) (w : World) (hr : rightB k o r b ra g gb d = false) :
    Calls Try.prog 33 #[.agg #[.int .i64 k, .int .i64 o, .int .i64 r, .int .i64 b, .int .i64 ra, .int .i64 g, .int .i64 gb, .bool d]] w fun e w' =>
      e = .returned (.tuple #[.int .u64 0, .int .i64 141]) ∧ Below w.heap.size w w' := by
  go_enter Try.func33, Try.ntmps33
  go_wp2_with (go_at_call 31; refine (right_any _ _ _ _ _ _ _ _ _).mono ?_; rintro e w' ⟨rfl, hb⟩)
  go_ret2
  exact ⟨rfl, (((Below.refl _ _).alloc (Nat.le_refl _) _).trans (hb.mono (by simp)))⟩


def partW (k o r b ra g gb : Int) : Nat → Int
  | 0 => 0
  | 1 => k
  | 2 => k + o * 16
  | 3 => k + o * 16 + r * 16384
  | 4 => k + o * 16 + r * 16384 + b * 262144
  | 5 => k + o * 16 + r * 16384 + b * 262144 + ra * 274877906944
  | 6 => k + o * 16 + r * 16384 + b * 262144 + ra * 274877906944 + gb * 2199023255552
  | _ => k + o * 16 + r * 16384 + b * 262144 + ra * 274877906944 + gb * 2199023255552 + g * 70368744177664
theorem or_at (W x c : Int) (at_ : Nat) (hc : (2 : Int) ^ at_ = c) (hat : at_ ≤ 64) (hW0 : 0 ≤ W) (hW : W < c) (hx0 : 0 ≤ x) (hx : x * c < 18446744073709551616) :
    bits .or .u64 W (x * c) = W + x * c := by
  subst hc
  exact or_field W x at_ hat hW0 hW hx0 (by simpa using hx)
section
variable (k o r b ra g gb : Int)
theorem or_0 (ka : 0 ≤ k) (kb : k ≤ 11) : bits .or .u64 (partW k o r b ra g gb 0) k = partW k o r b ra g gb 1 := by
  have := or_at (partW k o r b ra g gb 0) k 1 0 (by decide) (by decide) (by simp only [partW]; omega) (by simp only [partW]; omega) (by omega) (by omega)
  simp only [partW, Int.mul_one] at this ⊢
  rw [this]; omega
theorem or_1 (ka : 0 ≤ k) (kb : k ≤ 11) (oa : 0 ≤ o) (ob : o < 1024) : bits .or .u64 (partW k o r b ra g gb 1) (o * 16) = partW k o r b ra g gb 2 := by
  have := or_at (partW k o r b ra g gb 1) o 16 4 (by decide) (by decide) (by simp only [partW]; omega) (by simp only [partW]; omega) (by omega) (by omega)
  simp only [partW] at this ⊢
  rw [this]
theorem or_2 (ka : 0 ≤ k) (kb : k ≤ 11) (oa : 0 ≤ o) (ob : o < 1024) (ra' : 0 ≤ r) (rb : r ≤ 15) : bits .or .u64 (partW k o r b ra g gb 2) (r * 16384) = partW k o r b ra g gb 3 := by
  have := or_at (partW k o r b ra g gb 2) r 16384 14 (by decide) (by decide) (by simp only [partW]; omega) (by simp only [partW]; omega) (by omega) (by omega)
  simp only [partW] at this ⊢
  rw [this]
theorem or_3 (ka : 0 ≤ k) (kb : k ≤ 11) (oa : 0 ≤ o) (ob : o < 1024) (ra' : 0 ≤ r) (rb : r ≤ 15) (ba : 0 ≤ b) (bb : b < 1048576) : bits .or .u64 (partW k o r b ra g gb 3) (b * 262144) = partW k o r b ra g gb 4 := by
  have := or_at (partW k o r b ra g gb 3) b 262144 18 (by decide) (by decide) (by simp only [partW]; omega) (by simp only [partW]; omega) (by omega) (by omega)
  simp only [partW] at this ⊢
  rw [this]
theorem or_4 (ka : 0 ≤ k) (kb : k ≤ 11) (oa : 0 ≤ o) (ob : o < 1024) (ra' : 0 ≤ r) (rb : r ≤ 15) (ba : 0 ≤ b) (bb : b < 1048576) (raa : 0 ≤ ra) (rab : ra ≤ 4) : bits .or .u64 (partW k o r b ra g gb 4) (ra * 274877906944) = partW k o r b ra g gb 5 := by
  have := or_at (partW k o r b ra g gb 4) ra 274877906944 38 (by decide) (by decide) (by simp only [partW]; omega) (by simp only [partW]; omega) (by omega) (by omega)
  simp only [partW] at this ⊢
  rw [this]
theorem or_5 (ka : 0 ≤ k) (kb : k ≤ 11) (oa : 0 ≤ o) (ob : o < 1024) (ra' : 0 ≤ r) (rb : r ≤ 15) (ba : 0 ≤ b) (bb : b < 1048576) (raa : 0 ≤ ra) (rab : ra ≤ 4) (gba : 0 ≤ gb) (gbb : gb ≤ 16) : bits .or .u64 (partW k o r b ra g gb 5) (gb * 2199023255552) = partW k o r b ra g gb 6 := by
  have := or_at (partW k o r b ra g gb 5) gb 2199023255552 41 (by decide) (by decide) (by simp only [partW]; omega) (by simp only [partW]; omega) (by omega) (by omega)
  simp only [partW] at this ⊢
  rw [this]
theorem or_6 (ka : 0 ≤ k) (kb : k ≤ 11) (oa : 0 ≤ o) (ob : o < 1024) (ra' : 0 ≤ r) (rb : r ≤ 15) (ba : 0 ≤ b) (bb : b < 1048576) (raa : 0 ≤ ra) (rab : ra ≤ 4) (gba : 0 ≤ gb) (gbb : gb ≤ 16) (ga : 0 ≤ g) (gb' : g < 65536) : bits .or .u64 (partW k o r b ra g gb 6) (g * 70368744177664) = partW k o r b ra g gb 7 := by
  have := or_at (partW k o r b ra g gb 6) g 70368744177664 46 (by decide) (by decide) (by simp only [partW]; omega) (by simp only [partW]; omega) (by omega) (by omega)
  simp only [partW] at this ⊢
  rw [this]
theorem or_7 (ka : 0 ≤ k) (kb : k ≤ 11) (oa : 0 ≤ o) (ob : o < 1024) (ra' : 0 ≤ r) (rb : r ≤ 15) (ba : 0 ≤ b) (bb : b < 1048576) (raa : 0 ≤ ra) (rab : ra ≤ 4) (gba : 0 ≤ gb) (gbb : gb ≤ 16) (ga : 0 ≤ g) (gb' : g < 65536) : bits .or .u64 (partW k o r b ra g gb 7) 4611686018427387904 = wordOf k o r b ra g gb true := by
  have := or_at (partW k o r b ra g gb 7) 1 4611686018427387904 62 (by decide) (by decide) (by simp only [partW]; omega) (by simp only [partW]; omega) (by omega) (by omega)
  simp only [partW, Int.one_mul, wordOf] at this ⊢
  rw [this]; simp
theorem no_7 : partW k o r b ra g gb 7 = wordOf k o r b ra g gb false := by
  simp [partW, wordOf]
end
theorem cap_cells (k o r b ra g gb : Int) (d : Bool) (w w2 : World) (h : Below (w.heap.size + 1) (w.alloc (.cells #[.int .i64 k, .int .i64 o, .int .i64 r, .int .i64 b, .int .i64 ra, .int .i64 g, .int .i64 gb, .bool d] 23)) w2) :
    w2.cell? ⟨w.heap.size, 0, none⟩ = some (.int .i64 k) ∧ w2.cell? ⟨w.heap.size, 1, none⟩ = some (.int .i64 o) ∧ w2.cell? ⟨w.heap.size, 2, none⟩ = some (.int .i64 r) ∧
    w2.cell? ⟨w.heap.size, 3, none⟩ = some (.int .i64 b) ∧ w2.cell? ⟨w.heap.size, 4, none⟩ = some (.int .i64 ra) ∧ w2.cell? ⟨w.heap.size, 5, none⟩ = some (.int .i64 g) ∧
    w2.cell? ⟨w.heap.size, 6, none⟩ = some (.int .i64 gb) ∧ w2.cell? ⟨w.heap.size, 7, none⟩ = some (.bool d) := by
  refine ⟨?_, ?_, ?_, ?_, ?_, ?_, ?_, ?_⟩ <;> (rw [h.cell (by simp)]; simp)

set_option maxHeartbeats 1000000 in
theorem encode_yes (k o r b ra g gb : Int) (d : Bool) (w : World) (hr0 : -9223372036854775808 ≤ r) (hr1 : r ≤ 9223372036854775807) (hr : rightB k o r b ra g gb d = true) :
    Calls Try.prog 33 #[.agg #[.int .i64 k, .int .i64 o, .int .i64 r, .int .i64 b, .int .i64 ra, .int .i64 g, .int .i64 gb, .bool d]] w fun e w' =>
      e = .returned (.tuple #[.int .u64 (wordOf k o r b ra g gb d), .int .i64 0]) ∧ Below w.heap.size w w' := by
  obtain ⟨ka, kb, oa, ob, ra', rb, ba, bb, raa, rab, gba, gbb, ga, gb'⟩ := right_bounds hr0 hr1 hr
  go_enter Try.func33, Try.ntmps33
  go_wp2_with (go_at_call 31; refine (right_any _ _ _ _ _ _ _ _ _).mono ?_; rintro e w1 ⟨rfl, hb1⟩)
  refine (fields_any _ _ _).mono ?_
  rintro e w2 ⟨b1, b2, rfl, hF, hz2, hg1, hg2, hb2⟩
  have hz1 : w.heap.size + 1 ≤ w1.heap.size := (by have := hb1.size; simpa using this)
  obtain ⟨c0, c1, c2, c3, c4, c5, c6, c7⟩ := cap_cells k o r b ra g gb d w w2 ((hb1.mono (by simp)).trans (hb2.mono hz1))
  obtain ⟨n0, n1, n2, n3, n4, n5, n6, a0, z0, a1, z1, a2, z2, a3, z3, a4, z4, a5, z5, a6, z6⟩ := hF
  clear hr
  go_wp2
  go_loopw [4, 18] (fun v4 v18 wr => ∃ n i : Nat, i ≤ 7 ∧ v18 = .int .i64 i ∧ v4 = .int .u64 (partW k o r b ra g gb i) ∧ wr = w2.drewN n) (fun _ v18 _ => 7 - (intOf v18).toNat)
  case atStart => exact ⟨0, 0, by omega, rfl, rfl, rfl⟩
  case round =>
    obtain ⟨n, i, hi, rfl, rfl, rfl⟩ := hrel
    rcases (by omega : i = 0 ∨ i = 1 ∨ i = 2 ∨ i = 3 ∨ i = 4 ∨ i = 5 ∨ i = 6 ∨ i = 7) with rfl | rfl | rfl | rfl | rfl | rfl | rfl | rfl
    · go_wp2
      go_quiet (fail)
      go_wp2
      go_roundw
      case rel => exact ⟨_, 1, by omega, rfl, congrArg (Value.int .u64) (or_0 k o r b ra g gb ‹_› ‹_›), rfl⟩
      case measure => simp [intOf]
    · go_wp2
      go_quiet (fail)
      go_wp2
      go_roundw
      case rel => exact ⟨_, 2, by omega, rfl, congrArg (Value.int .u64) (or_1 k o r b ra g gb ‹_› ‹_› ‹_› ‹_›), rfl⟩
      case measure => simp [intOf]
    · go_wp2
      go_quiet (fail)
      go_wp2
      go_roundw
      case rel => exact ⟨_, 3, by omega, rfl, congrArg (Value.int .u64) (or_2 k o r b ra g gb ‹_› ‹_› ‹_› ‹_› ‹_› ‹_›), rfl⟩
      case measure => simp [intOf]
    · go_wp2
      go_quiet (fail)
      go_wp2
      go_roundw
      case rel => exact ⟨_, 4, by omega, rfl, congrArg (Value.int .u64) (or_3 k o r b ra g gb ‹_› ‹_› ‹_› ‹_› ‹_› ‹_› ‹_› ‹_›), rfl⟩
      case measure => simp [intOf]
    · go_wp2
      go_quiet (fail)
      go_wp2
      go_roundw
      case rel => exact ⟨_, 5, by omega, rfl, congrArg (Value.int .u64) (or_4 k o r b ra g gb ‹_› ‹_› ‹_› ‹_› ‹_› ‹_› ‹_› ‹_› ‹_› ‹_›), rfl⟩
      case measure => simp [intOf]
    · go_wp2
      go_quiet (fail)
      go_wp2
      go_roundw
      case rel => exact ⟨_, 6, by omega, rfl, congrArg (Value.int .u64) (or_5 k o r b ra g gb ‹_› ‹_› ‹_› ‹_› ‹_› ‹_› ‹_› ‹_› ‹_› ‹_› ‹_› ‹_›), rfl⟩
      case measure => simp [intOf]
    · go_wp2
      go_quiet (fail)
      go_wp2
      go_roundw
      case rel => exact ⟨_, 7, by omega, rfl, congrArg (Value.int .u64) (or_6 k o r b ra g gb ‹_› ‹_› ‹_› ‹_› ‹_› ‹_› ‹_› ‹_› ‹_› ‹_› ‹_› ‹_› ‹_› ‹_›), rfl⟩
      case measure => simp [intOf]
    · cases d
      · go_wp2
        go_ret2
        go_light
        exact ⟨congrArg (fun x => Ending.returned (.tuple #[.int .u64 x, .int .i64 0])) (no_7 k o r b ra g gb), below_drewN (((Below.refl _ _).alloc (Nat.le_refl _) _).trans ((hb1.mono (by simp)).trans (hb2.mono (by omega)))) _⟩
      · go_wp2
        go_ret2
        go_light
        exact ⟨congrArg (fun x => Ending.returned (.tuple #[.int .u64 x, .int .i64 0])) (or_7 k o r b ra g gb ‹_› ‹_› ‹_› ‹_› ‹_› ‹_› ‹_› ‹_› ‹_› ‹_› ‹_› ‹_› ‹_› ‹_›), below_drewN (((Below.refl _ _).alloc (Nat.le_refl _) _).trans ((hb1.mono (by simp)).trans (hb2.mono (by omega)))) _⟩

theorem encode_any (k o r b ra g gb : Int) (d : Bool) (w : World) (hr0 : -9223372036854775808 ≤ r) (hr1 : r ≤ 9223372036854775807) :
    Calls Try.prog 33 #[.agg #[.int .i64 k, .int .i64 o, .int .i64 r, .int .i64 b, .int .i64 ra, .int .i64 g, .int .i64 gb, .bool d]] w fun e w' =>
      e = .returned (.tuple #[.int .u64 (encW k o r b ra g gb d), .int .i64 (encE k o r b ra g gb d)]) ∧ Below w.heap.size w w' := by
  cases hr : rightB k o r b ra g gb d
  · refine (encode_no k o r b ra g gb d w hr).mono ?_
    rintro e w' ⟨he, hb⟩
    exact ⟨by rw [he, encW, encE, hr]; rfl, hb⟩
  · refine (encode_yes k o r b ra g gb d w hr0 hr1 hr).mono ?_
    rintro e w' ⟨he, hb⟩
    exact ⟨by rw [he, encW, encE, hr]; rfl, hb⟩
end Go.Proofs.Ytcbbmgohdcabeaa
