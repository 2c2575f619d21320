/- Proved: rights are left out once and for all, and a cap that is minted twice has its first badge, or there is an error (viceroylaw11.CapsTwice returns true for every cap and all numbers), with no condition. -/
import Derived.Test.YtcbbmgohdcabeaaCapsW
import Derived.Test.YtcbbmgohdcabeaaCapsO
namespace Go.Proofs.Ytcbbmgohdcabeaa
open Go.RowKit
set_option maxRecDepth 100000

theorem bits_assoc (a b c : Int) : bits .and .i64 (bits .and .i64 a b) c = bits .and .i64 a (bits .and .i64 b c) := by
  have h : ∀ x y : Int, BitVec.ofInt 64 (bits .and .i64 x y) = BitVec.ofInt 64 x &&& BitVec.ofInt 64 y := by
    intro x y
    have hb : bits .and .i64 x y = IntKind.i64.wrap ((BitVec.ofInt 64 x &&& BitVec.ofInt 64 y).toNat : Int) := rfl
    have hl := (BitVec.ofInt 64 x &&& BitVec.ofInt 64 y).isLt
    apply BitVec.eq_of_toNat_eq
    have e := toNat_ofInt (bits .and .i64 x y)
    rw [hb, IntKind.wrap_i64] at e ⊢
    omega
  show IntKind.i64.wrap ((BitVec.ofInt 64 (bits .and .i64 a b) &&& BitVec.ofInt 64 c).toNat : Int) = IntKind.i64.wrap ((BitVec.ofInt 64 a &&& BitVec.ofInt 64 (bits .and .i64 b c)).toNat : Int)
  rw [h, h, BitVec.and_assoc]
theorem mR_twice (k r x y : Int) : mR k (mR k r x) y = mR k r (bits .and .i64 x y) := by
  unfold mR; split
  · exact bits_assoc _ _ _
  · rfl
theorem mG_self (k x : Int) : mG k x x = x := by unfold mG; split <;> rfl
theorem mB_zero (k x : Int) : mB k x 0 = x := by simp [mB]
theorem mint_again {k b bd g gb x : Int} (h : mintE k b bd g gb = 0) : mintE k x 0 g gb = 0 := by
  unfold mintE at h ⊢
  by_cases hd : derE k = 0
  · simp only [hd, ne_eq, not_true_eq_false, if_false, and_false] at h ⊢
    by_cases h2 : k = 2
    · subst h2; simpa using h
    · simp [h2]
  · simp [hd] at h

set_option maxHeartbeats 4000000 in
theorem walk_CapsTwice (k o r b ra g gb : Int) (d : Bool) (one other badge : Int) (w : World) :
    Calls Try.prog 3 #[.agg #[.int .i64 k, .int .i64 o, .int .i64 r, .int .i64 b, .int .i64 ra, .int .i64 g, .int .i64 gb, .bool d], .int .i64 one, .int .i64 other, .int .i64 badge] w fun e w' => e = .returned (.bool true) ∧ Below w.heap.size w w' := by
  have hm := mR_twice k r one other
  by_cases hE : mintE k b badge g gb = 0
  · have hE2 := mint_again (x := mB k b badge) hE
    by_cases hk : k = 4 ∨ k = 5 ∨ k = 6
    · have hr : mR k (mR k r one) other = bits .and .i64 (mR k r one) other := by simp [mR, hk]
      have hr' : (mR k r (bits .and .i64 one other) == bits .and .i64 (mR k r one) other) = true := by rw [← hm, hr]; simp
      go_enter Try.func3, Try.ntmps3
      go_wp2_with fail
      refine (awake_any _).mono ?_; rintro e w1 ⟨rfl, hb1⟩
      have hz0 : w.heap.size < w1.heap.size := by have := hb1.size; simp at this; omega
      have hz1 : w.heap.size < w1.heap.size + 1 := by omega
      have hz2 : w.heap.size < w1.heap.size + 1 + 1 := by omega
      have hz3 : w.heap.size < w1.heap.size + 1 + 1 + 1 := by omega
      have hz4 : w.heap.size < w1.heap.size + 1 + 1 + 1 + 1 := by omega
      have hz5 : w.heap.size < w1.heap.size + 1 + 1 + 1 + 1 + 1 := by omega
      have hz6 : w.heap.size < w1.heap.size + 1 + 1 + 1 + 1 + 1 + 1 := by omega
      have hz7 : w.heap.size < w1.heap.size + 1 + 1 + 1 + 1 + 1 + 1 + 1 := by omega
      have hz8 : w.heap.size < w1.heap.size + 1 + 1 + 1 + 1 + 1 + 1 + 1 + 1 := by omega
      have hz9 : w.heap.size < w1.heap.size + 1 + 1 + 1 + 1 + 1 + 1 + 1 + 1 + 1 := by omega
      have hb01 : Below (w.heap.size + 1) (w.alloc (.cells #[.int .i64 k, .int .i64 o, .int .i64 r, .int .i64 b, .int .i64 ra, .int .i64 g, .int .i64 gb, .bool d] 23)) w1 := hb1.mono (by simp)
      clear hb1
      obtain ⟨c0, c1, c2, c3, c4, c5, c6, c7⟩ := cap_cells k o r b ra g gb d w w1 hb01
      go_wp2_with (first | (go_at_call 11; refine (mask_any _ _ _ _ _ _ _ _ _ _).mono ?_; rintro e w5 ⟨rfl, rfl⟩))
      refine (mint_any _ _ _ _ _ _ _ _ _ _ _ _ _).mono ?_; rintro e w2 ⟨rfl, hb2⟩; simp only [hE, mG_self, mz, mzb, if_true]
      have hb02 : Below (w.heap.size + 1) (w.alloc (.cells #[.int .i64 k, .int .i64 o, .int .i64 r, .int .i64 b, .int .i64 ra, .int .i64 g, .int .i64 gb, .bool d] 23)) w2 := by
        refine Below.trans ?_ (hb2.mono (by simp; omega))
        repeat (first | exact hb01 | (with_reducible refine Below.alloc ?_ (by first | omega | (simp; done) | (simp; omega)) _))
      clear hb2 hb01 c0 c1 c2 c3 c4 c5 c6 c7
      have hy0 : w.heap.size < w2.heap.size := by have := hb02.size; simp at this; omega
      have hy1 : w.heap.size < w2.heap.size + 1 := by omega
      have hy2 : w.heap.size < w2.heap.size + 1 + 1 := by omega
      have hy3 : w.heap.size < w2.heap.size + 1 + 1 + 1 := by omega
      have hy4 : w.heap.size < w2.heap.size + 1 + 1 + 1 + 1 := by omega
      have hy5 : w.heap.size < w2.heap.size + 1 + 1 + 1 + 1 + 1 := by omega
      have hy6 : w.heap.size < w2.heap.size + 1 + 1 + 1 + 1 + 1 + 1 := by omega
      have hy7 : w.heap.size < w2.heap.size + 1 + 1 + 1 + 1 + 1 + 1 + 1 := by omega
      have hy8 : w.heap.size < w2.heap.size + 1 + 1 + 1 + 1 + 1 + 1 + 1 + 1 := by omega
      have hy9 : w.heap.size < w2.heap.size + 1 + 1 + 1 + 1 + 1 + 1 + 1 + 1 + 1 := by omega
      obtain ⟨c0, c1, c2, c3, c4, c5, c6, c7⟩ := cap_cells k o r b ra g gb d w w2 hb02
      go_wp2_with fail
      refine (mint_any _ _ _ _ _ _ _ _ _ _ _ _ _).mono ?_; rintro e w3 ⟨rfl, hb3⟩; simp only [hE2, mG_self, mB_zero, mz, mzb, if_true]
      obtain ⟨x0, x1, x2, x3, x4, x5, x6, x7⟩ := cap_cells _ _ _ _ _ _ _ _ w2 w3 (hb3.mono (by simp))
      have hv0 : w2.heap.size < w3.heap.size := by have := hb3.size; simp at this; omega
      have hv1 : w2.heap.size < w3.heap.size + 1 := by omega
      have hv2 : w2.heap.size < w3.heap.size + 1 + 1 := by omega
      have hv3 : w2.heap.size < w3.heap.size + 1 + 1 + 1 := by omega
      have hb03 : Below (w.heap.size + 1) (w.alloc (.cells #[.int .i64 k, .int .i64 o, .int .i64 r, .int .i64 b, .int .i64 ra, .int .i64 g, .int .i64 gb, .bool d] 23)) w3 := by
        refine Below.trans ?_ (hb3.mono (by simp; omega))
        repeat (first | exact hb02 | (with_reducible refine Below.alloc ?_ (by first | omega | (simp; done) | (simp; omega)) _))
      clear hb3 hb02 c0 c1 c2 c3 c4 c5 c6 c7
      have hx0 : w.heap.size < w3.heap.size := by have := hb03.size; simp at this; omega
      have hx1 : w.heap.size < w3.heap.size + 1 := by omega
      have hx2 : w.heap.size < w3.heap.size + 1 + 1 := by omega
      have hx3 : w.heap.size < w3.heap.size + 1 + 1 + 1 := by omega
      have hx4 : w.heap.size < w3.heap.size + 1 + 1 + 1 + 1 := by omega
      have hx5 : w.heap.size < w3.heap.size + 1 + 1 + 1 + 1 + 1 := by omega
      have hx6 : w.heap.size < w3.heap.size + 1 + 1 + 1 + 1 + 1 + 1 := by omega
      have hx7 : w.heap.size < w3.heap.size + 1 + 1 + 1 + 1 + 1 + 1 + 1 := by omega
      have hx8 : w.heap.size < w3.heap.size + 1 + 1 + 1 + 1 + 1 + 1 + 1 + 1 := by omega
      have hx9 : w.heap.size < w3.heap.size + 1 + 1 + 1 + 1 + 1 + 1 + 1 + 1 + 1 := by omega
      obtain ⟨c0, c1, c2, c3, c4, c5, c6, c7⟩ := cap_cells k o r b ra g gb d w w3 hb03
      clear c0 c1 c2 c3 c4 c5 c6 c7 hy0 hy1 hy2 hy3 hy4 hy5 hy6 hy7 hy8 hy9 hz0 hz1 hz2 hz3 hz4 hz5 hz6 hz7 hz8 hz9
      go_wp2
      all_goals
        go_ret
        go_light
        refine ⟨rfl, ?_⟩
        repeat (first | exact Below.refl _ _ | refine below_allocs ?_ _)
        exact ((Below.refl _ _).alloc (Nat.le_refl _) _).trans (hb03.mono (by simp))
    · have h4 : (k != 4) = true := by simp; omega
      have h5 : (k != 5) = true := by simp; omega
      have h6 : (k != 6) = true := by simp; omega
      go_enter Try.func3, Try.ntmps3
      go_wp2_with fail
      refine (awake_any _).mono ?_; rintro e w1 ⟨rfl, hb1⟩
      have hz0 : w.heap.size < w1.heap.size := by have := hb1.size; simp at this; omega
      have hz1 : w.heap.size < w1.heap.size + 1 := by omega
      have hz2 : w.heap.size < w1.heap.size + 1 + 1 := by omega
      have hz3 : w.heap.size < w1.heap.size + 1 + 1 + 1 := by omega
      have hz4 : w.heap.size < w1.heap.size + 1 + 1 + 1 + 1 := by omega
      have hz5 : w.heap.size < w1.heap.size + 1 + 1 + 1 + 1 + 1 := by omega
      have hz6 : w.heap.size < w1.heap.size + 1 + 1 + 1 + 1 + 1 + 1 := by omega
      have hz7 : w.heap.size < w1.heap.size + 1 + 1 + 1 + 1 + 1 + 1 + 1 := by omega
      have hz8 : w.heap.size < w1.heap.size + 1 + 1 + 1 + 1 + 1 + 1 + 1 + 1 := by omega
      have hz9 : w.heap.size < w1.heap.size + 1 + 1 + 1 + 1 + 1 + 1 + 1 + 1 + 1 := by omega
      have hb01 : Below (w.heap.size + 1) (w.alloc (.cells #[.int .i64 k, .int .i64 o, .int .i64 r, .int .i64 b, .int .i64 ra, .int .i64 g, .int .i64 gb, .bool d] 23)) w1 := hb1.mono (by simp)
      clear hb1
      obtain ⟨c0, c1, c2, c3, c4, c5, c6, c7⟩ := cap_cells k o r b ra g gb d w w1 hb01
      go_wp2_with (first | (go_at_call 11; refine (mask_any _ _ _ _ _ _ _ _ _ _).mono ?_; rintro e w5 ⟨rfl, rfl⟩))
      refine (mint_any _ _ _ _ _ _ _ _ _ _ _ _ _).mono ?_; rintro e w2 ⟨rfl, hb2⟩; simp only [hE, mG_self, mz, mzb, if_true]
      have hb02 : Below (w.heap.size + 1) (w.alloc (.cells #[.int .i64 k, .int .i64 o, .int .i64 r, .int .i64 b, .int .i64 ra, .int .i64 g, .int .i64 gb, .bool d] 23)) w2 := by
        refine Below.trans ?_ (hb2.mono (by simp; omega))
        repeat (first | exact hb01 | (with_reducible refine Below.alloc ?_ (by first | omega | (simp; done) | (simp; omega)) _))
      clear hb2 hb01 c0 c1 c2 c3 c4 c5 c6 c7
      have hy0 : w.heap.size < w2.heap.size := by have := hb02.size; simp at this; omega
      have hy1 : w.heap.size < w2.heap.size + 1 := by omega
      have hy2 : w.heap.size < w2.heap.size + 1 + 1 := by omega
      have hy3 : w.heap.size < w2.heap.size + 1 + 1 + 1 := by omega
      have hy4 : w.heap.size < w2.heap.size + 1 + 1 + 1 + 1 := by omega
      have hy5 : w.heap.size < w2.heap.size + 1 + 1 + 1 + 1 + 1 := by omega
      have hy6 : w.heap.size < w2.heap.size + 1 + 1 + 1 + 1 + 1 + 1 := by omega
      have hy7 : w.heap.size < w2.heap.size + 1 + 1 + 1 + 1 + 1 + 1 + 1 := by omega
      have hy8 : w.heap.size < w2.heap.size + 1 + 1 + 1 + 1 + 1 + 1 + 1 + 1 := by omega
      have hy9 : w.heap.size < w2.heap.size + 1 + 1 + 1 + 1 + 1 + 1 + 1 + 1 + 1 := by omega
      obtain ⟨c0, c1, c2, c3, c4, c5, c6, c7⟩ := cap_cells k o r b ra g gb d w w2 hb02
      go_wp2_with fail
      refine (mint_any _ _ _ _ _ _ _ _ _ _ _ _ _).mono ?_; rintro e w3 ⟨rfl, hb3⟩; simp only [hE2, mG_self, mB_zero, mz, mzb, if_true]
      obtain ⟨x0, x1, x2, x3, x4, x5, x6, x7⟩ := cap_cells _ _ _ _ _ _ _ _ w2 w3 (hb3.mono (by simp))
      have hv0 : w2.heap.size < w3.heap.size := by have := hb3.size; simp at this; omega
      have hv1 : w2.heap.size < w3.heap.size + 1 := by omega
      have hv2 : w2.heap.size < w3.heap.size + 1 + 1 := by omega
      have hv3 : w2.heap.size < w3.heap.size + 1 + 1 + 1 := by omega
      have hb03 : Below (w.heap.size + 1) (w.alloc (.cells #[.int .i64 k, .int .i64 o, .int .i64 r, .int .i64 b, .int .i64 ra, .int .i64 g, .int .i64 gb, .bool d] 23)) w3 := by
        refine Below.trans ?_ (hb3.mono (by simp; omega))
        repeat (first | exact hb02 | (with_reducible refine Below.alloc ?_ (by first | omega | (simp; done) | (simp; omega)) _))
      clear hb3 hb02 c0 c1 c2 c3 c4 c5 c6 c7
      have hx0 : w.heap.size < w3.heap.size := by have := hb03.size; simp at this; omega
      have hx1 : w.heap.size < w3.heap.size + 1 := by omega
      have hx2 : w.heap.size < w3.heap.size + 1 + 1 := by omega
      have hx3 : w.heap.size < w3.heap.size + 1 + 1 + 1 := by omega
      have hx4 : w.heap.size < w3.heap.size + 1 + 1 + 1 + 1 := by omega
      have hx5 : w.heap.size < w3.heap.size + 1 + 1 + 1 + 1 + 1 := by omega
      have hx6 : w.heap.size < w3.heap.size + 1 + 1 + 1 + 1 + 1 + 1 := by omega
      have hx7 : w.heap.size < w3.heap.size + 1 + 1 + 1 + 1 + 1 + 1 + 1 := by omega
      have hx8 : w.heap.size < w3.heap.size + 1 + 1 + 1 + 1 + 1 + 1 + 1 + 1 := by omega
      have hx9 : w.heap.size < w3.heap.size + 1 + 1 + 1 + 1 + 1 + 1 + 1 + 1 + 1 := by omega
      obtain ⟨c0, c1, c2, c3, c4, c5, c6, c7⟩ := cap_cells k o r b ra g gb d w w3 hb03
      clear c0 c1 c2 c3 c4 c5 c6 c7 hy0 hy1 hy2 hy3 hy4 hy5 hy6 hy7 hy8 hy9 hz0 hz1 hz2 hz3 hz4 hz5 hz6 hz7 hz8 hz9
      go_wp2
      all_goals
        go_ret
        go_light
        refine ⟨rfl, ?_⟩
        repeat (first | exact Below.refl _ _ | refine below_allocs ?_ _)
        exact ((Below.refl _ _).alloc (Nat.le_refl _) _).trans (hb03.mono (by simp))
  · have hn : (mintE k b badge g gb != 0) = true := by simp [hE]
    go_enter Try.func3, Try.ntmps3
    go_wp2_with fail
    refine (awake_any _).mono ?_; rintro e w1 ⟨rfl, hb1⟩
    have hz0 : w.heap.size < w1.heap.size := by have := hb1.size; simp at this; omega
    have hz1 : w.heap.size < w1.heap.size + 1 := by omega
    have hz2 : w.heap.size < w1.heap.size + 1 + 1 := by omega
    have hz3 : w.heap.size < w1.heap.size + 1 + 1 + 1 := by omega
    have hz4 : w.heap.size < w1.heap.size + 1 + 1 + 1 + 1 := by omega
    have hz5 : w.heap.size < w1.heap.size + 1 + 1 + 1 + 1 + 1 := by omega
    have hz6 : w.heap.size < w1.heap.size + 1 + 1 + 1 + 1 + 1 + 1 := by omega
    have hz7 : w.heap.size < w1.heap.size + 1 + 1 + 1 + 1 + 1 + 1 + 1 := by omega
    have hz8 : w.heap.size < w1.heap.size + 1 + 1 + 1 + 1 + 1 + 1 + 1 + 1 := by omega
    have hz9 : w.heap.size < w1.heap.size + 1 + 1 + 1 + 1 + 1 + 1 + 1 + 1 + 1 := by omega
    have hb01 : Below (w.heap.size + 1) (w.alloc (.cells #[.int .i64 k, .int .i64 o, .int .i64 r, .int .i64 b, .int .i64 ra, .int .i64 g, .int .i64 gb, .bool d] 23)) w1 := hb1.mono (by simp)
    clear hb1
    obtain ⟨c0, c1, c2, c3, c4, c5, c6, c7⟩ := cap_cells k o r b ra g gb d w w1 hb01
    go_wp2_with (first | (go_at_call 11; refine (mask_any _ _ _ _ _ _ _ _ _ _).mono ?_; rintro e w5 ⟨rfl, rfl⟩))
    refine (mint_any _ _ _ _ _ _ _ _ _ _ _ _ _).mono ?_; rintro e w2 ⟨rfl, hb2⟩; simp only [hE, mz, mzb, if_false]
    have hb02 : Below (w.heap.size + 1) (w.alloc (.cells #[.int .i64 k, .int .i64 o, .int .i64 r, .int .i64 b, .int .i64 ra, .int .i64 g, .int .i64 gb, .bool d] 23)) w2 := by
      refine Below.trans ?_ (hb2.mono (by simp; omega))
      repeat (first | exact hb01 | (with_reducible refine Below.alloc ?_ (by first | omega | (simp; done) | (simp; omega)) _))
    clear hb2 hb01 c0 c1 c2 c3 c4 c5 c6 c7
    have hy0 : w.heap.size < w2.heap.size := by have := hb02.size; simp at this; omega
    have hy1 : w.heap.size < w2.heap.size + 1 := by omega
    have hy2 : w.heap.size < w2.heap.size + 1 + 1 := by omega
    have hy3 : w.heap.size < w2.heap.size + 1 + 1 + 1 := by omega
    have hy4 : w.heap.size < w2.heap.size + 1 + 1 + 1 + 1 := by omega
    have hy5 : w.heap.size < w2.heap.size + 1 + 1 + 1 + 1 + 1 := by omega
    have hy6 : w.heap.size < w2.heap.size + 1 + 1 + 1 + 1 + 1 + 1 := by omega
    have hy7 : w.heap.size < w2.heap.size + 1 + 1 + 1 + 1 + 1 + 1 + 1 := by omega
    have hy8 : w.heap.size < w2.heap.size + 1 + 1 + 1 + 1 + 1 + 1 + 1 + 1 := by omega
    have hy9 : w.heap.size < w2.heap.size + 1 + 1 + 1 + 1 + 1 + 1 + 1 + 1 + 1 := by omega
    obtain ⟨c0, c1, c2, c3, c4, c5, c6, c7⟩ := cap_cells k o r b ra g gb d w w2 hb02
    go_wp2_with fail
    refine (mint_any _ _ _ _ _ _ _ _ _ _ _ _ _).mono ?_; rintro e w3 ⟨rfl, hb3⟩
    obtain ⟨x0, x1, x2, x3, x4, x5, x6, x7⟩ := cap_cells _ _ _ _ _ _ _ _ w2 w3 (hb3.mono (by simp))
    have hv0 : w2.heap.size < w3.heap.size := by have := hb3.size; simp at this; omega
    have hv1 : w2.heap.size < w3.heap.size + 1 := by omega
    have hv2 : w2.heap.size < w3.heap.size + 1 + 1 := by omega
    have hv3 : w2.heap.size < w3.heap.size + 1 + 1 + 1 := by omega
    have hb03 : Below (w.heap.size + 1) (w.alloc (.cells #[.int .i64 k, .int .i64 o, .int .i64 r, .int .i64 b, .int .i64 ra, .int .i64 g, .int .i64 gb, .bool d] 23)) w3 := by
      refine Below.trans ?_ (hb3.mono (by simp; omega))
      repeat (first | exact hb02 | (with_reducible refine Below.alloc ?_ (by first | omega | (simp; done) | (simp; omega)) _))
    clear hb3 hb02 c0 c1 c2 c3 c4 c5 c6 c7
    have hx0 : w.heap.size < w3.heap.size := by have := hb03.size; simp at this; omega
    have hx1 : w.heap.size < w3.heap.size + 1 := by omega
    have hx2 : w.heap.size < w3.heap.size + 1 + 1 := by omega
    have hx3 : w.heap.size < w3.heap.size + 1 + 1 + 1 := by omega
    have hx4 : w.heap.size < w3.heap.size + 1 + 1 + 1 + 1 := by omega
    have hx5 : w.heap.size < w3.heap.size + 1 + 1 + 1 + 1 + 1 := by omega
    have hx6 : w.heap.size < w3.heap.size + 1 + 1 + 1 + 1 + 1 + 1 := by omega
    have hx7 : w.heap.size < w3.heap.size + 1 + 1 + 1 + 1 + 1 + 1 + 1 := by omega
    have hx8 : w.heap.size < w3.heap.size + 1 + 1 + 1 + 1 + 1 + 1 + 1 + 1 := by omega
    have hx9 : w.heap.size < w3.heap.size + 1 + 1 + 1 + 1 + 1 + 1 + 1 + 1 + 1 := by omega
    obtain ⟨c0, c1, c2, c3, c4, c5, c6, c7⟩ := cap_cells k o r b ra g gb d w w3 hb03
    clear c0 c1 c2 c3 c4 c5 c6 c7 hy0 hy1 hy2 hy3 hy4 hy5 hy6 hy7 hy8 hy9 hz0 hz1 hz2 hz3 hz4 hz5 hz6 hz7 hz8 hz9
    go_wp2
    all_goals
      go_ret
      go_light
      refine ⟨rfl, ?_⟩
      repeat (first | exact Below.refl _ _ | refine below_allocs ?_ _)
      exact ((Below.refl _ _).alloc (Nat.le_refl _) _).trans (hb03.mono (by simp))
end Go.Proofs.Ytcbbmgohdcabeaa
namespace Go.Proofs.Ytcbbmgohdcabeaa
open Go.Joins Go.ChangeShapes Go.WideShapes Go.ChangeAt Go.RowKit
theorem CapsTwice_lifted (os : Os) (started : os.Started) (H : Type) (enc : TypeId × Value → H) :
    ReturnsInHanded {} Try.checked os 3 .any (Rows.capsTwiceSpec.pre6 enc Try.prog Try.f3 Rows.capsTwiceRow.domain false) (Rows.capsTwiceSpec.post enc Try.prog Try.f3 false true false false) := by
  refine returnsInHanded_of_change (C := Try.checked) own started (by kernel_rfl) Try.func3
    (ChangeSpec.witness6 (enc := enc) (C := Try.checked) false ⟨#[], #[.agg #[.int .i64 0, .int .i64 0, .int .i64 0, .int .i64 0, .int .i64 0, .int .i64 0, .int .i64 0, .bool false], .int .i64 0, .int .i64 0, .int .i64 0], []⟩ 8 (by kernel_rfl) (by kernel_rfl) (by kernel_rfl) (by kernel_rfl)) ?_
  intro W base args ds gs before hval0 hW hcnd _
  have hval : ∀ (j : Nat) t v, Try.f3.params[j]? = some t → args[j]? = some v → Value.okWide Try.prog W .any base t v := hval0
  have hW' := hW
  obtain ⟨p, q, hA0, hV, rfl, hfz, hnd⟩ := hW
  have hA : DataW.TrodAll enc Try.prog W 0 (fun _ => true) true Try.f3.params.toList args.toList ds p := hA0
  rw [Try.params3] at hA hval
  obtain ⟨rfl, rfl⟩ := trodVars_none hV
  clear hA0 hval0
  obtain ⟨args⟩ := args
  obtain ⟨v0, vs0, d0, ds0, p0, q0, ha0, rfl, rfl, h0, r0⟩ := trodAll_cons hA
  simp only at ha0
  subst ha0
  obtain ⟨v1, vs1, d1, ds1, p1, q1, ha1, rfl, rfl, h1, r1⟩ := trodAll_cons r0
  subst ha1
  obtain ⟨v2, vs2, d2, ds2, p2, q2, ha2, rfl, rfl, h2, r2⟩ := trodAll_cons r1
  subst ha2
  obtain ⟨v3, vs3, d3, ds3, p3, q3, ha3, rfl, rfl, h3, r3⟩ := trodAll_cons r2
  subst ha3
  obtain ⟨hn, rfl, rfl⟩ := trodAll_nil r3
  subst hn
  obtain ⟨k, o, r, b, ra, g, gb, d, rfl, hr0, hr1⟩ := open_cap (hval 0 23 v0 rfl rfl) h0
  obtain ⟨one, rfl, _, _, wf_one⟩ := open_int Try.underlying3 (hval 1 3 v1 rfl rfl) h1
  obtain ⟨other, rfl, _, _, wf_other⟩ := open_int Try.underlying3 (hval 2 3 v2 rfl rfl) h2
  obtain ⟨badge, rfl, _, _, wf_badge⟩ := open_int Try.underlying3 (hval 3 3 v3 rfl rfl) h3
  refine (walk_CapsTwice k o r b ra g gb d one other badge W).mono fun e W' ⟨he, hb⟩ => ⟨_, he, ?_⟩
  exact law_post laidOut (by kernel_rfl) (by kernel_rfl) Try.underlying4 rfl hW' rfl hb

theorem CapsTwice_over : Rows.capsTwiceRow.holds Try.pinned (OpenSpec.ofChange Rows.capsTwiceSpec) :=
  OpenClaim.holds_of_wide 3 Try.f3 rfl rfl rfl rfl rfl rfl rfl ⟨rfl, rfl, rfl, rfl, rfl⟩ rfl rfl rfl rfl rfl (by kernel_rfl) Try.func3 (by kernel_rfl)
    (of_decide_eq_true (by kernel_rfl)) (by unfold Func.isWrapper; first | (rw [if_pos (by decide +kernel)]; kernel_rfl) | (rw [if_neg (by decide +kernel)]; exact ⟨rfl, rfl⟩))
    (fun os started H enc _ => CapsTwice_lifted os started H enc)

theorem CapsTwice_holds : Rows.CapsTwiceSaid := CapsTwice_over
#print axioms CapsTwice_holds
end Go.Proofs.Ytcbbmgohdcabeaa
