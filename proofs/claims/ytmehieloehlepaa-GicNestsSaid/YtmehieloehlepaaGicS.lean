/- The contract of the law's 'same' (function 20): where the program's controller and the reference's stand alike it answers true; it makes new memory alone. -/
import Derived.Test.YtmehieloehlepaaGicP
namespace Go.Proofs.Ytmehieloehlepaa
open Go.RowKit
set_option maxRecDepth 100000

set_option maxHeartbeats 8000000 in
theorem same_any (g r : Nat) (G : Gm) (w : World) (hG : GicAt w g G) (hR : RefAt w r G) (hok : Okg G) :
    Calls Try.prog 20 #[.pointer (some ⟨g, 0, none⟩), .pointer (some ⟨r, 0, none⟩)] w fun e w' => e = .returned (.bool true) ∧ Below w.heap.size w w' := by
  have HG := Lib.hid hG; have HR := Lib.hid hR; have HO := Lib.hid hok; clear hG hR hok
  obtain ⟨x, y, z, hN, hX⟩ : ∃ (x : Int) (y : Bool) (z : Int), nextF G (mn2 G.mask (runF G 32)) 32 = (x, y, z) ∧
      ∀ e, (((∃ j : Nat, First G (bar G) 32 j ∧ e = Ending.returned (.tuple #[.int .i64 j, .bool true])) ∨ ((∀ i, i < 32 → ¬ Cand G (bar G) i) ∧ e = .returned (.tuple #[.int .i64 0, .bool false]))) →
        e = .returned (.tuple #[.int .i64 x, .bool y])) := by
    rcases nextF_is G (bar G) 32 with ⟨e, hn⟩ | ⟨j, e, hj⟩
    · refine ⟨0, false, _, e, ?_⟩
      rintro e' (⟨j, hj, _⟩ | ⟨_, h⟩)
      · exact absurd hj.2.1 (hn j hj.1)
      · exact h
    · refine ⟨j, true, _, e, ?_⟩
      rintro e' (⟨j', hj', h⟩ | ⟨hn, _⟩)
      · obtain rfl := hj.unique hj'; exact h
      · exact absurd hj.2.1 (hn j hj.1)
  have HN := Lib.hid hN; have HX := Lib.hid hX; clear hN hX
  go_enter Try.func20, Try.ntmps20
  go_wp2_with fail
  refine (next_any g G _ HG.out).mono ?_
  rw [HN.out]
  rintro e w1 ⟨rfl, hb1⟩
  have B1 := Lib.hid hb1; clear hb1
  go_wp2_with fail
  refine (rnext_any r G _ (HR.out.below B1.out) HO.out).mono ?_
  rintro e w2 ⟨he, n, rfl⟩
  obtain rfl := HX.out e he
  clear he
  have B2 : Hid (Below w.heap.size w (w1.drewN n)) := Lib.hid (below_drewN B1.out n)
  obtain ⟨w2, hw2⟩ : ∃ w2, w1.drewN n = w2 := ⟨_, rfl⟩
  rw [hw2] at B2 ⊢
  clear hw2
  go_wp2_with fail
  refine (running_any g G _ (HG.out.below B2.out)).mono ?_
  rintro e w3 ⟨rfl, hb3⟩
  have B3 : Hid (Below w.heap.size w w3) := Lib.hid (B2.out.trans (hb3.mono B2.out.size)); clear hb3 B2
  obtain ⟨q, hq⟩ : ∃ q, runF G 32 = q := ⟨_, rfl⟩
  have HQ := Lib.hid hq
  rw [hq]
  clear hq
  go_wp2_with (go_at_call 34; refine (rrunning_any r G _ (HR.out.below B3.out)).mono ?_; rw [HQ.out]; rintro e w4 ⟨rfl, rfl⟩)
  clear B1
  go_loopw [10, 11, 12] (fun v10 v11 v12 wr => ∃ i : Nat, i ≤ 32 ∧ v10 = .int .i64 i ∧ Below w.heap.size w wr) (fun v10 _ _ _ => 32 - (intOf v10).toNat)
  case atStart => exact ⟨0, by omega, rfl, B3.out⟩
  case round =>
    obtain ⟨i, hi, rfl, hb⟩ := hrel
    have HB := Lib.hid hb; clear hb
    by_cases hlt : i < 32
    · go_wp2_with fail
      refine (state_ok g G _ (HG.out.below HB.out) i (by omega) (by omega)).mono ?_
      rw [Int.toNat_natCast]
      rintro e w5 ⟨rfl, hb5⟩
      have B5 : Hid (Below w.heap.size w w5) := Lib.hid (HB.out.trans (hb5.mono HB.out.size)); clear hb5
      have HR5 : Hid (RefAt w5 r G) := Lib.hid (HR.out.below B5.out)
      have z0 : r < w5.heap.size := RowAt.lt HR5.out
      have cp := RowAt.cell HR5.out i (by omega)
      have ce := RowAt.cell HR5.out (32 + i) (by omega)
      have cq := RowAt.cell HR5.out (64 + i) (by omega)
      have ca := RowAt.cell HR5.out (96 + i) (by omega)
      rw [rcell_pr G i hlt] at cp
      rw [rcell_en G i hlt] at ce
      rw [rcell_pe G i hlt] at cq
      rw [rcell_ac G i hlt] at ca
      go_wp2_with fail
      go_quiet (fail)
      go_wp2
      go_roundw
      case rel => exact ⟨i + 1, by omega, by go_num, by repeat (first | exact B5.out | refine below_drewN ?_ _ | refine Below.alloc ?_ (by have := B5.out.size; omega) _)⟩
      case measure => simp [intOf]; omega
    · go_wp2_with fail
      refine (state_err g _ 32 (by omega)).mono ?_
      rintro e w5 ⟨rfl, hb5⟩
      have B5 : Hid (Below w.heap.size w w5) := Lib.hid (HB.out.trans (hb5.mono HB.out.size)); clear hb5
      go_wp2_with fail
      refine (state_err g _ (-1) (by omega)).mono ?_
      rintro e w6 ⟨rfl, hb6⟩
      have B6 : Hid (Below w.heap.size w w6) := Lib.hid (by refine Below.trans ?_ (hb6.mono (by have := B5.out.size; simp; omega)); exact B5.out.alloc B5.out.size _); clear hb6
      go_wp2
      go_ret
      go_light
      exact ⟨rfl, B6.out.alloc B6.out.size _⟩
end Go.Proofs.Ytmehieloehlepaa
