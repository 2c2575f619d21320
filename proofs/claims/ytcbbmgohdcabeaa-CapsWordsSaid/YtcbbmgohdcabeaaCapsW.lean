/- The contract of the caps laws' own examples (function 10): they hold; no condition. -/
import Derived.Test.YtcbbmgohdcabeaaCapsE
import Derived.Test.YtcbbmgohdcabeaaCapsN
namespace Go.Proofs.Ytcbbmgohdcabeaa
open Go.RowKit
set_option maxRecDepth 100000
theorem ew1 : encW 4 5 3 1 0 0 0 false = 311380 := by decide +kernel
theorem ee1 : encE 4 5 3 1 0 0 0 false = 0 := by decide +kernel
theorem er1 : rightB 5 0 8 0 0 0 0 false = false := by decide +kernel
theorem m11 : mintE 4 1 2 0 0 = 110 := by decide +kernel
theorem m21 : mintE 4 0 7 0 0 = 0 := by decide +kernel
theorem m22 : mR 4 11 1 = 1 := by decide +kernel
theorem m23 : mB 4 0 7 = 7 := by decide +kernel
theorem m24 : mG 4 0 0 = 0 := by decide +kernel
theorem d1 : derE 1 = 110 := by decide +kernel
theorem d2 : derE 0 = 131 := by decide +kernel
theorem below_next {w a b : World} (h : Below w.heap.size w a) (h2 : Below a.heap.size a b) : Below w.heap.size w b := h.trans (h2.mono h.size)
theorem below_next1 {w a b : World} {o : Obj} (h : Below w.heap.size w a) (h2 : Below (a.alloc o).heap.size (a.alloc o) b) : Below w.heap.size w b :=
  (h.alloc h.size o).trans (h2.mono (by have := h.size; simp; omega))
theorem below_allocs {w a : World} (h : Below w.heap.size w a) (o : Obj) : Below w.heap.size w (a.alloc o) := h.alloc h.size o
set_option maxHeartbeats 1000000 in
theorem awake_any (w : World) :
    Calls Try.prog 10 #[] w fun e w' => e = .returned (.bool true) ∧ Below w.heap.size w w' := by
  go_enter Try.func10, Try.ntmps10
  go_wp2_with fail
  refine (encode_any _ _ _ _ _ _ _ _ _ (by omega) (by omega)).mono ?_; rintro e w1 ⟨rfl, hb1⟩; simp only [ew1, ee1]
  go_wp2_with fail
  refine (right_any _ _ _ _ _ _ _ _ _).mono ?_; rintro e w2 ⟨rfl, hb2⟩; simp only [er1]
  replace hb2 := below_next hb1 hb2; clear hb1
  go_wp2_with fail
  refine (mint_any _ _ _ _ _ _ _ _ _ _ _ _ _).mono ?_; rintro e w3 ⟨rfl, hb3⟩; simp only [m11, mz, mzb, (by decide : ¬ (110 : Int) = 0), if_false]
  replace hb3 := below_next hb2 hb3; clear hb2
  go_wp2_with fail
  refine (mint_any _ _ _ _ _ _ _ _ _ _ _ _ _).mono ?_; rintro e w4 ⟨rfl, hb4⟩; simp only [m21, m22, m23, m24, mz, mzb, if_true]
  replace hb4 := below_next1 hb3 hb4; clear hb3
  go_wp2_with (first | (go_at_call 13; refine (derive_any _ _ _ _ _ _ _ _ _).mono ?_; rintro e w5 ⟨rfl, rfl⟩; simp only [d1, d2, dz, dzb, (by decide : ¬ (110 : Int) = 0), (by decide : ¬ (131 : Int) = 0), if_false]))
  go_ret
  go_light
  exact ⟨rfl, by repeat (first | exact hb4 | refine below_allocs ?_ _)⟩
end Go.Proofs.Ytcbbmgohdcabeaa
