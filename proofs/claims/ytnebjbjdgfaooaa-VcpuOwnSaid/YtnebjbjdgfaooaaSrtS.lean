/- The contracts of swapRange and of rotate over slices of list-register records. Condition: the ranges lie in the slice. -/
import Derived.Test.YtnebjbjdgfaooaaSrtM
import Derived.BigRegion
namespace Go.Proofs.Ytnebjbjdgfaooaa
open Go.RowKit
set_option maxRecDepth 100000
set_option maxHeartbeats 2000000 in
theorem sr_any (q M n cap : Nat) (cv : Value) (a b m : Nat) (f : Nat → LrE) (w : World) (h : LrAt w q M n f) (hn : n < 4611686018427387904) (h1 : a + m ≤ b) (h2 : b + m ≤ n) :
    Calls Try.prog 87 #[.slice (some ⟨q, 0, none⟩) n cap, .int .i64 a, .int .i64 b, .int .i64 m, cv] w fun e w' => e = .returned (.tuple #[]) ∧ LrAt w' q M n (srF f a b m) ∧ Upd (· = q) w w' := by
  have H := Lib.hid h; clear h
  go_enter Try.func87, Try.ntmps87
  go_wp2_with fail
  go_loopw [10] (fun v10 wr => ∃ i : Nat, i ≤ m ∧ v10 = .int .i64 i ∧ LrAt wr q M n (srF f a b i) ∧ Upd (· = q) w wr) (fun v10 _ => m - (intOf v10).toNat)
  case atStart => exact ⟨0, by omega, rfl, by rw [srF_zero]; exact H.out, Upd.refl _ _⟩
  case round =>
    obtain ⟨i, hi, rfl, hl, hu⟩ := hrel
    have HL := Lib.hid hl; have HU := Lib.hid hu; clear hl hu
    by_cases him : i < m
    · obtain ⟨x, hx⟩ : ∃ x : Nat, (a : Int) + (i : Int) = (x : Int) := ⟨a + i, by omega⟩
      obtain ⟨y, hy⟩ : ∃ y : Nat, (b : Int) + (i : Int) = (y : Int) := ⟨b + i, by omega⟩
      have hxn : (x : Int) < (n : Int) := by omega
      have hyn : (y : Int) < (n : Int) := by omega
      have hxe : x = a + i := by omega
      have hye : y = b + i := by omega
      obtain ⟨g, hg⟩ : ∃ g, srF f a b i = g := ⟨_, rfl⟩
      have HG : Hid (swF g x y = srF f a b (i + 1)) := Lib.hid (by rw [← hg, hxe, hye]; exact srF_succ f a b i (by omega))
      rw [hg] at HL
      obtain ⟨x0, x1, x2, x3, x4⟩ := HL.out.cells x (by omega)
      obtain ⟨y0, y1, y2, y3, y4⟩ := HL.out.cells y (by omega)
      have hfz := fun k => HL.out.frozen k
      clear hg hxe hye
      go_wp2_with fail
      go_region
      go_wp2_with fail
      go_roundw
      case rel => exact ⟨i + 1, by omega, by go_num, by rw [← HG.out]; with_reducible exact LrAt.drew (LrAt.swc HL.out x y), by with_reducible exact Upd.drew (Upd.swc HU.out x y _ _)⟩
      case measure => simp [intOf]; omega
    · obtain rfl : i = m := by omega
      go_wp2_with fail
      exact bodyPost_end (v := .tuple #[]) (by first | rfl | simp [results, Try.results87, go_sem]) rfl ⟨rfl, HL.out, HU.out⟩

set_option maxHeartbeats 1000000 in
theorem rot_any (q M n cap : Nat) (cv : Value) (lo m hi : Nat) (f : Nat → LrE) (w : World) (h : LrAt w q M n f) (hn : n < 4611686018427387904) (h1 : lo < m) (h2 : m < hi) (h3 : hi ≤ n) :
    Calls Try.prog 86 #[.slice (some ⟨q, 0, none⟩) n cap, .int .i64 lo, .int .i64 m, .int .i64 hi, cv] w fun e w' => e = .returned (.tuple #[]) ∧ LrAt w' q M n (rotF f lo m hi) ∧ Upd (· = q) w w' := by
  have H := Lib.hid h; clear h
  obtain ⟨i0, hi0⟩ : ∃ x : Nat, (m : Int) - (lo : Int) = (x : Int) := ⟨m - lo, by omega⟩
  obtain ⟨j0, hj0⟩ : ∃ x : Nat, (hi : Int) - (m : Int) = (x : Int) := ⟨hi - m, by omega⟩
  have EI : Hid (m - i0 = lo) := Lib.hid (by omega)
  have EJ : Hid (m + j0 = hi) := Lib.hid (by omega)
  have gi : 0 < i0 := by omega
  have gj : 0 < j0 := by omega
  have gm : i0 ≤ m := by omega
  go_enter Try.func86, Try.ntmps86
  go_wp2_with fail
  go_loopw [10, 11] (fun vi vj wr => ∃ (i j : Nat) (g : Nat → LrE), vi = .int .i64 i ∧ vj = .int .i64 j ∧ 0 < i ∧ 0 < j ∧ i ≤ m ∧ m + j ≤ n ∧ LrAt wr q M n g ∧ rotF g (m - i) m (m + j) = rotF f lo m hi ∧ Upd (· = q) w wr) (fun vi vj _ => (intOf vi).toNat + (intOf vj).toNat)
  case atStart => exact ⟨i0, j0, f, rfl, rfl, gi, gj, gm, by have := EJ.out; omega, H.out, by rw [EI.out, EJ.out], Upd.refl _ _⟩
  case round =>
    clear hi0 hj0 EI EJ gi gj gm
    obtain ⟨i, j, g, rfl, rfl, pi, pj, him, hjn, hl, hg, hu⟩ := hrel
    have HL := Lib.hid hl; have HU := Lib.hid hu; have HG := Lib.hid hg; clear hl hu hg
    obtain ⟨x, hx⟩ : ∃ x : Nat, (m : Int) - (i : Int) = (x : Int) := ⟨m - i, by omega⟩
    have EX : Hid (x = m - i) := Lib.hid (by omega)
    rcases (by omega : i = j ∨ j < i ∨ i < j) with rfl | hji | hij
    · go_wp2_with fail
      refine (sr_any q M n cap cv x m i g _ HL.out hn (by have := EX.out; omega) (by have := EX.out; omega)).mono ?_
      rintro e w1 ⟨rfl, hl1, hu1⟩
      have HF : Hid (LrAt w1 q M n (rotF f lo m hi)) := Lib.hid (by rw [← HG.out, ← rot_eq g m i him, ← EX.out]; exact hl1)
      have HU1 := Lib.hid (HU.out.trans hu1)
      clear hl1 hu1
      go_wp2_with fail
      exact bodyPost_end (v := .tuple #[]) (by first | rfl | simp [results, Try.results86, go_sem]) rfl ⟨rfl, HF.out, HU1.out⟩
    · obtain ⟨k, hk⟩ : ∃ k : Nat, (i : Int) - (j : Int) = (k : Int) := ⟨i - j, by omega⟩
      have hne : ((i : Int) != (j : Int)) = true := by simp; omega
      go_wp2_with fail
      refine (sr_any q M n cap cv x m j g _ HL.out hn (by have := EX.out; omega) (by have := EX.out; omega)).mono ?_
      rintro e w1 ⟨rfl, hl1, hu1⟩
      have HL1 := Lib.hid hl1
      have HU1 := Lib.hid (HU.out.trans hu1)
      have HG1 : Hid (rotF (srF g x m j) (m - k) m (m + j) = rotF f lo m hi) := Lib.hid (by rw [← HG.out, ← rot_gt g m i j him hji, ← EX.out, show i - j = k by omega])
      clear hl1 hu1 HL HG HU
      go_wp2_with fail
      go_roundw
      case rel => exact ⟨k, j, _, rfl, rfl, by omega, pj, by omega, hjn, HL1.out, HG1.out, HU1.out⟩
      case measure => simp [intOf]; omega
    · obtain ⟨k, hk⟩ : ∃ k : Nat, (j : Int) - (i : Int) = (k : Int) := ⟨j - i, by omega⟩
      obtain ⟨z, hz⟩ : ∃ z : Nat, (m : Int) + (j : Int) = (z : Int) := ⟨m + j, by omega⟩
      obtain ⟨y, hy⟩ : ∃ y : Nat, (z : Int) - (i : Int) = (y : Int) := ⟨z - i, by omega⟩
      have hne : ((i : Int) != (j : Int)) = true := by simp; omega
      go_wp2_with fail
      refine (sr_any q M n cap cv x y i g _ HL.out hn (by have := EX.out; omega) (by have := EX.out; omega)).mono ?_
      rintro e w1 ⟨rfl, hl1, hu1⟩
      have HL1 := Lib.hid hl1
      have HU1 := Lib.hid (HU.out.trans hu1)
      have HG1 : Hid (rotF (srF g x y i) (m - i) m (m + k) = rotF f lo m hi) := Lib.hid (by rw [← HG.out, ← rot_lt g m i j him hij, ← EX.out, show j - i = k by omega, show m + j - i = y by omega])
      clear hl1 hu1 HL HG HU
      go_wp2_with fail
      go_roundw
      case rel => exact ⟨i, k, _, rfl, rfl, pi, by omega, him, by omega, HL1.out, HG1.out, HU1.out⟩
      case measure => simp [intOf]; omega
end Go.Proofs.Ytnebjbjdgfaooaa
