/- symMerge's contract where the right run is one record. Conditions: the ranges lie in the slice; the left run is sorted, and is not one record. -/
import Derived.Test.YtnebjbjdgfaooaaSrtA
namespace Go.Proofs.Ytnebjbjdgfaooaa
open Go.RowKit
set_option maxRecDepth 100000
set_option maxHeartbeats 1000000 in
theorem sm_right (q M n cap a m b : Nat) (f : Nat → LrE) (w : World) (h : LrAt w q M n f) (hn : n < 4611686018427387904) (hm : b = m + 1) (ham : a < m) (hne : ¬ m = a + 1) (hbn : b ≤ n) (hs : Sg a m f) (hid : Idlt a m b f) :
    Calls Try.prog 85 #[.slice (some ⟨q, 0, none⟩) n cap, .int .i64 a, .int .i64 m, .int .i64 b, .func (.func 49) #[] #[]] w fun e w' => e = .returned (.tuple #[]) ∧ (∃ g, Pm a b f g ∧ Sg a b g ∧ LrAt w' q M n g) ∧ Upd (· = q) w w' := by
  have H := Lib.hid h; clear h
  have HS := Lib.hid hs; have HID := Lib.hid hid; clear hs hid
  obtain ⟨x, hx⟩ : ∃ x : Nat, (m : Int) - (a : Int) = (x : Int) := ⟨m - a, by omega⟩
  have hx1 : ((x : Int) == 1) = false := by simp; omega
  have hma : (b : Int) - (m : Int) = 1 := by omega
  have HM := Lib.hid hm; clear hm
  go_enter Try.func85, Try.ntmps85
  go_wp2_with fail
  go_loopw [14, 15, 16] (fun v14 v15 _ wr => ∃ i j : Nat, a ≤ i ∧ i ≤ j ∧ j ≤ m ∧ v14 = .int .i64 i ∧ v15 = .int .i64 j ∧ (∀ k, a ≤ k → k < i → klt (f m) (f k) = false) ∧ (∀ k, j ≤ k → k < m → klt (f m) (f k) = true) ∧ LrAt wr q M n f ∧ Upd (· = q) w wr) (fun v14 v15 _ _ => (intOf v15).toNat - (intOf v14).toNat)
  case atStart => exact ⟨a, m, by omega, by omega, by omega, rfl, rfl, fun k h0 h1 => by omega, fun k h0 h1 => by omega, H.out, Upd.refl _ _⟩
  case round =>
    clear H
    obtain ⟨i, j, hmi, hij, hjb, rfl, rfl, hl, hr, hL, hu⟩ := hrel
    have HL := Lib.hid hL; have HU := Lib.hid hu; have HA := Lib.hid hl; have HB := Lib.hid hr; clear hL hu hl hr
    by_cases hlt : i < j
    · have hd : decide ((i : Int) < (j : Int)) = true := by simp; omega
      obtain ⟨s, hs⟩ : ∃ s : Nat, (i : Int) + (j : Int) = (s : Int) := ⟨i + j, by omega⟩
      obtain ⟨c, hc⟩ : ∃ c : Nat, (s : Int) / 2 = (c : Int) := ⟨s / 2, by omega⟩
      have hci : i ≤ c := by omega
      have hcj : c < j := by omega
      have hcn : (c : Int) < (n : Int) := by omega
      have hmn : (m : Int) < (n : Int) := by have := HM.out; omega
      obtain ⟨x0, x1, x2, x3, x4⟩ := HL.out.cells m (by omega)
      obtain ⟨y0, y1, y2, y3, y4⟩ := HL.out.cells c (by omega)
      cases hk : klt (f m) (f c)
      · have hcv : decide (cmpV (f m) (f c) < 0) = false := by rw [cmpV_lt]; exact hk
        go_wp2_with fail
        go_region_held3 (fun w' => (w'.cell? ⟨q, m * 5, none⟩ = some (.int .i64 (f m).id) ∧ w'.cell? ⟨q, m * 5 + 1, none⟩ = some (.int .i64 (f m).pr) ∧ w'.cell? ⟨q, m * 5 + 2, none⟩ = some (.bool (f m).lv) ∧ w'.cell? ⟨q, m * 5 + 3, none⟩ = some (.bool (f m).pe) ∧ w'.cell? ⟨q, m * 5 + 4, none⟩ = some (.bool (f m).ac)) ∧ (w'.cell? ⟨q, c * 5, none⟩ = some (.int .i64 (f c).id) ∧ w'.cell? ⟨q, c * 5 + 1, none⟩ = some (.int .i64 (f c).pr) ∧ w'.cell? ⟨q, c * 5 + 2, none⟩ = some (.bool (f c).lv) ∧ w'.cell? ⟨q, c * 5 + 3, none⟩ = some (.bool (f c).pe) ∧ w'.cell? ⟨q, c * 5 + 4, none⟩ = some (.bool (f c).ac))) (go_keep)
          (first | (go_at_call 49; refine (cmp_kept (f m) (f c) q M n m c f _ (by exact LrAt.drew HL.out) (by omega) (by omega)).mono ?_; rintro e w1 ⟨rfl, hl1, ⟨x0, x1, x2, x3, x4⟩, ⟨y0, y1, y2, y3, y4⟩, hb1⟩))
        have HL1 := Lib.hid hl1
        have HU1 := Lib.hid ((Upd.drew HU.out).trans (Upd.of_below hb1))
        have HA2 : Hid (∀ k, a ≤ k → k < c + 1 → klt (f m) (f k) = false) := Lib.hid (fun k h0 h1 => by
          by_cases e : k = c
          · rw [e]; exact hk
          · cases hq : klt (f m) (f k)
            · rfl
            · have := klt_lx hq (HS.out k c h0 (by omega) (by omega))
              rw [hk] at this; cases this)
        clear hl1 hb1 hk
        go_wp2_with fail
        go_roundw
        case rel => exact ⟨c + 1, j, by omega, by omega, by omega, by go_num, rfl, HA2.out, HB.out, HL1.out, HU1.out⟩
        case measure => simp [intOf]; omega
      · have hcv : decide (cmpV (f m) (f c) < 0) = true := by rw [cmpV_lt]; exact hk
        go_wp2_with fail
        go_region_held3 (fun w' => (w'.cell? ⟨q, m * 5, none⟩ = some (.int .i64 (f m).id) ∧ w'.cell? ⟨q, m * 5 + 1, none⟩ = some (.int .i64 (f m).pr) ∧ w'.cell? ⟨q, m * 5 + 2, none⟩ = some (.bool (f m).lv) ∧ w'.cell? ⟨q, m * 5 + 3, none⟩ = some (.bool (f m).pe) ∧ w'.cell? ⟨q, m * 5 + 4, none⟩ = some (.bool (f m).ac)) ∧ (w'.cell? ⟨q, c * 5, none⟩ = some (.int .i64 (f c).id) ∧ w'.cell? ⟨q, c * 5 + 1, none⟩ = some (.int .i64 (f c).pr) ∧ w'.cell? ⟨q, c * 5 + 2, none⟩ = some (.bool (f c).lv) ∧ w'.cell? ⟨q, c * 5 + 3, none⟩ = some (.bool (f c).pe) ∧ w'.cell? ⟨q, c * 5 + 4, none⟩ = some (.bool (f c).ac))) (go_keep)
          (first | (go_at_call 49; refine (cmp_kept (f m) (f c) q M n m c f _ (by exact LrAt.drew HL.out) (by omega) (by omega)).mono ?_; rintro e w1 ⟨rfl, hl1, ⟨x0, x1, x2, x3, x4⟩, ⟨y0, y1, y2, y3, y4⟩, hb1⟩))
        have HL1 := Lib.hid hl1
        have HU1 := Lib.hid ((Upd.drew HU.out).trans (Upd.of_below hb1))
        have HB2 : Hid (∀ k, c ≤ k → k < m → klt (f m) (f k) = true) := Lib.hid (fun k h0 h1 => by
          by_cases e : k = c
          · rw [e]; exact hk
          · exact klt_lx hk (HS.out c k (by omega) (by omega) h1))
        clear hl1 hb1 hk
        go_wp2_with fail
        go_roundw
        case rel => exact ⟨i, c, by omega, by omega, by omega, rfl, rfl, HA.out, HB2.out, HL1.out, HU1.out⟩
        case measure => simp [intOf]; omega
    · obtain rfl : i = j := by omega
      have HMR : Hid (Sg a b (mvL f m i)) := Lib.hid (by
        have e := HM.out
        subst e
        exact merge_one_right HS.out HID.out hmi hjb HA.out HB.out)
      have HPR : Hid (Pm a b f (mvL f m i)) := Lib.hid (by
        have e := HM.out
        subst e
        exact Pm.mvL f (m - i) i hmi (by omega))
      clear HA HB
      go_wp2_with fail
      go_loopw [17] (fun v17 wr => ∃ k : Nat, i ≤ k ∧ k ≤ m ∧ v17 = .int .i64 k ∧ LrAt wr q M n (mvL f m k) ∧ Upd (· = q) w wr) (fun v17 _ => (intOf v17).toNat)
      case atStart => exact ⟨m, by omega, by omega, rfl, by rw [mvL_self]; exact HL.out, HU.out⟩
      case round =>
        clear HL HU
        obtain ⟨k, hak, hki, rfl, hL, hu⟩ := hrel
        have HL := Lib.hid hL; have HU := Lib.hid hu; clear hL hu
        by_cases hlt : i < k
        · have hd : decide ((i : Int) < (k : Int)) = true := by simp; omega
          obtain ⟨k1, hk1⟩ : ∃ x : Nat, (k : Int) - 1 = (x : Int) := ⟨k - 1, by omega⟩
          have HK : Hid (k = k1 + 1) := Lib.hid (by omega)
          have hkn : (k : Int) < (n : Int) := by have := HM.out; omega
          have hk1n : (k1 : Int) < (n : Int) := by omega
          obtain ⟨g, hg⟩ : ∃ g, mvL f m k = g := ⟨_, rfl⟩
          have HG : Hid (swF g k k1 = mvL f m k1) := Lib.hid (by rw [← hg, HK.out]; exact mvL_succ f m k1 (by omega))
          rw [hg] at HL
          clear hg
          obtain ⟨x0, x1, x2, x3, x4⟩ := HL.out.cells k (by omega)
          obtain ⟨y0, y1, y2, y3, y4⟩ := HL.out.cells k1 (by omega)
          have hfz := fun k => HL.out.frozen k
          go_wp2_with fail
          go_region
          go_wp2_with fail
          go_roundw
          case rel => exact ⟨k1, by omega, by omega, by go_num, by rw [← HG.out]; with_reducible exact LrAt.drew (LrAt.swc HL.out k k1), by with_reducible exact Upd.drew (Upd.swc HU.out k k1 _ _)⟩
          case measure => simp [intOf]; omega
        · obtain rfl : k = i := by omega
          go_wp2_with fail
          exact bodyPost_ret (v := .tuple #[]) (by first | rfl | simp [results, Try.results85, go_sem]) rfl ⟨rfl, ⟨_, HPR.out, HMR.out, HL.out⟩, HU.out⟩
end Go.Proofs.Ytnebjbjdgfaooaa
