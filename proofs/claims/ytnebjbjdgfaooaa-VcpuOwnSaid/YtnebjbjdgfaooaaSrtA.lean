/- symMerge's contract where the left run is one record. Conditions: the ranges lie in the slice; the right run is sorted. -/
import Derived.Test.YtnebjbjdgfaooaaSrtI
namespace Go.Proofs.Ytnebjbjdgfaooaa
open Go.RowKit
set_option maxRecDepth 100000
theorem Pm.mvR {a b : Nat} (f : Nat → LrE) (d : Nat) : a + d < b → Pm a b f (mvR f a (a + d)) := by
  induction d with
  | zero => intro _; rw [show a + 0 = a from rfl, mvR_self]; exact Pm.refl _ _ _
  | succ d ih =>
    intro hb
    rw [show a + (d + 1) = a + d + 1 from rfl, ← mvR_succ f a (a + d) (by omega)]
    exact (ih (by omega)).trans (Pm.sw _ (by omega) (by omega))
theorem wrap_u {x : Int} (h0 : 0 ≤ x) (h1 : x < 18446744073709551616) : IntKind.u64.wrap x = x := by
  simp only [IntKind.wrap, IntKind.bits, IntKind.signed]; simp; omega
set_option maxHeartbeats 1000000 in
theorem sm_left (q M n cap a m b : Nat) (f : Nat → LrE) (w : World) (h : LrAt w q M n f) (hn : n < 4611686018427387904) (hm : m = a + 1) (hmb : m < b) (hbn : b ≤ n) (hs : Sg m b f) (hid : Idlt a m b f) :
    Calls Try.prog 85 #[.slice (some ⟨q, 0, none⟩) n cap, .int .i64 a, .int .i64 m, .int .i64 b, .func (.func 49) #[] #[]] w fun e w' => e = .returned (.tuple #[]) ∧ (∃ g, Pm a b f g ∧ Sg a b g ∧ LrAt w' q M n g) ∧ Upd (· = q) w w' := by
  have H := Lib.hid h; clear h
  have HS := Lib.hid hs; have HID := Lib.hid hid; clear hs hid
  have hma : (m : Int) - (a : Int) = 1 := by omega
  have HM := Lib.hid hm; clear hm
  go_enter Try.func85, Try.ntmps85
  go_wp2_with fail
  go_loopw [10, 11, 12] (fun v10 v11 _ wr => ∃ i j : Nat, m ≤ i ∧ i ≤ j ∧ j ≤ b ∧ v10 = .int .i64 i ∧ v11 = .int .i64 j ∧ (∀ k, m ≤ k → k < i → klt (f k) (f a) = true) ∧ (∀ k, j ≤ k → k < b → klt (f k) (f a) = false) ∧ LrAt wr q M n f ∧ Upd (· = q) w wr) (fun v10 v11 _ _ => (intOf v11).toNat - (intOf v10).toNat)
  case atStart => exact ⟨m, b, by omega, by omega, by omega, rfl, rfl, fun k h0 h1 => by omega, fun k h0 h1 => by omega, H.out, Upd.refl _ _⟩
  case round =>
    clear H
    obtain ⟨i, j, hmi, hij, hjb, rfl, rfl, hl, hr, hL, hu⟩ := hrel
    have HL := Lib.hid hL; have HU := Lib.hid hu; have HA := Lib.hid hl; have HB := Lib.hid hr; clear hL hu hl hr
    by_cases hlt : i < j
    · have hd : decide ((i : Int) < (j : Int)) = true := by simp; omega
      obtain ⟨s, hs⟩ : ∃ s : Nat, (i : Int) + (j : Int) = (s : Int) := ⟨i + j, by omega⟩
      obtain ⟨c, hc⟩ : ∃ c : Nat, (s : Int) / 2 = (c : Int) := ⟨s / 2, by omega⟩
      have hci : i ≤ c := by omega
      have hcj : c < j := by omega
      have hcn : (c : Int) < (n : Int) := by omega
      have han : (a : Int) < (n : Int) := by have := HM.out; omega
      obtain ⟨x0, x1, x2, x3, x4⟩ := HL.out.cells c (by omega)
      obtain ⟨y0, y1, y2, y3, y4⟩ := HL.out.cells a (by omega)
      cases hk : klt (f c) (f a)
      · have hcv : decide (cmpV (f c) (f a) < 0) = false := by rw [cmpV_lt]; exact hk
        go_wp2_with fail
        go_region_held3 (fun w' => (w'.cell? ⟨q, c * 5, none⟩ = some (.int .i64 (f c).id) ∧ w'.cell? ⟨q, c * 5 + 1, none⟩ = some (.int .i64 (f c).pr) ∧ w'.cell? ⟨q, c * 5 + 2, none⟩ = some (.bool (f c).lv) ∧ w'.cell? ⟨q, c * 5 + 3, none⟩ = some (.bool (f c).pe) ∧ w'.cell? ⟨q, c * 5 + 4, none⟩ = some (.bool (f c).ac)) ∧ (w'.cell? ⟨q, a * 5, none⟩ = some (.int .i64 (f a).id) ∧ w'.cell? ⟨q, a * 5 + 1, none⟩ = some (.int .i64 (f a).pr) ∧ w'.cell? ⟨q, a * 5 + 2, none⟩ = some (.bool (f a).lv) ∧ w'.cell? ⟨q, a * 5 + 3, none⟩ = some (.bool (f a).pe) ∧ w'.cell? ⟨q, a * 5 + 4, none⟩ = some (.bool (f a).ac))) (go_keep)
          (first | (go_at_call 49; refine (cmp_kept (f c) (f a) q M n c a f _ (by exact LrAt.drew HL.out) (by omega) (by omega)).mono ?_; rintro e w1 ⟨rfl, hl1, ⟨x0, x1, x2, x3, x4⟩, ⟨y0, y1, y2, y3, y4⟩, hb1⟩))
        have HL1 := Lib.hid hl1
        have HU1 := Lib.hid ((Upd.drew HU.out).trans (Upd.of_below hb1))
        have HB2 : Hid (∀ k, c ≤ k → k < b → klt (f k) (f a) = false) := Lib.hid (fun k h0 h1 => by
          by_cases e : k = c
          · rw [e]; exact hk
          · cases hq : klt (f k) (f a)
            · rfl
            · have := (HS.out c k (by omega) (by omega) h1).klt_of hq
              rw [hk] at this; cases this)
        clear hl1 hb1 hk
        go_wp2_with fail
        go_roundw
        case rel => exact ⟨i, c, hmi, by omega, by omega, rfl, rfl, HA.out, HB2.out, HL1.out, HU1.out⟩
        case measure => simp [intOf]; omega
      · have hcv : decide (cmpV (f c) (f a) < 0) = true := by rw [cmpV_lt]; exact hk
        go_wp2_with fail
        go_region_held3 (fun w' => (w'.cell? ⟨q, c * 5, none⟩ = some (.int .i64 (f c).id) ∧ w'.cell? ⟨q, c * 5 + 1, none⟩ = some (.int .i64 (f c).pr) ∧ w'.cell? ⟨q, c * 5 + 2, none⟩ = some (.bool (f c).lv) ∧ w'.cell? ⟨q, c * 5 + 3, none⟩ = some (.bool (f c).pe) ∧ w'.cell? ⟨q, c * 5 + 4, none⟩ = some (.bool (f c).ac)) ∧ (w'.cell? ⟨q, a * 5, none⟩ = some (.int .i64 (f a).id) ∧ w'.cell? ⟨q, a * 5 + 1, none⟩ = some (.int .i64 (f a).pr) ∧ w'.cell? ⟨q, a * 5 + 2, none⟩ = some (.bool (f a).lv) ∧ w'.cell? ⟨q, a * 5 + 3, none⟩ = some (.bool (f a).pe) ∧ w'.cell? ⟨q, a * 5 + 4, none⟩ = some (.bool (f a).ac))) (go_keep)
          (first | (go_at_call 49; refine (cmp_kept (f c) (f a) q M n c a f _ (by exact LrAt.drew HL.out) (by omega) (by omega)).mono ?_; rintro e w1 ⟨rfl, hl1, ⟨x0, x1, x2, x3, x4⟩, ⟨y0, y1, y2, y3, y4⟩, hb1⟩))
        have HL1 := Lib.hid hl1
        have HU1 := Lib.hid ((Upd.drew HU.out).trans (Upd.of_below hb1))
        have HA2 : Hid (∀ k, m ≤ k → k < c + 1 → klt (f k) (f a) = true) := Lib.hid (fun k h0 h1 => by
          by_cases e : k = c
          · rw [e]; exact hk
          · exact (HS.out k c h0 (by omega) (by omega)).klt_of hk)
        clear hl1 hb1 hk
        go_wp2_with fail
        go_roundw
        case rel => exact ⟨c + 1, j, by omega, by omega, hjb, by go_num, rfl, HA2.out, HB.out, HL1.out, HU1.out⟩
        case measure => simp [intOf]; omega
    · obtain rfl : i = j := by omega
      obtain ⟨i1, hi1⟩ : ∃ x : Nat, (i : Int) - 1 = (x : Int) := ⟨i - 1, by omega⟩
      have HI : Hid (i = i1 + 1) := Lib.hid (by omega)
      have HMR : Hid (Sg a b (mvR f a i1)) := Lib.hid (by
        have e := HM.out
        subst e
        have := merge_one_left HS.out HID.out hmi hjb HA.out HB.out
        rwa [show i - 1 = i1 by have := HI.out; omega] at this)
      have HPR : Hid (Pm a b f (mvR f a i1)) := Lib.hid (by
        have e := HM.out
        have := HI.out
        rw [show i1 = a + (i1 - a) by omega]
        exact Pm.mvR f _ (by omega))
      clear HA HB
      go_wp2_with fail
      go_loopw [13] (fun v13 wr => ∃ k : Nat, a ≤ k ∧ k ≤ i1 ∧ v13 = .int .i64 k ∧ LrAt wr q M n (mvR f a k) ∧ Upd (· = q) w wr) (fun v13 _ => i1 - (intOf v13).toNat)
      case atStart => exact ⟨a, by omega, by have := HM.out; omega, rfl, by rw [mvR_self]; exact HL.out, HU.out⟩
      case round =>
        clear HL HU
        obtain ⟨k, hak, hki, rfl, hL, hu⟩ := hrel
        have HL := Lib.hid hL; have HU := Lib.hid hu; clear hL hu
        by_cases hlt : k < i1
        · have hd : decide ((k : Int) < (i1 : Int)) = true := by simp; omega
          obtain ⟨k1, hk1⟩ : ∃ x : Nat, (k : Int) + 1 = (x : Int) := ⟨k + 1, by omega⟩
          have HK : Hid (k1 = k + 1) := Lib.hid (by omega)
          have hkn : (k : Int) < (n : Int) := by omega
          have hk1n : (k1 : Int) < (n : Int) := by omega
          obtain ⟨g, hg⟩ : ∃ g, mvR f a k = g := ⟨_, rfl⟩
          have HG : Hid (swF g k k1 = mvR f a k1) := Lib.hid (by rw [← hg, HK.out]; exact mvR_succ f a k hak)
          rw [hg] at HL
          clear hg
          obtain ⟨x0, x1, x2, x3, x4⟩ := HL.out.cells k (by omega)
          obtain ⟨y0, y1, y2, y3, y4⟩ := HL.out.cells k1 (by omega)
          have hfz := fun k => HL.out.frozen k
          go_wp2_with fail
          go_region
          go_wp2_with fail
          go_roundw
          case rel => exact ⟨k1, by omega, by omega, by go_num, by rw [← HG.out]; with_reducible exact LrAt.drew (LrAt.swc HL.out k k1), by with_reducible exact Upd.drew (Upd.swc HU.out k k1 _ _)⟩
          case measure => simp [intOf]; omega
        · obtain rfl : k = i1 := by omega
          go_wp2_with fail
          exact bodyPost_ret (v := .tuple #[]) (by first | rfl | simp [results, Try.results85, go_sem]) rfl ⟨rfl, ⟨_, HPR.out, HMR.out, HL.out⟩, HU.out⟩
end Go.Proofs.Ytnebjbjdgfaooaa
