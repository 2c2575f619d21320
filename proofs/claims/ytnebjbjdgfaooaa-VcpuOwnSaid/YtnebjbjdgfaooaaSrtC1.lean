/- symMerge's contract where both runs are longer, the right run being the shorter. Conditions: the ranges lie in the slice; both runs are sorted, the left one's records have the lesser numbers. -/
import Derived.Test.YtnebjbjdgfaooaaSrtC
namespace Go.Proofs.Ytnebjbjdgfaooaa
open Go.RowKit
set_option maxRecDepth 100000

set_option maxHeartbeats 8000000 in
theorem sm_gen1 (q M n cap : Nat) (hn : n < 4611686018427387904) (d : Nat) (ih : SmOK q M n cap d) (a m b : Nat) (f : Nat → LrE) (w : World) (hda : b - a ≤ d + 1) (h : LrAt w q M n f) (ham : a < m) (hmb : m < b) (hbn : b ≤ n) (h1 : Sg a m f) (h2 : Sg m b f) (hid : Idlt a m b f) (e2 : ¬ b = m + 1) (e3 : (a + b) / 2 < m) :
    Calls Try.prog 85 #[.slice (some ⟨q, 0, none⟩) n cap, .int .i64 (a : Nat), .int .i64 (m : Nat), .int .i64 (b : Nat), .func (.func 49) #[] #[]] w fun e w' => e = .returned (.tuple #[]) ∧ (∃ g, Pm a b f g ∧ Sg a b g ∧ LrAt w' q M n g) ∧ Upd (· = q) w w' := by
  have H := Lib.hid h; clear h
  have HS1 := Lib.hid h1; have HS2 := Lib.hid h2; have HID := Lib.hid hid; clear h1 h2 hid
  obtain ⟨x, hx⟩ : ∃ x : Nat, (m : Int) - (a : Int) = (x : Int) := ⟨m - a, by omega⟩
  have hx1 : ((x : Int) == 1) = false := by simp; omega
  obtain ⟨y, hy⟩ : ∃ x : Nat, (b : Int) - (m : Int) = (x : Int) := ⟨b - m, by omega⟩
  have hy1 : ((y : Int) == 1) = false := by simp; omega
  obtain ⟨ab, hab⟩ : ∃ x : Nat, (a : Int) + (b : Int) = (x : Int) := ⟨a + b, by omega⟩
  obtain ⟨mid, hmid⟩ : ∃ x : Nat, (ab : Int) / 2 = (x : Int) := ⟨ab / 2, by omega⟩
  obtain ⟨nn, hnn⟩ : ∃ x : Nat, (mid : Int) + (m : Int) = (x : Int) := ⟨mid + m, by omega⟩
  obtain ⟨p, hp⟩ : ∃ x : Nat, (nn : Int) - 1 = (x : Int) := ⟨nn - 1, by omega⟩
  have hgt : decide ((mid : Int) < (m : Int)) = true := by simp; omega
  have hgn : mid < m := by omega
  obtain ⟨lo, hlo⟩ : ∃ x : Nat, (nn : Int) - (b : Int) = (x : Int) := ⟨nn - b, by omega⟩
  have HLH : Hid (nn = mid + m ∧ p + 1 = nn ∧ a ≤ lo ∧ lo ≤ mid ∧ mid ≤ mid ∧ mid ≤ m ∧ nn ≤ lo + b ∧ (lo = a ∨ lo + b = nn) ∧ (mid = m ∨ mid = mid)) := Lib.hid (by omega)
  have HMID : Hid ((a + b) / 2 = mid) := Lib.hid (by omega)
  clear e2 e3
  go_enter Try.func85, Try.ntmps85
  go_wp2_with fail
  go_loopw [20, 21, 23] (fun v20 v21 _ wr => ∃ i j : Nat, lo ≤ i ∧ i ≤ j ∧ j ≤ mid ∧ v20 = .int .i64 i ∧ v21 = .int .i64 j ∧ (∀ c, lo ≤ c → c < i → klt (f (p - c)) (f c) = false) ∧ (∀ c, j ≤ c → c < mid → klt (f (p - c)) (f c) = true) ∧ LrAt wr q M n f ∧ Upd (· = q) w wr) (fun v20 v21 _ _ => (intOf v21).toNat - (intOf v20).toNat)
  case atStart => exact ⟨lo, mid, by omega, by have := HLH.out; omega, by omega, rfl, rfl, fun k h0 h1 => by omega, fun k h0 h1 => by omega, H.out, Upd.refl _ _⟩
  case round =>
    clear H
    obtain ⟨i, j, hli, hij, hjh, rfl, rfl, hA, hB, hL, hu⟩ := hrel
    have HL := Lib.hid hL; have HU := Lib.hid hu; have HA := Lib.hid hA; have HB := Lib.hid hB; clear hL hu hA hB
    by_cases hlt : i < j
    · have hd : decide ((i : Int) < (j : Int)) = true := by simp; omega
      have hlh := HLH.out
      obtain ⟨s, hs⟩ : ∃ s : Nat, (i : Int) + (j : Int) = (s : Int) := ⟨i + j, by omega⟩
      obtain ⟨c, hc⟩ : ∃ c : Nat, (s : Int) / 2 = (c : Int) := ⟨s / 2, by omega⟩
      have hci : i ≤ c := by omega
      have hcj : c < j := by omega
      obtain ⟨pc, hpc⟩ : ∃ x : Nat, (p : Int) - (c : Int) = (x : Int) := ⟨p - c, by omega⟩
      have hwk : IntKind.i64.wrap ((p : Int) - (c : Int)) = (pc : Int) := by rw [wrap_i (by omega) (by omega)]; exact hpc
      have hwl : IntKind.i64.wrap (pc : Int) = (pc : Int) := wrap_i (by omega) (by omega)
      have HPC : Hid (pc = p - c ∧ m ≤ pc ∧ pc < b ∧ a ≤ c ∧ c < m) := Lib.hid (by omega)
      have hcn : (c : Int) < (n : Int) := by omega
      have hpn : (pc : Int) < (n : Int) := by omega
      obtain ⟨x0, x1, x2, x3, x4⟩ := HL.out.cells pc (by omega)
      obtain ⟨y0, y1, y2, y3, y4⟩ := HL.out.cells c (by omega)
      clear hlh
      cases hk : klt (f pc) (f c)
      · have hcv : decide (cmpV (f pc) (f c) < 0) = false := by rw [cmpV_lt]; exact hk
        have HA2 : Hid (∀ k, lo ≤ k → k < c + 1 → klt (f (p - k)) (f k) = false) := Lib.hid (fun k h0 h1 => by
          have hpc := HPC.out; have hlh := HLH.out
          by_cases e : k = c
          · rw [e, ← hpc.1]; exact hk
          · cases hq : klt (f (p - k)) (f k)
            · rfl
            · have t1 := (HS2.out pc (p - k) (by omega) (by omega) (by omega)).klt_of hq
              have t2 := klt_lx t1 (HS1.out k c (by omega) (by omega) (by omega))
              rw [hk] at t2; cases t2)
        clear hk
        go_wp2_with fail
        go_region_held3 (fun w' => (w'.cell? ⟨q, pc * 5, none⟩ = some (.int .i64 (f pc).id) ∧ w'.cell? ⟨q, pc * 5 + 1, none⟩ = some (.int .i64 (f pc).pr) ∧ w'.cell? ⟨q, pc * 5 + 2, none⟩ = some (.bool (f pc).lv) ∧ w'.cell? ⟨q, pc * 5 + 3, none⟩ = some (.bool (f pc).pe) ∧ w'.cell? ⟨q, pc * 5 + 4, none⟩ = some (.bool (f pc).ac)) ∧ (w'.cell? ⟨q, c * 5, none⟩ = some (.int .i64 (f c).id) ∧ w'.cell? ⟨q, c * 5 + 1, none⟩ = some (.int .i64 (f c).pr) ∧ w'.cell? ⟨q, c * 5 + 2, none⟩ = some (.bool (f c).lv) ∧ w'.cell? ⟨q, c * 5 + 3, none⟩ = some (.bool (f c).pe) ∧ w'.cell? ⟨q, c * 5 + 4, none⟩ = some (.bool (f c).ac))) (go_keep)
          (first | (go_at_call 49; refine (cmp_kept (f pc) (f c) q M n pc c f _ (by exact LrAt.drew HL.out) (by omega) (by omega)).mono ?_; rintro e w1 ⟨rfl, hl1, ⟨x0, x1, x2, x3, x4⟩, ⟨y0, y1, y2, y3, y4⟩, hb1⟩))
        have HL1 := Lib.hid hl1
        have HU1 := Lib.hid ((Upd.drew HU.out).trans (Upd.of_below hb1))
        clear hl1 hb1
        go_wp2_with fail
        go_roundw
        case rel => exact ⟨c + 1, j, by omega, by omega, hjh, by go_num, rfl, HA2.out, HB.out, HL1.out, HU1.out⟩
        case measure => simp [intOf]; omega
      · have hcv : decide (cmpV (f pc) (f c) < 0) = true := by rw [cmpV_lt]; exact hk
        have HB2 : Hid (∀ k, c ≤ k → k < mid → klt (f (p - k)) (f k) = true) := Lib.hid (fun k h0 h1 => by
          have hpc := HPC.out; have hlh := HLH.out
          by_cases e : k = c
          · rw [e, ← hpc.1]; exact hk
          · have t1 := (HS2.out (p - k) pc (by omega) (by omega) (by omega)).klt_of hk
            exact klt_lx t1 (HS1.out c k (by omega) (by omega) (by omega)))
        clear hk
        go_wp2_with fail
        go_region_held3 (fun w' => (w'.cell? ⟨q, pc * 5, none⟩ = some (.int .i64 (f pc).id) ∧ w'.cell? ⟨q, pc * 5 + 1, none⟩ = some (.int .i64 (f pc).pr) ∧ w'.cell? ⟨q, pc * 5 + 2, none⟩ = some (.bool (f pc).lv) ∧ w'.cell? ⟨q, pc * 5 + 3, none⟩ = some (.bool (f pc).pe) ∧ w'.cell? ⟨q, pc * 5 + 4, none⟩ = some (.bool (f pc).ac)) ∧ (w'.cell? ⟨q, c * 5, none⟩ = some (.int .i64 (f c).id) ∧ w'.cell? ⟨q, c * 5 + 1, none⟩ = some (.int .i64 (f c).pr) ∧ w'.cell? ⟨q, c * 5 + 2, none⟩ = some (.bool (f c).lv) ∧ w'.cell? ⟨q, c * 5 + 3, none⟩ = some (.bool (f c).pe) ∧ w'.cell? ⟨q, c * 5 + 4, none⟩ = some (.bool (f c).ac))) (go_keep)
          (first | (go_at_call 49; refine (cmp_kept (f pc) (f c) q M n pc c f _ (by exact LrAt.drew HL.out) (by omega) (by omega)).mono ?_; rintro e w1 ⟨rfl, hl1, ⟨x0, x1, x2, x3, x4⟩, ⟨y0, y1, y2, y3, y4⟩, hb1⟩))
        have HL1 := Lib.hid hl1
        have HU1 := Lib.hid ((Upd.drew HU.out).trans (Upd.of_below hb1))
        clear hl1 hb1
        go_wp2_with fail
        go_roundw
        case rel => exact ⟨i, c, hli, by omega, by omega, rfl, rfl, HA.out, HB2.out, HL1.out, HU1.out⟩
        case measure => simp [intOf]; omega
    · obtain rfl : i = j := by omega
      obtain ⟨st, hst⟩ : ∃ x, i = x := ⟨_, rfl⟩
      subst hst
      obtain ⟨st, rfl⟩ : ∃ x, x = i := ⟨_, rfl⟩
      have hlh := HLH.out; have hmid := HMID.out
      obtain ⟨en, hen⟩ : ∃ x : Nat, (nn : Int) - (st : Int) = (x : Int) := ⟨nn - st, by omega⟩
      have HEN : Hid (mid + m - st = en) := Lib.hid (by omega)
      have HMEN : Hid (mid ≤ en) := Lib.hid (by omega)
      have HSTM : Hid (st ≤ mid) := Lib.hid (by omega)
      have HAST : Hid (a ≤ st) := Lib.hid (by omega)
      have HENB : Hid (en ≤ b) := Lib.hid (by omega)
      have HMA : Hid (a < mid ∧ mid < b) := Lib.hid (by omega)
      have HC : Hid (Cutp a m b st f) := Lib.hid (by
        refine ⟨by omega, by omega, by omega, by omega, fun h0 h1 => ?_, fun h0 h1 => ?_⟩
        · have x := HA.out (st - 1) (by omega) (by omega)
          rw [show p - (st - 1) = (a + b) / 2 + m - st by omega] at x
          exact x
        · have x := HB.out st (by omega) (by omega)
          rw [show p - st = (a + b) / 2 + m - st - 1 by omega] at x
          exact x)
      clear HA HB hlh hmid
      by_cases hq1 : st < m
      · have dq1 : decide ((st : Int) < (m : Int)) = true := by simp; omega
        by_cases hq2 : m < en
        · have dq2 : decide ((m : Int) < (en : Int)) = true := by simp; omega
          go_wp2_with fail
          refine (rot_any q M n cap _ st m en f _ HL.out hn hq1 hq2 (by have := HENB.out; omega)).mono ?_
          rintro e w3 ⟨rfl, hl3, hu3⟩
          obtain ⟨f1, hf1⟩ : ∃ g, rotF f st m en = g := ⟨_, rfl⟩
          have HF1 := Lib.hid hf1
          have HPF : Hid (Pm a b f f1) := Lib.hid (by rw [← hf1]; exact (Pm.rot f (by omega) (by omega)).mono (by have := HAST.out; omega) (by have := HENB.out; omega))
          have HX : Hid (∀ i j, a ≤ i → i < mid → mid ≤ j → j < b → Lx (f1 i) (f1 j)) := Lib.hid (by
            have x := cut_cross ham hmb HS1.out HS2.out HID.out HC.out
            rw [HMID.out, HEN.out, hf1] at x
            exact x)
          have HLR : Hid (LrAt w3 q M n f1) := Lib.hid (by rw [← hf1]; exact hl3)
          have HUR := Lib.hid (HU.out.trans hu3)
          clear hf1 hl3 hu3 HL HU
          by_cases hl1 : a < st
          · have dl1 : decide ((a : Int) < (st : Int)) = true := by simp; omega
            by_cases hl2 : st < mid
            · have dl2 : decide ((st : Int) < (mid : Int)) = true := by simp; omega
              go_wp2_with fail
              have hcl : Hid (Sg a st f1 ∧ Sg st mid f1 ∧ Idlt a st mid f1) := Lib.hid (by
                have x := (cut_left ham hmb HS1.out HS2.out HID.out HC.out)
                rw [HMID.out, HEN.out, HF1.out] at x
                exact x)
              refine (ih a st mid f1 _ (by have := HMA.out; omega) HLR.out (by omega) (by omega) (by have := HMA.out; omega) hcl.out.1 hcl.out.2.1 hcl.out.2.2).mono ?_
              rintro e w4 ⟨rfl, ⟨g1, hp1, hg1, hl1⟩, hu1⟩
              have HP1 := Lib.hid hp1; have HG1 := Lib.hid hg1; have HLB := Lib.hid hl1; have HUB := Lib.hid (HUR.out.trans hu1)
              clear hp1 hg1 hl1 hu1 HLR HUR hcl
              by_cases hr1 : mid < en
              · have dr1 : decide ((mid : Int) < (en : Int)) = true := by simp; omega
                by_cases hr2 : en < b
                · have dr2 : decide ((en : Int) < (b : Int)) = true := by simp; omega
                  go_wp2_with fail
                  have hcr : Hid (Sg mid en g1 ∧ Sg en b g1 ∧ Idlt mid en b g1) := Lib.hid (by
                    have x := (cut_right ham hmb HS1.out HS2.out HID.out HC.out)
                    rw [HMID.out, HEN.out, HF1.out] at x
                    have o : ∀ i, mid ≤ i → g1 i = f1 i := fun i i0 => HP1.out.out (by omega)
                    refine ⟨x.1.congr (fun i i0 _ => o i i0), x.2.1.congr (fun i i0 _ => o i (by omega)), fun i j i0 i1 j0 j1 => ?_⟩
                    rw [o i i0, o j (by omega)]
                    exact x.2.2 i j i0 i1 j0 j1)
                  refine (ih mid en b g1 _ (by have := HMA.out; omega) HLB.out (by omega) (by omega) hbn hcr.out.1 hcr.out.2.1 hcr.out.2.2).mono ?_
                  rintro e w5 ⟨rfl, ⟨g2, hp2, hg2, hl2⟩, hu2⟩
                  have HF : Hid ((∃ g, Pm a b f g ∧ Sg a b g ∧ LrAt w5 q M n g) ∧ Upd (· = q) w w5) := Lib.hid ⟨⟨g2, (HPF.out.trans (HP1.out.mono (Nat.le_refl _) (by omega))).trans (hp2.mono (by have := HMA.out; omega) (Nat.le_refl _)), Sg.join HX.out HP1.out HG1.out hp2 hg2, hl2⟩, HUB.out.trans hu2⟩
                  clear hp2 hg2 hl2 hu2
                  go_wp2_with fail
                  exact bodyPost_end (v := .tuple #[]) (by first | rfl | simp [results, Try.results85, go_sem]) rfl ⟨rfl, HF.out⟩
                · have dr2 : decide ((en : Int) < (b : Int)) = false := by simp; omega
                  have HTR : mid = en ∨ b ≤ en := Or.inr (by omega)
                  have HSR : Hid (Sg mid b g1) := Lib.hid (by
                    have x := (cut_right ham hmb HS1.out HS2.out HID.out HC.out)
                    rw [HMID.out, HEN.out, HF1.out] at x
                    have c := HC.out.hib; have c2 := HC.out.mid
                    rw [HMID.out] at c c2; have := HEN.out
                    refine Sg.congr (f := f1) ?_ (fun i i0 i1 => HP1.out.out (by omega))
                    rcases (by have := HTR; omega : mid = en ∨ en = b) with e | e
                    · rw [e]; exact x.2.1
                    · rw [← e]; exact x.1)
                  go_wp2_with fail
                  exact bodyPost_end (v := .tuple #[]) (by first | rfl | simp [results, Try.results85, go_sem]) rfl ⟨rfl, ⟨g1, HPF.out.trans (HP1.out.mono (Nat.le_refl _) (by omega)), Sg.join HX.out HP1.out HG1.out (Pm.refl _ _ _) HSR.out, HLB.out⟩, HUB.out⟩
              · have dr1 : decide ((mid : Int) < (en : Int)) = false := by simp; omega
                have HTR : mid = en ∨ b ≤ en := Or.inl (by have := HMEN.out; omega)
                have HSR : Hid (Sg mid b g1) := Lib.hid (by
                  have x := (cut_right ham hmb HS1.out HS2.out HID.out HC.out)
                  rw [HMID.out, HEN.out, HF1.out] at x
                  have c := HC.out.hib; have c2 := HC.out.mid
                  rw [HMID.out] at c c2; have := HEN.out
                  refine Sg.congr (f := f1) ?_ (fun i i0 i1 => HP1.out.out (by omega))
                  rcases (by have := HTR; omega : mid = en ∨ en = b) with e | e
                  · rw [e]; exact x.2.1
                  · rw [← e]; exact x.1)
                go_wp2_with fail
                exact bodyPost_end (v := .tuple #[]) (by first | rfl | simp [results, Try.results85, go_sem]) rfl ⟨rfl, ⟨g1, HPF.out.trans (HP1.out.mono (Nat.le_refl _) (by omega)), Sg.join HX.out HP1.out HG1.out (Pm.refl _ _ _) HSR.out, HLB.out⟩, HUB.out⟩
            · have dl2 : decide ((st : Int) < (mid : Int)) = false := by simp; omega
              have HTL : st = a ∨ st = mid := Or.inr (by have := HSTM.out; omega)
              obtain ⟨g1, hg1⟩ : ∃ g, f1 = g := ⟨_, rfl⟩
              have HP1 : Hid (Pm a mid f1 g1) := Lib.hid (by rw [hg1]; exact Pm.refl _ _ _)
              have HG1 : Hid (Sg a mid g1) := Lib.hid (by
                have x := (cut_left ham hmb HS1.out HS2.out HID.out HC.out)
                rw [HMID.out, HEN.out, HF1.out, hg1] at x
                rcases HTL with e | e
                · rw [← e]; exact x.2.1
                · rw [← e]; exact x.1)
              have HLB : Hid (LrAt w3 q M n g1) := Lib.hid (by rw [← hg1]; exact HLR.out)
              have HUB := HUR
              clear hg1 HLR HUR
              by_cases hr1 : mid < en
              · have dr1 : decide ((mid : Int) < (en : Int)) = true := by simp; omega
                by_cases hr2 : en < b
                · have dr2 : decide ((en : Int) < (b : Int)) = true := by simp; omega
                  go_wp2_with fail
                  have hcr : Hid (Sg mid en g1 ∧ Sg en b g1 ∧ Idlt mid en b g1) := Lib.hid (by
                    have x := (cut_right ham hmb HS1.out HS2.out HID.out HC.out)
                    rw [HMID.out, HEN.out, HF1.out] at x
                    have o : ∀ i, mid ≤ i → g1 i = f1 i := fun i i0 => HP1.out.out (by omega)
                    refine ⟨x.1.congr (fun i i0 _ => o i i0), x.2.1.congr (fun i i0 _ => o i (by omega)), fun i j i0 i1 j0 j1 => ?_⟩
                    rw [o i i0, o j (by omega)]
                    exact x.2.2 i j i0 i1 j0 j1)
                  refine (ih mid en b g1 _ (by have := HMA.out; omega) HLB.out (by omega) (by omega) hbn hcr.out.1 hcr.out.2.1 hcr.out.2.2).mono ?_
                  rintro e w5 ⟨rfl, ⟨g2, hp2, hg2, hl2⟩, hu2⟩
                  have HF : Hid ((∃ g, Pm a b f g ∧ Sg a b g ∧ LrAt w5 q M n g) ∧ Upd (· = q) w w5) := Lib.hid ⟨⟨g2, (HPF.out.trans (HP1.out.mono (Nat.le_refl _) (by omega))).trans (hp2.mono (by have := HMA.out; omega) (Nat.le_refl _)), Sg.join HX.out HP1.out HG1.out hp2 hg2, hl2⟩, HUB.out.trans hu2⟩
                  clear hp2 hg2 hl2 hu2
                  go_wp2_with fail
                  exact bodyPost_end (v := .tuple #[]) (by first | rfl | simp [results, Try.results85, go_sem]) rfl ⟨rfl, HF.out⟩
                · have dr2 : decide ((en : Int) < (b : Int)) = false := by simp; omega
                  have HTR : mid = en ∨ b ≤ en := Or.inr (by omega)
                  have HSR : Hid (Sg mid b g1) := Lib.hid (by
                    have x := (cut_right ham hmb HS1.out HS2.out HID.out HC.out)
                    rw [HMID.out, HEN.out, HF1.out] at x
                    have c := HC.out.hib; have c2 := HC.out.mid
                    rw [HMID.out] at c c2; have := HEN.out
                    refine Sg.congr (f := f1) ?_ (fun i i0 i1 => HP1.out.out (by omega))
                    rcases (by have := HTR; omega : mid = en ∨ en = b) with e | e
                    · rw [e]; exact x.2.1
                    · rw [← e]; exact x.1)
                  go_wp2_with fail
                  exact bodyPost_end (v := .tuple #[]) (by first | rfl | simp [results, Try.results85, go_sem]) rfl ⟨rfl, ⟨g1, HPF.out.trans (HP1.out.mono (Nat.le_refl _) (by omega)), Sg.join HX.out HP1.out HG1.out (Pm.refl _ _ _) HSR.out, HLB.out⟩, HUB.out⟩
              · have dr1 : decide ((mid : Int) < (en : Int)) = false := by simp; omega
                have HTR : mid = en ∨ b ≤ en := Or.inl (by have := HMEN.out; omega)
                have HSR : Hid (Sg mid b g1) := Lib.hid (by
                  have x := (cut_right ham hmb HS1.out HS2.out HID.out HC.out)
                  rw [HMID.out, HEN.out, HF1.out] at x
                  have c := HC.out.hib; have c2 := HC.out.mid
                  rw [HMID.out] at c c2; have := HEN.out
                  refine Sg.congr (f := f1) ?_ (fun i i0 i1 => HP1.out.out (by omega))
                  rcases (by have := HTR; omega : mid = en ∨ en = b) with e | e
                  · rw [e]; exact x.2.1
                  · rw [← e]; exact x.1)
                go_wp2_with fail
                exact bodyPost_end (v := .tuple #[]) (by first | rfl | simp [results, Try.results85, go_sem]) rfl ⟨rfl, ⟨g1, HPF.out.trans (HP1.out.mono (Nat.le_refl _) (by omega)), Sg.join HX.out HP1.out HG1.out (Pm.refl _ _ _) HSR.out, HLB.out⟩, HUB.out⟩
          · have dl1 : decide ((a : Int) < (st : Int)) = false := by simp; omega
            have HTL : st = a ∨ st = mid := Or.inl (by have := HAST.out; omega)
            obtain ⟨g1, hg1⟩ : ∃ g, f1 = g := ⟨_, rfl⟩
            have HP1 : Hid (Pm a mid f1 g1) := Lib.hid (by rw [hg1]; exact Pm.refl _ _ _)
            have HG1 : Hid (Sg a mid g1) := Lib.hid (by
              have x := (cut_left ham hmb HS1.out HS2.out HID.out HC.out)
              rw [HMID.out, HEN.out, HF1.out, hg1] at x
              rcases HTL with e | e
              · rw [← e]; exact x.2.1
              · rw [← e]; exact x.1)
            have HLB : Hid (LrAt w3 q M n g1) := Lib.hid (by rw [← hg1]; exact HLR.out)
            have HUB := HUR
            clear hg1 HLR HUR
            by_cases hr1 : mid < en
            · have dr1 : decide ((mid : Int) < (en : Int)) = true := by simp; omega
              by_cases hr2 : en < b
              · have dr2 : decide ((en : Int) < (b : Int)) = true := by simp; omega
                go_wp2_with fail
                have hcr : Hid (Sg mid en g1 ∧ Sg en b g1 ∧ Idlt mid en b g1) := Lib.hid (by
                  have x := (cut_right ham hmb HS1.out HS2.out HID.out HC.out)
                  rw [HMID.out, HEN.out, HF1.out] at x
                  have o : ∀ i, mid ≤ i → g1 i = f1 i := fun i i0 => HP1.out.out (by omega)
                  refine ⟨x.1.congr (fun i i0 _ => o i i0), x.2.1.congr (fun i i0 _ => o i (by omega)), fun i j i0 i1 j0 j1 => ?_⟩
                  rw [o i i0, o j (by omega)]
                  exact x.2.2 i j i0 i1 j0 j1)
                refine (ih mid en b g1 _ (by have := HMA.out; omega) HLB.out (by omega) (by omega) hbn hcr.out.1 hcr.out.2.1 hcr.out.2.2).mono ?_
                rintro e w5 ⟨rfl, ⟨g2, hp2, hg2, hl2⟩, hu2⟩
                have HF : Hid ((∃ g, Pm a b f g ∧ Sg a b g ∧ LrAt w5 q M n g) ∧ Upd (· = q) w w5) := Lib.hid ⟨⟨g2, (HPF.out.trans (HP1.out.mono (Nat.le_refl _) (by omega))).trans (hp2.mono (by have := HMA.out; omega) (Nat.le_refl _)), Sg.join HX.out HP1.out HG1.out hp2 hg2, hl2⟩, HUB.out.trans hu2⟩
                clear hp2 hg2 hl2 hu2
                go_wp2_with fail
                exact bodyPost_end (v := .tuple #[]) (by first | rfl | simp [results, Try.results85, go_sem]) rfl ⟨rfl, HF.out⟩
              · have dr2 : decide ((en : Int) < (b : Int)) = false := by simp; omega
                have HTR : mid = en ∨ b ≤ en := Or.inr (by omega)
                have HSR : Hid (Sg mid b g1) := Lib.hid (by
                  have x := (cut_right ham hmb HS1.out HS2.out HID.out HC.out)
                  rw [HMID.out, HEN.out, HF1.out] at x
                  have c := HC.out.hib; have c2 := HC.out.mid
                  rw [HMID.out] at c c2; have := HEN.out
                  refine Sg.congr (f := f1) ?_ (fun i i0 i1 => HP1.out.out (by omega))
                  rcases (by have := HTR; omega : mid = en ∨ en = b) with e | e
                  · rw [e]; exact x.2.1
                  · rw [← e]; exact x.1)
                go_wp2_with fail
                exact bodyPost_end (v := .tuple #[]) (by first | rfl | simp [results, Try.results85, go_sem]) rfl ⟨rfl, ⟨g1, HPF.out.trans (HP1.out.mono (Nat.le_refl _) (by omega)), Sg.join HX.out HP1.out HG1.out (Pm.refl _ _ _) HSR.out, HLB.out⟩, HUB.out⟩
            · have dr1 : decide ((mid : Int) < (en : Int)) = false := by simp; omega
              have HTR : mid = en ∨ b ≤ en := Or.inl (by have := HMEN.out; omega)
              have HSR : Hid (Sg mid b g1) := Lib.hid (by
                have x := (cut_right ham hmb HS1.out HS2.out HID.out HC.out)
                rw [HMID.out, HEN.out, HF1.out] at x
                have c := HC.out.hib; have c2 := HC.out.mid
                rw [HMID.out] at c c2; have := HEN.out
                refine Sg.congr (f := f1) ?_ (fun i i0 i1 => HP1.out.out (by omega))
                rcases (by have := HTR; omega : mid = en ∨ en = b) with e | e
                · rw [e]; exact x.2.1
                · rw [← e]; exact x.1)
              go_wp2_with fail
              exact bodyPost_end (v := .tuple #[]) (by first | rfl | simp [results, Try.results85, go_sem]) rfl ⟨rfl, ⟨g1, HPF.out.trans (HP1.out.mono (Nat.le_refl _) (by omega)), Sg.join HX.out HP1.out HG1.out (Pm.refl _ _ _) HSR.out, HLB.out⟩, HUB.out⟩
        · have dq2 : decide ((m : Int) < (en : Int)) = false := by simp; omega
          obtain ⟨f1, hf1⟩ : ∃ g, f = g := ⟨_, rfl⟩
          have HF1 : Hid (rotF f st m en = f1) := Lib.hid (by
            rw [← hf1]
            have := HEN.out; have h1 := HMEN.out; have h2 := HSTM.out; have h3 := HC.out.lom
            exact rotF_nop f _ _ _ (by omega))
          have HPF : Hid (Pm a b f f1) := Lib.hid (by rw [← hf1]; exact Pm.refl _ _ _)
          have HX : Hid (∀ i j, a ≤ i → i < mid → mid ≤ j → j < b → Lx (f1 i) (f1 j)) := Lib.hid (by
            have x := cut_cross ham hmb HS1.out HS2.out HID.out HC.out
            rw [HMID.out, HEN.out, HF1.out] at x
            exact x)
          have HLR : Hid (LrAt wr q M n f1) := Lib.hid (by rw [← hf1]; exact HL.out)
          have HUR := HU
          clear hf1 HL HU
          by_cases hl1 : a < st
          · have dl1 : decide ((a : Int) < (st : Int)) = true := by simp; omega
            by_cases hl2 : st < mid
            · have dl2 : decide ((st : Int) < (mid : Int)) = true := by simp; omega
              go_wp2_with fail
              have hcl : Hid (Sg a st f1 ∧ Sg st mid f1 ∧ Idlt a st mid f1) := Lib.hid (by
                have x := (cut_left ham hmb HS1.out HS2.out HID.out HC.out)
                rw [HMID.out, HEN.out, HF1.out] at x
                exact x)
              refine (ih a st mid f1 _ (by have := HMA.out; omega) HLR.out (by omega) (by omega) (by have := HMA.out; omega) hcl.out.1 hcl.out.2.1 hcl.out.2.2).mono ?_
              rintro e w4 ⟨rfl, ⟨g1, hp1, hg1, hl1⟩, hu1⟩
              have HP1 := Lib.hid hp1; have HG1 := Lib.hid hg1; have HLB := Lib.hid hl1; have HUB := Lib.hid (HUR.out.trans hu1)
              clear hp1 hg1 hl1 hu1 HLR HUR hcl
              by_cases hr1 : mid < en
              · have dr1 : decide ((mid : Int) < (en : Int)) = true := by simp; omega
                by_cases hr2 : en < b
                · have dr2 : decide ((en : Int) < (b : Int)) = true := by simp; omega
                  go_wp2_with fail
                  have hcr : Hid (Sg mid en g1 ∧ Sg en b g1 ∧ Idlt mid en b g1) := Lib.hid (by
                    have x := (cut_right ham hmb HS1.out HS2.out HID.out HC.out)
                    rw [HMID.out, HEN.out, HF1.out] at x
                    have o : ∀ i, mid ≤ i → g1 i = f1 i := fun i i0 => HP1.out.out (by omega)
                    refine ⟨x.1.congr (fun i i0 _ => o i i0), x.2.1.congr (fun i i0 _ => o i (by omega)), fun i j i0 i1 j0 j1 => ?_⟩
                    rw [o i i0, o j (by omega)]
                    exact x.2.2 i j i0 i1 j0 j1)
                  refine (ih mid en b g1 _ (by have := HMA.out; omega) HLB.out (by omega) (by omega) hbn hcr.out.1 hcr.out.2.1 hcr.out.2.2).mono ?_
                  rintro e w5 ⟨rfl, ⟨g2, hp2, hg2, hl2⟩, hu2⟩
                  have HF : Hid ((∃ g, Pm a b f g ∧ Sg a b g ∧ LrAt w5 q M n g) ∧ Upd (· = q) w w5) := Lib.hid ⟨⟨g2, (HPF.out.trans (HP1.out.mono (Nat.le_refl _) (by omega))).trans (hp2.mono (by have := HMA.out; omega) (Nat.le_refl _)), Sg.join HX.out HP1.out HG1.out hp2 hg2, hl2⟩, HUB.out.trans hu2⟩
                  clear hp2 hg2 hl2 hu2
                  go_wp2_with fail
                  exact bodyPost_end (v := .tuple #[]) (by first | rfl | simp [results, Try.results85, go_sem]) rfl ⟨rfl, HF.out⟩
                · have dr2 : decide ((en : Int) < (b : Int)) = false := by simp; omega
                  have HTR : mid = en ∨ b ≤ en := Or.inr (by omega)
                  have HSR : Hid (Sg mid b g1) := Lib.hid (by
                    have x := (cut_right ham hmb HS1.out HS2.out HID.out HC.out)
                    rw [HMID.out, HEN.out, HF1.out] at x
                    have c := HC.out.hib; have c2 := HC.out.mid
                    rw [HMID.out] at c c2; have := HEN.out
                    refine Sg.congr (f := f1) ?_ (fun i i0 i1 => HP1.out.out (by omega))
                    rcases (by have := HTR; omega : mid = en ∨ en = b) with e | e
                    · rw [e]; exact x.2.1
                    · rw [← e]; exact x.1)
                  go_wp2_with fail
                  exact bodyPost_end (v := .tuple #[]) (by first | rfl | simp [results, Try.results85, go_sem]) rfl ⟨rfl, ⟨g1, HPF.out.trans (HP1.out.mono (Nat.le_refl _) (by omega)), Sg.join HX.out HP1.out HG1.out (Pm.refl _ _ _) HSR.out, HLB.out⟩, HUB.out⟩
              · have dr1 : decide ((mid : Int) < (en : Int)) = false := by simp; omega
                have HTR : mid = en ∨ b ≤ en := Or.inl (by have := HMEN.out; omega)
                have HSR : Hid (Sg mid b g1) := Lib.hid (by
                  have x := (cut_right ham hmb HS1.out HS2.out HID.out HC.out)
                  rw [HMID.out, HEN.out, HF1.out] at x
                  have c := HC.out.hib; have c2 := HC.out.mid
                  rw [HMID.out] at c c2; have := HEN.out
                  refine Sg.congr (f := f1) ?_ (fun i i0 i1 => HP1.out.out (by omega))
                  rcases (by have := HTR; omega : mid = en ∨ en = b) with e | e
                  · rw [e]; exact x.2.1
                  · rw [← e]; exact x.1)
                go_wp2_with fail
                exact bodyPost_end (v := .tuple #[]) (by first | rfl | simp [results, Try.results85, go_sem]) rfl ⟨rfl, ⟨g1, HPF.out.trans (HP1.out.mono (Nat.le_refl _) (by omega)), Sg.join HX.out HP1.out HG1.out (Pm.refl _ _ _) HSR.out, HLB.out⟩, HUB.out⟩
            · have dl2 : decide ((st : Int) < (mid : Int)) = false := by simp; omega
              have HTL : st = a ∨ st = mid := Or.inr (by have := HSTM.out; omega)
              obtain ⟨g1, hg1⟩ : ∃ g, f1 = g := ⟨_, rfl⟩
              have HP1 : Hid (Pm a mid f1 g1) := Lib.hid (by rw [hg1]; exact Pm.refl _ _ _)
              have HG1 : Hid (Sg a mid g1) := Lib.hid (by
                have x := (cut_left ham hmb HS1.out HS2.out HID.out HC.out)
                rw [HMID.out, HEN.out, HF1.out, hg1] at x
                rcases HTL with e | e
                · rw [← e]; exact x.2.1
                · rw [← e]; exact x.1)
              have HLB : Hid (LrAt wr q M n g1) := Lib.hid (by rw [← hg1]; exact HLR.out)
              have HUB := HUR
              clear hg1 HLR HUR
              by_cases hr1 : mid < en
              · have dr1 : decide ((mid : Int) < (en : Int)) = true := by simp; omega
                by_cases hr2 : en < b
                · have dr2 : decide ((en : Int) < (b : Int)) = true := by simp; omega
                  go_wp2_with fail
                  have hcr : Hid (Sg mid en g1 ∧ Sg en b g1 ∧ Idlt mid en b g1) := Lib.hid (by
                    have x := (cut_right ham hmb HS1.out HS2.out HID.out HC.out)
                    rw [HMID.out, HEN.out, HF1.out] at x
                    have o : ∀ i, mid ≤ i → g1 i = f1 i := fun i i0 => HP1.out.out (by omega)
                    refine ⟨x.1.congr (fun i i0 _ => o i i0), x.2.1.congr (fun i i0 _ => o i (by omega)), fun i j i0 i1 j0 j1 => ?_⟩
                    rw [o i i0, o j (by omega)]
                    exact x.2.2 i j i0 i1 j0 j1)
                  refine (ih mid en b g1 _ (by have := HMA.out; omega) HLB.out (by omega) (by omega) hbn hcr.out.1 hcr.out.2.1 hcr.out.2.2).mono ?_
                  rintro e w5 ⟨rfl, ⟨g2, hp2, hg2, hl2⟩, hu2⟩
                  have HF : Hid ((∃ g, Pm a b f g ∧ Sg a b g ∧ LrAt w5 q M n g) ∧ Upd (· = q) w w5) := Lib.hid ⟨⟨g2, (HPF.out.trans (HP1.out.mono (Nat.le_refl _) (by omega))).trans (hp2.mono (by have := HMA.out; omega) (Nat.le_refl _)), Sg.join HX.out HP1.out HG1.out hp2 hg2, hl2⟩, HUB.out.trans hu2⟩
                  clear hp2 hg2 hl2 hu2
                  go_wp2_with fail
                  exact bodyPost_end (v := .tuple #[]) (by first | rfl | simp [results, Try.results85, go_sem]) rfl ⟨rfl, HF.out⟩
                · have dr2 : decide ((en : Int) < (b : Int)) = false := by simp; omega
                  have HTR : mid = en ∨ b ≤ en := Or.inr (by omega)
                  have HSR : Hid (Sg mid b g1) := Lib.hid (by
                    have x := (cut_right ham hmb HS1.out HS2.out HID.out HC.out)
                    rw [HMID.out, HEN.out, HF1.out] at x
                    have c := HC.out.hib; have c2 := HC.out.mid
                    rw [HMID.out] at c c2; have := HEN.out
                    refine Sg.congr (f := f1) ?_ (fun i i0 i1 => HP1.out.out (by omega))
                    rcases (by have := HTR; omega : mid = en ∨ en = b) with e | e
                    · rw [e]; exact x.2.1
                    · rw [← e]; exact x.1)
                  go_wp2_with fail
                  exact bodyPost_end (v := .tuple #[]) (by first | rfl | simp [results, Try.results85, go_sem]) rfl ⟨rfl, ⟨g1, HPF.out.trans (HP1.out.mono (Nat.le_refl _) (by omega)), Sg.join HX.out HP1.out HG1.out (Pm.refl _ _ _) HSR.out, HLB.out⟩, HUB.out⟩
              · have dr1 : decide ((mid : Int) < (en : Int)) = false := by simp; omega
                have HTR : mid = en ∨ b ≤ en := Or.inl (by have := HMEN.out; omega)
                have HSR : Hid (Sg mid b g1) := Lib.hid (by
                  have x := (cut_right ham hmb HS1.out HS2.out HID.out HC.out)
                  rw [HMID.out, HEN.out, HF1.out] at x
                  have c := HC.out.hib; have c2 := HC.out.mid
                  rw [HMID.out] at c c2; have := HEN.out
                  refine Sg.congr (f := f1) ?_ (fun i i0 i1 => HP1.out.out (by omega))
                  rcases (by have := HTR; omega : mid = en ∨ en = b) with e | e
                  · rw [e]; exact x.2.1
                  · rw [← e]; exact x.1)
                go_wp2_with fail
                exact bodyPost_end (v := .tuple #[]) (by first | rfl | simp [results, Try.results85, go_sem]) rfl ⟨rfl, ⟨g1, HPF.out.trans (HP1.out.mono (Nat.le_refl _) (by omega)), Sg.join HX.out HP1.out HG1.out (Pm.refl _ _ _) HSR.out, HLB.out⟩, HUB.out⟩
          · have dl1 : decide ((a : Int) < (st : Int)) = false := by simp; omega
            have HTL : st = a ∨ st = mid := Or.inl (by have := HAST.out; omega)
            obtain ⟨g1, hg1⟩ : ∃ g, f1 = g := ⟨_, rfl⟩
            have HP1 : Hid (Pm a mid f1 g1) := Lib.hid (by rw [hg1]; exact Pm.refl _ _ _)
            have HG1 : Hid (Sg a mid g1) := Lib.hid (by
              have x := (cut_left ham hmb HS1.out HS2.out HID.out HC.out)
              rw [HMID.out, HEN.out, HF1.out, hg1] at x
              rcases HTL with e | e
              · rw [← e]; exact x.2.1
              · rw [← e]; exact x.1)
            have HLB : Hid (LrAt wr q M n g1) := Lib.hid (by rw [← hg1]; exact HLR.out)
            have HUB := HUR
            clear hg1 HLR HUR
            by_cases hr1 : mid < en
            · have dr1 : decide ((mid : Int) < (en : Int)) = true := by simp; omega
              by_cases hr2 : en < b
              · have dr2 : decide ((en : Int) < (b : Int)) = true := by simp; omega
                go_wp2_with fail
                have hcr : Hid (Sg mid en g1 ∧ Sg en b g1 ∧ Idlt mid en b g1) := Lib.hid (by
                  have x := (cut_right ham hmb HS1.out HS2.out HID.out HC.out)
                  rw [HMID.out, HEN.out, HF1.out] at x
                  have o : ∀ i, mid ≤ i → g1 i = f1 i := fun i i0 => HP1.out.out (by omega)
                  refine ⟨x.1.congr (fun i i0 _ => o i i0), x.2.1.congr (fun i i0 _ => o i (by omega)), fun i j i0 i1 j0 j1 => ?_⟩
                  rw [o i i0, o j (by omega)]
                  exact x.2.2 i j i0 i1 j0 j1)
                refine (ih mid en b g1 _ (by have := HMA.out; omega) HLB.out (by omega) (by omega) hbn hcr.out.1 hcr.out.2.1 hcr.out.2.2).mono ?_
                rintro e w5 ⟨rfl, ⟨g2, hp2, hg2, hl2⟩, hu2⟩
                have HF : Hid ((∃ g, Pm a b f g ∧ Sg a b g ∧ LrAt w5 q M n g) ∧ Upd (· = q) w w5) := Lib.hid ⟨⟨g2, (HPF.out.trans (HP1.out.mono (Nat.le_refl _) (by omega))).trans (hp2.mono (by have := HMA.out; omega) (Nat.le_refl _)), Sg.join HX.out HP1.out HG1.out hp2 hg2, hl2⟩, HUB.out.trans hu2⟩
                clear hp2 hg2 hl2 hu2
                go_wp2_with fail
                exact bodyPost_end (v := .tuple #[]) (by first | rfl | simp [results, Try.results85, go_sem]) rfl ⟨rfl, HF.out⟩
              · have dr2 : decide ((en : Int) < (b : Int)) = false := by simp; omega
                have HTR : mid = en ∨ b ≤ en := Or.inr (by omega)
                have HSR : Hid (Sg mid b g1) := Lib.hid (by
                  have x := (cut_right ham hmb HS1.out HS2.out HID.out HC.out)
                  rw [HMID.out, HEN.out, HF1.out] at x
                  have c := HC.out.hib; have c2 := HC.out.mid
                  rw [HMID.out] at c c2; have := HEN.out
                  refine Sg.congr (f := f1) ?_ (fun i i0 i1 => HP1.out.out (by omega))
                  rcases (by have := HTR; omega : mid = en ∨ en = b) with e | e
                  · rw [e]; exact x.2.1
                  · rw [← e]; exact x.1)
                go_wp2_with fail
                exact bodyPost_end (v := .tuple #[]) (by first | rfl | simp [results, Try.results85, go_sem]) rfl ⟨rfl, ⟨g1, HPF.out.trans (HP1.out.mono (Nat.le_refl _) (by omega)), Sg.join HX.out HP1.out HG1.out (Pm.refl _ _ _) HSR.out, HLB.out⟩, HUB.out⟩
            · have dr1 : decide ((mid : Int) < (en : Int)) = false := by simp; omega
              have HTR : mid = en ∨ b ≤ en := Or.inl (by have := HMEN.out; omega)
              have HSR : Hid (Sg mid b g1) := Lib.hid (by
                have x := (cut_right ham hmb HS1.out HS2.out HID.out HC.out)
                rw [HMID.out, HEN.out, HF1.out] at x
                have c := HC.out.hib; have c2 := HC.out.mid
                rw [HMID.out] at c c2; have := HEN.out
                refine Sg.congr (f := f1) ?_ (fun i i0 i1 => HP1.out.out (by omega))
                rcases (by have := HTR; omega : mid = en ∨ en = b) with e | e
                · rw [e]; exact x.2.1
                · rw [← e]; exact x.1)
              go_wp2_with fail
              exact bodyPost_end (v := .tuple #[]) (by first | rfl | simp [results, Try.results85, go_sem]) rfl ⟨rfl, ⟨g1, HPF.out.trans (HP1.out.mono (Nat.le_refl _) (by omega)), Sg.join HX.out HP1.out HG1.out (Pm.refl _ _ _) HSR.out, HLB.out⟩, HUB.out⟩
      · have dq1 : decide ((st : Int) < (m : Int)) = false := by simp; omega
        obtain ⟨f1, hf1⟩ : ∃ g, f = g := ⟨_, rfl⟩
        have HF1 : Hid (rotF f st m en = f1) := Lib.hid (by
          rw [← hf1]
          have := HEN.out; have h1 := HMEN.out; have h2 := HSTM.out; have h3 := HC.out.lom
          exact rotF_nop f _ _ _ (by omega))
        have HPF : Hid (Pm a b f f1) := Lib.hid (by rw [← hf1]; exact Pm.refl _ _ _)
        have HX : Hid (∀ i j, a ≤ i → i < mid → mid ≤ j → j < b → Lx (f1 i) (f1 j)) := Lib.hid (by
          have x := cut_cross ham hmb HS1.out HS2.out HID.out HC.out
          rw [HMID.out, HEN.out, HF1.out] at x
          exact x)
        have HLR : Hid (LrAt wr q M n f1) := Lib.hid (by rw [← hf1]; exact HL.out)
        have HUR := HU
        clear hf1 HL HU
        by_cases hl1 : a < st
        · have dl1 : decide ((a : Int) < (st : Int)) = true := by simp; omega
          by_cases hl2 : st < mid
          · have dl2 : decide ((st : Int) < (mid : Int)) = true := by simp; omega
            go_wp2_with fail
            have hcl : Hid (Sg a st f1 ∧ Sg st mid f1 ∧ Idlt a st mid f1) := Lib.hid (by
              have x := (cut_left ham hmb HS1.out HS2.out HID.out HC.out)
              rw [HMID.out, HEN.out, HF1.out] at x
              exact x)
            refine (ih a st mid f1 _ (by have := HMA.out; omega) HLR.out (by omega) (by omega) (by have := HMA.out; omega) hcl.out.1 hcl.out.2.1 hcl.out.2.2).mono ?_
            rintro e w4 ⟨rfl, ⟨g1, hp1, hg1, hl1⟩, hu1⟩
            have HP1 := Lib.hid hp1; have HG1 := Lib.hid hg1; have HLB := Lib.hid hl1; have HUB := Lib.hid (HUR.out.trans hu1)
            clear hp1 hg1 hl1 hu1 HLR HUR hcl
            by_cases hr1 : mid < en
            · have dr1 : decide ((mid : Int) < (en : Int)) = true := by simp; omega
              by_cases hr2 : en < b
              · have dr2 : decide ((en : Int) < (b : Int)) = true := by simp; omega
                go_wp2_with fail
                have hcr : Hid (Sg mid en g1 ∧ Sg en b g1 ∧ Idlt mid en b g1) := Lib.hid (by
                  have x := (cut_right ham hmb HS1.out HS2.out HID.out HC.out)
                  rw [HMID.out, HEN.out, HF1.out] at x
                  have o : ∀ i, mid ≤ i → g1 i = f1 i := fun i i0 => HP1.out.out (by omega)
                  refine ⟨x.1.congr (fun i i0 _ => o i i0), x.2.1.congr (fun i i0 _ => o i (by omega)), fun i j i0 i1 j0 j1 => ?_⟩
                  rw [o i i0, o j (by omega)]
                  exact x.2.2 i j i0 i1 j0 j1)
                refine (ih mid en b g1 _ (by have := HMA.out; omega) HLB.out (by omega) (by omega) hbn hcr.out.1 hcr.out.2.1 hcr.out.2.2).mono ?_
                rintro e w5 ⟨rfl, ⟨g2, hp2, hg2, hl2⟩, hu2⟩
                have HF : Hid ((∃ g, Pm a b f g ∧ Sg a b g ∧ LrAt w5 q M n g) ∧ Upd (· = q) w w5) := Lib.hid ⟨⟨g2, (HPF.out.trans (HP1.out.mono (Nat.le_refl _) (by omega))).trans (hp2.mono (by have := HMA.out; omega) (Nat.le_refl _)), Sg.join HX.out HP1.out HG1.out hp2 hg2, hl2⟩, HUB.out.trans hu2⟩
                clear hp2 hg2 hl2 hu2
                go_wp2_with fail
                exact bodyPost_end (v := .tuple #[]) (by first | rfl | simp [results, Try.results85, go_sem]) rfl ⟨rfl, HF.out⟩
              · have dr2 : decide ((en : Int) < (b : Int)) = false := by simp; omega
                have HTR : mid = en ∨ b ≤ en := Or.inr (by omega)
                have HSR : Hid (Sg mid b g1) := Lib.hid (by
                  have x := (cut_right ham hmb HS1.out HS2.out HID.out HC.out)
                  rw [HMID.out, HEN.out, HF1.out] at x
                  have c := HC.out.hib; have c2 := HC.out.mid
                  rw [HMID.out] at c c2; have := HEN.out
                  refine Sg.congr (f := f1) ?_ (fun i i0 i1 => HP1.out.out (by omega))
                  rcases (by have := HTR; omega : mid = en ∨ en = b) with e | e
                  · rw [e]; exact x.2.1
                  · rw [← e]; exact x.1)
                go_wp2_with fail
                exact bodyPost_end (v := .tuple #[]) (by first | rfl | simp [results, Try.results85, go_sem]) rfl ⟨rfl, ⟨g1, HPF.out.trans (HP1.out.mono (Nat.le_refl _) (by omega)), Sg.join HX.out HP1.out HG1.out (Pm.refl _ _ _) HSR.out, HLB.out⟩, HUB.out⟩
            · have dr1 : decide ((mid : Int) < (en : Int)) = false := by simp; omega
              have HTR : mid = en ∨ b ≤ en := Or.inl (by have := HMEN.out; omega)
              have HSR : Hid (Sg mid b g1) := Lib.hid (by
                have x := (cut_right ham hmb HS1.out HS2.out HID.out HC.out)
                rw [HMID.out, HEN.out, HF1.out] at x
                have c := HC.out.hib; have c2 := HC.out.mid
                rw [HMID.out] at c c2; have := HEN.out
                refine Sg.congr (f := f1) ?_ (fun i i0 i1 => HP1.out.out (by omega))
                rcases (by have := HTR; omega : mid = en ∨ en = b) with e | e
                · rw [e]; exact x.2.1
                · rw [← e]; exact x.1)
              go_wp2_with fail
              exact bodyPost_end (v := .tuple #[]) (by first | rfl | simp [results, Try.results85, go_sem]) rfl ⟨rfl, ⟨g1, HPF.out.trans (HP1.out.mono (Nat.le_refl _) (by omega)), Sg.join HX.out HP1.out HG1.out (Pm.refl _ _ _) HSR.out, HLB.out⟩, HUB.out⟩
          · have dl2 : decide ((st : Int) < (mid : Int)) = false := by simp; omega
            have HTL : st = a ∨ st = mid := Or.inr (by have := HSTM.out; omega)
            obtain ⟨g1, hg1⟩ : ∃ g, f1 = g := ⟨_, rfl⟩
            have HP1 : Hid (Pm a mid f1 g1) := Lib.hid (by rw [hg1]; exact Pm.refl _ _ _)
            have HG1 : Hid (Sg a mid g1) := Lib.hid (by
              have x := (cut_left ham hmb HS1.out HS2.out HID.out HC.out)
              rw [HMID.out, HEN.out, HF1.out, hg1] at x
              rcases HTL with e | e
              · rw [← e]; exact x.2.1
              · rw [← e]; exact x.1)
            have HLB : Hid (LrAt wr q M n g1) := Lib.hid (by rw [← hg1]; exact HLR.out)
            have HUB := HUR
            clear hg1 HLR HUR
            by_cases hr1 : mid < en
            · have dr1 : decide ((mid : Int) < (en : Int)) = true := by simp; omega
              by_cases hr2 : en < b
              · have dr2 : decide ((en : Int) < (b : Int)) = true := by simp; omega
                go_wp2_with fail
                have hcr : Hid (Sg mid en g1 ∧ Sg en b g1 ∧ Idlt mid en b g1) := Lib.hid (by
                  have x := (cut_right ham hmb HS1.out HS2.out HID.out HC.out)
                  rw [HMID.out, HEN.out, HF1.out] at x
                  have o : ∀ i, mid ≤ i → g1 i = f1 i := fun i i0 => HP1.out.out (by omega)
                  refine ⟨x.1.congr (fun i i0 _ => o i i0), x.2.1.congr (fun i i0 _ => o i (by omega)), fun i j i0 i1 j0 j1 => ?_⟩
                  rw [o i i0, o j (by omega)]
                  exact x.2.2 i j i0 i1 j0 j1)
                refine (ih mid en b g1 _ (by have := HMA.out; omega) HLB.out (by omega) (by omega) hbn hcr.out.1 hcr.out.2.1 hcr.out.2.2).mono ?_
                rintro e w5 ⟨rfl, ⟨g2, hp2, hg2, hl2⟩, hu2⟩
                have HF : Hid ((∃ g, Pm a b f g ∧ Sg a b g ∧ LrAt w5 q M n g) ∧ Upd (· = q) w w5) := Lib.hid ⟨⟨g2, (HPF.out.trans (HP1.out.mono (Nat.le_refl _) (by omega))).trans (hp2.mono (by have := HMA.out; omega) (Nat.le_refl _)), Sg.join HX.out HP1.out HG1.out hp2 hg2, hl2⟩, HUB.out.trans hu2⟩
                clear hp2 hg2 hl2 hu2
                go_wp2_with fail
                exact bodyPost_end (v := .tuple #[]) (by first | rfl | simp [results, Try.results85, go_sem]) rfl ⟨rfl, HF.out⟩
              · have dr2 : decide ((en : Int) < (b : Int)) = false := by simp; omega
                have HTR : mid = en ∨ b ≤ en := Or.inr (by omega)
                have HSR : Hid (Sg mid b g1) := Lib.hid (by
                  have x := (cut_right ham hmb HS1.out HS2.out HID.out HC.out)
                  rw [HMID.out, HEN.out, HF1.out] at x
                  have c := HC.out.hib; have c2 := HC.out.mid
                  rw [HMID.out] at c c2; have := HEN.out
                  refine Sg.congr (f := f1) ?_ (fun i i0 i1 => HP1.out.out (by omega))
                  rcases (by have := HTR; omega : mid = en ∨ en = b) with e | e
                  · rw [e]; exact x.2.1
                  · rw [← e]; exact x.1)
                go_wp2_with fail
                exact bodyPost_end (v := .tuple #[]) (by first | rfl | simp [results, Try.results85, go_sem]) rfl ⟨rfl, ⟨g1, HPF.out.trans (HP1.out.mono (Nat.le_refl _) (by omega)), Sg.join HX.out HP1.out HG1.out (Pm.refl _ _ _) HSR.out, HLB.out⟩, HUB.out⟩
            · have dr1 : decide ((mid : Int) < (en : Int)) = false := by simp; omega
              have HTR : mid = en ∨ b ≤ en := Or.inl (by have := HMEN.out; omega)
              have HSR : Hid (Sg mid b g1) := Lib.hid (by
                have x := (cut_right ham hmb HS1.out HS2.out HID.out HC.out)
                rw [HMID.out, HEN.out, HF1.out] at x
                have c := HC.out.hib; have c2 := HC.out.mid
                rw [HMID.out] at c c2; have := HEN.out
                refine Sg.congr (f := f1) ?_ (fun i i0 i1 => HP1.out.out (by omega))
                rcases (by have := HTR; omega : mid = en ∨ en = b) with e | e
                · rw [e]; exact x.2.1
                · rw [← e]; exact x.1)
              go_wp2_with fail
              exact bodyPost_end (v := .tuple #[]) (by first | rfl | simp [results, Try.results85, go_sem]) rfl ⟨rfl, ⟨g1, HPF.out.trans (HP1.out.mono (Nat.le_refl _) (by omega)), Sg.join HX.out HP1.out HG1.out (Pm.refl _ _ _) HSR.out, HLB.out⟩, HUB.out⟩
        · have dl1 : decide ((a : Int) < (st : Int)) = false := by simp; omega
          have HTL : st = a ∨ st = mid := Or.inl (by have := HAST.out; omega)
          obtain ⟨g1, hg1⟩ : ∃ g, f1 = g := ⟨_, rfl⟩
          have HP1 : Hid (Pm a mid f1 g1) := Lib.hid (by rw [hg1]; exact Pm.refl _ _ _)
          have HG1 : Hid (Sg a mid g1) := Lib.hid (by
            have x := (cut_left ham hmb HS1.out HS2.out HID.out HC.out)
            rw [HMID.out, HEN.out, HF1.out, hg1] at x
            rcases HTL with e | e
            · rw [← e]; exact x.2.1
            · rw [← e]; exact x.1)
          have HLB : Hid (LrAt wr q M n g1) := Lib.hid (by rw [← hg1]; exact HLR.out)
          have HUB := HUR
          clear hg1 HLR HUR
          by_cases hr1 : mid < en
          · have dr1 : decide ((mid : Int) < (en : Int)) = true := by simp; omega
            by_cases hr2 : en < b
            · have dr2 : decide ((en : Int) < (b : Int)) = true := by simp; omega
              go_wp2_with fail
              have hcr : Hid (Sg mid en g1 ∧ Sg en b g1 ∧ Idlt mid en b g1) := Lib.hid (by
                have x := (cut_right ham hmb HS1.out HS2.out HID.out HC.out)
                rw [HMID.out, HEN.out, HF1.out] at x
                have o : ∀ i, mid ≤ i → g1 i = f1 i := fun i i0 => HP1.out.out (by omega)
                refine ⟨x.1.congr (fun i i0 _ => o i i0), x.2.1.congr (fun i i0 _ => o i (by omega)), fun i j i0 i1 j0 j1 => ?_⟩
                rw [o i i0, o j (by omega)]
                exact x.2.2 i j i0 i1 j0 j1)
              refine (ih mid en b g1 _ (by have := HMA.out; omega) HLB.out (by omega) (by omega) hbn hcr.out.1 hcr.out.2.1 hcr.out.2.2).mono ?_
              rintro e w5 ⟨rfl, ⟨g2, hp2, hg2, hl2⟩, hu2⟩
              have HF : Hid ((∃ g, Pm a b f g ∧ Sg a b g ∧ LrAt w5 q M n g) ∧ Upd (· = q) w w5) := Lib.hid ⟨⟨g2, (HPF.out.trans (HP1.out.mono (Nat.le_refl _) (by omega))).trans (hp2.mono (by have := HMA.out; omega) (Nat.le_refl _)), Sg.join HX.out HP1.out HG1.out hp2 hg2, hl2⟩, HUB.out.trans hu2⟩
              clear hp2 hg2 hl2 hu2
              go_wp2_with fail
              exact bodyPost_end (v := .tuple #[]) (by first | rfl | simp [results, Try.results85, go_sem]) rfl ⟨rfl, HF.out⟩
            · have dr2 : decide ((en : Int) < (b : Int)) = false := by simp; omega
              have HTR : mid = en ∨ b ≤ en := Or.inr (by omega)
              have HSR : Hid (Sg mid b g1) := Lib.hid (by
                have x := (cut_right ham hmb HS1.out HS2.out HID.out HC.out)
                rw [HMID.out, HEN.out, HF1.out] at x
                have c := HC.out.hib; have c2 := HC.out.mid
                rw [HMID.out] at c c2; have := HEN.out
                refine Sg.congr (f := f1) ?_ (fun i i0 i1 => HP1.out.out (by omega))
                rcases (by have := HTR; omega : mid = en ∨ en = b) with e | e
                · rw [e]; exact x.2.1
                · rw [← e]; exact x.1)
              go_wp2_with fail
              exact bodyPost_end (v := .tuple #[]) (by first | rfl | simp [results, Try.results85, go_sem]) rfl ⟨rfl, ⟨g1, HPF.out.trans (HP1.out.mono (Nat.le_refl _) (by omega)), Sg.join HX.out HP1.out HG1.out (Pm.refl _ _ _) HSR.out, HLB.out⟩, HUB.out⟩
          · have dr1 : decide ((mid : Int) < (en : Int)) = false := by simp; omega
            have HTR : mid = en ∨ b ≤ en := Or.inl (by have := HMEN.out; omega)
            have HSR : Hid (Sg mid b g1) := Lib.hid (by
              have x := (cut_right ham hmb HS1.out HS2.out HID.out HC.out)
              rw [HMID.out, HEN.out, HF1.out] at x
              have c := HC.out.hib; have c2 := HC.out.mid
              rw [HMID.out] at c c2; have := HEN.out
              refine Sg.congr (f := f1) ?_ (fun i i0 i1 => HP1.out.out (by omega))
              rcases (by have := HTR; omega : mid = en ∨ en = b) with e | e
              · rw [e]; exact x.2.1
              · rw [← e]; exact x.1)
            go_wp2_with fail
            exact bodyPost_end (v := .tuple #[]) (by first | rfl | simp [results, Try.results85, go_sem]) rfl ⟨rfl, ⟨g1, HPF.out.trans (HP1.out.mono (Nat.le_refl _) (by omega)), Sg.join HX.out HP1.out HG1.out (Pm.refl _ _ _) HSR.out, HLB.out⟩, HUB.out⟩
end Go.Proofs.Ytnebjbjdgfaooaa
