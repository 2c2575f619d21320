/- The contract of insertionSort over slices of list-register records. Conditions: the range lies in the slice; its records stand by their numbers. -/
import Derived.Test.YtnebjbjdgfaooaaSrtS
import Derived.Deep.RegionHeld3
namespace Go.Proofs.Ytnebjbjdgfaooaa
open Go.RowKit
set_option maxRecDepth 100000
theorem Pm.mvL {a m : Nat} (f : Nat → LrE) (d : Nat) : ∀ j, a ≤ j → m = j + d → Pm a (m + 1) f (mvL f m j) := by
  induction d with
  | zero => intro j _ hm; rw [hm, show j + 0 = j from rfl, mvL_self]; exact Pm.refl _ _ _
  | succ d ih =>
    intro j hj hm
    rw [← mvL_succ f m j (by omega)]
    exact (ih (j + 1) (by omega) (by omega)).trans (Pm.sw _ (by omega) (by omega))
theorem Pm.one {a : Nat} {f g : Nat → LrE} (h : Pm a (a + 1) f g) : g = f := by
  funext p
  by_cases hp : a ≤ p ∧ p < a + 1
  · obtain ⟨j, h0, h1, e⟩ := h.src hp.1 hp.2
    rw [e, show j = p by omega]
  · exact h.out hp
theorem wrap_i {x : Int} (h0 : 0 ≤ x) (h1 : x < 9223372036854775808) : IntKind.i64.wrap x = x := by
  simp only [IntKind.wrap, IntKind.bits, IntKind.signed]; simp; omega
theorem cmp_kept (x y : LrE) (q M n i j : Nat) (f : Nat → LrE) (w : World) (h : LrAt w q M n f) (hi : i < n) (hj : j < n) :
    Calls Try.prog 49 #[.agg #[.int .i64 (x).id, .int .i64 (x).pr, .bool (x).lv, .bool (x).pe, .bool (x).ac], .agg #[.int .i64 (y).id, .int .i64 (y).pr, .bool (y).lv, .bool (y).pe, .bool (y).ac]] w fun e w' => e = .returned (.int .i64 (cmpV x y)) ∧ LrAt w' q M n f ∧ (w'.cell? ⟨q, i * 5, none⟩ = some (.int .i64 (f i).id) ∧ w'.cell? ⟨q, i * 5 + 1, none⟩ = some (.int .i64 (f i).pr) ∧ w'.cell? ⟨q, i * 5 + 2, none⟩ = some (.bool (f i).lv) ∧ w'.cell? ⟨q, i * 5 + 3, none⟩ = some (.bool (f i).pe) ∧ w'.cell? ⟨q, i * 5 + 4, none⟩ = some (.bool (f i).ac)) ∧ (w'.cell? ⟨q, j * 5, none⟩ = some (.int .i64 (f j).id) ∧ w'.cell? ⟨q, j * 5 + 1, none⟩ = some (.int .i64 (f j).pr) ∧ w'.cell? ⟨q, j * 5 + 2, none⟩ = some (.bool (f j).lv) ∧ w'.cell? ⟨q, j * 5 + 3, none⟩ = some (.bool (f j).pe) ∧ w'.cell? ⟨q, j * 5 + 4, none⟩ = some (.bool (f j).ac)) ∧ Below w.heap.size w w' := by
  refine (cmp_any x y w).mono ?_
  rintro e w' ⟨he, hb⟩
  have hl := h.below hb
  exact ⟨he, hl, hl.cells i hi, hl.cells j hj, hb⟩
set_option maxHeartbeats 1000000 in
theorem is_any (q M n cap a b : Nat) (f : Nat → LrE) (w : World) (h : LrAt w q M n f) (hn : n < 4611686018427387904) (hab : a ≤ b) (hbn : b ≤ n) (hid : ∀ i j, a ≤ i → i < j → j < b → (f i).id < (f j).id) :
    Calls Try.prog 84 #[.slice (some ⟨q, 0, none⟩) n cap, .int .i64 a, .int .i64 b, .func (.func 49) #[] #[]] w fun e w' => e = .returned (.tuple #[]) ∧ (∃ g, Pm a b f g ∧ Sg a b g ∧ LrAt w' q M n g) ∧ Upd (· = q) w w' := by
  have H := Lib.hid h; clear h
  have HID := Lib.hid hid; clear hid
  go_enter Try.func84, Try.ntmps84
  go_wp2_with fail
  go_loopw [8, 9] (fun v8 _ wr => ∃ (i : Nat) (g : Nat → LrE), a + 1 ≤ i ∧ (i ≤ b ∨ i = a + 1) ∧ v8 = .int .i64 i ∧ Pm a i f g ∧ Sg a i g ∧ LrAt wr q M n g ∧ Upd (· = q) w wr) (fun v8 _ _ => n + 1 - (intOf v8).toNat)
  case atStart => exact ⟨a + 1, f, by omega, Or.inr rfl, by go_num, Pm.refl _ _ _, fun i j h0 h1 h2 => by omega, H.out, Upd.refl _ _⟩
  case round =>
    obtain ⟨i, g, hai, hib, rfl, hp, hs, hl, hu⟩ := hrel
    have HP := Lib.hid hp; have HS := Lib.hid hs; have HL := Lib.hid hl; have HU := Lib.hid hu; clear hp hs hl hu
    by_cases hlt : i < b
    · have HI : Hid (Idlt a i (i + 1) g) := Lib.hid (fun p r h0 h1 h2 h3 => by
        obtain rfl : r = i := by omega
        rw [HP.out.out (i := r) (by omega)]
        obtain ⟨p', k0, k1, e⟩ := HP.out.src h0 h1
        rw [e]
        exact HID.out p' r k0 k1 hlt)
      have hid : decide ((i : Int) < (b : Int)) = true := by simp; omega
      have hin : i < n := by omega
      go_wp2_with fail
      go_loopw [9] (fun v9 wr => ∃ j : Nat, a ≤ j ∧ j ≤ i ∧ v9 = .int .i64 j ∧ LrAt wr q M n (mvL g i j) ∧ (∀ k, j ≤ k → k < i → klt (g i) (g k) = true) ∧ Upd (· = q) w wr) (fun v9 _ => (intOf v9).toNat)
      case atStart => exact ⟨i, by omega, by omega, rfl, by rw [mvL_self]; exact HL.out, fun k h0 h1 => by omega, HU.out⟩
      case round =>
        clear HL HU
        obtain ⟨j, haj, hji, rfl, hl, hr, hu⟩ := hrel
        have HL := Lib.hid hl; have HU := Lib.hid hu; have HR := Lib.hid hr; clear hl hu hr
        by_cases hja : a < j
        · obtain ⟨k, hk⟩ : ∃ k : Nat, (j : Int) - 1 = (k : Int) := ⟨j - 1, by omega⟩
          have HK : Hid (j = k + 1) := Lib.hid (by omega)
          have hg : decide ((a : Int) < (j : Int)) = true := by simp; omega
          have hwk : IntKind.i64.wrap ((j : Int) - 1) = (k : Int) := by rw [wrap_i (by omega) (by omega)]; exact hk
          have hwl : IntKind.i64.wrap (k : Int) = (k : Int) := wrap_i (by omega) (by omega)
          have hkn : (k : Int) < (n : Int) := by omega
          have hjn : (j : Int) < (n : Int) := by omega
          obtain ⟨h, hh⟩ : ∃ h, mvL g i j = h := ⟨_, rfl⟩
          have HH := Lib.hid hh
          have E1 : Hid (h j = g i) := Lib.hid (by rw [← hh]; unfold mvL; rw [if_neg (by omega), if_pos rfl])
          have E2 : Hid (h k = g k) := Lib.hid (by rw [← hh]; unfold mvL; rw [if_neg (by omega), if_neg (by omega)])
          rw [hh] at HL
          clear hh
          obtain ⟨x0, x1, x2, x3, x4⟩ := HL.out.cells j (by omega)
          obtain ⟨y0, y1, y2, y3, y4⟩ := HL.out.cells k (by omega)
          have hfz := fun k => HL.out.frozen k
          cases hc : klt (g i) (g k)
          · have hcv : decide (cmpV (h j) (h k) < 0) = false := by rw [cmpV_lt, E1.out, E2.out]; exact hc
            have HS2 : Hid (Sg a (i + 1) (mvL g i j)) := Lib.hid (merge_one_right HS.out HI.out haj hji (fun k' h0 h1 => by
              by_cases e : k' = k
              · rw [e]; exact hc
              · cases hq : klt (g i) (g k')
                · rfl
                · have := klt_lx hq (HS.out k' k h0 (by have := HK.out; omega) (by have := HK.out; omega))
                  rw [hc] at this; cases this) HR.out)
            have HP2 : Hid (Pm a (i + 1) f (mvL g i j)) := Lib.hid ((HP.out.mono (Nat.le_refl _) (by omega)).trans (Pm.mvL g (i - j) j haj (by omega)))
            clear hc
            go_wp2_with fail
            go_region_held3 (fun w' => (w'.cell? ⟨q, j * 5, none⟩ = some (.int .i64 (h j).id) ∧ w'.cell? ⟨q, j * 5 + 1, none⟩ = some (.int .i64 (h j).pr) ∧ w'.cell? ⟨q, j * 5 + 2, none⟩ = some (.bool (h j).lv) ∧ w'.cell? ⟨q, j * 5 + 3, none⟩ = some (.bool (h j).pe) ∧ w'.cell? ⟨q, j * 5 + 4, none⟩ = some (.bool (h j).ac)) ∧ (w'.cell? ⟨q, k * 5, none⟩ = some (.int .i64 (h k).id) ∧ w'.cell? ⟨q, k * 5 + 1, none⟩ = some (.int .i64 (h k).pr) ∧ w'.cell? ⟨q, k * 5 + 2, none⟩ = some (.bool (h k).lv) ∧ w'.cell? ⟨q, k * 5 + 3, none⟩ = some (.bool (h k).pe) ∧ w'.cell? ⟨q, k * 5 + 4, none⟩ = some (.bool (h k).ac))) (go_keep)
              (first | (go_at_call 49; refine (cmp_kept (h j) (h k) q M n j k h _ (by exact LrAt.drew HL.out) (by omega) (by omega)).mono ?_; rintro e w1 ⟨rfl, hl1, ⟨x0, x1, x2, x3, x4⟩, ⟨y0, y1, y2, y3, y4⟩, hb1⟩))
            have HL1 : Hid (LrAt w1 q M n (mvL g i j)) := Lib.hid (by rw [HH.out]; exact hl1)
            have HU1 := Lib.hid ((Upd.drew HU.out).trans (Upd.of_below hb1))
            clear hl1 hb1
            go_wp2_with fail
            go_roundw
            case rel => exact ⟨i + 1, mvL g i j, by omega, Or.inl (by omega), by go_num, HP2.out, HS2.out, HL1.out, HU1.out⟩
            case measure => simp [intOf]; omega
          · have hcv : decide (cmpV (h j) (h k) < 0) = true := by rw [cmpV_lt, E1.out, E2.out]; exact hc
            have HR2 : Hid (∀ k', k ≤ k' → k' < i → klt (g i) (g k') = true) := Lib.hid (fun k' h0 h1 => by
              by_cases e : k' = k
              · rw [e]; exact hc
              · exact HR.out k' (by have := HK.out; omega) h1)
            clear hc
            go_wp2_with fail
            go_region_held3 (fun w' => (w'.cell? ⟨q, j * 5, none⟩ = some (.int .i64 (h j).id) ∧ w'.cell? ⟨q, j * 5 + 1, none⟩ = some (.int .i64 (h j).pr) ∧ w'.cell? ⟨q, j * 5 + 2, none⟩ = some (.bool (h j).lv) ∧ w'.cell? ⟨q, j * 5 + 3, none⟩ = some (.bool (h j).pe) ∧ w'.cell? ⟨q, j * 5 + 4, none⟩ = some (.bool (h j).ac)) ∧ (w'.cell? ⟨q, k * 5, none⟩ = some (.int .i64 (h k).id) ∧ w'.cell? ⟨q, k * 5 + 1, none⟩ = some (.int .i64 (h k).pr) ∧ w'.cell? ⟨q, k * 5 + 2, none⟩ = some (.bool (h k).lv) ∧ w'.cell? ⟨q, k * 5 + 3, none⟩ = some (.bool (h k).pe) ∧ w'.cell? ⟨q, k * 5 + 4, none⟩ = some (.bool (h k).ac))) (go_keep)
              (first | (go_at_call 49; refine (cmp_kept (h j) (h k) q M n j k h _ (by exact LrAt.drew HL.out) (by omega) (by omega)).mono ?_; rintro e w1 ⟨rfl, hl1, ⟨x0, x1, x2, x3, x4⟩, ⟨y0, y1, y2, y3, y4⟩, hb1⟩))
            have HL1 := Lib.hid hl1
            have HU1 := Lib.hid ((Upd.drew HU.out).trans (Upd.of_below hb1))
            have hfz := fun k => HL1.out.frozen k
            clear hl1 hb1 HL HU
            go_wp2_with fail
            go_region
            go_wp2_with fail
            go_roundw
            case rel => exact ⟨k, by omega, by omega, rfl, by rw [← mvL_succ g i k (by have := HK.out; omega), show mvL g i (k + 1) = h by rw [← HK.out]; exact HH.out, ← HK.out]; with_reducible exact LrAt.drew (LrAt.swc HL1.out j k), HR2.out, by with_reducible exact Upd.drew (Upd.swc HU1.out j k _ _)⟩
            case measure => simp [intOf]; omega
        · obtain rfl : j = a := by omega
          have hg : decide ((j : Int) < (j : Int)) = false := by simp
          have HS2 : Hid (Sg j (i + 1) (mvL g i j)) := Lib.hid (merge_one_right HS.out HI.out (Nat.le_refl _) hji (fun k' h0 h1 => by omega) HR.out)
          have HP2 : Hid (Pm j (i + 1) f (mvL g i j)) := Lib.hid ((HP.out.mono (Nat.le_refl _) (by omega)).trans (Pm.mvL g (i - j) j (Nat.le_refl _) (by omega)))
          go_wp2_with fail
          go_quiet (fail)
          go_wp2_with fail
          go_roundw
          case rel => exact ⟨i + 1, mvL g i j, by omega, Or.inl (by omega), by go_num, HP2.out, HS2.out, LrAt.drewN HL.out _, Upd.drewN HU.out _⟩
          case measure => simp [intOf]; omega
    · go_wp2_with fail
      have HF : Hid (∃ g', Pm a b f g' ∧ Sg a b g' ∧ LrAt wr q M n g') := Lib.hid (by
        rcases (by omega : i = b ∨ (i = a + 1 ∧ b ≤ a)) with e | ⟨e, hba⟩
        · subst e; exact ⟨g, HP.out, HS.out, HL.out⟩
        · subst e
          have := HP.out.one
          subst this
          exact ⟨g, Pm.refl _ _ _, fun i j h0 h1 h2 => by omega, HL.out⟩)
      exact bodyPost_end (v := .tuple #[]) (by first | rfl | simp [results, Try.results84, go_sem]) rfl ⟨rfl, HF.out, HU.out⟩
end Go.Proofs.Ytnebjbjdgfaooaa
