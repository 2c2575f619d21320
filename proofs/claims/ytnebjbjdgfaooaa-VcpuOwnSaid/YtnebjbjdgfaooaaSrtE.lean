/- The contracts of slices.stable and slices.SortStableFunc over at most 64 list-register records. Condition: they stand by their numbers. -/
import Derived.Test.YtnebjbjdgfaooaaSrtD
namespace Go.Proofs.Ytnebjbjdgfaooaa
open Go.RowKit
set_option maxRecDepth 100000
/-- Of two blocks of s the records of the former have the lesser numbers. -/
def IdB (s n : Nat) (g : Nat → LrE) : Prop := ∀ i j, i < n → j < n → i / s < j / s → (g i).id < (g j).id
def SrtB (s n : Nat) (g : Nat → LrE) : Prop := ∀ i j, i < j → j < n → i / s = j / s → Lx (g i) (g j)
theorem IdB.pm {s n a b : Nat} {g h : Nat → LrE} (x : IdB s n g) (p : Pm a b g h) (hb : b ≤ n) (hs : ∀ i, a ≤ i → i < b → i / s = a / s) : IdB s n h := by
  have key : ∀ i, i < n → ∃ i', i' < n ∧ i' / s = i / s ∧ h i = g i' := fun i hi => by
    by_cases hab : a ≤ i ∧ i < b
    · obtain ⟨i', h0, h1, e⟩ := p.src hab.1 hab.2
      exact ⟨i', by omega, by rw [hs i' h0 h1, hs i hab.1 hab.2], e⟩
    · exact ⟨i, hi, rfl, p.out hab⟩
  intro i j hi hj hij
  obtain ⟨i', a0, a1, a2⟩ := key i hi
  obtain ⟨j', b0, b1, b2⟩ := key j hj
  rw [a2, b2]
  exact x i' j' a0 b0 (by rw [a1, b1]; exact hij)
set_option maxHeartbeats 8000000 in
theorem st_any (q M n cap : Nat) (f : Nat → LrE) (w : World) (h : LrAt w q M n f) (hn : n ≤ 64) (hid : ∀ i j, i < j → j < n → (f i).id < (f j).id) :
    Calls Try.prog 80 #[.slice (some ⟨q, 0, none⟩) n cap, .int .i64 n, .func (.func 49) #[] #[]] w fun e w' => e = .returned (.tuple #[]) ∧ (∃ g, Pm 0 n f g ∧ Sg 0 n g ∧ LrAt w' q M n g) ∧ Upd (· = q) w w' := by
  have H := Lib.hid h; have HID := Lib.hid hid; clear h hid
  go_enter Try.func80, Try.ntmps80
  go_wp2_with fail
  go_loopw [7, 8] (fun v7 v8 wr => ∃ (a b : Nat) (g : Nat → LrE), v7 = .int .i64 a ∧ v8 = .int .i64 b ∧ a % 20 = 0 ∧ b = a + 20 ∧ a ≤ n ∧ Pm 0 n f g ∧ IdB 20 n g ∧ (∀ p, a ≤ p → g p = f p) ∧ (∀ i j, i < j → j < a → i / 20 = j / 20 → Lx (g i) (g j)) ∧ LrAt wr q M n g ∧ Upd (· = q) w wr) (fun v7 _ _ => n + 20 - (intOf v7).toNat)
  case atStart => exact ⟨0, 20, f, rfl, rfl, by omega, by omega, by omega, Pm.refl _ _ _, fun i j hi hj hij => HID.out i j (by omega) hj, fun p _ => rfl, fun i j _ hj => by omega, H.out, Upd.refl _ _⟩
  case round =>
    clear H
    obtain ⟨a, b, g, rfl, rfl, ha, hb, han, hp, hib, hgf, hdo, hl, hu⟩ := hrel
    have HP := Lib.hid hp; have HIB := Lib.hid hib; have HGF := Lib.hid hgf; have HDO := Lib.hid hdo; have HL := Lib.hid hl; have HU := Lib.hid hu; have HAB := Lib.hid hb; clear hp hib hgf hdo hl hu hb
    obtain ⟨b2, hb2⟩ : ∃ x : Nat, (b : Int) + 20 = (x : Int) := ⟨b + 20, by omega⟩
    by_cases hbn : b ≤ n
    · have dbn : decide ((b : Int) ≤ (n : Int)) = true := by simp; omega
      go_wp2_with fail
      refine (is_any q M n cap a b g _ HL.out (by omega) (by have := HAB.out; omega) hbn (fun i j h0 h1 h2 => by rw [HGF.out i h0, HGF.out j (by omega)]; exact HID.out i j h1 (by omega))).mono ?_
      rintro e w2 ⟨rfl, ⟨g2, hp2, hs2, hl2⟩, hu2⟩
      have HP2 : Hid (Pm 0 n f g2) := Lib.hid (HP.out.trans (hp2.mono (by omega) hbn))
      have HIB2 : Hid (IdB 20 n g2) := Lib.hid (HIB.out.pm hp2 hbn (fun i h0 h1 => by have := HAB.out; omega))
      have HGF2 : Hid (∀ p, b ≤ p → g2 p = f p) := Lib.hid (fun p h0 => by rw [hp2.out (i := p) (by omega)]; exact HGF.out p (by have := HAB.out; omega))
      have HDO2 : Hid (∀ i j, i < j → j < b → i / 20 = j / 20 → Lx (g2 i) (g2 j)) := Lib.hid (fun i j h0 h1 h2 => by
        by_cases hj : j < a
        · rw [hp2.out (i := i) (by omega), hp2.out (i := j) (by omega)]
          exact HDO.out i j h0 hj h2
        · exact hs2 i j (by omega) h0 h1)
      have HL2 := Lib.hid hl2; have HU2 := Lib.hid (HU.out.trans hu2)
      clear hp2 hs2 hl2 hu2 HP HIB HGF HDO HL HU
      go_wp2_with fail
      go_roundw
      case rel => exact ⟨b, b2, g2, rfl, rfl, by have := HAB.out; omega, by omega, hbn, HP2.out, HIB2.out, HGF2.out, HDO2.out, HL2.out, HU2.out⟩
      case measure => have := HAB.out; simp [intOf]; omega
    · have dbn : decide ((b : Int) ≤ (n : Int)) = false := by simp; omega
      go_wp2_with fail
      refine (is_any q M n cap a n g _ HL.out (by omega) han (Nat.le_refl _) (fun i j h0 h1 h2 => by rw [HGF.out i h0, HGF.out j (by omega)]; exact HID.out i j h1 (by omega))).mono ?_
      rintro e w2 ⟨rfl, ⟨g2, hp2, hs2, hl2⟩, hu2⟩
      have HP2 : Hid (Pm 0 n f g2) := Lib.hid (HP.out.trans (hp2.mono (by omega) (Nat.le_refl _)))
      have HIB2 : Hid (IdB 20 n g2) := Lib.hid (HIB.out.pm hp2 (Nat.le_refl _) (fun i h0 h1 => by have := HAB.out; omega))
      have HT2 : Hid (SrtB 20 n g2) := Lib.hid (fun i j h0 h1 h2 => by
        by_cases hj : j < a
        · rw [hp2.out (i := i) (by omega), hp2.out (i := j) (by omega)]
          exact HDO.out i j h0 hj h2
        · exact hs2 i j (by omega) h0 h1)
      have HL2 := Lib.hid hl2; have HU2 := Lib.hid (HU.out.trans hu2)
      clear hp2 hs2 hl2 hu2 HP HIB HGF HDO HL HU HAB hb2 ha
      go_wp2_with fail
      go_loopw [6, 7, 8, 9] (fun v6 v7 v8 v9 wr => ∃ (s : Nat) (g : Nat → LrE), ((s = 20 ∧ v6 = .int .i64 20) ∨ (s = 40 ∧ v6 = .int .i64 40) ∨ (s = 80 ∧ v6 = .int .i64 80)) ∧ Pm 0 n f g ∧ IdB s n g ∧ SrtB s n g ∧ LrAt wr q M n g ∧ Upd (· = q) w wr) (fun v6 _ _ _ _ => 100 - (intOf v6).toNat)
      case atStart => exact ⟨20, g2, Or.inl ⟨rfl, rfl⟩, HP2.out, HIB2.out, HT2.out, HL2.out, HU2.out⟩
      case round =>
        clear HP2 HIB2 HT2 HL2 HU2
        obtain ⟨s, g, hs, hp, hb, ht, hl, hu⟩ := hrel
        rcases hs with ⟨rfl, rfl⟩ | ⟨rfl, rfl⟩ | ⟨rfl, rfl⟩
        ·
          have HP := Lib.hid hp; have HB := Lib.hid hb; have HT := Lib.hid ht; have HL := Lib.hid hl; have HU := Lib.hid hu; clear hp hb ht hl hu
          by_cases hsn : 20 < n
          · have hdn : decide ((20 : Int) < (n : Int)) = true := by simp; omega
            go_wp2_with fail
            go_loopw [7, 8] (fun v7 v8 wr => ∃ (a b : Nat) (g : Nat → LrE), v7 = .int .i64 a ∧ v8 = .int .i64 b ∧ a % 40 = 0 ∧ b = a + 40 ∧ a ≤ n ∧ Pm 0 n f g ∧ IdB 40 n g ∧ (∀ i j, a ≤ i → i < j → j < n → i / 20 < j / 20 → (g i).id < (g j).id) ∧ (∀ i j, a ≤ i → i < j → j < n → i / 20 = j / 20 → Lx (g i) (g j)) ∧ (∀ i j, i < j → j < a → i / 40 = j / 40 → Lx (g i) (g j)) ∧ LrAt wr q M n g ∧ Upd (· = q) w wr) (fun v7 _ _ => n + 40 - (intOf v7).toNat)
            case atStart => exact ⟨0, 40, g, rfl, rfl, by omega, by omega, by omega, HP.out, fun i j hi hj hij => HB.out i j hi hj (by omega), fun i j _ hij hj hlt => HB.out i j (by omega) hj hlt, fun i j _ hij hj he => HT.out i j hij hj he, fun i j _ hj => by omega, HL.out, HU.out⟩
            case round =>
              clear HP HB HT HL HU
              obtain ⟨a, b, g, rfl, rfl, ha, hb, han, hp, hib, hid, hse, hdo, hl, hu⟩ := hrel
              have HP := Lib.hid hp; have HIB := Lib.hid hib; have HI := Lib.hid hid; have HSE := Lib.hid hse; have HDO := Lib.hid hdo; have HL := Lib.hid hl; have HU := Lib.hid hu; have HAB := Lib.hid hb; clear hp hib hid hse hdo hl hu hb
              obtain ⟨m, hm⟩ : ∃ x : Nat, (a : Int) + 20 = (x : Int) := ⟨a + 20, by omega⟩
              have HM : Hid (m = a + 20) := Lib.hid (by omega)
              obtain ⟨b2, hb2⟩ : ∃ x : Nat, (b : Int) + 40 = (x : Int) := ⟨b + 40, by omega⟩
              by_cases hbn : b ≤ n
              · have dbn : decide ((b : Int) ≤ (n : Int)) = true := by simp; omega
                go_wp2_with fail
                refine (sm_any q M n cap (by omega) (b - a) a m b g _ (Nat.le_refl _) HL.out (by have := HM.out; omega) (by have := HM.out; have := HAB.out; omega) hbn
                  (fun i j h0 h1 h2 => HSE.out i j h0 h1 (by have := HM.out; have := HAB.out; omega) (by have := HM.out; omega))
                  (fun i j h0 h1 h2 => HSE.out i j (by have := HM.out; omega) h1 (by omega) (by have := HM.out; have := HAB.out; omega))
                  (fun i j h0 h1 h2 h3 => HI.out i j h0 (by omega) (by omega) (by have := HM.out; have := HAB.out; omega))).mono ?_
                rintro e w2 ⟨rfl, ⟨g2, hp2, hs2, hl2⟩, hu2⟩
                have HP2 : Hid (Pm 0 n f g2) := Lib.hid (HP.out.trans (hp2.mono (by omega) hbn))
                have HIB2 : Hid (IdB 40 n g2) := Lib.hid (HIB.out.pm hp2 hbn (fun i h0 h1 => by have := HAB.out; omega))
                have HI2 : Hid (∀ i j, b ≤ i → i < j → j < n → i / 20 < j / 20 → (g2 i).id < (g2 j).id) := Lib.hid (fun i j h0 h1 h2 h3 => by
                  rw [hp2.out (i := i) (by omega), hp2.out (i := j) (by omega)]
                  exact HI.out i j (by have := HAB.out; omega) h1 h2 h3)
                have HSE2 : Hid (∀ i j, b ≤ i → i < j → j < n → i / 20 = j / 20 → Lx (g2 i) (g2 j)) := Lib.hid (fun i j h0 h1 h2 h3 => by
                  rw [hp2.out (i := i) (by omega), hp2.out (i := j) (by omega)]
                  exact HSE.out i j (by have := HAB.out; omega) h1 h2 h3)
                have HDO2 : Hid (∀ i j, i < j → j < b → i / 40 = j / 40 → Lx (g2 i) (g2 j)) := Lib.hid (fun i j h0 h1 h2 => by
                  by_cases hj : j < a
                  · rw [hp2.out (i := i) (by omega), hp2.out (i := j) (by omega)]
                    exact HDO.out i j h0 hj h2
                  · exact hs2 i j (by omega) h0 h1)
                have HL2 := Lib.hid hl2; have HU2 := Lib.hid (HU.out.trans hu2)
                clear hp2 hs2 hl2 hu2 HP HIB HI HSE HDO HL HU
                go_wp2_with fail
                go_roundw
                case rel => exact ⟨b, b2, g2, rfl, rfl, by have := HAB.out; omega, by omega, hbn, HP2.out, HIB2.out, HI2.out, HSE2.out, HDO2.out, HL2.out, HU2.out⟩
                case measure => have := HAB.out; simp [intOf]; omega
              · have dbn : decide ((b : Int) ≤ (n : Int)) = false := by simp; omega
                by_cases hmn : m < n
                · have dmn : decide ((m : Int) < (n : Int)) = true := by simp; omega
                  go_wp2_with fail
                  refine (sm_any q M n cap (by omega) (n - a) a m n g _ (Nat.le_refl _) HL.out (by have := HM.out; omega) hmn (Nat.le_refl _)
                    (fun i j h0 h1 h2 => HSE.out i j h0 h1 (by have := HM.out; have := HAB.out; omega) (by have := HM.out; omega))
                    (fun i j h0 h1 h2 => HSE.out i j (by have := HM.out; omega) h1 (by omega) (by have := HM.out; have := HAB.out; omega))
                    (fun i j h0 h1 h2 h3 => HI.out i j h0 (by omega) (by omega) (by have := HM.out; have := HAB.out; omega))).mono ?_
                  rintro e w2 ⟨rfl, ⟨g2, hp2, hs2, hl2⟩, hu2⟩
                  have HP2 : Hid (Pm 0 n f g2) := Lib.hid (HP.out.trans (hp2.mono (by omega) (Nat.le_refl _)))
                  have HIB2 : Hid (IdB 40 n g2) := Lib.hid (HIB.out.pm hp2 (Nat.le_refl _) (fun i h0 h1 => by have := HAB.out; omega))
                  have HT2 : Hid (SrtB 40 n g2) := Lib.hid (fun i j h0 h1 h2 => by
                    by_cases hj : j < a
                    · rw [hp2.out (i := i) (by omega), hp2.out (i := j) (by omega)]
                      exact HDO.out i j h0 hj h2
                    · exact hs2 i j (by omega) h0 h1)
                  have HL2 := Lib.hid hl2; have HU2 := Lib.hid (HU.out.trans hu2)
                  clear hp2 hs2 hl2 hu2 HP HIB HI HSE HDO HL HU
                  go_wp2_with fail
                  go_roundw
                  case rel => exact ⟨40, g2, Or.inr (Or.inl ⟨rfl, rfl⟩), HP2.out, HIB2.out, HT2.out, HL2.out, HU2.out⟩
                  case measure => first | (simp [intOf]; done) | (simp [intOf]; omega)
                · have dmn : decide ((m : Int) < (n : Int)) = false := by simp; omega
                  have HT2 : Hid (SrtB 40 n g) := Lib.hid (fun i j h0 h1 h2 => by
                    by_cases hj : j < a
                    · exact HDO.out i j h0 hj h2
                    · exact HSE.out i j (by omega) h0 h1 (by have := HM.out; omega))
                  clear HI HSE HDO
                  go_wp2_with fail
                  go_roundw
                  case rel => exact ⟨40, g, Or.inr (Or.inl ⟨rfl, rfl⟩), HP.out, HIB.out, HT2.out, HL.out, HU.out⟩
                  case measure => first | (simp [intOf]; done) | (simp [intOf]; omega)
          · have hdn : decide ((20 : Int) < (n : Int)) = false := by simp; omega
            have HF : Hid ((∃ g, Pm 0 n f g ∧ Sg 0 n g ∧ LrAt wr q M n g) ∧ Upd (· = q) w wr) := Lib.hid ⟨⟨g, HP.out, fun i j _ h1 h2 => HT.out i j h1 h2 (by omega), HL.out⟩, HU.out⟩
            go_wp2_with fail
            exact bodyPost_end (v := .tuple #[]) (by first | rfl | simp [results, Try.results80, go_sem]) rfl ⟨rfl, HF.out⟩
        ·
          have HP := Lib.hid hp; have HB := Lib.hid hb; have HT := Lib.hid ht; have HL := Lib.hid hl; have HU := Lib.hid hu; clear hp hb ht hl hu
          by_cases hsn : 40 < n
          · have hdn : decide ((40 : Int) < (n : Int)) = true := by simp; omega
            go_wp2_with fail
            go_loopw [7, 8] (fun v7 v8 wr => ∃ (a b : Nat) (g : Nat → LrE), v7 = .int .i64 a ∧ v8 = .int .i64 b ∧ a % 80 = 0 ∧ b = a + 80 ∧ a ≤ n ∧ Pm 0 n f g ∧ IdB 80 n g ∧ (∀ i j, a ≤ i → i < j → j < n → i / 40 < j / 40 → (g i).id < (g j).id) ∧ (∀ i j, a ≤ i → i < j → j < n → i / 40 = j / 40 → Lx (g i) (g j)) ∧ (∀ i j, i < j → j < a → i / 80 = j / 80 → Lx (g i) (g j)) ∧ LrAt wr q M n g ∧ Upd (· = q) w wr) (fun v7 _ _ => n + 80 - (intOf v7).toNat)
            case atStart => exact ⟨0, 80, g, rfl, rfl, by omega, by omega, by omega, HP.out, fun i j hi hj hij => HB.out i j hi hj (by omega), fun i j _ hij hj hlt => HB.out i j (by omega) hj hlt, fun i j _ hij hj he => HT.out i j hij hj he, fun i j _ hj => by omega, HL.out, HU.out⟩
            case round =>
              clear HP HB HT HL HU
              obtain ⟨a, b, g, rfl, rfl, ha, hb, han, hp, hib, hid, hse, hdo, hl, hu⟩ := hrel
              have HP := Lib.hid hp; have HIB := Lib.hid hib; have HI := Lib.hid hid; have HSE := Lib.hid hse; have HDO := Lib.hid hdo; have HL := Lib.hid hl; have HU := Lib.hid hu; have HAB := Lib.hid hb; clear hp hib hid hse hdo hl hu hb
              obtain ⟨m, hm⟩ : ∃ x : Nat, (a : Int) + 40 = (x : Int) := ⟨a + 40, by omega⟩
              have HM : Hid (m = a + 40) := Lib.hid (by omega)
              obtain ⟨b2, hb2⟩ : ∃ x : Nat, (b : Int) + 80 = (x : Int) := ⟨b + 80, by omega⟩
              by_cases hbn : b ≤ n
              · have dbn : decide ((b : Int) ≤ (n : Int)) = true := by simp; omega
                go_wp2_with fail
                refine (sm_any q M n cap (by omega) (b - a) a m b g _ (Nat.le_refl _) HL.out (by have := HM.out; omega) (by have := HM.out; have := HAB.out; omega) hbn
                  (fun i j h0 h1 h2 => HSE.out i j h0 h1 (by have := HM.out; have := HAB.out; omega) (by have := HM.out; omega))
                  (fun i j h0 h1 h2 => HSE.out i j (by have := HM.out; omega) h1 (by omega) (by have := HM.out; have := HAB.out; omega))
                  (fun i j h0 h1 h2 h3 => HI.out i j h0 (by omega) (by omega) (by have := HM.out; have := HAB.out; omega))).mono ?_
                rintro e w2 ⟨rfl, ⟨g2, hp2, hs2, hl2⟩, hu2⟩
                have HP2 : Hid (Pm 0 n f g2) := Lib.hid (HP.out.trans (hp2.mono (by omega) hbn))
                have HIB2 : Hid (IdB 80 n g2) := Lib.hid (HIB.out.pm hp2 hbn (fun i h0 h1 => by have := HAB.out; omega))
                have HI2 : Hid (∀ i j, b ≤ i → i < j → j < n → i / 40 < j / 40 → (g2 i).id < (g2 j).id) := Lib.hid (fun i j h0 h1 h2 h3 => by
                  rw [hp2.out (i := i) (by omega), hp2.out (i := j) (by omega)]
                  exact HI.out i j (by have := HAB.out; omega) h1 h2 h3)
                have HSE2 : Hid (∀ i j, b ≤ i → i < j → j < n → i / 40 = j / 40 → Lx (g2 i) (g2 j)) := Lib.hid (fun i j h0 h1 h2 h3 => by
                  rw [hp2.out (i := i) (by omega), hp2.out (i := j) (by omega)]
                  exact HSE.out i j (by have := HAB.out; omega) h1 h2 h3)
                have HDO2 : Hid (∀ i j, i < j → j < b → i / 80 = j / 80 → Lx (g2 i) (g2 j)) := Lib.hid (fun i j h0 h1 h2 => by
                  by_cases hj : j < a
                  · rw [hp2.out (i := i) (by omega), hp2.out (i := j) (by omega)]
                    exact HDO.out i j h0 hj h2
                  · exact hs2 i j (by omega) h0 h1)
                have HL2 := Lib.hid hl2; have HU2 := Lib.hid (HU.out.trans hu2)
                clear hp2 hs2 hl2 hu2 HP HIB HI HSE HDO HL HU
                go_wp2_with fail
                go_roundw
                case rel => exact ⟨b, b2, g2, rfl, rfl, by have := HAB.out; omega, by omega, hbn, HP2.out, HIB2.out, HI2.out, HSE2.out, HDO2.out, HL2.out, HU2.out⟩
                case measure => have := HAB.out; simp [intOf]; omega
              · have dbn : decide ((b : Int) ≤ (n : Int)) = false := by simp; omega
                by_cases hmn : m < n
                · have dmn : decide ((m : Int) < (n : Int)) = true := by simp; omega
                  go_wp2_with fail
                  refine (sm_any q M n cap (by omega) (n - a) a m n g _ (Nat.le_refl _) HL.out (by have := HM.out; omega) hmn (Nat.le_refl _)
                    (fun i j h0 h1 h2 => HSE.out i j h0 h1 (by have := HM.out; have := HAB.out; omega) (by have := HM.out; omega))
                    (fun i j h0 h1 h2 => HSE.out i j (by have := HM.out; omega) h1 (by omega) (by have := HM.out; have := HAB.out; omega))
                    (fun i j h0 h1 h2 h3 => HI.out i j h0 (by omega) (by omega) (by have := HM.out; have := HAB.out; omega))).mono ?_
                  rintro e w2 ⟨rfl, ⟨g2, hp2, hs2, hl2⟩, hu2⟩
                  have HP2 : Hid (Pm 0 n f g2) := Lib.hid (HP.out.trans (hp2.mono (by omega) (Nat.le_refl _)))
                  have HIB2 : Hid (IdB 80 n g2) := Lib.hid (HIB.out.pm hp2 (Nat.le_refl _) (fun i h0 h1 => by have := HAB.out; omega))
                  have HT2 : Hid (SrtB 80 n g2) := Lib.hid (fun i j h0 h1 h2 => by
                    by_cases hj : j < a
                    · rw [hp2.out (i := i) (by omega), hp2.out (i := j) (by omega)]
                      exact HDO.out i j h0 hj h2
                    · exact hs2 i j (by omega) h0 h1)
                  have HL2 := Lib.hid hl2; have HU2 := Lib.hid (HU.out.trans hu2)
                  clear hp2 hs2 hl2 hu2 HP HIB HI HSE HDO HL HU
                  go_wp2_with fail
                  go_roundw
                  case rel => exact ⟨80, g2, Or.inr (Or.inr ⟨rfl, rfl⟩), HP2.out, HIB2.out, HT2.out, HL2.out, HU2.out⟩
                  case measure => first | (simp [intOf]; done) | (simp [intOf]; omega)
                · have dmn : decide ((m : Int) < (n : Int)) = false := by simp; omega
                  have HT2 : Hid (SrtB 80 n g) := Lib.hid (fun i j h0 h1 h2 => by
                    by_cases hj : j < a
                    · exact HDO.out i j h0 hj h2
                    · exact HSE.out i j (by omega) h0 h1 (by have := HM.out; omega))
                  clear HI HSE HDO
                  go_wp2_with fail
                  go_roundw
                  case rel => exact ⟨80, g, Or.inr (Or.inr ⟨rfl, rfl⟩), HP.out, HIB.out, HT2.out, HL.out, HU.out⟩
                  case measure => first | (simp [intOf]; done) | (simp [intOf]; omega)
          · have hdn : decide ((40 : Int) < (n : Int)) = false := by simp; omega
            have HF : Hid ((∃ g, Pm 0 n f g ∧ Sg 0 n g ∧ LrAt wr q M n g) ∧ Upd (· = q) w wr) := Lib.hid ⟨⟨g, HP.out, fun i j _ h1 h2 => HT.out i j h1 h2 (by omega), HL.out⟩, HU.out⟩
            go_wp2_with fail
            exact bodyPost_end (v := .tuple #[]) (by first | rfl | simp [results, Try.results80, go_sem]) rfl ⟨rfl, HF.out⟩
        ·
          have HP := Lib.hid hp; have HT := Lib.hid ht; have HL := Lib.hid hl; have HU := Lib.hid hu; clear hp hb ht hl hu
          have hdn : decide ((80 : Int) < (n : Int)) = false := by simp; omega
          have hdm : ¬ 80 < n := by omega
          have HF : Hid ((∃ g, Pm 0 n f g ∧ Sg 0 n g ∧ LrAt wr q M n g) ∧ Upd (· = q) w wr) := Lib.hid ⟨⟨g, HP.out, fun i j _ h1 h2 => HT.out i j h1 h2 (by omega), HL.out⟩, HU.out⟩
          go_wp2_with fail
          exact bodyPost_end (v := .tuple #[]) (by first | rfl | simp [results, Try.results80, go_sem]) rfl ⟨rfl, HF.out⟩
theorem sortstable_any (q M n cap : Nat) (f : Nat → LrE) (w : World) (h : LrAt w q M n f) (hn : n ≤ 64) (hid : ∀ i j, i < j → j < n → (f i).id < (f j).id) :
    Calls Try.prog 48 #[.slice (some ⟨q, 0, none⟩) n cap, .func (.func 49) #[] #[]] w fun e w' => e = .returned (.tuple #[]) ∧ (∃ g, Pm 0 n f g ∧ Sg 0 n g ∧ LrAt w' q M n g) ∧ Upd (· = q) w w' := by
  have H := Lib.hid h; clear h
  go_enter Try.func48, Try.ntmps48
  go_wp2_with fail
  refine (st_any q M n cap f _ H.out hn hid).mono ?_
  rintro e w2 ⟨rfl, h2, u2⟩
  have HF := Lib.hid (And.intro h2 u2)
  clear h2 u2
  go_wp2_with fail
  exact bodyPost_end (v := .tuple #[]) (by first | rfl | simp [results, Try.results48, go_sem]) rfl ⟨rfl, HF.out⟩
end Go.Proofs.Ytnebjbjdgfaooaa
