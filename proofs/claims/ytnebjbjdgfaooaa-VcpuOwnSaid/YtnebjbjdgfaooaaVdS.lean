/- The contract of same of chapter 18: two parties that stand alike are told to do so; no condition but plain invariants. -/
import Derived.Test.YtnebjbjdgfaooaaVdL
import Derived.Test.YtnebjbjdgfaooaaVdU
import Derived.Deep.RegionHeld3
namespace Go.Proofs.Ytnebjbjdgfaooaa
open Go.RowKit Go.Maps
set_option maxRecDepth 100000
/-- All priorities of all interrupts lie between 0 and 255. -/
def RngA (A : Am) : Prop := ∀ i a, A.all i = some a → Rng a.S
section
variable {w0 w w1 : World} {p r : Nat} {o o2 : Own} {A B : Am}
theorem Duo.drewN (h : Duo w0 w p r o o2 A B) (m : Nat) : Duo w0 (w.drewN m) p r o o2 A B := h.kept (X := fun _ => False) ((Upd.refl _ _).drewN m) (fun _ _ h => h) (below_drewN h.bel _)
theorem Duo.drew (h : Duo w0 w p r o o2 A B) : Duo w0 w.drew p r o o2 A B := h.drewN 1
theorem isof_eq {t z1 z2 : Int} (h : Uq A) (h1 : IsOf A t z1) (h2 : IsOf A t z2) (hn : t ≠ -1) : z1 = z2 := by
  rcases h2 with ⟨b, hb, hb2, _⟩ | ⟨e, hno⟩
  · exact isof_uniq h h1 hb hb2 hn
  · rcases h1 with ⟨a, ha, ha2, _⟩ | ⟨e1, _⟩
    · exact absurd (hno z1 a ha ha2) hn
    · rw [e, e1]
theorem hof_r (h : Duo w0 w p r o o2 A B) (t : Int) (ht : 0 ≤ t) : Calls Try.prog 78 #[.pointer (some ⟨r, 0, none⟩), .int .i64 t] w fun e w' => (∃ z, e = .returned (.int .i64 z) ∧ IsOf B t z) ∧ w' = w := by
  obtain ⟨D, hD, hDB⟩ := h.rk
  rw [← hDB]
  exact rof_any r o2 D t ht w hD
theorem hth_r (h : Duo w0 w p r o o2 A B) (id : Int) : Calls Try.prog 79 #[.pointer (some ⟨r, 0, none⟩), .int .i64 id] w fun e w' => e = .returned (.int .i64 (thA B id)) ∧ w' = w := by
  obtain ⟨D, hD, rfl⟩ := h.rk
  rcases rto_cases D id with ⟨h0, hn⟩ | ⟨j, x, hj, rfl⟩
  · rw [show thA D.to id = -1 by unfold thA; rw [h0]]; exact rthread_none r o2 D id hn w hD
  · rw [show thA D.to x.id = x.th by unfold thA; rw [rto_at hD hj]; rfl]; exact rthread_at r o2 D x j hj w hD
theorem hrd (h : Duo w0 w p r o o2 A B) (id n : Int) (hid : i64 id) : Calls Try.prog 40 #[.pointer (some ⟨p, 0, none⟩), .int .i64 id, .int .i64 n] w fun e w' => e = .returned (.tuple #[.int .u32 (readA A id n).1, .int .i64 (readA A id n).2]) ∧ w' = w := by
  obtain ⟨C, hC, rfl⟩ := h.pk
  exact cread_any p o C id n hid w hC
theorem hrd_r (h : Duo w0 w p r o o2 A B) (id n : Int) : Calls Try.prog 71 #[.pointer (some ⟨r, 0, none⟩), .int .i64 id, .int .i64 n] w fun e w' => e = .returned (.tuple #[.int .u32 (readA B id n).1, .int .i64 (readA B id n).2]) ∧ w' = w := by
  obtain ⟨D, hD, rfl⟩ := h.rk
  exact rread_any r o2 D id n w hD
theorem hld (h : Duo w0 w p r o o2 A B) : Calls Try.prog 76 #[.pointer (some ⟨p, 0, none⟩)] w fun e w' => e = .returned (.int .i64 A.loaded) ∧ w' = w := by
  obtain ⟨C, hC, rfl⟩ := h.pk
  exact loaded_any p o C w hC
theorem hbk (h : Duo w0 w p r o o2 A B) : Calls Try.prog 59 #[.pointer (some ⟨p, 0, none⟩)] w fun e w' => e = .returned (.agg #[.int .u32 ((bankA A) 0), .int .u32 ((bankA A) 1), .int .u32 ((bankA A) 2), .int .u32 ((bankA A) 3), .int .u32 ((bankA A) 4), .int .u32 ((bankA A) 5), .int .u32 ((bankA A) 6), .int .u32 ((bankA A) 7)]) ∧ Duo w0 w' p r o o2 A B := by
  obtain ⟨C, hC, hCA⟩ := h.pk
  refine (cbank_any p o C w hC).mono ?_
  rw [hCA]
  rintro e w1 ⟨h1, h2⟩
  exact ⟨h1, h.below h2⟩
theorem hbk_r (h : Duo w0 w p r o o2 A B) {x : Nat} {f : Nat → Value} (hx : RowAt w x 75 8 f) : Calls Try.prog 77 #[.pointer (some ⟨r, 0, none⟩)] w fun e w' => e = .returned (.agg #[.int .u32 ((bankA B) 0), .int .u32 ((bankA B) 1), .int .u32 ((bankA B) 2), .int .u32 ((bankA B) 3), .int .u32 ((bankA B) 4), .int .u32 ((bankA B) 5), .int .u32 ((bankA B) 6), .int .u32 ((bankA B) 7)]) ∧ Duo w0 w' p r o o2 A B ∧ RowAt w' x 75 8 f ∧ w'.cell? ⟨r, 2, none⟩ = some (.int .i64 B.loaded) := by
  obtain ⟨D, hD, hDB⟩ := h.rk
  refine (rbank_any r o2 D w hD).mono ?_
  rw [hDB]
  rintro e w1 ⟨h1, h2⟩
  refine ⟨h1, h.below h2, hx.kept (S := fun _ => False) (Upd.of_below h2) (fun h => h), ?_⟩
  have := (hD.below h2).cld
  rw [this, ← hDB]; rfl
theorem Duo.cld (h : Duo w0 w p r o o2 A B) : w.cell? ⟨r, 2, none⟩ = some (.int .i64 B.loaded) := by
  obtain ⟨D, hD, rfl⟩ := h.rk
  exact hD.cld
end
set_option maxHeartbeats 64000000 in
theorem same18_any (w : World) (p r : Nat) (o o2 : Own) (A : Am) (w1 : World) (h : Duo w w1 p r o o2 A A) (hu : Uq A) (hg : RngA A) :
    Calls Try.prog 44 #[.pointer (some ⟨p, 0, none⟩), .pointer (some ⟨r, 0, none⟩)] w1 fun e w' => e = .returned (.bool true) ∧ Duo w w' p r o o2 A A := by
  have H := Lib.hid h; clear h
  have HU := Lib.hid hu; have HG := Lib.hid hg; clear hu hg
  have hsame := same75
  go_enter Try.func44, Try.ntmps44
  go_wp2_with fail
  refine (hld H.out).mono ?_
  rintro e w2 ⟨rfl, hw⟩
  subst hw
  go_wp2_with fail
  refine (hbk H.out).mono ?_
  rintro e w3 ⟨rfl, hduo⟩
  have HB3 : Hid (Duo w (w3.alloc (.cells #[.int .u32 ((bankA A) 0), .int .u32 ((bankA A) 1), .int .u32 ((bankA A) 2), .int .u32 ((bankA A) 3), .int .u32 ((bankA A) 4), .int .u32 ((bankA A) 5), .int .u32 ((bankA A) 6), .int .u32 ((bankA A) 7)] 75)) p r o o2 A A) := Lib.hid (hduo.alloc _)
  have HR3 : Hid (RowAt (w3.alloc (.cells #[.int .u32 ((bankA A) 0), .int .u32 ((bankA A) 1), .int .u32 ((bankA A) 2), .int .u32 ((bankA A) 3), .int .u32 ((bankA A) 4), .int .u32 ((bankA A) 5), .int .u32 ((bankA A) 6), .int .u32 ((bankA A) 7)] 75)) w3.heap.size 75 8 (fun k => .int .u32 (bankA A k))) := Lib.hid (row_new_of w3 _ 75 8 _ (by kernel_rfl))
  clear hduo H
  obtain ⟨f, hf⟩ : ∃ f, bankA A = f := ⟨_, rfl⟩
  rw [hf] at HB3 HR3 ⊢
  have HF := Lib.hid hf
  clear hf
  go_wp2_with fail
  generalize w3.alloc (.cells #[.int .u32 (f 0), .int .u32 (f 1), .int .u32 (f 2), .int .u32 (f 3), .int .u32 (f 4), .int .u32 (f 5), .int .u32 (f 6), .int .u32 (f 7)] 75) = w4 at HB3 HR3 ⊢
  obtain ⟨x, hx⟩ : ∃ x, w3.heap.size = x := ⟨_, rfl⟩
  rw [hx] at HR3 ⊢
  clear hx
  obtain ⟨l, hl⟩ : ∃ l, A.loaded = l := ⟨_, rfl⟩
  have c2 := HB3.out.cld
  rw [hl] at c2 ⊢
  have HLD := Lib.hid hl
  clear hl
  have b0 : w4.cell? ⟨x, 0, none⟩ = some (.int .u32 (f 0)) := HR3.out.cell 0 (by omega)
  have b1 : w4.cell? ⟨x, 1, none⟩ = some (.int .u32 (f 1)) := HR3.out.cell 1 (by omega)
  have b2 : w4.cell? ⟨x, 2, none⟩ = some (.int .u32 (f 2)) := HR3.out.cell 2 (by omega)
  have b3 : w4.cell? ⟨x, 3, none⟩ = some (.int .u32 (f 3)) := HR3.out.cell 3 (by omega)
  have b4 : w4.cell? ⟨x, 4, none⟩ = some (.int .u32 (f 4)) := HR3.out.cell 4 (by omega)
  have b5 : w4.cell? ⟨x, 5, none⟩ = some (.int .u32 (f 5)) := HR3.out.cell 5 (by omega)
  have b6 : w4.cell? ⟨x, 6, none⟩ = some (.int .u32 (f 6)) := HR3.out.cell 6 (by omega)
  have b7 : w4.cell? ⟨x, 7, none⟩ = some (.int .u32 (f 7)) := HR3.out.cell 7 (by omega)
  go_region_held3 (fun w' => w'.cell? ⟨r, 2, none⟩ = some (.int .i64 l) ∧ w'.cell? ⟨x, 0, none⟩ = some (.int .u32 (f 0)) ∧ w'.cell? ⟨x, 1, none⟩ = some (.int .u32 (f 1)) ∧ w'.cell? ⟨x, 2, none⟩ = some (.int .u32 (f 2)) ∧ w'.cell? ⟨x, 3, none⟩ = some (.int .u32 (f 3)) ∧ w'.cell? ⟨x, 4, none⟩ = some (.int .u32 (f 4)) ∧ w'.cell? ⟨x, 5, none⟩ = some (.int .u32 (f 5)) ∧ w'.cell? ⟨x, 6, none⟩ = some (.int .u32 (f 6)) ∧ w'.cell? ⟨x, 7, none⟩ = some (.int .u32 (f 7))) (go_keep)
    (first | (go_at_call 77; refine (hbk_r (by exact HB3.out.drew) (by exact HR3.out.drew)).mono ?_; rw [HF.out, HLD.out]; rintro e w5 ⟨rfl, hd5, hr5, e2⟩; have HB5 := Lib.hid hd5; have e_0 := hr5.cell 0 (by omega); have e_1 := hr5.cell 1 (by omega); have e_2 := hr5.cell 2 (by omega); have e_3 := hr5.cell 3 (by omega); have e_4 := hr5.cell 4 (by omega); have e_5 := hr5.cell 5 (by omega); have e_6 := hr5.cell 6 (by omega); have e_7 := hr5.cell 7 (by omega); clear hd5 hr5))
  have HB0 := HB5
  clear HB5 e2 e_0 e_1 e_2 e_3 e_4 e_5 e_6 e_7 HB3 HR3 HF HLD
  clear c2 b0 b1 b2 b3 b4 b5 b6 b7
  go_wp2_with fail
  go_loopw [7, 8, 9, 10, 11, 12, 13, 14, 15, 16, 17, 18, 19] (fun v7 _ _ _ _ _ _ _ _ _ _ _ _ wr => ∃ j : Nat, j ≤ 6 ∧ v7 = .int .i64 j ∧ Duo w wr p r o o2 A A) (fun v7 _ _ _ _ _ _ _ _ _ _ _ _ _ => 6 - (intOf v7).toNat)
  case atStart => exact ⟨0, by omega, rfl, HB0.out⟩
  case round =>
    clear HB0
    obtain ⟨j, hj, rfl, hduo⟩ := hrel
    have HB := Lib.hid hduo; clear hduo
    by_cases hlj : j < 6
    · have hdj : decide ((j : Int) < 6) = true := by simp; omega
      have hij : i64 (j : Int) := i64_of (by omega)
      go_wp2_with fail
      refine (hof HB.out j).mono ?_
      rintro e w4 ⟨⟨z, rfl, hz⟩, hduo⟩
      have HB4 := Lib.hid hduo
      have HZ := Lib.hid hz
      clear hduo hz HB
      go_wp2_with fail
      refine (hth HB4.out j hij).mono ?_
      obtain ⟨t, ht⟩ : ∃ t, thA A j = t := ⟨_, rfl⟩
      rw [ht]
      have HT := Lib.hid ht
      clear ht
      rintro e w5 ⟨rfl, hw⟩
      subst hw
      go_wp2_with fail
      refine (hof_r HB4.out j (by omega)).mono ?_
      rintro e w6 ⟨⟨z2, rfl, hz2⟩, hw⟩
      subst hw
      obtain rfl : z2 = z := isof_eq HU.out hz2 HZ.out (by omega)
      clear hz2
      go_wp2_with fail
      refine (hth_r HB4.out j).mono ?_
      rw [HT.out]
      rintro e w7 ⟨rfl, hw⟩
      subst hw
      have HB := HB4
      clear HB4 HZ HT
      go_wp2_with fail
      go_loopw [10, 11, 12, 13, 14] (fun v10 _ _ _ _ wr => ∃ n : Nat, n ≤ 8 ∧ v10 = .int .i64 n ∧ Duo w wr p r o o2 A A) (fun v10 _ _ _ _ _ => 8 - (intOf v10).toNat)
      case atStart => exact ⟨0, by omega, rfl, HB.out⟩
      case round =>
        clear HB
        obtain ⟨n, hn, rfl, hduo⟩ := hrel
        have HB := Lib.hid hduo; clear hduo
        by_cases hln : n < 8
        · have hdn : decide ((n : Int) < 8) = true := by simp; omega
          go_wp2_with fail
          refine (hrd HB.out j n hij).mono ?_
          obtain ⟨va, hva⟩ : ∃ z, (readA A j n).1 = z := ⟨_, rfl⟩
          obtain ⟨ea, hea⟩ : ∃ z, (readA A j n).2 = z := ⟨_, rfl⟩
          rw [hva, hea]
          have HV := Lib.hid (And.intro hva hea)
          clear hva hea
          rintro e w4 ⟨rfl, hw⟩
          subst hw
          go_wp2_with fail
          refine (hrd_r HB.out j n).mono ?_
          rw [HV.out.1, HV.out.2]
          rintro e w5 ⟨rfl, hw⟩
          subst hw
          clear HV
          go_wp2_with fail
          go_roundw
          case rel => exact ⟨n + 1, by omega, by go_num, HB.out⟩
          case measure => simp [intOf]; omega
        · obtain rfl : n = 8 := by omega
          rw [show ((8 : Nat) : Int) = 8 from rfl]
          go_wp2_with fail
          have hij := i64_of (i := (j : Int)) (by omega)
          obtain ⟨C, hC, hCA⟩ := HB.out.pk
          obtain ⟨D, hD, hDB⟩ := HB.out.rk
          cases hP : C.all j with
          | none =>
            have hA0 : A.all j = none := by rw [← hCA]; exact to_none hP
            have hn : ∀ x ∈ D.L, x.id ≠ j := by
              rcases rto_cases D j with ⟨_, h⟩ | ⟨k, x, hj', e⟩
              · exact h
              · have := rto_at hD hj'; rw [hDB, e, hA0] at this; cases this
            refine (vgic_none p o C j hij _ hC hP).mono ?_
            rintro e w4 ⟨rfl, hw⟩
            subst hw
            go_wp2_with fail
            refine (rat_none r o2 D j hn _ hD).mono ?_
            rintro e w5 ⟨rfl, hw⟩
            subst hw
            have HF := HB
            clear hC hCA hD hDB hP hA0 hn HB
            go_wp2_with fail
            go_roundw
            case rel => exact ⟨j + 1, by omega, by go_num, HF.out⟩
            case measure => simp [intOf]; omega
          | some P =>
            have hA0 : A.all j = some (C.one j P) := by rw [← hCA]; exact to_some hP
            obtain ⟨k, x, hj', hid2⟩ : ∃ (k : Nat) (x : Ro), D.L[k]? = some x ∧ x.id = j := by
              rcases rto_cases D j with ⟨h, _⟩ | h
              · rw [hDB, hA0] at h; cases h
              · exact h
            have hx : C.one j P = x.ax := by
              have := rto_at hD hj'
              rw [hDB, hid2, hA0] at this
              exact Option.some.inj this
            have hSx : P.S = x.R.to := congrArg Ax.S hx
            have HRG : Hid (Rng x.R.to) := Lib.hid (by have := HG.out j _ hA0; rw [hx] at this; exact this)
            have HP := Lib.hid (And.intro hP hSx)
            have HJ := Lib.hid hj'
            have hat := rat_at r o2 D x k hj'
            rw [hid2] at hat
            refine (vgic_some p o C j hij _ hC P hP).mono ?_
            rintro e w4 ⟨rfl, hw⟩
            subst hw
            clear hA0 hx hSx hP
            go_wp2_with fail
            refine (hat _ hD).mono ?_
            rintro e w5 ⟨rfl, hw⟩
            subst hw
            have hk0 : decide ((k : Int) < 0) = false := by simp
            obtain ⟨q, cap, hsl, hcap, hq⟩ := hD.at_form hj'
            have HSL := Lib.hid hsl
            have hkl : k < D.L.length := (List.getElem?_eq_some_iff.1 hj').1
            have hln := hD.len
            have HVG := Lib.hid (hC.vg j P HP.out.1)
            have HD := Lib.hid hD
            clear hC hCA hD hDB hat hj' hsl
            go_wp2_with fail
            refine (all_any P.v P.mp P.ma P.S _ HVG.out).mono ?_
            rintro e w7 ⟨⟨sa, n, g, rfl, hall, hsa⟩, hb7⟩
            have HAL := Lib.hid hall
            have HSA7 := Lib.hid hsa
            have HB7 := Lib.hid (HB.out.below hb7)
            have HD7 := Lib.hid (HD.out.below hb7)
            have HN : Hid (n ≤ 64) := Lib.hid (by rw [hall.1]; exact preL_len _ _ _)
            have c0 : w7.cell? ⟨r, 0, none⟩ = some (.slice (some ⟨q, 0, none⟩) D.L.length cap) := by rw [← HSL.out]; exact HD7.out.csl
            have c10 : w7.cell? ⟨q, k * 11 + 10, none⟩ = some (.pointer (some ⟨x.v, 0, none⟩)) := HD7.out.ocell HSL.out HJ.out (m := 10) (by omega) rfl
            have hki : (k : Int) < (D.L.length : Int) := by omega
            clear hall hsa hb7 HB HVG HD
            go_wp2_with fail
            obtain ⟨M, hM⟩ : ∃ M : Nat, M = 32768 := ⟨_, rfl⟩
            have HM := Lib.hid hM
            clear hM
            refine (rall_any x.v x.R M HM.out _ (HD7.out.vg x (List.mem_of_getElem? HJ.out))).mono ?_
            obtain ⟨sl', hsl'⟩ : ∃ z, seqF (recR x.R) M = z := ⟨_, rfl⟩
            have HQ8 := Lib.hid (seq_all HRG.out M HM.out (show IsAll x.R.to.pe x.R.to.ac n g by rw [← HP.out.2]; exact HAL.out))
            rw [hsl'] at HQ8 ⊢
            clear hsl'
            rintro e w9 ⟨⟨sr, rfl, hsr⟩, hb9⟩
            rw [HQ8.out.1] at hsr
            have HSA := Lib.hid (HSA7.out.below hb9)
            have HSB := Lib.hid (hsr.congr (fun i hi => (HQ8.out.2 i hi).symm))
            have HB9 := Lib.hid (HB7.out.below hb9)
            clear hsr hb9 HSA7 HB7 HD7 HQ8 HM HP HJ HRG HAL HSL c0 c10 hki hkl hln hcap hq hk0 hid2
            rcases HSA.out with ⟨rfl, rfl⟩ | ⟨qa, capa, Ma, rfl, hca, _, hla⟩
            · rcases HSB.out with ⟨rfl, _⟩ | ⟨qb, capb, Mb, rfl, hcb, _, hlb⟩
              · go_wp2_with fail
                go_loopw [19] (fun v19 wr => ∃ i m : Nat, i ≤ 0 ∧ v19 = .int .i64 i ∧ wr = w9.drewN m) (fun v19 _ => 0 - (intOf v19).toNat)
                case atStart => exact ⟨0, 0, by omega, rfl, rfl⟩
                case round =>
                  obtain ⟨i, m, hi, rfl, rfl⟩ := hrel
                  obtain rfl : i = 0 := by omega
                  have HF := Lib.hid (HB9.out.drewN m)
                  go_wp2_with fail
                  go_roundw
                  case rel => exact ⟨j + 1, by omega, by go_num, HF.out⟩
                  case measure => simp [intOf]; omega
              · go_wp2_with fail
                go_loopw [19] (fun v19 wr => ∃ i m : Nat, i ≤ 0 ∧ v19 = .int .i64 i ∧ wr = w9.drewN m) (fun v19 _ => 0 - (intOf v19).toNat)
                case atStart => exact ⟨0, 0, by omega, rfl, rfl⟩
                case round =>
                  obtain ⟨i, m, hi, rfl, rfl⟩ := hrel
                  obtain rfl : i = 0 := by omega
                  have HF := Lib.hid (HB9.out.drewN m)
                  go_wp2_with fail
                  go_roundw
                  case rel => exact ⟨j + 1, by omega, by go_num, HF.out⟩
                  case measure => simp [intOf]; omega
            · rcases HSB.out with ⟨rfl, rfl⟩ | ⟨qb, capb, Mb, rfl, hcb, _, hlb⟩
              · clear hla hca
                go_wp2_with fail
                go_loopw [19] (fun v19 wr => ∃ i m : Nat, i ≤ 0 ∧ v19 = .int .i64 i ∧ wr = w9.drewN m) (fun v19 _ => 0 - (intOf v19).toNat)
                case atStart => exact ⟨0, 0, by omega, rfl, rfl⟩
                case round =>
                  obtain ⟨i, m, hi, rfl, rfl⟩ := hrel
                  obtain rfl : i = 0 := by omega
                  have HF := Lib.hid (HB9.out.drewN m)
                  go_wp2_with fail
                  go_roundw
                  case rel => exact ⟨j + 1, by omega, by go_num, HF.out⟩
                  case measure => simp [intOf]; omega
              · have HLA := Lib.hid hla
                have HLB := Lib.hid hlb
                clear hla hlb
                have hn64 := HN.out
                go_wp2_with fail
                go_loopw [19] (fun v19 wr => ∃ i m : Nat, i ≤ n ∧ v19 = .int .i64 i ∧ wr = w9.drewN m) (fun v19 _ => n - (intOf v19).toNat)
                case atStart => exact ⟨0, 0, by omega, rfl, rfl⟩
                case round =>
                  obtain ⟨i, m, hi, rfl, rfl⟩ := hrel
                  by_cases hlt : i < n
                  · obtain ⟨x0, x1, x2, x3, x4⟩ := HLA.out.cells i hlt
                    obtain ⟨y0, y1, y2, y3, y4⟩ := HLB.out.cells i hlt
                    have hdi : decide ((i : Int) < (n : Int)) = true := by simp; omega
                    have hii : (i : Int) < (n : Int) := by omega
                    go_wp2_with fail
                    go_quiet (fail)
                    go_wp2_with fail
                    go_roundw
                    case rel => exact ⟨i + 1, _, by omega, by go_num, rfl⟩
                    case measure => simp [intOf]; omega
                  · obtain rfl : i = n := by omega
                    have HF := Lib.hid (HB9.out.drewN m)
                    go_wp2_with fail
                    go_roundw
                    case rel => exact ⟨j + 1, by omega, by go_num, HF.out⟩
                    case measure => simp [intOf]; omega
    · obtain rfl : j = 6 := by omega
      go_wp2_with fail
      go_ret
      exact ⟨rfl, HB.out⟩
end Go.Proofs.Ytnebjbjdgfaooaa
