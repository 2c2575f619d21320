/- Proved: a level-flagged interrupt says so once for each time it is served (viceroylaw08.VgicAgain returns true for all numbers and flags), with no condition. -/
import Derived.Test.YtnebjbjdgfaooaaVgZ
import Derived.Test.YtnebjbjdgfaooaaVgI
namespace Go.Proofs.Ytnebjbjdgfaooaa
open Go.RowKit
set_option maxRecDepth 100000

/-- One interrupt alone: its pending and its active state. -/
structure PX (S : Vm) (i : Nat) (x y : Option (Int × Bool)) : Prop where
  pe : ∀ j, S.pe j = if j = i then x else none
  ac : ∀ j, S.ac j = if j = i then y else none
  off : ∀ j, S.off j = false
  mask : S.mask = 256
theorem px0 (L : Int) (i : Nat) : PX (V0 L) i none none := ⟨fun j => by simp [V0], fun j => by simp [V0], fun _ => rfl, rfl⟩
theorem PX.inj {S : Vm} {i : Nat} {y : Option (Int × Bool)} (h : PX S i none y) (hi : i < 64) {p : Int} (p0 : 0 ≤ p) (p1 : p < 256) (f : Bool) : (injV S i p f).2 = 0 ∧ PX (injV S i p f).1 i (some (p, f)) y := by
  have e : injV S i p f = ({ S with pe := updM S.pe i (some (p, f)), inj := wr (S.inj + 1) }, 0) := by
    unfold injV
    rw [if_pos ⟨by omega, by omega, p0, p1⟩, Int.toNat_natCast, h.pe i, if_pos rfl]
    rfl
  rw [e]
  refine ⟨rfl, fun j => ?_, h.ac, h.off, h.mask⟩
  show updM S.pe i (some (p, f)) j = _
  by_cases hj : j = i
  · subst hj; rw [updM_same, if_pos rfl]
  · rw [updM_other _ _ hj, h.pe j, if_neg hj, if_neg hj]
theorem PX.no_cand {S : Vm} {i : Nat} {x y : Option (Int × Bool)} (h : PX S i x y) (hn : x = none ∨ y ≠ none) : ackV S = (S, 1023) := by
  unfold ackV
  rcases best_spec S 64 with ⟨e, _⟩ | ⟨b, q, e, hb, hc, _⟩
  · rw [e]
  · exfalso
    obtain ⟨l, hp⟩ := hc.2.1
    rw [h.pe b] at hp
    by_cases hb : b = i
    · rw [if_pos hb] at hp
      have ha := hc.1
      rw [h.ac b, if_pos hb] at ha
      rcases hn with hn | hn
      · rw [hn] at hp; cases hp
      · exact hn ha
    · rw [if_neg hb] at hp; cases hp
theorem PX.ack {S : Vm} {i : Nat} {p : Int} {f : Bool} (h : PX S i (some (p, f)) none) (hi : i < 64) (p1 : p < 256) : (ackV S).2 = (i : Int) ∧ PX (ackV S).1 i none (some (p, f)) := by
  have hr : runM S.ac 64 = 256 := by
    rcases runM_hit S.ac 64 with e | ⟨j, y, hj, hy, _⟩
    · exact e
    · rw [h.ac j] at hy
      split at hy <;> cases hy
  have hc : cand S i p := ⟨by rw [h.ac i, if_pos rfl], ⟨f, by rw [h.pe i, if_pos rfl]⟩, h.off i, by unfold mnV; rw [hr, h.mask]; simpa using p1⟩
  rcases best_spec S 64 with ⟨_, hno⟩ | ⟨b, q, e, hb, hcb, _⟩
  · exact absurd hc (hno i hi p)
  · have hbi : b = i := by
      obtain ⟨l, hp⟩ := hcb.2.1
      rw [h.pe b] at hp
      by_cases hb : b = i
      · exact hb
      · rw [if_neg hb] at hp; cases hp
    subst hbi
    have ea : ackV S = ({ S with ac := updM S.ac b (S.pe b), pe := updM S.pe b none, ak := wr (S.ak + 1) }, (b : Int)) := by unfold ackV; rw [e]
    rw [ea]
    refine ⟨rfl, fun j => ?_, fun j => ?_, h.off, h.mask⟩
    · show updM S.pe b none j = _
      by_cases hj : j = b
      · subst hj; rw [updM_same, if_pos rfl]
      · rw [updM_other _ _ hj, h.pe j, if_neg hj, if_neg hj]
    · show updM S.ac b (S.pe b) j = _
      by_cases hj : j = b
      · subst hj; rw [updM_same, if_pos rfl, h.pe j, if_pos rfl]
      · rw [updM_other _ _ hj, h.ac j, if_neg hj, if_neg hj]
theorem PX.fin {S : Vm} {i : Nat} {x : Option (Int × Bool)} {p : Int} {f : Bool} (h : PX S i x (some (p, f))) (hi : i < 64) : (endV S i).2.1 = f ∧ (endV S i).2.2 = 0 ∧ PX (endV S i).1 i x none := by
  have e : endV S i = ({ S with ac := updM S.ac i none, en := wr (S.en + 1) }, f, 0) := by
    unfold endV
    rw [if_pos ⟨by omega, by omega⟩, Int.toNat_natCast, h.ac i, if_pos rfl]
  rw [e]
  refine ⟨rfl, rfl, h.pe, fun j => ?_, h.off, h.mask⟩
  show updM S.ac i none j = _
  by_cases hj : j = i
  · subst hj; rw [updM_same, if_pos rfl]
  · rw [updM_other _ _ hj, h.ac j, if_neg hj, if_neg hj]
theorem PX.fin_no {S : Vm} {i : Nat} {x : Option (Int × Bool)} (h : PX S i x none) (hi : i < 64) : endV S i = (S, false, 70) := by
  unfold endV
  rw [if_pos ⟨by omega, by omega⟩, Int.toNat_natCast, h.ac i, if_pos rfl]
theorem upd_below {w a b : World} {v mp ma : Nat} (h : Below w.heap.size w a) (u : Upd (Vb v mp ma) a b) (hz : w.heap.size ≤ v ∧ w.heap.size ≤ mp ∧ w.heap.size ≤ ma) : Below w.heap.size w b := below_upd h u hz.1 hz.2.1 hz.2.2

set_option maxHeartbeats 8000000 in
theorem walk_VgicAgain (L1 id p : Int) (a : Option Addr) (len cap : Nat) (F : Nat → Bool) (w : World) (hlen : len ≤ maxLen) (hflags : Bools w a len F) :
    Calls Try.prog 4 #[.int .i64 L1, .int .i64 id, .int .i64 p, .slice a len cap] w fun e w' => e = .returned (.bool true) ∧ Below w.heap.size w w' := by
  have HF := Lib.hid hflags; clear hflags
  unfold maxLen at hlen
  by_cases h1 : 1 ≤ L1 ∧ L1 ≤ 16
  · by_cases hid : 0 ≤ id ∧ id ≤ 63
    · obtain ⟨i0, i1⟩ := hid
      obtain ⟨i, rfl⟩ := Int.eq_ofNat_of_zero_le i0
      have hi : i < 64 := by omega
      by_cases hp : 0 ≤ p ∧ p ≤ 255
      · obtain ⟨p0, p1'⟩ := hp
        have p1 : p < 256 := by omega
        by_cases hl : len = 0
        · subst hl
          go_enter Try.func4, Try.ntmps4
          go_wp2_with fail
          refine (vawake_any _).mono ?_
          rintro e w1 ⟨rfl, hb1⟩
          have B1 := Lib.hid hb1; clear hb1
          go_wp2_with fail
          refine (vnew_ok L1 h1.1 h1.2 _).mono ?_
          rintro e w2 ⟨v, mp, ma, rfl, hv, hz1, hz2, hz3, hb2⟩
          have B2 : Hid (Below w.heap.size w w2) := Lib.hid (B1.out.trans (hb2.mono B1.out.size))
          have HV2 := Lib.hid hv
          have HZ : Hid (w.heap.size ≤ v ∧ w.heap.size ≤ mp ∧ w.heap.size ≤ ma) := Lib.hid (by have := B1.out.size; omega)
          clear hb2 hv hz1 hz2 hz3 B1
          go_wp2_with fail
          go_ret
          go_light
          exact ⟨rfl, B2.out⟩
        ·
          go_enter Try.func4, Try.ntmps4
          go_wp2_with fail
          refine (vawake_any _).mono ?_
          rintro e w1 ⟨rfl, hb1⟩
          have B1 := Lib.hid hb1; clear hb1
          go_wp2_with fail
          refine (vnew_ok L1 h1.1 h1.2 _).mono ?_
          rintro e w2 ⟨v, mp, ma, rfl, hv, hz1, hz2, hz3, hb2⟩
          have B2 : Hid (Below w.heap.size w w2) := Lib.hid (B1.out.trans (hb2.mono B1.out.size))
          have HV2 := Lib.hid hv
          have HZ : Hid (w.heap.size ≤ v ∧ w.heap.size ≤ mp ∧ w.heap.size ≤ ma) := Lib.hid (by have := B1.out.size; omega)
          clear hb2 hv hz1 hz2 hz3 B1
          have hl0 : (len : Int) ≠ 0 := by omega
          have hl0b : ((len : Int) == 0) = false := by simp; omega
          obtain ⟨bb, boff, rfl, dd⟩ := HF.out 0 (by omega)
          have hbb : bb < w.heap.size := World.block_lt_of_cell? w _ dd
          have cc := (B2.out.cell (p := ⟨bb, boff + 0, none⟩) hbb).trans dd
          rw [show boff + 0 = boff from rfl] at cc
          have hlp : (0 : Int) < (len : Int) := by omega
          go_wp2_with fail
          obtain ⟨e3, p3⟩ := PX.inj (px0 L1 i) hi p0 p1 (F 0)
          refine (inject_any v mp ma (V0 L1) i p (F 0) _ HV2.out).mono ?_
          rw [e3]
          rintro e w3 ⟨rfl, hv, hu⟩
          obtain ⟨S3, hS3⟩ : ∃ x, (injV (V0 L1) i p (F 0)).1 = x := ⟨_, rfl⟩
          rw [hS3] at hv p3
          have HV3 := Lib.hid hv; have HP3 := Lib.hid p3
          have B3 := Lib.hid (upd_below B2.out hu HZ.out)
          clear hv hu e3 p3 hS3 cc dd hbb HV2 B2
          go_wp2_with fail
          go_loopw [13, 14, 15, 16, 17, 18] (fun v13 _ _ _ _ _ wr => ∃ (k : Nat) (S : Vm), k ≤ 40 ∧ k ≤ len ∧ v13 = .int .i64 k ∧ ((k < len ∧ k < 40 ∧ PX S i (some (p, F k)) none) ∨ ((k = len ∨ k = 40) ∧ PX S i none none)) ∧ VgAt wr v mp ma S ∧ Below w.heap.size w wr) (fun v13 _ _ _ _ _ _ => 40 - (intOf v13).toNat)
          case atStart => exact ⟨0, S3, by omega, by omega, rfl, Or.inl ⟨by omega, by omega, HP3.out⟩, HV3.out, B3.out⟩
          case round =>
            clear HV3 HP3 B3
            obtain ⟨k, S, hk, hkl, rfl, hp, hv, hb⟩ := hrel
            have HV := Lib.hid hv; have HB := Lib.hid hb; clear hv hb
            rcases hp with ⟨hlt, hlm, hp⟩ | ⟨hend, hp⟩
            · have HP := Lib.hid hp; clear hp
              obtain ⟨b, off, ea, d0⟩ := HF.out k hlt
              cases ea
              have hbl : bb < w.heap.size := World.block_lt_of_cell? w _ d0
              have dk : decide ((k : Int) < (len : Int)) = true := by simp; omega
              have dk40 : decide ((k : Int) < 40) = true := by simp; omega
              have hki : (k : Int) < (len : Int) := by omega
              go_wp2_with fail
              obtain ⟨e4, p4⟩ := PX.ack HP.out hi p1
              refine (vack_any v mp ma S _ HV.out).mono ?_
              rw [e4]
              rintro e w4 ⟨rfl, hv, hu⟩
              obtain ⟨S4, hS4⟩ : ∃ x, (ackV S).1 = x := ⟨_, rfl⟩
              rw [hS4] at hv p4
              have HV4 := Lib.hid hv; have HP4 := Lib.hid p4
              have B4 := Lib.hid (upd_below HB.out hu HZ.out)
              clear hv hu e4 p4 hS4 HV HP HB
              by_cases hnext : k + 1 < len ∧ k < 39
              · obtain ⟨b1, off1, ea, d1⟩ := HF.out (k + 1) hnext.1
                cases ea
                have x1 := (B4.out.cell (p := ⟨bb, boff + (k + 1), none⟩) hbl).trans d1
                have hk1 : (((k : Int) + 1)) < (len : Int) := by omega
                have hk39 : (k : Int) < 39 := by omega
                have dk1 : decide (((k : Int) + 1) < (len : Int)) = true := by simp; omega
                have dk39 : decide ((k : Int) < 39) = true := by simp; omega
                obtain ⟨k1, hk1e⟩ : ∃ x : Nat, (k : Int) + 1 = (x : Int) := ⟨k + 1, by omega⟩
                have HK1 : Hid (k1 = k + 1) := Lib.hid (by omega)
                rw [show boff + (k + 1) = boff + k1 by have := HK1.out; omega] at x1
                rw [hk1e] at hk1 dk1
                clear d1
                go_wp2_with fail
                obtain ⟨e5, p5⟩ := PX.inj HP4.out hi p0 p1 (F (k + 1))
                refine (inject_any v mp ma S4 i p (F (k + 1)) _ HV4.out).mono ?_
                rw [e5]
                rintro e w5 ⟨rfl, hv, hu⟩
                obtain ⟨S5, hS5⟩ : ∃ x, (injV S4 i p (F (k + 1))).1 = x := ⟨_, rfl⟩
                rw [hS5] at hv p5
                have HV5 := Lib.hid hv; have HP5 := Lib.hid p5
                have B5 := Lib.hid (upd_below B4.out hu HZ.out)
                have ea5 := PX.no_cand HP5.out (Or.inr (by simp))
                clear hv hu e5 p5 hS5 x1 HV4 HP4 B4
                go_wp2_with fail
                refine (vack_any v mp ma S5 _ HV5.out).mono ?_
                rw [ea5]
                rintro e w6 ⟨rfl, hv, hu⟩
                have HV6 : Hid (VgAt w6 v mp ma S5) := Lib.hid hv
                have B6 := Lib.hid (upd_below B5.out hu HZ.out)
                clear hv hu ea5 HV5 B5
                go_wp2_with fail
                obtain ⟨e7, g7, p7⟩ := PX.fin HP5.out hi
                refine (vend_any v mp ma S5 i _ HV6.out).mono ?_
                rw [e7, g7]
                rintro e w7 ⟨rfl, hv, hu⟩
                obtain ⟨S7, hS7⟩ : ∃ x, (endV S5 i).1 = x := ⟨_, rfl⟩
                rw [hS7] at hv p7
                have HV7 := Lib.hid hv; have HP7 := Lib.hid p7
                have B7 := Lib.hid (upd_below B6.out hu HZ.out)
                have c0 := (B7.out.cell (p := ⟨bb, boff + k, none⟩) hbl).trans d0
                clear hv hu e7 g7 p7 hS7 HV6 B6 HP5
                go_wp2_with fail
                go_roundw
                case rel => exact ⟨k + 1, S7, by omega, by omega, by go_num, Or.inl ⟨by omega, by omega, HP7.out⟩, HV7.out, B7.out⟩
                case measure => simp [intOf]; omega
              · by_cases hn1 : k + 1 < len
                · have hk1 : (((k : Int) + 1)) < (len : Int) := by omega
                  have dk1 : decide (((k : Int) + 1) < (len : Int)) = true := by simp; omega
                  have dk39 : decide ((k : Int) < 39) = false := by simp; omega
                  have hk39 : ¬ (k : Int) < 39 := by omega
                  go_wp2_with fail
                  obtain ⟨e7, g7, p7⟩ := PX.fin HP4.out hi
                  refine (vend_any v mp ma S4 i _ HV4.out).mono ?_
                  rw [e7, g7]
                  rintro e w7 ⟨rfl, hv, hu⟩
                  obtain ⟨S7, hS7⟩ : ∃ x, (endV S4 i).1 = x := ⟨_, rfl⟩
                  rw [hS7] at hv p7
                  have HV7 := Lib.hid hv; have HP7 := Lib.hid p7
                  have B7 := Lib.hid (upd_below B4.out hu HZ.out)
                  have c0 := (B7.out.cell (p := ⟨bb, boff + k, none⟩) hbl).trans d0
                  clear hv hu e7 g7 p7 hS7 HV4 B4 HP4
                  go_wp2_with fail
                  go_roundw
                  case rel => exact ⟨k + 1, S7, by omega, by omega, by go_num, Or.inr ⟨by omega, HP7.out⟩, HV7.out, B7.out⟩
                  case measure => simp [intOf]; omega
                · have hk1 : ¬ (((k : Int) + 1)) < (len : Int) := by omega
                  have dk1 : decide (((k : Int) + 1) < (len : Int)) = false := by simp; omega
                  go_wp2_with fail
                  obtain ⟨e7, g7, p7⟩ := PX.fin HP4.out hi
                  refine (vend_any v mp ma S4 i _ HV4.out).mono ?_
                  rw [e7, g7]
                  rintro e w7 ⟨rfl, hv, hu⟩
                  obtain ⟨S7, hS7⟩ : ∃ x, (endV S4 i).1 = x := ⟨_, rfl⟩
                  rw [hS7] at hv p7
                  have HV7 := Lib.hid hv; have HP7 := Lib.hid p7
                  have B7 := Lib.hid (upd_below B4.out hu HZ.out)
                  have c0 := (B7.out.cell (p := ⟨bb, boff + k, none⟩) hbl).trans d0
                  clear hv hu e7 g7 p7 hS7 HV4 B4 HP4
                  go_wp2_with fail
                  go_roundw
                  case rel => exact ⟨k + 1, S7, by omega, by omega, by go_num, Or.inr ⟨by omega, HP7.out⟩, HV7.out, B7.out⟩
                  case measure => simp [intOf]; omega
            · have HP := Lib.hid hp; clear hp
              by_cases hlt : k < len
              · have hk40 : k = 40 := by omega
                have dk : decide ((k : Int) < (len : Int)) = true := by simp; omega
                have dk40 : decide ((k : Int) < 40) = false := by simp; omega
                have hkn : ¬ (k : Int) < 40 := by omega
                have hki : (k : Int) < (len : Int) := by omega
                have ha := PX.no_cand HP.out (Or.inl rfl)
                have hf := PX.fin_no HP.out hi
                go_wp2_with fail
                refine (vack_any v mp ma S _ HV.out).mono ?_
                rw [ha]
                rintro e w4 ⟨rfl, hv, hu⟩
                have HV4 : Hid (VgAt w4 v mp ma S) := Lib.hid hv
                have B4 := Lib.hid (upd_below HB.out hu HZ.out)
                clear hv hu ha
                go_wp2_with fail
                refine (vend_any v mp ma S i _ HV4.out).mono ?_
                rw [hf]
                rintro e w5 ⟨rfl, hv, hu⟩
                have B5 := Lib.hid (upd_below B4.out hu HZ.out)
                clear hv hu hf
                go_wp2_with fail
                go_ret
                go_light
                exact ⟨rfl, B5.out⟩
              · have dk : decide ((k : Int) < (len : Int)) = false := by simp; omega
                have hki : ¬ (k : Int) < (len : Int) := by omega
                have ha := PX.no_cand HP.out (Or.inl rfl)
                have hf := PX.fin_no HP.out hi
                go_wp2_with fail
                refine (vack_any v mp ma S _ HV.out).mono ?_
                rw [ha]
                rintro e w4 ⟨rfl, hv, hu⟩
                have HV4 : Hid (VgAt w4 v mp ma S) := Lib.hid hv
                have B4 := Lib.hid (upd_below HB.out hu HZ.out)
                clear hv hu ha
                go_wp2_with fail
                refine (vend_any v mp ma S i _ HV4.out).mono ?_
                rw [hf]
                rintro e w5 ⟨rfl, hv, hu⟩
                have B5 := Lib.hid (upd_below B4.out hu HZ.out)
                clear hv hu hf
                go_wp2_with fail
                go_ret
                go_light
                exact ⟨rfl, B5.out⟩
      · by_cases hp0 : p < 0
        ·
          go_enter Try.func4, Try.ntmps4
          go_wp2_with fail
          refine (vawake_any _).mono ?_
          rintro e w1 ⟨rfl, hb1⟩
          have B1 := Lib.hid hb1; clear hb1
          go_wp2_with fail
          refine (vnew_ok L1 h1.1 h1.2 _).mono ?_
          rintro e w2 ⟨v, mp, ma, rfl, hv, hz1, hz2, hz3, hb2⟩
          have B2 : Hid (Below w.heap.size w w2) := Lib.hid (B1.out.trans (hb2.mono B1.out.size))
          have HV2 := Lib.hid hv
          have HZ : Hid (w.heap.size ≤ v ∧ w.heap.size ≤ mp ∧ w.heap.size ≤ ma) := Lib.hid (by have := B1.out.size; omega)
          clear hb2 hv hz1 hz2 hz3 B1
          go_wp2_with fail
          go_ret
          go_light
          exact ⟨rfl, B2.out⟩
        · have hp1 : 255 < p := by omega
          go_enter Try.func4, Try.ntmps4
          go_wp2_with fail
          refine (vawake_any _).mono ?_
          rintro e w1 ⟨rfl, hb1⟩
          have B1 := Lib.hid hb1; clear hb1
          go_wp2_with fail
          refine (vnew_ok L1 h1.1 h1.2 _).mono ?_
          rintro e w2 ⟨v, mp, ma, rfl, hv, hz1, hz2, hz3, hb2⟩
          have B2 : Hid (Below w.heap.size w w2) := Lib.hid (B1.out.trans (hb2.mono B1.out.size))
          have HV2 := Lib.hid hv
          have HZ : Hid (w.heap.size ≤ v ∧ w.heap.size ≤ mp ∧ w.heap.size ≤ ma) := Lib.hid (by have := B1.out.size; omega)
          clear hb2 hv hz1 hz2 hz3 B1
          go_wp2_with fail
          go_ret
          go_light
          exact ⟨rfl, B2.out⟩
    · by_cases hi0 : id < 0
      ·
        go_enter Try.func4, Try.ntmps4
        go_wp2_with fail
        refine (vawake_any _).mono ?_
        rintro e w1 ⟨rfl, hb1⟩
        have B1 := Lib.hid hb1; clear hb1
        go_wp2_with fail
        refine (vnew_ok L1 h1.1 h1.2 _).mono ?_
        rintro e w2 ⟨v, mp, ma, rfl, hv, hz1, hz2, hz3, hb2⟩
        have B2 : Hid (Below w.heap.size w w2) := Lib.hid (B1.out.trans (hb2.mono B1.out.size))
        have HV2 := Lib.hid hv
        have HZ : Hid (w.heap.size ≤ v ∧ w.heap.size ≤ mp ∧ w.heap.size ≤ ma) := Lib.hid (by have := B1.out.size; omega)
        clear hb2 hv hz1 hz2 hz3 B1
        go_wp2_with fail
        go_ret
        go_light
        exact ⟨rfl, B2.out⟩
      · have hi1 : 63 < id := by omega
        go_enter Try.func4, Try.ntmps4
        go_wp2_with fail
        refine (vawake_any _).mono ?_
        rintro e w1 ⟨rfl, hb1⟩
        have B1 := Lib.hid hb1; clear hb1
        go_wp2_with fail
        refine (vnew_ok L1 h1.1 h1.2 _).mono ?_
        rintro e w2 ⟨v, mp, ma, rfl, hv, hz1, hz2, hz3, hb2⟩
        have B2 : Hid (Below w.heap.size w w2) := Lib.hid (B1.out.trans (hb2.mono B1.out.size))
        have HV2 := Lib.hid hv
        have HZ : Hid (w.heap.size ≤ v ∧ w.heap.size ≤ mp ∧ w.heap.size ≤ ma) := Lib.hid (by have := B1.out.size; omega)
        clear hb2 hv hz1 hz2 hz3 B1
        go_wp2_with fail
        go_ret
        go_light
        exact ⟨rfl, B2.out⟩
  ·
    go_enter Try.func4, Try.ntmps4
    go_wp2_with fail
    refine (vawake_any _).mono ?_
    rintro e w1 ⟨rfl, hb1⟩
    have B1 := Lib.hid hb1; clear hb1
    go_wp2_with fail
    refine (vnew_err L1 h1 _).mono ?_
    rintro e w2 ⟨rfl, rfl⟩
    go_wp2_with fail
    go_ret
    go_light
    exact ⟨rfl, B1.out⟩
end Go.Proofs.Ytnebjbjdgfaooaa
namespace Go.Proofs.Ytnebjbjdgfaooaa
open Go.Joins Go.ChangeShapes Go.WideShapes Go.ChangeAt Go.RowKit
set_option maxRecDepth 100000
theorem VgicAgain_lifted (os : Os) (started : os.Started) (H : Type) (enc : TypeId × Value → H) :
    ReturnsInHanded {} Try.checked os 4 .any (Rows.vgicAgainSpec.pre6 enc Try.prog Try.f4 Rows.vgicAgainRow.domain false) (Rows.vgicAgainSpec.post enc Try.prog Try.f4 false true false false) := by
  refine returnsInHanded_of_change (C := Try.checked) own started (by kernel_rfl) Try.func4
    (ChangeSpec.witness6 (enc := enc) (C := Try.checked) false ⟨#[], #[.int .i64 0, .int .i64 0, .int .i64 0, .slice none 0 0], []⟩ 8 (by kernel_rfl) (by kernel_rfl) (by kernel_rfl) (by kernel_rfl)) ?_
  intro W base args ds gs before hval0 hW hcnd _
  have hval : ∀ (j : Nat) t v, Try.f4.params[j]? = some t → args[j]? = some v → Value.okWide Try.prog W .any base t v := hval0
  have hW' := hW
  obtain ⟨p, q, hA0, hV, rfl, hfz, hnd⟩ := hW
  have hA : DataW.TrodAll enc Try.prog W 0 (fun _ => true) true Try.f4.params.toList args.toList ds p := hA0
  rw [Try.params4] at hA hval
  obtain ⟨rfl, rfl⟩ := trodVars_none hV
  clear hA0 hval0
  obtain ⟨args⟩ := args
  obtain ⟨v0, vs0, d0, ds0, p0, q0, ha0, rfl, rfl, h0, r0⟩ := trodAll_cons hA
  simp only at ha0
  subst ha0
  obtain ⟨v1, vs1, d1, ds1, p1, q1, ha1, rfl, rfl, h1, r1⟩ := trodAll_cons r0
  subst ha1
  obtain ⟨v2, vs2, d2, ds2, p2, q2, ha2, rfl, rfl, h2, r2⟩ := trodAll_cons r1
  subst ha2
  obtain ⟨v3, vs3, d3, ds3, p3, q3, ha3, rfl, rfl, h3, r3⟩ := trodAll_cons r2
  subst ha3
  obtain ⟨hn, rfl, rfl⟩ := trodAll_nil r3
  subst hn
  obtain ⟨L1, rfl, _, _, wf_L1⟩ := open_int Try.underlying3 (hval 0 3 v0 rfl rfl) h0
  obtain ⟨id, rfl, _, _, wf_id⟩ := open_int Try.underlying3 (hval 1 3 v1 rfl rfl) h1
  obtain ⟨p, rfl, _, _, wf_p⟩ := open_int Try.underlying3 (hval 2 3 v2 rfl rfl) h2
  obtain ⟨a, len, cap, F, rfl, hlen, hflags⟩ := open_flags (hval 3 23 v3 rfl rfl) h3
  refine (walk_VgicAgain L1 id p a len cap F W hlen hflags).mono fun e W' ⟨he, hb⟩ => ⟨_, he, ?_⟩
  exact law_post laidOut (by kernel_rfl) (by kernel_rfl) Try.underlying4 rfl hW' rfl hb

theorem VgicAgain_over : Rows.vgicAgainRow.holds Try.pinned (OpenSpec.ofChange Rows.vgicAgainSpec) :=
  OpenClaim.holds_of_wide 4 Try.f4 rfl rfl rfl rfl rfl rfl rfl ⟨rfl, rfl, rfl, rfl, rfl⟩ rfl rfl rfl rfl rfl (by kernel_rfl) Try.func4 (by kernel_rfl)
    (of_decide_eq_true (by kernel_rfl)) (by unfold Func.isWrapper; first | (rw [if_pos (by decide +kernel)]; kernel_rfl) | (rw [if_neg (by decide +kernel)]; exact ⟨rfl, rfl⟩))
    (fun os started H enc _ => VgicAgain_lifted os started H enc)

theorem VgicAgain_holds : Rows.VgicAgainSaid := VgicAgain_over
#print axioms VgicAgain_holds
end Go.Proofs.Ytnebjbjdgfaooaa
