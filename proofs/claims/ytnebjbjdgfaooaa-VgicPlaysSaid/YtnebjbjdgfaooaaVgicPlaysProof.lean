/- Proved: whatever is injected, enabled, masked, acknowledged and ended, in whatever order, each answer and all that stands is as the document says (viceroylaw08.VgicPlays returns true for all numbers of list registers and every list of acts), with no condition. -/
import Derived.Test.YtnebjbjdgfaooaaVgX
import Derived.Test.YtnebjbjdgfaooaaVgO
namespace Go.Proofs.Ytnebjbjdgfaooaa
open Go.RowKit
set_option maxRecDepth 100000

def acell (n e : Int) (f : Bool) (k : Nat) : Value := if k = 1 then .bool f else if k = 2 then .int .i64 e else .int .i64 n
theorem ans_new (w : World) (n e : Int) (f : Bool) : RowAt (w.alloc (.cells #[.int .i64 n, .bool f, .int .i64 e] 39)) w.heap.size 39 3 (acell n e f) := row_new_of w _ 39 3 _ rfl
theorem upd_below {w a b : World} {v mp ma : Nat} (h : Below w.heap.size w a) (u : Upd (Vb v mp ma) a b) (hz : w.heap.size ≤ v ∧ w.heap.size ≤ mp ∧ w.heap.size ≤ ma) : Below w.heap.size w b := below_upd h u hz.1 hz.2.1 hz.2.2
theorem upd_belowR {w a b : World} {r : Nat} (h : Below w.heap.size w a) (u : Upd (Ob r) a b) (hz : w.heap.size ≤ r) : Below w.heap.size w b :=
  h.trans ⟨u.os, u.tape, u.output, u.size, fun k hk => u.block k (by have := h.size; omega) (by unfold Ob; omega)⟩
theorem RfAt.drew' {a b : World} {r : Nat} {R : Rm} (h : RfAt a r R) (e : ∃ k, b = a.drewN k) : RfAt b r R := by obtain ⟨k, rfl⟩ := e; exact h
theorem RowAt.below {w w' : World} {b : Nat} {T : TypeId} {n : Nat} {f : Nat → Value} (h : RowAt w b T n f) (u : Below w.heap.size w w') : RowAt w' b T n f := h.kept (S := fun _ => False) (Upd.of_below u) (fun h => h)
/-- A prefix of a slice. -/
theorem LrSl.cut {w : World} {base q cap n m : Nat} {g : Nat → LrE} (h : LrSl w base (.slice (some ⟨q, 0, none⟩) n cap) n g) (hm : m ≤ n) : LrSl w base (.slice (some ⟨q, 0, none⟩) m cap) m g := by
  rcases h with ⟨h, _⟩ | ⟨q', cap', M, h1, h2, h3, h4⟩
  · cases h
  · cases h1
    obtain ⟨f, x1, x2, x3⟩ := h4
    exact Or.inr ⟨q, cap, M, rfl, by omega, h3, ⟨f, x1, by omega, fun k hk => x3 k (by omega)⟩⟩
theorem LrSl.form {w : World} {base : Nat} {sl : Value} {n : Nat} {g : Nat → LrE} (h : LrSl w base sl n g) : (sl = .slice none 0 0 ∧ n = 0) ∨ ∃ q cap, sl = .slice (some ⟨q, 0, none⟩) n cap ∧ n ≤ cap := by
  rcases h with h | ⟨q, cap, M, h1, h2, h3, h4⟩
  · exact Or.inl h
  · exact Or.inr ⟨q, cap, h1, h2⟩
theorem all_one {pe ac : Mp} {n n' : Nat} {g g' : Nat → LrE} (h : IsAll pe ac n g) (h' : IsAll pe ac n' g') : n = n' ∧ ∀ j, j < n → g j = g' j := by
  have e : n = n' := h.1.trans h'.1.symm
  subst e
  exact ⟨rfl, h.uniq h'.2.1 (fun j hj => h'.mem hj) (fun i hi x hx => h'.has hi hx)⟩

set_option maxHeartbeats 16000000 in
theorem walk_VgicPlays (L1 : Int) (a : Option Addr) (len cap : Nat) (w : World) (hlen : len ≤ maxLen) (hacts : Acts w a len) :
    Calls Try.prog 8 #[.int .i64 L1, .slice a len cap] w fun e w' => e = .returned (.bool true) ∧ Below w.heap.size w w' := by
  have HA := Lib.hid hacts; clear hacts
  unfold maxLen at hlen
  by_cases h1 : 1 ≤ L1 ∧ L1 ≤ 16
  ·
    obtain ⟨L, rfl⟩ := Int.eq_ofNat_of_zero_le (by omega : 0 ≤ L1)
    have HLP := Lib.hid h1
    go_enter Try.func8, Try.ntmps8
    go_wp2_with fail
    refine (vawake_any _).mono ?_
    rintro e w1 ⟨rfl, hb1⟩
    have B1 := Lib.hid hb1; clear hb1
    go_wp2_with fail
    refine (vnew_ok (L : Int) HLP.out.1 HLP.out.2 _).mono ?_
    rintro e w2 ⟨v, mp, ma, rfl, hv, hz1, hz2, hz3, hb2⟩
    have B2 : Hid (Below w.heap.size w w2) := Lib.hid (B1.out.trans (hb2.mono B1.out.size))
    have HV := Lib.hid hv
    have HZ1 : Hid (w.heap.size ≤ v ∧ w.heap.size ≤ mp ∧ w.heap.size ≤ ma) := Lib.hid (by have := B1.out.size; omega)
    have HL1 : Hid (v < w2.heap.size ∧ mp < w2.heap.size ∧ ma < w2.heap.size) := Lib.hid ⟨hv.lt, hv.pe.lt, hv.ac.lt⟩
    clear hb2 hv hz1 hz2 hz3 B1 h1
    go_wp2_with fail
    refine (rnew_ok (L : Int) HLP.out.1 HLP.out.2 _).mono ?_
    rintro e w3 ⟨r, R0, rfl, hf, ht, hz1, hb3⟩
    have B3 : Hid (Below w.heap.size w w3) := Lib.hid (B2.out.trans (hb3.mono B2.out.size))
    have HV3 : Hid (VgAt w3 v mp ma R0.to) := Lib.hid (by rw [ht]; exact HV.out.below hb3)
    have HF3 := Lib.hid hf
    have HT3 : Hid (Rng R0.to ∧ R0.to.lrs = (L : Int)) := Lib.hid (by rw [ht]; exact ⟨Rng.V0 _, rfl⟩)
    have HZ : Hid ((w.heap.size ≤ v ∧ w.heap.size ≤ mp ∧ w.heap.size ≤ ma) ∧ w.heap.size ≤ r) := Lib.hid ⟨HZ1.out, by have := B2.out.size; omega⟩
    have hd1 : ¬ Vb v mp ma r := by
      have := HL1.out
      unfold Vb
      omega
    clear hb3 hf hz1 B2 HV HL1 HZ1 ht
    go_wp2_with fail
    go_loopw [10, 11, 12, 13, 14, 15, 16, 17, 18, 19, 20, 21, 22, 23, 24] (fun v10 v11 v12 v13 v14 v15 v16 v17 v18 v19 v20 v21 v22 v23 v24 wr => ∃ (k : Nat) (R : Rm), k ≤ 100 ∧ k ≤ len ∧ v10 = .int .i64 k ∧ VgAt wr v mp ma R.to ∧ RfAt wr r R ∧ Rng R.to ∧ R.to.lrs = (L : Int) ∧ Below w.heap.size w wr) (fun v10 _ _ _ _ _ _ _ _ _ _ _ _ _ _ _ => 100 - (intOf v10).toNat)
    case atStart => exact ⟨0, R0, by omega, by omega, rfl, HV3.out, HF3.out, HT3.out.1, HT3.out.2, B3.out⟩
    case round =>
      clear HV3 HF3 B3 HT3
      obtain ⟨k, R, hk, hkl, rfl, hv, hf, hr, hs, hb⟩ := hrel
      have HV := Lib.hid hv; have HF := Lib.hid hf; have HR := Lib.hid hr; have HS := Lib.hid hs; have HB := Lib.hid hb; clear hv hf hr hs hb
      by_cases hlt : k < len
      · by_cases hlm : k < 100
        · obtain ⟨b, off, d, l, n, on, rfl, d0, d1, d2, d3⟩ := HA.out k hlt
          have hbl : b < w.heap.size := World.block_lt_of_cell? w _ d0
          have c0 := (HB.out.cell (p := ⟨b, off + k * 4, none⟩) hbl).trans d0
          have c1 := (HB.out.cell (p := ⟨b, off + k * 4 + 1, none⟩) hbl).trans d1
          have c2 := (HB.out.cell (p := ⟨b, off + k * 4 + 2, none⟩) hbl).trans d2
          have c3 := (HB.out.cell (p := ⟨b, off + k * 4 + 3, none⟩) hbl).trans d3
          go_wp2_with fail
          clear c0 c1 c2 c3
          have HQ := Lib.hid hbl
          refine (does_any v mp ma R.to d l n on _ HV.out).mono ?_
          rintro e w4 ⟨rfl, hv4, hu4⟩
          have HG := Lib.hid (HR.out.does d l n on)
          have HL : Hid ((doesV R.to d l n on).1.lrs = (L : Int)) := Lib.hid (by rw [lrs_does]; exact HS.out)
          obtain ⟨N1, hN1⟩ : ∃ x, (doesV R.to d l n on).2.1 = x := ⟨_, rfl⟩
          obtain ⟨F1, hF1⟩ : ∃ x, (doesV R.to d l n on).2.2.1 = x := ⟨_, rfl⟩
          obtain ⟨E1, hE1⟩ : ∃ x, (doesV R.to d l n on).2.2.2 = x := ⟨_, rfl⟩
          rw [hN1, hF1, hE1]
          obtain ⟨S1, hS1⟩ : ∃ x, (doesV R.to d l n on).1 = x := ⟨_, rfl⟩
          rw [hS1] at hv4 HG HL
          have HE := Lib.hid (And.intro hS1 (And.intro hN1 (And.intro hF1 hE1)))
          have HV4 := Lib.hid hv4
          have HF4 := Lib.hid (HF.out.kept hu4 hd1)
          have B4 : Hid (Below w.heap.size w w4) := Lib.hid (upd_below HB.out hu4 HZ.out.1)
          have c0 := (B4.out.cell (p := ⟨b, off + k * 4, none⟩) hbl).trans d0
          have c1 := (B4.out.cell (p := ⟨b, off + k * 4 + 1, none⟩) hbl).trans d1
          have c2 := (B4.out.cell (p := ⟨b, off + k * 4 + 2, none⟩) hbl).trans d2
          have c3 := (B4.out.cell (p := ⟨b, off + k * 4 + 3, none⟩) hbl).trans d3
          have hb4 : b < w4.heap.size := by have := B4.out.size; omega
          clear hv4 hu4 hS1 hN1 hF1 hE1 d0 d1 d2 d3 HV HF HB HR HS
          go_wp2_with fail
          refine (means_any r R d l n on _ (HF4.out.alloc _)).mono ?_
          rw [HE.out.1, HE.out.2.1, HE.out.2.2.1, HE.out.2.2.2]
          rintro e w5 ⟨rfl, ⟨R1, hf5, rfl⟩, hu5⟩
          have HF5 := Lib.hid hf5
          have HV5 := Lib.hid ((HV4.out.alloc _).kept hu5 (fun h => hd1 (Or.inl h.symm)) (fun h => hd1 (Or.inr (Or.inl h.symm))) (fun h => hd1 (Or.inr (Or.inr h.symm))))
          have RA5 : Hid (RowAt w5 w4.heap.size 39 3 (acell N1 E1 F1)) := Lib.hid (RowAt.kept (ans_new w4 N1 E1 F1) hu5 (by unfold Ob; have := HF4.out.lt; omega))
          have B5 : Hid (Below w.heap.size w w5) := Lib.hid (upd_belowR (B4.out.alloc B4.out.size _) hu5 HZ.out.2)
          clear hf5 hu5 c0 c1 c2 c3 HV4 HF4 B4 HE
          go_wp2_with fail
          refine (vnext_any v mp ma R1.to _ (HV5.out.alloc _)).mono ?_
          obtain ⟨nx, hnx⟩ : ∃ x, nextV R1.to = x := ⟨_, rfl⟩
          rw [hnx]
          have HNX := Lib.hid hnx
          clear hnx
          rintro e w6 ⟨rfl, hb6⟩
          have HF6 := Lib.hid ((HF5.out.alloc _).below hb6)
          have HV6 := Lib.hid ((HV5.out.alloc _).below hb6)
          have RA6 := Lib.hid ((RA5.out.alloc _).below hb6)
          have RB6 : Hid (RowAt w6 w5.heap.size 39 3 (acell N1 E1 F1)) := Lib.hid ((ans_new w5 N1 E1 F1).below hb6)
          have B6 : Hid (Below w.heap.size w w6) := Lib.hid ((B5.out.alloc B5.out.size _).trans (hb6.mono (by have := B5.out.size; simp; omega)))
          clear hb6 HF5 HV5 RA5 B5
          go_wp2_with fail
          refine (rnext_any r R1 _ HF6.out).mono ?_
          rw [HNX.out]
          rintro e w7 ⟨rfl, hb7⟩
          have HF7 := Lib.hid (HF6.out.below hb7)
          have HV7 := Lib.hid (HV6.out.below hb7)
          have RA7 := Lib.hid (RA6.out.below hb7)
          have RB7 := Lib.hid (RB6.out.below hb7)
          have B7 : Hid (Below w.heap.size w w7) := Lib.hid (B6.out.trans (hb7.mono B6.out.size))
          clear hb7 HF6 HV6 RA6 RB6 B6 HNX
          go_wp2_with fail
          refine (all_any v mp ma R1.to _ HV7.out).mono ?_
          rintro e w8 ⟨⟨sx, m, g, rfl, hall, hsl⟩, hb8⟩
          have HA8 := Lib.hid hall
          have HX8 := Lib.hid hsl
          have HF8 := Lib.hid (HF7.out.below hb8)
          have HV8 := Lib.hid (HV7.out.below hb8)
          have RA8 := Lib.hid (RA7.out.below hb8)
          have RB8 := Lib.hid (RB7.out.below hb8)
          have B8 : Hid (Below w.heap.size w w8) := Lib.hid (B7.out.trans (hb8.mono B7.out.size))
          have HN : Hid (m ≤ 64) := Lib.hid (by rw [hall.1]; exact preL_len _ _ _)
          clear hall hsl hb8 HF7 HV7 RA7 RB7 B7
          obtain ⟨M, hM⟩ : ∃ M : Nat, M = 32768 := ⟨_, rfl⟩
          have HM := Lib.hid hM
          clear hM
          go_wp2_with fail
          refine (rall_any r R1 M HM.out _ HF8.out).mono ?_
          obtain ⟨sl', hsl'⟩ : ∃ x, seqF (recR R1) M = x := ⟨_, rfl⟩
          have HQ8 := Lib.hid (seq_all HG.out M HM.out HA8.out)
          rw [hsl'] at HQ8 ⊢
          clear hsl'
          rintro e w9 ⟨⟨sr, rfl, hsr⟩, hb9⟩
          rw [HQ8.out.1] at hsr
          have HX9 := Lib.hid (HX8.out.below hb9)
          have HR9 := Lib.hid (hsr.congr (fun i hi => (HQ8.out.2 i hi).symm))
          have HF9 := Lib.hid (HF8.out.below hb9)
          have HV9 := Lib.hid (HV8.out.below hb9)
          have RA9 := Lib.hid (RA8.out.below hb9)
          have RB9 := Lib.hid (RB8.out.below hb9)
          have B9 : Hid (Below w.heap.size w w9) := Lib.hid (B8.out.trans (hb9.mono B8.out.size))
          clear hsr hb9 HX8 HF8 HV8 RA8 RB8 B8 HQ8 HM
          go_wp2_with fail
          refine (vlrs_any v mp ma R1.to _ HV9.out (by rw [HL.out]; omega)).mono ?_
          rintro e w10 ⟨⟨sy, m', g', rfl, hall, hsy⟩, hb10⟩
          obtain ⟨e1, e2⟩ := all_one HA8.out hall
          subst e1
          rw [HL.out, Int.toNat_natCast] at hsy
          obtain ⟨mn, hmn⟩ : ∃ mn, (if (L : Int) < (m : Int) then L else m) = mn := ⟨_, rfl⟩
          rw [hmn] at hsy
          have hmm : mn ≤ m ∧ mn ≤ L ∧ (m ≤ L → mn = m) ∧ (L ≤ m → mn = L) := by split at hmn <;> omega
          have HMM := Lib.hid hmm
          have HY10 := Lib.hid (hsy.congr (fun i hi => (e2 i (by omega)).symm))
          have HX10 := Lib.hid (HX9.out.below hb10)
          have HR10 := Lib.hid (HR9.out.below hb10)
          have HF10 := Lib.hid (HF9.out.below hb10)
          have HV10 := Lib.hid (HV9.out.below hb10)
          have RA10 := Lib.hid (RA9.out.below hb10)
          have RB10 := Lib.hid (RB9.out.below hb10)
          have B10 : Hid (Below w.heap.size w w10) := Lib.hid (B9.out.trans (hb10.mono B9.out.size))
          clear hall hsy hb10 HX9 HR9 HF9 HV9 RA9 RB9 B9 HA8 e2 hmn hmm
          go_wp2_with fail
          refine (lists_eq sx sr m _ _ g g _ HX10.out HR10.out (fun _ _ => rfl) HN.out).mono ?_
          rintro e w12 ⟨rfl, hk12⟩
          have HX : Hid (LrSl w12 _ sr m g) := Lib.hid (by obtain ⟨j, rfl⟩ := hk12; exact HR10.out)
          have HY : Hid (LrSl w12 _ sy mn g) := Lib.hid (by obtain ⟨j, rfl⟩ := hk12; exact HY10.out)
          have HV12 := Lib.hid (HV10.out.drew' hk12)
          have HF12 := Lib.hid (HF10.out.drew' hk12)
          have B12 := Lib.hid (below_drew B10.out hk12)
          have RA12 : Hid (RowAt w12 w4.heap.size 39 3 (acell N1 E1 F1)) := Lib.hid (by obtain ⟨j, rfl⟩ := hk12; exact RA10.out)
          have RB12 : Hid (RowAt w12 w5.heap.size 39 3 (acell N1 E1 F1)) := Lib.hid (by obtain ⟨j, rfl⟩ := hk12; exact RB10.out)
          clear hk12 HV10 HF10 B10 RA10 RB10 HX10 HR10 HY10
          rcases HX.out.form with ⟨rfl, rfl⟩ | ⟨q, cap, rfl, hcap⟩
          · have hm0 : mn = 0 := by have := HMM.out; omega
            subst hm0
            have hL0 : (0 : Int) < (L : Int) := by have := HLP.out; omega
            have hL1 : ¬ (L : Int) < 0 := by omega
            have dL1 : decide ((L : Int) < 0) = false := by simp
            go_wp2_with fail
            refine (lists_eq sy _ 0 _ _ g g _ HY.out (Or.inl ⟨rfl, rfl⟩ : LrSl _ 0 (.slice none 0 0) 0 g) (fun _ _ => rfl) (by have := HN.out; omega)).mono ?_
            rintro e w13 ⟨rfl, hk13⟩
            have HV13 := Lib.hid (HV12.out.drew' hk13)
            have HF13 := Lib.hid (HF12.out.drew' hk13)
            have B13 := Lib.hid (below_drew B12.out hk13)
            have RA13 : Hid (RowAt w13 w4.heap.size 39 3 (acell N1 E1 F1)) := Lib.hid (by obtain ⟨j, rfl⟩ := hk13; exact RA12.out)
            have RB13 : Hid (RowAt w13 w5.heap.size 39 3 (acell N1 E1 F1)) := Lib.hid (by obtain ⟨j, rfl⟩ := hk13; exact RB12.out)
            clear hk13 HV12 HF12 B12 RA12 RB12 HX HY
            go_wp2_with fail
            refine (vcounts_any v mp ma R1.to _ HV13.out).mono ?_
            rw [show R1.to.inj = R1.inj from rfl, show R1.to.ak = R1.ak from rfl, show R1.to.en = R1.en from rfl]
            rintro e w14 ⟨rfl, hk14⟩
            have HV14 := Lib.hid (HV13.out.drew' hk14)
            have HF14 := Lib.hid (HF13.out.drew' hk14)
            have B14 := Lib.hid (below_drew B13.out hk14)
            have RA14 : Hid (RowAt w14 w4.heap.size 39 3 (acell N1 E1 F1)) := Lib.hid (by obtain ⟨j, rfl⟩ := hk14; exact RA13.out)
            have RB14 : Hid (RowAt w14 w5.heap.size 39 3 (acell N1 E1 F1)) := Lib.hid (by obtain ⟨j, rfl⟩ := hk14; exact RB13.out)
            clear hk14 HV13 HF13 B13 RA13 RB13
            have x0 := RA14.out.cell 0 (by omega)
            have x1 := RA14.out.cell 1 (by omega)
            have x2 := RA14.out.cell 2 (by omega)
            have y0 := RB14.out.cell 0 (by omega)
            have y1 := RB14.out.cell 1 (by omega)
            have y2 := RB14.out.cell 2 (by omega)
            have z0 := HF14.out.c_inj
            have z1 := HF14.out.c_ak
            have z2 := HF14.out.c_en
            simp only [acell, if_true, if_false, show ¬ (0 : Nat) = 1 by omega, show ¬ (0 : Nat) = 2 by omega, show ¬ (2 : Nat) = 1 by omega] at x0 x1 x2 y0 y1 y2
            go_wp2_with fail
            go_roundw
            case rel => exact ⟨k + 1, R1, by omega, by omega, by go_num, HV14.out, HF14.out, HG.out, HL.out, B14.out⟩
            case measure => simp [intOf]; omega
          · by_cases hlt : L < m
            · have e3 : mn = L := HMM.out.2.2.2 (by omega)
              subst e3
              have hd : decide ((mn : Int) < (m : Int)) = true := by simp; omega
              have hd2 : (mn : Int) < (m : Int) := by omega
              have hcp : (mn : Int) ≤ (cap : Int) := by omega
              go_wp2_with fail
              refine (lists_eq sy _ mn _ _ g g _ HY.out (HX.out.cut (by omega)) (fun _ _ => rfl) (by have := HN.out; omega)).mono ?_
              rintro e w13 ⟨rfl, hk13⟩
              have HV13 := Lib.hid (HV12.out.drew' hk13)
              have HF13 := Lib.hid (HF12.out.drew' hk13)
              have B13 := Lib.hid (below_drew B12.out hk13)
              have RA13 : Hid (RowAt w13 w4.heap.size 39 3 (acell N1 E1 F1)) := Lib.hid (by obtain ⟨j, rfl⟩ := hk13; exact RA12.out)
              have RB13 : Hid (RowAt w13 w5.heap.size 39 3 (acell N1 E1 F1)) := Lib.hid (by obtain ⟨j, rfl⟩ := hk13; exact RB12.out)
              clear hk13 HV12 HF12 B12 RA12 RB12 HX HY
              go_wp2_with fail
              refine (vcounts_any v mp ma R1.to _ HV13.out).mono ?_
              rw [show R1.to.inj = R1.inj from rfl, show R1.to.ak = R1.ak from rfl, show R1.to.en = R1.en from rfl]
              rintro e w14 ⟨rfl, hk14⟩
              have HV14 := Lib.hid (HV13.out.drew' hk14)
              have HF14 := Lib.hid (HF13.out.drew' hk14)
              have B14 := Lib.hid (below_drew B13.out hk14)
              have RA14 : Hid (RowAt w14 w4.heap.size 39 3 (acell N1 E1 F1)) := Lib.hid (by obtain ⟨j, rfl⟩ := hk14; exact RA13.out)
              have RB14 : Hid (RowAt w14 w5.heap.size 39 3 (acell N1 E1 F1)) := Lib.hid (by obtain ⟨j, rfl⟩ := hk14; exact RB13.out)
              clear hk14 HV13 HF13 B13 RA13 RB13
              have x0 := RA14.out.cell 0 (by omega)
              have x1 := RA14.out.cell 1 (by omega)
              have x2 := RA14.out.cell 2 (by omega)
              have y0 := RB14.out.cell 0 (by omega)
              have y1 := RB14.out.cell 1 (by omega)
              have y2 := RB14.out.cell 2 (by omega)
              have z0 := HF14.out.c_inj
              have z1 := HF14.out.c_ak
              have z2 := HF14.out.c_en
              simp only [acell, if_true, if_false, show ¬ (0 : Nat) = 1 by omega, show ¬ (0 : Nat) = 2 by omega, show ¬ (2 : Nat) = 1 by omega] at x0 x1 x2 y0 y1 y2
              go_wp2_with fail
              go_roundw
              case rel => exact ⟨k + 1, R1, by omega, by omega, by go_num, HV14.out, HF14.out, HG.out, HL.out, B14.out⟩
              case measure => simp [intOf]; omega
            · have e3 : mn = m := HMM.out.2.2.1 (by omega)
              subst e3
              have hd : decide ((L : Int) < (mn : Int)) = false := by simp; omega
              have hd2 : ¬ (L : Int) < (mn : Int) := by omega
              have hcp : (mn : Int) ≤ (cap : Int) := by omega
              go_wp2_with fail
              refine (lists_eq sy _ mn _ _ g g _ HY.out HX.out (fun _ _ => rfl) (by have := HN.out; omega)).mono ?_
              rintro e w13 ⟨rfl, hk13⟩
              have HV13 := Lib.hid (HV12.out.drew' hk13)
              have HF13 := Lib.hid (HF12.out.drew' hk13)
              have B13 := Lib.hid (below_drew B12.out hk13)
              have RA13 : Hid (RowAt w13 w4.heap.size 39 3 (acell N1 E1 F1)) := Lib.hid (by obtain ⟨j, rfl⟩ := hk13; exact RA12.out)
              have RB13 : Hid (RowAt w13 w5.heap.size 39 3 (acell N1 E1 F1)) := Lib.hid (by obtain ⟨j, rfl⟩ := hk13; exact RB12.out)
              clear hk13 HV12 HF12 B12 RA12 RB12 HX HY
              go_wp2_with fail
              refine (vcounts_any v mp ma R1.to _ HV13.out).mono ?_
              rw [show R1.to.inj = R1.inj from rfl, show R1.to.ak = R1.ak from rfl, show R1.to.en = R1.en from rfl]
              rintro e w14 ⟨rfl, hk14⟩
              have HV14 := Lib.hid (HV13.out.drew' hk14)
              have HF14 := Lib.hid (HF13.out.drew' hk14)
              have B14 := Lib.hid (below_drew B13.out hk14)
              have RA14 : Hid (RowAt w14 w4.heap.size 39 3 (acell N1 E1 F1)) := Lib.hid (by obtain ⟨j, rfl⟩ := hk14; exact RA13.out)
              have RB14 : Hid (RowAt w14 w5.heap.size 39 3 (acell N1 E1 F1)) := Lib.hid (by obtain ⟨j, rfl⟩ := hk14; exact RB13.out)
              clear hk14 HV13 HF13 B13 RA13 RB13
              have x0 := RA14.out.cell 0 (by omega)
              have x1 := RA14.out.cell 1 (by omega)
              have x2 := RA14.out.cell 2 (by omega)
              have y0 := RB14.out.cell 0 (by omega)
              have y1 := RB14.out.cell 1 (by omega)
              have y2 := RB14.out.cell 2 (by omega)
              have z0 := HF14.out.c_inj
              have z1 := HF14.out.c_ak
              have z2 := HF14.out.c_en
              simp only [acell, if_true, if_false, show ¬ (0 : Nat) = 1 by omega, show ¬ (0 : Nat) = 2 by omega, show ¬ (2 : Nat) = 1 by omega] at x0 x1 x2 y0 y1 y2
              go_wp2_with fail
              go_roundw
              case rel => exact ⟨k + 1, R1, by omega, by omega, by go_num, HV14.out, HF14.out, HG.out, HL.out, B14.out⟩
              case measure => simp [intOf]; omega
        · go_wp2_with fail
          go_ret
          go_light
          exact ⟨rfl, HB.out⟩
      · go_wp2_with fail
        go_ret
        go_light
        exact ⟨rfl, HB.out⟩
  ·
    go_enter Try.func8, Try.ntmps8
    go_wp2_with fail
    refine (vawake_any _).mono ?_
    rintro e w1 ⟨rfl, hb1⟩
    have B1 := Lib.hid hb1; clear hb1
    go_wp2_with fail
    refine (vnew_err L1 h1 _).mono ?_
    rintro e w2 ⟨rfl, rfl⟩
    go_wp2_with fail
    refine (rnew_err L1 h1 _).mono ?_
    rintro e w3 ⟨rfl, rfl⟩
    go_wp2_with fail
    go_ret
    go_light
    exact ⟨rfl, B1.out⟩
end Go.Proofs.Ytnebjbjdgfaooaa
namespace Go.Proofs.Ytnebjbjdgfaooaa
open Go.Joins Go.ChangeShapes Go.WideShapes Go.ChangeAt Go.RowKit
set_option maxRecDepth 100000
theorem VgicPlays_lifted (os : Os) (started : os.Started) (H : Type) (enc : TypeId × Value → H) :
    ReturnsInHanded {} Try.checked os 8 .any (Rows.vgicPlaysSpec.pre6 enc Try.prog Try.f8 Rows.vgicPlaysRow.domain false) (Rows.vgicPlaysSpec.post enc Try.prog Try.f8 false true false false) := by
  refine returnsInHanded_of_change (C := Try.checked) own started (by kernel_rfl) Try.func8
    (ChangeSpec.witness6 (enc := enc) (C := Try.checked) false ⟨#[], #[.int .i64 0, .slice none 0 0], []⟩ 8 (by kernel_rfl) (by kernel_rfl) (by kernel_rfl) (by kernel_rfl)) ?_
  intro W base args ds gs before hval0 hW hcnd _
  have hval : ∀ (j : Nat) t v, Try.f8.params[j]? = some t → args[j]? = some v → Value.okWide Try.prog W .any base t v := hval0
  have hW' := hW
  obtain ⟨p, q, hA0, hV, rfl, hfz, hnd⟩ := hW
  have hA : DataW.TrodAll enc Try.prog W 0 (fun _ => true) true Try.f8.params.toList args.toList ds p := hA0
  rw [Try.params8] at hA hval
  obtain ⟨rfl, rfl⟩ := trodVars_none hV
  clear hA0 hval0
  obtain ⟨args⟩ := args
  obtain ⟨v0, vs0, d0, ds0, p0, q0, ha0, rfl, rfl, h0, r0⟩ := trodAll_cons hA
  simp only at ha0
  subst ha0
  obtain ⟨v1, vs1, d1, ds1, p1, q1, ha1, rfl, rfl, h1, r1⟩ := trodAll_cons r0
  subst ha1
  obtain ⟨hn, rfl, rfl⟩ := trodAll_nil r1
  subst hn
  obtain ⟨L1, rfl, _, _, wf_L1⟩ := open_int Try.underlying3 (hval 0 3 v0 rfl rfl) h0
  obtain ⟨a, len, cap, rfl, hlen, hacts⟩ := open_acts (hval 1 37 v1 rfl rfl) h1
  refine (walk_VgicPlays L1 a len cap W hlen hacts).mono fun e W' ⟨he, hb⟩ => ⟨_, he, ?_⟩
  exact law_post laidOut (by kernel_rfl) (by kernel_rfl) Try.underlying4 rfl hW' rfl hb

theorem VgicPlays_over : Rows.vgicPlaysRow.holds Try.pinned (OpenSpec.ofChange Rows.vgicPlaysSpec) :=
  OpenClaim.holds_of_wide 8 Try.f8 rfl rfl rfl rfl rfl rfl rfl ⟨rfl, rfl, rfl, rfl, rfl⟩ rfl rfl rfl rfl rfl (by kernel_rfl) Try.func8 (by kernel_rfl)
    (of_decide_eq_true (by kernel_rfl)) (by unfold Func.isWrapper; first | (rw [if_pos (by decide +kernel)]; kernel_rfl) | (rw [if_neg (by decide +kernel)]; exact ⟨rfl, rfl⟩))
    (fun os started H enc _ => VgicPlays_lifted os started H enc)

theorem VgicPlays_holds : Rows.VgicPlaysSaid := VgicPlays_over
#print axioms VgicPlays_holds
end Go.Proofs.Ytnebjbjdgfaooaa
