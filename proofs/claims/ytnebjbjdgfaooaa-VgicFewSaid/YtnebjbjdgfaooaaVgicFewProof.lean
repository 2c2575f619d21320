/- Proved: how few list registers there are is not seen: the same acts are answered the same with any number (viceroylaw08.VgicFew returns true for all numbers and every list of acts), with no condition. -/
import Derived.Test.YtnebjbjdgfaooaaVgZ
import Derived.Test.YtnebjbjdgfaooaaVgO
namespace Go.Proofs.Ytnebjbjdgfaooaa
open Go.RowKit
set_option maxRecDepth 100000

theorem best_lrs (S : Vm) (L : Int) (k : Nat) : bestV { S with lrs := L } k = bestV S k := by
  induction k with
  | zero => rfl
  | succ k ih => simp only [bestV, ih]; rfl
theorem does_lrs (S : Vm) (L d id p : Int) (on : Bool) : doesV { S with lrs := L } d id p on = ({ (doesV S d id p on).1 with lrs := L }, (doesV S d id p on).2) := by
  unfold doesV
  by_cases d1 : d = 1
  · rw [if_pos d1, if_pos d1]; unfold injV; repeat' split
    all_goals rfl
  by_cases d2 : d = 2
  · rw [if_neg d1, if_neg d1, if_pos d2, if_pos d2]; unfold enaV; repeat' split
    all_goals rfl
  by_cases d3 : d = 3
  · rw [if_neg d1, if_neg d1, if_neg d2, if_neg d2, if_pos d3, if_pos d3]; unfold maskV; repeat' split
    all_goals rfl
  by_cases d4 : d = 4
  · rw [if_neg d1, if_neg d1, if_neg d2, if_neg d2, if_neg d3, if_neg d3, if_pos d4, if_pos d4]; unfold ackV; rw [best_lrs]; cases bestV S 64 <;> rfl
  by_cases d5 : d = 5
  · rw [if_neg d1, if_neg d1, if_neg d2, if_neg d2, if_neg d3, if_neg d3, if_neg d4, if_neg d4, if_pos d5, if_pos d5]
    unfold endV
    by_cases hr : 0 ≤ id ∧ id < 64
    · rw [if_pos hr, if_pos hr]
      dsimp only
      cases S.ac id.toNat <;> rfl
    · rw [if_neg hr, if_neg hr]
  · rw [if_neg d1, if_neg d1, if_neg d2, if_neg d2, if_neg d3, if_neg d3, if_neg d4, if_neg d4, if_neg d5, if_neg d5]
def acell (n e : Int) (f : Bool) (k : Nat) : Value := if k = 1 then .bool f else if k = 2 then .int .i64 e else .int .i64 n
theorem ans_new (w : World) (n e : Int) (f : Bool) : RowAt (w.alloc (.cells #[.int .i64 n, .bool f, .int .i64 e] 39)) w.heap.size 39 3 (acell n e f) := row_new_of w _ 39 3 _ rfl
theorem all_one {pe ac : Mp} {n n' : Nat} {g g' : Nat → LrE} (h : IsAll pe ac n g) (h' : IsAll pe ac n' g') : n = n' ∧ ∀ j, j < n → g j = g' j := by
  have e : n = n' := h.1.trans h'.1.symm
  subst e
  exact ⟨rfl, h.uniq h'.2.1 (fun j hj => h'.mem hj) (fun i hi x hx => h'.has hi hx)⟩
theorem upd_below {w a b : World} {v mp ma : Nat} (h : Below w.heap.size w a) (u : Upd (Vb v mp ma) a b) (hz : w.heap.size ≤ v ∧ w.heap.size ≤ mp ∧ w.heap.size ≤ ma) : Below w.heap.size w b := below_upd h u hz.1 hz.2.1 hz.2.2

set_option maxHeartbeats 4000000 in
theorem walk_VgicFew (L1 L2 : Int) (a : Option Addr) (len cap : Nat) (w : World) (hlen : len ≤ maxLen) (hacts : Acts w a len) :
    Calls Try.prog 5 #[.int .i64 L1, .int .i64 L2, .slice a len cap] w fun e w' => e = .returned (.bool true) ∧ Below w.heap.size w w' := by
  have HA := Lib.hid hacts; clear hacts
  unfold maxLen at hlen
  by_cases h1 : 1 ≤ L1 ∧ L1 ≤ 16
  · by_cases h2 : 1 ≤ L2 ∧ L2 ≤ 16
    ·
      go_enter Try.func5, Try.ntmps5
      go_wp2_with fail
      refine (vawake_any _).mono ?_
      rintro e w1 ⟨rfl, hb1⟩
      have B1 := Lib.hid hb1; clear hb1
      go_wp2_with fail
      refine (vnew_ok L1 h1.1 h1.2 _).mono ?_
      rintro e w2 ⟨v, mp, ma, rfl, hv, hz1, hz2, hz3, hb2⟩
      have B2 : Hid (Below w.heap.size w w2) := Lib.hid (B1.out.trans (hb2.mono B1.out.size))
      have HV := Lib.hid hv
      have HZ1 : Hid (w.heap.size ≤ v ∧ w.heap.size ≤ mp ∧ w.heap.size ≤ ma) := Lib.hid (by have := B1.out.size; omega)
      have HL1 : Hid (v < w2.heap.size ∧ mp < w2.heap.size ∧ ma < w2.heap.size) := Lib.hid ⟨hv.lt, hv.pe.lt, hv.ac.lt⟩
      clear hb2 hv hz1 hz2 hz3 B1
      go_wp2_with fail
      refine (vnew_ok L2 h2.1 h2.2 _).mono ?_
      rintro e w3 ⟨v2, mp2, ma2, rfl, hv, hz1, hz2, hz3, hb3⟩
      have B3 : Hid (Below w.heap.size w w3) := Lib.hid (B2.out.trans (hb3.mono B2.out.size))
      have HW : Hid (VgAt w3 v2 mp2 ma2 { V0 L1 with lrs := L2 }) := Lib.hid hv
      have HV3 := Lib.hid (HV.out.below hb3)
      have HZ : Hid ((w.heap.size ≤ v ∧ w.heap.size ≤ mp ∧ w.heap.size ≤ ma) ∧ (w.heap.size ≤ v2 ∧ w.heap.size ≤ mp2 ∧ w.heap.size ≤ ma2)) := Lib.hid ⟨HZ1.out, by have := B2.out.size; omega⟩
      have hdd : (¬ Vb v mp ma v2 ∧ ¬ Vb v mp ma mp2 ∧ ¬ Vb v mp ma ma2) ∧ (¬ Vb v2 mp2 ma2 v ∧ ¬ Vb v2 mp2 ma2 mp ∧ ¬ Vb v2 mp2 ma2 ma) := by
        have := HL1.out
        unfold Vb
        omega
      obtain ⟨⟨hd1, hd2, hd3⟩, hd4, hd5, hd6⟩ := hdd
      clear hb3 hv hz1 hz2 hz3 B2 HV HL1 HZ1
      go_wp2_with fail
      go_loopw [12, 13, 14, 15, 16, 17] (fun v12 v13 v14 v15 v16 v17 wr => ∃ (k : Nat) (S : Vm), k ≤ 150 ∧ k ≤ len ∧ v12 = .int .i64 k ∧ VgAt wr v mp ma S ∧ VgAt wr v2 mp2 ma2 { S with lrs := L2 } ∧ Below w.heap.size w wr) (fun v12 _ _ _ _ _ _ => 150 - (intOf v12).toNat)
      case atStart => exact ⟨0, V0 L1, by omega, by omega, rfl, HV3.out, HW.out, B3.out⟩
      case round =>
        clear HV3 HW B3
        obtain ⟨k, S, hk, hkl, rfl, hv, hw, hb⟩ := hrel
        have HV := Lib.hid hv; have HW := Lib.hid hw; have HB := Lib.hid hb; clear hv hw hb
        by_cases hlt : k < len
        · by_cases hlm : k < 150
          · obtain ⟨b, off, d, l, n, on, rfl, d0, d1, d2, d3⟩ := HA.out k hlt
            have hbl : b < w.heap.size := World.block_lt_of_cell? w _ d0
            have c0 := (HB.out.cell (p := ⟨b, off + k * 4, none⟩) hbl).trans d0
            have c1 := (HB.out.cell (p := ⟨b, off + k * 4 + 1, none⟩) hbl).trans d1
            have c2 := (HB.out.cell (p := ⟨b, off + k * 4 + 2, none⟩) hbl).trans d2
            have c3 := (HB.out.cell (p := ⟨b, off + k * 4 + 3, none⟩) hbl).trans d3
            go_wp2_with fail
            clear c0 c1 c2 c3
            have HQ := Lib.hid hbl
            refine (does_any v mp ma S d l n on _ HV.out).mono ?_
            rintro e w4 ⟨rfl, hv4, hu4⟩
            obtain ⟨N1, hN1⟩ : ∃ x, (doesV S d l n on).2.1 = x := ⟨_, rfl⟩
            obtain ⟨F1, hF1⟩ : ∃ x, (doesV S d l n on).2.2.1 = x := ⟨_, rfl⟩
            obtain ⟨E1, hE1⟩ : ∃ x, (doesV S d l n on).2.2.2 = x := ⟨_, rfl⟩
            rw [hN1, hF1, hE1]
            obtain ⟨S1, hS1⟩ : ∃ x, (doesV S d l n on).1 = x := ⟨_, rfl⟩
            rw [hS1] at hv4
            have HD := Lib.hid (does_lrs S L2 d l n on)
            have HE := Lib.hid (And.intro hS1 (And.intro hN1 (And.intro hF1 hE1)))
            have HV4 := Lib.hid hv4
            have HW4 : Hid (VgAt w4 v2 mp2 ma2 { S with lrs := L2 }) := Lib.hid (HW.out.kept hu4 hd1 hd2 hd3)
            have B4 : Hid (Below w.heap.size w w4) := Lib.hid (upd_below HB.out hu4 HZ.out.1)
            have c0 := (B4.out.cell (p := ⟨b, off + k * 4, none⟩) hbl).trans d0
            have c1 := (B4.out.cell (p := ⟨b, off + k * 4 + 1, none⟩) hbl).trans d1
            have c2 := (B4.out.cell (p := ⟨b, off + k * 4 + 2, none⟩) hbl).trans d2
            have c3 := (B4.out.cell (p := ⟨b, off + k * 4 + 3, none⟩) hbl).trans d3
            have hb4 : b < w4.heap.size := by have := B4.out.size; omega
            clear hv4 hu4 hS1 hN1 hF1 hE1 d0 d1 d2 d3 HV HW HB
            go_wp2_with fail
            refine (does_any v2 mp2 ma2 { S with lrs := L2 } d l n on _ (HW4.out.alloc _)).mono ?_
            rw [HD.out]
            rw [HE.out.1, HE.out.2.1, HE.out.2.2.1, HE.out.2.2.2]
            rintro e w5 ⟨rfl, hw5, hu5⟩
            have HW5 : Hid (VgAt w5 v2 mp2 ma2 { S1 with lrs := L2 }) := Lib.hid hw5
            have HV5 := Lib.hid ((HV4.out.alloc _).kept hu5 hd4 hd5 hd6)
            have RA5 : Hid (RowAt w5 w4.heap.size 39 3 (acell N1 E1 F1)) := Lib.hid (RowAt.kept (ans_new w4 N1 E1 F1) hu5 (by unfold Vb; have := HW4.out.lt; have := HW4.out.pe.lt; have := HW4.out.ac.lt; omega))
            have B5 : Hid (Below w.heap.size w w5) := Lib.hid (upd_below (B4.out.alloc B4.out.size _) hu5 HZ.out.2)
            clear hw5 hu5 c0 c1 c2 c3 HV4 HW4 B4 HD HE
            go_wp2_with fail
            refine (all_any v mp ma S1 _ (HV5.out.alloc _)).mono ?_
            rintro e w6 ⟨⟨sl, m, g, rfl, hall, hsl⟩, hb6⟩
            have HA6 := Lib.hid hall
            have HS6 := Lib.hid hsl
            have HV6 := Lib.hid ((HV5.out.alloc _).below hb6)
            have HW6 := Lib.hid ((HW5.out.alloc _).below hb6)
            have RA6 : Hid (RowAt w6 w4.heap.size 39 3 (acell N1 E1 F1)) := Lib.hid (RowAt.kept (RA5.out.alloc _) (S := fun _ => False) (Upd.of_below hb6) (fun h => h))
            have RB6 : Hid (RowAt w6 w5.heap.size 39 3 (acell N1 E1 F1)) := Lib.hid (RowAt.kept (ans_new w5 N1 E1 F1) (S := fun _ => False) (Upd.of_below hb6) (fun h => h))
            have B6 : Hid (Below w.heap.size w w6) := Lib.hid ((B5.out.alloc B5.out.size _).trans (hb6.mono (by have := B5.out.size; simp; omega)))
            clear hall hsl hb6 HV5 HW5 RA5 B5
            go_wp2_with fail
            refine (all_any v2 mp2 ma2 { S1 with lrs := L2 } _ HW6.out).mono ?_
            rintro e w7 ⟨⟨sl2, m2, g2, rfl, hall2, hsl2⟩, hb7⟩
            have HE7 := Lib.hid (all_one HA6.out hall2)
            have HN7 : Hid (m ≤ 64) := Lib.hid (by rw [HA6.out.1]; exact preL_len _ _ _)
            have HS7 := Lib.hid (HS6.out.below hb7)
            have HS7' := Lib.hid hsl2
            have HV7 := Lib.hid (HV6.out.below hb7)
            have HW7 := Lib.hid (HW6.out.below hb7)
            have RA7 : Hid (RowAt w7 w4.heap.size 39 3 (acell N1 E1 F1)) := Lib.hid (RowAt.kept RA6.out (S := fun _ => False) (Upd.of_below hb7) (fun h => h))
            have RB7 : Hid (RowAt w7 w5.heap.size 39 3 (acell N1 E1 F1)) := Lib.hid (RowAt.kept RB6.out (S := fun _ => False) (Upd.of_below hb7) (fun h => h))
            have B7 : Hid (Below w.heap.size w w7) := Lib.hid (B6.out.trans (hb7.mono B6.out.size))
            clear hall2 hsl2 hb7 HV6 HW6 RA6 RB6 B6 HA6 HS6
            go_wp2_with fail
            refine (lists_eq sl sl2 m _ _ g g2 _ HS7.out (by have h := HS7'.out; rw [← HE7.out.1] at h; exact h) HE7.out.2 HN7.out).mono ?_
            rintro e w8 ⟨rfl, hk8⟩
            have HV8 := Lib.hid (HV7.out.drew' hk8)
            have HW8 := Lib.hid (HW7.out.drew' hk8)
            have B8 := Lib.hid (below_drew B7.out hk8)
            have RA8 : Hid (RowAt w8 w4.heap.size 39 3 (acell N1 E1 F1)) := Lib.hid (by obtain ⟨j, rfl⟩ := hk8; exact RA7.out)
            have RB8 : Hid (RowAt w8 w5.heap.size 39 3 (acell N1 E1 F1)) := Lib.hid (by obtain ⟨j, rfl⟩ := hk8; exact RB7.out)
            clear hk8 HV7 HW7 B7 RA7 RB7 HS7 HS7' HE7 HN7
            have x0 := RA8.out.cell 0 (by omega)
            have x1 := RA8.out.cell 1 (by omega)
            have x2 := RA8.out.cell 2 (by omega)
            have y0 := RB8.out.cell 0 (by omega)
            have y1 := RB8.out.cell 1 (by omega)
            have y2 := RB8.out.cell 2 (by omega)
            simp only [acell, if_true, if_false, show ¬ (0 : Nat) = 1 by omega, show ¬ (0 : Nat) = 2 by omega, show ¬ (2 : Nat) = 1 by omega] at x0 x1 x2 y0 y1 y2
            go_wp2_with fail
            
            go_roundw
            case rel => exact ⟨k + 1, S1, by omega, by omega, by go_num, HV8.out, HW8.out, B8.out⟩
            case measure => simp [intOf]; omega
          · go_wp2_with fail
            go_ret
            go_light
            exact ⟨rfl, HB.out⟩
        · go_wp2_with fail
          go_ret
          go_light
          exact ⟨rfl, HB.out⟩
    ·
      go_enter Try.func5, Try.ntmps5
      go_wp2_with fail
      refine (vawake_any _).mono ?_
      rintro e w1 ⟨rfl, hb1⟩
      have B1 := Lib.hid hb1; clear hb1
      go_wp2_with fail
      refine (vnew_ok L1 h1.1 h1.2 _).mono ?_
      rintro e w2 ⟨v, mp, ma, rfl, hv, hz1, hz2, hz3, hb2⟩
      have B2 : Hid (Below w.heap.size w w2) := Lib.hid (B1.out.trans (hb2.mono B1.out.size))
      have HV := Lib.hid hv
      have HZ1 : Hid (w.heap.size ≤ v ∧ w.heap.size ≤ mp ∧ w.heap.size ≤ ma) := Lib.hid (by have := B1.out.size; omega)
      have HL1 : Hid (v < w2.heap.size ∧ mp < w2.heap.size ∧ ma < w2.heap.size) := Lib.hid ⟨hv.lt, hv.pe.lt, hv.ac.lt⟩
      clear hb2 hv hz1 hz2 hz3 B1
      go_wp2_with fail
      refine (vnew_err L2 h2 _).mono ?_
      rintro e w3 ⟨rfl, rfl⟩
      have B3 := B2
      go_wp2_with fail
      go_ret
      go_light
      exact ⟨rfl, B3.out⟩
  · by_cases h2 : 1 ≤ L2 ∧ L2 ≤ 16
    ·
      go_enter Try.func5, Try.ntmps5
      go_wp2_with fail
      refine (vawake_any _).mono ?_
      rintro e w1 ⟨rfl, hb1⟩
      have B1 := Lib.hid hb1; clear hb1
      go_wp2_with fail
      refine (vnew_err L1 h1 _).mono ?_
      rintro e w2 ⟨rfl, rfl⟩
      have B2 := B1
      go_wp2_with fail
      refine (vnew_ok L2 h2.1 h2.2 _).mono ?_
      rintro e w3 ⟨v2, mp2, ma2, rfl, hv, hz1, hz2, hz3, hb3⟩
      have B3 : Hid (Below w.heap.size w w3) := Lib.hid (B2.out.trans (hb3.mono B2.out.size))
      go_wp2_with fail
      go_ret
      go_light
      exact ⟨rfl, B3.out⟩
    ·
      go_enter Try.func5, Try.ntmps5
      go_wp2_with fail
      refine (vawake_any _).mono ?_
      rintro e w1 ⟨rfl, hb1⟩
      have B1 := Lib.hid hb1; clear hb1
      go_wp2_with fail
      refine (vnew_err L1 h1 _).mono ?_
      rintro e w2 ⟨rfl, rfl⟩
      have B2 := B1
      go_wp2_with fail
      refine (vnew_err L2 h2 _).mono ?_
      rintro e w3 ⟨rfl, rfl⟩
      have B3 := B2
      go_wp2_with fail
      go_ret
      go_light
      exact ⟨rfl, B3.out⟩
end Go.Proofs.Ytnebjbjdgfaooaa
namespace Go.Proofs.Ytnebjbjdgfaooaa
open Go.Joins Go.ChangeShapes Go.WideShapes Go.ChangeAt Go.RowKit
set_option maxRecDepth 100000
theorem VgicFew_lifted (os : Os) (started : os.Started) (H : Type) (enc : TypeId × Value → H) :
    ReturnsInHanded {} Try.checked os 5 .any (Rows.vgicFewSpec.pre6 enc Try.prog Try.f5 Rows.vgicFewRow.domain false) (Rows.vgicFewSpec.post enc Try.prog Try.f5 false true false false) := by
  refine returnsInHanded_of_change (C := Try.checked) own started (by kernel_rfl) Try.func5
    (ChangeSpec.witness6 (enc := enc) (C := Try.checked) false ⟨#[], #[.int .i64 0, .int .i64 0, .slice none 0 0], []⟩ 8 (by kernel_rfl) (by kernel_rfl) (by kernel_rfl) (by kernel_rfl)) ?_
  intro W base args ds gs before hval0 hW hcnd _
  have hval : ∀ (j : Nat) t v, Try.f5.params[j]? = some t → args[j]? = some v → Value.okWide Try.prog W .any base t v := hval0
  have hW' := hW
  obtain ⟨p, q, hA0, hV, rfl, hfz, hnd⟩ := hW
  have hA : DataW.TrodAll enc Try.prog W 0 (fun _ => true) true Try.f5.params.toList args.toList ds p := hA0
  rw [Try.params5] at hA hval
  obtain ⟨rfl, rfl⟩ := trodVars_none hV
  clear hA0 hval0
  obtain ⟨args⟩ := args
  obtain ⟨v0, vs0, d0, ds0, p0, q0, ha0, rfl, rfl, h0, r0⟩ := trodAll_cons hA
  simp only at ha0
  subst ha0
  obtain ⟨v1, vs1, d1, ds1, p1, q1, ha1, rfl, rfl, h1, r1⟩ := trodAll_cons r0
  subst ha1
  obtain ⟨v2, vs2, d2, ds2, p2, q2, ha2, rfl, rfl, h2, r2⟩ := trodAll_cons r1
  subst ha2
  obtain ⟨hn, rfl, rfl⟩ := trodAll_nil r2
  subst hn
  obtain ⟨L1, rfl, _, _, wf_L1⟩ := open_int Try.underlying3 (hval 0 3 v0 rfl rfl) h0
  obtain ⟨L2, rfl, _, _, wf_L2⟩ := open_int Try.underlying3 (hval 1 3 v1 rfl rfl) h1
  obtain ⟨a, len, cap, rfl, hlen, hacts⟩ := open_acts (hval 2 37 v2 rfl rfl) h2
  refine (walk_VgicFew L1 L2 a len cap W hlen hacts).mono fun e W' ⟨he, hb⟩ => ⟨_, he, ?_⟩
  exact law_post laidOut (by kernel_rfl) (by kernel_rfl) Try.underlying4 rfl hW' rfl hb

theorem VgicFew_over : Rows.vgicFewRow.holds Try.pinned (OpenSpec.ofChange Rows.vgicFewSpec) :=
  OpenClaim.holds_of_wide 5 Try.f5 rfl rfl rfl rfl rfl rfl rfl ⟨rfl, rfl, rfl, rfl, rfl⟩ rfl rfl rfl rfl rfl (by kernel_rfl) Try.func5 (by kernel_rfl)
    (of_decide_eq_true (by kernel_rfl)) (by unfold Func.isWrapper; first | (rw [if_pos (by decide +kernel)]; kernel_rfl) | (rw [if_neg (by decide +kernel)]; exact ⟨rfl, rfl⟩))
    (fun os started H enc _ => VgicFew_lifted os started H enc)

theorem VgicFew_holds : Rows.VgicFewSaid := VgicFew_over
#print axioms VgicFew_holds
end Go.Proofs.Ytnebjbjdgfaooaa
