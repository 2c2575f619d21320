/- The walk of the law VgicServes over at most 64 priorities. -/
import Derived.Test.YtnebjbjdgfaooaaVgS
namespace Go.Proofs.Ytnebjbjdgfaooaa
open Go.RowKit Go.Maps
set_option maxRecDepth 100000
set_option maxHeartbeats 16000000 in
theorem walk_VgicServesL (L1 : Int) (a : Option Addr) (len cap : Nat) (a2 : Option Addr) (len2 cap2 : Nat) (F : Nat → Bool) (w : World) (hlen : len ≤ maxLen) (hnums : Ints w a len) (hflags : Bools w a2 len2 F) (h1 : 1 ≤ L1 ∧ L1 ≤ 16) (hx : len ≤ 64) :
    Calls Try.prog 3 #[.int .i64 L1, .slice a len cap, .slice a2 len2 cap2] w fun e w' => e = .returned (.bool true) ∧ Below w.heap.size w w' := by
  have HA := Lib.hid hnums; clear hnums
  have HFl := Lib.hid hflags; clear hflags
  unfold maxLen at hlen
  go_enter Try.func3, Try.ntmps3
  go_wp2_with fail
  refine (vawake_any _).mono ?_
  rintro e w1 ⟨rfl, hb1⟩
  have B1 := Lib.hid hb1; clear hb1
  go_wp2_with fail
  refine (vnew_ok L1 h1.1 h1.2 _).mono ?_
  rintro e w2 ⟨v, mp, ma, rfl, hv, hz1, hz2, hz3, hb2⟩
  have B2 : Hid (Below w.heap.size w w2) := Lib.hid (B1.out.trans (hb2.mono B1.out.size))
  have HV2 := Lib.hid hv
  have HZ : Hid (w.heap.size ≤ v ∧ w.heap.size ≤ mp ∧ w.heap.size ≤ ma) := Lib.hid (by have := B1.out.size; omega)
  have hvl : v < w2.heap.size ∧ mp < w2.heap.size ∧ ma < w2.heap.size := ⟨hv.lt, hv.pe.lt, hv.ac.lt⟩
  have HNB : Hid (¬ Vb v mp ma w2.heap.size ∧ ¬ Vb v mp ma (w2.heap.size + 1)) := Lib.hid (by unfold Vb; omega)
  have hpv : w2.heap.size ≠ v ∧ w2.heap.size ≠ mp ∧ w2.heap.size ≠ ma := by omega
  have hfv : w2.heap.size + 1 ≠ v ∧ w2.heap.size + 1 ≠ mp ∧ w2.heap.size + 1 ≠ ma := by omega
  have hpf : w2.heap.size ≠ w2.heap.size + 1 := by omega
  have hzz : w.heap.size ≤ w2.heap.size ∧ w.heap.size ≤ w2.heap.size + 1 := by have := B2.out.size; omega
  clear hb2 hv hz1 hz2 hz3 B1 hvl
  go_wp2_with (first | (with_reducible refine wpList_value' rfl (run_alloc29 _ _ _ _ _ _ _) ?_) | (with_reducible refine wpList_value' rfl (run_alloc30 _ _ _ _ _ _ _) ?_))
  have HP2 := Lib.hid ((prow_new w2).alloc (.cells fz 30))
  have HF2 := Lib.hid (frow_new w2 (.cells pz 29))
  have HV3 := Lib.hid ((HV2.out.alloc (.cells pz 29)).alloc (.cells fz 30))
  have B3 : Hid (Below w.heap.size w ((w2.alloc (.cells pz 29)).alloc (.cells fz 30))) := Lib.hid ((B2.out.alloc B2.out.size _).alloc (by simp; omega) _)
  obtain ⟨pb, hpb⟩ : ∃ y, w2.heap.size = y := ⟨_, rfl⟩
  rw [hpb] at HNB hpv hfv hpf hzz HP2 HF2
  obtain ⟨fb, hfb⟩ : ∃ y, pb + 1 = y := ⟨_, rfl⟩
  rw [hfb] at HNB hfv hpf hzz HF2
  simp only [hpb, hfb]
  clear hpb hfb
  go_loopw [12, 13, 14] (fun v12 v13 _ wr => ∃ (k : Nat) (P : Nat → Int) (G : Nat → Bool) (S : Vm), k ≤ 64 ∧ k ≤ len ∧ v12 = .int .i64 k ∧ v13 = .int .i64 k ∧ PM S k P G ∧ RowAt wr pb 29 64 (fun j => .int .i64 (P j)) ∧ RowAt wr fb 30 64 (fun j => .bool (G j)) ∧ VgAt wr v mp ma S ∧ Below w.heap.size w wr) (fun _ v13 _ _ => 64 - (intOf v13).toNat)
  case atStart => exact ⟨0, fun _ => 0, fun _ => false, V0 L1, by omega, by omega, rfl, rfl, ⟨fun j => by simp [V0], fun j => rfl, fun j => rfl, rfl, fun j hj => by omega⟩, HP2.out, HF2.out, HV3.out, B3.out⟩
  case round =>
    clear HP2 HF2 HV3 B3 HV2 B2
    obtain ⟨k, P, G, S, hk, hkl, rfl, rfl, hm, hp, hf, hv, hb⟩ := hrel
    have HM := Lib.hid hm; have HP := Lib.hid hp; have HF0 := Lib.hid hf; have HV := Lib.hid hv; have HB := Lib.hid hb; clear hm hp hf hv hb
    have hpl := RowAt.lt HP.out
    have hfl2 := RowAt.lt HF0.out
    by_cases hlt : k < len
    · by_cases hlm : k < 64
      · obtain ⟨b, off, z, rfl, d0⟩ := HA.out k hlt
        have hbl : b < w.heap.size := World.block_lt_of_cell? w _ d0
        have c0 := (HB.out.cell (p := ⟨b, off + k, none⟩) hbl).trans d0
        have n0 : ¬ b = pb := by omega
        have n1 : ¬ b = fb := by omega
        obtain ⟨t0, t1⟩ := tmod_bounds z
        obtain ⟨t, ht⟩ : ∃ y, z.tmod 256 = y := ⟨_, rfl⟩
        rw [ht] at t0 t1
        have dk : decide ((k : Int) < (len : Int)) = true := by simp; omega
        have dk64 : decide ((k : Int) < 64) = true := by simp; omega
        have hki : (k : Int) < (len : Int) := by omega
        have hk64 : (k : Int) < 64 := by omega
        clear d0
        by_cases hneg : t < 0
        · have dneg : decide (t < 0) = true := by simpa using hneg
          by_cases hfl : k < len2
          · obtain ⟨b2, off2, rfl, d2⟩ := HFl.out k hfl
            have hb2 : b2 < w.heap.size := World.block_lt_of_cell? w _ d2
            have c2 := (HB.out.cell (p := ⟨b2, off2 + k, none⟩) hb2).trans d2
            have hb2r : b2 < wr.heap.size := by have := HB.out.size; omega
            have n2 : ¬ b2 = pb := by omega
            have n3 : ¬ b2 = fb := by omega
            have n4 : ¬ pb = b2 := by omega
            have n5 : ¬ fb = b2 := by omega
            have hk2 : (k : Int) < (len2 : Int) := by omega
            have dk2 : decide ((k : Int) < (len2 : Int)) = true := by simp; omega
            clear d2
            obtain ⟨x, hxe⟩ : ∃ y, -t = y := ⟨_, rfl⟩
            have hx0 : 0 ≤ x := by omega
            have hx1 : x < 256 := by omega
            obtain ⟨he0, hpm⟩ := HM.out.step (by omega) x (F k) hx0 hx1
            obtain ⟨S1, hS1⟩ : ∃ y, (injV S k x (F k)).1 = y := ⟨_, rfl⟩
            rw [hS1] at hpm
            have HE0 := Lib.hid (And.intro he0 hS1)
            have HM1 := Lib.hid hpm
            clear he0 hS1 hpm
            have WP : Hid (RowAt (((wr.setCell ⟨pb, k, none⟩ (.int .i64 t)).setCell ⟨pb, k, none⟩ (.int .i64 x)).setCell ⟨fb, k, none⟩ (.bool (F k))) pb 29 64 (fun j => .int .i64 (setP P k x j))) := Lib.hid (RowAt.other (p := ⟨fb, k, none⟩) ((by have h := prow_set (prow_set HP.out k t) k x; rwa [setP_twice] at h)) (fun e => hpf e.symm) _)
            have WF : Hid (RowAt (((wr.setCell ⟨pb, k, none⟩ (.int .i64 t)).setCell ⟨pb, k, none⟩ (.int .i64 x)).setCell ⟨fb, k, none⟩ (.bool (F k))) fb 30 64 (fun j => .bool (setP G k (F k) j))) := Lib.hid (frow_set (RowAt.other (p := ⟨pb, k, none⟩) (RowAt.other (p := ⟨pb, k, none⟩) HF0.out hpf _) hpf _) k (F k))
            have WV : Hid (VgAt (((wr.setCell ⟨pb, k, none⟩ (.int .i64 t)).setCell ⟨pb, k, none⟩ (.int .i64 x)).setCell ⟨fb, k, none⟩ (.bool (F k))) v mp ma S) := Lib.hid (VgAt.other (p := ⟨fb, k, none⟩) (VgAt.other (p := ⟨pb, k, none⟩) (VgAt.other (p := ⟨pb, k, none⟩) HV.out hpv.1 hpv.2.1 hpv.2.2 (.int .i64 t)) hpv.1 hpv.2.1 hpv.2.2 (.int .i64 x)) hfv.1 hfv.2.1 hfv.2.2 _)
            have WB : Hid (Below w.heap.size w (((wr.setCell ⟨pb, k, none⟩ (.int .i64 t)).setCell ⟨pb, k, none⟩ (.int .i64 x)).setCell ⟨fb, k, none⟩ (.bool (F k)))) := Lib.hid (Below.setCell (p := ⟨fb, k, none⟩) (Below.setCell (p := ⟨pb, k, none⟩) (Below.setCell (p := ⟨pb, k, none⟩) HB.out hzz.1 _) hzz.1 _) hzz.2 _)
            have XP : Hid (setP P k x k = x) := Lib.hid (setP_at P k _)
            have XF : Hid (setP G k (F k) k = (F k)) := Lib.hid (setP_at G k _)
            have px := HP.out.cell k (by omega)
            have pf := HP.out.frozen
            have fx := HF0.out.cell k (by omega)
            have ff := HF0.out.frozen
            go_wp2_with fail
            clear px pf fx ff
            generalize (((wr.setCell ⟨pb, k, none⟩ (.int .i64 t)).setCell ⟨pb, k, none⟩ (.int .i64 x)).setCell ⟨fb, k, none⟩ (.bool (F k))) = wg at WP WF WV WB ⊢
            have c1 : wg.cell? ⟨pb, k, none⟩ = some (.int .i64 x) := by have h := WP.out.cell k (by omega); simpa only [XP.out] using h
            have c2 : wg.cell? ⟨fb, k, none⟩ = some (.bool (F k)) := by have h := WF.out.cell k (by omega); simpa only [XF.out] using h
            go_region_held3 (fun w' => w'.cell? ⟨pb, k, none⟩ = some (.int .i64 x) ∧ w'.cell? ⟨fb, k, none⟩ = some (.bool (F k))) (go_keep)
              (first | (go_at_call 16; refine (inject_kept v mp ma S k x (F k) pb fb _ _ _ (by exact WV.out.drew) (by exact WP.out) (by exact WF.out) HNB.out.1 HNB.out.2 (by omega)).mono ?_; rw [XP.out, XF.out, HE0.out.1, HE0.out.2]; rintro e w5 ⟨rfl, hv, hu, hp5, hf5, c1, c2⟩))
            have HV5 := Lib.hid hv; have HP5 := Lib.hid hp5; have HF5 := Lib.hid hf5
            have B5 : Hid (Below w.heap.size w w5) := Lib.hid (upd_below WB.out.drew hu HZ.out)
            clear hv hu hp5 hf5 c1 c2 WP WF WV WB
            go_wp2_with fail
            go_roundw
            case rel => exact ⟨k + 1, setP P k x, setP G k (F k), S1, by omega, by omega, by go_num, by go_num, HM1.out, HP5.out, HF5.out, HV5.out, B5.out⟩
            case measure => simp [intOf]; omega
          · have hk2 : ¬ (k : Int) < (len2 : Int) := by omega
            have dk2 : decide ((k : Int) < (len2 : Int)) = false := by simp; omega
            obtain ⟨x, hxe⟩ : ∃ y, -t = y := ⟨_, rfl⟩
            have hx0 : 0 ≤ x := by omega
            have hx1 : x < 256 := by omega
            obtain ⟨he0, hpm⟩ := HM.out.step (by omega) x (false) hx0 hx1
            obtain ⟨S1, hS1⟩ : ∃ y, (injV S k x (false)).1 = y := ⟨_, rfl⟩
            rw [hS1] at hpm
            have HE0 := Lib.hid (And.intro he0 hS1)
            have HM1 := Lib.hid hpm
            clear he0 hS1 hpm
            have WP : Hid (RowAt (((wr.setCell ⟨pb, k, none⟩ (.int .i64 t)).setCell ⟨pb, k, none⟩ (.int .i64 x)).setCell ⟨fb, k, none⟩ (.bool (false))) pb 29 64 (fun j => .int .i64 (setP P k x j))) := Lib.hid (RowAt.other (p := ⟨fb, k, none⟩) ((by have h := prow_set (prow_set HP.out k t) k x; rwa [setP_twice] at h)) (fun e => hpf e.symm) _)
            have WF : Hid (RowAt (((wr.setCell ⟨pb, k, none⟩ (.int .i64 t)).setCell ⟨pb, k, none⟩ (.int .i64 x)).setCell ⟨fb, k, none⟩ (.bool (false))) fb 30 64 (fun j => .bool (setP G k (false) j))) := Lib.hid (frow_set (RowAt.other (p := ⟨pb, k, none⟩) (RowAt.other (p := ⟨pb, k, none⟩) HF0.out hpf _) hpf _) k (false))
            have WV : Hid (VgAt (((wr.setCell ⟨pb, k, none⟩ (.int .i64 t)).setCell ⟨pb, k, none⟩ (.int .i64 x)).setCell ⟨fb, k, none⟩ (.bool (false))) v mp ma S) := Lib.hid (VgAt.other (p := ⟨fb, k, none⟩) (VgAt.other (p := ⟨pb, k, none⟩) (VgAt.other (p := ⟨pb, k, none⟩) HV.out hpv.1 hpv.2.1 hpv.2.2 (.int .i64 t)) hpv.1 hpv.2.1 hpv.2.2 (.int .i64 x)) hfv.1 hfv.2.1 hfv.2.2 _)
            have WB : Hid (Below w.heap.size w (((wr.setCell ⟨pb, k, none⟩ (.int .i64 t)).setCell ⟨pb, k, none⟩ (.int .i64 x)).setCell ⟨fb, k, none⟩ (.bool (false)))) := Lib.hid (Below.setCell (p := ⟨fb, k, none⟩) (Below.setCell (p := ⟨pb, k, none⟩) (Below.setCell (p := ⟨pb, k, none⟩) HB.out hzz.1 _) hzz.1 _) hzz.2 _)
            have XP : Hid (setP P k x k = x) := Lib.hid (setP_at P k _)
            have XF : Hid (setP G k (false) k = (false)) := Lib.hid (setP_at G k _)
            have px := HP.out.cell k (by omega)
            have pf := HP.out.frozen
            have fx := HF0.out.cell k (by omega)
            have ff := HF0.out.frozen
            go_wp2_with fail
            clear px pf fx ff
            generalize (((wr.setCell ⟨pb, k, none⟩ (.int .i64 t)).setCell ⟨pb, k, none⟩ (.int .i64 x)).setCell ⟨fb, k, none⟩ (.bool (false))) = wg at WP WF WV WB ⊢
            have c1 : wg.cell? ⟨pb, k, none⟩ = some (.int .i64 x) := by have h := WP.out.cell k (by omega); simpa only [XP.out] using h
            have c2 : wg.cell? ⟨fb, k, none⟩ = some (.bool (false)) := by have h := WF.out.cell k (by omega); simpa only [XF.out] using h
            go_region_held3 (fun w' => w'.cell? ⟨pb, k, none⟩ = some (.int .i64 x) ∧ w'.cell? ⟨fb, k, none⟩ = some (.bool (false))) (go_keep)
              (first | (go_at_call 16; refine (inject_kept v mp ma S k x (false) pb fb _ _ _ (by exact WV.out.drew) (by exact WP.out) (by exact WF.out) HNB.out.1 HNB.out.2 (by omega)).mono ?_; rw [XP.out, XF.out, HE0.out.1, HE0.out.2]; rintro e w5 ⟨rfl, hv, hu, hp5, hf5, c1, c2⟩))
            have HV5 := Lib.hid hv; have HP5 := Lib.hid hp5; have HF5 := Lib.hid hf5
            have B5 : Hid (Below w.heap.size w w5) := Lib.hid (upd_below WB.out.drew hu HZ.out)
            clear hv hu hp5 hf5 c1 c2 WP WF WV WB
            go_wp2_with fail
            go_roundw
            case rel => exact ⟨k + 1, setP P k x, setP G k (false), S1, by omega, by omega, by go_num, by go_num, HM1.out, HP5.out, HF5.out, HV5.out, B5.out⟩
            case measure => simp [intOf]; omega
        · have dneg : decide (t < 0) = false := by simpa using hneg
          by_cases hfl : k < len2
          · obtain ⟨b2, off2, rfl, d2⟩ := HFl.out k hfl
            have hb2 : b2 < w.heap.size := World.block_lt_of_cell? w _ d2
            have c2 := (HB.out.cell (p := ⟨b2, off2 + k, none⟩) hb2).trans d2
            have hb2r : b2 < wr.heap.size := by have := HB.out.size; omega
            have n2 : ¬ b2 = pb := by omega
            have n3 : ¬ b2 = fb := by omega
            have n4 : ¬ pb = b2 := by omega
            have n5 : ¬ fb = b2 := by omega
            have hk2 : (k : Int) < (len2 : Int) := by omega
            have dk2 : decide ((k : Int) < (len2 : Int)) = true := by simp; omega
            clear d2
            have hx0 : 0 ≤ t := by omega
            have hx1 : t < 256 := by omega
            obtain ⟨he0, hpm⟩ := HM.out.step (by omega) t (F k) hx0 hx1
            obtain ⟨S1, hS1⟩ : ∃ y, (injV S k t (F k)).1 = y := ⟨_, rfl⟩
            rw [hS1] at hpm
            have HE0 := Lib.hid (And.intro he0 hS1)
            have HM1 := Lib.hid hpm
            clear he0 hS1 hpm
            have WP : Hid (RowAt ((wr.setCell ⟨pb, k, none⟩ (.int .i64 t)).setCell ⟨fb, k, none⟩ (.bool (F k))) pb 29 64 (fun j => .int .i64 (setP P k t j))) := Lib.hid (RowAt.other (p := ⟨fb, k, none⟩) (prow_set HP.out k t) (fun e => hpf e.symm) _)
            have WF : Hid (RowAt ((wr.setCell ⟨pb, k, none⟩ (.int .i64 t)).setCell ⟨fb, k, none⟩ (.bool (F k))) fb 30 64 (fun j => .bool (setP G k (F k) j))) := Lib.hid (frow_set (RowAt.other (p := ⟨pb, k, none⟩) HF0.out hpf _) k (F k))
            have WV : Hid (VgAt ((wr.setCell ⟨pb, k, none⟩ (.int .i64 t)).setCell ⟨fb, k, none⟩ (.bool (F k))) v mp ma S) := Lib.hid (VgAt.other (p := ⟨fb, k, none⟩) (VgAt.other (p := ⟨pb, k, none⟩) HV.out hpv.1 hpv.2.1 hpv.2.2 (.int .i64 t)) hfv.1 hfv.2.1 hfv.2.2 _)
            have WB : Hid (Below w.heap.size w ((wr.setCell ⟨pb, k, none⟩ (.int .i64 t)).setCell ⟨fb, k, none⟩ (.bool (F k)))) := Lib.hid (Below.setCell (p := ⟨fb, k, none⟩) (Below.setCell (p := ⟨pb, k, none⟩) HB.out hzz.1 _) hzz.2 _)
            have XP : Hid (setP P k t k = t) := Lib.hid (setP_at P k _)
            have XF : Hid (setP G k (F k) k = (F k)) := Lib.hid (setP_at G k _)
            have px := HP.out.cell k (by omega)
            have pf := HP.out.frozen
            have fx := HF0.out.cell k (by omega)
            have ff := HF0.out.frozen
            go_wp2_with fail
            clear px pf fx ff
            generalize ((wr.setCell ⟨pb, k, none⟩ (.int .i64 t)).setCell ⟨fb, k, none⟩ (.bool (F k))) = wg at WP WF WV WB ⊢
            have c1 : wg.cell? ⟨pb, k, none⟩ = some (.int .i64 t) := by have h := WP.out.cell k (by omega); simpa only [XP.out] using h
            have c2 : wg.cell? ⟨fb, k, none⟩ = some (.bool (F k)) := by have h := WF.out.cell k (by omega); simpa only [XF.out] using h
            go_region_held3 (fun w' => w'.cell? ⟨pb, k, none⟩ = some (.int .i64 t) ∧ w'.cell? ⟨fb, k, none⟩ = some (.bool (F k))) (go_keep)
              (first | (go_at_call 16; refine (inject_kept v mp ma S k t (F k) pb fb _ _ _ (by exact WV.out.drew) (by exact WP.out) (by exact WF.out) HNB.out.1 HNB.out.2 (by omega)).mono ?_; rw [XP.out, XF.out, HE0.out.1, HE0.out.2]; rintro e w5 ⟨rfl, hv, hu, hp5, hf5, c1, c2⟩))
            have HV5 := Lib.hid hv; have HP5 := Lib.hid hp5; have HF5 := Lib.hid hf5
            have B5 : Hid (Below w.heap.size w w5) := Lib.hid (upd_below WB.out.drew hu HZ.out)
            clear hv hu hp5 hf5 c1 c2 WP WF WV WB
            go_wp2_with fail
            go_roundw
            case rel => exact ⟨k + 1, setP P k t, setP G k (F k), S1, by omega, by omega, by go_num, by go_num, HM1.out, HP5.out, HF5.out, HV5.out, B5.out⟩
            case measure => simp [intOf]; omega
          · have hk2 : ¬ (k : Int) < (len2 : Int) := by omega
            have dk2 : decide ((k : Int) < (len2 : Int)) = false := by simp; omega
            have hx0 : 0 ≤ t := by omega
            have hx1 : t < 256 := by omega
            obtain ⟨he0, hpm⟩ := HM.out.step (by omega) t (false) hx0 hx1
            obtain ⟨S1, hS1⟩ : ∃ y, (injV S k t (false)).1 = y := ⟨_, rfl⟩
            rw [hS1] at hpm
            have HE0 := Lib.hid (And.intro he0 hS1)
            have HM1 := Lib.hid hpm
            clear he0 hS1 hpm
            have WP : Hid (RowAt ((wr.setCell ⟨pb, k, none⟩ (.int .i64 t)).setCell ⟨fb, k, none⟩ (.bool (false))) pb 29 64 (fun j => .int .i64 (setP P k t j))) := Lib.hid (RowAt.other (p := ⟨fb, k, none⟩) (prow_set HP.out k t) (fun e => hpf e.symm) _)
            have WF : Hid (RowAt ((wr.setCell ⟨pb, k, none⟩ (.int .i64 t)).setCell ⟨fb, k, none⟩ (.bool (false))) fb 30 64 (fun j => .bool (setP G k (false) j))) := Lib.hid (frow_set (RowAt.other (p := ⟨pb, k, none⟩) HF0.out hpf _) k (false))
            have WV : Hid (VgAt ((wr.setCell ⟨pb, k, none⟩ (.int .i64 t)).setCell ⟨fb, k, none⟩ (.bool (false))) v mp ma S) := Lib.hid (VgAt.other (p := ⟨fb, k, none⟩) (VgAt.other (p := ⟨pb, k, none⟩) HV.out hpv.1 hpv.2.1 hpv.2.2 (.int .i64 t)) hfv.1 hfv.2.1 hfv.2.2 _)
            have WB : Hid (Below w.heap.size w ((wr.setCell ⟨pb, k, none⟩ (.int .i64 t)).setCell ⟨fb, k, none⟩ (.bool (false)))) := Lib.hid (Below.setCell (p := ⟨fb, k, none⟩) (Below.setCell (p := ⟨pb, k, none⟩) HB.out hzz.1 _) hzz.2 _)
            have XP : Hid (setP P k t k = t) := Lib.hid (setP_at P k _)
            have XF : Hid (setP G k (false) k = (false)) := Lib.hid (setP_at G k _)
            have px := HP.out.cell k (by omega)
            have pf := HP.out.frozen
            have fx := HF0.out.cell k (by omega)
            have ff := HF0.out.frozen
            go_wp2_with fail
            clear px pf fx ff
            generalize ((wr.setCell ⟨pb, k, none⟩ (.int .i64 t)).setCell ⟨fb, k, none⟩ (.bool (false))) = wg at WP WF WV WB ⊢
            have c1 : wg.cell? ⟨pb, k, none⟩ = some (.int .i64 t) := by have h := WP.out.cell k (by omega); simpa only [XP.out] using h
            have c2 : wg.cell? ⟨fb, k, none⟩ = some (.bool (false)) := by have h := WF.out.cell k (by omega); simpa only [XF.out] using h
            go_region_held3 (fun w' => w'.cell? ⟨pb, k, none⟩ = some (.int .i64 t) ∧ w'.cell? ⟨fb, k, none⟩ = some (.bool (false))) (go_keep)
              (first | (go_at_call 16; refine (inject_kept v mp ma S k t (false) pb fb _ _ _ (by exact WV.out.drew) (by exact WP.out) (by exact WF.out) HNB.out.1 HNB.out.2 (by omega)).mono ?_; rw [XP.out, XF.out, HE0.out.1, HE0.out.2]; rintro e w5 ⟨rfl, hv, hu, hp5, hf5, c1, c2⟩))
            have HV5 := Lib.hid hv; have HP5 := Lib.hid hp5; have HF5 := Lib.hid hf5
            have B5 : Hid (Below w.heap.size w w5) := Lib.hid (upd_below WB.out.drew hu HZ.out)
            clear hv hu hp5 hf5 c1 c2 WP WF WV WB
            go_wp2_with fail
            go_roundw
            case rel => exact ⟨k + 1, setP P k t, setP G k (false), S1, by omega, by omega, by go_num, by go_num, HM1.out, HP5.out, HF5.out, HV5.out, B5.out⟩
            case measure => simp [intOf]; omega
      · exact absurd hx (by omega)
    · go_wp2_with fail
      
      have HM0 := Lib.hid (HM.out.sv hk)
      go_loopw [15, 16, 17, 18, 19] (fun v15 v16 _ _ _ wr => ∃ (i : Nat) (S : Vm) (last : Int), i ≤ k ∧ v16 = .int .i64 i ∧ v15 = .int .i64 last ∧ SV S k (k - i) P G last ∧ RowAt wr pb 29 64 (fun j => .int .i64 (P j)) ∧ RowAt wr fb 30 64 (fun j => .bool (G j)) ∧ VgAt wr v mp ma S ∧ Below w.heap.size w wr) (fun _ v16 _ _ _ _ => 64 - (intOf v16).toNat)
      case atStart => exact ⟨0, S, -1, by omega, rfl, rfl, HM0.out, HP.out, HF0.out, HV.out, HB.out⟩
      case round =>
        clear HM0 HM HP HF0 HV HB
        obtain ⟨i, S, last, hik, rfl, rfl, hsv, hp, hf, hv, hb⟩ := hrel
        have HP := Lib.hid hp; have HF0 := Lib.hid hf; have HV := Lib.hid hv; have HB := Lib.hid hb; clear hp hf hv hb
        by_cases hlt : i < k
        · obtain ⟨b, hbk, e3, e4, e5, hs2, hord⟩ := SV.next hk (by rw [show k - i = (k - (i + 1)) + 1 by omega] at hsv; exact hsv)
          have HS2 := Lib.hid hs2
          obtain ⟨S1, hS1⟩ : ∃ y, (ackV S).1 = y := ⟨_, rfl⟩
          rw [hS1] at HS2 e4 e5
          obtain ⟨S2, hS2⟩ : ∃ y, (endV S1 b).1 = y := ⟨_, rfl⟩
          rw [hS2] at HS2
          have HE := Lib.hid (And.intro e3 (And.intro hS1 (And.intro e4 (And.intro e5 hS2))))
          clear hsv hs2 e3 e4 e5 hS1 hS2
          have di : decide ((i : Int) < (k : Int)) = true := by simp; omega
          go_wp2_with fail
          refine (vack_any v mp ma S _ HV.out).mono ?_
          rw [HE.out.1, HE.out.2.1]
          rintro e w3 ⟨rfl, hv, hu⟩
          have HV3 := Lib.hid hv
          have HP3 : Hid (RowAt w3 pb 29 64 (fun j => .int .i64 (P j))) := Lib.hid (HP.out.kept hu HNB.out.1)
          have HF3 : Hid (RowAt w3 fb 30 64 (fun j => .bool (G j))) := Lib.hid (HF0.out.kept hu HNB.out.2)
          have B3 := Lib.hid (upd_below HB.out hu HZ.out)
          clear hv hu HV HP HF0 HB
          have db0 : decide ((b : Int) < 0) = false := by simp
          have dbk : decide ((k : Int) ≤ (b : Int)) = false := by simp; omega
          have hb0 : ¬ (b : Int) < 0 := by omega
          have dkn : decide (k ≤ b) = false := by simp; omega
          have hkn : ¬ k ≤ b := by omega
          have hbk1 : ¬ (k : Int) ≤ (b : Int) := by omega
          have pc : w3.cell? ⟨pb, b, none⟩ = some (.int .i64 (P b)) := HP3.out.cell b (by omega)
          have hb64 : (b : Int) < 64 := by omega
          rcases hord with rfl | ⟨l, rfl, hlk, hlt2⟩
          · go_wp2_with fail
            go_big_quiet (fail)
            go_wp2_with fail
            refine (vend_any v mp ma S1 b _ (HV3.out.drewN _)).mono ?_
            rw [HE.out.2.2.1, HE.out.2.2.2.1, HE.out.2.2.2.2]
            rintro e w4 ⟨rfl, hv, hu⟩
            have HV4 := Lib.hid hv
            have HP4 : Hid (RowAt w4 pb 29 64 (fun j => .int .i64 (P j))) := Lib.hid ((HP3.out.drewN _).kept hu HNB.out.1)
            have HF4 : Hid (RowAt w4 fb 30 64 (fun j => .bool (G j))) := Lib.hid ((HF3.out.drewN _).kept hu HNB.out.2)
            have B4 : Hid (Below w.heap.size w w4) := Lib.hid (upd_below (below_drewN B3.out _) hu HZ.out)
            clear hv hu HV3 HP3 HF3 B3
            have gc : w4.cell? ⟨fb, b, none⟩ = some (.bool (G b)) := HF4.out.cell b (by omega)
            go_wp2_with fail
            go_roundw
            case rel => exact ⟨i + 1, S2, (b : Int), by omega, by go_num, rfl, HS2.out, HP4.out, HF4.out, HV4.out, B4.out⟩
            case measure => simp [intOf]; omega
          · have dl : decide (0 ≤ (l : Int)) = true := by simp
            have hl0 : (0 : Int) ≤ (l : Int) := by omega
            have pl : w3.cell? ⟨pb, l, none⟩ = some (.int .i64 (P l)) := HP3.out.cell l (by omega)
            have hl64 : (l : Int) < 64 := by omega
            have hpn : ¬ P b < P l := by omega
            have dpn : decide (P b < P l) = false := by simpa using hpn
            by_cases heq : P b = P l
            · have deq : (P b == P l) = true := by simpa using heq
              have hnl : ¬ (b : Int) ≤ (l : Int) := by omega
              have dnl : decide ((b : Int) ≤ (l : Int)) = false := by simp; omega
              have dnn : decide (b ≤ l) = false := by simp; omega
              have hnn : ¬ b ≤ l := by omega
              clear heq hlt2 hpn
              go_wp2_with fail
              go_big_quiet (fail)
              go_wp2_with fail
              refine (vend_any v mp ma S1 b _ (HV3.out.drewN _)).mono ?_
              rw [HE.out.2.2.1, HE.out.2.2.2.1, HE.out.2.2.2.2]
              rintro e w4 ⟨rfl, hv, hu⟩
              have HV4 := Lib.hid hv
              have HP4 : Hid (RowAt w4 pb 29 64 (fun j => .int .i64 (P j))) := Lib.hid ((HP3.out.drewN _).kept hu HNB.out.1)
              have HF4 : Hid (RowAt w4 fb 30 64 (fun j => .bool (G j))) := Lib.hid ((HF3.out.drewN _).kept hu HNB.out.2)
              have B4 : Hid (Below w.heap.size w w4) := Lib.hid (upd_below (below_drewN B3.out _) hu HZ.out)
              clear hv hu HV3 HP3 HF3 B3
              have gc : w4.cell? ⟨fb, b, none⟩ = some (.bool (G b)) := HF4.out.cell b (by omega)
              go_wp2_with fail
              go_roundw
              case rel => exact ⟨i + 1, S2, (b : Int), by omega, by go_num, rfl, HS2.out, HP4.out, HF4.out, HV4.out, B4.out⟩
              case measure => simp [intOf]; omega
            · have deq : (P b == P l) = false := by simpa using heq
              clear hlt2 heq hpn
              go_wp2_with fail
              go_big_quiet (fail)
              go_wp2_with fail
              refine (vend_any v mp ma S1 b _ (HV3.out.drewN _)).mono ?_
              rw [HE.out.2.2.1, HE.out.2.2.2.1, HE.out.2.2.2.2]
              rintro e w4 ⟨rfl, hv, hu⟩
              have HV4 := Lib.hid hv
              have HP4 : Hid (RowAt w4 pb 29 64 (fun j => .int .i64 (P j))) := Lib.hid ((HP3.out.drewN _).kept hu HNB.out.1)
              have HF4 : Hid (RowAt w4 fb 30 64 (fun j => .bool (G j))) := Lib.hid ((HF3.out.drewN _).kept hu HNB.out.2)
              have B4 : Hid (Below w.heap.size w w4) := Lib.hid (upd_below (below_drewN B3.out _) hu HZ.out)
              clear hv hu HV3 HP3 HF3 B3
              have gc : w4.cell? ⟨fb, b, none⟩ = some (.bool (G b)) := HF4.out.cell b (by omega)
              go_wp2_with fail
              go_roundw
              case rel => exact ⟨i + 1, S2, (b : Int), by omega, by go_num, rfl, HS2.out, HP4.out, HF4.out, HV4.out, B4.out⟩
              case measure => simp [intOf]; omega
        · obtain rfl : i = k := by omega
          have ha := SV.done (by rw [show i - i = 0 by omega] at hsv; exact hsv)
          have di : decide ((i : Int) < (i : Int)) = false := by simp
          clear hsv
          go_wp2_with fail
          refine (vack_any v mp ma S _ HV.out).mono ?_
          rw [ha]
          rintro e w3 ⟨rfl, hv, hu⟩
          have B3 := Lib.hid (upd_below HB.out hu HZ.out)
          clear hv hu ha
          go_wp2_with fail
          go_ret
          go_light
          exact ⟨rfl, B3.out⟩
end Go.Proofs.Ytnebjbjdgfaooaa
