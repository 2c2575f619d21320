/- The contracts of Vgic.Ack and Vgic.Counts; no condition. -/
import Derived.Test.YtnebjbjdgfaooaaVgN
import Derived.StillTailTactics
namespace Go.Proofs.Ytnebjbjdgfaooaa
open Go.RowKit Go.Maps
set_option maxRecDepth 100000
def ackV (S : Vm) : Vm × Int :=
  match bestV S 64 with
  | none => (S, 1023)
  | some b => ({ S with ac := updM S.ac b.1 (S.pe b.1), pe := updM S.pe b.1 none, ak := wr (S.ak + 1) }, b.1)
theorem get_run {w : World} {b : Nat} {M : Mp} (h : MapAt w b M) {i : Nat} (hi : i < 64) : (Instr.lookup 91 (.map (some b)) (.int .i64 i) false).run Try.prog w = .ok (.agg #[.int .i64 (hP (M i)), .bool (hL (M i))]) w := by
  obtain ⟨D, hown, r⟩ := h
  obtain ⟨v, ps, hrun, hv⟩ := hown.lookup kLaw Try.underlying91 (zeroHow w) (howR_mk 0 false) (kl_key hi)
  rw [look_val r hi hv] at hrun
  exact hrun
set_option maxHeartbeats 2000000 in
theorem vack_any (v mp ma : Nat) (S : Vm) (w : World) (h : VgAt w v mp ma S) :
    Calls Try.prog 17 #[.pointer (some ⟨v, 0, none⟩)] w fun e w' => e = .returned (.int .i64 (ackV S).2) ∧ VgAt w' v mp ma (ackV S).1 ∧ Upd (Vb v mp ma) w w' := by
  have z0 := h.lt
  have H := Lib.hid h; clear h
  rcases best_spec S 64 with ⟨hb, _⟩ | ⟨b, q, hb, hb64, hc, _⟩
  · have hn : nextV S = (0, false) := by unfold nextV; rw [hb]
    have ha : ackV S = (S, 1023) := by unfold ackV; rw [hb]
    rw [ha]
    go_enter Try.func17, Try.ntmps17
    go_wp2_with fail
    refine (vnext_any v mp ma S _ H.out).mono ?_
    rw [hn]
    rintro e w1 ⟨rfl, hb1⟩
    have HF := Lib.hid (And.intro (H.out.below hb1) (Upd.of_below (S := Vb v mp ma) hb1))
    clear hb1
    go_wp2_with fail
    go_ret
    exact ⟨rfl, HF.out⟩
  · obtain ⟨l, hpe⟩ := hc.2.1
    have hn : nextV S = ((b : Int), true) := by unfold nextV; rw [hb]
    have ha : ackV S = ({ S with ac := updM S.ac b (some (q, l)), pe := updM S.pe b none, ak := wr (S.ak + 1) }, (b : Int)) := by unfold ackV; rw [hb]; simp only [hpe]
    rw [ha]
    clear ha hc hb
    go_enter Try.func17, Try.ntmps17
    go_wp2_with fail
    refine (vnext_any v mp ma S _ H.out).mono ?_
    rw [hn]
    rintro e w1 ⟨rfl, hb1⟩
    have HV := Lib.hid (H.out.below hb1)
    have HU := Lib.hid (Upd.of_below (S := Vb v mp ma) hb1)
    have c66 := HV.out.mpc
    have c67 := HV.out.mac
    clear hb1 H hn
    have hlk := get_run HV.out.drew.pe hb64
    rw [hpe] at hlk
    simp only [hP, hL] at hlk
    go_wp2_with fail
    go_still_tail 11, (by kernel_rfl)
    change wpList _ _ _ _ _ w1.drew
    have HV2 := Lib.hid HV.out.drew
    have HU2 := Lib.hid HU.out.drew
    generalize w1.drew = w2 at HV2 HU2 ⊢
    clear c66 c67 HV HU hlk
    have c66 := HV2.out.mpc
    have c67 := HV2.out.mac
    go_wp2_with (first | (at_lookup; refine wpList_get _ rfl _ _ rfl mp S.pe b hb64 rfl HV2.out.pe rfl ?_; rw [hpe]; simp only [hP, hL]) | (at_mapUpdate; refine wpList_put _ rfl _ _ _ rfl ma S.ac b hb64 q l rfl HV2.out.ac rfl rfl ?_; intro w3 hm3 hg3; have HV3 := Lib.hid (HV2.out.set_ac hm3 hg3); have HU3 := Lib.hid (HU2.out.vma hg3); clear hm3 hg3 c66 c67; have c66 := HV3.out.mpc; have hf := HV3.out.frozen) | (at_delete; refine wpList_drop _ rfl _ _ rfl mp S.pe b hb64 rfl HV3.out.pe rfl ?_; intro w4 hm4 hg4; have HV4 := Lib.hid (HV3.out.set_pe hm4 hg4); have HU4 := Lib.hid (HU3.out.vmp hg4); clear hm4 hg4 c66 hf; have c69 := HV4.out.ak; have hf := HV4.out.frozen))
    go_ret
    go_light
    exact ⟨rfl, HV4.out.set_ak _, HU4.out.vrow 69 _⟩
theorem vcounts_any (v mp ma : Nat) (S : Vm) (w : World) (h : VgAt w v mp ma S) :
    Calls Try.prog 28 #[.pointer (some ⟨v, 0, none⟩)] w fun e w' => e = .returned (.tuple #[.int .i64 S.inj, .int .i64 S.ak, .int .i64 S.en]) ∧ ∃ k, w' = w.drewN k := by
  have c0 := h.inj; have c1 := h.ak; have c2 := h.en
  clear h
  go_enter Try.func28, Try.ntmps28
  go_wp2_with fail
  go_quiet (fail)
  go_wp2_with fail
  exact bodyPost_ret (v := .tuple #[.int .i64 S.inj, .int .i64 S.ak, .int .i64 S.en]) (by simp [results, Try.results28, go_sem]) rfl ⟨rfl, _, rfl⟩
end Go.Proofs.Ytnebjbjdgfaooaa
