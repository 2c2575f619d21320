/- The contracts of the reference's Ack, and of what an act means by the document; no condition. -/
import Derived.Test.YtnebjbjdgfaooaaVgQ
import Derived.BigRegion
namespace Go.Proofs.Ytnebjbjdgfaooaa
open Go.RowKit Go.Maps
set_option maxRecDepth 100000
set_option maxHeartbeats 16000000 in
theorem rack_any (b : Nat) (R : Rm) (w : World) (h : RfAt w b R) :
    Calls Try.prog 54 #[.pointer (some ⟨b, 0, none⟩)] w fun e w' => e = .returned (.int .i64 (ackV R.to).2) ∧ (∃ R', RfAt w' b R' ∧ R'.to = (ackV R.to).1) ∧ Upd (Ob b) w w' := by
  have z0 := h.lt
  have H := Lib.hid h; clear h
  rcases best_spec R.to 64 with ⟨hb, _⟩ | ⟨i, q, hb, hi, hc, _⟩
  · have hn : nextV R.to = (0, false) := by unfold nextV; rw [hb]
    have ha : ackV R.to = (R.to, 1023) := by unfold ackV; rw [hb]
    rw [ha]
    go_enter Try.func54, Try.ntmps54
    go_wp2_with fail
    refine (rnext_any b R _ H.out).mono ?_
    rw [hn]
    rintro e w1 ⟨rfl, hb1⟩
    have HF := Lib.hid (And.intro (H.out.below hb1) (Upd.of_below (S := Ob b) hb1))
    clear hb1
    go_wp2_with fail
    go_ret
    exact ⟨rfl, ⟨R, HF.out.1, rfl⟩, HF.out.2⟩
  · have hn : nextV R.to = ((i : Int), true) := by unfold nextV; rw [hb]
    have hp : R.to.pe i = some (R.P i, R.lv i) := pe_yes (cand_R.1 hc).1
    have ha : ackV R.to = ({ R.to with ac := updM R.to.ac i (some (R.P i, R.lv i)), pe := updM R.to.pe i none, ak := wr (R.to.ak + 1) }, (i : Int)) := by unfold ackV; rw [hb]; simp only [hp]
    rw [ha]
    clear ha hp hc hb
    go_enter Try.func54, Try.ntmps54
    go_wp2_with fail
    refine (rnext_any b R _ H.out).mono ?_
    rw [hn]
    rintro e w1 ⟨rfl, hb1⟩
    have HR := Lib.hid (H.out.below hb1)
    have HU := Lib.hid (Upd.of_below (S := Ob b) hb1)
    clear hb1 H hn
    have hf := HR.out.frozen
    have c1 := HR.out.c_pe hi
    have c2 := HR.out.c_ac hi
    have c3 := HR.out.c_P hi
    have c4 := HR.out.c_A hi
    have c5 := HR.out.c_lv hi
    have c6 := HR.out.c_fl hi
    have ck := HR.out.c_ak
    have hi64 : (i : Int) < 64 := by omega
    go_wp2_with fail
    go_region
    go_wp2_with fail
    go_region
    go_wp2_with fail
    go_ret
    go_light
    exact ⟨rfl, ⟨_, ((((HR.out.set_pe hi false).set_ac hi true).set_A hi (R.P i)).set_fl hi (R.lv i)).set_ak _, to_ack (R := R) i _⟩, (((((HU.out.rrow _ _).rrow _ _).rrow _ _).rrow _ _).rrow _ _).drew.drew⟩
end Go.Proofs.Ytnebjbjdgfaooaa
