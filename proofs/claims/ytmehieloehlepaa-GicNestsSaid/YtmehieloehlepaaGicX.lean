/- The contracts of the reference's Next, Ack and End. Condition: the block is a reference controller's; its priorities are 0 to 255. -/
import Derived.Test.YtmehieloehlepaaGicH
namespace Go.Proofs.Ytmehieloehlepaa
open Go.RowKit
set_option maxRecDepth 100000

def RNextPost (G : Gm) (w : World) (e : Ending) (w' : World) : Prop :=
  ((∃ j : Nat, First G (bar G) 32 j ∧ e = .returned (.tuple #[.int .i64 j, .bool true])) ∨ ((∀ i, i < 32 → ¬ Cand G (bar G) i) ∧ e = .returned (.tuple #[.int .i64 0, .bool false]))) ∧ ∃ n, w' = w.drewN n
/-- No line of the first k is a candidate of the priority p. -/
def Skip (G : Gm) (p k : Nat) : Prop := ∀ i, i < k → Cand G (bar G) i → G.pr i ≠ p
/-- No candidate is more urgent than p. -/
def Low (G : Gm) (p : Nat) : Prop := ∀ i, i < 32 → Cand G (bar G) i → (p : Int) ≤ G.pr i

set_option maxHeartbeats 4000000 in
theorem rnext_any (b : Nat) (G : Gm) (w : World) (h : RefAt w b G) (hb : ∀ i, i < 32 → 0 ≤ G.pr i ∧ G.pr i < 256) :
    Calls Try.prog 33 #[.pointer (some ⟨b, 0, none⟩)] w (RNextPost G w) := by
  have H := Lib.hid h; clear h
  have HB := Lib.hid hb; clear hb
  go_enter Try.func33, Try.ntmps33
  go_wp2
  go_loopw [2, 3, 4, 5, 6] (fun v2 v3 v4 v5 v6 wr => ∃ p n : Nat, p ≤ 256 ∧ v4 = .int .i64 p ∧ Low G p ∧ wr = w.drewN n) (fun _ _ v4 _ _ _ => 256 - (intOf v4).toNat)
  case atStart => exact ⟨0, 0, by omega, rfl, fun i hi _ => (HB.out i hi).1, rfl⟩
  case round =>
    obtain ⟨p, n, hp, rfl, hlow, rfl⟩ := hrel
    have HL := Lib.hid hlow; clear hlow
    by_cases hlt : p < 256
    · have hdp : decide ((p : Int) < 256) = true := by simp; omega
      go_wp2
      go_loopw [2, 3, 5, 6] (fun v2 v3 v5 v6 wr => ∃ i m : Nat, i ≤ 32 ∧ v5 = .int .i64 i ∧ Skip G p i ∧ wr = w.drewN m) (fun _ _ v5 _ _ => 32 - (intOf v5).toNat)
      case atStart => exact ⟨0, n, by omega, rfl, fun i hi => by omega, rfl⟩
      case round =>
        obtain ⟨i, m, hi, rfl, hskip, rfl⟩ := hrel
        have HS := Lib.hid hskip; clear hskip
        by_cases hlt2 : i < 32
        · have cp := RowAt.cell H.out i (by omega)
          rw [rcell_pr G i hlt2] at cp
          by_cases hpi : G.pr i = (p : Int)
          · have hpb : (G.pr i == (p : Int)) = true := by simp [hpi]
            have HP := Lib.hid hpi; clear hpi
            cases hh : heardB G i
            · have HH := Lib.hid hh; clear hh
              go_wp2_with (go_at_call 36; refine (heard_any b G _ (by exact H.out) i hlt2).mono ?_; rw [HH.out]; rintro e w1 ⟨rfl, q, rfl⟩)
              go_roundw
              case rel => exact ⟨i + 1, m + q, by omega, by go_num, fun j hj hc => by
                by_cases hji : j = i
                · subst hji; rw [← heardB_iff, HH.out] at hc; cases hc
                · exact HS.out j (by omega) hc, rfl⟩
              case measure => simp [intOf]; omega
            · have HH := Lib.hid hh; clear hh
              go_wp2_with (go_at_call 36; refine (heard_any b G _ (by exact H.out) i hlt2).mono ?_; rw [HH.out]; rintro e w1 ⟨rfl, q, rfl⟩)
              go_ret2
              go_light
              refine ⟨.inl ⟨i, ⟨hlt2, (heardB_iff G i).1 HH.out, fun j hj hc => ?_⟩, rfl⟩, _, rfl⟩
              have h1 := HL.out j hj hc
              have h2 := HP.out
              by_cases hji : j < i
              · have := HS.out j hji hc; omega
              · omega
          · have hpb : (G.pr i == (p : Int)) = false := by simp [hpi]
            have HP := Lib.hid hpi; clear hpi
            go_wp2
            go_roundw
            case rel => exact ⟨i + 1, m, by omega, by go_num, fun j hj hc => by
                by_cases hji : j = i
                · subst hji; exact HP.out
                · exact HS.out j (by omega) hc, rfl⟩
            case measure => simp [intOf]; omega
        · go_wp2
          go_roundw
          case rel => exact ⟨p + 1, m, by omega, by go_num, fun j hj hc => by
                have h1 := HL.out j hj hc
                have h2 := HS.out j (by omega) hc
                omega, rfl⟩
          case measure => simp [intOf]; omega
    · go_wp2
      go_ret2
      go_light
      exact ⟨.inr ⟨fun i hi hc => by have h1 := HL.out i hi hc; have h2 := HB.out i hi; omega, rfl⟩, n, rfl⟩
end Go.Proofs.Ytmehieloehlepaa
