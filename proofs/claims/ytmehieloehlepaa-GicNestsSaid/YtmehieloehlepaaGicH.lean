/- The contracts of the reference's Is, Running and heard. Condition: the block is a reference controller's. -/
import Derived.Test.YtmehieloehlepaaGicA
namespace Go.Proofs.Ytmehieloehlepaa
open Go.RowKit
set_option maxRecDepth 100000

def isB (n : Int) : Bool := decide (0 ≤ n ∧ n < 32)
theorem is_any (n : Int) (w : World) : Calls Try.prog 29 #[.int .i64 n] w fun e w' => e = .returned (.bool (isB n)) ∧ w = w' := by
  go_enter Try.func29, Try.ntmps29
  go_wp2
  all_goals
    go_ret
    go_light
    refine ⟨congrArg (fun x => Ending.returned (Value.bool x)) ?_, rfl⟩
    simp only [isB]
    first | (simp [*]; done) | (simp; omega)

set_option maxHeartbeats 2000000 in
theorem rrunning_any (b : Nat) (G : Gm) (w : World) (h : RefAt w b G) :
    Calls Try.prog 34 #[.pointer (some ⟨b, 0, none⟩)] w fun e w' => e = .returned (.int .i64 (runF G 32)) ∧ w = w' := by
  have H := Lib.hid h; clear h
  go_enter Try.func34, Try.ntmps34
  go_wp2
  go_loop [3, 4] (fun v3 v4 => ∃ k : Nat, k ≤ 32 ∧ v4 = .int .i64 k ∧ v3 = .int .i64 (runF G k)) (fun _ v4 => 32 - (intOf v4).toNat)
  case atStart => exact ⟨0, by omega, rfl, rfl⟩
  case round =>
    obtain ⟨k, hk, rfl, rfl⟩ := hrel
    by_cases hlt : k < 32
    · have ca := RowAt.cell H.out (96 + k) (by omega)
      have cs := RowAt.cell H.out (128 + k) (by omega)
      rw [rcell_ac G k hlt] at ca
      rw [rcell_sv G k hlt] at cs
      cases ha : G.ac k
      · rw [ha] at ca
        go_wp2
        go_round
        case rel => exact ⟨k + 1, by omega, by go_num, by simp [runF, ha]⟩
        case measure => simp [intOf]; omega
      · rw [ha] at ca
        by_cases hl : G.sv k < runF G k
        · go_wp2
          go_round
          case rel => exact ⟨k + 1, by omega, by go_num, by simp [runF, ha, hl]⟩
          case measure => simp [intOf]; omega
        · go_wp2
          go_round
          case rel => exact ⟨k + 1, by omega, by go_num, by simp [runF, ha, hl]⟩
          case measure => simp [intOf]; omega
    · go_wp2
      go_ret
      go_light
      obtain rfl : k = 32 := by omega
      exact ⟨rfl, rfl⟩

/-- May line i be acknowledged? -/
def heardB (G : Gm) (i : Nat) : Bool := G.en i && G.pe i && !G.ac i && decide (G.pr i < G.mask) && decide (G.pr i < runF G 32)
theorem heardB_iff (G : Gm) (i : Nat) : heardB G i = true ↔ Cand G (bar G) i := by
  simp only [heardB, Cand, lt_bar, Bool.and_eq_true, Bool.not_eq_true', decide_eq_true_eq]
  constructor
  · rintro ⟨⟨⟨⟨a, b⟩, c⟩, d⟩, e⟩; exact ⟨a, b, c, d, e⟩
  · rintro ⟨a, b, c, d, e⟩; exact ⟨⟨⟨⟨a, b⟩, c⟩, d⟩, e⟩

set_option maxHeartbeats 4000000 in
theorem heard_any (b : Nat) (G : Gm) (w : World) (h : RefAt w b G) (i : Nat) (hi : i < 32) :
    Calls Try.prog 36 #[.pointer (some ⟨b, 0, none⟩), .int .i64 i] w fun e w' => e = .returned (.bool (heardB G i)) ∧ ∃ n, w' = w.drewN n := by
  have H := Lib.hid h; clear h
  have cp := RowAt.cell H.out i (by omega)
  have ce := RowAt.cell H.out (32 + i) (by omega)
  have cq := RowAt.cell H.out (64 + i) (by omega)
  have ca := RowAt.cell H.out (96 + i) (by omega)
  have cm := RowAt.cell H.out 160 (by omega)
  rw [rcell_pr G i hi] at cp
  rw [rcell_en G i hi] at ce
  rw [rcell_pe G i hi] at cq
  rw [rcell_ac G i hi] at ca
  rw [rcell_mask G] at cm
  cases he : G.en i
  · rw [he] at ce
    have hh : heardB G i = false := by simp [heardB, he]
    have HH := Lib.hid hh; clear hh
    go_enter Try.func36, Try.ntmps36
    go_wp2_with (go_at_call 34; refine (rrunning_any b G _ (by exact H.out)).mono ?_; rintro e w1 ⟨rfl, rfl⟩)
    go_quiet (fail)
    go_wp2
    go_ret
    go_light
    exact ⟨by rw [HH.out]; rfl, _, rfl⟩
  rw [he] at ce
  cases hp : G.pe i
  · rw [hp] at cq
    have hh : heardB G i = false := by simp [heardB, hp]
    have HH := Lib.hid hh; clear hh
    go_enter Try.func36, Try.ntmps36
    go_wp2_with (go_at_call 34; refine (rrunning_any b G _ (by exact H.out)).mono ?_; rintro e w1 ⟨rfl, rfl⟩)
    go_quiet (fail)
    go_wp2
    go_ret
    go_light
    exact ⟨by rw [HH.out]; rfl, _, rfl⟩
  rw [hp] at cq
  cases ha : G.ac i
  · rw [ha] at ca
    by_cases hm : G.pr i < G.mask
    · by_cases hr : G.pr i < runF G 32
      · have hh : heardB G i = true := by simp [heardB, he, hp, ha, hm, hr]
        have HH := Lib.hid hh; clear hh
        go_enter Try.func36, Try.ntmps36
        go_wp2_with (go_at_call 34; refine (rrunning_any b G _ (by exact H.out)).mono ?_; rintro e w1 ⟨rfl, rfl⟩)
        go_quiet (fail)
        go_wp2
        go_ret
        go_light
        exact ⟨by rw [HH.out]; rfl, _, rfl⟩
      · have hd : decide (G.pr i < runF G 32) = false := by simpa using hr
        have hh : heardB G i = false := by simp [heardB, hd]
        have HH := Lib.hid hh; clear hh
        go_enter Try.func36, Try.ntmps36
        go_wp2_with (go_at_call 34; refine (rrunning_any b G _ (by exact H.out)).mono ?_; rintro e w1 ⟨rfl, rfl⟩)
        go_quiet (fail)
        go_wp2
        go_ret
        go_light
        exact ⟨by rw [HH.out]; rfl, _, rfl⟩
    · have hd : decide (G.pr i < G.mask) = false := by simpa using hm
      have hh : heardB G i = false := by simp [heardB, hd]
      have HH := Lib.hid hh; clear hh
      go_enter Try.func36, Try.ntmps36
      go_wp2_with (go_at_call 34; refine (rrunning_any b G _ (by exact H.out)).mono ?_; rintro e w1 ⟨rfl, rfl⟩)
      go_quiet (fail)
      go_wp2
      go_ret
      go_light
      exact ⟨by rw [HH.out]; rfl, _, rfl⟩
  · rw [ha] at ca
    have hh : heardB G i = false := by simp [heardB, ha]
    have HH := Lib.hid hh; clear hh
    go_enter Try.func36, Try.ntmps36
    go_wp2_with (go_at_call 34; refine (rrunning_any b G _ (by exact H.out)).mono ?_; rintro e w1 ⟨rfl, rfl⟩)
    go_quiet (fail)
    go_wp2
    go_ret
    go_light
    exact ⟨by rw [HH.out]; rfl, _, rfl⟩
end Go.Proofs.Ytmehieloehlepaa
