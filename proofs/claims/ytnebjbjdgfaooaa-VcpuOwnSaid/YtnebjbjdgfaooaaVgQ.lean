/- The contracts of the reference's Running and Next; no condition. -/
import Derived.Test.YtnebjbjdgfaooaaVgP
namespace Go.Proofs.Ytnebjbjdgfaooaa
open Go.RowKit Go.Maps
set_option maxRecDepth 100000
theorem run_no {M : Mp} {k : Nat} (h : M k = none) : runM M (k + 1) = runM M k := by simp only [runM, h]
theorem run_lt {M : Mp} {k : Nat} {y : Int × Bool} (h : M k = some y) (hl : y.1 < runM M k) : runM M (k + 1) = y.1 := by simp only [runM, h, if_pos hl]
theorem run_ge {M : Mp} {k : Nat} {y : Int × Bool} (h : M k = some y) (hl : ¬ y.1 < runM M k) : runM M (k + 1) = runM M k := by simp only [runM, h, if_neg hl]
theorem ac_no {R : Rm} {i : Nat} (h : R.ac i = false) : R.to.ac i = none := by simp [Rm.to, h]
theorem ac_yes {R : Rm} {i : Nat} (h : R.ac i = true) : R.to.ac i = some (R.A i, R.fl i) := by simp [Rm.to, h]
theorem pe_no {R : Rm} {i : Nat} (h : R.pe i = false) : R.to.pe i = none := by simp [Rm.to, h]
theorem pe_yes {R : Rm} {i : Nat} (h : R.pe i = true) : R.to.pe i = some (R.P i, R.lv i) := by simp [Rm.to, h]
set_option maxHeartbeats 4000000 in
theorem rrunning_any (b : Nat) (R : Rm) (w : World) (h : RfAt w b R) :
    Calls Try.prog 57 #[.pointer (some ⟨b, 0, none⟩)] w fun e w' => e = .returned (.int .i64 (runM R.to.ac 64)) ∧ w = w' := by
  have H := Lib.hid h; clear h
  go_enter Try.func57, Try.ntmps57
  go_wp2
  go_loop [3, 4] (fun v3 v4 => ∃ k : Nat, k ≤ 64 ∧ v4 = .int .i64 k ∧ v3 = .int .i64 (runM R.to.ac k)) (fun _ v4 => 64 - (intOf v4).toNat)
  case atStart => exact ⟨0, by omega, rfl, rfl⟩
  case round =>
    obtain ⟨k, hk, rfl, rfl⟩ := hrel
    by_cases hlt : k < 64
    · have ca := H.out.c_ac hlt
      have cs := H.out.c_A hlt
      cases ha : R.ac k
      · rw [ha] at ca
        have e := run_no (ac_no ha)
        obtain ⟨r, hr⟩ : ∃ r, runM R.to.ac k = r := ⟨_, rfl⟩
        rw [hr] at e ⊢
        have HE := Lib.hid e
        clear e hr
        go_wp2
        go_round
        case rel => exact ⟨k + 1, by omega, by go_num, by rw [HE.out]⟩
        case measure => simp [intOf]; omega
      · rw [ha] at ca
        by_cases hl : R.A k < runM R.to.ac k
        · have e := run_lt (ac_yes ha) hl
          obtain ⟨r, hr⟩ : ∃ r, runM R.to.ac k = r := ⟨_, rfl⟩
          rw [hr] at hl ⊢
          have hld : decide (R.A k < r) = true := by simpa using hl
          have HE := Lib.hid e
          clear e hr
          go_wp2
          go_round
          case rel => exact ⟨k + 1, by omega, by go_num, by rw [HE.out]⟩
          case measure => simp [intOf]; omega
        · have e := run_ge (ac_yes ha) hl
          obtain ⟨r, hr⟩ : ∃ r, runM R.to.ac k = r := ⟨_, rfl⟩
          rw [hr] at hl e ⊢
          have hld : decide (R.A k < r) = false := by simpa using hl
          have HE := Lib.hid e
          clear e hr
          go_wp2
          go_round
          case rel => exact ⟨k + 1, by omega, by go_num, by rw [HE.out]⟩
          case measure => simp [intOf]; omega
    · go_wp2
      go_ret
      go_light
      obtain rfl : k = 64 := by omega
      exact ⟨rfl, rfl⟩
theorem best_no {S : Vm} {k : Nat} (h : ∀ p, ¬ cand S k p) : bestV S (k + 1) = bestV S k := by
  simp only [bestV]
  cases hac : S.ac k with
  | some z => rfl
  | none =>
    cases hpe : S.pe k with
    | none => rfl
    | some y =>
      simp only
      rw [if_neg]
      rintro ⟨h1, h2⟩
      exact h y.1 ⟨hac, ⟨y.2, by rw [hpe]⟩, h1, h2⟩
theorem best_yes {S : Vm} {k : Nat} {p : Int} (h : cand S k p) : bestV S (k + 1) = match bestV S k with | none => some (k, p) | some b => if p < b.2 then some (k, p) else some b := by
  obtain ⟨h1, ⟨l, h2⟩, h3, h4⟩ := h
  simp only [bestV, h1, h2]
  rw [if_pos ⟨h3, h4⟩]
  cases bestV S k <;> rfl
theorem cand_R {R : Rm} {i : Nat} {p : Int} : cand R.to i p ↔ R.pe i = true ∧ R.off i = false ∧ R.ac i = false ∧ p = R.P i ∧ R.P i < R.mask ∧ R.P i < runM R.to.ac 64 := by
  have hm : ∀ p, p < mnV R.to ↔ p < runM R.to.ac 64 ∧ p < R.mask := by
    intro p
    unfold mnV
    show (p < if runM R.to.ac 64 < R.mask then runM R.to.ac 64 else R.mask) ↔ _
    split <;> omega
  constructor
  · rintro ⟨h1, ⟨l, h2⟩, h3, h4⟩
    cases ha : R.ac i
    · cases hp : R.pe i
      · rw [pe_no hp] at h2; cases h2
      · rw [pe_yes hp] at h2
        cases h2
        exact ⟨rfl, h3, rfl, rfl, ((hm _).1 h4).2, ((hm _).1 h4).1⟩
    · rw [ac_yes ha] at h1; cases h1
  · rintro ⟨h1, h2, h3, rfl, h5, h6⟩
    exact ⟨ac_no h3, ⟨R.lv i, pe_yes h1⟩, h2, (hm _).2 ⟨h6, h5⟩⟩
def bi (x : Option (Nat × Int)) : Int := match x with | none => -1 | some b => (b.1 : Int)
theorem best_R {R : Rm} {k b : Nat} {q : Int} (h : bestV R.to k = some (b, q)) : b < k ∧ q = R.P b := by
  rcases best_spec R.to k with ⟨e, _⟩ | ⟨b', q', e, hb, hc, _⟩
  · rw [e] at h; cases h
  · rw [e] at h; cases h
    exact ⟨hb, (cand_R.1 hc).2.2.2.1⟩
set_option maxHeartbeats 16000000 in
theorem rnext_any (b : Nat) (R : Rm) (w : World) (h : RfAt w b R) :
    Calls Try.prog 25 #[.pointer (some ⟨b, 0, none⟩)] w fun e w' => e = .returned (.tuple #[.int .i64 (nextV R.to).1, .bool (nextV R.to).2]) ∧ Below w.heap.size w w' := by
  have H := Lib.hid h; clear h
  go_enter Try.func25, Try.ntmps25
  go_wp2_with fail
  refine (rrunning_any b R _ H.out).mono ?_
  rintro e w1 ⟨rfl, rfl⟩
  obtain ⟨r, hr⟩ : ∃ r, runM R.to.ac 64 = r := ⟨_, rfl⟩
  rw [hr]
  have HRN := Lib.hid hr; clear hr
  go_wp2_with fail
  go_loopw [5, 6, 7, 8] (fun v5 v6 _ _ wr => ∃ k : Nat, k ≤ 64 ∧ v6 = .int .i64 k ∧ v5 = .int .i64 (bi (bestV R.to k)) ∧ RfAt wr b R ∧ Below w.heap.size w wr) (fun _ v6 _ _ _ => 64 - (intOf v6).toNat)
  case atStart => exact ⟨0, by omega, rfl, rfl, H.out, Below.refl _ _⟩
  case round =>
    clear H
    obtain ⟨k, hk, rfl, rfl, hv, hb⟩ := hrel
    have HR := Lib.hid hv; have HB := Lib.hid hb; clear hv hb
    by_cases hlt : k < 64
    · have hd : decide ((k : Int) < 64) = true := by simp; omega
      obtain ⟨B, hB⟩ : ∃ B, bestV R.to k = B := ⟨_, rfl⟩
      rw [hB]
      have c0 := HR.out.c_off hlt
      have c1 := HR.out.c_pe hlt
      have c2 := HR.out.c_ac hlt
      have c3 := HR.out.c_P hlt
      have c4 := HR.out.c_A hlt
      have c5 := HR.out.c_lv hlt
      have c6 := HR.out.c_fl hlt
      have cm := HR.out.c_mask
      have bl := HR.out.lt
      have bl1 : b < wr.heap.size + 1 := by omega
      cases h1 : R.pe k
      · rw [h1] at c1
        have HNO : Hid (bestV R.to (k + 1) = B) := Lib.hid (by rw [← hB]; exact best_no (fun p hc => by have := cand_R.1 hc; rw [h1] at this; cases this.1))
        clear hB
        go_wp2_with fail
        go_big_quiet (fail)
        go_wp2_with fail
        go_big_quiet (fail)
        go_wp2_with fail
        go_roundw
        case rel => exact ⟨k + 1, by omega, by go_num, by rw [HNO.out], (HR.out.alloc _), below_drewN (HB.out.alloc HB.out.size _) _⟩
        case measure => simp [intOf]; omega
      · rw [h1] at c1
        cases h0 : R.off k
        · rw [h0] at c0
          cases h2 : R.ac k
          · rw [h2] at c2
            obtain ⟨P, hP⟩ : ∃ P, R.P k = P := ⟨_, rfl⟩
            rw [hP] at c3
            by_cases h3 : P < R.mask
            · have d3 : decide (P < R.mask) = true := by simpa using h3
              by_cases h4 : P < r
              · have d4 : decide (P < r) = true := by simpa using h4
                have hc : cand R.to k P := cand_R.2 ⟨h1, h0, h2, hP.symm, by rw [hP]; exact h3, by rw [hP, HRN.out]; exact h4⟩
                have hy := best_yes hc
                rw [hB] at hy
                clear hc hP
                rcases B with _ | ⟨b0, q⟩
                · have HNO : Hid (bestV R.to (k + 1) = some (k, P)) := Lib.hid hy
                  clear hy hB
                  simp only [bi]
                  go_wp2_with fail
                  go_big_quiet (fail)
                  go_wp2_with fail
                  go_big_quiet (fail)
                  go_wp2_with fail
                  go_roundw
                  case rel => exact ⟨k + 1, by omega, by go_num, by rw [HNO.out], (HR.out.alloc _), below_drewN (HB.out.alloc HB.out.size _) _⟩
                  case measure => simp [intOf]; omega
                · obtain ⟨hb0, rfl⟩ := best_R hB
                  simp only at hy
                  have c7 := HR.out.c_P (i := b0) (by omega)
                  obtain ⟨q, hq⟩ : ∃ q, R.P b0 = q := ⟨_, rfl⟩
                  rw [hq] at c7 hy
                  have db0 : decide ((b0 : Int) < 0) = false := by simp
                  have hb064 : (b0 : Int) < 64 := by omega
                  clear hB hq
                  simp only [bi]
                  by_cases h5 : P < q
                  · have d5 : decide (P < q) = true := by simpa using h5
                    have HNO : Hid (bestV R.to (k + 1) = some (k, P)) := Lib.hid (by rw [hy, if_pos h5])
                    clear hy
                    go_wp2_with fail
                    go_big_quiet (fail)
                    go_wp2_with fail
                    go_big_quiet (fail)
                    go_wp2_with fail
                    go_roundw
                    case rel => exact ⟨k + 1, by omega, by go_num, by rw [HNO.out], (HR.out.alloc _), below_drewN (HB.out.alloc HB.out.size _) _⟩
                    case measure => simp [intOf]; omega
                  · have d5 : decide (P < q) = false := by simpa using h5
                    have HNO : Hid (bestV R.to (k + 1) = some (b0, q)) := Lib.hid (by rw [hy, if_neg h5])
                    clear hy
                    go_wp2_with fail
                    go_big_quiet (fail)
                    go_wp2_with fail
                    go_big_quiet (fail)
                    go_wp2_with fail
                    go_roundw
                    case rel => exact ⟨k + 1, by omega, by go_num, by rw [HNO.out], (HR.out.alloc _), below_drewN (HB.out.alloc HB.out.size _) _⟩
                    case measure => simp [intOf]; omega
              · have d4 : decide (P < r) = false := by simpa using h4
                have HNO : Hid (bestV R.to (k + 1) = B) := Lib.hid (by rw [← hB]; exact best_no (fun p hc => by have := cand_R.1 hc; rw [hP, HRN.out] at this; exact h4 this.2.2.2.2.2))
                clear hB hP
                go_wp2_with fail
                go_big_quiet (fail)
                go_wp2_with fail
                go_big_quiet (fail)
                go_wp2_with fail
                go_roundw
                case rel => exact ⟨k + 1, by omega, by go_num, by rw [HNO.out], (HR.out.alloc _), below_drewN (HB.out.alloc HB.out.size _) _⟩
                case measure => simp [intOf]; omega
            · have d3 : decide (P < R.mask) = false := by simpa using h3
              have HNO : Hid (bestV R.to (k + 1) = B) := Lib.hid (by rw [← hB]; exact best_no (fun p hc => by have := cand_R.1 hc; rw [hP] at this; exact h3 this.2.2.2.2.1))
              clear hB hP
              go_wp2_with fail
              go_big_quiet (fail)
              go_wp2_with fail
              go_big_quiet (fail)
              go_wp2_with fail
              go_roundw
              case rel => exact ⟨k + 1, by omega, by go_num, by rw [HNO.out], (HR.out.alloc _), below_drewN (HB.out.alloc HB.out.size _) _⟩
              case measure => simp [intOf]; omega
          · rw [h2] at c2
            have HNO : Hid (bestV R.to (k + 1) = B) := Lib.hid (by rw [← hB]; exact best_no (fun p hc => by have := cand_R.1 hc; rw [h2] at this; cases this.2.2.1))
            clear hB
            go_wp2_with fail
            go_big_quiet (fail)
            go_wp2_with fail
            go_big_quiet (fail)
            go_wp2_with fail
            go_roundw
            case rel => exact ⟨k + 1, by omega, by go_num, by rw [HNO.out], (HR.out.alloc _), below_drewN (HB.out.alloc HB.out.size _) _⟩
            case measure => simp [intOf]; omega
        · rw [h0] at c0
          have HNO : Hid (bestV R.to (k + 1) = B) := Lib.hid (by rw [← hB]; exact best_no (fun p hc => by have := cand_R.1 hc; rw [h0] at this; cases this.2.1))
          clear hB
          go_wp2_with fail
          go_big_quiet (fail)
          go_wp2_with fail
          go_big_quiet (fail)
          go_wp2_with fail
          go_roundw
          case rel => exact ⟨k + 1, by omega, by go_num, by rw [HNO.out], (HR.out.alloc _), below_drewN (HB.out.alloc HB.out.size _) _⟩
          case measure => simp [intOf]; omega
    · obtain rfl : k = 64 := by omega
      rcases hB : bestV R.to 64 with _ | ⟨b0, q⟩
      · have HNX : Hid (nextV R.to = (0, false)) := Lib.hid (by unfold nextV; rw [hB])
        clear hB
        simp only [bi]
        go_wp2_with fail
        go_ret2
        go_light
        rw [HNX.out]
        exact ⟨rfl, HB.out⟩
      · have HNX : Hid (nextV R.to = ((b0 : Int), true)) := Lib.hid (by unfold nextV; rw [hB])
        clear hB
        simp only [bi]
        have db0 : decide ((b0 : Int) < 0) = false := by simp
        go_wp2_with fail
        go_ret2
        go_light
        rw [HNX.out]
        exact ⟨rfl, HB.out⟩
end Go.Proofs.Ytnebjbjdgfaooaa
