/- The contract of Vgic.Next: the most urgent one that may be heard; no condition. -/
import Derived.Test.YtnebjbjdgfaooaaVgB
import Derived.Deep.RegionHeld3
namespace Go.Proofs.Ytnebjbjdgfaooaa
open Go.RowKit Go.Maps
set_option maxRecDepth 100000
def mnV (S : Vm) : Int := if runM S.ac 64 < S.mask then runM S.ac 64 else S.mask
def cand (S : Vm) (i : Nat) (p : Int) : Prop := S.ac i = none ∧ (∃ l, S.pe i = some (p, l)) ∧ S.off i = false ∧ p < mnV S
def bestV (S : Vm) : Nat → Option (Nat × Int)
  | 0 => none
  | k + 1 =>
    match S.ac k, S.pe k with
    | none, some y => if S.off k = false ∧ y.1 < mnV S then (match bestV S k with | none => some (k, y.1) | some b => if y.1 < b.2 then some (k, y.1) else some b) else bestV S k
    | _, _ => bestV S k
theorem best_spec (S : Vm) (k : Nat) : (bestV S k = none ∧ ∀ i, i < k → ∀ p, ¬ cand S i p) ∨ ∃ b q, bestV S k = some (b, q) ∧ b < k ∧ cand S b q ∧ ∀ i, i < k → ∀ p, cand S i p → q < p ∨ (q = p ∧ b ≤ i) := by
  induction k with
  | zero => exact Or.inl ⟨rfl, fun i hi => by omega⟩
  | succ k ih =>
    have keep : (∀ p, ¬ cand S k p) → bestV S (k + 1) = bestV S k → (bestV S (k + 1) = none ∧ ∀ i, i < k + 1 → ∀ p, ¬ cand S i p) ∨ ∃ b q, bestV S (k + 1) = some (b, q) ∧ b < k + 1 ∧ cand S b q ∧ ∀ i, i < k + 1 → ∀ p, cand S i p → q < p ∨ (q = p ∧ b ≤ i) := by
      intro hno e
      rw [e]
      rcases ih with ⟨h1, h2⟩ | ⟨b, q, h1, h2, h3, h4⟩
      · refine Or.inl ⟨h1, fun i hi p hc => ?_⟩
        by_cases hk : i = k
        · subst hk; exact hno p hc
        · exact h2 i (by omega) p hc
      · refine Or.inr ⟨b, q, h1, by omega, h3, fun i hi p hc => ?_⟩
        by_cases hk : i = k
        · subst hk; exact absurd hc (hno p)
        · exact h4 i (by omega) p hc
    cases hac : S.ac k with
    | some z => exact keep (fun p hc => by rw [hc.1] at hac; cases hac) (by simp only [bestV, hac])
    | none =>
      cases hpe : S.pe k with
      | none => exact keep (fun p hc => by obtain ⟨l, e⟩ := hc.2.1; rw [e] at hpe; cases hpe) (by simp only [bestV, hac, hpe])
      | some y =>
        by_cases ho : S.off k = false ∧ y.1 < mnV S
        · have hc : cand S k y.1 := ⟨hac, ⟨y.2, by rw [hpe]⟩, ho.1, ho.2⟩
          have hu : ∀ p, cand S k p → p = y.1 := fun p h => by obtain ⟨l, e⟩ := h.2.1; rw [hpe] at e; cases e; rfl
          rcases ih with ⟨h1, h2⟩ | ⟨b, q, h1, h2, h3, h4⟩
          · refine Or.inr ⟨k, y.1, by simp only [bestV, hac, hpe, if_pos ho, h1], by omega, hc, fun i hi p hp => ?_⟩
            by_cases hk : i = k
            · subst hk; rw [hu p hp]; exact Or.inr ⟨rfl, Nat.le_refl _⟩
            · exact absurd hp (h2 i (by omega) p)
          · by_cases hlt : y.1 < q
            · refine Or.inr ⟨k, y.1, by simp only [bestV, hac, hpe, if_pos ho, h1, if_pos hlt], by omega, hc, fun i hi p hp => ?_⟩
              by_cases hk : i = k
              · subst hk; rw [hu p hp]; exact Or.inr ⟨rfl, Nat.le_refl _⟩
              · have := h4 i (by omega) p hp
                exact Or.inl (by omega)
            · refine Or.inr ⟨b, q, by simp only [bestV, hac, hpe, if_pos ho, h1, if_neg hlt], by omega, h3, fun i hi p hp => ?_⟩
              by_cases hk : i = k
              · subst hk; rw [hu p hp]; omega
              · exact h4 i (by omega) p hp
        · exact keep (fun p hc => ho ⟨hc.2.2.1, by obtain ⟨l, e⟩ := hc.2.1; rw [hpe] at e; cases e; exact hc.2.2.2⟩) (by simp only [bestV, hac, hpe, if_neg ho])
def nextV (S : Vm) : Int × Bool := match bestV S 64 with | none => (0, false) | some b => ((b.1 : Int), true)
/-- May this record's interrupt be heard? -/
def such (S : Vm) (x : LrE) : Prop := x.ac = false ∧ S.off x.id.toNat = false ∧ x.pr < mnV S
theorem such_cand {S : Vm} {i : Nat} {x : LrE} (h : lrOf S.pe S.ac i = some x) : such S x ↔ cand S i x.pr := by
  unfold lrOf at h
  cases hac : S.ac i with
  | some y =>
    rw [hac] at h
    cases h
    constructor
    · rintro ⟨h, _⟩; cases h
    · rintro ⟨h, _⟩; rw [hac] at h; cases h
  | none =>
    rw [hac] at h
    cases hpe : S.pe i with
    | none => rw [hpe] at h; cases h
    | some y =>
      rw [hpe] at h
      cases h
      simp only [such, cand, hac, hpe, Int.toNat_natCast, true_and]
      constructor
      · rintro ⟨h1, h2⟩; exact ⟨⟨y.2, rfl⟩, h1, h2⟩
      · rintro ⟨_, h1, h2⟩; exact ⟨h1, h2⟩
theorem cand_lr {S : Vm} {i : Nat} {p : Int} (h : cand S i p) : ∃ l, lrOf S.pe S.ac i = some ⟨i, p, l, true, false⟩ := by
  obtain ⟨h1, ⟨l, h2⟩, _⟩ := h
  exact ⟨l, by simp only [lrOf, h1, h2]⟩
theorem next_none {S : Vm} {n : Nat} {g : Nat → LrE} (h : IsAll S.pe S.ac n g) (hn : ∀ j, j < n → ¬ such S (g j)) : nextV S = (0, false) := by
  unfold nextV
  rcases best_spec S 64 with ⟨e, _⟩ | ⟨b, q, e, hb, hc, _⟩
  · rw [e]
  · exfalso
    obtain ⟨l, hx⟩ := cand_lr hc
    obtain ⟨j, hj, ej⟩ := h.has hb hx
    exact hn j hj (by rw [ej]; exact (such_cand hx).2 hc)
theorem next_at {S : Vm} {n : Nat} {g : Nat → LrE} (h : IsAll S.pe S.ac n g) {j : Nat} (hj : j < n) (hs : such S (g j)) (hn : ∀ i, i < j → ¬ such S (g i)) : nextV S = ((g j).id, true) := by
  obtain ⟨i, hi, hx⟩ := h.mem hj
  have hc := (such_cand hx).1 hs
  unfold nextV
  rcases best_spec S 64 with ⟨_, hno⟩ | ⟨b, q, e, hb, hcb, hbest⟩
  · exact absurd hc (hno i hi _)
  · rw [e]
    obtain ⟨l, hxb⟩ := cand_lr hcb
    obtain ⟨jb, hjb, ejb⟩ := h.has hb hxb
    have hsb : such S (g jb) := by rw [ejb]; exact (such_cand hxb).2 hcb
    have hw := hbest i hi _ hc
    rcases (by omega : jb < j ∨ jb = j ∨ j < jb) with c | c | c
    · exact absurd hsb (hn jb c)
    · rw [← c, ejb]
    · exfalso
      have hl := h.2.1 j jb (Nat.zero_le _) c hjb
      rw [ejb] at hl
      have hid := lrOf_id hx
      have hac := hs.1
      rcases hl with hl | ⟨hl, hid2⟩
      · simp only [klt, hac, if_true, decide_eq_true_eq] at hl
        omega
      · simp only [klt, hac, if_true, decide_eq_false_iff_not] at hl
        rw [hid] at hid2
        simp only at hid2
        omega
theorem vrunning_kept (v mp ma : Nat) (S : Vm) (w : World) (h : VgAt w v mp ma S) :
    Calls Try.prog 56 #[.pointer (some ⟨v, 0, none⟩)] w fun e w' => e = .returned (.int .i64 (runM S.ac 64)) ∧ VgAt w' v mp ma S ∧ w'.cell? ⟨v, 1, none⟩ = some (.int .i64 S.mask) ∧ Below w.heap.size w w' := by
  refine (vrunning_any v mp ma S w h).mono ?_
  rintro e w' ⟨he, hb⟩
  have hv := h.below hb
  exact ⟨he, hv, hv.mask, hb⟩
set_option maxHeartbeats 4000000 in
theorem vnext_any (v mp ma : Nat) (S : Vm) (w : World) (h : VgAt w v mp ma S) :
    Calls Try.prog 24 #[.pointer (some ⟨v, 0, none⟩)] w fun e w' => e = .returned (.tuple #[.int .i64 (nextV S).1, .bool (nextV S).2]) ∧ Below w.heap.size w w' := by
  have z0 := h.lt
  have H := Lib.hid h; clear h
  have cm := H.out.mask
  go_enter Try.func24, Try.ntmps24
  go_wp2_with fail
  go_region_held3 (fun w' => w'.cell? ⟨v, 1, none⟩ = some (.int .i64 S.mask)) (go_keep)
    (first | (go_at_call 56; refine (vrunning_kept v mp ma S _ (by exact H.out.drew)).mono ?_; rintro e w1 ⟨rfl, hv, cm1, hb⟩))
  rw [show (if runM S.ac 64 < S.mask then runM S.ac 64 else S.mask) = mnV S from rfl]
  obtain ⟨mn, hmn⟩ : ∃ m, mnV S = m := ⟨_, rfl⟩
  rw [hmn]
  have HM := Lib.hid hmn; clear hmn
  have HV := Lib.hid hv; clear hv cm1 cm
  have HB0 : Hid (Below w.heap.size w w1) := ⟨hb.os, hb.tape, hb.output, hb.size, hb.block⟩
  clear hb
  go_wp2_with fail
  refine (all_any v mp ma S _ HV.out).mono ?_
  rintro e w2 ⟨⟨sl, n, g, rfl, hall, hsl⟩, hb2⟩
  have HA := Lib.hid hall
  have hn64 : n ≤ 64 := by rw [hall.1]; exact preL_len _ _ _
  have HV2 := Lib.hid (HV.out.below hb2)
  have HB2 := Lib.hid (HB0.out.trans (hb2.mono HB0.out.size))
  have zq := HB0.out.size
  clear hall hb2 HV HB0
  rcases hsl with ⟨rfl, rfl⟩ | ⟨q, cap, M, rfl, hnc, hq, hlr⟩
  · have he := next_none HA.out (fun j hj => by omega)
    go_wp2_with fail
    go_loopw [6, 17] (fun v6 v17 wr => v17 = .int .i64 0 ∧ Below w.heap.size w wr) (fun _ _ _ => 0)
    case atStart => exact ⟨rfl, HB2.out⟩
    case round =>
      clear HB2
      obtain ⟨rfl, hb⟩ := hrel
      have HB := Lib.hid hb; clear hb
      go_wp2_with fail
      go_ret2
      rw [he]
      exact ⟨rfl, HB.out⟩
  · have HL2 := Lib.hid hlr; clear hlr
    go_wp2_with fail
    go_loopw [6, 17] (fun v6 v17 wr => ∃ j : Nat, j ≤ n ∧ v17 = .int .i64 j ∧ LrAt wr q M n g ∧ VgAt wr v mp ma S ∧ Below w.heap.size w wr ∧ ∀ i, i < j → ¬ such S (g i)) (fun _ v17 _ => n - (intOf v17).toNat)
    case atStart => exact ⟨0, by omega, rfl, HL2.out, HV2.out, HB2.out, fun i hi => by omega⟩
    case round =>
      clear HL2 HV2 HB2
      obtain ⟨j, hjn, rfl, hl, hv, hb, hno⟩ := hrel
      have HL := Lib.hid hl; have HV := Lib.hid hv; have HB := Lib.hid hb; have HN := Lib.hid hno; clear hl hv hb hno
      by_cases hlt : j < n
      · have hd : decide ((j : Int) < (n : Int)) = true := by simp; omega
        have hji : (j : Int) < (n : Int) := by omega
        obtain ⟨i, hi, hx⟩ := HA.out.mem hlt
        have hid := lrOf_id hx
        have HX := Lib.hid hx; clear hx
        have y0 : v < wr.heap.size := by have := HB.out.size; omega
        have y1 : v < wr.heap.size + 1 := by omega
        obtain ⟨c0, c1, c2, c3, c4⟩ := HL.out.cells j hlt
        rw [hid] at c0
        have co := HV.out.off i hi
        have hii : (i : Int) < 64 := by omega
        cases hac : (g j).ac
        · rw [hac] at c4
          cases hof : S.off i
          · rw [hof] at co
            by_cases hpr : (g j).pr < mn
            · have dp : decide ((g j).pr < mn) = true := by simpa using hpr
              have he := next_at HA.out hlt ⟨hac, by rw [hid, Int.toNat_natCast]; exact hof, by rw [HM.out]; exact hpr⟩ HN.out
              rw [hid] at he
              have HE := Lib.hid he; clear he
              go_wp2_with fail
              go_quiet (fail)
              go_wp2_with fail
              go_ret2
              rw [HE.out]
              exact ⟨rfl, below_drewN (HB.out.alloc HB.out.size _) _⟩
            · have dp : decide ((g j).pr < mn) = false := by simpa using hpr
              have hs : ¬ such S (g j) := fun h => hpr (by rw [← HM.out]; exact h.2.2)
              have HN2 : Hid (∀ i, i < j + 1 → ¬ such S (g i)) := Lib.hid (fun i' h0 => if e : i' = j then (by rw [e]; exact hs) else HN.out i' (by omega))
              go_wp2_with fail
              go_quiet (fail)
              go_wp2_with fail
              go_roundw
              case rel => exact ⟨j + 1, by omega, by go_num, (HL.out.alloc _).drewN _, (HV.out.alloc _).drewN _, below_drewN (HB.out.alloc HB.out.size _) _, HN2.out⟩
              case measure => simp [intOf]; omega
          · rw [hof] at co
            have hs : ¬ such S (g j) := fun h => by have := h.2.1; rw [hid, Int.toNat_natCast, hof] at this; cases this
            have HN2 : Hid (∀ i, i < j + 1 → ¬ such S (g i)) := Lib.hid (fun i' h0 => if e : i' = j then (by rw [e]; exact hs) else HN.out i' (by omega))
            go_wp2_with fail
            go_quiet (fail)
            go_wp2_with fail
            go_roundw
            case rel => exact ⟨j + 1, by omega, by go_num, (HL.out.alloc _).drewN _, (HV.out.alloc _).drewN _, below_drewN (HB.out.alloc HB.out.size _) _, HN2.out⟩
            case measure => simp [intOf]; omega
        · rw [hac] at c4
          have hs : ¬ such S (g j) := fun h => by have := h.1; rw [hac] at this; cases this
          have HN2 : Hid (∀ i, i < j + 1 → ¬ such S (g i)) := Lib.hid (fun i' h0 => if e : i' = j then (by rw [e]; exact hs) else HN.out i' (by omega))
          go_wp2_with fail
          go_quiet (fail)
          go_wp2_with fail
          go_roundw
          case rel => exact ⟨j + 1, by omega, by go_num, (HL.out.alloc _).drewN _, (HV.out.alloc _).drewN _, below_drewN (HB.out.alloc HB.out.size _) _, HN2.out⟩
          case measure => simp [intOf]; omega
      · obtain rfl : j = n := by omega
        have he := next_none HA.out HN.out
        have HE := Lib.hid he; clear he
        go_wp2_with fail
        go_ret2
        rw [HE.out]
        exact ⟨rfl, HB.out⟩
end Go.Proofs.Ytnebjbjdgfaooaa
