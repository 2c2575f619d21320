/- Plain laws for VgicOnce: the books of injections, acknowledgements and ends; marks of the list of all. -/
import Derived.Test.YtnebjbjdgfaooaaVgS
namespace Go.Proofs.Ytnebjbjdgfaooaa
open Go.RowKit Go.Maps
set_option maxRecDepth 100000

def b01 (x : Option (Int × Bool)) : Int := if x.isSome = true then 1 else 0
/-- The books: what was injected is pending or was acknowledged; what was acknowledged is active or has ended. -/
structure OV (S : Vm) (k : Nat) (I A E : Nat → Int) : Prop where
  i1 : ∀ i, i < 64 → I i = A i + b01 (S.pe i)
  i2 : ∀ i, i < 64 → A i = E i + b01 (S.ac i)
  bd : ∀ i, i < 64 → 0 ≤ I i ∧ I i ≤ k ∧ 0 ≤ A i ∧ A i ≤ k ∧ 0 ≤ E i ∧ E i ≤ k
theorem ov0 (L : Int) : OV (V0 L) 0 (fun _ => 0) (fun _ => 0) (fun _ => 0) := ⟨fun i _ => by simp [V0, b01], fun i _ => by simp [V0, b01], fun i _ => by simp⟩
theorem OV.same {S S' : Vm} {k : Nat} {I A E : Nat → Int} (h : OV S k I A E) (hp : S'.pe = S.pe) (ha : S'.ac = S.ac) : OV S' (k + 1) I A E :=
  ⟨fun i hi => by rw [hp]; exact h.i1 i hi, fun i hi => by rw [ha]; exact h.i2 i hi, fun i hi => by have := h.bd i hi; omega⟩
theorem b01_some (y : Int × Bool) : b01 (some y) = 1 := rfl
theorem b01_none : b01 none = 0 := rfl
theorem OV.inj {S : Vm} {k : Nat} {I A E : Nat → Int} (h : OV S k I A E) (id p : Int) (l : Bool) :
    (∃ i : Nat, i < 64 ∧ id = (i : Int) ∧ (injV S id p l).2 = 0 ∧ OV (injV S id p l).1 (k + 1) (setP I i (I i + 1)) A E) ∨ ((injV S id p l).2 ≠ 0 ∧ OV (injV S id p l).1 (k + 1) I A E) := by
  by_cases hc : 0 ≤ id ∧ id < 64 ∧ 0 ≤ p ∧ p < 256
  · obtain ⟨i, rfl⟩ := Int.eq_ofNat_of_zero_le hc.1
    have hi : i < 64 := by omega
    cases hs : S.pe i with
    | some y =>
      have e : injV S i p l = (S, 80) := by unfold injV; rw [if_pos hc, Int.toNat_natCast, hs]; rfl
      rw [e]
      exact Or.inr ⟨by show (80 : Int) ≠ 0; decide, h.same rfl rfl⟩
    | none =>
      have e : injV S i p l = ({ S with pe := updM S.pe i (some (p, l)), inj := wr (S.inj + 1) }, 0) := by unfold injV; rw [if_pos hc, Int.toNat_natCast, hs]; rfl
      rw [e]
      refine Or.inl ⟨i, hi, rfl, rfl, fun j hj => ?_, fun j hj => h.i2 j hj, fun j hj => ?_⟩
      · show setP I i (I i + 1) j = A j + b01 (updM S.pe i (some (p, l)) j)
        have h1 := h.i1 j hj
        by_cases hij : j = i
        · subst hij
          rw [setP_at, updM_same, b01_some]
          rw [hs, b01_none] at h1
          omega
        · rw [updM_other _ _ hij]
          unfold setP
          rw [if_neg hij]
          exact h1
      · have h1 := h.bd j hj
        unfold setP
        split
        · subst_vars; omega
        · omega
  · have e : injV S id p l = (S, 1) := by unfold injV; rw [if_neg hc]
    rw [e]
    exact Or.inr ⟨by show (1 : Int) ≠ 0; decide, h.same rfl rfl⟩
theorem OV.ack {S : Vm} {k : Nat} {I A E : Nat → Int} (h : OV S k I A E) :
    (∃ b : Nat, b < 64 ∧ (ackV S).2 = (b : Int) ∧ OV (ackV S).1 (k + 1) I (setP A b (A b + 1)) E) ∨ ((ackV S).2 = 1023 ∧ OV (ackV S).1 (k + 1) I A E) := by
  rcases best_spec S 64 with ⟨e, _⟩ | ⟨b, q, e, hb, hc, _⟩
  · have ea : ackV S = (S, 1023) := by unfold ackV; rw [e]
    rw [ea]
    exact Or.inr ⟨rfl, h.same rfl rfl⟩
  · obtain ⟨l, hp⟩ := hc.2.1
    have ea : ackV S = ({ S with ac := updM S.ac b (some (q, l)), pe := updM S.pe b none, ak := wr (S.ak + 1) }, (b : Int)) := by unfold ackV; rw [e]; simp only [hp]
    rw [ea]
    refine Or.inl ⟨b, hb, rfl, fun j hj => ?_, fun j hj => ?_, fun j hj => ?_⟩
    · show I j = setP A b (A b + 1) j + b01 (updM S.pe b none j)
      have h1 := h.i1 j hj
      by_cases hij : j = b
      · subst hij
        rw [setP_at, updM_same, b01_none]
        rw [hp, b01_some] at h1
        omega
      · rw [updM_other _ _ hij]
        unfold setP
        rw [if_neg hij]
        exact h1
    · show setP A b (A b + 1) j = E j + b01 (updM S.ac b (some (q, l)) j)
      have h1 := h.i2 j hj
      by_cases hij : j = b
      · subst hij
        rw [setP_at, updM_same, b01_some]
        rw [hc.1, b01_none] at h1
        omega
      · rw [updM_other _ _ hij]
        unfold setP
        rw [if_neg hij]
        exact h1
    · have h1 := h.bd j hj
      unfold setP
      split
      · subst_vars; omega
      · omega
theorem OV.fin {S : Vm} {k : Nat} {I A E : Nat → Int} (h : OV S k I A E) (id : Int) :
    (∃ i : Nat, i < 64 ∧ id = (i : Int) ∧ (endV S id).2.2 = 0 ∧ OV (endV S id).1 (k + 1) I A (setP E i (E i + 1))) ∨ ((endV S id).2.2 ≠ 0 ∧ OV (endV S id).1 (k + 1) I A E) := by
  by_cases hc : 0 ≤ id ∧ id < 64
  · obtain ⟨i, rfl⟩ := Int.eq_ofNat_of_zero_le hc.1
    have hi : i < 64 := by omega
    cases hs : S.ac i with
    | none =>
      have e : endV S i = (S, false, 70) := by unfold endV; rw [if_pos hc, Int.toNat_natCast, hs]
      rw [e]
      exact Or.inr ⟨by show (70 : Int) ≠ 0; decide, h.same rfl rfl⟩
    | some y =>
      have e : endV S i = ({ S with ac := updM S.ac i none, en := wr (S.en + 1) }, y.2, 0) := by unfold endV; rw [if_pos hc, Int.toNat_natCast, hs]
      rw [e]
      refine Or.inl ⟨i, hi, rfl, rfl, fun j hj => h.i1 j hj, fun j hj => ?_, fun j hj => ?_⟩
      · show A j = setP E i (E i + 1) j + b01 (updM S.ac i none j)
        have h1 := h.i2 j hj
        by_cases hij : j = i
        · subst hij
          rw [setP_at, updM_same, b01_none]
          rw [hs, b01_some] at h1
          omega
        · rw [updM_other _ _ hij]
          unfold setP
          rw [if_neg hij]
          exact h1
      · have h1 := h.bd j hj
        unfold setP
        split
        · subst_vars; omega
        · omega
  · have e : endV S id = (S, false, 1) := by unfold endV; rw [if_neg hc]
    rw [e]
    exact Or.inr ⟨by show (1 : Int) ≠ 0; decide, h.same rfl rfl⟩
/-- What stands in a row of marks behind the first j records. -/
def Marks (g : Nat → LrE) (f : LrE → Bool) (j : Nat) (P : Nat → Int) : Prop := ∀ i, i < 64 → ((P i = 1 ∧ ∃ j', j' < j ∧ (g j').id = ((i : Nat) : Int) ∧ f (g j') = true) ∨ (P i = 0 ∧ ∀ j', j' < j → (g j').id = ((i : Nat) : Int) → f (g j') = false))
theorem marks0 (g : Nat → LrE) (f : LrE → Bool) : Marks g f 0 (fun _ => 0) := fun i _ => Or.inr ⟨rfl, fun j' h => by omega⟩
theorem Marks.set {g : Nat → LrE} {f : LrE → Bool} {j : Nat} {P : Nat → Int} (h : Marks g f j P) {i : Nat} (hid : (g j).id = (i : Int)) (hf : f (g j) = true) : Marks g f (j + 1) (setP P i 1) := by
  intro x hx
  by_cases e : x = i
  · subst e
    exact Or.inl ⟨setP_at P x 1, j, by omega, hid, hf⟩
  · have e1 : setP P i 1 x = P x := by unfold setP; rw [if_neg e]
    rw [e1]
    rcases h x hx with ⟨h1, j', h2, h3⟩ | ⟨h1, h2⟩
    · exact Or.inl ⟨h1, j', by omega, h3⟩
    · refine Or.inr ⟨h1, fun j' hj he => ?_⟩
      by_cases ej : j' = j
      · subst ej; rw [hid] at he; omega
      · exact h2 j' (by omega) he
theorem Marks.skip {g : Nat → LrE} {f : LrE → Bool} {j : Nat} {P : Nat → Int} (h : Marks g f j P) (hf : f (g j) = false) : Marks g f (j + 1) P := by
  intro x hx
  rcases h x hx with ⟨h1, j', h2, h3⟩ | ⟨h1, h2⟩
  · exact Or.inl ⟨h1, j', by omega, h3⟩
  · refine Or.inr ⟨h1, fun j' hj he => ?_⟩
    by_cases ej : j' = j
    · subst ej; exact hf
    · exact h2 j' (by omega) he
theorem lr_flags {pe ac : Mp} {i : Nat} {x : LrE} (h : lrOf pe ac i = some x) : x.pe = (pe i).isSome ∧ x.ac = (ac i).isSome := by
  unfold lrOf at h
  cases hac : ac i with
  | some y => rw [hac] at h; cases h; exact ⟨rfl, rfl⟩
  | none =>
    rw [hac] at h
    cases hpe : pe i with
    | some y => rw [hpe] at h; cases h; exact ⟨rfl, rfl⟩
    | none => rw [hpe] at h; cases h
theorem marks_pe {pe ac : Mp} {n : Nat} {g : Nat → LrE} (h : IsAll pe ac n g) {P : Nat → Int} (m : Marks g (fun x => x.pe) n P) {i : Nat} (hi : i < 64) : P i = b01 (pe i) := by
  rcases m i hi with ⟨h1, j, hj, he, hf⟩ | ⟨h1, h2⟩
  · obtain ⟨i', _, hx⟩ := h.mem hj
    have hid := lrOf_id hx
    obtain rfl : i' = i := by omega
    have := (lr_flags hx).1
    have hf' : (g j).pe = true := hf
    rw [hf'] at this
    rw [h1]; unfold b01; rw [← this]; rfl
  · cases hp : pe i with
    | none => rw [h1]; rfl
    | some y =>
      exfalso
      obtain ⟨x, hx⟩ : ∃ x, lrOf pe ac i = some x := by unfold lrOf; cases ac i with | some z => exact ⟨_, rfl⟩ | none => rw [hp]; exact ⟨_, rfl⟩
      obtain ⟨j, hj, ej⟩ := h.has hi hx
      have : (g j).pe = false := h2 j hj (by rw [ej]; exact lrOf_id hx)
      rw [ej, (lr_flags hx).1, hp] at this
      cases this
theorem marks_ac {pe ac : Mp} {n : Nat} {g : Nat → LrE} (h : IsAll pe ac n g) {P : Nat → Int} (m : Marks g (fun x => x.ac) n P) {i : Nat} (hi : i < 64) : P i = b01 (ac i) := by
  rcases m i hi with ⟨h1, j, hj, he, hf⟩ | ⟨h1, h2⟩
  · obtain ⟨i', _, hx⟩ := h.mem hj
    have hid := lrOf_id hx
    obtain rfl : i' = i := by omega
    have := (lr_flags hx).2
    have hf' : (g j).ac = true := hf
    rw [hf'] at this
    rw [h1]; unfold b01; rw [← this]; rfl
  · cases hp : ac i with
    | none => rw [h1]; rfl
    | some y =>
      exfalso
      obtain ⟨x, hx⟩ : ∃ x, lrOf pe ac i = some x := by unfold lrOf; rw [hp]; exact ⟨_, rfl⟩
      obtain ⟨j, hj, ej⟩ := h.has hi hx
      have : (g j).ac = false := h2 j hj (by rw [ej]; exact lrOf_id hx)
      rw [ej, (lr_flags hx).2, hp] at this
      cases this
theorem OV.does {S : Vm} {k : Nat} {I A E : Nat → Int} (h : OV S k I A E) (d id p : Int) (on : Bool) :
    (d = 1 ∧ ∃ i : Nat, i < 64 ∧ id = (i : Int) ∧ (doesV S d id p on).2.2.2 = 0 ∧ OV (doesV S d id p on).1 (k + 1) (setP I i (I i + 1)) A E) ∨
    (d = 1 ∧ (doesV S d id p on).2.2.2 ≠ 0 ∧ OV (doesV S d id p on).1 (k + 1) I A E) ∨
    (d = 4 ∧ ∃ i : Nat, i < 64 ∧ (doesV S d id p on).2.1 = (i : Int) ∧ OV (doesV S d id p on).1 (k + 1) I (setP A i (A i + 1)) E) ∨
    (d = 4 ∧ (doesV S d id p on).2.1 = 1023 ∧ OV (doesV S d id p on).1 (k + 1) I A E) ∨
    (d = 5 ∧ ∃ i : Nat, i < 64 ∧ id = (i : Int) ∧ (doesV S d id p on).2.2.2 = 0 ∧ OV (doesV S d id p on).1 (k + 1) I A (setP E i (E i + 1))) ∨
    (d = 5 ∧ (doesV S d id p on).2.2.2 ≠ 0 ∧ OV (doesV S d id p on).1 (k + 1) I A E) ∨
    (d ≠ 1 ∧ d ≠ 4 ∧ d ≠ 5 ∧ OV (doesV S d id p on).1 (k + 1) I A E) := by
  unfold doesV
  by_cases d1 : d = 1
  · rw [if_pos d1]
    rcases h.inj id p on with ⟨i, h1, h2, h3, h4⟩ | ⟨h3, h4⟩
    · exact Or.inl ⟨d1, i, h1, h2, h3, h4⟩
    · exact Or.inr (Or.inl ⟨d1, h3, h4⟩)
  by_cases d4 : d = 4
  · rw [if_neg d1, if_neg (by omega : ¬ d = 2), if_neg (by omega : ¬ d = 3), if_pos d4]
    rcases h.ack with ⟨i, h1, h2, h3⟩ | ⟨h2, h3⟩
    · exact Or.inr (Or.inr (Or.inl ⟨d4, i, h1, h2, h3⟩))
    · exact Or.inr (Or.inr (Or.inr (Or.inl ⟨d4, h2, h3⟩)))
  by_cases d5 : d = 5
  · rw [if_neg d1, if_neg (by omega : ¬ d = 2), if_neg (by omega : ¬ d = 3), if_neg d4, if_pos d5]
    rcases h.fin id with ⟨i, h1, h2, h3, h4⟩ | ⟨h3, h4⟩
    · exact Or.inr (Or.inr (Or.inr (Or.inr (Or.inl ⟨d5, i, h1, h2, h3, h4⟩))))
    · exact Or.inr (Or.inr (Or.inr (Or.inr (Or.inr (Or.inl ⟨d5, h3, h4⟩)))))
  refine Or.inr (Or.inr (Or.inr (Or.inr (Or.inr (Or.inr ⟨d1, d4, d5, ?_⟩)))))
  rw [if_neg d1]
  by_cases d2 : d = 2
  · rw [if_pos d2]
    refine h.same ?_ ?_ <;> (unfold enaV; split <;> rfl)
  rw [if_neg d2]
  by_cases d3 : d = 3
  · rw [if_pos d3]
    refine h.same ?_ ?_ <;> (unfold maskV; split <;> rfl)
  rw [if_neg d3, if_neg d4, if_neg d5]
  exact h.same rfl rfl
end Go.Proofs.Ytnebjbjdgfaooaa
