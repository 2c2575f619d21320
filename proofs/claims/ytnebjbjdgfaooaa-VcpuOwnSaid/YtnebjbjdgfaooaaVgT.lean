/- Plain law: the reference's list of all virtual interrupts, by priorities and numbers, is the sorted list of the pending and active ones. -/
import Derived.Test.YtnebjbjdgfaooaaVgP
namespace Go.Proofs.Ytnebjbjdgfaooaa
def seqF (f : Nat → Option LrE) : Nat → List LrE
  | 0 => []
  | k + 1 => match f k with | some x => seqF f k ++ [x] | none => seqF f k
theorem seqF_some {f : Nat → Option LrE} {k : Nat} {x : LrE} (h : f k = some x) : seqF f (k + 1) = seqF f k ++ [x] := by simp only [seqF, h]
theorem seqF_none {f : Nat → Option LrE} {k : Nat} (h : f k = none) : seqF f (k + 1) = seqF f k := by simp only [seqF, h]
theorem seqF_mem {f : Nat → Option LrE} {k : Nat} {x : LrE} : x ∈ seqF f k ↔ ∃ i, i < k ∧ f i = some x := by
  induction k with
  | zero => simp [seqF]
  | succ k ih =>
    constructor
    · intro h
      cases hk : f k with
      | some y =>
        rw [seqF_some hk] at h
        rcases List.mem_append.1 h with h | h
        · obtain ⟨i, hi, e⟩ := ih.1 h
          exact ⟨i, by omega, e⟩
        · simp at h; subst h; exact ⟨k, by omega, hk⟩
      | none =>
        rw [seqF_none hk] at h
        obtain ⟨i, hi, e⟩ := ih.1 h
        exact ⟨i, by omega, e⟩
    · rintro ⟨i, hi, e⟩
      by_cases hik : i = k
      · subst hik; rw [seqF_some e]; simp
      · have := ih.2 ⟨i, by omega, e⟩
        cases hk : f k with
        | some y => rw [seqF_some hk]; exact List.mem_append_left _ this
        | none => rw [seqF_none hk]; exact this
theorem seqF_len (f : Nat → Option LrE) (k : Nat) : (seqF f k).length ≤ k := by
  induction k with
  | zero => simp [seqF]
  | succ k ih =>
    cases hk : f k with
    | some y => rw [seqF_some hk]; simp; omega
    | none => rw [seqF_none hk]; omega
theorem seqF_lx (f : Nat → Option LrE) (hf : ∀ i j x y, i < j → f i = some x → f j = some y → Lx x y) (k : Nat) : (seqF f k).Pairwise Lx := by
  induction k with
  | zero => exact List.Pairwise.nil
  | succ k ih =>
    cases hk : f k with
    | some y =>
      rw [seqF_some hk]
      refine List.pairwise_append.2 ⟨ih, List.pairwise_singleton _ _, fun a ha b hb => ?_⟩
      simp at hb
      subst hb
      obtain ⟨i, hi, e⟩ := seqF_mem.1 ha
      exact hf i k a b hi e hk
    | none => rw [seqF_none hk]; exact ih
def recR (R : Rm) (t : Nat) : Option LrE :=
  if t < 16384 then (if R.ac (t % 64) = true ∧ R.A (t % 64) = ((t / 64 : Nat) : Int) then some ⟨(t % 64 : Nat), R.A (t % 64), R.fl (t % 64), R.pe (t % 64), true⟩ else none)
  else (if R.ac ((t - 16384) % 64) = false ∧ R.pe ((t - 16384) % 64) = true ∧ R.P ((t - 16384) % 64) = (((t - 16384) / 64 : Nat) : Int) then some ⟨((t - 16384) % 64 : Nat), R.P ((t - 16384) % 64), R.lv ((t - 16384) % 64), true, false⟩ else none)
theorem recR_a {R : Rm} {p i : Nat} (hp : p < 256) (hi : i < 64) (h1 : R.ac i = true) (h2 : R.A i = (p : Int)) : recR R (p * 64 + i) = some ⟨i, p, R.fl i, R.pe i, true⟩ := by
  unfold recR
  rw [if_pos (by omega), show (p * 64 + i) % 64 = i by omega, show (p * 64 + i) / 64 = p by omega, if_pos ⟨h1, h2⟩, h2]
theorem recR_an {R : Rm} {p i : Nat} (hp : p < 256) (hi : i < 64) (h : ¬ (R.ac i = true ∧ R.A i = (p : Int))) : recR R (p * 64 + i) = none := by
  unfold recR
  rw [if_pos (by omega), show (p * 64 + i) % 64 = i by omega, show (p * 64 + i) / 64 = p by omega, if_neg h]
theorem recR_b {R : Rm} {p i : Nat} (hi : i < 64) (h1 : R.ac i = false) (h2 : R.pe i = true) (h3 : R.P i = (p : Int)) : recR R (16384 + p * 64 + i) = some ⟨i, p, R.lv i, true, false⟩ := by
  unfold recR
  rw [if_neg (by omega), show (16384 + p * 64 + i - 16384) % 64 = i by omega, show (16384 + p * 64 + i - 16384) / 64 = p by omega, if_pos ⟨h1, h2, h3⟩, h3]
theorem recR_bn {R : Rm} {p i : Nat} (hi : i < 64) (h : ¬ (R.ac i = false ∧ R.pe i = true ∧ R.P i = (p : Int))) : recR R (16384 + p * 64 + i) = none := by
  unfold recR
  rw [if_neg (by omega), show (16384 + p * 64 + i - 16384) % 64 = i by omega, show (16384 + p * 64 + i - 16384) / 64 = p by omega, if_neg h]
theorem lr_a {R : Rm} {i : Nat} (h : R.ac i = true) : lrOf R.to.pe R.to.ac i = some ⟨i, R.A i, R.fl i, R.pe i, true⟩ := by
  have e : R.to.ac i = some (R.A i, R.fl i) := by simp [Rm.to, h]
  simp only [lrOf, e]
  rw [pe_some]
theorem lr_b {R : Rm} {i : Nat} (h : R.ac i = false) (h2 : R.pe i = true) : lrOf R.to.pe R.to.ac i = some ⟨i, R.P i, R.lv i, true, false⟩ := by
  have e : R.to.ac i = none := by simp [Rm.to, h]
  have e2 : R.to.pe i = some (R.P i, R.lv i) := by simp [Rm.to, h2]
  simp only [lrOf, e, e2]
theorem lr_n {R : Rm} {i : Nat} (h : R.ac i = false) (h2 : R.pe i = false) : lrOf R.to.pe R.to.ac i = none := by
  have e : R.to.ac i = none := by simp [Rm.to, h]
  have e2 : R.to.pe i = none := by simp [Rm.to, h2]
  simp only [lrOf, e, e2]
theorem rec_lr {R : Rm} {t : Nat} {x : LrE} (h : recR R t = some x) : ∃ i, i < 64 ∧ lrOf R.to.pe R.to.ac i = some x := by
  unfold recR at h
  split at h
  · split at h
    · rename_i hc
      cases h
      exact ⟨t % 64, by omega, lr_a hc.1⟩
    · cases h
  · split at h
    · rename_i hc
      cases h
      exact ⟨(t - 16384) % 64, by omega, lr_b hc.1 hc.2.1⟩
    · cases h
theorem rec_lx {R : Rm} (t u : Nat) (x y : LrE) (htu : t < u) (hx : recR R t = some x) (hy : recR R u = some y) : Lx x y := by
  unfold recR at hx hy
  split at hx
  · split at hx
    · rename_i h1 h2
      cases hx
      split at hy
      · split at hy
        · rename_i h3 h4
          cases hy
          unfold Lx klt
          simp only [if_true]
          rw [h2.2, h4.2]
          by_cases hlt : t / 64 < u / 64
          · left; simp; omega
          · right
            refine ⟨by simp; omega, by simp; omega⟩
        · cases hy
      · split at hy
        · cases hy
          left; unfold klt; simp
        · cases hy
    · cases hx
  · split at hx
    · rename_i h1 h2
      cases hx
      rw [if_neg (by omega)] at hy
      split at hy
      · rename_i h4
        cases hy
        unfold Lx klt
        simp only [if_true]
        rw [h2.2.2, h4.2.2]
        by_cases hlt : (t - 16384) / 64 < (u - 16384) / 64
        · left; simp; omega
        · right
          refine ⟨by simp; omega, by simp; omega⟩
      · cases hy
    · cases hx
/-- All priorities lie between 0 and 255. -/
def Rng (S : Vm) : Prop := (∀ i p l, S.pe i = some (p, l) → 0 ≤ p ∧ p < 256) ∧ (∀ i p l, S.ac i = some (p, l) → 0 ≤ p ∧ p < 256)
theorem lr_rec {R : Rm} (hr : Rng R.to) {i : Nat} (hi : i < 64) {x : LrE} (h : lrOf R.to.pe R.to.ac i = some x) : ∃ t, t < 32768 ∧ recR R t = some x := by
  cases h1 : R.ac i with
  | true =>
    rw [lr_a h1] at h
    cases h
    obtain ⟨a0, a1⟩ := hr.2 i (R.A i) (R.fl i) (by simp [Rm.to, h1])
    obtain ⟨p, hp⟩ := Int.eq_ofNat_of_zero_le a0
    refine ⟨p * 64 + i, by omega, ?_⟩
    rw [recR_a (by omega) hi h1 hp, hp]
  | false =>
    cases h2 : R.pe i with
    | true =>
      rw [lr_b h1 h2] at h
      cases h
      obtain ⟨a0, a1⟩ := hr.1 i (R.P i) (R.lv i) (by simp [Rm.to, h2])
      obtain ⟨p, hp⟩ := Int.eq_ofNat_of_zero_le a0
      refine ⟨16384 + p * 64 + i, by omega, ?_⟩
      rw [recR_b hi h1 h2 hp, hp]
    | false => rw [lr_n h1 h2] at h; cases h
theorem seq_all {R : Rm} (hr : Rng R.to) (M : Nat) (hM : M = 32768) {n : Nat} {g : Nat → LrE} (h : IsAll R.to.pe R.to.ac n g) : (seqF (recR R) M).length = n ∧ ∀ j, j < n → g j = fL (seqF (recR R) M) j := by
  obtain ⟨f, hf⟩ : ∃ f, recR R = f := ⟨_, rfl⟩
  have hlx := seqF_lx f (fun i j x y => by rw [← hf]; exact rec_lx i j x y) M
  have hmem : ∀ x, x ∈ seqF f M ↔ x ∈ preL R.to.pe R.to.ac 64 := by
    intro x
    rw [seqF_mem, preL_mem]
    constructor
    · rintro ⟨t, _, ht⟩
      rw [← hf] at ht
      exact rec_lr ht
    · rintro ⟨i, hi, hx⟩
      obtain ⟨t, ht, e⟩ := lr_rec hr hi hx
      exact ⟨t, by omega, by rw [← hf]; exact e⟩
  rw [hf]
  have hnd : (seqF f M).Nodup := hlx.imp (fun {a b} hab e => by subst e; exact Lx.irr hab)
  have hnd2 : (preL R.to.pe R.to.ac 64).Nodup := (preL_inc R.to.pe R.to.ac 64).imp (fun {a b} hab e => by subst e; exact absurd hab (by omega))
  have hlen : (seqF f M).length = n := by
    rw [h.1]
    exact ((List.perm_ext_iff_of_nodup hnd hnd2).2 hmem).length_eq
  refine ⟨hlen, h.uniq (fun i j _ hij hj => ?_) (fun j hj => preL_mem.1 ((hmem _).1 (fL_mem (by omega)))) (fun i hi x hx => ?_)⟩
  · rw [fL_get (by omega), fL_get (by omega)]
    exact List.pairwise_iff_getElem.1 hlx i j (by omega) (by omega) hij
  · obtain ⟨j, hj, e⟩ := mem_fL ((hmem x).2 (preL_mem.2 ⟨i, hi, hx⟩))
    exact ⟨j, by omega, e⟩
theorem Rng.V0 (L : Int) : Rng (V0 L) := ⟨fun i p l h => (by cases h), fun i p l h => (by cases h)⟩
theorem rng_upd {M : Mp} (h : ∀ i p l, M i = some (p, l) → 0 ≤ p ∧ p < 256) {k : Nat} {x : Option (Int × Bool)} (hx : ∀ p l, x = some (p, l) → 0 ≤ p ∧ p < 256) : ∀ i p l, updM M k x i = some (p, l) → 0 ≤ p ∧ p < 256 := by
  intro i p l hi
  by_cases e : i = k
  · subst e; rw [updM_same] at hi; exact hx p l hi
  · rw [updM_other _ _ e] at hi; exact h i p l hi
theorem Rng.inj {S : Vm} (h : Rng S) (id p : Int) (l : Bool) : Rng (injV S id p l).1 := by
  unfold injV
  split
  · rename_i hc
    split
    · exact h
    · exact ⟨rng_upd h.1 (fun q m e => by cases e; omega), h.2⟩
  · exact h
theorem Rng.ena {S : Vm} (h : Rng S) (id : Int) (on : Bool) : Rng (enaV S id on).1 := by
  unfold enaV
  split
  · exact h
  · exact h
theorem Rng.mask {S : Vm} (h : Rng S) (m : Int) : Rng (maskV S m).1 := by
  unfold maskV
  split
  · exact h
  · exact h
theorem Rng.ack {S : Vm} (h : Rng S) : Rng (ackV S).1 := by
  unfold ackV
  split
  · exact h
  · exact ⟨rng_upd h.1 (fun q m e => by cases e), rng_upd h.2 (fun q m e => h.1 _ q m e)⟩
theorem Rng.en {S : Vm} (h : Rng S) (id : Int) : Rng (endV S id).1 := by
  unfold endV
  split
  · split
    · exact h
    · exact ⟨h.1, rng_upd h.2 (fun q m e => by cases e)⟩
  · exact h
theorem Rng.does {S : Vm} (h : Rng S) (d id p : Int) (on : Bool) : Rng (doesV S d id p on).1 := by
  unfold doesV
  split
  · exact h.inj id p on
  split
  · exact h.ena id on
  split
  · exact h.mask p
  split
  · exact h.ack
  split
  · exact h.en id
  · exact h
theorem lrs_does (S : Vm) (d id p : Int) (on : Bool) : (doesV S d id p on).1.lrs = S.lrs := by
  unfold doesV
  split
  · unfold injV; split
    · split <;> rfl
    · rfl
  split
  · unfold enaV; split <;> rfl
  split
  · unfold maskV; split <;> rfl
  split
  · unfold ackV; split <;> rfl
  split
  · unfold endV; split
    · split <;> rfl
    · rfl
  · rfl
end Go.Proofs.Ytnebjbjdgfaooaa
