/- Plain laws of the abstract acts: how many list registers stays; a thread has one virtual processor at most. -/
import Derived.Test.YtnebjbjdgfaooaaVdB
namespace Go.Proofs.Ytnebjbjdgfaooaa
/-- No two have one thread. -/
def Uq (A : Am) : Prop := ∀ i j a b, A.all i = some a → A.all j = some b → a.th = b.th → a.th ≠ -1 → i = j
theorem uq_upd {A : Am} (h : Uq A) {i : Int} {x : Option Ax} (hx : ∀ x', x = some x' → x'.th = -1 ∨ (∃ a, A.all i = some a ∧ a.th = x'.th) ∨ ¬ Taken A x'.th) (L : Int) : Uq { A with loaded := L, all := updQ A.all i x } := by
  intro k l a b ha hb e hn
  have ha' : updQ A.all i x k = some a := ha
  have hb' : updQ A.all i x l = some b := hb
  by_cases hk : k = i
  · by_cases hl : l = i
    · rw [hk, hl]
    · exfalso
      subst hk
      rw [updQ_same] at ha'
      rw [updQ_other _ _ hl] at hb'
      rcases hx a ha' with h1 | ⟨c, hc, h1⟩ | h1
      · exact hn h1
      · exact hl (h l k b c hb' hc (by rw [h1, e]) (by rw [← e]; exact hn))
      · exact h1 ⟨l, b, hb', e.symm⟩
  · rw [updQ_other _ _ hk] at ha'
    by_cases hl : l = i
    · exfalso
      subst hl
      rw [updQ_same] at hb'
      rcases hx b hb' with h1 | ⟨c, hc, h1⟩ | h1
      · exact hn (by rw [e, h1])
      · exact hk (h k l a c ha' hc (by rw [h1, e]) hn)
      · exact h1 ⟨k, a, ha', e⟩
    · rw [updQ_other _ _ hl] at hb'
      exact h k l a b ha' hb' e hn
theorem Uq.load {A : Am} (h : Uq A) (L : Int) : Uq { A with loaded := L } := h
theorem Uq.A0 (L : Int) : Uq (A0 L) := fun i j a b ha => (by cases ha)
theorem uq_inj {A : Am} (h : Uq A) (id irq pr : Int) (lv : Bool) : Uq (injectA A id irq pr lv).1 := by
  unfold injectA
  cases ha : A.all id with
  | none => exact h
  | some a => exact uq_upd h (fun x' hx => Or.inr (Or.inl ⟨a, ha, by cases hx; rfl⟩)) A.loaded
theorem uq_tick1 {A : Am} (h : Uq A) {a : Ax} (ha : A.all A.loaded = some a) : Uq (tick1 A a) := by
  unfold tick1
  exact uq_upd h (fun x' hx => Or.inr (Or.inl ⟨a, ha, by cases hx; rfl⟩)) A.loaded
theorem uq_act {A : Am} (h : Uq A) (d id n m : Int) (bk : Nat → Int) (on tk : Bool) (htk : tk = true ↔ Taken A n) : Uq (actS A d id n m bk on tk) := by
  unfold actS
  split
  · unfold addA
    split
    · split
      · exact h
      · exact uq_upd h (fun x' hx => Or.inl (by cases hx; rfl)) A.loaded
    · exact h
  split
  · unfold dropA
    split
    · exact h
    · exact uq_upd h (fun x' hx => by cases hx) _
  split
  · unfold bindA
    split
    · exact h
    · split
      · split
        · exact h
        · rename_i hc
          exact uq_upd h (fun x' hx => Or.inr (Or.inr (by cases hx; intro ht; exact hc (Or.inr (htk.2 ht))))) A.loaded
      · exact h
  split
  · unfold unbindA
    split
    · exact h
    · split
      · exact h
      · exact uq_upd h (fun x' hx => Or.inl (by cases hx; rfl)) A.loaded
  split
  · unfold enterA
    split
    · exact h
    · exact h.load _
  split
  · exact h.load _
  split
  · unfold setbankA
    split
    · exact h
    · split
      · rename_i a ha
        exact uq_upd h (fun x' hx => Or.inr (Or.inl ⟨a, ha, by cases hx; rfl⟩)) A.loaded
      · exact h
  split
  · unfold writeA
    split
    · exact h
    · split
      · rename_i a ha _
        exact uq_upd h (fun x' hx => Or.inr (Or.inl ⟨a, ha, by cases hx; rfl⟩)) A.loaded
      · exact h
  split
  · exact uq_inj h id n m on
  split
  · unfold tickA
    split
    · exact h
    · rename_i a ha
      split
      · exact uq_tick1 h ha
      · exact uq_inj (uq_tick1 h ha) _ _ _ _
  split
  · unfold ackA
    split
    · exact h
    · rename_i a ha
      exact uq_upd h (fun x' hx => Or.inr (Or.inl ⟨a, ha, by cases hx; rfl⟩)) A.loaded
  · exact h
theorem lrs_inj (A : Am) (id irq pr : Int) (lv : Bool) : (injectA A id irq pr lv).1.lrs = A.lrs := by
  unfold injectA; split <;> rfl
theorem lrs_act (A : Am) (d id n m : Int) (bk : Nat → Int) (on tk : Bool) : (actS A d id n m bk on tk).lrs = A.lrs := by
  unfold actS
  split
  · unfold addA; split
    · split <;> rfl
    · rfl
  split
  · unfold dropA; split <;> rfl
  split
  · unfold bindA; split
    · rfl
    · split
      · split <;> rfl
      · rfl
  split
  · unfold unbindA; split
    · rfl
    · split <;> rfl
  split
  · unfold enterA; split <;> rfl
  split
  · rfl
  split
  · unfold setbankA; split
    · rfl
    · split <;> rfl
  split
  · unfold writeA; split
    · rfl
    · split <;> rfl
  split
  · exact lrs_inj _ _ _ _ _
  split
  · unfold tickA; split
    · rfl
    · split
      · rfl
      · rw [lrs_inj]; rfl
  split
  · unfold ackA; split <;> rfl
  · rfl
theorem taken_bool (A : Am) (n : Int) : ∃ tk : Bool, tk = true ↔ Taken A n := by
  by_cases h : Taken A n
  · exact ⟨true, by simp [h]⟩
  · exact ⟨false, by simp [h]⟩
end Go.Proofs.Ytnebjbjdgfaooaa
