/- Plain laws and contracts for the law VgicServes. -/
import Derived.Test.YtnebjbjdgfaooaaVgZ
import Derived.Test.YtnebjbjdgfaooaaVgI
namespace Go.Proofs.Ytnebjbjdgfaooaa
open Go.RowKit Go.Maps
set_option maxRecDepth 100000

/-- Behind k injections. -/
structure PM (S : Vm) (k : Nat) (P : Nat → Int) (G : Nat → Bool) : Prop where
  pe : ∀ j, S.pe j = if j < k then some (P j, G j) else none
  ac : ∀ j, S.ac j = none
  off : ∀ j, S.off j = false
  mask : S.mask = 256
  pr : ∀ j, j < k → 0 ≤ P j ∧ P j < 256
def setP {α : Type} (P : Nat → α) (k : Nat) (x : α) : Nat → α := fun j => if j = k then x else P j
theorem PM.step {S : Vm} {k : Nat} {P : Nat → Int} {G : Nat → Bool} (h : PM S k P G) (hk : k < 64) (x : Int) (f : Bool) (x0 : 0 ≤ x) (x1 : x < 256) : (injV S k x f).2 = 0 ∧ PM (injV S k x f).1 (k + 1) (setP P k x) (setP G k f) := by
  have e : injV S k x f = ({ S with pe := updM S.pe k (some (x, f)), inj := wr (S.inj + 1) }, 0) := by
    unfold injV
    rw [if_pos ⟨by omega, by omega, x0, x1⟩, Int.toNat_natCast, h.pe k, if_neg (Nat.lt_irrefl k)]
    all_goals rfl
  rw [e]
  refine ⟨rfl, fun j => ?_, h.ac, h.off, h.mask, fun j hj => ?_⟩
  · show updM S.pe k (some (x, f)) j = (if j < k + 1 then some (setP P k x j, setP G k f j) else none)
    by_cases hj : j = k
    · subst hj; rw [updM_same, if_pos (Nat.lt_succ_self j)]; simp [setP]
    · rw [updM_other _ _ hj, h.pe j]
      by_cases hlt : j < k
      · rw [if_pos hlt, if_pos (by omega)]; simp [setP, hj]
      · rw [if_neg hlt, if_neg (by omega)]
  · unfold setP
    split
    · exact ⟨x0, x1⟩
    · exact h.pr j (by omega)
/-- While m injected ones are served: so many are left, and come behind the last. -/
structure SV (S : Vm) (m left : Nat) (P : Nat → Int) (G : Nat → Bool) (last : Int) : Prop where
  pe : ∀ j y, S.pe j = some y → j < m ∧ y = (P j, G j)
  ac : ∀ j, S.ac j = none
  off : ∀ j, S.off j = false
  mask : S.mask = 256
  pr : ∀ j, j < m → 0 ≤ P j ∧ P j < 256
  num : cntM S.pe 64 = left
  ord : last = -1 ∨ ∃ l : Nat, last = (l : Int) ∧ l < m ∧ ∀ j y, S.pe j = some y → P l < P j ∨ (P l = P j ∧ l < j)
theorem cntM_first (M : Mp) (m k : Nat) (h : ∀ j, (M j).isSome = decide (j < m)) (hm : m ≤ k) : cntM M k = m := by
  have key : ∀ k, cntM M k = if m ≤ k then m else k := by
    intro k
    induction k with
    | zero => simp [cntM]; omega
    | succ k ih =>
      simp only [cntM, ih, h k, decide_eq_true_eq]
      repeat' split
      all_goals omega
  rw [key k, if_pos hm]
theorem cntM_pos {M : Mp} {k : Nat} (h : 0 < cntM M k) : ∃ i y, i < k ∧ M i = some y := by
  induction k with
  | zero => simp [cntM] at h
  | succ k ih =>
    simp only [cntM] at h
    cases hM : M k with
    | some y => exact ⟨k, y, by omega, hM⟩
    | none =>
      rw [hM] at h
      obtain ⟨i, y, hi, e⟩ := ih (by simpa using h)
      exact ⟨i, y, by omega, e⟩
theorem cntM_zero {M : Mp} {k : Nat} (h : cntM M k = 0) : ∀ i, i < k → M i = none := by
  induction k with
  | zero => intro i hi; omega
  | succ k ih =>
    simp only [cntM] at h
    intro i hi
    by_cases e : i = k
    · subst e
      cases hM : M i with
      | none => rfl
      | some y => rw [hM] at h; simp at h
    · exact ih (by omega) i (by omega)
theorem PM.sv {S : Vm} {m : Nat} {P : Nat → Int} {G : Nat → Bool} (h : PM S m P G) (hm : m ≤ 64) : SV S m m P G (-1) := by
  refine ⟨fun j y hy => ?_, h.ac, h.off, h.mask, h.pr, cntM_first _ m 64 (fun j => ?_) hm, Or.inl rfl⟩
  · rw [h.pe j] at hy
    by_cases hj : j < m
    · rw [if_pos hj] at hy; cases hy; exact ⟨hj, rfl⟩
    · rw [if_neg hj] at hy; cases hy
  · rw [h.pe j]; split <;> simp [*]
theorem SV.mn {S : Vm} {m l : Nat} {P : Nat → Int} {G : Nat → Bool} {t : Int} (h : SV S m l P G t) : mnV S = 256 := by
  have hr : runM S.ac 64 = 256 := by
    rcases runM_hit S.ac 64 with e | ⟨j, y, hj, hy, _⟩
    · exact e
    · rw [h.ac j] at hy; cases hy
  unfold mnV
  rw [hr, h.mask]; rfl
theorem SV.done {S : Vm} {m : Nat} {P : Nat → Int} {G : Nat → Bool} {t : Int} (h : SV S m 0 P G t) : ackV S = (S, 1023) := by
  unfold ackV
  rcases best_spec S 64 with ⟨e, _⟩ | ⟨b, q, e, hb, hc, _⟩
  · rw [e]
  · exfalso
    obtain ⟨l, hp⟩ := hc.2.1
    rw [cntM_zero h.num b hb] at hp
    cases hp
/-- The next one: it is acknowledged, and ends. -/
theorem SV.next {S : Vm} {m l : Nat} {P : Nat → Int} {G : Nat → Bool} {t : Int} (hm : m ≤ 64) (h : SV S m (l + 1) P G t) : ∃ b : Nat, b < m ∧ (ackV S).2 = (b : Int) ∧ (endV (ackV S).1 b).2.1 = G b ∧ (endV (ackV S).1 b).2.2 = 0 ∧
    SV (endV (ackV S).1 b).1 m l P G b ∧ (t = -1 ∨ ∃ k : Nat, t = (k : Int) ∧ k < m ∧ (P k < P b ∨ (P k = P b ∧ k < b))) := by
  obtain ⟨i, y, hi, hy⟩ := cntM_pos (M := S.pe) (k := 64) (by rw [h.num]; omega)
  have hcd : ∀ j z, S.pe j = some z → cand S j (P j) := fun j z hz => by
    obtain ⟨h1, rfl⟩ := h.pe j z hz
    exact ⟨h.ac j, ⟨G j, hz⟩, h.off j, by rw [h.mn]; exact (h.pr j h1).2⟩
  rcases best_spec S 64 with ⟨_, hno⟩ | ⟨b, q, e, hb, hc, hbest⟩
  · exact absurd (hcd i y hy) (hno i hi _)
  · obtain ⟨f, hp⟩ := hc.2.1
    obtain ⟨hbm, hq⟩ := h.pe b _ hp
    cases hq
    have ea : ackV S = ({ S with ac := updM S.ac b (some (P b, G b)), pe := updM S.pe b none, ak := wr (S.ak + 1) }, (b : Int)) := by unfold ackV; rw [e]; simp only [hp]
    have ee : endV (ackV S).1 b = ({ S with ac := updM (updM S.ac b (some (P b, G b))) b none, pe := updM S.pe b none, ak := wr (S.ak + 1), en := wr (S.en + 1) }, G b, 0) := by
      rw [ea]
      unfold endV
      rw [if_pos ⟨by omega, by omega⟩, Int.toNat_natCast]
      simp only [updM_same]
    refine ⟨b, hbm, by rw [ea], by rw [ee], by rw [ee], ?_, ?_⟩
    · rw [ee]
      refine ⟨fun j z hz => ?_, fun j => ?_, h.off, h.mask, h.pr, ?_, Or.inr ⟨b, rfl, hbm, fun j z hz => ?_⟩⟩
      · have hz' : updM S.pe b none j = some z := hz
        by_cases hj : j = b
        · subst hj; rw [updM_same] at hz'; cases hz'
        · rw [updM_other _ _ hj] at hz'; exact h.pe j z hz'
      · show updM (updM S.ac b _) b none j = none
        by_cases hj : j = b
        · subst hj; rw [updM_same]
        · rw [updM_other _ _ hj, updM_other _ _ hj]; exact h.ac j
      · have := cntM_del S.pe b 64 hb
        rw [hp, h.num] at this
        simp at this
        exact this
      · have hz' : updM S.pe b none j = some z := hz
        by_cases hj : j = b
        · subst hj; rw [updM_same] at hz'; cases hz'
        · rw [updM_other _ _ hj] at hz'
          have h64 : j < 64 := by have := (h.pe j z hz').1; omega
          rcases hbest j h64 _ (hcd j z hz') with h1 | ⟨h1, h2⟩
          · exact Or.inl h1
          · exact Or.inr ⟨h1, by omega⟩
    · rcases h.ord with h1 | ⟨k, h1, h2, h3⟩
      · exact Or.inl h1
      · exact Or.inr ⟨k, h1, h2, h3 b _ hp⟩
theorem upd_below {w a b : World} {v mp ma : Nat} (h : Below w.heap.size w a) (u : Upd (Vb v mp ma) a b) (hz : w.heap.size ≤ v ∧ w.heap.size ≤ mp ∧ w.heap.size ≤ ma) : Below w.heap.size w b := below_upd h u hz.1 hz.2.1 hz.2.2
theorem inject_kept (v mp ma : Nat) (S : Vm) (k : Nat) (x : Int) (f : Bool) (pb fb : Nat) (P : Nat → Int) (G : Nat → Bool) (w : World) (h : VgAt w v mp ma S) (hp : RowAt w pb 29 64 (fun j => .int .i64 (P j))) (hf : RowAt w fb 30 64 (fun j => .bool (G j))) (h1 : ¬ Vb v mp ma pb) (h2 : ¬ Vb v mp ma fb) (hk : k < 64) :
    Calls Try.prog 16 #[.pointer (some ⟨v, 0, none⟩), .int .i64 k, .int .i64 x, .bool f] w fun e w' => e = .returned (.int .i64 (injV S k x f).2) ∧ VgAt w' v mp ma (injV S k x f).1 ∧ Upd (Vb v mp ma) w w' ∧
      RowAt w' pb 29 64 (fun j => .int .i64 (P j)) ∧ RowAt w' fb 30 64 (fun j => .bool (G j)) ∧ w'.cell? ⟨pb, k, none⟩ = some (.int .i64 (P k)) ∧ w'.cell? ⟨fb, k, none⟩ = some (.bool (G k)) := by
  refine (inject_any v mp ma S k x f w h).mono ?_
  rintro e w' ⟨he, hv, hu⟩
  have r1 := hp.kept hu h1
  have r2 := hf.kept hu h2
  exact ⟨he, hv, hu, r1, r2, r1.cell k hk, r2.cell k hk⟩
def pz : Array Value := ((List.range 64).map (fun _ => Value.int .i64 0)).toArray
def fz : Array Value := ((List.range 64).map (fun _ => Value.bool false)).toArray
theorem run_alloc29 (w : World) (a : Act) (d : Option Tmp) (t : TypeId) (p : String) (e : Array Edge) (g : Option (Nat × Bool)) :
    (execOp a.eval ⟨d, .alloc 29, t, p, e, g⟩).run Try.prog w = .ok (.value (.pointer (some ⟨w.heap.size, 0, none⟩))) (w.alloc (.cells pz 29)) := by kernel_rfl
theorem run_alloc30 (w : World) (a : Act) (d : Option Tmp) (t : TypeId) (p : String) (e : Array Edge) (g : Option (Nat × Bool)) :
    (execOp a.eval ⟨d, .alloc 30, t, p, e, g⟩).run Try.prog w = .ok (.value (.pointer (some ⟨w.heap.size, 0, none⟩))) (w.alloc (.cells fz 30)) := by kernel_rfl
theorem prow_new (w : World) : RowAt (w.alloc (.cells pz 29)) w.heap.size 29 64 (fun _ => .int .i64 0) := row_new_of w _ 29 64 _ rfl
theorem frow_new (w : World) (o : Obj) : RowAt ((w.alloc o).alloc (.cells fz 30)) (w.heap.size + 1) 30 64 (fun _ => .bool false) := by
  have h := row_new_of (w.alloc o) fz 30 64 (fun _ => .bool false) rfl
  rw [show (w.alloc o).heap.size = w.heap.size + 1 by simp] at h
  exact h
theorem prow_set {w : World} {b : Nat} {P : Nat → Int} (h : RowAt w b 29 64 (fun j => .int .i64 (P j))) (k : Nat) (x : Int) : RowAt (w.setCell ⟨b, k, none⟩ (.int .i64 x)) b 29 64 (fun j => .int .i64 (setP P k x j)) :=
  (RowAt.set h k _).congr fun j _ => by unfold setP; split <;> rfl
theorem frow_set {w : World} {b : Nat} {G : Nat → Bool} (h : RowAt w b 30 64 (fun j => .bool (G j))) (k : Nat) (x : Bool) : RowAt (w.setCell ⟨b, k, none⟩ (.bool x)) b 30 64 (fun j => .bool (setP G k x j)) :=
  (RowAt.set h k _).congr fun j _ => by unfold setP; split <;> rfl
theorem setP_twice {α : Type} (P : Nat → α) (k : Nat) (x y : α) : setP (setP P k x) k y = setP P k y := by
  funext j; unfold setP; split <;> rfl
theorem setP_at {α : Type} (P : Nat → α) (k : Nat) (x : α) : setP P k x k = x := by simp [setP]
end Go.Proofs.Ytnebjbjdgfaooaa
