/- Maps of the program's virtual processors: a block that reads as a function from numbers to a processor's block, or nothing; look-up, store, delete, range as laws for the walk. -/
import Derived.Test.YtnebjbjdgfaooaaVgZ
import Derived.StillTailTactics
namespace Go.Proofs.Ytnebjbjdgfaooaa
open Go.RowKit Go.Maps
theorem zeroPtr (w : World) : (zeroValue 108).run Try.prog w = .ok (.pointer none) w := by kernel_rfl
def qD (x : Option Nat) : DataW Unit := .lit (.int .i64 (match x with | none => -1 | some n => (n : Int)))
def qv (x : Option Nat) : Value := .pointer (match x with | none => none | some n => some ⟨n, 0, none⟩)
def qR : Value → Option (DataW Unit × List MemPlace)
  | .pointer none => some (qD none, [])
  | .pointer (some a) => if a.off = 0 ∧ a.spot.isNone = true then some (qD (some a.block), []) else none
  | _ => none
theorem qR_mk (x : Option Nat) : qR (qv x) = some (qD x, []) := by cases x <;> rfl
theorem qR_inv {v : Value} {z : DataW Unit × List MemPlace} (h : qR v = some z) : ∃ x, v = qv x ∧ z = (qD x, []) := by
  cases v with
  | pointer o =>
    cases o with
    | none => exact ⟨none, rfl, by simp only [qR, Option.some.injEq] at h; exact h.symm⟩
    | some a =>
      obtain ⟨b, off, st⟩ := a
      simp only [qR] at h
      split at h
      · rename_i hc
        obtain ⟨rfl, hs⟩ := hc
        cases st with
        | none => exact ⟨some b, rfl, by simpa using h.symm⟩
        | some x => cases hs
      · cases h
  | _ => cases h
theorem qD_inj {x y : Option Nat} (h : qD x = qD y) : x = y := by
  simp only [qD, DataW.lit.injEq, Lit.int.injEq, true_and] at h
  cases x <;> cases y <;> simp at h ⊢ <;> omega
def ki (i : Int) : Lit := .int .i64 i
/-- A number of 64 bits. -/
def i64 (i : Int) : Prop := (Lit.int .i64 i).wf = true
theorem i64_of {i : Int} (h : -9223372036854775808 ≤ i ∧ i ≤ 9223372036854775807) : i64 i := by
  simp only [i64, Lit.wf, IntKind.min, IntKind.max, IntKind.signed, IntKind.bits, Bool.and_eq_true, decide_eq_true_eq, if_true]
  omega
theorem ki_key {i : Int} (h : i64 i) : keyOf Try.prog 3 (.int .i64 i) = some (ki i) := keyOf_int_mk Try.underlying3 h
theorem ki_is (i : Int) : WideAt.IsKeyLit (ki i) := by simp [ki, WideAt.IsKeyLit]
theorem ki_inj {i j : Int} (h : ki i = ki j) : i = j := by
  simp only [ki, Lit.int.injEq, true_and] at h
  exact h
abbrev Qp := Int → Option Nat
def cntQ (M : Qp) : Nat → Nat
  | 0 => 0
  | k + 1 => cntQ M k + (if (M (k : Int)).isSome = true then 1 else 0)
theorem cntQ_le (M : Qp) (k : Nat) : cntQ M k ≤ k := by
  induction k with
  | zero => simp [cntQ]
  | succ k ih => simp only [cntQ]; split <;> omega
theorem cntQ_none (k : Nat) : cntQ (fun _ => none) k = 0 := by
  induction k with
  | zero => rfl
  | succ k ih => simp [cntQ, ih]
def updQ {α : Type} (M : Int → Option α) (i : Int) (x : Option α) : Int → Option α := fun k => if k = i then x else M k
theorem updQ_same {α : Type} (M : Int → Option α) (i : Int) (x : Option α) : updQ M i x i = x := by simp [updQ]
theorem updQ_other {α : Type} (M : Int → Option α) {i k : Int} (x : Option α) (h : k ≠ i) : updQ M i x k = M k := by simp [updQ, h]
theorem cntQ_congr {M M' : Qp} {k : Nat} (h : ∀ i : Nat, i < k → (M i).isSome = (M' i).isSome) : cntQ M k = cntQ M' k := by
  induction k with
  | zero => rfl
  | succ k ih => simp only [cntQ]; rw [ih (fun i hi => h i (by omega)), h k (by omega)]
theorem cntQ_put (M : Qp) (i k : Nat) (x : Nat) (hi : i < k) : cntQ (updQ M i (some x)) k = if (M i).isSome = true then cntQ M k else cntQ M k + 1 := by
  induction k with
  | zero => omega
  | succ k ih =>
    simp only [cntQ]
    by_cases e : i = k
    · subst e
      rw [updQ_same, cntQ_congr (M' := M) (fun j hj => by rw [updQ_other _ _ (by omega)])]
      cases (M i).isSome <;> simp
    · rw [ih (by omega), updQ_other _ _ (fun h => e (by omega))]
      cases (M i).isSome <;> simp <;> omega
theorem cntQ_del (M : Qp) (i k : Nat) (hi : i < k) : cntQ (updQ M i none) k + (if (M i).isSome = true then 1 else 0) = cntQ M k := by
  induction k with
  | zero => omega
  | succ k ih =>
    simp only [cntQ]
    by_cases e : i = k
    · subst e
      rw [updQ_same, cntQ_congr (M' := M) (fun j hj => by rw [updQ_other _ _ (by omega)])]
      simp
    · rw [updQ_other _ _ (fun h => e (by omega))]
      have := ih (by omega)
      omega
theorem ownq_size {w : World} {b n : Nat} {D : DataW Unit} (h : w.ownsMap Try.prog 3 qR b n D) : w.ownsMap Try.prog 3 qR b (Maps.size D) D := by
  obtain ⟨es, clock, hb, F, hs, rfl⟩ := h
  refine ⟨es, clock, hb, F, ?_, rfl⟩
  simp [Maps.size, length_sorted]
/-- What a map's datum says of the function. -/
structure ReadQ (D : DataW Unit) (M : Qp) : Prop where
  size : Maps.size D = cntQ M 1024
  has : ∀ i, Maps.has D (ki i) = (M i).isSome
  at_ : ∀ i x, M i = some x → ∀ z, D.atKey (ki i) z = qD (some x)
  keys : ∀ k, Maps.has D k = true → ∃ i : Int, 0 ≤ i ∧ i < 1024 ∧ k = ki i
def MapQ (w : World) (b : Nat) (M : Qp) : Prop := ∃ D, w.ownsMap Try.prog 3 qR b (Maps.size D) D ∧ ReadQ D M
theorem ReadQ.dom {D : DataW Unit} {M : Qp} (h : ReadQ D M) {i : Int} {x : Nat} (hx : M i = some x) : 0 ≤ i ∧ i < 1024 := by
  have h1 := h.has i
  rw [hx] at h1
  obtain ⟨j, j0, j1, e⟩ := h.keys _ h1
  rw [ki_inj e]
  exact ⟨j0, j1⟩
theorem ReadQ.put {D : DataW Unit} {M : Qp} (h : ReadQ D M) (hT : Tidy D) {i : Nat} (hi : i < 1024) (x : Nat) : ReadQ (D.put (ki i) (qD (some x))) (updQ M i (some x)) := by
  refine ⟨?_, fun j => ?_, fun j y hM z => ?_, fun k hk => ?_⟩
  · rw [size_put hT, cntQ_put M i 1024 x hi, h.has i, h.size]
  · by_cases e : j = i
    · subst e; rw [has_put_same hT.isMap (ki_is _), updQ_same]; rfl
    · rw [has_put_other (fun h => e (ki_inj h)), h.has j, updQ_other _ _ e]
  · by_cases e : j = i
    · subst e
      rw [updQ_same] at hM
      cases hM
      exact atKey_put_same hT.isMap (ki_is _) _ _
    · rw [updQ_other _ _ e] at hM
      rw [atKey_put_other (fun h => e (ki_inj h))]
      exact h.at_ j y hM z
  · by_cases e : k = ki i
    · exact ⟨i, by omega, by omega, e⟩
    · rw [has_put_other e] at hk
      exact h.keys k hk
theorem ReadQ.del {D : DataW Unit} {M : Qp} (h : ReadQ D M) (hT : Tidy D) {i : Nat} (hi : i < 1024) : ReadQ (D.del (ki i)) (updQ M i none) := by
  refine ⟨?_, fun j => ?_, fun j y hM z => ?_, fun k hk => ?_⟩
  · have h1 := size_del (k := ki i) hT
    have h2 := cntQ_del M i 1024 hi
    rw [h.has i, h.size] at h1
    split at h1 <;> simp_all <;> omega
  · by_cases e : j = i
    · subst e; rw [has_del_same, updQ_same]; rfl
    · rw [has_del_other (fun h => e (ki_inj h)), h.has j, updQ_other _ _ e]
  · by_cases e : j = i
    · subst e
      rw [updQ_same] at hM
      cases hM
    · rw [updQ_other _ _ e] at hM
      rw [atKey_del_other (fun h => e (ki_inj h))]
      exact h.at_ j y hM z
  · by_cases e : k = ki i
    · rw [e, has_del_same] at hk; cases hk
    · rw [has_del_other e] at hk
      exact h.keys k hk
section
variable {w : World} {b : Nat} {M : Qp}
theorem MapQ.made (w : World) : MapQ (w.alloc (.map #[] 0)) w.heap.size (fun _ => none) :=
  ⟨.map [], World.ownsMap_made w _ _ _, ⟨(cntQ_none 1024).symm, fun i => rfl, fun i x h => (by cases h), fun k h => (by simp [Maps.has] at h)⟩⟩
theorem MapQ.lt (h : MapQ w b M) : b < w.heap.size := by obtain ⟨D, h, _⟩ := h; exact h.lt
theorem MapQ.dom (h : MapQ w b M) {i : Int} {x : Nat} (hx : M i = some x) : 0 ≤ i ∧ i < 1024 := by obtain ⟨D, _, h⟩ := h; exact h.dom hx
theorem MapQ.kept {w' : World} {S : Nat → Prop} (h : MapQ w b M) (u : Upd S w w') (hn : ¬ S b) : MapQ w' b M := by
  obtain ⟨D, ⟨es, clock, hb, r1, r2⟩, r⟩ := h
  exact ⟨D, ⟨es, clock, (u.block b (Array.getElem?_eq_some_iff.1 hb).1 hn).trans hb, r1, r2⟩, r⟩
theorem MapQ.alloc (h : MapQ w b M) (o : Obj) : MapQ (w.alloc o) b M := h.kept (S := fun _ => False) ((Upd.refl _ _).alloc o) (fun h => h)
theorem MapQ.drew (h : MapQ w b M) : MapQ w.drew b M := h
theorem MapQ.drewN (h : MapQ w b M) (m : Nat) : MapQ (w.drewN m) b M := h
theorem MapQ.congr {M' : Qp} (h : MapQ w b M) (e : ∀ i, M i = M' i) : MapQ w b M' := by
  obtain rfl : M = M' := funext e
  exact h
end
section
variable {ops : Array Oper} {rest : List Oper} {o : Oper} {a : Act} {Q : Exit → Act → World → Prop}
theorem lookq_val {D : DataW Unit} {M : Qp} (r : ReadQ D M) {i : Int} {v : Value} {ps : List MemPlace} (hv : qR v = some (D.atKey (ki i) (qD none), ps)) : v = qv (M i) := by
  obtain ⟨x, rfl, he⟩ := qR_inv hv
  simp only [Prod.mk.injEq] at he
  cases hM : M i with
  | none =>
    have h1 := r.has i
    rw [hM] at h1
    rw [atKey_of_not_has h1] at he
    rw [← qD_inj he.1]
  | some y =>
    rw [r.at_ i y hM] at he
    rw [← qD_inj he.1]
theorem getq_run {w : World} {b : Nat} {M : Qp} (h : MapQ w b M) {i : Int} (hi : i64 i) : (Instr.lookup 105 (.map (some b)) (.int .i64 i) false).run Try.prog w = .ok (qv (M i)) w := by
  obtain ⟨D, hown, r⟩ := h
  obtain ⟨v, ps, hrun, hv⟩ := hown.lookup kLaw Try.underlying105 (zeroPtr w) (qR_mk none) (ki_key hi)
  rw [lookq_val r hv] at hrun
  exact hrun
theorem wpList_getq (w : World) (hg : o.guard = none) (m x : Operand) (hop : o.op = Op.lookup 105 m x false) (b : Nat) (M : Qp) (i : Int) (hi : i64 i) (hm : a.eval m = .map (some b)) (h : MapQ w b M) (hx : a.eval x = .int .i64 i)
    (hK : wpList Try.prog ops Q rest (a.put o.dst (qv (M i))) w) : wpList Try.prog ops Q (o :: rest) a w := by
  have hrun := getq_run h hi
  refine wpList_plain hg fun K' hK' => ?_
  unfold Oper.wp
  simp [execOp, hop, hm, hx, hrun, Result.andThen]
  exact hK' _ _ hK
theorem wpList_putq (w : World) (hg : o.guard = none) (m x v : Operand) (hop : o.op = Op.mapUpdate 105 m x v) (b : Nat) (M : Qp) (i : Nat) (hi : i < 1024) (y : Nat) (hm : a.eval m = .map (some b)) (h : MapQ w b M) (hx : a.eval x = .int .i64 i) (hv : a.eval v = .pointer (some ⟨y, 0, none⟩))
    (hK : ∀ w', MapQ w' b (updQ M i (some y)) → w.grownBy w' (some b) → wpList Try.prog ops Q rest (a.put o.dst undef) w') : wpList Try.prog ops Q (o :: rest) a w := by
  obtain ⟨D, hown, r⟩ := h
  have hle : Maps.size D ≤ 1024 := by rw [r.size]; exact cntQ_le _ _
  refine wpList_mapUpdate_own w hg m x v 105 hop 3 108 kLaw Try.underlying105 qR b _ D hm hown (by unfold maxLen; omega) _ _ (ki i) hx hv (ki_key (i64_of (by omega))) (qD (some y)) [] (qR_mk (some y)) (fun w' h1 h2 => ?_)
  exact hK w' ⟨_, ownq_size h1, r.put (hown.tidy kLaw) hi y⟩ h2
theorem wpList_dropq (w : World) (hg : o.guard = none) (m x : Operand) (hop : o.op = Op.call { callee := Callee.builtin Builtin.delete, args := #[m, x], argTypes := #[105, 3] }) (b : Nat) (M : Qp) (i : Nat) (hi : i < 1024) (hm : a.eval m = .map (some b)) (h : MapQ w b M) (hx : a.eval x = .int .i64 i)
    (hK : ∀ w', MapQ w' b (updQ M i none) → w.grownBy w' (some b) → wpList Try.prog ops Q rest (a.put o.dst (.tuple #[])) w') : wpList Try.prog ops Q (o :: rest) a w := by
  obtain ⟨D, hown, r⟩ := h
  refine wpList_delete_own w hg m x 105 3 hop 108 kLaw Try.underlying105 qR b _ D hm hown _ (ki i) hx (ki_key (i64_of (by omega))) (fun w' h1 h2 => ?_)
  exact hK w' ⟨_, ownq_size h1, r.del (hown.tidy kLaw) hi⟩ h2.grown
/-- What comes of a map is an entry of the function. -/
theorem entryq_of {D : DataW Unit} {M : Qp} (r : ReadQ D M) {k : Lit} {c : Option Nat} {y : DataW Unit × List MemPlace} (hy : qR (qv c) = some y) (hat : ∀ zd, D.atKey k zd = y.1) : ∃ (i : Int) (x : Nat), 0 ≤ i ∧ i < 1024 ∧ k = ki i ∧ M i = some x ∧ c = some x := by
  obtain ⟨i, i0, i1, e⟩ := r.keys k (has_true_of_atKey hat)
  subst e
  have hh := r.has i
  rw [has_true_of_atKey hat] at hh
  cases hM : M i with
  | none => rw [hM] at hh; cases hh
  | some z =>
    refine ⟨i, z, i0, i1, rfl, hM, ?_⟩
    have h1 := hat (qD none)
    rw [r.at_ i z hM] at h1
    rw [qR_mk] at hy
    cases hy
    exact (qD_inj h1).symm
theorem wpList_next_q (w : World) (hg : o.guard = none) (it : Operand) (hop : o.op = Op.next it false) (b r n : Nat) (D : DataW Unit) (M : Qp) (left : Lit → Bool) (cnt : Nat)
    (hit : a.eval it = .pointer (some ⟨r, 0, none⟩)) (h : w.ranges Try.prog 3 qR b r n D left cnt) (hR : ReadQ D M)
    (hDone : cnt = 0 → (∀ kl, left kl = false) → wpList Try.prog ops Q rest (a.put o.dst (.tuple #[.bool false])) w)
    (hMore : ∀ (i : Int) (x : Nat) (w' : World) (cnt' : Nat), 0 ≤ i → i < 1024 → M i = some x → w'.ranges Try.prog 3 qR b r n D (fun z => left z && !z.sameKey (ki i)) cnt' → cnt' < cnt → w.grownBy w' (some r) → w'.heap.size = w.heap.size →
      (Instr.entry (.pointer (some ⟨r, 0, none⟩))).run Try.prog w' = .ok (.tuple #[.int .i64 i, .pointer (some ⟨x, 0, none⟩)]) w' → wpList Try.prog ops Q rest (a.put o.dst (.tuple #[.bool true, .int .i64 i, .pointer (some ⟨x, 0, none⟩)])) w') :
    wpList Try.prog ops Q (o :: rest) a w := by
  refine wpList_next_ranges (α := Int) (β := Option Nat) w hg it hop 3 kLaw qR (Value.int .i64) qv (fun key kl hkey => by obtain ⟨x, rfl, _⟩ := Maps.keyOf_int_inv Try.underlying3 hkey; exact ⟨x, rfl⟩) (fun v y hv => by obtain ⟨x, rfl, _⟩ := qR_inv hv; exact ⟨x, rfl⟩) b r n D left cnt hit h hDone ?_
  intro key c k y w1 cnt1 hkey hlk hy hat hrg1 hlt1 hg1 hs1 hen
  obtain ⟨i, z, i0, i1, rfl, hM, rfl⟩ := entryq_of hR hy hat
  obtain ⟨x, hx, hk, _⟩ := Maps.keyOf_int_inv Try.underlying3 hkey
  simp only [ki, Lit.int.injEq, true_and, Value.int.injEq] at hk hx
  subst hk
  subst hx
  exact hMore _ z w1 cnt1 i0 i1 hM hrg1 hlt1 hg1 hs1 hen
end
end Go.Proofs.Ytnebjbjdgfaooaa
