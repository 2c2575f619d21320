/- Maps of the program's virtual interrupts: a block that reads as a function from the numbers below 64 to a priority and a flag, or nothing; look-up, store, delete, range as laws for the walk. -/
import Derived.Test.YtnebjbjdgfaooaaSrtM
import Derived.Maps.OwnSet
import Derived.Maps.RangeWalk
import Derived.Maps.OwnOps
namespace Go.Proofs.Ytnebjbjdgfaooaa
open Go.RowKit Go.Maps
theorem kLaw : Keyed Try.prog 3 := int_keyed Try.underlying3
theorem zeroHow (w : World) : (zeroValue 96).run Try.prog w = .ok (.agg #[.int .i64 0, .bool false]) w := by kernel_rfl
def howD (p : Int) (l : Bool) : DataW Unit := .agg [.lit (.int .i64 p), .lit (.bool l)]
def howR : Value → Option (DataW Unit × List MemPlace)
  | .agg cs =>
    match cs.toList with
    | [x, y] =>
      match x, y with
      | .int .i64 p, .bool l => some (howD p l, [])
      | _, _ => none
    | _ => none
  | _ => none
theorem howR_mk (p : Int) (l : Bool) : howR (.agg #[.int .i64 p, .bool l]) = some (howD p l, []) := rfl
theorem howR_inv {v : Value} {z : DataW Unit × List MemPlace} (h : howR v = some z) : ∃ p l, v = .agg #[.int .i64 p, .bool l] ∧ z = (howD p l, []) := by
  cases v with
  | agg cs =>
    obtain ⟨cs⟩ := cs
    simp only [howR] at h
    split at h
    · split at h
      · cases h
        exact ⟨_, _, rfl, rfl⟩
      · cases h
    · cases h
  | _ => cases h
theorem howD_inj {p p' : Int} {l l' : Bool} (h : howD p l = howD p' l') : p = p' ∧ l = l' := by
  simp only [howD, DataW.agg.injEq, List.cons.injEq, DataW.lit.injEq, Lit.int.injEq, Lit.bool.injEq, and_true, true_and] at h
  exact h
def kl (i : Nat) : Lit := .int .i64 i
theorem kl_wf {i : Nat} (h : i < 64) : (Lit.int .i64 (i : Int)).wf = true := by
  simp only [Lit.wf, IntKind.min, IntKind.max, IntKind.signed, IntKind.bits, Bool.and_eq_true, decide_eq_true_eq, if_true]
  omega
theorem kl_key {i : Nat} (h : i < 64) : keyOf Try.prog 3 (.int .i64 (i : Int)) = some (kl i) := keyOf_int_mk Try.underlying3 (kl_wf h)
theorem kl_is (i : Nat) : WideAt.IsKeyLit (kl i) := by simp [kl, WideAt.IsKeyLit]
theorem kl_inj {i j : Nat} (h : kl i = kl j) : i = j := by
  simp only [kl, Lit.int.injEq, true_and] at h
  omega
abbrev Mp := Nat → Option (Int × Bool)
def cntM (M : Mp) : Nat → Nat
  | 0 => 0
  | k + 1 => cntM M k + (if (M k).isSome = true then 1 else 0)
theorem cntM_le (M : Mp) (k : Nat) : cntM M k ≤ k := by
  induction k with
  | zero => simp [cntM]
  | succ k ih => simp only [cntM]; split <;> omega
theorem cntM_none (k : Nat) : cntM (fun _ => none) k = 0 := by
  induction k with
  | zero => rfl
  | succ k ih => simp [cntM, ih]
def updM (M : Mp) (i : Nat) (x : Option (Int × Bool)) : Mp := fun k => if k = i then x else M k
theorem updM_same (M : Mp) (i : Nat) (x : Option (Int × Bool)) : updM M i x i = x := by simp [updM]
theorem updM_other (M : Mp) {i k : Nat} (x : Option (Int × Bool)) (h : k ≠ i) : updM M i x k = M k := by simp [updM, h]
theorem cntM_congr {M M' : Mp} {k : Nat} (h : ∀ i, i < k → (M i).isSome = (M' i).isSome) : cntM M k = cntM M' k := by
  induction k with
  | zero => rfl
  | succ k ih => simp only [cntM]; rw [ih (fun i hi => h i (by omega)), h k (by omega)]
theorem cntM_put (M : Mp) (i k : Nat) (x : Int × Bool) (hi : i < k) : cntM (updM M i (some x)) k = if (M i).isSome = true then cntM M k else cntM M k + 1 := by
  induction k with
  | zero => omega
  | succ k ih =>
    simp only [cntM]
    by_cases e : i = k
    · subst e
      rw [updM_same, cntM_congr (M' := M) (fun j hj => by rw [updM_other _ _ (by omega)])]
      cases (M i).isSome <;> simp
    · rw [ih (by omega), updM_other _ _ (fun h => e h.symm)]
      cases (M i).isSome <;> simp <;> omega
theorem cntM_del (M : Mp) (i k : Nat) (hi : i < k) : cntM (updM M i none) k + (if (M i).isSome = true then 1 else 0) = cntM M k := by
  induction k with
  | zero => omega
  | succ k ih =>
    simp only [cntM]
    by_cases e : i = k
    · subst e
      rw [updM_same, cntM_congr (M' := M) (fun j hj => by rw [updM_other _ _ (by omega)])]
      simp
    · rw [updM_other _ _ (fun h => e h.symm)]
      have := ih (by omega)
      omega
theorem own_size {w : World} {b n : Nat} {D : DataW Unit} (h : w.ownsMap Try.prog 3 howR b n D) : w.ownsMap Try.prog 3 howR b (Maps.size D) D := by
  obtain ⟨es, clock, hb, F, hs, rfl⟩ := h
  refine ⟨es, clock, hb, F, ?_, rfl⟩
  simp [Maps.size, length_sorted]
/-- What a map's datum says of the function. -/
structure Reads (D : DataW Unit) (M : Mp) : Prop where
  size : Maps.size D = cntM M 64
  has : ∀ i, i < 64 → Maps.has D (kl i) = (M i).isSome
  at_ : ∀ i, i < 64 → ∀ p l, M i = some (p, l) → ∀ z, D.atKey (kl i) z = howD p l
  keys : ∀ k, Maps.has D k = true → ∃ i, i < 64 ∧ k = kl i
def MapAt (w : World) (b : Nat) (M : Mp) : Prop := ∃ D, w.ownsMap Try.prog 3 howR b (Maps.size D) D ∧ Reads D M
theorem Reads.put {D : DataW Unit} {M : Mp} (h : Reads D M) (hT : Tidy D) {i : Nat} (hi : i < 64) (p : Int) (l : Bool) : Reads (D.put (kl i) (howD p l)) (updM M i (some (p, l))) := by
  refine ⟨?_, fun j hj => ?_, fun j hj p' l' hM z => ?_, fun k hk => ?_⟩
  · rw [size_put hT, cntM_put M i 64 (p, l) hi, h.has i hi, h.size]
  · by_cases e : j = i
    · subst e; rw [has_put_same hT.isMap (kl_is j), updM_same]; rfl
    · rw [has_put_other (fun h => e (kl_inj h)), h.has j hj, updM_other _ _ e]
  · by_cases e : j = i
    · subst e
      rw [updM_same] at hM
      cases hM
      exact atKey_put_same hT.isMap (kl_is j) _ _
    · rw [updM_other _ _ e] at hM
      rw [atKey_put_other (fun h => e (kl_inj h))]
      exact h.at_ j hj p' l' hM z
  · by_cases e : k = kl i
    · exact ⟨i, hi, e⟩
    · rw [has_put_other e] at hk
      exact h.keys k hk
theorem Reads.del {D : DataW Unit} {M : Mp} (h : Reads D M) (hT : Tidy D) {i : Nat} (hi : i < 64) : Reads (D.del (kl i)) (updM M i none) := by
  refine ⟨?_, fun j hj => ?_, fun j hj p' l' hM z => ?_, fun k hk => ?_⟩
  · have h1 := size_del (k := kl i) hT
    have h2 := cntM_del M i 64 hi
    rw [h.has i hi, h.size] at h1
    split at h1 <;> simp_all <;> omega
  · by_cases e : j = i
    · subst e; rw [has_del_same, updM_same]; rfl
    · rw [has_del_other (fun h => e (kl_inj h)), h.has j hj, updM_other _ _ e]
  · by_cases e : j = i
    · subst e
      rw [updM_same] at hM
      cases hM
    · rw [updM_other _ _ e] at hM
      rw [atKey_del_other (fun h => e (kl_inj h))]
      exact h.at_ j hj p' l' hM z
  · by_cases e : k = kl i
    · rw [e, has_del_same] at hk; cases hk
    · rw [has_del_other e] at hk
      exact h.keys k hk
section
variable {w : World} {b : Nat} {M : Mp}
theorem MapAt.made (w : World) : MapAt (w.alloc (.map #[] 0)) w.heap.size (fun _ => none) :=
  ⟨.map [], World.ownsMap_made w _ _ _, ⟨(cntM_none 64).symm, fun i _ => rfl, fun i _ p l h => (by cases h), fun k h => (by simp [Maps.has] at h)⟩⟩
theorem MapAt.lt (h : MapAt w b M) : b < w.heap.size := by obtain ⟨D, h, _⟩ := h; exact h.lt
theorem MapAt.grown {w' : World} {row : Option Nat} (h : MapAt w b M) (hg : w.grownBy w' row) (hne : some b ≠ row) : MapAt w' b M := by
  obtain ⟨D, h, r⟩ := h; exact ⟨D, h.kept hg hne, r⟩
theorem MapAt.kept {w' : World} {S : Nat → Prop} (h : MapAt w b M) (u : Upd S w w') (hn : ¬ S b) : MapAt w' b M := by
  obtain ⟨D, ⟨es, clock, hb, r1, r2⟩, r⟩ := h
  exact ⟨D, ⟨es, clock, (u.block b (Array.getElem?_eq_some_iff.1 hb).1 hn).trans hb, r1, r2⟩, r⟩
theorem MapAt.below {w' : World} (h : MapAt w b M) (u : Below w.heap.size w w') : MapAt w' b M := h.kept (S := fun _ => False) (Upd.of_below u) (fun h => h)
theorem MapAt.alloc (h : MapAt w b M) (o : Obj) : MapAt (w.alloc o) b M := h.kept (S := fun _ => False) ((Upd.refl _ _).alloc o) (fun h => h)
theorem MapAt.drew (h : MapAt w b M) : MapAt w.drew b M := h
theorem MapAt.drewN (h : MapAt w b M) (m : Nat) : MapAt (w.drewN m) b M := h
theorem MapAt.other (h : MapAt w b M) {p : Addr} (hp : p.block ≠ b) (v : Value) : MapAt (w.setCell p v) b M := by
  obtain ⟨D, h, r⟩ := h; exact ⟨D, h.setCell (fun e => hp e.symm) v, r⟩
theorem MapAt.congr {M' : Mp} (h : MapAt w b M) (e : ∀ i, i < 64 → M i = M' i) : MapAt w b M' := by
  obtain ⟨D, h, r⟩ := h
  exact ⟨D, h, ⟨by rw [r.size]; exact cntM_congr (fun i hi => by rw [e i hi]), fun i hi => by rw [r.has i hi, e i hi], fun i hi p l hM => r.at_ i hi p l (by rw [e i hi]; exact hM), r.keys⟩⟩
end
theorem grown_upd {w w' : World} {b : Nat} (h : w.grownBy w' (some b)) : Upd (· = b) w w' := ⟨h.os, h.tape, h.output, h.size, fun k hk hn => h.block k hk (fun e => hn (by cases e; rfl))⟩
def hP (x : Option (Int × Bool)) : Int := match x with | some y => y.1 | none => 0
def hL (x : Option (Int × Bool)) : Bool := match x with | some y => y.2 | none => false
section
variable {ops : Array Oper} {rest : List Oper} {o : Oper} {a : Act} {Q : Exit → Act → World → Prop}
theorem look_val {D : DataW Unit} {M : Mp} (r : Reads D M) {i : Nat} (hi : i < 64) {v : Value} {ps : List MemPlace} (hv : howR v = some (D.atKey (kl i) (howD 0 false), ps)) : v = .agg #[.int .i64 (hP (M i)), .bool (hL (M i))] := by
  obtain ⟨p, l, rfl, he⟩ := howR_inv hv
  simp only [Prod.mk.injEq] at he
  cases hM : M i with
  | none =>
    have h1 := r.has i hi
    rw [hM] at h1
    rw [atKey_of_not_has h1] at he
    obtain ⟨rfl, rfl⟩ := howD_inj he.1
    rfl
  | some y =>
    rw [r.at_ i hi y.1 y.2 hM] at he
    obtain ⟨rfl, rfl⟩ := howD_inj he.1
    rfl
theorem wpList_look (w : World) (hg : o.guard = none) (m x : Operand) (hop : o.op = Op.lookup 91 m x true) (b : Nat) (M : Mp) (i : Nat) (hi : i < 64) (hm : a.eval m = .map (some b)) (h : MapAt w b M) (hx : a.eval x = .int .i64 i)
    (hK : wpList Try.prog ops Q rest (a.put o.dst (.tuple #[.agg #[.int .i64 (hP (M i)), .bool (hL (M i))], .bool (M i).isSome])) w) : wpList Try.prog ops Q (o :: rest) a w := by
  obtain ⟨D, hown, r⟩ := h
  refine wpList_lookup_own_ok w hg m x 91 hop 3 96 kLaw Try.underlying91 howR (zeroHow w) (howD 0 false) [] (howR_mk 0 false) b _ D hm hown _ (kl i) hx (kl_key hi) (fun v ps hv => ?_)
  rw [look_val r hi hv, r.has i hi]
  exact hK
theorem wpList_get (w : World) (hg : o.guard = none) (m x : Operand) (hop : o.op = Op.lookup 91 m x false) (b : Nat) (M : Mp) (i : Nat) (hi : i < 64) (hm : a.eval m = .map (some b)) (h : MapAt w b M) (hx : a.eval x = .int .i64 i)
    (hK : wpList Try.prog ops Q rest (a.put o.dst (.agg #[.int .i64 (hP (M i)), .bool (hL (M i))])) w) : wpList Try.prog ops Q (o :: rest) a w := by
  obtain ⟨D, hown, r⟩ := h
  refine wpList_plain hg fun K' hK' => ?_
  obtain ⟨v, ps, hrun, hv⟩ := hown.lookup kLaw Try.underlying91 (zeroHow w) (howR_mk 0 false) (kl_key hi)
  rw [look_val r hi hv] at hrun
  unfold Oper.wp
  simp [execOp, hop, hm, hx, hrun, Result.andThen]
  exact hK' _ _ hK
theorem wpList_put (w : World) (hg : o.guard = none) (m x v : Operand) (hop : o.op = Op.mapUpdate 91 m x v) (b : Nat) (M : Mp) (i : Nat) (hi : i < 64) (p : Int) (l : Bool) (hm : a.eval m = .map (some b)) (h : MapAt w b M) (hx : a.eval x = .int .i64 i) (hv : a.eval v = .agg #[.int .i64 p, .bool l])
    (hK : ∀ w', MapAt w' b (updM M i (some (p, l))) → w.grownBy w' (some b) → wpList Try.prog ops Q rest (a.put o.dst undef) w') : wpList Try.prog ops Q (o :: rest) a w := by
  obtain ⟨D, hown, r⟩ := h
  have hle : Maps.size D ≤ 64 := by rw [r.size]; exact cntM_le _ _
  refine wpList_mapUpdate_own w hg m x v 91 hop 3 96 kLaw Try.underlying91 howR b _ D hm hown (by unfold maxLen; omega) _ _ (kl i) hx hv (kl_key hi) (howD p l) [] (howR_mk p l) (fun w' h1 h2 => ?_)
  exact hK w' ⟨_, own_size h1, r.put (hown.tidy kLaw) hi p l⟩ h2
theorem wpList_drop (w : World) (hg : o.guard = none) (m x : Operand) (hop : o.op = Op.call { callee := Callee.builtin Builtin.delete, args := #[m, x], argTypes := #[91, 3] }) (b : Nat) (M : Mp) (i : Nat) (hi : i < 64) (hm : a.eval m = .map (some b)) (h : MapAt w b M) (hx : a.eval x = .int .i64 i)
    (hK : ∀ w', MapAt w' b (updM M i none) → w.grownBy w' (some b) → wpList Try.prog ops Q rest (a.put o.dst (.tuple #[])) w') : wpList Try.prog ops Q (o :: rest) a w := by
  obtain ⟨D, hown, r⟩ := h
  refine wpList_delete_own w hg m x 91 3 hop 96 kLaw Try.underlying91 howR b _ D hm hown _ (kl i) hx (kl_key hi) (fun w' h1 h2 => ?_)
  exact hK w' ⟨_, own_size h1, r.del (hown.tidy kLaw) hi⟩ h2.grown
end
end Go.Proofs.Ytnebjbjdgfaooaa
