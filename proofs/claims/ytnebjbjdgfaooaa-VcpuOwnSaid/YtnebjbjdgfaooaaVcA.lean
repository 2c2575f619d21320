/- The program's virtual processors in memory: who owns which block; what an act does to them, abstractly; plain laws on changes of memory. -/
import Derived.Test.YtnebjbjdgfaooaaVcM
namespace Go.Proofs.Ytnebjbjdgfaooaa
open Go.RowKit Go.Maps
set_option maxRecDepth 100000
/-- One: its registers, its thread, its virtual interrupts. -/
structure Ax where
  sys : Nat → Int
  th : Int
  S : Vm
structure Am where
  lrs : Int
  loaded : Int
  all : Int → Option Ax
/-- One in memory: its block, those of its interrupts. -/
structure Px where
  x : Nat
  v : Nat
  mp : Nat
  ma : Nat
  sys : Nat → Int
  th : Int
  S : Vm
structure Pc where
  mb : Nat
  lrs : Int
  loaded : Int
  bank : Nat → Int
  all : Int → Option Px
def Pc.one (C : Pc) (i : Int) (P : Px) : Ax := ⟨if C.loaded = i then C.bank else P.sys, P.th, P.S⟩
def Pc.to (C : Pc) : Am := ⟨C.lrs, C.loaded, fun i => (C.all i).map (C.one i)⟩
def pcell (P : Px) (k : Nat) : Value := if k < 8 then .int .u32 (P.sys k) else if k = 8 then .pointer (some ⟨P.v, 0, none⟩) else .int .i64 P.th
def ccell (C : Pc) (k : Nat) : Value := if k = 0 then .int .i64 C.lrs else if k = 1 then .map (some C.mb) else if k < 10 then .int .u32 (C.bank (k - 2)) else .int .i64 C.loaded
abbrev Own := Nat → Option (Int × Nat)
structure VcOk (w : World) (o : Own) (p : Nat) (C : Pc) : Prop where
  row : RowAt w p 107 11 (ccell C)
  map : MapQ w C.mb (fun i => (C.all i).map Px.x)
  prow : ∀ i P, C.all i = some P → RowAt w P.x 110 10 (pcell P)
  vg : ∀ i P, C.all i = some P → VgAt w P.v P.mp P.ma P.S
  op : o p = some (-1, 0)
  om : o C.mb = some (-1, 1)
  ox : ∀ i P, C.all i = some P → o P.x = some (i, 0) ∧ o P.v = some (i, 1) ∧ o P.mp = some (i, 2) ∧ o P.ma = some (i, 3)
  lim : ∀ b, o b ≠ none → b < w.heap.size
  ld : (C.loaded = -1 ∧ C.bank = fun _ => 0) ∨ ∃ P, C.all C.loaded = some P
theorem own_ne {o : Own} {a b : Nat} {s t : Int × Nat} (h1 : o a = some s) (h2 : o b = some t) (hst : s ≠ t) : a ≠ b := by
  rintro rfl; rw [h1] at h2; exact hst (Option.some.inj h2)
/-- Blocks that are owned. -/
def Ow (o : Own) (b : Nat) : Prop := o b ≠ none
/-- Old blocks belong to whom they did. -/
def Ext (w : World) (o o' : Own) : Prop := ∀ b, b < w.heap.size → o' b = o b
theorem Ext.refl (w : World) (o : Own) : Ext w o o := fun _ _ => rfl
section
variable {w w' : World} {o : Own} {p : Nat} {C : Pc} {i : Int} {P : Px}
theorem VcOk.dom (h : VcOk w o p C) (hP : C.all i = some P) : 0 ≤ i ∧ i < 1024 := h.map.dom (x := P.x) (by simp [hP])
theorem VcOk.kept {X : Nat → Prop} (h : VcOk w o p C) (u : Upd X w w') (hn : ∀ b, Ow o b → ¬ X b) : VcOk w' o p C :=
  ⟨h.row.kept u (hn _ (by simp [Ow, h.op])), h.map.kept u (hn _ (by simp [Ow, h.om])), fun i P hP => (h.prow i P hP).kept u (hn _ (by simp [Ow, (h.ox i P hP).1])),
    fun i P hP => (h.vg i P hP).kept u (hn _ (by simp [Ow, (h.ox i P hP).2.1])) (hn _ (by simp [Ow, (h.ox i P hP).2.2.1])) (hn _ (by simp [Ow, (h.ox i P hP).2.2.2])),
    h.op, h.om, h.ox, fun b hb => Nat.lt_of_lt_of_le (h.lim b hb) u.size, h.ld⟩
theorem VcOk.below (h : VcOk w o p C) (u : Below w.heap.size w w') : VcOk w' o p C := h.kept (X := fun _ => False) (Upd.of_below u) (fun _ _ h => h)
theorem VcOk.alloc (h : VcOk w o p C) (x : Obj) : VcOk (w.alloc x) o p C := h.kept (X := fun _ => False) ((Upd.refl _ _).alloc x) (fun _ _ h => h)
theorem VcOk.drewN (h : VcOk w o p C) (m : Nat) : VcOk (w.drewN m) o p C := h.kept (X := fun _ => False) ((Upd.refl _ _).drewN m) (fun _ _ h => h)
theorem VcOk.drew (h : VcOk w o p C) : VcOk w.drew o p C := h.kept (X := fun _ => False) ((Upd.refl _ _).drew) (fun _ _ h => h)
theorem VcOk.lrs (h : VcOk w o p C) : w.cell? ⟨p, 0, none⟩ = some (.int .i64 C.lrs) := h.row.cell 0 (by omega)
theorem VcOk.mb (h : VcOk w o p C) : w.cell? ⟨p, 1, none⟩ = some (.map (some C.mb)) := h.row.cell 1 (by omega)
theorem VcOk.loaded (h : VcOk w o p C) : w.cell? ⟨p, 10, none⟩ = some (.int .i64 C.loaded) := h.row.cell 10 (by omega)
theorem ccell_bank (C : Pc) {k : Nat} (hk : k < 8) : ccell C (2 + k) = .int .u32 (C.bank k) := by
  unfold ccell; rw [if_neg (by omega), if_neg (by omega), if_pos (by omega), show 2 + k - 2 = k by omega]
theorem VcOk.bank (h : VcOk w o p C) {k : Nat} (hk : k < 8) : w.cell? ⟨p, 2 + k, none⟩ = some (.int .u32 (C.bank k)) := by
  rw [← ccell_bank C hk]; exact h.row.cell _ (by omega)
theorem VcOk.frozen (h : VcOk w o p C) (k : Nat) : w.frozen? ⟨p, k, none⟩ = false := h.row.frozen k
theorem VcOk.lt (h : VcOk w o p C) : p < w.heap.size := h.row.lt
theorem pcell_sys (P : Px) {k : Nat} (hk : k < 8) : pcell P k = .int .u32 (P.sys k) := by
  unfold pcell; rw [if_pos (by omega)]
theorem VcOk.sys (h : VcOk w o p C) (hP : C.all i = some P) {k : Nat} (hk : k < 8) : w.cell? ⟨P.x, k, none⟩ = some (.int .u32 (P.sys k)) := by
  rw [← pcell_sys P hk]; exact (h.prow i P hP).cell _ (by omega)
theorem VcOk.pv (h : VcOk w o p C) (hP : C.all i = some P) : w.cell? ⟨P.x, 8, none⟩ = some (.pointer (some ⟨P.v, 0, none⟩)) := (h.prow i P hP).cell 8 (by omega)
theorem VcOk.pth (h : VcOk w o p C) (hP : C.all i = some P) : w.cell? ⟨P.x, 9, none⟩ = some (.int .i64 P.th) := (h.prow i P hP).cell 9 (by omega)
theorem VcOk.pfrozen (h : VcOk w o p C) (hP : C.all i = some P) (k : Nat) : w.frozen? ⟨P.x, k, none⟩ = false := (h.prow i P hP).frozen k
theorem VcOk.px (h : VcOk w o p C) (hP : C.all i = some P) : P.x ≠ p := own_ne (h.ox i P hP).1 h.op (by have := h.dom hP; intro e; simp only [Prod.mk.injEq] at e; omega)
/-- One turns; its blocks stay its. -/
theorem VcOk.setp {X : Nat → Prop} (h : VcOk w o p C) (hP : C.all i = some P) (u : Upd X w w') (hX : ∀ b, X b → b = P.x ∨ b = P.v ∨ b = P.mp ∨ b = P.ma) (P' : Px)
    (e1 : P'.x = P.x) (e2 : P'.v = P.v) (e3 : P'.mp = P.mp) (e4 : P'.ma = P.ma) (hr : RowAt w' P.x 110 10 (pcell P')) (hv : VgAt w' P.v P.mp P.ma P'.S) :
    VcOk w' o p { C with all := updQ C.all i (some P') } := by
  have hd := h.dom hP
  obtain ⟨o1, o2, o3, o4⟩ := h.ox i P hP
  have hno : ∀ b s, o b = some s → s.1 ≠ i → ¬ X b := by
    intro b s hb hs hx
    rcases hX b hx with rfl | rfl | rfl | rfl
    · rw [o1] at hb; cases hb; exact hs rfl
    · rw [o2] at hb; cases hb; exact hs rfl
    · rw [o3] at hb; cases hb; exact hs rfl
    · rw [o4] at hb; cases hb; exact hs rfl
  have hof : ∀ j Q, (updQ C.all i (some P')) j = some Q → (j = i ∧ Q = P') ∨ (j ≠ i ∧ C.all j = some Q) := by
    intro j Q hQ
    by_cases e : j = i
    · subst e; rw [updQ_same] at hQ; cases hQ; exact Or.inl ⟨rfl, rfl⟩
    · rw [updQ_other _ _ e] at hQ; exact Or.inr ⟨e, hQ⟩
  refine ⟨h.row.kept u (hno _ _ h.op (by simp; omega)), (h.map.kept u (hno _ _ h.om (by simp; omega))).congr (fun j => ?_), fun j Q hQ => ?_, fun j Q hQ => ?_, h.op, h.om, fun j Q hQ => ?_, fun b hb => Nat.lt_of_lt_of_le (h.lim b hb) u.size, ?_⟩
  · by_cases e : j = i
    · subst e; simp only [updQ_same, hP, Option.map_some, e1]
    · simp only [updQ_other _ _ e]
  · rcases hof j Q hQ with ⟨rfl, rfl⟩ | ⟨hj, hQ⟩
    · rw [e1]; exact hr
    · exact (h.prow j Q hQ).kept u (hno _ _ (h.ox j Q hQ).1 hj)
  · rcases hof j Q hQ with ⟨rfl, rfl⟩ | ⟨hj, hQ⟩
    · rw [e2, e3, e4]; exact hv
    · exact (h.vg j Q hQ).kept u (hno _ _ (h.ox j Q hQ).2.1 hj) (hno _ _ (h.ox j Q hQ).2.2.1 hj) (hno _ _ (h.ox j Q hQ).2.2.2 hj)
  · rcases hof j Q hQ with ⟨rfl, rfl⟩ | ⟨hj, hQ⟩
    · rw [e1, e2, e3, e4]; exact ⟨o1, o2, o3, o4⟩
    · exact h.ox j Q hQ
  · rcases h.ld with hl | ⟨Q, hQ⟩
    · exact Or.inl hl
    · right
      show ∃ Q, updQ C.all i (some P') C.loaded = some Q
      by_cases e : C.loaded = i
      · rw [e, updQ_same]; exact ⟨_, rfl⟩
      · rw [updQ_other _ _ e]; exact ⟨Q, hQ⟩
/-- Its row alone turns. -/
theorem VcOk.setx (h : VcOk w o p C) (hP : C.all i = some P) (u : Upd (fun b => b = P.x) w w') (P' : Px) (e1 : P'.x = P.x) (e2 : P'.v = P.v) (e3 : P'.mp = P.mp) (e4 : P'.ma = P.ma) (e5 : P'.S = P.S)
    (hr : RowAt w' P.x 110 10 (pcell P')) : VcOk w' o p { C with all := updQ C.all i (some P') } := by
  obtain ⟨o1, o2, o3, o4⟩ := h.ox i P hP
  refine h.setp hP u (fun b hb => Or.inl hb) P' e1 e2 e3 e4 hr ?_
  rw [e5]
  exact (h.vg i P hP).kept u (own_ne o2 o1 (by simp)) (own_ne o3 o1 (by simp)) (own_ne o4 o1 (by simp))
/-- Its interrupts alone turn. -/
theorem VcOk.setv (h : VcOk w o p C) (hP : C.all i = some P) (u : Upd (Vb P.v P.mp P.ma) w w') (S : Vm) (hv : VgAt w' P.v P.mp P.ma S) :
    VcOk w' o p { C with all := updQ C.all i (some { P with S := S }) } := by
  obtain ⟨o1, o2, o3, o4⟩ := h.ox i P hP
  refine h.setp hP u (fun b hb => Or.inr hb) { P with S := S } rfl rfl rfl rfl ?_ hv
  exact (h.prow i P hP).kept u (fun e => e.elim (own_ne o1 o2 (by simp)) (fun e => e.elim (own_ne o1 o3 (by simp)) (own_ne o1 o4 (by simp))))
/-- The bank, or who is loaded, turns. -/
theorem VcOk.setc (h : VcOk w o p C) (u : Upd (fun b => b = p) w w') (C' : Pc) (e1 : C'.mb = C.mb) (e2 : C'.all = C.all) (hr : RowAt w' p 107 11 (ccell C'))
    (hl : (C'.loaded = -1 ∧ C'.bank = fun _ => 0) ∨ ∃ P, C'.all C'.loaded = some P) : VcOk w' o p C' := by
  have hno : ∀ b s, o b = some s → s ≠ (-1, 0) → ¬ b = p := fun b s hb hs e => by subst e; rw [h.op] at hb; cases hb; exact hs rfl
  have hi : ∀ i P, C.all i = some P → ∀ k : Nat, ((i, k) : Int × Nat) ≠ (-1, 0) := fun i P hP k e => by have := h.dom hP; simp only [Prod.mk.injEq] at e; omega
  refine ⟨hr, ?_, ?_, ?_, h.op, ?_, ?_, fun b hb => Nat.lt_of_lt_of_le (h.lim b hb) u.size, hl⟩
  · rw [e1, e2]; exact h.map.kept u (hno _ _ h.om (by simp))
  · rw [e2]; exact fun i P hP => (h.prow i P hP).kept u (hno _ _ (h.ox i P hP).1 (hi i P hP 0))
  · rw [e2]; exact fun i P hP => (h.vg i P hP).kept u (hno _ _ (h.ox i P hP).2.1 (hi i P hP 1)) (hno _ _ (h.ox i P hP).2.2.1 (hi i P hP 2)) (hno _ _ (h.ox i P hP).2.2.2 (hi i P hP 3))
  · rw [e1]; exact h.om
  · rw [e2]; exact h.ox
/-- One comes. -/
def ownN (o : Own) (i : Int) (P : Px) : Own := fun b => if b = P.x then some (i, 0) else if b = P.v then some (i, 1) else if b = P.mp then some (i, 2) else if b = P.ma then some (i, 3) else o b
theorem VcOk.add (h : VcOk w o p C) (hi : 0 ≤ i ∧ i < 1024) (hn : C.all i = none) (u : Upd (fun b => b = C.mb) w w') (P : Px)
    (f1 : w.heap.size ≤ P.x ∧ P.x < w'.heap.size) (f2 : w.heap.size ≤ P.v) (f3 : w.heap.size ≤ P.mp) (f4 : w.heap.size ≤ P.ma) (n1 : P.x ≠ P.v ∧ P.x ≠ P.mp ∧ P.x ≠ P.ma)
    (hr : RowAt w' P.x 110 10 (pcell P)) (hv : VgAt w' P.v P.mp P.ma P.S) (hm : MapQ w' C.mb (updQ (fun j => (C.all j).map Px.x) i (some P.x))) :
    VcOk w' (ownN o i P) p { C with all := updQ C.all i (some P) } ∧ Ext w o (ownN o i P) := by
  have hx : Ext w o (ownN o i P) := by
    intro b hb
    unfold ownN
    rw [if_neg (by omega), if_neg (by omega), if_neg (by omega), if_neg (by omega)]
  have hof : ∀ j Q, (updQ C.all i (some P)) j = some Q → (j = i ∧ Q = P) ∨ (j ≠ i ∧ C.all j = some Q) := by
    intro j Q hQ
    by_cases e : j = i
    · subst e; rw [updQ_same] at hQ; cases hQ; exact Or.inl ⟨rfl, rfl⟩
    · rw [updQ_other _ _ e] at hQ; exact Or.inr ⟨e, hQ⟩
  have hold : ∀ b s, o b = some s → ownN o i P b = some s := fun b s hb => by rw [hx b (h.lim b (by simp [hb]))]; exact hb
  have hnm : ∀ b s, o b = some s → s ≠ (-1, 1) → ¬ b = C.mb := fun b s hb hs e => by subst e; rw [h.om] at hb; cases hb; exact hs rfl
  have hj : ∀ j Q, C.all j = some Q → ∀ k : Nat, ((j, k) : Int × Nat) ≠ (-1, 1) := fun j Q hQ k e => by have := h.dom hQ; simp only [Prod.mk.injEq] at e; omega
  refine ⟨⟨h.row.kept u (hnm _ _ h.op (by simp)), hm.congr (fun j => ?_), fun j Q hQ => ?_, fun j Q hQ => ?_, hold _ _ h.op, hold _ _ h.om, fun j Q hQ => ?_, fun b hb => ?_, ?_⟩, hx⟩
  · by_cases e : j = i
    · subst e; simp only [updQ_same, Option.map_some]
    · simp only [updQ_other _ _ e]
  · rcases hof j Q hQ with ⟨rfl, rfl⟩ | ⟨_, hQ⟩
    · exact hr
    · exact (h.prow j Q hQ).kept u (hnm _ _ (h.ox j Q hQ).1 (hj j Q hQ 0))
  · rcases hof j Q hQ with ⟨rfl, rfl⟩ | ⟨_, hQ⟩
    · exact hv
    · exact (h.vg j Q hQ).kept u (hnm _ _ (h.ox j Q hQ).2.1 (hj j Q hQ 1)) (hnm _ _ (h.ox j Q hQ).2.2.1 (hj j Q hQ 2)) (hnm _ _ (h.ox j Q hQ).2.2.2 (hj j Q hQ 3))
  · rcases hof j Q hQ with ⟨rfl, rfl⟩ | ⟨_, hQ⟩
    · have q1 := hv.ne1; have q2 := hv.ne2; have q3 := hv.ne3
      unfold ownN
      refine ⟨if_pos rfl, ?_, ?_, ?_⟩
      · rw [if_neg (fun e => n1.1 e.symm), if_pos rfl]
      · rw [if_neg (fun e => n1.2.1 e.symm), if_neg q2, if_pos rfl]
      · rw [if_neg (fun e => n1.2.2 e.symm), if_neg q3, if_neg (fun e => q1 e.symm), if_pos rfl]
    · obtain ⟨a1, a2, a3, a4⟩ := h.ox j Q hQ
      exact ⟨hold _ _ a1, hold _ _ a2, hold _ _ a3, hold _ _ a4⟩
  · have l1 := hv.lt; have l2 := hv.pe.lt; have l3 := hv.ac.lt
    unfold ownN at hb
    split at hb
    · omega
    split at hb
    · omega
    split at hb
    · omega
    split at hb
    · omega
    · exact Nat.lt_of_lt_of_le (h.lim b hb) u.size
  · rcases h.ld with hl | ⟨Q, hQ⟩
    · exact Or.inl hl
    · right
      show ∃ Q, updQ C.all i (some P) C.loaded = some Q
      rw [updQ_other _ _ (fun e => by rw [e, hn] at hQ; cases hQ)]
      exact ⟨Q, hQ⟩
/-- One goes that is not loaded. -/
theorem VcOk.del (h : VcOk w o p C) (hl : C.loaded ≠ i) (u : Upd (fun b => b = C.mb) w w') (hm : MapQ w' C.mb (updQ (fun j => (C.all j).map Px.x) i none)) :
    VcOk w' o p { C with all := updQ C.all i none } := by
  have hof : ∀ j Q, (updQ C.all i none) j = some Q → j ≠ i ∧ C.all j = some Q := by
    intro j Q hQ
    by_cases e : j = i
    · subst e; rw [updQ_same] at hQ; cases hQ
    · rw [updQ_other _ _ e] at hQ; exact ⟨e, hQ⟩
  have hnm : ∀ b s, o b = some s → s ≠ (-1, 1) → ¬ b = C.mb := fun b s hb hs e => by subst e; rw [h.om] at hb; cases hb; exact hs rfl
  have hj : ∀ j Q, C.all j = some Q → ∀ k : Nat, ((j, k) : Int × Nat) ≠ (-1, 1) := fun j Q hQ k e => by have := h.dom hQ; simp only [Prod.mk.injEq] at e; omega
  refine ⟨h.row.kept u (hnm _ _ h.op (by simp)), hm.congr (fun j => ?_), fun j Q hQ => ?_, fun j Q hQ => ?_, h.op, h.om, fun j Q hQ => ?_, fun b hb => Nat.lt_of_lt_of_le (h.lim b hb) u.size, ?_⟩
  · by_cases e : j = i
    · subst e; simp only [updQ_same, Option.map_none]
    · simp only [updQ_other _ _ e]
  · have hQ := (hof j Q hQ).2
    exact (h.prow j Q hQ).kept u (hnm _ _ (h.ox j Q hQ).1 (hj j Q hQ 0))
  · have hQ := (hof j Q hQ).2
    exact (h.vg j Q hQ).kept u (hnm _ _ (h.ox j Q hQ).2.1 (hj j Q hQ 1)) (hnm _ _ (h.ox j Q hQ).2.2.1 (hj j Q hQ 2)) (hnm _ _ (h.ox j Q hQ).2.2.2 (hj j Q hQ 3))
  · exact h.ox j Q (hof j Q hQ).2
  · rcases h.ld with hl | ⟨Q, hQ⟩
    · exact Or.inl hl
    · right
      show ∃ Q, updQ C.all i none C.loaded = some Q
      rw [updQ_other _ _ hl]
      exact ⟨Q, hQ⟩
end
end Go.Proofs.Ytnebjbjdgfaooaa
