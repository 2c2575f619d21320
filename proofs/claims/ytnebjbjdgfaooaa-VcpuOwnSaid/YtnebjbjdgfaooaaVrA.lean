/- The reference's virtual processors: plain laws of their list; their memory: who owns which block; no condition. -/
import Derived.Test.YtnebjbjdgfaooaaVcH
import Derived.Test.YtnebjbjdgfaooaaVgX
import Derived.Laws.OwnMore
import Derived.Maps.AppendAt
namespace Go.Proofs.Ytnebjbjdgfaooaa
open Go.RowKit Go.Maps
set_option maxRecDepth 100000
/-- One of the reference: its number, thread, registers, the block of its interrupts, what stands there. -/
structure Ro where
  id : Int
  th : Int
  sys : Nat → Int
  v : Nat
  R : Rm
def Ro.ax (x : Ro) : Ax := ⟨x.sys, x.th, x.R.to⟩
def cellsO (x : Ro) : List Value := [.int .i64 x.id, .int .i64 x.th, .int .u32 (x.sys 0), .int .u32 (x.sys 1), .int .u32 (x.sys 2), .int .u32 (x.sys 3), .int .u32 (x.sys 4), .int .u32 (x.sys 5), .int .u32 (x.sys 6), .int .u32 (x.sys 7), .pointer (some ⟨x.v, 0, none⟩)]
def cellsR (L : List Ro) : List Value := L.flatMap cellsO
theorem cellsO_len (x : Ro) : (cellsO x).length = 11 := rfl
theorem cellsR_len (L : List Ro) : (cellsR L).length = L.length * 11 := by
  induction L with
  | nil => rfl
  | cons x L ih => simp only [cellsR, List.flatMap_cons, List.length_append, cellsO_len, List.length_cons] at ih ⊢; omega
theorem cellsR_get {L : List Ro} {j : Nat} {x : Ro} (h : L[j]? = some x) {m : Nat} (hm : m < 11) : (cellsR L)[j * 11 + m]? = (cellsO x)[m]? := by
  induction L generalizing j with
  | nil => simp at h
  | cons y L ih =>
    have e : cellsR (y :: L) = cellsO y ++ cellsR L := by simp [cellsR]
    rw [e]
    cases j with
    | zero =>
      simp at h; subst h
      rw [List.getElem?_append_left (by rw [cellsO_len]; omega), Nat.zero_mul, Nat.zero_add]
    | succ j =>
      rw [List.getElem?_append_right (by rw [cellsO_len]; omega), cellsO_len, show (j + 1) * 11 + m - 11 = j * 11 + m by omega]
      exact ih (by simpa using h)
theorem cellsR_set {L : List Ro} {j : Nat} {x x' : Ro} (h : L[j]? = some x) {m : Nat} (hm : m < 11) {u : Value} (he : (cellsO x).set m u = cellsO x') : (cellsR L).set (j * 11 + m) u = cellsR (L.set j x') := by
  induction L generalizing j with
  | nil => simp at h
  | cons y L ih =>
    have e : ∀ (z : Ro) (M : List Ro), cellsR (z :: M) = cellsO z ++ cellsR M := fun z M => by simp [cellsR]
    rw [e]
    cases j with
    | zero =>
      simp at h; subst h
      rw [List.set_cons_zero, e, Nat.zero_mul, Nat.zero_add, List.set_append_left _ _ (by rw [cellsO_len]; omega), he]
    | succ j =>
      rw [List.set_cons_succ, e, List.set_append_right _ _ (by rw [cellsO_len]; omega), cellsO_len, show (j + 1) * 11 + m - 11 = j * 11 + m by omega, ih (by simpa using h)]
theorem cellsR_snoc (L : List Ro) (x : Ro) : cellsR (L ++ [x]) = cellsR L ++ cellsO x := by simp [cellsR]
theorem cellsR_take (L : List Ro) (j : Nat) : (cellsR L).take (j * 11) = cellsR (L.take j) := by
  induction L generalizing j with
  | nil => simp [cellsR]
  | cons y L ih =>
    have e : ∀ (z : Ro) (M : List Ro), cellsR (z :: M) = cellsO z ++ cellsR M := fun z M => by simp [cellsR]
    cases j with
    | zero => simp [cellsR]
    | succ j => rw [e, List.take_succ_cons, e, List.take_append, cellsO_len, List.take_of_length_le (by rw [cellsO_len]; omega), show (j + 1) * 11 - 11 = j * 11 by omega, ih]
theorem cellsR_drop (L : List Ro) (j : Nat) : (cellsR L).drop (j * 11) = cellsR (L.drop j) := by
  induction L generalizing j with
  | nil => simp [cellsR]
  | cons y L ih =>
    have e : ∀ (z : Ro) (M : List Ro), cellsR (z :: M) = cellsO z ++ cellsR M := fun z M => by simp [cellsR]
    cases j with
    | zero => simp
    | succ j => rw [e, List.drop_succ_cons, List.drop_append, cellsO_len, List.drop_of_length_le (by rw [cellsO_len]; omega), show (j + 1) * 11 - 11 = j * 11 by omega, ih]; rfl
theorem cellsR_app (L M : List Ro) : cellsR (L ++ M) = cellsR L ++ cellsR M := by simp [cellsR]
def fnd (L : List Ro) (i : Int) : Option Ro := L.find? (fun x => decide (x.id = i))
def Nd (L : List Ro) : Prop := (L.map Ro.id).Nodup
theorem fnd_none {L : List Ro} {i : Int} (h : ∀ x ∈ L, x.id ≠ i) : fnd L i = none := by
  unfold fnd
  rw [List.find?_eq_none]
  intro x hx
  simpa using h x hx
theorem fnd_cases (L : List Ro) (i : Int) : (fnd L i = none ∧ ∀ x ∈ L, x.id ≠ i) ∨ ∃ (j : Nat) (x : Ro), L[j]? = some x ∧ x.id = i ∧ fnd L i = some x := by
  cases h : fnd L i with
  | none =>
    refine Or.inl ⟨rfl, fun x hx => ?_⟩
    have := List.find?_eq_none.1 h x hx
    simpa using this
  | some x =>
    have h1 := List.find?_some h
    obtain ⟨j, hj⟩ := List.getElem?_of_mem (List.mem_of_find?_eq_some h)
    exact Or.inr ⟨j, x, hj, by simpa using h1, rfl⟩
theorem fnd_at {L : List Ro} (hn : Nd L) {j : Nat} {x : Ro} (h : L[j]? = some x) : fnd L x.id = some x := by
  induction L generalizing j with
  | nil => simp at h
  | cons y L ih =>
    simp only [Nd, List.map_cons, List.nodup_cons] at hn
    unfold fnd
    cases j with
    | zero => simp at h; subst h; simp
    | succ j =>
      have hx : x ∈ L := List.mem_of_getElem? (i := j) (by simpa using h)
      have hne : ¬ y.id = x.id := fun e => hn.1 (by rw [e]; exact List.mem_map_of_mem hx)
      rw [List.find?_cons_of_neg (by simpa using hne)]
      exact ih hn.2 (by simpa using h)
theorem fnd_set {L : List Ro} (hn : Nd L) {j : Nat} {x x' : Ro} (h : L[j]? = some x) (he : x'.id = x.id) (i : Int) : fnd (L.set j x') i = if i = x.id then some x' else fnd L i := by
  induction L generalizing j with
  | nil => simp at h
  | cons y L ih =>
    simp only [Nd, List.map_cons, List.nodup_cons] at hn
    cases j with
    | zero =>
      simp at h; subst h
      rw [List.set_cons_zero]
      unfold fnd
      by_cases e : i = y.id
      · subst e; rw [if_pos rfl, List.find?_cons_of_pos (by simp [he])]
      · rw [if_neg e, List.find?_cons_of_neg (by rw [he]; simpa using fun h => e h.symm), List.find?_cons_of_neg (by simpa using fun h => e h.symm)]
    | succ j =>
      rw [List.set_cons_succ]
      have h' : L[j]? = some x := by simpa using h
      have hx : x ∈ L := List.mem_of_getElem? h'
      have hne : ¬ y.id = x.id := fun e => hn.1 (by rw [e]; exact List.mem_map_of_mem hx)
      have hi := ih hn.2 h'
      unfold fnd at hi ⊢
      by_cases e : y.id = i
      · rw [List.find?_cons_of_pos (by simpa using e), List.find?_cons_of_pos (by simpa using e), if_neg (by omega)]
      · rw [List.find?_cons_of_neg (by simpa using e), List.find?_cons_of_neg (by simpa using e), hi]
theorem nd_set {L : List Ro} (hn : Nd L) {j : Nat} {x x' : Ro} (h : L[j]? = some x) (he : x'.id = x.id) : Nd (L.set j x') := by
  have : (L.set j x').map Ro.id = L.map Ro.id := by
    rw [List.map_set, he]
    apply List.ext_getElem?
    intro k
    rw [List.getElem?_set]
    split
    · rename_i e; subst e
      split
      · rw [List.getElem?_map, h]; rfl
      · rename_i h2; rw [List.length_map] at h2; rw [List.getElem?_eq_none (by simpa using h2)]
    · rfl
  unfold Nd; rw [this]; exact hn
theorem fnd_app (L M : List Ro) (i : Int) : fnd (L ++ M) i = (fnd L i).or (fnd M i) := by unfold fnd; rw [List.find?_append]
theorem nd_snoc {L : List Ro} (hn : Nd L) {x : Ro} (h : ∀ y ∈ L, y.id ≠ x.id) : Nd (L ++ [x]) := by
  unfold Nd at *
  rw [List.map_append, List.nodup_append]
  refine ⟨hn, by simp, fun a ha b hb => ?_⟩
  obtain ⟨y, hy, rfl⟩ := List.mem_map.1 ha
  simp at hb; subst hb
  exact h y hy
theorem cut_of {L : List Ro} {j : Nat} {x : Ro} (h : L[j]? = some x) : L = L.take j ++ x :: L.drop (j + 1) := by
  obtain ⟨hj, e⟩ := List.getElem?_eq_some_iff.1 h
  rw [← e]
  have h1 : L.drop j = L[j] :: L.drop (j + 1) := List.drop_eq_getElem_cons hj
  rw [← h1, List.take_append_drop]
theorem nd_cut {L : List Ro} (hn : Nd L) {j : Nat} {x : Ro} (h : L[j]? = some x) : Nd (L.take j ++ L.drop (j + 1)) ∧ ∀ y ∈ L.take j ++ L.drop (j + 1), y.id ≠ x.id := by
  have e := cut_of h
  generalize L.take j = A at e ⊢
  generalize L.drop (j + 1) = B at e ⊢
  subst e
  unfold Nd at *
  rw [List.map_append, List.map_cons, List.nodup_append, List.nodup_cons] at hn
  obtain ⟨h1, ⟨h2, h3⟩, h4⟩ := hn
  refine ⟨?_, fun y hy => ?_⟩
  · rw [List.map_append, List.nodup_append]
    exact ⟨h1, h3, fun a ha b hb => h4 a ha b (List.mem_cons_of_mem _ hb)⟩
  · rcases List.mem_append.1 hy with hy | hy
    · exact h4 _ (List.mem_map_of_mem hy) _ List.mem_cons_self
    · exact fun e => h2 (by rw [← e]; exact List.mem_map_of_mem hy)
theorem fnd_cut {L : List Ro} (hn : Nd L) {j : Nat} {x : Ro} (h : L[j]? = some x) (i : Int) : fnd (L.take j ++ L.drop (j + 1)) i = if i = x.id then none else fnd L i := by
  by_cases e : i = x.id
  · subst e; rw [if_pos rfl]; exact fnd_none (nd_cut hn h).2
  · rw [if_neg e]
    have e1 := cut_of h
    generalize L.take j = A at e1 ⊢
    generalize L.drop (j + 1) = B at e1 ⊢
    subst e1
    rw [fnd_app, fnd_app]
    congr 1
    unfold fnd
    rw [List.find?_cons_of_neg (by simpa using fun h => e h.symm)]
theorem nd_len {L : List Ro} (hn : Nd L) (hd : ∀ x ∈ L, 0 ≤ x.id ∧ x.id < 1024) : L.length ≤ 1024 := by
  have h := List.Nodup.length_le_of_subset (l₂ := (List.range 1024).map (fun n : Nat => (n : Int))) hn (fun a ha => by
    obtain ⟨x, hx, rfl⟩ := List.mem_map.1 ha
    have := hd x hx
    exact List.mem_map.2 ⟨x.id.toNat, by rw [List.mem_range]; omega, by omega⟩)
  rw [List.length_map, List.length_map, List.length_range] at h
  exact h
structure Rc where
  sl : Value
  lrs : Int
  loaded : Int
  L : List Ro
def Rc.to (C : Rc) : Am := ⟨C.lrs, C.loaded, fun i => (fnd C.L i).map Ro.ax⟩
def rcell (C : Rc) (k : Nat) : Value := if k = 0 then C.sl else if k = 1 then .int .i64 C.lrs else .int .i64 C.loaded
structure RcOk (w : World) (o : Own) (r : Nat) (C : Rc) : Prop where
  row : RowAt w r 116 3 (rcell C)
  sl : w.ownsRow 0 118 11 C.sl C.L.length (cellsR C.L)
  vg : ∀ x ∈ C.L, RfAt w x.v x.R
  or : o r = some (-1, 0)
  os : ∀ q, C.sl.ownBlock = some q → o q = some (-1, 1)
  ov : ∀ x ∈ C.L, o x.v = some (x.id, 0)
  nd : Nd C.L
  dom : ∀ x ∈ C.L, 0 ≤ x.id ∧ x.id < 1024
  th : ∀ x ∈ C.L, -1 ≤ x.th
  lim : ∀ b, o b ≠ none → b < w.heap.size
  ld : C.loaded = -1 ∨ ∃ x ∈ C.L, x.id = C.loaded
section
variable {w w' : World} {o : Own} {r : Nat} {C : Rc}
theorem own_kept {base : Nat} {e : TypeId} {size : Nat} {v : Value} {n : Nat} {xs : List Value} {X : Nat → Prop} (h : w.ownsRow base e size v n xs) (u : Upd X w w') (hn : ∀ q, v.ownBlock = some q → ¬ X q) : w'.ownsRow base e size v n xs := by
  refine ⟨h.1, ?_⟩
  rcases h.2 with h' | ⟨g, cap, cur, hv, hb, hg, h1, h2, h3, h4⟩
  · exact Or.inl h'
  · refine Or.inr ⟨g, cap, cur, hv, hb, ?_, h1, h2, h3, h4⟩
    rw [u.block g (Array.getElem?_eq_some_iff.1 hg).1 (hn g (by rw [hv]; rfl))]
    exact hg
theorem RcOk.kept {X : Nat → Prop} (h : RcOk w o r C) (u : Upd X w w') (hn : ∀ b, Ow o b → ¬ X b) : RcOk w' o r C :=
  ⟨h.row.kept u (hn _ (by simp [Ow, h.or])), own_kept h.sl u (fun q hq => hn _ (by simp [Ow, h.os q hq])), fun x hx => (h.vg x hx).kept u (hn _ (by simp [Ow, h.ov x hx])),
    h.or, h.os, h.ov, h.nd, h.dom, h.th, fun b hb => Nat.lt_of_lt_of_le (h.lim b hb) u.size, h.ld⟩
theorem RcOk.below (h : RcOk w o r C) (u : Below w.heap.size w w') : RcOk w' o r C := h.kept (X := fun _ => False) (Upd.of_below u) (fun _ _ h => h)
theorem RcOk.alloc (h : RcOk w o r C) (x : Obj) : RcOk (w.alloc x) o r C := h.kept (X := fun _ => False) ((Upd.refl _ _).alloc x) (fun _ _ h => h)
theorem RcOk.drewN (h : RcOk w o r C) (m : Nat) : RcOk (w.drewN m) o r C := h.kept (X := fun _ => False) ((Upd.refl _ _).drewN m) (fun _ _ h => h)
theorem RcOk.drew (h : RcOk w o r C) : RcOk w.drew o r C := h.kept (X := fun _ => False) ((Upd.refl _ _).drew) (fun _ _ h => h)
theorem RcOk.csl (h : RcOk w o r C) : w.cell? ⟨r, 0, none⟩ = some C.sl := h.row.cell 0 (by omega)
theorem RcOk.clrs (h : RcOk w o r C) : w.cell? ⟨r, 1, none⟩ = some (.int .i64 C.lrs) := h.row.cell 1 (by omega)
theorem RcOk.cld (h : RcOk w o r C) : w.cell? ⟨r, 2, none⟩ = some (.int .i64 C.loaded) := h.row.cell 2 (by omega)
theorem RcOk.frozen (h : RcOk w o r C) (k : Nat) : w.frozen? ⟨r, k, none⟩ = false := h.row.frozen k
theorem RcOk.lt (h : RcOk w o r C) : r < w.heap.size := h.row.lt
theorem RcOk.len (h : RcOk w o r C) : C.L.length ≤ 1024 := nd_len h.nd h.dom
/-- The slice: nothing, or a block. -/
theorem RcOk.form (h : RcOk w o r C) : (C.sl = .slice none 0 0 ∧ C.L = []) ∨ ∃ q cap, C.sl = .slice (some ⟨q, 0, none⟩) C.L.length cap ∧ C.L.length ≤ cap ∧ o q = some (-1, 1) := by
  rcases h.sl.2 with ⟨h1, h2⟩ | ⟨q, cap, cur, hv, _, _, h1, _⟩
  · exact Or.inl ⟨h1, List.eq_nil_of_length_eq_zero h2⟩
  · exact Or.inr ⟨q, cap, hv, h1, h.os q (by rw [hv]; rfl)⟩
theorem RcOk.ocell (h : RcOk w o r C) {q cap : Nat} (hs : C.sl = .slice (some ⟨q, 0, none⟩) C.L.length cap) {j : Nat} {x : Ro} (hj : C.L[j]? = some x) {m : Nat} (hm : m < 11) {u : Value} (hu : (cellsO x)[m]? = some u) : w.cell? ⟨q, j * 11 + m, none⟩ = some u := by
  have hl : j < C.L.length := (List.getElem?_eq_some_iff.1 hj).1
  have h1 := h.sl
  rw [hs] at h1
  rw [h1.cellAt (j * 11 + m) (by omega), cellsR_get hj hm, hu]
theorem RcOk.ofrozen (h : RcOk w o r C) {q cap : Nat} (hs : C.sl = .slice (some ⟨q, 0, none⟩) C.L.length cap) (k : Nat) : w.frozen? ⟨q, k, none⟩ = false := by
  have h1 := h.sl
  rw [hs] at h1
  exact h1.frozenAt k
theorem RcOk.qne (h : RcOk w o r C) {q : Nat} (hq : o q = some (-1, 1)) : q ≠ r := own_ne hq h.or (by simp)
/-- An entry's cell turns. -/
theorem RcOk.sto (h : RcOk w o r C) {q cap : Nat} (hs : C.sl = .slice (some ⟨q, 0, none⟩) C.L.length cap) {j : Nat} {x x' : Ro} (hj : C.L[j]? = some x) {m : Nat} (hm : m < 11) {u : Value} (he : (cellsO x).set m u = cellsO x') (e1 : x'.id = x.id) (e2 : x'.v = x.v) (e3 : x'.R = x.R) (e4 : -1 ≤ x'.th) :
    RcOk (w.setCell ⟨q, j * 11 + m, none⟩ u) o r { C with L := C.L.set j x' } ∧ Upd (Ow o) w (w.setCell ⟨q, j * 11 + m, none⟩ u) := by
  have hq : o q = some (-1, 1) := h.os q (by rw [hs]; rfl)
  have hu : Upd (fun b => b = q) w (w.setCell ⟨q, j * 11 + m, none⟩ u) := Upd.setCell (S := fun b => b = q) (Upd.refl _ _) (p := ⟨q, j * 11 + m, none⟩) (Or.inl rfl) _
  have hx : x ∈ C.L := List.mem_of_getElem? hj
  have hm' : ∀ y ∈ C.L.set j x', y = x' ∨ y ∈ C.L := fun y hy => (List.mem_or_eq_of_mem_set hy).symm
  have hne : ∀ y ∈ C.L, y.v ≠ q := fun y hy => own_ne (h.ov y hy) hq (by have := h.dom y hy; intro e; simp only [Prod.mk.injEq] at e; omega)
  refine ⟨⟨h.row.kept hu (own_ne h.or hq (by simp)), ?_, fun y hy => ?_, h.or, h.os, fun y hy => ?_, nd_set h.nd hj e1, fun y hy => ?_, fun y hy => ?_, fun b hb => Nat.lt_of_lt_of_le (h.lim b hb) hu.size, ?_⟩, hu.mono (fun k hk => by subst hk; simp [Ow, hq])⟩
  · show (w.setCell ⟨q, j * 11 + m, none⟩ u).ownsRow 0 118 11 C.sl (C.L.set j x').length (cellsR (C.L.set j x'))
    have h1 := h.sl
    rw [hs] at h1 ⊢
    rw [List.length_set, ← cellsR_set hj hm he]
    exact (h1.stored (j * 11 + m) u).1
  · rcases hm' y hy with rfl | hy
    · rw [e2, e3]; exact (h.vg x hx).kept hu (hne x hx)
    · exact (h.vg y hy).kept hu (hne y hy)
  · rcases hm' y hy with rfl | hy
    · rw [e1, e2]; exact h.ov x hx
    · exact h.ov y hy
  · rcases hm' y hy with rfl | hy
    · rw [e1]; exact h.dom x hx
    · exact h.dom y hy
  · rcases hm' y hy with rfl | hy
    · exact e4
    · exact h.th y hy
  · rcases h.ld with hl | ⟨y, hy, hl⟩
    · exact Or.inl hl
    · right
      obtain ⟨k, hk⟩ := List.getElem?_of_mem hy
      by_cases e : j = k
      · subst e
        rw [hj] at hk; cases hk
        exact ⟨x', List.mem_of_getElem? (i := j) (by rw [List.getElem?_set_self (List.getElem?_eq_some_iff.1 hj).1]), by rw [e1]; exact hl⟩
      · exact ⟨y, List.mem_of_getElem? (i := k) (by rw [List.getElem?_set_ne e]; exact hk), hl⟩
/-- Its interrupts turn. -/
theorem RcOk.stv (h : RcOk w o r C) {j : Nat} {x : Ro} (hj : C.L[j]? = some x) (u : Upd (Ob x.v) w w') (R' : Rm) (hv : RfAt w' x.v R') :
    RcOk w' o r { C with L := C.L.set j { x with R := R' } } ∧ Upd (Ow o) w w' := by
  have hx : x ∈ C.L := List.mem_of_getElem? hj
  have hm' : ∀ y ∈ C.L.set j { x with R := R' }, y = { x with R := R' } ∨ y ∈ C.L.set j { x with R := R' } ∧ ∃ k, k ≠ j ∧ C.L[k]? = some y := fun y hy => by
    obtain ⟨k, hk⟩ := List.getElem?_of_mem hy
    by_cases e : j = k
    · subst e
      rw [List.getElem?_set_self (List.getElem?_eq_some_iff.1 hj).1] at hk
      exact Or.inl (Option.some.inj hk).symm
    · rw [List.getElem?_set_ne e] at hk
      exact Or.inr ⟨hy, k, fun h => e h.symm, hk⟩
  have hne : ∀ k y, k ≠ j → C.L[k]? = some y → y.v ≠ x.v := fun k y hk hy => own_ne (h.ov y (List.mem_of_getElem? hy)) (h.ov x hx) (fun e => by
    simp only [Prod.mk.injEq, and_true] at e
    have h1 : (C.L.map Ro.id)[k]? = some x.id := by rw [List.getElem?_map, hy]; simp [e]
    have h2 : (C.L.map Ro.id)[j]? = some x.id := by rw [List.getElem?_map, hj]; rfl
    exact hk ((List.getElem?_inj (List.getElem?_eq_some_iff.1 h1).1 h.nd).1 (h1.trans h2.symm)))
  have hno : ∀ b s, o b = some s → s ≠ (x.id, 0) → ¬ Ob x.v b := fun b s hb hs e => by unfold Ob at e; subst e; rw [h.ov x hx] at hb; exact hs (Option.some.inj hb).symm
  have hd := h.dom x hx
  have hcells : cellsR (C.L.set j { x with R := R' }) = cellsR C.L := by
    rw [← cellsR_set (u := .int .i64 x.id) (m := 0) hj (by omega) (by rfl)]
    apply List.ext_getElem?
    intro k
    rw [List.getElem?_set]
    split
    · rename_i e; subst e
      split
      · rw [cellsR_get hj (by omega)]; rfl
      · rename_i h2; rw [List.getElem?_eq_none (by omega)]
    · rfl
  refine ⟨⟨h.row.kept u (hno _ _ h.or (by simp; omega)), ?_, fun y hy => ?_, h.or, h.os, fun y hy => ?_, nd_set h.nd hj rfl, fun y hy => ?_, fun y hy => ?_, fun b hb => Nat.lt_of_lt_of_le (h.lim b hb) u.size, ?_⟩, u.mono (fun k hk => by unfold Ob at hk; subst hk; simp [Ow, h.ov x hx])⟩
  · show w'.ownsRow 0 118 11 C.sl (C.L.set j { x with R := R' }).length (cellsR (C.L.set j { x with R := R' }))
    rw [List.length_set, hcells]
    exact own_kept h.sl u (fun q hq => hno _ _ (h.os q hq) (by simp))
  · rcases hm' y hy with rfl | ⟨_, k, hk, hy⟩
    · exact hv
    · exact (h.vg y (List.mem_of_getElem? hy)).kept u (hne k y hk hy)
  · rcases hm' y hy with rfl | ⟨_, k, hk, hy⟩
    · exact h.ov x hx
    · exact h.ov y (List.mem_of_getElem? hy)
  · rcases hm' y hy with rfl | ⟨_, k, hk, hy⟩
    · exact hd
    · exact h.dom y (List.mem_of_getElem? hy)
  · rcases hm' y hy with rfl | ⟨_, k, hk, hy⟩
    · exact h.th x hx
    · exact h.th y (List.mem_of_getElem? hy)
  · rcases h.ld with hl | ⟨y, hy, hl⟩
    · exact Or.inl hl
    · right
      obtain ⟨k, hk⟩ := List.getElem?_of_mem hy
      by_cases e : j = k
      · subst e
        rw [hj] at hk; cases hk
        exact ⟨{ x with R := R' }, List.mem_of_getElem? (i := j) (by rw [List.getElem?_set_self (List.getElem?_eq_some_iff.1 hj).1]), hl⟩
      · exact ⟨y, List.mem_of_getElem? (i := k) (by rw [List.getElem?_set_ne e]; exact hk), hl⟩
/-- Another one is loaded. -/
theorem RcOk.stl (h : RcOk w o r C) (l : Int) (hl : l = -1 ∨ ∃ x ∈ C.L, x.id = l) : RcOk (w.setCell ⟨r, 2, none⟩ (.int .i64 l)) o r { C with loaded := l } ∧ Upd (Ow o) w (w.setCell ⟨r, 2, none⟩ (.int .i64 l)) := by
  have hu : Upd (fun b => b = r) w (w.setCell ⟨r, 2, none⟩ (.int .i64 l)) := Upd.setCell (S := fun b => b = r) (Upd.refl _ _) (p := ⟨r, 2, none⟩) (Or.inl rfl) _
  refine ⟨⟨(h.row.set 2 _).congr fun k hk => ?_, own_kept h.sl hu (fun q hq => own_ne (h.os q hq) h.or (by simp)), fun x hx => (h.vg x hx).kept hu (own_ne (h.ov x hx) h.or (by have := h.dom x hx; intro e; simp only [Prod.mk.injEq] at e; omega)),
    h.or, h.os, h.ov, h.nd, h.dom, h.th, fun b hb => Nat.lt_of_lt_of_le (h.lim b hb) hu.size, hl⟩, hu.mono (fun k hk => by subst hk; simp [Ow, h.or])⟩
  rcases (by omega : k = 0 ∨ k = 1 ∨ k = 2) with rfl | rfl | rfl <;> rfl
end
theorem rto_none {C : Rc} {i : Int} (h : ∀ x ∈ C.L, x.id ≠ i) : C.to.all i = none := by simp [Rc.to, fnd_none h]
theorem rto_at {w : World} {o : Own} {r : Nat} {C : Rc} (h : RcOk w o r C) {j : Nat} {x : Ro} (hj : C.L[j]? = some x) : C.to.all x.id = some x.ax := by simp [Rc.to, fnd_at h.nd hj]
theorem rto_cases (C : Rc) (i : Int) : (C.to.all i = none ∧ ∀ x ∈ C.L, x.id ≠ i) ∨ ∃ (j : Nat) (x : Ro), C.L[j]? = some x ∧ x.id = i := by
  rcases fnd_cases C.L i with ⟨h1, h2⟩ | ⟨j, x, h1, h2, h3⟩
  · exact Or.inl ⟨by simp [Rc.to, h1], h2⟩
  · exact Or.inr ⟨j, x, h1, h2⟩
theorem rto_set {w : World} {o : Own} {r : Nat} {C : Rc} (h : RcOk w o r C) {j : Nat} {x x' : Ro} (hj : C.L[j]? = some x) (he : x'.id = x.id) : Rc.to { C with L := C.L.set j x' } = { C.to with all := updQ C.to.all x.id (some x'.ax) } := by
  refine Am.ext' rfl rfl ?_
  funext i
  show (fnd (C.L.set j x') i).map Ro.ax = updQ C.to.all x.id (some x'.ax) i
  rw [fnd_set h.nd hj he]
  by_cases e : i = x.id
  · rw [if_pos e, e, updQ_same]; rfl
  · rw [if_neg e, updQ_other _ _ e]; rfl
end Go.Proofs.Ytnebjbjdgfaooaa
