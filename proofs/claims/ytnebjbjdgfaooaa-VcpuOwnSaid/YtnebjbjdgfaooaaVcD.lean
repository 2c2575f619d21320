/- The contracts of vcpu.Leave, Enter, Unbind, Drop; no condition but numbers of 64 bits. -/
import Derived.Test.YtnebjbjdgfaooaaVcC
import Derived.Deep.MidRow
namespace Go.Proofs.Ytnebjbjdgfaooaa
open Go.RowKit Go.Maps
set_option maxRecDepth 100000
theorem VcOk.i64l {w : World} {o : Own} {p : Nat} {C : Pc} (h : VcOk w o p C) : i64 C.loaded := by
  rcases h.ld with ⟨e, _⟩ | ⟨P, e⟩
  · rw [e]; exact i64_of (by omega)
  · have := h.dom e
    exact i64_of (by omega)
def Pc.lv (C : Pc) (j : Int) (P : Px) : Px := { P with sys := (C.one j P).sys }
def leaveC (C : Pc) : Pc := { C with loaded := -1, bank := fun _ => 0, all := fun j => (C.all j).map (C.lv j) }
theorem lv_same {C : Pc} {j : Int} {P : Px} (h : C.loaded ≠ j) : C.lv j P = P := by simp only [Pc.lv, Pc.one, if_neg h]
theorem lv_bank {C : Pc} {P : Px} : C.lv C.loaded P = { P with sys := C.bank } := by simp only [Pc.lv, Pc.one, if_true]
theorem leave_some {C : Pc} {P : Px} (hP : C.all C.loaded = some P) : leaveC C = { C with loaded := -1, bank := fun _ => 0, all := updQ C.all C.loaded (some { P with sys := C.bank }) } := by
  have e : (fun j => (C.all j).map (C.lv j)) = updQ C.all C.loaded (some { P with sys := C.bank }) := by
    funext j
    by_cases h : j = C.loaded
    · subst h; rw [updQ_same, hP, Option.map_some, lv_bank]
    · rw [updQ_other _ _ h]
      cases C.all j with
      | none => rfl
      | some Q => rw [Option.map_some, lv_same (fun e => h e.symm)]
  unfold leaveC
  rw [e]
theorem leave_none {C : Pc} (hP : C.all C.loaded = none) : leaveC C = { C with loaded := -1, bank := fun _ => 0 } := by
  have e : (fun j => (C.all j).map (C.lv j)) = C.all := by
    funext j
    by_cases h : j = C.loaded
    · subst h; rw [hP]; rfl
    · cases C.all j with
      | none => rfl
      | some Q => rw [Option.map_some, lv_same (fun e => h e.symm)]
  unfold leaveC
  rw [e]
def leaveA (A : Am) : Am := { A with loaded := -1 }
theorem info75 : (Try.prog.info? 75).map (·.size) = some 8 := by kernel_rfl
theorem Upd.setCells {b : Nat} (vs : List Value) : ∀ (o : Nat) (w w0 : World), Upd (fun c => c = b) w0 w → Upd (fun c => c = b) w0 (w.setCells b o vs) := by
  induction vs with
  | nil => intro o w w0 h; exact h
  | cons v r ih => intro o w w0 h; exact ih _ _ _ (h.setCell (Or.inl rfl) _)
theorem RowAt.setCells {b : Nat} {T : TypeId} {n : Nat} (vs : List Value) : ∀ (o : Nat) (w : World) (f : Nat → Value), RowAt w b T n f → RowAt (w.setCells b o vs) b T n (fun j => if o ≤ j ∧ j < o + vs.length then vs[j - o]?.getD undef else f j) := by
  induction vs with
  | nil => intro o w f h; exact h.congr (fun j _ => by rw [if_neg (by simp)])
  | cons v r ih =>
    intro o w f h
    refine (ih (o + 1) _ _ (h.set o v)).congr fun j _ => ?_
    simp only [List.length_cons]
    by_cases e : j = o
    · subst e
      rw [if_neg (by omega), if_pos rfl, if_pos (by omega)]
      simp
    · by_cases h1 : o + 1 ≤ j ∧ j < o + 1 + r.length
      · rw [if_pos h1, if_pos (by omega)]
        obtain ⟨m, rfl⟩ : ∃ m, j = o + 1 + m := ⟨j - o - 1, by omega⟩
        rw [show o + 1 + m - (o + 1) = m by omega, show o + 1 + m - o = m + 1 by omega]
        simp
      · rw [if_neg h1, if_neg e, if_neg (by omega)]
theorem VcOk.brange {w : World} {o : Own} {p : Nat} {C : Pc} (h : VcOk w o p C) : w.rangeAt p 2 [.int .u32 (C.bank 0), .int .u32 (C.bank 1), .int .u32 (C.bank 2), .int .u32 (C.bank 3), .int .u32 (C.bank 4), .int .u32 (C.bank 5), .int .u32 (C.bank 6), .int .u32 (C.bank 7)] := by
  intro j v hv
  match j, hv with
  | 0, hv => simp at hv; subst hv; exact h.bank (k := 0) (by omega)
  | 1, hv => simp at hv; subst hv; exact h.bank (k := 1) (by omega)
  | 2, hv => simp at hv; subst hv; exact h.bank (k := 2) (by omega)
  | 3, hv => simp at hv; subst hv; exact h.bank (k := 3) (by omega)
  | 4, hv => simp at hv; subst hv; exact h.bank (k := 4) (by omega)
  | 5, hv => simp at hv; subst hv; exact h.bank (k := 5) (by omega)
  | 6, hv => simp at hv; subst hv; exact h.bank (k := 6) (by omega)
  | 7, hv => simp at hv; subst hv; exact h.bank (k := 7) (by omega)
  | j + 8, hv => simp at hv
theorem VcOk.prange {w : World} {o : Own} {p : Nat} {C : Pc} {i : Int} {P : Px} (h : VcOk w o p C) (hP : C.all i = some P) : w.rangeAt P.x 0 [.int .u32 (P.sys 0), .int .u32 (P.sys 1), .int .u32 (P.sys 2), .int .u32 (P.sys 3), .int .u32 (P.sys 4), .int .u32 (P.sys 5), .int .u32 (P.sys 6), .int .u32 (P.sys 7)] := by
  intro j v hv
  match j, hv with
  | 0, hv => simp at hv; subst hv; exact h.sys hP (k := 0) (by omega)
  | 1, hv => simp at hv; subst hv; exact h.sys hP (k := 1) (by omega)
  | 2, hv => simp at hv; subst hv; exact h.sys hP (k := 2) (by omega)
  | 3, hv => simp at hv; subst hv; exact h.sys hP (k := 3) (by omega)
  | 4, hv => simp at hv; subst hv; exact h.sys hP (k := 4) (by omega)
  | 5, hv => simp at hv; subst hv; exact h.sys hP (k := 5) (by omega)
  | 6, hv => simp at hv; subst hv; exact h.sys hP (k := 6) (by omega)
  | 7, hv => simp at hv; subst hv; exact h.sys hP (k := 7) (by omega)
  | j + 8, hv => simp at hv
theorem VcOk.bthere {w : World} {o : Own} {p : Nat} {C : Pc} (h : VcOk w o p C) : w.there p 2 8 := fun j hj => ⟨by rw [h.bank hj]; rfl, h.frozen _⟩
theorem VcOk.pthere {w : World} {o : Own} {p : Nat} {C : Pc} {i : Int} {P : Px} (h : VcOk w o p C) (hP : C.all i = some P) : w.there P.x 0 8 := fun j hj => ⟨by rw [Nat.zero_add, h.sys hP hj]; rfl, by rw [Nat.zero_add]; exact h.pfrozen hP _⟩
/-- Eight numbers come into one's registers. -/
theorem VcOk.stx {w : World} {o : Own} {p : Nat} {C : Pc} {i : Int} {P : Px} (h : VcOk w o p C) (hP : C.all i = some P) (f : Nat → Int) :
    VcOk (w.setCells P.x 0 [.int .u32 (f 0), .int .u32 (f 1), .int .u32 (f 2), .int .u32 (f 3), .int .u32 (f 4), .int .u32 (f 5), .int .u32 (f 6), .int .u32 (f 7)]) o p { C with all := updQ C.all i (some { P with sys := f }) } := by
  refine h.setx hP (Upd.setCells _ _ _ _ (Upd.refl _ _)) { P with sys := f } rfl rfl rfl rfl rfl ?_
  refine (RowAt.setCells _ 0 w _ (h.prow i P hP)).congr fun k hk => ?_
  simp only [List.length_cons, List.length_nil]
  rcases (by omega : k = 0 ∨ k = 1 ∨ k = 2 ∨ k = 3 ∨ k = 4 ∨ k = 5 ∨ k = 6 ∨ k = 7 ∨ k = 8 ∨ k = 9) with rfl | rfl | rfl | rfl | rfl | rfl | rfl | rfl | rfl | rfl <;> rfl
/-- Eight numbers come into the bank. -/
theorem VcOk.stb {w : World} {o : Own} {p : Nat} {C : Pc} (h : VcOk w o p C) (f : Nat → Int) (hl : (C.loaded = -1 ∧ f = fun _ => 0) ∨ ∃ P, C.all C.loaded = some P) :
    VcOk (w.setCells p 2 [.int .u32 (f 0), .int .u32 (f 1), .int .u32 (f 2), .int .u32 (f 3), .int .u32 (f 4), .int .u32 (f 5), .int .u32 (f 6), .int .u32 (f 7)]) o p { C with bank := f } := by
  refine h.setc (Upd.setCells _ _ _ _ (Upd.refl _ _)) { C with bank := f } rfl rfl ?_ hl
  refine (RowAt.setCells _ 2 w _ h.row).congr fun k hk => ?_
  simp only [List.length_cons, List.length_nil]
  rcases (by omega : k = 0 ∨ k = 1 ∨ k = 2 ∨ k = 3 ∨ k = 4 ∨ k = 5 ∨ k = 6 ∨ k = 7 ∨ k = 8 ∨ k = 9 ∨ k = 10) with rfl | rfl | rfl | rfl | rfl | rfl | rfl | rfl | rfl | rfl | rfl <;> rfl
/-- Another one is loaded. -/
theorem VcOk.stl {w : World} {o : Own} {p : Nat} {C : Pc} (h : VcOk w o p C) (l : Int) (hl : (l = -1 ∧ C.bank = fun _ => 0) ∨ ∃ P, C.all l = some P) :
    VcOk (w.setCell ⟨p, 10, none⟩ (.int .i64 l)) o p { C with loaded := l } := by
  have hu : Upd (fun b => b = p) w (w.setCell ⟨p, 10, none⟩ (.int .i64 l)) := Upd.setCell (S := fun b => b = p) (Upd.refl _ _) (p := ⟨p, 10, none⟩) (Or.inl rfl) _
  refine h.setc hu { C with loaded := l } rfl rfl ?_ hl
  refine (h.row.set 10 _).congr fun k hk => ?_
  rcases (by omega : k = 0 ∨ k = 1 ∨ k = 2 ∨ k = 3 ∨ k = 4 ∨ k = 5 ∨ k = 6 ∨ k = 7 ∨ k = 8 ∨ k = 9 ∨ k = 10) with rfl | rfl | rfl | rfl | rfl | rfl | rfl | rfl | rfl | rfl | rfl <;> rfl
/-- Both. -/
theorem VcOk.stbl {w : World} {o : Own} {p : Nat} {C : Pc} (h : VcOk w o p C) (f : Nat → Int) (l : Int) (hl : (l = -1 ∧ f = fun _ => 0) ∨ ∃ P, C.all l = some P) :
    VcOk ((w.setCells p 2 [.int .u32 (f 0), .int .u32 (f 1), .int .u32 (f 2), .int .u32 (f 3), .int .u32 (f 4), .int .u32 (f 5), .int .u32 (f 6), .int .u32 (f 7)]).setCell ⟨p, 10, none⟩ (.int .i64 l)) o p { C with bank := f, loaded := l } ∧ Upd (fun b => b = p) w ((w.setCells p 2 [.int .u32 (f 0), .int .u32 (f 1), .int .u32 (f 2), .int .u32 (f 3), .int .u32 (f 4), .int .u32 (f 5), .int .u32 (f 6), .int .u32 (f 7)]).setCell ⟨p, 10, none⟩ (.int .i64 l)) := by
  have hu : Upd (fun c => c = p) w ((w.setCells p 2 [.int .u32 (f 0), .int .u32 (f 1), .int .u32 (f 2), .int .u32 (f 3), .int .u32 (f 4), .int .u32 (f 5), .int .u32 (f 6), .int .u32 (f 7)]).setCell ⟨p, 10, none⟩ (.int .i64 l)) := Upd.setCell (Upd.setCells (b := p) _ _ _ _ (Upd.refl _ _)) (p := ⟨p, 10, none⟩) (Or.inl rfl) _
  refine ⟨h.setc hu { C with bank := f, loaded := l } rfl rfl ?_ hl, hu⟩
  refine ((RowAt.setCells _ 2 w _ h.row).set 10 _).congr fun k hk => ?_
  rcases (by omega : k = 0 ∨ k = 1 ∨ k = 2 ∨ k = 3 ∨ k = 4 ∨ k = 5 ∨ k = 6 ∨ k = 7 ∨ k = 8 ∨ k = 9 ∨ k = 10) with rfl | rfl | rfl | rfl | rfl | rfl | rfl | rfl | rfl | rfl | rfl <;> rfl
section
variable {ops : Array Oper} {rest : List Oper} {op : Oper} {a : Act} {Q : Exit → Act → World → Prop} {w : World} {o : Own} {p : Nat} {C : Pc}
theorem wpList_ldb (x : Operand) (h : VcOk w o p C) (hg : op.guard = none) (hop : op.op = .load 75 x) (hx : a.eval x = .pointer (some ⟨p, 2, none⟩))
    (hK : wpList Try.prog ops Q rest (a.put op.dst (.agg #[.int .u32 (C.bank 0), .int .u32 (C.bank 1), .int .u32 (C.bank 2), .int .u32 (C.bank 3), .int .u32 (C.bank 4), .int .u32 (C.bank 5), .int .u32 (C.bank 6), .int .u32 (C.bank 7)])) w) : wpList Try.prog ops Q (op :: rest) a w :=
  wpList_load_mid hg 75 x hop p 2 hx [.int .u32 (C.bank 0), .int .u32 (C.bank 1), .int .u32 (C.bank 2), .int .u32 (C.bank 3), .int .u32 (C.bank 4), .int .u32 (C.bank 5), .int .u32 (C.bank 6), .int .u32 (C.bank 7)] _ h.brange Try.underlying75 rfl info75 hK
theorem wpList_ldx (x : Operand) {i : Int} {P : Px} (h : VcOk w o p C) (hP : C.all i = some P) (hg : op.guard = none) (hop : op.op = .load 75 x) (hx : a.eval x = .pointer (some ⟨P.x, 0, none⟩))
    (hK : wpList Try.prog ops Q rest (a.put op.dst (.agg #[.int .u32 (P.sys 0), .int .u32 (P.sys 1), .int .u32 (P.sys 2), .int .u32 (P.sys 3), .int .u32 (P.sys 4), .int .u32 (P.sys 5), .int .u32 (P.sys 6), .int .u32 (P.sys 7)])) w) : wpList Try.prog ops Q (op :: rest) a w :=
  wpList_load_mid hg 75 x hop P.x 0 hx [.int .u32 (P.sys 0), .int .u32 (P.sys 1), .int .u32 (P.sys 2), .int .u32 (P.sys 3), .int .u32 (P.sys 4), .int .u32 (P.sys 5), .int .u32 (P.sys 6), .int .u32 (P.sys 7)] _ (h.prange hP) Try.underlying75 rfl info75 hK
theorem wpList_stx (x y : Operand) {i : Int} {P : Px} (h : VcOk w o p C) (hP : C.all i = some P) (f : Nat → Int) (hg : op.guard = none) (hop : op.op = .store 75 x y) (hx : a.eval x = .pointer (some ⟨P.x, 0, none⟩)) (hy : a.eval y = .agg #[.int .u32 (f 0), .int .u32 (f 1), .int .u32 (f 2), .int .u32 (f 3), .int .u32 (f 4), .int .u32 (f 5), .int .u32 (f 6), .int .u32 (f 7)])
    (hK : ∀ w', VcOk w' o p { C with all := updQ C.all i (some { P with sys := f }) } → Upd (fun b => b = P.x) w w' → wpList Try.prog ops Q rest (a.put op.dst undef) w') : wpList Try.prog ops Q (op :: rest) a w :=
  wpList_store_mid hg 75 x y hop P.x 0 #[.int .u32 (f 0), .int .u32 (f 1), .int .u32 (f 2), .int .u32 (f 3), .int .u32 (f 4), .int .u32 (f 5), .int .u32 (f 6), .int .u32 (f 7)] hx hy (h.pthere hP) info75 (by kernel_rfl) (hK _ (h.stx hP f) (Upd.setCells (b := P.x) [.int .u32 (f 0), .int .u32 (f 1), .int .u32 (f 2), .int .u32 (f 3), .int .u32 (f 4), .int .u32 (f 5), .int .u32 (f 6), .int .u32 (f 7)] 0 w w (Upd.refl _ _)))
theorem wpList_stb0 (x y : Operand) (h : VcOk w o p C) (f : Nat → Int) (hg : op.guard = none) (hop : op.op = .store 75 x y) (hx : a.eval x = .pointer (some ⟨p, 2, none⟩)) (hy : a.eval y = .agg #[.int .u32 (f 0), .int .u32 (f 1), .int .u32 (f 2), .int .u32 (f 3), .int .u32 (f 4), .int .u32 (f 5), .int .u32 (f 6), .int .u32 (f 7)])
    (hK : ∀ w', w'.cell? ⟨p, 10, none⟩ = some (.int .i64 C.loaded) → (∀ k, w'.frozen? ⟨p, k, none⟩ = false) → (∀ l, ((l = -1 ∧ f = fun _ => 0) ∨ ∃ P, C.all l = some P) → VcOk (w'.setCell ⟨p, 10, none⟩ (.int .i64 l)) o p { C with bank := f, loaded := l } ∧ Upd (fun b => b = p) w (w'.setCell ⟨p, 10, none⟩ (.int .i64 l))) → wpList Try.prog ops Q rest (a.put op.dst undef) w') : wpList Try.prog ops Q (op :: rest) a w :=
  wpList_store_mid hg 75 x y hop p 2 #[.int .u32 (f 0), .int .u32 (f 1), .int .u32 (f 2), .int .u32 (f 3), .int .u32 (f 4), .int .u32 (f 5), .int .u32 (f 6), .int .u32 (f 7)] hx hy h.bthere info75 (by kernel_rfl) (hK _ ((World.cell?_setCells_out p _ 2 w ⟨p, 10, none⟩ (fun _ _ => Or.inr (by simp))).trans h.loaded) (fun k => (World.frozen?_setCells p _ 2 w _).trans (h.frozen k)) (h.stbl f))
theorem wpList_stb (x y : Operand) (h : VcOk w o p C) (f : Nat → Int) (hl : (C.loaded = -1 ∧ f = fun _ => 0) ∨ ∃ P, C.all C.loaded = some P) (hg : op.guard = none) (hop : op.op = .store 75 x y) (hx : a.eval x = .pointer (some ⟨p, 2, none⟩)) (hy : a.eval y = .agg #[.int .u32 (f 0), .int .u32 (f 1), .int .u32 (f 2), .int .u32 (f 3), .int .u32 (f 4), .int .u32 (f 5), .int .u32 (f 6), .int .u32 (f 7)])
    (hK : ∀ w', VcOk w' o p { C with bank := f } → Upd (fun b => b = p) w w' → wpList Try.prog ops Q rest (a.put op.dst undef) w') : wpList Try.prog ops Q (op :: rest) a w :=
  wpList_store_mid hg 75 x y hop p 2 #[.int .u32 (f 0), .int .u32 (f 1), .int .u32 (f 2), .int .u32 (f 3), .int .u32 (f 4), .int .u32 (f 5), .int .u32 (f 6), .int .u32 (f 7)] hx hy h.bthere info75 (by kernel_rfl) (hK _ (h.stb f hl) (Upd.setCells (b := p) [.int .u32 (f 0), .int .u32 (f 1), .int .u32 (f 2), .int .u32 (f 3), .int .u32 (f 4), .int .u32 (f 5), .int .u32 (f 6), .int .u32 (f 7)] 2 w w (Upd.refl _ _)))
end
theorem Upd.own {w0 w w' : World} {o : Own} {b : Nat} (h : Upd (Ow o) w0 w) (u : Upd (fun c => c = b) w w') (hb : Ow o b) : Upd (Ow o) w0 w' := h.trans (u.mono (fun k hk => by subst hk; exact hb))
theorem VcOk.owp {w : World} {o : Own} {p : Nat} {C : Pc} (h : VcOk w o p C) : Ow o p := by simp [Ow, h.op]
theorem VcOk.owm {w : World} {o : Own} {p : Nat} {C : Pc} (h : VcOk w o p C) : Ow o C.mb := by simp [Ow, h.om]
theorem VcOk.owx {w : World} {o : Own} {p : Nat} {C : Pc} {i : Int} {P : Px} (h : VcOk w o p C) (hP : C.all i = some P) : Ow o P.x := by simp [Ow, (h.ox i P hP).1]
theorem Am.ext' {a b : Am} (h1 : a.lrs = b.lrs) (h2 : a.loaded = b.loaded) (h3 : a.all = b.all) : a = b := by
  cases a; cases b; cases h1; cases h2; cases h3; rfl
theorem to_leave {w : World} {o : Own} {p : Nat} {C : Pc} (h : VcOk w o p C) : (leaveC C).to = leaveA C.to := by
  have e : (leaveC C).to.all = C.to.all := by
    funext j
    cases hj : C.all j with
    | none => rw [to_none (C := leaveC C) (by simp [leaveC, hj]), to_none hj]
    | some P =>
      have := h.dom hj
      rw [to_some (C := leaveC C) (P := C.lv j P) (by simp [leaveC, hj]), to_some hj]
      have hj' : ¬ (leaveC C).loaded = j := by show ¬ (-1 : Int) = j; omega
      have hk : (leaveC C).one j (C.lv j P) = ⟨(C.lv j P).sys, P.th, P.S⟩ := by unfold Pc.one; rw [if_neg hj']; rfl
      rw [hk]; rfl
  exact Am.ext' rfl rfl e
theorem to_enter {C : Pc} {id : Int} {P : Px} (hP : C.all id = some P) : Pc.to { leaveC C with bank := (C.lv id P).sys, loaded := id } = { C.to with loaded := id } := by
  have e : (Pc.to { leaveC C with bank := (C.lv id P).sys, loaded := id }).all = C.to.all := by
    funext j
    cases hj : C.all j with
    | none => rw [to_none (C := { leaveC C with bank := (C.lv id P).sys, loaded := id }) (by simp [leaveC, hj]), to_none hj]
    | some Q =>
      rw [to_some (C := { leaveC C with bank := (C.lv id P).sys, loaded := id }) (P := C.lv j Q) (by simp [leaveC, hj]), to_some hj]
      simp only [Pc.one, Pc.lv]
      by_cases hi : id = j
      · subst hi; rw [hP] at hj; cases hj; rw [if_pos rfl]
      · rw [if_neg hi]
  exact Am.ext' rfl rfl e
set_option maxHeartbeats 8000000 in
theorem cleave_any (p : Nat) (o : Own) (C : Pc) (w : World) (h : VcOk w o p C) :
    Calls Try.prog 38 #[.pointer (some ⟨p, 0, none⟩)] w fun e w' => e = .returned (.tuple #[]) ∧ VcOk w' o p (leaveC C) ∧ Upd (Ow o) w w' := by
  have H := Lib.hid h; clear h
  have c1 := H.out.mb
  have c10 := H.out.loaded
  have hlk := getq_run H.out.drew.map H.out.i64l
  cases hP : C.all C.loaded with
  | some P =>
    simp only [hP, Option.map_some, qv] at hlk
    go_enter Try.func38, Try.ntmps38
    go_wp2_with fail
    go_still_tail 9, (by kernel_rfl)
    change wpList _ _ _ _ _ w.drew
    have H2 := Lib.hid H.out.drew
    have HU : Hid (Upd (Ow o) w w.drew) := Lib.hid (Upd.refl _ _).drew
    generalize w.drew = w2 at H2 HU ⊢
    clear c1 c10 hlk
    go_wp2_with (first | (refine wpList_ldb _ H2.out rfl rfl rfl ?_) | (refine wpList_stx _ _ H2.out hP C.bank rfl rfl rfl rfl ?_; intro w3 h3 u3; have H3 := Lib.hid h3; have U3 := Lib.hid (HU.out.own u3 (H2.out.owx hP)); clear h3 u3) | (refine wpList_stb _ _ H3.out (fun _ => 0) (Or.inr ⟨_, updQ_same _ _ _⟩) rfl rfl rfl rfl ?_; intro w4 h4 u4; have H4 := Lib.hid h4; have U4 := Lib.hid (U3.out.own u4 H3.out.owp); clear h4 u4; have c10 := H4.out.loaded; have hf := H4.out.frozen))
    exact bodyPost_end (v := .tuple #[]) (by first | rfl | simp [results, Try.results38, go_sem]) rfl ⟨rfl, by rw [leave_some hP]; exact H4.out.stl (-1) (Or.inl ⟨rfl, rfl⟩), U4.out.setCell (Or.inl H4.out.owp) _⟩
  | none =>
    simp only [hP, Option.map_none, qv] at hlk
    have HLD : Hid (C.loaded = -1) := Lib.hid (by
      rcases H.out.ld with ⟨e, _⟩ | ⟨P, e⟩
      · exact e
      · rw [e] at hP; cases hP)
    go_enter Try.func38, Try.ntmps38
    go_wp2_with fail
    go_still_tail 9, (by kernel_rfl)
    change wpList _ _ _ _ _ w.drew
    have H2 := Lib.hid H.out.drew
    have HU : Hid (Upd (Ow o) w w.drew) := Lib.hid (Upd.refl _ _).drew
    generalize w.drew = w2 at H2 HU ⊢
    clear c1 c10 hlk
    go_wp2_with (refine wpList_stb _ _ H2.out (fun _ => 0) (Or.inl ⟨HLD.out, rfl⟩) rfl rfl rfl rfl ?_; intro w4 h4 u4; have H4 := Lib.hid h4; have U4 := Lib.hid (HU.out.own u4 H2.out.owp); clear h4 u4; have c10 := H4.out.loaded; have hf := H4.out.frozen)
    exact bodyPost_end (v := .tuple #[]) (by first | rfl | simp [results, Try.results38, go_sem]) rfl ⟨rfl, by rw [leave_none hP]; exact H4.out.stl (-1) (Or.inl ⟨rfl, rfl⟩), U4.out.setCell (Or.inl H4.out.owp) _⟩
theorem leave_at {C : Pc} {id : Int} {P : Px} (hP : C.all id = some P) : (leaveC C).all id = some (C.lv id P) := by simp [leaveC, hP]
def enterA (A : Am) (id : Int) : Am × Int := match A.all id with | none => (A, 181) | some _ => ({ A with loaded := id }, 0)
set_option maxHeartbeats 8000000 in
theorem center_any (p : Nat) (o : Own) (C : Pc) (id : Int) (hid : i64 id) (w : World) (h : VcOk w o p C) :
    Calls Try.prog 32 #[.pointer (some ⟨p, 0, none⟩), .int .i64 id] w fun e w' => e = .returned (.int .i64 (enterA C.to id).2) ∧ Stp w w' o p (enterA C.to id).1 := by
  have H := Lib.hid h; clear h
  have c1 := H.out.mb
  cases hP : C.all id with
  | none =>
    have hA : enterA C.to id = (C.to, 181) := by unfold enterA; rw [to_none hP]
    rw [hA]
    clear hA
    go_enter Try.func32, Try.ntmps32
    go_wp2_with (at_lookup; refine wpList_getq _ rfl _ _ rfl C.mb _ id hid rfl H.out.map rfl ?_; simp only [hP, Option.map_none, qv])
    go_ret
    exact ⟨rfl, stp_same H.out⟩
  | some P =>
    have hA : enterA C.to id = ({ C.to with loaded := id }, 0) := by unfold enterA; rw [to_some hP]
    rw [hA]
    clear hA
    go_enter Try.func32, Try.ntmps32
    go_wp2_with (at_lookup; refine wpList_getq _ rfl _ _ rfl C.mb _ id hid rfl H.out.map rfl ?_; simp only [hP, Option.map_some, qv])
    refine (cleave_any p o C _ H.out).mono ?_
    rintro e w1 ⟨rfl, h1, u1⟩
    have H1 := Lib.hid h1
    have U1 := Lib.hid u1
    have hQ := leave_at hP
    have hx : P.x = (C.lv id P).x := rfl
    rw [hx]
    clear h1 u1 c1
    go_wp2_with (first | (refine wpList_ldx _ H1.out hQ rfl rfl rfl ?_) | (refine wpList_stb0 _ _ H1.out (C.lv id P).sys rfl rfl rfl rfl ?_; intro w4 c10 hf h4; have H4 := Lib.hid h4; clear h4))
    go_ret
    obtain ⟨h5, u5⟩ := H4.out id (Or.inr ⟨_, hQ⟩)
    exact ⟨rfl, o, _, h5, to_enter hP, Ext.refl _ _, U1.out.own u5 H1.out.owp⟩
def unbindA (A : Am) (id : Int) : Am × Int := match A.all id with | none => (A, 181) | some x => if x.th = -1 then (A, 180) else ({ A with all := updQ A.all id (some { x with th := -1 }) }, 0)
/-- One has another thread. -/
theorem VcOk.stt {w : World} {o : Own} {p : Nat} {C : Pc} {i : Int} {P : Px} (h : VcOk w o p C) (hP : C.all i = some P) (t : Int) :
    VcOk (w.setCell ⟨P.x, 9, none⟩ (.int .i64 t)) o p { C with all := updQ C.all i (some { P with th := t }) } := by
  have hu : Upd (fun b => b = P.x) w (w.setCell ⟨P.x, 9, none⟩ (.int .i64 t)) := Upd.setCell (S := fun b => b = P.x) (Upd.refl _ _) (p := ⟨P.x, 9, none⟩) (Or.inl rfl) _
  refine h.setx hP hu { P with th := t } rfl rfl rfl rfl rfl ?_
  refine ((h.prow i P hP).set 9 _).congr fun k hk => ?_
  rcases (by omega : k = 0 ∨ k = 1 ∨ k = 2 ∨ k = 3 ∨ k = 4 ∨ k = 5 ∨ k = 6 ∨ k = 7 ∨ k = 8 ∨ k = 9) with rfl | rfl | rfl | rfl | rfl | rfl | rfl | rfl | rfl | rfl <;> rfl
set_option maxHeartbeats 8000000 in
theorem cunbind_any (p : Nat) (o : Own) (C : Pc) (id : Int) (hid : i64 id) (w : World) (h : VcOk w o p C) :
    Calls Try.prog 67 #[.pointer (some ⟨p, 0, none⟩), .int .i64 id] w fun e w' => e = .returned (.int .i64 (unbindA C.to id).2) ∧ Stp w w' o p (unbindA C.to id).1 := by
  have H := Lib.hid h; clear h
  have c1 := H.out.mb
  cases hP : C.all id with
  | none =>
    have hA : unbindA C.to id = (C.to, 181) := by unfold unbindA; rw [to_none hP]
    rw [hA]
    clear hA
    go_enter Try.func67, Try.ntmps67
    go_wp2_with (at_lookup; refine wpList_getq _ rfl _ _ rfl C.mb _ id hid rfl H.out.map rfl ?_; simp only [hP, Option.map_none, qv])
    go_ret
    exact ⟨rfl, stp_same H.out⟩
  | some P =>
    have c9 := H.out.pth hP
    have hf := H.out.pfrozen hP
    by_cases ht : P.th = -1
    · have hA : unbindA C.to id = (C.to, 180) := by unfold unbindA; rw [to_some hP]; exact if_pos ht
      rw [hA]
      clear hA
      rw [ht] at c9
      go_enter Try.func67, Try.ntmps67
      go_wp2_with (at_lookup; refine wpList_getq _ rfl _ _ rfl C.mb _ id hid rfl H.out.map rfl ?_; simp only [hP, Option.map_some, qv])
      go_ret
      exact ⟨rfl, stp_same H.out⟩
    · have hA : unbindA C.to id = ({ C.to with all := updQ C.to.all id (some { C.one id P with th := -1 }) }, 0) := by unfold unbindA; rw [to_some hP]; exact if_neg ht
      rw [hA]
      clear hA
      have ht2 : (P.th == -1) = false := by simpa using ht
      go_enter Try.func67, Try.ntmps67
      go_wp2_with (at_lookup; refine wpList_getq _ rfl _ _ rfl C.mb _ id hid rfl H.out.map rfl ?_; simp only [hP, Option.map_some, qv])
      go_ret
      refine ⟨rfl, o, _, H.out.stt hP (-1), ?_, Ext.refl _ _, (Upd.refl _ _).setCell (Or.inl (H.out.owx hP)) _⟩
      rw [to_updq]; rfl
def dropA (A : Am) (id : Int) : Am × Int := match A.all id with | none => (A, 181) | some _ => ({ A with loaded := if A.loaded = id then -1 else A.loaded, all := updQ A.all id none }, 0)
set_option maxHeartbeats 8000000 in
theorem cdrop_any (p : Nat) (o : Own) (C : Pc) (id : Int) (hid : i64 id) (w : World) (h : VcOk w o p C) :
    Calls Try.prog 64 #[.pointer (some ⟨p, 0, none⟩), .int .i64 id] w fun e w' => e = .returned (.int .i64 (dropA C.to id).2) ∧ Stp w w' o p (dropA C.to id).1 := by
  have H := Lib.hid h; clear h
  have c1 := H.out.mb
  cases hP : C.all id with
  | none =>
    have hA : dropA C.to id = (C.to, 181) := by unfold dropA; rw [to_none hP]
    rw [hA]
    clear hA
    go_enter Try.func64, Try.ntmps64
    go_wp2_with (at_lookup; refine wpList_getq _ rfl _ _ rfl C.mb _ id hid rfl H.out.map rfl ?_; simp only [hP, Option.map_none, qv])
    go_ret
    exact ⟨rfl, stp_same H.out⟩
  | some P =>
    have c10 := H.out.loaded
    have hr := H.out.dom hP
    by_cases hl : C.loaded = id
    · have hA : dropA C.to id = ({ leaveA C.to with all := updQ C.to.all id none }, 0) := by unfold dropA; rw [to_some hP]; simp only [leaveA]; rw [if_pos (show C.to.loaded = id from hl)]
      rw [hA]
      clear hA
      rw [hl] at c10
      go_enter Try.func64, Try.ntmps64
      go_wp2_with (at_lookup; refine wpList_getq _ rfl _ _ rfl C.mb _ id hid rfl H.out.map rfl ?_; simp only [hP, Option.map_some, qv])
      refine (cleave_any p o C _ H.out).mono ?_
      rintro e w1 ⟨rfl, h1, u1⟩
      have H1 := Lib.hid h1
      have U1 := Lib.hid u1
      have q1 := H1.out.mb
      have HT := Lib.hid (to_leave H.out)
      clear h1 u1 c1 c10
      obtain ⟨i, rfl⟩ := Int.eq_ofNat_of_zero_le hr.1
      go_wp2_with (at_delete; refine wpList_dropq _ rfl _ _ rfl (leaveC C).mb _ i (by omega) rfl H1.out.map rfl ?_; intro w2 hm2 hg2; have HM := Lib.hid hm2; have HG := Lib.hid hg2; clear hm2 hg2)
      go_ret
      refine ⟨rfl, o, _, H1.out.del (i := (i : Int)) (by show ¬ (-1 : Int) = _; omega) (grown_upd HG.out) HM.out, ?_, Ext.refl _ _, U1.out.own (grown_upd HG.out) H1.out.owm⟩
      rw [to_updq, HT.out]; rfl
    · have hA : dropA C.to id = ({ C.to with all := updQ C.to.all id none }, 0) := by unfold dropA; rw [to_some hP]; simp only [if_neg (show ¬ C.to.loaded = id from hl)]
      rw [hA]
      clear hA
      have hl2 : (C.loaded == id) = false := by simpa using hl
      obtain ⟨i, rfl⟩ := Int.eq_ofNat_of_zero_le hr.1
      go_enter Try.func64, Try.ntmps64
      go_wp2_with (first | (at_lookup; refine wpList_getq _ rfl _ _ rfl C.mb _ (i : Int) hid rfl H.out.map rfl ?_; simp only [hP, Option.map_some, qv]) | (at_delete; refine wpList_dropq _ rfl _ _ rfl C.mb _ i (by omega) rfl H.out.map rfl ?_; intro w2 hm2 hg2; have HM := Lib.hid hm2; have HG := Lib.hid hg2; clear hm2 hg2))
      go_ret
      refine ⟨rfl, o, _, H.out.del (i := (i : Int)) hl (grown_upd HG.out) HM.out, ?_, Ext.refl _ _, (Upd.refl _ _).own (grown_upd HG.out) H.out.owm⟩
      rw [to_updq]; rfl
end Go.Proofs.Ytnebjbjdgfaooaa
