/- Two parties, the program's and the reference's; the contract of the law's does; no condition but numbers of 64 bits. -/
import Derived.Test.YtnebjbjdgfaooaaVrF
namespace Go.Proofs.Ytnebjbjdgfaooaa
open Go.RowKit Go.Maps
set_option maxRecDepth 100000
structure Duo (w0 w : World) (p r : Nat) (o o2 : Own) (A B : Am) : Prop where
  pk : ∃ C, VcOk w o p C ∧ C.to = A
  rk : ∃ D, RcOk w o2 r D ∧ D.to = B
  dis : ∀ b, Ow o b → ¬ Ow o2 b
  fr : ∀ b, Ow o b ∨ Ow o2 b → w0.heap.size ≤ b
  bel : Below w0.heap.size w0 w
def DGo (w0 w w' : World) (p r : Nat) (o o2 : Own) (A B : Am) : Prop := ∃ o' o2', Duo w0 w' p r o' o2' A B ∧ Ext w o o' ∧ Ext w o2 o2' ∧ Upd (fun b => Ow o b ∨ Ow o2 b) w w'
/-- Nothing old has turned, and there is no less. -/
def Pre (w w' : World) : Prop := Upd (fun _ => False) w w'
theorem Pre.alloc (w : World) (x : Obj) : Pre w (w.alloc x) := (Upd.refl _ _).alloc x
section
variable {w0 w w1 w2 : World} {p r : Nat} {o o2 : Own} {A B : Am}
theorem Duo.lim (h : Duo w0 w p r o o2 A B) {b : Nat} (hb : Ow o b ∨ Ow o2 b) : b < w.heap.size := by
  obtain ⟨C, hC, _⟩ := h.pk
  obtain ⟨D, hD, _⟩ := h.rk
  exact hb.elim (hC.lim b) (hD.lim b)
theorem Duo.kept {X : Nat → Prop} (h : Duo w0 w p r o o2 A B) (u : Upd X w w1) (hn : ∀ b, Ow o b ∨ Ow o2 b → ¬ X b) (hb : Below w0.heap.size w0 w1) : Duo w0 w1 p r o o2 A B := by
  obtain ⟨C, hC, hCA⟩ := h.pk
  obtain ⟨D, hD, hDB⟩ := h.rk
  exact ⟨⟨C, hC.kept u (fun b hb => hn b (Or.inl hb)), hCA⟩, ⟨D, hD.kept u (fun b hb => hn b (Or.inr hb)), hDB⟩, h.dis, h.fr, hb⟩
theorem Duo.below (h : Duo w0 w p r o o2 A B) (u : Below w.heap.size w w1) : Duo w0 w1 p r o o2 A B := h.kept (X := fun _ => False) (Upd.of_below u) (fun _ _ h => h) (h.bel.trans (u.mono h.bel.size))
theorem Duo.alloc (h : Duo w0 w p r o o2 A B) (x : Obj) : Duo w0 (w.alloc x) p r o o2 A B := h.below ((Below.refl _ _).alloc (Nat.le_refl _) _)
theorem bel_upd {X : Nat → Prop} (hb : Below w0.heap.size w0 w) (u : Upd X w w1) (hx : ∀ b, X b → w0.heap.size ≤ b) : Below w0.heap.size w0 w1 :=
  hb.trans ⟨u.os, u.tape, u.output, u.size, fun k hk => u.block k (by have := hb.size; omega) (fun ho => by have := hx k ho; omega)⟩
theorem Duo.stepP {A' : Am} (h : Duo w0 w p r o o2 A B) (s : Stp w w1 o p A') : DGo w0 w w1 p r o o2 A' B := by
  obtain ⟨o', C', h', e, hx, hu⟩ := s
  obtain ⟨D, hD, hDB⟩ := h.rk
  refine ⟨o', o2, ⟨⟨C', h', e⟩, ⟨D, hD.kept hu (fun b hb ho => h.dis b ho hb), hDB⟩, fun b hb h2 => ?_, fun b hb => ?_, bel_upd h.bel hu (fun b hb => h.fr b (Or.inl hb))⟩, hx, Ext.refl _ _, hu.mono (fun k hk => Or.inl hk)⟩
  · have hl := hD.lim b h2
    exact h.dis b (by unfold Ow at *; rw [← hx b hl]; exact hb) h2
  · rcases hb with hb | hb
    · by_cases hl : b < w.heap.size
      · exact h.fr b (Or.inl (by unfold Ow at *; rw [← hx b hl]; exact hb))
      · have := h.bel.size; omega
    · exact h.fr b (Or.inr hb)
theorem Duo.stepR {B' : Am} (h : Duo w0 w p r o o2 A B) (s : Rtp w w1 o2 r B') : DGo w0 w w1 p r o o2 A B' := by
  obtain ⟨o', D', h', e, hx, hu⟩ := s
  obtain ⟨C, hC, hCA⟩ := h.pk
  refine ⟨o, o', ⟨⟨C, hC.kept hu (fun b hb ho => h.dis b hb ho), hCA⟩, ⟨D', h', e⟩, fun b hb h2 => ?_, fun b hb => ?_, bel_upd h.bel hu (fun b hb => h.fr b (Or.inr hb))⟩, Ext.refl _ _, hx, hu.mono (fun k hk => Or.inr hk)⟩
  · have hl := hC.lim b hb
    exact h.dis b hb (by unfold Ow at *; rw [← hx b hl]; exact h2)
  · rcases hb with hb | hb
    · exact h.fr b (Or.inl hb)
    · by_cases hl : b < w.heap.size
      · exact h.fr b (Or.inr (by unfold Ow at *; rw [← hx b hl]; exact hb))
      · have := h.bel.size; omega
theorem DGo.refl (h : Duo w0 w p r o o2 A B) : DGo w0 w w p r o o2 A B := ⟨o, o2, h, Ext.refl _ _, Ext.refl _ _, Upd.refl _ _⟩
theorem ext_trans {o o' o'' : Own} (h1 : Ext w o o') (h2 : Ext w1 o' o'') (hs : w.heap.size ≤ w1.heap.size) : Ext w o o'' := fun b hb => (h2 b (by omega)).trans (h1 b hb)
theorem DGo.trans {o' o2' : Own} {A'' B'' : Am} (x1 : Ext w o o') (x2 : Ext w o2 o2') (hu : Upd (fun b => Ow o b ∨ Ow o2 b) w w1) (k : DGo w0 w1 w2 p r o' o2' A'' B'') : DGo w0 w w2 p r o o2 A'' B'' := by
  obtain ⟨o3, o4, hd, x3, x4, hu2⟩ := k
  refine ⟨o3, o4, hd, ext_trans x1 x3 hu.size, ext_trans x2 x4 hu.size, hu.call hu2 (fun i hi => ?_)⟩
  by_cases hl : i < w.heap.size
  · left
    unfold Ow at *
    rw [x1 i hl, x2 i hl] at hi
    exact hi
  · exact Or.inr (by omega)
theorem Pre.pre (h : Pre w w1) (k : DGo w0 w1 w2 p r o o2 A B) : DGo w0 w w2 p r o o2 A B := by
  obtain ⟨o3, o4, hd, x3, x4, hu2⟩ := k
  exact ⟨o3, o4, hd, fun b hb => x3 b (Nat.lt_of_lt_of_le hb h.size), fun b hb => x4 b (Nat.lt_of_lt_of_le hb h.size), (h.mono (fun _ h => h.elim)).trans hu2⟩
end
def ackA (A : Am) (id : Int) : Am := match A.all id with | none => A | some a => { A with all := updQ A.all id (some { a with S := (ackV a.S).1 }) }
def actS (A : Am) (d id n m : Int) (bk : Nat → Int) (on tk : Bool) : Am :=
  if d = 1 then (addA A id).1 else if d = 2 then (dropA A id).1 else if d = 3 then (bindA A id n tk).1 else if d = 4 then (unbindA A id).1 else if d = 5 then (enterA A id).1
  else if d = 6 then leaveA A else if d = 7 then (setbankA A bk).1 else if d = 9 then (writeA A id n (m % 4294967296)).1 else if d = 10 then (injectA A id n m on).1 else if d = 11 then (tickA A).1
  else if d = 12 then ackA A id else A
def acell18 (d id n m : Int) (bk : Nat → Int) (on : Bool) (k : Nat) : Value := if k = 0 then .int .i64 d else if k = 1 then .int .i64 id else if k = 2 then .int .i64 n else if k = 3 then .int .i64 m else if k < 12 then .int .u32 (bk (k - 4)) else .bool on
theorem bool_iff {a b : Bool} {P : Prop} (h1 : a = true ↔ P) (h2 : b = true ↔ P) : a = b := by
  cases a <;> cases b <;> simp_all
set_option maxHeartbeats 32000000 in
theorem does18_a (w00 : World) (p r : Nat) (o o2 : Own) (A B : Am) (d id n m : Int) (bk : Nat → Int) (on tkp tkr : Bool) (hid : i64 id) (hlp : 1 ≤ A.lrs ∧ A.lrs ≤ 16) (hlr : 1 ≤ B.lrs ∧ B.lrs ≤ 16) (htp : tkp = true ↔ Taken A n) (htr : tkr = true ↔ Taken B n)
    (hd : d = 1 ∨ d = 2 ∨ d = 3 ∨ d = 4 ∨ d = 5) (w : World) (h : Duo w00 w p r o o2 A B) :
    Calls Try.prog 37 #[.pointer (some ⟨p, 0, none⟩), .pointer (some ⟨r, 0, none⟩), .agg #[.int .i64 d, .int .i64 id, .int .i64 n, .int .i64 m, .int .u32 (bk 0), .int .u32 (bk 1), .int .u32 (bk 2), .int .u32 (bk 3), .int .u32 (bk 4), .int .u32 (bk 5), .int .u32 (bk 6), .int .u32 (bk 7), .bool on]] w fun e w' =>
      (∃ b, e = .returned (.bool b) ∧ (A = B → b = true)) ∧ DGo w00 w w' p r o o2 (actS A d id n m bk on tkp) (actS B d id n m bk on tkr) := by
  have HD0 := Lib.hid h; clear h
  have HTP := Lib.hid htp; have HTR := Lib.hid htr; clear htp htr
  by_cases d1 : d = 1
  · subst d1
    have HD := Lib.hid (HD0.out.alloc (.cells #[.int .i64 1, .int .i64 id, .int .i64 n, .int .i64 m, .int .u32 (bk 0), .int .u32 (bk 1), .int .u32 (bk 2), .int .u32 (bk 3), .int .u32 (bk 4), .int .u32 (bk 5), .int .u32 (bk 6), .int .u32 (bk 7), .bool on] 77))
    have HW : Hid (Pre w (w.alloc (.cells #[.int .i64 1, .int .i64 id, .int .i64 n, .int .i64 m, .int .u32 (bk 0), .int .u32 (bk 1), .int .u32 (bk 2), .int .u32 (bk 3), .int .u32 (bk 4), .int .u32 (bk 5), .int .u32 (bk 6), .int .u32 (bk 7), .bool on] 77))) := Lib.hid (Pre.alloc _ _)
    have HR : Hid (RowAt (w.alloc (.cells #[.int .i64 1, .int .i64 id, .int .i64 n, .int .i64 m, .int .u32 (bk 0), .int .u32 (bk 1), .int .u32 (bk 2), .int .u32 (bk 3), .int .u32 (bk 4), .int .u32 (bk 5), .int .u32 (bk 6), .int .u32 (bk 7), .bool on] 77)) w.heap.size 77 13 (acell18 1 id n m bk on)) := Lib.hid (row_new_of w _ 77 13 _ (by kernel_rfl))
    have HNO : Hid (¬ (Ow o w.heap.size ∨ Ow o2 w.heap.size)) := Lib.hid (fun h => by have := HD0.out.lim h; omega)
    go_enter Try.func37, Try.ntmps37
    go_wp2_with fail
    have HWX : Hid (∀ k, (w.alloc (.cells #[.int .i64 1, .int .i64 id, .int .i64 n, .int .i64 m, .int .u32 (bk 0), .int .u32 (bk 1), .int .u32 (bk 2), .int .u32 (bk 3), .int .u32 (bk 4), .int .u32 (bk 5), .int .u32 (bk 6), .int .u32 (bk 7), .bool on] 77)).cell? ⟨w.heap.size, k, none⟩ = (w.alloc (.cells #[.int .i64 1, .int .i64 id, .int .i64 n, .int .i64 m, .int .u32 (bk 0), .int .u32 (bk 1), .int .u32 (bk 2), .int .u32 (bk 3), .int .u32 (bk 4), .int .u32 (bk 5), .int .u32 (bk 6), .int .u32 (bk 7), .bool on] 77)).cell? ⟨w.heap.size, k, none⟩) := Lib.hid (fun _ => rfl)
    clear HWX
    generalize w.alloc (.cells #[.int .i64 1, .int .i64 id, .int .i64 n, .int .i64 m, .int .u32 (bk 0), .int .u32 (bk 1), .int .u32 (bk 2), .int .u32 (bk 3), .int .u32 (bk 4), .int .u32 (bk 5), .int .u32 (bk 6), .int .u32 (bk 7), .bool on] 77) = w0 at HD HR HW ⊢
    obtain ⟨lb, hlb⟩ : ∃ lb, w.heap.size = lb := ⟨_, rfl⟩
    rw [hlb] at HR HNO ⊢
    clear hlb
    have a1 : w0.cell? ⟨lb, 1, none⟩ = some (.int .i64 id) := HR.out.cell 1 (by omega)
    have a2 : w0.cell? ⟨lb, 2, none⟩ = some (.int .i64 n) := HR.out.cell 2 (by omega)
    have a3 : w0.cell? ⟨lb, 3, none⟩ = some (.int .i64 m) := HR.out.cell 3 (by omega)
    have c0 : w0.cell? ⟨lb, 4, none⟩ = some (.int .u32 (bk 0)) := HR.out.cell 4 (by omega)
    have c1 : w0.cell? ⟨lb, 5, none⟩ = some (.int .u32 (bk 1)) := HR.out.cell 5 (by omega)
    have c2 : w0.cell? ⟨lb, 6, none⟩ = some (.int .u32 (bk 2)) := HR.out.cell 6 (by omega)
    have c3 : w0.cell? ⟨lb, 7, none⟩ = some (.int .u32 (bk 3)) := HR.out.cell 7 (by omega)
    have c4 : w0.cell? ⟨lb, 8, none⟩ = some (.int .u32 (bk 4)) := HR.out.cell 8 (by omega)
    have c5 : w0.cell? ⟨lb, 9, none⟩ = some (.int .u32 (bk 5)) := HR.out.cell 9 (by omega)
    have c6 : w0.cell? ⟨lb, 10, none⟩ = some (.int .u32 (bk 6)) := HR.out.cell 10 (by omega)
    have c7 : w0.cell? ⟨lb, 11, none⟩ = some (.int .u32 (bk 7)) := HR.out.cell 11 (by omega)
    have a12 : w0.cell? ⟨lb, 12, none⟩ = some (.bool on) := HR.out.cell 12 (by omega)
    obtain ⟨C, hC, hCA⟩ := HD.out.pk
    refine (cadd_any p o C id hid (by rw [show C.lrs = C.to.lrs from rfl, hCA]; exact hlp) w0 hC).mono ?_
    rw [hCA]
    rintro e w1 ⟨rfl, hs⟩
    obtain ⟨o1, q1, hd1, x1, x2, hu1⟩ := HD.out.stepP hs
    have HD1 := Lib.hid hd1
    have HX1 := Lib.hid (And.intro x1 (And.intro x2 hu1))
    have HR1 := Lib.hid (HR.out.kept hu1 HNO.out)
    clear hs hd1 x1 x2 hu1 hC hCA C a1 a2 a3 a12 c0 c1 c2 c3 c4 c5 c6 c7
    have HR := HR1
    have a1 : w1.cell? ⟨lb, 1, none⟩ = some (.int .i64 id) := HR.out.cell 1 (by omega)
    have a2 : w1.cell? ⟨lb, 2, none⟩ = some (.int .i64 n) := HR.out.cell 2 (by omega)
    have a3 : w1.cell? ⟨lb, 3, none⟩ = some (.int .i64 m) := HR.out.cell 3 (by omega)
    have c0 : w1.cell? ⟨lb, 4, none⟩ = some (.int .u32 (bk 0)) := HR.out.cell 4 (by omega)
    have c1 : w1.cell? ⟨lb, 5, none⟩ = some (.int .u32 (bk 1)) := HR.out.cell 5 (by omega)
    have c2 : w1.cell? ⟨lb, 6, none⟩ = some (.int .u32 (bk 2)) := HR.out.cell 6 (by omega)
    have c3 : w1.cell? ⟨lb, 7, none⟩ = some (.int .u32 (bk 3)) := HR.out.cell 7 (by omega)
    have c4 : w1.cell? ⟨lb, 8, none⟩ = some (.int .u32 (bk 4)) := HR.out.cell 8 (by omega)
    have c5 : w1.cell? ⟨lb, 9, none⟩ = some (.int .u32 (bk 5)) := HR.out.cell 9 (by omega)
    have c6 : w1.cell? ⟨lb, 10, none⟩ = some (.int .u32 (bk 6)) := HR.out.cell 10 (by omega)
    have c7 : w1.cell? ⟨lb, 11, none⟩ = some (.int .u32 (bk 7)) := HR.out.cell 11 (by omega)
    have a12 : w1.cell? ⟨lb, 12, none⟩ = some (.bool on) := HR.out.cell 12 (by omega)
    go_wp2_with fail
    obtain ⟨C, hC, hCA⟩ := HD1.out.rk
    refine (radd_any r q1 C id (by rw [show C.lrs = C.to.lrs from rfl, hCA]; exact hlr) w1 hC).mono ?_
    rw [hCA]
    rintro e w2 ⟨rfl, hs⟩
    obtain ⟨o3, q3, hd3, x3, x4, hu3⟩ := HD1.out.stepR hs
    have HG := Lib.hid (DGo.trans HX1.out.1 HX1.out.2.1 HX1.out.2.2 ⟨o3, q3, hd3, x3, x4, hu3⟩)
    clear hs hd3 x3 x4 hu3 hC hCA C
    go_wp2_with fail
    go_ret
    exact ⟨⟨_, rfl, fun h => by subst h; simp⟩, HW.out.pre HG.out⟩
  by_cases d2 : d = 2
  · subst d2
    have HD := Lib.hid (HD0.out.alloc (.cells #[.int .i64 2, .int .i64 id, .int .i64 n, .int .i64 m, .int .u32 (bk 0), .int .u32 (bk 1), .int .u32 (bk 2), .int .u32 (bk 3), .int .u32 (bk 4), .int .u32 (bk 5), .int .u32 (bk 6), .int .u32 (bk 7), .bool on] 77))
    have HW : Hid (Pre w (w.alloc (.cells #[.int .i64 2, .int .i64 id, .int .i64 n, .int .i64 m, .int .u32 (bk 0), .int .u32 (bk 1), .int .u32 (bk 2), .int .u32 (bk 3), .int .u32 (bk 4), .int .u32 (bk 5), .int .u32 (bk 6), .int .u32 (bk 7), .bool on] 77))) := Lib.hid (Pre.alloc _ _)
    have HR : Hid (RowAt (w.alloc (.cells #[.int .i64 2, .int .i64 id, .int .i64 n, .int .i64 m, .int .u32 (bk 0), .int .u32 (bk 1), .int .u32 (bk 2), .int .u32 (bk 3), .int .u32 (bk 4), .int .u32 (bk 5), .int .u32 (bk 6), .int .u32 (bk 7), .bool on] 77)) w.heap.size 77 13 (acell18 2 id n m bk on)) := Lib.hid (row_new_of w _ 77 13 _ (by kernel_rfl))
    have HNO : Hid (¬ (Ow o w.heap.size ∨ Ow o2 w.heap.size)) := Lib.hid (fun h => by have := HD0.out.lim h; omega)
    go_enter Try.func37, Try.ntmps37
    go_wp2_with fail
    have HWX : Hid (∀ k, (w.alloc (.cells #[.int .i64 2, .int .i64 id, .int .i64 n, .int .i64 m, .int .u32 (bk 0), .int .u32 (bk 1), .int .u32 (bk 2), .int .u32 (bk 3), .int .u32 (bk 4), .int .u32 (bk 5), .int .u32 (bk 6), .int .u32 (bk 7), .bool on] 77)).cell? ⟨w.heap.size, k, none⟩ = (w.alloc (.cells #[.int .i64 2, .int .i64 id, .int .i64 n, .int .i64 m, .int .u32 (bk 0), .int .u32 (bk 1), .int .u32 (bk 2), .int .u32 (bk 3), .int .u32 (bk 4), .int .u32 (bk 5), .int .u32 (bk 6), .int .u32 (bk 7), .bool on] 77)).cell? ⟨w.heap.size, k, none⟩) := Lib.hid (fun _ => rfl)
    clear HWX
    generalize w.alloc (.cells #[.int .i64 2, .int .i64 id, .int .i64 n, .int .i64 m, .int .u32 (bk 0), .int .u32 (bk 1), .int .u32 (bk 2), .int .u32 (bk 3), .int .u32 (bk 4), .int .u32 (bk 5), .int .u32 (bk 6), .int .u32 (bk 7), .bool on] 77) = w0 at HD HR HW ⊢
    obtain ⟨lb, hlb⟩ : ∃ lb, w.heap.size = lb := ⟨_, rfl⟩
    rw [hlb] at HR HNO ⊢
    clear hlb
    have a1 : w0.cell? ⟨lb, 1, none⟩ = some (.int .i64 id) := HR.out.cell 1 (by omega)
    have a2 : w0.cell? ⟨lb, 2, none⟩ = some (.int .i64 n) := HR.out.cell 2 (by omega)
    have a3 : w0.cell? ⟨lb, 3, none⟩ = some (.int .i64 m) := HR.out.cell 3 (by omega)
    have c0 : w0.cell? ⟨lb, 4, none⟩ = some (.int .u32 (bk 0)) := HR.out.cell 4 (by omega)
    have c1 : w0.cell? ⟨lb, 5, none⟩ = some (.int .u32 (bk 1)) := HR.out.cell 5 (by omega)
    have c2 : w0.cell? ⟨lb, 6, none⟩ = some (.int .u32 (bk 2)) := HR.out.cell 6 (by omega)
    have c3 : w0.cell? ⟨lb, 7, none⟩ = some (.int .u32 (bk 3)) := HR.out.cell 7 (by omega)
    have c4 : w0.cell? ⟨lb, 8, none⟩ = some (.int .u32 (bk 4)) := HR.out.cell 8 (by omega)
    have c5 : w0.cell? ⟨lb, 9, none⟩ = some (.int .u32 (bk 5)) := HR.out.cell 9 (by omega)
    have c6 : w0.cell? ⟨lb, 10, none⟩ = some (.int .u32 (bk 6)) := HR.out.cell 10 (by omega)
    have c7 : w0.cell? ⟨lb, 11, none⟩ = some (.int .u32 (bk 7)) := HR.out.cell 11 (by omega)
    have a12 : w0.cell? ⟨lb, 12, none⟩ = some (.bool on) := HR.out.cell 12 (by omega)
    obtain ⟨C, hC, hCA⟩ := HD.out.pk
    refine (cdrop_any p o C id hid w0 hC).mono ?_
    rw [hCA]
    rintro e w1 ⟨rfl, hs⟩
    obtain ⟨o1, q1, hd1, x1, x2, hu1⟩ := HD.out.stepP hs
    have HD1 := Lib.hid hd1
    have HX1 := Lib.hid (And.intro x1 (And.intro x2 hu1))
    have HR1 := Lib.hid (HR.out.kept hu1 HNO.out)
    clear hs hd1 x1 x2 hu1 hC hCA C a1 a2 a3 a12 c0 c1 c2 c3 c4 c5 c6 c7
    have HR := HR1
    have a1 : w1.cell? ⟨lb, 1, none⟩ = some (.int .i64 id) := HR.out.cell 1 (by omega)
    have a2 : w1.cell? ⟨lb, 2, none⟩ = some (.int .i64 n) := HR.out.cell 2 (by omega)
    have a3 : w1.cell? ⟨lb, 3, none⟩ = some (.int .i64 m) := HR.out.cell 3 (by omega)
    have c0 : w1.cell? ⟨lb, 4, none⟩ = some (.int .u32 (bk 0)) := HR.out.cell 4 (by omega)
    have c1 : w1.cell? ⟨lb, 5, none⟩ = some (.int .u32 (bk 1)) := HR.out.cell 5 (by omega)
    have c2 : w1.cell? ⟨lb, 6, none⟩ = some (.int .u32 (bk 2)) := HR.out.cell 6 (by omega)
    have c3 : w1.cell? ⟨lb, 7, none⟩ = some (.int .u32 (bk 3)) := HR.out.cell 7 (by omega)
    have c4 : w1.cell? ⟨lb, 8, none⟩ = some (.int .u32 (bk 4)) := HR.out.cell 8 (by omega)
    have c5 : w1.cell? ⟨lb, 9, none⟩ = some (.int .u32 (bk 5)) := HR.out.cell 9 (by omega)
    have c6 : w1.cell? ⟨lb, 10, none⟩ = some (.int .u32 (bk 6)) := HR.out.cell 10 (by omega)
    have c7 : w1.cell? ⟨lb, 11, none⟩ = some (.int .u32 (bk 7)) := HR.out.cell 11 (by omega)
    have a12 : w1.cell? ⟨lb, 12, none⟩ = some (.bool on) := HR.out.cell 12 (by omega)
    go_wp2_with fail
    obtain ⟨C, hC, hCA⟩ := HD1.out.rk
    refine (rdrop_any r q1 C id w1 hC).mono ?_
    rw [hCA]
    rintro e w2 ⟨rfl, hs⟩
    obtain ⟨o3, q3, hd3, x3, x4, hu3⟩ := HD1.out.stepR hs
    have HG := Lib.hid (DGo.trans HX1.out.1 HX1.out.2.1 HX1.out.2.2 ⟨o3, q3, hd3, x3, x4, hu3⟩)
    clear hs hd3 x3 x4 hu3 hC hCA C
    go_wp2_with fail
    go_ret
    exact ⟨⟨_, rfl, fun h => by subst h; simp⟩, HW.out.pre HG.out⟩
  by_cases d3 : d = 3
  · subst d3
    have HD := Lib.hid (HD0.out.alloc (.cells #[.int .i64 3, .int .i64 id, .int .i64 n, .int .i64 m, .int .u32 (bk 0), .int .u32 (bk 1), .int .u32 (bk 2), .int .u32 (bk 3), .int .u32 (bk 4), .int .u32 (bk 5), .int .u32 (bk 6), .int .u32 (bk 7), .bool on] 77))
    have HW : Hid (Pre w (w.alloc (.cells #[.int .i64 3, .int .i64 id, .int .i64 n, .int .i64 m, .int .u32 (bk 0), .int .u32 (bk 1), .int .u32 (bk 2), .int .u32 (bk 3), .int .u32 (bk 4), .int .u32 (bk 5), .int .u32 (bk 6), .int .u32 (bk 7), .bool on] 77))) := Lib.hid (Pre.alloc _ _)
    have HR : Hid (RowAt (w.alloc (.cells #[.int .i64 3, .int .i64 id, .int .i64 n, .int .i64 m, .int .u32 (bk 0), .int .u32 (bk 1), .int .u32 (bk 2), .int .u32 (bk 3), .int .u32 (bk 4), .int .u32 (bk 5), .int .u32 (bk 6), .int .u32 (bk 7), .bool on] 77)) w.heap.size 77 13 (acell18 3 id n m bk on)) := Lib.hid (row_new_of w _ 77 13 _ (by kernel_rfl))
    have HNO : Hid (¬ (Ow o w.heap.size ∨ Ow o2 w.heap.size)) := Lib.hid (fun h => by have := HD0.out.lim h; omega)
    go_enter Try.func37, Try.ntmps37
    go_wp2_with fail
    have HWX : Hid (∀ k, (w.alloc (.cells #[.int .i64 3, .int .i64 id, .int .i64 n, .int .i64 m, .int .u32 (bk 0), .int .u32 (bk 1), .int .u32 (bk 2), .int .u32 (bk 3), .int .u32 (bk 4), .int .u32 (bk 5), .int .u32 (bk 6), .int .u32 (bk 7), .bool on] 77)).cell? ⟨w.heap.size, k, none⟩ = (w.alloc (.cells #[.int .i64 3, .int .i64 id, .int .i64 n, .int .i64 m, .int .u32 (bk 0), .int .u32 (bk 1), .int .u32 (bk 2), .int .u32 (bk 3), .int .u32 (bk 4), .int .u32 (bk 5), .int .u32 (bk 6), .int .u32 (bk 7), .bool on] 77)).cell? ⟨w.heap.size, k, none⟩) := Lib.hid (fun _ => rfl)
    clear HWX
    generalize w.alloc (.cells #[.int .i64 3, .int .i64 id, .int .i64 n, .int .i64 m, .int .u32 (bk 0), .int .u32 (bk 1), .int .u32 (bk 2), .int .u32 (bk 3), .int .u32 (bk 4), .int .u32 (bk 5), .int .u32 (bk 6), .int .u32 (bk 7), .bool on] 77) = w0 at HD HR HW ⊢
    obtain ⟨lb, hlb⟩ : ∃ lb, w.heap.size = lb := ⟨_, rfl⟩
    rw [hlb] at HR HNO ⊢
    clear hlb
    have a1 : w0.cell? ⟨lb, 1, none⟩ = some (.int .i64 id) := HR.out.cell 1 (by omega)
    have a2 : w0.cell? ⟨lb, 2, none⟩ = some (.int .i64 n) := HR.out.cell 2 (by omega)
    have a3 : w0.cell? ⟨lb, 3, none⟩ = some (.int .i64 m) := HR.out.cell 3 (by omega)
    have c0 : w0.cell? ⟨lb, 4, none⟩ = some (.int .u32 (bk 0)) := HR.out.cell 4 (by omega)
    have c1 : w0.cell? ⟨lb, 5, none⟩ = some (.int .u32 (bk 1)) := HR.out.cell 5 (by omega)
    have c2 : w0.cell? ⟨lb, 6, none⟩ = some (.int .u32 (bk 2)) := HR.out.cell 6 (by omega)
    have c3 : w0.cell? ⟨lb, 7, none⟩ = some (.int .u32 (bk 3)) := HR.out.cell 7 (by omega)
    have c4 : w0.cell? ⟨lb, 8, none⟩ = some (.int .u32 (bk 4)) := HR.out.cell 8 (by omega)
    have c5 : w0.cell? ⟨lb, 9, none⟩ = some (.int .u32 (bk 5)) := HR.out.cell 9 (by omega)
    have c6 : w0.cell? ⟨lb, 10, none⟩ = some (.int .u32 (bk 6)) := HR.out.cell 10 (by omega)
    have c7 : w0.cell? ⟨lb, 11, none⟩ = some (.int .u32 (bk 7)) := HR.out.cell 11 (by omega)
    have a12 : w0.cell? ⟨lb, 12, none⟩ = some (.bool on) := HR.out.cell 12 (by omega)
    obtain ⟨C, hC, hCA⟩ := HD.out.pk
    refine (cbind_any p o C id n tkp (by rw [hCA]; exact HTP.out) hid w0 hC).mono ?_
    rw [hCA]
    rintro e w1 ⟨rfl, hs⟩
    obtain ⟨o1, q1, hd1, x1, x2, hu1⟩ := HD.out.stepP hs
    have HD1 := Lib.hid hd1
    have HX1 := Lib.hid (And.intro x1 (And.intro x2 hu1))
    have HR1 := Lib.hid (HR.out.kept hu1 HNO.out)
    clear hs hd1 x1 x2 hu1 hC hCA C a1 a2 a3 a12 c0 c1 c2 c3 c4 c5 c6 c7
    have HR := HR1
    have a1 : w1.cell? ⟨lb, 1, none⟩ = some (.int .i64 id) := HR.out.cell 1 (by omega)
    have a2 : w1.cell? ⟨lb, 2, none⟩ = some (.int .i64 n) := HR.out.cell 2 (by omega)
    have a3 : w1.cell? ⟨lb, 3, none⟩ = some (.int .i64 m) := HR.out.cell 3 (by omega)
    have c0 : w1.cell? ⟨lb, 4, none⟩ = some (.int .u32 (bk 0)) := HR.out.cell 4 (by omega)
    have c1 : w1.cell? ⟨lb, 5, none⟩ = some (.int .u32 (bk 1)) := HR.out.cell 5 (by omega)
    have c2 : w1.cell? ⟨lb, 6, none⟩ = some (.int .u32 (bk 2)) := HR.out.cell 6 (by omega)
    have c3 : w1.cell? ⟨lb, 7, none⟩ = some (.int .u32 (bk 3)) := HR.out.cell 7 (by omega)
    have c4 : w1.cell? ⟨lb, 8, none⟩ = some (.int .u32 (bk 4)) := HR.out.cell 8 (by omega)
    have c5 : w1.cell? ⟨lb, 9, none⟩ = some (.int .u32 (bk 5)) := HR.out.cell 9 (by omega)
    have c6 : w1.cell? ⟨lb, 10, none⟩ = some (.int .u32 (bk 6)) := HR.out.cell 10 (by omega)
    have c7 : w1.cell? ⟨lb, 11, none⟩ = some (.int .u32 (bk 7)) := HR.out.cell 11 (by omega)
    have a12 : w1.cell? ⟨lb, 12, none⟩ = some (.bool on) := HR.out.cell 12 (by omega)
    go_wp2_with fail
    obtain ⟨C, hC, hCA⟩ := HD1.out.rk
    refine (rbind_any r q1 C id n tkr (by rw [hCA]; exact HTR.out) w1 hC).mono ?_
    rw [hCA]
    rintro e w2 ⟨rfl, hs⟩
    obtain ⟨o3, q3, hd3, x3, x4, hu3⟩ := HD1.out.stepR hs
    have HG := Lib.hid (DGo.trans HX1.out.1 HX1.out.2.1 HX1.out.2.2 ⟨o3, q3, hd3, x3, x4, hu3⟩)
    clear hs hd3 x3 x4 hu3 hC hCA C
    go_wp2_with fail
    go_ret
    exact ⟨⟨_, rfl, fun h => by subst h; rw [bool_iff HTP.out HTR.out]; simp⟩, HW.out.pre HG.out⟩
  by_cases d4 : d = 4
  · subst d4
    have HD := Lib.hid (HD0.out.alloc (.cells #[.int .i64 4, .int .i64 id, .int .i64 n, .int .i64 m, .int .u32 (bk 0), .int .u32 (bk 1), .int .u32 (bk 2), .int .u32 (bk 3), .int .u32 (bk 4), .int .u32 (bk 5), .int .u32 (bk 6), .int .u32 (bk 7), .bool on] 77))
    have HW : Hid (Pre w (w.alloc (.cells #[.int .i64 4, .int .i64 id, .int .i64 n, .int .i64 m, .int .u32 (bk 0), .int .u32 (bk 1), .int .u32 (bk 2), .int .u32 (bk 3), .int .u32 (bk 4), .int .u32 (bk 5), .int .u32 (bk 6), .int .u32 (bk 7), .bool on] 77))) := Lib.hid (Pre.alloc _ _)
    have HR : Hid (RowAt (w.alloc (.cells #[.int .i64 4, .int .i64 id, .int .i64 n, .int .i64 m, .int .u32 (bk 0), .int .u32 (bk 1), .int .u32 (bk 2), .int .u32 (bk 3), .int .u32 (bk 4), .int .u32 (bk 5), .int .u32 (bk 6), .int .u32 (bk 7), .bool on] 77)) w.heap.size 77 13 (acell18 4 id n m bk on)) := Lib.hid (row_new_of w _ 77 13 _ (by kernel_rfl))
    have HNO : Hid (¬ (Ow o w.heap.size ∨ Ow o2 w.heap.size)) := Lib.hid (fun h => by have := HD0.out.lim h; omega)
    go_enter Try.func37, Try.ntmps37
    go_wp2_with fail
    have HWX : Hid (∀ k, (w.alloc (.cells #[.int .i64 4, .int .i64 id, .int .i64 n, .int .i64 m, .int .u32 (bk 0), .int .u32 (bk 1), .int .u32 (bk 2), .int .u32 (bk 3), .int .u32 (bk 4), .int .u32 (bk 5), .int .u32 (bk 6), .int .u32 (bk 7), .bool on] 77)).cell? ⟨w.heap.size, k, none⟩ = (w.alloc (.cells #[.int .i64 4, .int .i64 id, .int .i64 n, .int .i64 m, .int .u32 (bk 0), .int .u32 (bk 1), .int .u32 (bk 2), .int .u32 (bk 3), .int .u32 (bk 4), .int .u32 (bk 5), .int .u32 (bk 6), .int .u32 (bk 7), .bool on] 77)).cell? ⟨w.heap.size, k, none⟩) := Lib.hid (fun _ => rfl)
    clear HWX
    generalize w.alloc (.cells #[.int .i64 4, .int .i64 id, .int .i64 n, .int .i64 m, .int .u32 (bk 0), .int .u32 (bk 1), .int .u32 (bk 2), .int .u32 (bk 3), .int .u32 (bk 4), .int .u32 (bk 5), .int .u32 (bk 6), .int .u32 (bk 7), .bool on] 77) = w0 at HD HR HW ⊢
    obtain ⟨lb, hlb⟩ : ∃ lb, w.heap.size = lb := ⟨_, rfl⟩
    rw [hlb] at HR HNO ⊢
    clear hlb
    have a1 : w0.cell? ⟨lb, 1, none⟩ = some (.int .i64 id) := HR.out.cell 1 (by omega)
    have a2 : w0.cell? ⟨lb, 2, none⟩ = some (.int .i64 n) := HR.out.cell 2 (by omega)
    have a3 : w0.cell? ⟨lb, 3, none⟩ = some (.int .i64 m) := HR.out.cell 3 (by omega)
    have c0 : w0.cell? ⟨lb, 4, none⟩ = some (.int .u32 (bk 0)) := HR.out.cell 4 (by omega)
    have c1 : w0.cell? ⟨lb, 5, none⟩ = some (.int .u32 (bk 1)) := HR.out.cell 5 (by omega)
    have c2 : w0.cell? ⟨lb, 6, none⟩ = some (.int .u32 (bk 2)) := HR.out.cell 6 (by omega)
    have c3 : w0.cell? ⟨lb, 7, none⟩ = some (.int .u32 (bk 3)) := HR.out.cell 7 (by omega)
    have c4 : w0.cell? ⟨lb, 8, none⟩ = some (.int .u32 (bk 4)) := HR.out.cell 8 (by omega)
    have c5 : w0.cell? ⟨lb, 9, none⟩ = some (.int .u32 (bk 5)) := HR.out.cell 9 (by omega)
    have c6 : w0.cell? ⟨lb, 10, none⟩ = some (.int .u32 (bk 6)) := HR.out.cell 10 (by omega)
    have c7 : w0.cell? ⟨lb, 11, none⟩ = some (.int .u32 (bk 7)) := HR.out.cell 11 (by omega)
    have a12 : w0.cell? ⟨lb, 12, none⟩ = some (.bool on) := HR.out.cell 12 (by omega)
    obtain ⟨C, hC, hCA⟩ := HD.out.pk
    refine (cunbind_any p o C id hid w0 hC).mono ?_
    rw [hCA]
    rintro e w1 ⟨rfl, hs⟩
    obtain ⟨o1, q1, hd1, x1, x2, hu1⟩ := HD.out.stepP hs
    have HD1 := Lib.hid hd1
    have HX1 := Lib.hid (And.intro x1 (And.intro x2 hu1))
    have HR1 := Lib.hid (HR.out.kept hu1 HNO.out)
    clear hs hd1 x1 x2 hu1 hC hCA C a1 a2 a3 a12 c0 c1 c2 c3 c4 c5 c6 c7
    have HR := HR1
    have a1 : w1.cell? ⟨lb, 1, none⟩ = some (.int .i64 id) := HR.out.cell 1 (by omega)
    have a2 : w1.cell? ⟨lb, 2, none⟩ = some (.int .i64 n) := HR.out.cell 2 (by omega)
    have a3 : w1.cell? ⟨lb, 3, none⟩ = some (.int .i64 m) := HR.out.cell 3 (by omega)
    have c0 : w1.cell? ⟨lb, 4, none⟩ = some (.int .u32 (bk 0)) := HR.out.cell 4 (by omega)
    have c1 : w1.cell? ⟨lb, 5, none⟩ = some (.int .u32 (bk 1)) := HR.out.cell 5 (by omega)
    have c2 : w1.cell? ⟨lb, 6, none⟩ = some (.int .u32 (bk 2)) := HR.out.cell 6 (by omega)
    have c3 : w1.cell? ⟨lb, 7, none⟩ = some (.int .u32 (bk 3)) := HR.out.cell 7 (by omega)
    have c4 : w1.cell? ⟨lb, 8, none⟩ = some (.int .u32 (bk 4)) := HR.out.cell 8 (by omega)
    have c5 : w1.cell? ⟨lb, 9, none⟩ = some (.int .u32 (bk 5)) := HR.out.cell 9 (by omega)
    have c6 : w1.cell? ⟨lb, 10, none⟩ = some (.int .u32 (bk 6)) := HR.out.cell 10 (by omega)
    have c7 : w1.cell? ⟨lb, 11, none⟩ = some (.int .u32 (bk 7)) := HR.out.cell 11 (by omega)
    have a12 : w1.cell? ⟨lb, 12, none⟩ = some (.bool on) := HR.out.cell 12 (by omega)
    go_wp2_with fail
    obtain ⟨C, hC, hCA⟩ := HD1.out.rk
    refine (runbind_any r q1 C id w1 hC).mono ?_
    rw [hCA]
    rintro e w2 ⟨rfl, hs⟩
    obtain ⟨o3, q3, hd3, x3, x4, hu3⟩ := HD1.out.stepR hs
    have HG := Lib.hid (DGo.trans HX1.out.1 HX1.out.2.1 HX1.out.2.2 ⟨o3, q3, hd3, x3, x4, hu3⟩)
    clear hs hd3 x3 x4 hu3 hC hCA C
    go_wp2_with fail
    go_ret
    exact ⟨⟨_, rfl, fun h => by subst h; simp⟩, HW.out.pre HG.out⟩
  by_cases d5 : d = 5
  · subst d5
    have HD := Lib.hid (HD0.out.alloc (.cells #[.int .i64 5, .int .i64 id, .int .i64 n, .int .i64 m, .int .u32 (bk 0), .int .u32 (bk 1), .int .u32 (bk 2), .int .u32 (bk 3), .int .u32 (bk 4), .int .u32 (bk 5), .int .u32 (bk 6), .int .u32 (bk 7), .bool on] 77))
    have HW : Hid (Pre w (w.alloc (.cells #[.int .i64 5, .int .i64 id, .int .i64 n, .int .i64 m, .int .u32 (bk 0), .int .u32 (bk 1), .int .u32 (bk 2), .int .u32 (bk 3), .int .u32 (bk 4), .int .u32 (bk 5), .int .u32 (bk 6), .int .u32 (bk 7), .bool on] 77))) := Lib.hid (Pre.alloc _ _)
    have HR : Hid (RowAt (w.alloc (.cells #[.int .i64 5, .int .i64 id, .int .i64 n, .int .i64 m, .int .u32 (bk 0), .int .u32 (bk 1), .int .u32 (bk 2), .int .u32 (bk 3), .int .u32 (bk 4), .int .u32 (bk 5), .int .u32 (bk 6), .int .u32 (bk 7), .bool on] 77)) w.heap.size 77 13 (acell18 5 id n m bk on)) := Lib.hid (row_new_of w _ 77 13 _ (by kernel_rfl))
    have HNO : Hid (¬ (Ow o w.heap.size ∨ Ow o2 w.heap.size)) := Lib.hid (fun h => by have := HD0.out.lim h; omega)
    go_enter Try.func37, Try.ntmps37
    go_wp2_with fail
    have HWX : Hid (∀ k, (w.alloc (.cells #[.int .i64 5, .int .i64 id, .int .i64 n, .int .i64 m, .int .u32 (bk 0), .int .u32 (bk 1), .int .u32 (bk 2), .int .u32 (bk 3), .int .u32 (bk 4), .int .u32 (bk 5), .int .u32 (bk 6), .int .u32 (bk 7), .bool on] 77)).cell? ⟨w.heap.size, k, none⟩ = (w.alloc (.cells #[.int .i64 5, .int .i64 id, .int .i64 n, .int .i64 m, .int .u32 (bk 0), .int .u32 (bk 1), .int .u32 (bk 2), .int .u32 (bk 3), .int .u32 (bk 4), .int .u32 (bk 5), .int .u32 (bk 6), .int .u32 (bk 7), .bool on] 77)).cell? ⟨w.heap.size, k, none⟩) := Lib.hid (fun _ => rfl)
    clear HWX
    generalize w.alloc (.cells #[.int .i64 5, .int .i64 id, .int .i64 n, .int .i64 m, .int .u32 (bk 0), .int .u32 (bk 1), .int .u32 (bk 2), .int .u32 (bk 3), .int .u32 (bk 4), .int .u32 (bk 5), .int .u32 (bk 6), .int .u32 (bk 7), .bool on] 77) = w0 at HD HR HW ⊢
    obtain ⟨lb, hlb⟩ : ∃ lb, w.heap.size = lb := ⟨_, rfl⟩
    rw [hlb] at HR HNO ⊢
    clear hlb
    have a1 : w0.cell? ⟨lb, 1, none⟩ = some (.int .i64 id) := HR.out.cell 1 (by omega)
    have a2 : w0.cell? ⟨lb, 2, none⟩ = some (.int .i64 n) := HR.out.cell 2 (by omega)
    have a3 : w0.cell? ⟨lb, 3, none⟩ = some (.int .i64 m) := HR.out.cell 3 (by omega)
    have c0 : w0.cell? ⟨lb, 4, none⟩ = some (.int .u32 (bk 0)) := HR.out.cell 4 (by omega)
    have c1 : w0.cell? ⟨lb, 5, none⟩ = some (.int .u32 (bk 1)) := HR.out.cell 5 (by omega)
    have c2 : w0.cell? ⟨lb, 6, none⟩ = some (.int .u32 (bk 2)) := HR.out.cell 6 (by omega)
    have c3 : w0.cell? ⟨lb, 7, none⟩ = some (.int .u32 (bk 3)) := HR.out.cell 7 (by omega)
    have c4 : w0.cell? ⟨lb, 8, none⟩ = some (.int .u32 (bk 4)) := HR.out.cell 8 (by omega)
    have c5 : w0.cell? ⟨lb, 9, none⟩ = some (.int .u32 (bk 5)) := HR.out.cell 9 (by omega)
    have c6 : w0.cell? ⟨lb, 10, none⟩ = some (.int .u32 (bk 6)) := HR.out.cell 10 (by omega)
    have c7 : w0.cell? ⟨lb, 11, none⟩ = some (.int .u32 (bk 7)) := HR.out.cell 11 (by omega)
    have a12 : w0.cell? ⟨lb, 12, none⟩ = some (.bool on) := HR.out.cell 12 (by omega)
    obtain ⟨C, hC, hCA⟩ := HD.out.pk
    refine (center_any p o C id hid w0 hC).mono ?_
    rw [hCA]
    rintro e w1 ⟨rfl, hs⟩
    obtain ⟨o1, q1, hd1, x1, x2, hu1⟩ := HD.out.stepP hs
    have HD1 := Lib.hid hd1
    have HX1 := Lib.hid (And.intro x1 (And.intro x2 hu1))
    have HR1 := Lib.hid (HR.out.kept hu1 HNO.out)
    clear hs hd1 x1 x2 hu1 hC hCA C a1 a2 a3 a12 c0 c1 c2 c3 c4 c5 c6 c7
    have HR := HR1
    have a1 : w1.cell? ⟨lb, 1, none⟩ = some (.int .i64 id) := HR.out.cell 1 (by omega)
    have a2 : w1.cell? ⟨lb, 2, none⟩ = some (.int .i64 n) := HR.out.cell 2 (by omega)
    have a3 : w1.cell? ⟨lb, 3, none⟩ = some (.int .i64 m) := HR.out.cell 3 (by omega)
    have c0 : w1.cell? ⟨lb, 4, none⟩ = some (.int .u32 (bk 0)) := HR.out.cell 4 (by omega)
    have c1 : w1.cell? ⟨lb, 5, none⟩ = some (.int .u32 (bk 1)) := HR.out.cell 5 (by omega)
    have c2 : w1.cell? ⟨lb, 6, none⟩ = some (.int .u32 (bk 2)) := HR.out.cell 6 (by omega)
    have c3 : w1.cell? ⟨lb, 7, none⟩ = some (.int .u32 (bk 3)) := HR.out.cell 7 (by omega)
    have c4 : w1.cell? ⟨lb, 8, none⟩ = some (.int .u32 (bk 4)) := HR.out.cell 8 (by omega)
    have c5 : w1.cell? ⟨lb, 9, none⟩ = some (.int .u32 (bk 5)) := HR.out.cell 9 (by omega)
    have c6 : w1.cell? ⟨lb, 10, none⟩ = some (.int .u32 (bk 6)) := HR.out.cell 10 (by omega)
    have c7 : w1.cell? ⟨lb, 11, none⟩ = some (.int .u32 (bk 7)) := HR.out.cell 11 (by omega)
    have a12 : w1.cell? ⟨lb, 12, none⟩ = some (.bool on) := HR.out.cell 12 (by omega)
    go_wp2_with fail
    obtain ⟨C, hC, hCA⟩ := HD1.out.rk
    refine (renter_any r q1 C id w1 hC).mono ?_
    rw [hCA]
    rintro e w2 ⟨rfl, hs⟩
    obtain ⟨o3, q3, hd3, x3, x4, hu3⟩ := HD1.out.stepR hs
    have HG := Lib.hid (DGo.trans HX1.out.1 HX1.out.2.1 HX1.out.2.2 ⟨o3, q3, hd3, x3, x4, hu3⟩)
    clear hs hd3 x3 x4 hu3 hC hCA C
    go_wp2_with fail
    go_ret
    exact ⟨⟨_, rfl, fun h => by subst h; simp⟩, HW.out.pre HG.out⟩
  omega
end Go.Proofs.Ytnebjbjdgfaooaa
