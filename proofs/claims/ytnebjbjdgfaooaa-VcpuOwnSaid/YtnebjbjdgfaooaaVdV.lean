/- The two tables of VcpuOwn, and the plain law: what is written and injected into one is seen in that one alone; no condition but plain invariants. -/
import Derived.Test.YtnebjbjdgfaooaaVdS
import Derived.Test.YtnebjbjdgfaooaaVdO
namespace Go.Proofs.Ytnebjbjdgfaooaa
open Go.Joins Go.ChangeShapes Go.WideShapes Go.ChangeAt Go.RowKit Go.Deep Go.Maps
def cntA (A : Am) (i : Int) : Int := match A.all i with | none => 0 | some a => (((preL a.S.pe a.S.ac 64).length : Nat) : Int)
def FA (A : Am) (m : Nat) (k : Nat) : Value := .int .u32 (if k < m then (readA A ((k / 8 : Nat) : Int) ((k % 8 : Nat) : Int)).1 else 0)
def GA (A : Am) (m : Nat) (k : Nat) : Value := .int .i64 (if k < m then cntA A (k : Int) else 0)
theorem FA_at (A : Am) {i n : Nat} (hi : i < 6) (hn : n < 8) : FA A 48 (i * 8 + n) = .int .u32 (readA A i n).1 := by
  unfold FA
  rw [if_pos (by omega), show (i * 8 + n) / 8 = i by omega, show (i * 8 + n) % 8 = n by omega]
theorem GA_at (A : Am) {i : Nat} (hi : i < 6) : GA A 6 i = .int .i64 (cntA A i) := by
  unfold GA
  rw [if_pos (by omega)]
structure Two (w0 w : World) (o o2 : Own) (x y : Nat) (A : Am) (m j : Nat) : Prop where
  rx : RowAt w x 81 48 (FA A m)
  ry : RowAt w y 82 6 (GA A j)
  ox : ¬ (Ow o x ∨ Ow o2 x)
  oy : ¬ (Ow o y ∨ Ow o2 y)
  ne : x ≠ y
  lx : w0.heap.size ≤ x
  ly : w0.heap.size ≤ y
section
variable {w0 w w1 : World} {p r x y m j : Nat} {o o2 : Own} {A B A' B' : Am}
theorem Two.kept {X : Nat → Prop} (h : Two w0 w o o2 x y A m j) (u : Upd X w w1) (hx : ¬ X x) (hy : ¬ X y) : Two w0 w1 o o2 x y A m j :=
  ⟨h.rx.kept u hx, h.ry.kept u hy, h.ox, h.oy, h.ne, h.lx, h.ly⟩
theorem Two.below (h : Two w0 w o o2 x y A m j) (u : Below w.heap.size w w1) : Two w0 w1 o o2 x y A m j := h.kept (X := fun _ => False) (Upd.of_below u) (fun h => h) (fun h => h)
theorem Two.drewN (h : Two w0 w o o2 x y A m j) (n : Nat) : Two w0 (w.drewN n) o o2 x y A m j := h.kept (X := fun _ => False) ((Upd.refl _ _).drewN n) (fun h => h) (fun h => h)
theorem Two.setx (h : Two w0 w o o2 x y A m j) (hm : m < 48) {v : Int} (hv : v = (readA A ((m / 8 : Nat) : Int) ((m % 8 : Nat) : Int)).1) : Two w0 (w.setCell ⟨x, m, none⟩ (.int .u32 v)) o o2 x y A (m + 1) j := by
  refine ⟨(h.rx.set m _).congr fun k hk => ?_, h.ry.other (p := ⟨x, m, none⟩) h.ne _, h.ox, h.oy, h.ne, h.lx, h.ly⟩
  show (if k = m then Value.int .u32 v else FA A m k) = FA A (m + 1) k
  by_cases e : k = m
  · subst e; rw [if_pos rfl, hv]; unfold FA; rw [if_pos (by omega)]
  · rw [if_neg e]; unfold FA
    by_cases e2 : k < m
    · rw [if_pos e2, if_pos (by omega)]
    · rw [if_neg e2, if_neg (by omega)]
theorem Two.sety (h : Two w0 w o o2 x y A m j) (hj : j < 6) {v : Int} (hv : v = cntA A (j : Int)) : Two w0 (w.setCell ⟨y, j, none⟩ (.int .i64 v)) o o2 x y A m (j + 1) := by
  refine ⟨h.rx.other (p := ⟨y, j, none⟩) h.ne.symm _, (h.ry.set j _).congr fun k hk => ?_, h.ox, h.oy, h.ne, h.lx, h.ly⟩
  show (if k = j then Value.int .i64 v else GA A j k) = GA A (j + 1) k
  by_cases e : k = j
  · subst e; rw [if_pos rfl, hv]; unfold GA; rw [if_pos (by omega)]
  · rw [if_neg e]; unfold GA
    by_cases e2 : k < j
    · rw [if_pos e2, if_pos (by omega)]
    · rw [if_neg e2, if_neg (by omega)]
theorem Two.skip (h : Two w0 w o o2 x y A m j) (hv : cntA A (j : Int) = 0) : Two w0 w o o2 x y A m (j + 1) := by
  refine ⟨h.rx, h.ry.congr fun k hk => ?_, h.ox, h.oy, h.ne, h.lx, h.ly⟩
  unfold GA
  by_cases e2 : k < j
  · rw [if_pos e2, if_pos (by omega)]
  · rw [if_neg e2]
    by_cases e : k = j
    · subst e; rw [if_pos (by omega), hv]
    · rw [if_neg (by omega)]
theorem Duo.setAt (h : Duo w0 w p r o o2 A B) {b : Nat} (ho : ¬ (Ow o b ∨ Ow o2 b)) (hb : w0.heap.size ≤ b) (k : Nat) (v : Value) : Duo w0 (w.setCell ⟨b, k, none⟩ v) p r o o2 A B := by
  have hu : Upd (fun c => c = b) w (w.setCell ⟨b, k, none⟩ v) := Upd.setCell (S := fun c => c = b) (Upd.refl _ _) (p := ⟨b, k, none⟩) (Or.inl rfl) _
  exact h.kept hu (fun c hc e => ho (e ▸ hc)) (bel_upd h.bel hu (fun c hc => hc ▸ hb))
theorem Two.new (h : Duo w0 w p r o o2 A B) : Two w0 ((w.alloc (.cells #[.int .u32 0, .int .u32 0, .int .u32 0, .int .u32 0, .int .u32 0, .int .u32 0, .int .u32 0, .int .u32 0, .int .u32 0, .int .u32 0, .int .u32 0, .int .u32 0, .int .u32 0, .int .u32 0, .int .u32 0, .int .u32 0, .int .u32 0, .int .u32 0, .int .u32 0, .int .u32 0, .int .u32 0, .int .u32 0, .int .u32 0, .int .u32 0, .int .u32 0, .int .u32 0, .int .u32 0, .int .u32 0, .int .u32 0, .int .u32 0, .int .u32 0, .int .u32 0, .int .u32 0, .int .u32 0, .int .u32 0, .int .u32 0, .int .u32 0, .int .u32 0, .int .u32 0, .int .u32 0, .int .u32 0, .int .u32 0, .int .u32 0, .int .u32 0, .int .u32 0, .int .u32 0, .int .u32 0, .int .u32 0] 81)).alloc (.cells #[.int .i64 0, .int .i64 0, .int .i64 0, .int .i64 0, .int .i64 0, .int .i64 0] 82)) o o2 w.heap.size (w.heap.size + 1) A 0 0 := by
  have hs := h.bel.size
  refine ⟨RowAt.alloc (row_new_of w _ 81 48 _ (by kernel_rfl)) _, ?_, fun ho => ?_, fun ho => ?_, by omega, hs, by omega⟩
  · have h := row_new_of (w.alloc (.cells #[.int .u32 0, .int .u32 0, .int .u32 0, .int .u32 0, .int .u32 0, .int .u32 0, .int .u32 0, .int .u32 0, .int .u32 0, .int .u32 0, .int .u32 0, .int .u32 0, .int .u32 0, .int .u32 0, .int .u32 0, .int .u32 0, .int .u32 0, .int .u32 0, .int .u32 0, .int .u32 0, .int .u32 0, .int .u32 0, .int .u32 0, .int .u32 0, .int .u32 0, .int .u32 0, .int .u32 0, .int .u32 0, .int .u32 0, .int .u32 0, .int .u32 0, .int .u32 0, .int .u32 0, .int .u32 0, .int .u32 0, .int .u32 0, .int .u32 0, .int .u32 0, .int .u32 0, .int .u32 0, .int .u32 0, .int .u32 0, .int .u32 0, .int .u32 0, .int .u32 0, .int .u32 0, .int .u32 0, .int .u32 0] 81)) #[.int .i64 0, .int .i64 0, .int .i64 0, .int .i64 0, .int .i64 0, .int .i64 0] 82 6 (GA A 0) (by kernel_rfl)
    rw [show (w.alloc (.cells #[.int .u32 0, .int .u32 0, .int .u32 0, .int .u32 0, .int .u32 0, .int .u32 0, .int .u32 0, .int .u32 0, .int .u32 0, .int .u32 0, .int .u32 0, .int .u32 0, .int .u32 0, .int .u32 0, .int .u32 0, .int .u32 0, .int .u32 0, .int .u32 0, .int .u32 0, .int .u32 0, .int .u32 0, .int .u32 0, .int .u32 0, .int .u32 0, .int .u32 0, .int .u32 0, .int .u32 0, .int .u32 0, .int .u32 0, .int .u32 0, .int .u32 0, .int .u32 0, .int .u32 0, .int .u32 0, .int .u32 0, .int .u32 0, .int .u32 0, .int .u32 0, .int .u32 0, .int .u32 0, .int .u32 0, .int .u32 0, .int .u32 0, .int .u32 0, .int .u32 0, .int .u32 0, .int .u32 0, .int .u32 0] 81)).heap.size = w.heap.size + 1 from by simp] at h
    exact h
  · have := h.lim ho; omega
  · have := h.lim ho; omega
theorem Two.go (t : Two w0 w o o2 x y A m j) (g : DGo w0 w w1 p r o o2 A' B') : ∃ o' o2', Duo w0 w1 p r o' o2' A' B' ∧ Two w0 w1 o' o2' x y A m j := by
  obtain ⟨o', o2', hd, x1, x2, hu⟩ := g
  have hx := t.rx.lt
  have hy := t.ry.lt
  refine ⟨o', o2', hd, t.rx.kept hu t.ox, t.ry.kept hu t.oy, ?_, ?_, t.ne, t.lx, t.ly⟩
  · unfold Ow; rw [x1 x hx, x2 x hx]; exact t.ox
  · unfold Ow; rw [x1 y hy, x2 y hy]; exact t.oy
end
/-- One after the write and the injection. -/
theorem own_all (A : Am) (id n v irq pr : Int) (lv : Bool) {i : Int} (h : i ≠ id) : (injectA (writeA A id n v).1 id irq pr lv).1.all i = A.all i := by
  have hw : (writeA A id n v).1.all i = A.all i := by
    unfold writeA
    split
    · rfl
    · split
      · exact updQ_other _ _ h
      · rfl
  unfold injectA
  split
  · exact hw
  · exact (updQ_other _ _ h).trans hw
theorem own_cnt (A : Am) (id n v irq pr : Int) (lv : Bool) {i : Int} (h : i ≠ id) : cntA (injectA (writeA A id n v).1 id irq pr lv).1 i = cntA A i := by
  unfold cntA; rw [own_all A id n v irq pr lv h]
theorem own_read (A : Am) (id n v irq pr : Int) (lv : Bool) (i k : Int) (hk : 0 ≤ k ∧ k < 8) : (readA (injectA (writeA A id n v).1 id irq pr lv).1 i k).1 = if (writeA A id n v).2 = 0 ∧ i = id ∧ k = n then v else (readA A i k).1 := by
  by_cases h : i = id
  · subst h
    cases hA : A.all i with
    | none =>
      have e1 : writeA A i n v = (A, 181) := by unfold writeA; rw [hA]
      have e2 : injectA A i irq pr lv = (A, 181) := by unfold injectA; rw [hA]
      rw [e1, if_neg (by simp)]
      show (readA (injectA A i irq pr lv).1 i k).1 = _
      rw [e2]
    | some a =>
      have hr : (readA A i k).1 = a.sys k.toNat := by unfold readA; rw [hA]; simp only [if_pos hk]
      rw [hr]
      by_cases hn : 0 ≤ n ∧ n < 6
      · have e1 : writeA A i n v = ({ A with all := updQ A.all i (some { a with sys := updS a.sys n.toNat v }) }, 0) := by unfold writeA; rw [hA]; simp only [if_pos hn]
        rw [e1]
        have e2 : (injectA { A with all := updQ A.all i (some { a with sys := updS a.sys n.toNat v }) } i irq pr lv).1.all i = some { a with sys := updS a.sys n.toNat v, S := (injV a.S irq pr lv).1 } := by
          unfold injectA
          simp only [updQ_same]
        unfold readA
        simp only [e2, if_pos hk, updS]
        by_cases e : k = n
        · subst e; rw [if_pos rfl, if_pos (by simp)]
        · rw [if_neg (by omega), if_neg (fun h => e h.2.2)]
      · have e1 : writeA A i n v = (A, 1) := by unfold writeA; rw [hA]; simp only [if_neg hn]
        rw [e1, if_neg (by simp)]
        have e2 : (injectA A i irq pr lv).1.all i = some { a with S := (injV a.S irq pr lv).1 } := by
          unfold injectA
          rw [hA]
          exact updQ_same _ _ _
        show (readA (injectA A i irq pr lv).1 i k).1 = _
        unfold readA
        simp only [e2, if_pos hk]
  · rw [if_neg (fun e => h e.2.1)]
    unfold readA
    rw [own_all A id n v irq pr lv h]
end Go.Proofs.Ytnebjbjdgfaooaa
