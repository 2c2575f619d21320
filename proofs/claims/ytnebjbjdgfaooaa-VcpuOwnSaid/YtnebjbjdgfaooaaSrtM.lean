/- Slices of list-register records in memory; the contracts of cmp.isNaN, cmp.Compare and of the order that All gives to the sort; no condition. -/
import Derived.Test.YtnebjbjdgfaooaaMem
import Derived.Test.YtnebjbjdgfaooaaSrt
namespace Go.Proofs.Ytnebjbjdgfaooaa
open Go.RowKit
set_option maxRecDepth 100000
def ecell (x : LrE) (c : Nat) : Value :=
  if c = 0 then .int .i64 x.id else if c = 1 then .int .i64 x.pr else if c = 2 then .bool x.lv else if c = 3 then .bool x.pe else .bool x.ac
def lcell (f : Nat → LrE) (k : Nat) : Value := ecell (f (k / 5)) (k % 5)
/-- The first n records of block q. -/
def LrAt (w : World) (q M n : Nat) (f : Nat → LrE) : Prop := ∃ g, RowAt w q 48 M g ∧ 5 * n ≤ M ∧ ∀ k, k < 5 * n → g k = lcell f k
section
variable {w : World} {q M n : Nat} {f : Nat → LrE}
theorem LrAt.lt (h : LrAt w q M n f) : q < w.heap.size := by obtain ⟨g, hg, _⟩ := h; exact hg.lt
theorem LrAt.frozen (h : LrAt w q M n f) (k : Nat) : w.frozen? ⟨q, k, none⟩ = false := by obtain ⟨g, hg, _⟩ := h; exact hg.frozen k
theorem LrAt.cells (h : LrAt w q M n f) (i : Nat) (hi : i < n) : w.cell? ⟨q, i * 5, none⟩ = some (.int .i64 (f i).id) ∧ w.cell? ⟨q, i * 5 + 1, none⟩ = some (.int .i64 (f i).pr) ∧
    w.cell? ⟨q, i * 5 + 2, none⟩ = some (.bool (f i).lv) ∧ w.cell? ⟨q, i * 5 + 3, none⟩ = some (.bool (f i).pe) ∧ w.cell? ⟨q, i * 5 + 4, none⟩ = some (.bool (f i).ac) := by
  obtain ⟨g, hg, hM, hk⟩ := h
  have e : ∀ c, c < 5 → w.cell? ⟨q, i * 5 + c, none⟩ = some (ecell (f i) c) := fun c hc => by
    rw [hg.cell (i * 5 + c) (by omega), hk (i * 5 + c) (by omega)]
    simp only [lcell]
    rw [show (i * 5 + c) / 5 = i by omega, show (i * 5 + c) % 5 = c by omega]
  exact ⟨e 0 (by omega), e 1 (by omega), e 2 (by omega), e 3 (by omega), e 4 (by omega)⟩
theorem LrAt.kept {w' : World} {S : Nat → Prop} (h : LrAt w q M n f) (u : Upd S w w') (hn : ¬ S q) : LrAt w' q M n f := by
  obtain ⟨g, hg, hM, hk⟩ := h; exact ⟨g, hg.kept u hn, hM, hk⟩
theorem LrAt.below {w' : World} (h : LrAt w q M n f) (u : Below w.heap.size w w') : LrAt w' q M n f := h.kept (S := fun _ => False) (Upd.of_below u) (fun h => h)
theorem LrAt.alloc (h : LrAt w q M n f) (o : Obj) : LrAt (w.alloc o) q M n f := h.kept (S := fun _ => False) ((Upd.refl _ _).alloc o) (fun h => h)
theorem LrAt.drewN (h : LrAt w q M n f) (m : Nat) : LrAt (w.drewN m) q M n f := h
theorem LrAt.drew (h : LrAt w q M n f) : LrAt w.drew q M n f := h
theorem LrAt.other (h : LrAt w q M n f) {p : Addr} (hp : p.block ≠ q) (v : Value) : LrAt (w.setCell p v) q M n f := by
  obtain ⟨g, hg, hM, hk⟩ := h; exact ⟨g, hg.other hp v, hM, hk⟩
theorem LrAt.congr {f' : Nat → LrE} (h : LrAt w q M n f) (e : ∀ i, i < n → f i = f' i) : LrAt w q M n f' := by
  obtain ⟨g, hg, hM, hk⟩ := h
  exact ⟨g, hg, hM, fun k hk' => by rw [hk k hk', lcell, lcell, e _ (by omega)]⟩
/-- A record stored. -/
def setE (w : World) (q i : Nat) (x : LrE) : World :=
  ((((w.setCell ⟨q, i * 5, none⟩ (.int .i64 x.id)).setCell ⟨q, i * 5 + 1, none⟩ (.int .i64 x.pr)).setCell ⟨q, i * 5 + 2, none⟩ (.bool x.lv)).setCell ⟨q, i * 5 + 3, none⟩ (.bool x.pe)).setCell ⟨q, i * 5 + 4, none⟩ (.bool x.ac)
theorem LrAt.setE (h : LrAt w q M n f) (i : Nat) (x : LrE) : LrAt (setE w q i x) q M n (fun p => if p = i then x else f p) := by
  obtain ⟨g, hg, hM, hk⟩ := h
  refine ⟨_, ((((hg.set (i * 5) (.int .i64 x.id)).set (i * 5 + 1) (.int .i64 x.pr)).set (i * 5 + 2) (.bool x.lv)).set (i * 5 + 3) (.bool x.pe)).set (i * 5 + 4) (.bool x.ac), hM, fun k hk' => ?_⟩
  simp only [lcell]
  by_cases hi : k / 5 = i
  · rw [if_pos hi]
    rcases (by omega : k % 5 = 0 ∨ k % 5 = 1 ∨ k % 5 = 2 ∨ k % 5 = 3 ∨ k % 5 = 4) with h5 | h5 | h5 | h5 | h5
    · rw [if_neg (by omega), if_neg (by omega), if_neg (by omega), if_neg (by omega), if_pos (by omega), h5]; rfl
    · rw [if_neg (by omega), if_neg (by omega), if_neg (by omega), if_pos (by omega), h5]; rfl
    · rw [if_neg (by omega), if_neg (by omega), if_pos (by omega), h5]; rfl
    · rw [if_neg (by omega), if_pos (by omega), h5]; rfl
    · rw [if_pos (by omega), h5]; rfl
  · rw [if_neg hi, if_neg (by omega), if_neg (by omega), if_neg (by omega), if_neg (by omega), if_neg (by omega), hk k hk']
    rfl
theorem LrAt.sw (h : LrAt w q M n f) (i j : Nat) : LrAt (Go.Proofs.Ytnebjbjdgfaooaa.setE (Go.Proofs.Ytnebjbjdgfaooaa.setE w q i (f j)) q j (f i)) q M n (swF f i j) := by
  refine ((h.setE i (f j)).setE j (f i)).congr fun p _ => ?_
  show (if p = j then f i else if p = i then f j else f p) = f (swI i j p)
  unfold swI
  repeat' split
  all_goals first | rfl | (subst_vars; rfl) | (congr 1; omega)
theorem Upd.setE {w0 : World} (u : Upd (· = q) w0 w) (i : Nat) (x : LrE) : Upd (· = q) w0 (Go.Proofs.Ytnebjbjdgfaooaa.setE w q i x) :=
  ((((u.setCell (p := ⟨q, i * 5, none⟩) (Or.inl rfl) _).setCell (p := ⟨q, i * 5 + 1, none⟩) (Or.inl rfl) _).setCell (p := ⟨q, i * 5 + 2, none⟩) (Or.inl rfl) _).setCell (p := ⟨q, i * 5 + 3, none⟩) (Or.inl rfl) _).setCell (p := ⟨q, i * 5 + 4, none⟩) (Or.inl rfl) _
theorem LrAt.swc (h : LrAt w q M n f) (i j : Nat) : LrAt ((((((((((w.setCell ⟨q, i * 5, none⟩ (.int .i64 (f j).id)).setCell ⟨q, i * 5 + 1, none⟩ (.int .i64 (f j).pr)).setCell ⟨q, i * 5 + 2, none⟩ (.bool (f j).lv)).setCell ⟨q, i * 5 + 3, none⟩ (.bool (f j).pe)).setCell ⟨q, i * 5 + 4, none⟩ (.bool (f j).ac)).setCell ⟨q, j * 5, none⟩ (.int .i64 (f i).id)).setCell ⟨q, j * 5 + 1, none⟩ (.int .i64 (f i).pr)).setCell ⟨q, j * 5 + 2, none⟩ (.bool (f i).lv)).setCell ⟨q, j * 5 + 3, none⟩ (.bool (f i).pe)).setCell ⟨q, j * 5 + 4, none⟩ (.bool (f i).ac)) q M n (swF f i j) := h.sw i j
theorem Upd.swc {w0 : World} (u : Upd (· = q) w0 w) (i j : Nat) (x y : LrE) : Upd (· = q) w0 ((((((((((w.setCell ⟨q, i * 5, none⟩ (.int .i64 (x).id)).setCell ⟨q, i * 5 + 1, none⟩ (.int .i64 (x).pr)).setCell ⟨q, i * 5 + 2, none⟩ (.bool (x).lv)).setCell ⟨q, i * 5 + 3, none⟩ (.bool (x).pe)).setCell ⟨q, i * 5 + 4, none⟩ (.bool (x).ac)).setCell ⟨q, j * 5, none⟩ (.int .i64 (y).id)).setCell ⟨q, j * 5 + 1, none⟩ (.int .i64 (y).pr)).setCell ⟨q, j * 5 + 2, none⟩ (.bool (y).lv)).setCell ⟨q, j * 5 + 3, none⟩ (.bool (y).pe)).setCell ⟨q, j * 5 + 4, none⟩ (.bool (y).ac)) := (u.setE i x).setE j y
end
theorem isnan_any (x : Int) (w : World) : Calls Try.prog 81 #[.int .i64 x] w fun e w' => e = .returned (.bool false) ∧ w = w' := by
  go_enter Try.func81, Try.ntmps81
  go_wp2_with fail
  go_ret
  simp
theorem compare_any (x y : Int) (w : World) : Calls Try.prog 50 #[.int .i64 x, .int .i64 y] w fun e w' => e = .returned (.int .i64 (if x < y then -1 else if y < x then 1 else 0)) ∧ w = w' := by
  go_enter Try.func50, Try.ntmps50
  go_wp2_with fail
  refine (isnan_any _ _).mono ?_; rintro e w1 ⟨rfl, rfl⟩
  go_wp2_with fail
  refine (isnan_any _ _).mono ?_; rintro e w1 ⟨rfl, rfl⟩
  go_wp2_with fail
  all_goals
    go_ret
    simp_all
set_option maxHeartbeats 1000000 in
theorem cmp_any (x y : LrE) (w : World) : Calls Try.prog 49 #[.agg #[.int .i64 x.id, .int .i64 x.pr, .bool x.lv, .bool x.pe, .bool x.ac], .agg #[.int .i64 y.id, .int .i64 y.pr, .bool y.lv, .bool y.pe, .bool y.ac]] w fun e w' => e = .returned (.int .i64 (cmpV x y)) ∧ Below w.heap.size w w' := by
  obtain ⟨xi, xp, xl, xe, xa⟩ := x
  obtain ⟨yi, yp, yl, ye, ya⟩ := y
  go_enter Try.func49, Try.ntmps49
  cases xa <;> cases ya
  all_goals (go_wp2_with (go_at_call 50; refine (compare_any _ _ _).mono ?_; rintro e w1 ⟨rfl, rfl⟩))
  all_goals
    go_ret
    refine ⟨?_, ?_⟩
    · first
      | (simp [cmpV]; done)
      | (simp only [cmpV]
         repeat' split
         all_goals first | rfl | (exfalso; omega) | simp_all)
    · repeat (first | (with_reducible exact Below.refl _ _) | (with_reducible refine Below.alloc ?_ (by simp) _))
end Go.Proofs.Ytnebjbjdgfaooaa
