/- Helpers of the law GicNests: the list of the active lines, the rows that a call owns through callees; no condition. -/
import Derived.Test.YtmehieloehlepaaGicI
import Derived.Test.YtmehieloehlepaaGicR
import Derived.WalkKit
namespace Go.Proofs.Ytmehieloehlepaa
open Go.RowKit
theorem info3 : (Try.prog.info? 3).map (fun i => (i.zero, i.size, i.bytes)) = some (some (.int .i64 0), 1, 8) := by kernel_rfl
def gA (G : Gm) (A : Nat → Bool) : Gm := { G with ac := A }
/-- The active ones of the first k lines. -/
def actL (A : Nat → Bool) : Nat → List Int
  | 0 => []
  | k + 1 => if A k = true then actL A k ++ [(k : Int)] else actL A k
theorem actL_len (A : Nat → Bool) (k : Nat) : (actL A k).length = cnt A k := by
  induction k with
  | zero => rfl
  | succ k ih =>
    simp only [actL, cnt]
    split <;> simp [ih]
theorem actL_mem (A : Nat → Bool) (k : Nat) (z : Int) (h : z ∈ actL A k) : ∃ j : Nat, j < k ∧ z = (j : Int) ∧ A j = true := by
  induction k with
  | zero => simp [actL] at h
  | succ k ih =>
    simp only [actL] at h
    split at h
    · rename_i hA
      rcases List.mem_append.1 h with h | h
      · obtain ⟨j, hj, hz, ha⟩ := ih h
        exact ⟨j, by omega, hz, ha⟩
      · simp at h
        exact ⟨k, by omega, h, hA⟩
    · obtain ⟨j, hj, hz, ha⟩ := ih h
      exact ⟨j, by omega, hz, ha⟩
theorem cnt_le (A : Nat → Bool) (k : Nat) : cnt A k ≤ k := by
  induction k with
  | zero => simp [cnt]
  | succ k ih => simp only [cnt]; split <;> omega
theorem runF_idle {G : Gm} {k : Nat} (h : ∀ i, i < k → G.ac i = false) : runF G k = 256 := by
  induction k with
  | zero => rfl
  | succ k ih => simp [runF, h k (by omega), ih (fun i hi => h i (by omega))]
theorem runF_done (G : Gm) (A : Nat → Bool) (h : cnt A 32 = 0) : runF (gA G A) 32 = 256 := runF_idle (fun i hi => cnt_zero h i hi)
theorem runF_yes (G : Gm) (A : Nat → Bool) (k : Nat) (h : A k = true) : runF (gA G A) (k + 1) = if G.sv k < runF (gA G A) k then G.sv k else runF (gA G A) k := by
  show (if A k = true ∧ G.sv k < runF (gA G A) k then G.sv k else runF (gA G A) k) = _
  simp [h]
theorem runF_not (G : Gm) (A : Nat → Bool) (k : Nat) (h : A k = false) : runF (gA G A) (k + 1) = runF (gA G A) k := by
  show (if A k = true ∧ G.sv k < runF (gA G A) k then G.sv k else runF (gA G A) k) = _
  simp [h]
theorem upd_twice {α : Type} (f : Nat → α) (n : Nat) (v : α) : upd (upd f n v) n v = upd f n v := by
  funext k
  simp only [upd]
  split <;> rfl
section
variable {w w' : World} {base : Nat} {e : TypeId} {size : Nat} {v : Value} {n : Nat} {xs : List Value}
theorem own_below (h : w.ownsRow base e size v n xs) (hb : Below w.heap.size w w') : w'.ownsRow base e size v n xs :=
  h.kept (row := none) ⟨hb.os, hb.tape, hb.output, hb.size, fun k hk _ => hb.block k hk⟩ (by cases v.ownBlock <;> simp)
theorem RowAt.grown {b : Nat} {T : TypeId} {m : Nat} {f : Nat → Value} {row : Option Nat} (h : RowAt w b T m f) (hg : w.grownBy w' row) (hne : some b ≠ row) : RowAt w' b T m f := by
  have hl := RowAt.lt h
  obtain ⟨c, hc, hs, hk⟩ := h
  exact ⟨c, (hg.block b hl hne).trans hc, hs, hk⟩
theorem own_block_ne (h : w.ownsRow base e size v n xs) {b : Nat} (hb : b < base) : some b ≠ v.ownBlock := by
  intro he
  have := (h.lt b he.symm).1
  omega
theorem own_parts {zs : List Int} (h : w.ownsRow base e 1 v n (zs.map (Value.int .i64))) :
    (v = .slice none 0 0 ∧ n = 0) ∨ ∃ q cap, v = .slice (some ⟨q, 0, none⟩) n cap ∧ base ≤ q ∧ q < w.heap.size ∧ ∀ (j : Nat) (z : Int), zs[j]? = some z → w.cell? ⟨q, j, none⟩ = some (.int .i64 z) := by
  rcases h.2 with hn | ⟨q, cap, cur, hv, hb, hq, _⟩
  · exact Or.inl hn
  · refine Or.inr ⟨q, cap, hv, hb, (h.lt q (by rw [hv]; rfl)).2, fun j z hz => ?_⟩
    have hadd : (⟨q, 0, none⟩ : Addr).add j = ⟨q, j, none⟩ := by unfold Addr.add; split <;> simp_all
    have := World.ownsRow.cells h (g := q) (by rw [hv]; rfl) j (.int .i64 z) (by simp [hz])
    rwa [hadd] at this
end
end Go.Proofs.Ytmehieloehlepaa
