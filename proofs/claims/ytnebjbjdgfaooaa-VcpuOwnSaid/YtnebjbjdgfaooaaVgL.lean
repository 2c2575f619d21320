/- Plain laws: the list of all virtual interrupts that are pending or active, by their numbers; its cells; two sorted ways of it are one. -/
import Derived.Test.YtnebjbjdgfaooaaVgR
import Derived.Test.YtnebjbjdgfaooaaSrtE
namespace Go.Proofs.Ytnebjbjdgfaooaa
open Go.RowKit Go.Maps
def lrOf (pe ac : Mp) (i : Nat) : Option LrE :=
  match ac i with
  | some y => some ⟨i, y.1, y.2, (pe i).isSome, true⟩
  | none => match pe i with
    | some y => some ⟨i, y.1, y.2, true, false⟩
    | none => none
def preL (pe ac : Mp) : Nat → List LrE
  | 0 => []
  | k + 1 => match lrOf pe ac k with | some x => preL pe ac k ++ [x] | none => preL pe ac k
theorem lrOf_id {pe ac : Mp} {i : Nat} {x : LrE} (h : lrOf pe ac i = some x) : x.id = i := by
  unfold lrOf at h
  split at h
  · cases h; rfl
  · split at h
    · cases h; rfl
    · cases h
theorem preL_mem {pe ac : Mp} {k : Nat} {x : LrE} : x ∈ preL pe ac k ↔ ∃ i, i < k ∧ lrOf pe ac i = some x := by
  induction k with
  | zero => simp [preL]
  | succ k ih =>
    simp only [preL]
    constructor
    · intro h
      split at h
      · rename_i y hy
        rcases List.mem_append.1 h with h | h
        · obtain ⟨i, hi, e⟩ := ih.1 h
          exact ⟨i, by omega, e⟩
        · simp at h; subst h; exact ⟨k, by omega, hy⟩
      · obtain ⟨i, hi, e⟩ := ih.1 h
        exact ⟨i, by omega, e⟩
    · rintro ⟨i, hi, e⟩
      by_cases hik : i = k
      · subst hik; rw [e]; simp
      · have := ih.2 ⟨i, by omega, e⟩
        split
        · exact List.mem_append_left _ this
        · exact this
theorem preL_len (pe ac : Mp) (k : Nat) : (preL pe ac k).length ≤ k := by
  induction k with
  | zero => simp [preL]
  | succ k ih => simp only [preL]; split
                 · simp; omega
                 · omega
theorem preL_inc (pe ac : Mp) (k : Nat) : (preL pe ac k).Pairwise (fun x y => x.id < y.id) := by
  induction k with
  | zero => exact List.Pairwise.nil
  | succ k ih =>
    simp only [preL]
    split
    · rename_i y hy
      refine List.pairwise_append.2 ⟨ih, List.pairwise_singleton _ _, fun a ha b hb => ?_⟩
      simp at hb
      subst hb
      obtain ⟨i, hi, e⟩ := preL_mem.1 ha
      rw [lrOf_id e, lrOf_id hy]
      omega
    · exact ih
def zLr : LrE := ⟨0, 0, false, false, false⟩
def fL (L : List LrE) (j : Nat) : LrE := L[j]?.getD zLr
theorem fL_get {L : List LrE} {j : Nat} (h : j < L.length) : fL L j = L[j] := by simp [fL, h]
theorem fL_mem {L : List LrE} {j : Nat} (h : j < L.length) : fL L j ∈ L := by rw [fL_get h]; exact List.getElem_mem h
theorem mem_fL {L : List LrE} {x : LrE} (h : x ∈ L) : ∃ j, j < L.length ∧ fL L j = x := by
  obtain ⟨j, hj, e⟩ := List.mem_iff_getElem.1 h
  exact ⟨j, hj, by rw [fL_get hj, e]⟩
theorem fL_inc (pe ac : Mp) (k i j : Nat) (hij : i < j) (hj : j < (preL pe ac k).length) : (fL (preL pe ac k) i).id < (fL (preL pe ac k) j).id := by
  rw [fL_get (by omega), fL_get hj]
  exact List.pairwise_iff_getElem.1 (preL_inc pe ac k) i j (by omega) hj hij
/-- The list's cells. -/
def cellsL (L : List LrE) : List Value := L.flatMap (fun x => [.int .i64 x.id, .int .i64 x.pr, .bool x.lv, .bool x.pe, .bool x.ac])
theorem cellsL_len (L : List LrE) : (cellsL L).length = L.length * 5 := by
  induction L with
  | nil => rfl
  | cons x L ih =>
    simp only [cellsL, List.flatMap_cons, List.length_append, List.length_cons, List.length_nil] at ih ⊢
    omega
theorem cellsL_snoc (L : List LrE) (x : LrE) : cellsL (L ++ [x]) = cellsL L ++ [.int .i64 x.id, .int .i64 x.pr, .bool x.lv, .bool x.pe, .bool x.ac] := by
  simp [cellsL]
theorem cellsL_get (L : List LrE) (k : Nat) (h : k < 5 * L.length) : (cellsL L)[k]? = some (lcell (fL L) k) := by
  induction L generalizing k with
  | nil => simp at h
  | cons x L ih =>
    have e : cellsL (x :: L) = [.int .i64 x.id, .int .i64 x.pr, .bool x.lv, .bool x.pe, .bool x.ac] ++ cellsL L := by simp [cellsL]
    rw [e]
    by_cases hk : k < 5
    · rw [List.getElem?_append_left (by simpa using hk)]
      unfold lcell
      rw [show k / 5 = 0 by omega, show fL (x :: L) 0 = x from rfl]
      rcases (by omega : k = 0 ∨ k = 1 ∨ k = 2 ∨ k = 3 ∨ k = 4) with rfl | rfl | rfl | rfl | rfl <;> rfl
    · rw [List.getElem?_append_right (by simp; omega)]
      simp only [List.length_cons, List.length_nil] at h ⊢
      rw [ih (k - (0 + 1 + 1 + 1 + 1 + 1)) (by omega)]
      unfold lcell
      rw [show (k - (0 + 1 + 1 + 1 + 1 + 1)) / 5 = k / 5 - 1 by omega, show (k - (0 + 1 + 1 + 1 + 1 + 1)) % 5 = k % 5 by omega]
      have : fL (x :: L) (k / 5) = fL L (k / 5 - 1) := by
        obtain ⟨m, hm⟩ : ∃ m, k / 5 = m + 1 := ⟨k / 5 - 1, by omega⟩
        rw [hm]
        simp [fL]
      rw [this]
theorem lr_of_own {w : World} {base n : Nat} {v : Value} {L : List LrE} (h : w.ownsRow base 48 5 v n (cellsL L)) (hn : n = L.length) :
    (v = .slice none 0 0 ∧ n = 0) ∨ ∃ q cap, v = .slice (some ⟨q, 0, none⟩) n cap ∧ base ≤ q ∧ LrAt w q (cap * 5) n (fL L) := by
  rcases h.2 with hx | ⟨q, cap, cur, hv, hb, hq, hnc, hcap, hsz, htake⟩
  · exact Or.inl hx
  · refine Or.inr ⟨q, cap, hv, hb, fun k => cur[k]?.getD undef, ⟨cur, hq, hsz, fun k hk => ?_⟩, by omega, fun k hk => ?_⟩
    · have e : cur[k]? = some (cur[k]'(by omega)) := Array.getElem?_eq_getElem (by omega)
      show cur[k]? = some (cur[k]?.getD undef)
      rw [e]; rfl
    · have h1 := cellsL_get L k (by omega)
      rw [← htake, List.getElem?_take, if_pos (by omega)] at h1
      have h2 : cur[k]? = some (lcell (fL L) k) := by simpa using h1
      show cur[k]?.getD undef = _
      rw [h2]; rfl
/-- g is the list's records in the document's order. -/
def IsAll (pe ac : Mp) (n : Nat) (g : Nat → LrE) : Prop := n = (preL pe ac 64).length ∧ Sg 0 n g ∧ Pm 0 n (fL (preL pe ac 64)) g
theorem IsAll.mem {pe ac : Mp} {n : Nat} {g : Nat → LrE} (h : IsAll pe ac n g) {j : Nat} (hj : j < n) : ∃ i, i < 64 ∧ lrOf pe ac i = some (g j) := by
  obtain ⟨hn, hs, hp⟩ := h
  obtain ⟨j', _, h1, e⟩ := hp.src (Nat.zero_le j) hj
  rw [e]
  exact preL_mem.1 (fL_mem (by omega))
theorem IsAll.has {pe ac : Mp} {n : Nat} {g : Nat → LrE} (h : IsAll pe ac n g) {i : Nat} (hi : i < 64) {x : LrE} (hx : lrOf pe ac i = some x) : ∃ j, j < n ∧ g j = x := by
  obtain ⟨hn, hs, hp⟩ := h
  obtain ⟨j, hj, e⟩ := mem_fL (preL_mem.2 ⟨i, hi, hx⟩)
  obtain ⟨j', _, h1, e'⟩ := hp.dst (Nat.zero_le j) (by omega : j < n)
  exact ⟨j', h1, by rw [e', e]⟩
/-- A sorted way to write down the same things is one. -/
theorem IsAll.uniq {pe ac : Mp} {n : Nat} {g g' : Nat → LrE} (h : IsAll pe ac n g) (hs : Sg 0 n g') (hm : ∀ j, j < n → ∃ i, i < 64 ∧ lrOf pe ac i = some (g' j)) (hh : ∀ i, i < 64 → ∀ x, lrOf pe ac i = some x → ∃ j, j < n ∧ g' j = x) : ∀ j, j < n → g j = g' j := by
  intro j
  induction j using Nat.strongRecOn with
  | _ j ih =>
    intro hj
    obtain ⟨i, hi, hx⟩ := h.mem hj
    obtain ⟨k, hk, ek⟩ := hh i hi _ hx
    obtain ⟨i', hi', hx'⟩ := hm j hj
    obtain ⟨k', hk', ek'⟩ := h.has hi' hx'
    rcases (by omega : k < j ∨ k = j ∨ j < k) with c | c | c
    · exfalso
      have e := ih k c hk
      rw [ek] at e
      have := h.2.1 k j (Nat.zero_le _) c hj
      rw [e] at this
      exact Lx.irr this
    · rw [← c]; rw [ek, c]
    · rcases (by omega : k' < j ∨ k' = j ∨ j < k') with c' | c' | c'
      · exfalso
        have e := ih k' c' hk'
        rw [ek'] at e
        have := hs k' j (Nat.zero_le _) c' hj
        rw [← e] at this
        exact Lx.irr this
      · rw [← ek', c']
      · exfalso
        have h1 := hs j k (Nat.zero_le _) c hk
        have h2 := h.2.1 j k' (Nat.zero_le _) c' hk'
        rw [ek] at h1
        rw [ek'] at h2
        exact Lx.irr (h1.trans h2)
end Go.Proofs.Ytnebjbjdgfaooaa
