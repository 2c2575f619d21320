/- Plain laws of the stable merge sort: permutations of a segment, rotations, sorted segments; no program in sight. -/
import Derived.WalkKit
namespace Go.Proofs.Ytnebjbjdgfaooaa
structure LrE where
  id : Int
  pr : Int
  lv : Bool
  pe : Bool
  ac : Bool
/-- Does one come before the other by its key? -/
def klt (x y : LrE) : Bool := if x.ac = y.ac then decide (x.pr < y.pr) else x.ac
def cmpV (x y : LrE) : Int := if x.ac = y.ac then (if x.pr < y.pr then -1 else if y.pr < x.pr then 1 else 0) else if x.ac = true then -1 else 1
theorem cmpV_lt (x y : LrE) : decide (cmpV x y < 0) = klt x y := by
  unfold cmpV klt
  split
  · split
    · simp [*]
    · split <;> simp [*]
  · rename_i h
    split
    · simp [*]
    · simp_all
theorem klt_irr (x : LrE) : klt x x = false := by simp [klt]
theorem klt_trans {x y z : LrE} (h : klt x y = true) (k : klt y z = true) : klt x z = true := by
  unfold klt at *
  cases hx : x.ac <;> cases hy : y.ac <;> cases hz : z.ac <;> simp_all <;> omega
/-- By the key, then by the number. -/
def Lx (x y : LrE) : Prop := klt x y = true ∨ (klt y x = false ∧ x.id < y.id)
theorem Lx.klt_of {x y z : LrE} (h : Lx x y) (k : klt y z = true) : klt x z = true := by
  unfold Lx klt at *
  cases hx : x.ac <;> cases hy : y.ac <;> cases hz : z.ac <;> simp_all <;> omega
theorem klt_lx {x y z : LrE} (h : klt x y = true) (k : Lx y z) : klt x z = true := by
  unfold Lx klt at *
  cases hx : x.ac <;> cases hy : y.ac <;> cases hz : z.ac <;> simp_all <;> omega
theorem Lx.trans {x y z : LrE} (h : Lx x y) (k : Lx y z) : Lx x z := by
  unfold Lx klt at *
  cases hx : x.ac <;> cases hy : y.ac <;> cases hz : z.ac <;> simp_all <;> omega
theorem Lx.irr {x : LrE} : ¬ Lx x x := by
  rintro (h | h)
  · rw [klt_irr] at h; cases h
  · omega
theorem Lx.not {x y : LrE} (h : Lx x y) : klt y x = false := by
  rcases h with h | h
  · cases k : klt y x
    · rfl
    · have := klt_trans h k
      rw [klt_irr] at this; cases this
  · exact h.1
theorem Lx.tot {x y : LrE} (h : x.id ≠ y.id) : Lx x y ∨ Lx y x := by
  unfold Lx
  cases h1 : klt x y
  · cases h2 : klt y x
    · rcases (by omega : x.id < y.id ∨ y.id < x.id) with h3 | h3
      · exact Or.inl (Or.inr ⟨rfl, h3⟩)
      · exact Or.inr (Or.inr ⟨rfl, h3⟩)
    · exact Or.inr (Or.inl rfl)
  · exact Or.inl (Or.inl rfl)

/-- f' is f with the places from a to b permuted. -/
def Pm (a b : Nat) (f f' : Nat → LrE) : Prop :=
  ∃ s t : Nat → Nat, (∀ i, t (s i) = i) ∧ (∀ i, s (t i) = i) ∧ (∀ i, ¬ (a ≤ i ∧ i < b) → s i = i) ∧ ∀ i, f' i = f (s i)
theorem Pm.refl (a b : Nat) (f : Nat → LrE) : Pm a b f f := ⟨id, id, fun _ => rfl, fun _ => rfl, fun _ _ => rfl, fun _ => rfl⟩
theorem Pm.trans {a b : Nat} {f g h : Nat → LrE} (x : Pm a b f g) (y : Pm a b g h) : Pm a b f h := by
  obtain ⟨s, t, h1, h2, h3, h4⟩ := x
  obtain ⟨s', t', k1, k2, k3, k4⟩ := y
  refine ⟨fun i => s (s' i), fun i => t' (t i), fun i => ?_, fun i => ?_, fun i hi => ?_, fun i => ?_⟩
  · show t' (t (s (s' i))) = i
    rw [h1, k1]
  · show s (s' (t' (t i))) = i
    rw [k2, h2]
  · show s (s' i) = i
    rw [k3 i hi, h3 i hi]
  · rw [k4, h4]
theorem Pm.mono {a b a' b' : Nat} {f g : Nat → LrE} (x : Pm a b f g) (ha : a' ≤ a) (hb : b ≤ b') : Pm a' b' f g := by
  obtain ⟨s, t, h1, h2, h3, h4⟩ := x
  exact ⟨s, t, h1, h2, fun i hi => h3 i (fun h => hi ⟨by omega, by omega⟩), h4⟩
theorem Pm.out {a b : Nat} {f g : Nat → LrE} (x : Pm a b f g) {i : Nat} (hi : ¬ (a ≤ i ∧ i < b)) : g i = f i := by
  obtain ⟨s, t, h1, h2, h3, h4⟩ := x
  rw [h4, h3 i hi]
theorem Pm.src {a b : Nat} {f g : Nat → LrE} (x : Pm a b f g) {i : Nat} (h0 : a ≤ i) (h1 : i < b) : ∃ j, a ≤ j ∧ j < b ∧ g i = f j := by
  obtain ⟨s, t, k1, k2, k3, k4⟩ := x
  by_cases h : a ≤ s i ∧ s i < b
  · exact ⟨s i, h.1, h.2, k4 i⟩
  · have e := k3 _ h
    have := congrArg t e
    rw [k1, k1] at this
    rw [this] at h
    exact absurd ⟨h0, h1⟩ h
theorem Pm.dst {a b : Nat} {f g : Nat → LrE} (x : Pm a b f g) {i : Nat} (h0 : a ≤ i) (h1 : i < b) : ∃ j, a ≤ j ∧ j < b ∧ g j = f i := by
  obtain ⟨s, t, k1, k2, k3, k4⟩ := x
  have hj : g (t i) = f i := by rw [k4, k2]
  by_cases h : a ≤ t i ∧ t i < b
  · exact ⟨t i, h.1, h.2, hj⟩
  · have e := k3 _ h
    rw [k2] at e
    rw [← e] at h
    exact absurd ⟨h0, h1⟩ h
def swI (i j p : Nat) : Nat := if p = i then j else if p = j then i else p
def swF (f : Nat → LrE) (i j : Nat) : Nat → LrE := fun p => f (swI i j p)
theorem swI_swI (i j p : Nat) : swI i j (swI i j p) = p := by
  unfold swI; repeat' split
  all_goals omega
theorem Pm.sw {a b i j : Nat} (f : Nat → LrE) (hi : a ≤ i ∧ i < b) (hj : a ≤ j ∧ j < b) : Pm a b f (swF f i j) :=
  ⟨swI i j, swI i j, swI_swI i j, swI_swI i j, fun p hp => (by
    unfold swI
    repeat' split
    all_goals omega), fun _ => rfl⟩
/-- [lo, m) and [m, hi) exchanged. -/
def rotI (lo m hi p : Nat) : Nat := if lo ≤ p ∧ p < lo + (hi - m) then p + (m - lo) else if lo + (hi - m) ≤ p ∧ p < hi then p - (hi - m) else p
def rotF (f : Nat → LrE) (lo m hi : Nat) : Nat → LrE := fun p => f (rotI lo m hi p)
theorem rotI_inv (lo m hi p : Nat) (h1 : lo ≤ m) (h2 : m ≤ hi) : rotI lo (lo + (hi - m)) hi (rotI lo m hi p) = p := by
  unfold rotI; repeat' split
  all_goals omega
theorem Pm.rot {lo m hi : Nat} (f : Nat → LrE) (h1 : lo ≤ m) (h2 : m ≤ hi) : Pm lo hi f (rotF f lo m hi) :=
  ⟨rotI lo m hi, rotI lo (lo + (hi - m)) hi, fun p => rotI_inv lo m hi p h1 h2,
    fun p => by
      have := rotI_inv lo (lo + (hi - m)) hi p (by omega) (by omega)
      rw [show lo + (hi - (lo + (hi - m))) = m by omega] at this
      exact this,
    fun p hp => (by
      unfold rotI
      repeat' split
      all_goals omega), fun _ => rfl⟩
/-- [a, a+n) and [b, b+n) exchanged. -/
def srI (a b n p : Nat) : Nat := if a ≤ p ∧ p < a + n then p - a + b else if b ≤ p ∧ p < b + n then p - b + a else p
def srF (f : Nat → LrE) (a b n : Nat) : Nat → LrE := fun p => f (srI a b n p)
theorem srF_zero (f : Nat → LrE) (a b : Nat) : srF f a b 0 = f := by
  funext p
  show f (srI a b 0 p) = f p
  congr 1
  unfold srI; repeat' split
  all_goals omega
theorem srF_succ (f : Nat → LrE) (a b n : Nat) (h : a + n < b) : swF (srF f a b n) (a + n) (b + n) = srF f a b (n + 1) := by
  funext p
  show f (srI a b n (swI (a + n) (b + n) p)) = f (srI a b (n + 1) p)
  congr 1
  unfold srI swI; repeat' split
  all_goals omega
theorem rot_gt (f : Nat → LrE) (m i j : Nat) (hi : i ≤ m) (h : j < i) : rotF (srF f (m - i) m j) (m - (i - j)) m (m + j) = rotF f (m - i) m (m + j) := by
  funext p
  show f (srI _ _ _ (rotI _ _ _ p)) = f (rotI _ _ _ p)
  congr 1
  unfold srI rotI; repeat' split
  all_goals omega
theorem rot_lt (f : Nat → LrE) (m i j : Nat) (hi : i ≤ m) (h : i < j) : rotF (srF f (m - i) (m + j - i) i) (m - i) m (m + (j - i)) = rotF f (m - i) m (m + j) := by
  funext p
  show f (srI _ _ _ (rotI _ _ _ p)) = f (rotI _ _ _ p)
  congr 1
  unfold srI rotI; repeat' split
  all_goals omega
theorem rot_eq (f : Nat → LrE) (m i : Nat) (hi : i ≤ m) : srF f (m - i) m i = rotF f (m - i) m (m + i) := by
  funext p
  show f (srI _ _ _ p) = f (rotI _ _ _ p)
  congr 1
  unfold srI rotI; repeat' split
  all_goals omega

def Sg (a b : Nat) (f : Nat → LrE) : Prop := ∀ i j, a ≤ i → i < j → j < b → Lx (f i) (f j)
def Idlt (a m b : Nat) (f : Nat → LrE) : Prop := ∀ i j, a ≤ i → i < m → m ≤ j → j < b → (f i).id < (f j).id
theorem Sg.congr {a b : Nat} {f g : Nat → LrE} (h : Sg a b f) (e : ∀ i, a ≤ i → i < b → g i = f i) : Sg a b g := fun i j h0 h1 h2 => by
  rw [e i h0 (by omega), e j (by omega) h2]
  exact h i j h0 h1 h2
/-- A lone left one, taken right to where it belongs. -/
def mvR (f : Nat → LrE) (a k : Nat) : Nat → LrE := fun p => if a ≤ p ∧ p < k then f (p + 1) else if p = k then f a else f p
theorem mvR_self (f : Nat → LrE) (a : Nat) : mvR f a a = f := by
  funext p
  unfold mvR
  repeat' split
  all_goals first | omega | (congr 1; omega) | rfl
theorem mvR_succ (f : Nat → LrE) (a k : Nat) (h : a ≤ k) : swF (mvR f a k) k (k + 1) = mvR f a (k + 1) := by
  funext p
  unfold swF swI mvR
  repeat' split
  all_goals first | omega | (congr 1; omega) | rfl
theorem merge_one_left {a i b : Nat} {f : Nat → LrE} (hs : Sg (a + 1) b f) (hid : Idlt a (a + 1) b f) (hi : a + 1 ≤ i) (hib : i ≤ b)
    (hl : ∀ k, a + 1 ≤ k → k < i → klt (f k) (f a) = true) (hr : ∀ k, i ≤ k → k < b → klt (f k) (f a) = false) : Sg a b (mvR f a (i - 1)) := by
  intro p q h0 h1 h2
  unfold mvR
  by_cases hp : p < i - 1
  · rw [if_pos ⟨h0, hp⟩]
    by_cases hq : q < i - 1
    · rw [if_pos ⟨by omega, hq⟩]
      exact hs _ _ (by omega) (by omega) (by omega)
    · rw [if_neg (by omega)]
      by_cases hq2 : q = i - 1
      · rw [if_pos hq2]
        exact Or.inl (hl _ (by omega) (by omega))
      · rw [if_neg hq2]
        exact hs _ _ (by omega) (by omega) (by omega)
  · rw [if_neg (by omega), if_neg (by omega : ¬ (a ≤ q ∧ q < i - 1)), if_neg (by omega : ¬ q = i - 1)]
    by_cases hp2 : p = i - 1
    · rw [if_pos hp2]
      exact Or.inr ⟨hr _ (by omega) (by omega), hid _ _ (by omega) (by omega) (by omega) (by omega)⟩
    · rw [if_neg hp2]
      exact hs _ _ (by omega) (by omega) (by omega)
/-- A lone right one, taken left to where it belongs. -/
def mvL (f : Nat → LrE) (m k : Nat) : Nat → LrE := fun p => if k < p ∧ p ≤ m then f (p - 1) else if p = k then f m else f p
theorem mvL_self (f : Nat → LrE) (m : Nat) : mvL f m m = f := by
  funext p
  unfold mvL
  repeat' split
  all_goals first | omega | (congr 1; omega) | rfl
theorem mvL_succ (f : Nat → LrE) (m k : Nat) (h : k < m) : swF (mvL f m (k + 1)) (k + 1) k = mvL f m k := by
  funext p
  unfold swF swI mvL
  repeat' split
  all_goals first | omega | (congr 1; omega) | rfl
theorem merge_one_right {a i m : Nat} {f : Nat → LrE} (hs : Sg a m f) (hid : Idlt a m (m + 1) f) (hi : a ≤ i) (him : i ≤ m)
    (hl : ∀ k, a ≤ k → k < i → klt (f m) (f k) = false) (hr : ∀ k, i ≤ k → k < m → klt (f m) (f k) = true) : Sg a (m + 1) (mvL f m i) := by
  intro p q h0 h1 h2
  unfold mvL
  by_cases hp : p < i
  · rw [if_neg (by omega : ¬ (i < p ∧ p ≤ m)), if_neg (by omega : ¬ p = i)]
    by_cases hq : q < i
    · rw [if_neg (by omega), if_neg (by omega)]
      exact hs _ _ h0 h1 (by omega)
    · by_cases hq2 : q = i
      · rw [if_neg (by omega), if_pos hq2]
        exact Or.inr ⟨hl _ h0 hp, hid _ _ h0 (by omega) (by omega) (by omega)⟩
      · rw [if_pos (by omega)]
        exact hs _ _ h0 (by omega) (by omega)
  · by_cases hp2 : p = i
    · rw [if_neg (by omega), if_pos hp2, if_pos (by omega)]
      exact Or.inl (hr _ (by omega) (by omega))
    · rw [if_pos (by omega), if_pos (by omega)]
      exact hs _ _ (by omega) (by omega) (by omega)
/-- What the search in the middle finds. -/
structure Cutp (a m b s : Nat) (f : Nat → LrE) : Prop where
  lo : a ≤ s
  lom : s ≤ m
  mid : s ≤ (a + b) / 2
  hib : (a + b) / 2 + m - s ≤ b
  left : a < s → (a + b) / 2 + m - s < b → klt (f ((a + b) / 2 + m - s)) (f (s - 1)) = false
  right : s < m → s < (a + b) / 2 → klt (f ((a + b) / 2 + m - s - 1)) (f s) = true
/-- Behind the rotation each of the left half comes before each of the right half. -/
theorem cut_cross {a m b s : Nat} {f : Nat → LrE} (ha : a < m) (hb : m < b) (h1 : Sg a m f) (h2 : Sg m b f) (hid : Idlt a m b f) (c : Cutp a m b s f) :
    ∀ i j, a ≤ i → i < (a + b) / 2 → (a + b) / 2 ≤ j → j < b → Lx (rotF f s m ((a + b) / 2 + m - s) i) (rotF f s m ((a + b) / 2 + m - s) j) := by
  obtain ⟨c1, c2, c3, c4, c5, c6⟩ := c
  intro i j i0 i1 j0 j1
  generalize hmid : (a + b) / 2 = mid at *
  have hm : a ≤ mid ∧ mid < b := by omega
  show Lx (f (rotI s m (mid + m - s) i)) (f (rotI s m (mid + m - s) j))
  have hi : (i < s ∧ rotI s m (mid + m - s) i = i) ∨ (s ≤ i ∧ rotI s m (mid + m - s) i = i + (m - s)) := by
    unfold rotI; repeat' split
    all_goals omega
  have hj : (mid + m - s ≤ j ∧ rotI s m (mid + m - s) j = j) ∨ (j < mid + m - s ∧ rotI s m (mid + m - s) j = j - (mid - s)) := by
    unfold rotI; repeat' split
    all_goals omega
  rcases hi with ⟨hi, ei⟩ | ⟨hi, ei⟩ <;> rcases hj with ⟨hj, ej⟩ | ⟨hj, ej⟩ <;> rw [ei, ej]
  · refine Or.inr ⟨?_, hid _ _ i0 (by omega) (by omega) j1⟩
    have k := c5 (by omega) (by omega)
    cases hk : klt (f j) (f i)
    · rfl
    · exfalso
      have k1 : klt (f (mid + m - s)) (f i) = true := by
        by_cases e : j = mid + m - s
        · rw [← e]; exact hk
        · exact (h2 (mid + m - s) j (by omega) (by omega) j1).klt_of hk
      have k2 : klt (f (mid + m - s)) (f (s - 1)) = true := by
        by_cases e : i = s - 1
        · rw [← e]; exact k1
        · exact klt_lx k1 (h1 i (s - 1) i0 (by omega) (by omega))
      rw [k] at k2; cases k2
  · exact h1 _ _ i0 (by omega) (by omega)
  · exact h2 _ _ (by omega) (by omega) j1
  · refine Or.inl ?_
    have k := c6 (by omega) (by omega)
    have k1 : klt (f (i + (m - s))) (f s) = true := by
      by_cases e : i + (m - s) = mid + m - s - 1
      · rw [e]; exact k
      · exact (h2 (i + (m - s)) (mid + m - s - 1) (by omega) (by omega) (by omega)).klt_of k
    by_cases e : j - (mid - s) = s
    · rw [e]; exact k1
    · exact klt_lx k1 (h1 s (j - (mid - s)) (by omega) (by omega) (by omega))
/-- What the two halves are, behind the rotation. -/
theorem cut_left {a m b s : Nat} {f : Nat → LrE} (ha : a < m) (hb : m < b) (h1 : Sg a m f) (h2 : Sg m b f) (hid : Idlt a m b f) (c : Cutp a m b s f) :
    Sg a s (rotF f s m ((a + b) / 2 + m - s)) ∧ Sg s ((a + b) / 2) (rotF f s m ((a + b) / 2 + m - s)) ∧ Idlt a s ((a + b) / 2) (rotF f s m ((a + b) / 2 + m - s)) := by
  obtain ⟨c1, c2, c3, c4, c5, c6⟩ := c
  generalize hmid : (a + b) / 2 = mid at *
  have L : ∀ i, i < s → rotI s m (mid + m - s) i = i := fun i hi => by
    unfold rotI; repeat' split
    all_goals omega
  have R : ∀ i, s ≤ i → i < mid → rotI s m (mid + m - s) i = i + (m - s) := fun i h0 h1 => by
    unfold rotI; repeat' split
    all_goals omega
  refine ⟨fun i j i0 ij jb => ?_, fun i j i0 ij jb => ?_, fun i j i0 ij jb j1 => ?_⟩
  · show Lx (f (rotI _ _ _ i)) (f (rotI _ _ _ j))
    rw [L i (by omega), L j jb]
    exact h1 _ _ i0 ij (by omega)
  · show Lx (f (rotI _ _ _ i)) (f (rotI _ _ _ j))
    rw [R i i0 (by omega), R j (by omega) jb]
    exact h2 _ _ (by omega) (by omega) (by omega)
  · show (f (rotI _ _ _ i)).id < (f (rotI _ _ _ j)).id
    rw [L i ij, R j jb j1]
    exact hid _ _ i0 (by omega) (by omega) (by omega)
theorem cut_right {a m b s : Nat} {f : Nat → LrE} (ha : a < m) (hb : m < b) (h1 : Sg a m f) (h2 : Sg m b f) (hid : Idlt a m b f) (c : Cutp a m b s f) :
    Sg ((a + b) / 2) ((a + b) / 2 + m - s) (rotF f s m ((a + b) / 2 + m - s)) ∧ Sg ((a + b) / 2 + m - s) b (rotF f s m ((a + b) / 2 + m - s)) ∧ Idlt ((a + b) / 2) ((a + b) / 2 + m - s) b (rotF f s m ((a + b) / 2 + m - s)) := by
  obtain ⟨c1, c2, c3, c4, c5, c6⟩ := c
  generalize hmid : (a + b) / 2 = mid at *
  have L : ∀ i, mid ≤ i → i < mid + m - s → rotI s m (mid + m - s) i = i - (mid - s) := fun i h0 h1 => by
    unfold rotI; repeat' split
    all_goals omega
  have R : ∀ i, mid + m - s ≤ i → rotI s m (mid + m - s) i = i := fun i h0 => by
    unfold rotI; repeat' split
    all_goals omega
  refine ⟨fun i j i0 ij jb => ?_, fun i j i0 ij jb => ?_, fun i j i0 ij jb j1 => ?_⟩
  · show Lx (f (rotI _ _ _ i)) (f (rotI _ _ _ j))
    rw [L i i0 (by omega), L j (by omega) jb]
    exact h1 _ _ (by omega) (by omega) (by omega)
  · show Lx (f (rotI _ _ _ i)) (f (rotI _ _ _ j))
    rw [R i i0, R j (by omega)]
    exact h2 _ _ (by omega) ij jb
  · show (f (rotI _ _ _ i)).id < (f (rotI _ _ _ j)).id
    rw [L i i0 ij, R j jb]
    exact hid _ _ (by omega) (by omega) (by omega) j1
/-- Two sorted halves, each of the left before each of the right. -/
theorem Sg.join {a m b : Nat} {g h : Nat → LrE} (hx : ∀ i j, a ≤ i → i < m → m ≤ j → j < b → Lx (g i) (g j)) {g1 : Nat → LrE} (p1 : Pm a m g g1) (s1 : Sg a m g1) (p2 : Pm m b g1 h) (s2 : Sg m b h) : Sg a b h := by
  intro i j i0 ij jb
  by_cases hj : j < m
  · rw [p2.out (i := i) (by omega), p2.out (i := j) (by omega)]
    exact s1 i j i0 ij hj
  · by_cases hi : i < m
    · rw [p2.out (i := i) (by omega)]
      obtain ⟨i', x0, x1, ei⟩ := p1.src i0 hi
      obtain ⟨j', y0, y1, ej⟩ := p2.src (by omega : m ≤ j) jb
      rw [ei, ej, p1.out (i := j') (by omega)]
      exact hx _ _ x0 x1 y0 y1
    · exact s2 i j (by omega) ij jb
end Go.Proofs.Ytnebjbjdgfaooaa
