/- An argument that is a slice of numbers, opened to its cells; how many of some lines; no condition. -/
import Derived.Test.YtmehieloehlepaaGicA
import Derived.Deep.Slices
namespace Go.Proofs.Ytmehieloehlepaa
open Go.Joins Go.ChangeShapes Go.WideShapes Go.ChangeAt Go.RowKit Go.Deep
theorem cells3 : Try.prog.cellsOf 3 = 1 := by kernel_rfl
/-- Each of the first len numbers stands in memory. -/
def Ints (w : World) (a : Option Addr) (len : Nat) : Prop :=
  ∀ k, k < len → ∃ (b off : Nat) (z : Int), a = some ⟨b, off, none⟩ ∧ w.cell? ⟨b, off + k, none⟩ = some (.int .i64 z)
theorem addr_flat {w : World} {a : Addr} {v : Value} (h : w.cell? a = some v) : a = ⟨a.block, a.off, none⟩ := by
  obtain ⟨b, o, sp⟩ := a
  cases sp with
  | none => rfl
  | some x =>
    simp only [World.cell?] at h
    split at h <;> simp at h
theorem open_nums {H : Type} {enc : TypeId × Value → H} {w : World} {base : Nat} {spare : Nat → Bool} {held : Bool} {r : Reach} {b0 : Nat} {v : Value} {d : DataW H} {p : List MemPlace}
    (hv : Value.okWide Try.prog w r b0 22 v) (h : DataW.Trod enc Try.prog w base spare held 22 v d p) :
    ∃ (a : Option Addr) (len cap : Nat), v = .slice a len cap ∧ len ≤ maxLen ∧ Ints w a len := by
  obtain ⟨a0, len, cap, rfl⟩ := okWide_slice Try.underlying22 hv
  obtain ⟨fuel, hf⟩ := h
  rcases open_ints Try.underlying22 Try.underlying3 cells3 hf with ⟨hcs, _⟩ | ⟨a, len', cap', zs, hcs, hb, hl, hm, hz, hx, hcell, hwz⟩
  · simp only [Value.cells, List.cons.injEq, and_true, Value.slice.injEq] at hcs
    obtain ⟨rfl, rfl, rfl⟩ := hcs
    exact ⟨none, 0, 0, rfl, by unfold maxLen; omega, fun k hk => by omega⟩
  · simp only [Value.cells, List.cons.injEq, and_true, Value.slice.injEq] at hcs
    obtain ⟨rfl, rfl, rfl⟩ := hcs
    refine ⟨some a, len, cap, rfl, by omega, fun k hk => ?_⟩
    have hkm : k < zs.length := by rw [hz]; split <;> omega
    have ha : a = ⟨a.block, a.off, none⟩ := by
      have h0 := hcell 0 (by omega)
      have : a.add 0 = a := by simp [Addr.add]
      rw [this] at h0
      exact addr_flat h0
    have hk' := hcell k hkm
    generalize a.block = b at ha
    generalize a.off = off at ha
    subst ha
    have hadd : (⟨b, off, none⟩ : Addr).add k = ⟨b, off + k, none⟩ := by unfold Addr.add; split <;> simp_all
    rw [hadd] at hk'
    exact ⟨b, off, _, rfl, hk'⟩

/-- How many of the first k are so. -/
def cnt (f : Nat → Bool) : Nat → Nat
  | 0 => 0
  | k + 1 => cnt f k + (if f k = true then 1 else 0)
theorem cnt_zero {f : Nat → Bool} {k : Nat} (h : cnt f k = 0) : ∀ i, i < k → f i = false := by
  induction k with
  | zero => intro i hi; omega
  | succ k ih =>
    simp only [cnt] at h
    intro i hi
    by_cases e : i = k
    · subst e; cases hf : f i
      · rfl
      · simp [hf] at h
    · exact ih (by omega) i (by omega)
theorem cnt_none {f : Nat → Bool} {k : Nat} (h : ∀ i, i < k → f i = false) : cnt f k = 0 := by
  induction k with
  | zero => rfl
  | succ k ih => simp [cnt, ih (fun i hi => h i (by omega)), h k (by omega)]
theorem cnt_pos {f : Nat → Bool} {k : Nat} (h : 0 < cnt f k) : ∃ i, i < k ∧ f i = true := by
  induction k with
  | zero => simp [cnt] at h
  | succ k ih =>
    simp only [cnt] at h
    by_cases hf : f k = true
    · exact ⟨k, by omega, hf⟩
    · simp only [hf] at h
      obtain ⟨i, hi, hfi⟩ := ih (by simpa using h)
      exact ⟨i, by omega, hfi⟩
theorem cnt_congr {f g : Nat → Bool} {k : Nat} (h : ∀ i, i < k → f i = g i) : cnt f k = cnt g k := by
  induction k with
  | zero => rfl
  | succ k ih => simp only [cnt, ih (fun i hi => h i (by omega)), h k (by omega)]
theorem cnt_upd {f : Nat → Bool} {j k : Nat} (hj : j < k) (hf : f j = true) : cnt f k = cnt (upd f j false) k + 1 := by
  induction k with
  | zero => omega
  | succ k ih =>
    simp only [cnt]
    by_cases e : j = k
    · subst e
      rw [cnt_congr (f := upd f j false) (g := f) (fun i hi => by unfold upd; rw [if_neg (by omega)])]
      simp [upd, hf]
    · rw [ih (by omega)]
      have : upd f j false k = f k := by unfold upd; rw [if_neg (fun h => e h.symm)]
      rw [this]; omega
theorem cnt_first (m k : Nat) (h : m ≤ k) : cnt (fun i => decide (i < m)) k = m := by
  induction k with
  | zero => simp [cnt]; omega
  | succ k ih =>
    simp only [cnt]
    by_cases e : m = k + 1
    · subst e
      have := cnt_first k k (Nat.le_refl _)
      rw [cnt_congr (g := fun i => decide (i < k)) (fun i hi => by simp; omega), this]
      simp
    · rw [ih (by omega)]
      have : ¬ k < m := by omega
      simp [this]
theorem tmod_bounds (z : Int) : -255 ≤ z.tmod 256 ∧ z.tmod 256 ≤ 255 := by
  have h1 := Int.tmod_lt_of_pos z (show (0 : Int) < 256 by decide)
  have h2 := Int.lt_tmod_of_pos z (show (0 : Int) < 256 by decide)
  omega
end Go.Proofs.Ytmehieloehlepaa
