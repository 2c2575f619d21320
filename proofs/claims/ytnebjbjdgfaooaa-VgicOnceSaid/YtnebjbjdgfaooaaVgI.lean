/- An argument that is a slice of numbers, opened to its cells; how many of some lines; no condition. -/
import Derived.Test.YtnebjbjdgfaooaaMem
import Derived.Deep.Slices
namespace Go.Proofs.Ytnebjbjdgfaooaa
set_option maxRecDepth 100000
open Go.Joins Go.ChangeShapes Go.WideShapes Go.ChangeAt Go.RowKit Go.Deep
theorem cells3 : Try.prog.cellsOf 3 = 1 := by kernel_rfl
/-- Each of the first len numbers stands in memory. -/
def Ints (w : World) (a : Option Addr) (len : Nat) : Prop :=
  ∀ k, k < len → ∃ (b off : Nat) (z : Int), a = some ⟨b, off, none⟩ ∧ w.cell? ⟨b, off + k, none⟩ = some (.int .i64 z)
theorem addr_flat {w : World} {a : Addr} {v : Value} (h : w.cell? a = some v) : a = ⟨a.block, a.off, none⟩ := by
  obtain ⟨b, o, sp⟩ := a
  cases sp with
  | none => rfl
  | some x =>
    simp only [World.cell?] at h
    split at h <;> simp at h
theorem open_nums {H : Type} {enc : TypeId × Value → H} {w : World} {base : Nat} {spare : Nat → Bool} {held : Bool} {r : Reach} {b0 : Nat} {v : Value} {d : DataW H} {p : List MemPlace}
    (hv : Value.okWide Try.prog w r b0 22 v) (h : DataW.Trod enc Try.prog w base spare held 22 v d p) :
    ∃ (a : Option Addr) (len cap : Nat), v = .slice a len cap ∧ len ≤ maxLen ∧ Ints w a len := by
  obtain ⟨a0, len, cap, rfl⟩ := okWide_slice Try.underlying22 hv
  obtain ⟨fuel, hf⟩ := h
  rcases open_ints Try.underlying22 Try.underlying3 cells3 hf with ⟨hcs, _⟩ | ⟨a, len', cap', zs, hcs, hb, hl, hm, hz, hx, hcell, hwz⟩
  · simp only [Value.cells, List.cons.injEq, and_true, Value.slice.injEq] at hcs
    obtain ⟨rfl, rfl, rfl⟩ := hcs
    exact ⟨none, 0, 0, rfl, by unfold maxLen; omega, fun k hk => by omega⟩
  · simp only [Value.cells, List.cons.injEq, and_true, Value.slice.injEq] at hcs
    obtain ⟨rfl, rfl, rfl⟩ := hcs
    refine ⟨some a, len, cap, rfl, by omega, fun k hk => ?_⟩
    have hkm : k < zs.length := by rw [hz]; split <;> omega
    have ha : a = ⟨a.block, a.off, none⟩ := by
      have h0 := hcell 0 (by omega)
      have : a.add 0 = a := by simp [Addr.add]
      rw [this] at h0
      exact addr_flat h0
    have hk' := hcell k hkm
    generalize a.block = b at ha
    generalize a.off = off at ha
    subst ha
    have hadd : (⟨b, off, none⟩ : Addr).add k = ⟨b, off + k, none⟩ := by unfold Addr.add; split <;> simp_all
    rw [hadd] at hk'
    exact ⟨b, off, _, rfl, hk'⟩

theorem cells4 : Try.prog.cellsOf 4 = 1 := by kernel_rfl
/-- Each of the first len flags stands in memory. -/
def Bools (w : World) (a : Option Addr) (len : Nat) (F : Nat → Bool) : Prop :=
  ∀ k, k < len → ∃ (b off : Nat), a = some ⟨b, off, none⟩ ∧ w.cell? ⟨b, off + k, none⟩ = some (.bool (F k))
theorem open_flags {H : Type} {enc : TypeId × Value → H} {w : World} {base : Nat} {spare : Nat → Bool} {held : Bool} {r : Reach} {b0 : Nat} {v : Value} {d : DataW H} {p : List MemPlace}
    (hv : Value.okWide Try.prog w r b0 23 v) (h : DataW.Trod enc Try.prog w base spare held 23 v d p) :
    ∃ (a : Option Addr) (len cap : Nat) (F : Nat → Bool), v = .slice a len cap ∧ len ≤ maxLen ∧ Bools w a len F := by
  obtain ⟨a0, len, cap, rfl⟩ := okWide_slice Try.underlying23 hv
  obtain ⟨fuel, hf⟩ := h
  rcases open_slice1 Try.underlying23 cells4 hf with ⟨hcs, _⟩ | ⟨a, len', cap', m, n, V, D, Pl, hcs, hb, hl, hm, hmm, hx, hi⟩
  · simp only [Value.cells, List.cons.injEq, and_true, Value.slice.injEq] at hcs
    obtain ⟨rfl, rfl, rfl⟩ := hcs
    exact ⟨none, 0, 0, fun _ => false, rfl, by unfold maxLen; omega, fun k hk => by omega⟩
  · simp only [Value.cells, List.cons.injEq, and_true, Value.slice.injEq] at hcs
    obtain ⟨rfl, rfl, rfl⟩ := hcs
    refine ⟨some a, len, cap, fun k => (match V k with | .bool z => z | _ => false), rfl, by omega, fun k hk => ?_⟩
    have hkm : k < m := by rw [hmm]; split <;> omega
    have ha : a = ⟨a.block, a.off, none⟩ := by
      have h0 := (hi 0 (by omega)).1
      have : a.add 0 = a := by simp [Addr.add]
      rw [this] at h0
      exact addr_flat h0
    obtain ⟨hc, ht⟩ := hi k hkm
    obtain ⟨z, e, _⟩ := DataW.trod_bool Try.underlying4 ht
    simp only [List.cons.injEq, and_true] at e
    generalize a.block = b at ha
    generalize a.off = off at ha
    subst ha
    have hadd : (⟨b, off, none⟩ : Addr).add k = ⟨b, off + k, none⟩ := by unfold Addr.add; split <;> simp_all
    rw [hadd, e] at hc
    refine ⟨b, off, rfl, ?_⟩
    rw [hc]
    simp only [e]
theorem tmod_bounds (z : Int) : -255 ≤ z.tmod 256 ∧ z.tmod 256 ≤ 255 := by
  have h1 := Int.tmod_lt_of_pos z (show (0 : Int) < 256 by decide)
  have h2 := Int.lt_tmod_of_pos z (show (0 : Int) < 256 by decide)
  omega
end Go.Proofs.Ytnebjbjdgfaooaa
