/- An argument that is a slice of acts, opened to its cells; no condition. -/
import Derived.Test.YtnebjbjdgfaooaaMem
import Derived.Deep.Slices
import Derived.Deep.Fields
import Derived.ChangeSame
namespace Go.Proofs.Ytnebjbjdgfaooaa
set_option maxRecDepth 100000
open Go.Joins Go.ChangeShapes Go.WideShapes Go.ChangeAt Go.RowKit Go.Deep

section
variable {H : Type} {enc : TypeId × Value → H} {P : Program} {w : World} {base : Nat} {spare : Nat → Bool} {held : Bool}
theorem open_slice_fields {t e : TypeId} {fs : Array Field} {fuel : Nat} {cs : List Value} {x : DataW H × List MemPlace} (ht : P.underlying t = some (.slice e)) (he : P.underlying e = some (.struct fs))
    (hone : oneCellFields P fs = true) (hC : P.cellsOf e = fs.size) (h : DataW.trod enc P w base spare held fuel t cs = some x) :
    (cs = [.slice none 0 0] ∧ x = (.nil, [])) ∨
    ∃ (a : Addr) (len cap m : Nat) (D : Nat → DataW H) (Pl : Nat → List MemPlace), cs = [.slice (some a) len cap] ∧ base ≤ a.block ∧ len ≤ cap ∧ cap ≤ maxLen ∧ m = (if spare a.block then cap else len) ∧
      x = (.slice ((List.range len).map D) ((List.range (m - len)).map fun j => D (len + j)), MemPlace.row a (m * fs.size) ++ (List.range m).flatMap Pl) ∧
      ∀ i, i < m → ∃ (ys : List (DataW H × List MemPlace)) (n : Nat), D i = .agg (ys.map (·.1)) ∧ Pl i = ys.flatMap (·.2) ∧ ys.length = fs.size ∧
        ∀ (j : Nat) (f : Field), fs[j]? = some f → ∃ (v : Value) (y : DataW H × List MemPlace), w.cell? (a.add (i * fs.size + j)) = some v ∧ ys[j]? = some y ∧ DataW.trod enc P w base spare held n f.type [v] = some y := by
  rcases open_slice ht h with h0 | ⟨a, len, cap, m, n, D, Pl, hcs, hb, hl, hm, hmm, hx, hi⟩
  · exact .inl h0
  · refine .inr ⟨a, len, cap, m, D, Pl, hcs, hb, hl, hm, hmm, by rw [hC] at hx; exact hx, fun i him => ?_⟩
    obtain ⟨cs', hc, ht'⟩ := hi i him
    rw [hC] at hc
    obtain ⟨ys, n', hn', hy, hlen, hyl, hf⟩ := DataW.trod_struct he ht'
    obtain ⟨_, hcl, hat⟩ := World.cells?_some hc
    simp only [Prod.mk.injEq] at hy
    refine ⟨ys, n', hy.1, hy.2, hyl, fun j f hj => ?_⟩
    obtain ⟨ho, hk⟩ := hone_of hone j f hj
    have hjl : j < fs.size := (Array.getElem?_eq_some_iff.1 hj).1
    have hcell := hat j hjl
    have hv : cs'[j]? = some (cs'[j]'(by omega)) := List.getElem?_eq_getElem (by omega)
    have h1 := hf j f hj
    rw [ho, hk] at h1
    have hone' : (cs'.drop j).take 1 = [cs'[j]'(by omega)] := by
      rw [List.drop_eq_getElem_cons (by omega)]
      rfl
    rw [hone'] at h1
    have hys : ys[j]? = some (ys[j]'(by omega)) := List.getElem?_eq_getElem (by omega)
    refine ⟨_, _, ?_, hys, h1.trans hys⟩
    rw [← Go.Deep.add_add, hcell, hv]
end

theorem cells42 : Try.prog.cellsOf 42 = 4 := by kernel_rfl
/-- Each of the first len acts stands in memory. -/
def Acts (w : World) (a : Option Addr) (len : Nat) : Prop :=
  ∀ k, k < len → ∃ (b off : Nat) (d l n : Int) (on : Bool), a = some ⟨b, off, none⟩ ∧ w.cell? ⟨b, off + k * 4, none⟩ = some (.int .i64 d) ∧ w.cell? ⟨b, off + k * 4 + 1, none⟩ = some (.int .i64 l) ∧
    w.cell? ⟨b, off + k * 4 + 2, none⟩ = some (.int .i64 n) ∧ w.cell? ⟨b, off + k * 4 + 3, none⟩ = some (.bool on)
theorem addr_plain {w : World} {a : Addr} {v : Value} (h : w.cell? a = some v) : a = ⟨a.block, a.off, none⟩ := by
  obtain ⟨b, o, sp⟩ := a
  cases sp with
  | none => rfl
  | some x =>
    simp only [World.cell?] at h
    split at h <;> simp at h
theorem open_acts {H : Type} {enc : TypeId × Value → H} {w : World} {base : Nat} {spare : Nat → Bool} {held : Bool} {r : Reach} {b0 : Nat} {v : Value} {d : DataW H} {p : List MemPlace}
    (hv : Value.okWide Try.prog w r b0 37 v) (h : DataW.Trod enc Try.prog w base spare held 37 v d p) :
    ∃ (a : Option Addr) (len cap : Nat), v = .slice a len cap ∧ len ≤ maxLen ∧ Acts w a len := by
  obtain ⟨a0, len, cap, rfl⟩ := okWide_slice Try.underlying37 hv
  obtain ⟨fuel, hf⟩ := h
  rcases open_slice_fields Try.underlying37 Try.underlying42 (by kernel_rfl) cells42 hf with ⟨hcs, _⟩ | ⟨a, len', cap', m, D, Pl, hcs, hb, hl, hm, hmm, hx, hi⟩
  · simp only [Value.cells, List.cons.injEq, and_true, Value.slice.injEq] at hcs
    obtain ⟨rfl, rfl, rfl⟩ := hcs
    exact ⟨none, 0, 0, rfl, by unfold maxLen; omega, fun k hk => by omega⟩
  · simp only [Value.cells, List.cons.injEq, and_true, Value.slice.injEq] at hcs
    obtain ⟨rfl, rfl, rfl⟩ := hcs
    refine ⟨some a, len, cap, rfl, by omega, fun k hk => ?_⟩
    have hkm : k < m := by rw [hmm]; split <;> omega
    obtain ⟨ys, n, _, _, _, hf⟩ := hi k hkm
    obtain ⟨v0, y0, c0, _, t0⟩ := hf 0 _ rfl
    obtain ⟨v1, y1, c1, _, t1⟩ := hf 1 _ rfl
    obtain ⟨v2, y2, c2, _, t2⟩ := hf 2 _ rfl
    obtain ⟨v3, y3, c3, _, t3⟩ := hf 3 _ rfl
    obtain ⟨d, e0, _, _⟩ := DataW.trod_int Try.underlying3 t0
    obtain ⟨l, e1, _, _⟩ := DataW.trod_int Try.underlying3 t1
    obtain ⟨n', e2, _, _⟩ := DataW.trod_int Try.underlying3 t2
    obtain ⟨on, e3, _⟩ := DataW.trod_bool Try.underlying4 t3
    simp only [List.cons.injEq, and_true] at e0 e1 e2 e3
    subst e0 e1 e2 e3
    have ha : a = ⟨a.block, a.off, none⟩ := by
      obtain ⟨ys', n'', _, _, _, hf'⟩ := hi 0 (by omega)
      obtain ⟨u0, z0, q0, _, _⟩ := hf' 0 _ rfl
      have : a.add (0 * 4 + 0) = a := by simp [Addr.add]
      exact addr_plain (w := w) (v := u0) (by rw [← this]; exact q0)
    generalize a.block = b at ha
    generalize a.off = off at ha
    subst ha
    have hadd : ∀ j, (⟨b, off, none⟩ : Addr).add j = ⟨b, off + j, none⟩ := by intro j; unfold Addr.add; split <;> simp_all
    refine ⟨b, off, d, l, n', on, rfl, ?_, ?_, ?_, ?_⟩
    · have := c0; simp only [List.size_toArray, List.length_cons, List.length_nil, hadd] at this; simpa [Nat.add_assoc] using this
    · have := c1; simp only [List.size_toArray, List.length_cons, List.length_nil, hadd] at this; simpa [Nat.add_assoc] using this
    · have := c2; simp only [List.size_toArray, List.length_cons, List.length_nil, hadd] at this; simpa [Nat.add_assoc] using this
    · have := c3; simp only [List.size_toArray, List.length_cons, List.length_nil, hadd] at this; simpa [Nat.add_assoc] using this
end Go.Proofs.Ytnebjbjdgfaooaa
