/- An argument that is a slice of acts of chapter 18, opened to its cells; no condition. -/
import Derived.Test.YtnebjbjdgfaooaaVdB
import Derived.Test.YtnebjbjdgfaooaaVgO
import Derived.OpenShut
namespace Go.Proofs.Ytnebjbjdgfaooaa
set_option maxRecDepth 100000
open Go.Joins Go.ChangeShapes Go.WideShapes Go.ChangeAt Go.RowKit Go.Deep
theorem cells77 : Try.prog.cellsOf 77 = 13 := by kernel_rfl
theorem cells75 : Try.prog.cellsOf 75 = 8 := by kernel_rfl
theorem cells3 : Try.prog.cellsOf 3 = 1 := by kernel_rfl
theorem cells4 : Try.prog.cellsOf 4 = 1 := by kernel_rfl
theorem cells63 : Try.prog.cellsOf 63 = 1 := by kernel_rfl
theorem one_cell {cs : List Value} {j : Nat} (h : j < cs.length) : (cs.drop j).take 1 = [cs[j]] := by
  rw [List.drop_eq_getElem_cons h]; rfl
/-- Each of the first len acts stands in memory. -/
def Acts18 (w : World) (a : Option Addr) (len : Nat) : Prop :=
  ∀ k, k < len → ∃ (b off : Nat) (d id n m : Int) (bk : Nat → Int) (on : Bool), a = some ⟨b, off, none⟩ ∧ i64 id ∧ w.cell? ⟨b, off + k * 13, none⟩ = some (.int .i64 d) ∧ w.cell? ⟨b, off + k * 13 + 1, none⟩ = some (.int .i64 id) ∧
    w.cell? ⟨b, off + k * 13 + 2, none⟩ = some (.int .i64 n) ∧ w.cell? ⟨b, off + k * 13 + 3, none⟩ = some (.int .i64 m) ∧ (∀ j, j < 8 → w.cell? ⟨b, off + k * 13 + (4 + j), none⟩ = some (.int .u32 (bk j))) ∧ w.cell? ⟨b, off + k * 13 + 12, none⟩ = some (.bool on)
theorem open_acts18 {H : Type} {enc : TypeId × Value → H} {w : World} {base : Nat} {spare : Nat → Bool} {held : Bool} {r : Reach} {b0 : Nat} {v : Value} {d : DataW H} {p : List MemPlace}
    (hv : Value.okWide Try.prog w r b0 71 v) (h : DataW.Trod enc Try.prog w base spare held 71 v d p) :
    ∃ (a : Option Addr) (len cap : Nat), v = .slice a len cap ∧ len ≤ maxLen ∧ Acts18 w a len := by
  obtain ⟨a0, len, cap, rfl⟩ := okWide_slice Try.underlying71 hv
  obtain ⟨fuel, hf⟩ := h
  rcases open_slice Try.underlying71 hf with ⟨hcs, _⟩ | ⟨a, len', cap', m, n0, D, Pl, hcs, hb, hl, hm, hmm, hx, hi⟩
  · simp only [Value.cells, List.cons.injEq, and_true, Value.slice.injEq] at hcs
    obtain ⟨rfl, rfl, rfl⟩ := hcs
    exact ⟨none, 0, 0, rfl, by unfold maxLen; omega, fun k hk => by omega⟩
  · simp only [Value.cells, List.cons.injEq, and_true, Value.slice.injEq] at hcs
    obtain ⟨rfl, rfl, rfl⟩ := hcs
    rw [cells77] at hi
    refine ⟨some a, len, cap, rfl, by omega, fun k hk => ?_⟩
    have hkm : k < m := by rw [hmm]; split <;> omega
    obtain ⟨cs', hc, ht⟩ := hi k hkm
    obtain ⟨xs, n', _, _, hlen, hxl, hfs⟩ := DataW.trod_struct Try.underlying77 ht
    rw [cells77] at hlen
    obtain ⟨_, hcl, hat⟩ := World.cells?_some hc
    have f0 : DataW.trod enc Try.prog w base spare held n' 3 ((cs'.drop 0).take (Try.prog.cellsOf 3)) = xs[0]? := hfs 0 _ rfl
    rw [cells3] at f0
    have f1 : DataW.trod enc Try.prog w base spare held n' 3 ((cs'.drop 1).take (Try.prog.cellsOf 3)) = xs[1]? := hfs 1 _ rfl
    rw [cells3] at f1
    have f2 : DataW.trod enc Try.prog w base spare held n' 3 ((cs'.drop 2).take (Try.prog.cellsOf 3)) = xs[2]? := hfs 2 _ rfl
    rw [cells3] at f2
    have f3 : DataW.trod enc Try.prog w base spare held n' 3 ((cs'.drop 3).take (Try.prog.cellsOf 3)) = xs[3]? := hfs 3 _ rfl
    rw [cells3] at f3
    have f4 : DataW.trod enc Try.prog w base spare held n' 75 ((cs'.drop 4).take (Try.prog.cellsOf 75)) = xs[4]? := hfs 4 _ rfl
    rw [cells75] at f4
    have f5 : DataW.trod enc Try.prog w base spare held n' 4 ((cs'.drop 12).take (Try.prog.cellsOf 4)) = xs[5]? := hfs 5 _ rfl
    rw [cells4] at f5
    have hxs : ∀ j, j < 6 → ∃ y, xs[j]? = some y := fun j hj => ⟨_, List.getElem?_eq_getElem (by rw [hxl]; exact hj)⟩
    obtain ⟨y0, e0⟩ := hxs 0 (by omega)
    obtain ⟨y1, e1⟩ := hxs 1 (by omega)
    obtain ⟨y2, e2⟩ := hxs 2 (by omega)
    obtain ⟨y3, e3⟩ := hxs 3 (by omega)
    obtain ⟨y4, e4⟩ := hxs 4 (by omega)
    obtain ⟨y5, e5⟩ := hxs 5 (by omega)
    rw [e0, one_cell (by omega)] at f0
    rw [e1, one_cell (by omega)] at f1
    rw [e2, one_cell (by omega)] at f2
    rw [e3, one_cell (by omega)] at f3
    rw [e4] at f4
    rw [e5, one_cell (by omega)] at f5
    obtain ⟨d, g0, _, _⟩ := DataW.trod_int Try.underlying3 f0
    obtain ⟨id, g1, _, wf1⟩ := DataW.trod_int Try.underlying3 f1
    obtain ⟨n, g2, _, _⟩ := DataW.trod_int Try.underlying3 f2
    obtain ⟨mm, g3, _, _⟩ := DataW.trod_int Try.underlying3 f3
    obtain ⟨on, g5, _⟩ := DataW.trod_bool Try.underlying4 f5
    obtain ⟨zs, m', _, _, hl8, hzl, hz⟩ := DataW.trod_array Try.underlying75 f4
    have hbk : ∀ j, j < 8 → ∃ x : Int, cs'[4 + j]? = some (.int .u32 x) := by
      intro j hj
      have hj' := hz j hj
      obtain ⟨z, ez⟩ : ∃ z, zs[j]? = some z := ⟨_, List.getElem?_eq_getElem (by rw [hzl]; exact hj)⟩
      rw [ez, cells63, Nat.mul_one, one_cell (by rw [hl8, cells75]; exact hj)] at hj'
      obtain ⟨x, gx, _, _⟩ := DataW.trod_int Try.underlying63 hj'
      refine ⟨x, ?_⟩
      simp only [List.cons.injEq, and_true] at gx
      rw [← gx]
      rw [List.getElem_take, List.getElem_drop]
      exact List.getElem?_eq_getElem (by omega)
    have hbk2 : ∃ bk : Nat → Int, ∀ j, j < 8 → cs'[4 + j]? = some (.int .u32 (bk j)) := by
      refine ⟨fun j => if hj : j < 8 then (hbk j hj).choose else 0, fun j hj => ?_⟩
      simp only [hj, dif_pos]
      exact (hbk j hj).choose_spec
    obtain ⟨bk, hbk2⟩ := hbk2
    have ha : a = ⟨a.block, a.off, none⟩ := by
      have h1 := hat 0 (by omega)
      obtain ⟨cs0, hc0, _⟩ := hi 0 (by omega)
      obtain ⟨_, hcl0, hat0⟩ := World.cells?_some hc0
      have h2 := hat0 0 (by omega)
      have h3 : (a.add (0 * 13)).add 0 = a := by simp [Addr.add]
      rw [h3, List.getElem?_eq_getElem (by omega)] at h2
      exact addr_plain h2
    generalize a.block = b at ha
    generalize a.off = off at ha
    subst ha
    have ad1 : ∀ o j, (⟨b, o, none⟩ : Addr).add j = ⟨b, o + j, none⟩ := by intro o j; unfold Addr.add; split <;> simp_all
    have hadd : ∀ i j, ((⟨b, off, none⟩ : Addr).add i).add j = ⟨b, off + i + j, none⟩ := by intro i j; rw [ad1, ad1]
    have hcell : ∀ j, j < 13 → w.cell? ⟨b, off + k * 13 + j, none⟩ = cs'[j]? := fun j hj => by rw [← hadd]; exact hat j (by omega)
    have hget : ∀ j (hj : j < 13), cs'[j]? = some (cs'[j]'(by omega)) := fun j hj => List.getElem?_eq_getElem (by omega)
    simp only [List.cons.injEq, and_true] at g0 g1 g2 g3 g5
    refine ⟨b, off, d, id, n, mm, bk, on, rfl, wf1, ?_, ?_, ?_, ?_, fun j hj => ?_, ?_⟩
    · have := hcell 0 (by omega); rw [hget 0 (by omega)] at this; rw [← g0]; exact this
    · have := hcell 1 (by omega); rw [hget 1 (by omega)] at this; rw [← g1]; exact this
    · have := hcell 2 (by omega); rw [hget 2 (by omega)] at this; rw [← g2]; exact this
    · have := hcell 3 (by omega); rw [hget 3 (by omega)] at this; rw [← g3]; exact this
    · rw [hcell (4 + j) (by omega)]; exact hbk2 j hj
    · have := hcell 12 (by omega); rw [hget 12 (by omega)] at this; rw [← g5]; exact this
end Go.Proofs.Ytnebjbjdgfaooaa
