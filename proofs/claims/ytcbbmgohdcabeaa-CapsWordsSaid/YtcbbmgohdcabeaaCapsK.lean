/- A right cap is read from its word as it was, and no two right caps have one word: plain laws. -/
import Derived.Test.YtcbbmgohdcabeaaCapsJ
namespace Go.Proofs.Ytcbbmgohdcabeaa
open Go.RowKit
set_option maxRecDepth 100000
section
variable {k o r b ra g gb : Int} {d : Bool}
theorem word_bounds (hr0 : -9223372036854775808 ≤ r) (hr1 : r ≤ 9223372036854775807) (h : rightB k o r b ra g gb d = true) :
    0 ≤ wordOf k o r b ra g gb d ∧ wordOf k o r b ra g gb d < 9223372036854775808 := by
  obtain ⟨ka, kb, oa, ob, ra', rb, ba, bb, raa, rab, gba, gbb, ga, gb'⟩ := right_bounds hr0 hr1 h
  unfold wordOf
  cases d <;> simp only [if_true, if_false, Bool.false_eq_true] <;> omega
theorem fld_word (hr0 : -9223372036854775808 ≤ r) (hr1 : r ≤ 9223372036854775807) (h : rightB k o r b ra g gb d = true) :
    fld (wordOf k o r b ra g gb d) 0 = k ∧ fld (wordOf k o r b ra g gb d) 1 = o ∧ fld (wordOf k o r b ra g gb d) 2 = r ∧ fld (wordOf k o r b ra g gb d) 3 = b ∧
    fld (wordOf k o r b ra g gb d) 4 = ra ∧ fld (wordOf k o r b ra g gb d) 5 = g ∧ fld (wordOf k o r b ra g gb d) 6 = gb ∧ dBit (wordOf k o r b ra g gb d) = d := by
  obtain ⟨ka, kb, oa, ob, ra', rb, ba, bb, raa, rab, gba, gbb, ga, gb'⟩ := right_bounds hr0 hr1 h
  clear h
  unfold dBit
  simp only [fld]
  cases d
  · have e : wordOf k o r b ra g gb false = k + o * 16 + r * 16384 + b * 262144 + ra * 274877906944 + gb * 2199023255552 + g * 70368744177664 := by simp [wordOf]
    rw [e]
    refine ⟨by omega, by omega, by omega, by omega, by omega, by omega, by omega, ?_⟩
    simp; omega
  · have e : wordOf k o r b ra g gb true = k + o * 16 + r * 16384 + b * 262144 + ra * 274877906944 + gb * 2199023255552 + g * 70368744177664 + 4611686018427387904 := by simp [wordOf]
    rw [e]
    refine ⟨by omega, by omega, by omega, by omega, by omega, by omega, by omega, ?_⟩
    simp; omega
theorem dec_enc (hr0 : -9223372036854775808 ≤ r) (hr1 : r ≤ 9223372036854775807) (h : rightB k o r b ra g gb d = true) :
    decV (wordOf k o r b ra g gb d) = capAgg k o r b ra g gb d ∧ decE (wordOf k o r b ra g gb d) = 0 := by
  obtain ⟨f0, f1, f2, f3, f4, f5, f6, f7⟩ := fld_word hr0 hr1 h
  have hok : decOK (wordOf k o r b ra g gb d) = true := by
    unfold decOK
    rw [f0, f1, f2, f3, f4, f5, f6, f7, h]
    have := (word_bounds hr0 hr1 h).2
    simp [this]
  constructor
  · unfold decV; rw [hok, f0, f1, f2, f3, f4, f5, f6, f7]; rfl
  · unfold decE; rw [hok]; rfl
end
theorem word_inj {k o r b ra g gb k' o' r' b' ra' g' gb' : Int} {d d' : Bool} (hr0 : -9223372036854775808 ≤ r) (hr1 : r ≤ 9223372036854775807) (h : rightB k o r b ra g gb d = true)
    (hr0' : -9223372036854775808 ≤ r') (hr1' : r' ≤ 9223372036854775807) (h' : rightB k' o' r' b' ra' g' gb' d' = true) (e : wordOf k o r b ra g gb d = wordOf k' o' r' b' ra' g' gb' d') :
    k = k' ∧ o = o' ∧ r = r' ∧ b = b' ∧ ra = ra' ∧ g = g' ∧ gb = gb' ∧ d = d' := by
  obtain ⟨f0, f1, f2, f3, f4, f5, f6, f7⟩ := fld_word hr0 hr1 h
  obtain ⟨e0, e1, e2, e3, e4, e5, e6, e7⟩ := fld_word hr0' hr1' h'
  rw [e] at f0 f1 f2 f3 f4 f5 f6 f7
  exact ⟨f0.symm.trans e0, f1.symm.trans e1, f2.symm.trans e2, f3.symm.trans e3, f4.symm.trans e4, f5.symm.trans e5, f6.symm.trans e6, f7.symm.trans e7⟩
end Go.Proofs.Ytcbbmgohdcabeaa
