/- Plain facts on the bits of a cap's rights, and on a cap's word. -/
import Derived.Test.YtcbbmgohdcabeaaCapsA
namespace Go.Proofs.Ytcbbmgohdcabeaa
open Go.RowKit

theorem bv_andNot_zero (a b : BitVec 64) (h : a &&& ~~~b = 0#64) : a &&& b = a := by
  apply BitVec.eq_of_getLsbD_eq
  intro i hi
  have h1 : (a &&& ~~~b).getLsbD i = (0#64).getLsbD i := by rw [h]
  simp only [BitVec.getLsbD_and, BitVec.getLsbD_not, BitVec.getLsbD_zero] at h1
  rw [BitVec.getLsbD_and]
  cases ha : a.getLsbD i <;> cases hb : b.getLsbD i <;> simp_all
theorem bv_and_self (a b : BitVec 64) (h : a &&& b = a) : a &&& ~~~b = 0#64 := by
  apply BitVec.eq_of_getLsbD_eq
  intro i hi
  have h1 : (a &&& b).getLsbD i = a.getLsbD i := by rw [h]
  simp only [BitVec.getLsbD_and] at h1
  simp only [BitVec.getLsbD_and, BitVec.getLsbD_not, BitVec.getLsbD_zero]
  cases ha : a.getLsbD i <;> cases hb : b.getLsbD i <;> simp_all
theorem wrap_zero (a : BitVec 64) (h : IntKind.i64.wrap (a.toNat : Int) = 0) : a = 0#64 := by
  rw [IntKind.wrap_i64] at h
  have := a.isLt
  apply BitVec.eq_of_toNat_eq
  simp only [BitVec.toNat_ofNat]
  omega
theorem toNat_ofInt (r : Int) : ((BitVec.ofInt 64 r).toNat : Int) = r % 18446744073709551616 := by
  simp only [BitVec.toNat_ofInt]
  have : (0 : Int) ≤ r % ((2 ^ 64 : Nat) : Int) := Int.emod_nonneg _ (by decide)
  rw [Int.toNat_of_nonneg this]
  rfl
/-- Rights of which nothing is left when a small mask's are taken away lie in that mask. -/
theorem rights_in (r m : Int) (hm0 : 0 ≤ m) (hm1 : m ≤ 15) (hr0 : -9223372036854775808 ≤ r) (hr1 : r ≤ 9223372036854775807)
    (h : bits .andNot .i64 r m = 0) : 0 ≤ r ∧ r ≤ m ∧ bits .and .i64 r m = r := by
  have h1 : BitVec.ofInt 64 r &&& ~~~(BitVec.ofInt 64 m) = 0#64 := wrap_zero _ h
  have h2 := bv_andNot_zero _ _ h1
  have h3 : (BitVec.ofInt 64 r).toNat ≤ (BitVec.ofInt 64 m).toNat := by
    have : (BitVec.ofInt 64 r &&& BitVec.ofInt 64 m).toNat ≤ (BitVec.ofInt 64 m).toNat := by rw [BitVec.toNat_and]; exact Nat.and_le_right
    rw [h2] at this; exact this
  have e1 := toNat_ofInt r
  have e2 := toNat_ofInt m
  have hb : bits .and .i64 r m = IntKind.i64.wrap ((BitVec.ofInt 64 r &&& BitVec.ofInt 64 m).toNat : Int) := rfl
  rw [h2, IntKind.wrap_i64] at hb
  refine ⟨by omega, by omega, ?_⟩
  rw [hb]; omega
theorem rights_of (r m : Int)
    (h : bits .and .i64 r m = r) : bits .andNot .i64 r m = 0 := by
  have e1 := toNat_ofInt r
  have hb : bits .and .i64 r m = IntKind.i64.wrap ((BitVec.ofInt 64 r &&& BitVec.ofInt 64 m).toNat : Int) := rfl
  rw [h, IntKind.wrap_i64] at hb
  have hl := (BitVec.ofInt 64 r &&& BitVec.ofInt 64 m).isLt
  have h2 : BitVec.ofInt 64 r &&& BitVec.ofInt 64 m = BitVec.ofInt 64 r := by
    apply BitVec.eq_of_toNat_eq
    omega
  have h3 := bv_and_self _ _ h2
  show IntKind.i64.wrap ((BitVec.ofInt 64 r &&& ~~~(BitVec.ofInt 64 m)).toNat : Int) = 0
  rw [h3]; rfl
theorem rights_neg (r m : Int) (hm0 : 0 ≤ m) (hm1 : m ≤ 15) (hr0 : -9223372036854775808 ≤ r) (hr1 : r < 0) : bits .andNot .i64 r m ≠ 0 := by
  intro h
  have := rights_in r m hm0 hm1 hr0 (by omega) h
  omega
theorem wraps_u64 (n : Int) (h₀ : 0 ≤ n) (h₁ : n < 2 ^ 64) : IntKind.u64.wrap n = n := by
  simp only [IntKind.wrap, IntKind.bits, IntKind.signed]; simp; omega
/-- A field laid into a word above what stands there. -/
theorem or_field (W x : Int) (at_ : Nat) (hat : at_ ≤ 64) (hW0 : 0 ≤ W) (hW : W < 2 ^ at_) (hx0 : 0 ≤ x) (hx : x * 2 ^ at_ < 2 ^ 64) :
    bits .or .u64 W (x * 2 ^ at_) = W + x * 2 ^ at_ := by
  have hc : bits .or .u64 W (x * 2 ^ at_) = bits .or .u64 (x * 2 ^ at_) W := by
    simp only [bits, BitVec.or_comm]
  have hp : (0 : Int) < 2 ^ at_ := Int.pow_pos (by decide)
  have hle : (2 : Int) ^ at_ ≤ 2 ^ 64 := by
    have : (2 : Nat) ^ at_ ≤ 2 ^ 64 := Nat.pow_le_pow_right (by decide) hat
    exact_mod_cast this
  rw [hc, bits_join .u64 64 (by decide) wraps_u64 at_ _ _ (Int.mul_nonneg hx0 (by omega)) (by simp) hx hW0 hW (by omega)]
  omega
theorem kr_bound (k : Int) : 0 ≤ kr k ∧ kr k ≤ 15 := by unfold kr; repeat' split <;> omega
theorem gB_bound {g b : Int} (h : gB g b = true) : 0 ≤ b ∧ b ≤ 16 ∧ 0 ≤ g ∧ g < 65536 := by
  simp only [gB, decide_eq_true_eq] at h
  obtain ⟨h1, h2, h3, h4⟩ := h
  refine ⟨h1, h2, h3, ?_⟩
  have h5 : (2 : Nat) ^ b.toNat ≤ 2 ^ 16 := Nat.pow_le_pow_right (by decide) (by omega)
  have h6 : ((2 : Int) ^ b.toNat) = ((2 ^ b.toNat : Nat) : Int) := by simp
  rw [h6] at h4
  have h7 : (2 : Nat) ^ 16 = 65536 := by decide
  rw [h7] at h5
  generalize 2 ^ b.toNat = m at *
  omega
/-- A right cap's fields fit. -/
theorem right_bounds {k o r b ra g gb : Int} {d : Bool} (hr0 : -9223372036854775808 ≤ r) (hr1 : r ≤ 9223372036854775807) (h : rightB k o r b ra g gb d = true) :
    0 ≤ k ∧ k ≤ 11 ∧ 0 ≤ o ∧ o < 1024 ∧ 0 ≤ r ∧ r ≤ 15 ∧ 0 ≤ b ∧ b < 1048576 ∧ 0 ≤ ra ∧ ra ≤ 4 ∧ 0 ≤ gb ∧ gb ≤ 16 ∧ 0 ≤ g ∧ g < 65536 := by
  simp only [rightB, decide_eq_true_eq] at h
  rcases h with h | ⟨h1, h2, h3, h4, h5, h6, h7, h8, h9, h10, h11, _⟩
  · omega
  · have hb := kr_bound k
    have hr := rights_in r (kr k) hb.1 hb.2 hr0 hr1 h7
    by_cases h2' : k = 2
    · have hg := gB_bound (h10 h2').2.2
      have := h10 h2'
      omega
    · have := h11 h2'
      by_cases h4' : k = 4 ∨ k = 5
      · have := h8 h4'; omega
      · have := h9 h4'; omega
/-- A cap's word. -/
def wordOf (k o r b ra g gb : Int) (d : Bool) : Int :=
  k + o * 16 + r * 16384 + b * 262144 + ra * 274877906944 + gb * 2199023255552 + g * 70368744177664 + (if d then 4611686018427387904 else 0)
def encE (k o r b ra g gb : Int) (d : Bool) : Int := if rightB k o r b ra g gb d then 0 else 141
def encW (k o r b ra g gb : Int) (d : Bool) : Int := if rightB k o r b ra g gb d then wordOf k o r b ra g gb d else 0
end Go.Proofs.Ytcbbmgohdcabeaa
