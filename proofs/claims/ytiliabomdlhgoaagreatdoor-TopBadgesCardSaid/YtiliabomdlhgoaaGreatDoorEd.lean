/- The values behind the symbols, and that the tables of symbols hold of them. -/
import Derived.Test.YtiliabomdlhgoaaGreatDoorEc
set_option linter.unusedSectionVars false
set_option linter.unusedVariables false
namespace Go.Ev
set_option maxRecDepth 100000
noncomputable section
structure Par where
  r0 : Int
  r1 : Int
  r2 : Int
  r3 : Int
  W : Int
  Wp : Int
  L : Int
  B : Int
  nP1 : Int
  nP2 : Int
  nP3 : Int
  nP4 : Int
  nP5 : Int
  nQ1 : Int
  nQ2 : Int
  nQ3 : Int
  nQ4 : Int
  nQ5 : Int
  nR1 : Int
  nR2 : Int
structure ParOk (p : Par) : Prop where
  hr0 : -9223372036854775808 ≤ p.r0 ∧ p.r0 ≤ 9223372036854775807
  hr1 : -9223372036854775808 ≤ p.r1 ∧ p.r1 ≤ 9223372036854775807
  hr2 : -9223372036854775808 ≤ p.r2 ∧ p.r2 ≤ 9223372036854775807
  hr3 : -9223372036854775808 ≤ p.r3 ∧ p.r3 ≤ 9223372036854775807
  hW : 0 ≤ p.W ∧ p.W ≤ 65535
  hWp : 1 ≤ p.Wp ∧ p.Wp ≤ 65535
  hL : 0 ≤ p.L ∧ p.L ≤ 3999
  hB : 0 ≤ p.B ∧ p.B ≤ 1048575
  hnP1 : 1 ≤ p.nP1 ∧ p.nP1 ≤ 9
  hnP2 : 10 ≤ p.nP2 ∧ p.nP2 ≤ 99
  hnP3 : 100 ≤ p.nP3 ∧ p.nP3 ≤ 999
  hnP4 : 1000 ≤ p.nP4 ∧ p.nP4 ≤ 9999
  hnP5 : 10000 ≤ p.nP5 ∧ p.nP5 ≤ 65535
  hnQ1 : 1 ≤ p.nQ1 ∧ p.nQ1 ≤ 9
  hnQ2 : 10 ≤ p.nQ2 ∧ p.nQ2 ≤ 99
  hnQ3 : 100 ≤ p.nQ3 ∧ p.nQ3 ≤ 999
  hnQ4 : 1000 ≤ p.nQ4 ∧ p.nQ4 ≤ 9999
  hnQ5 : 10000 ≤ p.nQ5 ∧ p.nQ5 ≤ 65535
  hnR1 : 1 ≤ p.nR1 ∧ p.nR1 ≤ 9
  hnR2 : 10 ≤ p.nR2 ∧ p.nR2 ≤ 99
inductive FvT where
  | leaf
  | node (l : FvT) (v : Int) (r : FvT)
def FvT.get (t : FvT) : Nat → Int := FvT.rec (motive := fun _ => Nat → Int) (fun _ => .ofNat 0) (fun _ v _ ihl ihr k => Bool.rec (motive := fun _ => Int) (Bool.rec (motive := fun _ => Int) (ihr (Nat.div (Nat.sub k 1) 2)) (ihl (Nat.div (Nat.sub k 1) 2)) (Nat.beq (Nat.mod k 2) 1)) v (Nat.beq k 0)) t
def RngT : IvT → FvT → Prop
  | .leaf, .leaf => True
  | .node l lo hi r, .node l' v r' => (lo ≤ v ∧ v ≤ hi) ∧ RngT l l' ∧ RngT r r'
  | _, _ => False
theorem rngT_get : ∀ {t : IvT} {u : FvT}, RngT t u → ∀ i, (t.get i fun a _ => a) ≤ u.get i ∧ u.get i ≤ t.get i fun _ b => b
  | .leaf, .leaf, _, i => ⟨Int.le_refl _, Int.le_refl _⟩
  | .node l lo hi r, .node l' v r', h, i => by
    obtain ⟨h1, h2, h3⟩ := h
    show (Bool.rec (Bool.rec (r.get _ fun a _ => a) (l.get _ fun a _ => a) (Nat.beq (Nat.mod i 2) 1)) lo (Nat.beq i 0) : Int) ≤ Bool.rec (Bool.rec (r'.get _) (l'.get _) (Nat.beq (Nat.mod i 2) 1)) v (Nat.beq i 0) ∧ (Bool.rec (Bool.rec (r'.get _) (l'.get _) (Nat.beq (Nat.mod i 2) 1)) v (Nat.beq i 0) : Int) ≤ Bool.rec (Bool.rec (r.get _ fun _ b => b) (l.get _ fun _ b => b) (Nat.beq (Nat.mod i 2) 1)) hi (Nat.beq i 0)
    cases Nat.beq i 0
    · cases Nat.beq (Nat.mod i 2) 1
      · exact rngT_get h3 _
      · exact rngT_get h2 _
    · exact h1
  | .leaf, .node .., h, _ => h.elim
  | .node .., .leaf, h, _ => h.elim
def AllE (f : Nat → Int) : List SE → Prop
  | [] => True
  | e :: l => (∀ s : S, binI e.op e.k (soI f e.x) (soI f e.y) s = .ok (.int e.k (soI f e.r)) s) ∧ AllE f l
theorem allE_mem {f : Nat → Int} : ∀ {l : List SE}, AllE f l → ∀ e ∈ l, ∀ s : S, binI e.op e.k (soI f e.x) (soI f e.y) s = .ok (.int e.k (soI f e.r)) s
  | a :: l, h, e, he => by
    rcases List.mem_cons.1 he with rfl | he
    · exact h.1
    · exact allE_mem h.2 e he
def AllC (f : Nat → Int) : List CE → Prop
  | [] => True
  | e :: l => e.k.wrap (f e.i) = f e.r ∧ AllC f l
theorem allC_mem {f : Nat → Int} : ∀ {l : List CE}, AllC f l → ∀ e ∈ l, e.k.wrap (f e.i) = f e.r
  | a :: l, h, e, he => by
    rcases List.mem_cons.1 he with rfl | he
    · exact h.1
    · exact allC_mem h.2 e he
def AllL (f : Nat → Int) : List (Nat × Nat) → Prop
  | [] => True
  | e :: l => f e.1 ≤ f e.2 ∧ AllL f l
theorem allL_mem {f : Nat → Int} : ∀ {l : List (Nat × Nat)}, AllL f l → ∀ e ∈ l, f e.1 ≤ f e.2
  | a :: l, h, e, he => by
    rcases List.mem_cons.1 he with rfl | he
    · exact h.1
    · exact allL_mem h.2 e he
theorem fit {k : IntKind} {z : Int} (h0 : 0 ≤ z) (h1 : z ≤ maxK k) (s : S) : retI k z s = .ok (.int k z) s := by
  have h : k.wrap z = z := by
    cases k <;> simp only [maxK, Int.ofNat_eq_natCast] at h1 <;> (simp [IntKind.wrap, IntKind.bits, IntKind.signed] <;> omega)
  rw [retI_eq, h]
theorem e_add {k : IntKind} {a b r : Int} (h : a + b = r) (h0 : 0 ≤ r) (h1 : r ≤ maxK k) (s : S) : binI .add k a b s = .ok (.int k r) s := by
  show retI k (a + b) s = _
  rw [h]; exact fit h0 h1 s
theorem e_sub {k : IntKind} {a b r : Int} (h : a - b = r) (h0 : 0 ≤ r) (h1 : r ≤ maxK k) (s : S) : binI .sub k a b s = .ok (.int k r) s := by
  show retI k (a - b) s = _
  rw [h]; exact fit h0 h1 s
theorem e_mul {k : IntKind} {a b r : Int} (h : a * b = r) (h0 : 0 ≤ r) (h1 : r ≤ maxK k) (s : S) : binI .mul k a b s = .ok (.int k r) s := by
  show retI k (a * b) s = _
  rw [h]; exact fit h0 h1 s
theorem e_quo {k : IntKind} {a b r : Int} (ha : 0 ≤ a) (hb : b ≠ 0) (h : a / b = r) (h0 : 0 ≤ r) (h1 : r ≤ maxK k) (s : S) : binI .quo k a b s = .ok (.int k r) s := by
  show bc (beqI b (.ofNat 0)) (.fail 100) (retI k (Int.tdiv a b) s) = _
  rw [beqI_eq, decide_eq_false (show ¬ b = .ofNat 0 from hb), bc_false, Int.tdiv_eq_ediv_of_nonneg ha, h]; exact fit h0 h1 s
theorem e_rem {k : IntKind} {a b r : Int} (ha : 0 ≤ a) (hb : b ≠ 0) (h : a % b = r) (s : S) : binI .rem k a b s = .ok (.int k r) s := by
  show bc (beqI b (.ofNat 0)) (OR.fail 101) (int (Int.tmod a b) fun z => OR.ok (.int k z) s) = _
  rw [beqI_eq, decide_eq_false (show ¬ b = .ofNat 0 from hb), bc_false, int_eq, Int.tmod_eq_emod_of_nonneg ha, h]
theorem pow_max (k : IntKind) : maxK k < 2 ^ k.bits := by cases k <;> decide
theorem modN_id {k : IntKind} {z : Int} {n : Nat} (hz : z = n) (h1 : z ≤ maxK k) : modN k z = n := by
  have h2 := pow_max k
  subst hz
  rw [modN_toNat, Int.emod_eq_of_lt (by omega) (by omega)]; simp
theorem e_or {k : IntKind} {a b r : Int} {t : Nat} (ha : 0 ≤ a) (hb : 0 ≤ b ∧ b < 2 ^ t) (hm : a % 2 ^ t = 0) (h : a + b = r) (h1 : r ≤ maxK k) (s : S) : binI .or k a b s = .ok (.int k r) s := by
  obtain ⟨n, hn⟩ : ∃ n : Nat, a = n := ⟨a.toNat, by rw [Int.toNat_of_nonneg ha]⟩
  obtain ⟨m, hm'⟩ : ∃ m : Nat, b = m := ⟨b.toNat, by rw [Int.toNat_of_nonneg hb.1]⟩
  show retI k (.ofNat (Nat.lor (modN k a) (modN k b))) s = _
  rw [modN_id hn (by omega), modN_id hm' (by omega)]
  have h2 : m < 2 ^ t := by have := hb.2; rw [hm'] at this; exact_mod_cast this
  have h3 : n % 2 ^ t = 0 := by rw [hn] at hm; exact_mod_cast hm
  obtain ⟨q, hq⟩ := Nat.dvd_of_mod_eq_zero h3
  have h4 : Nat.lor n m = n + m := by
    show n ||| m = _
    rw [hq, Nat.two_pow_add_eq_or_of_lt h2]
  rw [h4]
  have h5 : Int.ofNat (n + m) = r := by rw [← h, hn, hm']; rfl
  rw [h5]; exact fit (by omega) h1 s
theorem e_and {k : IntKind} {a b r : Int} (t : Nat) (ha : 0 ≤ a ∧ a ≤ maxK k) (hb : b = 2 ^ t - 1) (hb1 : b ≤ maxK k) (h : a % 2 ^ t = r) (s : S) : binI .and k a b s = .ok (.int k r) s := by
  obtain ⟨n, hn⟩ : ∃ n : Nat, a = n := ⟨a.toNat, by rw [Int.toNat_of_nonneg ha.1]⟩
  have hp : 1 ≤ 2 ^ t := Nat.one_le_two_pow
  have hb' : b = ((2 ^ t - 1 : Nat) : Int) := by rw [hb]; push_cast [Int.ofNat_sub hp]; rfl
  show retI k (.ofNat (Nat.land (modN k a) (modN k b))) s = _
  rw [modN_id hn ha.2, modN_id hb' hb1]
  have h4 : Nat.land n (2 ^ t - 1) = n % 2 ^ t := Nat.and_two_pow_sub_one_eq_mod n t
  rw [h4]
  have h5 : Int.ofNat (n % 2 ^ t) = r := by rw [← h, hn]; rfl
  rw [h5]
  have h6 : a % 2 ^ t ≤ a := by rw [hn]; exact_mod_cast Nat.mod_le n _
  have h7 : 0 ≤ a % 2 ^ t := by rw [hn]; exact_mod_cast Nat.zero_le _
  exact fit (by omega) (by omega) s
theorem e_shl {k : IntKind} {a r : Int} (t : Nat) (ht : t ≤ bitsOf k) (h : a * 2 ^ t = r) (h0 : 0 ≤ r) (h1 : r ≤ maxK k) (s : S) : binI .shl k a t s = .ok (.int k r) s := by
  show retI k (Int.mul a (.ofNat (Nat.pow 2 (minN t (bitsOf k))))) s = _
  rw [minN_eq, Nat.min_eq_left ht]
  have h5 : Int.mul a (.ofNat (Nat.pow 2 t)) = r := by rw [← h]; show a * ((2 ^ t : Nat) : Int) = _; push_cast; rfl
  rw [h5]; exact fit h0 h1 s
theorem e_shr {k : IntKind} {a r : Int} (t : Nat) (ht : t ≤ bitsOf k) (h : a / 2 ^ t = r) (s : S) : binI .shr k a t s = .ok (.int k r) s := by
  show int (Int.fdiv a (.ofNat (Nat.pow 2 (minN t (bitsOf k))))) (fun z => OR.ok (.int k z) s) = _
  rw [minN_eq, Nat.min_eq_left ht, int_eq]
  have h5 : Int.fdiv a (.ofNat (Nat.pow 2 t)) = r := by
    rw [← h]; show Int.fdiv a ((2 ^ t : Nat) : Int) = _
    rw [Int.fdiv_eq_ediv_of_nonneg _ (by exact_mod_cast Nat.zero_le _)]; push_cast; rfl
  rw [h5]
theorem wrap8 (z : Int) : IntKind.u8.wrap z = z % 256 := by
  rw [← wrapS_eq]
  show wrapU .u8 (modN .u8 z) = _
  have := modN_eq .u8 z
  have h : wrapU .u8 (modN .u8 z) = ((modN .u8 z : Nat) : Int) := rfl
  rw [h, this]; rfl
def fvs (p : Par) : FvT := (.node (.node (.node (.node (.node (.node (.node (.node .leaf (p.nQ5 / 10) .leaf) (17825792 + p.nP4) .leaf) (p.nP2) (.node .leaf (p.nQ3) .leaf)) (69632 + (16 * p.L + 1) / 256) (.node (.node (.node .leaf (p.nR1) .leaf) (10 * (p.nP5 / 10000)) .leaf) (48 + p.nP3 / 100) (.node .leaf (p.nQ4 / 10) .leaf))) (p.W) (.node (.node (.node (.node .leaf (p.nQ5 / 1000) .leaf) (10 * (p.nP5 / 100)) .leaf) (p.nP3 % 10) (.node .leaf (p.nQ3 / 100) .leaf)) (20971520 + p.W) (.node (.node (.node .leaf (p.nR2 / 10) .leaf) (p.nQ2) .leaf) (48 + p.nP4 / 10 % 10) (.node .leaf (p.nQ4 / 1000) .leaf)))) (p.r3) (.node (.node (.node (.node (.node .leaf (p.nQ5 / 100) .leaf) (10 * (p.nP5 / 10)) .leaf) (p.nP2 / 10) (.node .leaf (p.nQ3 / 10) .leaf)) (p.W % 256) (.node (.node (.node .leaf (p.nR2) .leaf) (p.nQ1) .leaf) (48 + p.nP4 % 10) (.node .leaf (p.nQ4 / 100) .leaf))) (16 * p.L) (.node (.node (.node (.node .leaf (p.nQ5 / 10000) .leaf) (10 * (p.nP5 / 1000)) .leaf) (p.nP3 / 10 % 10) (.node .leaf (p.nQ4) .leaf)) (20971520 + 256 * (p.W / 256)) (.node (.node .leaf (p.nQ2 / 10) .leaf) (48 + p.nP4 / 100 % 10) (.node .leaf (p.nQ5) .leaf))))) (p.r1) (.node (.node (.node (.node (.node (.node .leaf (48 + p.nQ5 / 10 % 10) .leaf) (p.nP5 % 10) .leaf) (48 + p.nP2 % 10) (.node .leaf (48 + p.nQ3 % 10) .leaf)) (17825792 + 256 * ((16 * p.L + 1) / 256)) (.node (.node (.node .leaf (18874368 + p.nR1) .leaf) (48 + p.nP5 / 10000) .leaf) (p.nP4) (.node .leaf (48 + p.nQ4 / 10 % 10) .leaf))) (p.L) (.node (.node (.node (.node .leaf (48 + p.nQ5 / 1000 % 10) .leaf) (p.nP5 / 100 % 10) .leaf) (10 * (p.nP3 / 10)) (.node .leaf (18874368 + p.nQ3) .leaf)) (81920 + p.W / 256) (.node (.node (.node .leaf (18874368 + p.nR2) .leaf) (48 + p.nQ2 % 10) .leaf) (p.nP4 / 100) (.node .leaf (18874368 + p.nQ4) .leaf)))) (0) (.node (.node (.node (.node (.node .leaf (48 + p.nQ5 / 100 % 10) .leaf) (p.nP5 / 10 % 10) .leaf) (17825792 + p.nP2) (.node .leaf (48 + p.nQ3 / 10 % 10) .leaf)) (p.W / 256) (.node (.node (.node .leaf (48 + p.nR2 % 10) .leaf) (18874368 + p.nQ1) .leaf) (p.nP4 / 10) (.node .leaf (48 + p.nQ4 / 100 % 10) .leaf))) (17825792 + (16 * p.L + 1)) (.node (.node (.node (.node .leaf (18874368 + p.nQ5) .leaf) (p.nP5 / 1000 % 10) .leaf) (10 * (p.nP3 / 100)) (.node .leaf (48 + p.nQ4 % 10) .leaf)) (48 + p.nP1) (.node (.node .leaf (18874368 + p.nQ2) .leaf) (p.nP4 / 1000) (.node .leaf (48 + p.nQ5 % 10) .leaf)))))) (p.r0) (.node (.node (.node (.node (.node (.node (.node .leaf (p.nQ5 / 10 % 10) .leaf) (p.nP5) .leaf) (p.nP2 % 10) (.node .leaf (p.nQ3 % 10) .leaf)) ((16 * p.L + 1) / 256) (.node (.node (.node .leaf (48 + p.nR1) .leaf) (p.nP5 / 10000) .leaf) (17825792 + p.nP3) (.node .leaf (p.nQ4 / 10 % 10) .leaf))) (p.Wp) (.node (.node (.node (.node .leaf (p.nQ5 / 1000 % 10) .leaf) (p.nP5 / 100) .leaf) (48 + p.nP3 % 10) (.node .leaf (48 + p.nQ3 / 100) .leaf)) (p.W % 256) (.node (.node (.node .leaf (48 + p.nR2 / 10) .leaf) (p.nQ2 % 10) .leaf) (10 * (p.nP4 / 100)) (.node .leaf (48 + p.nQ4 / 1000) .leaf)))) (0) (.node (.node (.node (.node (.node .leaf (p.nQ5 / 100 % 10) .leaf) (p.nP5 / 10) .leaf) (48 + p.nP2 / 10) (.node .leaf (p.nQ3 / 10 % 10) .leaf)) (73728 + p.W / 256) (.node (.node (.node .leaf (p.nR2 % 10) .leaf) (48 + p.nQ1) .leaf) (10 * (p.nP4 / 10)) (.node .leaf (p.nQ4 / 100 % 10) .leaf))) (16 * p.L + 1) (.node (.node (.node (.node .leaf (48 + p.nQ5 / 10000) .leaf) (p.nP5 / 1000) .leaf) (48 + p.nP3 / 10 % 10) (.node .leaf (p.nQ4 % 10) .leaf)) (p.nP1) (.node (.node .leaf (48 + p.nQ2 / 10) .leaf) (10 * (p.nP4 / 1000)) (.node .leaf (p.nQ5 % 10) .leaf))))) (p.r2) (.node (.node (.node (.node (.node (.node .leaf (10 * (p.nQ5 / 100)) .leaf) (48 + p.nP5 % 10) .leaf) (10 * (p.nP2 / 10)) (.node .leaf (10 * (p.nQ3 / 10)) .leaf)) (18874368 + p.W) (.node (.node (.node .leaf (16777216 + p.nR1) .leaf) (17825792 + p.nP5) .leaf) (p.nP4 % 10) (.node .leaf (10 * (p.nQ4 / 100)) .leaf))) (p.B) (.node (.node (.node (.node .leaf (10 * (p.nQ5 / 10000)) .leaf) (48 + p.nP5 / 100 % 10) .leaf) (p.nP3 / 10) (.node .leaf (20971520 + p.nQ3) .leaf)) (p.W / 256) (.node (.node (.node .leaf (16777216 + p.nR2) .leaf) (10 * (p.nQ2 / 10)) .leaf) (p.nP4 / 100 % 10) (.node .leaf (20971520 + p.nQ4) .leaf)))) (1) (.node (.node (.node (.node (.node .leaf (10 * (p.nQ5 / 1000)) .leaf) (48 + p.nP5 / 10 % 10) .leaf) (p.nP3) (.node .leaf (10 * (p.nQ3 / 100)) .leaf)) (18874368 + 256 * (p.W / 256)) (.node (.node (.node .leaf (10 * (p.nR2 / 10)) .leaf) (20971520 + p.nQ1) .leaf) (p.nP4 / 10 % 10) (.node .leaf (10 * (p.nQ4 / 1000)) .leaf))) ((16 * p.L + 1) % 256) (.node (.node (.node (.node .leaf (20971520 + p.nQ5) .leaf) (48 + p.nP5 / 1000 % 10) .leaf) (p.nP3 / 100) (.node .leaf (10 * (p.nQ4 / 10)) .leaf)) (17825792 + p.nP1) (.node (.node .leaf (20971520 + p.nQ2) .leaf) (48 + p.nP4 / 1000) (.node .leaf (10 * (p.nQ5 / 10)) .leaf)))))))
def fP (p : Par) (i : Nat) : Int := (fvs p).get i
theorem fvs_rng (p : Par) (h : ParOk p) : RngT ivs (fvs p) := ⟨(show -9223372036854775808 ≤ p.r0 ∧ p.r0 ≤ 9223372036854775807 by have := h.hr0; omega), ⟨(show -9223372036854775808 ≤ p.r1 ∧ p.r1 ≤ 9223372036854775807 by have := h.hr1; omega), ⟨(show -9223372036854775808 ≤ p.r3 ∧ p.r3 ≤ 9223372036854775807 by have := h.hr3; omega), ⟨(show 0 ≤ p.W ∧ p.W ≤ 65535 by have := h.hW; omega), ⟨(show 69632 ≤ 69632 + (16 * p.L + 1) / 256 ∧ 69632 + (16 * p.L + 1) / 256 ≤ 69887 by have := h.hL; omega), ⟨(show 10 ≤ p.nP2 ∧ p.nP2 ≤ 99 by have := h.hnP2; omega), ⟨(show 17826792 ≤ 17825792 + p.nP4 ∧ 17825792 + p.nP4 ≤ 17835791 by have := h.hnP4; omega), ⟨(show 1000 ≤ p.nQ5 / 10 ∧ p.nQ5 / 10 ≤ 6553 by have := h.hnQ5; omega), trivial, trivial⟩, trivial⟩, ⟨(show 100 ≤ p.nQ3 ∧ p.nQ3 ≤ 999 by have := h.hnQ3; omega), trivial, trivial⟩⟩, ⟨(show 49 ≤ 48 + p.nP3 / 100 ∧ 48 + p.nP3 / 100 ≤ 57 by have := h.hnP3; omega), ⟨(show 10 ≤ 10 * (p.nP5 / 10000) ∧ 10 * (p.nP5 / 10000) ≤ 60 by have := h.hnP5; omega), ⟨(show 1 ≤ p.nR1 ∧ p.nR1 ≤ 9 by have := h.hnR1; omega), trivial, trivial⟩, trivial⟩, ⟨(show 100 ≤ p.nQ4 / 10 ∧ p.nQ4 / 10 ≤ 999 by have := h.hnQ4; omega), trivial, trivial⟩⟩⟩, ⟨(show 20971520 ≤ 20971520 + p.W ∧ 20971520 + p.W ≤ 21037055 by have := h.hW; omega), ⟨(show 0 ≤ p.nP3 % 10 ∧ p.nP3 % 10 ≤ 9 by have := h.hnP3; omega), ⟨(show 1000 ≤ 10 * (p.nP5 / 100) ∧ 10 * (p.nP5 / 100) ≤ 6550 by have := h.hnP5; omega), ⟨(show 10 ≤ p.nQ5 / 1000 ∧ p.nQ5 / 1000 ≤ 65 by have := h.hnQ5; omega), trivial, trivial⟩, trivial⟩, ⟨(show 1 ≤ p.nQ3 / 100 ∧ p.nQ3 / 100 ≤ 9 by have := h.hnQ3; omega), trivial, trivial⟩⟩, ⟨(show 48 ≤ 48 + p.nP4 / 10 % 10 ∧ 48 + p.nP4 / 10 % 10 ≤ 57 by have := h.hnP4; omega), ⟨(show 10 ≤ p.nQ2 ∧ p.nQ2 ≤ 99 by have := h.hnQ2; omega), ⟨(show 1 ≤ p.nR2 / 10 ∧ p.nR2 / 10 ≤ 9 by have := h.hnR2; omega), trivial, trivial⟩, trivial⟩, ⟨(show 1 ≤ p.nQ4 / 1000 ∧ p.nQ4 / 1000 ≤ 9 by have := h.hnQ4; omega), trivial, trivial⟩⟩⟩⟩, ⟨(show 0 ≤ 16 * p.L ∧ 16 * p.L ≤ 63984 by have := h.hL; omega), ⟨(show 0 ≤ p.W % 256 ∧ p.W % 256 ≤ 255 by have := h.hW; omega), ⟨(show 1 ≤ p.nP2 / 10 ∧ p.nP2 / 10 ≤ 9 by have := h.hnP2; omega), ⟨(show 10000 ≤ 10 * (p.nP5 / 10) ∧ 10 * (p.nP5 / 10) ≤ 65530 by have := h.hnP5; omega), ⟨(show 100 ≤ p.nQ5 / 100 ∧ p.nQ5 / 100 ≤ 655 by have := h.hnQ5; omega), trivial, trivial⟩, trivial⟩, ⟨(show 10 ≤ p.nQ3 / 10 ∧ p.nQ3 / 10 ≤ 99 by have := h.hnQ3; omega), trivial, trivial⟩⟩, ⟨(show 48 ≤ 48 + p.nP4 % 10 ∧ 48 + p.nP4 % 10 ≤ 57 by have := h.hnP4; omega), ⟨(show 1 ≤ p.nQ1 ∧ p.nQ1 ≤ 9 by have := h.hnQ1; omega), ⟨(show 10 ≤ p.nR2 ∧ p.nR2 ≤ 99 by have := h.hnR2; omega), trivial, trivial⟩, trivial⟩, ⟨(show 10 ≤ p.nQ4 / 100 ∧ p.nQ4 / 100 ≤ 99 by have := h.hnQ4; omega), trivial, trivial⟩⟩⟩, ⟨(show 20971520 ≤ 20971520 + 256 * (p.W / 256) ∧ 20971520 + 256 * (p.W / 256) ≤ 21036800 by have := h.hW; omega), ⟨(show 0 ≤ p.nP3 / 10 % 10 ∧ p.nP3 / 10 % 10 ≤ 9 by have := h.hnP3; omega), ⟨(show 100 ≤ 10 * (p.nP5 / 1000) ∧ 10 * (p.nP5 / 1000) ≤ 650 by have := h.hnP5; omega), ⟨(show 1 ≤ p.nQ5 / 10000 ∧ p.nQ5 / 10000 ≤ 6 by have := h.hnQ5; omega), trivial, trivial⟩, trivial⟩, ⟨(show 1000 ≤ p.nQ4 ∧ p.nQ4 ≤ 9999 by have := h.hnQ4; omega), trivial, trivial⟩⟩, ⟨(show 48 ≤ 48 + p.nP4 / 100 % 10 ∧ 48 + p.nP4 / 100 % 10 ≤ 57 by have := h.hnP4; omega), ⟨(show 1 ≤ p.nQ2 / 10 ∧ p.nQ2 / 10 ≤ 9 by have := h.hnQ2; omega), trivial, trivial⟩, ⟨(show 10000 ≤ p.nQ5 ∧ p.nQ5 ≤ 65535 by have := h.hnQ5; omega), trivial, trivial⟩⟩⟩⟩⟩, ⟨(show 0 ≤ 0 ∧ 0 ≤ 0 by omega), ⟨(show 0 ≤ p.L ∧ p.L ≤ 3999 by have := h.hL; omega), ⟨(show 17825792 ≤ 17825792 + 256 * ((16 * p.L + 1) / 256) ∧ 17825792 + 256 * ((16 * p.L + 1) / 256) ≤ 17891072 by have := h.hL; omega), ⟨(show 48 ≤ 48 + p.nP2 % 10 ∧ 48 + p.nP2 % 10 ≤ 57 by have := h.hnP2; omega), ⟨(show 0 ≤ p.nP5 % 10 ∧ p.nP5 % 10 ≤ 9 by have := h.hnP5; omega), ⟨(show 48 ≤ 48 + p.nQ5 / 10 % 10 ∧ 48 + p.nQ5 / 10 % 10 ≤ 57 by have := h.hnQ5; omega), trivial, trivial⟩, trivial⟩, ⟨(show 48 ≤ 48 + p.nQ3 % 10 ∧ 48 + p.nQ3 % 10 ≤ 57 by have := h.hnQ3; omega), trivial, trivial⟩⟩, ⟨(show 1000 ≤ p.nP4 ∧ p.nP4 ≤ 9999 by have := h.hnP4; omega), ⟨(show 49 ≤ 48 + p.nP5 / 10000 ∧ 48 + p.nP5 / 10000 ≤ 54 by have := h.hnP5; omega), ⟨(show 18874369 ≤ 18874368 + p.nR1 ∧ 18874368 + p.nR1 ≤ 18874377 by have := h.hnR1; omega), trivial, trivial⟩, trivial⟩, ⟨(show 48 ≤ 48 + p.nQ4 / 10 % 10 ∧ 48 + p.nQ4 / 10 % 10 ≤ 57 by have := h.hnQ4; omega), trivial, trivial⟩⟩⟩, ⟨(show 81920 ≤ 81920 + p.W / 256 ∧ 81920 + p.W / 256 ≤ 82175 by have := h.hW; omega), ⟨(show 100 ≤ 10 * (p.nP3 / 10) ∧ 10 * (p.nP3 / 10) ≤ 990 by have := h.hnP3; omega), ⟨(show 0 ≤ p.nP5 / 100 % 10 ∧ p.nP5 / 100 % 10 ≤ 9 by have := h.hnP5; omega), ⟨(show 48 ≤ 48 + p.nQ5 / 1000 % 10 ∧ 48 + p.nQ5 / 1000 % 10 ≤ 57 by have := h.hnQ5; omega), trivial, trivial⟩, trivial⟩, ⟨(show 18874468 ≤ 18874368 + p.nQ3 ∧ 18874368 + p.nQ3 ≤ 18875367 by have := h.hnQ3; omega), trivial, trivial⟩⟩, ⟨(show 10 ≤ p.nP4 / 100 ∧ p.nP4 / 100 ≤ 99 by have := h.hnP4; omega), ⟨(show 48 ≤ 48 + p.nQ2 % 10 ∧ 48 + p.nQ2 % 10 ≤ 57 by have := h.hnQ2; omega), ⟨(show 18874378 ≤ 18874368 + p.nR2 ∧ 18874368 + p.nR2 ≤ 18874467 by have := h.hnR2; omega), trivial, trivial⟩, trivial⟩, ⟨(show 18875368 ≤ 18874368 + p.nQ4 ∧ 18874368 + p.nQ4 ≤ 18884367 by have := h.hnQ4; omega), trivial, trivial⟩⟩⟩⟩, ⟨(show 17825792 ≤ 17825792 + (16 * p.L + 1) ∧ 17825792 + (16 * p.L + 1) ≤ 17891327 by have := h.hL; omega), ⟨(show 0 ≤ p.W / 256 ∧ p.W / 256 ≤ 255 by have := h.hW; omega), ⟨(show 17825802 ≤ 17825792 + p.nP2 ∧ 17825792 + p.nP2 ≤ 17825891 by have := h.hnP2; omega), ⟨(show 0 ≤ p.nP5 / 10 % 10 ∧ p.nP5 / 10 % 10 ≤ 9 by have := h.hnP5; omega), ⟨(show 48 ≤ 48 + p.nQ5 / 100 % 10 ∧ 48 + p.nQ5 / 100 % 10 ≤ 57 by have := h.hnQ5; omega), trivial, trivial⟩, trivial⟩, ⟨(show 48 ≤ 48 + p.nQ3 / 10 % 10 ∧ 48 + p.nQ3 / 10 % 10 ≤ 57 by have := h.hnQ3; omega), trivial, trivial⟩⟩, ⟨(show 100 ≤ p.nP4 / 10 ∧ p.nP4 / 10 ≤ 999 by have := h.hnP4; omega), ⟨(show 18874369 ≤ 18874368 + p.nQ1 ∧ 18874368 + p.nQ1 ≤ 18874377 by have := h.hnQ1; omega), ⟨(show 48 ≤ 48 + p.nR2 % 10 ∧ 48 + p.nR2 % 10 ≤ 57 by have := h.hnR2; omega), trivial, trivial⟩, trivial⟩, ⟨(show 48 ≤ 48 + p.nQ4 / 100 % 10 ∧ 48 + p.nQ4 / 100 % 10 ≤ 57 by have := h.hnQ4; omega), trivial, trivial⟩⟩⟩, ⟨(show 49 ≤ 48 + p.nP1 ∧ 48 + p.nP1 ≤ 57 by have := h.hnP1; omega), ⟨(show 10 ≤ 10 * (p.nP3 / 100) ∧ 10 * (p.nP3 / 100) ≤ 90 by have := h.hnP3; omega), ⟨(show 0 ≤ p.nP5 / 1000 % 10 ∧ p.nP5 / 1000 % 10 ≤ 9 by have := h.hnP5; omega), ⟨(show 18884368 ≤ 18874368 + p.nQ5 ∧ 18874368 + p.nQ5 ≤ 18939903 by have := h.hnQ5; omega), trivial, trivial⟩, trivial⟩, ⟨(show 48 ≤ 48 + p.nQ4 % 10 ∧ 48 + p.nQ4 % 10 ≤ 57 by have := h.hnQ4; omega), trivial, trivial⟩⟩, ⟨(show 1 ≤ p.nP4 / 1000 ∧ p.nP4 / 1000 ≤ 9 by have := h.hnP4; omega), ⟨(show 18874378 ≤ 18874368 + p.nQ2 ∧ 18874368 + p.nQ2 ≤ 18874467 by have := h.hnQ2; omega), trivial, trivial⟩, ⟨(show 48 ≤ 48 + p.nQ5 % 10 ∧ 48 + p.nQ5 % 10 ≤ 57 by have := h.hnQ5; omega), trivial, trivial⟩⟩⟩⟩⟩⟩, ⟨(show -9223372036854775808 ≤ p.r2 ∧ p.r2 ≤ 9223372036854775807 by have := h.hr2; omega), ⟨(show 0 ≤ 0 ∧ 0 ≤ 0 by omega), ⟨(show 1 ≤ p.Wp ∧ p.Wp ≤ 65535 by have := h.hWp; omega), ⟨(show 0 ≤ (16 * p.L + 1) / 256 ∧ (16 * p.L + 1) / 256 ≤ 255 by have := h.hL; omega), ⟨(show 0 ≤ p.nP2 % 10 ∧ p.nP2 % 10 ≤ 9 by have := h.hnP2; omega), ⟨(show 10000 ≤ p.nP5 ∧ p.nP5 ≤ 65535 by have := h.hnP5; omega), ⟨(show 0 ≤ p.nQ5 / 10 % 10 ∧ p.nQ5 / 10 % 10 ≤ 9 by have := h.hnQ5; omega), trivial, trivial⟩, trivial⟩, ⟨(show 0 ≤ p.nQ3 % 10 ∧ p.nQ3 % 10 ≤ 9 by have := h.hnQ3; omega), trivial, trivial⟩⟩, ⟨(show 17825892 ≤ 17825792 + p.nP3 ∧ 17825792 + p.nP3 ≤ 17826791 by have := h.hnP3; omega), ⟨(show 1 ≤ p.nP5 / 10000 ∧ p.nP5 / 10000 ≤ 6 by have := h.hnP5; omega), ⟨(show 49 ≤ 48 + p.nR1 ∧ 48 + p.nR1 ≤ 57 by have := h.hnR1; omega), trivial, trivial⟩, trivial⟩, ⟨(show 0 ≤ p.nQ4 / 10 % 10 ∧ p.nQ4 / 10 % 10 ≤ 9 by have := h.hnQ4; omega), trivial, trivial⟩⟩⟩, ⟨(show 0 ≤ p.W % 256 ∧ p.W % 256 ≤ 255 by have := h.hW; omega), ⟨(show 48 ≤ 48 + p.nP3 % 10 ∧ 48 + p.nP3 % 10 ≤ 57 by have := h.hnP3; omega), ⟨(show 100 ≤ p.nP5 / 100 ∧ p.nP5 / 100 ≤ 655 by have := h.hnP5; omega), ⟨(show 0 ≤ p.nQ5 / 1000 % 10 ∧ p.nQ5 / 1000 % 10 ≤ 9 by have := h.hnQ5; omega), trivial, trivial⟩, trivial⟩, ⟨(show 49 ≤ 48 + p.nQ3 / 100 ∧ 48 + p.nQ3 / 100 ≤ 57 by have := h.hnQ3; omega), trivial, trivial⟩⟩, ⟨(show 100 ≤ 10 * (p.nP4 / 100) ∧ 10 * (p.nP4 / 100) ≤ 990 by have := h.hnP4; omega), ⟨(show 0 ≤ p.nQ2 % 10 ∧ p.nQ2 % 10 ≤ 9 by have := h.hnQ2; omega), ⟨(show 49 ≤ 48 + p.nR2 / 10 ∧ 48 + p.nR2 / 10 ≤ 57 by have := h.hnR2; omega), trivial, trivial⟩, trivial⟩, ⟨(show 49 ≤ 48 + p.nQ4 / 1000 ∧ 48 + p.nQ4 / 1000 ≤ 57 by have := h.hnQ4; omega), trivial, trivial⟩⟩⟩⟩, ⟨(show 1 ≤ 16 * p.L + 1 ∧ 16 * p.L + 1 ≤ 63985 by have := h.hL; omega), ⟨(show 73728 ≤ 73728 + p.W / 256 ∧ 73728 + p.W / 256 ≤ 73983 by have := h.hW; omega), ⟨(show 49 ≤ 48 + p.nP2 / 10 ∧ 48 + p.nP2 / 10 ≤ 57 by have := h.hnP2; omega), ⟨(show 1000 ≤ p.nP5 / 10 ∧ p.nP5 / 10 ≤ 6553 by have := h.hnP5; omega), ⟨(show 0 ≤ p.nQ5 / 100 % 10 ∧ p.nQ5 / 100 % 10 ≤ 9 by have := h.hnQ5; omega), trivial, trivial⟩, trivial⟩, ⟨(show 0 ≤ p.nQ3 / 10 % 10 ∧ p.nQ3 / 10 % 10 ≤ 9 by have := h.hnQ3; omega), trivial, trivial⟩⟩, ⟨(show 1000 ≤ 10 * (p.nP4 / 10) ∧ 10 * (p.nP4 / 10) ≤ 9990 by have := h.hnP4; omega), ⟨(show 49 ≤ 48 + p.nQ1 ∧ 48 + p.nQ1 ≤ 57 by have := h.hnQ1; omega), ⟨(show 0 ≤ p.nR2 % 10 ∧ p.nR2 % 10 ≤ 9 by have := h.hnR2; omega), trivial, trivial⟩, trivial⟩, ⟨(show 0 ≤ p.nQ4 / 100 % 10 ∧ p.nQ4 / 100 % 10 ≤ 9 by have := h.hnQ4; omega), trivial, trivial⟩⟩⟩, ⟨(show 1 ≤ p.nP1 ∧ p.nP1 ≤ 9 by have := h.hnP1; omega), ⟨(show 48 ≤ 48 + p.nP3 / 10 % 10 ∧ 48 + p.nP3 / 10 % 10 ≤ 57 by have := h.hnP3; omega), ⟨(show 10 ≤ p.nP5 / 1000 ∧ p.nP5 / 1000 ≤ 65 by have := h.hnP5; omega), ⟨(show 49 ≤ 48 + p.nQ5 / 10000 ∧ 48 + p.nQ5 / 10000 ≤ 54 by have := h.hnQ5; omega), trivial, trivial⟩, trivial⟩, ⟨(show 0 ≤ p.nQ4 % 10 ∧ p.nQ4 % 10 ≤ 9 by have := h.hnQ4; omega), trivial, trivial⟩⟩, ⟨(show 10 ≤ 10 * (p.nP4 / 1000) ∧ 10 * (p.nP4 / 1000) ≤ 90 by have := h.hnP4; omega), ⟨(show 49 ≤ 48 + p.nQ2 / 10 ∧ 48 + p.nQ2 / 10 ≤ 57 by have := h.hnQ2; omega), trivial, trivial⟩, ⟨(show 0 ≤ p.nQ5 % 10 ∧ p.nQ5 % 10 ≤ 9 by have := h.hnQ5; omega), trivial, trivial⟩⟩⟩⟩⟩, ⟨(show 1 ≤ 1 ∧ 1 ≤ 1 by omega), ⟨(show 0 ≤ p.B ∧ p.B ≤ 1048575 by have := h.hB; omega), ⟨(show 18874368 ≤ 18874368 + p.W ∧ 18874368 + p.W ≤ 18939903 by have := h.hW; omega), ⟨(show 10 ≤ 10 * (p.nP2 / 10) ∧ 10 * (p.nP2 / 10) ≤ 90 by have := h.hnP2; omega), ⟨(show 48 ≤ 48 + p.nP5 % 10 ∧ 48 + p.nP5 % 10 ≤ 57 by have := h.hnP5; omega), ⟨(show 1000 ≤ 10 * (p.nQ5 / 100) ∧ 10 * (p.nQ5 / 100) ≤ 6550 by have := h.hnQ5; omega), trivial, trivial⟩, trivial⟩, ⟨(show 100 ≤ 10 * (p.nQ3 / 10) ∧ 10 * (p.nQ3 / 10) ≤ 990 by have := h.hnQ3; omega), trivial, trivial⟩⟩, ⟨(show 0 ≤ p.nP4 % 10 ∧ p.nP4 % 10 ≤ 9 by have := h.hnP4; omega), ⟨(show 17835792 ≤ 17825792 + p.nP5 ∧ 17825792 + p.nP5 ≤ 17891327 by have := h.hnP5; omega), ⟨(show 16777217 ≤ 16777216 + p.nR1 ∧ 16777216 + p.nR1 ≤ 16777225 by have := h.hnR1; omega), trivial, trivial⟩, trivial⟩, ⟨(show 100 ≤ 10 * (p.nQ4 / 100) ∧ 10 * (p.nQ4 / 100) ≤ 990 by have := h.hnQ4; omega), trivial, trivial⟩⟩⟩, ⟨(show 0 ≤ p.W / 256 ∧ p.W / 256 ≤ 255 by have := h.hW; omega), ⟨(show 10 ≤ p.nP3 / 10 ∧ p.nP3 / 10 ≤ 99 by have := h.hnP3; omega), ⟨(show 48 ≤ 48 + p.nP5 / 100 % 10 ∧ 48 + p.nP5 / 100 % 10 ≤ 57 by have := h.hnP5; omega), ⟨(show 10 ≤ 10 * (p.nQ5 / 10000) ∧ 10 * (p.nQ5 / 10000) ≤ 60 by have := h.hnQ5; omega), trivial, trivial⟩, trivial⟩, ⟨(show 20971620 ≤ 20971520 + p.nQ3 ∧ 20971520 + p.nQ3 ≤ 20972519 by have := h.hnQ3; omega), trivial, trivial⟩⟩, ⟨(show 0 ≤ p.nP4 / 100 % 10 ∧ p.nP4 / 100 % 10 ≤ 9 by have := h.hnP4; omega), ⟨(show 10 ≤ 10 * (p.nQ2 / 10) ∧ 10 * (p.nQ2 / 10) ≤ 90 by have := h.hnQ2; omega), ⟨(show 16777226 ≤ 16777216 + p.nR2 ∧ 16777216 + p.nR2 ≤ 16777315 by have := h.hnR2; omega), trivial, trivial⟩, trivial⟩, ⟨(show 20972520 ≤ 20971520 + p.nQ4 ∧ 20971520 + p.nQ4 ≤ 20981519 by have := h.hnQ4; omega), trivial, trivial⟩⟩⟩⟩, ⟨(show 0 ≤ (16 * p.L + 1) % 256 ∧ (16 * p.L + 1) % 256 ≤ 255 by have := h.hL; omega), ⟨(show 18874368 ≤ 18874368 + 256 * (p.W / 256) ∧ 18874368 + 256 * (p.W / 256) ≤ 18939648 by have := h.hW; omega), ⟨(show 100 ≤ p.nP3 ∧ p.nP3 ≤ 999 by have := h.hnP3; omega), ⟨(show 48 ≤ 48 + p.nP5 / 10 % 10 ∧ 48 + p.nP5 / 10 % 10 ≤ 57 by have := h.hnP5; omega), ⟨(show 100 ≤ 10 * (p.nQ5 / 1000) ∧ 10 * (p.nQ5 / 1000) ≤ 650 by have := h.hnQ5; omega), trivial, trivial⟩, trivial⟩, ⟨(show 10 ≤ 10 * (p.nQ3 / 100) ∧ 10 * (p.nQ3 / 100) ≤ 90 by have := h.hnQ3; omega), trivial, trivial⟩⟩, ⟨(show 0 ≤ p.nP4 / 10 % 10 ∧ p.nP4 / 10 % 10 ≤ 9 by have := h.hnP4; omega), ⟨(show 20971521 ≤ 20971520 + p.nQ1 ∧ 20971520 + p.nQ1 ≤ 20971529 by have := h.hnQ1; omega), ⟨(show 10 ≤ 10 * (p.nR2 / 10) ∧ 10 * (p.nR2 / 10) ≤ 90 by have := h.hnR2; omega), trivial, trivial⟩, trivial⟩, ⟨(show 10 ≤ 10 * (p.nQ4 / 1000) ∧ 10 * (p.nQ4 / 1000) ≤ 90 by have := h.hnQ4; omega), trivial, trivial⟩⟩⟩, ⟨(show 17825793 ≤ 17825792 + p.nP1 ∧ 17825792 + p.nP1 ≤ 17825801 by have := h.hnP1; omega), ⟨(show 1 ≤ p.nP3 / 100 ∧ p.nP3 / 100 ≤ 9 by have := h.hnP3; omega), ⟨(show 48 ≤ 48 + p.nP5 / 1000 % 10 ∧ 48 + p.nP5 / 1000 % 10 ≤ 57 by have := h.hnP5; omega), ⟨(show 20981520 ≤ 20971520 + p.nQ5 ∧ 20971520 + p.nQ5 ≤ 21037055 by have := h.hnQ5; omega), trivial, trivial⟩, trivial⟩, ⟨(show 1000 ≤ 10 * (p.nQ4 / 10) ∧ 10 * (p.nQ4 / 10) ≤ 9990 by have := h.hnQ4; omega), trivial, trivial⟩⟩, ⟨(show 49 ≤ 48 + p.nP4 / 1000 ∧ 48 + p.nP4 / 1000 ≤ 57 by have := h.hnP4; omega), ⟨(show 20971530 ≤ 20971520 + p.nQ2 ∧ 20971520 + p.nQ2 ≤ 20971619 by have := h.hnQ2; omega), trivial, trivial⟩, ⟨(show 10000 ≤ 10 * (p.nQ5 / 10) ∧ 10 * (p.nQ5 / 10) ≤ 65530 by have := h.hnQ5; omega), trivial, trivial⟩⟩⟩⟩⟩⟩⟩
theorem ents0 (p : Par) (h : ParOk p) : AllE (fP p) symE0 :=
  ⟨e_add (show 0 + (p.nP1) = (p.nP1) by have := h.hnP1; omega) (show (0 : Int) ≤ (p.nP1) by have := h.hnP1; omega) (show (p.nP1) ≤ 18446744073709551615 by have := h.hnP1; omega),
  e_add (show 0 + (p.nP2 / 10) = (p.nP2 / 10) by have := h.hnP2; omega) (show (0 : Int) ≤ (p.nP2 / 10) by have := h.hnP2; omega) (show (p.nP2 / 10) ≤ 18446744073709551615 by have := h.hnP2; omega),
  e_add (show 0 + (p.nP3 / 100) = (p.nP3 / 100) by have := h.hnP3; omega) (show (0 : Int) ≤ (p.nP3 / 100) by have := h.hnP3; omega) (show (p.nP3 / 100) ≤ 18446744073709551615 by have := h.hnP3; omega),
  e_add (show 0 + (p.nP4 / 1000) = (p.nP4 / 1000) by have := h.hnP4; omega) (show (0 : Int) ≤ (p.nP4 / 1000) by have := h.hnP4; omega) (show (p.nP4 / 1000) ≤ 18446744073709551615 by have := h.hnP4; omega),
  e_add (show 0 + (p.nP5 / 10000) = (p.nP5 / 10000) by have := h.hnP5; omega) (show (0 : Int) ≤ (p.nP5 / 10000) by have := h.hnP5; omega) (show (p.nP5 / 10000) ≤ 18446744073709551615 by have := h.hnP5; omega),
  e_add (show 0 + (p.nQ1) = (p.nQ1) by have := h.hnQ1; omega) (show (0 : Int) ≤ (p.nQ1) by have := h.hnQ1; omega) (show (p.nQ1) ≤ 18446744073709551615 by have := h.hnQ1; omega),
  e_add (show 0 + (p.nQ2 / 10) = (p.nQ2 / 10) by have := h.hnQ2; omega) (show (0 : Int) ≤ (p.nQ2 / 10) by have := h.hnQ2; omega) (show (p.nQ2 / 10) ≤ 18446744073709551615 by have := h.hnQ2; omega),
  e_add (show 0 + (p.nQ3 / 100) = (p.nQ3 / 100) by have := h.hnQ3; omega) (show (0 : Int) ≤ (p.nQ3 / 100) by have := h.hnQ3; omega) (show (p.nQ3 / 100) ≤ 18446744073709551615 by have := h.hnQ3; omega),
  e_add (show 0 + (p.nQ4 / 1000) = (p.nQ4 / 1000) by have := h.hnQ4; omega) (show (0 : Int) ≤ (p.nQ4 / 1000) by have := h.hnQ4; omega) (show (p.nQ4 / 1000) ≤ 18446744073709551615 by have := h.hnQ4; omega),
  e_add (show 0 + (p.nQ5 / 10000) = (p.nQ5 / 10000) by have := h.hnQ5; omega) (show (0 : Int) ≤ (p.nQ5 / 10000) by have := h.hnQ5; omega) (show (p.nQ5 / 10000) ≤ 18446744073709551615 by have := h.hnQ5; omega),
  e_add (show 0 + (p.nR1) = (p.nR1) by have := h.hnR1; omega) (show (0 : Int) ≤ (p.nR1) by have := h.hnR1; omega) (show (p.nR1) ≤ 18446744073709551615 by have := h.hnR1; omega),
  e_add (show 0 + (p.nR2 / 10) = (p.nR2 / 10) by have := h.hnR2; omega) (show (0 : Int) ≤ (p.nR2 / 10) by have := h.hnR2; omega) (show (p.nR2 / 10) ≤ 18446744073709551615 by have := h.hnR2; omega),
  e_mul (show 16 * (p.L) = (16 * p.L) by have := h.hL; omega) (show (0 : Int) ≤ (16 * p.L) by have := h.hL; omega) (show (16 * p.L) ≤ 9223372036854775807 by have := h.hL; omega),
  e_or (t := 16) (show (0 : Int) ≤ 16777216 by have := h.hnR1; omega) (show (0 : Int) ≤ (p.nR1) ∧ (p.nR1) < 65536 by have := h.hnR1; omega) (show 16777216 % 65536 = 0 by have := h.hnR1; omega) (show 16777216 + (p.nR1) = (16777216 + p.nR1) by have := h.hnR1; omega) (show (16777216 + p.nR1) ≤ 9223372036854775807 by have := h.hnR1; omega),
  e_or (t := 16) (show (0 : Int) ≤ 16777216 by have := h.hnR2; omega) (show (0 : Int) ≤ (p.nR2) ∧ (p.nR2) < 65536 by have := h.hnR2; omega) (show 16777216 % 65536 = 0 by have := h.hnR2; omega) (show 16777216 + (p.nR2) = (16777216 + p.nR2) by have := h.hnR2; omega) (show (16777216 + p.nR2) ≤ 9223372036854775807 by have := h.hnR2; omega),
  e_or (t := 16) (show (0 : Int) ≤ 17825792 by have := h.hnP1; omega) (show (0 : Int) ≤ (p.nP1) ∧ (p.nP1) < 65536 by have := h.hnP1; omega) (show 17825792 % 65536 = 0 by have := h.hnP1; omega) (show 17825792 + (p.nP1) = (17825792 + p.nP1) by have := h.hnP1; omega) (show (17825792 + p.nP1) ≤ 9223372036854775807 by have := h.hnP1; omega),
  e_or (t := 16) (show (0 : Int) ≤ 17825792 by have := h.hnP2; omega) (show (0 : Int) ≤ (p.nP2) ∧ (p.nP2) < 65536 by have := h.hnP2; omega) (show 17825792 % 65536 = 0 by have := h.hnP2; omega) (show 17825792 + (p.nP2) = (17825792 + p.nP2) by have := h.hnP2; omega) (show (17825792 + p.nP2) ≤ 9223372036854775807 by have := h.hnP2; omega),
  e_or (t := 16) (show (0 : Int) ≤ 17825792 by have := h.hnP3; omega) (show (0 : Int) ≤ (p.nP3) ∧ (p.nP3) < 65536 by have := h.hnP3; omega) (show 17825792 % 65536 = 0 by have := h.hnP3; omega) (show 17825792 + (p.nP3) = (17825792 + p.nP3) by have := h.hnP3; omega) (show (17825792 + p.nP3) ≤ 9223372036854775807 by have := h.hnP3; omega),
  e_or (t := 16) (show (0 : Int) ≤ 17825792 by have := h.hnP4; omega) (show (0 : Int) ≤ (p.nP4) ∧ (p.nP4) < 65536 by have := h.hnP4; omega) (show 17825792 % 65536 = 0 by have := h.hnP4; omega) (show 17825792 + (p.nP4) = (17825792 + p.nP4) by have := h.hnP4; omega) (show (17825792 + p.nP4) ≤ 9223372036854775807 by have := h.hnP4; omega),
  e_or (t := 16) (show (0 : Int) ≤ 17825792 by have := h.hnP5; omega) (show (0 : Int) ≤ (p.nP5) ∧ (p.nP5) < 65536 by have := h.hnP5; omega) (show 17825792 % 65536 = 0 by have := h.hnP5; omega) (show 17825792 + (p.nP5) = (17825792 + p.nP5) by have := h.hnP5; omega) (show (17825792 + p.nP5) ≤ 9223372036854775807 by have := h.hnP5; omega),
  e_or (t := 16) (show (0 : Int) ≤ 18874368 by have := h.hnQ1; omega) (show (0 : Int) ≤ (p.nQ1) ∧ (p.nQ1) < 65536 by have := h.hnQ1; omega) (show 18874368 % 65536 = 0 by have := h.hnQ1; omega) (show 18874368 + (p.nQ1) = (18874368 + p.nQ1) by have := h.hnQ1; omega) (show (18874368 + p.nQ1) ≤ 9223372036854775807 by have := h.hnQ1; omega),
  e_or (t := 16) (show (0 : Int) ≤ 18874368 by have := h.hnQ2; omega) (show (0 : Int) ≤ (p.nQ2) ∧ (p.nQ2) < 65536 by have := h.hnQ2; omega) (show 18874368 % 65536 = 0 by have := h.hnQ2; omega) (show 18874368 + (p.nQ2) = (18874368 + p.nQ2) by have := h.hnQ2; omega) (show (18874368 + p.nQ2) ≤ 9223372036854775807 by have := h.hnQ2; omega),
  e_or (t := 16) (show (0 : Int) ≤ 18874368 by have := h.hnQ3; omega) (show (0 : Int) ≤ (p.nQ3) ∧ (p.nQ3) < 65536 by have := h.hnQ3; omega) (show 18874368 % 65536 = 0 by have := h.hnQ3; omega) (show 18874368 + (p.nQ3) = (18874368 + p.nQ3) by have := h.hnQ3; omega) (show (18874368 + p.nQ3) ≤ 9223372036854775807 by have := h.hnQ3; omega),
  e_or (t := 16) (show (0 : Int) ≤ 18874368 by have := h.hnQ4; omega) (show (0 : Int) ≤ (p.nQ4) ∧ (p.nQ4) < 65536 by have := h.hnQ4; omega) (show 18874368 % 65536 = 0 by have := h.hnQ4; omega) (show 18874368 + (p.nQ4) = (18874368 + p.nQ4) by have := h.hnQ4; omega) (show (18874368 + p.nQ4) ≤ 9223372036854775807 by have := h.hnQ4; omega),
  e_or (t := 16) (show (0 : Int) ≤ 18874368 by have := h.hnQ5; omega) (show (0 : Int) ≤ (p.nQ5) ∧ (p.nQ5) < 65536 by have := h.hnQ5; omega) (show 18874368 % 65536 = 0 by have := h.hnQ5; omega) (show 18874368 + (p.nQ5) = (18874368 + p.nQ5) by have := h.hnQ5; omega) (show (18874368 + p.nQ5) ≤ 9223372036854775807 by have := h.hnQ5; omega),
  e_or (t := 16) (show (0 : Int) ≤ 18874368 by have := h.hnR1; omega) (show (0 : Int) ≤ (p.nR1) ∧ (p.nR1) < 65536 by have := h.hnR1; omega) (show 18874368 % 65536 = 0 by have := h.hnR1; omega) (show 18874368 + (p.nR1) = (18874368 + p.nR1) by have := h.hnR1; omega) (show (18874368 + p.nR1) ≤ 9223372036854775807 by have := h.hnR1; omega),
  e_or (t := 16) (show (0 : Int) ≤ 18874368 by have := h.hnR2; omega) (show (0 : Int) ≤ (p.nR2) ∧ (p.nR2) < 65536 by have := h.hnR2; omega) (show 18874368 % 65536 = 0 by have := h.hnR2; omega) (show 18874368 + (p.nR2) = (18874368 + p.nR2) by have := h.hnR2; omega) (show (18874368 + p.nR2) ≤ 9223372036854775807 by have := h.hnR2; omega),
  e_or (t := 16) (show (0 : Int) ≤ 20971520 by have := h.hnQ1; omega) (show (0 : Int) ≤ (p.nQ1) ∧ (p.nQ1) < 65536 by have := h.hnQ1; omega) (show 20971520 % 65536 = 0 by have := h.hnQ1; omega) (show 20971520 + (p.nQ1) = (20971520 + p.nQ1) by have := h.hnQ1; omega) (show (20971520 + p.nQ1) ≤ 9223372036854775807 by have := h.hnQ1; omega),
  e_or (t := 16) (show (0 : Int) ≤ 20971520 by have := h.hnQ2; omega) (show (0 : Int) ≤ (p.nQ2) ∧ (p.nQ2) < 65536 by have := h.hnQ2; omega) (show 20971520 % 65536 = 0 by have := h.hnQ2; omega) (show 20971520 + (p.nQ2) = (20971520 + p.nQ2) by have := h.hnQ2; omega) (show (20971520 + p.nQ2) ≤ 9223372036854775807 by have := h.hnQ2; omega),
  e_or (t := 16) (show (0 : Int) ≤ 20971520 by have := h.hnQ3; omega) (show (0 : Int) ≤ (p.nQ3) ∧ (p.nQ3) < 65536 by have := h.hnQ3; omega) (show 20971520 % 65536 = 0 by have := h.hnQ3; omega) (show 20971520 + (p.nQ3) = (20971520 + p.nQ3) by have := h.hnQ3; omega) (show (20971520 + p.nQ3) ≤ 9223372036854775807 by have := h.hnQ3; omega),
  e_or (t := 16) (show (0 : Int) ≤ 20971520 by have := h.hnQ4; omega) (show (0 : Int) ≤ (p.nQ4) ∧ (p.nQ4) < 65536 by have := h.hnQ4; omega) (show 20971520 % 65536 = 0 by have := h.hnQ4; omega) (show 20971520 + (p.nQ4) = (20971520 + p.nQ4) by have := h.hnQ4; omega) (show (20971520 + p.nQ4) ≤ 9223372036854775807 by have := h.hnQ4; omega),
  e_or (t := 16) (show (0 : Int) ≤ 20971520 by have := h.hnQ5; omega) (show (0 : Int) ≤ (p.nQ5) ∧ (p.nQ5) < 65536 by have := h.hnQ5; omega) (show 20971520 % 65536 = 0 by have := h.hnQ5; omega) (show 20971520 + (p.nQ5) = (20971520 + p.nQ5) by have := h.hnQ5; omega) (show (20971520 + p.nQ5) ≤ 9223372036854775807 by have := h.hnQ5; omega),
  e_add (show 48 + (p.nP1) = (48 + p.nP1) by have := h.hnP1; omega) (show (0 : Int) ≤ (48 + p.nP1) by have := h.hnP1; omega) (show (48 + p.nP1) ≤ 9223372036854775807 by have := h.hnP1; omega),
  e_add (show 48 + (p.nP2 % 10) = (48 + p.nP2 % 10) by have := h.hnP2; omega) (show (0 : Int) ≤ (48 + p.nP2 % 10) by have := h.hnP2; omega) (show (48 + p.nP2 % 10) ≤ 9223372036854775807 by have := h.hnP2; omega),
  e_add (show 48 + (p.nP2 / 10) = (48 + p.nP2 / 10) by have := h.hnP2; omega) (show (0 : Int) ≤ (48 + p.nP2 / 10) by have := h.hnP2; omega) (show (48 + p.nP2 / 10) ≤ 9223372036854775807 by have := h.hnP2; omega),
  e_add (show 48 + (p.nP3 % 10) = (48 + p.nP3 % 10) by have := h.hnP3; omega) (show (0 : Int) ≤ (48 + p.nP3 % 10) by have := h.hnP3; omega) (show (48 + p.nP3 % 10) ≤ 9223372036854775807 by have := h.hnP3; omega),
  e_add (show 48 + (p.nP3 / 10 % 10) = (48 + p.nP3 / 10 % 10) by have := h.hnP3; omega) (show (0 : Int) ≤ (48 + p.nP3 / 10 % 10) by have := h.hnP3; omega) (show (48 + p.nP3 / 10 % 10) ≤ 9223372036854775807 by have := h.hnP3; omega),
  e_add (show 48 + (p.nP3 / 100) = (48 + p.nP3 / 100) by have := h.hnP3; omega) (show (0 : Int) ≤ (48 + p.nP3 / 100) by have := h.hnP3; omega) (show (48 + p.nP3 / 100) ≤ 9223372036854775807 by have := h.hnP3; omega),
  e_add (show 48 + (p.nP4 % 10) = (48 + p.nP4 % 10) by have := h.hnP4; omega) (show (0 : Int) ≤ (48 + p.nP4 % 10) by have := h.hnP4; omega) (show (48 + p.nP4 % 10) ≤ 9223372036854775807 by have := h.hnP4; omega),
  e_add (show 48 + (p.nP4 / 10 % 10) = (48 + p.nP4 / 10 % 10) by have := h.hnP4; omega) (show (0 : Int) ≤ (48 + p.nP4 / 10 % 10) by have := h.hnP4; omega) (show (48 + p.nP4 / 10 % 10) ≤ 9223372036854775807 by have := h.hnP4; omega),
  e_add (show 48 + (p.nP4 / 100 % 10) = (48 + p.nP4 / 100 % 10) by have := h.hnP4; omega) (show (0 : Int) ≤ (48 + p.nP4 / 100 % 10) by have := h.hnP4; omega) (show (48 + p.nP4 / 100 % 10) ≤ 9223372036854775807 by have := h.hnP4; omega),
  e_add (show 48 + (p.nP4 / 1000) = (48 + p.nP4 / 1000) by have := h.hnP4; omega) (show (0 : Int) ≤ (48 + p.nP4 / 1000) by have := h.hnP4; omega) (show (48 + p.nP4 / 1000) ≤ 9223372036854775807 by have := h.hnP4; omega),
  e_add (show 48 + (p.nP5 % 10) = (48 + p.nP5 % 10) by have := h.hnP5; omega) (show (0 : Int) ≤ (48 + p.nP5 % 10) by have := h.hnP5; omega) (show (48 + p.nP5 % 10) ≤ 9223372036854775807 by have := h.hnP5; omega), trivial⟩
theorem ents1 (p : Par) (h : ParOk p) : AllE (fP p) symE1 :=
  ⟨e_add (show 48 + (p.nP5 / 10 % 10) = (48 + p.nP5 / 10 % 10) by have := h.hnP5; omega) (show (0 : Int) ≤ (48 + p.nP5 / 10 % 10) by have := h.hnP5; omega) (show (48 + p.nP5 / 10 % 10) ≤ 9223372036854775807 by have := h.hnP5; omega),
  e_add (show 48 + (p.nP5 / 100 % 10) = (48 + p.nP5 / 100 % 10) by have := h.hnP5; omega) (show (0 : Int) ≤ (48 + p.nP5 / 100 % 10) by have := h.hnP5; omega) (show (48 + p.nP5 / 100 % 10) ≤ 9223372036854775807 by have := h.hnP5; omega),
  e_add (show 48 + (p.nP5 / 1000 % 10) = (48 + p.nP5 / 1000 % 10) by have := h.hnP5; omega) (show (0 : Int) ≤ (48 + p.nP5 / 1000 % 10) by have := h.hnP5; omega) (show (48 + p.nP5 / 1000 % 10) ≤ 9223372036854775807 by have := h.hnP5; omega),
  e_add (show 48 + (p.nP5 / 10000) = (48 + p.nP5 / 10000) by have := h.hnP5; omega) (show (0 : Int) ≤ (48 + p.nP5 / 10000) by have := h.hnP5; omega) (show (48 + p.nP5 / 10000) ≤ 9223372036854775807 by have := h.hnP5; omega),
  e_add (show 48 + (p.nQ1) = (48 + p.nQ1) by have := h.hnQ1; omega) (show (0 : Int) ≤ (48 + p.nQ1) by have := h.hnQ1; omega) (show (48 + p.nQ1) ≤ 9223372036854775807 by have := h.hnQ1; omega),
  e_add (show 48 + (p.nQ2 % 10) = (48 + p.nQ2 % 10) by have := h.hnQ2; omega) (show (0 : Int) ≤ (48 + p.nQ2 % 10) by have := h.hnQ2; omega) (show (48 + p.nQ2 % 10) ≤ 9223372036854775807 by have := h.hnQ2; omega),
  e_add (show 48 + (p.nQ2 / 10) = (48 + p.nQ2 / 10) by have := h.hnQ2; omega) (show (0 : Int) ≤ (48 + p.nQ2 / 10) by have := h.hnQ2; omega) (show (48 + p.nQ2 / 10) ≤ 9223372036854775807 by have := h.hnQ2; omega),
  e_add (show 48 + (p.nQ3 % 10) = (48 + p.nQ3 % 10) by have := h.hnQ3; omega) (show (0 : Int) ≤ (48 + p.nQ3 % 10) by have := h.hnQ3; omega) (show (48 + p.nQ3 % 10) ≤ 9223372036854775807 by have := h.hnQ3; omega),
  e_add (show 48 + (p.nQ3 / 10 % 10) = (48 + p.nQ3 / 10 % 10) by have := h.hnQ3; omega) (show (0 : Int) ≤ (48 + p.nQ3 / 10 % 10) by have := h.hnQ3; omega) (show (48 + p.nQ3 / 10 % 10) ≤ 9223372036854775807 by have := h.hnQ3; omega),
  e_add (show 48 + (p.nQ3 / 100) = (48 + p.nQ3 / 100) by have := h.hnQ3; omega) (show (0 : Int) ≤ (48 + p.nQ3 / 100) by have := h.hnQ3; omega) (show (48 + p.nQ3 / 100) ≤ 9223372036854775807 by have := h.hnQ3; omega),
  e_add (show 48 + (p.nQ4 % 10) = (48 + p.nQ4 % 10) by have := h.hnQ4; omega) (show (0 : Int) ≤ (48 + p.nQ4 % 10) by have := h.hnQ4; omega) (show (48 + p.nQ4 % 10) ≤ 9223372036854775807 by have := h.hnQ4; omega),
  e_add (show 48 + (p.nQ4 / 10 % 10) = (48 + p.nQ4 / 10 % 10) by have := h.hnQ4; omega) (show (0 : Int) ≤ (48 + p.nQ4 / 10 % 10) by have := h.hnQ4; omega) (show (48 + p.nQ4 / 10 % 10) ≤ 9223372036854775807 by have := h.hnQ4; omega),
  e_add (show 48 + (p.nQ4 / 100 % 10) = (48 + p.nQ4 / 100 % 10) by have := h.hnQ4; omega) (show (0 : Int) ≤ (48 + p.nQ4 / 100 % 10) by have := h.hnQ4; omega) (show (48 + p.nQ4 / 100 % 10) ≤ 9223372036854775807 by have := h.hnQ4; omega),
  e_add (show 48 + (p.nQ4 / 1000) = (48 + p.nQ4 / 1000) by have := h.hnQ4; omega) (show (0 : Int) ≤ (48 + p.nQ4 / 1000) by have := h.hnQ4; omega) (show (48 + p.nQ4 / 1000) ≤ 9223372036854775807 by have := h.hnQ4; omega),
  e_add (show 48 + (p.nQ5 % 10) = (48 + p.nQ5 % 10) by have := h.hnQ5; omega) (show (0 : Int) ≤ (48 + p.nQ5 % 10) by have := h.hnQ5; omega) (show (48 + p.nQ5 % 10) ≤ 9223372036854775807 by have := h.hnQ5; omega),
  e_add (show 48 + (p.nQ5 / 10 % 10) = (48 + p.nQ5 / 10 % 10) by have := h.hnQ5; omega) (show (0 : Int) ≤ (48 + p.nQ5 / 10 % 10) by have := h.hnQ5; omega) (show (48 + p.nQ5 / 10 % 10) ≤ 9223372036854775807 by have := h.hnQ5; omega),
  e_add (show 48 + (p.nQ5 / 100 % 10) = (48 + p.nQ5 / 100 % 10) by have := h.hnQ5; omega) (show (0 : Int) ≤ (48 + p.nQ5 / 100 % 10) by have := h.hnQ5; omega) (show (48 + p.nQ5 / 100 % 10) ≤ 9223372036854775807 by have := h.hnQ5; omega),
  e_add (show 48 + (p.nQ5 / 1000 % 10) = (48 + p.nQ5 / 1000 % 10) by have := h.hnQ5; omega) (show (0 : Int) ≤ (48 + p.nQ5 / 1000 % 10) by have := h.hnQ5; omega) (show (48 + p.nQ5 / 1000 % 10) ≤ 9223372036854775807 by have := h.hnQ5; omega),
  e_add (show 48 + (p.nQ5 / 10000) = (48 + p.nQ5 / 10000) by have := h.hnQ5; omega) (show (0 : Int) ≤ (48 + p.nQ5 / 10000) by have := h.hnQ5; omega) (show (48 + p.nQ5 / 10000) ≤ 9223372036854775807 by have := h.hnQ5; omega),
  e_add (show 48 + (p.nR1) = (48 + p.nR1) by have := h.hnR1; omega) (show (0 : Int) ≤ (48 + p.nR1) by have := h.hnR1; omega) (show (48 + p.nR1) ≤ 9223372036854775807 by have := h.hnR1; omega),
  e_add (show 48 + (p.nR2 % 10) = (48 + p.nR2 % 10) by have := h.hnR2; omega) (show (0 : Int) ≤ (48 + p.nR2 % 10) by have := h.hnR2; omega) (show (48 + p.nR2 % 10) ≤ 9223372036854775807 by have := h.hnR2; omega),
  e_add (show 48 + (p.nR2 / 10) = (48 + p.nR2 / 10) by have := h.hnR2; omega) (show (0 : Int) ≤ (48 + p.nR2 / 10) by have := h.hnR2; omega) (show (48 + p.nR2 / 10) ≤ 9223372036854775807 by have := h.hnR2; omega),
  e_or (t := 8) (show (0 : Int) ≤ 69632 by have := h.hL; omega) (show (0 : Int) ≤ ((16 * p.L + 1) / 256) ∧ ((16 * p.L + 1) / 256) < 256 by have := h.hL; omega) (show 69632 % 256 = 0 by have := h.hL; omega) (show 69632 + ((16 * p.L + 1) / 256) = (69632 + (16 * p.L + 1) / 256) by have := h.hL; omega) (show (69632 + (16 * p.L + 1) / 256) ≤ 4294967295 by have := h.hL; omega),
  e_or (t := 8) (show (0 : Int) ≤ 73728 by have := h.hW; omega) (show (0 : Int) ≤ (p.W / 256) ∧ (p.W / 256) < 256 by have := h.hW; omega) (show 73728 % 256 = 0 by have := h.hW; omega) (show 73728 + (p.W / 256) = (73728 + p.W / 256) by have := h.hW; omega) (show (73728 + p.W / 256) ≤ 4294967295 by have := h.hW; omega),
  e_or (t := 8) (show (0 : Int) ≤ 81920 by have := h.hW; omega) (show (0 : Int) ≤ (p.W / 256) ∧ (p.W / 256) < 256 by have := h.hW; omega) (show 81920 % 256 = 0 by have := h.hW; omega) (show 81920 + (p.W / 256) = (81920 + p.W / 256) by have := h.hW; omega) (show (81920 + p.W / 256) ≤ 4294967295 by have := h.hW; omega),
  e_shr 0 (by decide) (show (17825792 + (16 * p.L + 1)) / 1 = (17825792 + (16 * p.L + 1)) by have := h.hL; omega),
  e_shr 16 (by decide) (show (17825792 + (16 * p.L + 1)) / 65536 = 272 by have := h.hL; omega),
  e_shr 20 (by decide) (show (17825792 + (16 * p.L + 1)) / 1048576 = 17 by have := h.hL; omega),
  e_shr 24 (by decide) (show (17825792 + (16 * p.L + 1)) / 16777216 = 1 by have := h.hL; omega),
  e_and 16 (show (0 : Int) ≤ (17825792 + (16 * p.L + 1)) ∧ (17825792 + (16 * p.L + 1)) ≤ 4294967295 by have := h.hL; omega) (show (65535 : Int) = 2 ^ 16 - 1 by decide) (show (65535 : Int) ≤ 4294967295 by decide) (show (17825792 + (16 * p.L + 1)) % 65536 = (16 * p.L + 1) by have := h.hL; omega),
  e_shr 8 (by decide) (show (17825792 + (16 * p.L + 1)) / 256 = (69632 + (16 * p.L + 1) / 256) by have := h.hL; omega),
  e_shl 8 (by decide) (show (69632 + (16 * p.L + 1) / 256) * 256 = (17825792 + 256 * ((16 * p.L + 1) / 256)) by have := h.hL; omega) (show (0 : Int) ≤ (17825792 + 256 * ((16 * p.L + 1) / 256)) by have := h.hL; omega) (show (17825792 + 256 * ((16 * p.L + 1) / 256)) ≤ 4294967295 by have := h.hL; omega),
  e_or (t := 8) (show (0 : Int) ≤ (17825792 + 256 * ((16 * p.L + 1) / 256)) by have := h.hL; omega) (show (0 : Int) ≤ ((16 * p.L + 1) % 256) ∧ ((16 * p.L + 1) % 256) < 256 by have := h.hL; omega) (show (17825792 + 256 * ((16 * p.L + 1) / 256)) % 256 = 0 by have := h.hL; omega) (show (17825792 + 256 * ((16 * p.L + 1) / 256)) + ((16 * p.L + 1) % 256) = (17825792 + (16 * p.L + 1)) by have := h.hL; omega) (show (17825792 + (16 * p.L + 1)) ≤ 4294967295 by have := h.hL; omega),
  e_shr 0 (by decide) (show (18874368 + p.W) / 1 = (18874368 + p.W) by have := h.hW; omega),
  e_shr 16 (by decide) (show (18874368 + p.W) / 65536 = 288 by have := h.hW; omega),
  e_shr 20 (by decide) (show (18874368 + p.W) / 1048576 = 18 by have := h.hW; omega),
  e_shr 24 (by decide) (show (18874368 + p.W) / 16777216 = 1 by have := h.hW; omega),
  e_and 16 (show (0 : Int) ≤ (18874368 + p.W) ∧ (18874368 + p.W) ≤ 4294967295 by have := h.hW; omega) (show (65535 : Int) = 2 ^ 16 - 1 by decide) (show (65535 : Int) ≤ 4294967295 by decide) (show (18874368 + p.W) % 65536 = (p.W) by have := h.hW; omega),
  e_shr 8 (by decide) (show (18874368 + p.W) / 256 = (73728 + p.W / 256) by have := h.hW; omega),
  e_shl 8 (by decide) (show (73728 + p.W / 256) * 256 = (18874368 + 256 * (p.W / 256)) by have := h.hW; omega) (show (0 : Int) ≤ (18874368 + 256 * (p.W / 256)) by have := h.hW; omega) (show (18874368 + 256 * (p.W / 256)) ≤ 4294967295 by have := h.hW; omega),
  e_or (t := 8) (show (0 : Int) ≤ (18874368 + 256 * (p.W / 256)) by have := h.hW; omega) (show (0 : Int) ≤ (p.W % 256) ∧ (p.W % 256) < 256 by have := h.hW; omega) (show (18874368 + 256 * (p.W / 256)) % 256 = 0 by have := h.hW; omega) (show (18874368 + 256 * (p.W / 256)) + (p.W % 256) = (18874368 + p.W) by have := h.hW; omega) (show (18874368 + p.W) ≤ 4294967295 by have := h.hW; omega),
  e_shr 0 (by decide) (show (20971520 + p.W) / 1 = (20971520 + p.W) by have := h.hW; omega),
  e_shr 16 (by decide) (show (20971520 + p.W) / 65536 = 320 by have := h.hW; omega), trivial⟩
theorem ents2 (p : Par) (h : ParOk p) : AllE (fP p) symE2 :=
  ⟨e_shr 20 (by decide) (show (20971520 + p.W) / 1048576 = 20 by have := h.hW; omega),
  e_shr 24 (by decide) (show (20971520 + p.W) / 16777216 = 1 by have := h.hW; omega),
  e_and 16 (show (0 : Int) ≤ (20971520 + p.W) ∧ (20971520 + p.W) ≤ 4294967295 by have := h.hW; omega) (show (65535 : Int) = 2 ^ 16 - 1 by decide) (show (65535 : Int) ≤ 4294967295 by decide) (show (20971520 + p.W) % 65536 = (p.W) by have := h.hW; omega),
  e_shr 8 (by decide) (show (20971520 + p.W) / 256 = (81920 + p.W / 256) by have := h.hW; omega),
  e_shl 8 (by decide) (show (81920 + p.W / 256) * 256 = (20971520 + 256 * (p.W / 256)) by have := h.hW; omega) (show (0 : Int) ≤ (20971520 + 256 * (p.W / 256)) by have := h.hW; omega) (show (20971520 + 256 * (p.W / 256)) ≤ 4294967295 by have := h.hW; omega),
  e_or (t := 8) (show (0 : Int) ≤ (20971520 + 256 * (p.W / 256)) by have := h.hW; omega) (show (0 : Int) ≤ (p.W % 256) ∧ (p.W % 256) < 256 by have := h.hW; omega) (show (20971520 + 256 * (p.W / 256)) % 256 = 0 by have := h.hW; omega) (show (20971520 + 256 * (p.W / 256)) + (p.W % 256) = (20971520 + p.W) by have := h.hW; omega) (show (20971520 + p.W) ≤ 4294967295 by have := h.hW; omega),
  e_and 4 (show (0 : Int) ≤ (16 * p.L + 1) ∧ (16 * p.L + 1) ≤ 4294967295 by have := h.hL; omega) (show (15 : Int) = 2 ^ 4 - 1 by decide) (show (15 : Int) ≤ 4294967295 by decide) (show (16 * p.L + 1) % 16 = 1 by have := h.hL; omega),
  e_shr 4 (by decide) (show (16 * p.L + 1) / 16 = (p.L) by have := h.hL; omega),
  e_and 20 (show (0 : Int) ≤ (p.L) ∧ (p.L) ≤ 4294967295 by have := h.hL; omega) (show (1048575 : Int) = 2 ^ 20 - 1 by decide) (show (1048575 : Int) ≤ 4294967295 by decide) (show (p.L) % 1048576 = (p.L) by have := h.hL; omega),
  e_shl 4 (by decide) (show (p.L) * 16 = (16 * p.L) by have := h.hL; omega) (show (0 : Int) ≤ (16 * p.L) by have := h.hL; omega) (show (16 * p.L) ≤ 9223372036854775807 by have := h.hL; omega),
  e_add (show (16 * p.L) + 1 = (16 * p.L + 1) by have := h.hL; omega) (show (0 : Int) ≤ (16 * p.L + 1) by have := h.hL; omega) (show (16 * p.L + 1) ≤ 9223372036854775807 by have := h.hL; omega),
  e_or (t := 1) (show (0 : Int) ≤ (16 * p.L) by have := h.hL; omega) (show (0 : Int) ≤ 1 ∧ 1 < 2 by have := h.hL; omega) (show (16 * p.L) % 2 = 0 by have := h.hL; omega) (show (16 * p.L) + 1 = (16 * p.L + 1) by have := h.hL; omega) (show (16 * p.L + 1) ≤ 9223372036854775807 by have := h.hL; omega),
  e_sub (show (48 + p.nP1) - 48 = (p.nP1) by have := h.hnP1; omega) (show (0 : Int) ≤ (p.nP1) by have := h.hnP1; omega) (show (p.nP1) ≤ 255 by have := h.hnP1; omega),
  e_sub (show (48 + p.nP2 % 10) - 48 = (p.nP2 % 10) by have := h.hnP2; omega) (show (0 : Int) ≤ (p.nP2 % 10) by have := h.hnP2; omega) (show (p.nP2 % 10) ≤ 255 by have := h.hnP2; omega),
  e_sub (show (48 + p.nP2 / 10) - 48 = (p.nP2 / 10) by have := h.hnP2; omega) (show (0 : Int) ≤ (p.nP2 / 10) by have := h.hnP2; omega) (show (p.nP2 / 10) ≤ 255 by have := h.hnP2; omega),
  e_add (show (10 * (p.nP2 / 10)) + (p.nP2 % 10) = (p.nP2) by have := h.hnP2; omega) (show (0 : Int) ≤ (p.nP2) by have := h.hnP2; omega) (show (p.nP2) ≤ 18446744073709551615 by have := h.hnP2; omega),
  e_quo (show (0 : Int) ≤ (p.nP2) by have := h.hnP2; omega) (show (10 : Int) ≠ 0 by decide) (show (p.nP2) / 10 = (p.nP2 / 10) by have := h.hnP2; omega) (show (0 : Int) ≤ (p.nP2 / 10) by have := h.hnP2; omega) (show (p.nP2 / 10) ≤ 9223372036854775807 by have := h.hnP2; omega),
  e_rem (show (0 : Int) ≤ (p.nP2) by have := h.hnP2; omega) (show (10 : Int) ≠ 0 by decide) (show (p.nP2) % 10 = (p.nP2 % 10) by have := h.hnP2; omega),
  e_mul (show (p.nP2 / 10) * 10 = (10 * (p.nP2 / 10)) by have := h.hnP2; omega) (show (0 : Int) ≤ (10 * (p.nP2 / 10)) by have := h.hnP2; omega) (show (10 * (p.nP2 / 10)) ≤ 18446744073709551615 by have := h.hnP2; omega),
  e_sub (show (48 + p.nP3 % 10) - 48 = (p.nP3 % 10) by have := h.hnP3; omega) (show (0 : Int) ≤ (p.nP3 % 10) by have := h.hnP3; omega) (show (p.nP3 % 10) ≤ 255 by have := h.hnP3; omega),
  e_sub (show (48 + p.nP3 / 10 % 10) - 48 = (p.nP3 / 10 % 10) by have := h.hnP3; omega) (show (0 : Int) ≤ (p.nP3 / 10 % 10) by have := h.hnP3; omega) (show (p.nP3 / 10 % 10) ≤ 255 by have := h.hnP3; omega),
  e_sub (show (48 + p.nP3 / 100) - 48 = (p.nP3 / 100) by have := h.hnP3; omega) (show (0 : Int) ≤ (p.nP3 / 100) by have := h.hnP3; omega) (show (p.nP3 / 100) ≤ 255 by have := h.hnP3; omega),
  e_add (show (10 * (p.nP3 / 10)) + (p.nP3 % 10) = (p.nP3) by have := h.hnP3; omega) (show (0 : Int) ≤ (p.nP3) by have := h.hnP3; omega) (show (p.nP3) ≤ 18446744073709551615 by have := h.hnP3; omega),
  e_add (show (10 * (p.nP3 / 100)) + (p.nP3 / 10 % 10) = (p.nP3 / 10) by have := h.hnP3; omega) (show (0 : Int) ≤ (p.nP3 / 10) by have := h.hnP3; omega) (show (p.nP3 / 10) ≤ 18446744073709551615 by have := h.hnP3; omega),
  e_quo (show (0 : Int) ≤ (p.nP3) by have := h.hnP3; omega) (show (10 : Int) ≠ 0 by decide) (show (p.nP3) / 10 = (p.nP3 / 10) by have := h.hnP3; omega) (show (0 : Int) ≤ (p.nP3 / 10) by have := h.hnP3; omega) (show (p.nP3 / 10) ≤ 9223372036854775807 by have := h.hnP3; omega),
  e_rem (show (0 : Int) ≤ (p.nP3) by have := h.hnP3; omega) (show (10 : Int) ≠ 0 by decide) (show (p.nP3) % 10 = (p.nP3 % 10) by have := h.hnP3; omega),
  e_mul (show (p.nP3 / 10) * 10 = (10 * (p.nP3 / 10)) by have := h.hnP3; omega) (show (0 : Int) ≤ (10 * (p.nP3 / 10)) by have := h.hnP3; omega) (show (10 * (p.nP3 / 10)) ≤ 18446744073709551615 by have := h.hnP3; omega),
  e_quo (show (0 : Int) ≤ (p.nP3 / 10) by have := h.hnP3; omega) (show (10 : Int) ≠ 0 by decide) (show (p.nP3 / 10) / 10 = (p.nP3 / 100) by have := h.hnP3; omega) (show (0 : Int) ≤ (p.nP3 / 100) by have := h.hnP3; omega) (show (p.nP3 / 100) ≤ 9223372036854775807 by have := h.hnP3; omega),
  e_rem (show (0 : Int) ≤ (p.nP3 / 10) by have := h.hnP3; omega) (show (10 : Int) ≠ 0 by decide) (show (p.nP3 / 10) % 10 = (p.nP3 / 10 % 10) by have := h.hnP3; omega),
  e_mul (show (p.nP3 / 100) * 10 = (10 * (p.nP3 / 100)) by have := h.hnP3; omega) (show (0 : Int) ≤ (10 * (p.nP3 / 100)) by have := h.hnP3; omega) (show (10 * (p.nP3 / 100)) ≤ 18446744073709551615 by have := h.hnP3; omega),
  e_sub (show (48 + p.nP4 % 10) - 48 = (p.nP4 % 10) by have := h.hnP4; omega) (show (0 : Int) ≤ (p.nP4 % 10) by have := h.hnP4; omega) (show (p.nP4 % 10) ≤ 255 by have := h.hnP4; omega),
  e_sub (show (48 + p.nP4 / 10 % 10) - 48 = (p.nP4 / 10 % 10) by have := h.hnP4; omega) (show (0 : Int) ≤ (p.nP4 / 10 % 10) by have := h.hnP4; omega) (show (p.nP4 / 10 % 10) ≤ 255 by have := h.hnP4; omega),
  e_sub (show (48 + p.nP4 / 100 % 10) - 48 = (p.nP4 / 100 % 10) by have := h.hnP4; omega) (show (0 : Int) ≤ (p.nP4 / 100 % 10) by have := h.hnP4; omega) (show (p.nP4 / 100 % 10) ≤ 255 by have := h.hnP4; omega),
  e_sub (show (48 + p.nP4 / 1000) - 48 = (p.nP4 / 1000) by have := h.hnP4; omega) (show (0 : Int) ≤ (p.nP4 / 1000) by have := h.hnP4; omega) (show (p.nP4 / 1000) ≤ 255 by have := h.hnP4; omega),
  e_add (show (10 * (p.nP4 / 10)) + (p.nP4 % 10) = (p.nP4) by have := h.hnP4; omega) (show (0 : Int) ≤ (p.nP4) by have := h.hnP4; omega) (show (p.nP4) ≤ 18446744073709551615 by have := h.hnP4; omega),
  e_add (show (10 * (p.nP4 / 100)) + (p.nP4 / 10 % 10) = (p.nP4 / 10) by have := h.hnP4; omega) (show (0 : Int) ≤ (p.nP4 / 10) by have := h.hnP4; omega) (show (p.nP4 / 10) ≤ 18446744073709551615 by have := h.hnP4; omega),
  e_add (show (10 * (p.nP4 / 1000)) + (p.nP4 / 100 % 10) = (p.nP4 / 100) by have := h.hnP4; omega) (show (0 : Int) ≤ (p.nP4 / 100) by have := h.hnP4; omega) (show (p.nP4 / 100) ≤ 18446744073709551615 by have := h.hnP4; omega),
  e_quo (show (0 : Int) ≤ (p.nP4) by have := h.hnP4; omega) (show (10 : Int) ≠ 0 by decide) (show (p.nP4) / 10 = (p.nP4 / 10) by have := h.hnP4; omega) (show (0 : Int) ≤ (p.nP4 / 10) by have := h.hnP4; omega) (show (p.nP4 / 10) ≤ 9223372036854775807 by have := h.hnP4; omega),
  e_rem (show (0 : Int) ≤ (p.nP4) by have := h.hnP4; omega) (show (10 : Int) ≠ 0 by decide) (show (p.nP4) % 10 = (p.nP4 % 10) by have := h.hnP4; omega),
  e_mul (show (p.nP4 / 10) * 10 = (10 * (p.nP4 / 10)) by have := h.hnP4; omega) (show (0 : Int) ≤ (10 * (p.nP4 / 10)) by have := h.hnP4; omega) (show (10 * (p.nP4 / 10)) ≤ 18446744073709551615 by have := h.hnP4; omega),
  e_quo (show (0 : Int) ≤ (p.nP4 / 10) by have := h.hnP4; omega) (show (10 : Int) ≠ 0 by decide) (show (p.nP4 / 10) / 10 = (p.nP4 / 100) by have := h.hnP4; omega) (show (0 : Int) ≤ (p.nP4 / 100) by have := h.hnP4; omega) (show (p.nP4 / 100) ≤ 9223372036854775807 by have := h.hnP4; omega),
  e_rem (show (0 : Int) ≤ (p.nP4 / 10) by have := h.hnP4; omega) (show (10 : Int) ≠ 0 by decide) (show (p.nP4 / 10) % 10 = (p.nP4 / 10 % 10) by have := h.hnP4; omega),
  e_mul (show (p.nP4 / 100) * 10 = (10 * (p.nP4 / 100)) by have := h.hnP4; omega) (show (0 : Int) ≤ (10 * (p.nP4 / 100)) by have := h.hnP4; omega) (show (10 * (p.nP4 / 100)) ≤ 18446744073709551615 by have := h.hnP4; omega), trivial⟩
theorem ents3 (p : Par) (h : ParOk p) : AllE (fP p) symE3 :=
  ⟨e_quo (show (0 : Int) ≤ (p.nP4 / 100) by have := h.hnP4; omega) (show (10 : Int) ≠ 0 by decide) (show (p.nP4 / 100) / 10 = (p.nP4 / 1000) by have := h.hnP4; omega) (show (0 : Int) ≤ (p.nP4 / 1000) by have := h.hnP4; omega) (show (p.nP4 / 1000) ≤ 9223372036854775807 by have := h.hnP4; omega),
  e_rem (show (0 : Int) ≤ (p.nP4 / 100) by have := h.hnP4; omega) (show (10 : Int) ≠ 0 by decide) (show (p.nP4 / 100) % 10 = (p.nP4 / 100 % 10) by have := h.hnP4; omega),
  e_mul (show (p.nP4 / 1000) * 10 = (10 * (p.nP4 / 1000)) by have := h.hnP4; omega) (show (0 : Int) ≤ (10 * (p.nP4 / 1000)) by have := h.hnP4; omega) (show (10 * (p.nP4 / 1000)) ≤ 18446744073709551615 by have := h.hnP4; omega),
  e_sub (show (48 + p.nP5 % 10) - 48 = (p.nP5 % 10) by have := h.hnP5; omega) (show (0 : Int) ≤ (p.nP5 % 10) by have := h.hnP5; omega) (show (p.nP5 % 10) ≤ 255 by have := h.hnP5; omega),
  e_sub (show (48 + p.nP5 / 10 % 10) - 48 = (p.nP5 / 10 % 10) by have := h.hnP5; omega) (show (0 : Int) ≤ (p.nP5 / 10 % 10) by have := h.hnP5; omega) (show (p.nP5 / 10 % 10) ≤ 255 by have := h.hnP5; omega),
  e_sub (show (48 + p.nP5 / 100 % 10) - 48 = (p.nP5 / 100 % 10) by have := h.hnP5; omega) (show (0 : Int) ≤ (p.nP5 / 100 % 10) by have := h.hnP5; omega) (show (p.nP5 / 100 % 10) ≤ 255 by have := h.hnP5; omega),
  e_sub (show (48 + p.nP5 / 1000 % 10) - 48 = (p.nP5 / 1000 % 10) by have := h.hnP5; omega) (show (0 : Int) ≤ (p.nP5 / 1000 % 10) by have := h.hnP5; omega) (show (p.nP5 / 1000 % 10) ≤ 255 by have := h.hnP5; omega),
  e_sub (show (48 + p.nP5 / 10000) - 48 = (p.nP5 / 10000) by have := h.hnP5; omega) (show (0 : Int) ≤ (p.nP5 / 10000) by have := h.hnP5; omega) (show (p.nP5 / 10000) ≤ 255 by have := h.hnP5; omega),
  e_add (show (10 * (p.nP5 / 10)) + (p.nP5 % 10) = (p.nP5) by have := h.hnP5; omega) (show (0 : Int) ≤ (p.nP5) by have := h.hnP5; omega) (show (p.nP5) ≤ 18446744073709551615 by have := h.hnP5; omega),
  e_add (show (10 * (p.nP5 / 100)) + (p.nP5 / 10 % 10) = (p.nP5 / 10) by have := h.hnP5; omega) (show (0 : Int) ≤ (p.nP5 / 10) by have := h.hnP5; omega) (show (p.nP5 / 10) ≤ 18446744073709551615 by have := h.hnP5; omega),
  e_add (show (10 * (p.nP5 / 1000)) + (p.nP5 / 100 % 10) = (p.nP5 / 100) by have := h.hnP5; omega) (show (0 : Int) ≤ (p.nP5 / 100) by have := h.hnP5; omega) (show (p.nP5 / 100) ≤ 18446744073709551615 by have := h.hnP5; omega),
  e_add (show (10 * (p.nP5 / 10000)) + (p.nP5 / 1000 % 10) = (p.nP5 / 1000) by have := h.hnP5; omega) (show (0 : Int) ≤ (p.nP5 / 1000) by have := h.hnP5; omega) (show (p.nP5 / 1000) ≤ 18446744073709551615 by have := h.hnP5; omega),
  e_quo (show (0 : Int) ≤ (p.nP5) by have := h.hnP5; omega) (show (10 : Int) ≠ 0 by decide) (show (p.nP5) / 10 = (p.nP5 / 10) by have := h.hnP5; omega) (show (0 : Int) ≤ (p.nP5 / 10) by have := h.hnP5; omega) (show (p.nP5 / 10) ≤ 9223372036854775807 by have := h.hnP5; omega),
  e_rem (show (0 : Int) ≤ (p.nP5) by have := h.hnP5; omega) (show (10 : Int) ≠ 0 by decide) (show (p.nP5) % 10 = (p.nP5 % 10) by have := h.hnP5; omega),
  e_mul (show (p.nP5 / 10) * 10 = (10 * (p.nP5 / 10)) by have := h.hnP5; omega) (show (0 : Int) ≤ (10 * (p.nP5 / 10)) by have := h.hnP5; omega) (show (10 * (p.nP5 / 10)) ≤ 18446744073709551615 by have := h.hnP5; omega),
  e_quo (show (0 : Int) ≤ (p.nP5 / 10) by have := h.hnP5; omega) (show (10 : Int) ≠ 0 by decide) (show (p.nP5 / 10) / 10 = (p.nP5 / 100) by have := h.hnP5; omega) (show (0 : Int) ≤ (p.nP5 / 100) by have := h.hnP5; omega) (show (p.nP5 / 100) ≤ 9223372036854775807 by have := h.hnP5; omega),
  e_rem (show (0 : Int) ≤ (p.nP5 / 10) by have := h.hnP5; omega) (show (10 : Int) ≠ 0 by decide) (show (p.nP5 / 10) % 10 = (p.nP5 / 10 % 10) by have := h.hnP5; omega),
  e_mul (show (p.nP5 / 100) * 10 = (10 * (p.nP5 / 100)) by have := h.hnP5; omega) (show (0 : Int) ≤ (10 * (p.nP5 / 100)) by have := h.hnP5; omega) (show (10 * (p.nP5 / 100)) ≤ 18446744073709551615 by have := h.hnP5; omega),
  e_quo (show (0 : Int) ≤ (p.nP5 / 100) by have := h.hnP5; omega) (show (10 : Int) ≠ 0 by decide) (show (p.nP5 / 100) / 10 = (p.nP5 / 1000) by have := h.hnP5; omega) (show (0 : Int) ≤ (p.nP5 / 1000) by have := h.hnP5; omega) (show (p.nP5 / 1000) ≤ 9223372036854775807 by have := h.hnP5; omega),
  e_rem (show (0 : Int) ≤ (p.nP5 / 100) by have := h.hnP5; omega) (show (10 : Int) ≠ 0 by decide) (show (p.nP5 / 100) % 10 = (p.nP5 / 100 % 10) by have := h.hnP5; omega),
  e_mul (show (p.nP5 / 1000) * 10 = (10 * (p.nP5 / 1000)) by have := h.hnP5; omega) (show (0 : Int) ≤ (10 * (p.nP5 / 1000)) by have := h.hnP5; omega) (show (10 * (p.nP5 / 1000)) ≤ 18446744073709551615 by have := h.hnP5; omega),
  e_quo (show (0 : Int) ≤ (p.nP5 / 1000) by have := h.hnP5; omega) (show (10 : Int) ≠ 0 by decide) (show (p.nP5 / 1000) / 10 = (p.nP5 / 10000) by have := h.hnP5; omega) (show (0 : Int) ≤ (p.nP5 / 10000) by have := h.hnP5; omega) (show (p.nP5 / 10000) ≤ 9223372036854775807 by have := h.hnP5; omega),
  e_rem (show (0 : Int) ≤ (p.nP5 / 1000) by have := h.hnP5; omega) (show (10 : Int) ≠ 0 by decide) (show (p.nP5 / 1000) % 10 = (p.nP5 / 1000 % 10) by have := h.hnP5; omega),
  e_mul (show (p.nP5 / 10000) * 10 = (10 * (p.nP5 / 10000)) by have := h.hnP5; omega) (show (0 : Int) ≤ (10 * (p.nP5 / 10000)) by have := h.hnP5; omega) (show (10 * (p.nP5 / 10000)) ≤ 18446744073709551615 by have := h.hnP5; omega),
  e_sub (show (48 + p.nQ1) - 48 = (p.nQ1) by have := h.hnQ1; omega) (show (0 : Int) ≤ (p.nQ1) by have := h.hnQ1; omega) (show (p.nQ1) ≤ 255 by have := h.hnQ1; omega),
  e_sub (show (48 + p.nQ2 % 10) - 48 = (p.nQ2 % 10) by have := h.hnQ2; omega) (show (0 : Int) ≤ (p.nQ2 % 10) by have := h.hnQ2; omega) (show (p.nQ2 % 10) ≤ 255 by have := h.hnQ2; omega),
  e_sub (show (48 + p.nQ2 / 10) - 48 = (p.nQ2 / 10) by have := h.hnQ2; omega) (show (0 : Int) ≤ (p.nQ2 / 10) by have := h.hnQ2; omega) (show (p.nQ2 / 10) ≤ 255 by have := h.hnQ2; omega),
  e_add (show (10 * (p.nQ2 / 10)) + (p.nQ2 % 10) = (p.nQ2) by have := h.hnQ2; omega) (show (0 : Int) ≤ (p.nQ2) by have := h.hnQ2; omega) (show (p.nQ2) ≤ 18446744073709551615 by have := h.hnQ2; omega),
  e_quo (show (0 : Int) ≤ (p.nQ2) by have := h.hnQ2; omega) (show (10 : Int) ≠ 0 by decide) (show (p.nQ2) / 10 = (p.nQ2 / 10) by have := h.hnQ2; omega) (show (0 : Int) ≤ (p.nQ2 / 10) by have := h.hnQ2; omega) (show (p.nQ2 / 10) ≤ 9223372036854775807 by have := h.hnQ2; omega),
  e_rem (show (0 : Int) ≤ (p.nQ2) by have := h.hnQ2; omega) (show (10 : Int) ≠ 0 by decide) (show (p.nQ2) % 10 = (p.nQ2 % 10) by have := h.hnQ2; omega),
  e_mul (show (p.nQ2 / 10) * 10 = (10 * (p.nQ2 / 10)) by have := h.hnQ2; omega) (show (0 : Int) ≤ (10 * (p.nQ2 / 10)) by have := h.hnQ2; omega) (show (10 * (p.nQ2 / 10)) ≤ 18446744073709551615 by have := h.hnQ2; omega),
  e_sub (show (48 + p.nQ3 % 10) - 48 = (p.nQ3 % 10) by have := h.hnQ3; omega) (show (0 : Int) ≤ (p.nQ3 % 10) by have := h.hnQ3; omega) (show (p.nQ3 % 10) ≤ 255 by have := h.hnQ3; omega),
  e_sub (show (48 + p.nQ3 / 10 % 10) - 48 = (p.nQ3 / 10 % 10) by have := h.hnQ3; omega) (show (0 : Int) ≤ (p.nQ3 / 10 % 10) by have := h.hnQ3; omega) (show (p.nQ3 / 10 % 10) ≤ 255 by have := h.hnQ3; omega),
  e_sub (show (48 + p.nQ3 / 100) - 48 = (p.nQ3 / 100) by have := h.hnQ3; omega) (show (0 : Int) ≤ (p.nQ3 / 100) by have := h.hnQ3; omega) (show (p.nQ3 / 100) ≤ 255 by have := h.hnQ3; omega),
  e_add (show (10 * (p.nQ3 / 10)) + (p.nQ3 % 10) = (p.nQ3) by have := h.hnQ3; omega) (show (0 : Int) ≤ (p.nQ3) by have := h.hnQ3; omega) (show (p.nQ3) ≤ 18446744073709551615 by have := h.hnQ3; omega),
  e_add (show (10 * (p.nQ3 / 100)) + (p.nQ3 / 10 % 10) = (p.nQ3 / 10) by have := h.hnQ3; omega) (show (0 : Int) ≤ (p.nQ3 / 10) by have := h.hnQ3; omega) (show (p.nQ3 / 10) ≤ 18446744073709551615 by have := h.hnQ3; omega),
  e_quo (show (0 : Int) ≤ (p.nQ3) by have := h.hnQ3; omega) (show (10 : Int) ≠ 0 by decide) (show (p.nQ3) / 10 = (p.nQ3 / 10) by have := h.hnQ3; omega) (show (0 : Int) ≤ (p.nQ3 / 10) by have := h.hnQ3; omega) (show (p.nQ3 / 10) ≤ 9223372036854775807 by have := h.hnQ3; omega),
  e_rem (show (0 : Int) ≤ (p.nQ3) by have := h.hnQ3; omega) (show (10 : Int) ≠ 0 by decide) (show (p.nQ3) % 10 = (p.nQ3 % 10) by have := h.hnQ3; omega),
  e_mul (show (p.nQ3 / 10) * 10 = (10 * (p.nQ3 / 10)) by have := h.hnQ3; omega) (show (0 : Int) ≤ (10 * (p.nQ3 / 10)) by have := h.hnQ3; omega) (show (10 * (p.nQ3 / 10)) ≤ 18446744073709551615 by have := h.hnQ3; omega),
  e_quo (show (0 : Int) ≤ (p.nQ3 / 10) by have := h.hnQ3; omega) (show (10 : Int) ≠ 0 by decide) (show (p.nQ3 / 10) / 10 = (p.nQ3 / 100) by have := h.hnQ3; omega) (show (0 : Int) ≤ (p.nQ3 / 100) by have := h.hnQ3; omega) (show (p.nQ3 / 100) ≤ 9223372036854775807 by have := h.hnQ3; omega),
  e_rem (show (0 : Int) ≤ (p.nQ3 / 10) by have := h.hnQ3; omega) (show (10 : Int) ≠ 0 by decide) (show (p.nQ3 / 10) % 10 = (p.nQ3 / 10 % 10) by have := h.hnQ3; omega),
  e_mul (show (p.nQ3 / 100) * 10 = (10 * (p.nQ3 / 100)) by have := h.hnQ3; omega) (show (0 : Int) ≤ (10 * (p.nQ3 / 100)) by have := h.hnQ3; omega) (show (10 * (p.nQ3 / 100)) ≤ 18446744073709551615 by have := h.hnQ3; omega),
  e_sub (show (48 + p.nQ4 % 10) - 48 = (p.nQ4 % 10) by have := h.hnQ4; omega) (show (0 : Int) ≤ (p.nQ4 % 10) by have := h.hnQ4; omega) (show (p.nQ4 % 10) ≤ 255 by have := h.hnQ4; omega), trivial⟩
theorem ents4 (p : Par) (h : ParOk p) : AllE (fP p) symE4 :=
  ⟨e_sub (show (48 + p.nQ4 / 10 % 10) - 48 = (p.nQ4 / 10 % 10) by have := h.hnQ4; omega) (show (0 : Int) ≤ (p.nQ4 / 10 % 10) by have := h.hnQ4; omega) (show (p.nQ4 / 10 % 10) ≤ 255 by have := h.hnQ4; omega),
  e_sub (show (48 + p.nQ4 / 100 % 10) - 48 = (p.nQ4 / 100 % 10) by have := h.hnQ4; omega) (show (0 : Int) ≤ (p.nQ4 / 100 % 10) by have := h.hnQ4; omega) (show (p.nQ4 / 100 % 10) ≤ 255 by have := h.hnQ4; omega),
  e_sub (show (48 + p.nQ4 / 1000) - 48 = (p.nQ4 / 1000) by have := h.hnQ4; omega) (show (0 : Int) ≤ (p.nQ4 / 1000) by have := h.hnQ4; omega) (show (p.nQ4 / 1000) ≤ 255 by have := h.hnQ4; omega),
  e_add (show (10 * (p.nQ4 / 10)) + (p.nQ4 % 10) = (p.nQ4) by have := h.hnQ4; omega) (show (0 : Int) ≤ (p.nQ4) by have := h.hnQ4; omega) (show (p.nQ4) ≤ 18446744073709551615 by have := h.hnQ4; omega),
  e_add (show (10 * (p.nQ4 / 100)) + (p.nQ4 / 10 % 10) = (p.nQ4 / 10) by have := h.hnQ4; omega) (show (0 : Int) ≤ (p.nQ4 / 10) by have := h.hnQ4; omega) (show (p.nQ4 / 10) ≤ 18446744073709551615 by have := h.hnQ4; omega),
  e_add (show (10 * (p.nQ4 / 1000)) + (p.nQ4 / 100 % 10) = (p.nQ4 / 100) by have := h.hnQ4; omega) (show (0 : Int) ≤ (p.nQ4 / 100) by have := h.hnQ4; omega) (show (p.nQ4 / 100) ≤ 18446744073709551615 by have := h.hnQ4; omega),
  e_quo (show (0 : Int) ≤ (p.nQ4) by have := h.hnQ4; omega) (show (10 : Int) ≠ 0 by decide) (show (p.nQ4) / 10 = (p.nQ4 / 10) by have := h.hnQ4; omega) (show (0 : Int) ≤ (p.nQ4 / 10) by have := h.hnQ4; omega) (show (p.nQ4 / 10) ≤ 9223372036854775807 by have := h.hnQ4; omega),
  e_rem (show (0 : Int) ≤ (p.nQ4) by have := h.hnQ4; omega) (show (10 : Int) ≠ 0 by decide) (show (p.nQ4) % 10 = (p.nQ4 % 10) by have := h.hnQ4; omega),
  e_mul (show (p.nQ4 / 10) * 10 = (10 * (p.nQ4 / 10)) by have := h.hnQ4; omega) (show (0 : Int) ≤ (10 * (p.nQ4 / 10)) by have := h.hnQ4; omega) (show (10 * (p.nQ4 / 10)) ≤ 18446744073709551615 by have := h.hnQ4; omega),
  e_quo (show (0 : Int) ≤ (p.nQ4 / 10) by have := h.hnQ4; omega) (show (10 : Int) ≠ 0 by decide) (show (p.nQ4 / 10) / 10 = (p.nQ4 / 100) by have := h.hnQ4; omega) (show (0 : Int) ≤ (p.nQ4 / 100) by have := h.hnQ4; omega) (show (p.nQ4 / 100) ≤ 9223372036854775807 by have := h.hnQ4; omega),
  e_rem (show (0 : Int) ≤ (p.nQ4 / 10) by have := h.hnQ4; omega) (show (10 : Int) ≠ 0 by decide) (show (p.nQ4 / 10) % 10 = (p.nQ4 / 10 % 10) by have := h.hnQ4; omega),
  e_mul (show (p.nQ4 / 100) * 10 = (10 * (p.nQ4 / 100)) by have := h.hnQ4; omega) (show (0 : Int) ≤ (10 * (p.nQ4 / 100)) by have := h.hnQ4; omega) (show (10 * (p.nQ4 / 100)) ≤ 18446744073709551615 by have := h.hnQ4; omega),
  e_quo (show (0 : Int) ≤ (p.nQ4 / 100) by have := h.hnQ4; omega) (show (10 : Int) ≠ 0 by decide) (show (p.nQ4 / 100) / 10 = (p.nQ4 / 1000) by have := h.hnQ4; omega) (show (0 : Int) ≤ (p.nQ4 / 1000) by have := h.hnQ4; omega) (show (p.nQ4 / 1000) ≤ 9223372036854775807 by have := h.hnQ4; omega),
  e_rem (show (0 : Int) ≤ (p.nQ4 / 100) by have := h.hnQ4; omega) (show (10 : Int) ≠ 0 by decide) (show (p.nQ4 / 100) % 10 = (p.nQ4 / 100 % 10) by have := h.hnQ4; omega),
  e_mul (show (p.nQ4 / 1000) * 10 = (10 * (p.nQ4 / 1000)) by have := h.hnQ4; omega) (show (0 : Int) ≤ (10 * (p.nQ4 / 1000)) by have := h.hnQ4; omega) (show (10 * (p.nQ4 / 1000)) ≤ 18446744073709551615 by have := h.hnQ4; omega),
  e_sub (show (48 + p.nQ5 % 10) - 48 = (p.nQ5 % 10) by have := h.hnQ5; omega) (show (0 : Int) ≤ (p.nQ5 % 10) by have := h.hnQ5; omega) (show (p.nQ5 % 10) ≤ 255 by have := h.hnQ5; omega),
  e_sub (show (48 + p.nQ5 / 10 % 10) - 48 = (p.nQ5 / 10 % 10) by have := h.hnQ5; omega) (show (0 : Int) ≤ (p.nQ5 / 10 % 10) by have := h.hnQ5; omega) (show (p.nQ5 / 10 % 10) ≤ 255 by have := h.hnQ5; omega),
  e_sub (show (48 + p.nQ5 / 100 % 10) - 48 = (p.nQ5 / 100 % 10) by have := h.hnQ5; omega) (show (0 : Int) ≤ (p.nQ5 / 100 % 10) by have := h.hnQ5; omega) (show (p.nQ5 / 100 % 10) ≤ 255 by have := h.hnQ5; omega),
  e_sub (show (48 + p.nQ5 / 1000 % 10) - 48 = (p.nQ5 / 1000 % 10) by have := h.hnQ5; omega) (show (0 : Int) ≤ (p.nQ5 / 1000 % 10) by have := h.hnQ5; omega) (show (p.nQ5 / 1000 % 10) ≤ 255 by have := h.hnQ5; omega),
  e_sub (show (48 + p.nQ5 / 10000) - 48 = (p.nQ5 / 10000) by have := h.hnQ5; omega) (show (0 : Int) ≤ (p.nQ5 / 10000) by have := h.hnQ5; omega) (show (p.nQ5 / 10000) ≤ 255 by have := h.hnQ5; omega),
  e_add (show (10 * (p.nQ5 / 10)) + (p.nQ5 % 10) = (p.nQ5) by have := h.hnQ5; omega) (show (0 : Int) ≤ (p.nQ5) by have := h.hnQ5; omega) (show (p.nQ5) ≤ 18446744073709551615 by have := h.hnQ5; omega),
  e_add (show (10 * (p.nQ5 / 100)) + (p.nQ5 / 10 % 10) = (p.nQ5 / 10) by have := h.hnQ5; omega) (show (0 : Int) ≤ (p.nQ5 / 10) by have := h.hnQ5; omega) (show (p.nQ5 / 10) ≤ 18446744073709551615 by have := h.hnQ5; omega),
  e_add (show (10 * (p.nQ5 / 1000)) + (p.nQ5 / 100 % 10) = (p.nQ5 / 100) by have := h.hnQ5; omega) (show (0 : Int) ≤ (p.nQ5 / 100) by have := h.hnQ5; omega) (show (p.nQ5 / 100) ≤ 18446744073709551615 by have := h.hnQ5; omega),
  e_add (show (10 * (p.nQ5 / 10000)) + (p.nQ5 / 1000 % 10) = (p.nQ5 / 1000) by have := h.hnQ5; omega) (show (0 : Int) ≤ (p.nQ5 / 1000) by have := h.hnQ5; omega) (show (p.nQ5 / 1000) ≤ 18446744073709551615 by have := h.hnQ5; omega),
  e_quo (show (0 : Int) ≤ (p.nQ5) by have := h.hnQ5; omega) (show (10 : Int) ≠ 0 by decide) (show (p.nQ5) / 10 = (p.nQ5 / 10) by have := h.hnQ5; omega) (show (0 : Int) ≤ (p.nQ5 / 10) by have := h.hnQ5; omega) (show (p.nQ5 / 10) ≤ 9223372036854775807 by have := h.hnQ5; omega),
  e_rem (show (0 : Int) ≤ (p.nQ5) by have := h.hnQ5; omega) (show (10 : Int) ≠ 0 by decide) (show (p.nQ5) % 10 = (p.nQ5 % 10) by have := h.hnQ5; omega),
  e_mul (show (p.nQ5 / 10) * 10 = (10 * (p.nQ5 / 10)) by have := h.hnQ5; omega) (show (0 : Int) ≤ (10 * (p.nQ5 / 10)) by have := h.hnQ5; omega) (show (10 * (p.nQ5 / 10)) ≤ 18446744073709551615 by have := h.hnQ5; omega),
  e_quo (show (0 : Int) ≤ (p.nQ5 / 10) by have := h.hnQ5; omega) (show (10 : Int) ≠ 0 by decide) (show (p.nQ5 / 10) / 10 = (p.nQ5 / 100) by have := h.hnQ5; omega) (show (0 : Int) ≤ (p.nQ5 / 100) by have := h.hnQ5; omega) (show (p.nQ5 / 100) ≤ 9223372036854775807 by have := h.hnQ5; omega),
  e_rem (show (0 : Int) ≤ (p.nQ5 / 10) by have := h.hnQ5; omega) (show (10 : Int) ≠ 0 by decide) (show (p.nQ5 / 10) % 10 = (p.nQ5 / 10 % 10) by have := h.hnQ5; omega),
  e_mul (show (p.nQ5 / 100) * 10 = (10 * (p.nQ5 / 100)) by have := h.hnQ5; omega) (show (0 : Int) ≤ (10 * (p.nQ5 / 100)) by have := h.hnQ5; omega) (show (10 * (p.nQ5 / 100)) ≤ 18446744073709551615 by have := h.hnQ5; omega),
  e_quo (show (0 : Int) ≤ (p.nQ5 / 100) by have := h.hnQ5; omega) (show (10 : Int) ≠ 0 by decide) (show (p.nQ5 / 100) / 10 = (p.nQ5 / 1000) by have := h.hnQ5; omega) (show (0 : Int) ≤ (p.nQ5 / 1000) by have := h.hnQ5; omega) (show (p.nQ5 / 1000) ≤ 9223372036854775807 by have := h.hnQ5; omega),
  e_rem (show (0 : Int) ≤ (p.nQ5 / 100) by have := h.hnQ5; omega) (show (10 : Int) ≠ 0 by decide) (show (p.nQ5 / 100) % 10 = (p.nQ5 / 100 % 10) by have := h.hnQ5; omega),
  e_mul (show (p.nQ5 / 1000) * 10 = (10 * (p.nQ5 / 1000)) by have := h.hnQ5; omega) (show (0 : Int) ≤ (10 * (p.nQ5 / 1000)) by have := h.hnQ5; omega) (show (10 * (p.nQ5 / 1000)) ≤ 18446744073709551615 by have := h.hnQ5; omega),
  e_quo (show (0 : Int) ≤ (p.nQ5 / 1000) by have := h.hnQ5; omega) (show (10 : Int) ≠ 0 by decide) (show (p.nQ5 / 1000) / 10 = (p.nQ5 / 10000) by have := h.hnQ5; omega) (show (0 : Int) ≤ (p.nQ5 / 10000) by have := h.hnQ5; omega) (show (p.nQ5 / 10000) ≤ 9223372036854775807 by have := h.hnQ5; omega),
  e_rem (show (0 : Int) ≤ (p.nQ5 / 1000) by have := h.hnQ5; omega) (show (10 : Int) ≠ 0 by decide) (show (p.nQ5 / 1000) % 10 = (p.nQ5 / 1000 % 10) by have := h.hnQ5; omega),
  e_mul (show (p.nQ5 / 10000) * 10 = (10 * (p.nQ5 / 10000)) by have := h.hnQ5; omega) (show (0 : Int) ≤ (10 * (p.nQ5 / 10000)) by have := h.hnQ5; omega) (show (10 * (p.nQ5 / 10000)) ≤ 18446744073709551615 by have := h.hnQ5; omega),
  e_sub (show (48 + p.nR1) - 48 = (p.nR1) by have := h.hnR1; omega) (show (0 : Int) ≤ (p.nR1) by have := h.hnR1; omega) (show (p.nR1) ≤ 255 by have := h.hnR1; omega),
  e_sub (show (48 + p.nR2 % 10) - 48 = (p.nR2 % 10) by have := h.hnR2; omega) (show (0 : Int) ≤ (p.nR2 % 10) by have := h.hnR2; omega) (show (p.nR2 % 10) ≤ 255 by have := h.hnR2; omega),
  e_sub (show (48 + p.nR2 / 10) - 48 = (p.nR2 / 10) by have := h.hnR2; omega) (show (0 : Int) ≤ (p.nR2 / 10) by have := h.hnR2; omega) (show (p.nR2 / 10) ≤ 255 by have := h.hnR2; omega),
  e_add (show (10 * (p.nR2 / 10)) + (p.nR2 % 10) = (p.nR2) by have := h.hnR2; omega) (show (0 : Int) ≤ (p.nR2) by have := h.hnR2; omega) (show (p.nR2) ≤ 18446744073709551615 by have := h.hnR2; omega),
  e_quo (show (0 : Int) ≤ (p.nR2) by have := h.hnR2; omega) (show (10 : Int) ≠ 0 by decide) (show (p.nR2) / 10 = (p.nR2 / 10) by have := h.hnR2; omega) (show (0 : Int) ≤ (p.nR2 / 10) by have := h.hnR2; omega) (show (p.nR2 / 10) ≤ 9223372036854775807 by have := h.hnR2; omega),
  e_rem (show (0 : Int) ≤ (p.nR2) by have := h.hnR2; omega) (show (10 : Int) ≠ 0 by decide) (show (p.nR2) % 10 = (p.nR2 % 10) by have := h.hnR2; omega),
  e_mul (show (p.nR2 / 10) * 10 = (10 * (p.nR2 / 10)) by have := h.hnR2; omega) (show (0 : Int) ≤ (10 * (p.nR2 / 10)) by have := h.hnR2; omega) (show (10 * (p.nR2 / 10)) ≤ 18446744073709551615 by have := h.hnR2; omega), trivial⟩
theorem convs (p : Par) (h : ParOk p) : AllC (fP p) symC :=
  ⟨(wrap8 _).trans (show (17825792 + (16 * p.L + 1)) % 256 = ((16 * p.L + 1) % 256) by have := h.hL; omega), (wrap8 _).trans (show (69632 + (16 * p.L + 1) / 256) % 256 = ((16 * p.L + 1) / 256) by have := h.hL; omega), (wrap8 _).trans (show (18874368 + p.W) % 256 = (p.W % 256) by have := h.hW; omega), (wrap8 _).trans (show (73728 + p.W / 256) % 256 = (p.W / 256) by have := h.hW; omega), (wrap8 _).trans (show (20971520 + p.W) % 256 = (p.W % 256) by have := h.hW; omega), (wrap8 _).trans (show (81920 + p.W / 256) % 256 = (p.W / 256) by have := h.hW; omega), trivial⟩
theorem les (p : Par) (h : ParOk p) : AllL (fP p) symL :=
  ⟨(show (10 * (p.nP2 / 10)) ≤ (p.nP2) by have := h.hnP2; omega), (show (10 * (p.nP3 / 10)) ≤ (p.nP3) by have := h.hnP3; omega), (show (10 * (p.nP3 / 100)) ≤ (p.nP3 / 10) by have := h.hnP3; omega), (show (10 * (p.nP4 / 10)) ≤ (p.nP4) by have := h.hnP4; omega), (show (10 * (p.nP4 / 100)) ≤ (p.nP4 / 10) by have := h.hnP4; omega), (show (10 * (p.nP4 / 1000)) ≤ (p.nP4 / 100) by have := h.hnP4; omega), (show (10 * (p.nP5 / 10)) ≤ (p.nP5) by have := h.hnP5; omega), (show (10 * (p.nP5 / 100)) ≤ (p.nP5 / 10) by have := h.hnP5; omega), (show (10 * (p.nP5 / 1000)) ≤ (p.nP5 / 100) by have := h.hnP5; omega), (show (10 * (p.nP5 / 10000)) ≤ (p.nP5 / 1000) by have := h.hnP5; omega), (show (10 * (p.nQ2 / 10)) ≤ (p.nQ2) by have := h.hnQ2; omega), (show (10 * (p.nQ3 / 10)) ≤ (p.nQ3) by have := h.hnQ3; omega), (show (10 * (p.nQ3 / 100)) ≤ (p.nQ3 / 10) by have := h.hnQ3; omega), (show (10 * (p.nQ4 / 10)) ≤ (p.nQ4) by have := h.hnQ4; omega), (show (10 * (p.nQ4 / 100)) ≤ (p.nQ4 / 10) by have := h.hnQ4; omega), (show (10 * (p.nQ4 / 1000)) ≤ (p.nQ4 / 100) by have := h.hnQ4; omega), (show (10 * (p.nQ5 / 10)) ≤ (p.nQ5) by have := h.hnQ5; omega), (show (10 * (p.nQ5 / 100)) ≤ (p.nQ5 / 10) by have := h.hnQ5; omega), (show (10 * (p.nQ5 / 1000)) ≤ (p.nQ5 / 100) by have := h.hnQ5; omega), (show (10 * (p.nQ5 / 10000)) ≤ (p.nQ5 / 1000) by have := h.hnQ5; omega), (show (10 * (p.nR2 / 10)) ≤ (p.nR2) by have := h.hnR2; omega), trivial⟩
theorem allE_app {f : Nat → Int} : ∀ {a b : List SE}, AllE f a → AllE f b → AllE f (a ++ b)
  | [], _, _, hb => hb
  | _ :: _, _, ha, hb => ⟨ha.1, allE_app ha.2 hb⟩
theorem ents (p : Par) (h : ParOk p) : AllE (fP p) symE := allE_app (ents0 p h) (allE_app (ents1 p h) (allE_app (ents2 p h) (allE_app (ents3 p h) (ents4 p h))))
@[reducible] def syP (p : Par) (h : ParOk p) (g : Nat → List Nat) (gok : ∀ i, okX (g i) = true) (gn : ∀ i, (g i).length ≤ 1000) : Sy where
  f := fP p
  rng := fun i => rngT_get (fvs_rng p h) i
  ent := fun e he s => allE_mem (ents p h) e he s
  cv := fun e he => allC_mem (convs p h) e he
  le := fun e he => allL_mem (les p h) e he
  g := g
  gok := gok
  gn := gn
  q0 := by show (0 : Int) ≤ 0; decide
  q1 := by show (0 : Int) < 4; decide
  up2 := by show (1 : Int) = 1 + 0; decide
end
end Go.Ev
