/- TopBadges answers true whatever badge and slot, and leaves all old memory as it was; no condition. -/
import Derived.WalkKit
import Derived.Laws.BitsLemmas
import Derived.Below
import Derived.Test.YtiliabomdlhgoaaGreatDoorEd
import Derived.Test.YtiliabomdlhgoaaGreatDoorFa
import Derived.Test.YtiliabomdlhgoaaGreatDoorOp
import Derived.Test.YtiliabomdlhgoaaGreatDoorM1
import Derived.Test.YtiliabomdlhgoaaGreatDoorM2
import Derived.Test.YtiliabomdlhgoaaGreatDoorMx
import Derived.Test.YtiliabomdlhgoaaGreatDoorB0
import Derived.Test.YtiliabomdlhgoaaGreatDoorB1
import Derived.Test.YtiliabomdlhgoaaGreatDoorB2
import Derived.Test.YtiliabomdlhgoaaGreatDoorB3
import Derived.Test.YtiliabomdlhgoaaGreatDoorB4
import Derived.Test.YtiliabomdlhgoaaGreatDoorB5
import Derived.Test.YtiliabomdlhgoaaGreatDoorB6
import Derived.Test.YtiliabomdlhgoaaGreatDoorB7
import Derived.Test.YtiliabomdlhgoaaGreatDoorB8
import Derived.Test.YtiliabomdlhgoaaGreatDoorB9
import Derived.Test.YtiliabomdlhgoaaGreatDoorB10
import Derived.Test.YtiliabomdlhgoaaGreatDoorB11
import Derived.Test.YtiliabomdlhgoaaGreatDoorB12
import Derived.Test.YtiliabomdlhgoaaGreatDoorB13
set_option linter.unusedSectionVars false
set_option linter.unusedVariables false
namespace Go.Ev
open Go.Proofs Go.RowKit
set_option maxRecDepth 100000
def pk (c m : Int) : Int := if c < 0 then (-(c + 1)) % m else c % m
theorem pk_range (c : Int) {m : Int} (h : 0 < m) : 0 ≤ pk c m ∧ pk c m < m := by
  unfold pk
  split
  · exact ⟨Int.emod_nonneg _ (by omega), Int.emod_lt_of_pos _ h⟩
  · exact ⟨Int.emod_nonneg _ (by omega), Int.emod_lt_of_pos _ h⟩
theorem pickA (c : Int) (h1 : -9223372036854775808 ≤ c) (h2 : c < 9223372036854775808) (w : World) : Calls Tryz.prog 6 #[.int .i64 c, .int .i64 65536] w fun e w' => e = .returned (.int .i64 (pk c 65536)) ∧ w' = w := by
  go_enter Tryz.func6, Tryz.ntmps6
  go_wp2
  · rename_i hc
    have hm : -(c + 1).tmod 65536 = (-(c + 1)) % 65536 := by rw [← Int.neg_tmod, Int.tmod_eq_emod_of_nonneg (by omega)]
    refine ⟨rfl, _, results_tmp rfl _ _ _, ?_, rfl⟩
    unfold pk
    rw [if_pos (by omega), ← hm]; rfl
  · rename_i hc
    refine ⟨rfl, _, results_tmp rfl _ _ _, ?_, rfl⟩
    unfold pk
    rw [if_neg (by omega)]; rfl
theorem pick14 (c : Int) (h1 : -9223372036854775808 ≤ c) (h2 : c < 9223372036854775808) (w : World) : Calls Tryz.prog 6 #[.int .i64 c, .int .i64 14] w fun e w' => e = .returned (.int .i64 (pk c 14)) ∧ w' = w := by
  go_enter Tryz.func6, Tryz.ntmps6
  go_wp2
  · rename_i hc
    have hm : -(c + 1).tmod 14 = (-(c + 1)) % 14 := by rw [← Int.neg_tmod, Int.tmod_eq_emod_of_nonneg (by omega)]
    refine ⟨rfl, _, results_tmp rfl _ _ _, ?_, rfl⟩
    unfold pk
    rw [if_pos (by omega), ← hm]; rfl
  · rename_i hc
    refine ⟨rfl, _, results_tmp rfl _ _ _, ?_, rfl⟩
    unfold pk
    rw [if_neg (by omega)]; rfl
/- the numbers behind the symbols -/
def chn (lo hi n : Int) : Int := if lo ≤ n ∧ n ≤ hi then n else lo
theorem chn_in {lo hi n : Int} (h : lo ≤ n ∧ n ≤ hi) : chn lo hi n = n := if_pos h
theorem chn_rng {lo hi n : Int} (h : lo ≤ hi) : lo ≤ chn lo hi n ∧ chn lo hi n ≤ hi := by
  unfold chn
  split <;> omega
@[reducible] def parW (r0 r1 r2 r3 W L B R : Int) : Par where
  r0 := r0
  r1 := r1
  r2 := r2
  r3 := r3
  W := W
  Wp := chn 1 65535 W
  L := L
  B := B
  nP1 := chn 1 9 (16 * L + 1)
  nP2 := chn 10 99 (16 * L + 1)
  nP3 := chn 100 999 (16 * L + 1)
  nP4 := chn 1000 9999 (16 * L + 1)
  nP5 := chn 10000 65535 (16 * L + 1)
  nQ1 := chn 1 9 W
  nQ2 := chn 10 99 W
  nQ3 := chn 100 999 W
  nQ4 := chn 1000 9999 W
  nQ5 := chn 10000 65535 W
  nR1 := chn 1 9 R
  nR2 := chn 10 99 R
theorem parW_ok {r0 r1 r2 r3 W L B R : Int} (h0 : -9223372036854775808 ≤ r0 ∧ r0 ≤ 9223372036854775807) (h1 : -9223372036854775808 ≤ r1 ∧ r1 ≤ 9223372036854775807) (h2 : -9223372036854775808 ≤ r2 ∧ r2 ≤ 9223372036854775807)
    (h3 : -9223372036854775808 ≤ r3 ∧ r3 ≤ 9223372036854775807) (hW : 0 ≤ W ∧ W ≤ 65535) (hL : 0 ≤ L ∧ L ≤ 3999) (hB : 0 ≤ B ∧ B ≤ 1048575) : ParOk (parW r0 r1 r2 r3 W L B R) where
  hr0 := h0
  hr1 := h1
  hr2 := h2
  hr3 := h3
  hW := hW
  hWp := chn_rng (by decide)
  hL := hL
  hB := hB
  hnP1 := chn_rng (by decide)
  hnP2 := chn_rng (by decide)
  hnP3 := chn_rng (by decide)
  hnP4 := chn_rng (by decide)
  hnP5 := chn_rng (by decide)
  hnQ1 := chn_rng (by decide)
  hnQ2 := chn_rng (by decide)
  hnQ3 := chn_rng (by decide)
  hnQ4 := chn_rng (by decide)
  hnQ5 := chn_rng (by decide)
  hnR1 := chn_rng (by decide)
  hnR2 := chn_rng (by decide)
theorem caseQ (W : Int) (h : 0 ≤ W ∧ W ≤ 65535) : ∃ k, k ≤ 5 ∧ ((k = 0 ∧ W = 0) ∨ (1 ≤ k ∧ ∀ r0 r1 r2 r3 L B R, fP (parW r0 r1 r2 r3 W L B R) (sQ k) = W ∧ fP (parW r0 r1 r2 r3 W L B R) (wQ4 k) = 20971520 + W)) := by
  have main : ∀ {lo hi : Int} {r : Int}, lo ≤ W ∧ W ≤ hi → r = chn lo hi W → r = W ∧ 20971520 + r = 20971520 + W := by
    rintro lo hi r h rfl
    rw [chn_in h]; exact ⟨rfl, rfl⟩
  by_cases c0 : W = 0
  · exact ⟨0, by omega, .inl ⟨rfl, c0⟩⟩
  by_cases c1 : W ≤ 9
  · exact ⟨1, by omega, .inr ⟨by omega, fun r0 r1 r2 r3 L B R => main (lo := 1) (hi := 9) (by omega) rfl⟩⟩
  by_cases c2 : W ≤ 99
  · exact ⟨2, by omega, .inr ⟨by omega, fun r0 r1 r2 r3 L B R => main (lo := 10) (hi := 99) (by omega) rfl⟩⟩
  by_cases c3 : W ≤ 999
  · exact ⟨3, by omega, .inr ⟨by omega, fun r0 r1 r2 r3 L B R => main (lo := 100) (hi := 999) (by omega) rfl⟩⟩
  by_cases c4 : W ≤ 9999
  · exact ⟨4, by omega, .inr ⟨by omega, fun r0 r1 r2 r3 L B R => main (lo := 1000) (hi := 9999) (by omega) rfl⟩⟩
  · exact ⟨5, by omega, .inr ⟨by omega, fun r0 r1 r2 r3 L B R => main (lo := 10000) (hi := 65535) (by omega) rfl⟩⟩
theorem caseR (R : Int) (h : 2 ≤ R ∧ R ≤ 15) : ∃ a, 1 ≤ a ∧ a ≤ 2 ∧ ∀ r0 r1 r2 r3 W L B, fP (parW r0 r1 r2 r3 W L B R) (sR a) = R ∧ fP (parW r0 r1 r2 r3 W L B R) (wR2 a) = 18874368 + R ∧ fP (parW r0 r1 r2 r3 W L B R) (wR0 a) = 16777216 + R := by
  have main : ∀ {lo hi : Int} {r : Int}, lo ≤ R ∧ R ≤ hi → r = chn lo hi R → r = R ∧ 18874368 + r = 18874368 + R ∧ 16777216 + r = 16777216 + R := by
    rintro lo hi r h rfl
    rw [chn_in h]; exact ⟨rfl, rfl, rfl⟩
  by_cases c1 : R ≤ 9
  · exact ⟨1, by omega, by omega, fun r0 r1 r2 r3 W L B => main (lo := 1) (hi := 9) (by omega) rfl⟩
  · exact ⟨2, by omega, by omega, fun r0 r1 r2 r3 W L B => main (lo := 10) (hi := 99) (by omega) rfl⟩
theorem fmm (a k : Nat) (h1 : 1 ≤ a) (h2 : a ≤ 2) (h3 : k ≤ 5) : fM a k = true :=
  match a, k with
  | 1, 0 => fm10
  | 1, 1 => fm11
  | 1, 2 => fm12
  | 1, 3 => fm13
  | 1, 4 => fm14
  | 1, 5 => fm15
  | 2, 0 => fm20
  | 2, 1 => fm21
  | 2, 2 => fm22
  | 2, 3 => fm23
  | 2, 4 => fm24
  | 2, 5 => fm25
  | 0, _ => absurd h1 (by omega)
  | _ + 3, _ => absurd h2 (by omega)
  | _ + 1, _ + 6 => absurd h3 (by omega)
theorem fss (a : Nat) (h1 : 1 ≤ a) (h2 : a ≤ 2) : fS a = true :=
  match a with
  | 1 => fs1
  | 2 => fs2
  | 0 => absurd h1 (by omega)
  | _ + 3 => absurd h2 (by omega)
theorem len_le {l : List Nat} {n : Nat} (h : lenN l ≤ n) : l.length ≤ n := by
  have e : lenN l = l.length := by
    clear h
    induction l with
    | nil => rfl
    | cons a l ih => simp [lenN, ih]
  omega
theorem two {a b : Bool} : bc a b false = true → a = true ∧ b = true := by cases a <;> cases b <;> simp [bc]
theorem smallT_ok {t : List Nat} {cells : List V} (h : smallT t cells = true) : okX t = true ∧ t.length ≤ 1000 ∧ eqTr (wr .leaf 0 cells) (wr .leaf 0 cells) = true := by
  obtain ⟨h1, h⟩ := two (show bc _ _ false = true from h)
  obtain ⟨h2, h3⟩ := two h
  exact ⟨h1, len_le (by rw [ble_eq, decide_eq_true_eq] at h2; exact h2), h3⟩
variable [Sy]
theorem t205 : TabM Tryz.prog 205 mm205 := tabM_of env_ok dok noSp_ok tab_ok m205
theorem sp1_ok : SpOk Tryz.prog sp1 := memoSp_ok (memoOf_is fun x hx => by
  simp only [tabs1, List.mem_cons, List.not_mem_nil, or_false] at hx
  subst hx; exact t205)
theorem t157 : TabM Tryz.prog 157 mm157 := tabM_of env_ok dok sp1_ok tab_ok m157
theorem sp2_ok : SpOk Tryz.prog sp2 := memoSp_ok (memoOf_is fun x hx => by
  simp only [tabs2, List.mem_cons, List.not_mem_nil, or_false] at hx
  rcases hx with rfl | rfl
  · exact t205
  · exact t157)
theorem t104 : TabM Tryz.prog 104 mm104 := tabM_of env_ok dok sp2_ok tab_ok m104
theorem sp3_ok : SpOk Tryz.prog sp3 := memoSp_ok (memoOf_is fun x hx => by
  simp only [tabs3, List.mem_cons, List.not_mem_nil, or_false] at hx
  rcases hx with rfl | rfl | rfl
  · exact t205
  · exact t157
  · exact t104)
theorem t62 : TabM Tryz.prog 62 mm62 := tabM_of env_ok dok sp3_ok tab_ok m62
theorem t211 : TabM Tryz.prog 211 mm211 := tabM_of env_ok dok sp3_ok tab_ok m211
theorem tabs5_ok : ∀ x, x ∈ tabs5 → TabM Tryz.prog x.1 x.2 := fun x hx => by
  simp only [tabs5, List.mem_cons, List.not_mem_nil, or_false] at hx
  rcases hx with rfl | rfl | rfl | rfl | rfl
  · exact t205
  · exact t157
  · exact t104
  · exact t62
  · exact t211
theorem spA_ok : SpOk Tryz.prog spA := mkSp_ok env_ok dok tab_ok (memoOf_is tabs5_ok)
theorem spC_ok : SpOk Tryz.prog spC := enumSp_ok env_ok dok tab_ok spA_ok
theorem t5 : TabM Tryz.prog 5 [([], .bool true)] := tabM_of env_ok dok spA_ok tab_ok alive_is
end Go.Ev
namespace Go.Ev
open Go.Proofs Go.RowKit
set_option maxRecDepth 100000
theorem fbs (n : Nat) (h : n < 14) : fB n = true :=
  match n with
  | 0 => fb0
  | 1 => fb1
  | 2 => fb2
  | 3 => fb3
  | 4 => fb4
  | 5 => fb5
  | 6 => fb6
  | 7 => fb7
  | 8 => fb8
  | 9 => fb9
  | 10 => fb10
  | 11 => fb11
  | 12 => fb12
  | 13 => fb13
  | _ + 14 => absurd h (by omega)
section
variable [Sy]
structure BadgesOk (a k n : Nat) : Prop where
  r0 : -9223372036854775808 ≤ Sy.f 0 ∧ Sy.f 0 < 9223372036854775808
  r1 : -9223372036854775808 ≤ Sy.f 1 ∧ Sy.f 1 < 9223372036854775808
  e0 : pk (Sy.f 0) 65536 = Sy.f 7
  e1 : pk (Sy.f 1) 14 = n
  g1 : Sy.g 1 = txtM a k
  g2 : Sy.g 2 = txtS a
  hR : Sy.f (sR a) = ((n + 2 : Nat) : Int) ∧ Sy.f (wR2 a) = ((18874368 + (n + 2) : Nat) : Int) ∧ Sy.f (wR0 a) = ((16777216 + (n + 2) : Nat) : Int)
  hk : (k = 0 ∧ Sy.f 7 = 0 ∧ Sy.f 23 = 20971520) ∨ (1 ≤ k ∧ Sy.f 7 = Sy.f (sQ k) ∧ Sy.f 23 = Sy.f (wQ4 k))
  hw : Sy.f 7 = 0 ∨ Sy.f 7 = Sy.f 8
theorem tabPB_ok {a k n : Nat} (h : BadgesOk a k n) : TabM Tryz.prog 6 (tabPB n) := ⟨fun l v hm B ρ s w xs ok hl => by
  simp only [tabPB, List.mem_cons, List.not_mem_nil, or_false, Prod.mk.injEq] at hm
  rcases hm with ⟨rfl, rfl⟩ | ⟨rfl, rfl⟩
  · have hx : xs = [.int .i64 (Sy.f 0), .int .i64 65536] := by simpa [vals, val, i64, eq_comm] using hl
    subst hx
    refine ⟨Tryz.call6, Calls.mono (pickA (Sy.f 0) h.r0.1 h.r0.2 w) ?_⟩
    rintro e w' ⟨rfl, rfl⟩
    exact ⟨ρ, _, rfl, ok, Post.refl _ _, by rw [h.e0]; rfl⟩
  · have hx : xs = [.int .i64 (Sy.f 1), .int .i64 14] := by simpa [vals, val, i64, eq_comm] using hl
    subst hx
    refine ⟨Tryz.call6, Calls.mono (pick14 (Sy.f 1) h.r1.1 h.r1.2 w) ?_⟩
    rintro e w' ⟨rfl, rfl⟩
    exact ⟨ρ, _, rfl, ok, Post.refl _ _, by rw [h.e1]; rfl⟩⟩
theorem VsEq.refl : ∀ (l : List V), VsEq l l := fun _ _ => rfl
theorem VEq.flip {a b : V} (h : VEq a b) : VEq b a := fun ρ => (h ρ).symm
theorem vQ_eq {a k n : Nat} (h : BadgesOk a k n) : VEq vW (vQ k) ∧ isOne (vQ k) = true := by
  refine ⟨?_, by unfold vQ; cases Nat.beq k 0 <;> rfl⟩
  rcases h.hk with ⟨rfl, h1, _⟩ | ⟨h0, h1, _⟩
  · exact VEq.lit _ h1
  · unfold vQ
    rw [show Nat.beq k 0 = false by rw [beq_eq]; exact decide_eq_false (by omega)]
    exact VEq.sym _ h1
theorem uQ4_eq {a k n : Nat} (h : BadgesOk a k n) : VEq vE4 (uQ4 k) ∧ isOne (uQ4 k) = true := by
  refine ⟨?_, by unfold uQ4; cases Nat.beq k 0 <;> rfl⟩
  rcases h.hk with ⟨rfl, _, h1⟩ | ⟨h0, _, h1⟩
  · exact VEq.lit _ h1
  · unfold uQ4
    rw [show Nat.beq k 0 = false by rw [beq_eq]; exact decide_eq_false (by omega)]
    exact VEq.sym _ h1
theorem blkM_eq {a k n : Nat} (h : BadgesOk a k n) : Alike2 (blkM (slotN n) vW) (blkM (.sym (sR a) .i64) (vQ k)) := by
  obtain ⟨h1, h2⟩ := vQ_eq h
  exact .cons (VEq.rfl' _) rfl rfl (.cons (VEq.rfl' _) rfl rfl (.cons (VEq.lit _ h.hR.1).flip rfl rfl (.cons (VEq.rfl' _) rfl rfl (.cons h1 rfl h2 (.cons (VEq.rfl' _) rfl rfl (.cons (VEq.rfl' _) rfl rfl .nil))))))
theorem blkS_eq {a k n : Nat} (h : BadgesOk a k n) : Alike2 (blkS (slotN n)) (blkS (.sym (sR a) .i64)) :=
  .cons (VEq.lit _ h.hR.1).flip rfl rfl (.cons (VEq.rfl' _) rfl rfl (.cons (VEq.rfl' _) rfl rfl .nil))
theorem cellsM_eq {a k n : Nat} (h : BadgesOk a k n) : Alike2 (cellsM (u32 (Nat.add 18874368 (Nat.add n 2))) vE4) (cellsM (.sym (wR2 a) .u32) (uQ4 k)) := by
  obtain ⟨h1, h2⟩ := uQ4_eq h
  exact .cons (VEq.rfl' _) rfl rfl (.cons (VEq.rfl' _) rfl rfl (.cons (VEq.lit _ h.hR.2.1).flip rfl rfl (.cons (VEq.rfl' _) rfl rfl (.cons h1 rfl h2 (.cons (VEq.rfl' _) rfl rfl (.cons (VEq.rfl' _) rfl rfl (.cons (VEq.rfl' _) rfl rfl (.cons (VEq.rfl' _) rfl rfl (.cons (VEq.rfl' _) rfl rfl .nil)))))))))
theorem cellsS_eq {a k n : Nat} (h : BadgesOk a k n) : Alike2 (cellsS (u32 (Nat.add 16777216 (Nat.add n 2)))) (cellsS (.sym (wR0 a) .u32)) :=
  .cons (VEq.lit _ h.hR.2.2).flip rfl rfl (.cons (VEq.rfl' _) rfl rfl (.cons (VEq.rfl' _) rfl rfl (.cons (VEq.rfl' _) rfl rfl (.cons (VEq.rfl' _) rfl rfl .nil))))
theorem txt_eq {i : Nat} {t l : List Nat} (h : Sy.g i = t) (hl : okX l = true) : VEq (.ssym i l) (.str (app t l)) := by
  have := VEq.txt (i := i) (l := l) h hl
  rwa [← app_eq] at this
theorem txt_eq0 {i : Nat} {t : List Nat} (h : Sy.g i = t) : VEq (.ssym i []) (.str t) := by
  have := VEq.txt (i := i) (l := []) h rfl
  rwa [List.append_nil] at this
theorem min_ok {a k n : Nat} (h : BadgesOk a k n) : TabM Tryz.prog 423 [(minL vW, minV vW)] := by
  have agg : ∀ {x y : V}, VEq x y → VsEq (minL x) (minL y) ∧ VEq (minV x) (minV y) := fun {x y} hxy =>
    ⟨VsEq.cons (VEq.rfl' _) (VsEq.cons (VEq.rfl' _) (VsEq.cons hxy (VsEq.cons (VEq.rfl' _) (VsEq.cons (VEq.rfl' _) VsEq.nil)))), fun ρ => by simp only [minV, val, vals, hxy ρ]⟩
  rcases h.hw with h1 | h1
  · obtain ⟨g1, g2⟩ := agg (x := vW) (y := i64 0) (VEq.lit _ h1)
    exact TabM.other (tabM_of env_ok dok spA_ok tab_ok min_0) g1 g2
  · obtain ⟨g1, g2⟩ := agg (x := vW) (y := vWp) (VEq.sym _ h1)
    exact TabM.other (tabM_of env_ok dok spA_ok tab_ok min_p) g1 g2
theorem HmsOk.two {f : Nat} {m m' : Hm} (h : HmsOk Tryz.prog f [m]) (h' : HmsOk Tryz.prog f [m']) : HmsOk Tryz.prog f [m, m'] := ⟨fun x hx => by
  simp only [List.mem_cons, List.not_mem_nil, or_false] at hx
  rcases hx with rfl | rfl
  · exact h.fn x (List.mem_cons_self ..)
  · exact h'.fn x (List.mem_cons_self ..)⟩
theorem spB_ok {a k n : Nat} (hm : fM a k = true) (hs : fS a = true) (h : BadgesOk a k n) : SpOk Tryz.prog (spB n) := by
  obtain ⟨m1, m⟩ := bcT (show bc _ _ false = true from hm)
  obtain ⟨m2, m3⟩ := bcT m
  obtain ⟨s1, s⟩ := bcT (show bc _ _ false = true from hs)
  obtain ⟨s2, s3⟩ := bcT s
  refine nwSp_ok (mkSp2_ok (mkSpS_ok (mkSp_ok env_ok dok tab_ok (memoOf_is fun x hx => ?_))) (HmsOk.two ?_ ?_)) fun m hm => ?_
  · simp only [tabsB, List.mem_cons] at hx
    rcases hx with rfl | rfl | rfl | hx
    · exact tabPB_ok h
    · exact t5
    · exact min_ok h
    · exact tabs5_ok x hx
  · have hc : HmsOk Tryz.prog 7 [hmB argM 0 (blkM (.sym (sR a) .i64) (vQ k)) (.str (txtM a k))] := hms_of env_ok dok tab_ok (fuel := 3000) fun m hm => by
      simp only [List.mem_cons, List.not_mem_nil, or_false] at hm
      subst hm; exact m2
    exact hm_other hc (VsEq.refl _) (blkM_eq h) (txt_eq0 h.g1) (smallT_ok m1).2.2
  · have hc : HmsOk Tryz.prog 7 [hmB argS 5 (blkS (.sym (sR a) .i64)) (.str (txtS a))] := hms_of env_ok dok tab_ok (fuel := 3000) fun m hm => by
      simp only [List.mem_cons, List.not_mem_nil, or_false] at hm
      subst hm; exact s2
    exact hm_other hc (VsEq.refl _) (blkS_eq h) (txt_eq0 h.g2) (smallT_ok s1).2.2
  · simp only [nwsB, List.mem_cons, List.not_mem_nil, or_false] at hm
    rcases hm with rfl | rfl
    · exact nw_ok env_ok dok spC_ok tab_ok m3 (VsEq.cons (txt_eq h.g1 rfl) VsEq.nil) (cellsM_eq h)
    · exact nw_ok env_ok dok spC_ok tab_ok s3 (VsEq.cons (txt_eq h.g2 rfl) VsEq.nil) (cellsS_eq h)
theorem badges_run {a k n : Nat} (hn : n < 14) (hm : fM a k = true) (hs : fS a = true) (h : BadgesOk a k n) (w : World) :
    Calls Tryz.prog 4 #[.int .i64 (Sy.f 0), .int .i64 (Sy.f 1)] w fun e w' => e = .returned (.bool true) ∧ Below w.heap.size w w' := by
  have hv : vals (fun _ => none) [V.sym 0 .i64, .sym 1 .i64] = some [Value.int .i64 (Sy.f 0), .int .i64 (Sy.f 1)] := rfl
  have ht : TabM Tryz.prog 4 rowB := tabM_of env_ok dok (spB_ok hm hs h) tab_ok (fbs n hn)
  have hc := (ht.fn _ _ (List.mem_cons_self ..) (Bs.of w) _ _ w _ (ok_start w) hv).calls
  refine Calls.mono hc ?_
  rintro e w' ⟨ρ', x, rfl, ok1, _, hx⟩
  have hx : x = .bool true := by simpa [val, eq_comm] using hx
  subst hx
  exact ⟨rfl, ok1.os, ok1.tape, ok1.out, ok1.ofSize, fun j hj => ok1.ofOld hj⟩
end
theorem walk_TopBadges (a l : Int) (ha : -9223372036854775808 ≤ a ∧ a < 9223372036854775808) (hl : -9223372036854775808 ≤ l ∧ l < 9223372036854775808) (w : World) :
    Calls Tryz.prog 4 #[.int .i64 a, .int .i64 l] w fun e w' => e = .returned (.bool true) ∧ Below w.heap.size w w' := by
  have pa := pk_range a (m := 65536) (by decide)
  have pl := pk_range l (m := 14) (by decide)
  obtain ⟨n, hn⟩ : ∃ n : Nat, pk l 14 = n := ⟨(pk l 14).toNat, by rw [Int.toNat_of_nonneg pl.1]⟩
  have hn14 : n < 14 := by omega
  obtain ⟨c, c1, c2, hc⟩ := caseR ((n + 2 : Nat) : Int) (by omega)
  obtain ⟨k, k1, hk⟩ := caseQ (pk a 65536) (by omega)
  have hm := fmm c k c1 c2 k1
  have hs := fss c c1 c2
  obtain ⟨m1, m2, _⟩ := smallT_ok (two (show bc _ _ false = true from hm)).1
  obtain ⟨s1, s2, _⟩ := smallT_ok (two (show bc _ _ false = true from hs)).1
  have hp : ParOk (parW a l 0 0 (pk a 65536) 0 0 ((n + 2 : Nat) : Int)) := parW_ok (by omega) (by omega) (by omega) (by omega) (by omega) (by omega) (by omega)
  letI : Sy := syP _ hp (fun i => if i = 1 then txtM c k else txtS c) (fun i => by show okX (if i = 1 then _ else _) = true; split <;> assumption) (fun i => by show (if i = 1 then txtM c k else txtS c).length ≤ 1000; split <;> assumption)
  obtain ⟨q1, q2, q3⟩ := hc a l 0 0 (pk a 65536) 0 0
  refine badges_run hn14 hm hs (n := n) ⟨ha, hl, rfl, hn, rfl, rfl, ⟨q1, ?_, ?_⟩, ?_, ?_⟩ w
  · exact q2.trans (show (18874368 : Int) + ((n + 2 : Nat) : Int) = ((18874368 + (n + 2) : Nat) : Int) by omega)
  · exact q3.trans (show (16777216 : Int) + ((n + 2 : Nat) : Int) = ((16777216 + (n + 2) : Nat) : Int) by omega)
  · rcases hk with ⟨h0, h1⟩ | ⟨h0, h1⟩
    · refine .inl ⟨h0, h1, ?_⟩
      show 20971520 + pk a 65536 = 20971520
      rw [h1]; rfl
    · exact .inr ⟨h0, ((h1 a l 0 0 0 0 _).1).symm, ((h1 a l 0 0 0 0 _).2).symm⟩
  · show pk a 65536 = 0 ∨ pk a 65536 = chn 1 65535 (pk a 65536)
    by_cases h : pk a 65536 = 0
    · exact .inl h
    · exact .inr (chn_in (by omega)).symm
end Go.Ev
