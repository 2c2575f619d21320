/- TopWords answers true whatever the word, the label, the badge and whoever is first, and leaves all old memory as it was; no condition. -/
import Derived.WalkKit
import Derived.Laws.BitsLemmas
import Derived.Below
import Derived.Test.YtiliabomdlhgoaaGreatDoorEd
import Derived.Test.YtiliabomdlhgoaaGreatDoorFa
import Derived.Test.YtiliabomdlhgoaaGreatDoorC1
import Derived.Test.YtiliabomdlhgoaaGreatDoorC2
import Derived.Test.YtiliabomdlhgoaaGreatDoorC3
import Derived.Test.YtiliabomdlhgoaaGreatDoorC4
import Derived.Test.YtiliabomdlhgoaaGreatDoorC5
import Derived.Test.YtiliabomdlhgoaaGreatDoorWf
import Derived.Test.YtiliabomdlhgoaaGreatDoorWt
set_option linter.unusedSectionVars false
set_option linter.unusedVariables false
namespace Go.Ev
open Go.Proofs Go.RowKit
set_option maxRecDepth 100000
def pk (c m : Int) : Int := if c < 0 then (-(c + 1)) % m else c % m
theorem pk_range (c : Int) {m : Int} (h : 0 < m) : 0 ≤ pk c m ∧ pk c m < m := by
  unfold pk
  split
  · exact ⟨Int.emod_nonneg _ (by omega), Int.emod_lt_of_pos _ h⟩
  · exact ⟨Int.emod_nonneg _ (by omega), Int.emod_lt_of_pos _ h⟩
theorem pickA (c : Int) (h1 : -9223372036854775808 ≤ c) (h2 : c < 9223372036854775808) (w : World) : Calls Tryz.prog 6 #[.int .i64 c, .int .i64 65536] w fun e w' => e = .returned (.int .i64 (pk c 65536)) ∧ w' = w := by
  go_enter Tryz.func6, Tryz.ntmps6
  go_wp2
  · rename_i hc
    have hm : -(c + 1).tmod 65536 = (-(c + 1)) % 65536 := by rw [← Int.neg_tmod, Int.tmod_eq_emod_of_nonneg (by omega)]
    refine ⟨rfl, _, results_tmp rfl _ _ _, ?_, rfl⟩
    unfold pk
    rw [if_pos (by omega), ← hm]; rfl
  · rename_i hc
    refine ⟨rfl, _, results_tmp rfl _ _ _, ?_, rfl⟩
    unfold pk
    rw [if_neg (by omega)]; rfl
theorem pickB (c : Int) (h1 : -9223372036854775808 ≤ c) (h2 : c < 9223372036854775808) (w : World) : Calls Tryz.prog 6 #[.int .i64 c, .int .i64 4000] w fun e w' => e = .returned (.int .i64 (pk c 4000)) ∧ w' = w := by
  go_enter Tryz.func6, Tryz.ntmps6
  go_wp2
  · rename_i hc
    have hm : -(c + 1).tmod 4000 = (-(c + 1)) % 4000 := by rw [← Int.neg_tmod, Int.tmod_eq_emod_of_nonneg (by omega)]
    refine ⟨rfl, _, results_tmp rfl _ _ _, ?_, rfl⟩
    unfold pk
    rw [if_pos (by omega), ← hm]; rfl
  · rename_i hc
    refine ⟨rfl, _, results_tmp rfl _ _ _, ?_, rfl⟩
    unfold pk
    rw [if_neg (by omega)]; rfl
theorem pickC (c : Int) (h1 : -9223372036854775808 ≤ c) (h2 : c < 9223372036854775808) (w : World) : Calls Tryz.prog 6 #[.int .i64 c, .int .i64 1048576] w fun e w' => e = .returned (.int .i64 (pk c 1048576)) ∧ w' = w := by
  go_enter Tryz.func6, Tryz.ntmps6
  go_wp2
  · rename_i hc
    have hm : -(c + 1).tmod 1048576 = (-(c + 1)) % 1048576 := by rw [← Int.neg_tmod, Int.tmod_eq_emod_of_nonneg (by omega)]
    refine ⟨rfl, _, results_tmp rfl _ _ _, ?_, rfl⟩
    unfold pk
    rw [if_pos (by omega), ← hm]; rfl
  · rename_i hc
    refine ⟨rfl, _, results_tmp rfl _ _ _, ?_, rfl⟩
    unfold pk
    rw [if_neg (by omega)]; rfl
/- the numbers behind the symbols -/
def chn (lo hi n : Int) : Int := if lo ≤ n ∧ n ≤ hi then n else lo
theorem chn_in {lo hi n : Int} (h : lo ≤ n ∧ n ≤ hi) : chn lo hi n = n := if_pos h
theorem chn_rng {lo hi n : Int} (h : lo ≤ hi) : lo ≤ chn lo hi n ∧ chn lo hi n ≤ hi := by
  unfold chn
  split <;> omega
@[reducible] def parW (r0 r1 r2 r3 W L B R : Int) : Par where
  r0 := r0
  r1 := r1
  r2 := r2
  r3 := r3
  W := W
  Wp := chn 1 65535 W
  L := L
  B := B
  nP1 := chn 1 9 (16 * L + 1)
  nP2 := chn 10 99 (16 * L + 1)
  nP3 := chn 100 999 (16 * L + 1)
  nP4 := chn 1000 9999 (16 * L + 1)
  nP5 := chn 10000 65535 (16 * L + 1)
  nQ1 := chn 1 9 W
  nQ2 := chn 10 99 W
  nQ3 := chn 100 999 W
  nQ4 := chn 1000 9999 W
  nQ5 := chn 10000 65535 W
  nR1 := chn 1 9 R
  nR2 := chn 10 99 R
theorem parW_ok {r0 r1 r2 r3 W L B R : Int} (h0 : -9223372036854775808 ≤ r0 ∧ r0 ≤ 9223372036854775807) (h1 : -9223372036854775808 ≤ r1 ∧ r1 ≤ 9223372036854775807) (h2 : -9223372036854775808 ≤ r2 ∧ r2 ≤ 9223372036854775807)
    (h3 : -9223372036854775808 ≤ r3 ∧ r3 ≤ 9223372036854775807) (hW : 0 ≤ W ∧ W ≤ 65535) (hL : 0 ≤ L ∧ L ≤ 3999) (hB : 0 ≤ B ∧ B ≤ 1048575) : ParOk (parW r0 r1 r2 r3 W L B R) where
  hr0 := h0
  hr1 := h1
  hr2 := h2
  hr3 := h3
  hW := hW
  hWp := chn_rng (by decide)
  hL := hL
  hB := hB
  hnP1 := chn_rng (by decide)
  hnP2 := chn_rng (by decide)
  hnP3 := chn_rng (by decide)
  hnP4 := chn_rng (by decide)
  hnP5 := chn_rng (by decide)
  hnQ1 := chn_rng (by decide)
  hnQ2 := chn_rng (by decide)
  hnQ3 := chn_rng (by decide)
  hnQ4 := chn_rng (by decide)
  hnQ5 := chn_rng (by decide)
  hnR1 := chn_rng (by decide)
  hnR2 := chn_rng (by decide)
theorem caseP (L : Int) (h : 0 ≤ L ∧ L ≤ 3999) : ∃ j, 1 ≤ j ∧ j ≤ 5 ∧ ∀ r0 r1 r2 r3 W B R, fP (parW r0 r1 r2 r3 W L B R) (sP j) = 16 * L + 1 ∧ fP (parW r0 r1 r2 r3 W L B R) (wP j) = 17825792 + (16 * L + 1) := by
  have main : ∀ {lo hi : Int} {r : Int}, lo ≤ 16 * L + 1 ∧ 16 * L + 1 ≤ hi → r = chn lo hi (16 * L + 1) → r = 16 * L + 1 ∧ 17825792 + r = 17825792 + (16 * L + 1) := by
    rintro lo hi r h rfl
    rw [chn_in h]; exact ⟨rfl, rfl⟩
  by_cases c1 : 16 * L + 1 ≤ 9
  · exact ⟨1, by omega, by omega, fun r0 r1 r2 r3 W B R => main (lo := 1) (hi := 9) (by omega) rfl⟩
  by_cases c2 : 16 * L + 1 ≤ 99
  · exact ⟨2, by omega, by omega, fun r0 r1 r2 r3 W B R => main (lo := 10) (hi := 99) (by omega) rfl⟩
  by_cases c3 : 16 * L + 1 ≤ 999
  · exact ⟨3, by omega, by omega, fun r0 r1 r2 r3 W B R => main (lo := 100) (hi := 999) (by omega) rfl⟩
  by_cases c4 : 16 * L + 1 ≤ 9999
  · exact ⟨4, by omega, by omega, fun r0 r1 r2 r3 W B R => main (lo := 1000) (hi := 9999) (by omega) rfl⟩
  · exact ⟨5, by omega, by omega, fun r0 r1 r2 r3 W B R => main (lo := 10000) (hi := 65535) (by omega) rfl⟩
theorem caseQ (W : Int) (h : 0 ≤ W ∧ W ≤ 65535) : ∃ k, k ≤ 5 ∧ ((k = 0 ∧ W = 0) ∨ (1 ≤ k ∧ ∀ r0 r1 r2 r3 L B R, fP (parW r0 r1 r2 r3 W L B R) (sQ k) = W ∧ fP (parW r0 r1 r2 r3 W L B R) (wQ k) = 18874368 + W)) := by
  have main : ∀ {lo hi : Int} {r : Int}, lo ≤ W ∧ W ≤ hi → r = chn lo hi W → r = W ∧ 18874368 + r = 18874368 + W := by
    rintro lo hi r h rfl
    rw [chn_in h]; exact ⟨rfl, rfl⟩
  by_cases c0 : W = 0
  · exact ⟨0, by omega, .inl ⟨rfl, c0⟩⟩
  by_cases c1 : W ≤ 9
  · exact ⟨1, by omega, .inr ⟨by omega, fun r0 r1 r2 r3 L B R => main (lo := 1) (hi := 9) (by omega) rfl⟩⟩
  by_cases c2 : W ≤ 99
  · exact ⟨2, by omega, .inr ⟨by omega, fun r0 r1 r2 r3 L B R => main (lo := 10) (hi := 99) (by omega) rfl⟩⟩
  by_cases c3 : W ≤ 999
  · exact ⟨3, by omega, .inr ⟨by omega, fun r0 r1 r2 r3 L B R => main (lo := 100) (hi := 999) (by omega) rfl⟩⟩
  by_cases c4 : W ≤ 9999
  · exact ⟨4, by omega, .inr ⟨by omega, fun r0 r1 r2 r3 L B R => main (lo := 1000) (hi := 9999) (by omega) rfl⟩⟩
  · exact ⟨5, by omega, .inr ⟨by omega, fun r0 r1 r2 r3 L B R => main (lo := 10000) (hi := 65535) (by omega) rfl⟩⟩
theorem fc (j k : Nat) (h1 : 1 ≤ j) (h2 : j ≤ 5) (h3 : k ≤ 5) : fC j k = true :=
  match j, k with
  | 1, 0 => fc10
  | 1, 1 => fc11
  | 1, 2 => fc12
  | 1, 3 => fc13
  | 1, 4 => fc14
  | 1, 5 => fc15
  | 2, 0 => fc20
  | 2, 1 => fc21
  | 2, 2 => fc22
  | 2, 3 => fc23
  | 2, 4 => fc24
  | 2, 5 => fc25
  | 3, 0 => fc30
  | 3, 1 => fc31
  | 3, 2 => fc32
  | 3, 3 => fc33
  | 3, 4 => fc34
  | 3, 5 => fc35
  | 4, 0 => fc40
  | 4, 1 => fc41
  | 4, 2 => fc42
  | 4, 3 => fc43
  | 4, 4 => fc44
  | 4, 5 => fc45
  | 5, 0 => fc50
  | 5, 1 => fc51
  | 5, 2 => fc52
  | 5, 3 => fc53
  | 5, 4 => fc54
  | 5, 5 => fc55
  | 0, _ => absurd h1 (by omega)
  | _ + 6, _ => absurd h2 (by omega)
  | _ + 1, _ + 6 => absurd h3 (by omega)
theorem len_le {l : List Nat} {n : Nat} (h : lenN l ≤ n) : l.length ≤ n := by
  have e : lenN l = l.length := by
    clear h
    induction l with
    | nil => rfl
    | cons a l ih => simp [lenN, ih]
  omega
theorem fc_small {j k : Nat} (h : fC j k = true) : okX (txt j k) = true ∧ (txt j k).length ≤ 1000 ∧ eqTr (wr .leaf 0 (blkC j k)) (wr .leaf 0 (blkC j k)) = true := by
  have two : ∀ {a b : Bool}, bc a b false = true → a = true ∧ b = true := by intro a b; cases a <;> cases b <;> simp [bc]
  obtain ⟨h, _⟩ := two (show bc (small0 j k) _ false = true from h)
  obtain ⟨h1, h⟩ := two (show bc _ _ false = true from h)
  obtain ⟨h2, h3⟩ := two h
  exact ⟨h1, len_le (by rw [ble_eq, decide_eq_true_eq] at h2; exact h2), h3⟩
variable [Sy]
theorem dok : DOk Tryz.prog cf (compD cf) := compD_DOk env_ok mixed
theorem t205 : TabM Tryz.prog 205 mm205 := tabM_of env_ok dok noSp_ok tab_ok m205
theorem sp1_ok : SpOk Tryz.prog sp1 := memoSp_ok (memoOf_is fun x hx => by
  simp only [tabs1, List.mem_cons, List.not_mem_nil, or_false] at hx
  subst hx; exact t205)
theorem t157 : TabM Tryz.prog 157 mm157 := tabM_of env_ok dok sp1_ok tab_ok m157
theorem sp2_ok : SpOk Tryz.prog sp2 := memoSp_ok (memoOf_is fun x hx => by
  simp only [tabs2, List.mem_cons, List.not_mem_nil, or_false] at hx
  rcases hx with rfl | rfl
  · exact t205
  · exact t157)
theorem t104 : TabM Tryz.prog 104 mm104 := tabM_of env_ok dok sp2_ok tab_ok m104
theorem sp3_ok : SpOk Tryz.prog sp3 := memoSp_ok (memoOf_is fun x hx => by
  simp only [tabs3, List.mem_cons, List.not_mem_nil, or_false] at hx
  rcases hx with rfl | rfl | rfl
  · exact t205
  · exact t157
  · exact t104)
theorem t62 : TabM Tryz.prog 62 mm62 := tabM_of env_ok dok sp3_ok tab_ok m62
theorem t211 : TabM Tryz.prog 211 mm211 := tabM_of env_ok dok sp3_ok tab_ok m211
theorem tabs5_ok : ∀ x, x ∈ tabs5 → TabM Tryz.prog x.1 x.2 := fun x hx => by
  simp only [tabs5, List.mem_cons, List.not_mem_nil, or_false] at hx
  rcases hx with rfl | rfl | rfl | rfl | rfl
  · exact t205
  · exact t157
  · exact t104
  · exact t62
  · exact t211
theorem spA_ok : SpOk Tryz.prog spA := mkSp_ok env_ok dok tab_ok (memoOf_is tabs5_ok)
theorem spC_ok : SpOk Tryz.prog spC := enumSp_ok env_ok dok tab_ok spA_ok
theorem t5 : TabM Tryz.prog 5 [([], .bool true)] := tabM_of env_ok dok spA_ok tab_ok alive_is
end Go.Ev
namespace Go.Ev
open Go.Proofs Go.RowKit
set_option maxRecDepth 100000
theorem eqs3 {α : Type} {a b c d e f : α} (h : [a, b, c] = [d, e, f]) : a = d ∧ b = e ∧ c = f := by simpa using h
section
variable [Sy]
structure WordsOk (j k : Nat) (l : List Nat) : Prop where
  r0 : -9223372036854775808 ≤ Sy.f 0 ∧ Sy.f 0 < 9223372036854775808
  r1 : -9223372036854775808 ≤ Sy.f 1 ∧ Sy.f 1 < 9223372036854775808
  r2 : -9223372036854775808 ≤ Sy.f 2 ∧ Sy.f 2 < 9223372036854775808
  e0 : pk (Sy.f 0) 65536 = Sy.f 7
  e1 : pk (Sy.f 1) 4000 = Sy.f 9
  e2 : pk (Sy.f 2) 1048576 = Sy.f 10
  hg : Sy.g 0 = txt j k
  hj : Sy.f 12 = Sy.f (sP j) ∧ Sy.f 13 = Sy.f (wP j)
  hk : (k = 0 ∧ Sy.f 7 = 0 ∧ Sy.f 18 = 18874368) ∨ (1 ≤ k ∧ Sy.f 7 = Sy.f (sQ k) ∧ Sy.f 18 = Sy.f (wQ k))
theorem tabP_ok {j k : Nat} {l : List Nat} (h : WordsOk j k l) : TabM Tryz.prog 6 tabP := ⟨fun l v hm B ρ s w xs ok hl => by
  simp only [tabP, List.mem_cons, List.not_mem_nil, or_false, Prod.mk.injEq] at hm
  rcases hm with ⟨rfl, rfl⟩ | ⟨rfl, rfl⟩ | ⟨rfl, rfl⟩
  · have hx : xs = [.int .i64 (Sy.f 0), .int .i64 65536] := by simpa [vals, val, i64, eq_comm] using hl
    subst hx
    refine ⟨Tryz.call6, Calls.mono (pickA (Sy.f 0) h.r0.1 h.r0.2 w) ?_⟩
    rintro e w' ⟨rfl, rfl⟩
    exact ⟨ρ, _, rfl, ok, Post.refl _ _, by rw [h.e0]; rfl⟩
  · have hx : xs = [.int .i64 (Sy.f 1), .int .i64 4000] := by simpa [vals, val, i64, eq_comm] using hl
    subst hx
    refine ⟨Tryz.call6, Calls.mono (pickB (Sy.f 1) h.r1.1 h.r1.2 w) ?_⟩
    rintro e w' ⟨rfl, rfl⟩
    exact ⟨ρ, _, rfl, ok, Post.refl _ _, by rw [h.e1]; rfl⟩
  · have hx : xs = [.int .i64 (Sy.f 2), .int .i64 1048576] := by simpa [vals, val, i64, eq_comm] using hl
    subst hx
    refine ⟨Tryz.call6, Calls.mono (pickC (Sy.f 2) h.r2.1 h.r2.2 w) ?_⟩
    rintro e w' ⟨rfl, rfl⟩
    exact ⟨ρ, _, rfl, ok, Post.refl _ _, by rw [h.e2]; rfl⟩⟩
theorem VsEq.refl : ∀ (l : List V), VsEq l l := fun _ _ => rfl
theorem blk_eq {j k : Nat} {l : List Nat} (h : WordsOk j k l) : Alike2 blkW (blkC j k) := by
  refine .cons (VEq.rfl' _) rfl rfl (.cons (VEq.sym _ h.hj.1) rfl rfl (.cons ?_ rfl ?_ .nil))
  · rcases h.hk with ⟨rfl, h1, _⟩ | ⟨h0, h1, _⟩
    · exact VEq.lit _ h1
    · unfold vQ
      rw [show Nat.beq k 0 = false by rw [beq_eq]; exact decide_eq_false (by omega)]
      exact VEq.sym _ h1
  · unfold vQ
    cases Nat.beq k 0 <;> rfl
theorem cells_eq {j k : Nat} {l : List Nat} (h : WordsOk j k l) : Alike2 cellsW (cellsC j k) := by
  refine .cons (VEq.rfl' _) rfl rfl (.cons (VEq.sym _ h.hj.2) rfl rfl (.cons ?_ rfl ?_ (.cons (VEq.rfl' _) rfl rfl (.cons (VEq.rfl' _) rfl rfl (.cons (VEq.rfl' _) rfl rfl .nil)))))
  · rcases h.hk with ⟨rfl, _, h1⟩ | ⟨h0, _, h1⟩
    · exact VEq.lit _ h1
    · unfold uQ
      rw [show Nat.beq k 0 = false by rw [beq_eq]; exact decide_eq_false (by omega)]
      exact VEq.sym _ h1
  · unfold uQ
    cases Nat.beq k 0 <;> rfl
theorem spW_ok {j k : Nat} {l : List Nat} (hf : fC j k = true) (h : WordsOk j k l) : SpOk Tryz.prog spW := by
  obtain ⟨h1, h2, h3⟩ := fc_small hf
  obtain ⟨h0, hf⟩ := bcT (show bc _ _ false = true from hf)
  obtain ⟨h4, h5⟩ := bcT hf
  refine nwSp_ok (mkSp2_ok (mkSp_ok env_ok dok tab_ok (memoOf_is fun x hx => ?_)) ?_) fun m hm => ?_
  · simp only [tabsW, List.mem_cons] at hx
    rcases hx with rfl | rfl | hx
    · exact tabP_ok h
    · exact t5
    · exact tabs5_ok x hx
  · have hc : HmsOk Tryz.prog 7 [hmC j k] := hms_of env_ok dok tab_ok (fuel := 3000) fun m hm => by
      simp only [List.mem_cons, List.not_mem_nil, or_false] at hm
      subst hm; exact h4
    have hv : VEq (.ssym 0 []) (.str (txt j k)) := by
      have := VEq.txt (i := 0) (l := []) h.hg rfl
      rwa [List.append_nil] at this
    exact hm_other hc (VsEq.refl _) (blk_eq h) hv h3
  · simp only [List.mem_cons, List.not_mem_nil, or_false] at hm
    subst hm
    have hv : VEq (.ssym 0 litW) (.str (app (txt j k) litW)) := by
      have := VEq.txt (i := 0) (l := litW) h.hg rfl
      rwa [← app_eq] at this
    exact nw_ok env_ok dok spC_ok tab_ok h5 (VsEq.cons hv VsEq.nil) (cells_eq h)
theorem words_row {j k : Nat} {l : List Nat} (hf : fC j k = true) (h : WordsOk j k l) : ∀ b : Bool, TabM Tryz.prog 3 (rowW b)
  | true => tabM_of env_ok dok (spW_ok hf h) tab_ok fw_true
  | false => tabM_of env_ok dok (spW_ok hf h) tab_ok fw_false
theorem words_run {j k : Nat} {l : List Nat} (hf : fC j k = true) (h : WordsOk j k l) (b : Bool) (w : World) :
    Calls Tryz.prog 3 #[.int .i64 (Sy.f 0), .int .i64 (Sy.f 1), .int .i64 (Sy.f 2), .bool b] w fun e w' => e = .returned (.bool true) ∧ Below w.heap.size w w' := by
  have hv : vals (fun _ => none) [V.sym 0 .i64, .sym 1 .i64, .sym 2 .i64, .bool b] = some [Value.int .i64 (Sy.f 0), .int .i64 (Sy.f 1), .int .i64 (Sy.f 2), .bool b] := rfl
  have hc := ((words_row hf h b).fn _ _ (List.mem_cons_self ..) (Bs.of w) _ _ w _ (ok_start w) hv).calls
  refine Calls.mono hc ?_
  rintro e w' ⟨ρ', x, rfl, ok1, _, hx⟩
  have hx : x = .bool true := by simpa [val, eq_comm] using hx
  subst hx
  exact ⟨rfl, ok1.os, ok1.tape, ok1.out, ok1.ofSize, fun j hj => ok1.ofOld hj⟩
end
theorem walk_TopWords (a l b : Int) (f : Bool) (ha : -9223372036854775808 ≤ a ∧ a < 9223372036854775808) (hl : -9223372036854775808 ≤ l ∧ l < 9223372036854775808) (hb : -9223372036854775808 ≤ b ∧ b < 9223372036854775808) (w : World) :
    Calls Tryz.prog 3 #[.int .i64 a, .int .i64 l, .int .i64 b, .bool f] w fun e w' => e = .returned (.bool true) ∧ Below w.heap.size w w' := by
  have pa := pk_range a (m := 65536) (by decide)
  have pl := pk_range l (m := 4000) (by decide)
  have pb := pk_range b (m := 1048576) (by decide)
  obtain ⟨j, j1, j2, hj⟩ := caseP (pk l 4000) (by omega)
  obtain ⟨k, k1, hk⟩ := caseQ (pk a 65536) (by omega)
  have hf := fc j k j1 j2 k1
  obtain ⟨g1, g2, _⟩ := fc_small hf
  have hp : ParOk (parW a l b 0 (pk a 65536) (pk l 4000) (pk b 1048576) 2) := parW_ok (by omega) (by omega) (by omega) (by omega) (by omega) (by omega) (by omega)
  letI : Sy := syP _ hp (fun _ => txt j k) (fun _ => g1) (fun _ => g2)
  refine words_run hf (l := []) ⟨ha, hl, hb, rfl, rfl, rfl, rfl, ⟨((hj a l b 0 _ _ 2).1).symm, ((hj a l b 0 _ _ 2).2).symm⟩, ?_⟩ f w
  rcases hk with ⟨h0, h1⟩ | ⟨h0, h1⟩
  · refine .inl ⟨h0, h1, ?_⟩
    show 18874368 + pk a 65536 = 18874368
    rw [h1]; rfl
  · exact .inr ⟨h0, ((h1 a l b 0 _ _ 2).1).symm, ((h1 a l b 0 _ _ 2).2).symm⟩
end Go.Ev
