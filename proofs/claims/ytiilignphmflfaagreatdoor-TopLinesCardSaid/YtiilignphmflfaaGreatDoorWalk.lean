/- TopLines answers true whatever line, badge and number of turns, and leaves all old memory as it was; no condition. -/
import Derived.WalkKit
import Derived.Laws.BitsLemmas
import Derived.Below
import Derived.Test.YtiilignphmflfaaGreatDoorTab
import Derived.Test.YtiilignphmflfaaGreatDoorFa
import Derived.Test.YtiilignphmflfaaGreatDoorFb
import Derived.Test.YtiilignphmflfaaGreatDoorAl
import Derived.Test.YtiilignphmflfaaGreatDoorN0
import Derived.Test.YtiilignphmflfaaGreatDoorN1
import Derived.Test.YtiilignphmflfaaGreatDoorN2
import Derived.Test.YtiilignphmflfaaGreatDoorN3
import Derived.Test.YtiilignphmflfaaGreatDoorN4
import Derived.Test.YtiilignphmflfaaGreatDoorN5
import Derived.Test.YtiilignphmflfaaGreatDoorN6
import Derived.Test.YtiilignphmflfaaGreatDoorN7
import Derived.Test.YtiilignphmflfaaGreatDoorN8
import Derived.Test.YtiilignphmflfaaGreatDoorN9
import Derived.Test.YtiilignphmflfaaGreatDoorN10
import Derived.Test.YtiilignphmflfaaGreatDoorN11
import Derived.Test.YtiilignphmflfaaGreatDoorN12
import Derived.Test.YtiilignphmflfaaGreatDoorN13
import Derived.Test.YtiilignphmflfaaGreatDoorN14
import Derived.Test.YtiilignphmflfaaGreatDoorN15
set_option linter.unusedSectionVars false
set_option linter.unusedVariables false
namespace Go.Ev
open Go.Proofs Go.RowKit
set_option maxRecDepth 100000
def pk (c m : Int) : Int := if c < 0 then (-(c + 1)) % m else c % m
theorem pk_range (c : Int) {m : Int} (h : 0 < m) : 0 ≤ pk c m ∧ pk c m < m := by
  unfold pk
  split
  · exact ⟨Int.emod_nonneg _ (by omega), Int.emod_lt_of_pos _ h⟩
  · exact ⟨Int.emod_nonneg _ (by omega), Int.emod_lt_of_pos _ h⟩
variable [Sy]
theorem pick16 (c : Int) (h1 : -9223372036854775808 ≤ c) (h2 : c < 9223372036854775808) (w : World) : Calls Tryz.prog 5 #[.int .i64 c, .int .i64 16] w fun e w' => e = .returned (.int .i64 (pk c 16)) ∧ w' = w := by
  go_enter Tryz.func5, Tryz.ntmps5
  go_wp2
  · rename_i hc
    have hm : -(c + 1).tmod 16 = (-(c + 1)) % 16 := by rw [← Int.neg_tmod, Int.tmod_eq_emod_of_nonneg (by omega)]
    refine ⟨rfl, _, results_tmp rfl _ _ _, ?_, rfl⟩
    unfold pk
    rw [if_pos (by omega), ← hm]; rfl
  · rename_i hc
    refine ⟨rfl, _, results_tmp rfl _ _ _, ?_, rfl⟩
    unfold pk
    rw [if_neg (by omega)]; rfl
theorem pick20 (c : Int) (h1 : -9223372036854775808 ≤ c) (h2 : c < 9223372036854775808) (w : World) : Calls Tryz.prog 5 #[.int .i64 c, .int .i64 1048575] w fun e w' => e = .returned (.int .i64 (pk c 1048575)) ∧ w' = w := by
  go_enter Tryz.func5, Tryz.ntmps5
  go_wp2
  · rename_i hc
    have hm : -(c + 1).tmod 1048575 = (-(c + 1)) % 1048575 := by rw [← Int.neg_tmod, Int.tmod_eq_emod_of_nonneg (by omega)]
    refine ⟨rfl, _, results_tmp rfl _ _ _, ?_, rfl⟩
    unfold pk
    rw [if_pos (by omega), ← hm]; rfl
  · rename_i hc
    refine ⟨rfl, _, results_tmp rfl _ _ _, ?_, rfl⟩
    unfold pk
    rw [if_neg (by omega)]; rfl
theorem pick4 (c : Int) (h1 : -9223372036854775808 ≤ c) (h2 : c < 9223372036854775808) (w : World) : Calls Tryz.prog 5 #[.int .i64 c, .int .i64 4] w fun e w' => e = .returned (.int .i64 (pk c 4)) ∧ w' = w := by
  go_enter Tryz.func5, Tryz.ntmps5
  go_wp2
  · rename_i hc
    have hm : -(c + 1).tmod 4 = (-(c + 1)) % 4 := by rw [← Int.neg_tmod, Int.tmod_eq_emod_of_nonneg (by omega)]
    refine ⟨rfl, _, results_tmp rfl _ _ _, ?_, rfl⟩
    unfold pk
    rw [if_pos (by omega), ← hm]; rfl
  · rename_i hc
    refine ⟨rfl, _, results_tmp rfl _ _ _, ?_, rfl⟩
    unfold pk
    rw [if_neg (by omega)]; rfl
theorem allH_mem {f : Nat} : ∀ {l : List Hm}, allH f l = true → ∀ m ∈ l, hmFact tab (plainC tab 3000) 3000 f m = true
  | [], _, m, hm => by simp at hm
  | a :: l, h, m, hm => by
    obtain ⟨h1, h2⟩ := bcT (show bc _ _ false = true from h)
    rcases List.mem_cons.1 hm with rfl | hm
    · exact h1
    · exact allH_mem h2 m hm
theorem ack_all : ∀ n, n < 16 → allH 86 (ackL n) = true
  | 0, _ => ack_0
  | 1, _ => ack_1
  | 2, _ => ack_2
  | 3, _ => ack_3
  | 4, _ => ack_4
  | 5, _ => ack_5
  | 6, _ => ack_6
  | 7, _ => ack_7
  | 8, _ => ack_8
  | 9, _ => ack_9
  | 10, _ => ack_10
  | 11, _ => ack_11
  | 12, _ => ack_12
  | 13, _ => ack_13
  | 14, _ => ack_14
  | 15, _ => ack_15
  | n + 16, h => absurd h (by omega)
theorem hiSel_in (q l : Nat) (cur : V) : ∀ m ∈ hiSel q l cur, m ∈ hi3 q [] := by
  intro m hm
  unfold hiSel at hm
  rw [bc_eq] at hm
  split at hm
  · simp only [List.mem_cons, List.not_mem_nil, or_false] at hm
    subst hm; simp [hi3]
  · rw [bc_eq] at hm
    split at hm
    · simp only [List.mem_cons, List.not_mem_nil, or_false] at hm
      subst hm; simp [hi3]
    · simp only [List.mem_cons, List.not_mem_nil, or_false] at hm
      subst hm; simp [hi3]
theorem hi3_sub (q : Nat) (r : List Hm) : ∀ m ∈ hi3 q [], m ∈ hi3 q r := by
  intro m hm
  simp only [hi3, List.mem_cons, List.not_mem_nil, or_false] at hm ⊢
  rcases hm with h | h | h
  · exact .inl h
  · exact .inr (.inl h)
  · exact .inr (.inr (.inl h))
theorem hi3_tail (q : Nat) (r : List Hm) : ∀ m ∈ r, m ∈ hi3 q r := fun m hm => List.mem_cons_of_mem _ (List.mem_cons_of_mem _ (List.mem_cons_of_mem _ hm))
theorem selH_in (args : List V) (s : S) : ∀ m ∈ selH66 args s, m ∈ hiL := by
  intro m hm
  unfold selH66 at hm
  split at hm
  · split at hm
    · unfold hiOf at hm
      simp only [bc_eq] at hm
      unfold hiL
      split at hm
      · exact hi3_tail _ _ _ (hi3_tail _ _ _ (hi3_tail _ _ _ (hi3_tail _ _ _ (hi3_sub _ _ _ (hiSel_in _ _ _ _ hm)))))
      · split at hm
        · exact hi3_tail _ _ _ (hi3_tail _ _ _ (hi3_tail _ _ _ (hi3_sub _ _ _ (hiSel_in _ _ _ _ hm))))
        · split at hm
          · exact hi3_tail _ _ _ (hi3_tail _ _ _ (hi3_sub _ _ _ (hiSel_in _ _ _ _ hm)))
          · split at hm
            · exact hi3_tail _ _ _ (hi3_sub _ _ _ (hiSel_in _ _ _ _ hm))
            · split at hm
              · exact hi3_sub _ _ _ (hiSel_in _ _ _ _ hm)
              · simp at hm
    · simp at hm
  · simp at hm
theorem selA_in (n : Nat) (args : List V) (s : S) : ∀ m ∈ selA n args s, m ∈ ackL n := by
  intro m hm
  unfold selA at hm
  unfold ackL
  split at hm
  · simp only [bc_eq] at hm
    split at hm
    · split at hm
      · simp only [List.mem_cons, List.not_mem_nil, or_false] at hm ⊢
        simp [hm]
      · simp only [List.mem_cons, List.not_mem_nil, or_false] at hm ⊢
        simp [hm]
    · split at hm
      · split at hm
        · simp only [List.mem_cons, List.not_mem_nil, or_false] at hm ⊢
          simp [hm]
        · simp only [List.mem_cons, List.not_mem_nil, or_false] at hm ⊢
          simp [hm]
      · simp only [List.mem_cons, List.not_mem_nil, or_false] at hm ⊢
        simp [hm]
  · simp at hm
section
theorem t254 : TabM Tryz.prog 254 mm254 := tabM_of env_ok dok noSp_ok tab_ok m254
theorem sp1_ok : SpOk Tryz.prog sp1 := memoSp_ok (memoOf_is fun x hx => by
  simp only [tabs1, List.mem_cons, List.not_mem_nil, or_false] at hx
  subst hx; exact t254)
theorem t183 : TabM Tryz.prog 183 mm183 := tabM_of env_ok dok sp1_ok tab_ok m183
theorem sp2_ok : SpOk Tryz.prog sp2 := memoSp_ok (memoOf_is fun x hx => by
  simp only [tabs2, List.mem_cons, List.not_mem_nil, or_false] at hx
  rcases hx with rfl | rfl
  · exact t254
  · exact t183)
theorem t124 : TabM Tryz.prog 124 mm124 := tabM_of env_ok dok sp2_ok tab_ok m124
theorem sp3_ok : SpOk Tryz.prog sp3 := memoSp_ok (memoOf_is fun x hx => by
  simp only [tabs3, List.mem_cons, List.not_mem_nil, or_false] at hx
  rcases hx with rfl | rfl | rfl
  · exact t254
  · exact t183
  · exact t124)
theorem t70 : TabM Tryz.prog 70 mm70 := tabM_of env_ok dok sp3_ok tab_ok m70
theorem t186 : TabM Tryz.prog 186 mm186 := tabM_of env_ok dok sp3_ok tab_ok m186
theorem tabs5_ok : ∀ x, x ∈ tabs5 → TabM Tryz.prog x.1 x.2 := fun x hx => by
  simp only [tabs5, List.mem_cons, List.not_mem_nil, or_false] at hx
  rcases hx with rfl | rfl | rfl | rfl | rfl
  · exact t254
  · exact t183
  · exact t124
  · exact t70
  · exact t186
theorem spA_ok : SpOk Tryz.prog spA := mkSp_ok env_ok dok tab_ok (memoOf_is tabs5_ok)
theorem t4 : TabM Tryz.prog 4 [([], .bool true)] := tabM_of env_ok dok spA_ok tab_ok alive_is
structure PickOk (n : Nat) : Prop where
  r1 : -9223372036854775808 ≤ Sy.f 1 ∧ Sy.f 1 < 9223372036854775808
  r2 : -9223372036854775808 ≤ Sy.f 2 ∧ Sy.f 2 < 9223372036854775808
  r3 : -9223372036854775808 ≤ Sy.f 3 ∧ Sy.f 3 < 9223372036854775808
  e1 : pk (Sy.f 1) 4 = Sy.f 5
  e2 : pk (Sy.f 2) 16 = n
  e3 : pk (Sy.f 3) 1048575 = Sy.f 4
theorem tabP_ok {n : Nat} (h : PickOk n) : TabM Tryz.prog 5 (tabP n) := ⟨fun l v hm B ρ s w xs ok hl => by
  simp only [tabP, List.mem_cons, List.not_mem_nil, or_false, Prod.mk.injEq] at hm
  rcases hm with ⟨rfl, rfl⟩ | ⟨rfl, rfl⟩ | ⟨rfl, rfl⟩
  · have hx : xs = [.int .i64 (Sy.f 2), .int .i64 16] := by simpa [vals, val, eq_comm] using hl
    subst hx
    refine ⟨Tryz.call5, Calls.mono (pick16 (Sy.f 2) h.r2.1 h.r2.2 w) ?_⟩
    rintro e w' ⟨rfl, rfl⟩
    exact ⟨ρ, _, rfl, ok, Post.refl _ _, by rw [h.e2]; rfl⟩
  · have hx : xs = [.int .i64 (Sy.f 3), .int .i64 1048575] := by simpa [vals, val, eq_comm] using hl
    subst hx
    refine ⟨Tryz.call5, Calls.mono (pick20 (Sy.f 3) h.r3.1 h.r3.2 w) ?_⟩
    rintro e w' ⟨rfl, rfl⟩
    exact ⟨ρ, _, rfl, ok, Post.refl _ _, by rw [h.e3]; rfl⟩
  · have hx : xs = [.int .i64 (Sy.f 1), .int .i64 4] := by simpa [vals, val, eq_comm] using hl
    subst hx
    refine ⟨Tryz.call5, Calls.mono (pick4 (Sy.f 1) h.r1.1 h.r1.2 w) ?_⟩
    rintro e w' ⟨rfl, rfl⟩
    exact ⟨ρ, _, rfl, ok, Post.refl _ _, by rw [h.e1]; rfl⟩⟩
theorem mkSp3_ok {P : Program} {sp : Nat → List V → S → Option OR} (h0 : SpOk P sp) {f0 : Nat} {sel : List V → S → List Hm} (hm : ∀ args s, HmsOk P f0 (sel args s)) : SpOk P (mkSp3 sp f0 sel) := by
  refine ⟨fun w0 f l s v s' ρ w xs h ok hl => ?_⟩
  unfold mkSp3 at h
  rw [bc_eq] at h
  split at h
  · rename_i hf
    have hf := Nat.eq_of_beq_eq_true hf
    subst hf
    split at h
    · rename_i r hr
      simp only [Option.some.injEq] at h
      subst h
      exact hmFind_ok ok hl (hm _ _) hr
    · exact h0.fn _ _ _ _ _ _ _ _ _ h ok hl
  · exact h0.fn _ _ _ _ _ _ _ _ _ h ok hl
theorem spB_ok {n : Nat} (hn : n < 16) (h : PickOk n) : SpOk Tryz.prog (spB n) := by
  refine mkSp3_ok (mkSp3_ok (mkSpS_ok (mkSp_ok env_ok dok tab_ok (memoOf_is fun x hx => ?_))) fun args s => hms_of env_ok dok tab_ok (fuel := 3000) fun m hm => ?_) fun args s => hms_of env_ok dok tab_ok (fuel := 3000) fun m hm => ?_
  · simp only [tabsP, List.mem_cons] at hx
    rcases hx with rfl | rfl | hx
    · exact tabP_ok h
    · exact t4
    · exact tabs5_ok x hx
  · exact allH_mem hi_is m (selH_in args s m hm)
  · exact allH_mem (ack_all n hn) m (selA_in n args s m hm)
end
end Go.Ev
namespace Go.Ev
open Go.Proofs Go.RowKit
set_option maxRecDepth 100000
def tlK : Code → Nat → Code
  | c, 0 => c
  | c, n + 1 => tlK (sndC c) n
def blkK' : Code → Code
  | .block _ c => c
  | c => c
def loopK : Code → Code
  | .loop c => c
  | c => c
noncomputable def b3 : Code := Tryz.f3.body.getD .skip
noncomputable def big3 : Code := fstC (tlK b3 10)
noncomputable def loop3 : Code := loopK (blkK' (sndC big3))
noncomputable def R3 : Code := fstC (fstC loop3)
noncomputable def B3 : Code := sndC loop3
noncomputable def tl3 : Code := tlK b3 11
noncomputable def pc3 (i : Nat) : Code := fstC (tlK b3 i)
def K3 : Nat := 87902696754139624186414413611225467039339768583156662271
theorem b3_is : Tryz.f3.body = some (seqs [pc3 0, pc3 1, pc3 2, pc3 3, pc3 4, pc3 5, pc3 6, pc3 7, pc3 8, pc3 9] (.seq (.seq (fstC big3) (.block 2 (.loop (.seq (.seq R3 (.cond (.tmp 84) .skip (.exit 2))) B3)))) tl3)) := by kernel_rfl
theorem comp3 (i : Nat) (h : i < 10) : compC (compD cf) cf K3 187 (pc3 i) = some (headC (tlN bodyT i)) := by
  have h1 : (List.range 10).map (fun i => compC (compD cf) cf K3 187 (pc3 i)) = (List.range 10).map fun i => some (headC (tlN bodyT i)) := by kernel_rfl
  exact pick_map h1 h
theorem compR3 : compC (compD cf) cf K3 187 R3 = some testT := by kernel_rfl
theorem compB3 : compC (compD cf) cf K3 187 B3 = some turnT := by kernel_rfl
theorem comptl3 : compC (compD cf) cf K3 187 tl3 = some tailT := by kernel_rfl
theorem comp03 : compC (compD cf) cf K3 187 (fstC big3) = some (headC bigT) := by kernel_rfl
theorem comps3 : Comps (compD cf) cf K3 187 [pc3 0, pc3 1, pc3 2, pc3 3, pc3 4, pc3 5, pc3 6, pc3 7, pc3 8, pc3 9] (pcs bodyT 10) :=
  .cons (comp3 0 (by omega)) (.cons (comp3 1 (by omega)) (.cons (comp3 2 (by omega)) (.cons (comp3 3 (by omega)) (.cons (comp3 4 (by omega)) (.cons (comp3 5 (by omega)) (.cons (comp3 6 (by omega)) (.cons (comp3 7 (by omega)) (.cons (comp3 8 (by omega)) (.cons (comp3 9 (by omega)) .nil)))))))))
theorem facts : ∀ n, n < 16 → f1 n = true ∧ f2 n = true ∧ f3 n = true
  | 0, _ => ⟨f1_0, f2_0, f3_0⟩
  | 1, _ => ⟨f1_1, f2_1, f3_1⟩
  | 2, _ => ⟨f1_2, f2_2, f3_2⟩
  | 3, _ => ⟨f1_3, f2_3, f3_3⟩
  | 4, _ => ⟨f1_4, f2_4, f3_4⟩
  | 5, _ => ⟨f1_5, f2_5, f3_5⟩
  | 6, _ => ⟨f1_6, f2_6, f3_6⟩
  | 7, _ => ⟨f1_7, f2_7, f3_7⟩
  | 8, _ => ⟨f1_8, f2_8, f3_8⟩
  | 9, _ => ⟨f1_9, f2_9, f3_9⟩
  | 10, _ => ⟨f1_10, f2_10, f3_10⟩
  | 11, _ => ⟨f1_11, f2_11, f3_11⟩
  | 12, _ => ⟨f1_12, f2_12, f3_12⟩
  | 13, _ => ⟨f1_13, f2_13, f3_13⟩
  | 14, _ => ⟨f1_14, f2_14, f3_14⟩
  | 15, _ => ⟨f1_15, f2_15, f3_15⟩
  | n + 16, h => absurd h (by omega)
def syF (l b o : Int) : Nat → Int
  | 0 => 1 + pk b 1048575
  | 1 => o
  | 2 => l
  | 3 => b
  | 4 => pk b 1048575
  | 5 => pk o 4
  | 6 => 1 + pk o 4
  | _ => 0
@[reducible] def syI (l b o : Int) : Sy where
  f := syF l b o
  lo := by have := pk_range b (m := 1048575) (by decide); show 1 ≤ 1 + pk b 1048575; omega
  hi := by have := pk_range b (m := 1048575) (by decide); show 1 + pk b 1048575 < 1048576; omega
  up := rfl
  q0 := by have := pk_range o (m := 4) (by decide); show 0 ≤ pk o 4; omega
  q1 := by have := pk_range o (m := 4) (by decide); show pk o 4 < 4; omega
  up2 := rfl
theorem stT_small (n j : Nat) : ∀ x ∈ stT n j, x.1 < 65536 := by
  intro x hx
  simp only [stT, List.mem_cons, List.not_mem_nil, or_false] at hx
  rcases hx with rfl | rfl | rfl | rfl | rfl | rfl <;> (show _ < 65536; omega)
theorem K3_84 : Nat.testBit K3 84 = true := by decide
theorem K3_6 : Nat.testBit K3 6 = true := by decide
theorem K3_s : K3 >>> 65536 = 0 := by decide
theorem walk_TopLines (l b o : Int) (hl : -9223372036854775808 ≤ l ∧ l < 9223372036854775808) (hb : -9223372036854775808 ≤ b ∧ b < 9223372036854775808) (ho : -9223372036854775808 ≤ o ∧ o < 9223372036854775808) (w : World) :
    Calls Tryz.prog 3 #[.int .i64 l, .int .i64 b, .int .i64 o] w fun e w' => e = .returned (.bool true) ∧ Below w.heap.size w w' := by
  letI : Sy := syI l b o
  obtain ⟨p0, p1⟩ := pk_range l (m := 16) (by decide)
  obtain ⟨n, hn⟩ : ∃ n : Nat, pk l 16 = n := ⟨(pk l 16).toNat, by rw [Int.toNat_of_nonneg p0]⟩
  have hn16 : n < 16 := by omega
  have hp : PickOk n := ⟨ho, hl, hb, rfl, hn, rfl⟩
  have hsp := spB_ok hn16 hp
  obtain ⟨k1, k2, k3⟩ := facts n hn16
  refine calls_of_wp Tryz.func3 b3_is ?_
  obtain ⟨a0, ha0⟩ : ∃ a0 : Act, a0 = { tmps := #[.int .i64 l, .int .i64 b, .int .i64 o] ++ Array.replicate (Tryz.f3.ntmps - (#[Value.int .i64 l, .int .i64 b, .int .i64 o] : Array Value).size) undef, defers := [] } := ⟨_, rfl⟩
  rw [← ha0]
  have hnt : Tryz.f3.ntmps = 187 := Tryz.ntmps3
  have hsz : a0.tmps.size = 187 := by rw [ha0, hnt]; simp
  have h0 : a0.tmps.getD 0 undef = .int .i64 l := by rw [ha0]; simp [Array.getD_eq_getD_getElem?]
  have h1 : a0.tmps.getD 1 undef = .int .i64 b := by rw [ha0]; simp [Array.getD_eq_getD_getElem?]
  have h2 : a0.tmps.getD 2 undef = .int .i64 o := by rw [ha0]; simp [Array.getD_eq_getD_getElem?]
  have hd0 : a0.defers = [] := by rw [ha0]
  clear ha0
  have F0 : Fr K3 187 (fun _ => none) tA [] a0 := by
    refine ⟨hsz, fun m _ hm => ?_, fun _ _ h => by simp at h⟩
    unfold tA
    rw [getP_putP, getP_putP, getP_putP]
    split
    · rename_i h
      rw [path_inj hm (by omega) h, h0]
      exact .inr rfl
    · split
      · rename_i h
        rw [path_inj hm (by omega) h, h1]
        exact .inr rfl
      · split
        · rename_i h
          rw [path_inj hm (by omega) h, h2]
          exact .inr rfl
        · exact .inl (getP_leaf _)
  have H : Snd Tryz.prog (compD cf) cf (Bs.of w) K3 187 (ev (spB n) tab 2000) := fun d c hc =>
    code_ok (w0 := Bs.of w) env_ok dok K3_s (spB n) tab 2000 (fun f _ => call_ok env_ok dok (spB n) tab hsp tab_ok f) 2000 (Nat.le_refl _) d c hc
  have hQ : ∀ (ρ : Rho) (s : S) (a : Act) (w1 : World), Ok (Bs.of w) ρ s w1 → a.tmps.getD 6 undef = .bool true → a.defers = [] → bodyPost Tryz.prog Tryz.f3 (fun e w' => e = .returned (.bool true) ∧ Below w.heap.size w w') .ret a w1 := by
    intro ρ s a w1 ok1 hr hd
    refine ⟨hd, .bool true, ?_, rfl, ?_⟩
    · rw [results_eq, Tryz.results3]
      simp [resultSem, hr]
    · exact ⟨ok1.os, ok1.tape, ok1.out, ok1.ofSize, fun j hj => ok1.ofOld hj⟩
  refine top_wp H comps3 comp03 (n := 2 + (3 + 0)) (k := hitS (stT n 0) (st0 n) 1096) ?_ (show okL _ _ tA (.mk .leaf 0) _ = true from k1) F0 (ok_start w) hd0
  intro t s ρ a w1 hk F ok hd
  obtain ⟨F1, ok1⟩ := hitS_ok hk (stT_small n 0) F ok
  refine turns_wp H compR3 compB3 comptl3 K3_84 (by omega) K3_6 (by omega) hQ ?_ 2 0 _ _ ρ a w1 (segK_eq k2) F1 ok1 hd
  intro j2 t2 s2 ρ2 a2 w2 hk2 F2 ok2 hd2
  obtain ⟨F3, ok3⟩ := hitS_ok (show hitS (stT n 2) (st2 n) 3366 t2 s2 = true from hk2) (stT_small n 2) F2 ok2
  refine turns_wp H compR3 compB3 comptl3 K3_84 (by omega) K3_6 (by omega) hQ ?_ 3 2 _ _ ρ2 a2 w2 (segK_eq k3) F3 ok3 hd2
  intro j4 t4 s4 ρ4 a4 w4 hk4 _ _ _
  exact absurd (show false = true from hk4) (by simp)
end Go.Ev
