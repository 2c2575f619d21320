/- The lifted law of TopWords. -/
import Derived.Test.YtiliabomdlhgoaaGreatDoorRows
import Derived.WalkKit
import Derived.ProofKit
import Derived.Lib.SmallJoins
import Derived.OpenShut
import Derived.Carry
import Derived.LaidMore
import Derived.Lay
import Derived.Stop.Joined
import Derived.Test.YtiliabomdlhgoaaGreatDoorWalkW
set_option linter.unusedSectionVars false
set_option linter.unusedVariables false
namespace Go.Proofs.YtiliabomdlhgoaaGreatDoor
open Go.Joins Go.ChangeShapes Go.WideShapes Go.ChangeAt Go.RowKit
set_option maxRecDepth 100000
theorem own : ownKnob Tryz.prog.godebug = none := by kernel_rfl
theorem i64_wf {x : Int} (h : (Lit.int .i64 x).wf = true) : -9223372036854775808 ≤ x ∧ x < 9223372036854775808 := by
  simp only [Lit.wf, IntKind.min, IntKind.max, IntKind.signed, IntKind.bits, Bool.and_eq_true, decide_eq_true_eq, if_true] at h
  omega
theorem laid_met (os : Os) (args : Array Value) : laidMetH Tryz.prog Rows.topWordsRow.laid ((World.laidAll Tryz.prog os Rows.topWordsRow.laid).forCall (fun _ _ => 0) ⟨#[], args, []⟩).memory := by
  rw [MakeChecks.laidMetH_plain _ _ _ (by kernel_rfl)]
  exact laidMet_laidAll _ (by kernel_rfl) (by kernel_rfl)
theorem laid_shaped (os : Os) : (World.laidAll Tryz.prog os Rows.topWordsRow.laid).Shaped Tryz.prog := World.shaped_of_ZipB (by kernel_rfl) (by kernel_rfl)
set_option maxHeartbeats 4000000 in
theorem TopWords_lifted (os : Os) (started : os.Started) (H : Type) (enc : TypeId × Value → H) :
    ReturnsInHanded {} Tryz.checked os 3 .any (fun w args => (Rows.topWordsSpec.pre enc Tryz.prog Tryz.f3 Rows.topWordsRow.domain false w args ∧ laidMetH Tryz.prog Rows.topWordsRow.laid w) ∧ sizedMet enc Tryz.prog Tryz.f3 (OpenSpec.ofChange Rows.topWordsSpec) false w args)
      (Rows.topWordsSpec.post enc Tryz.prog Tryz.f3 false true false false) := by
  refine returnsInHanded_of_change_and (C := Tryz.checked) (X := fun w _ => laidMetH Tryz.prog Rows.topWordsRow.laid w) (fun _ _ _ hh h => h.of_heap hh) own started (by kernel_rfl) Tryz.func3
    (ChangeSpec.witness_shaped (enc := enc) (C := Tryz.checked) (os := os) (X := fun w _ => laidMetH Tryz.prog Rows.topWordsRow.laid w) false (World.laidAll Tryz.prog os Rows.topWordsRow.laid) #[.int .i64 0, .int .i64 0, .int .i64 0, .bool false] 8 (World.laidAll_os _ _ _)
      (laid_shaped os) (by kernel_rfl) (by kernel_rfl) (by kernel_rfl) (laid_met os _)) ?_
  intro W base args ds gs before hval0 hW hc _ hL _
  have hval : ∀ (j : Nat) t v, Tryz.f3.params[j]? = some t → args[j]? = some v → Value.okWide Tryz.prog W .any base t v := hval0
  have hW' := hW
  obtain ⟨p, q, hA0, hV, rfl, hfz, hnd⟩ := hW
  have hA : DataW.TrodAll enc Tryz.prog W 0 (fun _ => true) true Tryz.f3.params.toList args.toList ds p := hA0
  rw [Tryz.params3] at hA hval
  obtain ⟨rfl, rfl⟩ := trodVars_none hV
  clear hA0 hval0
  obtain ⟨args⟩ := args
  obtain ⟨v0, vs0, d0, ds0, p0, q0, ha0, rfl, rfl, h0, r0⟩ := trodAll_cons hA
  obtain ⟨v1, vs1, d1, ds1, p1, q1, rfl, rfl, rfl, h1, r1⟩ := trodAll_cons r0
  obtain ⟨v2, vs2, d2, ds2, p2, q2, rfl, rfl, rfl, h2, r2⟩ := trodAll_cons r1
  obtain ⟨v3, vs3, d3, ds3, p3, q3, rfl, rfl, rfl, h3, r3⟩ := trodAll_cons r2
  simp only at ha0
  subst ha0
  obtain ⟨hn, rfl, rfl⟩ := trodAll_nil r3
  subst hn
  obtain ⟨a, rfl, rfl, rfl, wf_a⟩ := open_int Tryz.underlying3 (hval 0 3 v0 rfl rfl) h0
  obtain ⟨l, rfl, rfl, rfl, wf_l⟩ := open_int Tryz.underlying3 (hval 1 3 v1 rfl rfl) h1
  obtain ⟨b, rfl, rfl, rfl, wf_b⟩ := open_int Tryz.underlying3 (hval 2 3 v2 rfl rfl) h2
  obtain ⟨f, rfl, rfl, rfl⟩ := open_bool Tryz.underlying4 (hval 3 4 v3 rfl rfl) h3
  have hba := i64_wf wf_a
  have hbl := i64_wf wf_l
  have hbb := i64_wf wf_b
  refine (Go.Ev.walk_TopWords a l b f hba hbl hbb W).mono fun e W' ⟨he, hb⟩ => ⟨_, he, ?_⟩
  have e1 : Rows.topWordsSpec.fn H ([.lit (.int .i64 a), .lit (.int .i64 l), .lit (.int .i64 b), .lit (.bool f)] ++ []) = { results := [.lit (.bool true)], args := [.lit (.int .i64 a), .lit (.int .i64 l), .lit (.int .i64 b), .lit (.bool f)] } := by simp [Rows.topWordsSpec]
  refine ⟨_, _, _, [], [], [], hW', ?_, ?_, ?_, hb.frame _, fun h => by cases h⟩
  · rw [e1]; exact trodAll_mk1 (shut_bool Tryz.underlying4 true)
  · rw [e1]; exact trodAll_mk4 (shut_int Tryz.underlying3 wf_a) (shut_int Tryz.underlying3 wf_l) (shut_int Tryz.underlying3 wf_b) (shut_bool Tryz.underlying4 f)
  · rw [e1]; rfl
end Go.Proofs.YtiliabomdlhgoaaGreatDoor
