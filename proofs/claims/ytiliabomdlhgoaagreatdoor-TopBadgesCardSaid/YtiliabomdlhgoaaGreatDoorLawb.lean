/- The lifted law of TopBadges. -/
import Derived.Test.YtiliabomdlhgoaaGreatDoorRows
import Derived.WalkKit
import Derived.ProofKit
import Derived.Lib.SmallJoins
import Derived.OpenShut
import Derived.Carry
import Derived.LaidMore
import Derived.Lay
import Derived.Stop.Joined
import Derived.Test.YtiliabomdlhgoaaGreatDoorWalkB
set_option linter.unusedSectionVars false
set_option linter.unusedVariables false
namespace Go.Proofs.YtiliabomdlhgoaaGreatDoor
open Go.Joins Go.ChangeShapes Go.WideShapes Go.ChangeAt Go.RowKit
set_option maxRecDepth 100000
theorem own : ownKnob Tryz.prog.godebug = none := by kernel_rfl
theorem i64_wf {x : Int} (h : (Lit.int .i64 x).wf = true) : -9223372036854775808 ≤ x ∧ x < 9223372036854775808 := by
  simp only [Lit.wf, IntKind.min, IntKind.max, IntKind.signed, IntKind.bits, Bool.and_eq_true, decide_eq_true_eq, if_true] at h
  omega
theorem laid_met (os : Os) (args : Array Value) : laidMetH Tryz.prog Rows.topBadgesRow.laid ((World.laidAll Tryz.prog os Rows.topBadgesRow.laid).forCall (fun _ _ => 0) ⟨#[], args, []⟩).memory := by
  rw [MakeChecks.laidMetH_plain _ _ _ (by kernel_rfl)]
  exact laidMet_laidAll _ (by kernel_rfl) (by kernel_rfl)
theorem laid_shaped (os : Os) : (World.laidAll Tryz.prog os Rows.topBadgesRow.laid).Shaped Tryz.prog := World.shaped_of_ZipB (by kernel_rfl) (by kernel_rfl)
set_option maxHeartbeats 4000000 in
theorem TopBadges_lifted (os : Os) (started : os.Started) (H : Type) (enc : TypeId × Value → H) :
    ReturnsInHanded {} Tryz.checked os 4 .any (fun w args => (Rows.topBadgesSpec.pre enc Tryz.prog Tryz.f4 Rows.topBadgesRow.domain false w args ∧ laidMetH Tryz.prog Rows.topBadgesRow.laid w) ∧ sizedMet enc Tryz.prog Tryz.f4 (OpenSpec.ofChange Rows.topBadgesSpec) false w args)
      (Rows.topBadgesSpec.post enc Tryz.prog Tryz.f4 false true false false) := by
  refine returnsInHanded_of_change_and (C := Tryz.checked) (X := fun w _ => laidMetH Tryz.prog Rows.topBadgesRow.laid w) (fun _ _ _ hh h => h.of_heap hh) own started (by kernel_rfl) Tryz.func4
    (ChangeSpec.witness_shaped (enc := enc) (C := Tryz.checked) (os := os) (X := fun w _ => laidMetH Tryz.prog Rows.topBadgesRow.laid w) false (World.laidAll Tryz.prog os Rows.topBadgesRow.laid) #[.int .i64 0, .int .i64 0] 8 (World.laidAll_os _ _ _)
      (laid_shaped os) (by kernel_rfl) (by kernel_rfl) (by kernel_rfl) (laid_met os _)) ?_
  intro W base args ds gs before hval0 hW hc _ hL _
  have hval : ∀ (j : Nat) t v, Tryz.f4.params[j]? = some t → args[j]? = some v → Value.okWide Tryz.prog W .any base t v := hval0
  have hW' := hW
  obtain ⟨p, q, hA0, hV, rfl, hfz, hnd⟩ := hW
  have hA : DataW.TrodAll enc Tryz.prog W 0 (fun _ => true) true Tryz.f4.params.toList args.toList ds p := hA0
  rw [Tryz.params4] at hA hval
  obtain ⟨rfl, rfl⟩ := trodVars_none hV
  clear hA0 hval0
  obtain ⟨args⟩ := args
  obtain ⟨v0, vs0, d0, ds0, p0, q0, ha0, rfl, rfl, h0, r0⟩ := trodAll_cons hA
  obtain ⟨v1, vs1, d1, ds1, p1, q1, rfl, rfl, rfl, h1, r1⟩ := trodAll_cons r0
  simp only at ha0
  subst ha0
  obtain ⟨hn, rfl, rfl⟩ := trodAll_nil r1
  subst hn
  obtain ⟨a, rfl, rfl, rfl, wf_a⟩ := open_int Tryz.underlying3 (hval 0 3 v0 rfl rfl) h0
  obtain ⟨l, rfl, rfl, rfl, wf_l⟩ := open_int Tryz.underlying3 (hval 1 3 v1 rfl rfl) h1
  have hba := i64_wf wf_a
  have hbl := i64_wf wf_l
  refine (Go.Ev.walk_TopBadges a l hba hbl W).mono fun e W' ⟨he, hb⟩ => ⟨_, he, ?_⟩
  have e1 : Rows.topBadgesSpec.fn H ([.lit (.int .i64 a), .lit (.int .i64 l)] ++ []) = { results := [.lit (.bool true)], args := [.lit (.int .i64 a), .lit (.int .i64 l)] } := by simp [Rows.topBadgesSpec]
  refine ⟨_, _, _, [], [], [], hW', ?_, ?_, ?_, hb.frame _, fun h => by cases h⟩
  · rw [e1]; exact trodAll_mk1 (shut_bool Tryz.underlying4 true)
  · rw [e1]; exact trodAll_mk2 (shut_int Tryz.underlying3 wf_a) (shut_int Tryz.underlying3 wf_l)
  · rw [e1]; rfl
end Go.Proofs.YtiliabomdlhgoaaGreatDoor
