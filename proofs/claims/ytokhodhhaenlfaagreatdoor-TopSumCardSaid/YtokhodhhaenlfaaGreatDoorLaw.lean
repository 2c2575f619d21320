/- The lifted law of TopSum. -/
import Derived.Test.YtokhodhhaenlfaaGreatDoorRows
import Derived.WalkKit
import Derived.ProofKit
import Derived.Lib.SmallJoins
import Derived.OpenShut
import Derived.LaidMore
import Derived.Lay
import Derived.Stop.Joined
import Derived.Test.YtokhodhhaenlfaaGreatDoorWalk
namespace Go.Proofs.YtokhodhhaenlfaaGreatDoor
open Go.Joins Go.ChangeShapes Go.WideShapes Go.ChangeAt Go.RowKit
set_option maxRecDepth 100000
theorem own : ownKnob Tryz.prog.godebug = none := by kernel_rfl
theorem i64_wf {x : Int} (h : (Lit.int .i64 x).wf = true) : -9223372036854775808 ≤ x ∧ x < 9223372036854775808 := by
  simp only [Lit.wf, IntKind.min, IntKind.max, IntKind.signed, IntKind.bits, Bool.and_eq_true, decide_eq_true_eq, if_true] at h
  omega
theorem laid_met (os : Os) (args : Array Value) : laidMetH Tryz.prog Rows.topSumRow.laid ((World.laidAll Tryz.prog os Rows.topSumRow.laid).forCall (fun _ _ => 0) ⟨#[], args, []⟩).memory := by
  rw [MakeChecks.laidMetH_plain _ _ _ (by kernel_rfl)]
  exact laidMet_laidAll _ (by kernel_rfl) (by kernel_rfl)
theorem laid_shaped (os : Os) : (World.laidAll Tryz.prog os Rows.topSumRow.laid).Shaped Tryz.prog := World.shaped_of_ZipB (by kernel_rfl) (by kernel_rfl)
set_option maxHeartbeats 4000000 in
theorem TopSum_lifted (os : Os) (started : os.Started) (H : Type) (enc : TypeId × Value → H) :
    ReturnsInHanded {} Tryz.checked os 3 .any (fun w args => (Rows.topSumSpec.pre enc Tryz.prog Tryz.f3 Rows.topSumRow.domain false w args ∧ laidMetH Tryz.prog Rows.topSumRow.laid w) ∧ sizedMet enc Tryz.prog Tryz.f3 (OpenSpec.ofChange Rows.topSumSpec) false w args)
      (Rows.topSumSpec.post enc Tryz.prog Tryz.f3 false true false false) := by
  refine returnsInHanded_of_change_and (C := Tryz.checked) (X := fun w _ => laidMetH Tryz.prog Rows.topSumRow.laid w) (fun _ _ _ hh h => h.of_heap hh) own started (by kernel_rfl) Tryz.func3
    (ChangeSpec.witness_shaped (enc := enc) (C := Tryz.checked) (os := os) (X := fun w _ => laidMetH Tryz.prog Rows.topSumRow.laid w) false (World.laidAll Tryz.prog os Rows.topSumRow.laid) #[.int .i64 0] 8 (World.laidAll_os _ _ _)
      (laid_shaped os) (by kernel_rfl) (by kernel_rfl) (by kernel_rfl) (laid_met os _)) ?_
  intro W base args ds gs before hval0 hW hc _ hL _
  have hval : ∀ (j : Nat) t v, Tryz.f3.params[j]? = some t → args[j]? = some v → Value.okWide Tryz.prog W .any base t v := hval0
  have hW' := hW
  obtain ⟨p, q, hA0, hV, rfl, hfz, hnd⟩ := hW
  have hA : DataW.TrodAll enc Tryz.prog W 0 (fun _ => true) true Tryz.f3.params.toList args.toList ds p := hA0
  rw [Tryz.params3] at hA hval
  obtain ⟨rfl, rfl⟩ := trodVars_none hV
  clear hA0 hval0
  obtain ⟨args⟩ := args
  obtain ⟨v0, vs0, d0, ds0, p0, q0, ha0, rfl, rfl, h0, r0⟩ := trodAll_cons hA
  simp only at ha0
  subst ha0
  obtain ⟨hn, rfl, rfl⟩ := trodAll_nil r0
  subst hn
  obtain ⟨c, rfl, rfl, rfl, wf_c⟩ := open_int Tryz.underlying3 (hval 0 3 v0 rfl rfl) h0
  have hbd := i64_wf wf_c
  refine (Go.Ev.walk_TopSum c hbd.1 hbd.2 W).mono fun e W' ⟨he, hb⟩ => ⟨_, he, ?_⟩
  have e1 : Rows.topSumSpec.fn H ([.lit (.int .i64 c)] ++ []) = { results := [.lit (.bool true)], args := [.lit (.int .i64 c)] } := by simp [Rows.topSumSpec]
  refine ⟨_, _, _, [], [], [], hW', ?_, ?_, ?_, hb.frame _, fun h => by cases h⟩
  · rw [e1]; exact trodAll_mk1 (shut_bool Tryz.underlying4 true)
  · rw [e1]; exact trodAll_mk1 (shut_int Tryz.underlying3 wf_c)
  · rw [e1]; rfl
end Go.Proofs.YtokhodhhaenlfaaGreatDoor
