/- Proved: whoever is acknowledged is the most urgent one that may be heard, and more urgent than all that are served (viceroylaw07.GicUrgent returns true for every list of acts), with no condition. -/
import Derived.Test.YtmehieloehlepaaGicUrgentL
import Derived.Test.YtmehieloehlepaaGicUrgentM
namespace Go.Proofs.Ytmehieloehlepaa
open Go.RowKit
set_option maxRecDepth 100000

set_option maxHeartbeats 4000000 in
theorem walk_GicUrgent (a : Option Addr) (len cap : Nat) (w : World) (hlen : len ≤ maxLen) (hacts : Acts w a len) :
    Calls Try.prog 6 #[.slice a len cap] w fun e w' => e = .returned (.bool true) ∧ Below w.heap.size w w' := by
  by_cases hx : len ≤ 100
  · exact walk_GicUrgentL a len cap w hlen hacts hx
  · exact walk_GicUrgentM a len cap w hlen hacts (by omega)
end Go.Proofs.Ytmehieloehlepaa
namespace Go.Proofs.Ytmehieloehlepaa
open Go.Joins Go.ChangeShapes Go.WideShapes Go.ChangeAt Go.RowKit
theorem GicUrgent_lifted (os : Os) (started : os.Started) (H : Type) (enc : TypeId × Value → H) :
    ReturnsInHanded {} Try.checked os 6 .any (Rows.gicUrgentSpec.pre6 enc Try.prog Try.f6 Rows.gicUrgentRow.domain false) (Rows.gicUrgentSpec.post enc Try.prog Try.f6 false true false false) := by
  refine returnsInHanded_of_change (C := Try.checked) own started (by kernel_rfl) Try.func6
    (ChangeSpec.witness6 (enc := enc) (C := Try.checked) false ⟨#[], #[.slice none 0 0], []⟩ 8 (by kernel_rfl) (by kernel_rfl) (by kernel_rfl) (by kernel_rfl)) ?_
  intro W base args ds gs before hval0 hW hcnd _
  have hval : ∀ (j : Nat) t v, Try.f6.params[j]? = some t → args[j]? = some v → Value.okWide Try.prog W .any base t v := hval0
  have hW' := hW
  obtain ⟨p, q, hA0, hV, rfl, hfz, hnd⟩ := hW
  have hA : DataW.TrodAll enc Try.prog W 0 (fun _ => true) true Try.f6.params.toList args.toList ds p := hA0
  rw [Try.params6] at hA hval
  obtain ⟨rfl, rfl⟩ := trodVars_none hV
  clear hA0 hval0
  obtain ⟨args⟩ := args
  obtain ⟨v0, vs0, d0, ds0, p0, q0, ha0, rfl, rfl, h0, r0⟩ := trodAll_cons hA
  simp only at ha0
  subst ha0
  obtain ⟨hn, rfl, rfl⟩ := trodAll_nil r0
  subst hn
  obtain ⟨a, len, cap, rfl, hlen, hacts⟩ := open_acts (hval 0 39 v0 rfl rfl) h0
  refine (walk_GicUrgent a len cap W hlen hacts).mono fun e W' ⟨he, hb⟩ => ⟨_, he, ?_⟩
  exact law_post laidOut (by kernel_rfl) (by kernel_rfl) Try.underlying4 rfl hW' rfl hb

theorem GicUrgent_over : Rows.gicUrgentRow.holds Try.pinned (OpenSpec.ofChange Rows.gicUrgentSpec) :=
  OpenClaim.holds_of_wide 6 Try.f6 rfl rfl rfl rfl rfl rfl rfl ⟨rfl, rfl, rfl, rfl, rfl⟩ rfl rfl rfl rfl rfl (by kernel_rfl) Try.func6 (by kernel_rfl)
    (of_decide_eq_true (by kernel_rfl)) (by unfold Func.isWrapper; first | (rw [if_pos (by decide +kernel)]; kernel_rfl) | (rw [if_neg (by decide +kernel)]; exact ⟨rfl, rfl⟩))
    (fun os started H enc _ => GicUrgent_lifted os started H enc)

theorem GicUrgent_holds : Rows.GicUrgentSaid := GicUrgent_over
#print axioms GicUrgent_holds
end Go.Proofs.Ytmehieloehlepaa
