/- Proved: those who are served end in any order, and the running priority is always the least of those who are left (viceroylaw07.GicNests returns true for every list of acts and every order), with no condition. -/
import Derived.Test.YtmehieloehlepaaGicNestsL
import Derived.Test.YtmehieloehlepaaGicNestsM
namespace Go.Proofs.Ytmehieloehlepaa
open Go.RowKit
set_option maxRecDepth 100000

set_option maxHeartbeats 4000000 in
theorem walk_GicNests (a : Option Addr) (len cap : Nat) (a' : Option Addr) (len' cap' : Nat) (w : World) (hlen : len ≤ maxLen) (hacts : Acts w a len) (hnums : Ints w a' len') :
    Calls Try.prog 7 #[.slice a len cap, .slice a' len' cap'] w fun e w' => e = .returned (.bool true) ∧ Below w.heap.size w w' := by
  by_cases hx : len ≤ 100
  · exact walk_GicNestsL a len cap a' len' cap' w hlen hacts hnums hx
  · exact walk_GicNestsM a len cap a' len' cap' w hlen hacts hnums (by omega)
end Go.Proofs.Ytmehieloehlepaa
namespace Go.Proofs.Ytmehieloehlepaa
open Go.Joins Go.ChangeShapes Go.WideShapes Go.ChangeAt Go.RowKit
theorem GicNests_lifted (os : Os) (started : os.Started) (H : Type) (enc : TypeId × Value → H) :
    ReturnsInHanded {} Try.checked os 7 .any (Rows.gicNestsSpec.pre6 enc Try.prog Try.f7 Rows.gicNestsRow.domain false) (Rows.gicNestsSpec.post enc Try.prog Try.f7 false true false false) := by
  refine returnsInHanded_of_change (C := Try.checked) own started (by kernel_rfl) Try.func7
    (ChangeSpec.witness6 (enc := enc) (C := Try.checked) false ⟨#[], #[.slice none 0 0, .slice none 0 0], []⟩ 8 (by kernel_rfl) (by kernel_rfl) (by kernel_rfl) (by kernel_rfl)) ?_
  intro W base args ds gs before hval0 hW hcnd _
  have hval : ∀ (j : Nat) t v, Try.f7.params[j]? = some t → args[j]? = some v → Value.okWide Try.prog W .any base t v := hval0
  have hW' := hW
  obtain ⟨p, q, hA0, hV, rfl, hfz, hnd⟩ := hW
  have hA : DataW.TrodAll enc Try.prog W 0 (fun _ => true) true Try.f7.params.toList args.toList ds p := hA0
  rw [Try.params7] at hA hval
  obtain ⟨rfl, rfl⟩ := trodVars_none hV
  clear hA0 hval0
  obtain ⟨args⟩ := args
  obtain ⟨v0, vs0, d0, ds0, p0, q0, ha0, rfl, rfl, h0, r0⟩ := trodAll_cons hA
  simp only at ha0
  subst ha0
  obtain ⟨v1, vs1, d1, ds1, p1, q1, ha1, rfl, rfl, h1, r1⟩ := trodAll_cons r0
  subst ha1
  obtain ⟨hn, rfl, rfl⟩ := trodAll_nil r1
  subst hn
  obtain ⟨a, len, cap, rfl, hlen, hacts⟩ := open_acts (hval 0 39 v0 rfl rfl) h0
  obtain ⟨a', len', cap', rfl, _, hnums⟩ := open_nums (hval 1 22 v1 rfl rfl) h1
  refine (walk_GicNests a len cap a' len' cap' W hlen hacts hnums).mono fun e W' ⟨he, hb⟩ => ⟨_, he, ?_⟩
  exact law_post laidOut (by kernel_rfl) (by kernel_rfl) Try.underlying4 rfl hW' rfl hb

theorem GicNests_over : Rows.gicNestsRow.holds Try.pinned (OpenSpec.ofChange Rows.gicNestsSpec) :=
  OpenClaim.holds_of_wide 7 Try.f7 rfl rfl rfl rfl rfl rfl rfl ⟨rfl, rfl, rfl, rfl, rfl⟩ rfl rfl rfl rfl rfl (by kernel_rfl) Try.func7 (by kernel_rfl)
    (of_decide_eq_true (by kernel_rfl)) (by unfold Func.isWrapper; first | (rw [if_pos (by decide +kernel)]; kernel_rfl) | (rw [if_neg (by decide +kernel)]; exact ⟨rfl, rfl⟩))
    (fun os started H enc _ => GicNests_lifted os started H enc)

theorem GicNests_holds : Rows.GicNestsSaid := GicNests_over
#print axioms GicNests_holds
end Go.Proofs.Ytmehieloehlepaa
