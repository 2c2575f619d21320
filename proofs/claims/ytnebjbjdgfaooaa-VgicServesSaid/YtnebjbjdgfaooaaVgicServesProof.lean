/- Proved: all that was injected is served, the most urgent first (viceroylaw08.VgicServes returns true for all numbers, priorities and flags), with no condition. -/
import Derived.Test.YtnebjbjdgfaooaaVgicServesL
import Derived.Test.YtnebjbjdgfaooaaVgicServesM
namespace Go.Proofs.Ytnebjbjdgfaooaa
open Go.RowKit
set_option maxRecDepth 100000

set_option maxHeartbeats 4000000 in
theorem walk_VgicServes (L1 : Int) (a : Option Addr) (len cap : Nat) (a2 : Option Addr) (len2 cap2 : Nat) (F : Nat → Bool) (w : World) (hlen : len ≤ maxLen) (hnums : Ints w a len) (hflags : Bools w a2 len2 F) :
    Calls Try.prog 3 #[.int .i64 L1, .slice a len cap, .slice a2 len2 cap2] w fun e w' => e = .returned (.bool true) ∧ Below w.heap.size w w' := by
  by_cases h1 : 1 ≤ L1 ∧ L1 ≤ 16
  · by_cases hx : len ≤ 64
    · exact walk_VgicServesL L1 a len cap a2 len2 cap2 F w hlen hnums hflags h1 hx
    · exact walk_VgicServesM L1 a len cap a2 len2 cap2 F w hlen hnums hflags h1 (by omega)
  ·
    go_enter Try.func3, Try.ntmps3
    go_wp2_with fail
    refine (vawake_any _).mono ?_
    rintro e w1 ⟨rfl, hb1⟩
    have B1 := Lib.hid hb1; clear hb1
    go_wp2_with fail
    refine (vnew_err L1 h1 _).mono ?_
    rintro e w2 ⟨rfl, rfl⟩
    go_wp2_with fail
    go_ret
    go_light
    exact ⟨rfl, B1.out⟩
end Go.Proofs.Ytnebjbjdgfaooaa
namespace Go.Proofs.Ytnebjbjdgfaooaa
open Go.Joins Go.ChangeShapes Go.WideShapes Go.ChangeAt Go.RowKit
set_option maxRecDepth 100000
theorem VgicServes_lifted (os : Os) (started : os.Started) (H : Type) (enc : TypeId × Value → H) :
    ReturnsInHanded {} Try.checked os 3 .any (Rows.vgicServesSpec.pre6 enc Try.prog Try.f3 Rows.vgicServesRow.domain false) (Rows.vgicServesSpec.post enc Try.prog Try.f3 false true false false) := by
  refine returnsInHanded_of_change (C := Try.checked) own started (by kernel_rfl) Try.func3
    (ChangeSpec.witness6 (enc := enc) (C := Try.checked) false ⟨#[], #[.int .i64 0, .slice none 0 0, .slice none 0 0], []⟩ 8 (by kernel_rfl) (by kernel_rfl) (by kernel_rfl) (by kernel_rfl)) ?_
  intro W base args ds gs before hval0 hW hcnd _
  have hval : ∀ (j : Nat) t v, Try.f3.params[j]? = some t → args[j]? = some v → Value.okWide Try.prog W .any base t v := hval0
  have hW' := hW
  obtain ⟨p, q, hA0, hV, rfl, hfz, hnd⟩ := hW
  have hA : DataW.TrodAll enc Try.prog W 0 (fun _ => true) true Try.f3.params.toList args.toList ds p := hA0
  rw [Try.params3] at hA hval
  obtain ⟨rfl, rfl⟩ := trodVars_none hV
  clear hA0 hval0
  obtain ⟨args⟩ := args
  obtain ⟨v0, vs0, d0, ds0, p0, q0, ha0, rfl, rfl, h0, r0⟩ := trodAll_cons hA
  simp only at ha0
  subst ha0
  obtain ⟨v1, vs1, d1, ds1, p1, q1, ha1, rfl, rfl, h1, r1⟩ := trodAll_cons r0
  subst ha1
  obtain ⟨v2, vs2, d2, ds2, p2, q2, ha2, rfl, rfl, h2, r2⟩ := trodAll_cons r1
  subst ha2
  obtain ⟨hn, rfl, rfl⟩ := trodAll_nil r2
  subst hn
  obtain ⟨L1, rfl, _, _, wf_L1⟩ := open_int Try.underlying3 (hval 0 3 v0 rfl rfl) h0
  obtain ⟨a, len, cap, rfl, hlen, hnums⟩ := open_nums (hval 1 22 v1 rfl rfl) h1
  obtain ⟨a2, len2, cap2, F, rfl, _, hflags⟩ := open_flags (hval 2 23 v2 rfl rfl) h2
  refine (walk_VgicServes L1 a len cap a2 len2 cap2 F W hlen hnums hflags).mono fun e W' ⟨he, hb⟩ => ⟨_, he, ?_⟩
  exact law_post laidOut (by kernel_rfl) (by kernel_rfl) Try.underlying4 rfl hW' rfl hb

theorem VgicServes_over : Rows.vgicServesRow.holds Try.pinned (OpenSpec.ofChange Rows.vgicServesSpec) :=
  OpenClaim.holds_of_wide 3 Try.f3 rfl rfl rfl rfl rfl rfl rfl ⟨rfl, rfl, rfl, rfl, rfl⟩ rfl rfl rfl rfl rfl (by kernel_rfl) Try.func3 (by kernel_rfl)
    (of_decide_eq_true (by kernel_rfl)) (by unfold Func.isWrapper; first | (rw [if_pos (by decide +kernel)]; kernel_rfl) | (rw [if_neg (by decide +kernel)]; exact ⟨rfl, rfl⟩))
    (fun os started H enc _ => VgicServes_lifted os started H enc)

theorem VgicServes_holds : Rows.VgicServesSaid := VgicServes_over
#print axioms VgicServes_holds
end Go.Proofs.Ytnebjbjdgfaooaa
