/- Proved: what can be copied is copied whole, and can be copied again; what cannot, never can (viceroylaw11.CapsCopies returns true for every cap), with no condition. -/
import Derived.Test.YtcbbmgohdcabeaaCapsW
import Derived.Test.YtcbbmgohdcabeaaCapsO
namespace Go.Proofs.Ytcbbmgohdcabeaa
open Go.RowKit
set_option maxRecDepth 100000

theorem walk_CapsCopies (k o r b ra g gb : Int) (d : Bool) (w : World) :
    Calls Try.prog 4 #[.agg #[.int .i64 k, .int .i64 o, .int .i64 r, .int .i64 b, .int .i64 ra, .int .i64 g, .int .i64 gb, .bool d]] w fun e w' => e = .returned (.bool true) ∧ Below w.heap.size w w' := by
  by_cases hd : derE k = 0
  · go_enter Try.func4, Try.ntmps4
    go_wp2_with fail
    refine (awake_any _).mono ?_; rintro e w1 ⟨rfl, hb1⟩
    have hz0 : w.heap.size < w1.heap.size := by have := hb1.size; simp at this; omega
    have hz1 : w.heap.size < w1.heap.size + 1 := by omega
    have hz2 : w.heap.size < w1.heap.size + 1 + 1 := by omega
    have hz3 : w.heap.size < w1.heap.size + 1 + 1 + 1 := by omega
    have hz4 : w.heap.size < w1.heap.size + 1 + 1 + 1 + 1 := by omega
    have hz5 : w.heap.size < w1.heap.size + 1 + 1 + 1 + 1 + 1 := by omega
    have hz6 : w.heap.size < w1.heap.size + 1 + 1 + 1 + 1 + 1 + 1 := by omega
    have hz7 : w.heap.size < w1.heap.size + 1 + 1 + 1 + 1 + 1 + 1 + 1 := by omega
    have hz8 : w.heap.size < w1.heap.size + 1 + 1 + 1 + 1 + 1 + 1 + 1 + 1 := by omega
    have hz9 : w.heap.size < w1.heap.size + 1 + 1 + 1 + 1 + 1 + 1 + 1 + 1 + 1 := by omega
    obtain ⟨c0, c1, c2, c3, c4, c5, c6, c7⟩ := cap_cells k o r b ra g gb d w w1 (hb1.mono (by simp))
    go_wp2_with (go_at_call 13; refine (derive_any _ _ _ _ _ _ _ _ _).mono ?_; rintro e w5 ⟨rfl, rfl⟩; simp only [dz, dzb, hd, if_true])
    all_goals
      go_ret
      go_light
      refine ⟨rfl, ?_⟩
      repeat (first | exact Below.refl _ _ | refine below_allocs ?_ _)
      exact ((Below.refl _ _).alloc (Nat.le_refl _) _).trans (hb1.mono (by simp))
  · have hn : (derE k != 0) = true := by simp [hd]
    have h131 : (derE k == 131) = (k == 0) := by
      unfold derE; repeat' split
      all_goals simp_all
    go_enter Try.func4, Try.ntmps4
    go_wp2_with fail
    refine (awake_any _).mono ?_; rintro e w1 ⟨rfl, hb1⟩
    have hz0 : w.heap.size < w1.heap.size := by have := hb1.size; simp at this; omega
    have hz1 : w.heap.size < w1.heap.size + 1 := by omega
    have hz2 : w.heap.size < w1.heap.size + 1 + 1 := by omega
    have hz3 : w.heap.size < w1.heap.size + 1 + 1 + 1 := by omega
    have hz4 : w.heap.size < w1.heap.size + 1 + 1 + 1 + 1 := by omega
    have hz5 : w.heap.size < w1.heap.size + 1 + 1 + 1 + 1 + 1 := by omega
    have hz6 : w.heap.size < w1.heap.size + 1 + 1 + 1 + 1 + 1 + 1 := by omega
    have hz7 : w.heap.size < w1.heap.size + 1 + 1 + 1 + 1 + 1 + 1 + 1 := by omega
    have hz8 : w.heap.size < w1.heap.size + 1 + 1 + 1 + 1 + 1 + 1 + 1 + 1 := by omega
    have hz9 : w.heap.size < w1.heap.size + 1 + 1 + 1 + 1 + 1 + 1 + 1 + 1 + 1 := by omega
    obtain ⟨c0, c1, c2, c3, c4, c5, c6, c7⟩ := cap_cells k o r b ra g gb d w w1 (hb1.mono (by simp))
    go_wp2_with (go_at_call 13; refine (derive_any _ _ _ _ _ _ _ _ _).mono ?_; rintro e w5 ⟨rfl, rfl⟩; simp only [dz, dzb, hd, if_false])
    all_goals
      go_ret
      go_light
      refine ⟨rfl, ?_⟩
      repeat (first | exact Below.refl _ _ | refine below_allocs ?_ _)
      exact ((Below.refl _ _).alloc (Nat.le_refl _) _).trans (hb1.mono (by simp))
end Go.Proofs.Ytcbbmgohdcabeaa
namespace Go.Proofs.Ytcbbmgohdcabeaa
open Go.Joins Go.ChangeShapes Go.WideShapes Go.ChangeAt Go.RowKit
theorem CapsCopies_lifted (os : Os) (started : os.Started) (H : Type) (enc : TypeId × Value → H) :
    ReturnsInHanded {} Try.checked os 4 .any (Rows.capsCopiesSpec.pre6 enc Try.prog Try.f4 Rows.capsCopiesRow.domain false) (Rows.capsCopiesSpec.post enc Try.prog Try.f4 false true false false) := by
  refine returnsInHanded_of_change (C := Try.checked) own started (by kernel_rfl) Try.func4
    (ChangeSpec.witness6 (enc := enc) (C := Try.checked) false ⟨#[], #[.agg #[.int .i64 0, .int .i64 0, .int .i64 0, .int .i64 0, .int .i64 0, .int .i64 0, .int .i64 0, .bool false]], []⟩ 8 (by kernel_rfl) (by kernel_rfl) (by kernel_rfl) (by kernel_rfl)) ?_
  intro W base args ds gs before hval0 hW hcnd _
  have hval : ∀ (j : Nat) t v, Try.f4.params[j]? = some t → args[j]? = some v → Value.okWide Try.prog W .any base t v := hval0
  have hW' := hW
  obtain ⟨p, q, hA0, hV, rfl, hfz, hnd⟩ := hW
  have hA : DataW.TrodAll enc Try.prog W 0 (fun _ => true) true Try.f4.params.toList args.toList ds p := hA0
  rw [Try.params4] at hA hval
  obtain ⟨rfl, rfl⟩ := trodVars_none hV
  clear hA0 hval0
  obtain ⟨args⟩ := args
  obtain ⟨v0, vs0, d0, ds0, p0, q0, ha0, rfl, rfl, h0, r0⟩ := trodAll_cons hA
  simp only at ha0
  subst ha0
  obtain ⟨hn, rfl, rfl⟩ := trodAll_nil r0
  subst hn
  obtain ⟨k, o, r, b, ra, g, gb, d, rfl, hr0, hr1⟩ := open_cap (hval 0 23 v0 rfl rfl) h0
  refine (walk_CapsCopies k o r b ra g gb d W).mono fun e W' ⟨he, hb⟩ => ⟨_, he, ?_⟩
  exact law_post laidOut (by kernel_rfl) (by kernel_rfl) Try.underlying4 rfl hW' rfl hb

theorem CapsCopies_over : Rows.capsCopiesRow.holds Try.pinned (OpenSpec.ofChange Rows.capsCopiesSpec) :=
  OpenClaim.holds_of_wide 4 Try.f4 rfl rfl rfl rfl rfl rfl rfl ⟨rfl, rfl, rfl, rfl, rfl⟩ rfl rfl rfl rfl rfl (by kernel_rfl) Try.func4 (by kernel_rfl)
    (of_decide_eq_true (by kernel_rfl)) (by unfold Func.isWrapper; first | (rw [if_pos (by decide +kernel)]; kernel_rfl) | (rw [if_neg (by decide +kernel)]; exact ⟨rfl, rfl⟩))
    (fun os started H enc _ => CapsCopies_lifted os started H enc)

theorem CapsCopies_holds : Rows.CapsCopiesSaid := CapsCopies_over
#print axioms CapsCopies_holds
end Go.Proofs.Ytcbbmgohdcabeaa
