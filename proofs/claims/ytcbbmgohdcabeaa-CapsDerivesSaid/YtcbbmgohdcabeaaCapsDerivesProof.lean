/- Proved: Mask, Derive, Mint and Same of caps answer as the document says (viceroylaw11.CapsDerives returns true for all caps and all numbers), with no condition. -/
import Derived.Test.YtcbbmgohdcabeaaCapsW
import Derived.Test.YtcbbmgohdcabeaaCapsO
namespace Go.Proofs.Ytcbbmgohdcabeaa
open Go.RowKit
set_option maxRecDepth 100000

set_option maxHeartbeats 4000000 in
theorem walk_CapsDerives (k o r b ra g gb : Int) (d : Bool) (k' o' r' b' ra' g' gb' : Int) (d' : Bool) (rights badge guard bits' : Int) (w : World) :
    Calls Try.prog 6 #[.agg #[.int .i64 k, .int .i64 o, .int .i64 r, .int .i64 b, .int .i64 ra, .int .i64 g, .int .i64 gb, .bool d], .agg #[.int .i64 k', .int .i64 o', .int .i64 r', .int .i64 b', .int .i64 ra', .int .i64 g', .int .i64 gb', .bool d'], .int .i64 rights, .int .i64 badge, .int .i64 guard, .int .i64 bits'] w fun e w' => e = .returned (.bool true) ∧ Below w.heap.size w w' := by
  go_enter Try.func6, Try.ntmps6
  go_wp2_with fail
  refine (awake_any _).mono ?_; rintro e w1 ⟨rfl, hbw1⟩
  have hcw1 := (bcell hbw1).1
  simp only [World.size_alloc] at hcw1
  have y0_0 : w.heap.size < w1.heap.size := by have := hbw1.size; simp at this; omega
  have y0_1 : w.heap.size < w1.heap.size + 1 := by omega
  have y0_2 : w.heap.size < w1.heap.size + 1 + 1 := by omega
  have y0_3 : w.heap.size < w1.heap.size + 1 + 1 + 1 := by omega
  have y0_4 : w.heap.size < w1.heap.size + 1 + 1 + 1 + 1 := by omega
  have y0_5 : w.heap.size < w1.heap.size + 1 + 1 + 1 + 1 + 1 := by omega
  have y0_6 : w.heap.size < w1.heap.size + 1 + 1 + 1 + 1 + 1 + 1 := by omega
  have y0_7 : w.heap.size < w1.heap.size + 1 + 1 + 1 + 1 + 1 + 1 + 1 := by omega
  have y0_8 : w.heap.size < w1.heap.size + 1 + 1 + 1 + 1 + 1 + 1 + 1 + 1 := by omega
  have y0_9 : w.heap.size < w1.heap.size + 1 + 1 + 1 + 1 + 1 + 1 + 1 + 1 + 1 := by omega
  have y0_10 : w.heap.size < w1.heap.size + 1 + 1 + 1 + 1 + 1 + 1 + 1 + 1 + 1 + 1 := by omega
  have y0_11 : w.heap.size < w1.heap.size + 1 + 1 + 1 + 1 + 1 + 1 + 1 + 1 + 1 + 1 + 1 := by omega
  have y0_12 : w.heap.size < w1.heap.size + 1 + 1 + 1 + 1 + 1 + 1 + 1 + 1 + 1 + 1 + 1 + 1 := by omega
  have y0_13 : w.heap.size < w1.heap.size + 1 + 1 + 1 + 1 + 1 + 1 + 1 + 1 + 1 + 1 + 1 + 1 + 1 := by omega
  have y1_0 : w.heap.size + 1 < w1.heap.size := by have := hbw1.size; simp at this; omega
  have y1_1 : w.heap.size + 1 < w1.heap.size + 1 := by omega
  have y1_2 : w.heap.size + 1 < w1.heap.size + 1 + 1 := by omega
  have y1_3 : w.heap.size + 1 < w1.heap.size + 1 + 1 + 1 := by omega
  have y1_4 : w.heap.size + 1 < w1.heap.size + 1 + 1 + 1 + 1 := by omega
  have y1_5 : w.heap.size + 1 < w1.heap.size + 1 + 1 + 1 + 1 + 1 := by omega
  have y1_6 : w.heap.size + 1 < w1.heap.size + 1 + 1 + 1 + 1 + 1 + 1 := by omega
  have y1_7 : w.heap.size + 1 < w1.heap.size + 1 + 1 + 1 + 1 + 1 + 1 + 1 := by omega
  have y1_8 : w.heap.size + 1 < w1.heap.size + 1 + 1 + 1 + 1 + 1 + 1 + 1 + 1 := by omega
  have y1_9 : w.heap.size + 1 < w1.heap.size + 1 + 1 + 1 + 1 + 1 + 1 + 1 + 1 + 1 := by omega
  have y1_10 : w.heap.size + 1 < w1.heap.size + 1 + 1 + 1 + 1 + 1 + 1 + 1 + 1 + 1 + 1 := by omega
  have y1_11 : w.heap.size + 1 < w1.heap.size + 1 + 1 + 1 + 1 + 1 + 1 + 1 + 1 + 1 + 1 + 1 := by omega
  have y1_12 : w.heap.size + 1 < w1.heap.size + 1 + 1 + 1 + 1 + 1 + 1 + 1 + 1 + 1 + 1 + 1 + 1 := by omega
  have y1_13 : w.heap.size + 1 < w1.heap.size + 1 + 1 + 1 + 1 + 1 + 1 + 1 + 1 + 1 + 1 + 1 + 1 + 1 := by omega
  go_wp2_with (first | (go_at_call 11; refine (mask_any _ _ _ _ _ _ _ _ _ _).mono ?_; rintro e w5 ⟨rfl, rfl⟩) | (go_at_call 26; refine (rmask_any _ _ _ _ _ _ _ _ _ _).mono ?_; rintro e w5 ⟨rfl, rfl⟩) | (go_at_call 13; refine (derive_any _ _ _ _ _ _ _ _ _).mono ?_; rintro e w5 ⟨rfl, rfl⟩) | (go_at_call 27; refine (rderive_any _ _ _ _ _ _ _ _ _).mono ?_; rintro e w5 ⟨rfl, rfl⟩))
  refine (mint_any _ _ _ _ _ _ _ _ _ _ _ _ _).mono ?_; rintro e w2 ⟨rfl, hbw2⟩
  have hcw2 := (bcell hbw2).1
  simp only [World.size_alloc] at hcw2
  have z0_0 : w.heap.size < w2.heap.size := by have := hbw2.size; simp at this; omega
  have z0_1 : w.heap.size < w2.heap.size + 1 := by omega
  have z1_0 : w.heap.size + 1 < w2.heap.size := by have := hbw2.size; simp at this; omega
  have z1_1 : w.heap.size + 1 < w2.heap.size + 1 := by omega
  have z2_0 : w1.heap.size + 1 + 1 < w2.heap.size := by have := hbw2.size; simp at this; omega
  have z2_1 : w1.heap.size + 1 + 1 < w2.heap.size + 1 := by omega
  have z3_0 : w1.heap.size + 1 + 1 + 1 + 1 + 1 < w2.heap.size := by have := hbw2.size; simp at this; omega
  have z3_1 : w1.heap.size + 1 + 1 + 1 + 1 + 1 < w2.heap.size + 1 := by omega
  have z4_0 : w1.heap.size + 1 + 1 + 1 + 1 + 1 + 1 + 1 + 1 < w2.heap.size := by have := hbw2.size; simp at this; omega
  have z4_1 : w1.heap.size + 1 + 1 + 1 + 1 + 1 + 1 + 1 + 1 < w2.heap.size + 1 := by omega
  have z5_0 : w1.heap.size + 1 + 1 + 1 + 1 + 1 + 1 + 1 + 1 + 1 + 1 + 1 < w2.heap.size := by have := hbw2.size; simp at this; omega
  have z5_1 : w1.heap.size + 1 + 1 + 1 + 1 + 1 + 1 + 1 + 1 + 1 + 1 + 1 < w2.heap.size + 1 := by omega
  go_wp2_with fail
  refine (rmint_any _ _ _ _ _ _ _ _ _ _ _ _ _).mono ?_; rintro e w3 ⟨rfl, hbw3⟩
  have hcw3 := (bcell hbw3).1
  simp only [World.size_alloc] at hcw3
  have v0_0 : w.heap.size < w3.heap.size := by have := hbw3.size; simp at this; omega
  have v0_1 : w.heap.size < w3.heap.size + 1 := by omega
  have v0_2 : w.heap.size < w3.heap.size + 1 + 1 := by omega
  have v0_3 : w.heap.size < w3.heap.size + 1 + 1 + 1 := by omega
  have v0_4 : w.heap.size < w3.heap.size + 1 + 1 + 1 + 1 := by omega
  have v0_5 : w.heap.size < w3.heap.size + 1 + 1 + 1 + 1 + 1 := by omega
  have v0_6 : w.heap.size < w3.heap.size + 1 + 1 + 1 + 1 + 1 + 1 := by omega
  have v1_0 : w.heap.size + 1 < w3.heap.size := by have := hbw3.size; simp at this; omega
  have v1_1 : w.heap.size + 1 < w3.heap.size + 1 := by omega
  have v1_2 : w.heap.size + 1 < w3.heap.size + 1 + 1 := by omega
  have v1_3 : w.heap.size + 1 < w3.heap.size + 1 + 1 + 1 := by omega
  have v1_4 : w.heap.size + 1 < w3.heap.size + 1 + 1 + 1 + 1 := by omega
  have v1_5 : w.heap.size + 1 < w3.heap.size + 1 + 1 + 1 + 1 + 1 := by omega
  have v1_6 : w.heap.size + 1 < w3.heap.size + 1 + 1 + 1 + 1 + 1 + 1 := by omega
  have v2_0 : w1.heap.size + 1 + 1 < w3.heap.size := by have := hbw3.size; simp at this; omega
  have v2_1 : w1.heap.size + 1 + 1 < w3.heap.size + 1 := by omega
  have v2_2 : w1.heap.size + 1 + 1 < w3.heap.size + 1 + 1 := by omega
  have v2_3 : w1.heap.size + 1 + 1 < w3.heap.size + 1 + 1 + 1 := by omega
  have v2_4 : w1.heap.size + 1 + 1 < w3.heap.size + 1 + 1 + 1 + 1 := by omega
  have v2_5 : w1.heap.size + 1 + 1 < w3.heap.size + 1 + 1 + 1 + 1 + 1 := by omega
  have v2_6 : w1.heap.size + 1 + 1 < w3.heap.size + 1 + 1 + 1 + 1 + 1 + 1 := by omega
  have v3_0 : w1.heap.size + 1 + 1 + 1 + 1 + 1 < w3.heap.size := by have := hbw3.size; simp at this; omega
  have v3_1 : w1.heap.size + 1 + 1 + 1 + 1 + 1 < w3.heap.size + 1 := by omega
  have v3_2 : w1.heap.size + 1 + 1 + 1 + 1 + 1 < w3.heap.size + 1 + 1 := by omega
  have v3_3 : w1.heap.size + 1 + 1 + 1 + 1 + 1 < w3.heap.size + 1 + 1 + 1 := by omega
  have v3_4 : w1.heap.size + 1 + 1 + 1 + 1 + 1 < w3.heap.size + 1 + 1 + 1 + 1 := by omega
  have v3_5 : w1.heap.size + 1 + 1 + 1 + 1 + 1 < w3.heap.size + 1 + 1 + 1 + 1 + 1 := by omega
  have v3_6 : w1.heap.size + 1 + 1 + 1 + 1 + 1 < w3.heap.size + 1 + 1 + 1 + 1 + 1 + 1 := by omega
  have v4_0 : w1.heap.size + 1 + 1 + 1 + 1 + 1 + 1 + 1 + 1 < w3.heap.size := by have := hbw3.size; simp at this; omega
  have v4_1 : w1.heap.size + 1 + 1 + 1 + 1 + 1 + 1 + 1 + 1 < w3.heap.size + 1 := by omega
  have v4_2 : w1.heap.size + 1 + 1 + 1 + 1 + 1 + 1 + 1 + 1 < w3.heap.size + 1 + 1 := by omega
  have v4_3 : w1.heap.size + 1 + 1 + 1 + 1 + 1 + 1 + 1 + 1 < w3.heap.size + 1 + 1 + 1 := by omega
  have v4_4 : w1.heap.size + 1 + 1 + 1 + 1 + 1 + 1 + 1 + 1 < w3.heap.size + 1 + 1 + 1 + 1 := by omega
  have v4_5 : w1.heap.size + 1 + 1 + 1 + 1 + 1 + 1 + 1 + 1 < w3.heap.size + 1 + 1 + 1 + 1 + 1 := by omega
  have v4_6 : w1.heap.size + 1 + 1 + 1 + 1 + 1 + 1 + 1 + 1 < w3.heap.size + 1 + 1 + 1 + 1 + 1 + 1 := by omega
  have v5_0 : w1.heap.size + 1 + 1 + 1 + 1 + 1 + 1 + 1 + 1 + 1 + 1 + 1 < w3.heap.size := by have := hbw3.size; simp at this; omega
  have v5_1 : w1.heap.size + 1 + 1 + 1 + 1 + 1 + 1 + 1 + 1 + 1 + 1 + 1 < w3.heap.size + 1 := by omega
  have v5_2 : w1.heap.size + 1 + 1 + 1 + 1 + 1 + 1 + 1 + 1 + 1 + 1 + 1 < w3.heap.size + 1 + 1 := by omega
  have v5_3 : w1.heap.size + 1 + 1 + 1 + 1 + 1 + 1 + 1 + 1 + 1 + 1 + 1 < w3.heap.size + 1 + 1 + 1 := by omega
  have v5_4 : w1.heap.size + 1 + 1 + 1 + 1 + 1 + 1 + 1 + 1 + 1 + 1 + 1 < w3.heap.size + 1 + 1 + 1 + 1 := by omega
  have v5_5 : w1.heap.size + 1 + 1 + 1 + 1 + 1 + 1 + 1 + 1 + 1 + 1 + 1 < w3.heap.size + 1 + 1 + 1 + 1 + 1 := by omega
  have v5_6 : w1.heap.size + 1 + 1 + 1 + 1 + 1 + 1 + 1 + 1 + 1 + 1 + 1 < w3.heap.size + 1 + 1 + 1 + 1 + 1 + 1 := by omega
  have v6_0 : w2.heap.size < w3.heap.size := by have := hbw3.size; simp at this; omega
  have v6_1 : w2.heap.size < w3.heap.size + 1 := by omega
  have v6_2 : w2.heap.size < w3.heap.size + 1 + 1 := by omega
  have v6_3 : w2.heap.size < w3.heap.size + 1 + 1 + 1 := by omega
  have v6_4 : w2.heap.size < w3.heap.size + 1 + 1 + 1 + 1 := by omega
  have v6_5 : w2.heap.size < w3.heap.size + 1 + 1 + 1 + 1 + 1 := by omega
  have v6_6 : w2.heap.size < w3.heap.size + 1 + 1 + 1 + 1 + 1 + 1 := by omega
  go_wp2_with (first | (go_at_call 29; refine (same_any _ _ _ _ _ _ _ _ _ _ _ _ _ _ _ _ _).mono ?_; rintro e w5 ⟨rfl, rfl⟩) | (go_at_call 30; refine (rsame_any _ _ _ _ _ _ _ _ _ _ _ _ _ _ _ _ _).mono ?_; rintro e w5 ⟨rfl, rfl⟩))
  go_ret
  go_light
  refine ⟨rfl, ?_⟩
  clear hcw1 hcw2 hcw3
  repeat (first | exact Below.refl _ _ | (with_reducible refine Below.alloc ?_ (by first | omega | (simp; done) | (simp; omega)) _))
  refine Below.trans ?_ (hbw3.mono (by first | omega | (simp; omega)))
  repeat (first | exact Below.refl _ _ | (with_reducible refine Below.alloc ?_ (by first | omega | (simp; done) | (simp; omega)) _))
  refine Below.trans ?_ (hbw2.mono (by first | omega | (simp; omega)))
  repeat (first | exact Below.refl _ _ | (with_reducible refine Below.alloc ?_ (by first | omega | (simp; done) | (simp; omega)) _))
  refine Below.trans ?_ (hbw1.mono (by first | omega | (simp; done) | (simp; omega)))
  repeat (first | exact Below.refl _ _ | (with_reducible refine Below.alloc ?_ (by first | omega | (simp; done) | (simp; omega)) _))
end Go.Proofs.Ytcbbmgohdcabeaa
namespace Go.Proofs.Ytcbbmgohdcabeaa
open Go.Joins Go.ChangeShapes Go.WideShapes Go.ChangeAt Go.RowKit
theorem CapsDerives_lifted (os : Os) (started : os.Started) (H : Type) (enc : TypeId × Value → H) :
    ReturnsInHanded {} Try.checked os 6 .any (Rows.capsDerivesSpec.pre6 enc Try.prog Try.f6 Rows.capsDerivesRow.domain false) (Rows.capsDerivesSpec.post enc Try.prog Try.f6 false true false false) := by
  refine returnsInHanded_of_change (C := Try.checked) own started (by kernel_rfl) Try.func6
    (ChangeSpec.witness6 (enc := enc) (C := Try.checked) false ⟨#[], #[.agg #[.int .i64 0, .int .i64 0, .int .i64 0, .int .i64 0, .int .i64 0, .int .i64 0, .int .i64 0, .bool false], .agg #[.int .i64 0, .int .i64 0, .int .i64 0, .int .i64 0, .int .i64 0, .int .i64 0, .int .i64 0, .bool false], .int .i64 0, .int .i64 0, .int .i64 0, .int .i64 0], []⟩ 8 (by kernel_rfl) (by kernel_rfl) (by kernel_rfl) (by kernel_rfl)) ?_
  intro W base args ds gs before hval0 hW hcnd _
  have hval : ∀ (j : Nat) t v, Try.f6.params[j]? = some t → args[j]? = some v → Value.okWide Try.prog W .any base t v := hval0
  have hW' := hW
  obtain ⟨p, q, hA0, hV, rfl, hfz, hnd⟩ := hW
  have hA : DataW.TrodAll enc Try.prog W 0 (fun _ => true) true Try.f6.params.toList args.toList ds p := hA0
  rw [Try.params6] at hA hval
  obtain ⟨rfl, rfl⟩ := trodVars_none hV
  clear hA0 hval0
  obtain ⟨args⟩ := args
  obtain ⟨v0, vs0, d0, ds0, p0, q0, ha0, rfl, rfl, h0, r0⟩ := trodAll_cons hA
  simp only at ha0
  subst ha0
  obtain ⟨v1, vs1, d1, ds1, p1, q1, ha1, rfl, rfl, h1, r1⟩ := trodAll_cons r0
  subst ha1
  obtain ⟨v2, vs2, d2, ds2, p2, q2, ha2, rfl, rfl, h2, r2⟩ := trodAll_cons r1
  subst ha2
  obtain ⟨v3, vs3, d3, ds3, p3, q3, ha3, rfl, rfl, h3, r3⟩ := trodAll_cons r2
  subst ha3
  obtain ⟨v4, vs4, d4, ds4, p4, q4, ha4, rfl, rfl, h4, r4⟩ := trodAll_cons r3
  subst ha4
  obtain ⟨v5, vs5, d5, ds5, p5, q5, ha5, rfl, rfl, h5, r5⟩ := trodAll_cons r4
  subst ha5
  obtain ⟨hn, rfl, rfl⟩ := trodAll_nil r5
  subst hn
  obtain ⟨k, o, r, b, ra, g, gb, d, rfl, hr0, hr1⟩ := open_cap (hval 0 23 v0 rfl rfl) h0
  obtain ⟨k', o', r', b', ra', g', gb', d', rfl, hr0', hr1'⟩ := open_cap (hval 1 23 v1 rfl rfl) h1
  obtain ⟨rights, rfl, _, _, wf_rights⟩ := open_int Try.underlying3 (hval 2 3 v2 rfl rfl) h2
  obtain ⟨badge, rfl, _, _, wf_badge⟩ := open_int Try.underlying3 (hval 3 3 v3 rfl rfl) h3
  obtain ⟨guard, rfl, _, _, wf_guard⟩ := open_int Try.underlying3 (hval 4 3 v4 rfl rfl) h4
  obtain ⟨bits', rfl, _, _, wf_bits'⟩ := open_int Try.underlying3 (hval 5 3 v5 rfl rfl) h5
  refine (walk_CapsDerives k o r b ra g gb d k' o' r' b' ra' g' gb' d' rights badge guard bits' W).mono fun e W' ⟨he, hb⟩ => ⟨_, he, ?_⟩
  exact law_post laidOut (by kernel_rfl) (by kernel_rfl) Try.underlying4 rfl hW' rfl hb

theorem CapsDerives_over : Rows.capsDerivesRow.holds Try.pinned (OpenSpec.ofChange Rows.capsDerivesSpec) :=
  OpenClaim.holds_of_wide 6 Try.f6 rfl rfl rfl rfl rfl rfl rfl ⟨rfl, rfl, rfl, rfl, rfl⟩ rfl rfl rfl rfl rfl (by kernel_rfl) Try.func6 (by kernel_rfl)
    (of_decide_eq_true (by kernel_rfl)) (by unfold Func.isWrapper; first | (rw [if_pos (by decide +kernel)]; kernel_rfl) | (rw [if_neg (by decide +kernel)]; exact ⟨rfl, rfl⟩))
    (fun os started H enc _ => CapsDerives_lifted os started H enc)

theorem CapsDerives_holds : Rows.CapsDerivesSaid := CapsDerives_over
#print axioms CapsDerives_holds
end Go.Proofs.Ytcbbmgohdcabeaa
