/- Proved: any cap has just the word that the document says, or none, and any word is read as it says (viceroylaw11.CapsWords returns true for every cap and every word), with no condition. -/
import Derived.Test.YtcbbmgohdcabeaaCapsW
import Derived.Test.YtcbbmgohdcabeaaCapsO
import Derived.Test.YtcbbmgohdcabeaaCapsQ
import Derived.Test.YtcbbmgohdcabeaaCapsS
import Derived.Test.YtcbbmgohdcabeaaCapsU
namespace Go.Proofs.Ytcbbmgohdcabeaa
open Go.RowKit
set_option maxRecDepth 100000
theorem word_wf {x : Int} (h : (Lit.int .u64 x).wf = true) : 0 ≤ x ∧ x < 18446744073709551616 := by
  simp only [Lit.wf, IntKind.min, IntKind.max, IntKind.signed, IntKind.bits, Bool.and_eq_true] at h
  simp at h
  omega
theorem wcap_rows (k o r b ra g gb : Int) (d : Bool) (w : World) : RowAt (w.alloc (.cells #[.int .i64 k, .int .i64 o, .int .i64 r, .int .i64 b, .int .i64 ra, .int .i64 g, .int .i64 gb, .bool d] 23)) w.heap.size 23 8 (fun j => (if j = 7 then .bool d else if j = 6 then .int .i64 gb else if j = 5 then .int .i64 g else if j = 4 then .int .i64 ra else if j = 3 then .int .i64 b else if j = 2 then .int .i64 r else if j = 1 then .int .i64 o else .int .i64 k)) :=
  row_new_of _ _ 23 8 _ rfl (fun k hk => by rcases (by omega : k = 0 ∨ k = 1 ∨ k = 2 ∨ k = 3 ∨ k = 4 ∨ k = 5 ∨ k = 6 ∨ k = 7) with rfl | rfl | rfl | rfl | rfl | rfl | rfl | rfl <;> rfl)
theorem decV_form (W : Int) : ∃ (k o r b ra g gb : Int) (d : Bool), decV W = .agg #[.int .i64 k, .int .i64 o, .int .i64 r, .int .i64 b, .int .i64 ra, .int .i64 g, .int .i64 gb, .bool d] := by
  cases h : decOK W
  · exact ⟨0, 0, 0, 0, 0, 0, 0, false, by rw [decV, h]; rfl⟩
  · exact ⟨_, _, _, _, _, _, _, _, by rw [decV, h]; rfl⟩

set_option maxHeartbeats 4000000 in
theorem walk_CapsWords (k o r b ra g gb : Int) (d : Bool) (x : Int) (hr0 : -9223372036854775808 ≤ r) (hr1 : r ≤ 9223372036854775807) (hx0 : 0 ≤ x) (hx1 : x < 18446744073709551616) (w : World) :
    Calls Try.prog 8 #[.agg #[.int .i64 k, .int .i64 o, .int .i64 r, .int .i64 b, .int .i64 ra, .int .i64 g, .int .i64 gb, .bool d], .int .u64 x] w fun e w' => e = .returned (.bool true) ∧ Below w.heap.size w w' := by
  obtain ⟨xk, xo, xr, xb, xra, xg, xgb, xd, hV⟩ := decV_form x
  obtain ⟨Ed, hEd⟩ : ∃ y, decE x = y := ⟨_, rfl⟩
  obtain ⟨Ee, hEe⟩ : ∃ y, encE k o r b ra g gb d = y := ⟨_, rfl⟩
  obtain ⟨We, hWe⟩ : ∃ y, encW k o r b ra g gb d = y := ⟨_, rfl⟩
  obtain ⟨R, hR⟩ : ∃ y, rightB k o r b ra g gb d = y := ⟨_, rfl⟩
  go_enter Try.func8, Try.ntmps8
  go_wp2_with fail
  refine (awake_any _).mono ?_; rintro e w1 ⟨rfl, hb1⟩
  have HC : Hid (RowAt w1 w.heap.size 23 8 (fun j => (if j = 7 then .bool d else if j = 6 then .int .i64 gb else if j = 5 then .int .i64 g else if j = 4 then .int .i64 ra else if j = 3 then .int .i64 b else if j = 2 then .int .i64 r else if j = 1 then .int .i64 o else .int .i64 k))) := Lib.hid (RowAt.kept (by repeat (first | (with_reducible exact wcap_rows k o r b ra g gb d w) | (with_reducible refine RowAt.alloc ?_ _))) (S := fun _ => False) (Upd.of_below hb1) (fun h => h))
  have B1 : Hid (Below w.heap.size w w1) := Lib.hid (Below.trans (by repeat (first | exact Below.refl _ _ | (with_reducible refine Below.alloc ?_ (by simp) _))) (hb1.mono (by first | (simp; done) | (simp; omega))))
  clear hb1
  obtain ⟨c0, c1, c2, c3, c4, c5, c6, c7⟩ := cells8 HC.out
  go_wp2_with fail
  refine (right_any _ _ _ _ _ _ _ _ _).mono ?_; rintro e w2 ⟨rfl, hb2⟩
  rw [hR]
  replace HC := Lib.hid (RowAt.kept (by repeat (first | (with_reducible exact HC.out) | (with_reducible refine RowAt.alloc ?_ _))) (S := fun _ => False) (Upd.of_below hb2) (fun h => h))
  have B2 : Hid (Below w.heap.size w w2) := Lib.hid (Below.trans (by repeat (first | (with_reducible exact B1.out) | (with_reducible refine Below.alloc ?_ (by have := B1.out.size; first | omega | (simp; omega)) _))) (hb2.mono (by have := B1.out.size; first | omega | (simp; omega))))
  clear c0 c1 c2 c3 c4 c5 c6 c7
  clear hb2 B1
  have p2_0 : w.heap.size < w2.heap.size := RowAt.lt HC.out
  have p2_1 : w.heap.size < w2.heap.size + 1 := by omega
  have p2_2 : w.heap.size < w2.heap.size + 1 + 1 := by omega
  have p2_3 : w.heap.size < w2.heap.size + 1 + 1 + 1 := by omega
  have p2_4 : w.heap.size < w2.heap.size + 1 + 1 + 1 + 1 := by omega
  obtain ⟨c0, c1, c2, c3, c4, c5, c6, c7⟩ := cells8 HC.out
  go_wp2_with fail
  refine (rright_any _ _ _ _ _ _ _ _ _ hr0 hr1).mono ?_; rintro e w3 ⟨rfl, hb3⟩
  rw [hR]
  replace HC := Lib.hid (RowAt.kept (by repeat (first | (with_reducible exact HC.out) | (with_reducible refine RowAt.alloc ?_ _))) (S := fun _ => False) (Upd.of_below hb3) (fun h => h))
  have B3 : Hid (Below w.heap.size w w3) := Lib.hid (Below.trans (by repeat (first | (with_reducible exact B2.out) | (with_reducible refine Below.alloc ?_ (by have := B2.out.size; first | omega | (simp; omega)) _))) (hb3.mono (by have := B2.out.size; first | omega | (simp; omega))))
  clear c0 c1 c2 c3 c4 c5 c6 c7
  clear hb3 B2
  have p3_0 : w.heap.size < w3.heap.size := RowAt.lt HC.out
  have p3_1 : w.heap.size < w3.heap.size + 1 := by omega
  have p3_2 : w.heap.size < w3.heap.size + 1 + 1 := by omega
  have p3_3 : w.heap.size < w3.heap.size + 1 + 1 + 1 := by omega
  have p3_4 : w.heap.size < w3.heap.size + 1 + 1 + 1 + 1 := by omega
  clear p2_0 p2_1 p2_2 p2_3 p2_4
  obtain ⟨c0, c1, c2, c3, c4, c5, c6, c7⟩ := cells8 HC.out
  go_wp2_with fail
  refine (encode_any _ _ _ _ _ _ _ _ _ hr0 hr1).mono ?_; rintro e w4 ⟨rfl, hb4⟩
  rw [hEe, hWe]
  replace HC := Lib.hid (RowAt.kept (by repeat (first | (with_reducible exact HC.out) | (with_reducible refine RowAt.alloc ?_ _))) (S := fun _ => False) (Upd.of_below hb4) (fun h => h))
  have B4 : Hid (Below w.heap.size w w4) := Lib.hid (Below.trans (by repeat (first | (with_reducible exact B3.out) | (with_reducible refine Below.alloc ?_ (by have := B3.out.size; first | omega | (simp; omega)) _))) (hb4.mono (by have := B3.out.size; first | omega | (simp; omega))))
  clear c0 c1 c2 c3 c4 c5 c6 c7
  clear hb4 B3
  have p4_0 : w.heap.size < w4.heap.size := RowAt.lt HC.out
  have p4_1 : w.heap.size < w4.heap.size + 1 := by omega
  have p4_2 : w.heap.size < w4.heap.size + 1 + 1 := by omega
  have p4_3 : w.heap.size < w4.heap.size + 1 + 1 + 1 := by omega
  have p4_4 : w.heap.size < w4.heap.size + 1 + 1 + 1 + 1 := by omega
  clear p3_0 p3_1 p3_2 p3_3 p3_4
  obtain ⟨c0, c1, c2, c3, c4, c5, c6, c7⟩ := cells8 HC.out
  go_wp2_with fail
  refine (rencode_any _ _ _ _ _ _ _ _ _ hr0 hr1).mono ?_; rintro e w5 ⟨rfl, hb5⟩
  rw [hEe, hWe]
  replace HC := Lib.hid (RowAt.kept (by repeat (first | (with_reducible exact HC.out) | (with_reducible refine RowAt.alloc ?_ _))) (S := fun _ => False) (Upd.of_below hb5) (fun h => h))
  have B5 : Hid (Below w.heap.size w w5) := Lib.hid (Below.trans (by repeat (first | (with_reducible exact B4.out) | (with_reducible refine Below.alloc ?_ (by have := B4.out.size; first | omega | (simp; omega)) _))) (hb5.mono (by have := B4.out.size; first | omega | (simp; omega))))
  clear c0 c1 c2 c3 c4 c5 c6 c7
  clear hb5 B4
  have p5_0 : w.heap.size < w5.heap.size := RowAt.lt HC.out
  have p5_1 : w.heap.size < w5.heap.size + 1 := by omega
  have p5_2 : w.heap.size < w5.heap.size + 1 + 1 := by omega
  have p5_3 : w.heap.size < w5.heap.size + 1 + 1 + 1 := by omega
  have p5_4 : w.heap.size < w5.heap.size + 1 + 1 + 1 + 1 := by omega
  clear p4_0 p4_1 p4_2 p4_3 p4_4
  obtain ⟨c0, c1, c2, c3, c4, c5, c6, c7⟩ := cells8 HC.out
  go_wp2_with fail
  refine (decode_any _ hx0 hx1 _).mono ?_; rintro e w6 ⟨rfl, hb6⟩
  rw [hEd, hV]
  replace HC := Lib.hid (RowAt.kept (by repeat (first | (with_reducible exact HC.out) | (with_reducible refine RowAt.alloc ?_ _))) (S := fun _ => False) (Upd.of_below hb6) (fun h => h))
  have B6 : Hid (Below w.heap.size w w6) := Lib.hid (Below.trans (by repeat (first | (with_reducible exact B5.out) | (with_reducible refine Below.alloc ?_ (by have := B5.out.size; first | omega | (simp; omega)) _))) (hb6.mono (by have := B5.out.size; first | omega | (simp; omega))))
  clear c0 c1 c2 c3 c4 c5 c6 c7
  clear hb6 B5
  have p6_0 : w.heap.size < w6.heap.size := RowAt.lt HC.out
  have p6_1 : w.heap.size < w6.heap.size + 1 := by omega
  have p6_2 : w.heap.size < w6.heap.size + 1 + 1 := by omega
  have p6_3 : w.heap.size < w6.heap.size + 1 + 1 + 1 := by omega
  have p6_4 : w.heap.size < w6.heap.size + 1 + 1 + 1 + 1 := by omega
  clear p5_0 p5_1 p5_2 p5_3 p5_4
  obtain ⟨c0, c1, c2, c3, c4, c5, c6, c7⟩ := cells8 HC.out
  go_wp2_with fail
  refine (rdecode_any _ hx0 hx1 _).mono ?_; rintro e w7 ⟨rfl, hb7⟩
  rw [hEd, hV]
  have HX := Lib.hid (RowAt.kept (wcap_rows xk xo xr xb xra xg xgb xd w6) (S := fun _ => False) (Upd.of_below hb7) (fun h => h))
  have B7 : Hid (Below w.heap.size w w7) := Lib.hid (Below.trans (by repeat (first | (with_reducible exact B6.out) | (with_reducible refine Below.alloc ?_ (by have := B6.out.size; first | omega | (simp; omega)) _))) (hb7.mono (by have := B6.out.size; first | omega | (simp; omega))))
  clear c0 c1 c2 c3 c4 c5 c6 c7
  clear hb7 B6 p6_0 p6_1 p6_2 p6_3 p6_4 HC
  have p7_0 : w6.heap.size < w7.heap.size := RowAt.lt HX.out
  have p7_1 : w6.heap.size < w7.heap.size + 1 := by omega
  have p7_2 : w6.heap.size < w7.heap.size + 1 + 1 := by omega
  have p7_3 : w6.heap.size < w7.heap.size + 1 + 1 + 1 := by omega
  obtain ⟨c0, c1, c2, c3, c4, c5, c6, c7⟩ := cells8 HX.out
  go_wp2_with fail
  all_goals
    go_ret
    go_light
    refine ⟨by first | rfl | simp, ?_⟩
    clear c0 c1 c2 c3 c4 c5 c6 c7
    repeat (first | (with_reducible exact B7.out) | (with_reducible refine Below.alloc ?_ (by have := B7.out.size; first | omega | (simp; omega)) _))
end Go.Proofs.Ytcbbmgohdcabeaa
namespace Go.Proofs.Ytcbbmgohdcabeaa
open Go.Joins Go.ChangeShapes Go.WideShapes Go.ChangeAt Go.RowKit
theorem CapsWords_lifted (os : Os) (started : os.Started) (H : Type) (enc : TypeId × Value → H) :
    ReturnsInHanded {} Try.checked os 8 .any (Rows.capsWordsSpec.pre6 enc Try.prog Try.f8 Rows.capsWordsRow.domain false) (Rows.capsWordsSpec.post enc Try.prog Try.f8 false true false false) := by
  refine returnsInHanded_of_change (C := Try.checked) own started (by kernel_rfl) Try.func8
    (ChangeSpec.witness6 (enc := enc) (C := Try.checked) false ⟨#[], #[.agg #[.int .i64 0, .int .i64 0, .int .i64 0, .int .i64 0, .int .i64 0, .int .i64 0, .int .i64 0, .bool false], .int .u64 0], []⟩ 8 (by kernel_rfl) (by kernel_rfl) (by kernel_rfl) (by kernel_rfl)) ?_
  intro W base args ds gs before hval0 hW hcnd _
  have hval : ∀ (j : Nat) t v, Try.f8.params[j]? = some t → args[j]? = some v → Value.okWide Try.prog W .any base t v := hval0
  have hW' := hW
  obtain ⟨p, q, hA0, hV, rfl, hfz, hnd⟩ := hW
  have hA : DataW.TrodAll enc Try.prog W 0 (fun _ => true) true Try.f8.params.toList args.toList ds p := hA0
  rw [Try.params8] at hA hval
  obtain ⟨rfl, rfl⟩ := trodVars_none hV
  clear hA0 hval0
  obtain ⟨args⟩ := args
  obtain ⟨v0, vs0, d0, ds0, p0, q0, ha0, rfl, rfl, h0, r0⟩ := trodAll_cons hA
  simp only at ha0
  subst ha0
  obtain ⟨v1, vs1, d1, ds1, p1, q1, ha1, rfl, rfl, h1, r1⟩ := trodAll_cons r0
  subst ha1
  obtain ⟨hn, rfl, rfl⟩ := trodAll_nil r1
  subst hn
  obtain ⟨k, o, r, b, ra, g, gb, d, rfl, hr0, hr1⟩ := open_cap (hval 0 23 v0 rfl rfl) h0
  obtain ⟨x, rfl, _, _, wx⟩ := open_int Try.underlying35 (hval 1 35 v1 rfl rfl) h1
  obtain ⟨hx0, hx1⟩ := word_wf wx
  refine (walk_CapsWords k o r b ra g gb d x hr0 hr1 hx0 hx1 W).mono fun e W' ⟨he, hb⟩ => ⟨_, he, ?_⟩
  exact law_post laidOut (by kernel_rfl) (by kernel_rfl) Try.underlying4 rfl hW' rfl hb

theorem CapsWords_over : Rows.capsWordsRow.holds Try.pinned (OpenSpec.ofChange Rows.capsWordsSpec) :=
  OpenClaim.holds_of_wide 8 Try.f8 rfl rfl rfl rfl rfl rfl rfl ⟨rfl, rfl, rfl, rfl, rfl⟩ rfl rfl rfl rfl rfl (by kernel_rfl) Try.func8 (by kernel_rfl)
    (of_decide_eq_true (by kernel_rfl)) (by unfold Func.isWrapper; first | (rw [if_pos (by decide +kernel)]; kernel_rfl) | (rw [if_neg (by decide +kernel)]; exact ⟨rfl, rfl⟩))
    (fun os started H enc _ => CapsWords_lifted os started H enc)

theorem CapsWords_holds : Rows.CapsWordsSaid := CapsWords_over
#print axioms CapsWords_holds
end Go.Proofs.Ytcbbmgohdcabeaa
