/- Proved: a cap is read from its word as it was, and no two have one word (viceroylaw11.CapsBack returns true for all caps), with no condition. -/
import Derived.Test.YtcbbmgohdcabeaaCapsW
import Derived.Test.YtcbbmgohdcabeaaCapsO
import Derived.Test.YtcbbmgohdcabeaaCapsK
namespace Go.Proofs.Ytcbbmgohdcabeaa
open Go.RowKit
set_option maxRecDepth 100000
theorem cap_rows (k o r b ra g gb : Int) (d : Bool) (w : World) : RowAt (w.alloc (.cells #[.int .i64 k, .int .i64 o, .int .i64 r, .int .i64 b, .int .i64 ra, .int .i64 g, .int .i64 gb, .bool d] 23)) w.heap.size 23 8 (fun j => (if j = 7 then .bool d else if j = 6 then .int .i64 gb else if j = 5 then .int .i64 g else if j = 4 then .int .i64 ra else if j = 3 then .int .i64 b else if j = 2 then .int .i64 r else if j = 1 then .int .i64 o else .int .i64 k)) :=
  row_new_of _ _ 23 8 _ rfl (fun k hk => by rcases (by omega : k = 0 ∨ k = 1 ∨ k = 2 ∨ k = 3 ∨ k = 4 ∨ k = 5 ∨ k = 6 ∨ k = 7) with rfl | rfl | rfl | rfl | rfl | rfl | rfl | rfl <;> rfl)
theorem cap_rows1 (k o r b ra g gb : Int) (d : Bool) (w : World) (x : Obj) : RowAt ((w.alloc x).alloc (.cells #[.int .i64 k, .int .i64 o, .int .i64 r, .int .i64 b, .int .i64 ra, .int .i64 g, .int .i64 gb, .bool d] 23)) (w.heap.size + 1) 23 8 (fun j => (if j = 7 then .bool d else if j = 6 then .int .i64 gb else if j = 5 then .int .i64 g else if j = 4 then .int .i64 ra else if j = 3 then .int .i64 b else if j = 2 then .int .i64 r else if j = 1 then .int .i64 o else .int .i64 k)) := by
  have h := cap_rows k o r b ra g gb d (w.alloc x)
  rw [show (w.alloc x).heap.size = w.heap.size + 1 by simp] at h
  exact h

set_option maxHeartbeats 4000000 in
theorem walk_CapsBack (k o r b ra g gb : Int) (d : Bool) (k' o' r' b' ra' g' gb' : Int) (d' : Bool) (hr0 : -9223372036854775808 ≤ r) (hr1 : r ≤ 9223372036854775807) (hr0' : -9223372036854775808 ≤ r') (hr1' : r' ≤ 9223372036854775807) (w : World) :
    Calls Try.prog 9 #[.agg #[.int .i64 k, .int .i64 o, .int .i64 r, .int .i64 b, .int .i64 ra, .int .i64 g, .int .i64 gb, .bool d], .agg #[.int .i64 k', .int .i64 o', .int .i64 r', .int .i64 b', .int .i64 ra', .int .i64 g', .int .i64 gb', .bool d']] w fun e w' => e = .returned (.bool true) ∧ Below w.heap.size w w' := by
  cases hr : rightB k o r b ra g gb d
  ·
    have hE : encE k o r b ra g gb d = 141 := by unfold encE; rw [hr]; rfl
    have hW : encW k o r b ra g gb d = 0 := by unfold encW; rw [hr]; rfl
    obtain ⟨Wd, hWd⟩ : ∃ x, encW k' o' r' b' ra' g' gb' d' = x := ⟨_, rfl⟩
    obtain ⟨Ed, hEd⟩ : ∃ x, encE k' o' r' b' ra' g' gb' d' = x := ⟨_, rfl⟩
    go_enter Try.func9, Try.ntmps9
    go_wp2_with fail
    refine (awake_any _).mono ?_; rintro e w1 ⟨rfl, hb1⟩
    have HC : Hid (RowAt w1 w.heap.size 23 8 (fun j => (if j = 7 then .bool d else if j = 6 then .int .i64 gb else if j = 5 then .int .i64 g else if j = 4 then .int .i64 ra else if j = 3 then .int .i64 b else if j = 2 then .int .i64 r else if j = 1 then .int .i64 o else .int .i64 k))) := Lib.hid (RowAt.kept (RowAt.alloc (cap_rows k o r b ra g gb d w) _) (S := fun _ => False) (Upd.of_below hb1) (fun h => h))
    have HD : Hid (RowAt w1 (w.heap.size + 1) 23 8 (fun j => (if j = 7 then .bool d' else if j = 6 then .int .i64 gb' else if j = 5 then .int .i64 g' else if j = 4 then .int .i64 ra' else if j = 3 then .int .i64 b' else if j = 2 then .int .i64 r' else if j = 1 then .int .i64 o' else .int .i64 k'))) := Lib.hid (RowAt.kept (cap_rows1 k' o' r' b' ra' g' gb' d' w _) (S := fun _ => False) (Upd.of_below hb1) (fun h => h))
    have B1 : Hid (Below w.heap.size w w1) := Lib.hid (Below.trans (by repeat (first | exact Below.refl _ _ | (with_reducible refine Below.alloc ?_ (by simp) _))) (hb1.mono (by first | (simp; done) | (simp; omega))))
    clear hb1
    obtain ⟨c0, c1, c2, c3, c4, c5, c6, c7⟩ := cells8 HC.out
    obtain ⟨d0, d1, d2, d3, d4, d5, d6, d7⟩ := cells8 HD.out
    go_wp2_with fail
    refine (encode_any _ _ _ _ _ _ _ _ _ hr0 hr1).mono ?_; rintro e w2 ⟨rfl, hb2⟩
    rw [hE, hW]
    replace HC := Lib.hid (RowAt.kept (by repeat (first | (with_reducible exact HC.out) | (with_reducible refine RowAt.alloc ?_ _))) (S := fun _ => False) (Upd.of_below hb2) (fun h => h))
    replace HD := Lib.hid (RowAt.kept (by repeat (first | (with_reducible exact HD.out) | (with_reducible refine RowAt.alloc ?_ _))) (S := fun _ => False) (Upd.of_below hb2) (fun h => h))
    have B2 : Hid (Below w.heap.size w w2) := Lib.hid (Below.trans (by repeat (first | (with_reducible exact B1.out) | (with_reducible refine Below.alloc ?_ (by have := B1.out.size; first | omega | (simp; omega)) _))) (hb2.mono (by have := B1.out.size; first | omega | (simp; omega))))
    clear c0 c1 c2 c3 c4 c5 c6 c7 d0 d1 d2 d3 d4 d5 d6 d7
    clear hb2 B1
    have q2_0 : w.heap.size + 1 < w2.heap.size := RowAt.lt HD.out
    have p2_0 : w.heap.size < w2.heap.size := by omega
    have q2_1 : w.heap.size + 1 < w2.heap.size + 1 := by omega
    have p2_1 : w.heap.size < w2.heap.size + 1 := by omega
    have q2_2 : w.heap.size + 1 < w2.heap.size + 1 + 1 := by omega
    have p2_2 : w.heap.size < w2.heap.size + 1 + 1 := by omega
    have q2_3 : w.heap.size + 1 < w2.heap.size + 1 + 1 + 1 := by omega
    have p2_3 : w.heap.size < w2.heap.size + 1 + 1 + 1 := by omega
    have q2_4 : w.heap.size + 1 < w2.heap.size + 1 + 1 + 1 + 1 := by omega
    have p2_4 : w.heap.size < w2.heap.size + 1 + 1 + 1 + 1 := by omega
    obtain ⟨c0, c1, c2, c3, c4, c5, c6, c7⟩ := cells8 HC.out
    obtain ⟨d0, d1, d2, d3, d4, d5, d6, d7⟩ := cells8 HD.out
    go_wp2_with fail
    refine (encode_any _ _ _ _ _ _ _ _ _ hr0' hr1').mono ?_; rintro e w3 ⟨rfl, hb3⟩
    rw [hEd, hWd]
    replace HC := Lib.hid (RowAt.kept (by repeat (first | (with_reducible exact HC.out) | (with_reducible refine RowAt.alloc ?_ _))) (S := fun _ => False) (Upd.of_below hb3) (fun h => h))
    replace HD := Lib.hid (RowAt.kept (by repeat (first | (with_reducible exact HD.out) | (with_reducible refine RowAt.alloc ?_ _))) (S := fun _ => False) (Upd.of_below hb3) (fun h => h))
    have B3 : Hid (Below w.heap.size w w3) := Lib.hid (Below.trans (by repeat (first | (with_reducible exact B2.out) | (with_reducible refine Below.alloc ?_ (by have := B2.out.size; first | omega | (simp; omega)) _))) (hb3.mono (by have := B2.out.size; first | omega | (simp; omega))))
    clear c0 c1 c2 c3 c4 c5 c6 c7 d0 d1 d2 d3 d4 d5 d6 d7
    clear hb3 B2
    have q3_0 : w.heap.size + 1 < w3.heap.size := RowAt.lt HD.out
    have p3_0 : w.heap.size < w3.heap.size := by omega
    have q3_1 : w.heap.size + 1 < w3.heap.size + 1 := by omega
    have p3_1 : w.heap.size < w3.heap.size + 1 := by omega
    have q3_2 : w.heap.size + 1 < w3.heap.size + 1 + 1 := by omega
    have p3_2 : w.heap.size < w3.heap.size + 1 + 1 := by omega
    have q3_3 : w.heap.size + 1 < w3.heap.size + 1 + 1 + 1 := by omega
    have p3_3 : w.heap.size < w3.heap.size + 1 + 1 + 1 := by omega
    have q3_4 : w.heap.size + 1 < w3.heap.size + 1 + 1 + 1 + 1 := by omega
    have p3_4 : w.heap.size < w3.heap.size + 1 + 1 + 1 + 1 := by omega
    clear q2_0 p2_0 q2_1 p2_1 q2_2 p2_2 q2_3 p2_3 q2_4 p2_4
    obtain ⟨c0, c1, c2, c3, c4, c5, c6, c7⟩ := cells8 HC.out
    obtain ⟨d0, d1, d2, d3, d4, d5, d6, d7⟩ := cells8 HD.out
    go_wp2_with fail
    refine (right_any _ _ _ _ _ _ _ _ _).mono ?_; rintro e w4 ⟨rfl, hb4⟩
    rw [hr]
    replace HC := Lib.hid (RowAt.kept (by repeat (first | (with_reducible exact HC.out) | (with_reducible refine RowAt.alloc ?_ _))) (S := fun _ => False) (Upd.of_below hb4) (fun h => h))
    replace HD := Lib.hid (RowAt.kept (by repeat (first | (with_reducible exact HD.out) | (with_reducible refine RowAt.alloc ?_ _))) (S := fun _ => False) (Upd.of_below hb4) (fun h => h))
    have B4 : Hid (Below w.heap.size w w4) := Lib.hid (Below.trans (by repeat (first | (with_reducible exact B3.out) | (with_reducible refine Below.alloc ?_ (by have := B3.out.size; first | omega | (simp; omega)) _))) (hb4.mono (by have := B3.out.size; first | omega | (simp; omega))))
    clear c0 c1 c2 c3 c4 c5 c6 c7 d0 d1 d2 d3 d4 d5 d6 d7
    clear hb4 B3
    have q4_0 : w.heap.size + 1 < w4.heap.size := RowAt.lt HD.out
    have p4_0 : w.heap.size < w4.heap.size := by omega
    have q4_1 : w.heap.size + 1 < w4.heap.size + 1 := by omega
    have p4_1 : w.heap.size < w4.heap.size + 1 := by omega
    have q4_2 : w.heap.size + 1 < w4.heap.size + 1 + 1 := by omega
    have p4_2 : w.heap.size < w4.heap.size + 1 + 1 := by omega
    have q4_3 : w.heap.size + 1 < w4.heap.size + 1 + 1 + 1 := by omega
    have p4_3 : w.heap.size < w4.heap.size + 1 + 1 + 1 := by omega
    have q4_4 : w.heap.size + 1 < w4.heap.size + 1 + 1 + 1 + 1 := by omega
    have p4_4 : w.heap.size < w4.heap.size + 1 + 1 + 1 + 1 := by omega
    clear q3_0 p3_0 q3_1 p3_1 q3_2 p3_2 q3_3 p3_3 q3_4 p3_4
    obtain ⟨c0, c1, c2, c3, c4, c5, c6, c7⟩ := cells8 HC.out
    obtain ⟨d0, d1, d2, d3, d4, d5, d6, d7⟩ := cells8 HD.out
    go_wp2_with fail
    all_goals
      go_ret
      go_light
      refine ⟨rfl, ?_⟩
      clear c0 c1 c2 c3 c4 c5 c6 c7 d0 d1 d2 d3 d4 d5 d6 d7
      repeat (first | (with_reducible exact B4.out) | (with_reducible refine Below.alloc ?_ (by have := B4.out.size; first | omega | (simp; omega)) _))
  ·
    obtain ⟨hdV, hdE⟩ := dec_enc hr0 hr1 hr
    obtain ⟨hw0, hw1⟩ := word_bounds hr0 hr1 hr
    have hE : encE k o r b ra g gb d = 0 := by unfold encE; rw [hr]; rfl
    have hW : encW k o r b ra g gb d = wordOf k o r b ra g gb d := by unfold encW; rw [hr]; rfl
    cases hr' : rightB k' o' r' b' ra' g' gb' d'
    ·
      obtain ⟨Wc, hWc⟩ : ∃ x, wordOf k o r b ra g gb d = x := ⟨_, rfl⟩
      rw [hWc] at hdV hdE hw0 hw1 hW
      have hE2 : encE k' o' r' b' ra' g' gb' d' = 141 := by unfold encE; rw [hr']; rfl
      have hW2 : encW k' o' r' b' ra' g' gb' d' = 0 := by unfold encW; rw [hr']; rfl
      go_enter Try.func9, Try.ntmps9
      go_wp2_with fail
      refine (awake_any _).mono ?_; rintro e w1 ⟨rfl, hb1⟩
      have HC : Hid (RowAt w1 w.heap.size 23 8 (fun j => (if j = 7 then .bool d else if j = 6 then .int .i64 gb else if j = 5 then .int .i64 g else if j = 4 then .int .i64 ra else if j = 3 then .int .i64 b else if j = 2 then .int .i64 r else if j = 1 then .int .i64 o else .int .i64 k))) := Lib.hid (RowAt.kept (RowAt.alloc (cap_rows k o r b ra g gb d w) _) (S := fun _ => False) (Upd.of_below hb1) (fun h => h))
      have HD : Hid (RowAt w1 (w.heap.size + 1) 23 8 (fun j => (if j = 7 then .bool d' else if j = 6 then .int .i64 gb' else if j = 5 then .int .i64 g' else if j = 4 then .int .i64 ra' else if j = 3 then .int .i64 b' else if j = 2 then .int .i64 r' else if j = 1 then .int .i64 o' else .int .i64 k'))) := Lib.hid (RowAt.kept (cap_rows1 k' o' r' b' ra' g' gb' d' w _) (S := fun _ => False) (Upd.of_below hb1) (fun h => h))
      have B1 : Hid (Below w.heap.size w w1) := Lib.hid (Below.trans (by repeat (first | exact Below.refl _ _ | (with_reducible refine Below.alloc ?_ (by simp) _))) (hb1.mono (by first | (simp; done) | (simp; omega))))
      clear hb1
      obtain ⟨c0, c1, c2, c3, c4, c5, c6, c7⟩ := cells8 HC.out
      obtain ⟨d0, d1, d2, d3, d4, d5, d6, d7⟩ := cells8 HD.out
      go_wp2_with fail
      refine (encode_any _ _ _ _ _ _ _ _ _ hr0 hr1).mono ?_; rintro e w2 ⟨rfl, hb2⟩
      rw [hE, hW]
      replace HC := Lib.hid (RowAt.kept (by repeat (first | (with_reducible exact HC.out) | (with_reducible refine RowAt.alloc ?_ _))) (S := fun _ => False) (Upd.of_below hb2) (fun h => h))
      replace HD := Lib.hid (RowAt.kept (by repeat (first | (with_reducible exact HD.out) | (with_reducible refine RowAt.alloc ?_ _))) (S := fun _ => False) (Upd.of_below hb2) (fun h => h))
      have B2 : Hid (Below w.heap.size w w2) := Lib.hid (Below.trans (by repeat (first | (with_reducible exact B1.out) | (with_reducible refine Below.alloc ?_ (by have := B1.out.size; first | omega | (simp; omega)) _))) (hb2.mono (by have := B1.out.size; first | omega | (simp; omega))))
      clear c0 c1 c2 c3 c4 c5 c6 c7 d0 d1 d2 d3 d4 d5 d6 d7
      clear hb2 B1
      have q2_0 : w.heap.size + 1 < w2.heap.size := RowAt.lt HD.out
      have p2_0 : w.heap.size < w2.heap.size := by omega
      have q2_1 : w.heap.size + 1 < w2.heap.size + 1 := by omega
      have p2_1 : w.heap.size < w2.heap.size + 1 := by omega
      have q2_2 : w.heap.size + 1 < w2.heap.size + 1 + 1 := by omega
      have p2_2 : w.heap.size < w2.heap.size + 1 + 1 := by omega
      have q2_3 : w.heap.size + 1 < w2.heap.size + 1 + 1 + 1 := by omega
      have p2_3 : w.heap.size < w2.heap.size + 1 + 1 + 1 := by omega
      have q2_4 : w.heap.size + 1 < w2.heap.size + 1 + 1 + 1 + 1 := by omega
      have p2_4 : w.heap.size < w2.heap.size + 1 + 1 + 1 + 1 := by omega
      obtain ⟨c0, c1, c2, c3, c4, c5, c6, c7⟩ := cells8 HC.out
      obtain ⟨d0, d1, d2, d3, d4, d5, d6, d7⟩ := cells8 HD.out
      go_wp2_with fail
      refine (encode_any _ _ _ _ _ _ _ _ _ hr0' hr1').mono ?_; rintro e w3 ⟨rfl, hb3⟩
      rw [hE2, hW2]
      replace HC := Lib.hid (RowAt.kept (by repeat (first | (with_reducible exact HC.out) | (with_reducible refine RowAt.alloc ?_ _))) (S := fun _ => False) (Upd.of_below hb3) (fun h => h))
      replace HD := Lib.hid (RowAt.kept (by repeat (first | (with_reducible exact HD.out) | (with_reducible refine RowAt.alloc ?_ _))) (S := fun _ => False) (Upd.of_below hb3) (fun h => h))
      have B3 : Hid (Below w.heap.size w w3) := Lib.hid (Below.trans (by repeat (first | (with_reducible exact B2.out) | (with_reducible refine Below.alloc ?_ (by have := B2.out.size; first | omega | (simp; omega)) _))) (hb3.mono (by have := B2.out.size; first | omega | (simp; omega))))
      clear c0 c1 c2 c3 c4 c5 c6 c7 d0 d1 d2 d3 d4 d5 d6 d7
      clear hb3 B2
      have q3_0 : w.heap.size + 1 < w3.heap.size := RowAt.lt HD.out
      have p3_0 : w.heap.size < w3.heap.size := by omega
      have q3_1 : w.heap.size + 1 < w3.heap.size + 1 := by omega
      have p3_1 : w.heap.size < w3.heap.size + 1 := by omega
      have q3_2 : w.heap.size + 1 < w3.heap.size + 1 + 1 := by omega
      have p3_2 : w.heap.size < w3.heap.size + 1 + 1 := by omega
      have q3_3 : w.heap.size + 1 < w3.heap.size + 1 + 1 + 1 := by omega
      have p3_3 : w.heap.size < w3.heap.size + 1 + 1 + 1 := by omega
      have q3_4 : w.heap.size + 1 < w3.heap.size + 1 + 1 + 1 + 1 := by omega
      have p3_4 : w.heap.size < w3.heap.size + 1 + 1 + 1 + 1 := by omega
      clear q2_0 p2_0 q2_1 p2_1 q2_2 p2_2 q2_3 p2_3 q2_4 p2_4
      obtain ⟨c0, c1, c2, c3, c4, c5, c6, c7⟩ := cells8 HC.out
      obtain ⟨d0, d1, d2, d3, d4, d5, d6, d7⟩ := cells8 HD.out
      go_wp2_with fail
      refine (right_any _ _ _ _ _ _ _ _ _).mono ?_; rintro e w4 ⟨rfl, hb4⟩
      rw [hr]
      replace HC := Lib.hid (RowAt.kept (by repeat (first | (with_reducible exact HC.out) | (with_reducible refine RowAt.alloc ?_ _))) (S := fun _ => False) (Upd.of_below hb4) (fun h => h))
      replace HD := Lib.hid (RowAt.kept (by repeat (first | (with_reducible exact HD.out) | (with_reducible refine RowAt.alloc ?_ _))) (S := fun _ => False) (Upd.of_below hb4) (fun h => h))
      have B4 : Hid (Below w.heap.size w w4) := Lib.hid (Below.trans (by repeat (first | (with_reducible exact B3.out) | (with_reducible refine Below.alloc ?_ (by have := B3.out.size; first | omega | (simp; omega)) _))) (hb4.mono (by have := B3.out.size; first | omega | (simp; omega))))
      clear c0 c1 c2 c3 c4 c5 c6 c7 d0 d1 d2 d3 d4 d5 d6 d7
      clear hb4 B3
      have q4_0 : w.heap.size + 1 < w4.heap.size := RowAt.lt HD.out
      have p4_0 : w.heap.size < w4.heap.size := by omega
      have q4_1 : w.heap.size + 1 < w4.heap.size + 1 := by omega
      have p4_1 : w.heap.size < w4.heap.size + 1 := by omega
      have q4_2 : w.heap.size + 1 < w4.heap.size + 1 + 1 := by omega
      have p4_2 : w.heap.size < w4.heap.size + 1 + 1 := by omega
      have q4_3 : w.heap.size + 1 < w4.heap.size + 1 + 1 + 1 := by omega
      have p4_3 : w.heap.size < w4.heap.size + 1 + 1 + 1 := by omega
      have q4_4 : w.heap.size + 1 < w4.heap.size + 1 + 1 + 1 + 1 := by omega
      have p4_4 : w.heap.size < w4.heap.size + 1 + 1 + 1 + 1 := by omega
      clear q3_0 p3_0 q3_1 p3_1 q3_2 p3_2 q3_3 p3_3 q3_4 p3_4
      obtain ⟨c0, c1, c2, c3, c4, c5, c6, c7⟩ := cells8 HC.out
      obtain ⟨d0, d1, d2, d3, d4, d5, d6, d7⟩ := cells8 HD.out
      go_wp2_with fail
      refine (decode_any _ hw0 (by omega) _).mono ?_; rintro e w5 ⟨rfl, hb5⟩
      rw [hdV, hdE]; unfold capAgg
      replace HC := Lib.hid (RowAt.kept (by repeat (first | (with_reducible exact HC.out) | (with_reducible refine RowAt.alloc ?_ _))) (S := fun _ => False) (Upd.of_below hb5) (fun h => h))
      replace HD := Lib.hid (RowAt.kept (by repeat (first | (with_reducible exact HD.out) | (with_reducible refine RowAt.alloc ?_ _))) (S := fun _ => False) (Upd.of_below hb5) (fun h => h))
      have B5 : Hid (Below w.heap.size w w5) := Lib.hid (Below.trans (by repeat (first | (with_reducible exact B4.out) | (with_reducible refine Below.alloc ?_ (by have := B4.out.size; first | omega | (simp; omega)) _))) (hb5.mono (by have := B4.out.size; first | omega | (simp; omega))))
      clear c0 c1 c2 c3 c4 c5 c6 c7 d0 d1 d2 d3 d4 d5 d6 d7
      clear hb5 B4
      have q5_0 : w.heap.size + 1 < w5.heap.size := RowAt.lt HD.out
      have p5_0 : w.heap.size < w5.heap.size := by omega
      have q5_1 : w.heap.size + 1 < w5.heap.size + 1 := by omega
      have p5_1 : w.heap.size < w5.heap.size + 1 := by omega
      have q5_2 : w.heap.size + 1 < w5.heap.size + 1 + 1 := by omega
      have p5_2 : w.heap.size < w5.heap.size + 1 + 1 := by omega
      have q5_3 : w.heap.size + 1 < w5.heap.size + 1 + 1 + 1 := by omega
      have p5_3 : w.heap.size < w5.heap.size + 1 + 1 + 1 := by omega
      have q5_4 : w.heap.size + 1 < w5.heap.size + 1 + 1 + 1 + 1 := by omega
      have p5_4 : w.heap.size < w5.heap.size + 1 + 1 + 1 + 1 := by omega
      clear q4_0 p4_0 q4_1 p4_1 q4_2 p4_2 q4_3 p4_3 q4_4 p4_4
      obtain ⟨c0, c1, c2, c3, c4, c5, c6, c7⟩ := cells8 HC.out
      obtain ⟨d0, d1, d2, d3, d4, d5, d6, d7⟩ := cells8 HD.out
      go_wp2_with fail
      all_goals
        go_ret
        go_light
        refine ⟨rfl, ?_⟩
        clear c0 c1 c2 c3 c4 c5 c6 c7 d0 d1 d2 d3 d4 d5 d6 d7
        repeat (first | (with_reducible exact B5.out) | (with_reducible refine Below.alloc ?_ (by have := B5.out.size; first | omega | (simp; omega)) _))
    ·
      have hE2 : encE k' o' r' b' ra' g' gb' d' = 0 := by unfold encE; rw [hr']; rfl
      have hW2 : encW k' o' r' b' ra' g' gb' d' = wordOf k' o' r' b' ra' g' gb' d' := by unfold encW; rw [hr']; rfl
      by_cases hq : wordOf k o r b ra g gb d = wordOf k' o' r' b' ra' g' gb' d'
      · obtain ⟨rfl, rfl, rfl, rfl, rfl, rfl, rfl, rfl⟩ := word_inj hr0 hr1 hr hr0' hr1' hr' hq
        clear hq
        obtain ⟨Wc, hWc⟩ : ∃ x, wordOf k o r b ra g gb d = x := ⟨_, rfl⟩
        rw [hWc] at hdV hdE hw0 hw1 hW
        rw [hWc] at hW2
        go_enter Try.func9, Try.ntmps9
        go_wp2_with fail
        refine (awake_any _).mono ?_; rintro e w1 ⟨rfl, hb1⟩
        have HC : Hid (RowAt w1 w.heap.size 23 8 (fun j => (if j = 7 then .bool d else if j = 6 then .int .i64 gb else if j = 5 then .int .i64 g else if j = 4 then .int .i64 ra else if j = 3 then .int .i64 b else if j = 2 then .int .i64 r else if j = 1 then .int .i64 o else .int .i64 k))) := Lib.hid (RowAt.kept (RowAt.alloc (cap_rows k o r b ra g gb d w) _) (S := fun _ => False) (Upd.of_below hb1) (fun h => h))
        have HD : Hid (RowAt w1 (w.heap.size + 1) 23 8 (fun j => (if j = 7 then .bool d else if j = 6 then .int .i64 gb else if j = 5 then .int .i64 g else if j = 4 then .int .i64 ra else if j = 3 then .int .i64 b else if j = 2 then .int .i64 r else if j = 1 then .int .i64 o else .int .i64 k))) := Lib.hid (RowAt.kept (cap_rows1 k o r b ra g gb d w _) (S := fun _ => False) (Upd.of_below hb1) (fun h => h))
        have B1 : Hid (Below w.heap.size w w1) := Lib.hid (Below.trans (by repeat (first | exact Below.refl _ _ | (with_reducible refine Below.alloc ?_ (by simp) _))) (hb1.mono (by first | (simp; done) | (simp; omega))))
        clear hb1
        obtain ⟨c0, c1, c2, c3, c4, c5, c6, c7⟩ := cells8 HC.out
        obtain ⟨d0, d1, d2, d3, d4, d5, d6, d7⟩ := cells8 HD.out
        go_wp2_with fail
        refine (encode_any _ _ _ _ _ _ _ _ _ hr0 hr1).mono ?_; rintro e w2 ⟨rfl, hb2⟩
        rw [hE, hW]
        replace HC := Lib.hid (RowAt.kept (by repeat (first | (with_reducible exact HC.out) | (with_reducible refine RowAt.alloc ?_ _))) (S := fun _ => False) (Upd.of_below hb2) (fun h => h))
        replace HD := Lib.hid (RowAt.kept (by repeat (first | (with_reducible exact HD.out) | (with_reducible refine RowAt.alloc ?_ _))) (S := fun _ => False) (Upd.of_below hb2) (fun h => h))
        have B2 : Hid (Below w.heap.size w w2) := Lib.hid (Below.trans (by repeat (first | (with_reducible exact B1.out) | (with_reducible refine Below.alloc ?_ (by have := B1.out.size; first | omega | (simp; omega)) _))) (hb2.mono (by have := B1.out.size; first | omega | (simp; omega))))
        clear c0 c1 c2 c3 c4 c5 c6 c7 d0 d1 d2 d3 d4 d5 d6 d7
        clear hb2 B1
        have q2_0 : w.heap.size + 1 < w2.heap.size := RowAt.lt HD.out
        have p2_0 : w.heap.size < w2.heap.size := by omega
        have q2_1 : w.heap.size + 1 < w2.heap.size + 1 := by omega
        have p2_1 : w.heap.size < w2.heap.size + 1 := by omega
        have q2_2 : w.heap.size + 1 < w2.heap.size + 1 + 1 := by omega
        have p2_2 : w.heap.size < w2.heap.size + 1 + 1 := by omega
        have q2_3 : w.heap.size + 1 < w2.heap.size + 1 + 1 + 1 := by omega
        have p2_3 : w.heap.size < w2.heap.size + 1 + 1 + 1 := by omega
        have q2_4 : w.heap.size + 1 < w2.heap.size + 1 + 1 + 1 + 1 := by omega
        have p2_4 : w.heap.size < w2.heap.size + 1 + 1 + 1 + 1 := by omega
        obtain ⟨c0, c1, c2, c3, c4, c5, c6, c7⟩ := cells8 HC.out
        obtain ⟨d0, d1, d2, d3, d4, d5, d6, d7⟩ := cells8 HD.out
        go_wp2_with fail
        refine (encode_any _ _ _ _ _ _ _ _ _ hr0' hr1').mono ?_; rintro e w3 ⟨rfl, hb3⟩
        rw [hE2, hW2]
        replace HC := Lib.hid (RowAt.kept (by repeat (first | (with_reducible exact HC.out) | (with_reducible refine RowAt.alloc ?_ _))) (S := fun _ => False) (Upd.of_below hb3) (fun h => h))
        replace HD := Lib.hid (RowAt.kept (by repeat (first | (with_reducible exact HD.out) | (with_reducible refine RowAt.alloc ?_ _))) (S := fun _ => False) (Upd.of_below hb3) (fun h => h))
        have B3 : Hid (Below w.heap.size w w3) := Lib.hid (Below.trans (by repeat (first | (with_reducible exact B2.out) | (with_reducible refine Below.alloc ?_ (by have := B2.out.size; first | omega | (simp; omega)) _))) (hb3.mono (by have := B2.out.size; first | omega | (simp; omega))))
        clear c0 c1 c2 c3 c4 c5 c6 c7 d0 d1 d2 d3 d4 d5 d6 d7
        clear hb3 B2
        have q3_0 : w.heap.size + 1 < w3.heap.size := RowAt.lt HD.out
        have p3_0 : w.heap.size < w3.heap.size := by omega
        have q3_1 : w.heap.size + 1 < w3.heap.size + 1 := by omega
        have p3_1 : w.heap.size < w3.heap.size + 1 := by omega
        have q3_2 : w.heap.size + 1 < w3.heap.size + 1 + 1 := by omega
        have p3_2 : w.heap.size < w3.heap.size + 1 + 1 := by omega
        have q3_3 : w.heap.size + 1 < w3.heap.size + 1 + 1 + 1 := by omega
        have p3_3 : w.heap.size < w3.heap.size + 1 + 1 + 1 := by omega
        have q3_4 : w.heap.size + 1 < w3.heap.size + 1 + 1 + 1 + 1 := by omega
        have p3_4 : w.heap.size < w3.heap.size + 1 + 1 + 1 + 1 := by omega
        clear q2_0 p2_0 q2_1 p2_1 q2_2 p2_2 q2_3 p2_3 q2_4 p2_4
        obtain ⟨c0, c1, c2, c3, c4, c5, c6, c7⟩ := cells8 HC.out
        obtain ⟨d0, d1, d2, d3, d4, d5, d6, d7⟩ := cells8 HD.out
        go_wp2_with fail
        refine (right_any _ _ _ _ _ _ _ _ _).mono ?_; rintro e w4 ⟨rfl, hb4⟩
        rw [hr]
        replace HC := Lib.hid (RowAt.kept (by repeat (first | (with_reducible exact HC.out) | (with_reducible refine RowAt.alloc ?_ _))) (S := fun _ => False) (Upd.of_below hb4) (fun h => h))
        replace HD := Lib.hid (RowAt.kept (by repeat (first | (with_reducible exact HD.out) | (with_reducible refine RowAt.alloc ?_ _))) (S := fun _ => False) (Upd.of_below hb4) (fun h => h))
        have B4 : Hid (Below w.heap.size w w4) := Lib.hid (Below.trans (by repeat (first | (with_reducible exact B3.out) | (with_reducible refine Below.alloc ?_ (by have := B3.out.size; first | omega | (simp; omega)) _))) (hb4.mono (by have := B3.out.size; first | omega | (simp; omega))))
        clear c0 c1 c2 c3 c4 c5 c6 c7 d0 d1 d2 d3 d4 d5 d6 d7
        clear hb4 B3
        have q4_0 : w.heap.size + 1 < w4.heap.size := RowAt.lt HD.out
        have p4_0 : w.heap.size < w4.heap.size := by omega
        have q4_1 : w.heap.size + 1 < w4.heap.size + 1 := by omega
        have p4_1 : w.heap.size < w4.heap.size + 1 := by omega
        have q4_2 : w.heap.size + 1 < w4.heap.size + 1 + 1 := by omega
        have p4_2 : w.heap.size < w4.heap.size + 1 + 1 := by omega
        have q4_3 : w.heap.size + 1 < w4.heap.size + 1 + 1 + 1 := by omega
        have p4_3 : w.heap.size < w4.heap.size + 1 + 1 + 1 := by omega
        have q4_4 : w.heap.size + 1 < w4.heap.size + 1 + 1 + 1 + 1 := by omega
        have p4_4 : w.heap.size < w4.heap.size + 1 + 1 + 1 + 1 := by omega
        clear q3_0 p3_0 q3_1 p3_1 q3_2 p3_2 q3_3 p3_3 q3_4 p3_4
        obtain ⟨c0, c1, c2, c3, c4, c5, c6, c7⟩ := cells8 HC.out
        obtain ⟨d0, d1, d2, d3, d4, d5, d6, d7⟩ := cells8 HD.out
        go_wp2_with fail
        refine (decode_any _ hw0 (by omega) _).mono ?_; rintro e w5 ⟨rfl, hb5⟩
        rw [hdV, hdE]; unfold capAgg
        replace HC := Lib.hid (RowAt.kept (by repeat (first | (with_reducible exact HC.out) | (with_reducible refine RowAt.alloc ?_ _))) (S := fun _ => False) (Upd.of_below hb5) (fun h => h))
        replace HD := Lib.hid (RowAt.kept (by repeat (first | (with_reducible exact HD.out) | (with_reducible refine RowAt.alloc ?_ _))) (S := fun _ => False) (Upd.of_below hb5) (fun h => h))
        have B5 : Hid (Below w.heap.size w w5) := Lib.hid (Below.trans (by repeat (first | (with_reducible exact B4.out) | (with_reducible refine Below.alloc ?_ (by have := B4.out.size; first | omega | (simp; omega)) _))) (hb5.mono (by have := B4.out.size; first | omega | (simp; omega))))
        clear c0 c1 c2 c3 c4 c5 c6 c7 d0 d1 d2 d3 d4 d5 d6 d7
        clear hb5 B4
        have q5_0 : w.heap.size + 1 < w5.heap.size := RowAt.lt HD.out
        have p5_0 : w.heap.size < w5.heap.size := by omega
        have q5_1 : w.heap.size + 1 < w5.heap.size + 1 := by omega
        have p5_1 : w.heap.size < w5.heap.size + 1 := by omega
        have q5_2 : w.heap.size + 1 < w5.heap.size + 1 + 1 := by omega
        have p5_2 : w.heap.size < w5.heap.size + 1 + 1 := by omega
        have q5_3 : w.heap.size + 1 < w5.heap.size + 1 + 1 + 1 := by omega
        have p5_3 : w.heap.size < w5.heap.size + 1 + 1 + 1 := by omega
        have q5_4 : w.heap.size + 1 < w5.heap.size + 1 + 1 + 1 + 1 := by omega
        have p5_4 : w.heap.size < w5.heap.size + 1 + 1 + 1 + 1 := by omega
        clear q4_0 p4_0 q4_1 p4_1 q4_2 p4_2 q4_3 p4_3 q4_4 p4_4
        obtain ⟨c0, c1, c2, c3, c4, c5, c6, c7⟩ := cells8 HC.out
        obtain ⟨d0, d1, d2, d3, d4, d5, d6, d7⟩ := cells8 HD.out
        go_wp2_with fail
        all_goals
          go_ret
          go_light
          refine ⟨rfl, ?_⟩
          clear c0 c1 c2 c3 c4 c5 c6 c7 d0 d1 d2 d3 d4 d5 d6 d7
          repeat (first | (with_reducible exact B5.out) | (with_reducible refine Below.alloc ?_ (by have := B5.out.size; first | omega | (simp; omega)) _))
      ·
        have hne : ¬ (k = k' ∧ o = o' ∧ r = r' ∧ b = b' ∧ ra = ra' ∧ g = g' ∧ gb = gb' ∧ d = d') := by
          rintro ⟨rfl, rfl, rfl, rfl, rfl, rfl, rfl, rfl⟩; exact hq rfl
        obtain ⟨Wc, hWc⟩ : ∃ x, wordOf k o r b ra g gb d = x := ⟨_, rfl⟩
        rw [hWc] at hdV hdE hw0 hw1 hW
        obtain ⟨Wd, hWd⟩ : ∃ x, wordOf k' o' r' b' ra' g' gb' d' = x := ⟨_, rfl⟩
        rw [hWc, hWd] at hq
        rw [hWd] at hW2
        have hq2 : (Wc == Wd) = false := by simpa using hq
        go_enter Try.func9, Try.ntmps9
        go_wp2_with fail
        refine (awake_any _).mono ?_; rintro e w1 ⟨rfl, hb1⟩
        have HC : Hid (RowAt w1 w.heap.size 23 8 (fun j => (if j = 7 then .bool d else if j = 6 then .int .i64 gb else if j = 5 then .int .i64 g else if j = 4 then .int .i64 ra else if j = 3 then .int .i64 b else if j = 2 then .int .i64 r else if j = 1 then .int .i64 o else .int .i64 k))) := Lib.hid (RowAt.kept (RowAt.alloc (cap_rows k o r b ra g gb d w) _) (S := fun _ => False) (Upd.of_below hb1) (fun h => h))
        have HD : Hid (RowAt w1 (w.heap.size + 1) 23 8 (fun j => (if j = 7 then .bool d' else if j = 6 then .int .i64 gb' else if j = 5 then .int .i64 g' else if j = 4 then .int .i64 ra' else if j = 3 then .int .i64 b' else if j = 2 then .int .i64 r' else if j = 1 then .int .i64 o' else .int .i64 k'))) := Lib.hid (RowAt.kept (cap_rows1 k' o' r' b' ra' g' gb' d' w _) (S := fun _ => False) (Upd.of_below hb1) (fun h => h))
        have B1 : Hid (Below w.heap.size w w1) := Lib.hid (Below.trans (by repeat (first | exact Below.refl _ _ | (with_reducible refine Below.alloc ?_ (by simp) _))) (hb1.mono (by first | (simp; done) | (simp; omega))))
        clear hb1
        obtain ⟨c0, c1, c2, c3, c4, c5, c6, c7⟩ := cells8 HC.out
        obtain ⟨d0, d1, d2, d3, d4, d5, d6, d7⟩ := cells8 HD.out
        go_wp2_with fail
        refine (encode_any _ _ _ _ _ _ _ _ _ hr0 hr1).mono ?_; rintro e w2 ⟨rfl, hb2⟩
        rw [hE, hW]
        replace HC := Lib.hid (RowAt.kept (by repeat (first | (with_reducible exact HC.out) | (with_reducible refine RowAt.alloc ?_ _))) (S := fun _ => False) (Upd.of_below hb2) (fun h => h))
        replace HD := Lib.hid (RowAt.kept (by repeat (first | (with_reducible exact HD.out) | (with_reducible refine RowAt.alloc ?_ _))) (S := fun _ => False) (Upd.of_below hb2) (fun h => h))
        have B2 : Hid (Below w.heap.size w w2) := Lib.hid (Below.trans (by repeat (first | (with_reducible exact B1.out) | (with_reducible refine Below.alloc ?_ (by have := B1.out.size; first | omega | (simp; omega)) _))) (hb2.mono (by have := B1.out.size; first | omega | (simp; omega))))
        clear c0 c1 c2 c3 c4 c5 c6 c7 d0 d1 d2 d3 d4 d5 d6 d7
        clear hb2 B1
        have q2_0 : w.heap.size + 1 < w2.heap.size := RowAt.lt HD.out
        have p2_0 : w.heap.size < w2.heap.size := by omega
        have q2_1 : w.heap.size + 1 < w2.heap.size + 1 := by omega
        have p2_1 : w.heap.size < w2.heap.size + 1 := by omega
        have q2_2 : w.heap.size + 1 < w2.heap.size + 1 + 1 := by omega
        have p2_2 : w.heap.size < w2.heap.size + 1 + 1 := by omega
        have q2_3 : w.heap.size + 1 < w2.heap.size + 1 + 1 + 1 := by omega
        have p2_3 : w.heap.size < w2.heap.size + 1 + 1 + 1 := by omega
        have q2_4 : w.heap.size + 1 < w2.heap.size + 1 + 1 + 1 + 1 := by omega
        have p2_4 : w.heap.size < w2.heap.size + 1 + 1 + 1 + 1 := by omega
        obtain ⟨c0, c1, c2, c3, c4, c5, c6, c7⟩ := cells8 HC.out
        obtain ⟨d0, d1, d2, d3, d4, d5, d6, d7⟩ := cells8 HD.out
        go_wp2_with fail
        refine (encode_any _ _ _ _ _ _ _ _ _ hr0' hr1').mono ?_; rintro e w3 ⟨rfl, hb3⟩
        rw [hE2, hW2]
        replace HC := Lib.hid (RowAt.kept (by repeat (first | (with_reducible exact HC.out) | (with_reducible refine RowAt.alloc ?_ _))) (S := fun _ => False) (Upd.of_below hb3) (fun h => h))
        replace HD := Lib.hid (RowAt.kept (by repeat (first | (with_reducible exact HD.out) | (with_reducible refine RowAt.alloc ?_ _))) (S := fun _ => False) (Upd.of_below hb3) (fun h => h))
        have B3 : Hid (Below w.heap.size w w3) := Lib.hid (Below.trans (by repeat (first | (with_reducible exact B2.out) | (with_reducible refine Below.alloc ?_ (by have := B2.out.size; first | omega | (simp; omega)) _))) (hb3.mono (by have := B2.out.size; first | omega | (simp; omega))))
        clear c0 c1 c2 c3 c4 c5 c6 c7 d0 d1 d2 d3 d4 d5 d6 d7
        clear hb3 B2
        have q3_0 : w.heap.size + 1 < w3.heap.size := RowAt.lt HD.out
        have p3_0 : w.heap.size < w3.heap.size := by omega
        have q3_1 : w.heap.size + 1 < w3.heap.size + 1 := by omega
        have p3_1 : w.heap.size < w3.heap.size + 1 := by omega
        have q3_2 : w.heap.size + 1 < w3.heap.size + 1 + 1 := by omega
        have p3_2 : w.heap.size < w3.heap.size + 1 + 1 := by omega
        have q3_3 : w.heap.size + 1 < w3.heap.size + 1 + 1 + 1 := by omega
        have p3_3 : w.heap.size < w3.heap.size + 1 + 1 + 1 := by omega
        have q3_4 : w.heap.size + 1 < w3.heap.size + 1 + 1 + 1 + 1 := by omega
        have p3_4 : w.heap.size < w3.heap.size + 1 + 1 + 1 + 1 := by omega
        clear q2_0 p2_0 q2_1 p2_1 q2_2 p2_2 q2_3 p2_3 q2_4 p2_4
        obtain ⟨c0, c1, c2, c3, c4, c5, c6, c7⟩ := cells8 HC.out
        obtain ⟨d0, d1, d2, d3, d4, d5, d6, d7⟩ := cells8 HD.out
        go_wp2_with fail
        refine (right_any _ _ _ _ _ _ _ _ _).mono ?_; rintro e w4 ⟨rfl, hb4⟩
        rw [hr]
        replace HC := Lib.hid (RowAt.kept (by repeat (first | (with_reducible exact HC.out) | (with_reducible refine RowAt.alloc ?_ _))) (S := fun _ => False) (Upd.of_below hb4) (fun h => h))
        replace HD := Lib.hid (RowAt.kept (by repeat (first | (with_reducible exact HD.out) | (with_reducible refine RowAt.alloc ?_ _))) (S := fun _ => False) (Upd.of_below hb4) (fun h => h))
        have B4 : Hid (Below w.heap.size w w4) := Lib.hid (Below.trans (by repeat (first | (with_reducible exact B3.out) | (with_reducible refine Below.alloc ?_ (by have := B3.out.size; first | omega | (simp; omega)) _))) (hb4.mono (by have := B3.out.size; first | omega | (simp; omega))))
        clear c0 c1 c2 c3 c4 c5 c6 c7 d0 d1 d2 d3 d4 d5 d6 d7
        clear hb4 B3
        have q4_0 : w.heap.size + 1 < w4.heap.size := RowAt.lt HD.out
        have p4_0 : w.heap.size < w4.heap.size := by omega
        have q4_1 : w.heap.size + 1 < w4.heap.size + 1 := by omega
        have p4_1 : w.heap.size < w4.heap.size + 1 := by omega
        have q4_2 : w.heap.size + 1 < w4.heap.size + 1 + 1 := by omega
        have p4_2 : w.heap.size < w4.heap.size + 1 + 1 := by omega
        have q4_3 : w.heap.size + 1 < w4.heap.size + 1 + 1 + 1 := by omega
        have p4_3 : w.heap.size < w4.heap.size + 1 + 1 + 1 := by omega
        have q4_4 : w.heap.size + 1 < w4.heap.size + 1 + 1 + 1 + 1 := by omega
        have p4_4 : w.heap.size < w4.heap.size + 1 + 1 + 1 + 1 := by omega
        clear q3_0 p3_0 q3_1 p3_1 q3_2 p3_2 q3_3 p3_3 q3_4 p3_4
        obtain ⟨c0, c1, c2, c3, c4, c5, c6, c7⟩ := cells8 HC.out
        obtain ⟨d0, d1, d2, d3, d4, d5, d6, d7⟩ := cells8 HD.out
        go_wp2_with fail
        refine (decode_any _ hw0 (by omega) _).mono ?_; rintro e w5 ⟨rfl, hb5⟩
        rw [hdV, hdE]; unfold capAgg
        replace HC := Lib.hid (RowAt.kept (by repeat (first | (with_reducible exact HC.out) | (with_reducible refine RowAt.alloc ?_ _))) (S := fun _ => False) (Upd.of_below hb5) (fun h => h))
        replace HD := Lib.hid (RowAt.kept (by repeat (first | (with_reducible exact HD.out) | (with_reducible refine RowAt.alloc ?_ _))) (S := fun _ => False) (Upd.of_below hb5) (fun h => h))
        have B5 : Hid (Below w.heap.size w w5) := Lib.hid (Below.trans (by repeat (first | (with_reducible exact B4.out) | (with_reducible refine Below.alloc ?_ (by have := B4.out.size; first | omega | (simp; omega)) _))) (hb5.mono (by have := B4.out.size; first | omega | (simp; omega))))
        clear c0 c1 c2 c3 c4 c5 c6 c7 d0 d1 d2 d3 d4 d5 d6 d7
        clear hb5 B4
        have q5_0 : w.heap.size + 1 < w5.heap.size := RowAt.lt HD.out
        have p5_0 : w.heap.size < w5.heap.size := by omega
        have q5_1 : w.heap.size + 1 < w5.heap.size + 1 := by omega
        have p5_1 : w.heap.size < w5.heap.size + 1 := by omega
        have q5_2 : w.heap.size + 1 < w5.heap.size + 1 + 1 := by omega
        have p5_2 : w.heap.size < w5.heap.size + 1 + 1 := by omega
        have q5_3 : w.heap.size + 1 < w5.heap.size + 1 + 1 + 1 := by omega
        have p5_3 : w.heap.size < w5.heap.size + 1 + 1 + 1 := by omega
        have q5_4 : w.heap.size + 1 < w5.heap.size + 1 + 1 + 1 + 1 := by omega
        have p5_4 : w.heap.size < w5.heap.size + 1 + 1 + 1 + 1 := by omega
        clear q4_0 p4_0 q4_1 p4_1 q4_2 p4_2 q4_3 p4_3 q4_4 p4_4
        obtain ⟨c0, c1, c2, c3, c4, c5, c6, c7⟩ := cells8 HC.out
        obtain ⟨d0, d1, d2, d3, d4, d5, d6, d7⟩ := cells8 HD.out
        go_wp2_with fail
        all_goals try (exact absurd (And.intro (by assumption) (And.intro (by assumption) (And.intro (by assumption) (And.intro (by assumption) (And.intro (by assumption) (And.intro (by assumption) (And.intro (by assumption) (by assumption)))))))) hne)
        all_goals
          go_ret
          go_light
          refine ⟨rfl, ?_⟩
          clear c0 c1 c2 c3 c4 c5 c6 c7 d0 d1 d2 d3 d4 d5 d6 d7
          repeat (first | (with_reducible exact B5.out) | (with_reducible refine Below.alloc ?_ (by have := B5.out.size; first | omega | (simp; omega)) _))
end Go.Proofs.Ytcbbmgohdcabeaa
namespace Go.Proofs.Ytcbbmgohdcabeaa
open Go.Joins Go.ChangeShapes Go.WideShapes Go.ChangeAt Go.RowKit
theorem CapsBack_lifted (os : Os) (started : os.Started) (H : Type) (enc : TypeId × Value → H) :
    ReturnsInHanded {} Try.checked os 9 .any (Rows.capsBackSpec.pre6 enc Try.prog Try.f9 Rows.capsBackRow.domain false) (Rows.capsBackSpec.post enc Try.prog Try.f9 false true false false) := by
  refine returnsInHanded_of_change (C := Try.checked) own started (by kernel_rfl) Try.func9
    (ChangeSpec.witness6 (enc := enc) (C := Try.checked) false ⟨#[], #[.agg #[.int .i64 0, .int .i64 0, .int .i64 0, .int .i64 0, .int .i64 0, .int .i64 0, .int .i64 0, .bool false], .agg #[.int .i64 0, .int .i64 0, .int .i64 0, .int .i64 0, .int .i64 0, .int .i64 0, .int .i64 0, .bool false]], []⟩ 8 (by kernel_rfl) (by kernel_rfl) (by kernel_rfl) (by kernel_rfl)) ?_
  intro W base args ds gs before hval0 hW hcnd _
  have hval : ∀ (j : Nat) t v, Try.f9.params[j]? = some t → args[j]? = some v → Value.okWide Try.prog W .any base t v := hval0
  have hW' := hW
  obtain ⟨p, q, hA0, hV, rfl, hfz, hnd⟩ := hW
  have hA : DataW.TrodAll enc Try.prog W 0 (fun _ => true) true Try.f9.params.toList args.toList ds p := hA0
  rw [Try.params9] at hA hval
  obtain ⟨rfl, rfl⟩ := trodVars_none hV
  clear hA0 hval0
  obtain ⟨args⟩ := args
  obtain ⟨v0, vs0, d0, ds0, p0, q0, ha0, rfl, rfl, h0, r0⟩ := trodAll_cons hA
  simp only at ha0
  subst ha0
  obtain ⟨v1, vs1, d1, ds1, p1, q1, ha1, rfl, rfl, h1, r1⟩ := trodAll_cons r0
  subst ha1
  obtain ⟨hn, rfl, rfl⟩ := trodAll_nil r1
  subst hn
  obtain ⟨k, o, r, b, ra, g, gb, d, rfl, hr0, hr1⟩ := open_cap (hval 0 23 v0 rfl rfl) h0
  obtain ⟨k', o', r', b', ra', g', gb', d', rfl, hr0', hr1'⟩ := open_cap (hval 1 23 v1 rfl rfl) h1
  refine (walk_CapsBack k o r b ra g gb d k' o' r' b' ra' g' gb' d' hr0 hr1 hr0' hr1' W).mono fun e W' ⟨he, hb⟩ => ⟨_, he, ?_⟩
  exact law_post laidOut (by kernel_rfl) (by kernel_rfl) Try.underlying4 rfl hW' rfl hb

theorem CapsBack_over : Rows.capsBackRow.holds Try.pinned (OpenSpec.ofChange Rows.capsBackSpec) :=
  OpenClaim.holds_of_wide 9 Try.f9 rfl rfl rfl rfl rfl rfl rfl ⟨rfl, rfl, rfl, rfl, rfl⟩ rfl rfl rfl rfl rfl (by kernel_rfl) Try.func9 (by kernel_rfl)
    (of_decide_eq_true (by kernel_rfl)) (by unfold Func.isWrapper; first | (rw [if_pos (by decide +kernel)]; kernel_rfl) | (rw [if_neg (by decide +kernel)]; exact ⟨rfl, rfl⟩))
    (fun os started H enc _ => CapsBack_lifted os started H enc)

theorem CapsBack_holds : Rows.CapsBackSaid := CapsBack_over
#print axioms CapsBack_holds
end Go.Proofs.Ytcbbmgohdcabeaa
