/- The contract of viceroyref11.Decode (function 36): the cap of a word, if its highest bit is none and it is right; else the zero cap and ErrKind; it makes new memory alone; no condition. -/
import Derived.Test.YtcbbmgohdcabeaaCapsS
import Derived.Test.YtcbbmgohdcabeaaCapsK
namespace Go.Proofs.Ytcbbmgohdcabeaa
open Go.RowKit
set_option maxRecDepth 100000
theorem zrows (w : World) (x : Obj) : RowAt ((w.alloc (.cells #[.int .i64 0, .int .i64 0, .int .i64 0, .int .i64 0, .int .i64 0, .int .i64 0, .int .i64 0, .bool false] 23)).alloc x) w.heap.size 23 8 zcell :=
  RowAt.alloc (row_new_of _ _ 23 8 zcell rfl (fun k hk => by rcases (by omega : k = 0 ∨ k = 1 ∨ k = 2 ∨ k = 3 ∨ k = 4 ∨ k = 5 ∨ k = 6 ∨ k = 7) with rfl | rfl | rfl | rfl | rfl | rfl | rfl | rfl <;> rfl)) _
theorem caprow (k o r b ra g gb : Int) (d : Bool) (w : World) (x : Obj) : RowAt ((w.alloc x).alloc (.cells #[.int .i64 k, .int .i64 o, .int .i64 r, .int .i64 b, .int .i64 ra, .int .i64 g, .int .i64 gb, .bool d] 23)) (w.heap.size + 1) 23 8 (fun j => if j = 7 then .bool d else if j = 6 then .int .i64 gb else if j = 5 then .int .i64 g else if j = 4 then .int .i64 ra else if j = 3 then .int .i64 b else if j = 2 then .int .i64 r else if j = 1 then .int .i64 o else .int .i64 k) := by
  have h : RowAt ((w.alloc x).alloc (.cells #[.int .i64 k, .int .i64 o, .int .i64 r, .int .i64 b, .int .i64 ra, .int .i64 g, .int .i64 gb, .bool d] 23)) (w.alloc x).heap.size 23 8 (fun j => if j = 7 then .bool d else if j = 6 then .int .i64 gb else if j = 5 then .int .i64 g else if j = 4 then .int .i64 ra else if j = 3 then .int .i64 b else if j = 2 then .int .i64 r else if j = 1 then .int .i64 o else .int .i64 k) :=
    row_new_of _ _ 23 8 _ rfl (fun k hk => by rcases (by omega : k = 0 ∨ k = 1 ∨ k = 2 ∨ k = 3 ∨ k = 4 ∨ k = 5 ∨ k = 6 ∨ k = 7) with rfl | rfl | rfl | rfl | rfl | rfl | rfl | rfl <;> rfl)
  rw [show (w.alloc x).heap.size = w.heap.size + 1 by simp] at h
  exact h

set_option maxHeartbeats 4000000 in
theorem rdecode_any (W : Int) (h0 : 0 ≤ W) (h1 : W < 18446744073709551616) (w : World) :
    Calls Try.prog 36 #[.int .u64 W] w fun e w' => e = .returned (.tuple #[decV W, .int .i64 (decE W)]) ∧ Below w.heap.size w w' := by
  go_enter Try.func36, Try.ntmps36
  go_wp2_with fail
  generalize hd : (W / 262144 / 1048576 / 256 / 65536 % 2 == 1) = d
  generalize hg : W / 262144 / 1048576 / 256 % 65536 = g
  generalize hgb : W / 262144 / 1048576 / 8 % 32 = gb
  generalize hra : W / 262144 / 1048576 % 8 = ra
  generalize hb : W / 262144 % 1048576 = b
  generalize hr : W / 16384 % 16 = r
  generalize ho : W / 16 % 1024 = o
  generalize hk : W % 16 = k
  have dk : fld W 0 = k := by simp only [fld]; omega
  have do_ : fld W 1 = o := by simp only [fld]; omega
  have dr : fld W 2 = r := by simp only [fld]; omega
  have db : fld W 3 = b := by simp only [fld]; omega
  have dra : fld W 4 = ra := by simp only [fld]; omega
  have dg : fld W 5 = g := by simp only [fld]; omega
  have dgb : fld W 6 = gb := by simp only [fld]; omega
  have dd : dBit W = d := by rw [← hd, dBit, show W / 262144 / 1048576 / 256 / 65536 = W / 4611686018427387904 by omega]
  have hok : decOK W = (decide (W < 9223372036854775808) && rightB k o r b ra g gb d) := by unfold decOK; rw [dk, do_, dr, db, dra, dg, dgb, dd]
  have hVE : ∀ x, decOK W = x → decV W = (if x then capAgg k o r b ra g gb d else capAgg 0 0 0 0 0 0 0 false) ∧ decE W = (if x then 0 else 141) := by
    intro x hx
    constructor
    · rw [decV, hx, dk, do_, dr, db, dra, dg, dgb, dd]
    · rw [decE, hx]
  have hW : wordOf k o r b ra g gb d = W % 9223372036854775808 := by
    rw [← hd]
    by_cases h2 : W / 262144 / 1048576 / 256 / 65536 % 2 = 1
    · have h3 : (W / 262144 / 1048576 / 256 / 65536 % 2 == 1) = true := by simpa using h2
      rw [h3]
      simp only [wordOf, if_true]
      omega
    · have h3 : (W / 262144 / 1048576 / 256 / 65536 % 2 == 1) = false := by simpa using h2
      rw [h3]
      simp only [wordOf, Bool.false_eq_true, if_false]
      omega
  have hr0 : -9223372036854775808 ≤ r := by omega
  have hr1 : r ≤ 9223372036854775807 := by omega
  clear hd hg hgb hra hb hr ho hk dk do_ dr db dra dg dgb dd
  have HOK := Lib.hid hok; have HVE0 := Lib.hid hVE; have HW := Lib.hid hW
  clear hok hVE hW
  refine (rencode_any k o r b ra g gb d _ hr0 hr1).mono ?_
  rintro e w2 ⟨rfl, hb2⟩
  have hz := RowAt.kept (zrows w (.cells #[.int .i64 k, .int .i64 o, .int .i64 r, .int .i64 b, .int .i64 ra, .int .i64 g, .int .i64 gb, .bool d] 23)) (S := fun _ => False) (Upd.of_below hb2) (fun h => h)
  have hc := RowAt.kept (caprow k o r b ra g gb d w (.cells #[.int .i64 0, .int .i64 0, .int .i64 0, .int .i64 0, .int .i64 0, .int .i64 0, .int .i64 0, .bool false] 23)) (S := fun _ => False) (Upd.of_below hb2) (fun h => h)
  have HZ := Lib.hid hz
  have B2 : Hid (Below w.heap.size w w2) := Lib.hid (Below.trans (((Below.refl _ _).alloc (Nat.le_refl _) _).alloc (by simp) _) (hb2.mono (by simp; omega)))
  obtain ⟨e0, e1, e2, e3, e4, e5, e6, e7⟩ := cells8 hc
  have q0 := RowAt.cell hz 0 (by omega)
  have q1 := RowAt.cell hz 1 (by omega)
  have q2 := RowAt.cell hz 2 (by omega)
  have q3 := RowAt.cell hz 3 (by omega)
  have q4 := RowAt.cell hz 4 (by omega)
  have q5 := RowAt.cell hz 5 (by omega)
  have q6 := RowAt.cell hz 6 (by omega)
  have q7 := RowAt.cell hz 7 (by omega)
  have f0 := fun k => RowAt.frozen hz k
  have hlt : w.heap.size < w2.heap.size := RowAt.lt hz
  have hlt1 : w.heap.size + 1 < w2.heap.size := RowAt.lt hc
  clear hz hc hb2 hr0 hr1
  cases hrr : rightB k o r b ra g gb d
  · have HVE := Lib.hid (HVE0.out false (by rw [HOK.out, hrr]; simp))
    rw [encW, encE, hrr]
    clear HOK HVE0 hrr HW
    go_wp2_with fail
    have hst := row_store8 HZ.out (.int .i64 0) (.int .i64 0) (.int .i64 0) (.int .i64 0) (.int .i64 0) (.int .i64 0) (.int .i64 0) (.bool false)
    have hbl : Below w.heap.size w ((((((((w2.setCell ⟨w.heap.size, 0, none⟩ (.int .i64 0)).setCell ⟨w.heap.size, 1, none⟩ (.int .i64 0)).setCell ⟨w.heap.size, 2, none⟩ (.int .i64 0)).setCell ⟨w.heap.size, 3, none⟩ (.int .i64 0)).setCell ⟨w.heap.size, 4, none⟩ (.int .i64 0)).setCell ⟨w.heap.size, 5, none⟩ (.int .i64 0)).setCell ⟨w.heap.size, 6, none⟩ (.int .i64 0)).setCell ⟨w.heap.size, 7, none⟩ (.bool false)) := by
      repeat (first | (with_reducible exact B2.out) | (with_reducible refine Below.setCell ?_ (by simp) _))
    clear e0 e1 e2 e3 e4 e5 e6 e7 q0 q1 q2 q3 q4 q5 q6 q7 f0
    generalize ((((((((w2.setCell ⟨w.heap.size, 0, none⟩ (.int .i64 0)).setCell ⟨w.heap.size, 1, none⟩ (.int .i64 0)).setCell ⟨w.heap.size, 2, none⟩ (.int .i64 0)).setCell ⟨w.heap.size, 3, none⟩ (.int .i64 0)).setCell ⟨w.heap.size, 4, none⟩ (.int .i64 0)).setCell ⟨w.heap.size, 5, none⟩ (.int .i64 0)).setCell ⟨w.heap.size, 6, none⟩ (.int .i64 0)).setCell ⟨w.heap.size, 7, none⟩ (.bool false)) = wf at hst hbl ⊢
    obtain ⟨q0, q1, q2, q3, q4, q5, q6, q7⟩ := cells8 hst
    clear hst
    refine bodyPost_ret (v := .tuple #[.agg #[.int .i64 0, .int .i64 0, .int .i64 0, .int .i64 0, .int .i64 0, .int .i64 0, .int .i64 0, .bool false], .int .i64 141]) (by simp [results, Try.results36, go_sem, q0, q1, q2, q3, q4, q5, q6, q7]) rfl ⟨by rw [HVE.out.1, HVE.out.2]; rfl, hbl⟩
  · by_cases hs : W < 9223372036854775808
    · have HVE := Lib.hid (HVE0.out true (by rw [HOK.out, hrr]; simp [hs]))
      have hww : wordOf k o r b ra g gb d = W := by rw [HW.out]; omega
      rw [encW, encE, hrr, hww]
      clear HOK HVE0 hrr HW hww
      go_wp2_with fail
      have hst := row_store8 HZ.out (.int .i64 k) (.int .i64 o) (.int .i64 r) (.int .i64 b) (.int .i64 ra) (.int .i64 g) (.int .i64 gb) (.bool d)
      have hbl : Below w.heap.size w ((((((((w2.setCell ⟨w.heap.size, 0, none⟩ (.int .i64 k)).setCell ⟨w.heap.size, 1, none⟩ (.int .i64 o)).setCell ⟨w.heap.size, 2, none⟩ (.int .i64 r)).setCell ⟨w.heap.size, 3, none⟩ (.int .i64 b)).setCell ⟨w.heap.size, 4, none⟩ (.int .i64 ra)).setCell ⟨w.heap.size, 5, none⟩ (.int .i64 g)).setCell ⟨w.heap.size, 6, none⟩ (.int .i64 gb)).setCell ⟨w.heap.size, 7, none⟩ (.bool d)) := by
        repeat (first | (with_reducible exact B2.out) | (with_reducible refine Below.setCell ?_ (by simp) _))
      clear e0 e1 e2 e3 e4 e5 e6 e7 q0 q1 q2 q3 q4 q5 q6 q7 f0
      generalize ((((((((w2.setCell ⟨w.heap.size, 0, none⟩ (.int .i64 k)).setCell ⟨w.heap.size, 1, none⟩ (.int .i64 o)).setCell ⟨w.heap.size, 2, none⟩ (.int .i64 r)).setCell ⟨w.heap.size, 3, none⟩ (.int .i64 b)).setCell ⟨w.heap.size, 4, none⟩ (.int .i64 ra)).setCell ⟨w.heap.size, 5, none⟩ (.int .i64 g)).setCell ⟨w.heap.size, 6, none⟩ (.int .i64 gb)).setCell ⟨w.heap.size, 7, none⟩ (.bool d)) = wf at hst hbl ⊢
      obtain ⟨q0, q1, q2, q3, q4, q5, q6, q7⟩ := cells8 hst
      clear hst
      refine bodyPost_ret (v := .tuple #[.agg #[.int .i64 k, .int .i64 o, .int .i64 r, .int .i64 b, .int .i64 ra, .int .i64 g, .int .i64 gb, .bool d], .int .i64 0]) (by simp [results, Try.results36, go_sem, q0, q1, q2, q3, q4, q5, q6, q7]) rfl ⟨by rw [HVE.out.1, HVE.out.2]; rfl, hbl⟩
    · have HVE := Lib.hid (HVE0.out false (by rw [HOK.out, hrr]; simp [hs]))
      obtain ⟨X, hX⟩ : ∃ x, wordOf k o r b ra g gb d = x := ⟨_, rfl⟩
      have hne : (X != W) = true := by
        have h := HW.out
        rw [hX] at h
        have : X ≠ W := by omega
        simpa using this
      rw [encW, encE, hrr, hX]
      clear HOK HVE0 hrr HW hX
      go_wp2_with fail
      have hst := row_store8 HZ.out (.int .i64 0) (.int .i64 0) (.int .i64 0) (.int .i64 0) (.int .i64 0) (.int .i64 0) (.int .i64 0) (.bool false)
      have hbl : Below w.heap.size w ((((((((w2.setCell ⟨w.heap.size, 0, none⟩ (.int .i64 0)).setCell ⟨w.heap.size, 1, none⟩ (.int .i64 0)).setCell ⟨w.heap.size, 2, none⟩ (.int .i64 0)).setCell ⟨w.heap.size, 3, none⟩ (.int .i64 0)).setCell ⟨w.heap.size, 4, none⟩ (.int .i64 0)).setCell ⟨w.heap.size, 5, none⟩ (.int .i64 0)).setCell ⟨w.heap.size, 6, none⟩ (.int .i64 0)).setCell ⟨w.heap.size, 7, none⟩ (.bool false)) := by
        repeat (first | (with_reducible exact B2.out) | (with_reducible refine Below.setCell ?_ (by simp) _))
      clear e0 e1 e2 e3 e4 e5 e6 e7 q0 q1 q2 q3 q4 q5 q6 q7 f0
      generalize ((((((((w2.setCell ⟨w.heap.size, 0, none⟩ (.int .i64 0)).setCell ⟨w.heap.size, 1, none⟩ (.int .i64 0)).setCell ⟨w.heap.size, 2, none⟩ (.int .i64 0)).setCell ⟨w.heap.size, 3, none⟩ (.int .i64 0)).setCell ⟨w.heap.size, 4, none⟩ (.int .i64 0)).setCell ⟨w.heap.size, 5, none⟩ (.int .i64 0)).setCell ⟨w.heap.size, 6, none⟩ (.int .i64 0)).setCell ⟨w.heap.size, 7, none⟩ (.bool false)) = wf at hst hbl ⊢
      obtain ⟨q0, q1, q2, q3, q4, q5, q6, q7⟩ := cells8 hst
      clear hst
      refine bodyPost_ret (v := .tuple #[.agg #[.int .i64 0, .int .i64 0, .int .i64 0, .int .i64 0, .int .i64 0, .int .i64 0, .int .i64 0, .bool false], .int .i64 141]) (by simp [results, Try.results36, go_sem, q0, q1, q2, q3, q4, q5, q6, q7]) rfl ⟨by rw [HVE.out.1, HVE.out.2]; rfl, hbl⟩
end Go.Proofs.Ytcbbmgohdcabeaa
