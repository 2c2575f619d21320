/- The contract of does of chapter 18, the other acts; no condition but numbers of 64 bits. -/
import Derived.Test.YtnebjbjdgfaooaaVdA
namespace Go.Proofs.Ytnebjbjdgfaooaa
open Go.RowKit Go.Maps
set_option maxRecDepth 100000
set_option maxHeartbeats 32000000 in
theorem does18_b (w00 : World) (p r : Nat) (o o2 : Own) (A B : Am) (d id n m : Int) (bk : Nat → Int) (on tkp tkr : Bool) (hid : i64 id)
    (hd : d = 6 ∨ d = 7 ∨ d = 8 ∨ d = 9 ∨ d = 10) (w : World) (h : Duo w00 w p r o o2 A B) :
    Calls Try.prog 37 #[.pointer (some ⟨p, 0, none⟩), .pointer (some ⟨r, 0, none⟩), .agg #[.int .i64 d, .int .i64 id, .int .i64 n, .int .i64 m, .int .u32 (bk 0), .int .u32 (bk 1), .int .u32 (bk 2), .int .u32 (bk 3), .int .u32 (bk 4), .int .u32 (bk 5), .int .u32 (bk 6), .int .u32 (bk 7), .bool on]] w fun e w' =>
      (∃ b, e = .returned (.bool b) ∧ (A = B → b = true)) ∧ DGo w00 w w' p r o o2 (actS A d id n m bk on tkp) (actS B d id n m bk on tkr) := by
  have HD0 := Lib.hid h; clear h
  by_cases d6 : d = 6
  · subst d6
    have HD := Lib.hid (HD0.out.alloc (.cells #[.int .i64 6, .int .i64 id, .int .i64 n, .int .i64 m, .int .u32 (bk 0), .int .u32 (bk 1), .int .u32 (bk 2), .int .u32 (bk 3), .int .u32 (bk 4), .int .u32 (bk 5), .int .u32 (bk 6), .int .u32 (bk 7), .bool on] 77))
    have HW : Hid (Pre w (w.alloc (.cells #[.int .i64 6, .int .i64 id, .int .i64 n, .int .i64 m, .int .u32 (bk 0), .int .u32 (bk 1), .int .u32 (bk 2), .int .u32 (bk 3), .int .u32 (bk 4), .int .u32 (bk 5), .int .u32 (bk 6), .int .u32 (bk 7), .bool on] 77))) := Lib.hid (Pre.alloc _ _)
    have HR : Hid (RowAt (w.alloc (.cells #[.int .i64 6, .int .i64 id, .int .i64 n, .int .i64 m, .int .u32 (bk 0), .int .u32 (bk 1), .int .u32 (bk 2), .int .u32 (bk 3), .int .u32 (bk 4), .int .u32 (bk 5), .int .u32 (bk 6), .int .u32 (bk 7), .bool on] 77)) w.heap.size 77 13 (acell18 6 id n m bk on)) := Lib.hid (row_new_of w _ 77 13 _ (by kernel_rfl))
    have HNO : Hid (¬ (Ow o w.heap.size ∨ Ow o2 w.heap.size)) := Lib.hid (fun h => by have := HD0.out.lim h; omega)
    go_enter Try.func37, Try.ntmps37
    go_wp2_with fail
    have HWX : Hid (∀ k, (w.alloc (.cells #[.int .i64 6, .int .i64 id, .int .i64 n, .int .i64 m, .int .u32 (bk 0), .int .u32 (bk 1), .int .u32 (bk 2), .int .u32 (bk 3), .int .u32 (bk 4), .int .u32 (bk 5), .int .u32 (bk 6), .int .u32 (bk 7), .bool on] 77)).cell? ⟨w.heap.size, k, none⟩ = (w.alloc (.cells #[.int .i64 6, .int .i64 id, .int .i64 n, .int .i64 m, .int .u32 (bk 0), .int .u32 (bk 1), .int .u32 (bk 2), .int .u32 (bk 3), .int .u32 (bk 4), .int .u32 (bk 5), .int .u32 (bk 6), .int .u32 (bk 7), .bool on] 77)).cell? ⟨w.heap.size, k, none⟩) := Lib.hid (fun _ => rfl)
    clear HWX
    generalize w.alloc (.cells #[.int .i64 6, .int .i64 id, .int .i64 n, .int .i64 m, .int .u32 (bk 0), .int .u32 (bk 1), .int .u32 (bk 2), .int .u32 (bk 3), .int .u32 (bk 4), .int .u32 (bk 5), .int .u32 (bk 6), .int .u32 (bk 7), .bool on] 77) = w0 at HD HR HW ⊢
    obtain ⟨lb, hlb⟩ : ∃ lb, w.heap.size = lb := ⟨_, rfl⟩
    rw [hlb] at HR HNO ⊢
    clear hlb
    have a1 : w0.cell? ⟨lb, 1, none⟩ = some (.int .i64 id) := HR.out.cell 1 (by omega)
    have a2 : w0.cell? ⟨lb, 2, none⟩ = some (.int .i64 n) := HR.out.cell 2 (by omega)
    have a3 : w0.cell? ⟨lb, 3, none⟩ = some (.int .i64 m) := HR.out.cell 3 (by omega)
    have c0 : w0.cell? ⟨lb, 4, none⟩ = some (.int .u32 (bk 0)) := HR.out.cell 4 (by omega)
    have c1 : w0.cell? ⟨lb, 5, none⟩ = some (.int .u32 (bk 1)) := HR.out.cell 5 (by omega)
    have c2 : w0.cell? ⟨lb, 6, none⟩ = some (.int .u32 (bk 2)) := HR.out.cell 6 (by omega)
    have c3 : w0.cell? ⟨lb, 7, none⟩ = some (.int .u32 (bk 3)) := HR.out.cell 7 (by omega)
    have c4 : w0.cell? ⟨lb, 8, none⟩ = some (.int .u32 (bk 4)) := HR.out.cell 8 (by omega)
    have c5 : w0.cell? ⟨lb, 9, none⟩ = some (.int .u32 (bk 5)) := HR.out.cell 9 (by omega)
    have c6 : w0.cell? ⟨lb, 10, none⟩ = some (.int .u32 (bk 6)) := HR.out.cell 10 (by omega)
    have c7 : w0.cell? ⟨lb, 11, none⟩ = some (.int .u32 (bk 7)) := HR.out.cell 11 (by omega)
    have a12 : w0.cell? ⟨lb, 12, none⟩ = some (.bool on) := HR.out.cell 12 (by omega)
    obtain ⟨C, hC, hCA⟩ := HD.out.pk
    refine (cleave_any p o C w0 hC).mono ?_
    rintro e w1 ⟨rfl, hk, hku⟩
    have hs : Stp w0 w1 o p (leaveA A) := ⟨o, leaveC C, hk, by rw [to_leave hC, hCA], Ext.refl _ _, hku⟩
    clear hk hku
    obtain ⟨o1, q1, hd1, x1, x2, hu1⟩ := HD.out.stepP hs
    have HD1 := Lib.hid hd1
    have HX1 := Lib.hid (And.intro x1 (And.intro x2 hu1))
    have HR1 := Lib.hid (HR.out.kept hu1 HNO.out)
    clear hs hd1 x1 x2 hu1 hC hCA C a1 a2 a3 a12 c0 c1 c2 c3 c4 c5 c6 c7
    have HR := HR1
    have a1 : w1.cell? ⟨lb, 1, none⟩ = some (.int .i64 id) := HR.out.cell 1 (by omega)
    have a2 : w1.cell? ⟨lb, 2, none⟩ = some (.int .i64 n) := HR.out.cell 2 (by omega)
    have a3 : w1.cell? ⟨lb, 3, none⟩ = some (.int .i64 m) := HR.out.cell 3 (by omega)
    have c0 : w1.cell? ⟨lb, 4, none⟩ = some (.int .u32 (bk 0)) := HR.out.cell 4 (by omega)
    have c1 : w1.cell? ⟨lb, 5, none⟩ = some (.int .u32 (bk 1)) := HR.out.cell 5 (by omega)
    have c2 : w1.cell? ⟨lb, 6, none⟩ = some (.int .u32 (bk 2)) := HR.out.cell 6 (by omega)
    have c3 : w1.cell? ⟨lb, 7, none⟩ = some (.int .u32 (bk 3)) := HR.out.cell 7 (by omega)
    have c4 : w1.cell? ⟨lb, 8, none⟩ = some (.int .u32 (bk 4)) := HR.out.cell 8 (by omega)
    have c5 : w1.cell? ⟨lb, 9, none⟩ = some (.int .u32 (bk 5)) := HR.out.cell 9 (by omega)
    have c6 : w1.cell? ⟨lb, 10, none⟩ = some (.int .u32 (bk 6)) := HR.out.cell 10 (by omega)
    have c7 : w1.cell? ⟨lb, 11, none⟩ = some (.int .u32 (bk 7)) := HR.out.cell 11 (by omega)
    have a12 : w1.cell? ⟨lb, 12, none⟩ = some (.bool on) := HR.out.cell 12 (by omega)
    obtain ⟨D, hD, hDB⟩ := HD1.out.rk
    have c2 := hD.cld
    have hf := hD.frozen
    obtain ⟨h1, h2⟩ := hD.stl (-1) (Or.inl rfl)
    have hs : Rtp w1 (w1.setCell ⟨r, 2, none⟩ (.int .i64 (-1))) q1 r (leaveA B) := ⟨q1, _, h1, by rw [← hDB]; rfl, Ext.refl _ _, h2⟩
    obtain ⟨o3, q3, hd3, x3, x4, hu3⟩ := HD1.out.stepR hs
    have HG := Lib.hid (DGo.trans HX1.out.1 HX1.out.2.1 HX1.out.2.2 ⟨o3, q3, hd3, x3, x4, hu3⟩)
    clear hs hd3 x3 x4 hu3 h1 h2 hDB hD
    go_wp2_with fail
    go_ret
    exact ⟨⟨_, rfl, fun _ => rfl⟩, HW.out.pre HG.out⟩
  by_cases d7 : d = 7
  · subst d7
    have HD := Lib.hid (HD0.out.alloc (.cells #[.int .i64 7, .int .i64 id, .int .i64 n, .int .i64 m, .int .u32 (bk 0), .int .u32 (bk 1), .int .u32 (bk 2), .int .u32 (bk 3), .int .u32 (bk 4), .int .u32 (bk 5), .int .u32 (bk 6), .int .u32 (bk 7), .bool on] 77))
    have HW : Hid (Pre w (w.alloc (.cells #[.int .i64 7, .int .i64 id, .int .i64 n, .int .i64 m, .int .u32 (bk 0), .int .u32 (bk 1), .int .u32 (bk 2), .int .u32 (bk 3), .int .u32 (bk 4), .int .u32 (bk 5), .int .u32 (bk 6), .int .u32 (bk 7), .bool on] 77))) := Lib.hid (Pre.alloc _ _)
    have HR : Hid (RowAt (w.alloc (.cells #[.int .i64 7, .int .i64 id, .int .i64 n, .int .i64 m, .int .u32 (bk 0), .int .u32 (bk 1), .int .u32 (bk 2), .int .u32 (bk 3), .int .u32 (bk 4), .int .u32 (bk 5), .int .u32 (bk 6), .int .u32 (bk 7), .bool on] 77)) w.heap.size 77 13 (acell18 7 id n m bk on)) := Lib.hid (row_new_of w _ 77 13 _ (by kernel_rfl))
    have HNO : Hid (¬ (Ow o w.heap.size ∨ Ow o2 w.heap.size)) := Lib.hid (fun h => by have := HD0.out.lim h; omega)
    go_enter Try.func37, Try.ntmps37
    go_wp2_with fail
    have HWX : Hid (∀ k, (w.alloc (.cells #[.int .i64 7, .int .i64 id, .int .i64 n, .int .i64 m, .int .u32 (bk 0), .int .u32 (bk 1), .int .u32 (bk 2), .int .u32 (bk 3), .int .u32 (bk 4), .int .u32 (bk 5), .int .u32 (bk 6), .int .u32 (bk 7), .bool on] 77)).cell? ⟨w.heap.size, k, none⟩ = (w.alloc (.cells #[.int .i64 7, .int .i64 id, .int .i64 n, .int .i64 m, .int .u32 (bk 0), .int .u32 (bk 1), .int .u32 (bk 2), .int .u32 (bk 3), .int .u32 (bk 4), .int .u32 (bk 5), .int .u32 (bk 6), .int .u32 (bk 7), .bool on] 77)).cell? ⟨w.heap.size, k, none⟩) := Lib.hid (fun _ => rfl)
    clear HWX
    generalize w.alloc (.cells #[.int .i64 7, .int .i64 id, .int .i64 n, .int .i64 m, .int .u32 (bk 0), .int .u32 (bk 1), .int .u32 (bk 2), .int .u32 (bk 3), .int .u32 (bk 4), .int .u32 (bk 5), .int .u32 (bk 6), .int .u32 (bk 7), .bool on] 77) = w0 at HD HR HW ⊢
    obtain ⟨lb, hlb⟩ : ∃ lb, w.heap.size = lb := ⟨_, rfl⟩
    rw [hlb] at HR HNO ⊢
    clear hlb
    have a1 : w0.cell? ⟨lb, 1, none⟩ = some (.int .i64 id) := HR.out.cell 1 (by omega)
    have a2 : w0.cell? ⟨lb, 2, none⟩ = some (.int .i64 n) := HR.out.cell 2 (by omega)
    have a3 : w0.cell? ⟨lb, 3, none⟩ = some (.int .i64 m) := HR.out.cell 3 (by omega)
    have c0 : w0.cell? ⟨lb, 4, none⟩ = some (.int .u32 (bk 0)) := HR.out.cell 4 (by omega)
    have c1 : w0.cell? ⟨lb, 5, none⟩ = some (.int .u32 (bk 1)) := HR.out.cell 5 (by omega)
    have c2 : w0.cell? ⟨lb, 6, none⟩ = some (.int .u32 (bk 2)) := HR.out.cell 6 (by omega)
    have c3 : w0.cell? ⟨lb, 7, none⟩ = some (.int .u32 (bk 3)) := HR.out.cell 7 (by omega)
    have c4 : w0.cell? ⟨lb, 8, none⟩ = some (.int .u32 (bk 4)) := HR.out.cell 8 (by omega)
    have c5 : w0.cell? ⟨lb, 9, none⟩ = some (.int .u32 (bk 5)) := HR.out.cell 9 (by omega)
    have c6 : w0.cell? ⟨lb, 10, none⟩ = some (.int .u32 (bk 6)) := HR.out.cell 10 (by omega)
    have c7 : w0.cell? ⟨lb, 11, none⟩ = some (.int .u32 (bk 7)) := HR.out.cell 11 (by omega)
    have a12 : w0.cell? ⟨lb, 12, none⟩ = some (.bool on) := HR.out.cell 12 (by omega)
    obtain ⟨C, hC, hCA⟩ := HD.out.pk
    refine (csetbank_any p o C bk w0 hC).mono ?_
    rw [hCA]
    rintro e w1 ⟨rfl, hs⟩
    obtain ⟨o1, q1, hd1, x1, x2, hu1⟩ := HD.out.stepP hs
    have HD1 := Lib.hid hd1
    have HX1 := Lib.hid (And.intro x1 (And.intro x2 hu1))
    have HR1 := Lib.hid (HR.out.kept hu1 HNO.out)
    clear hs hd1 x1 x2 hu1 hC hCA C a1 a2 a3 a12 c0 c1 c2 c3 c4 c5 c6 c7
    have HR := HR1
    have a1 : w1.cell? ⟨lb, 1, none⟩ = some (.int .i64 id) := HR.out.cell 1 (by omega)
    have a2 : w1.cell? ⟨lb, 2, none⟩ = some (.int .i64 n) := HR.out.cell 2 (by omega)
    have a3 : w1.cell? ⟨lb, 3, none⟩ = some (.int .i64 m) := HR.out.cell 3 (by omega)
    have c0 : w1.cell? ⟨lb, 4, none⟩ = some (.int .u32 (bk 0)) := HR.out.cell 4 (by omega)
    have c1 : w1.cell? ⟨lb, 5, none⟩ = some (.int .u32 (bk 1)) := HR.out.cell 5 (by omega)
    have c2 : w1.cell? ⟨lb, 6, none⟩ = some (.int .u32 (bk 2)) := HR.out.cell 6 (by omega)
    have c3 : w1.cell? ⟨lb, 7, none⟩ = some (.int .u32 (bk 3)) := HR.out.cell 7 (by omega)
    have c4 : w1.cell? ⟨lb, 8, none⟩ = some (.int .u32 (bk 4)) := HR.out.cell 8 (by omega)
    have c5 : w1.cell? ⟨lb, 9, none⟩ = some (.int .u32 (bk 5)) := HR.out.cell 9 (by omega)
    have c6 : w1.cell? ⟨lb, 10, none⟩ = some (.int .u32 (bk 6)) := HR.out.cell 10 (by omega)
    have c7 : w1.cell? ⟨lb, 11, none⟩ = some (.int .u32 (bk 7)) := HR.out.cell 11 (by omega)
    have a12 : w1.cell? ⟨lb, 12, none⟩ = some (.bool on) := HR.out.cell 12 (by omega)
    go_wp2_with fail
    obtain ⟨C, hC, hCA⟩ := HD1.out.rk
    refine (rsetbank_any r q1 C bk w1 hC).mono ?_
    rw [hCA]
    rintro e w2 ⟨rfl, hs⟩
    obtain ⟨o3, q3, hd3, x3, x4, hu3⟩ := HD1.out.stepR hs
    have HG := Lib.hid (DGo.trans HX1.out.1 HX1.out.2.1 HX1.out.2.2 ⟨o3, q3, hd3, x3, x4, hu3⟩)
    clear hs hd3 x3 x4 hu3 hC hCA C
    go_wp2_with fail
    go_ret
    exact ⟨⟨_, rfl, fun h => by subst h; simp⟩, HW.out.pre HG.out⟩
  by_cases d8 : d = 8
  · subst d8
    have HD := Lib.hid (HD0.out.alloc (.cells #[.int .i64 8, .int .i64 id, .int .i64 n, .int .i64 m, .int .u32 (bk 0), .int .u32 (bk 1), .int .u32 (bk 2), .int .u32 (bk 3), .int .u32 (bk 4), .int .u32 (bk 5), .int .u32 (bk 6), .int .u32 (bk 7), .bool on] 77))
    have HW : Hid (Pre w (w.alloc (.cells #[.int .i64 8, .int .i64 id, .int .i64 n, .int .i64 m, .int .u32 (bk 0), .int .u32 (bk 1), .int .u32 (bk 2), .int .u32 (bk 3), .int .u32 (bk 4), .int .u32 (bk 5), .int .u32 (bk 6), .int .u32 (bk 7), .bool on] 77))) := Lib.hid (Pre.alloc _ _)
    have HR : Hid (RowAt (w.alloc (.cells #[.int .i64 8, .int .i64 id, .int .i64 n, .int .i64 m, .int .u32 (bk 0), .int .u32 (bk 1), .int .u32 (bk 2), .int .u32 (bk 3), .int .u32 (bk 4), .int .u32 (bk 5), .int .u32 (bk 6), .int .u32 (bk 7), .bool on] 77)) w.heap.size 77 13 (acell18 8 id n m bk on)) := Lib.hid (row_new_of w _ 77 13 _ (by kernel_rfl))
    have HNO : Hid (¬ (Ow o w.heap.size ∨ Ow o2 w.heap.size)) := Lib.hid (fun h => by have := HD0.out.lim h; omega)
    go_enter Try.func37, Try.ntmps37
    go_wp2_with fail
    have HWX : Hid (∀ k, (w.alloc (.cells #[.int .i64 8, .int .i64 id, .int .i64 n, .int .i64 m, .int .u32 (bk 0), .int .u32 (bk 1), .int .u32 (bk 2), .int .u32 (bk 3), .int .u32 (bk 4), .int .u32 (bk 5), .int .u32 (bk 6), .int .u32 (bk 7), .bool on] 77)).cell? ⟨w.heap.size, k, none⟩ = (w.alloc (.cells #[.int .i64 8, .int .i64 id, .int .i64 n, .int .i64 m, .int .u32 (bk 0), .int .u32 (bk 1), .int .u32 (bk 2), .int .u32 (bk 3), .int .u32 (bk 4), .int .u32 (bk 5), .int .u32 (bk 6), .int .u32 (bk 7), .bool on] 77)).cell? ⟨w.heap.size, k, none⟩) := Lib.hid (fun _ => rfl)
    clear HWX
    generalize w.alloc (.cells #[.int .i64 8, .int .i64 id, .int .i64 n, .int .i64 m, .int .u32 (bk 0), .int .u32 (bk 1), .int .u32 (bk 2), .int .u32 (bk 3), .int .u32 (bk 4), .int .u32 (bk 5), .int .u32 (bk 6), .int .u32 (bk 7), .bool on] 77) = w0 at HD HR HW ⊢
    obtain ⟨lb, hlb⟩ : ∃ lb, w.heap.size = lb := ⟨_, rfl⟩
    rw [hlb] at HR HNO ⊢
    clear hlb
    have a1 : w0.cell? ⟨lb, 1, none⟩ = some (.int .i64 id) := HR.out.cell 1 (by omega)
    have a2 : w0.cell? ⟨lb, 2, none⟩ = some (.int .i64 n) := HR.out.cell 2 (by omega)
    have a3 : w0.cell? ⟨lb, 3, none⟩ = some (.int .i64 m) := HR.out.cell 3 (by omega)
    have c0 : w0.cell? ⟨lb, 4, none⟩ = some (.int .u32 (bk 0)) := HR.out.cell 4 (by omega)
    have c1 : w0.cell? ⟨lb, 5, none⟩ = some (.int .u32 (bk 1)) := HR.out.cell 5 (by omega)
    have c2 : w0.cell? ⟨lb, 6, none⟩ = some (.int .u32 (bk 2)) := HR.out.cell 6 (by omega)
    have c3 : w0.cell? ⟨lb, 7, none⟩ = some (.int .u32 (bk 3)) := HR.out.cell 7 (by omega)
    have c4 : w0.cell? ⟨lb, 8, none⟩ = some (.int .u32 (bk 4)) := HR.out.cell 8 (by omega)
    have c5 : w0.cell? ⟨lb, 9, none⟩ = some (.int .u32 (bk 5)) := HR.out.cell 9 (by omega)
    have c6 : w0.cell? ⟨lb, 10, none⟩ = some (.int .u32 (bk 6)) := HR.out.cell 10 (by omega)
    have c7 : w0.cell? ⟨lb, 11, none⟩ = some (.int .u32 (bk 7)) := HR.out.cell 11 (by omega)
    have a12 : w0.cell? ⟨lb, 12, none⟩ = some (.bool on) := HR.out.cell 12 (by omega)
    obtain ⟨C, hC, hCA⟩ := HD.out.pk
    refine (cread_any p o C id n hid w0 hC).mono ?_
    rw [hCA]
    rintro e w1 ⟨rfl, hw⟩
    subst hw
    obtain ⟨D, hD, hDB⟩ := HD.out.rk
    go_wp2_with fail
    refine (rread_any r o2 D id n _ hD).mono ?_
    rw [hDB]
    rintro e w2 ⟨rfl, hw⟩
    subst hw
    obtain ⟨va, hva⟩ : ∃ z, (readA A id n).1 = z := ⟨_, rfl⟩
    obtain ⟨ea, hea⟩ : ∃ z, (readA A id n).2 = z := ⟨_, rfl⟩
    obtain ⟨vb, hvb⟩ : ∃ z, (readA B id n).1 = z := ⟨_, rfl⟩
    obtain ⟨eb, heb⟩ : ∃ z, (readA B id n).2 = z := ⟨_, rfl⟩
    have HQ : Hid (A = B → va = vb ∧ ea = eb) := Lib.hid (fun h => by subst h; exact ⟨hva.symm.trans hvb, hea.symm.trans heb⟩)
    rw [hva, hea, hvb, heb]
    have HDD := Lib.hid (DGo.refl HD.out)
    clear hva hea hvb heb hC hCA hD hDB
    by_cases hv : va = vb
    · subst hv
      by_cases he : ea = eb
      · subst he
        go_wp2_with fail
        go_ret
        exact ⟨⟨_, rfl, fun _ => rfl⟩, HW.out.pre HDD.out⟩
      · have he2 : (ea == eb) = false := by simpa using he
        have HE := Lib.hid he
        clear he
        go_wp2_with fail
        go_ret
        exact ⟨⟨_, rfl, fun h => absurd (HQ.out h).2 HE.out⟩, HW.out.pre HDD.out⟩
    · have hv2 : (va == vb) = false := by simpa using hv
      have HE := Lib.hid hv
      clear hv
      go_wp2_with fail
      go_ret
      exact ⟨⟨_, rfl, fun h => absurd (HQ.out h).1 HE.out⟩, HW.out.pre HDD.out⟩
  by_cases d9 : d = 9
  · subst d9
    have HD := Lib.hid (HD0.out.alloc (.cells #[.int .i64 9, .int .i64 id, .int .i64 n, .int .i64 m, .int .u32 (bk 0), .int .u32 (bk 1), .int .u32 (bk 2), .int .u32 (bk 3), .int .u32 (bk 4), .int .u32 (bk 5), .int .u32 (bk 6), .int .u32 (bk 7), .bool on] 77))
    have HW : Hid (Pre w (w.alloc (.cells #[.int .i64 9, .int .i64 id, .int .i64 n, .int .i64 m, .int .u32 (bk 0), .int .u32 (bk 1), .int .u32 (bk 2), .int .u32 (bk 3), .int .u32 (bk 4), .int .u32 (bk 5), .int .u32 (bk 6), .int .u32 (bk 7), .bool on] 77))) := Lib.hid (Pre.alloc _ _)
    have HR : Hid (RowAt (w.alloc (.cells #[.int .i64 9, .int .i64 id, .int .i64 n, .int .i64 m, .int .u32 (bk 0), .int .u32 (bk 1), .int .u32 (bk 2), .int .u32 (bk 3), .int .u32 (bk 4), .int .u32 (bk 5), .int .u32 (bk 6), .int .u32 (bk 7), .bool on] 77)) w.heap.size 77 13 (acell18 9 id n m bk on)) := Lib.hid (row_new_of w _ 77 13 _ (by kernel_rfl))
    have HNO : Hid (¬ (Ow o w.heap.size ∨ Ow o2 w.heap.size)) := Lib.hid (fun h => by have := HD0.out.lim h; omega)
    go_enter Try.func37, Try.ntmps37
    go_wp2_with fail
    have HWX : Hid (∀ k, (w.alloc (.cells #[.int .i64 9, .int .i64 id, .int .i64 n, .int .i64 m, .int .u32 (bk 0), .int .u32 (bk 1), .int .u32 (bk 2), .int .u32 (bk 3), .int .u32 (bk 4), .int .u32 (bk 5), .int .u32 (bk 6), .int .u32 (bk 7), .bool on] 77)).cell? ⟨w.heap.size, k, none⟩ = (w.alloc (.cells #[.int .i64 9, .int .i64 id, .int .i64 n, .int .i64 m, .int .u32 (bk 0), .int .u32 (bk 1), .int .u32 (bk 2), .int .u32 (bk 3), .int .u32 (bk 4), .int .u32 (bk 5), .int .u32 (bk 6), .int .u32 (bk 7), .bool on] 77)).cell? ⟨w.heap.size, k, none⟩) := Lib.hid (fun _ => rfl)
    clear HWX
    generalize w.alloc (.cells #[.int .i64 9, .int .i64 id, .int .i64 n, .int .i64 m, .int .u32 (bk 0), .int .u32 (bk 1), .int .u32 (bk 2), .int .u32 (bk 3), .int .u32 (bk 4), .int .u32 (bk 5), .int .u32 (bk 6), .int .u32 (bk 7), .bool on] 77) = w0 at HD HR HW ⊢
    obtain ⟨lb, hlb⟩ : ∃ lb, w.heap.size = lb := ⟨_, rfl⟩
    rw [hlb] at HR HNO ⊢
    clear hlb
    have a1 : w0.cell? ⟨lb, 1, none⟩ = some (.int .i64 id) := HR.out.cell 1 (by omega)
    have a2 : w0.cell? ⟨lb, 2, none⟩ = some (.int .i64 n) := HR.out.cell 2 (by omega)
    have a3 : w0.cell? ⟨lb, 3, none⟩ = some (.int .i64 m) := HR.out.cell 3 (by omega)
    have c0 : w0.cell? ⟨lb, 4, none⟩ = some (.int .u32 (bk 0)) := HR.out.cell 4 (by omega)
    have c1 : w0.cell? ⟨lb, 5, none⟩ = some (.int .u32 (bk 1)) := HR.out.cell 5 (by omega)
    have c2 : w0.cell? ⟨lb, 6, none⟩ = some (.int .u32 (bk 2)) := HR.out.cell 6 (by omega)
    have c3 : w0.cell? ⟨lb, 7, none⟩ = some (.int .u32 (bk 3)) := HR.out.cell 7 (by omega)
    have c4 : w0.cell? ⟨lb, 8, none⟩ = some (.int .u32 (bk 4)) := HR.out.cell 8 (by omega)
    have c5 : w0.cell? ⟨lb, 9, none⟩ = some (.int .u32 (bk 5)) := HR.out.cell 9 (by omega)
    have c6 : w0.cell? ⟨lb, 10, none⟩ = some (.int .u32 (bk 6)) := HR.out.cell 10 (by omega)
    have c7 : w0.cell? ⟨lb, 11, none⟩ = some (.int .u32 (bk 7)) := HR.out.cell 11 (by omega)
    have a12 : w0.cell? ⟨lb, 12, none⟩ = some (.bool on) := HR.out.cell 12 (by omega)
    obtain ⟨C, hC, hCA⟩ := HD.out.pk
    refine (cwrite_any p o C id n (m % 4294967296) hid w0 hC).mono ?_
    rw [hCA]
    rintro e w1 ⟨rfl, hs⟩
    obtain ⟨o1, q1, hd1, x1, x2, hu1⟩ := HD.out.stepP hs
    have HD1 := Lib.hid hd1
    have HX1 := Lib.hid (And.intro x1 (And.intro x2 hu1))
    have HR1 := Lib.hid (HR.out.kept hu1 HNO.out)
    clear hs hd1 x1 x2 hu1 hC hCA C a1 a2 a3 a12 c0 c1 c2 c3 c4 c5 c6 c7
    have HR := HR1
    have a1 : w1.cell? ⟨lb, 1, none⟩ = some (.int .i64 id) := HR.out.cell 1 (by omega)
    have a2 : w1.cell? ⟨lb, 2, none⟩ = some (.int .i64 n) := HR.out.cell 2 (by omega)
    have a3 : w1.cell? ⟨lb, 3, none⟩ = some (.int .i64 m) := HR.out.cell 3 (by omega)
    have c0 : w1.cell? ⟨lb, 4, none⟩ = some (.int .u32 (bk 0)) := HR.out.cell 4 (by omega)
    have c1 : w1.cell? ⟨lb, 5, none⟩ = some (.int .u32 (bk 1)) := HR.out.cell 5 (by omega)
    have c2 : w1.cell? ⟨lb, 6, none⟩ = some (.int .u32 (bk 2)) := HR.out.cell 6 (by omega)
    have c3 : w1.cell? ⟨lb, 7, none⟩ = some (.int .u32 (bk 3)) := HR.out.cell 7 (by omega)
    have c4 : w1.cell? ⟨lb, 8, none⟩ = some (.int .u32 (bk 4)) := HR.out.cell 8 (by omega)
    have c5 : w1.cell? ⟨lb, 9, none⟩ = some (.int .u32 (bk 5)) := HR.out.cell 9 (by omega)
    have c6 : w1.cell? ⟨lb, 10, none⟩ = some (.int .u32 (bk 6)) := HR.out.cell 10 (by omega)
    have c7 : w1.cell? ⟨lb, 11, none⟩ = some (.int .u32 (bk 7)) := HR.out.cell 11 (by omega)
    have a12 : w1.cell? ⟨lb, 12, none⟩ = some (.bool on) := HR.out.cell 12 (by omega)
    go_wp2_with fail
    obtain ⟨C, hC, hCA⟩ := HD1.out.rk
    refine (rwrite_any r q1 C id n (m % 4294967296) w1 hC).mono ?_
    rw [hCA]
    rintro e w2 ⟨rfl, hs⟩
    obtain ⟨o3, q3, hd3, x3, x4, hu3⟩ := HD1.out.stepR hs
    have HG := Lib.hid (DGo.trans HX1.out.1 HX1.out.2.1 HX1.out.2.2 ⟨o3, q3, hd3, x3, x4, hu3⟩)
    clear hs hd3 x3 x4 hu3 hC hCA C
    go_wp2_with fail
    go_ret
    exact ⟨⟨_, rfl, fun h => by subst h; simp⟩, HW.out.pre HG.out⟩
  by_cases d10 : d = 10
  · subst d10
    have HD := Lib.hid (HD0.out.alloc (.cells #[.int .i64 10, .int .i64 id, .int .i64 n, .int .i64 m, .int .u32 (bk 0), .int .u32 (bk 1), .int .u32 (bk 2), .int .u32 (bk 3), .int .u32 (bk 4), .int .u32 (bk 5), .int .u32 (bk 6), .int .u32 (bk 7), .bool on] 77))
    have HW : Hid (Pre w (w.alloc (.cells #[.int .i64 10, .int .i64 id, .int .i64 n, .int .i64 m, .int .u32 (bk 0), .int .u32 (bk 1), .int .u32 (bk 2), .int .u32 (bk 3), .int .u32 (bk 4), .int .u32 (bk 5), .int .u32 (bk 6), .int .u32 (bk 7), .bool on] 77))) := Lib.hid (Pre.alloc _ _)
    have HR : Hid (RowAt (w.alloc (.cells #[.int .i64 10, .int .i64 id, .int .i64 n, .int .i64 m, .int .u32 (bk 0), .int .u32 (bk 1), .int .u32 (bk 2), .int .u32 (bk 3), .int .u32 (bk 4), .int .u32 (bk 5), .int .u32 (bk 6), .int .u32 (bk 7), .bool on] 77)) w.heap.size 77 13 (acell18 10 id n m bk on)) := Lib.hid (row_new_of w _ 77 13 _ (by kernel_rfl))
    have HNO : Hid (¬ (Ow o w.heap.size ∨ Ow o2 w.heap.size)) := Lib.hid (fun h => by have := HD0.out.lim h; omega)
    go_enter Try.func37, Try.ntmps37
    go_wp2_with fail
    have HWX : Hid (∀ k, (w.alloc (.cells #[.int .i64 10, .int .i64 id, .int .i64 n, .int .i64 m, .int .u32 (bk 0), .int .u32 (bk 1), .int .u32 (bk 2), .int .u32 (bk 3), .int .u32 (bk 4), .int .u32 (bk 5), .int .u32 (bk 6), .int .u32 (bk 7), .bool on] 77)).cell? ⟨w.heap.size, k, none⟩ = (w.alloc (.cells #[.int .i64 10, .int .i64 id, .int .i64 n, .int .i64 m, .int .u32 (bk 0), .int .u32 (bk 1), .int .u32 (bk 2), .int .u32 (bk 3), .int .u32 (bk 4), .int .u32 (bk 5), .int .u32 (bk 6), .int .u32 (bk 7), .bool on] 77)).cell? ⟨w.heap.size, k, none⟩) := Lib.hid (fun _ => rfl)
    clear HWX
    generalize w.alloc (.cells #[.int .i64 10, .int .i64 id, .int .i64 n, .int .i64 m, .int .u32 (bk 0), .int .u32 (bk 1), .int .u32 (bk 2), .int .u32 (bk 3), .int .u32 (bk 4), .int .u32 (bk 5), .int .u32 (bk 6), .int .u32 (bk 7), .bool on] 77) = w0 at HD HR HW ⊢
    obtain ⟨lb, hlb⟩ : ∃ lb, w.heap.size = lb := ⟨_, rfl⟩
    rw [hlb] at HR HNO ⊢
    clear hlb
    have a1 : w0.cell? ⟨lb, 1, none⟩ = some (.int .i64 id) := HR.out.cell 1 (by omega)
    have a2 : w0.cell? ⟨lb, 2, none⟩ = some (.int .i64 n) := HR.out.cell 2 (by omega)
    have a3 : w0.cell? ⟨lb, 3, none⟩ = some (.int .i64 m) := HR.out.cell 3 (by omega)
    have c0 : w0.cell? ⟨lb, 4, none⟩ = some (.int .u32 (bk 0)) := HR.out.cell 4 (by omega)
    have c1 : w0.cell? ⟨lb, 5, none⟩ = some (.int .u32 (bk 1)) := HR.out.cell 5 (by omega)
    have c2 : w0.cell? ⟨lb, 6, none⟩ = some (.int .u32 (bk 2)) := HR.out.cell 6 (by omega)
    have c3 : w0.cell? ⟨lb, 7, none⟩ = some (.int .u32 (bk 3)) := HR.out.cell 7 (by omega)
    have c4 : w0.cell? ⟨lb, 8, none⟩ = some (.int .u32 (bk 4)) := HR.out.cell 8 (by omega)
    have c5 : w0.cell? ⟨lb, 9, none⟩ = some (.int .u32 (bk 5)) := HR.out.cell 9 (by omega)
    have c6 : w0.cell? ⟨lb, 10, none⟩ = some (.int .u32 (bk 6)) := HR.out.cell 10 (by omega)
    have c7 : w0.cell? ⟨lb, 11, none⟩ = some (.int .u32 (bk 7)) := HR.out.cell 11 (by omega)
    have a12 : w0.cell? ⟨lb, 12, none⟩ = some (.bool on) := HR.out.cell 12 (by omega)
    obtain ⟨C, hC, hCA⟩ := HD.out.pk
    refine (cinject_any p o C id n m on hid w0 hC).mono ?_
    rw [hCA]
    rintro e w1 ⟨rfl, hs⟩
    obtain ⟨o1, q1, hd1, x1, x2, hu1⟩ := HD.out.stepP hs
    have HD1 := Lib.hid hd1
    have HX1 := Lib.hid (And.intro x1 (And.intro x2 hu1))
    have HR1 := Lib.hid (HR.out.kept hu1 HNO.out)
    clear hs hd1 x1 x2 hu1 hC hCA C a1 a2 a3 a12 c0 c1 c2 c3 c4 c5 c6 c7
    have HR := HR1
    have a1 : w1.cell? ⟨lb, 1, none⟩ = some (.int .i64 id) := HR.out.cell 1 (by omega)
    have a2 : w1.cell? ⟨lb, 2, none⟩ = some (.int .i64 n) := HR.out.cell 2 (by omega)
    have a3 : w1.cell? ⟨lb, 3, none⟩ = some (.int .i64 m) := HR.out.cell 3 (by omega)
    have c0 : w1.cell? ⟨lb, 4, none⟩ = some (.int .u32 (bk 0)) := HR.out.cell 4 (by omega)
    have c1 : w1.cell? ⟨lb, 5, none⟩ = some (.int .u32 (bk 1)) := HR.out.cell 5 (by omega)
    have c2 : w1.cell? ⟨lb, 6, none⟩ = some (.int .u32 (bk 2)) := HR.out.cell 6 (by omega)
    have c3 : w1.cell? ⟨lb, 7, none⟩ = some (.int .u32 (bk 3)) := HR.out.cell 7 (by omega)
    have c4 : w1.cell? ⟨lb, 8, none⟩ = some (.int .u32 (bk 4)) := HR.out.cell 8 (by omega)
    have c5 : w1.cell? ⟨lb, 9, none⟩ = some (.int .u32 (bk 5)) := HR.out.cell 9 (by omega)
    have c6 : w1.cell? ⟨lb, 10, none⟩ = some (.int .u32 (bk 6)) := HR.out.cell 10 (by omega)
    have c7 : w1.cell? ⟨lb, 11, none⟩ = some (.int .u32 (bk 7)) := HR.out.cell 11 (by omega)
    have a12 : w1.cell? ⟨lb, 12, none⟩ = some (.bool on) := HR.out.cell 12 (by omega)
    go_wp2_with fail
    obtain ⟨C, hC, hCA⟩ := HD1.out.rk
    refine (rinject18_any r q1 C id n m on w1 hC).mono ?_
    rw [hCA]
    rintro e w2 ⟨rfl, hs⟩
    obtain ⟨o3, q3, hd3, x3, x4, hu3⟩ := HD1.out.stepR hs
    have HG := Lib.hid (DGo.trans HX1.out.1 HX1.out.2.1 HX1.out.2.2 ⟨o3, q3, hd3, x3, x4, hu3⟩)
    clear hs hd3 x3 x4 hu3 hC hCA C
    go_wp2_with fail
    go_ret
    exact ⟨⟨_, rfl, fun h => by subst h; simp⟩, HW.out.pre HG.out⟩
  omega

theorem Duo.stepP2 {w0 w w1 : World} {p r : Nat} {o o2 : Own} {A B A' : Am} (h : Duo w0 w p r o o2 A B) (s : Stp w w1 o p A') : ∃ o', Duo w0 w1 p r o' o2 A' B ∧ Ext w o o' ∧ Upd (fun b => Ow o b ∨ Ow o2 b) w w1 := by
  obtain ⟨o', C', h', e, hx, hu⟩ := s
  obtain ⟨D, hD, hDB⟩ := h.rk
  refine ⟨o', ⟨⟨C', h', e⟩, ⟨D, hD.kept hu (fun b hb ho => h.dis b ho hb), hDB⟩, fun b hb h2 => ?_, fun b hb => ?_, bel_upd h.bel hu (fun b hb => h.fr b (Or.inl hb))⟩, hx, hu.mono (fun k hk => Or.inl hk)⟩
  · have hl := hD.lim b h2
    exact h.dis b (by unfold Ow at *; rw [← hx b hl]; exact hb) h2
  · rcases hb with hb | hb
    · by_cases hl : b < w.heap.size
      · exact h.fr b (Or.inl (by unfold Ow at *; rw [← hx b hl]; exact hb))
      · have := h.bel.size; omega
    · exact h.fr b (Or.inr hb)
set_option maxHeartbeats 32000000 in
theorem does18_d (w00 : World) (p r : Nat) (o o2 : Own) (A B : Am) (d id n m : Int) (bk : Nat → Int) (on tkp tkr : Bool) (hid : i64 id)
    (h12 : d = 12 → A = B) (hd : d = 12) (w : World) (h : Duo w00 w p r o o2 A B) :
    Calls Try.prog 37 #[.pointer (some ⟨p, 0, none⟩), .pointer (some ⟨r, 0, none⟩), .agg #[.int .i64 d, .int .i64 id, .int .i64 n, .int .i64 m, .int .u32 (bk 0), .int .u32 (bk 1), .int .u32 (bk 2), .int .u32 (bk 3), .int .u32 (bk 4), .int .u32 (bk 5), .int .u32 (bk 6), .int .u32 (bk 7), .bool on]] w fun e w' =>
      (∃ b, e = .returned (.bool b) ∧ (A = B → b = true)) ∧ DGo w00 w w' p r o o2 (actS A d id n m bk on tkp) (actS B d id n m bk on tkr) := by
  have HD0 := Lib.hid h; clear h
  by_cases d12 : d = 12
  · have hAB := h12 d12
    subst d12
    subst hAB
    have HD := Lib.hid (HD0.out.alloc (.cells #[.int .i64 12, .int .i64 id, .int .i64 n, .int .i64 m, .int .u32 (bk 0), .int .u32 (bk 1), .int .u32 (bk 2), .int .u32 (bk 3), .int .u32 (bk 4), .int .u32 (bk 5), .int .u32 (bk 6), .int .u32 (bk 7), .bool on] 77))
    have HW : Hid (Pre w (w.alloc (.cells #[.int .i64 12, .int .i64 id, .int .i64 n, .int .i64 m, .int .u32 (bk 0), .int .u32 (bk 1), .int .u32 (bk 2), .int .u32 (bk 3), .int .u32 (bk 4), .int .u32 (bk 5), .int .u32 (bk 6), .int .u32 (bk 7), .bool on] 77))) := Lib.hid (Pre.alloc _ _)
    have HR : Hid (RowAt (w.alloc (.cells #[.int .i64 12, .int .i64 id, .int .i64 n, .int .i64 m, .int .u32 (bk 0), .int .u32 (bk 1), .int .u32 (bk 2), .int .u32 (bk 3), .int .u32 (bk 4), .int .u32 (bk 5), .int .u32 (bk 6), .int .u32 (bk 7), .bool on] 77)) w.heap.size 77 13 (acell18 12 id n m bk on)) := Lib.hid (row_new_of w _ 77 13 _ (by kernel_rfl))
    have HNO : Hid (¬ (Ow o w.heap.size ∨ Ow o2 w.heap.size)) := Lib.hid (fun h => by have := HD0.out.lim h; omega)
    go_enter Try.func37, Try.ntmps37
    go_wp2_with fail
    have HWX : Hid (∀ k, (w.alloc (.cells #[.int .i64 12, .int .i64 id, .int .i64 n, .int .i64 m, .int .u32 (bk 0), .int .u32 (bk 1), .int .u32 (bk 2), .int .u32 (bk 3), .int .u32 (bk 4), .int .u32 (bk 5), .int .u32 (bk 6), .int .u32 (bk 7), .bool on] 77)).cell? ⟨w.heap.size, k, none⟩ = (w.alloc (.cells #[.int .i64 12, .int .i64 id, .int .i64 n, .int .i64 m, .int .u32 (bk 0), .int .u32 (bk 1), .int .u32 (bk 2), .int .u32 (bk 3), .int .u32 (bk 4), .int .u32 (bk 5), .int .u32 (bk 6), .int .u32 (bk 7), .bool on] 77)).cell? ⟨w.heap.size, k, none⟩) := Lib.hid (fun _ => rfl)
    clear HWX
    generalize w.alloc (.cells #[.int .i64 12, .int .i64 id, .int .i64 n, .int .i64 m, .int .u32 (bk 0), .int .u32 (bk 1), .int .u32 (bk 2), .int .u32 (bk 3), .int .u32 (bk 4), .int .u32 (bk 5), .int .u32 (bk 6), .int .u32 (bk 7), .bool on] 77) = w0 at HD HR HW ⊢
    obtain ⟨lb, hlb⟩ : ∃ lb, w.heap.size = lb := ⟨_, rfl⟩
    rw [hlb] at HR HNO ⊢
    clear hlb
    have a1 : w0.cell? ⟨lb, 1, none⟩ = some (.int .i64 id) := HR.out.cell 1 (by omega)
    have a2 : w0.cell? ⟨lb, 2, none⟩ = some (.int .i64 n) := HR.out.cell 2 (by omega)
    have a3 : w0.cell? ⟨lb, 3, none⟩ = some (.int .i64 m) := HR.out.cell 3 (by omega)
    have c0 : w0.cell? ⟨lb, 4, none⟩ = some (.int .u32 (bk 0)) := HR.out.cell 4 (by omega)
    have c1 : w0.cell? ⟨lb, 5, none⟩ = some (.int .u32 (bk 1)) := HR.out.cell 5 (by omega)
    have c2 : w0.cell? ⟨lb, 6, none⟩ = some (.int .u32 (bk 2)) := HR.out.cell 6 (by omega)
    have c3 : w0.cell? ⟨lb, 7, none⟩ = some (.int .u32 (bk 3)) := HR.out.cell 7 (by omega)
    have c4 : w0.cell? ⟨lb, 8, none⟩ = some (.int .u32 (bk 4)) := HR.out.cell 8 (by omega)
    have c5 : w0.cell? ⟨lb, 9, none⟩ = some (.int .u32 (bk 5)) := HR.out.cell 9 (by omega)
    have c6 : w0.cell? ⟨lb, 10, none⟩ = some (.int .u32 (bk 6)) := HR.out.cell 10 (by omega)
    have c7 : w0.cell? ⟨lb, 11, none⟩ = some (.int .u32 (bk 7)) := HR.out.cell 11 (by omega)
    have a12 : w0.cell? ⟨lb, 12, none⟩ = some (.bool on) := HR.out.cell 12 (by omega)
    obtain ⟨C, hC, hCA⟩ := HD.out.pk
    obtain ⟨D, hD, hDB⟩ := HD.out.rk
    cases hP : C.all id with
    | none =>
      have hA0 : A.all id = none := by rw [← hCA]; exact to_none hP
      have hn : ∀ x ∈ D.L, x.id ≠ id := by
        rcases rto_cases D id with ⟨_, h⟩ | ⟨j, x, hj, rfl⟩
        · exact h
        · have := rto_at hD hj; rw [hDB, hA0] at this; cases this
      have hS : actS A 12 id n m bk on tkp = A := by show ackA A id = A; unfold ackA; rw [hA0]
      have HS := Lib.hid hS
      have HDD := Lib.hid (DGo.refl HD.out)
      refine (vgic_none p o C id hid w0 hC hP).mono ?_
      rintro e w1 ⟨rfl, hw⟩
      subst hw
      clear hS hA0 hCA hDB
      go_wp2_with fail
      refine (rat_none r o2 D id hn _ hD).mono ?_
      rintro e w2 ⟨rfl, hw⟩
      subst hw
      clear hn hD hC hP
      go_wp2_with fail
      go_ret
      refine ⟨⟨_, rfl, fun _ => rfl⟩, ?_⟩
      have e2 : actS A 12 id n m bk on tkr = A := HS.out
      rw [HS.out, e2]
      exact HW.out.pre HDD.out
    | some P =>
      have hA0 : A.all id = some (C.one id P) := by rw [← hCA]; exact to_some hP
      obtain ⟨j, x, hj, hid2⟩ : ∃ (j : Nat) (x : Ro), D.L[j]? = some x ∧ x.id = id := by
        rcases rto_cases D id with ⟨h, _⟩ | h
        · rw [hDB, hA0] at h; cases h
        · exact h
      subst hid2
      have hx : C.one x.id P = x.ax := by
        have := rto_at hD hj
        rw [hDB, hA0] at this
        exact Option.some.inj this
      have hSx : P.S = x.R.to := congrArg Ax.S hx
      have hS : actS A 12 x.id n m bk on tkp = { A with all := updQ A.all x.id (some { x.ax with S := (ackV x.R.to).1 }) } := by show ackA A x.id = _; unfold ackA; rw [hA0, hx]; rfl
      have HS := Lib.hid hS
      refine (vgic_some p o C x.id hid w0 hC P hP).mono ?_
      rintro e w1 ⟨rfl, hw⟩
      subst hw
      clear hS
      go_wp2_with fail
      refine (rat_at r o2 D x j hj _ hD).mono ?_
      rintro e w2 ⟨rfl, hw⟩
      subst hw
      have hj0 : decide ((j : Int) < 0) = false := by simp
      have hj1 : decide (0 ≤ (j : Int)) = true := by simp
      go_wp2_with fail
      refine (vack_any P.v P.mp P.ma P.S _ (hC.vg x.id P hP)).mono ?_
      rw [hSx]
      rintro e w3 ⟨rfl, hv, hu⟩
      have hs := stp_setv hC hP hu _ hv
      rw [hCA, hx] at hs
      obtain ⟨o1, hd1, x1, hu1⟩ := HD.out.stepP2 hs
      obtain ⟨_, _, _, _, _, hu'⟩ := hs
      have hD3 := hD.kept hu' (fun b hb ho => HD.out.dis b ho hb)
      have HD1 := Lib.hid hd1
      have HX1 := Lib.hid (And.intro x1 hu1)
      have HD3 := Lib.hid hD3
      obtain ⟨q, cap, hsl, hcap, hq⟩ := hD3.at_form hj
      have hjl : j < D.L.length := (List.getElem?_eq_some_iff.1 hj).1
      have hln := hD3.len
      have hji : (j : Int) < (D.L.length : Int) := by omega
      have e0 := hD3.csl
      rw [hsl] at e0
      have e10 : w3.cell? ⟨q, j * 11 + 10, none⟩ = some (.pointer (some ⟨x.v, 0, none⟩)) := hD3.ocell hsl hj (m := 10) (by omega) rfl
      have HJ := Lib.hid hj
      have HDB := Lib.hid hDB
      clear hd1 x1 hu1 hu' hv hu hC hCA hP hSx hj0 hj1 hD hDB hA0 hx hj HR HNO a1 a2 a3 a12 c0 c1 c2 c3 c4 c5 c6 c7 hD3 hsl
      go_wp2_with fail
      refine (rack_any x.v x.R _ (HD3.out.vg x (List.mem_of_getElem? HJ.out))).mono ?_
      rintro e w4 ⟨rfl, ⟨R', hv, ht⟩, hu⟩
      have hs2 : Rtp w3 w4 o2 r { A with all := updQ A.all x.id (some { x.ax with S := (ackV x.R.to).1 }) } := by
        obtain ⟨h1, h2⟩ := HD3.out.stv HJ.out hu R' hv
        refine ⟨o2, _, h1, ?_, Ext.refl _ _, h2⟩
        rw [rto_set (x' := { x with R := R' }) HD3.out HJ.out rfl, HDB.out, ← ht]; rfl
      obtain ⟨o3, q3, hd3, x3, x4, hu3⟩ := HD1.out.stepR hs2
      have HG := Lib.hid (DGo.trans HX1.out.1 (Ext.refl _ _) HX1.out.2 ⟨o3, q3, hd3, x3, x4, hu3⟩)
      clear hs2 hd3 x3 x4 hu3 hv hu ht e0 e10
      go_wp2_with fail
      go_ret
      refine ⟨⟨_, rfl, fun _ => by simp⟩, ?_⟩
      have e2 : actS A 12 x.id n m bk on tkr = { A with all := updQ A.all x.id (some { x.ax with S := (ackV x.R.to).1 }) } := HS.out
      rw [HS.out, e2]
      exact HW.out.pre HG.out
  omega

set_option maxHeartbeats 32000000 in
theorem does18_c (w00 : World) (p r : Nat) (o o2 : Own) (A B : Am) (d id n m : Int) (bk : Nat → Int) (on tkp tkr : Bool)
    (hd : d < 1 ∨ d = 11 ∨ 12 < d) (w : World) (h : Duo w00 w p r o o2 A B) :
    Calls Try.prog 37 #[.pointer (some ⟨p, 0, none⟩), .pointer (some ⟨r, 0, none⟩), .agg #[.int .i64 d, .int .i64 id, .int .i64 n, .int .i64 m, .int .u32 (bk 0), .int .u32 (bk 1), .int .u32 (bk 2), .int .u32 (bk 3), .int .u32 (bk 4), .int .u32 (bk 5), .int .u32 (bk 6), .int .u32 (bk 7), .bool on]] w fun e w' =>
      (∃ b, e = .returned (.bool b) ∧ (A = B → b = true)) ∧ DGo w00 w w' p r o o2 (actS A d id n m bk on tkp) (actS B d id n m bk on tkr) := by
  have HD0 := Lib.hid h; clear h
  by_cases d11 : d = 11
  · subst d11
    have HD := Lib.hid (HD0.out.alloc (.cells #[.int .i64 11, .int .i64 id, .int .i64 n, .int .i64 m, .int .u32 (bk 0), .int .u32 (bk 1), .int .u32 (bk 2), .int .u32 (bk 3), .int .u32 (bk 4), .int .u32 (bk 5), .int .u32 (bk 6), .int .u32 (bk 7), .bool on] 77))
    have HW : Hid (Pre w (w.alloc (.cells #[.int .i64 11, .int .i64 id, .int .i64 n, .int .i64 m, .int .u32 (bk 0), .int .u32 (bk 1), .int .u32 (bk 2), .int .u32 (bk 3), .int .u32 (bk 4), .int .u32 (bk 5), .int .u32 (bk 6), .int .u32 (bk 7), .bool on] 77))) := Lib.hid (Pre.alloc _ _)
    have HR : Hid (RowAt (w.alloc (.cells #[.int .i64 11, .int .i64 id, .int .i64 n, .int .i64 m, .int .u32 (bk 0), .int .u32 (bk 1), .int .u32 (bk 2), .int .u32 (bk 3), .int .u32 (bk 4), .int .u32 (bk 5), .int .u32 (bk 6), .int .u32 (bk 7), .bool on] 77)) w.heap.size 77 13 (acell18 11 id n m bk on)) := Lib.hid (row_new_of w _ 77 13 _ (by kernel_rfl))
    have HNO : Hid (¬ (Ow o w.heap.size ∨ Ow o2 w.heap.size)) := Lib.hid (fun h => by have := HD0.out.lim h; omega)
    go_enter Try.func37, Try.ntmps37
    go_wp2_with fail
    have HWX : Hid (∀ k, (w.alloc (.cells #[.int .i64 11, .int .i64 id, .int .i64 n, .int .i64 m, .int .u32 (bk 0), .int .u32 (bk 1), .int .u32 (bk 2), .int .u32 (bk 3), .int .u32 (bk 4), .int .u32 (bk 5), .int .u32 (bk 6), .int .u32 (bk 7), .bool on] 77)).cell? ⟨w.heap.size, k, none⟩ = (w.alloc (.cells #[.int .i64 11, .int .i64 id, .int .i64 n, .int .i64 m, .int .u32 (bk 0), .int .u32 (bk 1), .int .u32 (bk 2), .int .u32 (bk 3), .int .u32 (bk 4), .int .u32 (bk 5), .int .u32 (bk 6), .int .u32 (bk 7), .bool on] 77)).cell? ⟨w.heap.size, k, none⟩) := Lib.hid (fun _ => rfl)
    clear HWX
    generalize w.alloc (.cells #[.int .i64 11, .int .i64 id, .int .i64 n, .int .i64 m, .int .u32 (bk 0), .int .u32 (bk 1), .int .u32 (bk 2), .int .u32 (bk 3), .int .u32 (bk 4), .int .u32 (bk 5), .int .u32 (bk 6), .int .u32 (bk 7), .bool on] 77) = w0 at HD HR HW ⊢
    obtain ⟨lb, hlb⟩ : ∃ lb, w.heap.size = lb := ⟨_, rfl⟩
    rw [hlb] at HR HNO ⊢
    clear hlb
    have a1 : w0.cell? ⟨lb, 1, none⟩ = some (.int .i64 id) := HR.out.cell 1 (by omega)
    have a2 : w0.cell? ⟨lb, 2, none⟩ = some (.int .i64 n) := HR.out.cell 2 (by omega)
    have a3 : w0.cell? ⟨lb, 3, none⟩ = some (.int .i64 m) := HR.out.cell 3 (by omega)
    have c0 : w0.cell? ⟨lb, 4, none⟩ = some (.int .u32 (bk 0)) := HR.out.cell 4 (by omega)
    have c1 : w0.cell? ⟨lb, 5, none⟩ = some (.int .u32 (bk 1)) := HR.out.cell 5 (by omega)
    have c2 : w0.cell? ⟨lb, 6, none⟩ = some (.int .u32 (bk 2)) := HR.out.cell 6 (by omega)
    have c3 : w0.cell? ⟨lb, 7, none⟩ = some (.int .u32 (bk 3)) := HR.out.cell 7 (by omega)
    have c4 : w0.cell? ⟨lb, 8, none⟩ = some (.int .u32 (bk 4)) := HR.out.cell 8 (by omega)
    have c5 : w0.cell? ⟨lb, 9, none⟩ = some (.int .u32 (bk 5)) := HR.out.cell 9 (by omega)
    have c6 : w0.cell? ⟨lb, 10, none⟩ = some (.int .u32 (bk 6)) := HR.out.cell 10 (by omega)
    have c7 : w0.cell? ⟨lb, 11, none⟩ = some (.int .u32 (bk 7)) := HR.out.cell 11 (by omega)
    have a12 : w0.cell? ⟨lb, 12, none⟩ = some (.bool on) := HR.out.cell 12 (by omega)
    obtain ⟨C, hC, hCA⟩ := HD.out.pk
    refine (ctick_any p o C w0 hC).mono ?_
    rw [hCA]
    rintro e w1 ⟨rfl, hs⟩
    obtain ⟨o1, q1, hd1, x1, x2, hu1⟩ := HD.out.stepP hs
    have HD1 := Lib.hid hd1
    have HX1 := Lib.hid (And.intro x1 (And.intro x2 hu1))
    have HR1 := Lib.hid (HR.out.kept hu1 HNO.out)
    clear hs hd1 x1 x2 hu1 hC hCA C a1 a2 a3 a12 c0 c1 c2 c3 c4 c5 c6 c7
    have HR := HR1
    have a1 : w1.cell? ⟨lb, 1, none⟩ = some (.int .i64 id) := HR.out.cell 1 (by omega)
    have a2 : w1.cell? ⟨lb, 2, none⟩ = some (.int .i64 n) := HR.out.cell 2 (by omega)
    have a3 : w1.cell? ⟨lb, 3, none⟩ = some (.int .i64 m) := HR.out.cell 3 (by omega)
    have c0 : w1.cell? ⟨lb, 4, none⟩ = some (.int .u32 (bk 0)) := HR.out.cell 4 (by omega)
    have c1 : w1.cell? ⟨lb, 5, none⟩ = some (.int .u32 (bk 1)) := HR.out.cell 5 (by omega)
    have c2 : w1.cell? ⟨lb, 6, none⟩ = some (.int .u32 (bk 2)) := HR.out.cell 6 (by omega)
    have c3 : w1.cell? ⟨lb, 7, none⟩ = some (.int .u32 (bk 3)) := HR.out.cell 7 (by omega)
    have c4 : w1.cell? ⟨lb, 8, none⟩ = some (.int .u32 (bk 4)) := HR.out.cell 8 (by omega)
    have c5 : w1.cell? ⟨lb, 9, none⟩ = some (.int .u32 (bk 5)) := HR.out.cell 9 (by omega)
    have c6 : w1.cell? ⟨lb, 10, none⟩ = some (.int .u32 (bk 6)) := HR.out.cell 10 (by omega)
    have c7 : w1.cell? ⟨lb, 11, none⟩ = some (.int .u32 (bk 7)) := HR.out.cell 11 (by omega)
    have a12 : w1.cell? ⟨lb, 12, none⟩ = some (.bool on) := HR.out.cell 12 (by omega)
    go_wp2_with fail
    obtain ⟨C, hC, hCA⟩ := HD1.out.rk
    refine (rtick_any r q1 C w1 hC).mono ?_
    rw [hCA]
    rintro e w2 ⟨rfl, hs⟩
    obtain ⟨o3, q3, hd3, x3, x4, hu3⟩ := HD1.out.stepR hs
    have HG := Lib.hid (DGo.trans HX1.out.1 HX1.out.2.1 HX1.out.2.2 ⟨o3, q3, hd3, x3, x4, hu3⟩)
    clear hs hd3 x3 x4 hu3 hC hCA C
    go_wp2_with fail
    go_ret
    exact ⟨⟨_, rfl, fun h => by subst h; simp⟩, HW.out.pre HG.out⟩
  have hS : ∀ X tk, actS X d id n m bk on tk = X := fun X tk => by
    unfold actS
    rw [if_neg (by omega), if_neg (by omega), if_neg (by omega), if_neg (by omega), if_neg (by omega), if_neg (by omega), if_neg (by omega), if_neg (by omega), if_neg (by omega), if_neg (by omega), if_neg (by omega)]
  have HS := Lib.hid hS
  have b1 : (d == 1) = false := by simp; omega
  have b2 : (d == 2) = false := by simp; omega
  have b3 : (d == 3) = false := by simp; omega
  have b4 : (d == 4) = false := by simp; omega
  have b5 : (d == 5) = false := by simp; omega
  have b6 : (d == 6) = false := by simp; omega
  have b7 : (d == 7) = false := by simp; omega
  have b8 : (d == 8) = false := by simp; omega
  have b9 : (d == 9) = false := by simp; omega
  have b10 : (d == 10) = false := by simp; omega
  have b11 : (d == 11) = false := by simp; omega
  have b12 : (d == 12) = false := by simp; omega
  have HDD := Lib.hid (DGo.refl (HD0.out.alloc (.cells #[.int .i64 d, .int .i64 id, .int .i64 n, .int .i64 m, .int .u32 (bk 0), .int .u32 (bk 1), .int .u32 (bk 2), .int .u32 (bk 3), .int .u32 (bk 4), .int .u32 (bk 5), .int .u32 (bk 6), .int .u32 (bk 7), .bool on] 77)))
  have HW : Hid (Pre w (w.alloc (.cells #[.int .i64 d, .int .i64 id, .int .i64 n, .int .i64 m, .int .u32 (bk 0), .int .u32 (bk 1), .int .u32 (bk 2), .int .u32 (bk 3), .int .u32 (bk 4), .int .u32 (bk 5), .int .u32 (bk 6), .int .u32 (bk 7), .bool on] 77))) := Lib.hid (Pre.alloc _ _)
  clear hS hd
  go_enter Try.func37, Try.ntmps37
  go_wp2_with fail
  go_ret
  refine ⟨⟨_, rfl, fun _ => rfl⟩, ?_⟩
  rw [HS.out, HS.out]
  exact HW.out.pre HDD.out


theorem does18_any (w00 : World) (p r : Nat) (o o2 : Own) (A B : Am) (d id n m : Int) (bk : Nat → Int) (on tkp tkr : Bool) (hid : i64 id) (hlp : 1 ≤ A.lrs ∧ A.lrs ≤ 16) (hlr : 1 ≤ B.lrs ∧ B.lrs ≤ 16) (htp : tkp = true ↔ Taken A n) (htr : tkr = true ↔ Taken B n)
    (h12 : d = 12 → A = B) (w : World) (h : Duo w00 w p r o o2 A B) :
    Calls Try.prog 37 #[.pointer (some ⟨p, 0, none⟩), .pointer (some ⟨r, 0, none⟩), .agg #[.int .i64 d, .int .i64 id, .int .i64 n, .int .i64 m, .int .u32 (bk 0), .int .u32 (bk 1), .int .u32 (bk 2), .int .u32 (bk 3), .int .u32 (bk 4), .int .u32 (bk 5), .int .u32 (bk 6), .int .u32 (bk 7), .bool on]] w fun e w' =>
      (∃ b, e = .returned (.bool b) ∧ (A = B → b = true)) ∧ DGo w00 w w' p r o o2 (actS A d id n m bk on tkp) (actS B d id n m bk on tkr) := by
  by_cases h1 : d = 1 ∨ d = 2 ∨ d = 3 ∨ d = 4 ∨ d = 5
  · exact does18_a w00 p r o o2 A B d id n m bk on tkp tkr hid hlp hlr htp htr h1 w h
  by_cases h2 : d = 6 ∨ d = 7 ∨ d = 8 ∨ d = 9 ∨ d = 10
  · exact does18_b w00 p r o o2 A B d id n m bk on tkp tkr hid h2 w h
  by_cases h3 : d = 12
  · exact does18_d w00 p r o o2 A B d id n m bk on tkp tkr hid h12 h3 w h
  · exact does18_c w00 p r o o2 A B d id n m bk on tkp tkr (by omega) w h
end Go.Proofs.Ytnebjbjdgfaooaa
