/- The contract of the law's means: what an act is by the document; no condition. -/
import Derived.Test.YtnebjbjdgfaooaaVgU
namespace Go.Proofs.Ytnebjbjdgfaooaa
open Go.RowKit Go.Maps
set_option maxRecDepth 100000
theorem RfAt.other3 {w : World} {b c : Nat} {R : Rm} (h : RfAt w b R) (h1 : c ≠ b) (x y z : Value) : RfAt (((w.setCell ⟨c, 0, none⟩ x).setCell ⟨c, 1, none⟩ y).setCell ⟨c, 2, none⟩ z) b R :=
  ((h.other (p := ⟨c, 0, none⟩) h1 x).other (p := ⟨c, 1, none⟩) h1 y).other (p := ⟨c, 2, none⟩) h1 z
set_option maxHeartbeats 4000000 in
theorem means_any (b : Nat) (R : Rm) (d id p : Int) (on : Bool) (w : World) (h : RfAt w b R) :
    Calls Try.prog 23 #[.pointer (some ⟨b, 0, none⟩), .agg #[.int .i64 d, .int .i64 id, .int .i64 p, .bool on]] w fun e w' =>
      e = .returned (.agg #[.int .i64 (doesV R.to d id p on).2.1, .bool (doesV R.to d id p on).2.2.1, .int .i64 (doesV R.to d id p on).2.2.2]) ∧ (∃ R', RfAt w' b R' ∧ R'.to = (doesV R.to d id p on).1) ∧ Upd (Ob b) w w' := by
  have z0 := h.lt
  have H := Lib.hid h; clear h
  have HA := Lib.hid ((H.out.alloc (.cells #[.int .i64 d, .int .i64 id, .int .i64 p, .bool on] 42)).alloc (.cells #[.int .i64 0, .bool false, .int .i64 0] 39))
  by_cases d1 : d = 1
  · subst d1
    go_enter Try.func23, Try.ntmps23
    go_wp2_with fail
    refine (rinject_any b R id p on _ HA.out).mono ?_
    rintro e w1 ⟨rfl, ⟨R', hv, ht⟩, hu⟩
    have HR : Hid (RowAt w1 (w.heap.size + 1) 39 3 zans) := Lib.hid (RowAt.kept (ans_row w _) hu (by unfold Ob; omega))
    have HU : Hid (Upd (Ob b) w w1) := Lib.hid (Upd.call (((Upd.refl _ _).alloc _).alloc _) hu (fun _ h => Or.inl h))
    have HV := Lib.hid hv
    have HT := Lib.hid ht
    have hs1 : w.heap.size + 1 < w1.heap.size := RowAt.lt HR.out
    have q0 := HR.out.cell 0 (by omega)
    have q1 := HR.out.cell 1 (by omega)
    have q2 := HR.out.cell 2 (by omega)
    have qf := HR.out.frozen
    clear hv hu ht
    go_wp2_with fail
    clear q0 q1 q2 qf
    have hst := RowAt.set (RowAt.set (RowAt.set HR.out 0 (.int .i64 0)) 1 (.bool false)) 2 (.int .i64 (injV R.to id p on).2)
    have hv : RfAt (((w1.setCell ⟨w.heap.size + 1, 0, none⟩ (.int .i64 0)).setCell ⟨w.heap.size + 1, 1, none⟩ (.bool false)).setCell ⟨w.heap.size + 1, 2, none⟩ (.int .i64 (injV R.to id p on).2)) b R' := HV.out.other3 (by omega) _ _ _
    have hu : Upd (Ob b) w (((w1.setCell ⟨w.heap.size + 1, 0, none⟩ (.int .i64 0)).setCell ⟨w.heap.size + 1, 1, none⟩ (.bool false)).setCell ⟨w.heap.size + 1, 2, none⟩ (.int .i64 (injV R.to id p on).2)) := ((HU.out.setCell (Or.inr (by simp)) _).setCell (Or.inr (by simp)) _).setCell (Or.inr (by simp)) _
    generalize (((w1.setCell ⟨w.heap.size + 1, 0, none⟩ (.int .i64 0)).setCell ⟨w.heap.size + 1, 1, none⟩ (.bool false)).setCell ⟨w.heap.size + 1, 2, none⟩ (.int .i64 (injV R.to id p on).2)) = wf at hst hv hu ⊢
    have q0 := hst.cell 0 (by omega)
    have q1 := hst.cell 1 (by omega)
    have q2 := hst.cell 2 (by omega)
    clear hst
    simp only [if_true, if_false, show ¬ (0 : Nat) = 2 by omega, show ¬ (0 : Nat) = 1 by omega, show ¬ (1 : Nat) = 2 by omega] at q0 q1 q2
    exact bodyPost_ret (v := .agg #[.int .i64 0, .bool false, .int .i64 (injV R.to id p on).2]) (by simp [results, Try.results23, go_sem, q0, q1, q2]) rfl ⟨by rfl, ⟨R', hv, HT.out⟩, hu⟩
  by_cases d2 : d = 2
  · subst d2
    go_enter Try.func23, Try.ntmps23
    go_wp2_with fail
    refine (renable_any b R id on _ HA.out).mono ?_
    rintro e w1 ⟨rfl, ⟨R', hv, ht⟩, hu⟩
    have HR : Hid (RowAt w1 (w.heap.size + 1) 39 3 zans) := Lib.hid (RowAt.kept (ans_row w _) hu (by unfold Ob; omega))
    have HU : Hid (Upd (Ob b) w w1) := Lib.hid (Upd.call (((Upd.refl _ _).alloc _).alloc _) hu (fun _ h => Or.inl h))
    have HV := Lib.hid hv
    have HT := Lib.hid ht
    have hs1 : w.heap.size + 1 < w1.heap.size := RowAt.lt HR.out
    have q0 := HR.out.cell 0 (by omega)
    have q1 := HR.out.cell 1 (by omega)
    have q2 := HR.out.cell 2 (by omega)
    have qf := HR.out.frozen
    clear hv hu ht
    go_wp2_with fail
    clear q0 q1 q2 qf
    have hst := RowAt.set (RowAt.set (RowAt.set HR.out 0 (.int .i64 0)) 1 (.bool false)) 2 (.int .i64 (enaV R.to id on).2)
    have hv : RfAt (((w1.setCell ⟨w.heap.size + 1, 0, none⟩ (.int .i64 0)).setCell ⟨w.heap.size + 1, 1, none⟩ (.bool false)).setCell ⟨w.heap.size + 1, 2, none⟩ (.int .i64 (enaV R.to id on).2)) b R' := HV.out.other3 (by omega) _ _ _
    have hu : Upd (Ob b) w (((w1.setCell ⟨w.heap.size + 1, 0, none⟩ (.int .i64 0)).setCell ⟨w.heap.size + 1, 1, none⟩ (.bool false)).setCell ⟨w.heap.size + 1, 2, none⟩ (.int .i64 (enaV R.to id on).2)) := ((HU.out.setCell (Or.inr (by simp)) _).setCell (Or.inr (by simp)) _).setCell (Or.inr (by simp)) _
    generalize (((w1.setCell ⟨w.heap.size + 1, 0, none⟩ (.int .i64 0)).setCell ⟨w.heap.size + 1, 1, none⟩ (.bool false)).setCell ⟨w.heap.size + 1, 2, none⟩ (.int .i64 (enaV R.to id on).2)) = wf at hst hv hu ⊢
    have q0 := hst.cell 0 (by omega)
    have q1 := hst.cell 1 (by omega)
    have q2 := hst.cell 2 (by omega)
    clear hst
    simp only [if_true, if_false, show ¬ (0 : Nat) = 2 by omega, show ¬ (0 : Nat) = 1 by omega, show ¬ (1 : Nat) = 2 by omega] at q0 q1 q2
    exact bodyPost_ret (v := .agg #[.int .i64 0, .bool false, .int .i64 (enaV R.to id on).2]) (by simp [results, Try.results23, go_sem, q0, q1, q2]) rfl ⟨by rfl, ⟨R', hv, HT.out⟩, hu⟩
  by_cases d3 : d = 3
  · subst d3
    go_enter Try.func23, Try.ntmps23
    go_wp2_with fail
    refine (rsetmask_any b R p _ HA.out).mono ?_
    rintro e w1 ⟨rfl, ⟨R', hv, ht⟩, hu⟩
    have HR : Hid (RowAt w1 (w.heap.size + 1) 39 3 zans) := Lib.hid (RowAt.kept (ans_row w _) hu (by unfold Ob; omega))
    have HU : Hid (Upd (Ob b) w w1) := Lib.hid (Upd.call (((Upd.refl _ _).alloc _).alloc _) hu (fun _ h => Or.inl h))
    have HV := Lib.hid hv
    have HT := Lib.hid ht
    have hs1 : w.heap.size + 1 < w1.heap.size := RowAt.lt HR.out
    have q0 := HR.out.cell 0 (by omega)
    have q1 := HR.out.cell 1 (by omega)
    have q2 := HR.out.cell 2 (by omega)
    have qf := HR.out.frozen
    clear hv hu ht
    go_wp2_with fail
    clear q0 q1 q2 qf
    have hst := RowAt.set (RowAt.set (RowAt.set HR.out 0 (.int .i64 0)) 1 (.bool false)) 2 (.int .i64 (maskV R.to p).2)
    have hv : RfAt (((w1.setCell ⟨w.heap.size + 1, 0, none⟩ (.int .i64 0)).setCell ⟨w.heap.size + 1, 1, none⟩ (.bool false)).setCell ⟨w.heap.size + 1, 2, none⟩ (.int .i64 (maskV R.to p).2)) b R' := HV.out.other3 (by omega) _ _ _
    have hu : Upd (Ob b) w (((w1.setCell ⟨w.heap.size + 1, 0, none⟩ (.int .i64 0)).setCell ⟨w.heap.size + 1, 1, none⟩ (.bool false)).setCell ⟨w.heap.size + 1, 2, none⟩ (.int .i64 (maskV R.to p).2)) := ((HU.out.setCell (Or.inr (by simp)) _).setCell (Or.inr (by simp)) _).setCell (Or.inr (by simp)) _
    generalize (((w1.setCell ⟨w.heap.size + 1, 0, none⟩ (.int .i64 0)).setCell ⟨w.heap.size + 1, 1, none⟩ (.bool false)).setCell ⟨w.heap.size + 1, 2, none⟩ (.int .i64 (maskV R.to p).2)) = wf at hst hv hu ⊢
    have q0 := hst.cell 0 (by omega)
    have q1 := hst.cell 1 (by omega)
    have q2 := hst.cell 2 (by omega)
    clear hst
    simp only [if_true, if_false, show ¬ (0 : Nat) = 2 by omega, show ¬ (0 : Nat) = 1 by omega, show ¬ (1 : Nat) = 2 by omega] at q0 q1 q2
    exact bodyPost_ret (v := .agg #[.int .i64 0, .bool false, .int .i64 (maskV R.to p).2]) (by simp [results, Try.results23, go_sem, q0, q1, q2]) rfl ⟨by rfl, ⟨R', hv, HT.out⟩, hu⟩
  by_cases d4 : d = 4
  · subst d4
    go_enter Try.func23, Try.ntmps23
    go_wp2_with fail
    refine (rack_any b R _ HA.out).mono ?_
    rintro e w1 ⟨rfl, ⟨R', hv, ht⟩, hu⟩
    have HR : Hid (RowAt w1 (w.heap.size + 1) 39 3 zans) := Lib.hid (RowAt.kept (ans_row w _) hu (by unfold Ob; omega))
    have HU : Hid (Upd (Ob b) w w1) := Lib.hid (Upd.call (((Upd.refl _ _).alloc _).alloc _) hu (fun _ h => Or.inl h))
    have HV := Lib.hid hv
    have HT := Lib.hid ht
    have hs1 : w.heap.size + 1 < w1.heap.size := RowAt.lt HR.out
    have q0 := HR.out.cell 0 (by omega)
    have q1 := HR.out.cell 1 (by omega)
    have q2 := HR.out.cell 2 (by omega)
    have qf := HR.out.frozen
    clear hv hu ht
    go_wp2_with fail
    clear q0 q1 q2 qf
    have hst := RowAt.set (RowAt.set (RowAt.set HR.out 0 (.int .i64 (ackV R.to).2)) 1 (.bool false)) 2 (.int .i64 0)
    have hv : RfAt (((w1.setCell ⟨w.heap.size + 1, 0, none⟩ (.int .i64 (ackV R.to).2)).setCell ⟨w.heap.size + 1, 1, none⟩ (.bool false)).setCell ⟨w.heap.size + 1, 2, none⟩ (.int .i64 0)) b R' := HV.out.other3 (by omega) _ _ _
    have hu : Upd (Ob b) w (((w1.setCell ⟨w.heap.size + 1, 0, none⟩ (.int .i64 (ackV R.to).2)).setCell ⟨w.heap.size + 1, 1, none⟩ (.bool false)).setCell ⟨w.heap.size + 1, 2, none⟩ (.int .i64 0)) := ((HU.out.setCell (Or.inr (by simp)) _).setCell (Or.inr (by simp)) _).setCell (Or.inr (by simp)) _
    generalize (((w1.setCell ⟨w.heap.size + 1, 0, none⟩ (.int .i64 (ackV R.to).2)).setCell ⟨w.heap.size + 1, 1, none⟩ (.bool false)).setCell ⟨w.heap.size + 1, 2, none⟩ (.int .i64 0)) = wf at hst hv hu ⊢
    have q0 := hst.cell 0 (by omega)
    have q1 := hst.cell 1 (by omega)
    have q2 := hst.cell 2 (by omega)
    clear hst
    simp only [if_true, if_false, show ¬ (0 : Nat) = 2 by omega, show ¬ (0 : Nat) = 1 by omega, show ¬ (1 : Nat) = 2 by omega] at q0 q1 q2
    exact bodyPost_ret (v := .agg #[.int .i64 (ackV R.to).2, .bool false, .int .i64 0]) (by simp [results, Try.results23, go_sem, q0, q1, q2]) rfl ⟨by rfl, ⟨R', hv, HT.out⟩, hu⟩
  by_cases d5 : d = 5
  · subst d5
    go_enter Try.func23, Try.ntmps23
    go_wp2_with fail
    refine (rend_any b R id _ HA.out).mono ?_
    rintro e w1 ⟨rfl, ⟨R', hv, ht⟩, hu⟩
    have HR : Hid (RowAt w1 (w.heap.size + 1) 39 3 zans) := Lib.hid (RowAt.kept (ans_row w _) hu (by unfold Ob; omega))
    have HU : Hid (Upd (Ob b) w w1) := Lib.hid (Upd.call (((Upd.refl _ _).alloc _).alloc _) hu (fun _ h => Or.inl h))
    have HV := Lib.hid hv
    have HT := Lib.hid ht
    have hs1 : w.heap.size + 1 < w1.heap.size := RowAt.lt HR.out
    have q0 := HR.out.cell 0 (by omega)
    have q1 := HR.out.cell 1 (by omega)
    have q2 := HR.out.cell 2 (by omega)
    have qf := HR.out.frozen
    clear hv hu ht
    go_wp2_with fail
    clear q0 q1 q2 qf
    have hst := RowAt.set (RowAt.set (RowAt.set HR.out 0 (.int .i64 0)) 1 (.bool (endV R.to id).2.1)) 2 (.int .i64 (endV R.to id).2.2)
    have hv : RfAt (((w1.setCell ⟨w.heap.size + 1, 0, none⟩ (.int .i64 0)).setCell ⟨w.heap.size + 1, 1, none⟩ (.bool (endV R.to id).2.1)).setCell ⟨w.heap.size + 1, 2, none⟩ (.int .i64 (endV R.to id).2.2)) b R' := HV.out.other3 (by omega) _ _ _
    have hu : Upd (Ob b) w (((w1.setCell ⟨w.heap.size + 1, 0, none⟩ (.int .i64 0)).setCell ⟨w.heap.size + 1, 1, none⟩ (.bool (endV R.to id).2.1)).setCell ⟨w.heap.size + 1, 2, none⟩ (.int .i64 (endV R.to id).2.2)) := ((HU.out.setCell (Or.inr (by simp)) _).setCell (Or.inr (by simp)) _).setCell (Or.inr (by simp)) _
    generalize (((w1.setCell ⟨w.heap.size + 1, 0, none⟩ (.int .i64 0)).setCell ⟨w.heap.size + 1, 1, none⟩ (.bool (endV R.to id).2.1)).setCell ⟨w.heap.size + 1, 2, none⟩ (.int .i64 (endV R.to id).2.2)) = wf at hst hv hu ⊢
    have q0 := hst.cell 0 (by omega)
    have q1 := hst.cell 1 (by omega)
    have q2 := hst.cell 2 (by omega)
    clear hst
    simp only [if_true, if_false, show ¬ (0 : Nat) = 2 by omega, show ¬ (0 : Nat) = 1 by omega, show ¬ (1 : Nat) = 2 by omega] at q0 q1 q2
    exact bodyPost_ret (v := .agg #[.int .i64 0, .bool (endV R.to id).2.1, .int .i64 (endV R.to id).2.2]) (by simp [results, Try.results23, go_sem, q0, q1, q2]) rfl ⟨by rfl, ⟨R', hv, HT.out⟩, hu⟩
  have hS : doesV R.to d id p on = (R.to, 0, false, 0) := by unfold doesV; rw [if_neg d1, if_neg d2, if_neg d3, if_neg d4, if_neg d5]
  rw [hS]
  clear hS
  have b1 : (d == 1) = false := by simpa using d1
  have b2 : (d == 2) = false := by simpa using d2
  have b3 : (d == 3) = false := by simpa using d3
  have b4 : (d == 4) = false := by simpa using d4
  have b5 : (d == 5) = false := by simpa using d5
  go_enter Try.func23, Try.ntmps23
  go_wp2_with fail
  exact bodyPost_ret (v := .agg #[.int .i64 0, .bool false, .int .i64 0]) (by simp [results, Try.results23, go_sem]) rfl ⟨rfl, ⟨R, HA.out, rfl⟩, ((Upd.refl _ _).alloc _).alloc _⟩
end Go.Proofs.Ytnebjbjdgfaooaa
