/- The contracts of the law's does, of lists over alike lists, of Vgic.Lrs; no condition. -/
import Derived.Test.YtnebjbjdgfaooaaVgK
namespace Go.Proofs.Ytnebjbjdgfaooaa
open Go.RowKit Go.Maps
set_option maxRecDepth 100000
/-- An act: the state, the number, the flag, the error. -/
def doesV (S : Vm) (d id p : Int) (on : Bool) : Vm × Int × Bool × Int :=
  if d = 1 then ((injV S id p on).1, 0, false, (injV S id p on).2)
  else if d = 2 then ((enaV S id on).1, 0, false, (enaV S id on).2)
  else if d = 3 then ((maskV S p).1, 0, false, (maskV S p).2)
  else if d = 4 then ((ackV S).1, (ackV S).2, false, 0)
  else if d = 5 then ((endV S id).1, 0, (endV S id).2.1, (endV S id).2.2)
  else (S, 0, false, 0)
def zans (k : Nat) : Value := if k = 1 then .bool false else .int .i64 0
theorem ans_row (w : World) (x : Obj) : RowAt ((w.alloc x).alloc (.cells #[.int .i64 0, .bool false, .int .i64 0] 39)) (w.heap.size + 1) 39 3 zans := by
  have h := row_new_of (w.alloc x) #[.int .i64 0, .bool false, .int .i64 0] 39 3 zans rfl
  rw [show (w.alloc x).heap.size = w.heap.size + 1 by simp] at h
  exact h
theorem VgAt.other {w : World} {v mp ma : Nat} {S : Vm} (h : VgAt w v mp ma S) {p : Addr} (h1 : p.block ≠ v) (h2 : p.block ≠ mp) (h3 : p.block ≠ ma) (x : Value) : VgAt (w.setCell p x) v mp ma S :=
  ⟨h.row.other h1 x, h.pe.other h2 x, h.ac.other h3 x, h.ne1, h.ne2, h.ne3⟩
theorem VgAt.other3 {w : World} {v mp ma b : Nat} {S : Vm} (h : VgAt w v mp ma S) (h1 : b ≠ v) (h2 : b ≠ mp) (h3 : b ≠ ma) (x y z : Value) : VgAt (((w.setCell ⟨b, 0, none⟩ x).setCell ⟨b, 1, none⟩ y).setCell ⟨b, 2, none⟩ z) v mp ma S :=
  ((h.other (p := ⟨b, 0, none⟩) h1 h2 h3 x).other (p := ⟨b, 1, none⟩) h1 h2 h3 y).other (p := ⟨b, 2, none⟩) h1 h2 h3 z
set_option maxHeartbeats 4000000 in
theorem does_any (v mp ma : Nat) (S : Vm) (d id p : Int) (on : Bool) (w : World) (h : VgAt w v mp ma S) :
    Calls Try.prog 19 #[.pointer (some ⟨v, 0, none⟩), .agg #[.int .i64 d, .int .i64 id, .int .i64 p, .bool on]] w fun e w' =>
      e = .returned (.agg #[.int .i64 (doesV S d id p on).2.1, .bool (doesV S d id p on).2.2.1, .int .i64 (doesV S d id p on).2.2.2]) ∧ VgAt w' v mp ma (doesV S d id p on).1 ∧ Upd (Vb v mp ma) w w' := by
  have z0 := h.lt
  have zp := h.pe.lt
  have za := h.ac.lt
  have H := Lib.hid h; clear h
  have HA := Lib.hid ((H.out.alloc (.cells #[.int .i64 d, .int .i64 id, .int .i64 p, .bool on] 42)).alloc (.cells #[.int .i64 0, .bool false, .int .i64 0] 39))
  by_cases d1 : d = 1
  · subst d1
    go_enter Try.func19, Try.ntmps19
    go_wp2_with fail
    refine (inject_any v mp ma S id p on _ HA.out).mono ?_
    rintro e w1 ⟨rfl, hv, hu⟩
    have HR : Hid (RowAt w1 (w.heap.size + 1) 39 3 zans) := Lib.hid (RowAt.kept (ans_row w _) hu (by unfold Vb; omega))
    have HU : Hid (Upd (Vb v mp ma) w w1) := Lib.hid (Upd.call (((Upd.refl _ _).alloc _).alloc _) hu (fun _ h => Or.inl h))
    have HV := Lib.hid hv
    have hs1 : w.heap.size + 1 < w1.heap.size := RowAt.lt HR.out
    have q0 := HR.out.cell 0 (by omega)
    have q1 := HR.out.cell 1 (by omega)
    have q2 := HR.out.cell 2 (by omega)
    have qf := HR.out.frozen
    clear hv hu
    go_wp2_with fail
    clear q0 q1 q2 qf
    
    have hst := RowAt.set (RowAt.set (RowAt.set HR.out 0 (.int .i64 0)) 1 (.bool false)) 2 (.int .i64 (injV S id p on).2)
    have hv : VgAt (((w1.setCell ⟨w.heap.size + 1, 0, none⟩ (.int .i64 0)).setCell ⟨w.heap.size + 1, 1, none⟩ (.bool false)).setCell ⟨w.heap.size + 1, 2, none⟩ (.int .i64 (injV S id p on).2)) v mp ma (injV S id p on).1 := HV.out.other3 (by omega) (by omega) (by omega) _ _ _
    have hu : Upd (Vb v mp ma) w (((w1.setCell ⟨w.heap.size + 1, 0, none⟩ (.int .i64 0)).setCell ⟨w.heap.size + 1, 1, none⟩ (.bool false)).setCell ⟨w.heap.size + 1, 2, none⟩ (.int .i64 (injV S id p on).2)) := ((HU.out.setCell (Or.inr (by simp)) _).setCell (Or.inr (by simp)) _).setCell (Or.inr (by simp)) _
    generalize (((w1.setCell ⟨w.heap.size + 1, 0, none⟩ (.int .i64 0)).setCell ⟨w.heap.size + 1, 1, none⟩ (.bool false)).setCell ⟨w.heap.size + 1, 2, none⟩ (.int .i64 (injV S id p on).2)) = wf at hst hv hu ⊢
    have q0 := hst.cell 0 (by omega)
    have q1 := hst.cell 1 (by omega)
    have q2 := hst.cell 2 (by omega)
    clear hst
    simp only [if_true, if_false, show ¬ (0 : Nat) = 2 by omega, show ¬ (0 : Nat) = 1 by omega, show ¬ (1 : Nat) = 2 by omega] at q0 q1 q2
    exact bodyPost_ret (v := .agg #[.int .i64 0, .bool false, .int .i64 (injV S id p on).2]) (by simp [results, Try.results19, go_sem, q0, q1, q2]) rfl ⟨by rfl, hv, hu⟩
  by_cases d2 : d = 2
  · subst d2
    go_enter Try.func19, Try.ntmps19
    go_wp2_with fail
    refine (enable_any v mp ma S id on _ HA.out).mono ?_
    rintro e w1 ⟨rfl, hv, hu⟩
    have HR : Hid (RowAt w1 (w.heap.size + 1) 39 3 zans) := Lib.hid (RowAt.kept (ans_row w _) hu (by unfold Vb; omega))
    have HU : Hid (Upd (Vb v mp ma) w w1) := Lib.hid (Upd.call (((Upd.refl _ _).alloc _).alloc _) hu (fun _ h => Or.inl h))
    have HV := Lib.hid hv
    have hs1 : w.heap.size + 1 < w1.heap.size := RowAt.lt HR.out
    have q0 := HR.out.cell 0 (by omega)
    have q1 := HR.out.cell 1 (by omega)
    have q2 := HR.out.cell 2 (by omega)
    have qf := HR.out.frozen
    clear hv hu
    go_wp2_with fail
    clear q0 q1 q2 qf
    
    have hst := RowAt.set (RowAt.set (RowAt.set HR.out 0 (.int .i64 0)) 1 (.bool false)) 2 (.int .i64 (enaV S id on).2)
    have hv : VgAt (((w1.setCell ⟨w.heap.size + 1, 0, none⟩ (.int .i64 0)).setCell ⟨w.heap.size + 1, 1, none⟩ (.bool false)).setCell ⟨w.heap.size + 1, 2, none⟩ (.int .i64 (enaV S id on).2)) v mp ma (enaV S id on).1 := HV.out.other3 (by omega) (by omega) (by omega) _ _ _
    have hu : Upd (Vb v mp ma) w (((w1.setCell ⟨w.heap.size + 1, 0, none⟩ (.int .i64 0)).setCell ⟨w.heap.size + 1, 1, none⟩ (.bool false)).setCell ⟨w.heap.size + 1, 2, none⟩ (.int .i64 (enaV S id on).2)) := ((HU.out.setCell (Or.inr (by simp)) _).setCell (Or.inr (by simp)) _).setCell (Or.inr (by simp)) _
    generalize (((w1.setCell ⟨w.heap.size + 1, 0, none⟩ (.int .i64 0)).setCell ⟨w.heap.size + 1, 1, none⟩ (.bool false)).setCell ⟨w.heap.size + 1, 2, none⟩ (.int .i64 (enaV S id on).2)) = wf at hst hv hu ⊢
    have q0 := hst.cell 0 (by omega)
    have q1 := hst.cell 1 (by omega)
    have q2 := hst.cell 2 (by omega)
    clear hst
    simp only [if_true, if_false, show ¬ (0 : Nat) = 2 by omega, show ¬ (0 : Nat) = 1 by omega, show ¬ (1 : Nat) = 2 by omega] at q0 q1 q2
    exact bodyPost_ret (v := .agg #[.int .i64 0, .bool false, .int .i64 (enaV S id on).2]) (by simp [results, Try.results19, go_sem, q0, q1, q2]) rfl ⟨by rfl, hv, hu⟩
  by_cases d3 : d = 3
  · subst d3
    go_enter Try.func19, Try.ntmps19
    go_wp2_with fail
    refine (setmask_any v mp ma S p _ HA.out).mono ?_
    rintro e w1 ⟨rfl, hv, hu⟩
    have HR : Hid (RowAt w1 (w.heap.size + 1) 39 3 zans) := Lib.hid (RowAt.kept (ans_row w _) hu (by unfold Vb; omega))
    have HU : Hid (Upd (Vb v mp ma) w w1) := Lib.hid (Upd.call (((Upd.refl _ _).alloc _).alloc _) hu (fun _ h => Or.inl h))
    have HV := Lib.hid hv
    have hs1 : w.heap.size + 1 < w1.heap.size := RowAt.lt HR.out
    have q0 := HR.out.cell 0 (by omega)
    have q1 := HR.out.cell 1 (by omega)
    have q2 := HR.out.cell 2 (by omega)
    have qf := HR.out.frozen
    clear hv hu
    go_wp2_with fail
    clear q0 q1 q2 qf
    
    have hst := RowAt.set (RowAt.set (RowAt.set HR.out 0 (.int .i64 0)) 1 (.bool false)) 2 (.int .i64 (maskV S p).2)
    have hv : VgAt (((w1.setCell ⟨w.heap.size + 1, 0, none⟩ (.int .i64 0)).setCell ⟨w.heap.size + 1, 1, none⟩ (.bool false)).setCell ⟨w.heap.size + 1, 2, none⟩ (.int .i64 (maskV S p).2)) v mp ma (maskV S p).1 := HV.out.other3 (by omega) (by omega) (by omega) _ _ _
    have hu : Upd (Vb v mp ma) w (((w1.setCell ⟨w.heap.size + 1, 0, none⟩ (.int .i64 0)).setCell ⟨w.heap.size + 1, 1, none⟩ (.bool false)).setCell ⟨w.heap.size + 1, 2, none⟩ (.int .i64 (maskV S p).2)) := ((HU.out.setCell (Or.inr (by simp)) _).setCell (Or.inr (by simp)) _).setCell (Or.inr (by simp)) _
    generalize (((w1.setCell ⟨w.heap.size + 1, 0, none⟩ (.int .i64 0)).setCell ⟨w.heap.size + 1, 1, none⟩ (.bool false)).setCell ⟨w.heap.size + 1, 2, none⟩ (.int .i64 (maskV S p).2)) = wf at hst hv hu ⊢
    have q0 := hst.cell 0 (by omega)
    have q1 := hst.cell 1 (by omega)
    have q2 := hst.cell 2 (by omega)
    clear hst
    simp only [if_true, if_false, show ¬ (0 : Nat) = 2 by omega, show ¬ (0 : Nat) = 1 by omega, show ¬ (1 : Nat) = 2 by omega] at q0 q1 q2
    exact bodyPost_ret (v := .agg #[.int .i64 0, .bool false, .int .i64 (maskV S p).2]) (by simp [results, Try.results19, go_sem, q0, q1, q2]) rfl ⟨by rfl, hv, hu⟩
  by_cases d4 : d = 4
  · subst d4
    go_enter Try.func19, Try.ntmps19
    go_wp2_with fail
    refine (vack_any v mp ma S _ HA.out).mono ?_
    rintro e w1 ⟨rfl, hv, hu⟩
    have HR : Hid (RowAt w1 (w.heap.size + 1) 39 3 zans) := Lib.hid (RowAt.kept (ans_row w _) hu (by unfold Vb; omega))
    have HU : Hid (Upd (Vb v mp ma) w w1) := Lib.hid (Upd.call (((Upd.refl _ _).alloc _).alloc _) hu (fun _ h => Or.inl h))
    have HV := Lib.hid hv
    have hs1 : w.heap.size + 1 < w1.heap.size := RowAt.lt HR.out
    have q0 := HR.out.cell 0 (by omega)
    have q1 := HR.out.cell 1 (by omega)
    have q2 := HR.out.cell 2 (by omega)
    have qf := HR.out.frozen
    clear hv hu
    go_wp2_with fail
    clear q0 q1 q2 qf
    
    have hst := RowAt.set (RowAt.set (RowAt.set HR.out 0 (.int .i64 (ackV S).2)) 1 (.bool false)) 2 (.int .i64 0)
    have hv : VgAt (((w1.setCell ⟨w.heap.size + 1, 0, none⟩ (.int .i64 (ackV S).2)).setCell ⟨w.heap.size + 1, 1, none⟩ (.bool false)).setCell ⟨w.heap.size + 1, 2, none⟩ (.int .i64 0)) v mp ma (ackV S).1 := HV.out.other3 (by omega) (by omega) (by omega) _ _ _
    have hu : Upd (Vb v mp ma) w (((w1.setCell ⟨w.heap.size + 1, 0, none⟩ (.int .i64 (ackV S).2)).setCell ⟨w.heap.size + 1, 1, none⟩ (.bool false)).setCell ⟨w.heap.size + 1, 2, none⟩ (.int .i64 0)) := ((HU.out.setCell (Or.inr (by simp)) _).setCell (Or.inr (by simp)) _).setCell (Or.inr (by simp)) _
    generalize (((w1.setCell ⟨w.heap.size + 1, 0, none⟩ (.int .i64 (ackV S).2)).setCell ⟨w.heap.size + 1, 1, none⟩ (.bool false)).setCell ⟨w.heap.size + 1, 2, none⟩ (.int .i64 0)) = wf at hst hv hu ⊢
    have q0 := hst.cell 0 (by omega)
    have q1 := hst.cell 1 (by omega)
    have q2 := hst.cell 2 (by omega)
    clear hst
    simp only [if_true, if_false, show ¬ (0 : Nat) = 2 by omega, show ¬ (0 : Nat) = 1 by omega, show ¬ (1 : Nat) = 2 by omega] at q0 q1 q2
    exact bodyPost_ret (v := .agg #[.int .i64 (ackV S).2, .bool false, .int .i64 0]) (by simp [results, Try.results19, go_sem, q0, q1, q2]) rfl ⟨by rfl, hv, hu⟩
  by_cases d5 : d = 5
  · subst d5
    go_enter Try.func19, Try.ntmps19
    go_wp2_with fail
    refine (vend_any v mp ma S id _ HA.out).mono ?_
    rintro e w1 ⟨rfl, hv, hu⟩
    have HR : Hid (RowAt w1 (w.heap.size + 1) 39 3 zans) := Lib.hid (RowAt.kept (ans_row w _) hu (by unfold Vb; omega))
    have HU : Hid (Upd (Vb v mp ma) w w1) := Lib.hid (Upd.call (((Upd.refl _ _).alloc _).alloc _) hu (fun _ h => Or.inl h))
    have HV := Lib.hid hv
    have hs1 : w.heap.size + 1 < w1.heap.size := RowAt.lt HR.out
    have q0 := HR.out.cell 0 (by omega)
    have q1 := HR.out.cell 1 (by omega)
    have q2 := HR.out.cell 2 (by omega)
    have qf := HR.out.frozen
    clear hv hu
    go_wp2_with fail
    clear q0 q1 q2 qf
    
    have hst := RowAt.set (RowAt.set (RowAt.set HR.out 0 (.int .i64 0)) 1 (.bool (endV S id).2.1)) 2 (.int .i64 (endV S id).2.2)
    have hv : VgAt (((w1.setCell ⟨w.heap.size + 1, 0, none⟩ (.int .i64 0)).setCell ⟨w.heap.size + 1, 1, none⟩ (.bool (endV S id).2.1)).setCell ⟨w.heap.size + 1, 2, none⟩ (.int .i64 (endV S id).2.2)) v mp ma (endV S id).1 := HV.out.other3 (by omega) (by omega) (by omega) _ _ _
    have hu : Upd (Vb v mp ma) w (((w1.setCell ⟨w.heap.size + 1, 0, none⟩ (.int .i64 0)).setCell ⟨w.heap.size + 1, 1, none⟩ (.bool (endV S id).2.1)).setCell ⟨w.heap.size + 1, 2, none⟩ (.int .i64 (endV S id).2.2)) := ((HU.out.setCell (Or.inr (by simp)) _).setCell (Or.inr (by simp)) _).setCell (Or.inr (by simp)) _
    generalize (((w1.setCell ⟨w.heap.size + 1, 0, none⟩ (.int .i64 0)).setCell ⟨w.heap.size + 1, 1, none⟩ (.bool (endV S id).2.1)).setCell ⟨w.heap.size + 1, 2, none⟩ (.int .i64 (endV S id).2.2)) = wf at hst hv hu ⊢
    have q0 := hst.cell 0 (by omega)
    have q1 := hst.cell 1 (by omega)
    have q2 := hst.cell 2 (by omega)
    clear hst
    simp only [if_true, if_false, show ¬ (0 : Nat) = 2 by omega, show ¬ (0 : Nat) = 1 by omega, show ¬ (1 : Nat) = 2 by omega] at q0 q1 q2
    exact bodyPost_ret (v := .agg #[.int .i64 0, .bool (endV S id).2.1, .int .i64 (endV S id).2.2]) (by simp [results, Try.results19, go_sem, q0, q1, q2]) rfl ⟨by rfl, hv, hu⟩
  have hS : doesV S d id p on = (S, 0, false, 0) := by unfold doesV; rw [if_neg d1, if_neg d2, if_neg d3, if_neg d4, if_neg d5]
  rw [hS]
  clear hS
  have b1 : (d == 1) = false := by simpa using d1
  have b2 : (d == 2) = false := by simpa using d2
  have b3 : (d == 3) = false := by simpa using d3
  have b4 : (d == 4) = false := by simpa using d4
  have b5 : (d == 5) = false := by simpa using d5
  go_enter Try.func19, Try.ntmps19
  go_wp2_with fail
  exact bodyPost_ret (v := .agg #[.int .i64 0, .bool false, .int .i64 0]) (by simp [results, Try.results19, go_sem]) rfl ⟨rfl, HA.out, ((Upd.refl _ _).alloc _).alloc _⟩

theorem LrSl.congr {w : World} {base : Nat} {sl : Value} {n : Nat} {g g' : Nat → LrE} (h : LrSl w base sl n g) (e : ∀ i, i < n → g i = g' i) : LrSl w base sl n g' := by
  rcases h with h | ⟨q, cap, M, h1, h2, h3, h4⟩
  · exact Or.inl h
  · exact Or.inr ⟨q, cap, M, h1, h2, h3, h4.congr e⟩
set_option maxHeartbeats 2000000 in
theorem lists_eq (sa sb : Value) (n ba bb : Nat) (g g' : Nat → LrE) (w : World) (ha : LrSl w ba sa n g) (hb : LrSl w bb sb n g') (he : ∀ i, i < n → g i = g' i) (hn : n ≤ 64) :
    Calls Try.prog 21 #[sa, sb] w fun e w' => e = .returned (.bool true) ∧ ∃ k, w' = w.drewN k := by
  replace hb := hb.congr (fun i hi => (he i hi).symm)
  clear he
  rcases ha with ⟨rfl, rfl⟩ | ⟨q, cap, M, rfl, hc, _, hl⟩
  · rcases hb with ⟨rfl, _⟩ | ⟨q', cap', M', rfl, hc', _, hl'⟩
    · clear hn
      go_enter Try.func21, Try.ntmps21
      go_wp2_with fail
      go_loopw [5] (fun v5 wr => ∃ j k : Nat, j ≤ 0 ∧ v5 = .int .i64 j ∧ wr = w.drewN k) (fun v5 _ => 0 - (intOf v5).toNat)
      case atStart => exact ⟨0, 0, by omega, rfl, rfl⟩
      case round =>
        obtain ⟨j, k, hj, rfl, rfl⟩ := hrel
        by_cases hlt : j < 0
        · exact absurd hlt (by omega)
        · obtain rfl : j = 0 := by omega
          go_wp2_with fail
          go_ret
          exact ⟨rfl, k, rfl⟩
    · clear hn hl' hc'
      go_enter Try.func21, Try.ntmps21
      go_wp2_with fail
      go_loopw [5] (fun v5 wr => ∃ j k : Nat, j ≤ 0 ∧ v5 = .int .i64 j ∧ wr = w.drewN k) (fun v5 _ => 0 - (intOf v5).toNat)
      case atStart => exact ⟨0, 0, by omega, rfl, rfl⟩
      case round =>
        obtain ⟨j, k, hj, rfl, rfl⟩ := hrel
        by_cases hlt : j < 0
        · exact absurd hlt (by omega)
        · obtain rfl : j = 0 := by omega
          go_wp2_with fail
          go_ret
          exact ⟨rfl, k, rfl⟩
  · rcases hb with ⟨rfl, rfl⟩ | ⟨q', cap', M', rfl, hc', _, hl'⟩
    · clear hn hl hc
      go_enter Try.func21, Try.ntmps21
      go_wp2_with fail
      go_loopw [5] (fun v5 wr => ∃ j k : Nat, j ≤ 0 ∧ v5 = .int .i64 j ∧ wr = w.drewN k) (fun v5 _ => 0 - (intOf v5).toNat)
      case atStart => exact ⟨0, 0, by omega, rfl, rfl⟩
      case round =>
        obtain ⟨j, k, hj, rfl, rfl⟩ := hrel
        by_cases hlt : j < 0
        · exact absurd hlt (by omega)
        · obtain rfl : j = 0 := by omega
          go_wp2_with fail
          go_ret
          exact ⟨rfl, k, rfl⟩
    · have HA := Lib.hid hl
      have HB := Lib.hid hl'
      clear hl hl'
      go_enter Try.func21, Try.ntmps21
      go_wp2_with fail
      go_loopw [5] (fun v5 wr => ∃ j k : Nat, j ≤ n ∧ v5 = .int .i64 j ∧ wr = w.drewN k) (fun v5 _ => n - (intOf v5).toNat)
      case atStart => exact ⟨0, 0, by omega, rfl, rfl⟩
      case round =>
        obtain ⟨j, k, hj, rfl, rfl⟩ := hrel
        by_cases hlt : j < n
        · obtain ⟨x0, x1, x2, x3, x4⟩ := HA.out.cells j hlt
          obtain ⟨y0, y1, y2, y3, y4⟩ := HB.out.cells j hlt
          have hd : decide ((j : Int) < (n : Int)) = true := by simp; omega
          have hji : (j : Int) < (n : Int) := by omega
          go_wp2_with fail
          go_quiet (fail)
          go_wp2_with fail
          go_roundw
          case rel => exact ⟨j + 1, _, by omega, by go_num, rfl⟩
          case measure => simp [intOf]; omega
        · obtain rfl : j = n := by omega
          go_wp2_with fail
          go_ret
          exact ⟨rfl, k, rfl⟩
set_option maxHeartbeats 2000000 in
theorem vlrs_any (v mp ma : Nat) (S : Vm) (w : World) (h : VgAt w v mp ma S) (h0 : 0 ≤ S.lrs) :
    Calls Try.prog 27 #[.pointer (some ⟨v, 0, none⟩)] w fun e w' => (∃ sl n g, e = .returned sl ∧ IsAll S.pe S.ac n g ∧ LrSl w' w.heap.size sl (if S.lrs < (n : Int) then S.lrs.toNat else n) g) ∧ Below w.heap.size w w' := by
  have z0 := h.lt
  have H := Lib.hid h; clear h
  go_enter Try.func27, Try.ntmps27
  go_wp2_with fail
  refine (all_any v mp ma S _ H.out).mono ?_
  rintro e w2 ⟨⟨sl, n, g, rfl, hall, hsl⟩, hb2⟩
  have HA := Lib.hid hall
  have HV := Lib.hid (H.out.below hb2)
  have HB := Lib.hid hb2
  have cl := HV.out.lrs
  obtain ⟨L, hL⟩ := Int.eq_ofNat_of_zero_le h0
  rw [hL] at cl
  have HL := Lib.hid hL
  clear hall hb2 hL h0
  rcases hsl with ⟨rfl, rfl⟩ | ⟨q, cap, M, rfl, hnc, hq, hlr⟩
  · have hl0 : decide ((L : Int) < 0) = false := by simp
    have hl1 : ¬ (L : Int) < 0 := by omega
    go_wp2_with fail
    go_ret
    exact ⟨⟨_, 0, g, rfl, HA.out, Or.inl ⟨rfl, by rw [HL.out, if_neg (by omega)]⟩⟩, HB.out⟩
  · by_cases hlt : L < n
    · have hd : decide ((L : Int) < (n : Int)) = true := by simp; omega
      have hd2 : (L : Int) < (n : Int) := by omega
      have hcp : (L : Int) ≤ (cap : Int) := by omega
      go_wp2_with fail
      go_ret
      have hm : (if S.lrs < (n : Int) then S.lrs.toNat else n) = L := by rw [HL.out, if_pos (by omega)]; simp
      refine ⟨⟨_, n, g, rfl, HA.out, ?_⟩, HB.out⟩
      rw [hm]
      obtain ⟨f, h1, h2, h3⟩ := hlr
      exact Or.inr ⟨q, cap, M, rfl, by omega, hq, ⟨f, h1, by omega, fun k hk => h3 k (by omega)⟩⟩
    · have hd : decide ((L : Int) < (n : Int)) = false := by simp; omega
      have hd2 : ¬ (L : Int) < (n : Int) := by omega
      have hcp : (n : Int) ≤ (cap : Int) := by omega
      go_wp2_with fail
      go_ret
      have hm : (if S.lrs < (n : Int) then S.lrs.toNat else n) = n := by rw [HL.out, if_neg (by omega)]
      refine ⟨⟨_, n, g, rfl, HA.out, ?_⟩, HB.out⟩
      rw [hm]
      exact Or.inr ⟨q, cap, M, rfl, hnc, hq, hlr⟩

end Go.Proofs.Ytnebjbjdgfaooaa
