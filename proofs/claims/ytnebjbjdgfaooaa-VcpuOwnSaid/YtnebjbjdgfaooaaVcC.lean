/- The contracts of vcpu.Add, Leave, Enter, Unbind; no condition but numbers of 64 bits. -/
import Derived.Test.YtnebjbjdgfaooaaVcB
namespace Go.Proofs.Ytnebjbjdgfaooaa
open Go.RowKit Go.Maps
set_option maxRecDepth 100000
theorem to_updq (C : Pc) (i : Int) (x : Option Px) : Pc.to { C with all := updQ C.all i x } = { C.to with all := updQ C.to.all i (x.map (C.one i)) } := by
  have e : (Pc.to { C with all := updQ C.all i x }).all = updQ C.to.all i (x.map (C.one i)) := by
    funext j
    by_cases h : j = i
    · subst h; rw [updQ_same]; simp only [Pc.to, updQ_same]; rfl
    · rw [updQ_other _ _ h]; simp only [Pc.to, updQ_other _ _ h]; rfl
  rw [← e]; rfl
theorem to_none {C : Pc} {i : Int} (h : C.all i = none) : C.to.all i = none := by simp [Pc.to, h]
theorem to_some {C : Pc} {i : Int} {P : Px} (h : C.all i = some P) : C.to.all i = some (C.one i P) := by simp [Pc.to, h]
theorem stp_same {w : World} {o : Own} {p : Nat} {C : Pc} (h : VcOk w o p C) : Stp w w o p C.to := ⟨o, C, h, rfl, Ext.refl _ _, Upd.refl _ _⟩
def a1 (id lrs : Int) : Ax := ⟨fun n => if n = 6 then id else 0, -1, V0 lrs⟩
def addA (A : Am) (id : Int) : Am × Int :=
  if 0 ≤ id ∧ id < 1024 then (match A.all id with | some _ => (A, 130) | none => ({ A with all := updQ A.all id (some (a1 id A.lrs)) }, 0)) else (A, 1)
theorem VcOk.noload {w : World} {o : Own} {p : Nat} {C : Pc} (h : VcOk w o p C) {i : Int} (h0 : 0 ≤ i) (hn : C.all i = none) : C.loaded ≠ i := by
  rintro rfl
  rcases h.ld with ⟨e, _⟩ | ⟨P, e⟩
  · omega
  · rw [e] at hn; cases hn
theorem pcells (x v mp ma : Nat) (id : Int) (S : Vm) : (#[.int .u32 0, .int .u32 0, .int .u32 0, .int .u32 0, .int .u32 0, .int .u32 0, .int .u32 id, .int .u32 0, .pointer (some ⟨v, 0, none⟩), .int .i64 (-1)] : Array Value) = ((List.range 10).map (pcell ⟨x, v, mp, ma, fun n => if n = 6 then id else 0, -1, S⟩)).toArray := by kernel_rfl
set_option maxHeartbeats 8000000 in
theorem cadd_any (p : Nat) (o : Own) (C : Pc) (id : Int) (hid : i64 id) (hl : 1 ≤ C.lrs ∧ C.lrs ≤ 16) (w : World) (h : VcOk w o p C) :
    Calls Try.prog 31 #[.pointer (some ⟨p, 0, none⟩), .int .i64 id] w fun e w' => e = .returned (.int .i64 (addA C.to id).2) ∧ Stp w w' o p (addA C.to id).1 := by
  have H := Lib.hid h; clear h
  have c1 := H.out.mb
  by_cases hr : 0 ≤ id ∧ id < 1024
  · have hd : decide (0 ≤ id ∧ id < 1024) = true := by simpa using hr
    cases hP : C.all id with
    | some P =>
      have hA : addA C.to id = (C.to, 130) := by unfold addA; rw [if_pos hr, to_some hP]
      rw [hA]
      clear hA
      go_enter Try.func31, Try.ntmps31
      go_wp2_with (first | (go_at_call 61; refine (cis_any _ _).mono ?_; rintro e w1 ⟨rfl, rfl⟩; rw [hd]) | (at_lookup; refine wpList_getq _ rfl _ _ rfl C.mb _ id hid rfl H.out.map rfl ?_; simp only [hP, Option.map_some, qv]))
      go_ret
      exact ⟨rfl, stp_same H.out⟩
    | none =>
      have HL := Lib.hid (H.out.noload hr.1 hP)
      have hA : addA C.to id = ({ C.to with all := updQ C.to.all id (some (a1 id C.lrs)) }, 0) := by unfold addA; rw [if_pos hr, to_none hP]; rfl
      rw [hA]
      clear hA
      have c0 := H.out.lrs
      obtain ⟨i, rfl⟩ := Int.eq_ofNat_of_zero_le hr.1
      go_enter Try.func31, Try.ntmps31
      go_wp2_with (first | (go_at_call 61; refine (cis_any _ _).mono ?_; rintro e w1 ⟨rfl, rfl⟩; rw [hd]) | (at_lookup; refine wpList_getq _ rfl _ _ rfl C.mb _ (i : Int) hid rfl H.out.map rfl ?_; simp only [hP, Option.map_none, qv]))
      refine (vnew_ok C.lrs hl.1 hl.2 _).mono ?_
      rintro e w1 ⟨v, mp, ma, rfl, hv, z1, z2, z3, hb1⟩
      have HV := Lib.hid hv
      have HB := Lib.hid hb1
      have H1 := Lib.hid (H.out.below hb1)
      have q1 := H1.out.mb
      have lp : p < w1.heap.size := H1.out.lt
      clear hv hb1 c0 c1
      go_wp2_with (at_mapUpdate; refine wpList_putq _ rfl _ _ _ rfl C.mb _ i (by omega) w1.heap.size rfl (H1.out.map.alloc _) rfl rfl ?_; intro w2 hm2 hg2; have HM := Lib.hid hm2; have HG := Lib.hid hg2; clear hm2 hg2)
      go_ret
      have lm : C.mb < w.heap.size := H.out.map.lt
      have lb := HB.out.size
      have lv := HV.out.lt
      have lq := HV.out.pe.lt
      have lr := HV.out.ac.lt
      have hU : Upd (fun b => b = C.mb) w w2 := ((Upd.of_below HB.out).alloc _).trans (grown_upd HG.out)
      have hs : w1.heap.size + 1 ≤ w2.heap.size := by have := HG.out.size; simpa using this
      obtain ⟨hok, hext⟩ := H.out.add hr hP hU ⟨w1.heap.size, v, mp, ma, fun n => if n = 6 then (i : Int) else 0, -1, V0 C.lrs⟩ ⟨by simp; omega, by simp; omega⟩ z1 z2 z3 ⟨by simp; omega, by simp; omega, by simp; omega⟩
        ((row_new_of w1 _ 110 10 _ (pcells w1.heap.size v mp ma i (V0 C.lrs))).kept (grown_upd HG.out) (by omega)) ((HV.out.alloc _).kept (grown_upd HG.out) (by omega) (by omega) (by omega)) HM.out
      refine ⟨rfl, _, _, hok, ?_, hext, hU.mono (fun k hk => by subst hk; simp [Ow, H.out.om])⟩
      rw [to_updq]
      simp only [Option.map_some, Pc.one, if_neg HL.out]
      rfl
  · have hd : decide (0 ≤ id ∧ id < 1024) = false := by simpa using hr
    have hA : addA C.to id = (C.to, 1) := by unfold addA; rw [if_neg hr]
    rw [hA]
    clear hA
    go_enter Try.func31, Try.ntmps31
    go_wp2_with (go_at_call 61; refine (cis_any _ _).mono ?_; rintro e w1 ⟨rfl, rfl⟩; rw [hd])
    go_ret
    exact ⟨rfl, stp_same H.out⟩
end Go.Proofs.Ytnebjbjdgfaooaa
