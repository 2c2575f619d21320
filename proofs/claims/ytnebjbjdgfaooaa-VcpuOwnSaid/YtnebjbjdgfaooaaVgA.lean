/- The program's virtual interrupts in memory; the contracts of vgic.New, Inject, Enable, SetMask, End and Counts, with no condition on their numbers. -/
import Derived.Test.YtnebjbjdgfaooaaVgM
namespace Go.Proofs.Ytnebjbjdgfaooaa
open Go.RowKit Go.Maps
set_option maxRecDepth 100000
structure Vm where
  lrs : Int
  mask : Int
  inj : Int
  ak : Int
  en : Int
  off : Nat → Bool
  pe : Mp
  ac : Mp
def vcell (S : Vm) (mp ma k : Nat) : Value :=
  if k = 0 then .int .i64 S.lrs else if k = 1 then .int .i64 S.mask else if k < 66 then .bool (S.off (k - 2)) else if k = 66 then .map (some mp) else if k = 67 then .map (some ma)
  else if k = 68 then .int .i64 S.inj else if k = 69 then .int .i64 S.ak else .int .i64 S.en
structure VgAt (w : World) (v mp ma : Nat) (S : Vm) : Prop where
  row : RowAt w v 93 71 (vcell S mp ma)
  pe : MapAt w mp S.pe
  ac : MapAt w ma S.ac
  ne1 : mp ≠ ma
  ne2 : mp ≠ v
  ne3 : ma ≠ v
/-- The blocks of one. -/
def Vb (v mp ma : Nat) (k : Nat) : Prop := k = v ∨ k = mp ∨ k = ma
section
variable {w : World} {v mp ma : Nat} {S : Vm}
theorem VgAt.lrs (h : VgAt w v mp ma S) : w.cell? ⟨v, 0, none⟩ = some (.int .i64 S.lrs) := h.row.cell 0 (by omega)
theorem VgAt.mask (h : VgAt w v mp ma S) : w.cell? ⟨v, 1, none⟩ = some (.int .i64 S.mask) := h.row.cell 1 (by omega)
theorem VgAt.mpc (h : VgAt w v mp ma S) : w.cell? ⟨v, 66, none⟩ = some (.map (some mp)) := h.row.cell 66 (by omega)
theorem VgAt.mac (h : VgAt w v mp ma S) : w.cell? ⟨v, 67, none⟩ = some (.map (some ma)) := h.row.cell 67 (by omega)
theorem VgAt.inj (h : VgAt w v mp ma S) : w.cell? ⟨v, 68, none⟩ = some (.int .i64 S.inj) := h.row.cell 68 (by omega)
theorem VgAt.ak (h : VgAt w v mp ma S) : w.cell? ⟨v, 69, none⟩ = some (.int .i64 S.ak) := h.row.cell 69 (by omega)
theorem VgAt.en (h : VgAt w v mp ma S) : w.cell? ⟨v, 70, none⟩ = some (.int .i64 S.en) := h.row.cell 70 (by omega)
theorem VgAt.off (h : VgAt w v mp ma S) (i : Nat) (hi : i < 64) : w.cell? ⟨v, 2 + i, none⟩ = some (.bool (S.off i)) := by
  rw [h.row.cell (2 + i) (by omega)]
  unfold vcell
  rw [if_neg (by omega), if_neg (by omega), if_pos (by omega), show 2 + i - 2 = i by omega]
theorem VgAt.frozen (h : VgAt w v mp ma S) (k : Nat) : w.frozen? ⟨v, k, none⟩ = false := h.row.frozen k
theorem VgAt.lt (h : VgAt w v mp ma S) : v < w.heap.size := h.row.lt
theorem VgAt.kept {w' : World} {X : Nat → Prop} (h : VgAt w v mp ma S) (u : Upd X w w') (h1 : ¬ X v) (h2 : ¬ X mp) (h3 : ¬ X ma) : VgAt w' v mp ma S :=
  ⟨h.row.kept u h1, h.pe.kept u h2, h.ac.kept u h3, h.ne1, h.ne2, h.ne3⟩
theorem VgAt.below {w' : World} (h : VgAt w v mp ma S) (u : Below w.heap.size w w') : VgAt w' v mp ma S := h.kept (X := fun _ => False) (Upd.of_below u) (fun h => h) (fun h => h) (fun h => h)
theorem VgAt.alloc (h : VgAt w v mp ma S) (o : Obj) : VgAt (w.alloc o) v mp ma S := h.kept (X := fun _ => False) ((Upd.refl _ _).alloc o) (fun h => h) (fun h => h) (fun h => h)
theorem VgAt.drewN (h : VgAt w v mp ma S) (m : Nat) : VgAt (w.drewN m) v mp ma S := ⟨h.row, h.pe, h.ac, h.ne1, h.ne2, h.ne3⟩
theorem VgAt.drew (h : VgAt w v mp ma S) : VgAt w.drew v mp ma S := ⟨h.row, h.pe, h.ac, h.ne1, h.ne2, h.ne3⟩
theorem VgAt.set_mask (h : VgAt w v mp ma S) (x : Int) : VgAt (w.setCell ⟨v, 1, none⟩ (.int .i64 x)) v mp ma { S with mask := x } := by
  refine ⟨(RowAt.set h.row 1 _).congr fun k hk => ?_, h.pe.other (p := ⟨v, 1, none⟩) h.ne2.symm _, h.ac.other (p := ⟨v, 1, none⟩) h.ne3.symm _, h.ne1, h.ne2, h.ne3⟩
  unfold vcell
  by_cases e : k = 1
  · subst e; rfl
  · rw [if_neg e]
    repeat' split
    all_goals first | rfl | (exfalso; omega)
theorem VgAt.set_inj (h : VgAt w v mp ma S) (x : Int) : VgAt (w.setCell ⟨v, 68, none⟩ (.int .i64 x)) v mp ma { S with inj := x } := by
  refine ⟨(RowAt.set h.row 68 _).congr fun k hk => ?_, h.pe.other (p := ⟨v, 68, none⟩) h.ne2.symm _, h.ac.other (p := ⟨v, 68, none⟩) h.ne3.symm _, h.ne1, h.ne2, h.ne3⟩
  unfold vcell
  by_cases e : k = 68
  · subst e; rfl
  · rw [if_neg e]
    repeat' split
    all_goals first | rfl | (exfalso; omega)
theorem VgAt.set_ak (h : VgAt w v mp ma S) (x : Int) : VgAt (w.setCell ⟨v, 69, none⟩ (.int .i64 x)) v mp ma { S with ak := x } := by
  refine ⟨(RowAt.set h.row 69 _).congr fun k hk => ?_, h.pe.other (p := ⟨v, 69, none⟩) h.ne2.symm _, h.ac.other (p := ⟨v, 69, none⟩) h.ne3.symm _, h.ne1, h.ne2, h.ne3⟩
  unfold vcell
  by_cases e : k = 69
  · subst e; rfl
  · rw [if_neg e]
    repeat' split
    all_goals first | rfl | (exfalso; omega)
theorem VgAt.set_en (h : VgAt w v mp ma S) (x : Int) : VgAt (w.setCell ⟨v, 70, none⟩ (.int .i64 x)) v mp ma { S with en := x } := by
  refine ⟨(RowAt.set h.row 70 _).congr fun k hk => ?_, h.pe.other (p := ⟨v, 70, none⟩) h.ne2.symm _, h.ac.other (p := ⟨v, 70, none⟩) h.ne3.symm _, h.ne1, h.ne2, h.ne3⟩
  unfold vcell
  by_cases e : k = 70
  · subst e; rfl
  · rw [if_neg e]
    repeat' split
    all_goals first | rfl | (exfalso; omega)
theorem VgAt.set_off (h : VgAt w v mp ma S) (i : Nat) (hi : i < 64) (x : Bool) : VgAt (w.setCell ⟨v, 2 + i, none⟩ (.bool x)) v mp ma { S with off := fun k => if k = i then x else S.off k } := by
  refine ⟨(RowAt.set h.row (2 + i) _).congr fun k hk => ?_, h.pe.other (p := ⟨v, 2 + i, none⟩) h.ne2.symm _, h.ac.other (p := ⟨v, 2 + i, none⟩) h.ne3.symm _, h.ne1, h.ne2, h.ne3⟩
  unfold vcell
  by_cases e : k = 2 + i
  · subst e
    rw [if_pos rfl, if_neg (by omega), if_neg (by omega), if_pos (by omega)]
    simp
  · rw [if_neg e]
    by_cases h2 : 2 ≤ k ∧ k < 66
    · rw [if_neg (by omega), if_neg (by omega), if_pos h2.2, if_neg (by omega), if_neg (by omega), if_pos h2.2]
      show Value.bool (S.off (k - 2)) = Value.bool (if k - 2 = i then x else S.off (k - 2))
      rw [if_neg (by omega)]
    · repeat' split
      all_goals first | rfl | (exfalso; omega)
theorem VgAt.set_pe {w' : World} {M : Mp} (h : VgAt w v mp ma S) (hm : MapAt w' mp M) (hg : w.grownBy w' (some mp)) : VgAt w' v mp ma { S with pe := M } :=
  ⟨h.row.kept (grown_upd hg) (fun e => h.ne2 e.symm), hm, h.ac.kept (grown_upd hg) (fun e => h.ne1 e.symm), h.ne1, h.ne2, h.ne3⟩
theorem VgAt.set_ac {w' : World} {M : Mp} (h : VgAt w v mp ma S) (hm : MapAt w' ma M) (hg : w.grownBy w' (some ma)) : VgAt w' v mp ma { S with ac := M } :=
  ⟨h.row.kept (grown_upd hg) (fun e => h.ne3 e.symm), h.pe.kept (grown_upd hg) h.ne1, hm, h.ne1, h.ne2, h.ne3⟩
end
theorem Upd.vrow {w0 w : World} {v mp ma : Nat} (u : Upd (Vb v mp ma) w0 w) (k : Nat) (x : Value) : Upd (Vb v mp ma) w0 (w.setCell ⟨v, k, none⟩ x) := u.setCell (Or.inl (Or.inl rfl)) _
theorem Upd.vmp {w0 w w' : World} {v mp ma : Nat} (u : Upd (Vb v mp ma) w0 w) (hg : w.grownBy w' (some mp)) : Upd (Vb v mp ma) w0 w' := u.trans ((grown_upd hg).mono (fun _ hk => Or.inr (Or.inl hk)))
theorem Upd.vma {w0 w w' : World} {v mp ma : Nat} (u : Upd (Vb v mp ma) w0 w) (hg : w.grownBy w' (some ma)) : Upd (Vb v mp ma) w0 w' := u.trans ((grown_upd hg).mono (fun _ hk => Or.inr (Or.inr hk)))
def V0 (lrs : Int) : Vm := ⟨lrs, 256, 0, 0, 0, fun _ => false, fun _ => none, fun _ => none⟩
theorem row_new_of (w : World) (c : Array Value) (T : TypeId) (n : Nat) (f : Nat → Value) (e : c = ((List.range n).map f).toArray) : RowAt (w.alloc (.cells c T)) w.heap.size T n f := by
  subst e
  have h := RowAt.new w ((List.range n).map f).toArray T
  simp only [List.size_toArray, List.length_map, List.length_range] at h
  refine h.congr fun k hk => ?_
  simp [hk]
theorem wpList_value' {ops : Array Oper} {rest : List Oper} {o : Oper} {a : Act} {w w' : World} {v : Value} {Q : Exit → Act → World → Prop} (hgd : o.guard = none)
    (hrun : (execOp a.eval o).run Try.prog w = .ok (.value v) w') (h : wpList Try.prog ops Q rest (a.put o.dst v) w') : wpList Try.prog ops Q (o :: rest) a w :=
  wpList_plain hgd fun K hK => by unfold Oper.wp; rw [hrun]; exact hK _ _ h
theorem vcells (L : Int) (mp ma : Nat) : ((((Try.zeroCells93.setIfInBounds 0 (.int .i64 L)).setIfInBounds 1 (.int .i64 256)).setIfInBounds 66 (.map (some mp))).setIfInBounds 67 (.map (some ma))) = ((List.range 71).map (vcell (V0 L) mp ma)).toArray := by kernel_rfl
set_option maxHeartbeats 1000000 in
theorem vnew_ok (L : Int) (h1 : 1 ≤ L) (h2 : L ≤ 16) (w : World) : Calls Try.prog 15 #[.int .i64 L] w fun e w' => ∃ v mp ma, e = .returned (.tuple #[.pointer (some ⟨v, 0, none⟩), .int .i64 0]) ∧ VgAt w' v mp ma (V0 L) ∧ w.heap.size ≤ v ∧ w.heap.size ≤ mp ∧ w.heap.size ≤ ma ∧ Below w.heap.size w w' := by
  have hmm := @run_makeMap Try.prog
  go_enter Try.func15, Try.ntmps15
  go_wp2_with fail
  go_ret2
  refine ⟨w.heap.size + 1 + 1, w.heap.size, w.heap.size + 1, rfl, ⟨?_, (MapAt.made w).alloc _ |>.alloc _, ?_, by omega, by omega, by omega⟩, by omega, by omega, by omega, (((Below.refl _ _).alloc (Nat.le_refl _) _).alloc (by simp) _).alloc (by simp; omega) _⟩
  · have h := row_new_of ((w.alloc (.map #[] 0)).alloc (.map #[] 0)) _ 93 71 (vcell (V0 L) w.heap.size (w.heap.size + 1)) (vcells L w.heap.size (w.heap.size + 1))
    rw [show ((w.alloc (.map #[] 0)).alloc (.map #[] 0)).heap.size = w.heap.size + 1 + 1 by simp] at h
    exact h
  · have h := (MapAt.made (w.alloc (.map #[] 0))).alloc (.cells ((((Try.zeroCells93.setIfInBounds 0 (.int .i64 L)).setIfInBounds 1 (.int .i64 256)).setIfInBounds 66 (.map (some w.heap.size))).setIfInBounds 67 (.map (some (w.heap.size + 1)))) 93)
    rw [show (w.alloc (.map #[] 0)).heap.size = w.heap.size + 1 by simp] at h
    exact h
theorem vnew_err (L : Int) (h : ¬ (1 ≤ L ∧ L ≤ 16)) (w : World) : Calls Try.prog 15 #[.int .i64 L] w fun e w' => e = .returned (.tuple #[.pointer none, .int .i64 1]) ∧ w = w' := by
  by_cases h1 : L < 1
  · have d1 : decide (L < 1) = true := by simpa using h1
    go_enter Try.func15, Try.ntmps15
    go_wp2_with fail
    go_ret2
    simp
  · have d1 : decide (L < 1) = false := by simpa using h1
    have h2 : 16 < L := by omega
    have d2 : decide (16 < L) = true := by simpa using h2
    go_enter Try.func15, Try.ntmps15
    go_wp2_with fail
    go_ret2
    simp
theorem vis_any (id : Int) (w : World) : Calls Try.prog 45 #[.int .i64 id] w fun e w' => e = .returned (.bool (decide (0 ≤ id ∧ id < 64))) ∧ w = w' := by
  go_enter Try.func45, Try.ntmps45
  go_wp2_with fail
  all_goals
    go_ret
    refine ⟨congrArg (fun x => Ending.returned (Value.bool x)) ?_, rfl⟩
    first
    | (simp_all; done)
    | (simp; omega)
def wr (x : Int) : Int := wrap64 x
def injV (S : Vm) (id p : Int) (l : Bool) : Vm × Int :=
  if 0 ≤ id ∧ id < 64 ∧ 0 ≤ p ∧ p < 256 then (if (S.pe id.toNat).isSome = true then (S, 80) else ({ S with pe := updM S.pe id.toNat (some (p, l)), inj := wr (S.inj + 1) }, 0)) else (S, 1)
set_option maxHeartbeats 2000000 in
theorem inject_any (v mp ma : Nat) (S : Vm) (id p : Int) (l : Bool) (w : World) (h : VgAt w v mp ma S) :
    Calls Try.prog 16 #[.pointer (some ⟨v, 0, none⟩), .int .i64 id, .int .i64 p, .bool l] w fun e w' => e = .returned (.int .i64 (injV S id p l).2) ∧ VgAt w' v mp ma (injV S id p l).1 ∧ Upd (Vb v mp ma) w w' := by
  have H := Lib.hid h; clear h
  have z0 := H.out.lt
  have z1 : v < w.heap.size + 1 := by omega
  have z2 : v < w.heap.size + 1 + 1 := by omega
  by_cases hc : 0 ≤ id ∧ id < 64 ∧ 0 ≤ p ∧ p < 256
  · obtain ⟨i0, i1, p0, p1⟩ := hc
    obtain ⟨i, rfl⟩ := Int.eq_ofNat_of_zero_le i0
    have hi : i < 64 := by omega
    have hd : decide (0 ≤ (i : Int) ∧ (i : Int) < 64) = true := by simp; omega
    have dp0 : decide (p < 0) = false := by simpa using p0
    have dp1 : decide (256 ≤ p) = false := by simp; omega
    have e1 : ¬ p < 0 := by omega
    have e2 : ¬ 256 ≤ p := by omega
    have hI : injV S i p l = if (S.pe i).isSome = true then (S, 80) else ({ S with pe := updM S.pe i (some (p, l)), inj := wr (S.inj + 1) }, 0) := by
      unfold injV; rw [if_pos ⟨i0, i1, p0, p1⟩, Int.toNat_natCast]
    have c66 := H.out.mpc; have hf := H.out.frozen
    cases hs : (S.pe i).isSome
    · rw [hs] at hI
      simp only [Bool.false_eq_true, if_false] at hI
      rw [hI]
      clear hI
      go_enter Try.func16, Try.ntmps16
      go_wp2_with (first | (go_at_call 45; refine (vis_any _ _).mono ?_; rintro e w1 ⟨rfl, rfl⟩; rw [hd]) | (at_lookup; refine wpList_look _ rfl _ _ rfl mp S.pe i hi rfl H.out.pe rfl ?_) | (at_mapUpdate; refine wpList_put _ rfl _ _ _ rfl mp S.pe i hi p l rfl (H.out.pe.alloc _) rfl rfl ?_; intro w1 hm1 hg1; have HV := Lib.hid ((H.out.alloc _).set_pe hm1 hg1); have HU := Lib.hid (((Upd.refl (Vb v mp ma) w).alloc _).vmp hg1); clear hm1 hg1 c66 hf; have c68 := HV.out.inj; have hf := HV.out.frozen))
      go_ret
      go_light
      exact ⟨rfl, HV.out.set_inj _, HU.out.vrow 68 _⟩
    · rw [hs] at hI
      simp only [if_true] at hI
      rw [hI]
      clear hI
      go_enter Try.func16, Try.ntmps16
      go_wp2_with (first | (go_at_call 45; refine (vis_any _ _).mono ?_; rintro e w1 ⟨rfl, rfl⟩; rw [hd]) | (at_lookup; refine wpList_look _ rfl _ _ rfl mp S.pe i hi rfl H.out.pe rfl ?_))
      go_ret
      go_light
      exact ⟨rfl, H.out.alloc _, (Upd.refl _ _).alloc _⟩
  · have hI : injV S id p l = (S, 1) := by unfold injV; rw [if_neg hc]
    rw [hI]
    clear hI
    by_cases hr : 0 ≤ id ∧ id < 64
    · have hd : decide (0 ≤ id ∧ id < 64) = true := by simpa using hr
      by_cases hp : p < 0
      · have dp0 : decide (p < 0) = true := by simpa using hp
        go_enter Try.func16, Try.ntmps16
        go_wp2_with (go_at_call 45; refine (vis_any _ _).mono ?_; rintro e w1 ⟨rfl, rfl⟩; rw [hd])
        go_ret
        go_light
        exact ⟨rfl, H.out, Upd.refl _ _⟩
      · have dp0 : decide (p < 0) = false := by simpa using hp
        have hp2 : 256 ≤ p := by omega
        have dp1 : decide (256 ≤ p) = true := by simpa using hp2
        go_enter Try.func16, Try.ntmps16
        go_wp2_with (go_at_call 45; refine (vis_any _ _).mono ?_; rintro e w1 ⟨rfl, rfl⟩; rw [hd])
        go_ret
        go_light
        exact ⟨rfl, H.out, Upd.refl _ _⟩
    · have hd : decide (0 ≤ id ∧ id < 64) = false := by simpa using hr
      go_enter Try.func16, Try.ntmps16
      go_wp2_with (go_at_call 45; refine (vis_any _ _).mono ?_; rintro e w1 ⟨rfl, rfl⟩; rw [hd])
      go_ret
      go_light
      exact ⟨rfl, H.out, Upd.refl _ _⟩
def enaV (S : Vm) (id : Int) (on : Bool) : Vm × Int := if 0 ≤ id ∧ id < 64 then ({ S with off := fun k => if k = id.toNat then !on else S.off k }, 0) else (S, 1)
set_option maxHeartbeats 1000000 in
theorem enable_any (v mp ma : Nat) (S : Vm) (id : Int) (on : Bool) (w : World) (h : VgAt w v mp ma S) :
    Calls Try.prog 46 #[.pointer (some ⟨v, 0, none⟩), .int .i64 id, .bool on] w fun e w' => e = .returned (.int .i64 (enaV S id on).2) ∧ VgAt w' v mp ma (enaV S id on).1 ∧ Upd (Vb v mp ma) w w' := by
  have H := Lib.hid h; clear h
  have z0 := H.out.lt
  have z1 : v < w.heap.size + 1 := by omega
  have z2 : v < w.heap.size + 1 + 1 := by omega
  by_cases hr : 0 ≤ id ∧ id < 64
  · obtain ⟨i0, i1⟩ := hr
    obtain ⟨i, rfl⟩ := Int.eq_ofNat_of_zero_le i0
    have hi : i < 64 := by omega
    have hd : decide (0 ≤ (i : Int) ∧ (i : Int) < 64) = true := by simp; omega
    have hI : enaV S i on = ({ S with off := fun k => if k = i then !on else S.off k }, 0) := by
      unfold enaV; rw [if_pos ⟨i0, i1⟩, Int.toNat_natCast]
    rw [hI]
    clear hI
    have c := H.out.off i hi; have hf := H.out.frozen
    go_enter Try.func46, Try.ntmps46
    go_wp2_with (go_at_call 45; refine (vis_any _ _).mono ?_; rintro e w1 ⟨rfl, rfl⟩; rw [hd])
    go_ret
    go_light
    exact ⟨rfl, H.out.set_off i hi _, (Upd.refl _ _).vrow (2 + i) _⟩
  · have hd : decide (0 ≤ id ∧ id < 64) = false := by simpa using hr
    have hI : enaV S id on = (S, 1) := by unfold enaV; rw [if_neg hr]
    rw [hI]
    clear hI
    go_enter Try.func46, Try.ntmps46
    go_wp2_with (go_at_call 45; refine (vis_any _ _).mono ?_; rintro e w1 ⟨rfl, rfl⟩; rw [hd])
    go_ret
    go_light
    exact ⟨rfl, H.out, Upd.refl _ _⟩
def maskV (S : Vm) (m : Int) : Vm × Int := if 0 ≤ m ∧ m ≤ 256 then ({ S with mask := m }, 0) else (S, 1)
set_option maxHeartbeats 1000000 in
theorem setmask_any (v mp ma : Nat) (S : Vm) (m : Int) (w : World) (h : VgAt w v mp ma S) :
    Calls Try.prog 47 #[.pointer (some ⟨v, 0, none⟩), .int .i64 m] w fun e w' => e = .returned (.int .i64 (maskV S m).2) ∧ VgAt w' v mp ma (maskV S m).1 ∧ Upd (Vb v mp ma) w w' := by
  have H := Lib.hid h; clear h
  have z0 := H.out.lt
  have z1 : v < w.heap.size + 1 := by omega
  have z2 : v < w.heap.size + 1 + 1 := by omega
  have c := H.out.mask; have hf := H.out.frozen
  by_cases h0 : m < 0
  · have hI : maskV S m = (S, 1) := by unfold maskV; rw [if_neg (by omega)]
    have d0 : decide (m < 0) = true := by simpa using h0
    rw [hI]
    clear hI
    go_enter Try.func47, Try.ntmps47
    go_wp2_with fail
    go_ret
    go_light
    exact ⟨rfl, H.out, Upd.refl _ _⟩
  · have d0 : decide (m < 0) = false := by simpa using h0
    by_cases h1 : 256 < m
    · have hI : maskV S m = (S, 1) := by unfold maskV; rw [if_neg (by omega)]
      have d1 : decide (256 < m) = true := by simpa using h1
      rw [hI]
      clear hI
      go_enter Try.func47, Try.ntmps47
      go_wp2_with fail
      go_ret
      go_light
      exact ⟨rfl, H.out, Upd.refl _ _⟩
    · have hI : maskV S m = ({ S with mask := m }, 0) := by unfold maskV; rw [if_pos (by omega)]
      have d1 : decide (256 < m) = false := by simpa using h1
      rw [hI]
      clear hI
      go_enter Try.func47, Try.ntmps47
      go_wp2_with fail
      go_ret
      go_light
      exact ⟨rfl, H.out.set_mask _, (Upd.refl _ _).vrow 1 _⟩
/-- The state, whether maintenance is told, the error. -/
def endV (S : Vm) (id : Int) : Vm × Bool × Int :=
  if 0 ≤ id ∧ id < 64 then (match S.ac id.toNat with | none => (S, false, 70) | some y => ({ S with ac := updM S.ac id.toNat none, en := wr (S.en + 1) }, y.2, 0)) else (S, false, 1)
set_option maxHeartbeats 2000000 in
theorem vend_any (v mp ma : Nat) (S : Vm) (id : Int) (w : World) (h : VgAt w v mp ma S) :
    Calls Try.prog 18 #[.pointer (some ⟨v, 0, none⟩), .int .i64 id] w fun e w' => e = .returned (.tuple #[.bool (endV S id).2.1, .int .i64 (endV S id).2.2]) ∧ VgAt w' v mp ma (endV S id).1 ∧ Upd (Vb v mp ma) w w' := by
  have H := Lib.hid h; clear h
  have z0 := H.out.lt
  have z1 : v < w.heap.size + 1 := by omega
  have z2 : v < w.heap.size + 1 + 1 := by omega
  by_cases hr : 0 ≤ id ∧ id < 64
  · obtain ⟨i0, i1⟩ := hr
    obtain ⟨i, rfl⟩ := Int.eq_ofNat_of_zero_le i0
    have hi : i < 64 := by omega
    have hd : decide (0 ≤ (i : Int) ∧ (i : Int) < 64) = true := by simp; omega
    have c67 := H.out.mac; have hf := H.out.frozen
    cases hs : S.ac i with
    | none =>
      have hI : endV S i = (S, false, 70) := by unfold endV; rw [if_pos ⟨i0, i1⟩, Int.toNat_natCast, hs]
      rw [hI]
      clear hI
      go_enter Try.func18, Try.ntmps18
      go_wp2_with (first | (go_at_call 45; refine (vis_any _ _).mono ?_; rintro e w1 ⟨rfl, rfl⟩; rw [hd]) | (at_lookup; refine wpList_look _ rfl _ _ rfl ma S.ac i hi rfl H.out.ac rfl ?_; rw [hs]; simp only [hP, hL, Option.isSome]))
      go_ret2
      go_light
      exact ⟨rfl, H.out.alloc _, (Upd.refl _ _).alloc _⟩
    | some y =>
      have hmaw := H.out.ac.lt
      have hI : endV S i = ({ S with ac := updM S.ac i none, en := wr (S.en + 1) }, y.2, 0) := by unfold endV; rw [if_pos ⟨i0, i1⟩, Int.toNat_natCast, hs]
      rw [hI]
      clear hI
      go_enter Try.func18, Try.ntmps18
      go_wp2_with (first | (go_at_call 45; refine (vis_any _ _).mono ?_; rintro e w1 ⟨rfl, rfl⟩; rw [hd]) | (at_lookup; refine wpList_look _ rfl _ _ rfl ma S.ac i hi rfl H.out.ac rfl ?_; rw [hs]; simp only [hP, hL, Option.isSome]) | (at_delete; refine wpList_drop _ rfl _ _ rfl ma S.ac i hi rfl (H.out.ac.alloc _) rfl ?_; (intro w1 hm1 hg1; have HV := Lib.hid ((H.out.alloc _).set_ac hm1 hg1); have HU := Lib.hid (((Upd.refl (Vb v mp ma) w).alloc _).vma hg1); have ch := hg1.cell (a := ⟨w.heap.size, 1, none⟩) (v := .bool y.2) (by simp) (by simp; omega); have hz3 : w.heap.size < w1.heap.size := (by have hz := hg1.size; simp at hz; omega); clear c67 hf hm1 hg1; have c70 := HV.out.en; have hf := HV.out.frozen)))
      go_ret2
      go_light
      exact ⟨rfl, HV.out.set_en _, HU.out.vrow 70 _⟩
  · have hd : decide (0 ≤ id ∧ id < 64) = false := by simpa using hr
    have hI : endV S id = (S, false, 1) := by unfold endV; rw [if_neg hr]
    rw [hI]
    clear hI
    go_enter Try.func18, Try.ntmps18
    go_wp2_with (go_at_call 45; refine (vis_any _ _).mono ?_; rintro e w1 ⟨rfl, rfl⟩; rw [hd])
    go_ret2
    go_light
    exact ⟨rfl, H.out, Upd.refl _ _⟩
end Go.Proofs.Ytnebjbjdgfaooaa
