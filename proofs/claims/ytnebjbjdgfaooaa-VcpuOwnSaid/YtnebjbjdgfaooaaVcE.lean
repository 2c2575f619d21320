/- The contracts of vcpu.register, Read, Write, Inject; no condition but numbers of 64 bits. -/
import Derived.Test.YtnebjbjdgfaooaaVcD
namespace Go.Proofs.Ytnebjbjdgfaooaa
open Go.RowKit Go.Maps
set_option maxRecDepth 100000
set_option maxHeartbeats 4000000 in
theorem reg_none (p : Nat) (o : Own) (C : Pc) (id n : Int) (m : Nat) (hid : i64 id) (w : World) (h : VcOk w o p C) (hP : C.all id = none) :
    Calls Try.prog 62 #[.pointer (some ⟨p, 0, none⟩), .int .i64 id, .int .i64 n, .int .i64 m] w fun e w' => e = .returned (.tuple #[.pointer none, .int .i64 181]) ∧ w' = w := by
  have H := Lib.hid h; clear h
  have c1 := H.out.mb
  go_enter Try.func62, Try.ntmps62
  go_wp2_with (at_lookup; refine wpList_getq _ rfl _ _ rfl C.mb _ id hid rfl H.out.map rfl ?_; simp only [hP, Option.map_none, qv])
  go_ret2
  simp
set_option maxHeartbeats 4000000 in
theorem reg_out (p : Nat) (o : Own) (C : Pc) (id n : Int) (m : Nat) (hid : i64 id) (hn : ¬ (0 ≤ n ∧ n < (m : Int))) (w : World) (h : VcOk w o p C) (P : Px) (hP : C.all id = some P) :
    Calls Try.prog 62 #[.pointer (some ⟨p, 0, none⟩), .int .i64 id, .int .i64 n, .int .i64 m] w fun e w' => e = .returned (.tuple #[.pointer none, .int .i64 1]) ∧ w' = w := by
  have H := Lib.hid h; clear h
  have c1 := H.out.mb
  by_cases h0 : n < 0
  · have d0 : decide (n < 0) = true := by simpa using h0
    go_enter Try.func62, Try.ntmps62
    go_wp2_with (at_lookup; refine wpList_getq _ rfl _ _ rfl C.mb _ id hid rfl H.out.map rfl ?_; simp only [hP, Option.map_some, qv])
    go_ret2
    simp
  · have d0 : decide (n < 0) = false := by simpa using h0
    have h1 : (m : Int) ≤ n := by omega
    have d1 : decide ((m : Int) ≤ n) = true := by simpa using h1
    go_enter Try.func62, Try.ntmps62
    go_wp2_with (at_lookup; refine wpList_getq _ rfl _ _ rfl C.mb _ id hid rfl H.out.map rfl ?_; simp only [hP, Option.map_some, qv])
    go_ret2
    simp
set_option maxHeartbeats 4000000 in
theorem reg_bank (p : Nat) (o : Own) (C : Pc) (k m : Nat) (hk : k < m) (hm : m ≤ 8) (hid : i64 C.loaded) (w : World) (h : VcOk w o p C) (P : Px) (hP : C.all C.loaded = some P) :
    Calls Try.prog 62 #[.pointer (some ⟨p, 0, none⟩), .int .i64 C.loaded, .int .i64 k, .int .i64 m] w fun e w' => e = .returned (.tuple #[.pointer (some ⟨p, 2 + k, none⟩), .int .i64 0]) ∧ w' = w := by
  have H := Lib.hid h; clear h
  have c1 := H.out.mb
  have c10 := H.out.loaded
  have d0 : decide ((k : Int) < 0) = false := by simp
  have h1 : ¬ (m : Int) ≤ k := by omega
  have d1 : decide ((m : Int) ≤ (k : Int)) = false := by simpa using h1
  have h8 : (k : Int) < 8 := by omega
  go_enter Try.func62, Try.ntmps62
  go_wp2_with (at_lookup; refine wpList_getq _ rfl _ _ rfl C.mb _ C.loaded hid rfl H.out.map rfl ?_; simp only [hP, Option.map_some, qv])
  go_ret2
  simp
set_option maxHeartbeats 4000000 in
theorem reg_own (p : Nat) (o : Own) (C : Pc) (id : Int) (k m : Nat) (hk : k < m) (hm : m ≤ 8) (hid : i64 id) (hl : C.loaded ≠ id) (w : World) (h : VcOk w o p C) (P : Px) (hP : C.all id = some P) :
    Calls Try.prog 62 #[.pointer (some ⟨p, 0, none⟩), .int .i64 id, .int .i64 k, .int .i64 m] w fun e w' => e = .returned (.tuple #[.pointer (some ⟨P.x, k, none⟩), .int .i64 0]) ∧ w' = w := by
  have H := Lib.hid h; clear h
  have c1 := H.out.mb
  have c10 := H.out.loaded
  have d0 : decide ((k : Int) < 0) = false := by simp
  have h1 : ¬ (m : Int) ≤ k := by omega
  have d1 : decide ((m : Int) ≤ (k : Int)) = false := by simpa using h1
  have h8 : (k : Int) < 8 := by omega
  have d2 : (C.loaded == id) = false := by simpa using hl
  go_enter Try.func62, Try.ntmps62
  go_wp2_with (at_lookup; refine wpList_getq _ rfl _ _ rfl C.mb _ id hid rfl H.out.map rfl ?_; simp only [hP, Option.map_some, qv])
  go_ret2
  simp
def readA (A : Am) (id n : Int) : Int × Int := match A.all id with | none => (0, 181) | some x => if 0 ≤ n ∧ n < 8 then (x.sys n.toNat, 0) else (0, 1)
set_option maxHeartbeats 4000000 in
theorem cread_any (p : Nat) (o : Own) (C : Pc) (id n : Int) (hid : i64 id) (w : World) (h : VcOk w o p C) :
    Calls Try.prog 40 #[.pointer (some ⟨p, 0, none⟩), .int .i64 id, .int .i64 n] w fun e w' => e = .returned (.tuple #[.int .u32 (readA C.to id n).1, .int .i64 (readA C.to id n).2]) ∧ w' = w := by
  have H := Lib.hid h; clear h
  cases hP : C.all id with
  | none =>
    have hA : readA C.to id n = (0, 181) := by unfold readA; rw [to_none hP]
    rw [hA]
    clear hA
    go_enter Try.func40, Try.ntmps40
    go_wp2_with fail
    refine (reg_none p o C id n 8 hid _ H.out hP).mono ?_
    rintro e w1 ⟨rfl, rfl⟩
    go_wp2_with fail
    go_ret2
    simp
  | some P =>
    by_cases hn : 0 ≤ n ∧ n < 8
    · obtain ⟨k, rfl⟩ := Int.eq_ofNat_of_zero_le hn.1
      have hk : k < 8 := by omega
      have hA : readA C.to id k = ((C.one id P).sys k, 0) := by unfold readA; rw [to_some hP]; simp only [if_pos hn, Int.toNat_natCast]
      rw [hA]
      clear hA
      by_cases hl : C.loaded = id
      · subst hl
        have hs : (C.one C.loaded P).sys = C.bank := by simp only [Pc.one, if_true]
        rw [hs]
        have c := H.out.bank hk
        go_enter Try.func40, Try.ntmps40
        go_wp2_with fail
        refine (reg_bank p o C k 8 hk (Nat.le_refl _) hid _ H.out P hP).mono ?_
        rintro e w1 ⟨rfl, rfl⟩
        go_wp2_with fail
        go_ret2
        simp
      · have hs : (C.one id P).sys = P.sys := by simp only [Pc.one, if_neg hl]
        rw [hs]
        have c := H.out.sys hP hk
        go_enter Try.func40, Try.ntmps40
        go_wp2_with fail
        refine (reg_own p o C id k 8 hk (Nat.le_refl _) hid hl _ H.out P hP).mono ?_
        rintro e w1 ⟨rfl, rfl⟩
        go_wp2_with fail
        go_ret2
        simp
    · have hA : readA C.to id n = (0, 1) := by unfold readA; rw [to_some hP]; exact if_neg hn
      rw [hA]
      clear hA
      go_enter Try.func40, Try.ntmps40
      go_wp2_with fail
      refine (reg_out p o C id n 8 hid (by simpa using hn) _ H.out P hP).mono ?_
      rintro e w1 ⟨rfl, rfl⟩
      go_wp2_with fail
      go_ret2
      simp
def updS (f : Nat → Int) (k : Nat) (x : Int) : Nat → Int := fun j => if j = k then x else f j
def writeA (A : Am) (id n x : Int) : Am × Int := match A.all id with | none => (A, 181) | some a => if 0 ≤ n ∧ n < 6 then ({ A with all := updQ A.all id (some { a with sys := updS a.sys n.toNat x }) }, 0) else (A, 1)
/-- One register of one. -/
theorem VcOk.sts {w : World} {o : Own} {p : Nat} {C : Pc} {i : Int} {P : Px} (h : VcOk w o p C) (hP : C.all i = some P) {k : Nat} (hk : k < 8) (x : Int) :
    VcOk (w.setCell ⟨P.x, k, none⟩ (.int .u32 x)) o p { C with all := updQ C.all i (some { P with sys := updS P.sys k x }) } := by
  have hu : Upd (fun b => b = P.x) w (w.setCell ⟨P.x, k, none⟩ (.int .u32 x)) := Upd.setCell (S := fun b => b = P.x) (Upd.refl _ _) (p := ⟨P.x, k, none⟩) (Or.inl rfl) _
  refine h.setx hP hu { P with sys := updS P.sys k x } rfl rfl rfl rfl rfl ?_
  refine ((h.prow i P hP).set k _).congr fun j hj => ?_
  simp only [pcell, updS]
  repeat' split
  all_goals first | rfl | (exfalso; omega)
/-- One register of the bank. -/
theorem VcOk.sbk {w : World} {o : Own} {p : Nat} {C : Pc} {P : Px} (h : VcOk w o p C) (hP : C.all C.loaded = some P) {k : Nat} (hk : k < 8) (x : Int) :
    VcOk (w.setCell ⟨p, 2 + k, none⟩ (.int .u32 x)) o p { C with bank := updS C.bank k x } := by
  have hu : Upd (fun b => b = p) w (w.setCell ⟨p, 2 + k, none⟩ (.int .u32 x)) := Upd.setCell (S := fun b => b = p) (Upd.refl _ _) (p := ⟨p, 2 + k, none⟩) (Or.inl rfl) _
  refine h.setc hu { C with bank := updS C.bank k x } rfl rfl ?_ (Or.inr ⟨P, hP⟩)
  refine (h.row.set (2 + k) _).congr fun j hj => ?_
  simp only [ccell, updS]
  repeat' split
  all_goals first | rfl | (exfalso; omega)
theorem to_bank {C : Pc} {P : Px} (hP : C.all C.loaded = some P) (f : Nat → Int) : Pc.to { C with bank := f } = { C.to with all := updQ C.to.all C.loaded (some { C.one C.loaded P with sys := f }) } := by
  refine Am.ext' rfl rfl ?_
  funext j
  show (C.all j).map (Pc.one { C with bank := f } j) = updQ C.to.all C.loaded (some { C.one C.loaded P with sys := f }) j
  by_cases h : j = C.loaded
  · subst h
    rw [updQ_same, hP]
    simp only [Option.map_some, Pc.one, if_true]
  · rw [updQ_other _ _ h]
    cases hj : C.all j with
    | none => rw [to_none hj]; rfl
    | some Q =>
      rw [to_some hj]
      simp only [Option.map_some, Pc.one]
      rw [if_neg (fun e => h e.symm), if_neg (fun e => h e.symm)]
set_option maxHeartbeats 4000000 in
theorem cwrite_any (p : Nat) (o : Own) (C : Pc) (id n x : Int) (hid : i64 id) (w : World) (h : VcOk w o p C) :
    Calls Try.prog 33 #[.pointer (some ⟨p, 0, none⟩), .int .i64 id, .int .i64 n, .int .u32 x] w fun e w' => e = .returned (.int .i64 (writeA C.to id n x).2) ∧ Stp w w' o p (writeA C.to id n x).1 := by
  have H := Lib.hid h; clear h
  cases hP : C.all id with
  | none =>
    have hA : writeA C.to id n x = (C.to, 181) := by unfold writeA; rw [to_none hP]
    rw [hA]
    clear hA
    go_enter Try.func33, Try.ntmps33
    go_wp2_with fail
    refine (reg_none p o C id n 6 hid _ H.out hP).mono ?_
    rintro e w1 ⟨rfl, rfl⟩
    go_wp2_with fail
    go_ret
    exact ⟨rfl, stp_same H.out⟩
  | some P =>
    by_cases hn : 0 ≤ n ∧ n < 6
    · obtain ⟨k, rfl⟩ := Int.eq_ofNat_of_zero_le hn.1
      have hk : k < 6 := by omega
      have hA : writeA C.to id k x = ({ C.to with all := updQ C.to.all id (some { C.one id P with sys := updS (C.one id P).sys k x }) }, 0) := by unfold writeA; rw [to_some hP]; simp only [if_pos hn, Int.toNat_natCast]
      rw [hA]
      clear hA
      by_cases hl : C.loaded = id
      · subst hl
        have hs : (C.one C.loaded P).sys = C.bank := by simp only [Pc.one, if_true]
        rw [hs]
        have c := H.out.bank (k := k) (by omega)
        have hf := H.out.frozen
        go_enter Try.func33, Try.ntmps33
        go_wp2_with fail
        refine (reg_bank p o C k 6 hk (by omega) hid _ H.out P hP).mono ?_
        rintro e w1 ⟨rfl, rfl⟩
        go_wp2_with fail
        go_ret
        exact ⟨rfl, o, _, H.out.sbk hP (by omega) x, to_bank hP _, Ext.refl _ _, (Upd.refl _ _).setCell (Or.inl H.out.owp) _⟩
      · have hs : (C.one id P).sys = P.sys := by simp only [Pc.one, if_neg hl]
        have HL := Lib.hid hl
        rw [hs]
        have c := H.out.sys hP (k := k) (by omega)
        have hf := H.out.pfrozen hP
        go_enter Try.func33, Try.ntmps33
        go_wp2_with fail
        refine (reg_own p o C id k 6 hk (by omega) hid hl _ H.out P hP).mono ?_
        rintro e w1 ⟨rfl, rfl⟩
        go_wp2_with fail
        go_ret
        refine ⟨rfl, o, _, H.out.sts hP (by omega) x, ?_, Ext.refl _ _, (Upd.refl _ _).setCell (Or.inl (H.out.owx hP)) _⟩
        rw [to_updq]
        simp only [Option.map_some, Pc.one, if_neg HL.out]
    · have hA : writeA C.to id n x = (C.to, 1) := by unfold writeA; rw [to_some hP]; exact if_neg hn
      rw [hA]
      clear hA
      go_enter Try.func33, Try.ntmps33
      go_wp2_with fail
      refine (reg_out p o C id n 6 hid (by simpa using hn) _ H.out P hP).mono ?_
      rintro e w1 ⟨rfl, rfl⟩
      go_wp2_with fail
      go_ret
      exact ⟨rfl, stp_same H.out⟩
def injectA (A : Am) (id irq pr : Int) (lv : Bool) : Am × Int := match A.all id with | none => (A, 181) | some a => ({ A with all := updQ A.all id (some { a with S := (injV a.S irq pr lv).1 }) }, (injV a.S irq pr lv).2)
/-- What turns in one's interrupts. -/
theorem stp_setv {w w' : World} {o : Own} {p : Nat} {C : Pc} {i : Int} {P : Px} (h : VcOk w o p C) (hP : C.all i = some P) (u : Upd (Vb P.v P.mp P.ma) w w') (S : Vm) (hv : VgAt w' P.v P.mp P.ma S) :
    Stp w w' o p { C.to with all := updQ C.to.all i (some { C.one i P with S := S }) } := by
  obtain ⟨o1, o2, o3, o4⟩ := h.ox i P hP
  refine ⟨o, _, h.setv hP u S hv, ?_, Ext.refl _ _, u.mono (fun k hk => ?_)⟩
  · rw [to_updq]; rfl
  · rcases hk with rfl | rfl | rfl
    · simp [Ow, o2]
    · simp [Ow, o3]
    · simp [Ow, o4]
set_option maxHeartbeats 4000000 in
theorem cinject_any (p : Nat) (o : Own) (C : Pc) (id irq pr : Int) (lv : Bool) (hid : i64 id) (w : World) (h : VcOk w o p C) :
    Calls Try.prog 41 #[.pointer (some ⟨p, 0, none⟩), .int .i64 id, .int .i64 irq, .int .i64 pr, .bool lv] w fun e w' => e = .returned (.int .i64 (injectA C.to id irq pr lv).2) ∧ Stp w w' o p (injectA C.to id irq pr lv).1 := by
  have H := Lib.hid h; clear h
  have c1 := H.out.mb
  cases hP : C.all id with
  | none =>
    have hA : injectA C.to id irq pr lv = (C.to, 181) := by unfold injectA; rw [to_none hP]
    rw [hA]
    clear hA
    go_enter Try.func41, Try.ntmps41
    go_wp2_with (at_lookup; refine wpList_getq _ rfl _ _ rfl C.mb _ id hid rfl H.out.map rfl ?_; simp only [hP, Option.map_none, qv])
    go_ret
    exact ⟨rfl, stp_same H.out⟩
  | some P =>
    have hA : injectA C.to id irq pr lv = ({ C.to with all := updQ C.to.all id (some { C.one id P with S := (injV P.S irq pr lv).1 }) }, (injV P.S irq pr lv).2) := by unfold injectA; rw [to_some hP]; rfl
    rw [hA]
    clear hA
    have c9 := H.out.pv hP
    go_enter Try.func41, Try.ntmps41
    go_wp2_with (at_lookup; refine wpList_getq _ rfl _ _ rfl C.mb _ id hid rfl H.out.map rfl ?_; simp only [hP, Option.map_some, qv])
    refine (inject_any P.v P.mp P.ma P.S irq pr lv _ (H.out.vg id P hP)).mono ?_
    rintro e w1 ⟨rfl, hv, hu⟩
    have HF := Lib.hid (stp_setv H.out hP hu _ hv)
    clear hv hu
    go_wp2_with fail
    go_ret
    exact ⟨rfl, HF.out⟩
end Go.Proofs.Ytnebjbjdgfaooaa
