/- The contracts of vcpu.Bank, SetBank, Tick; no condition. -/
import Derived.Test.YtnebjbjdgfaooaaVcE
namespace Go.Proofs.Ytnebjbjdgfaooaa
open Go.RowKit Go.Maps
set_option maxRecDepth 100000
def bankA (A : Am) : Nat → Int := match A.all A.loaded with | some a => a.sys | none => fun _ => 0
theorem bank_eq {w : World} {o : Own} {p : Nat} {C : Pc} (h : VcOk w o p C) : bankA C.to = C.bank := by
  unfold bankA
  rcases h.ld with ⟨e, eb⟩ | ⟨P, hP⟩
  · have hn : C.all C.loaded = none := by
      cases hP : C.all C.loaded with
      | none => rfl
      | some P => have := h.dom hP; omega
    rw [show C.to.loaded = C.loaded from rfl, to_none hn, eb]
  · rw [show C.to.loaded = C.loaded from rfl, to_some hP]
    simp only [Pc.one, if_true]
set_option maxHeartbeats 4000000 in
theorem cbank_any (p : Nat) (o : Own) (C : Pc) (w : World) (h : VcOk w o p C) :
    Calls Try.prog 59 #[.pointer (some ⟨p, 0, none⟩)] w fun e w' => e = .returned (.agg #[.int .u32 ((bankA C.to) 0), .int .u32 ((bankA C.to) 1), .int .u32 ((bankA C.to) 2), .int .u32 ((bankA C.to) 3), .int .u32 ((bankA C.to) 4), .int .u32 ((bankA C.to) 5), .int .u32 ((bankA C.to) 6), .int .u32 ((bankA C.to) 7)]) ∧ Below w.heap.size w w' := by
  have H := Lib.hid h; clear h
  rw [bank_eq H.out]
  have H1 : Hid (VcOk (w.alloc (.cells #[.int .u32 0, .int .u32 0, .int .u32 0, .int .u32 0, .int .u32 0, .int .u32 0, .int .u32 0, .int .u32 0] 75)) o p C) := Lib.hid (H.out.alloc _)
  go_enter Try.func59, Try.ntmps59
  go_wp2_with (refine wpList_ldb _ H1.out rfl rfl rfl ?_)
  exact bodyPost_ret (v := .agg #[.int .u32 (C.bank 0), .int .u32 (C.bank 1), .int .u32 (C.bank 2), .int .u32 (C.bank 3), .int .u32 (C.bank 4), .int .u32 (C.bank 5), .int .u32 (C.bank 6), .int .u32 (C.bank 7)]) (by simp [results, Try.results59, go_sem]) rfl ⟨rfl, (Below.refl _ _).alloc (Nat.le_refl _) _⟩
def setbankA (A : Am) (b : Nat → Int) : Am × Int :=
  if A.loaded = -1 then (A, 194) else match A.all A.loaded with | some a => ({ A with all := updQ A.all A.loaded (some { a with sys := fun n => if n < 6 then b n else a.sys n }) }, 0) | none => (A, 0)
set_option maxHeartbeats 4000000 in
theorem csetbank_any (p : Nat) (o : Own) (C : Pc) (b : Nat → Int) (w : World) (h : VcOk w o p C) :
    Calls Try.prog 58 #[.pointer (some ⟨p, 0, none⟩), .agg #[.int .u32 (b 0), .int .u32 (b 1), .int .u32 (b 2), .int .u32 (b 3), .int .u32 (b 4), .int .u32 (b 5), .int .u32 (b 6), .int .u32 (b 7)]] w fun e w' => e = .returned (.int .i64 (setbankA C.to b).2) ∧ Stp w w' o p (setbankA C.to b).1 := by
  have H := Lib.hid h; clear h
  have c10 := H.out.loaded
  rcases H.out.ld with ⟨e, _⟩ | ⟨P, hP⟩
  · have hA : setbankA C.to b = (C.to, 194) := by unfold setbankA; exact if_pos e
    rw [hA]
    clear hA
    rw [e] at c10
    clear e
    have HH : Hid (VcOk (w.alloc (.cells #[.int .u32 (b 0), .int .u32 (b 1), .int .u32 (b 2), .int .u32 (b 3), .int .u32 (b 4), .int .u32 (b 5), .int .u32 (b 6), .int .u32 (b 7)] 75)) o p C ∧ Upd (Ow o) w (w.alloc (.cells #[.int .u32 (b 0), .int .u32 (b 1), .int .u32 (b 2), .int .u32 (b 3), .int .u32 (b 4), .int .u32 (b 5), .int .u32 (b 6), .int .u32 (b 7)] 75))) := Lib.hid ⟨H.out.alloc _, (Upd.refl _ _).alloc _⟩
    have hlt := H.out.lt
    go_enter Try.func58, Try.ntmps58
    go_wp2_with fail
    go_ret
    exact ⟨rfl, o, C, HH.out.1, rfl, Ext.refl _ _, HH.out.2⟩
  · have hd := H.out.dom hP
    have hA : setbankA C.to b = ({ C.to with all := updQ C.to.all C.loaded (some { C.one C.loaded P with sys := fun n => if n < 6 then b n else C.bank n }) }, 0) := by
      unfold setbankA
      rw [if_neg (show ¬ C.to.loaded = -1 from by show ¬ C.loaded = -1; omega), show C.to.loaded = C.loaded from rfl, to_some hP]
      simp only [Pc.one, if_true]
      rfl
    rw [hA]
    clear hA
    have hl2 : (C.loaded == -1) = false := by simp; omega
    have hlt := H.out.lt
    have b6 : w.cell? ⟨p, 8, none⟩ = some (.int .u32 (C.bank 6)) := H.out.bank (k := 6) (by omega)
    have b7 : w.cell? ⟨p, 9, none⟩ = some (.int .u32 (C.bank 7)) := H.out.bank (k := 7) (by omega)
    have HH : Hid (VcOk (w.alloc (.cells #[.int .u32 (b 0), .int .u32 (b 1), .int .u32 (b 2), .int .u32 (b 3), .int .u32 (b 4), .int .u32 (b 5), .int .u32 (b 6), .int .u32 (b 7)] 75)) o p C ∧ Upd (Ow o) w (w.alloc (.cells #[.int .u32 (b 0), .int .u32 (b 1), .int .u32 (b 2), .int .u32 (b 3), .int .u32 (b 4), .int .u32 (b 5), .int .u32 (b 6), .int .u32 (b 7)] 75))) := Lib.hid ⟨H.out.alloc _, (Upd.refl _ _).alloc _⟩
    have HR : Hid (RowAt (w.alloc (.cells #[.int .u32 (b 0), .int .u32 (b 1), .int .u32 (b 2), .int .u32 (b 3), .int .u32 (b 4), .int .u32 (b 5), .int .u32 (b 6), .int .u32 (b 7)] 75)) w.heap.size 75 8 (fun k => .int .u32 (b k))) := Lib.hid (row_new_of w _ 75 8 _ (by kernel_rfl))
    go_enter Try.func58, Try.ntmps58
    go_wp2_with fail
    generalize w.alloc (.cells #[.int .u32 (b 0), .int .u32 (b 1), .int .u32 (b 2), .int .u32 (b 3), .int .u32 (b 4), .int .u32 (b 5), .int .u32 (b 6), .int .u32 (b 7)] 75) = w1 at HH HR ⊢
    clear b6 b7 c10
    have hlt1 : w.heap.size < w1.heap.size := HR.out.lt
    have hne : p ≠ w.heap.size := by omega
    have b6 : w1.cell? ⟨p, 8, none⟩ = some (.int .u32 (C.bank 6)) := HH.out.1.bank (k := 6) (by omega)
    have b7 : w1.cell? ⟨p, 9, none⟩ = some (.int .u32 (C.bank 7)) := HH.out.1.bank (k := 7) (by omega)
    have r6 := HR.out.cell 6 (by omega)
    have r7 := HR.out.cell 7 (by omega)
    have hf1 := HH.out.1.frozen
    have hf2 := HR.out.frozen
    have HU1 := Lib.hid HH.out.2
    have HX : Hid (VcOk ((w1.setCell ⟨w.heap.size, 6, none⟩ (.int .u32 (C.bank 6))).setCell ⟨w.heap.size, 7, none⟩ (.int .u32 (C.bank 7))).drew o p C ∧ Upd (Ow o) w ((w1.setCell ⟨w.heap.size, 6, none⟩ (.int .u32 (C.bank 6))).setCell ⟨w.heap.size, 7, none⟩ (.int .u32 (C.bank 7))).drew
        ∧ RowAt ((w1.setCell ⟨w.heap.size, 6, none⟩ (.int .u32 (C.bank 6))).setCell ⟨w.heap.size, 7, none⟩ (.int .u32 (C.bank 7))).drew w.heap.size 75 8 (fun k => .int .u32 ((fun n => if n < 6 then b n else C.bank n) k))) := Lib.hid (by
      have hu : Upd (fun c => c = w.heap.size) w1 ((w1.setCell ⟨w.heap.size, 6, none⟩ (.int .u32 (C.bank 6))).setCell ⟨w.heap.size, 7, none⟩ (.int .u32 (C.bank 7))).drew := (Upd.setCell (S := fun c => c = w.heap.size) (Upd.setCell (S := fun c => c = w.heap.size) (Upd.refl _ _) (p := ⟨w.heap.size, 6, none⟩) (Or.inl rfl) _) (p := ⟨w.heap.size, 7, none⟩) (Or.inl rfl) _).drew
      refine ⟨HH.out.1.kept hu (fun c hc => by have := H.out.lim c hc; omega), HU1.out.call hu (fun i hi => Or.inr (by omega)), (((HR.out.set 6 _).set 7 _).congr fun k hk => ?_).drew⟩
      rcases (by omega : k = 0 ∨ k = 1 ∨ k = 2 ∨ k = 3 ∨ k = 4 ∨ k = 5 ∨ k = 6 ∨ k = 7) with rfl | rfl | rfl | rfl | rfl | rfl | rfl | rfl <;> rfl)
    obtain ⟨f, hf⟩ : ∃ f, (fun n => if n < 6 then b n else C.bank n) = f := ⟨_, rfl⟩
    rw [hf] at HX
    have HF := Lib.hid hf
    clear hf
    go_region
    generalize ((w1.setCell ⟨w.heap.size, 6, none⟩ (.int .u32 (C.bank 6))).setCell ⟨w.heap.size, 7, none⟩ (.int .u32 (C.bank 7))).drew = w2 at HX ⊢
    clear b6 b7 r6 r7 hf1 hf2 HU1 HH HR
    have hrg : w2.rangeAt w.heap.size 0 [.int .u32 (f 0), .int .u32 (f 1), .int .u32 (f 2), .int .u32 (f 3), .int .u32 (f 4), .int .u32 (f 5), .int .u32 (f 6), .int .u32 (f 7)] := by
      intro j v hv
      match j, hv with
      | 0, hv => simp at hv; subst hv; exact HX.out.2.2.cell 0 (by omega)
      | 1, hv => simp at hv; subst hv; exact HX.out.2.2.cell 1 (by omega)
      | 2, hv => simp at hv; subst hv; exact HX.out.2.2.cell 2 (by omega)
      | 3, hv => simp at hv; subst hv; exact HX.out.2.2.cell 3 (by omega)
      | 4, hv => simp at hv; subst hv; exact HX.out.2.2.cell 4 (by omega)
      | 5, hv => simp at hv; subst hv; exact HX.out.2.2.cell 5 (by omega)
      | 6, hv => simp at hv; subst hv; exact HX.out.2.2.cell 6 (by omega)
      | 7, hv => simp at hv; subst hv; exact HX.out.2.2.cell 7 (by omega)
      | j + 8, hv => simp at hv
    have HG := Lib.hid hrg
    clear hrg
    go_wp2_with (first | (refine wpList_load_mid rfl 75 _ rfl w.heap.size 0 rfl [.int .u32 (f 0), .int .u32 (f 1), .int .u32 (f 2), .int .u32 (f 3), .int .u32 (f 4), .int .u32 (f 5), .int .u32 (f 6), .int .u32 (f 7)] _ HG.out Try.underlying75 rfl info75 ?_) | (refine wpList_stb _ _ HX.out.1 f (Or.inr ⟨P, hP⟩) rfl rfl rfl rfl ?_; intro w3 h3 u3; have H3 := Lib.hid h3; have U3 := Lib.hid (HX.out.2.1.own u3 HX.out.1.owp); clear h3 u3))
    go_ret
    refine ⟨rfl, o, _, H3.out, ?_, Ext.refl _ _, U3.out⟩
    rw [to_bank hP, HF.out]
def tick1 (A : Am) (a : Ax) : Am := { A with all := updQ A.all A.loaded (some { a with sys := updS a.sys 5 ((a.sys 5 + 1) % 4294967296) }) }
def tickA (A : Am) : Am × Bool :=
  match A.all A.loaded with
  | none => (A, false)
  | some a => if a.sys 3 = 0 ∨ a.sys 3 ≠ (a.sys 5 + 1) % 4294967296 then (tick1 A a, false) else ((injectA (tick1 A a) A.loaded 27 10 false).1, decide ((injectA (tick1 A a) A.loaded 27 10 false).2 = 0))
set_option maxHeartbeats 4000000 in
theorem ctick_any (p : Nat) (o : Own) (C : Pc) (w : World) (h : VcOk w o p C) :
    Calls Try.prog 34 #[.pointer (some ⟨p, 0, none⟩)] w fun e w' => e = .returned (.bool (tickA C.to).2) ∧ Stp w w' o p (tickA C.to).1 := by
  have H := Lib.hid h; clear h
  have c10 := H.out.loaded
  rcases H.out.ld with ⟨e, _⟩ | ⟨P, hP⟩
  · have hn : C.all C.loaded = none := by
      cases hP : C.all C.loaded with
      | none => rfl
      | some P => have := H.out.dom hP; omega
    have hA : tickA C.to = (C.to, false) := by unfold tickA; rw [show C.to.loaded = C.loaded from rfl, to_none hn]
    rw [hA]
    clear hA hn
    rw [e] at c10
    clear e
    go_enter Try.func34, Try.ntmps34
    go_wp2_with fail
    go_ret
    exact ⟨rfl, stp_same H.out⟩
  · have hd := H.out.dom hP
    have hl2 : (C.loaded == -1) = false := by simp; omega
    have hlt := H.out.lt
    have b5 : w.cell? ⟨p, 7, none⟩ = some (.int .u32 (C.bank 5)) := H.out.bank (k := 5) (by omega)
    have hf := H.out.frozen
    have hA : tickA C.to = if C.bank 3 = 0 ∨ C.bank 3 ≠ (C.bank 5 + 1) % 4294967296 then (tick1 C.to (C.one C.loaded P), false) else ((injectA (tick1 C.to (C.one C.loaded P)) C.loaded 27 10 false).1, decide ((injectA (tick1 C.to (C.one C.loaded P)) C.loaded 27 10 false).2 = 0)) := by
      unfold tickA
      rw [show C.to.loaded = C.loaded from rfl, to_some hP]
      have e : (C.one C.loaded P).sys = C.bank := by simp only [Pc.one, if_true]
      simp only [e]
    rw [hA]
    clear hA
    have HT : Hid (Pc.to { C with bank := updS C.bank 5 ((C.bank 5 + 1) % 4294967296) } = tick1 C.to (C.one C.loaded P)) := Lib.hid (by
      rw [to_bank hP]
      unfold tick1
      have e : (C.one C.loaded P).sys = C.bank := by simp only [Pc.one, if_true]
      rw [e]; rfl)
    obtain ⟨A1, hA1⟩ : ∃ A1, tick1 C.to (C.one C.loaded P) = A1 := ⟨_, rfl⟩
    rw [hA1] at HT ⊢
    clear hA1
    have HX : Hid (VcOk ((w.setCell ⟨p, 7, none⟩ (.int .u32 ((C.bank 5 + 1) % 4294967296))).drew) o p { C with bank := updS C.bank 5 ((C.bank 5 + 1) % 4294967296) } ∧ Upd (Ow o) w ((w.setCell ⟨p, 7, none⟩ (.int .u32 ((C.bank 5 + 1) % 4294967296))).drew)) := Lib.hid ⟨(H.out.sbk hP (k := 5) (by omega) _).drew, ((Upd.refl _ _).setCell (Or.inl H.out.owp) _).drew⟩
    by_cases h0 : C.bank 3 = 0
    · rw [if_pos (Or.inl h0)]
      go_enter Try.func34, Try.ntmps34
      go_wp2_with fail
      go_region
      generalize (w.setCell ⟨p, 7, none⟩ (.int .u32 ((C.bank 5 + 1) % 4294967296))).drew = w1 at HX ⊢
      clear b5 c10 hf
      obtain ⟨x, hx⟩ : ∃ x, (C.bank 5 + 1) % 4294967296 = x := ⟨_, rfl⟩
      rw [hx] at HX HT ⊢
      obtain ⟨C1, hC1⟩ : ∃ C1, C1 = { C with bank := updS C.bank 5 x } := ⟨_, rfl⟩
      have e3 : C1.bank 3 = C.bank 3 := by rw [hC1]; rfl
      have e5 : C1.bank 5 = x := by rw [hC1]; rfl
      have el : C1.loaded = C.loaded := by rw [hC1]
      rw [← hC1] at HX HT
      have b3 : w1.cell? ⟨p, 5, none⟩ = some (.int .u32 (C1.bank 3)) := HX.out.1.bank (k := 3) (by omega)
      have b5 : w1.cell? ⟨p, 7, none⟩ = some (.int .u32 (C1.bank 5)) := HX.out.1.bank (k := 5) (by omega)
      have c10 := HX.out.1.loaded
      rw [e3] at b3; rw [e5] at b5; rw [el] at c10
      rw [h0] at b3
      clear hC1 e3 e5 hx el
      go_wp2_with fail
      go_ret
      exact ⟨rfl, o, C1, HX.out.1, HT.out, Ext.refl _ _, HX.out.2⟩
    · have H0 := Lib.hid h0
      by_cases h1 : C.bank 3 = (C.bank 5 + 1) % 4294967296
      · rw [if_neg (by omega)]
        have H1 := Lib.hid h1
        clear h0 h1
        obtain ⟨r, hr⟩ : ∃ r, (injectA A1 C.loaded 27 10 false).2 = r := ⟨_, rfl⟩
        rw [hr]
        have HRR := Lib.hid hr
        clear hr
        by_cases hr : r = 0
        · subst hr
          go_enter Try.func34, Try.ntmps34
          go_wp2_with fail
          go_region
          generalize (w.setCell ⟨p, 7, none⟩ (.int .u32 ((C.bank 5 + 1) % 4294967296))).drew = w1 at HX ⊢
          clear b5 c10 hf
          obtain ⟨x, hx⟩ : ∃ x, (C.bank 5 + 1) % 4294967296 = x := ⟨_, rfl⟩
          rw [hx] at HX HT ⊢
          obtain ⟨C1, hC1⟩ : ∃ C1, C1 = { C with bank := updS C.bank 5 x } := ⟨_, rfl⟩
          have e3 : C1.bank 3 = C.bank 3 := by rw [hC1]; rfl
          have e5 : C1.bank 5 = x := by rw [hC1]; rfl
          have el : C1.loaded = C.loaded := by rw [hC1]
          rw [← hC1] at HX HT
          have b3 : w1.cell? ⟨p, 5, none⟩ = some (.int .u32 (C1.bank 3)) := HX.out.1.bank (k := 3) (by omega)
          have b5 : w1.cell? ⟨p, 7, none⟩ = some (.int .u32 (C1.bank 5)) := HX.out.1.bank (k := 5) (by omega)
          have c10 := HX.out.1.loaded
          rw [e3] at b3; rw [e5] at b5; rw [el] at c10
          rw [H1.out, hx] at b3; have hx0 : (x == 0) = false := by have := H0.out; rw [H1.out, hx] at this; simpa using this
          clear hC1 e3 e5 hx el
          go_wp2_with fail
          refine (cinject_any p o C1 C.loaded 27 10 false (i64_of (by omega)) _ HX.out.1).mono ?_
          rw [HT.out, HRR.out]
          rintro e w2 ⟨rfl, o2, C2, h2, e2, x2, u2⟩
          have HF : Hid (Stp w w2 o p (injectA A1 C.loaded 27 10 false).1) := Lib.hid ⟨o2, C2, h2, e2, fun b hb => x2 b (Nat.lt_of_lt_of_le hb HX.out.2.size), HX.out.2.trans u2⟩
          clear h2 e2 x2 u2
          go_wp2_with fail
          go_ret
          exact ⟨rfl, HF.out⟩
        · rw [show decide (r = 0) = false by simpa using hr]
          have hr2 : (r == 0) = false := by simpa using hr
          clear hr
          go_enter Try.func34, Try.ntmps34
          go_wp2_with fail
          go_region
          generalize (w.setCell ⟨p, 7, none⟩ (.int .u32 ((C.bank 5 + 1) % 4294967296))).drew = w1 at HX ⊢
          clear b5 c10 hf
          obtain ⟨x, hx⟩ : ∃ x, (C.bank 5 + 1) % 4294967296 = x := ⟨_, rfl⟩
          rw [hx] at HX HT ⊢
          obtain ⟨C1, hC1⟩ : ∃ C1, C1 = { C with bank := updS C.bank 5 x } := ⟨_, rfl⟩
          have e3 : C1.bank 3 = C.bank 3 := by rw [hC1]; rfl
          have e5 : C1.bank 5 = x := by rw [hC1]; rfl
          have el : C1.loaded = C.loaded := by rw [hC1]
          rw [← hC1] at HX HT
          have b3 : w1.cell? ⟨p, 5, none⟩ = some (.int .u32 (C1.bank 3)) := HX.out.1.bank (k := 3) (by omega)
          have b5 : w1.cell? ⟨p, 7, none⟩ = some (.int .u32 (C1.bank 5)) := HX.out.1.bank (k := 5) (by omega)
          have c10 := HX.out.1.loaded
          rw [e3] at b3; rw [e5] at b5; rw [el] at c10
          rw [H1.out, hx] at b3; have hx0 : (x == 0) = false := by have := H0.out; rw [H1.out, hx] at this; simpa using this
          clear hC1 e3 e5 hx el
          go_wp2_with fail
          refine (cinject_any p o C1 C.loaded 27 10 false (i64_of (by omega)) _ HX.out.1).mono ?_
          rw [HT.out, HRR.out]
          rintro e w2 ⟨rfl, o2, C2, h2, e2, x2, u2⟩
          have HF : Hid (Stp w w2 o p (injectA A1 C.loaded 27 10 false).1) := Lib.hid ⟨o2, C2, h2, e2, fun b hb => x2 b (Nat.lt_of_lt_of_le hb HX.out.2.size), HX.out.2.trans u2⟩
          clear h2 e2 x2 u2
          go_wp2_with fail
          go_ret
          exact ⟨rfl, HF.out⟩
      · rw [if_pos (Or.inr h1)]
        have H1 := Lib.hid h1
        clear h0 h1
        go_enter Try.func34, Try.ntmps34
        go_wp2_with fail
        go_region
        generalize (w.setCell ⟨p, 7, none⟩ (.int .u32 ((C.bank 5 + 1) % 4294967296))).drew = w1 at HX ⊢
        clear b5 c10 hf
        obtain ⟨x, hx⟩ : ∃ x, (C.bank 5 + 1) % 4294967296 = x := ⟨_, rfl⟩
        rw [hx] at HX HT ⊢
        obtain ⟨C1, hC1⟩ : ∃ C1, C1 = { C with bank := updS C.bank 5 x } := ⟨_, rfl⟩
        have e3 : C1.bank 3 = C.bank 3 := by rw [hC1]; rfl
        have e5 : C1.bank 5 = x := by rw [hC1]; rfl
        have el : C1.loaded = C.loaded := by rw [hC1]
        rw [← hC1] at HX HT
        have b3 : w1.cell? ⟨p, 5, none⟩ = some (.int .u32 (C1.bank 3)) := HX.out.1.bank (k := 3) (by omega)
        have b5 : w1.cell? ⟨p, 7, none⟩ = some (.int .u32 (C1.bank 5)) := HX.out.1.bank (k := 5) (by omega)
        have c10 := HX.out.1.loaded
        rw [e3] at b3; rw [e5] at b5; rw [el] at c10
        obtain ⟨t, ht⟩ : ∃ t, C.bank 3 = t := ⟨_, rfl⟩; have d0 : (t == 0) = false := beq_eq_false_iff_ne.2 (by rw [← ht]; exact H0.out); have d1 : (t == x) = false := beq_eq_false_iff_ne.2 (by rw [← ht, ← hx]; exact H1.out); rw [ht] at b3; clear ht
        clear hC1 e3 e5 hx el
        go_wp2_with fail
        go_ret
        exact ⟨rfl, o, C1, HX.out.1, HT.out, Ext.refl _ _, HX.out.2⟩
end Go.Proofs.Ytnebjbjdgfaooaa
