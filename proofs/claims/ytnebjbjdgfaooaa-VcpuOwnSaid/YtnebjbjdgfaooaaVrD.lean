/- The contracts of the reference's SetBank and Tick; no condition. -/
import Derived.Test.YtnebjbjdgfaooaaVrC
namespace Go.Proofs.Ytnebjbjdgfaooaa
open Go.RowKit Go.Maps
set_option maxRecDepth 100000
theorem set_self {L : List Ro} {j : Nat} {x : Ro} (h : L[j]? = some x) : L.set j x = L := by
  obtain ⟨hj, e⟩ := List.getElem?_eq_some_iff.1 h
  rw [← e]; exact List.set_getElem_self hj
set_option maxHeartbeats 8000000 in
theorem rsetbank_any (r : Nat) (o : Own) (C : Rc) (b : Nat → Int) (w : World) (h : RcOk w o r C) :
    Calls Try.prog 70 #[.pointer (some ⟨r, 0, none⟩), .agg #[.int .u32 (b 0), .int .u32 (b 1), .int .u32 (b 2), .int .u32 (b 3), .int .u32 (b 4), .int .u32 (b 5), .int .u32 (b 6), .int .u32 (b 7)]] w fun e w' => e = .returned (.int .i64 (setbankA C.to b).2) ∧ Rtp w w' o r (setbankA C.to b).1 := by
  have H := Lib.hid h; clear h

  have H1 : Hid (RcOk (w.alloc (.cells #[.int .u32 (b 0), .int .u32 (b 1), .int .u32 (b 2), .int .u32 (b 3), .int .u32 (b 4), .int .u32 (b 5), .int .u32 (b 6), .int .u32 (b 7)] 75)) o r C) := Lib.hid (H.out.alloc _)
  have HU : Hid (Upd (Ow o) w (w.alloc (.cells #[.int .u32 (b 0), .int .u32 (b 1), .int .u32 (b 2), .int .u32 (b 3), .int .u32 (b 4), .int .u32 (b 5), .int .u32 (b 6), .int .u32 (b 7)] 75))) := Lib.hid ((Upd.refl _ _).alloc _)
  have HR : Hid (RowAt (w.alloc (.cells #[.int .u32 (b 0), .int .u32 (b 1), .int .u32 (b 2), .int .u32 (b 3), .int .u32 (b 4), .int .u32 (b 5), .int .u32 (b 6), .int .u32 (b 7)] 75)) w.heap.size 75 8 (fun k => .int .u32 (b k))) := Lib.hid (row_new_of w _ 75 8 _ (by kernel_rfl))
  have hlt := H.out.lt
  have c2 := H.out.cld
  rcases H.out.who with ⟨e, hn, h0⟩ | ⟨j, x, hj, e⟩
  · have hA : setbankA C.to b = (C.to, 194) := by unfold setbankA; exact if_pos e
    rw [hA]
    clear hA h0
    have HN := Lib.hid hn
    clear hn
    rw [e] at c2 HN
    clear e
    go_enter Try.func70, Try.ntmps70
    go_wp2_with fail
    refine (rat_none r o C (-1) HN.out _ H1.out).mono ?_
    rintro e w1 ⟨rfl, hw⟩
    subst hw
    go_wp2_with fail
    go_ret
    exact ⟨rfl, o, C, H1.out, rfl, Ext.refl _ _, HU.out⟩
  · have hd := H.out.dom x (List.mem_of_getElem? hj)
    have hA : setbankA C.to b = ({ C.to with all := updQ C.to.all x.id (some { x.ax with sys := fun n => if n < 6 then b n else x.sys n }) }, 0) := by
      have hl : C.to.loaded = x.id := e.symm
      have e1 : C.to.all C.to.loaded = some x.ax := by rw [hl]; exact rto_at H.out hj
      unfold setbankA
      rw [if_neg (show ¬ C.to.loaded = -1 by rw [hl]; omega), e1]
      refine Prod.ext (Am.ext' rfl rfl ?_) rfl
      show updQ C.to.all C.to.loaded _ = updQ C.to.all x.id _
      rw [hl]; rfl
    rw [hA]
    clear hA
    have hdl : decide (x.id < 0) = false := by simp; omega
    have hdl2 : ¬ x.id < 0 := by omega
    rw [← e] at c2
    have HEQ := Lib.hid e
    clear e
    obtain ⟨q, cap, hs, hcap, hq⟩ := H.out.at_form hj
    have HS := Lib.hid hs
    have hjl : j < C.L.length := (List.getElem?_eq_some_iff.1 hj).1
    have hln := H.out.len
    have c0 := H.out.csl
    rw [hs] at c0
    have hj0 : decide ((j : Int) < 0) = false := by simp
    have hji : (j : Int) < (C.L.length : Int) := by omega
    clear hs
    go_enter Try.func70, Try.ntmps70
    go_wp2_with fail
    refine (rat_at r o C x j hj _ H1.out).mono ?_
    rintro e w1 ⟨rfl, hw⟩
    subst hw
    have HL : Hid (w.heap.size < (w.alloc (.cells #[.int .u32 (b 0), .int .u32 (b 1), .int .u32 (b 2), .int .u32 (b 3), .int .u32 (b 4), .int .u32 (b 5), .int .u32 (b 6), .int .u32 (b 7)] 75)).heap.size) := Lib.hid HR.out.lt
    generalize w.alloc (.cells #[.int .u32 (b 0), .int .u32 (b 1), .int .u32 (b 2), .int .u32 (b 3), .int .u32 (b 4), .int .u32 (b 5), .int .u32 (b 6), .int .u32 (b 7)] 75) = w1 at H1 HU HR HL ⊢
    clear c0 c2
    have c2 := H1.out.cld
    rw [← HEQ.out] at c2
    go_wp2_with fail
    go_loopw [6] (fun v6 wr => ∃ k : Nat, k ≤ 6 ∧ v6 = .int .i64 k ∧ RcOk wr o r { C with L := C.L.set j { x with sys := fun n => if n < k then b n else x.sys n } } ∧ RowAt wr w.heap.size 75 8 (fun k => .int .u32 (b k)) ∧ Upd (Ow o) w wr) (fun v6 _ => 6 - (intOf v6).toNat)
    case atStart => exact ⟨0, by omega, rfl, by rw [show ({ x with sys := fun n => if n < 0 then b n else x.sys n } : Ro) = x by simp, set_self hj]; exact H1.out, HR.out, HU.out⟩
    case round =>
      clear H1 HR HU c2
      obtain ⟨k, hk, rfl, hok, hrow, hu⟩ := hrel
      rename_i wr _
      obtain ⟨x1, hx1⟩ : ∃ x1 : Ro, x1 = { x with sys := fun n => if n < k then b n else x.sys n } := ⟨_, rfl⟩
      rw [← hx1] at hok
      have H2 := Lib.hid hok; have HR := Lib.hid hrow; have HU := Lib.hid hu; clear hok hrow hu
      have HX1 := Lib.hid hx1
      clear hx1
      have HJ : Hid (({ C with L := C.L.set j x1 } : Rc).L[j]? = some x1) := Lib.hid (List.getElem?_set_self hjl)
      have HS1 : Hid (({ C with L := C.L.set j x1 } : Rc).sl = .slice (some ⟨q, 0, none⟩) ({ C with L := C.L.set j x1 } : Rc).L.length cap) := Lib.hid (by show C.sl = .slice _ (C.L.set j x1).length cap; rw [List.length_set]; exact HS.out)
      by_cases hlt : k < 6
      · have hd6 : decide ((k : Int) < 6) = true := by simp; omega
        have hk6 : (k : Int) < 8 := by omega
        have c0 : wr.cell? ⟨r, 0, none⟩ = some (.slice (some ⟨q, 0, none⟩) C.L.length cap) := by rw [← HS.out]; exact H2.out.csl
        have c1 := H2.out.csys HS1.out HJ.out (k := k) (by omega)
        have cb := HR.out.cell k (by omega)
        have hf := H2.out.ofrozen HS1.out
        have HX : Hid (RcOk (wr.setCell ⟨q, j * 11 + 2 + k, none⟩ (.int .u32 (b k))).drew o r { C with L := C.L.set j { x with sys := fun n => if n < k + 1 then b n else x.sys n } } ∧ RowAt (wr.setCell ⟨q, j * 11 + 2 + k, none⟩ (.int .u32 (b k))).drew w.heap.size 75 8 (fun k => .int .u32 (b k)) ∧ Upd (Ow o) w (wr.setCell ⟨q, j * 11 + 2 + k, none⟩ (.int .u32 (b k))).drew) := Lib.hid (by
          obtain ⟨h1, h2⟩ := H2.out.stsys HS1.out HJ.out (k := k) (by omega) (b k)
          have hql : q < w.heap.size := H.out.lim q (by rw [hq]; simp)
          refine ⟨?_, (HR.out.other (p := ⟨q, j * 11 + 2 + k, none⟩) (by show q ≠ w.heap.size; omega) _).drew, (HU.out.trans h2).drew⟩
          have e1 : ({ x with sys := fun n => if n < k + 1 then b n else x.sys n } : Ro) = { x1 with sys := updS x1.sys k (b k) } := by
            rw [HX1.out]
            have : (fun n => if n < k + 1 then b n else x.sys n) = updS (fun n => if n < k then b n else x.sys n) k (b k) := by
              funext n
              unfold updS
              by_cases en : n = k
              · subst en; rw [if_pos (by omega), if_pos rfl]
              · rw [if_neg en]
                by_cases hn : n < k
                · rw [if_pos (by omega)]; exact (if_pos hn).symm
                · rw [if_neg (by omega)]; exact (if_neg hn).symm
            rw [this]
          rw [e1, show C.L.set j { x1 with sys := updS x1.sys k (b k) } = (C.L.set j x1).set j { x1 with sys := updS x1.sys k (b k) } from (List.set_set _).symm]
          exact h1.drew)
        go_wp2_with fail
        go_region
        go_wp2_with fail
        go_roundw
        case rel => exact ⟨k + 1, by omega, by go_num, HX.out.1, HX.out.2.1, HX.out.2.2⟩
        case measure => simp [intOf]; omega
      · obtain rfl : k = 6 := by omega
        go_wp2_with fail
        go_ret
        refine ⟨rfl, o, _, H2.out, ?_, Ext.refl _ _, HU.out⟩
        rw [rto_set (x' := x1) H.out hj (by rw [HX1.out]), HX1.out]; rfl
set_option maxHeartbeats 8000000 in
theorem rtick_any (r : Nat) (o : Own) (C : Rc) (w : World) (h : RcOk w o r C) :
    Calls Try.prog 74 #[.pointer (some ⟨r, 0, none⟩)] w fun e w' => e = .returned (.bool (tickA C.to).2) ∧ Rtp w w' o r (tickA C.to).1 := by
  have H := Lib.hid h; clear h

  have c2 := H.out.cld
  rcases H.out.who with ⟨e, hn, h0⟩ | ⟨j, x, hj, e⟩
  · have hA : tickA C.to = (C.to, false) := by unfold tickA; rw [show C.to.loaded = C.loaded from rfl, h0]
    rw [hA]
    clear hA h0
    have HN := Lib.hid hn
    clear hn
    rw [e] at c2 HN
    clear e
    go_enter Try.func74, Try.ntmps74
    go_wp2_with fail
    refine (rat_none r o C (-1) HN.out _ H.out).mono ?_
    rintro e w1 ⟨rfl, hw⟩
    subst hw
    go_wp2_with fail
    go_ret
    exact ⟨rfl, rtp_same H.out⟩
  · have hd := H.out.dom x (List.mem_of_getElem? hj)
    have hl : C.to.loaded = x.id := e.symm
    have hA : tickA C.to = if x.sys 3 = 0 ∨ x.sys 3 ≠ (x.sys 5 + 1) % 4294967296 then (tick1 C.to x.ax, false) else ((injectA (tick1 C.to x.ax) x.id 27 10 false).1, decide ((injectA (tick1 C.to x.ax) x.id 27 10 false).2 = 0)) := by
      unfold tickA
      rw [hl, rto_at H.out hj]; rfl
    rw [hA]
    clear hA
    have HT : Hid (Rc.to { C with L := C.L.set j { x with sys := updS x.sys 5 ((x.sys 5 + 1) % 4294967296) } } = tick1 C.to x.ax) := Lib.hid (by
      rw [rto_set (x' := { x with sys := updS x.sys 5 ((x.sys 5 + 1) % 4294967296) }) H.out hj rfl]
      unfold tick1
      refine Am.ext' rfl rfl ?_
      show updQ C.to.all x.id _ = updQ C.to.all C.to.loaded _
      rw [hl]; rfl)
    obtain ⟨A1, hA1⟩ : ∃ A1, tick1 C.to x.ax = A1 := ⟨_, rfl⟩
    rw [hA1] at HT ⊢
    clear hA1 hl
    have hdl : decide (x.id < 0) = false := by simp; omega
    have hdl2 : ¬ x.id < 0 := by omega
    rw [← e] at c2
    clear e
    obtain ⟨q, cap, hs, hcap, hq⟩ := H.out.at_form hj
    have HS := Lib.hid hs
    have hjl : j < C.L.length := (List.getElem?_eq_some_iff.1 hj).1
    have hln := H.out.len
    have c0 := H.out.csl
    rw [hs] at c0
    have hj0 : decide ((j : Int) < 0) = false := by simp
    have hji : (j : Int) < (C.L.length : Int) := by omega
    clear hs
    have c5 : w.cell? ⟨q, j * 11 + 7, none⟩ = some (.int .u32 (x.sys 5)) := H.out.csys HS.out hj (k := 5) (by omega)
    have hf := H.out.ofrozen HS.out
    have HX : Hid (RcOk (w.setCell ⟨q, j * 11 + 7, none⟩ (.int .u32 ((x.sys 5 + 1) % 4294967296))).drew o r { C with L := C.L.set j { x with sys := updS x.sys 5 ((x.sys 5 + 1) % 4294967296) } } ∧ Upd (Ow o) w (w.setCell ⟨q, j * 11 + 7, none⟩ (.int .u32 ((x.sys 5 + 1) % 4294967296))).drew) := Lib.hid (by
      obtain ⟨h1, h2⟩ := H.out.stsys HS.out hj (k := 5) (by omega) ((x.sys 5 + 1) % 4294967296)
      exact ⟨h1.drew, h2.drew⟩)
    by_cases h0 : x.sys 3 = 0
    · rw [if_pos (Or.inl h0)]
      go_enter Try.func74, Try.ntmps74
      go_wp2_with fail
      refine (rat_at r o C x j hj _ H.out).mono ?_
      rintro e w1 ⟨rfl, hw⟩
      subst hw
      go_wp2_with fail
      go_region
      generalize (w1.setCell ⟨q, j * 11 + 7, none⟩ (.int .u32 ((x.sys 5 + 1) % 4294967296))).drew = w2 at HX ⊢
      clear c0 c2 c5 hf H
      obtain ⟨y, hy⟩ : ∃ y, (x.sys 5 + 1) % 4294967296 = y := ⟨_, rfl⟩
      rw [hy] at HX HT ⊢
      obtain ⟨C1, hC1⟩ : ∃ C1, C1 = { C with L := C.L.set j { x with sys := updS x.sys 5 y } } := ⟨_, rfl⟩
      rw [← hC1] at HX HT
      have HJ : Hid (C1.L[j]? = some { x with sys := updS x.sys 5 y }) := Lib.hid (by rw [hC1]; exact List.getElem?_set_self hjl)
      have hl1 : C1.L.length = C.L.length := by rw [hC1]; exact List.length_set
      have HS1 : Hid (C1.sl = .slice (some ⟨q, 0, none⟩) C1.L.length cap) := Lib.hid (by rw [hl1, hC1]; exact HS.out)
      have c0 := HX.out.1.csl
      rw [HS1.out, hl1] at c0
      have c3 : w2.cell? ⟨q, j * 11 + 5, none⟩ = some (.int .u32 (x.sys 3)) := HX.out.1.csys HS1.out HJ.out (k := 3) (by omega)
      have c5 : w2.cell? ⟨q, j * 11 + 7, none⟩ = some (.int .u32 y) := HX.out.1.csys HS1.out HJ.out (k := 5) (by omega)
      have c10 : w2.cell? ⟨q, j * 11 + 10, none⟩ = some (.pointer (some ⟨x.v, 0, none⟩)) := HX.out.1.ocell HS1.out HJ.out (m := 10) (by omega) rfl
      clear hC1 hl1
      rw [h0] at c3
      clear hy
      go_wp2_with fail
      go_big_quiet (fail)
      go_wp2_with fail
      go_ret
      exact ⟨rfl, o, C1, HX.out.1.drewN _, HT.out, Ext.refl _ _, HX.out.2.drewN _⟩
    · have H0 := Lib.hid h0
      by_cases h1 : x.sys 3 = (x.sys 5 + 1) % 4294967296
      · rw [if_neg (by omega)]
        have H1 := Lib.hid h1
        clear h0 h1
        obtain ⟨rr, hr⟩ : ∃ rr, (injectA A1 x.id 27 10 false).2 = rr := ⟨_, rfl⟩
        rw [hr]
        have HRR := Lib.hid hr
        clear hr
        by_cases hr : rr = 0
        · subst hr
          go_enter Try.func74, Try.ntmps74
          go_wp2_with fail
          refine (rat_at r o C x j hj _ H.out).mono ?_
          rintro e w1 ⟨rfl, hw⟩
          subst hw
          go_wp2_with fail
          go_region
          generalize (w1.setCell ⟨q, j * 11 + 7, none⟩ (.int .u32 ((x.sys 5 + 1) % 4294967296))).drew = w2 at HX ⊢
          clear c0 c2 c5 hf H
          obtain ⟨y, hy⟩ : ∃ y, (x.sys 5 + 1) % 4294967296 = y := ⟨_, rfl⟩
          rw [hy] at HX HT ⊢
          obtain ⟨C1, hC1⟩ : ∃ C1, C1 = { C with L := C.L.set j { x with sys := updS x.sys 5 y } } := ⟨_, rfl⟩
          rw [← hC1] at HX HT
          have HJ : Hid (C1.L[j]? = some { x with sys := updS x.sys 5 y }) := Lib.hid (by rw [hC1]; exact List.getElem?_set_self hjl)
          have hl1 : C1.L.length = C.L.length := by rw [hC1]; exact List.length_set
          have HS1 : Hid (C1.sl = .slice (some ⟨q, 0, none⟩) C1.L.length cap) := Lib.hid (by rw [hl1, hC1]; exact HS.out)
          have c0 := HX.out.1.csl
          rw [HS1.out, hl1] at c0
          have c3 : w2.cell? ⟨q, j * 11 + 5, none⟩ = some (.int .u32 (x.sys 3)) := HX.out.1.csys HS1.out HJ.out (k := 3) (by omega)
          have c5 : w2.cell? ⟨q, j * 11 + 7, none⟩ = some (.int .u32 y) := HX.out.1.csys HS1.out HJ.out (k := 5) (by omega)
          have c10 : w2.cell? ⟨q, j * 11 + 10, none⟩ = some (.pointer (some ⟨x.v, 0, none⟩)) := HX.out.1.ocell HS1.out HJ.out (m := 10) (by omega) rfl
          clear hC1 hl1
          rw [H1.out, hy] at c3; have hx0 : (y == 0) = false := by have := H0.out; rw [H1.out, hy] at this; simpa using this
          clear hy
          go_wp2_with fail
          go_big_quiet (fail)
          clear c3 c5
          go_wp2_with fail
          refine (rinject_any x.v x.R 27 10 false _ ((HX.out.1.vg { x with sys := updS x.sys 5 y } (List.mem_of_getElem? HJ.out)).drewN _)).mono ?_
          rintro e w3 ⟨rfl, ⟨R', hv, ht⟩, hu⟩
          have HF : Hid (Rtp w1 w3 o r (injectA A1 x.id 27 10 false).1) := Lib.hid (by
            obtain ⟨h1, h2⟩ := (HX.out.1.drewN _).stv HJ.out hu R' hv
            refine ⟨o, _, h1, ?_, Ext.refl _ _, (HX.out.2.drewN _).trans h2⟩
            rw [rto_set (x' := { x with sys := updS x.sys 5 y, R := R' }) HX.out.1 HJ.out rfl]
            have e1 : A1.all x.id = some { x.ax with sys := updS x.sys 5 y } := by rw [← HT.out]; exact rto_at HX.out.1 HJ.out
            unfold injectA
            rw [e1, HT.out]
            show _ = { A1 with all := updQ A1.all x.id (some { x.ax with sys := updS x.sys 5 y, S := (injV x.R.to 27 10 false).1 }) }
            rw [← ht]; rfl)
          have HRE : Hid ((injV x.R.to 27 10 false).2 = 0) := Lib.hid (by
            rw [← HRR.out]
            have e1 : A1.all x.id = some { x.ax with sys := updS x.sys 5 y } := by rw [← HT.out]; exact rto_at HX.out.1 HJ.out
            unfold injectA
            rw [e1]; rfl)
          rw [HRE.out]
          clear hv hu ht
          go_wp2_with fail
          go_ret
          exact ⟨rfl, HF.out⟩
        · rw [show decide (rr = 0) = false by simpa using hr]
          have hr2 : (rr == 0) = false := by simpa using hr
          clear hr
          go_enter Try.func74, Try.ntmps74
          go_wp2_with fail
          refine (rat_at r o C x j hj _ H.out).mono ?_
          rintro e w1 ⟨rfl, hw⟩
          subst hw
          go_wp2_with fail
          go_region
          generalize (w1.setCell ⟨q, j * 11 + 7, none⟩ (.int .u32 ((x.sys 5 + 1) % 4294967296))).drew = w2 at HX ⊢
          clear c0 c2 c5 hf H
          obtain ⟨y, hy⟩ : ∃ y, (x.sys 5 + 1) % 4294967296 = y := ⟨_, rfl⟩
          rw [hy] at HX HT ⊢
          obtain ⟨C1, hC1⟩ : ∃ C1, C1 = { C with L := C.L.set j { x with sys := updS x.sys 5 y } } := ⟨_, rfl⟩
          rw [← hC1] at HX HT
          have HJ : Hid (C1.L[j]? = some { x with sys := updS x.sys 5 y }) := Lib.hid (by rw [hC1]; exact List.getElem?_set_self hjl)
          have hl1 : C1.L.length = C.L.length := by rw [hC1]; exact List.length_set
          have HS1 : Hid (C1.sl = .slice (some ⟨q, 0, none⟩) C1.L.length cap) := Lib.hid (by rw [hl1, hC1]; exact HS.out)
          have c0 := HX.out.1.csl
          rw [HS1.out, hl1] at c0
          have c3 : w2.cell? ⟨q, j * 11 + 5, none⟩ = some (.int .u32 (x.sys 3)) := HX.out.1.csys HS1.out HJ.out (k := 3) (by omega)
          have c5 : w2.cell? ⟨q, j * 11 + 7, none⟩ = some (.int .u32 y) := HX.out.1.csys HS1.out HJ.out (k := 5) (by omega)
          have c10 : w2.cell? ⟨q, j * 11 + 10, none⟩ = some (.pointer (some ⟨x.v, 0, none⟩)) := HX.out.1.ocell HS1.out HJ.out (m := 10) (by omega) rfl
          clear hC1 hl1
          rw [H1.out, hy] at c3; have hx0 : (y == 0) = false := by have := H0.out; rw [H1.out, hy] at this; simpa using this
          clear hy
          go_wp2_with fail
          go_big_quiet (fail)
          clear c3 c5
          go_wp2_with fail
          refine (rinject_any x.v x.R 27 10 false _ ((HX.out.1.vg { x with sys := updS x.sys 5 y } (List.mem_of_getElem? HJ.out)).drewN _)).mono ?_
          rintro e w3 ⟨rfl, ⟨R', hv, ht⟩, hu⟩
          have HF : Hid (Rtp w1 w3 o r (injectA A1 x.id 27 10 false).1) := Lib.hid (by
            obtain ⟨h1, h2⟩ := (HX.out.1.drewN _).stv HJ.out hu R' hv
            refine ⟨o, _, h1, ?_, Ext.refl _ _, (HX.out.2.drewN _).trans h2⟩
            rw [rto_set (x' := { x with sys := updS x.sys 5 y, R := R' }) HX.out.1 HJ.out rfl]
            have e1 : A1.all x.id = some { x.ax with sys := updS x.sys 5 y } := by rw [← HT.out]; exact rto_at HX.out.1 HJ.out
            unfold injectA
            rw [e1, HT.out]
            show _ = { A1 with all := updQ A1.all x.id (some { x.ax with sys := updS x.sys 5 y, S := (injV x.R.to 27 10 false).1 }) }
            rw [← ht]; rfl)
          have HRE : Hid ((injV x.R.to 27 10 false).2 = rr) := Lib.hid (by
            rw [← HRR.out]
            have e1 : A1.all x.id = some { x.ax with sys := updS x.sys 5 y } := by rw [← HT.out]; exact rto_at HX.out.1 HJ.out
            unfold injectA
            rw [e1]; rfl)
          rw [HRE.out]
          clear hv hu ht
          go_wp2_with fail
          go_ret
          exact ⟨rfl, HF.out⟩
      · rw [if_pos (Or.inr h1)]
        have H1 := Lib.hid h1
        clear h0 h1
        go_enter Try.func74, Try.ntmps74
        go_wp2_with fail
        refine (rat_at r o C x j hj _ H.out).mono ?_
        rintro e w1 ⟨rfl, hw⟩
        subst hw
        go_wp2_with fail
        go_region
        generalize (w1.setCell ⟨q, j * 11 + 7, none⟩ (.int .u32 ((x.sys 5 + 1) % 4294967296))).drew = w2 at HX ⊢
        clear c0 c2 c5 hf H
        obtain ⟨y, hy⟩ : ∃ y, (x.sys 5 + 1) % 4294967296 = y := ⟨_, rfl⟩
        rw [hy] at HX HT ⊢
        obtain ⟨C1, hC1⟩ : ∃ C1, C1 = { C with L := C.L.set j { x with sys := updS x.sys 5 y } } := ⟨_, rfl⟩
        rw [← hC1] at HX HT
        have HJ : Hid (C1.L[j]? = some { x with sys := updS x.sys 5 y }) := Lib.hid (by rw [hC1]; exact List.getElem?_set_self hjl)
        have hl1 : C1.L.length = C.L.length := by rw [hC1]; exact List.length_set
        have HS1 : Hid (C1.sl = .slice (some ⟨q, 0, none⟩) C1.L.length cap) := Lib.hid (by rw [hl1, hC1]; exact HS.out)
        have c0 := HX.out.1.csl
        rw [HS1.out, hl1] at c0
        have c3 : w2.cell? ⟨q, j * 11 + 5, none⟩ = some (.int .u32 (x.sys 3)) := HX.out.1.csys HS1.out HJ.out (k := 3) (by omega)
        have c5 : w2.cell? ⟨q, j * 11 + 7, none⟩ = some (.int .u32 y) := HX.out.1.csys HS1.out HJ.out (k := 5) (by omega)
        have c10 : w2.cell? ⟨q, j * 11 + 10, none⟩ = some (.pointer (some ⟨x.v, 0, none⟩)) := HX.out.1.ocell HS1.out HJ.out (m := 10) (by omega) rfl
        clear hC1 hl1
        obtain ⟨t, ht⟩ : ∃ t, x.sys 3 = t := ⟨_, rfl⟩; have d0 : (t == 0) = false := beq_eq_false_iff_ne.2 (by rw [← ht]; exact H0.out); have d1 : (t == y) = false := beq_eq_false_iff_ne.2 (by rw [← ht, ← hy]; exact H1.out); rw [ht] at c3; clear ht
        clear hy
        go_wp2_with fail
        go_big_quiet (fail)
        go_wp2_with fail
        go_ret
        exact ⟨rfl, o, C1, HX.out.1.drewN _, HT.out, Ext.refl _ _, HX.out.2.drewN _⟩
end Go.Proofs.Ytnebjbjdgfaooaa
