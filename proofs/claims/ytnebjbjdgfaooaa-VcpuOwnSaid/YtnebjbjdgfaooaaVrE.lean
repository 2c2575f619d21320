/- The contracts of the reference's Add and Drop; no condition. -/
import Derived.Test.YtnebjbjdgfaooaaVrD
import Derived.Deep.AppendLies
import Derived.Deep.RegionLaw
namespace Go.Proofs.Ytnebjbjdgfaooaa
open Go.RowKit Go.Maps
set_option maxRecDepth 100000
theorem info118 : (Try.prog.info? 118).map (fun i => (i.zero, i.size, i.bytes)) = some (some (.agg #[.int .i64 0, .int .i64 0, .int .u32 0, .int .u32 0, .int .u32 0, .int .u32 0, .int .u32 0, .int .u32 0, .int .u32 0, .int .u32 0, .pointer none]), 11, 56) := by kernel_rfl
/-- One comes to the list's end. -/
def rownN (o : Own) (g : Nat) (x : Ro) : Own := fun b => if b = g then some (-1, 1) else if b = x.v then some (x.id, 0) else o b
theorem RcOk.app {w w' : World} {o : Own} {r : Nat} {C : Rc} (h : RcOk w o r C) (x : Ro) (hx : ∀ y ∈ C.L, y.id ≠ x.id) (hd : 0 ≤ x.id ∧ x.id < 1024) (hth : -1 ≤ x.th) (u : Upd (fun b => b = r ∨ C.sl.ownBlock = some b) w w') (g cap : Nat)
    (hown : w'.ownsRow 0 118 11 (.slice (some ⟨g, 0, none⟩) (C.L.length + 1) cap) (C.L.length + 1) (cellsR C.L ++ cellsO x)) (hat : C.sl.ownBlock = some g ∨ w.heap.size ≤ g) (hv : RfAt w' x.v x.R) (hvn : w.heap.size ≤ x.v) (hvg : x.v ≠ g)
    (hrow : RowAt w' r 116 3 (rcell { C with sl := .slice (some ⟨g, 0, none⟩) (C.L.length + 1) cap })) :
    RcOk w' (rownN o g x) r { C with sl := .slice (some ⟨g, 0, none⟩) (C.L.length + 1) cap, L := C.L ++ [x] } ∧ Ext w o (rownN o g x) ∧ Upd (Ow o) w w' := by
  have hg : g < w'.heap.size := (hown.lt g rfl).2
  have hext : Ext w o (rownN o g x) := by
    intro b hb
    unfold rownN
    by_cases e : b = g
    · subst e
      rw [if_pos rfl]
      rcases hat with hat | hat
      · exact (h.os b hat).symm
      · omega
    · rw [if_neg e, if_neg (by omega)]
  have hold : ∀ b s, o b = some s → rownN o g x b = some s := fun b s hb => by rw [hext b (h.lim b (by simp [hb]))]; exact hb
  have hno : ∀ y ∈ C.L, ¬ (y.v = r ∨ C.sl.ownBlock = some y.v) := fun y hy => by
    have := h.dom y hy
    rintro (e | e)
    · exact own_ne (h.ov y hy) h.or (by intro e; simp only [Prod.mk.injEq] at e; omega) e
    · have h1 := h.os _ e
      rw [h.ov y hy] at h1
      have h2 := congrArg Prod.fst (Option.some.inj h1)
      simp only at h2
      omega
  have hlenEq : (C.L ++ [x]).length = C.L.length + 1 := by simp
  refine ⟨⟨hrow, ?_, fun y hy => ?_, hold _ _ h.or, fun q hq => ?_, fun y hy => ?_, nd_snoc h.nd hx, fun y hy => ?_, fun y hy => ?_, fun b hb => ?_, ?_⟩, hext, u.mono (fun k hk => ?_)⟩
  · show w'.ownsRow 0 118 11 (.slice (some ⟨g, 0, none⟩) (C.L.length + 1) cap) (C.L ++ [x]).length (cellsR (C.L ++ [x]))
    rw [hlenEq, cellsR_snoc]; exact hown
  · rcases List.mem_append.1 hy with hy | hy
    · exact (h.vg y hy).kept u (hno y hy)
    · simp at hy; subst hy; exact hv
  · simp only [Value.ownBlock, Option.some.injEq] at hq
    subst hq
    unfold rownN; rw [if_pos rfl]
  · rcases List.mem_append.1 hy with hy | hy
    · exact hold _ _ (h.ov y hy)
    · simp at hy; subst hy
      unfold rownN; rw [if_neg hvg, if_pos rfl]
  · rcases List.mem_append.1 hy with hy | hy
    · exact h.dom y hy
    · simp at hy; subst hy; exact hd
  · rcases List.mem_append.1 hy with hy | hy
    · exact h.th y hy
    · simp at hy; subst hy; exact hth
  · have := hv.lt
    have := u.size
    unfold rownN at hb
    split at hb
    · omega
    split at hb
    · omega
    · exact Nat.lt_of_lt_of_le (h.lim b hb) u.size
  · rcases h.ld with hl | ⟨y, hy, hl⟩
    · exact Or.inl hl
    · exact Or.inr ⟨y, List.mem_append_left _ hy, hl⟩
  · rcases hk with rfl | hk
    · simp [Ow, h.or]
    · simp [Ow, h.os k hk]
theorem rto_app {C : Rc} {x : Ro} {sl : Value} (hx : ∀ y ∈ C.L, y.id ≠ x.id) : Rc.to { C with sl := sl, L := C.L ++ [x] } = { C.to with all := updQ C.to.all x.id (some x.ax) } := by
  refine Am.ext' rfl rfl ?_
  funext i
  show (fnd (C.L ++ [x]) i).map Ro.ax = updQ C.to.all x.id (some x.ax) i
  rw [fnd_app]
  by_cases e : i = x.id
  · subst e
    rw [updQ_same, fnd_none hx]
    simp [fnd]
  · rw [updQ_other _ _ e]
    have : fnd [x] i = none := fnd_none (fun y hy => by simp at hy; subst hy; exact fun h => e h.symm)
    rw [this, Option.or_none]; rfl
set_option maxHeartbeats 8000000 in
theorem radd_any (r : Nat) (o : Own) (C : Rc) (id : Int) (hl : 1 ≤ C.lrs ∧ C.lrs ≤ 16) (w : World) (h : RcOk w o r C) :
    Calls Try.prog 63 #[.pointer (some ⟨r, 0, none⟩), .int .i64 id] w fun e w' => e = .returned (.int .i64 (addA C.to id).2) ∧ Rtp w w' o r (addA C.to id).1 := by
  have H := Lib.hid h; clear h

  by_cases hr : 0 ≤ id ∧ id < 1024
  · have hd : decide (0 ≤ id ∧ id < 1024) = true := by simpa using hr
    rcases rto_cases C id with ⟨hA0, hn⟩ | ⟨j, x, hj, rfl⟩
    · have hA : addA C.to id = ({ C.to with all := updQ C.to.all id (some (a1 id C.lrs)) }, 0) := by unfold addA; rw [if_pos hr, hA0]; rfl
      rw [hA]
      clear hA hA0
      have c1 := H.out.clrs
      obtain ⟨i, rfl⟩ := Int.eq_ofNat_of_zero_le hr.1
      have HN := Lib.hid hn
      clear hn
      go_enter Try.func63, Try.ntmps63
      go_wp2_with fail
      refine (ris18_any _ _).mono ?_
      rw [hd]
      rintro e w1 ⟨rfl, hw⟩
      subst hw
      go_wp2_with fail
      refine (rat_none r o C i HN.out _ H.out).mono ?_
      rintro e w1 ⟨rfl, hw⟩
      subst hw
      go_wp2_with fail
      refine (rnew_ok C.lrs hl.1 hl.2 _).mono ?_
      rintro e w2 ⟨v, R, rfl, hv, ht, hz, hb⟩
      have HV := Lib.hid hv
      have HB := Lib.hid hb
      have H1 := Lib.hid (H.out.below hb)
      have HT := Lib.hid ht
      have c0 := H1.out.csl
      have hlt := H1.out.lt
      have hf := H1.out.frozen
      clear hv hb ht c1
      have H3 : Hid (RcOk (w2.alloc (.cells #[.int .i64 (i : Int), .int .i64 (-1), .int .u32 0, .int .u32 0, .int .u32 0, .int .u32 0, .int .u32 0, .int .u32 0, .int .u32 (i : Int), .int .u32 0, .pointer (some ⟨v, 0, none⟩)] 118)) o r C) := Lib.hid (H1.out.alloc _)
      have HV3 : Hid (RfAt (w2.alloc (.cells #[.int .i64 (i : Int), .int .i64 (-1), .int .u32 0, .int .u32 0, .int .u32 0, .int .u32 0, .int .u32 0, .int .u32 0, .int .u32 (i : Int), .int .u32 0, .pointer (some ⟨v, 0, none⟩)] 118)) v R) := Lib.hid (HV.out.alloc _)
      have HB3 : Hid (Below w1.heap.size w1 (w2.alloc (.cells #[.int .i64 (i : Int), .int .i64 (-1), .int .u32 0, .int .u32 0, .int .u32 0, .int .u32 0, .int .u32 0, .int .u32 0, .int .u32 (i : Int), .int .u32 0, .pointer (some ⟨v, 0, none⟩)] 118))) := Lib.hid (HB.out.alloc HB.out.size _)
      have HR : Hid (RowAt (w2.alloc (.cells #[.int .i64 (i : Int), .int .i64 (-1), .int .u32 0, .int .u32 0, .int .u32 0, .int .u32 0, .int .u32 0, .int .u32 0, .int .u32 (i : Int), .int .u32 0, .pointer (some ⟨v, 0, none⟩)] 118)) w2.heap.size 118 11 (fun k => (cellsO ⟨i, -1, fun n => if n = 6 then (i : Int) else 0, v, R⟩)[k]?.getD undef)) := Lib.hid (row_new_of w2 _ 118 11 _ (by kernel_rfl))
      go_wp2_with fail
      generalize w2.alloc (.cells #[.int .i64 (i : Int), .int .i64 (-1), .int .u32 0, .int .u32 0, .int .u32 0, .int .u32 0, .int .u32 0, .int .u32 0, .int .u32 (i : Int), .int .u32 0, .pointer (some ⟨v, 0, none⟩)] 118) = w3 at H3 HV3 HB3 HR ⊢
      obtain ⟨lb, hlb⟩ : ∃ lb, w2.heap.size = lb := ⟨_, rfl⟩
      rw [hlb] at HR ⊢
      clear c0 hf hlt hlb
      have hlt := H3.out.lt
      have c0 := H3.out.csl
      have hf := H3.out.frozen
      have l0 : w3.cell? ⟨lb, 0, none⟩ = some (.int .i64 i) := HR.out.cell 0 (by omega)
      have l1 : w3.cell? ⟨lb, 1, none⟩ = some (.int .i64 (-1)) := HR.out.cell 1 (by omega)
      have l2 : w3.cell? ⟨lb, 2, none⟩ = some (.int .u32 0) := HR.out.cell 2 (by omega)
      have l3 : w3.cell? ⟨lb, 3, none⟩ = some (.int .u32 0) := HR.out.cell 3 (by omega)
      have l4 : w3.cell? ⟨lb, 4, none⟩ = some (.int .u32 0) := HR.out.cell 4 (by omega)
      have l5 : w3.cell? ⟨lb, 5, none⟩ = some (.int .u32 0) := HR.out.cell 5 (by omega)
      have l6 : w3.cell? ⟨lb, 6, none⟩ = some (.int .u32 0) := HR.out.cell 6 (by omega)
      have l7 : w3.cell? ⟨lb, 7, none⟩ = some (.int .u32 0) := HR.out.cell 7 (by omega)
      have l8 : w3.cell? ⟨lb, 8, none⟩ = some (.int .u32 i) := HR.out.cell 8 (by omega)
      have l9 : w3.cell? ⟨lb, 9, none⟩ = some (.int .u32 0) := HR.out.cell 9 (by omega)
      have l10 : w3.cell? ⟨lb, 10, none⟩ = some (.pointer (some ⟨v, 0, none⟩)) := HR.out.cell 10 (by omega)
      obtain ⟨i0, hi0, hz0, hz1, hz2⟩ := info_parts info118
      have hln := H3.out.len
      have HO := Lib.hid H3.out.sl
      have HC : Hid (∀ (x : Obj) (w4 : World), (w3.drew.alloc x).grownBy w4 C.sl.ownBlock → RowAt w4 r 116 3 (rcell C)) := Lib.hid (fun x w4 hg => by
        have hne : some r ≠ C.sl.ownBlock := fun e => by have h1 := H3.out.os r e.symm; rw [H3.out.or] at h1; cases h1
        have ha : RowAt (w3.drew.alloc x) r 116 3 (rcell C) := H3.out.row.drew.alloc x
        exact ha.kept (S := fun b => some b = C.sl.ownBlock) ⟨hg.os, hg.tape, hg.output, hg.size, fun k hk hn => hg.block k hk hn⟩ hne)
      go_region_law (refine step_append_lies _ (by rfl) (.tmp 38) (.tmp 40) 114 (by rfl) 0 118 i0 _ 11 56 Try.underlying114 hi0 hz0 hz1 hz2 rfl (by decide) C.sl C.L.length (cellsR C.L) (by rfl) (HO.out.drew.alloc _) ⟨w3.heap.size, 0, none⟩ 1 1 [.int .i64 (i : Int), .int .i64 (-1), .int .u32 0, .int .u32 0, .int .u32 0, .int .u32 0, .int .u32 0, .int .u32 0, .int .u32 (i : Int), .int .u32 0, .pointer (some ⟨v, 0, none⟩)] (by rfl) rfl (World.news_of_block (heap_alloc_new _ _)) (by intro u hu; simp at hu; rcases hu with rfl | rfl | rfl | rfl | rfl | rfl <;> rfl) (by decide) (by unfold maxLen; omega) (by omega) (Nat.zero_le _) _ rfl ?_; intro g cap w4 hown hgrow hat hlt4; have HRW := Lib.hid (HC.out _ w4 hgrow); have q0 := HRW.out.cell 0 (by omega); have q1 := HRW.out.frozen; have HOW := Lib.hid hown; have HG := Lib.hid hgrow; have HAT := Lib.hid hat; clear hown hgrow hat)
      all_goals
        go_wp2_with fail
        go_ret
        have hu3 : Upd (fun b => C.sl.ownBlock = some b) w3 w4 := Upd.trans ((Upd.refl _ w3).drew.alloc _) ⟨HG.out.os, HG.out.tape, HG.out.output, HG.out.size, fun k hk hn => HG.out.block k hk (fun e => hn e.symm)⟩
        have hs3 := HB3.out.size
        have hs4 := HG.out.size
        have hat : C.sl.ownBlock = some g ∨ w1.heap.size ≤ g := by
          rcases HAT.out with e | e
          · exact Or.inl e
          · right; rw [e]; simp; omega
        have hoq : ∀ q, C.sl.ownBlock = some q → q < w1.heap.size ∧ q ≠ r := fun q hq => ⟨H.out.lim q (by rw [H.out.os q hq]; simp), own_ne (H.out.os q hq) H.out.or (by simp)⟩
        have hlr := H.out.lt
        have hgr : g ≠ r := by
          rcases hat with e | e
          · exact (hoq g e).2
          · omega
        have hlv := HV3.out.lt
        have hvg : v ≠ g := by
          rcases HAT.out with e | e
          · have := (hoq g e).1; omega
          · rw [e]; simp; omega
        have hsr : Upd (fun b => b = r) w4 (w4.setCell ⟨r, 0, none⟩ (.slice (some ⟨g, 0, none⟩) (C.L.length + 1) cap)) := Upd.setCell (S := fun b => b = r) (Upd.refl _ _) (p := ⟨r, 0, none⟩) (Or.inl rfl) _
        obtain ⟨h1, h2, h3⟩ := H.out.app (w' := w4.setCell ⟨r, 0, none⟩ (.slice (some ⟨g, 0, none⟩) (C.L.length + 1) cap)) ⟨i, -1, fun n => if n = 6 then (i : Int) else 0, v, R⟩ HN.out hr (by show (-1 : Int) ≤ -1; omega)
          (((Upd.of_below HB3.out).trans (hu3.mono (fun k hk => Or.inr hk))).trans (hsr.mono (fun k hk => Or.inl hk))) g cap
          (own_kept HOW.out hsr (fun q hq => by simp only [Value.ownBlock, Option.some.injEq] at hq; subst hq; exact hgr)) hat
          ((HV3.out.kept hu3 (fun e => by have := (hoq v e).1; omega)).kept hsr (by omega)) hz hvg
          ((HRW.out.set 0 _).congr fun k hk => by rcases (by omega : k = 0 ∨ k = 1 ∨ k = 2) with rfl | rfl | rfl <;> rfl)
        refine ⟨rfl, _, _, h1, ?_, h2, h3⟩
        rw [rto_app (x := ⟨i, -1, fun n => if n = 6 then (i : Int) else 0, v, R⟩) HN.out]
        simp only [Ro.ax, HT.out]
        rfl
    · have hA : addA C.to x.id = (C.to, 130) := by unfold addA; rw [if_pos hr, rto_at H.out hj]
      rw [hA]
      clear hA
      have hj0 : decide (0 ≤ (j : Int)) = true := by simp
      go_enter Try.func63, Try.ntmps63
      go_wp2_with fail
      refine (ris18_any _ _).mono ?_
      rw [hd]
      rintro e w1 ⟨rfl, hw⟩
      subst hw
      go_wp2_with fail
      refine (rat_at r o C x j hj _ H.out).mono ?_
      rintro e w1 ⟨rfl, hw⟩
      subst hw
      go_wp2_with fail
      go_ret
      exact ⟨rfl, rtp_same H.out⟩
  · have hd : decide (0 ≤ id ∧ id < 1024) = false := by simpa using hr
    have hA : addA C.to id = (C.to, 1) := by unfold addA; exact if_neg hr
    rw [hA]
    clear hA
    have HN : Hid (∀ x ∈ C.L, x.id ≠ id) := Lib.hid (fun x hx e => hr (by rw [← e]; exact H.out.dom x hx))
    go_enter Try.func63, Try.ntmps63
    go_wp2_with fail
    refine (ris18_any _ _).mono ?_
    rw [hd]
    rintro e w1 ⟨rfl, hw⟩
    subst hw
    go_wp2_with fail
    refine (rat_none r o C id HN.out _ H.out).mono ?_
    rintro e w1 ⟨rfl, hw⟩
    subst hw
    go_wp2_with fail
    go_ret
    exact ⟨rfl, rtp_same H.out⟩
end Go.Proofs.Ytnebjbjdgfaooaa
