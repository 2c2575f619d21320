/- The contract of the reference's Drop; no condition. -/
import Derived.Test.YtnebjbjdgfaooaaVrE
namespace Go.Proofs.Ytnebjbjdgfaooaa
open Go.RowKit Go.Maps
set_option maxRecDepth 100000
section
variable {P : Program} {w : World} {ops : Array Oper} {o : Oper} {a : Act} {K : Act → World → Prop} {Q : Exit → Act → World → Prop} {E : Prop}
/-- append at a step of a region that draws, of whatever many elements. -/
theorem step_append_at (hgd : o.guard = none) (s x : Operand) (t : TypeId) (ho : o.op = .call { callee := .builtin .append, args := #[s, x], argTypes := #[t, t] })
    (base : Nat) (e : TypeId) (i : TypeInfo) (z : Value) (size bytes : Nat) (ht : P.underlying t = some (.slice e)) (hi : P.info? e = some i) (hz : i.zero = some z) (hsize : i.size = size) (hby : i.bytes = bytes) (hzs : z.cells.size = size) (hsz : 0 < size)
    (v : Value) (n : Nat) (xs : List Value) (hs : a.eval s = v) (hown : w.ownsRow base e size v n xs)
    (ad : Addr) (m c : Nat) (news : List Value) (hx : a.eval x = .slice (some ad) m c) (hl : news.length = m * size) (hnews : ∀ j u, news[j]? = some u → w.cell? (ad.add j) = some u) (h1 : ∀ u ∈ news, u.oneCell' = true)
    (h63 : n + m ≤ maxLen) (hbytes : (n + m) * bytes ≤ 140737488355328) (hbase : base ≤ w.heap.size) (hvn : v ≠ .slice none 0 0) (N : Nat) (hN : n + m = N)
    (h : ∀ g cap w', w'.ownsRow base e size (.slice (some ⟨g, 0, none⟩) N cap) N (xs ++ news) → w.grownBy w' v.ownBlock → (some g = v.ownBlock ∨ g = w.heap.size) → K (a.put o.dst (.slice (some ⟨g, 0, none⟩) N cap)) w') :
    if Region.wanted o (yielded ops a.tmps) = true then Oper.wp P o a w K Q else E := by
  have hw : Region.wanted o (yielded ops a.tmps) = true := by simp [Region.wanted, hgd]
  rw [if_pos hw]
  obtain ⟨v', w', hr, h2, h3, h4, h5⟩ := run_append_own_at (P := P) w base t o.type e i z size bytes ht hi hz hsize hby hzs hsz v n xs hown ad m c news hl hnews h1 h63 hbytes hbase
  unfold Oper.wp execOp
  simp only [ho, resolve, invoke, builtin, Sem.run_bind, Sem.run_pure, Result.andThen_ok, List.map_toArray, List.map_cons, List.map_nil, hs, hx, hr]
  subst hN
  rcases h2.2 with ⟨e0, _⟩ | ⟨g, cap, cur, rfl, _⟩
  · exact absurd (h4.1 e0).1 hvn
  · exact h g cap w' h2 h3 (h5.imp id (fun e => Option.some.inj e))
end
theorem cellsR_one (L : List Ro) : ∀ u ∈ cellsR L, u.oneCell' = true := by
  intro u hu
  simp only [cellsR, List.mem_flatMap] at hu
  obtain ⟨x, _, hu⟩ := hu
  simp only [cellsO, List.mem_cons, List.not_mem_nil, or_false] at hu
  rcases hu with rfl | rfl | rfl | rfl | rfl | rfl | rfl | rfl | rfl | rfl | rfl <;> rfl
/-- One goes. -/
theorem RcOk.cut {w w' : World} {o : Own} {r : Nat} {C : Rc} (h : RcOk w o r C) {j : Nat} {x : Ro} (hj : C.L[j]? = some x) (hl : C.loaded ≠ x.id) (u : Upd (fun b => b = r) w w') (g cap : Nat)
    (hown : w'.ownsRow 0 118 11 (.slice (some ⟨g, 0, none⟩) (C.L.length - 1) cap) (C.L.length - 1) (cellsR (C.L.take j ++ C.L.drop (j + 1)))) (hg : w.heap.size ≤ g)
    (hrow : RowAt w' r 116 3 (rcell { C with sl := .slice (some ⟨g, 0, none⟩) (C.L.length - 1) cap })) :
    Rtp w w' o r { C.to with all := updQ C.to.all x.id none } := by
  have hg2 : g < w'.heap.size := (hown.lt g rfl).2
  have hjl : j < C.L.length := (List.getElem?_eq_some_iff.1 hj).1
  have hext : Ext w o (fun b => if b = g then some (-1, 1) else o b) := by
    intro b hb
    show (if b = g then some (-1, 1) else o b) = o b
    rw [if_neg (by omega)]
  have hold : ∀ b s, o b = some s → (fun b => if b = g then some ((-1, 1) : Int × Nat) else o b) b = some s := fun b s hb => by rw [hext b (h.lim b (by simp [hb]))]; exact hb
  have hm : ∀ y ∈ C.L.take j ++ C.L.drop (j + 1), y ∈ C.L := fun y hy => by
    rcases List.mem_append.1 hy with hy | hy
    · exact List.mem_of_mem_take hy
    · exact List.mem_of_mem_drop hy
  have hlen : (C.L.take j ++ C.L.drop (j + 1)).length = C.L.length - 1 := by rw [List.length_append, List.length_take, List.length_drop]; omega
  refine ⟨_, { C with sl := .slice (some ⟨g, 0, none⟩) (C.L.length - 1) cap, L := C.L.take j ++ C.L.drop (j + 1) }, ⟨hrow, ?_, fun y hy => ?_, hold _ _ h.or, fun q hq => ?_, fun y hy => hold _ _ (h.ov y (hm y hy)), (nd_cut h.nd hj).1, fun y hy => h.dom y (hm y hy), fun y hy => h.th y (hm y hy), fun b hb => ?_, ?_⟩, ?_, hext, u.mono (fun k hk => by subst hk; simp [Ow, h.or])⟩
  · show w'.ownsRow 0 118 11 (.slice (some ⟨g, 0, none⟩) (C.L.length - 1) cap) (C.L.take j ++ C.L.drop (j + 1)).length (cellsR (C.L.take j ++ C.L.drop (j + 1)))
    rw [hlen]; exact hown
  · exact (h.vg y (hm y hy)).kept u (own_ne (h.ov y (hm y hy)) h.or (by have := h.dom y (hm y hy); intro e; simp only [Prod.mk.injEq] at e; omega))
  · simp only [Value.ownBlock, Option.some.injEq] at hq
    subst hq
    exact if_pos rfl
  · have := u.size
    by_cases e : b = g
    · subst e; exact hg2
    · have hb' : o b ≠ none := by
        have h1 : (if b = g then some ((-1, 1) : Int × Nat) else o b) ≠ none := hb
        rwa [if_neg e] at h1
      exact Nat.lt_of_lt_of_le (h.lim b hb') u.size
  · rcases h.ld with e | ⟨y, hy, e⟩
    · exact Or.inl e
    · right
      refine ⟨y, ?_, e⟩
      have e1 := cut_of hj
      rw [e1] at hy
      rcases List.mem_append.1 hy with hy | hy
      · exact List.mem_append_left _ hy
      · rcases List.mem_cons.1 hy with rfl | hy
        · exact absurd e.symm hl
        · exact List.mem_append_right _ hy
  · refine Am.ext' rfl rfl ?_
    funext i
    show (fnd (C.L.take j ++ C.L.drop (j + 1)) i).map Ro.ax = updQ C.to.all x.id none i
    rw [fnd_cut h.nd hj]
    by_cases e : i = x.id
    · rw [if_pos e, e, updQ_same]; rfl
    · rw [if_neg e, updQ_other _ _ e]; rfl
set_option maxHeartbeats 8000000 in
theorem rdrop_any (r : Nat) (o : Own) (C : Rc) (id : Int) (w : World) (h : RcOk w o r C) :
    Calls Try.prog 65 #[.pointer (some ⟨r, 0, none⟩), .int .i64 id] w fun e w' => e = .returned (.int .i64 (dropA C.to id).2) ∧ Rtp w w' o r (dropA C.to id).1 := by
  have H := Lib.hid h; clear h

  rcases rto_cases C id with ⟨hA0, hn⟩ | ⟨j, x, hj, rfl⟩
  · have hA : dropA C.to id = (C.to, 181) := by unfold dropA; rw [hA0]
    rw [hA]
    clear hA hA0
    go_enter Try.func65, Try.ntmps65
    go_wp2_with fail
    refine (rat_none r o C id hn _ H.out).mono ?_
    rintro e w1 ⟨rfl, hw⟩
    subst hw
    go_wp2_with fail
    go_ret
    exact ⟨rfl, rtp_same H.out⟩
  · have hA : dropA C.to x.id = ({ C.to with loaded := if C.loaded = x.id then -1 else C.loaded, all := updQ C.to.all x.id none }, 0) := by unfold dropA; rw [rto_at H.out hj]; rfl
    rw [hA]
    clear hA
    have c2 := H.out.cld
    have hj0 : decide ((j : Int) < 0) = false := by simp
    have hf := H.out.frozen
    have hjl : j < C.L.length := (List.getElem?_eq_some_iff.1 hj).1
    by_cases hl : C.loaded = x.id
    · rw [if_pos hl]
      rw [hl] at c2
      have hd := H.out.dom x (List.mem_of_getElem? hj)
      obtain ⟨h1, h2⟩ := H.out.stl (-1) (Or.inl rfl)
      have HC : Hid (RcOk (w.setCell ⟨r, 2, none⟩ (.int .i64 (-1))) o r { C with loaded := -1 }) := Lib.hid h1
      have HU : Hid (Upd (Ow o) w (w.setCell ⟨r, 2, none⟩ (.int .i64 (-1)))) := Lib.hid h2
      clear h1 h2
      obtain ⟨q, cap, hs, hcap, hq⟩ := H.out.at_form hj
      have hji : (j : Int) ≤ (cap : Int) := by omega
      have hj1 : (j : Int) + 1 ≤ (C.L.length : Int) := by omega
      have hj2 : (j : Int) + 1 ≤ (cap : Int) := by omega
      have hln := H.out.len
      have HS := Lib.hid hs
      have HLD := Lib.hid hl
      clear hs hl
      go_enter Try.func65, Try.ntmps65
      go_wp2_with fail
      refine (rat_at r o C x j hj _ H.out).mono ?_
      rintro e w0 ⟨rfl, hw⟩
      subst hw
      go_wp2_with fail
      generalize w0.setCell ⟨r, 2, none⟩ (.int .i64 (-1)) = w1 at HC HU ⊢
      clear c2 hf
      have c0 : w1.cell? ⟨r, 0, none⟩ = some (.slice (some ⟨q, 0, none⟩) C.L.length cap) := by rw [← HS.out]; exact HC.out.csl
      obtain ⟨i0, hi0, hz0, hz1, hz2⟩ := info_parts info118
      have hlt := HC.out.lt
      have hf := HC.out.frozen
      have hwr : IntKind.i64.wrap ((j : Int) + 1) = (j : Int) + 1 := by rw [IntKind.wrap_i64]; omega
      have HW : Hid (((w1.alloc (.cells #[] 118)).drew).ownsRow 0 118 11 (.slice (some ⟨w1.heap.size, 0, none⟩) 0 0) 0 [] ∧ (∀ m u, (cellsR (C.L.take j))[m]? = some u → ((w1.alloc (.cells #[] 118)).drew).cell? ((⟨q, 0, none⟩ : Addr).add m) = some u) ∧ RowAt ((w1.alloc (.cells #[] 118)).drew) r 116 3 (rcell { C with loaded := -1 }) ∧ ((w1.alloc (.cells #[] 118)).drew).ownsRow 0 118 11 (.slice (some ⟨q, 0, none⟩) C.L.length cap) C.L.length (cellsR C.L)) := Lib.hid (by
        have hown := HC.out.sl
        have hown : w1.ownsRow 0 118 11 C.sl C.L.length (cellsR C.L) := hown
        rw [HS.out] at hown
        have h2 := (hown.alloc (.cells #[] 118)).drew
        refine ⟨(World.ownsRow_lit w1 #[] 0 (Nat.zero_le _) (by decide) rfl).drew, fun m u hu => ?_, (HC.out.row.alloc _).drew, h2⟩
        rw [← cellsR_take] at hu
        refine h2.cells rfl m u ?_
        rw [List.getElem?_take] at hu
        split at hu
        · exact hu
        · cases hu)
      have hone : ∀ L, ∀ u ∈ cellsR L, u.oneCell' = true := cellsR_one
      have HONE := Lib.hid hone
      clear hone
      have HL1 : Hid ((cellsR (C.L.take j)).length = j * 11) := Lib.hid (by rw [cellsR_len, List.length_take, Nat.min_eq_left (by omega)])
      have HNX : Hid (∀ w4 : World, ((w1.alloc (.cells #[] 118)).drew).grownBy w4 (some w1.heap.size) → w4.cell? ⟨r, 0, none⟩ = some (.slice (some ⟨q, 0, none⟩) C.L.length cap) ∧ (∀ k, w4.frozen? ⟨r, k, none⟩ = false) ∧ RowAt w4 r 116 3 (rcell { C with loaded := -1 }) ∧ w4.ownsRow 0 118 11 (.slice (some ⟨q, 0, none⟩) C.L.length cap) C.L.length (cellsR C.L)) := Lib.hid (fun w4 hg => by
        have hql : q < w1.heap.size := HC.out.lim q (by rw [hq]; simp)
        have hu : Upd (fun b => b = w1.heap.size) ((w1.alloc (.cells #[] 118)).drew) w4 := grown_upd hg
        have h1 := HW.out.2.2.1.kept hu (by omega)
        have h2 := h1.cell 0 (by omega)
        refine ⟨by rw [h2]; show some C.sl = _; rw [HS.out], h1.frozen, h1, own_kept HW.out.2.2.2 hu (fun k hk => by simp only [Value.ownBlock, Option.some.injEq] at hk; omega)⟩)
      obtain ⟨AD, hAD, hN2⟩ : ∃ AD : Addr, (if cap = j + 1 then some (⟨q, 0, none⟩ : Addr) else some ⟨q, (j + 1) * 11, none⟩) = some AD ∧ ∀ w' : World, w'.ownsRow 0 118 11 (.slice (some ⟨q, 0, none⟩) C.L.length cap) C.L.length (cellsR C.L) → ∀ m u, (cellsR (C.L.drop (j + 1)))[m]? = some u → w'.cell? (AD.add m) = some u := by
        by_cases hc : cap = j + 1
        · refine ⟨⟨q, 0, none⟩, by rw [if_pos hc], fun w' _ m u hu => ?_⟩
          rw [List.drop_of_length_le (by omega)] at hu
          simp [cellsR] at hu
        · refine ⟨⟨q, (j + 1) * 11, none⟩, by rw [if_neg hc], fun w' ho m u hu => ?_⟩
          have hadd : (⟨q, (j + 1) * 11, none⟩ : Addr).add m = ⟨q, (j + 1) * 11 + m, none⟩ := by unfold Addr.add; split <;> simp_all
          have hm : m < (cellsR (C.L.drop (j + 1))).length := (List.getElem?_eq_some_iff.1 hu).1
          rw [cellsR_len, List.length_drop] at hm
          rw [hadd, ho.cellAt _ (by omega)]
          rw [← cellsR_drop, List.getElem?_drop] at hu
          exact hu
      have HN2 := Lib.hid hN2
      clear hN2
      have HL2 : Hid ((cellsR (C.L.drop (j + 1))).length = (C.L.length - (j + 1)) * 11) := Lib.hid (by rw [cellsR_len, List.length_drop])
      have hj00 : (0 : Int) ≤ (j : Int) + 1 := by omega
      have hlr := HC.out.lt
      have HNY : Hid (∀ (w4 w5 : World) (g1 : Nat), RowAt w4 r 116 3 (rcell { C with loaded := -1 }) → w4.grownBy w5 (some g1) → (some g1 = some w1.heap.size ∨ g1 = ((w1.alloc (.cells #[] 118)).drew).heap.size) → RowAt w5 r 116 3 (rcell { C with loaded := -1 })) := Lib.hid (fun w4 w5 g1 h4 hg ha => by
        refine h4.kept (S := fun b => some b = some g1) ⟨hg.os, hg.tape, hg.output, hg.size, fun k hk hn => hg.block k hk hn⟩ (fun e => ?_)
        have e0 := Option.some.inj e
        rcases ha with ha | ha
        · have := Option.some.inj ha; omega
        · have : ((w1.alloc (.cells #[] 118)).drew).heap.size = w1.heap.size + 1 := by simp
          omega)
      go_wp2_with fail
      go_region_law (first | (refine step_append_at (by rfl) (.tmp 21) (.tmp 27) 114 (by rfl) 0 118 i0 _ 11 56 Try.underlying114 hi0 hz0 hz1 hz2 rfl (by decide) (.slice (some ⟨w1.heap.size, 0, none⟩) 0 0) 0 [] (by rfl) HW.out.1 ⟨q, 0, none⟩ j cap (cellsR (C.L.take j)) (by rfl) HL1.out HW.out.2.1 (HONE.out _) (by unfold maxLen; omega) (by omega) (Nat.zero_le _) (by simp) j (by omega) ?_; intro g1 cap1 w4 hown1 hg1 hat1; obtain ⟨k0, k1, hr4, ho4⟩ := HNX.out w4 hg1; have HR4 := Lib.hid hr4; have HQ4 := Lib.hid ho4; clear hr4 ho4; have HO1 := Lib.hid hown1; have HG1 := Lib.hid hg1; have HA1 := Lib.hid hat1; clear hown1 hg1 hat1) | (refine step_append_at (by rfl) (.tmp 28) (.tmp 35) 114 (by rfl) 0 118 i0 _ 11 56 Try.underlying114 hi0 hz0 hz1 hz2 rfl (by decide) (.slice (some ⟨g1, 0, none⟩) j cap1) j ([] ++ cellsR (C.L.take j)) (by rfl) HO1.out AD (C.L.length - (j + 1)) (cap - (j + 1)) (cellsR (C.L.drop (j + 1))) (by rfl) HL2.out (HN2.out _ HQ4.out) (HONE.out _) (by unfold maxLen; omega) (by omega) (Nat.zero_le _) (by simp) (C.L.length - 1) (by omega) ?_; intro g2 cap2 w5 hown2 hg2 hat2; have HR5 := Lib.hid (HNY.out w4 w5 g1 HR4.out hg2 HA1.out); have m0 := HR5.out.cell 0 (by omega); have m1 := HR5.out.frozen; have HO2 := Lib.hid hown2; have HG2 := Lib.hid hg2; have HA2 := Lib.hid hat2; clear hown2 hg2 hat2))
      all_goals
        go_wp2_with fail
        go_ret
        refine ⟨rfl, ?_⟩
        have e0 : ((w1.alloc (.cells #[] 118)).drew).heap.size = w1.heap.size + 1 := by simp
        have hg1 : w1.heap.size ≤ g1 := by
          rcases HA1.out with e | e
          · have e1 : g1 = w1.heap.size := Option.some.inj e
            omega
          · omega
        have hs4 := HG1.out.size
        have hg2 : w1.heap.size ≤ g2 := by
          rcases HA2.out with e | e
          · have e1 : g2 = g1 := Option.some.inj e
            omega
          · omega
        have hsr : Upd (fun b => b = r) w5 (w5.setCell ⟨r, 0, none⟩ (.slice (some ⟨g2, 0, none⟩) (C.L.length - 1) cap2)) := Upd.setCell (S := fun b => b = r) (Upd.refl _ _) (p := ⟨r, 0, none⟩) (Or.inl rfl) _
        have hu : Upd (fun b => b = r) w1 (w5.setCell ⟨r, 0, none⟩ (.slice (some ⟨g2, 0, none⟩) (C.L.length - 1) cap2)) :=
          ((((Upd.refl (fun b => b = r) w1).alloc (.cells #[] 118)).drew.call (grown_upd HG1.out) (fun i hi => Or.inr (by have : i = w1.heap.size := hi; omega))).call (grown_upd HG2.out) (fun i hi => Or.inr (by have : i = g1 := hi; omega))).call hsr (fun i hi => Or.inl hi)
        have hown := own_kept HO2.out hsr (fun k hk => by simp only [Value.ownBlock, Option.some.injEq] at hk; omega)
        rw [List.nil_append, ← cellsR_app] at hown
        have hfin := HC.out.cut hj (by show ¬ (-1 : Int) = x.id; omega) hu g2 cap2 hown hg2 ((HR5.out.set 0 _).congr fun k hk => by rcases (by omega : k = 0 ∨ k = 1 ∨ k = 2) with rfl | rfl | rfl <;> rfl)
        obtain ⟨o', C', g1', g2', g3, g4⟩ := hfin
        exact ⟨o', C', g1', g2', fun b hb => g3 b (Nat.lt_of_lt_of_le hb HU.out.size), HU.out.trans g4⟩
    · have hl2 : (C.loaded == x.id) = false := by simpa using hl
      rw [if_neg hl]
      have HC : Hid (RcOk w o r C) := H
      obtain ⟨q, cap, hs, hcap, hq⟩ := HC.out.at_form hj
      have c0 := HC.out.csl
      rw [hs] at c0
      have hji : (j : Int) ≤ (cap : Int) := by omega
      have hj1 : (j : Int) + 1 ≤ (C.L.length : Int) := by omega
      have hj2 : (j : Int) + 1 ≤ (cap : Int) := by omega
      have hln := HC.out.len
      have HS := Lib.hid hs
      clear hs
      go_enter Try.func65, Try.ntmps65
      go_wp2_with fail
      refine (rat_at r o C x j hj _ H.out).mono ?_
      rintro e w1 ⟨rfl, hw⟩
      subst hw
      obtain ⟨i0, hi0, hz0, hz1, hz2⟩ := info_parts info118
      have hlt := HC.out.lt
      have hf := HC.out.frozen
      have hwr : IntKind.i64.wrap ((j : Int) + 1) = (j : Int) + 1 := by rw [IntKind.wrap_i64]; omega
      have HW : Hid (((w1.alloc (.cells #[] 118)).drew).ownsRow 0 118 11 (.slice (some ⟨w1.heap.size, 0, none⟩) 0 0) 0 [] ∧ (∀ m u, (cellsR (C.L.take j))[m]? = some u → ((w1.alloc (.cells #[] 118)).drew).cell? ((⟨q, 0, none⟩ : Addr).add m) = some u) ∧ RowAt ((w1.alloc (.cells #[] 118)).drew) r 116 3 (rcell C) ∧ ((w1.alloc (.cells #[] 118)).drew).ownsRow 0 118 11 (.slice (some ⟨q, 0, none⟩) C.L.length cap) C.L.length (cellsR C.L)) := Lib.hid (by
        have hown := HC.out.sl
        rw [HS.out] at hown
        have h2 := (hown.alloc (.cells #[] 118)).drew
        refine ⟨(World.ownsRow_lit w1 #[] 0 (Nat.zero_le _) (by decide) rfl).drew, fun m u hu => ?_, (HC.out.row.alloc _).drew, h2⟩
        rw [← cellsR_take] at hu
        refine h2.cells rfl m u ?_
        rw [List.getElem?_take] at hu
        split at hu
        · exact hu
        · cases hu)
      have hone : ∀ L, ∀ u ∈ cellsR L, u.oneCell' = true := cellsR_one
      have HONE := Lib.hid hone
      clear hone
      have HL1 : Hid ((cellsR (C.L.take j)).length = j * 11) := Lib.hid (by rw [cellsR_len, List.length_take, Nat.min_eq_left (by omega)])
      have HNX : Hid (∀ w4 : World, ((w1.alloc (.cells #[] 118)).drew).grownBy w4 (some w1.heap.size) → w4.cell? ⟨r, 0, none⟩ = some (.slice (some ⟨q, 0, none⟩) C.L.length cap) ∧ (∀ k, w4.frozen? ⟨r, k, none⟩ = false) ∧ RowAt w4 r 116 3 (rcell C) ∧ w4.ownsRow 0 118 11 (.slice (some ⟨q, 0, none⟩) C.L.length cap) C.L.length (cellsR C.L)) := Lib.hid (fun w4 hg => by
        have hql : q < w1.heap.size := HC.out.lim q (by rw [hq]; simp)
        have hu : Upd (fun b => b = w1.heap.size) ((w1.alloc (.cells #[] 118)).drew) w4 := grown_upd hg
        have h1 := HW.out.2.2.1.kept hu (by omega)
        have h2 := h1.cell 0 (by omega)
        refine ⟨by rw [h2]; show some C.sl = _; rw [HS.out], h1.frozen, h1, own_kept HW.out.2.2.2 hu (fun k hk => by simp only [Value.ownBlock, Option.some.injEq] at hk; omega)⟩)
      obtain ⟨AD, hAD, hN2⟩ : ∃ AD : Addr, (if cap = j + 1 then some (⟨q, 0, none⟩ : Addr) else some ⟨q, (j + 1) * 11, none⟩) = some AD ∧ ∀ w' : World, w'.ownsRow 0 118 11 (.slice (some ⟨q, 0, none⟩) C.L.length cap) C.L.length (cellsR C.L) → ∀ m u, (cellsR (C.L.drop (j + 1)))[m]? = some u → w'.cell? (AD.add m) = some u := by
        by_cases hc : cap = j + 1
        · refine ⟨⟨q, 0, none⟩, by rw [if_pos hc], fun w' _ m u hu => ?_⟩
          rw [List.drop_of_length_le (by omega)] at hu
          simp [cellsR] at hu
        · refine ⟨⟨q, (j + 1) * 11, none⟩, by rw [if_neg hc], fun w' ho m u hu => ?_⟩
          have hadd : (⟨q, (j + 1) * 11, none⟩ : Addr).add m = ⟨q, (j + 1) * 11 + m, none⟩ := by unfold Addr.add; split <;> simp_all
          have hm : m < (cellsR (C.L.drop (j + 1))).length := (List.getElem?_eq_some_iff.1 hu).1
          rw [cellsR_len, List.length_drop] at hm
          rw [hadd, ho.cellAt _ (by omega)]
          rw [← cellsR_drop, List.getElem?_drop] at hu
          exact hu
      have HN2 := Lib.hid hN2
      clear hN2
      have HL2 : Hid ((cellsR (C.L.drop (j + 1))).length = (C.L.length - (j + 1)) * 11) := Lib.hid (by rw [cellsR_len, List.length_drop])
      have hj00 : (0 : Int) ≤ (j : Int) + 1 := by omega
      have hlr := HC.out.lt
      have HNY : Hid (∀ (w4 w5 : World) (g1 : Nat), RowAt w4 r 116 3 (rcell C) → w4.grownBy w5 (some g1) → (some g1 = some w1.heap.size ∨ g1 = ((w1.alloc (.cells #[] 118)).drew).heap.size) → RowAt w5 r 116 3 (rcell C)) := Lib.hid (fun w4 w5 g1 h4 hg ha => by
        refine h4.kept (S := fun b => some b = some g1) ⟨hg.os, hg.tape, hg.output, hg.size, fun k hk hn => hg.block k hk hn⟩ (fun e => ?_)
        have e0 := Option.some.inj e
        rcases ha with ha | ha
        · have := Option.some.inj ha; omega
        · have : ((w1.alloc (.cells #[] 118)).drew).heap.size = w1.heap.size + 1 := by simp
          omega)
      go_wp2_with fail
      go_region_law (first | (refine step_append_at (by rfl) (.tmp 21) (.tmp 27) 114 (by rfl) 0 118 i0 _ 11 56 Try.underlying114 hi0 hz0 hz1 hz2 rfl (by decide) (.slice (some ⟨w1.heap.size, 0, none⟩) 0 0) 0 [] (by rfl) HW.out.1 ⟨q, 0, none⟩ j cap (cellsR (C.L.take j)) (by rfl) HL1.out HW.out.2.1 (HONE.out _) (by unfold maxLen; omega) (by omega) (Nat.zero_le _) (by simp) j (by omega) ?_; intro g1 cap1 w4 hown1 hg1 hat1; obtain ⟨k0, k1, hr4, ho4⟩ := HNX.out w4 hg1; have HR4 := Lib.hid hr4; have HQ4 := Lib.hid ho4; clear hr4 ho4; have HO1 := Lib.hid hown1; have HG1 := Lib.hid hg1; have HA1 := Lib.hid hat1; clear hown1 hg1 hat1) | (refine step_append_at (by rfl) (.tmp 28) (.tmp 35) 114 (by rfl) 0 118 i0 _ 11 56 Try.underlying114 hi0 hz0 hz1 hz2 rfl (by decide) (.slice (some ⟨g1, 0, none⟩) j cap1) j ([] ++ cellsR (C.L.take j)) (by rfl) HO1.out AD (C.L.length - (j + 1)) (cap - (j + 1)) (cellsR (C.L.drop (j + 1))) (by rfl) HL2.out (HN2.out _ HQ4.out) (HONE.out _) (by unfold maxLen; omega) (by omega) (Nat.zero_le _) (by simp) (C.L.length - 1) (by omega) ?_; intro g2 cap2 w5 hown2 hg2 hat2; have HR5 := Lib.hid (HNY.out w4 w5 g1 HR4.out hg2 HA1.out); have m0 := HR5.out.cell 0 (by omega); have m1 := HR5.out.frozen; have HO2 := Lib.hid hown2; have HG2 := Lib.hid hg2; have HA2 := Lib.hid hat2; clear hown2 hg2 hat2))
      all_goals
        go_wp2_with fail
        go_ret
        refine ⟨rfl, ?_⟩
        have e0 : ((w1.alloc (.cells #[] 118)).drew).heap.size = w1.heap.size + 1 := by simp
        have hg1 : w1.heap.size ≤ g1 := by
          rcases HA1.out with e | e
          · have e1 : g1 = w1.heap.size := Option.some.inj e
            omega
          · omega
        have hs4 := HG1.out.size
        have hg2 : w1.heap.size ≤ g2 := by
          rcases HA2.out with e | e
          · have e1 : g2 = g1 := Option.some.inj e
            omega
          · omega
        have hsr : Upd (fun b => b = r) w5 (w5.setCell ⟨r, 0, none⟩ (.slice (some ⟨g2, 0, none⟩) (C.L.length - 1) cap2)) := Upd.setCell (S := fun b => b = r) (Upd.refl _ _) (p := ⟨r, 0, none⟩) (Or.inl rfl) _
        have hu : Upd (fun b => b = r) w1 (w5.setCell ⟨r, 0, none⟩ (.slice (some ⟨g2, 0, none⟩) (C.L.length - 1) cap2)) :=
          ((((Upd.refl (fun b => b = r) w1).alloc (.cells #[] 118)).drew.call (grown_upd HG1.out) (fun i hi => Or.inr (by have : i = w1.heap.size := hi; omega))).call (grown_upd HG2.out) (fun i hi => Or.inr (by have : i = g1 := hi; omega))).call hsr (fun i hi => Or.inl hi)
        have hown := own_kept HO2.out hsr (fun k hk => by simp only [Value.ownBlock, Option.some.injEq] at hk; omega)
        rw [List.nil_append, ← cellsR_app] at hown
        have hfin := HC.out.cut hj hl hu g2 cap2 hown hg2 ((HR5.out.set 0 _).congr fun k hk => by rcases (by omega : k = 0 ∨ k = 1 ∨ k = 2) with rfl | rfl | rfl <;> rfl)
        exact hfin
end Go.Proofs.Ytnebjbjdgfaooaa
