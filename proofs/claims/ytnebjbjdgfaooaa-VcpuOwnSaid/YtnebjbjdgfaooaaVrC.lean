/- The contracts of the reference's New, Of, Bind, Bank; no condition. -/
import Derived.Test.YtnebjbjdgfaooaaVrB
namespace Go.Proofs.Ytnebjbjdgfaooaa
open Go.RowKit Go.Maps
set_option maxRecDepth 100000
def Rc0 (L : Int) : Rc := ⟨.slice none 0 0, L, -1, []⟩
def rown0 (r : Nat) : Own := fun b => if b = r then some (-1, 0) else none
theorem rnew18_ok (L : Int) (h1 : 1 ≤ L) (h2 : L ≤ 16) (w : World) : Calls Try.prog 36 #[.int .i64 L] w fun e w' => ∃ r o C, e = .returned (.tuple #[.pointer (some ⟨r, 0, none⟩), .int .i64 0]) ∧ RcOk w' o r C ∧ C.to = A0 L ∧ (∀ b, Ow o b → w.heap.size ≤ b) ∧ Below w.heap.size w w' := by
  have d1 : decide (L < 1) = false := by simp; omega
  have d2 : decide (16 < L) = false := by simp; omega
  go_enter Try.func36, Try.ntmps36
  go_wp2_with fail
  go_ret2
  refine ⟨w.heap.size, rown0 w.heap.size, Rc0 L, rfl, ⟨row_new_of w _ 116 3 (rcell (Rc0 L)) (by kernel_rfl), World.ownsRow_nil _ _ _ _, fun x hx => (by cases hx), by simp [rown0], fun q hq => (by cases hq), fun x hx => (by cases hx), List.nodup_nil, fun x hx => (by cases hx), fun x hx => (by cases hx), fun b hb => ?_, Or.inl rfl⟩, rfl, fun b hb => ?_, (Below.refl _ _).alloc (Nat.le_refl _) _⟩
  · unfold rown0 at hb
    split at hb
    · subst_vars; simp
    · exact absurd rfl hb
  · unfold Ow rown0 at hb
    split at hb
    · omega
    · exact absurd rfl hb
theorem rnew18_err (L : Int) (h : ¬ (1 ≤ L ∧ L ≤ 16)) (w : World) : Calls Try.prog 36 #[.int .i64 L] w fun e w' => e = .returned (.tuple #[.pointer none, .int .i64 1]) ∧ w = w' := by
  by_cases h1 : L < 1
  · have d1 : decide (L < 1) = true := by simpa using h1
    go_enter Try.func36, Try.ntmps36
    go_wp2_with fail
    go_ret2
    simp
  · have d1 : decide (L < 1) = false := by simpa using h1
    have h2 : 16 < L := by omega
    have d2 : decide (16 < L) = true := by simpa using h2
    go_enter Try.func36, Try.ntmps36
    go_wp2_with fail
    go_ret2
    simp
theorem isof_none {C : Rc} {t : Int} (h : ∀ x ∈ C.L, x.th ≠ t) : IsOf C.to t (-1) := by
  refine Or.inr ⟨rfl, fun i a ha hth => ?_⟩
  exfalso
  rcases rto_cases C i with ⟨h0, _⟩ | ⟨j, x, hj, rfl⟩
  · rw [h0] at ha; cases ha
  · rcases fnd_cases C.L x.id with ⟨_, h2⟩ | ⟨k, y, hk, _, hf⟩
    · exact h2 x (List.mem_of_getElem? hj) rfl
    · have : C.to.all x.id = some y.ax := by simp [Rc.to, hf]
      rw [this] at ha; cases ha
      exact h y (List.mem_of_getElem? hk) hth
set_option maxHeartbeats 4000000 in
theorem rof_any (r : Nat) (o : Own) (C : Rc) (t : Int) (ht : 0 ≤ t) (w : World) (h : RcOk w o r C) :
    Calls Try.prog 78 #[.pointer (some ⟨r, 0, none⟩), .int .i64 t] w fun e w' => (∃ z, e = .returned (.int .i64 z) ∧ IsOf C.to t z) ∧ w' = w := by
  have H := Lib.hid h; clear h

  have d0 : decide (0 ≤ t) = true := by simpa using ht
  rcases H.out.form with ⟨hs, hl⟩ | ⟨q, cap, hs, hcap, hq⟩
  · have c0 := H.out.csl
    rw [hs] at c0
    have HLL := Lib.hid hl
    clear hs hl
    go_enter Try.func78, Try.ntmps78
    go_wp2_with fail
    go_loopw [5] (fun v5 wr => v5 = .int .i64 0 ∧ wr = w) (fun v5 _ => 0)
    case atStart => exact ⟨rfl, rfl⟩
    case round =>
      obtain ⟨rfl, rfl⟩ := hrel
      go_wp2_with fail
      go_ret
      exact ⟨⟨-1, rfl, isof_none (by rw [HLL.out]; intro x hx; cases hx)⟩, rfl⟩
  · have c0 := H.out.csl
    rw [hs] at c0
    have HS := Lib.hid hs
    clear hs
    obtain ⟨n, hn⟩ : ∃ n, C.L.length = n := ⟨_, rfl⟩
    have hln := H.out.len
    rw [hn] at c0 hcap hln
    have HNN := Lib.hid hn
    clear hn
    go_enter Try.func78, Try.ntmps78
    go_wp2_with fail
    go_loopw [5] (fun v5 wr => ∃ k : Nat, k ≤ n ∧ v5 = .int .i64 k ∧ wr = w ∧ ∀ i y, i < k → C.L[i]? = some y → y.th ≠ t) (fun v5 _ => n - (intOf v5).toNat)
    case atStart => exact ⟨0, by omega, rfl, rfl, fun i y hi => absurd hi (by omega)⟩
    case round =>
      obtain ⟨k, hk, rfl, rfl, hno⟩ := hrel
      have HNO := Lib.hid hno; clear hno
      by_cases hlt : k < n
      · obtain ⟨y, hy⟩ : ∃ y, C.L[k]? = some y := ⟨_, List.getElem?_eq_getElem (by rw [HNN.out]; exact hlt)⟩
        have c1 : wr.cell? ⟨q, k * 11, none⟩ = some (.int .i64 y.id) := H.out.ocell HS.out hy (m := 0) (by omega) rfl
        have c2 : wr.cell? ⟨q, k * 11 + 1, none⟩ = some (.int .i64 y.th) := H.out.ocell HS.out hy (m := 1) (by omega) rfl
        have hd : decide ((k : Int) < (n : Int)) = true := by simp; omega
        have hkn : (k : Int) < (n : Int) := by omega
        have HY := Lib.hid hy
        clear hy
        by_cases e : y.th = t
        · have HE := Lib.hid e
          rw [e] at c2
          clear e
          go_wp2_with fail
          go_ret
          exact ⟨⟨y.id, rfl, Or.inl ⟨_, rto_at H.out HY.out, HE.out, by omega⟩⟩, rfl⟩
        · have hne : (y.th == t) = false := by simpa using e
          have HE := Lib.hid e
          clear e
          have HN2 : Hid (∀ i z, i < k + 1 → C.L[i]? = some z → z.th ≠ t) := Lib.hid (fun i z hi hz => by
            by_cases ek : i = k
            · subst ek; rw [HY.out] at hz; cases hz; exact HE.out
            · exact HNO.out i z (by omega) hz)
          go_wp2_with fail
          go_roundw
          case rel => exact ⟨k + 1, by omega, by go_num, trivial, HN2.out⟩
          case measure => simp [intOf]; omega
      · obtain rfl : k = n := by omega
        go_wp2_with fail
        go_ret
        exact ⟨⟨-1, rfl, isof_none (fun x hx => by obtain ⟨i, hi⟩ := List.getElem?_of_mem hx; exact HNO.out i x (by rw [← HNN.out]; exact (List.getElem?_eq_some_iff.1 hi).1) hi)⟩, rfl⟩
set_option maxHeartbeats 4000000 in
theorem rbind_any (r : Nat) (o : Own) (C : Rc) (id t : Int) (tk : Bool) (htk : tk = true ↔ Taken C.to t) (w : World) (h : RcOk w o r C) :
    Calls Try.prog 66 #[.pointer (some ⟨r, 0, none⟩), .int .i64 id, .int .i64 t] w fun e w' => e = .returned (.int .i64 (bindA C.to id t tk).2) ∧ Rtp w w' o r (bindA C.to id t tk).1 := by
  have H := Lib.hid h; clear h

  have HTK := Lib.hid htk; clear htk
  rcases rto_cases C id with ⟨hA0, hn⟩ | ⟨j, x, hj, rfl⟩
  · have hA : bindA C.to id t tk = (C.to, 181) := by unfold bindA; rw [hA0]
    rw [hA]
    clear hA hA0
    go_enter Try.func66, Try.ntmps66
    go_wp2_with fail
    refine (rat_none r o C id hn _ H.out).mono ?_
    rintro e w1 ⟨rfl, hw⟩
    subst hw
    go_wp2_with fail
    refine (ris18_any t _).mono ?_
    rintro e w2 ⟨rfl, hw⟩
    subst hw
    go_wp2_with fail
    go_ret
    exact ⟨rfl, rtp_same H.out⟩
  · have hth := H.out.th x (List.mem_of_getElem? hj)
    obtain ⟨q, cap, hs, hcap, hq⟩ := H.out.at_form hj
    have HS := Lib.hid hs
    have hjl : j < C.L.length := (List.getElem?_eq_some_iff.1 hj).1
    have hln := H.out.len
    have c0 := H.out.csl
    rw [hs] at c0
    have hj0 : decide ((j : Int) < 0) = false := by simp
    have hji : (j : Int) < (C.L.length : Int) := by omega
    clear hs
    have c1 : w.cell? ⟨q, j * 11 + 1, none⟩ = some (.int .i64 x.th) := H.out.ocell HS.out hj (m := 1) (by omega) rfl
    by_cases hr : 0 ≤ t ∧ t < 1024
    · have hd : decide (0 ≤ t ∧ t < 1024) = true := by simpa using hr
      by_cases ht : x.th = -1
      · rw [ht] at c1
        cases tk with
        | true =>
          have hA : bindA C.to x.id t true = (C.to, 180) := by unfold bindA; rw [rto_at H.out hj]; show (if 0 ≤ t ∧ t < 1024 then _ else _) = _; rw [if_pos hr]; exact if_pos (Or.inr rfl)
          rw [hA]
          clear hA
          have HTT := Lib.hid (HTK.out.1 rfl)
          go_enter Try.func66, Try.ntmps66
          go_wp2_with fail
          refine (rat_at r o C x j hj _ H.out).mono ?_
          rintro e w1 ⟨rfl, hw⟩
          subst hw
          go_wp2_with fail
          refine (ris18_any t _).mono ?_
          rw [hd]
          rintro e w2 ⟨rfl, hw⟩
          subst hw
          go_wp2_with fail
          refine (rof_any r o C t hr.1 _ H.out).mono ?_
          rintro e w2 ⟨⟨z, rfl, hof⟩, hw⟩
          subst hw
          have hz : 0 ≤ z := by
            rcases hof with ⟨a, ha, _⟩ | ⟨_, hno⟩
            · rcases rto_cases C z with ⟨h0, _⟩ | ⟨k, y, hk, rfl⟩
              · rw [h0] at ha; cases ha
              · exact (H.out.dom y (List.mem_of_getElem? hk)).1
            · obtain ⟨i, a, ha, e⟩ := HTT.out
              have := hno i a ha e
              omega
          have dz : decide (0 ≤ z) = true := by simpa using hz
          clear hof
          go_wp2_with fail
          go_ret
          exact ⟨rfl, rtp_same H.out⟩
        | false =>
          have hA : bindA C.to x.id t false = ({ C.to with all := updQ C.to.all x.id (some { x.ax with th := t }) }, 0) := by
            unfold bindA; rw [rto_at H.out hj]; show (if 0 ≤ t ∧ t < 1024 then _ else _) = _; rw [if_pos hr]; exact if_neg (by rintro (h | h); exact h ht; cases h)
          rw [hA]
          clear hA
          have HTT : Hid (¬ Taken C.to t) := Lib.hid (fun h => by have := HTK.out.2 h; cases this)
          have hf := H.out.ofrozen HS.out
          go_enter Try.func66, Try.ntmps66
          go_wp2_with fail
          refine (rat_at r o C x j hj _ H.out).mono ?_
          rintro e w1 ⟨rfl, hw⟩
          subst hw
          go_wp2_with fail
          refine (ris18_any t _).mono ?_
          rw [hd]
          rintro e w2 ⟨rfl, hw⟩
          subst hw
          go_wp2_with fail
          refine (rof_any r o C t hr.1 _ H.out).mono ?_
          rintro e w2 ⟨⟨z, rfl, hof⟩, hw⟩
          subst hw
          obtain rfl : z = -1 := by
            rcases hof with ⟨a, ha, e, _⟩ | ⟨e, _⟩
            · exact absurd ⟨z, a, ha, e⟩ HTT.out
            · exact e
          clear hof
          go_wp2_with fail
          go_ret
          obtain ⟨h1, h2⟩ := H.out.sto HS.out hj (m := 1) (by omega) (u := .int .i64 t) (x' := { x with th := t }) rfl rfl rfl rfl (by show -1 ≤ t; omega)
          refine ⟨rfl, o, _, h1, ?_, Ext.refl _ _, h2⟩
          rw [rto_set (x' := { x with th := t }) H.out hj rfl]; rfl
      · have hA : bindA C.to x.id t tk = (C.to, 180) := by unfold bindA; rw [rto_at H.out hj]; show (if 0 ≤ t ∧ t < 1024 then _ else _) = _; rw [if_pos hr]; exact if_pos (Or.inl ht)
        rw [hA]
        clear hA
        have dt : decide (0 ≤ x.th) = true := by simp; omega
        go_enter Try.func66, Try.ntmps66
        go_wp2_with fail
        refine (rat_at r o C x j hj _ H.out).mono ?_
        rintro e w1 ⟨rfl, hw⟩
        subst hw
        go_wp2_with fail
        refine (ris18_any t _).mono ?_
        rw [hd]
        rintro e w2 ⟨rfl, hw⟩
        subst hw
        go_wp2_with fail
        refine (rof_any r o C t hr.1 _ H.out).mono ?_
        rintro e w2 ⟨⟨z, rfl, hof⟩, hw⟩
        subst hw
        clear hof
        go_wp2_with fail
        go_ret
        exact ⟨rfl, rtp_same H.out⟩
    · have hd : decide (0 ≤ t ∧ t < 1024) = false := by simpa using hr
      have hA : bindA C.to x.id t tk = (C.to, 1) := by unfold bindA; rw [rto_at H.out hj]; exact if_neg hr
      rw [hA]
      clear hA
      go_enter Try.func66, Try.ntmps66
      go_wp2_with fail
      refine (rat_at r o C x j hj _ H.out).mono ?_
      rintro e w1 ⟨rfl, hw⟩
      subst hw
      go_wp2_with fail
      refine (ris18_any t _).mono ?_
      rw [hd]
      rintro e w2 ⟨rfl, hw⟩
      subst hw
      go_wp2_with fail
      go_ret
      exact ⟨rfl, rtp_same H.out⟩
/-- Who is loaded: none, or one of the list. -/
theorem RcOk.who {w : World} {o : Own} {r : Nat} {C : Rc} (h : RcOk w o r C) : (C.loaded = -1 ∧ (∀ x ∈ C.L, x.id ≠ C.loaded) ∧ C.to.all C.loaded = none) ∨ ∃ (j : Nat) (x : Ro), C.L[j]? = some x ∧ x.id = C.loaded := by
  rcases h.ld with e | ⟨x, hx, e⟩
  · have hn : ∀ x ∈ C.L, x.id ≠ C.loaded := fun x hx => by have := h.dom x hx; omega
    exact Or.inl ⟨e, hn, rto_none hn⟩
  · obtain ⟨j, hj⟩ := List.getElem?_of_mem hx
    exact Or.inr ⟨j, x, hj, e⟩
theorem RcOk.orange {w : World} {o : Own} {r : Nat} {C : Rc} (h : RcOk w o r C) {q cap : Nat} (hs : C.sl = .slice (some ⟨q, 0, none⟩) C.L.length cap) {j : Nat} {x : Ro} (hj : C.L[j]? = some x) : w.rangeAt q (j * 11 + 2) [.int .u32 (x.sys 0), .int .u32 (x.sys 1), .int .u32 (x.sys 2), .int .u32 (x.sys 3), .int .u32 (x.sys 4), .int .u32 (x.sys 5), .int .u32 (x.sys 6), .int .u32 (x.sys 7)] := by
  intro k v hv
  match k, hv with
  | 0, hv => simp at hv; subst hv; exact h.csys hs hj (k := 0) (by omega)
  | 1, hv => simp at hv; subst hv; exact h.csys hs hj (k := 1) (by omega)
  | 2, hv => simp at hv; subst hv; exact h.csys hs hj (k := 2) (by omega)
  | 3, hv => simp at hv; subst hv; exact h.csys hs hj (k := 3) (by omega)
  | 4, hv => simp at hv; subst hv; exact h.csys hs hj (k := 4) (by omega)
  | 5, hv => simp at hv; subst hv; exact h.csys hs hj (k := 5) (by omega)
  | 6, hv => simp at hv; subst hv; exact h.csys hs hj (k := 6) (by omega)
  | 7, hv => simp at hv; subst hv; exact h.csys hs hj (k := 7) (by omega)
  | k + 8, hv => simp at hv
set_option maxHeartbeats 4000000 in
theorem rbank_any (r : Nat) (o : Own) (C : Rc) (w : World) (h : RcOk w o r C) :
    Calls Try.prog 77 #[.pointer (some ⟨r, 0, none⟩)] w fun e w' => e = .returned (.agg #[.int .u32 ((bankA C.to) 0), .int .u32 ((bankA C.to) 1), .int .u32 ((bankA C.to) 2), .int .u32 ((bankA C.to) 3), .int .u32 ((bankA C.to) 4), .int .u32 ((bankA C.to) 5), .int .u32 ((bankA C.to) 6), .int .u32 ((bankA C.to) 7)]) ∧ Below w.heap.size w w' := by
  have H := Lib.hid h; clear h

  have H1 : Hid (RcOk (w.alloc (.cells #[.int .u32 0, .int .u32 0, .int .u32 0, .int .u32 0, .int .u32 0, .int .u32 0, .int .u32 0, .int .u32 0] 75)) o r C) := Lib.hid (H.out.alloc _)
  have hlt := H.out.lt
  have c2 := H.out.cld
  rcases H.out.who with ⟨e, hn, h0⟩ | ⟨j, x, hj, e⟩
  · have hA : bankA C.to = fun _ => 0 := by unfold bankA; rw [show C.to.loaded = C.loaded from rfl, h0]
    rw [hA]
    clear hA h0
    have HN := Lib.hid hn
    clear hn
    rw [e] at c2 HN
    clear e
    go_enter Try.func77, Try.ntmps77
    go_wp2_with fail
    refine (rat_none r o C (-1) HN.out _ H1.out).mono ?_
    rintro e w1 ⟨rfl, hw⟩
    subst hw
    go_wp2_with fail
    exact bodyPost_ret (v := .agg #[.int .u32 0, .int .u32 0, .int .u32 0, .int .u32 0, .int .u32 0, .int .u32 0, .int .u32 0, .int .u32 0]) (by simp [results, Try.results77, go_sem]) rfl ⟨rfl, (Below.refl _ _).alloc (Nat.le_refl _) _⟩
  · have hA : bankA C.to = x.sys := by unfold bankA; rw [show C.to.loaded = C.loaded from rfl, ← e, rto_at H.out hj]; rfl
    rw [hA]
    clear hA
    have hd := H.out.dom x (List.mem_of_getElem? hj)
    have hdl : decide (x.id < 0) = false := by simp; omega
    have hdl2 : ¬ x.id < 0 := by omega
    rw [← e] at c2
    clear e
    obtain ⟨q, cap, hs, hcap, hq⟩ := H.out.at_form hj
    have HS := Lib.hid hs
    have hjl : j < C.L.length := (List.getElem?_eq_some_iff.1 hj).1
    have hln := H.out.len
    have c0 := H.out.csl
    rw [hs] at c0
    have hj0 : decide ((j : Int) < 0) = false := by simp
    have hji : (j : Int) < (C.L.length : Int) := by omega
    clear hs
    have hql : q < w.heap.size := H.out.lim q (by rw [hq]; simp)
    go_enter Try.func77, Try.ntmps77
    go_wp2_with fail
    refine (rat_at r o C x j hj _ H1.out).mono ?_
    rintro e w1 ⟨rfl, hw⟩
    subst hw
    go_wp2_with (refine wpList_load_mid rfl 75 _ rfl q (j * 11 + 2) rfl [.int .u32 (x.sys 0), .int .u32 (x.sys 1), .int .u32 (x.sys 2), .int .u32 (x.sys 3), .int .u32 (x.sys 4), .int .u32 (x.sys 5), .int .u32 (x.sys 6), .int .u32 (x.sys 7)] _ (H1.out.orange HS.out hj) Try.underlying75 rfl info75 ?_)
    exact bodyPost_ret (v := .agg #[.int .u32 (x.sys 0), .int .u32 (x.sys 1), .int .u32 (x.sys 2), .int .u32 (x.sys 3), .int .u32 (x.sys 4), .int .u32 (x.sys 5), .int .u32 (x.sys 6), .int .u32 (x.sys 7)]) (by simp [results, Try.results77, go_sem]) rfl ⟨rfl, (Below.refl _ _).alloc (Nat.le_refl _) _⟩
end Go.Proofs.Ytnebjbjdgfaooaa
