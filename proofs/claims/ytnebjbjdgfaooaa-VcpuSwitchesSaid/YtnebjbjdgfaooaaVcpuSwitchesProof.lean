/- Proved: how often virtual processors are exchanged is not seen (viceroylaw18.VcpuSwitches returns true for every list of acts and every list of others), with no condition. -/
import Derived.Test.YtnebjbjdgfaooaaVdT
namespace Go.Proofs.Ytnebjbjdgfaooaa
open Go.RowKit
set_option maxRecDepth 100000

open Go.Maps
theorem trio_new {w w1 w2 w3 w4 : World} {p q r : Nat} {o oq o2 : Own} {C E : Pc} {D : Rc} {A Aq B : Am} (b1 : Below w.heap.size w w1) (hC : VcOk w2 o p C) (hA : C.to = A) (hf : ∀ b, Ow o b → w1.heap.size ≤ b) (b2 : Below w1.heap.size w1 w2)
    (hE : VcOk w3 oq q E) (hEA : E.to = Aq) (he : ∀ b, Ow oq b → w2.heap.size ≤ b) (b3 : Below w2.heap.size w2 w3) (hD : RcOk w4 o2 r D) (hB : D.to = B) (hg : ∀ b, Ow o2 b → w3.heap.size ≤ b) (b4 : Below w3.heap.size w3 w4) : Trio w w4 p q r o oq o2 A Aq B := by
  have s1 := b1.size
  have s2 := b2.size
  have s3 := b3.size
  have b12 : Below w.heap.size w w2 := b1.trans (b2.mono s1)
  have b23 : Below w1.heap.size w1 w3 := b2.trans (b3.mono s2)
  exact ⟨duo_new b1 (hC.below b3) hA hf b23 hD hB hg b4, duo_new b12 hE hEA he b3 hD hB hg b4, fun b hb hq => by have := hC.lim b hb; have := he b hq; omega⟩
section
variable {w0 w : World} {p q r : Nat} {o oq o2 : Own} {A Aq B : Am}
theorem trio_add (h : Trio w0 w p q r o oq o2 A Aq B) (k : Int) (hk : i64 k) (hl : 1 ≤ A.lrs ∧ A.lrs ≤ 16) : Calls Try.prog 31 #[.pointer (some ⟨p, 0, none⟩), .int .i64 k] w fun e w' => e = .returned (.int .i64 (addA A k).2) ∧ ∃ o' o2', Trio w0 w' p q r o' oq o2' (addA A k).1 Aq B := by
  obtain ⟨C, hC, rfl⟩ := h.pr.pk
  refine (cadd_any p o C k hk hl w hC).mono ?_
  rintro e w1 ⟨he, hs⟩
  obtain ⟨o', o2', ht, _⟩ := h.go (h.pr.stepP hs)
  exact ⟨he, o', o2', ht⟩
theorem trio_enter (h : Trio w0 w p q r o oq o2 A Aq B) (k : Int) (hk : i64 k) : Calls Try.prog 32 #[.pointer (some ⟨p, 0, none⟩), .int .i64 k] w fun e w' => e = .returned (.int .i64 (enterA A k).2) ∧ ∃ o' o2', Trio w0 w' p q r o' oq o2' (enterA A k).1 Aq B ∧ ∀ b T n f, Loc w o oq o2 b T n f → Loc w' o' oq o2' b T n f := by
  obtain ⟨C, hC, rfl⟩ := h.pr.pk
  refine (center_any p o C k hk w hC).mono ?_
  rintro e w1 ⟨he, hs⟩
  exact ⟨he, h.go (h.pr.stepP hs)⟩
theorem trio_leave (h : Trio w0 w p q r o oq o2 A Aq B) : Calls Try.prog 38 #[.pointer (some ⟨p, 0, none⟩)] w fun e w' => e = .returned (.tuple #[]) ∧ ∃ o' o2', Trio w0 w' p q r o' oq o2' (leaveA A) Aq B ∧ ∀ b T n f, Loc w o oq o2 b T n f → Loc w' o' oq o2' b T n f := by
  obtain ⟨C, hC, rfl⟩ := h.pr.pk
  refine (cleave_any p o C w hC).mono ?_
  rintro e w1 ⟨he, hk, hu⟩
  exact ⟨he, h.go (h.pr.stepP ⟨o, leaveC C, hk, to_leave hC, Ext.refl _ _, hu⟩)⟩
theorem trio_does (h : Trio w0 w p q r o oq o2 A Aq B) (d id n m : Int) (bk : Nat → Int) (on tk tkr : Bool) (hid : i64 id) (hlp : 1 ≤ A.lrs ∧ A.lrs ≤ 16) (hlr : 1 ≤ B.lrs ∧ B.lrs ≤ 16) (htp : tk = true ↔ Taken A n) (htr : tkr = true ↔ Taken B n) (h12 : d ≠ 12) :
    Calls Try.prog 37 #[.pointer (some ⟨p, 0, none⟩), .pointer (some ⟨r, 0, none⟩), .agg #[.int .i64 d, .int .i64 id, .int .i64 n, .int .i64 m, .int .u32 (bk 0), .int .u32 (bk 1), .int .u32 (bk 2), .int .u32 (bk 3), .int .u32 (bk 4), .int .u32 (bk 5), .int .u32 (bk 6), .int .u32 (bk 7), .bool on]] w fun e w' => (∃ b, e = .returned (.bool b)) ∧ ∃ o' o2', Trio w0 w' p q r o' oq o2' (actS A d id n m bk on tk) Aq (actS B d id n m bk on tkr) ∧ ∀ b T n f, Loc w o oq o2 b T n f → Loc w' o' oq o2' b T n f := by
  refine (does18_any w0 p r o o2 A B d id n m bk on tk tkr hid hlp hlr htp htr (fun e => absurd e h12) w h.pr).mono ?_
  rintro e w1 ⟨⟨b, he, _⟩, g⟩
  exact ⟨⟨b, he⟩, h.go g⟩
end
theorem enter_some {A : Am} {k : Int} {a : Ax} (h : A.all k = some a) : enterA A k = ({ A with loaded := k }, 0) := by unfold enterA; rw [h]
/-- What acts 7 to 11 leave. -/
theorem act_keep (A : Am) (d id n m : Int) (bk : Nat → Int) (on tk : Bool) (hd : 7 ≤ d) : (actS A d id n m bk on tk).loaded = A.loaded ∧ ∀ i, (∃ a, A.all i = some a) → ∃ a, (actS A d id n m bk on tk).all i = some a := by
  have upd : ∀ (X : Am) (i : Int) (x : Ax), (∀ j, (∃ a, A.all j = some a) → ∃ a, X.all j = some a) → ∀ j, (∃ a, A.all j = some a) → ∃ a, (updQ X.all i (some x)) j = some a := by
    intro X i x hX j hj
    by_cases e : j = i
    · rw [e, updQ_same]; exact ⟨x, rfl⟩
    · rw [updQ_other _ _ e]; exact hX j hj
  unfold actS
  rw [if_neg (by omega), if_neg (by omega), if_neg (by omega), if_neg (by omega), if_neg (by omega), if_neg (by omega)]
  split
  · unfold setbankA
    split
    · exact ⟨rfl, fun i h => h⟩
    · split
      · exact ⟨rfl, upd A _ _ (fun _ h => h)⟩
      · exact ⟨rfl, fun i h => h⟩
  split
  · unfold writeA
    split
    · exact ⟨rfl, fun i h => h⟩
    · split
      · exact ⟨rfl, upd A _ _ (fun _ h => h)⟩
      · exact ⟨rfl, fun i h => h⟩
  split
  · unfold injectA
    split
    · exact ⟨rfl, fun i h => h⟩
    · exact ⟨rfl, upd A _ _ (fun _ h => h)⟩
  split
  · unfold tickA
    split
    · exact ⟨rfl, fun i h => h⟩
    · split
      · exact ⟨rfl, upd A _ _ (fun _ h => h)⟩
      · unfold injectA
        split
        · exact ⟨rfl, upd A _ _ (fun _ h => h)⟩
        · exact ⟨rfl, upd (tick1 A _) _ _ (upd A _ _ (fun _ h => h))⟩
  split
  · unfold ackA
    split
    · exact ⟨rfl, fun i h => h⟩
    · exact ⟨rfl, upd A _ _ (fun _ h => h)⟩
  · exact ⟨rfl, fun i h => h⟩
/-- Where there is none, nothing is done. -/
theorem act_none (d id n m : Int) (bk : Nat → Int) (on tk : Bool) (hd : 7 ≤ d) : actS (A0 2) d id n m bk on tk = A0 2 := by
  unfold actS
  rw [if_neg (by omega), if_neg (by omega), if_neg (by omega), if_neg (by omega), if_neg (by omega), if_neg (by omega)]
  split
  · rfl
  split
  · rfl
  split
  · rfl
  split
  · rfl
  split
  · rfl
  · rfl
theorem add_new {A : Am} {k : Nat} (hk : k < 1024) (hn : A.all k = none) : addA A k = ({ A with all := updQ A.all k (some (a1 k A.lrs)) }, 0) := by
  unfold addA; rw [if_pos (by omega), hn]
theorem am_load {A : Am} {x y : Int} (h : A.loaded = y) : ({ ({ A with loaded := x } : Am) with loaded := y } : Am) = A := Am.ext' rfl h.symm rfl

set_option maxHeartbeats 64000000 in
theorem walk_VcpuSwitches (a : Option Addr) (len cap : Nat) (a' : Option Addr) (len' cap' : Nat) (w : World) (hlen : len ≤ maxLen) (hacts : Acts18 w a len) (hnums : Ints w a' len') :
    Calls Try.prog 10 #[Value.slice a len cap, Value.slice a' len' cap'] w fun e w' => e = .returned (.bool true) ∧ Below w.heap.size w w' := by
  have HA := Lib.hid hacts; clear hacts
  have HNM := Lib.hid hnums; clear hnums
  unfold maxLen at hlen
  go_enter Try.func10, Try.ntmps10
  go_wp2_with fail
  refine (cawake_any _).mono ?_
  rintro e w1 ⟨rfl, hb1⟩
  have B1 := Lib.hid hb1; clear hb1
  go_wp2_with fail
  refine (cnew_ok 2 (by omega) (by omega) _).mono ?_
  rintro e w2 ⟨p, o0, C0', rfl, hok, hto, hfr, hb2⟩
  have HP := Lib.hid (And.intro hok (And.intro hto (And.intro hfr hb2)))
  clear hok hto hfr hb2
  go_wp2_with fail
  refine (cnew_ok 2 (by omega) (by omega) _).mono ?_
  rintro e w3 ⟨q, oq0, E0', rfl, hok, hto, hfr, hb2⟩
  have HQ := Lib.hid (And.intro hok (And.intro hto (And.intro hfr hb2)))
  clear hok hto hfr hb2
  go_wp2_with fail
  refine (rnew18_ok 2 (by omega) (by omega) _).mono ?_
  rintro e w4 ⟨r, q0, D0, rfl, hok, hto, hfr, hb3⟩
  have HB3 : Hid (Trio w w4 p q r o0 oq0 q0 (A0 2) (A0 2) (A0 2)) := Lib.hid (trio_new B1.out HP.out.1 HP.out.2.1 HP.out.2.2.1 HP.out.2.2.2 HQ.out.1 HQ.out.2.1 HQ.out.2.2.1 HQ.out.2.2.2 hok hto hfr hb3)
  clear hok hto hfr hb3 HP HQ
  go_wp2_with fail
  go_loopw [12, 13, 14] (fun v12 _ _ wr => ∃ (j : Nat) (A : Am) (o oq o2 : Own), j ≤ 4 ∧ v12 = .int .i64 j ∧ Trio w wr p q r o oq o2 A A (A0 2) ∧ A.lrs = 2 ∧ (∀ i : Int, 0 ≤ i ∧ i < j → ∃ a, A.all i = some a) ∧ (∀ i : Int, (j : Int) ≤ i → A.all i = none)) (fun v12 _ _ _ => 4 - (intOf v12).toNat)
  case atStart => exact ⟨0, A0 2, o0, oq0, q0, by omega, rfl, HB3.out, rfl, fun i hi => absurd hi (by omega), fun i _ => rfl⟩
  case round =>
    clear HB3
    obtain ⟨j, A, o, oq, o2, hj, rfl, htr, hl, hs, hn⟩ := hrel
    have HB := Lib.hid htr; have HS := Lib.hid hs; have HL := Lib.hid hl; have HN := Lib.hid hn; clear htr hs hl hn
    by_cases hlj : j < 4
    · have hdj : decide ((j : Int) < 4) = true := by simp; omega
      have hadd := add_new (A := A) (k := j) (by omega) (HN.out j (by omega))
      obtain ⟨A1, hA1⟩ : ∃ X, ({ A with all := updQ A.all j (some (a1 j A.lrs)) } : Am) = X := ⟨_, rfl⟩
      rw [hA1] at hadd
      have HAD := Lib.hid hadd
      have HI : Hid (A1.lrs = 2 ∧ (∀ i : Int, 0 ≤ i ∧ i < (j + 1 : Nat) → ∃ a, A1.all i = some a) ∧ (∀ i : Int, ((j + 1 : Nat) : Int) ≤ i → A1.all i = none)) := Lib.hid (by
        subst hA1
        refine ⟨HL.out, fun i hi => ?_, fun i hi => ?_⟩
        · by_cases e : i = j
          · subst e; exact ⟨_, updQ_same _ _ _⟩
          · obtain ⟨a, ha⟩ := HS.out i (by omega)
            exact ⟨a, (updQ_other _ _ e).trans ha⟩
        · exact (updQ_other _ _ (by omega)).trans (HN.out i (by omega)))
      clear hadd hA1
      go_wp2_with fail
      refine (trio_add HB.out j (i64_of (by omega)) (by rw [HL.out]; omega)).mono ?_
      rw [HAD.out]
      rintro e w5 ⟨rfl, o', o2', ht⟩
      have HT := Lib.hid ht
      clear ht HB
      go_wp2_with fail
      refine (trio_add HT.out.swap j (i64_of (by omega)) (by rw [HL.out]; omega)).mono ?_
      rw [HAD.out]
      rintro e w6 ⟨rfl, oq', o2'', ht⟩
      have HT2 := Lib.hid ht.swap
      clear ht HT
      go_wp2_with fail
      go_roundw
      case rel => exact ⟨j + 1, A1, o', oq', o2'', by omega, by go_num, HT2.out, HI.out.1, HI.out.2.1, HI.out.2.2⟩
      case measure => simp [intOf]; omega
    · obtain rfl : j = 4 := by omega
      have HE0 : Hid (enterA A 0 = ({ A with loaded := 0 }, 0)) := Lib.hid (by obtain ⟨ax, hax⟩ := HS.out 0 (by omega); exact enter_some hax)
      go_wp2_with fail
      refine (trio_enter HB.out 0 (i64_of (by omega))).mono ?_
      rw [HE0.out]
      rintro e w5 ⟨rfl, oa, oc', ht, _⟩
      have HE1 := Lib.hid ht
      clear ht HB
      go_wp2_with fail
      refine (trio_enter HE1.out.swap 0 (i64_of (by omega))).mono ?_
      rw [HE0.out]
      rintro e w6 ⟨rfl, ob, oc, ht, _⟩
      have HE2 := Lib.hid ht.swap
      have HLL : Hid (A.lrs = 2 ∧ ∀ i : Int, 0 ≤ i ∧ i < 4 → ∃ a, A.all i = some a) := Lib.hid ⟨HL.out, HS.out⟩
      clear ht HE1 HE0 HL HS HN
      go_wp2_with fail
      go_loopw [17, 18, 19] (fun v17 _ _ wr => ∃ (k : Nat) (A : Am) (o oq o2 : Own), k ≤ 80 ∧ k ≤ len ∧ v17 = .int .i64 k ∧ Trio w wr p q r o oq o2 A A (A0 2) ∧ A.loaded = 0 ∧ A.lrs = 2 ∧ ∀ i : Int, 0 ≤ i ∧ i < 4 → ∃ a, A.all i = some a) (fun v17 _ _ _ => 80 - (intOf v17).toNat)
      case atStart => exact ⟨0, _, oa, ob, oc, by omega, by omega, rfl, HE2.out, rfl, HLL.out.1, HLL.out.2⟩
      case round =>
        clear HE2 HLL
        obtain ⟨k, A, o, oq, o2, hk, hkl, rfl, htr, hl0, hl1, hl2⟩ := hrel
        have HB := Lib.hid htr; have HL := Lib.hid (And.intro hl0 (And.intro hl1 hl2)); clear htr hl0 hl1 hl2
        by_cases hlt : k < len
        · by_cases hlm : k < 80
          · rename_i wr _ _ _
            obtain ⟨b, off, d, id, n, m, bk, on, rfl, hid, d0, d1, d2, d3, d4, d12⟩ := HA.out k hlt
            have hbl : b < w.heap.size := World.block_lt_of_cell? w _ d0
            have c0 : wr.cell? ⟨b, off + k * 13, none⟩ = some (.int .i64 d) := (HB.out.pr.bel.cell (p := ⟨b, off + k * 13, none⟩) hbl).trans d0
            have c1 : wr.cell? ⟨b, off + k * 13 + 1, none⟩ = some (.int .i64 id) := (HB.out.pr.bel.cell (p := ⟨b, off + k * 13 + 1, none⟩) hbl).trans d1
            have c2 : wr.cell? ⟨b, off + k * 13 + 2, none⟩ = some (.int .i64 n) := (HB.out.pr.bel.cell (p := ⟨b, off + k * 13 + 2, none⟩) hbl).trans d2
            have c3 : wr.cell? ⟨b, off + k * 13 + 3, none⟩ = some (.int .i64 m) := (HB.out.pr.bel.cell (p := ⟨b, off + k * 13 + 3, none⟩) hbl).trans d3
            have c4 : wr.cell? ⟨b, off + k * 13 + 4, none⟩ = some (.int .u32 (bk 0)) := (HB.out.pr.bel.cell (p := ⟨b, off + k * 13 + 4, none⟩) hbl).trans (d4 0 (by omega))
            have c5 : wr.cell? ⟨b, off + k * 13 + 5, none⟩ = some (.int .u32 (bk 1)) := (HB.out.pr.bel.cell (p := ⟨b, off + k * 13 + 5, none⟩) hbl).trans (d4 1 (by omega))
            have c6 : wr.cell? ⟨b, off + k * 13 + 6, none⟩ = some (.int .u32 (bk 2)) := (HB.out.pr.bel.cell (p := ⟨b, off + k * 13 + 6, none⟩) hbl).trans (d4 2 (by omega))
            have c7 : wr.cell? ⟨b, off + k * 13 + 7, none⟩ = some (.int .u32 (bk 3)) := (HB.out.pr.bel.cell (p := ⟨b, off + k * 13 + 7, none⟩) hbl).trans (d4 3 (by omega))
            have c8 : wr.cell? ⟨b, off + k * 13 + 8, none⟩ = some (.int .u32 (bk 4)) := (HB.out.pr.bel.cell (p := ⟨b, off + k * 13 + 8, none⟩) hbl).trans (d4 4 (by omega))
            have c9 : wr.cell? ⟨b, off + k * 13 + 9, none⟩ = some (.int .u32 (bk 5)) := (HB.out.pr.bel.cell (p := ⟨b, off + k * 13 + 9, none⟩) hbl).trans (d4 5 (by omega))
            have c10 : wr.cell? ⟨b, off + k * 13 + 10, none⟩ = some (.int .u32 (bk 6)) := (HB.out.pr.bel.cell (p := ⟨b, off + k * 13 + 10, none⟩) hbl).trans (d4 6 (by omega))
            have c11 : wr.cell? ⟨b, off + k * 13 + 11, none⟩ = some (.int .u32 (bk 7)) := (HB.out.pr.bel.cell (p := ⟨b, off + k * 13 + 11, none⟩) hbl).trans (d4 7 (by omega))
            have c12 : wr.cell? ⟨b, off + k * 13 + 12, none⟩ = some (.bool on) := (HB.out.pr.bel.cell (p := ⟨b, off + k * 13 + 12, none⟩) hbl).trans d12
            clear d0 d1 d2 d3 d4 d12
            by_cases h7 : d < 7
            · have d7 : decide (d < 7) = true := by simpa using h7
              go_wp2_with fail
              go_roundw
              case rel => exact ⟨k + 1, A, o, oq, o2, by omega, by omega, by go_num, HB.out.alloc _, HL.out.1, HL.out.2.1, HL.out.2.2⟩
              case measure => simp [intOf]; omega
            by_cases h12 : d = 12
            · have d7 : decide (d < 7) = false := by simpa using h7
              subst h12
              go_wp2_with fail
              go_roundw
              case rel => exact ⟨k + 1, A, o, oq, o2, by omega, by omega, by go_num, HB.out.alloc _, HL.out.1, HL.out.2.1, HL.out.2.2⟩
              case measure => simp [intOf]; omega
            by_cases hi0 : id < 0
            · have d7 : decide (d < 7) = false := by simpa using h7
              have d12b : (d == 12) = false := by simpa using h12
              have di0 : decide (id < 0) = true := by simpa using hi0
              go_wp2_with fail
              go_roundw
              case rel => exact ⟨k + 1, A, o, oq, o2, by omega, by omega, by go_num, HB.out.alloc _, HL.out.1, HL.out.2.1, HL.out.2.2⟩
              case measure => simp [intOf]; omega
            by_cases hi3 : 3 < id
            · have d7 : decide (d < 7) = false := by simpa using h7
              have d12b : (d == 12) = false := by simpa using h12
              have di0 : decide (id < 0) = false := by simpa using hi0
              have di3 : decide (3 < id) = true := by simpa using hi3
              go_wp2_with fail
              go_roundw
              case rel => exact ⟨k + 1, A, o, oq, o2, by omega, by omega, by go_num, HB.out.alloc _, HL.out.1, HL.out.2.1, HL.out.2.2⟩
              case measure => simp [intOf]; omega
            have d7 : decide (d < 7) = false := by simpa using h7
            have d12b : (d == 12) = false := by simpa using h12
            have di0 : decide (id < 0) = false := by simpa using hi0
            have di3 : decide (3 < id) = false := by simpa using hi3
            have HID := Lib.hid hid
            have HD12 := Lib.hid h12
            obtain ⟨tk, htk⟩ := taken_bool A n
            obtain ⟨tkr, htkr⟩ := taken_bool (A0 2) n
            have HTK := Lib.hid htk; have HTR := Lib.hid htkr
            have HBN : Hid (actS (A0 2) d id n m bk on tkr = A0 2) := Lib.hid (act_none d id n m bk on tkr (by omega))
            have hkeep := act_keep A d id n m bk on tk (by omega)
            have hlr := lrs_act A d id n m bk on tk
            obtain ⟨A1, hA1⟩ : ∃ X, actS A d id n m bk on tk = X := ⟨_, rfl⟩
            rw [hA1] at hkeep hlr
            have HA1 := Lib.hid hA1
            have HK1 : Hid (A1.loaded = A.loaded ∧ A1.lrs = 2 ∧ ∀ i : Int, 0 ≤ i ∧ i < 4 → ∃ a, A1.all i = some a) := Lib.hid ⟨hkeep.1, hlr.trans HL.out.2.1, fun i hi => hkeep.2 i (HL.out.2.2 i hi)⟩
            have HT0 := Lib.hid (HB.out.alloc (.cells #[.int .i64 d, .int .i64 id, .int .i64 n, .int .i64 m, .int .u32 (bk 0), .int .u32 (bk 1), .int .u32 (bk 2), .int .u32 (bk 3), .int .u32 (bk 4), .int .u32 (bk 5), .int .u32 (bk 6), .int .u32 (bk 7), .bool on] 77))
            have HLC0 : Hid (Loc (wr.alloc (.cells #[.int .i64 d, .int .i64 id, .int .i64 n, .int .i64 m, .int .u32 (bk 0), .int .u32 (bk 1), .int .u32 (bk 2), .int .u32 (bk 3), .int .u32 (bk 4), .int .u32 (bk 5), .int .u32 (bk 6), .int .u32 (bk 7), .bool on] 77)) o oq o2 wr.heap.size 77 13 (acell18 d id n m bk on)) := Lib.hid ⟨row_new_of wr _ 77 13 _ (by kernel_rfl), fun h => by have := HB.out.pr.lim (Or.inl h); omega, fun h => by have := HB.out.qr.lim (Or.inl h); omega, fun h => by have := HB.out.pr.lim (Or.inr h); omega⟩
            clear htk htkr hkeep hlr hA1 h7 h12 hi0 hi3
            go_wp2_with fail
            have hdp := trio_does HT0.out d id n m bk on tk tkr HID.out (by rw [HL.out.2.1]; omega) (by show (1 : Int) ≤ 2 ∧ (2 : Int) ≤ 16; omega) HTK.out HTR.out HD12.out
            rw [HA1.out, HBN.out] at hdp
            refine hdp.mono ?_
            rintro e wy ⟨⟨bb1, rfl⟩, o', o2', ht, hloc⟩
            obtain ⟨lb, hlb⟩ : ∃ lb, wr.heap.size = lb := ⟨_, rfl⟩
            have HT := Lib.hid ht
            have HLOC := Lib.hid (hloc _ _ _ _ HLC0.out)
            rw [hlb] at HLOC ⊢
            clear ht hloc hdp HT0 HLC0 hlb HB c0 c1 c2 c3 c4 c5 c6 c7 c8 c9 c10 c11 c12
            by_cases hlo : k < len'
            ·
              obtain ⟨b', off', z, hae, z0⟩ := HNM.out k hlo
              subst hae
              have hbz : b' < w.heap.size := World.block_lt_of_cell? w _ z0
              have HZ := Lib.hid z0
              have z1 := (HT.out.pr.bel.cell (p := ⟨b', off' + k, none⟩) hbz).trans z0
              have t0 := Int.tmod_lt_of_pos z (show (0 : Int) < 4 by decide)
              have t1 := Int.lt_tmod_of_pos z (show (0 : Int) < 4 by decide)
              obtain ⟨t, ht⟩ : ∃ y, z.tmod 4 = y := ⟨_, rfl⟩
              rw [ht] at t0 t1
              have hlo2 : (k : Int) < (len' : Int) := by omega
              have dlo : decide ((k : Int) < (len' : Int)) = true := by simp; omega
              obtain ⟨s3, hs3⟩ : ∃ y, z.tmod 3 = y := ⟨_, rfl⟩
              by_cases htn : t < 0
              · have dt : decide (t < 0) = true := by simpa using htn
                obtain ⟨kk, hkk⟩ := Int.eq_ofNat_of_zero_le (by omega : 0 ≤ -t)
                have hk4 : kk < 4 := by omega
                have htk2 : t = -(kk : Int) := by omega
                subst htk2
                clear z0
                go_wp2_with fail
                refine (trio_enter HT.out.swap kk (i64_of (by omega))).mono ?_
                rw [show enterA A kk = ({ A with loaded := (kk : Int) }, 0) from by obtain ⟨ax, hax⟩ := HL.out.2.2 kk (by omega); exact enter_some hax]
                rintro e wa ⟨rfl, oqa, o2a, hta, hla⟩
                have HTA := Lib.hid hta
                have HLA := Lib.hid (hla lb 77 13 _ HLOC.out.swap)
                have za := (HTA.out.pr.bel.cell (p := ⟨b', off' + k, none⟩) hbz).trans HZ.out
                clear hta hla z1
                by_cases hs0 : s3 = 0
                · subst hs0
                  go_wp2_with fail
                  refine (trio_leave HTA.out).mono ?_
                  rintro e wb ⟨rfl, oqb, o2b, htb, hlb⟩
                  have HTB := Lib.hid htb
                  have HLB := Lib.hid (hlb lb 77 13 _ HLA.out)
                  clear htb hlb za HTA HLA
                  go_wp2_with fail
                  refine (trio_enter HTB.out 0 (i64_of (by omega))).mono ?_
                  rw [show enterA (leaveA { A with loaded := (kk : Int) }) 0 = (A, 0) from by
                    obtain ⟨ax, hax⟩ := HL.out.2.2 0 (by omega)
                    rw [enter_some (A := leaveA { A with loaded := (kk : Int) }) (a := ax) hax]
                    exact Prod.ext (Am.ext' rfl HL.out.1.symm rfl) rfl]
                  rintro e wc ⟨rfl, oqc, o2c, htc, hlc⟩
                  have HTC := Lib.hid htc.swap
                  have HLC := Lib.hid (hlc lb 77 13 _ HLB.out)
                  clear htc hlc HTB HLB HT HLOC
                  have HT := HTC
                  have HLOC := HLC
                  clear HTC HLC
                  have e0 : wc.cell? ⟨lb, 0, none⟩ = some (.int .i64 d) := HLOC.out.1.cell 0 (by omega)
                  have e1 : wc.cell? ⟨lb, 1, none⟩ = some (.int .i64 id) := HLOC.out.1.cell 1 (by omega)
                  have e2 : wc.cell? ⟨lb, 2, none⟩ = some (.int .i64 n) := HLOC.out.1.cell 2 (by omega)
                  have e3 : wc.cell? ⟨lb, 3, none⟩ = some (.int .i64 m) := HLOC.out.1.cell 3 (by omega)
                  have e4 : wc.cell? ⟨lb, 4, none⟩ = some (.int .u32 (bk 0)) := HLOC.out.1.cell 4 (by omega)
                  have e5 : wc.cell? ⟨lb, 5, none⟩ = some (.int .u32 (bk 1)) := HLOC.out.1.cell 5 (by omega)
                  have e6 : wc.cell? ⟨lb, 6, none⟩ = some (.int .u32 (bk 2)) := HLOC.out.1.cell 6 (by omega)
                  have e7 : wc.cell? ⟨lb, 7, none⟩ = some (.int .u32 (bk 3)) := HLOC.out.1.cell 7 (by omega)
                  have e8 : wc.cell? ⟨lb, 8, none⟩ = some (.int .u32 (bk 4)) := HLOC.out.1.cell 8 (by omega)
                  have e9 : wc.cell? ⟨lb, 9, none⟩ = some (.int .u32 (bk 5)) := HLOC.out.1.cell 9 (by omega)
                  have e10 : wc.cell? ⟨lb, 10, none⟩ = some (.int .u32 (bk 6)) := HLOC.out.1.cell 10 (by omega)
                  have e11 : wc.cell? ⟨lb, 11, none⟩ = some (.int .u32 (bk 7)) := HLOC.out.1.cell 11 (by omega)
                  have e12 : wc.cell? ⟨lb, 12, none⟩ = some (.bool on) := HLOC.out.1.cell 12 (by omega)
                  
                  have hdq := trio_does HT.out.swap d id n m bk on tk tkr HID.out (by rw [HL.out.2.1]; omega) (by show (1 : Int) ≤ 2 ∧ (2 : Int) ≤ 16; omega) HTK.out HTR.out HD12.out
                  go_wp2_with fail
                  refine hdq.mono ?_
                  rintro e wz ⟨⟨bz, rfl⟩, oq', o2z, ht, _⟩
                  rw [HA1.out, HBN.out] at ht
                  have HTZ := Lib.hid ht.swap
                  clear ht hdq HT HLOC
                  clear e0 e1 e2 e3 e4 e5 e6 e7 e8 e9 e10 e11 e12
                  go_wp2_with fail
                  go_roundw
                  case rel => exact ⟨k + 1, A1, _, _, _, by omega, by omega, by go_num, HTZ.out, by rw [HK1.out.1]; exact HL.out.1, HK1.out.2.1, HK1.out.2.2⟩
                  case measure => simp [intOf]; omega
                · have ds : (s3 == 0) = false := by simpa using hs0
                  go_wp2_with fail
                  refine (trio_enter HTA.out 0 (i64_of (by omega))).mono ?_
                  rw [show enterA { A with loaded := (kk : Int) } 0 = (A, 0) from by
                    obtain ⟨ax, hax⟩ := HL.out.2.2 0 (by omega)
                    rw [enter_some (A := { A with loaded := (kk : Int) }) (a := ax) hax]
                    exact Prod.ext (Am.ext' rfl HL.out.1.symm rfl) rfl]
                  rintro e wc ⟨rfl, oqc, o2c, htc, hlc⟩
                  have HTC := Lib.hid htc.swap
                  have HLC := Lib.hid (hlc lb 77 13 _ HLA.out)
                  clear htc hlc HTA HLA HT HLOC za
                  have HT := HTC
                  have HLOC := HLC
                  clear HTC HLC
                  have e0 : wc.cell? ⟨lb, 0, none⟩ = some (.int .i64 d) := HLOC.out.1.cell 0 (by omega)
                  have e1 : wc.cell? ⟨lb, 1, none⟩ = some (.int .i64 id) := HLOC.out.1.cell 1 (by omega)
                  have e2 : wc.cell? ⟨lb, 2, none⟩ = some (.int .i64 n) := HLOC.out.1.cell 2 (by omega)
                  have e3 : wc.cell? ⟨lb, 3, none⟩ = some (.int .i64 m) := HLOC.out.1.cell 3 (by omega)
                  have e4 : wc.cell? ⟨lb, 4, none⟩ = some (.int .u32 (bk 0)) := HLOC.out.1.cell 4 (by omega)
                  have e5 : wc.cell? ⟨lb, 5, none⟩ = some (.int .u32 (bk 1)) := HLOC.out.1.cell 5 (by omega)
                  have e6 : wc.cell? ⟨lb, 6, none⟩ = some (.int .u32 (bk 2)) := HLOC.out.1.cell 6 (by omega)
                  have e7 : wc.cell? ⟨lb, 7, none⟩ = some (.int .u32 (bk 3)) := HLOC.out.1.cell 7 (by omega)
                  have e8 : wc.cell? ⟨lb, 8, none⟩ = some (.int .u32 (bk 4)) := HLOC.out.1.cell 8 (by omega)
                  have e9 : wc.cell? ⟨lb, 9, none⟩ = some (.int .u32 (bk 5)) := HLOC.out.1.cell 9 (by omega)
                  have e10 : wc.cell? ⟨lb, 10, none⟩ = some (.int .u32 (bk 6)) := HLOC.out.1.cell 10 (by omega)
                  have e11 : wc.cell? ⟨lb, 11, none⟩ = some (.int .u32 (bk 7)) := HLOC.out.1.cell 11 (by omega)
                  have e12 : wc.cell? ⟨lb, 12, none⟩ = some (.bool on) := HLOC.out.1.cell 12 (by omega)
                  
                  have hdq := trio_does HT.out.swap d id n m bk on tk tkr HID.out (by rw [HL.out.2.1]; omega) (by show (1 : Int) ≤ 2 ∧ (2 : Int) ≤ 16; omega) HTK.out HTR.out HD12.out
                  go_wp2_with fail
                  refine hdq.mono ?_
                  rintro e wz ⟨⟨bz, rfl⟩, oq', o2z, ht, _⟩
                  rw [HA1.out, HBN.out] at ht
                  have HTZ := Lib.hid ht.swap
                  clear ht hdq HT HLOC
                  clear e0 e1 e2 e3 e4 e5 e6 e7 e8 e9 e10 e11 e12
                  go_wp2_with fail
                  go_roundw
                  case rel => exact ⟨k + 1, A1, _, _, _, by omega, by omega, by go_num, HTZ.out, by rw [HK1.out.1]; exact HL.out.1, HK1.out.2.1, HK1.out.2.2⟩
                  case measure => simp [intOf]; omega
              · have dt : decide (t < 0) = false := by simpa using htn
                obtain ⟨kk, hkk⟩ := Int.eq_ofNat_of_zero_le (by omega : 0 ≤ t)
                have hk4 : kk < 4 := by omega
                subst hkk
                clear z0
                go_wp2_with fail
                refine (trio_enter HT.out.swap kk (i64_of (by omega))).mono ?_
                rw [show enterA A kk = ({ A with loaded := (kk : Int) }, 0) from by obtain ⟨ax, hax⟩ := HL.out.2.2 kk (by omega); exact enter_some hax]
                rintro e wa ⟨rfl, oqa, o2a, hta, hla⟩
                have HTA := Lib.hid hta
                have HLA := Lib.hid (hla lb 77 13 _ HLOC.out.swap)
                have za := (HTA.out.pr.bel.cell (p := ⟨b', off' + k, none⟩) hbz).trans HZ.out
                clear hta hla z1
                by_cases hs0 : s3 = 0
                · subst hs0
                  go_wp2_with fail
                  refine (trio_leave HTA.out).mono ?_
                  rintro e wb ⟨rfl, oqb, o2b, htb, hlb⟩
                  have HTB := Lib.hid htb
                  have HLB := Lib.hid (hlb lb 77 13 _ HLA.out)
                  clear htb hlb za HTA HLA
                  go_wp2_with fail
                  refine (trio_enter HTB.out 0 (i64_of (by omega))).mono ?_
                  rw [show enterA (leaveA { A with loaded := (kk : Int) }) 0 = (A, 0) from by
                    obtain ⟨ax, hax⟩ := HL.out.2.2 0 (by omega)
                    rw [enter_some (A := leaveA { A with loaded := (kk : Int) }) (a := ax) hax]
                    exact Prod.ext (Am.ext' rfl HL.out.1.symm rfl) rfl]
                  rintro e wc ⟨rfl, oqc, o2c, htc, hlc⟩
                  have HTC := Lib.hid htc.swap
                  have HLC := Lib.hid (hlc lb 77 13 _ HLB.out)
                  clear htc hlc HTB HLB HT HLOC
                  have HT := HTC
                  have HLOC := HLC
                  clear HTC HLC
                  have e0 : wc.cell? ⟨lb, 0, none⟩ = some (.int .i64 d) := HLOC.out.1.cell 0 (by omega)
                  have e1 : wc.cell? ⟨lb, 1, none⟩ = some (.int .i64 id) := HLOC.out.1.cell 1 (by omega)
                  have e2 : wc.cell? ⟨lb, 2, none⟩ = some (.int .i64 n) := HLOC.out.1.cell 2 (by omega)
                  have e3 : wc.cell? ⟨lb, 3, none⟩ = some (.int .i64 m) := HLOC.out.1.cell 3 (by omega)
                  have e4 : wc.cell? ⟨lb, 4, none⟩ = some (.int .u32 (bk 0)) := HLOC.out.1.cell 4 (by omega)
                  have e5 : wc.cell? ⟨lb, 5, none⟩ = some (.int .u32 (bk 1)) := HLOC.out.1.cell 5 (by omega)
                  have e6 : wc.cell? ⟨lb, 6, none⟩ = some (.int .u32 (bk 2)) := HLOC.out.1.cell 6 (by omega)
                  have e7 : wc.cell? ⟨lb, 7, none⟩ = some (.int .u32 (bk 3)) := HLOC.out.1.cell 7 (by omega)
                  have e8 : wc.cell? ⟨lb, 8, none⟩ = some (.int .u32 (bk 4)) := HLOC.out.1.cell 8 (by omega)
                  have e9 : wc.cell? ⟨lb, 9, none⟩ = some (.int .u32 (bk 5)) := HLOC.out.1.cell 9 (by omega)
                  have e10 : wc.cell? ⟨lb, 10, none⟩ = some (.int .u32 (bk 6)) := HLOC.out.1.cell 10 (by omega)
                  have e11 : wc.cell? ⟨lb, 11, none⟩ = some (.int .u32 (bk 7)) := HLOC.out.1.cell 11 (by omega)
                  have e12 : wc.cell? ⟨lb, 12, none⟩ = some (.bool on) := HLOC.out.1.cell 12 (by omega)
                  
                  have hdq := trio_does HT.out.swap d id n m bk on tk tkr HID.out (by rw [HL.out.2.1]; omega) (by show (1 : Int) ≤ 2 ∧ (2 : Int) ≤ 16; omega) HTK.out HTR.out HD12.out
                  go_wp2_with fail
                  refine hdq.mono ?_
                  rintro e wz ⟨⟨bz, rfl⟩, oq', o2z, ht, _⟩
                  rw [HA1.out, HBN.out] at ht
                  have HTZ := Lib.hid ht.swap
                  clear ht hdq HT HLOC
                  clear e0 e1 e2 e3 e4 e5 e6 e7 e8 e9 e10 e11 e12
                  go_wp2_with fail
                  go_roundw
                  case rel => exact ⟨k + 1, A1, _, _, _, by omega, by omega, by go_num, HTZ.out, by rw [HK1.out.1]; exact HL.out.1, HK1.out.2.1, HK1.out.2.2⟩
                  case measure => simp [intOf]; omega
                · have ds : (s3 == 0) = false := by simpa using hs0
                  go_wp2_with fail
                  refine (trio_enter HTA.out 0 (i64_of (by omega))).mono ?_
                  rw [show enterA { A with loaded := (kk : Int) } 0 = (A, 0) from by
                    obtain ⟨ax, hax⟩ := HL.out.2.2 0 (by omega)
                    rw [enter_some (A := { A with loaded := (kk : Int) }) (a := ax) hax]
                    exact Prod.ext (Am.ext' rfl HL.out.1.symm rfl) rfl]
                  rintro e wc ⟨rfl, oqc, o2c, htc, hlc⟩
                  have HTC := Lib.hid htc.swap
                  have HLC := Lib.hid (hlc lb 77 13 _ HLA.out)
                  clear htc hlc HTA HLA HT HLOC za
                  have HT := HTC
                  have HLOC := HLC
                  clear HTC HLC
                  have e0 : wc.cell? ⟨lb, 0, none⟩ = some (.int .i64 d) := HLOC.out.1.cell 0 (by omega)
                  have e1 : wc.cell? ⟨lb, 1, none⟩ = some (.int .i64 id) := HLOC.out.1.cell 1 (by omega)
                  have e2 : wc.cell? ⟨lb, 2, none⟩ = some (.int .i64 n) := HLOC.out.1.cell 2 (by omega)
                  have e3 : wc.cell? ⟨lb, 3, none⟩ = some (.int .i64 m) := HLOC.out.1.cell 3 (by omega)
                  have e4 : wc.cell? ⟨lb, 4, none⟩ = some (.int .u32 (bk 0)) := HLOC.out.1.cell 4 (by omega)
                  have e5 : wc.cell? ⟨lb, 5, none⟩ = some (.int .u32 (bk 1)) := HLOC.out.1.cell 5 (by omega)
                  have e6 : wc.cell? ⟨lb, 6, none⟩ = some (.int .u32 (bk 2)) := HLOC.out.1.cell 6 (by omega)
                  have e7 : wc.cell? ⟨lb, 7, none⟩ = some (.int .u32 (bk 3)) := HLOC.out.1.cell 7 (by omega)
                  have e8 : wc.cell? ⟨lb, 8, none⟩ = some (.int .u32 (bk 4)) := HLOC.out.1.cell 8 (by omega)
                  have e9 : wc.cell? ⟨lb, 9, none⟩ = some (.int .u32 (bk 5)) := HLOC.out.1.cell 9 (by omega)
                  have e10 : wc.cell? ⟨lb, 10, none⟩ = some (.int .u32 (bk 6)) := HLOC.out.1.cell 10 (by omega)
                  have e11 : wc.cell? ⟨lb, 11, none⟩ = some (.int .u32 (bk 7)) := HLOC.out.1.cell 11 (by omega)
                  have e12 : wc.cell? ⟨lb, 12, none⟩ = some (.bool on) := HLOC.out.1.cell 12 (by omega)
                  
                  have hdq := trio_does HT.out.swap d id n m bk on tk tkr HID.out (by rw [HL.out.2.1]; omega) (by show (1 : Int) ≤ 2 ∧ (2 : Int) ≤ 16; omega) HTK.out HTR.out HD12.out
                  go_wp2_with fail
                  refine hdq.mono ?_
                  rintro e wz ⟨⟨bz, rfl⟩, oq', o2z, ht, _⟩
                  rw [HA1.out, HBN.out] at ht
                  have HTZ := Lib.hid ht.swap
                  clear ht hdq HT HLOC
                  clear e0 e1 e2 e3 e4 e5 e6 e7 e8 e9 e10 e11 e12
                  go_wp2_with fail
                  go_roundw
                  case rel => exact ⟨k + 1, A1, _, _, _, by omega, by omega, by go_num, HTZ.out, by rw [HK1.out.1]; exact HL.out.1, HK1.out.2.1, HK1.out.2.2⟩
                  case measure => simp [intOf]; omega
            · have dlo : decide ((k : Int) < (len' : Int)) = false := by simp; omega
              have hlo2 : ¬ (k : Int) < (len' : Int) := by omega
              have e0 : wy.cell? ⟨lb, 0, none⟩ = some (.int .i64 d) := HLOC.out.1.cell 0 (by omega)
              have e1 : wy.cell? ⟨lb, 1, none⟩ = some (.int .i64 id) := HLOC.out.1.cell 1 (by omega)
              have e2 : wy.cell? ⟨lb, 2, none⟩ = some (.int .i64 n) := HLOC.out.1.cell 2 (by omega)
              have e3 : wy.cell? ⟨lb, 3, none⟩ = some (.int .i64 m) := HLOC.out.1.cell 3 (by omega)
              have e4 : wy.cell? ⟨lb, 4, none⟩ = some (.int .u32 (bk 0)) := HLOC.out.1.cell 4 (by omega)
              have e5 : wy.cell? ⟨lb, 5, none⟩ = some (.int .u32 (bk 1)) := HLOC.out.1.cell 5 (by omega)
              have e6 : wy.cell? ⟨lb, 6, none⟩ = some (.int .u32 (bk 2)) := HLOC.out.1.cell 6 (by omega)
              have e7 : wy.cell? ⟨lb, 7, none⟩ = some (.int .u32 (bk 3)) := HLOC.out.1.cell 7 (by omega)
              have e8 : wy.cell? ⟨lb, 8, none⟩ = some (.int .u32 (bk 4)) := HLOC.out.1.cell 8 (by omega)
              have e9 : wy.cell? ⟨lb, 9, none⟩ = some (.int .u32 (bk 5)) := HLOC.out.1.cell 9 (by omega)
              have e10 : wy.cell? ⟨lb, 10, none⟩ = some (.int .u32 (bk 6)) := HLOC.out.1.cell 10 (by omega)
              have e11 : wy.cell? ⟨lb, 11, none⟩ = some (.int .u32 (bk 7)) := HLOC.out.1.cell 11 (by omega)
              have e12 : wy.cell? ⟨lb, 12, none⟩ = some (.bool on) := HLOC.out.1.cell 12 (by omega)
              
              have hdq := trio_does HT.out.swap d id n m bk on tk tkr HID.out (by rw [HL.out.2.1]; omega) (by show (1 : Int) ≤ 2 ∧ (2 : Int) ≤ 16; omega) HTK.out HTR.out HD12.out
              go_wp2_with fail
              refine hdq.mono ?_
              rintro e wz ⟨⟨bz, rfl⟩, oq', o2z, ht, _⟩
              rw [HA1.out, HBN.out] at ht
              have HTZ := Lib.hid ht.swap
              clear ht hdq HT HLOC
              clear e0 e1 e2 e3 e4 e5 e6 e7 e8 e9 e10 e11 e12
              go_wp2_with fail
              go_roundw
              case rel => exact ⟨k + 1, A1, _, _, _, by omega, by omega, by go_num, HTZ.out, by rw [HK1.out.1]; exact HL.out.1, HK1.out.2.1, HK1.out.2.2⟩
              case measure => simp [intOf]; omega
          ·
            go_wp2_with fail
            refine (alike18_any w p q r o oq o2 A (A0 2) _ HB.out HL.out.2.2).mono ?_
            rintro e wz ⟨rfl, hbz⟩
            have HBZ := Lib.hid hbz
            clear hbz
            go_wp2_with fail
            go_ret
            exact ⟨rfl, HBZ.out⟩
        ·
          go_wp2_with fail
          refine (alike18_any w p q r o oq o2 A (A0 2) _ HB.out HL.out.2.2).mono ?_
          rintro e wz ⟨rfl, hbz⟩
          have HBZ := Lib.hid hbz
          clear hbz
          go_wp2_with fail
          go_ret
          exact ⟨rfl, HBZ.out⟩
end Go.Proofs.Ytnebjbjdgfaooaa
namespace Go.Proofs.Ytnebjbjdgfaooaa
open Go.Joins Go.ChangeShapes Go.WideShapes Go.ChangeAt Go.RowKit
set_option maxRecDepth 100000
theorem VcpuSwitches_lifted (os : Os) (started : os.Started) (H : Type) (enc : TypeId × Value → H) :
    ReturnsInHanded {} Try.checked os 10 .any (Rows.vcpuSwitchesSpec.pre6 enc Try.prog Try.f10 Rows.vcpuSwitchesRow.domain false) (Rows.vcpuSwitchesSpec.post enc Try.prog Try.f10 false true false false) := by
  refine returnsInHanded_of_change (C := Try.checked) own started (by kernel_rfl) Try.func10
    (ChangeSpec.witness6 (enc := enc) (C := Try.checked) false ⟨#[], #[.slice none 0 0, .slice none 0 0], []⟩ 8 (by kernel_rfl) (by kernel_rfl) (by kernel_rfl) (by kernel_rfl)) ?_
  intro W base args ds gs before hval0 hW hcnd _
  have hval : ∀ (j : Nat) t v, Try.f10.params[j]? = some t → args[j]? = some v → Value.okWide Try.prog W .any base t v := hval0
  have hW' := hW
  obtain ⟨p, q, hA0, hV, rfl, hfz, hnd⟩ := hW
  have hA : DataW.TrodAll enc Try.prog W 0 (fun _ => true) true Try.f10.params.toList args.toList ds p := hA0
  rw [Try.params10] at hA hval
  obtain ⟨rfl, rfl⟩ := trodVars_none hV
  clear hA0 hval0
  obtain ⟨args⟩ := args
  obtain ⟨v0, vs0, d0, ds0, p0, q0, ha0, rfl, rfl, h0, r0⟩ := trodAll_cons hA
  simp only at ha0
  subst ha0
  obtain ⟨v1, vs1, d1, ds1, p1, q1, ha1, rfl, rfl, h1, r1⟩ := trodAll_cons r0
  subst ha1
  obtain ⟨hn, rfl, rfl⟩ := trodAll_nil r1
  subst hn
  obtain ⟨a, len, cap, rfl, hlen, hacts⟩ := open_acts18 (hval 0 71 v0 rfl rfl) h0
  obtain ⟨a', len', cap', rfl, _, hnums⟩ := open_nums (hval 1 22 v1 rfl rfl) h1
  refine (walk_VcpuSwitches a len cap a' len' cap' W hlen hacts hnums).mono fun e W' ⟨he, hb⟩ => ⟨_, he, ?_⟩
  exact law_post laidOut (by kernel_rfl) (by kernel_rfl) Try.underlying4 rfl hW' rfl hb

theorem VcpuSwitches_over : Rows.vcpuSwitchesRow.holds Try.pinned (OpenSpec.ofChange Rows.vcpuSwitchesSpec) :=
  OpenClaim.holds_of_wide 10 Try.f10 rfl rfl rfl rfl rfl rfl rfl ⟨rfl, rfl, rfl, rfl, rfl⟩ rfl rfl rfl rfl rfl (by kernel_rfl) Try.func10 (by kernel_rfl)
    (of_decide_eq_true (by kernel_rfl)) (by unfold Func.isWrapper; first | (rw [if_pos (by decide +kernel)]; kernel_rfl) | (rw [if_neg (by decide +kernel)]; exact ⟨rfl, rfl⟩))
    (fun os started H enc _ => VcpuSwitches_lifted os started H enc)

theorem VcpuSwitches_holds : Rows.VcpuSwitchesSaid := VcpuSwitches_over
#print axioms VcpuSwitches_holds
end Go.Proofs.Ytnebjbjdgfaooaa
