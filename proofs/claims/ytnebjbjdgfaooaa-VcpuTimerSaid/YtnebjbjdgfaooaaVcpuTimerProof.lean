/- Proved: the virtual timer tells once, just at the tick at which the count comes to be the timer; the interrupt 27 is acknowledged and ends without maintenance (viceroylaw18.VcpuTimer returns true for all counts and all numbers of ticks), with no condition. -/
import Derived.Test.YtnebjbjdgfaooaaVcH
namespace Go.Proofs.Ytnebjbjdgfaooaa
open Go.RowKit
set_option maxRecDepth 100000

open Go.Maps
/-- 0 is loaded; its count and its timer; its interrupts. -/
def Tm (A : Am) (c t : Int) (S : Vm) : Prop := A.loaded = 0 ∧ ∃ a, A.all 0 = some a ∧ a.sys 5 = c ∧ a.sys 3 = t ∧ a.S = S
theorem tick1_all {A : Am} {a : Ax} (hl : A.loaded = 0) : (tick1 A a).all 0 = some { a with sys := updS a.sys 5 ((a.sys 5 + 1) % 4294967296) } := by
  show updQ A.all A.loaded _ 0 = _
  rw [hl, updQ_same]
theorem tick_no {A : Am} {c t : Int} {S : Vm} (h : Tm A c t S) (hn : t = 0 ∨ t ≠ (c + 1) % 4294967296) : (tickA A).2 = false ∧ Tm (tickA A).1 ((c + 1) % 4294967296) t S := by
  obtain ⟨hl, a, ha, rfl, rfl, rfl⟩ := h
  have e : tickA A = (tick1 A a, false) := by
    unfold tickA; rw [hl, ha]; exact if_pos hn
  rw [e]
  exact ⟨rfl, hl, { a with sys := updS a.sys 5 ((a.sys 5 + 1) % 4294967296) }, tick1_all hl, by simp [updS], by simp [updS], rfl⟩
theorem tick_yes {A : Am} {c t : Int} {S : Vm} (h : Tm A c t S) (h0 : t ≠ 0) (hy : t = (c + 1) % 4294967296) (hi : (injV S 27 10 false).2 = 0) : (tickA A).2 = true ∧ Tm (tickA A).1 ((c + 1) % 4294967296) t (injV S 27 10 false).1 := by
  obtain ⟨hl, a, ha, rfl, rfl, rfl⟩ := h
  have e2 : injectA (tick1 A a) 0 27 10 false = ({ tick1 A a with all := updQ (tick1 A a).all 0 (some { a with sys := updS a.sys 5 ((a.sys 5 + 1) % 4294967296), S := (injV a.S 27 10 false).1 }) }, (injV a.S 27 10 false).2) := by
    unfold injectA; rw [tick1_all hl]
  have e : tickA A = ((injectA (tick1 A a) 0 27 10 false).1, decide ((injectA (tick1 A a) 0 27 10 false).2 = 0)) := by
    unfold tickA; rw [hl, ha]; exact if_neg (by rintro (h | h); exact h0 h; exact h hy)
  rw [e, e2]
  have e3 : (updQ (tick1 A a).all 0 (some { a with sys := updS a.sys 5 ((a.sys 5 + 1) % 4294967296), S := (injV a.S 27 10 false).1 })) 0 = some { a with sys := updS a.sys 5 ((a.sys 5 + 1) % 4294967296), S := (injV a.S 27 10 false).1 } := updQ_same _ _ _
  exact ⟨by simpa using hi, hl, { a with sys := updS a.sys 5 ((a.sys 5 + 1) % 4294967296), S := (injV a.S 27 10 false).1 }, e3, by simp [updS], by simp [updS], rfl⟩
theorem u32_wf {x : Int} (h : (Lit.int .u32 x).wf = true) : 0 ≤ x ∧ x < 4294967296 := by
  simp only [Lit.wf, IntKind.min, IntKind.max, IntKind.signed, IntKind.bits, Bool.and_eq_true, decide_eq_true_eq, if_false, Bool.false_eq_true] at h
  omega
def tV : Vm := (injV (V0 1) 27 10 false).1
theorem tV_i : (injV (V0 1) 27 10 false).2 = 0 := by kernel_rfl
theorem tV_a : (ackV tV).2 = 27 := by kernel_rfl
theorem tV_f : (endV (ackV tV).1 27).2.1 = false := by kernel_rfl
theorem tV_e : (endV (ackV tV).1 27).2.2 = 0 := by kernel_rfl
theorem tN_a : (ackV (V0 1)).2 = 1023 := by kernel_rfl
theorem tN_f : (endV (ackV (V0 1)).1 1023).2.1 = false := by kernel_rfl
theorem tN_e : (endV (ackV (V0 1)).1 1023).2.2 = 1 := by kernel_rfl
/-- What the loop has told. -/
def Told (count timer : Int) (i : Nat) (S : Vm) (n : Int) : Prop :=
  (n = 0 ∧ S = V0 1 ∧ ∀ j : Nat, 1 ≤ j → j ≤ i → timer = 0 ∨ timer ≠ (count + j) % 4294967296) ∨ (n = 1 ∧ S = tV ∧ timer ≠ 0 ∧ ∃ j : Nat, 1 ≤ j ∧ j ≤ i ∧ timer = (count + j) % 4294967296)
theorem tm0 (count timer : Int) : Tm (writeA (writeA (enterA (addA (A0 1) 0).1 0).1 0 5 count).1 0 3 timer).1 count timer (V0 1) := ⟨by kernel_rfl, _, by rfl, by rfl, by rfl, by rfl⟩
theorem told_no {count timer : Int} {i : Nat} {S : Vm} {n : Int} (h : Told count timer i S n) (hn : timer = 0 ∨ timer ≠ (count + ((i + 1 : Nat) : Int)) % 4294967296) : Told count timer (i + 1) S n := by
  rcases h with ⟨h1, h2, h3⟩ | ⟨h1, h2, h3, j, j1, j2, j3⟩
  · refine Or.inl ⟨h1, h2, fun j j1 j2 => ?_⟩
    by_cases e : j = i + 1
    · subst e; exact hn
    · exact h3 j j1 (by omega)
  · exact Or.inr ⟨h1, h2, h3, j, j1, by omega, j3⟩
theorem told_yes {count timer : Int} {i : Nat} {S : Vm} {n : Int} (_hc : 0 ≤ count ∧ count < 4294967296) (_hi : i < 60) (h : Told count timer i S n) (h0 : timer ≠ 0) (hy : timer = (count + ((i + 1 : Nat) : Int)) % 4294967296) : n = 0 ∧ S = V0 1 ∧ Told count timer (i + 1) tV 1 := by
  rcases h with ⟨h1, h2, h3⟩ | ⟨h1, h2, h3, j, j1, j2, j3⟩
  · exact ⟨h1, h2, Or.inr ⟨rfl, rfl, h0, i + 1, by omega, Nat.le_refl _, hy⟩⟩
  · exfalso; omega
theorem told_due {count timer : Int} {K : Nat} {S : Vm} {n : Int} (_hc : 0 ≤ count ∧ count < 4294967296) (_ht : 0 ≤ timer ∧ timer < 4294967296) (_hK : K ≤ 60) (h : Told count timer K S n) :
    (n = 0 ∧ S = V0 1 ∧ (timer = 0 ∨ (timer ≠ 0 ∧ ¬ 1 ≤ (timer - count) % 4294967296) ∨ (timer ≠ 0 ∧ 1 ≤ (timer - count) % 4294967296 ∧ ¬ (timer - count) % 4294967296 ≤ K))) ∨ (n = 1 ∧ S = tV ∧ timer ≠ 0 ∧ 1 ≤ (timer - count) % 4294967296 ∧ (timer - count) % 4294967296 ≤ K) := by
  rcases h with ⟨h1, h2, h3⟩ | ⟨h1, h2, h3, j, j1, j2, j3⟩
  · refine Or.inl ⟨h1, h2, ?_⟩
    by_cases h0 : timer = 0
    · exact Or.inl h0
    · by_cases h4 : 1 ≤ (timer - count) % 4294967296
      · refine Or.inr (Or.inr ⟨h0, h4, fun h5 => ?_⟩)
        obtain ⟨d, hd⟩ := Int.eq_ofNat_of_zero_le (by omega : 0 ≤ (timer - count) % 4294967296)
        have := h3 d (by omega) (by omega)
        omega
      · exact Or.inr (Or.inl ⟨h0, h4⟩)
  · refine Or.inr ⟨h1, h2, h3, ?_, ?_⟩ <;> omega
theorem tr1 : (addA (A0 1) 0).2 = 0 := by kernel_rfl
theorem tr2 : (enterA (addA (A0 1) 0).1 0).2 = 0 := by kernel_rfl
theorem tr3 (count : Int) : (writeA (enterA (addA (A0 1) 0).1 0).1 0 5 count).2 = 0 := by kernel_rfl
theorem tr4 (count timer : Int) : (writeA (writeA (enterA (addA (A0 1) 0).1 0).1 0 5 count).1 0 3 timer).2 = 0 := by kernel_rfl

set_option maxHeartbeats 32000000 in
theorem walk_VcpuTimer (count timer ticks : Int) (w : World) (hc : 0 ≤ count ∧ count < 4294967296) (ht : 0 ≤ timer ∧ timer < 4294967296) :
    Calls Try.prog 9 #[.int .u32 count, .int .u32 timer, .int .i64 ticks] w fun e w' => e = .returned (.bool true) ∧ Below w.heap.size w w' := by
  by_cases hneg : ticks ≤ 0
  ·
    go_enter Try.func9, Try.ntmps9
    go_wp2_with fail
    refine (cawake_any _).mono ?_
    rintro e w1 ⟨rfl, hb1⟩
    have B1 := Lib.hid hb1; clear hb1
    go_wp2_with fail
    refine (hnew B1.out 1 (by omega) (by omega)).mono ?_
    rintro e w2 ⟨p, o2, rfl, hh⟩
    have HH := Lib.hid hh; clear hh
    go_wp2_with fail
    refine (hadd HH.out 0 (i64n 0 (by omega)) (by decide)).mono ?_
    rw [tr1]
    rintro e w3 ⟨rfl, o3, hh, _, _⟩
    have HH := Lib.hid hh; clear hh
    go_wp2_with fail
    refine (henter HH.out 0 (i64n 0 (by omega))).mono ?_
    rw [tr2]
    rintro e w4 ⟨rfl, o4, hh, _, _⟩
    have HH := Lib.hid hh; clear hh
    go_wp2_with fail
    refine (hwrite HH.out 0 5 count (i64n 0 (by omega))).mono ?_
    rw [tr3]
    rintro e w5 ⟨rfl, o5, hh, _, _⟩
    have HH := Lib.hid hh; clear hh
    go_wp2_with fail
    refine (hwrite HH.out 0 3 timer (i64n 0 (by omega))).mono ?_
    rw [tr4]
    rintro e w6 ⟨rfl, o6, hh, _, _⟩
    have HT := Lib.hid (tm0 count timer)
    obtain ⟨A6, hA6⟩ : ∃ X, (writeA (writeA (enterA (addA (A0 1) 0).1 0).1 0 5 count).1 0 3 timer).1 = X := ⟨_, rfl⟩
    rw [hA6] at hh HT
    have HH : Hid (Has w w6 p o6 A6) := Lib.hid hh; clear hh hA6
    have HC := Lib.hid hc
    have HI := Lib.hid ht
    clear hc ht
    go_wp2_with fail
    have q1 : ¬ 60 < ticks := by omega
    have q2 : ¬ (0 : Int) < ticks := by omega
    have q3 : decide (60 < ticks) = false := by simpa using q1
    have q4 : decide ((0 : Int) < ticks) = false := by simpa using q2
    go_loopw [14, 15, 16] (fun v14 v15 _ wr => ∃ (i : Nat) (n : Int) (A : Am) (S : Vm) (o : Own), i ≤ 0 ∧ v15 = .int .i64 i ∧ v14 = .int .i64 n ∧ Has w wr p o A ∧ Tm A ((count + i) % 4294967296) timer S ∧ Told count timer i S n) (fun _ v15 _ _ => 0 - (intOf v15).toNat)
    case atStart => exact ⟨0, 0, A6, V0 1, o6, by omega, rfl, rfl, HH.out, by have h := HT.out; have hc := HC.out; rw [show (count + ((0 : Nat) : Int)) % 4294967296 = count by omega]; exact h, Or.inl ⟨rfl, rfl, fun j h1 h2 => by omega⟩⟩
    case round =>
      clear HH HT
      obtain ⟨i, n, A, S, o, hi, rfl, rfl, hh, htm, hto⟩ := hrel
      have HH := Lib.hid hh; have HT := Lib.hid htm; have HD := Lib.hid hto; clear hh htm hto
      by_cases hlt : i < 0
      · exact absurd hlt (by omega)
      · obtain rfl : 0 = i := by omega
        skip
        have HE := Lib.hid (told_due HC.out HI.out (by omega) HD.out)
        obtain ⟨C, hok, htoC, hfC, hbC⟩ := HH.out
        obtain ⟨hlC, a, haC, _, _, hsC⟩ := HT.out
        rw [← htoC] at haC
        obtain ⟨P, hP, hPa⟩ := to_inv haC
        have hv : VgAt _ P.v P.mp P.ma S := (show P.S = S by rw [← hsC, hPa]; rfl) ▸ hok.vg 0 P hP
        have HV := Lib.hid hv
        have HO := Lib.hid (And.intro hok hP)
        have HF : Hid (w.heap.size ≤ P.v ∧ w.heap.size ≤ P.mp ∧ w.heap.size ≤ P.ma) := Lib.hid ⟨hfC _ (by simp [Ow, (hok.ox 0 P hP).2.1]), hfC _ (by simp [Ow, (hok.ox 0 P hP).2.2.1]), hfC _ (by simp [Ow, (hok.ox 0 P hP).2.2.2])⟩
        have HBL := Lib.hid hbC
        clear hok htoC hfC hbC hlC haC hsC hPa hP hv HH HT HD
        go_wp2_with fail
        refine (vgic_some p o C 0 (i64n 0 (by omega)) _ HO.out.1 P HO.out.2).mono ?_
        rintro e wq ⟨rfl, hw⟩
        subst hw
        go_wp2_with fail
        refine (vack_any P.v P.mp P.ma S _ HV.out).mono ?_
        rcases HE.out with ⟨rfl, rfl, hdue⟩ | ⟨rfl, rfl, h0, h1, h2⟩
        · rw [tN_a]
          rintro e wr ⟨rfl, hv, hu⟩
          have HV2 := Lib.hid hv
          have HB2 : Hid (Below w.heap.size w wr) := Lib.hid (below_upd HBL.out hu HF.out.1 HF.out.2.1 HF.out.2.2)
          clear hv hu HV HO HBL
          go_wp2_with fail
          refine (vend_any P.v P.mp P.ma (ackV (V0 1)).1 1023 _ HV2.out).mono ?_
          rw [tN_f, tN_e]
          rintro e ws ⟨rfl, hv, hu⟩
          have HB3 : Hid (Below w.heap.size w ws) := Lib.hid (below_upd HB2.out hu HF.out.1 HF.out.2.1 HF.out.2.2)
          clear hv hu HV2 HB2
          obtain ⟨D, hD⟩ : ∃ D, (timer - count) % 4294967296 = D := ⟨_, rfl⟩
          rw [hD] at hdue
          rcases hdue with rfl | ⟨h0, h1⟩ | ⟨h0, h1, h2⟩
          · clear hD
            go_wp2_with fail
            go_ret
            exact ⟨rfl, HB3.out⟩
          · have d0 : (timer == 0) = false := by simpa using h0
            have d0n : (timer != 0) = true := by simpa using h0
            have d1 : decide (1 ≤ D) = false := by simpa using h1
            go_wp2_with fail
            go_ret
            exact ⟨rfl, HB3.out⟩
          · have d0 : (timer == 0) = false := by simpa using h0
            have d0n : (timer != 0) = true := by simpa using h0
            have d1 : decide (1 ≤ D) = true := by simpa using h1
            have d2 : decide (D ≤ (0 : Int)) = false := by simpa using h2
            go_wp2_with fail
            go_ret
            exact ⟨rfl, HB3.out⟩
        · exact absurd h2 (by omega)
  by_cases hbig : ticks ≤ 60
  · obtain ⟨K, rfl⟩ := Int.eq_ofNat_of_zero_le (by omega : 0 ≤ ticks)
    have hK : K ≤ 60 := by omega
    go_enter Try.func9, Try.ntmps9
    go_wp2_with fail
    refine (cawake_any _).mono ?_
    rintro e w1 ⟨rfl, hb1⟩
    have B1 := Lib.hid hb1; clear hb1
    go_wp2_with fail
    refine (hnew B1.out 1 (by omega) (by omega)).mono ?_
    rintro e w2 ⟨p, o2, rfl, hh⟩
    have HH := Lib.hid hh; clear hh
    go_wp2_with fail
    refine (hadd HH.out 0 (i64n 0 (by omega)) (by decide)).mono ?_
    rw [tr1]
    rintro e w3 ⟨rfl, o3, hh, _, _⟩
    have HH := Lib.hid hh; clear hh
    go_wp2_with fail
    refine (henter HH.out 0 (i64n 0 (by omega))).mono ?_
    rw [tr2]
    rintro e w4 ⟨rfl, o4, hh, _, _⟩
    have HH := Lib.hid hh; clear hh
    go_wp2_with fail
    refine (hwrite HH.out 0 5 count (i64n 0 (by omega))).mono ?_
    rw [tr3]
    rintro e w5 ⟨rfl, o5, hh, _, _⟩
    have HH := Lib.hid hh; clear hh
    go_wp2_with fail
    refine (hwrite HH.out 0 3 timer (i64n 0 (by omega))).mono ?_
    rw [tr4]
    rintro e w6 ⟨rfl, o6, hh, _, _⟩
    have HT := Lib.hid (tm0 count timer)
    obtain ⟨A6, hA6⟩ : ∃ X, (writeA (writeA (enterA (addA (A0 1) 0).1 0).1 0 5 count).1 0 3 timer).1 = X := ⟨_, rfl⟩
    rw [hA6] at hh HT
    have HH : Hid (Has w w6 p o6 A6) := Lib.hid hh; clear hh hA6
    have HC := Lib.hid hc
    have HI := Lib.hid ht
    clear hc ht
    go_wp2_with fail
    have q1 : ¬ (60 : Int) < (K : Int) := by omega
    have q3 : decide ((60 : Int) < (K : Int)) = false := by simpa using q1
    go_loopw [14, 15, 16] (fun v14 v15 _ wr => ∃ (i : Nat) (n : Int) (A : Am) (S : Vm) (o : Own), i ≤ K ∧ v15 = .int .i64 i ∧ v14 = .int .i64 n ∧ Has w wr p o A ∧ Tm A ((count + i) % 4294967296) timer S ∧ Told count timer i S n) (fun _ v15 _ _ => K - (intOf v15).toNat)
    case atStart => exact ⟨0, 0, A6, V0 1, o6, by omega, rfl, rfl, HH.out, by have h := HT.out; have hc := HC.out; rw [show (count + ((0 : Nat) : Int)) % 4294967296 = count by omega]; exact h, Or.inl ⟨rfl, rfl, fun j h1 h2 => by omega⟩⟩
    case round =>
      clear HH HT
      obtain ⟨i, n, A, S, o, hi, rfl, rfl, hh, htm, hto⟩ := hrel
      have HH := Lib.hid hh; have HT := Lib.hid htm; have HD := Lib.hid hto; clear hh htm hto
      by_cases hlt : i < K
      · have hd : decide ((i : Int) < (K : Int)) = true := by simp; omega
        have hd2 : (i : Int) < (K : Int) := by omega
        obtain ⟨x, hx⟩ : ∃ x, (count + (i : Int)) % 4294967296 = x := ⟨_, rfl⟩
        rw [hx] at HT
        have HX := Lib.hid hx
        have hx1 : (x + 1) % 4294967296 = (count + ((i + 1 : Nat) : Int)) % 4294967296 := by omega
        have HX1 := Lib.hid hx1
        by_cases hy : timer ≠ 0 ∧ timer = (x + 1) % 4294967296
        · obtain ⟨rfl, rfl, hto⟩ := told_yes HC.out (by omega) HD.out hy.1 (hx1 ▸ hy.2)
          have HN := Lib.hid hto
          obtain ⟨hr, htm⟩ := tick_yes HT.out hy.1 hy.2 tV_i
          have HT2 := Lib.hid htm
          have d0 : (timer == 0) = false := by simpa using hy.1
          have hy2 := hy.2.symm
          clear hto htm hx1 hy
          go_wp2_with fail
          refine (htick HH.out).mono ?_
          rw [hr]
          rintro e wt ⟨rfl, o', hh, _, _⟩
          have HH2 := Lib.hid hh; clear hh hr HH HT HD
          go_wp2_with fail
          go_roundw
          case rel => exact ⟨i + 1, 1, _, _, o', by omega, by go_num, rfl, HH2.out, by rw [← HX1.out]; exact HT2.out, HN.out⟩
          case measure => simp [intOf]; omega
        · have hn : timer = 0 ∨ timer ≠ (x + 1) % 4294967296 := by omega
          have HN := Lib.hid (told_no HD.out (hx1 ▸ hn))
          obtain ⟨hr, htm⟩ := tick_no HT.out hn
          have HT2 := Lib.hid htm
          clear htm hx1 hn hy hx
          go_wp2_with fail
          refine (htick HH.out).mono ?_
          rw [hr]
          rintro e wt ⟨rfl, o', hh, _, _⟩
          have HH2 := Lib.hid hh; clear hh hr HH HT HD
          go_wp2_with fail
          go_roundw
          case rel => exact ⟨i + 1, n, _, _, o', by omega, by go_num, rfl, HH2.out, by rw [← HX1.out]; exact HT2.out, HN.out⟩
          case measure => simp [intOf]; omega
      · obtain rfl : K = i := by omega
        skip
        have HE := Lib.hid (told_due HC.out HI.out (by omega) HD.out)
        obtain ⟨C, hok, htoC, hfC, hbC⟩ := HH.out
        obtain ⟨hlC, a, haC, _, _, hsC⟩ := HT.out
        rw [← htoC] at haC
        obtain ⟨P, hP, hPa⟩ := to_inv haC
        have hv : VgAt _ P.v P.mp P.ma S := (show P.S = S by rw [← hsC, hPa]; rfl) ▸ hok.vg 0 P hP
        have HV := Lib.hid hv
        have HO := Lib.hid (And.intro hok hP)
        have HF : Hid (w.heap.size ≤ P.v ∧ w.heap.size ≤ P.mp ∧ w.heap.size ≤ P.ma) := Lib.hid ⟨hfC _ (by simp [Ow, (hok.ox 0 P hP).2.1]), hfC _ (by simp [Ow, (hok.ox 0 P hP).2.2.1]), hfC _ (by simp [Ow, (hok.ox 0 P hP).2.2.2])⟩
        have HBL := Lib.hid hbC
        clear hok htoC hfC hbC hlC haC hsC hPa hP hv HH HT HD
        go_wp2_with fail
        refine (vgic_some p o C 0 (i64n 0 (by omega)) _ HO.out.1 P HO.out.2).mono ?_
        rintro e wq ⟨rfl, hw⟩
        subst hw
        go_wp2_with fail
        refine (vack_any P.v P.mp P.ma S _ HV.out).mono ?_
        rcases HE.out with ⟨rfl, rfl, hdue⟩ | ⟨rfl, rfl, h0, h1, h2⟩
        · rw [tN_a]
          rintro e wr ⟨rfl, hv, hu⟩
          have HV2 := Lib.hid hv
          have HB2 : Hid (Below w.heap.size w wr) := Lib.hid (below_upd HBL.out hu HF.out.1 HF.out.2.1 HF.out.2.2)
          clear hv hu HV HO HBL
          go_wp2_with fail
          refine (vend_any P.v P.mp P.ma (ackV (V0 1)).1 1023 _ HV2.out).mono ?_
          rw [tN_f, tN_e]
          rintro e ws ⟨rfl, hv, hu⟩
          have HB3 : Hid (Below w.heap.size w ws) := Lib.hid (below_upd HB2.out hu HF.out.1 HF.out.2.1 HF.out.2.2)
          clear hv hu HV2 HB2
          obtain ⟨D, hD⟩ : ∃ D, (timer - count) % 4294967296 = D := ⟨_, rfl⟩
          rw [hD] at hdue
          rcases hdue with rfl | ⟨h0, h1⟩ | ⟨h0, h1, h2⟩
          · clear hD
            go_wp2_with fail
            go_ret
            exact ⟨rfl, HB3.out⟩
          · have d0 : (timer == 0) = false := by simpa using h0
            have d0n : (timer != 0) = true := by simpa using h0
            have d1 : decide (1 ≤ D) = false := by simpa using h1
            go_wp2_with fail
            go_ret
            exact ⟨rfl, HB3.out⟩
          · have d0 : (timer == 0) = false := by simpa using h0
            have d0n : (timer != 0) = true := by simpa using h0
            have d1 : decide (1 ≤ D) = true := by simpa using h1
            have d2 : decide (D ≤ (K : Int)) = false := by simpa using h2
            go_wp2_with fail
            go_ret
            exact ⟨rfl, HB3.out⟩
        · rw [tV_a]
          rintro e wr ⟨rfl, hv, hu⟩
          have HV2 := Lib.hid hv
          have HB2 : Hid (Below w.heap.size w wr) := Lib.hid (below_upd HBL.out hu HF.out.1 HF.out.2.1 HF.out.2.2)
          clear hv hu HV HO HBL
          go_wp2_with fail
          refine (vend_any P.v P.mp P.ma (ackV tV).1 27 _ HV2.out).mono ?_
          rw [tV_f, tV_e]
          rintro e ws ⟨rfl, hv, hu⟩
          have HB3 : Hid (Below w.heap.size w ws) := Lib.hid (below_upd HB2.out hu HF.out.1 HF.out.2.1 HF.out.2.2)
          clear hv hu HV2 HB2
          obtain ⟨D, hD⟩ : ∃ D, (timer - count) % 4294967296 = D := ⟨_, rfl⟩
          rw [hD] at h1 h2
          have d0 : (timer == 0) = false := by simpa using h0
          have d0n : (timer != 0) = true := by simpa using h0
          have d1 : decide (1 ≤ D) = true := by simpa using h1
          have d2 : decide (D ≤ (K : Int)) = true := by simpa using h2
          go_wp2_with fail
          go_ret
          exact ⟨rfl, HB3.out⟩
  ·
    go_enter Try.func9, Try.ntmps9
    go_wp2_with fail
    refine (cawake_any _).mono ?_
    rintro e w1 ⟨rfl, hb1⟩
    have B1 := Lib.hid hb1; clear hb1
    go_wp2_with fail
    refine (hnew B1.out 1 (by omega) (by omega)).mono ?_
    rintro e w2 ⟨p, o2, rfl, hh⟩
    have HH := Lib.hid hh; clear hh
    go_wp2_with fail
    refine (hadd HH.out 0 (i64n 0 (by omega)) (by decide)).mono ?_
    rw [tr1]
    rintro e w3 ⟨rfl, o3, hh, _, _⟩
    have HH := Lib.hid hh; clear hh
    go_wp2_with fail
    refine (henter HH.out 0 (i64n 0 (by omega))).mono ?_
    rw [tr2]
    rintro e w4 ⟨rfl, o4, hh, _, _⟩
    have HH := Lib.hid hh; clear hh
    go_wp2_with fail
    refine (hwrite HH.out 0 5 count (i64n 0 (by omega))).mono ?_
    rw [tr3]
    rintro e w5 ⟨rfl, o5, hh, _, _⟩
    have HH := Lib.hid hh; clear hh
    go_wp2_with fail
    refine (hwrite HH.out 0 3 timer (i64n 0 (by omega))).mono ?_
    rw [tr4]
    rintro e w6 ⟨rfl, o6, hh, _, _⟩
    have HT := Lib.hid (tm0 count timer)
    obtain ⟨A6, hA6⟩ : ∃ X, (writeA (writeA (enterA (addA (A0 1) 0).1 0).1 0 5 count).1 0 3 timer).1 = X := ⟨_, rfl⟩
    rw [hA6] at hh HT
    have HH : Hid (Has w w6 p o6 A6) := Lib.hid hh; clear hh hA6
    have HC := Lib.hid hc
    have HI := Lib.hid ht
    clear hc ht
    go_wp2_with fail
    have q1 : 60 < ticks := by omega
    have q3 : decide (60 < ticks) = true := by simpa using q1
    go_loopw [14, 15, 16] (fun v14 v15 _ wr => ∃ (i : Nat) (n : Int) (A : Am) (S : Vm) (o : Own), i ≤ 60 ∧ v15 = .int .i64 i ∧ v14 = .int .i64 n ∧ Has w wr p o A ∧ Tm A ((count + i) % 4294967296) timer S ∧ Told count timer i S n) (fun _ v15 _ _ => 60 - (intOf v15).toNat)
    case atStart => exact ⟨0, 0, A6, V0 1, o6, by omega, rfl, rfl, HH.out, by have h := HT.out; have hc := HC.out; rw [show (count + ((0 : Nat) : Int)) % 4294967296 = count by omega]; exact h, Or.inl ⟨rfl, rfl, fun j h1 h2 => by omega⟩⟩
    case round =>
      clear HH HT
      obtain ⟨i, n, A, S, o, hi, rfl, rfl, hh, htm, hto⟩ := hrel
      have HH := Lib.hid hh; have HT := Lib.hid htm; have HD := Lib.hid hto; clear hh htm hto
      by_cases hlt : i < 60
      · have hd : decide ((i : Int) < 60) = true := by simp; omega
        have hd2 : (i : Int) < 60 := by omega
        obtain ⟨x, hx⟩ : ∃ x, (count + (i : Int)) % 4294967296 = x := ⟨_, rfl⟩
        rw [hx] at HT
        have HX := Lib.hid hx
        have hx1 : (x + 1) % 4294967296 = (count + ((i + 1 : Nat) : Int)) % 4294967296 := by omega
        have HX1 := Lib.hid hx1
        by_cases hy : timer ≠ 0 ∧ timer = (x + 1) % 4294967296
        · obtain ⟨rfl, rfl, hto⟩ := told_yes HC.out (by omega) HD.out hy.1 (hx1 ▸ hy.2)
          have HN := Lib.hid hto
          obtain ⟨hr, htm⟩ := tick_yes HT.out hy.1 hy.2 tV_i
          have HT2 := Lib.hid htm
          have d0 : (timer == 0) = false := by simpa using hy.1
          have hy2 := hy.2.symm
          clear hto htm hx1 hy
          go_wp2_with fail
          refine (htick HH.out).mono ?_
          rw [hr]
          rintro e wt ⟨rfl, o', hh, _, _⟩
          have HH2 := Lib.hid hh; clear hh hr HH HT HD
          go_wp2_with fail
          go_roundw
          case rel => exact ⟨i + 1, 1, _, _, o', by omega, by go_num, rfl, HH2.out, by rw [← HX1.out]; exact HT2.out, HN.out⟩
          case measure => simp [intOf]; omega
        · have hn : timer = 0 ∨ timer ≠ (x + 1) % 4294967296 := by omega
          have HN := Lib.hid (told_no HD.out (hx1 ▸ hn))
          obtain ⟨hr, htm⟩ := tick_no HT.out hn
          have HT2 := Lib.hid htm
          clear htm hx1 hn hy hx
          go_wp2_with fail
          refine (htick HH.out).mono ?_
          rw [hr]
          rintro e wt ⟨rfl, o', hh, _, _⟩
          have HH2 := Lib.hid hh; clear hh hr HH HT HD
          go_wp2_with fail
          go_roundw
          case rel => exact ⟨i + 1, n, _, _, o', by omega, by go_num, rfl, HH2.out, by rw [← HX1.out]; exact HT2.out, HN.out⟩
          case measure => simp [intOf]; omega
      · obtain rfl : 60 = i := by omega
        skip
        have HE := Lib.hid (told_due HC.out HI.out (by omega) HD.out)
        obtain ⟨C, hok, htoC, hfC, hbC⟩ := HH.out
        obtain ⟨hlC, a, haC, _, _, hsC⟩ := HT.out
        rw [← htoC] at haC
        obtain ⟨P, hP, hPa⟩ := to_inv haC
        have hv : VgAt _ P.v P.mp P.ma S := (show P.S = S by rw [← hsC, hPa]; rfl) ▸ hok.vg 0 P hP
        have HV := Lib.hid hv
        have HO := Lib.hid (And.intro hok hP)
        have HF : Hid (w.heap.size ≤ P.v ∧ w.heap.size ≤ P.mp ∧ w.heap.size ≤ P.ma) := Lib.hid ⟨hfC _ (by simp [Ow, (hok.ox 0 P hP).2.1]), hfC _ (by simp [Ow, (hok.ox 0 P hP).2.2.1]), hfC _ (by simp [Ow, (hok.ox 0 P hP).2.2.2])⟩
        have HBL := Lib.hid hbC
        clear hok htoC hfC hbC hlC haC hsC hPa hP hv HH HT HD
        go_wp2_with fail
        refine (vgic_some p o C 0 (i64n 0 (by omega)) _ HO.out.1 P HO.out.2).mono ?_
        rintro e wq ⟨rfl, hw⟩
        subst hw
        go_wp2_with fail
        refine (vack_any P.v P.mp P.ma S _ HV.out).mono ?_
        rcases HE.out with ⟨rfl, rfl, hdue⟩ | ⟨rfl, rfl, h0, h1, h2⟩
        · rw [tN_a]
          rintro e wr ⟨rfl, hv, hu⟩
          have HV2 := Lib.hid hv
          have HB2 : Hid (Below w.heap.size w wr) := Lib.hid (below_upd HBL.out hu HF.out.1 HF.out.2.1 HF.out.2.2)
          clear hv hu HV HO HBL
          go_wp2_with fail
          refine (vend_any P.v P.mp P.ma (ackV (V0 1)).1 1023 _ HV2.out).mono ?_
          rw [tN_f, tN_e]
          rintro e ws ⟨rfl, hv, hu⟩
          have HB3 : Hid (Below w.heap.size w ws) := Lib.hid (below_upd HB2.out hu HF.out.1 HF.out.2.1 HF.out.2.2)
          clear hv hu HV2 HB2
          obtain ⟨D, hD⟩ : ∃ D, (timer - count) % 4294967296 = D := ⟨_, rfl⟩
          rw [hD] at hdue
          rcases hdue with rfl | ⟨h0, h1⟩ | ⟨h0, h1, h2⟩
          · clear hD
            go_wp2_with fail
            go_ret
            exact ⟨rfl, HB3.out⟩
          · have d0 : (timer == 0) = false := by simpa using h0
            have d0n : (timer != 0) = true := by simpa using h0
            have d1 : decide (1 ≤ D) = false := by simpa using h1
            go_wp2_with fail
            go_ret
            exact ⟨rfl, HB3.out⟩
          · have d0 : (timer == 0) = false := by simpa using h0
            have d0n : (timer != 0) = true := by simpa using h0
            have d1 : decide (1 ≤ D) = true := by simpa using h1
            have d2 : decide (D ≤ (60 : Int)) = false := by simpa using h2
            go_wp2_with fail
            go_ret
            exact ⟨rfl, HB3.out⟩
        · rw [tV_a]
          rintro e wr ⟨rfl, hv, hu⟩
          have HV2 := Lib.hid hv
          have HB2 : Hid (Below w.heap.size w wr) := Lib.hid (below_upd HBL.out hu HF.out.1 HF.out.2.1 HF.out.2.2)
          clear hv hu HV HO HBL
          go_wp2_with fail
          refine (vend_any P.v P.mp P.ma (ackV tV).1 27 _ HV2.out).mono ?_
          rw [tV_f, tV_e]
          rintro e ws ⟨rfl, hv, hu⟩
          have HB3 : Hid (Below w.heap.size w ws) := Lib.hid (below_upd HB2.out hu HF.out.1 HF.out.2.1 HF.out.2.2)
          clear hv hu HV2 HB2
          obtain ⟨D, hD⟩ : ∃ D, (timer - count) % 4294967296 = D := ⟨_, rfl⟩
          rw [hD] at h1 h2
          have d0 : (timer == 0) = false := by simpa using h0
          have d0n : (timer != 0) = true := by simpa using h0
          have d1 : decide (1 ≤ D) = true := by simpa using h1
          have d2 : decide (D ≤ (60 : Int)) = true := by simpa using h2
          go_wp2_with fail
          go_ret
          exact ⟨rfl, HB3.out⟩
end Go.Proofs.Ytnebjbjdgfaooaa
namespace Go.Proofs.Ytnebjbjdgfaooaa
open Go.Joins Go.ChangeShapes Go.WideShapes Go.ChangeAt Go.RowKit
set_option maxRecDepth 100000
theorem VcpuTimer_lifted (os : Os) (started : os.Started) (H : Type) (enc : TypeId × Value → H) :
    ReturnsInHanded {} Try.checked os 9 .any (Rows.vcpuTimerSpec.pre6 enc Try.prog Try.f9 Rows.vcpuTimerRow.domain false) (Rows.vcpuTimerSpec.post enc Try.prog Try.f9 false true false false) := by
  refine returnsInHanded_of_change (C := Try.checked) own started (by kernel_rfl) Try.func9
    (ChangeSpec.witness6 (enc := enc) (C := Try.checked) false ⟨#[], #[.int .u32 0, .int .u32 0, .int .i64 0], []⟩ 8 (by kernel_rfl) (by kernel_rfl) (by kernel_rfl) (by kernel_rfl)) ?_
  intro W base args ds gs before hval0 hW hcnd _
  have hval : ∀ (j : Nat) t v, Try.f9.params[j]? = some t → args[j]? = some v → Value.okWide Try.prog W .any base t v := hval0
  have hW' := hW
  obtain ⟨p, q, hA0, hV, rfl, hfz, hnd⟩ := hW
  have hA : DataW.TrodAll enc Try.prog W 0 (fun _ => true) true Try.f9.params.toList args.toList ds p := hA0
  rw [Try.params9] at hA hval
  obtain ⟨rfl, rfl⟩ := trodVars_none hV
  clear hA0 hval0
  obtain ⟨args⟩ := args
  obtain ⟨v0, vs0, d0, ds0, p0, q0, ha0, rfl, rfl, h0, r0⟩ := trodAll_cons hA
  simp only at ha0
  subst ha0
  obtain ⟨v1, vs1, d1, ds1, p1, q1, ha1, rfl, rfl, h1, r1⟩ := trodAll_cons r0
  subst ha1
  obtain ⟨v2, vs2, d2, ds2, p2, q2, ha2, rfl, rfl, h2, r2⟩ := trodAll_cons r1
  subst ha2
  obtain ⟨hn, rfl, rfl⟩ := trodAll_nil r2
  subst hn
  obtain ⟨count, rfl, _, _, wf_count⟩ := open_int Try.underlying63 (hval 0 63 v0 rfl rfl) h0
  obtain ⟨timer, rfl, _, _, wf_timer⟩ := open_int Try.underlying63 (hval 1 63 v1 rfl rfl) h1
  obtain ⟨ticks, rfl, _, _, wf_ticks⟩ := open_int Try.underlying3 (hval 2 3 v2 rfl rfl) h2
  refine (walk_VcpuTimer count timer ticks W (u32_wf wf_count) (u32_wf wf_timer)).mono fun e W' ⟨he, hb⟩ => ⟨_, he, ?_⟩
  exact law_post laidOut (by kernel_rfl) (by kernel_rfl) Try.underlying4 rfl hW' rfl hb

theorem VcpuTimer_over : Rows.vcpuTimerRow.holds Try.pinned (OpenSpec.ofChange Rows.vcpuTimerSpec) :=
  OpenClaim.holds_of_wide 9 Try.f9 rfl rfl rfl rfl rfl rfl rfl ⟨rfl, rfl, rfl, rfl, rfl⟩ rfl rfl rfl rfl rfl (by kernel_rfl) Try.func9 (by kernel_rfl)
    (of_decide_eq_true (by kernel_rfl)) (by unfold Func.isWrapper; first | (rw [if_pos (by decide +kernel)]; kernel_rfl) | (rw [if_neg (by decide +kernel)]; exact ⟨rfl, rfl⟩))
    (fun os started H enc _ => VcpuTimer_lifted os started H enc)

theorem VcpuTimer_holds : Rows.VcpuTimerSaid := VcpuTimer_over
#print axioms VcpuTimer_holds
end Go.Proofs.Ytnebjbjdgfaooaa
