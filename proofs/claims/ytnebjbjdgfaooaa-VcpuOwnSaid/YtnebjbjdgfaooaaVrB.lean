/- The contracts of the reference's At, is, New, Thread, Enter, Unbind, Read, Write, Inject, Of, Bind; no condition. -/
import Derived.Test.YtnebjbjdgfaooaaVrA
namespace Go.Proofs.Ytnebjbjdgfaooaa
open Go.RowKit Go.Maps
set_option maxRecDepth 100000
def Rtp (w w' : World) (o : Own) (r : Nat) (A : Am) : Prop := ∃ o' C', RcOk w' o' r C' ∧ C'.to = A ∧ Ext w o o' ∧ Upd (Ow o) w w'
theorem rtp_same {w : World} {o : Own} {r : Nat} {C : Rc} (h : RcOk w o r C) : Rtp w w o r C.to := ⟨o, C, h, rfl, Ext.refl _ _, Upd.refl _ _⟩
theorem RcOk.at_form {w : World} {o : Own} {r : Nat} {C : Rc} (h : RcOk w o r C) {j : Nat} {x : Ro} (hj : C.L[j]? = some x) : ∃ q cap, C.sl = .slice (some ⟨q, 0, none⟩) C.L.length cap ∧ C.L.length ≤ cap ∧ o q = some (-1, 1) := by
  rcases h.form with ⟨_, e⟩ | h
  · rw [e] at hj; simp at hj
  · exact h
set_option maxHeartbeats 4000000 in
theorem rat_at (r : Nat) (o : Own) (C : Rc) (x : Ro) (j : Nat) (hj : C.L[j]? = some x) (w : World) (h : RcOk w o r C) :
    Calls Try.prog 75 #[.pointer (some ⟨r, 0, none⟩), .int .i64 x.id] w fun e w' => e = .returned (.int .i64 j) ∧ w' = w := by
  have H := Lib.hid h; clear h

  obtain ⟨q, cap, hs, hcap, hq⟩ := H.out.at_form hj
  have HS := Lib.hid hs
  have hjl : j < C.L.length := (List.getElem?_eq_some_iff.1 hj).1
  have hln := H.out.len
  have c0 := H.out.csl
  rw [hs] at c0
  have hj0 : decide ((j : Int) < 0) = false := by simp
  have hji : (j : Int) < (C.L.length : Int) := by omega
  clear hs
  clear hj0
  go_enter Try.func75, Try.ntmps75
  go_wp2_with fail
  go_loopw [5] (fun v5 wr => ∃ k : Nat, k ≤ j ∧ v5 = .int .i64 k ∧ wr = w) (fun v5 _ => j - (intOf v5).toNat)
  case atStart => exact ⟨0, by omega, rfl, rfl⟩
  case round =>
    obtain ⟨k, hk, rfl, rfl⟩ := hrel
    obtain ⟨y, hy⟩ : ∃ y, C.L[k]? = some y := ⟨_, List.getElem?_eq_getElem (by omega)⟩
    have c1 : wr.cell? ⟨q, k * 11, none⟩ = some (.int .i64 y.id) := H.out.ocell HS.out hy (m := 0) (by omega) rfl
    have hd : decide ((k : Int) < (C.L.length : Int)) = true := by simp; omega
    have hkn : (k : Int) < (C.L.length : Int) := by omega
    by_cases e : k = j
    · subst e
      rw [hj] at hy; cases hy
      go_wp2_with fail
      go_ret
      exact ⟨rfl, rfl⟩
    · have hne : (y.id == x.id) = false := by
        have h1 : (C.L.map Ro.id)[k]? = some y.id := by rw [List.getElem?_map, hy]; rfl
        have h2 : (C.L.map Ro.id)[j]? = some x.id := by rw [List.getElem?_map, hj]; rfl
        have : y.id ≠ x.id := fun e' => e ((List.getElem?_inj (List.getElem?_eq_some_iff.1 h1).1 H.out.nd).1 (by rw [h1, h2, e']))
        simpa using this
      clear hy
      go_wp2_with fail
      go_roundw
      case rel => exact ⟨k + 1, by omega, by go_num, trivial⟩
      case measure => simp [intOf]; omega
set_option maxHeartbeats 4000000 in
theorem rat_none (r : Nat) (o : Own) (C : Rc) (id : Int) (hn : ∀ x ∈ C.L, x.id ≠ id) (w : World) (h : RcOk w o r C) :
    Calls Try.prog 75 #[.pointer (some ⟨r, 0, none⟩), .int .i64 id] w fun e w' => e = .returned (.int .i64 (-1)) ∧ w' = w := by
  have H := Lib.hid h; clear h

  have HN := Lib.hid hn
  clear hn
  rcases H.out.form with ⟨hs, hl⟩ | ⟨q, cap, hs, hcap, hq⟩
  · have c0 := H.out.csl
    rw [hs] at c0
    clear hs hl
    go_enter Try.func75, Try.ntmps75
    go_wp2_with fail
    go_loopw [5] (fun v5 wr => v5 = .int .i64 0 ∧ wr = w) (fun v5 _ => 0)
    case atStart => exact ⟨rfl, rfl⟩
    case round =>
      obtain ⟨rfl, rfl⟩ := hrel
      go_wp2_with fail
      go_ret
      exact ⟨rfl, rfl⟩
  · have c0 := H.out.csl
    rw [hs] at c0
    have HS := Lib.hid hs
    clear hs
    obtain ⟨n, hn⟩ : ∃ n, C.L.length = n := ⟨_, rfl⟩
    have hln := H.out.len
    rw [hn] at c0 hcap hln
    have HNN := Lib.hid hn
    clear hn
    go_enter Try.func75, Try.ntmps75
    go_wp2_with fail
    go_loopw [5] (fun v5 wr => ∃ k : Nat, k ≤ n ∧ v5 = .int .i64 k ∧ wr = w) (fun v5 _ => n - (intOf v5).toNat)
    case atStart => exact ⟨0, by omega, rfl, rfl⟩
    case round =>
      obtain ⟨k, hk, rfl, rfl⟩ := hrel
      by_cases hlt : k < n
      · obtain ⟨y, hy⟩ : ∃ y, C.L[k]? = some y := ⟨_, List.getElem?_eq_getElem (by rw [HNN.out]; exact hlt)⟩
        have c1 : wr.cell? ⟨q, k * 11, none⟩ = some (.int .i64 y.id) := H.out.ocell HS.out hy (m := 0) (by omega) rfl
        have hd : decide ((k : Int) < (n : Int)) = true := by simp; omega
        have hkn : (k : Int) < (n : Int) := by omega
        have hne : (y.id == id) = false := by simpa using HN.out y (List.mem_of_getElem? hy)
        clear hy
        go_wp2_with fail
        go_roundw
        case rel => exact ⟨k + 1, by omega, by go_num, trivial⟩
        case measure => simp [intOf]; omega
      · obtain rfl : k = n := by omega
        go_wp2_with fail
        go_ret
        exact ⟨rfl, rfl⟩
theorem ris18_any (id : Int) (w : World) : Calls Try.prog 83 #[.int .i64 id] w fun e w' => e = .returned (.bool (decide (0 ≤ id ∧ id < 1024))) ∧ w = w' := by
  by_cases h1 : 0 ≤ id
  · have d1 : decide (0 ≤ id) = true := by simpa using h1
    go_enter Try.func83, Try.ntmps83
    go_wp2_with fail
    go_ret
    go_light
    simp [h1]
    try omega
  · have d1 : decide (0 ≤ id) = false := by simpa using h1
    go_enter Try.func83, Try.ntmps83
    go_wp2_with fail
    go_ret
    go_light
    simp
    try omega
theorem rthread_at (r : Nat) (o : Own) (C : Rc) (x : Ro) (j : Nat) (hj : C.L[j]? = some x) (w : World) (h : RcOk w o r C) :
    Calls Try.prog 79 #[.pointer (some ⟨r, 0, none⟩), .int .i64 x.id] w fun e w' => e = .returned (.int .i64 x.th) ∧ w' = w := by
  have H := Lib.hid h; clear h

  obtain ⟨q, cap, hs, hcap, hq⟩ := H.out.at_form hj
  have HS := Lib.hid hs
  have hjl : j < C.L.length := (List.getElem?_eq_some_iff.1 hj).1
  have hln := H.out.len
  have c0 := H.out.csl
  rw [hs] at c0
  have hj0 : decide ((j : Int) < 0) = false := by simp
  have hji : (j : Int) < (C.L.length : Int) := by omega
  clear hs
  have c1 : w.cell? ⟨q, j * 11 + 1, none⟩ = some (.int .i64 x.th) := H.out.ocell HS.out hj (m := 1) (by omega) rfl
  go_enter Try.func79, Try.ntmps79
  go_wp2_with fail
  refine (rat_at r o C x j hj _ H.out).mono ?_
  rintro e w1 ⟨rfl, hw⟩
  subst hw
  go_wp2_with fail
  go_ret
  exact ⟨rfl, rfl⟩
theorem rthread_none (r : Nat) (o : Own) (C : Rc) (id : Int) (hn : ∀ x ∈ C.L, x.id ≠ id) (w : World) (h : RcOk w o r C) :
    Calls Try.prog 79 #[.pointer (some ⟨r, 0, none⟩), .int .i64 id] w fun e w' => e = .returned (.int .i64 (-1)) ∧ w' = w := by
  have H := Lib.hid h; clear h

  go_enter Try.func79, Try.ntmps79
  go_wp2_with fail
  refine (rat_none r o C id hn _ H.out).mono ?_
  rintro e w1 ⟨rfl, hw⟩
  subst hw
  go_wp2_with fail
  go_ret
  exact ⟨rfl, rfl⟩
theorem renter_any (r : Nat) (o : Own) (C : Rc) (id : Int) (w : World) (h : RcOk w o r C) :
    Calls Try.prog 69 #[.pointer (some ⟨r, 0, none⟩), .int .i64 id] w fun e w' => e = .returned (.int .i64 (enterA C.to id).2) ∧ Rtp w w' o r (enterA C.to id).1 := by
  have H := Lib.hid h; clear h

  rcases rto_cases C id with ⟨hA0, hn⟩ | ⟨j, x, hj, rfl⟩
  · have hA : enterA C.to id = (C.to, 181) := by unfold enterA; rw [hA0]
    rw [hA]
    clear hA hA0
    go_enter Try.func69, Try.ntmps69
    go_wp2_with fail
    refine (rat_none r o C id hn _ H.out).mono ?_
    rintro e w1 ⟨rfl, hw⟩
    subst hw
    go_wp2_with fail
    go_ret
    exact ⟨rfl, rtp_same H.out⟩
  · have hA : enterA C.to x.id = ({ C.to with loaded := x.id }, 0) := by unfold enterA; rw [rto_at H.out hj]
    rw [hA]
    clear hA
    obtain ⟨q, cap, hs, hcap, hq⟩ := H.out.at_form hj
    have HS := Lib.hid hs
    have hjl : j < C.L.length := (List.getElem?_eq_some_iff.1 hj).1
    have hln := H.out.len
    have c0 := H.out.csl
    rw [hs] at c0
    have hj0 : decide ((j : Int) < 0) = false := by simp
    have hji : (j : Int) < (C.L.length : Int) := by omega
    clear hs
    have c2 := H.out.cld
    have hf := H.out.frozen
    go_enter Try.func69, Try.ntmps69
    go_wp2_with fail
    refine (rat_at r o C x j hj _ H.out).mono ?_
    rintro e w1 ⟨rfl, hw⟩
    subst hw
    go_wp2_with fail
    go_ret
    obtain ⟨h1, h2⟩ := H.out.stl x.id (Or.inr ⟨x, List.mem_of_getElem? hj, rfl⟩)
    exact ⟨rfl, o, _, h1, rfl, Ext.refl _ _, h2⟩
set_option maxHeartbeats 2000000 in
theorem runbind_any (r : Nat) (o : Own) (C : Rc) (id : Int) (w : World) (h : RcOk w o r C) :
    Calls Try.prog 68 #[.pointer (some ⟨r, 0, none⟩), .int .i64 id] w fun e w' => e = .returned (.int .i64 (unbindA C.to id).2) ∧ Rtp w w' o r (unbindA C.to id).1 := by
  have H := Lib.hid h; clear h

  rcases rto_cases C id with ⟨hA0, hn⟩ | ⟨j, x, hj, rfl⟩
  · have hA : unbindA C.to id = (C.to, 181) := by unfold unbindA; rw [hA0]
    rw [hA]
    clear hA hA0
    go_enter Try.func68, Try.ntmps68
    go_wp2_with fail
    refine (rat_none r o C id hn _ H.out).mono ?_
    rintro e w1 ⟨rfl, hw⟩
    subst hw
    go_wp2_with fail
    go_ret
    exact ⟨rfl, rtp_same H.out⟩
  · have hth := H.out.th x (List.mem_of_getElem? hj)
    obtain ⟨q, cap, hs, hcap, hq⟩ := H.out.at_form hj
    have HS := Lib.hid hs
    have hjl : j < C.L.length := (List.getElem?_eq_some_iff.1 hj).1
    have hln := H.out.len
    have c0 := H.out.csl
    rw [hs] at c0
    have hj0 : decide ((j : Int) < 0) = false := by simp
    have hji : (j : Int) < (C.L.length : Int) := by omega
    clear hs
    have c1 : w.cell? ⟨q, j * 11 + 1, none⟩ = some (.int .i64 x.th) := H.out.ocell HS.out hj (m := 1) (by omega) rfl
    by_cases ht : x.th = -1
    · have hA : unbindA C.to x.id = (C.to, 180) := by unfold unbindA; rw [rto_at H.out hj]; exact if_pos ht
      rw [hA]
      clear hA
      rw [ht] at c1
      go_enter Try.func68, Try.ntmps68
      go_wp2_with fail
      refine (rat_at r o C x j hj _ H.out).mono ?_
      rintro e w1 ⟨rfl, hw⟩
      subst hw
      go_wp2_with fail
      go_ret
      exact ⟨rfl, rtp_same H.out⟩
    · have hA : unbindA C.to x.id = ({ C.to with all := updQ C.to.all x.id (some { x.ax with th := -1 }) }, 0) := by unfold unbindA; rw [rto_at H.out hj]; exact if_neg ht
      rw [hA]
      clear hA
      have dt : decide (x.th < 0) = false := by simp; omega
      have hf := H.out.ofrozen HS.out
      go_enter Try.func68, Try.ntmps68
      go_wp2_with fail
      refine (rat_at r o C x j hj _ H.out).mono ?_
      rintro e w1 ⟨rfl, hw⟩
      subst hw
      go_wp2_with fail
      go_ret
      obtain ⟨h1, h2⟩ := H.out.sto HS.out hj (m := 1) (by omega) (u := .int .i64 (-1)) (x' := { x with th := -1 }) rfl rfl rfl rfl (by simp)
      refine ⟨rfl, o, _, h1, ?_, Ext.refl _ _, h2⟩
      rw [rto_set (x' := { x with th := -1 }) H.out hj rfl]; rfl
theorem ocell_sys (x : Ro) {k : Nat} (hk : k < 8) : (cellsO x)[2 + k]? = some (.int .u32 (x.sys k)) := by
  rcases (by omega : k = 0 ∨ k = 1 ∨ k = 2 ∨ k = 3 ∨ k = 4 ∨ k = 5 ∨ k = 6 ∨ k = 7) with rfl | rfl | rfl | rfl | rfl | rfl | rfl | rfl <;> rfl
theorem oset_sys (x : Ro) {k : Nat} (hk : k < 8) (v : Int) : (cellsO x).set (2 + k) (.int .u32 v) = cellsO { x with sys := updS x.sys k v } := by
  rcases (by omega : k = 0 ∨ k = 1 ∨ k = 2 ∨ k = 3 ∨ k = 4 ∨ k = 5 ∨ k = 6 ∨ k = 7) with rfl | rfl | rfl | rfl | rfl | rfl | rfl | rfl <;> rfl
theorem RcOk.csys {w : World} {o : Own} {r : Nat} {C : Rc} (h : RcOk w o r C) {q cap : Nat} (hs : C.sl = .slice (some ⟨q, 0, none⟩) C.L.length cap) {j : Nat} {x : Ro} (hj : C.L[j]? = some x) {k : Nat} (hk : k < 8) : w.cell? ⟨q, j * 11 + 2 + k, none⟩ = some (.int .u32 (x.sys k)) := by
  rw [Nat.add_assoc]; exact h.ocell hs hj (by omega) (ocell_sys x hk)
/-- A register of one. -/
theorem RcOk.stsys {w : World} {o : Own} {r : Nat} {C : Rc} (h : RcOk w o r C) {q cap : Nat} (hs : C.sl = .slice (some ⟨q, 0, none⟩) C.L.length cap) {j : Nat} {x : Ro} (hj : C.L[j]? = some x) {k : Nat} (hk : k < 8) (v : Int) :
    RcOk (w.setCell ⟨q, j * 11 + 2 + k, none⟩ (.int .u32 v)) o r { C with L := C.L.set j { x with sys := updS x.sys k v } } ∧ Upd (Ow o) w (w.setCell ⟨q, j * 11 + 2 + k, none⟩ (.int .u32 v)) := by
  rw [Nat.add_assoc]; exact h.sto hs hj (by omega) (oset_sys x hk v) rfl rfl rfl (h.th x (List.mem_of_getElem? hj))
set_option maxHeartbeats 2000000 in
theorem rread_any (r : Nat) (o : Own) (C : Rc) (id n : Int) (w : World) (h : RcOk w o r C) :
    Calls Try.prog 71 #[.pointer (some ⟨r, 0, none⟩), .int .i64 id, .int .i64 n] w fun e w' => e = .returned (.tuple #[.int .u32 (readA C.to id n).1, .int .i64 (readA C.to id n).2]) ∧ w' = w := by
  have H := Lib.hid h; clear h

  rcases rto_cases C id with ⟨hA0, hn⟩ | ⟨j, x, hj, rfl⟩
  · have hA : readA C.to id n = (0, 181) := by unfold readA; rw [hA0]
    rw [hA]
    clear hA hA0
    go_enter Try.func71, Try.ntmps71
    go_wp2_with fail
    refine (rat_none r o C id hn _ H.out).mono ?_
    rintro e w1 ⟨rfl, hw⟩
    subst hw
    go_wp2_with fail
    go_ret2
    simp
  · obtain ⟨q, cap, hs, hcap, hq⟩ := H.out.at_form hj
    have HS := Lib.hid hs
    have hjl : j < C.L.length := (List.getElem?_eq_some_iff.1 hj).1
    have hln := H.out.len
    have c0 := H.out.csl
    rw [hs] at c0
    have hj0 : decide ((j : Int) < 0) = false := by simp
    have hji : (j : Int) < (C.L.length : Int) := by omega
    clear hs
    by_cases hn : 0 ≤ n ∧ n < 8
    · obtain ⟨k, rfl⟩ := Int.eq_ofNat_of_zero_le hn.1
      have hk : k < 8 := by omega
      have hA : readA C.to x.id k = (x.sys k, 0) := by unfold readA; rw [rto_at H.out hj]; simp only [if_pos hn, Int.toNat_natCast]; rfl
      rw [hA]
      clear hA
      have c1 := H.out.csys HS.out hj hk
      have d1 : decide ((7 : Int) < (k : Int)) = false := by simp; omega
      have d2 : ¬ (7 : Int) < (k : Int) := by omega
      have d3 : (k : Int) < 8 := by omega
      have d0 : decide ((k : Int) < 0) = false := by simp
      go_enter Try.func71, Try.ntmps71
      go_wp2_with fail
      refine (rat_at r o C x j hj _ H.out).mono ?_
      rintro e w1 ⟨rfl, hw⟩
      subst hw
      go_wp2_with fail
      go_ret2
      simp
    · have hA : readA C.to x.id n = (0, 1) := by unfold readA; rw [rto_at H.out hj]; exact if_neg hn
      rw [hA]
      clear hA
      by_cases h0 : n < 0
      · have d0 : decide (n < 0) = true := by simpa using h0
        go_enter Try.func71, Try.ntmps71
        go_wp2_with fail
        refine (rat_at r o C x j hj _ H.out).mono ?_
        rintro e w1 ⟨rfl, hw⟩
        subst hw
        go_wp2_with fail
        go_ret2
        simp
      · have d0 : decide (n < 0) = false := by simpa using h0
        have h7 : 7 < n := by omega
        have d1 : decide (7 < n) = true := by simpa using h7
        go_enter Try.func71, Try.ntmps71
        go_wp2_with fail
        refine (rat_at r o C x j hj _ H.out).mono ?_
        rintro e w1 ⟨rfl, hw⟩
        subst hw
        go_wp2_with fail
        go_ret2
        simp
set_option maxHeartbeats 2000000 in
theorem rwrite_any (r : Nat) (o : Own) (C : Rc) (id n v : Int) (w : World) (h : RcOk w o r C) :
    Calls Try.prog 72 #[.pointer (some ⟨r, 0, none⟩), .int .i64 id, .int .i64 n, .int .u32 v] w fun e w' => e = .returned (.int .i64 (writeA C.to id n v).2) ∧ Rtp w w' o r (writeA C.to id n v).1 := by
  have H := Lib.hid h; clear h

  rcases rto_cases C id with ⟨hA0, hn⟩ | ⟨j, x, hj, rfl⟩
  · have hA : writeA C.to id n v = (C.to, 181) := by unfold writeA; rw [hA0]
    rw [hA]
    clear hA hA0
    go_enter Try.func72, Try.ntmps72
    go_wp2_with fail
    refine (rat_none r o C id hn _ H.out).mono ?_
    rintro e w1 ⟨rfl, hw⟩
    subst hw
    go_wp2_with fail
    go_ret
    exact ⟨rfl, rtp_same H.out⟩
  · obtain ⟨q, cap, hs, hcap, hq⟩ := H.out.at_form hj
    have HS := Lib.hid hs
    have hjl : j < C.L.length := (List.getElem?_eq_some_iff.1 hj).1
    have hln := H.out.len
    have c0 := H.out.csl
    rw [hs] at c0
    have hj0 : decide ((j : Int) < 0) = false := by simp
    have hji : (j : Int) < (C.L.length : Int) := by omega
    clear hs
    by_cases hn : 0 ≤ n ∧ n < 6
    · obtain ⟨k, rfl⟩ := Int.eq_ofNat_of_zero_le hn.1
      have hk : k < 6 := by omega
      have hA : writeA C.to x.id k v = ({ C.to with all := updQ C.to.all x.id (some { x.ax with sys := updS x.sys k v }) }, 0) := by unfold writeA; rw [rto_at H.out hj]; simp only [if_pos hn, Int.toNat_natCast]; rfl
      rw [hA]
      clear hA
      have c1 := H.out.csys HS.out hj (k := k) (by omega)
      have hf := H.out.ofrozen HS.out
      have d1 : decide ((5 : Int) < (k : Int)) = false := by simp; omega
      have d2 : ¬ (5 : Int) < (k : Int) := by omega
      have d3 : (k : Int) < 8 := by omega
      have d0 : decide ((k : Int) < 0) = false := by simp
      go_enter Try.func72, Try.ntmps72
      go_wp2_with fail
      refine (rat_at r o C x j hj _ H.out).mono ?_
      rintro e w1 ⟨rfl, hw⟩
      subst hw
      go_wp2_with fail
      go_ret
      obtain ⟨h1, h2⟩ := H.out.stsys HS.out hj (k := k) (by omega) v
      refine ⟨rfl, o, _, h1, ?_, Ext.refl _ _, h2⟩
      rw [rto_set (x' := { x with sys := updS x.sys k v }) H.out hj rfl]; rfl
    · have hA : writeA C.to x.id n v = (C.to, 1) := by unfold writeA; rw [rto_at H.out hj]; exact if_neg hn
      rw [hA]
      clear hA
      by_cases h0 : n < 0
      · have d0 : decide (n < 0) = true := by simpa using h0
        go_enter Try.func72, Try.ntmps72
        go_wp2_with fail
        refine (rat_at r o C x j hj _ H.out).mono ?_
        rintro e w1 ⟨rfl, hw⟩
        subst hw
        go_wp2_with fail
        go_ret
        exact ⟨rfl, rtp_same H.out⟩
      · have d0 : decide (n < 0) = false := by simpa using h0
        have h7 : 5 < n := by omega
        have d1 : decide (5 < n) = true := by simpa using h7
        go_enter Try.func72, Try.ntmps72
        go_wp2_with fail
        refine (rat_at r o C x j hj _ H.out).mono ?_
        rintro e w1 ⟨rfl, hw⟩
        subst hw
        go_wp2_with fail
        go_ret
        exact ⟨rfl, rtp_same H.out⟩
set_option maxHeartbeats 2000000 in
theorem rinject18_any (r : Nat) (o : Own) (C : Rc) (id irq pr : Int) (lv : Bool) (w : World) (h : RcOk w o r C) :
    Calls Try.prog 73 #[.pointer (some ⟨r, 0, none⟩), .int .i64 id, .int .i64 irq, .int .i64 pr, .bool lv] w fun e w' => e = .returned (.int .i64 (injectA C.to id irq pr lv).2) ∧ Rtp w w' o r (injectA C.to id irq pr lv).1 := by
  have H := Lib.hid h; clear h

  rcases rto_cases C id with ⟨hA0, hn⟩ | ⟨j, x, hj, rfl⟩
  · have hA : injectA C.to id irq pr lv = (C.to, 181) := by unfold injectA; rw [hA0]
    rw [hA]
    clear hA hA0
    go_enter Try.func73, Try.ntmps73
    go_wp2_with fail
    refine (rat_none r o C id hn _ H.out).mono ?_
    rintro e w1 ⟨rfl, hw⟩
    subst hw
    go_wp2_with fail
    go_ret
    exact ⟨rfl, rtp_same H.out⟩
  · obtain ⟨q, cap, hs, hcap, hq⟩ := H.out.at_form hj
    have HS := Lib.hid hs
    have hjl : j < C.L.length := (List.getElem?_eq_some_iff.1 hj).1
    have hln := H.out.len
    have c0 := H.out.csl
    rw [hs] at c0
    have hj0 : decide ((j : Int) < 0) = false := by simp
    have hji : (j : Int) < (C.L.length : Int) := by omega
    clear hs
    have hA : injectA C.to x.id irq pr lv = ({ C.to with all := updQ C.to.all x.id (some { x.ax with S := (injV x.R.to irq pr lv).1 }) }, (injV x.R.to irq pr lv).2) := by unfold injectA; rw [rto_at H.out hj]; rfl
    rw [hA]
    clear hA
    have c1 : w.cell? ⟨q, j * 11 + 10, none⟩ = some (.pointer (some ⟨x.v, 0, none⟩)) := H.out.ocell HS.out hj (m := 10) (by omega) rfl
    go_enter Try.func73, Try.ntmps73
    go_wp2_with fail
    refine (rat_at r o C x j hj _ H.out).mono ?_
    rintro e w1 ⟨rfl, hw⟩
    subst hw
    go_wp2_with fail
    refine (rinject_any x.v x.R irq pr lv _ (H.out.vg x (List.mem_of_getElem? hj))).mono ?_
    rintro e w2 ⟨rfl, ⟨R', hv, ht⟩, hu⟩
    have HF : Hid (Rtp _ w2 o r { C.to with all := updQ C.to.all x.id (some { x.ax with S := (injV x.R.to irq pr lv).1 }) }) := Lib.hid (by
      obtain ⟨h1, h2⟩ := H.out.stv hj hu R' hv
      refine ⟨o, _, h1, ?_, Ext.refl _ _, h2⟩
      rw [rto_set (x' := { x with R := R' }) H.out hj rfl, ← ht]; rfl)
    clear hv hu ht
    go_wp2_with fail
    go_ret
    exact ⟨rfl, HF.out⟩
end Go.Proofs.Ytnebjbjdgfaooaa
