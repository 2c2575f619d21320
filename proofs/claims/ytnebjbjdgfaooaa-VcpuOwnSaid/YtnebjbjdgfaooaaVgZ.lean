/- The contract of the law's awake: the chapter's example; no condition. -/
import Derived.Test.YtnebjbjdgfaooaaVgD
namespace Go.Proofs.Ytnebjbjdgfaooaa
open Go.RowKit Go.Maps
set_option maxRecDepth 100000
theorem below_upd {w a b : World} {v mp ma : Nat} (h : Below w.heap.size w a) (u : Upd (Vb v mp ma) a b) (h1 : w.heap.size ≤ v) (h2 : w.heap.size ≤ mp) (h3 : w.heap.size ≤ ma) : Below w.heap.size w b :=
  h.trans ⟨u.os, u.tape, u.output, u.size, fun k hk => u.block k (by have := h.size; omega) (by rintro (e | e | e) <;> omega)⟩
theorem below_drew {w a b : World} (h : Below w.heap.size w a) (e : ∃ k, b = a.drewN k) : Below w.heap.size w b := by
  obtain ⟨k, rfl⟩ := e; exact below_drewN h k
theorem VgAt.drew' {a b : World} {v mp ma : Nat} {S : Vm} (h : VgAt a v mp ma S) (e : ∃ k, b = a.drewN k) : VgAt b v mp ma S := by
  obtain ⟨k, rfl⟩ := e; exact h.drewN k
def z1 : Vm := (injV (V0 1) 7 20 true).1
def z2 : Vm := (injV z1 3 20 false).1
def z3 : Vm := (ackV z2).1
def z4 : Vm := (injV z3 5 4 true).1
def z5 : Vm := (ackV z4).1
theorem ez1 : (injV (V0 1) 7 20 true).2 = 0 := by kernel_rfl
theorem ez2 : (injV z1 3 20 false).2 = 0 := by kernel_rfl
theorem ez3 : injV z2 7 1 false = (z2, 80) := by kernel_rfl
theorem ez4 : (ackV z2).2 = 3 := by kernel_rfl
theorem ez5 : (ackV z3).2 = 1023 := by kernel_rfl
theorem ez6 : (injV (ackV z3).1 5 4 true).2 = 0 := by kernel_rfl
theorem ez7 : (ackV (injV (ackV z3).1 5 4 true).1).2 = 5 := by kernel_rfl
theorem ez8 : (endV (ackV (injV (ackV z3).1 5 4 true).1).1 5).2 = (true, 0) := by kernel_rfl
def zA : LrE := ⟨3, 20, false, true, false⟩
def zB : LrE := ⟨7, 20, true, true, false⟩
theorem z2_pe (i : Nat) : z2.pe i = if i = 3 then some (20, false) else if i = 7 then some (20, true) else none := rfl
theorem z2_ac (i : Nat) : z2.ac i = none := rfl
theorem awake_first {n : Nat} {g : Nat → LrE} (h : IsAll z2.pe z2.ac n g) : n = 2 ∧ g 0 = zA := by
  have hn : n = 2 := by rw [h.1]; kernel_rfl
  subst hn
  refine ⟨rfl, ?_⟩
  have hu := h.uniq (g' := fun j => if j = 0 then zA else zB) (fun i j _ h1 h2 => ?_) (fun j hj => ?_) (fun i hi x hx => ?_)
  · exact hu 0 (by omega)
  · obtain rfl : i = 0 := by omega
    obtain rfl : j = 1 := by omega
    exact Or.inr ⟨rfl, by decide⟩
  · rcases (by omega : j = 0 ∨ j = 1) with rfl | rfl
    · exact ⟨3, by omega, rfl⟩
    · exact ⟨7, by omega, rfl⟩
  · by_cases e3 : i = 3
    · subst e3; cases hx; exact ⟨0, by omega, rfl⟩
    · by_cases e7 : i = 7
      · subst e7; cases hx; exact ⟨1, by omega, rfl⟩
      · exfalso
        simp only [lrOf, z2_ac, z2_pe, if_neg e3, if_neg e7] at hx
        cases hx
theorem LrSl.alloc {w : World} {base : Nat} {sl : Value} {n : Nat} {g : Nat → LrE} (h : LrSl w base sl n g) (o : Obj) : LrSl (w.alloc o) base sl n g := by
  rcases h with h | ⟨q, cap, M, h1, h2, h3, h4⟩
  · exact Or.inl h
  · exact Or.inr ⟨q, cap, M, h1, h2, h3, h4.alloc o⟩
theorem LrSl.below {w w' : World} {base : Nat} {sl : Value} {n : Nat} {g : Nat → LrE} (h : LrSl w base sl n g) (u : Below w.heap.size w w') : LrSl w' base sl n g := by
  rcases h with h | ⟨q, cap, M, h1, h2, h3, h4⟩
  · exact Or.inl h
  · exact Or.inr ⟨q, cap, M, h1, h2, h3, h4.below u⟩
theorem lit_sl (w : World) : LrSl (w.alloc (.cells #[.int .i64 3, .int .i64 20, .bool false, .bool true, .bool false] 48)) 0 (.slice (some ⟨w.heap.size, 0, none⟩) 1 1) 1 (fun _ => zA) := by
  refine Or.inr ⟨w.heap.size, 1, 5, rfl, Nat.le_refl _, Nat.zero_le _, lcell (fun _ => zA), row_new_of w _ 48 5 _ rfl, by omega, fun k _ => rfl⟩
set_option maxHeartbeats 4000000 in
theorem vawake_any (w : World) : Calls Try.prog 14 #[] w fun e w' => e = .returned (.bool true) ∧ Below w.heap.size w w' := by
  go_enter Try.func14, Try.ntmps14
  go_wp2_with fail
  refine (vnew_ok 1 (by omega) (by omega) _).mono ?_
  rintro e w0 ⟨v, mp, ma, rfl, hv, hz1, hz2, hz3, hb⟩
  have H0 := Lib.hid hv
  have B0 := Lib.hid hb
  have zv : w.heap.size ≤ v := hz1
  have zp : w.heap.size ≤ mp := hz2
  have za : w.heap.size ≤ ma := hz3
  clear hv hb hz1 hz2 hz3
  go_wp2_with fail
  refine (inject_any v mp ma (V0 1) 7 20 true _ H0.out).mono ?_
  rintro e w1 ⟨rfl, hv, hu⟩
  rw [ez1]
  have H1 := Lib.hid hv
  have B1 := Lib.hid (below_upd B0.out hu zv zp za)
  clear hv hu H0 B0
  go_wp2_with fail
  refine (inject_any v mp ma z1 3 20 false _ H1.out).mono ?_
  rintro e w2 ⟨rfl, hv, hu⟩
  rw [ez2]
  have H2 := Lib.hid hv
  have B2 := Lib.hid (below_upd B1.out hu zv zp za)
  clear hv hu H1 B1
  go_wp2_with fail
  refine (inject_any v mp ma z2 7 1 false _ H2.out).mono ?_
  rintro e w3 ⟨rfl, hv, hu⟩
  rw [ez3] at hv
  rw [ez3]
  have H3 : Hid (VgAt w3 v mp ma z2) := Lib.hid hv
  have B3 := Lib.hid (below_upd B2.out hu zv zp za)
  clear hv hu H2 B2
  go_wp2_with fail
  refine (vlrs_any v mp ma z2 _ H3.out (by decide)).mono ?_
  rintro e w4 ⟨⟨sl, n, g, rfl, hall, hsl⟩, hb⟩
  obtain ⟨rfl, hg0⟩ := awake_first hall
  have H4 := Lib.hid (H3.out.below hb)
  have B4 := Lib.hid (B3.out.trans (hb.mono B3.out.size))
  have HS : Hid (LrSl w4 w3.heap.size sl 1 g) := Lib.hid hsl
  have HG := Lib.hid hg0
  clear hall hsl hb H3 B3 hg0
  go_wp2_with fail
  refine (lists_eq sl _ 1 _ _ g (fun _ => zA) _ (by exact HS.out.alloc _) (by exact lit_sl w4) (fun i hi => (show i = 0 by omega) ▸ HG.out) (by omega)).mono ?_
  rintro e w5 ⟨rfl, hk⟩
  have H5 : Hid (VgAt w5 v mp ma z2) := Lib.hid (VgAt.drew' (H4.out.alloc _) hk)
  have B5 : Hid (Below w.heap.size w w5) := Lib.hid (below_drew (B4.out.alloc B4.out.size _) hk)
  clear hk H4 B4 HS HG
  go_wp2_with fail
  refine (vack_any v mp ma z2 _ H5.out).mono ?_
  rintro e w6 ⟨rfl, hv, hu⟩
  rw [ez4]
  have H6 := Lib.hid hv
  have B6 := Lib.hid (below_upd B5.out hu zv zp za)
  clear hv hu H5 B5
  go_wp2_with fail
  refine (vack_any v mp ma z3 _ H6.out).mono ?_
  rintro e w7 ⟨rfl, hv, hu⟩
  rw [ez5]
  have H7 := Lib.hid hv
  have B7 := Lib.hid (below_upd B6.out hu zv zp za)
  clear hv hu H6 B6
  go_wp2_with fail
  refine (inject_any v mp ma (ackV z3).1 5 4 true _ H7.out).mono ?_
  rintro e w8 ⟨rfl, hv, hu⟩
  rw [ez6]
  have H8 := Lib.hid hv
  have B8 := Lib.hid (below_upd B7.out hu zv zp za)
  clear hv hu H7 B7
  go_wp2_with fail
  refine (vack_any v mp ma (injV (ackV z3).1 5 4 true).1 _ H8.out).mono ?_
  rintro e w9 ⟨rfl, hv, hu⟩
  rw [ez7]
  have H9 := Lib.hid hv
  have B9 := Lib.hid (below_upd B8.out hu zv zp za)
  clear hv hu H8 B8
  go_wp2_with fail
  refine (vend_any v mp ma (ackV (injV (ackV z3).1 5 4 true).1).1 5 _ H9.out).mono ?_
  rw [ez8]
  rintro e w10 ⟨rfl, hv, hu⟩
  have B10 := Lib.hid (below_upd B9.out hu zv zp za)
  clear hv hu H9 B9
  go_wp2_with fail
  refine (vnew_err 17 (by omega) _).mono ?_
  rintro e w11 ⟨rfl, rfl⟩
  go_wp2_with fail
  go_ret
  exact ⟨rfl, B10.out⟩
end Go.Proofs.Ytnebjbjdgfaooaa
