/- The reference's virtual interrupts in memory; the contracts of its New, is, Inject, Enable, SetMask, End, Running, with no condition on their numbers. -/
import Derived.Test.YtnebjbjdgfaooaaVgZ
namespace Go.Proofs.Ytnebjbjdgfaooaa
open Go.RowKit Go.Maps
set_option maxRecDepth 100000
/-- The reference: of each number whether it is off, pending, active; the priorities and flags of both; counts. -/
structure Rm where
  lrs : Int
  mask : Int
  inj : Int
  ak : Int
  en : Int
  off : Nat → Bool
  pe : Nat → Bool
  ac : Nat → Bool
  P : Nat → Int
  A : Nat → Int
  lv : Nat → Bool
  fl : Nat → Bool
/-- What it says. -/
def Rm.to (R : Rm) : Vm := ⟨R.lrs, R.mask, R.inj, R.ak, R.en, R.off, fun i => if R.pe i = true then some (R.P i, R.lv i) else none, fun i => if R.ac i = true then some (R.A i, R.fl i) else none⟩
def fcell (R : Rm) (k : Nat) : Value :=
  if k < 448 then (if k % 7 = 0 then .bool (R.off (k / 7)) else if k % 7 = 1 then .bool (R.pe (k / 7)) else if k % 7 = 2 then .bool (R.ac (k / 7)) else if k % 7 = 3 then .int .i64 (R.P (k / 7))
    else if k % 7 = 4 then .int .i64 (R.A (k / 7)) else if k % 7 = 5 then .bool (R.lv (k / 7)) else .bool (R.fl (k / 7)))
  else if k = 448 then .int .i64 R.lrs else if k = 449 then .int .i64 R.mask else if k = 450 then .int .i64 R.inj else if k = 451 then .int .i64 R.ak else .int .i64 R.en
def RfAt (w : World) (b : Nat) (R : Rm) : Prop := RowAt w b 62 453 (fcell R)
def updN {α : Type} (f : Nat → α) (n : Nat) (v : α) : Nat → α := fun k => if k = n then v else f k
theorem updN_same {α : Type} (f : Nat → α) (n : Nat) (v : α) : updN f n v n = v := by simp [updN]
theorem updN_other {α : Type} (f : Nat → α) {n k : Nat} (v : α) (h : k ≠ n) : updN f n v k = f k := by simp [updN, h]
section
variable {w : World} {b : Nat} {R : Rm}
theorem fcell_off (R : Rm) {i : Nat} (hi : i < 64) : fcell R (i * 7) = .bool (R.off i) := by
  unfold fcell; rw [if_pos (by omega), if_pos (by omega), show (i * 7) / 7 = i by omega]
theorem RfAt.c_off (h : RfAt w b R) {i : Nat} (hi : i < 64) : w.cell? ⟨b, i * 7, none⟩ = some (.bool (R.off i)) := by
  rw [← fcell_off R hi]; exact RowAt.cell h _ (by omega)
theorem RfAt.set_off (h : RfAt w b R) {i : Nat} (hi : i < 64) (v : Bool) : RfAt (w.setCell ⟨b, i * 7, none⟩ (.bool (v))) b { R with off := updN R.off i v } := by
  refine (RowAt.set h (i * 7) _).congr fun k hk => ?_
  simp only [fcell, updN]
  repeat' split
  all_goals first | rfl | (exfalso; omega)
theorem fcell_pe (R : Rm) {i : Nat} (hi : i < 64) : fcell R (i * 7 + 1) = .bool (R.pe i) := by
  unfold fcell; rw [if_pos (by omega), if_neg (by omega), if_pos (by omega), show (i * 7 + 1) / 7 = i by omega]
theorem RfAt.c_pe (h : RfAt w b R) {i : Nat} (hi : i < 64) : w.cell? ⟨b, i * 7 + 1, none⟩ = some (.bool (R.pe i)) := by
  rw [← fcell_pe R hi]; exact RowAt.cell h _ (by omega)
theorem RfAt.set_pe (h : RfAt w b R) {i : Nat} (hi : i < 64) (v : Bool) : RfAt (w.setCell ⟨b, i * 7 + 1, none⟩ (.bool (v))) b { R with pe := updN R.pe i v } := by
  refine (RowAt.set h (i * 7 + 1) _).congr fun k hk => ?_
  simp only [fcell, updN]
  repeat' split
  all_goals first | rfl | (exfalso; omega)
theorem fcell_ac (R : Rm) {i : Nat} (hi : i < 64) : fcell R (i * 7 + 2) = .bool (R.ac i) := by
  unfold fcell; rw [if_pos (by omega), if_neg (by omega), if_neg (by omega), if_pos (by omega), show (i * 7 + 2) / 7 = i by omega]
theorem RfAt.c_ac (h : RfAt w b R) {i : Nat} (hi : i < 64) : w.cell? ⟨b, i * 7 + 2, none⟩ = some (.bool (R.ac i)) := by
  rw [← fcell_ac R hi]; exact RowAt.cell h _ (by omega)
theorem RfAt.set_ac (h : RfAt w b R) {i : Nat} (hi : i < 64) (v : Bool) : RfAt (w.setCell ⟨b, i * 7 + 2, none⟩ (.bool (v))) b { R with ac := updN R.ac i v } := by
  refine (RowAt.set h (i * 7 + 2) _).congr fun k hk => ?_
  simp only [fcell, updN]
  repeat' split
  all_goals first | rfl | (exfalso; omega)
theorem fcell_P (R : Rm) {i : Nat} (hi : i < 64) : fcell R (i * 7 + 3) = .int .i64 (R.P i) := by
  unfold fcell; rw [if_pos (by omega), if_neg (by omega), if_neg (by omega), if_neg (by omega), if_pos (by omega), show (i * 7 + 3) / 7 = i by omega]
theorem RfAt.c_P (h : RfAt w b R) {i : Nat} (hi : i < 64) : w.cell? ⟨b, i * 7 + 3, none⟩ = some (.int .i64 (R.P i)) := by
  rw [← fcell_P R hi]; exact RowAt.cell h _ (by omega)
theorem RfAt.set_P (h : RfAt w b R) {i : Nat} (hi : i < 64) (v : Int) : RfAt (w.setCell ⟨b, i * 7 + 3, none⟩ (.int .i64 (v))) b { R with P := updN R.P i v } := by
  refine (RowAt.set h (i * 7 + 3) _).congr fun k hk => ?_
  simp only [fcell, updN]
  repeat' split
  all_goals first | rfl | (exfalso; omega)
theorem fcell_A (R : Rm) {i : Nat} (hi : i < 64) : fcell R (i * 7 + 4) = .int .i64 (R.A i) := by
  unfold fcell; rw [if_pos (by omega), if_neg (by omega), if_neg (by omega), if_neg (by omega), if_neg (by omega), if_pos (by omega), show (i * 7 + 4) / 7 = i by omega]
theorem RfAt.c_A (h : RfAt w b R) {i : Nat} (hi : i < 64) : w.cell? ⟨b, i * 7 + 4, none⟩ = some (.int .i64 (R.A i)) := by
  rw [← fcell_A R hi]; exact RowAt.cell h _ (by omega)
theorem RfAt.set_A (h : RfAt w b R) {i : Nat} (hi : i < 64) (v : Int) : RfAt (w.setCell ⟨b, i * 7 + 4, none⟩ (.int .i64 (v))) b { R with A := updN R.A i v } := by
  refine (RowAt.set h (i * 7 + 4) _).congr fun k hk => ?_
  simp only [fcell, updN]
  repeat' split
  all_goals first | rfl | (exfalso; omega)
theorem fcell_lv (R : Rm) {i : Nat} (hi : i < 64) : fcell R (i * 7 + 5) = .bool (R.lv i) := by
  unfold fcell; rw [if_pos (by omega), if_neg (by omega), if_neg (by omega), if_neg (by omega), if_neg (by omega), if_neg (by omega), if_pos (by omega), show (i * 7 + 5) / 7 = i by omega]
theorem RfAt.c_lv (h : RfAt w b R) {i : Nat} (hi : i < 64) : w.cell? ⟨b, i * 7 + 5, none⟩ = some (.bool (R.lv i)) := by
  rw [← fcell_lv R hi]; exact RowAt.cell h _ (by omega)
theorem RfAt.set_lv (h : RfAt w b R) {i : Nat} (_hi : i < 64) (v : Bool) : RfAt (w.setCell ⟨b, i * 7 + 5, none⟩ (.bool (v))) b { R with lv := updN R.lv i v } := by
  refine (RowAt.set h (i * 7 + 5) _).congr fun k hk => ?_
  simp only [fcell, updN]
  repeat' split
  all_goals first | rfl | (exfalso; omega)
theorem fcell_fl (R : Rm) {i : Nat} (hi : i < 64) : fcell R (i * 7 + 6) = .bool (R.fl i) := by
  unfold fcell; rw [if_pos (by omega), if_neg (by omega), if_neg (by omega), if_neg (by omega), if_neg (by omega), if_neg (by omega), if_neg (by omega), show (i * 7 + 6) / 7 = i by omega]
theorem RfAt.c_fl (h : RfAt w b R) {i : Nat} (hi : i < 64) : w.cell? ⟨b, i * 7 + 6, none⟩ = some (.bool (R.fl i)) := by
  rw [← fcell_fl R hi]; exact RowAt.cell h _ (by omega)
theorem RfAt.set_fl (h : RfAt w b R) {i : Nat} (_hi : i < 64) (v : Bool) : RfAt (w.setCell ⟨b, i * 7 + 6, none⟩ (.bool (v))) b { R with fl := updN R.fl i v } := by
  refine (RowAt.set h (i * 7 + 6) _).congr fun k hk => ?_
  simp only [fcell, updN]
  repeat' split
  all_goals first | rfl | (exfalso; omega)
theorem RfAt.c_lrs (h : RfAt w b R) : w.cell? ⟨b, 448, none⟩ = some (.int .i64 R.lrs) := RowAt.cell h 448 (by omega)
theorem RfAt.set_lrs (h : RfAt w b R) (v : Int) : RfAt (w.setCell ⟨b, 448, none⟩ (.int .i64 v)) b { R with lrs := v } := by
  refine (RowAt.set h 448 _).congr fun k hk => ?_
  simp only [fcell]
  repeat' split
  all_goals first | rfl | (exfalso; omega)
theorem RfAt.c_mask (h : RfAt w b R) : w.cell? ⟨b, 449, none⟩ = some (.int .i64 R.mask) := RowAt.cell h 449 (by omega)
theorem RfAt.set_mask (h : RfAt w b R) (v : Int) : RfAt (w.setCell ⟨b, 449, none⟩ (.int .i64 v)) b { R with mask := v } := by
  refine (RowAt.set h 449 _).congr fun k hk => ?_
  simp only [fcell]
  repeat' split
  all_goals first | rfl | (exfalso; omega)
theorem RfAt.c_inj (h : RfAt w b R) : w.cell? ⟨b, 450, none⟩ = some (.int .i64 R.inj) := RowAt.cell h 450 (by omega)
theorem RfAt.set_inj (h : RfAt w b R) (v : Int) : RfAt (w.setCell ⟨b, 450, none⟩ (.int .i64 v)) b { R with inj := v } := by
  refine (RowAt.set h 450 _).congr fun k hk => ?_
  simp only [fcell]
  repeat' split
  all_goals first | rfl | (exfalso; omega)
theorem RfAt.c_ak (h : RfAt w b R) : w.cell? ⟨b, 451, none⟩ = some (.int .i64 R.ak) := RowAt.cell h 451 (by omega)
theorem RfAt.set_ak (h : RfAt w b R) (v : Int) : RfAt (w.setCell ⟨b, 451, none⟩ (.int .i64 v)) b { R with ak := v } := by
  refine (RowAt.set h 451 _).congr fun k hk => ?_
  simp only [fcell]
  repeat' split
  all_goals first | rfl | (exfalso; omega)
theorem RfAt.c_en (h : RfAt w b R) : w.cell? ⟨b, 452, none⟩ = some (.int .i64 R.en) := RowAt.cell h 452 (by omega)
theorem RfAt.set_en (h : RfAt w b R) (v : Int) : RfAt (w.setCell ⟨b, 452, none⟩ (.int .i64 v)) b { R with en := v } := by
  refine (RowAt.set h 452 _).congr fun k hk => ?_
  simp only [fcell]
  repeat' split
  all_goals first | rfl | (exfalso; omega)
theorem RfAt.frozen (h : RfAt w b R) (k : Nat) : w.frozen? ⟨b, k, none⟩ = false := RowAt.frozen h k
theorem RfAt.lt (h : RfAt w b R) : b < w.heap.size := RowAt.lt h
theorem RfAt.kept {w' : World} {X : Nat → Prop} (h : RfAt w b R) (u : Upd X w w') (hn : ¬ X b) : RfAt w' b R := RowAt.kept h u hn
theorem RfAt.below {w' : World} (h : RfAt w b R) (u : Below w.heap.size w w') : RfAt w' b R := h.kept (X := fun _ => False) (Upd.of_below u) (fun h => h)
theorem RfAt.alloc (h : RfAt w b R) (o : Obj) : RfAt (w.alloc o) b R := RowAt.alloc h o
theorem RfAt.drewN (h : RfAt w b R) (m : Nat) : RfAt (w.drewN m) b R := h
theorem RfAt.drew (h : RfAt w b R) : RfAt w.drew b R := h
theorem RfAt.other (h : RfAt w b R) {p : Addr} (hp : p.block ≠ b) (v : Value) : RfAt (w.setCell p v) b R := RowAt.other h hp v
end
/-- A pending one more. -/
theorem to_inj {R : Rm} (i : Nat) (p : Int) (l : Bool) (x : Int) : Rm.to { R with pe := updN R.pe i true, P := updN R.P i p, lv := updN R.lv i l, inj := x } = { R.to with pe := updM R.to.pe i (some (p, l)), inj := x } := by
  have e : (Rm.to { R with pe := updN R.pe i true, P := updN R.P i p, lv := updN R.lv i l, inj := x }).pe = updM R.to.pe i (some (p, l)) := by
    funext j
    by_cases h : j = i
    · subst h; rw [updM_same]; simp [Rm.to, updN_same]
    · rw [updM_other _ _ h]; simp [Rm.to, updN_other _ _ h]
  rw [← e]; rfl
theorem to_end {R : Rm} (i : Nat) (x : Int) : Rm.to { R with ac := updN R.ac i false, en := x } = { R.to with ac := updM R.to.ac i none, en := x } := by
  have e : (Rm.to { R with ac := updN R.ac i false, en := x }).ac = updM R.to.ac i none := by
    funext j
    by_cases h : j = i
    · subst h; rw [updM_same]; simp [Rm.to, updN_same]
    · rw [updM_other _ _ h]; simp [Rm.to, updN_other _ _ h]
  rw [← e]; rfl
theorem to_ack {R : Rm} (i : Nat) (x : Int) : Rm.to { R with pe := updN R.pe i false, ac := updN R.ac i true, A := updN R.A i (R.P i), fl := updN R.fl i (R.lv i), ak := x } = { R.to with ac := updM R.to.ac i (some (R.P i, R.lv i)), pe := updM R.to.pe i none, ak := x } := by
  have e : (Rm.to { R with pe := updN R.pe i false, ac := updN R.ac i true, A := updN R.A i (R.P i), fl := updN R.fl i (R.lv i), ak := x }).ac = updM R.to.ac i (some (R.P i, R.lv i)) := by
    funext j
    by_cases h : j = i
    · subst h; rw [updM_same]; simp [Rm.to, updN_same]
    · rw [updM_other _ _ h]; simp [Rm.to, updN_other _ _ h]
  have e2 : (Rm.to { R with pe := updN R.pe i false, ac := updN R.ac i true, A := updN R.A i (R.P i), fl := updN R.fl i (R.lv i), ak := x }).pe = updM R.to.pe i none := by
    funext j
    by_cases h : j = i
    · subst h; rw [updM_same]; simp [Rm.to, updN_same]
    · rw [updM_other _ _ h]; simp [Rm.to, updN_other _ _ h]
  rw [← e, ← e2]; rfl
theorem to_off {R : Rm} (i : Nat) (x : Bool) : Rm.to { R with off := updN R.off i x } = { R.to with off := fun k => if k = i then x else R.to.off k } := rfl
theorem pe_some {R : Rm} (i : Nat) : (R.to.pe i).isSome = R.pe i := by simp only [Rm.to]; cases R.pe i <;> rfl
theorem ac_some {R : Rm} (i : Nat) : (R.to.ac i).isSome = R.ac i := by simp only [Rm.to]; cases R.ac i <;> rfl
def R0 (L : Int) : Rm := ⟨L, 256, 0, 0, 0, fun _ => false, fun _ => false, fun _ => false, fun _ => 0, fun _ => 0, fun _ => false, fun _ => false⟩
theorem to_R0 (L : Int) : (R0 L).to = V0 L := rfl
theorem fcells (L : Int) : ((Try.zeroCells62.setIfInBounds 448 (.int .i64 L)).setIfInBounds 449 (.int .i64 256)) = ((List.range 453).map (fcell (R0 L))).toArray := by kernel_rfl
set_option maxHeartbeats 4000000 in
theorem rnew_ok (L : Int) (h1 : 1 ≤ L) (h2 : L ≤ 16) (w : World) : Calls Try.prog 22 #[.int .i64 L] w fun e w' => ∃ b R, e = .returned (.tuple #[.pointer (some ⟨b, 0, none⟩), .int .i64 0]) ∧ RfAt w' b R ∧ R.to = V0 L ∧ w.heap.size ≤ b ∧ Below w.heap.size w w' := by
  go_enter Try.func22, Try.ntmps22
  go_wp2_with fail
  go_ret2
  exact ⟨w.heap.size, R0 L, rfl, row_new_of w _ 62 453 (fcell (R0 L)) (fcells L), to_R0 L, Nat.le_refl _, (Below.refl _ _).alloc (Nat.le_refl _) _⟩
theorem rnew_err (L : Int) (h : ¬ (1 ≤ L ∧ L ≤ 16)) (w : World) : Calls Try.prog 22 #[.int .i64 L] w fun e w' => e = .returned (.tuple #[.pointer none, .int .i64 1]) ∧ w = w' := by
  by_cases h1 : L < 1
  · have d1 : decide (L < 1) = true := by simpa using h1
    go_enter Try.func22, Try.ntmps22
    go_wp2_with fail
    go_ret2
    simp
  · have d1 : decide (L < 1) = false := by simpa using h1
    have h2 : 16 < L := by omega
    have d2 : decide (16 < L) = true := by simpa using h2
    go_enter Try.func22, Try.ntmps22
    go_wp2_with fail
    go_ret2
    simp
theorem ris_any (id : Int) (w : World) : Calls Try.prog 82 #[.int .i64 id] w fun e w' => e = .returned (.bool (decide (0 ≤ id ∧ id < 64))) ∧ w = w' := by
  by_cases h1 : 0 ≤ id
  · have d1 : decide (0 ≤ id) = true := by simpa using h1
    go_enter Try.func82, Try.ntmps82
    go_wp2_with fail
    go_ret
    go_light
    simp [h1]
  · have d1 : decide (0 ≤ id) = false := by simpa using h1
    go_enter Try.func82, Try.ntmps82
    go_wp2_with fail
    go_ret
    go_light
    simp
    try omega
def Ob (b : Nat) (k : Nat) : Prop := k = b
theorem Upd.rrow {w0 w : World} {b : Nat} (u : Upd (Ob b) w0 w) (k : Nat) (x : Value) : Upd (Ob b) w0 (w.setCell ⟨b, k, none⟩ x) := u.setCell (Or.inl (show Ob b b from rfl)) _
set_option maxHeartbeats 8000000 in
theorem rinject_any (b : Nat) (R : Rm) (id p : Int) (l : Bool) (w : World) (h : RfAt w b R) :
    Calls Try.prog 51 #[.pointer (some ⟨b, 0, none⟩), .int .i64 id, .int .i64 p, .bool l] w fun e w' => e = .returned (.int .i64 (injV R.to id p l).2) ∧ (∃ R', RfAt w' b R' ∧ R'.to = (injV R.to id p l).1) ∧ Upd (Ob b) w w' := by
  have H := Lib.hid h; clear h
  have z0 := H.out.lt
  by_cases hc : 0 ≤ id ∧ id < 64 ∧ 0 ≤ p ∧ p < 256
  · obtain ⟨i0, i1, p0, p1⟩ := hc
    obtain ⟨i, rfl⟩ := Int.eq_ofNat_of_zero_le i0
    have hi : i < 64 := by omega
    have hd : decide (0 ≤ (i : Int) ∧ (i : Int) < 64) = true := by simp; omega
    have dp0 : decide (p < 0) = false := by simpa using p0
    have dp1 : decide (255 < p) = false := by simp; omega
    have e1 : ¬ p < 0 := by omega
    have e2 : ¬ 255 < p := by omega
    have hI : injV R.to i p l = if (R.to.pe i).isSome = true then (R.to, 80) else ({ R.to with pe := updM R.to.pe i (some (p, l)), inj := wr (R.to.inj + 1) }, 0) := by
      unfold injV; rw [if_pos ⟨i0, i1, p0, p1⟩, Int.toNat_natCast]
    rw [pe_some i] at hI
    have hf := H.out.frozen
    have c1 := H.out.c_pe hi
    cases hs : R.pe i
    · rw [hs] at hI c1
      simp only [Bool.false_eq_true, if_false] at hI
      rw [hI]
      clear hI
      have ci := H.out.c_inj
      have c3 := H.out.c_P hi
      have c5 := H.out.c_lv hi
      go_enter Try.func51, Try.ntmps51
      go_wp2_with (go_at_call 82; refine (ris_any _ _).mono ?_; rintro e w1 ⟨rfl, rfl⟩; rw [hd])
      go_ret
      go_light
      exact ⟨rfl, ⟨_, (((H.out.set_pe hi true).set_P hi p).set_lv hi l).set_inj _, to_inj (R := R) i p l _⟩, ((((Upd.refl _ _).rrow _ _).rrow _ _).rrow _ _).rrow _ _⟩
    · rw [hs] at hI c1
      simp only [if_true] at hI
      rw [hI]
      clear hI
      go_enter Try.func51, Try.ntmps51
      go_wp2_with (go_at_call 82; refine (ris_any _ _).mono ?_; rintro e w1 ⟨rfl, rfl⟩; rw [hd])
      go_ret
      go_light
      exact ⟨rfl, ⟨R, H.out, rfl⟩, Upd.refl _ _⟩
  · have hI : injV R.to id p l = (R.to, 1) := by unfold injV; rw [if_neg hc]
    rw [hI]
    clear hI
    by_cases hr : 0 ≤ id ∧ id < 64
    · have hd : decide (0 ≤ id ∧ id < 64) = true := by simpa using hr
      by_cases hp : p < 0
      · have dp0 : decide (p < 0) = true := by simpa using hp
        go_enter Try.func51, Try.ntmps51
        go_wp2_with (go_at_call 82; refine (ris_any _ _).mono ?_; rintro e w1 ⟨rfl, rfl⟩; rw [hd])
        go_ret
        go_light
        exact ⟨rfl, ⟨R, H.out, rfl⟩, Upd.refl _ _⟩
      · have dp0 : decide (p < 0) = false := by simpa using hp
        have hp2 : 255 < p := by omega
        have dp1 : decide (255 < p) = true := by simpa using hp2
        go_enter Try.func51, Try.ntmps51
        go_wp2_with (go_at_call 82; refine (ris_any _ _).mono ?_; rintro e w1 ⟨rfl, rfl⟩; rw [hd])
        go_ret
        go_light
        exact ⟨rfl, ⟨R, H.out, rfl⟩, Upd.refl _ _⟩
    · have hd : decide (0 ≤ id ∧ id < 64) = false := by simpa using hr
      go_enter Try.func51, Try.ntmps51
      go_wp2_with (go_at_call 82; refine (ris_any _ _).mono ?_; rintro e w1 ⟨rfl, rfl⟩; rw [hd])
      go_ret
      go_light
      exact ⟨rfl, ⟨R, H.out, rfl⟩, Upd.refl _ _⟩
set_option maxHeartbeats 8000000 in
theorem renable_any (b : Nat) (R : Rm) (id : Int) (on : Bool) (w : World) (h : RfAt w b R) :
    Calls Try.prog 52 #[.pointer (some ⟨b, 0, none⟩), .int .i64 id, .bool on] w fun e w' => e = .returned (.int .i64 (enaV R.to id on).2) ∧ (∃ R', RfAt w' b R' ∧ R'.to = (enaV R.to id on).1) ∧ Upd (Ob b) w w' := by
  have H := Lib.hid h; clear h
  by_cases hr : 0 ≤ id ∧ id < 64
  · have hd : decide (0 ≤ id ∧ id < 64) = true := by simpa using hr
    obtain ⟨i, rfl⟩ := Int.eq_ofNat_of_zero_le hr.1
    have hi : i < 64 := by omega
    have hI : enaV R.to i on = ({ R.to with off := fun k => if k = i then !on else R.to.off k }, 0) := by unfold enaV; rw [if_pos hr, Int.toNat_natCast]
    rw [hI]
    clear hI
    have hf := H.out.frozen
    have c0 := H.out.c_off hi
    have hi64 : (i : Int) < 64 := by omega
    go_enter Try.func52, Try.ntmps52
    go_wp2_with (go_at_call 82; refine (ris_any _ _).mono ?_; rintro e w1 ⟨rfl, rfl⟩; rw [hd])
    go_ret
    go_light
    exact ⟨rfl, ⟨_, H.out.set_off hi _, rfl⟩, (Upd.refl _ _).rrow _ _⟩
  · have hd : decide (0 ≤ id ∧ id < 64) = false := by simpa using hr
    have hI : enaV R.to id on = (R.to, 1) := by unfold enaV; rw [if_neg hr]
    rw [hI]
    clear hI
    go_enter Try.func52, Try.ntmps52
    go_wp2_with (go_at_call 82; refine (ris_any _ _).mono ?_; rintro e w1 ⟨rfl, rfl⟩; rw [hd])
    go_ret
    go_light
    exact ⟨rfl, ⟨R, H.out, rfl⟩, Upd.refl _ _⟩
set_option maxHeartbeats 8000000 in
theorem rsetmask_any (b : Nat) (R : Rm) (m : Int) (w : World) (h : RfAt w b R) :
    Calls Try.prog 53 #[.pointer (some ⟨b, 0, none⟩), .int .i64 m] w fun e w' => e = .returned (.int .i64 (maskV R.to m).2) ∧ (∃ R', RfAt w' b R' ∧ R'.to = (maskV R.to m).1) ∧ Upd (Ob b) w w' := by
  have H := Lib.hid h; clear h
  by_cases hr : 0 ≤ m ∧ m ≤ 256
  · have hI : maskV R.to m = ({ R.to with mask := m }, 0) := by unfold maskV; rw [if_pos hr]
    rw [hI]
    clear hI
    have dp0 : decide (m < 0) = false := by simp; omega
    have dp1 : decide (256 < m) = false := by simp; omega
    have c1 := H.out.c_mask
    have hf := H.out.frozen
    go_enter Try.func53, Try.ntmps53
    go_wp2_with fail
    go_ret
    go_light
    exact ⟨rfl, ⟨_, H.out.set_mask m, rfl⟩, (Upd.refl _ _).rrow _ _⟩
  · have hI : maskV R.to m = (R.to, 1) := by unfold maskV; rw [if_neg hr]
    rw [hI]
    clear hI
    by_cases hm : m < 0
    · have dp0 : decide (m < 0) = true := by simpa using hm
      go_enter Try.func53, Try.ntmps53
      go_wp2_with fail
      go_ret
      go_light
      exact ⟨rfl, ⟨R, H.out, rfl⟩, Upd.refl _ _⟩
    · have dp0 : decide (m < 0) = false := by simpa using hm
      have hm2 : 256 < m := by omega
      have dp1 : decide (256 < m) = true := by simpa using hm2
      go_enter Try.func53, Try.ntmps53
      go_wp2_with fail
      go_ret
      go_light
      exact ⟨rfl, ⟨R, H.out, rfl⟩, Upd.refl _ _⟩
set_option maxHeartbeats 8000000 in
theorem rend_any (b : Nat) (R : Rm) (id : Int) (w : World) (h : RfAt w b R) :
    Calls Try.prog 55 #[.pointer (some ⟨b, 0, none⟩), .int .i64 id] w fun e w' => e = .returned (.tuple #[.bool (endV R.to id).2.1, .int .i64 (endV R.to id).2.2]) ∧ (∃ R', RfAt w' b R' ∧ R'.to = (endV R.to id).1) ∧ Upd (Ob b) w w' := by
  have H := Lib.hid h; clear h
  by_cases hr : 0 ≤ id ∧ id < 64
  · have hd : decide (0 ≤ id ∧ id < 64) = true := by simpa using hr
    obtain ⟨i, rfl⟩ := Int.eq_ofNat_of_zero_le hr.1
    have hi : i < 64 := by omega
    have hf := H.out.frozen
    have c2 := H.out.c_ac hi
    have hi64 : (i : Int) < 64 := by omega
    cases hs : R.ac i
    · have ha : R.to.ac i = none := by simp [Rm.to, hs]
      have hI : endV R.to i = (R.to, false, 70) := by unfold endV; rw [if_pos hr, Int.toNat_natCast, ha]
      rw [hI]
      clear hI ha
      rw [hs] at c2
      go_enter Try.func55, Try.ntmps55
      go_wp2_with (go_at_call 82; refine (ris_any _ _).mono ?_; rintro e w1 ⟨rfl, rfl⟩; rw [hd])
      go_ret2
      exact ⟨rfl, ⟨R, H.out, rfl⟩, Upd.refl _ _⟩
    · have ha : R.to.ac i = some (R.A i, R.fl i) := by simp [Rm.to, hs]
      have hI : endV R.to i = ({ R.to with ac := updM R.to.ac i none, en := wr (R.to.en + 1) }, R.fl i, 0) := by unfold endV; rw [if_pos hr, Int.toNat_natCast, ha]
      rw [hI]
      clear hI ha
      rw [hs] at c2
      have ce := H.out.c_en
      have cf := H.out.c_fl hi
      go_enter Try.func55, Try.ntmps55
      go_wp2_with (go_at_call 82; refine (ris_any _ _).mono ?_; rintro e w1 ⟨rfl, rfl⟩; rw [hd])
      go_ret2
      exact ⟨rfl, ⟨_, (H.out.set_ac hi false).set_en _, to_end (R := R) i _⟩, ((Upd.refl _ _).rrow _ _).rrow _ _⟩
  · have hd : decide (0 ≤ id ∧ id < 64) = false := by simpa using hr
    have hI : endV R.to id = (R.to, false, 1) := by unfold endV; rw [if_neg hr]
    rw [hI]
    clear hI
    go_enter Try.func55, Try.ntmps55
    go_wp2_with (go_at_call 82; refine (ris_any _ _).mono ?_; rintro e w1 ⟨rfl, rfl⟩; rw [hd])
    go_ret2
    exact ⟨rfl, ⟨R, H.out, rfl⟩, Upd.refl _ _⟩
end Go.Proofs.Ytnebjbjdgfaooaa
