/- The contract of caps.Decode (function 35): the cap of a word, if its highest bit is none and it is right; else the zero cap and ErrKind; it makes new memory alone; no condition. -/
import Derived.Test.YtcbbmgohdcabeaaCapsE
import Derived.Test.YtcbbmgohdcabeaaMem
namespace Go.Proofs.Ytcbbmgohdcabeaa
open Go.RowKit
set_option maxRecDepth 100000

def fld (W : Int) : Nat → Int
  | 0 => W % 16
  | 1 => W / 16 % 1024
  | 2 => W / 16384 % 16
  | 3 => W / 262144 % 1048576
  | 4 => W / 274877906944 % 8
  | 5 => W / 70368744177664 % 65536
  | _ => W / 2199023255552 % 32
def dBit (W : Int) : Bool := W / 4611686018427387904 % 2 == 1
def dRank : Nat → Nat
  | 5 => 6
  | 6 => 5
  | j => j
def dcell (W : Int) (i j : Nat) : Value := if j = 7 then .bool (dBit W) else if dRank j < i then .int .i64 (fld W j) else .int .i64 0
def decOK (W : Int) : Bool := decide (W < 9223372036854775808) && rightB (fld W 0) (fld W 1) (fld W 2) (fld W 3) (fld W 4) (fld W 5) (fld W 6) (dBit W)
def capAgg (k o r b ra g gb : Int) (d : Bool) : Value := .agg #[.int .i64 k, .int .i64 o, .int .i64 r, .int .i64 b, .int .i64 ra, .int .i64 g, .int .i64 gb, .bool d]
def decV (W : Int) : Value := if decOK W then capAgg (fld W 0) (fld W 1) (fld W 2) (fld W 3) (fld W 4) (fld W 5) (fld W 6) (dBit W) else capAgg 0 0 0 0 0 0 0 false
def decE (W : Int) : Int := if decOK W then 0 else 141

theorem and_mask (x m : Int) (i : Nat) (hi : i ≤ 64) (hm : (2 : Int) ^ i - 1 = m) (h0 : 0 ≤ x) (h1 : x < 18446744073709551616) : bits .and .u64 x m = x % (m + 1) := by
  subst hm
  rw [bits_mask .u64 64 (by decide) wraps_u64 i hi x h0 (by simpa using h1)]
  congr 1; omega
theorem wrap_small (x : Int) (h0 : 0 ≤ x) (h1 : x < 9223372036854775808) : IntKind.i64.wrap x = x := by
  simp only [IntKind.wrap, IntKind.bits, IntKind.signed]; simp; omega
theorem row_new_of (w : World) (c : Array Value) (T : TypeId) (n : Nat) (f : Nat → Value) (hn : c.size = n) (h : ∀ k, k < n → c[k]?.getD undef = f k) : RowAt (w.alloc (.cells c T)) w.heap.size T n f := by
  subst hn; exact (RowAt.new w c T).congr h
theorem row_store8 {w : World} {b : Nat} {f : Nat → Value} (h : RowAt w b 23 8 f) (v0 v1 v2 v3 v4 v5 v6 v7 : Value) :
    RowAt ((((((((w.setCell ⟨b, 0, none⟩ v0).setCell ⟨b, 1, none⟩ v1).setCell ⟨b, 2, none⟩ v2).setCell ⟨b, 3, none⟩ v3).setCell ⟨b, 4, none⟩ v4).setCell ⟨b, 5, none⟩ v5).setCell ⟨b, 6, none⟩ v6).setCell ⟨b, 7, none⟩ v7) b 23 8
      (fun j => if j = 7 then v7 else if j = 6 then v6 else if j = 5 then v5 else if j = 4 then v4 else if j = 3 then v3 else if j = 2 then v2 else if j = 1 then v1 else v0) := by
  refine (RowAt.set (RowAt.set (RowAt.set (RowAt.set (RowAt.set (RowAt.set (RowAt.set (RowAt.set h 0 v0) 1 v1) 2 v2) 3 v3) 4 v4) 5 v5) 6 v6) 7 v7).congr fun j hj => ?_
  rcases (by omega : j = 0 ∨ j = 1 ∨ j = 2 ∨ j = 3 ∨ j = 4 ∨ j = 5 ∨ j = 6 ∨ j = 7) with rfl | rfl | rfl | rfl | rfl | rfl | rfl | rfl <;> rfl
theorem cells8 {w : World} {b : Nat} {v0 v1 v2 v3 v4 v5 v6 v7 : Value} (h : RowAt w b 23 8 (fun j => if j = 7 then v7 else if j = 6 then v6 else if j = 5 then v5 else if j = 4 then v4 else if j = 3 then v3 else if j = 2 then v2 else if j = 1 then v1 else v0)) :
    w.cell? ⟨b, 0, none⟩ = some v0 ∧ w.cell? ⟨b, 1, none⟩ = some v1 ∧ w.cell? ⟨b, 2, none⟩ = some v2 ∧ w.cell? ⟨b, 3, none⟩ = some v3 ∧ w.cell? ⟨b, 4, none⟩ = some v4 ∧ w.cell? ⟨b, 5, none⟩ = some v5 ∧ w.cell? ⟨b, 6, none⟩ = some v6 ∧ w.cell? ⟨b, 7, none⟩ = some v7 :=
  ⟨h.cell 0 (by omega), h.cell 1 (by omega), h.cell 2 (by omega), h.cell 3 (by omega), h.cell 4 (by omega), h.cell 5 (by omega), h.cell 6 (by omega), h.cell 7 (by omega)⟩
def zcell (j : Nat) : Value := if j = 7 then .bool false else .int .i64 0
theorem FieldsAt.upd {b o b1 b2 : Nat} {w w' : World} {S : Nat → Prop} (h : FieldsAt b o b1 b2 w) (u : Upd S w w') (h1 : ¬ S b1) (h2 : ¬ S b2) : FieldsAt b o b1 b2 w' := by
  have l1 : b1 < w.heap.size := by
    have := h.n0
    by_cases hl : b1 < w.heap.size
    · exact hl
    · simp [World.cell?, Array.getElem?_eq_none (by omega : w.heap.size ≤ b1)] at this
  have l2 : b2 < w.heap.size := by
    have := h.a0
    by_cases hl : b2 < w.heap.size
    · exact hl
    · simp [World.cell?, Array.getElem?_eq_none (by omega : w.heap.size ≤ b2)] at this
  have c1 : ∀ k, w'.cell? ⟨b1, k, none⟩ = w.cell? ⟨b1, k, none⟩ := fun k => u.cell l1 h1
  have c2 : ∀ k, w'.cell? ⟨b2, k, none⟩ = w.cell? ⟨b2, k, none⟩ := fun k => u.cell l2 h2
  constructor <;> (first | rw [c1] | rw [c2]) <;> first | exact h.n0 | exact h.n1 | exact h.n2 | exact h.n3 | exact h.n4 | exact h.n5 | exact h.n6 | exact h.a0 | exact h.z0 | exact h.a1 | exact h.z1 | exact h.a2 | exact h.z2 | exact h.a3 | exact h.z3 | exact h.a4 | exact h.z4 | exact h.a5 | exact h.z5 | exact h.a6 | exact h.z6
def dPlace : Nat → Nat
  | 5 => 6
  | 6 => 5
  | j => j
theorem dstep {w : World} {b : Nat} (W : Int) (i : Nat) (hi : i < 7) (h : RowAt w b 23 8 (dcell W i)) : RowAt (w.setCell ⟨b, dPlace i, none⟩ (.int .i64 (fld W (dPlace i)))) b 23 8 (dcell W (i + 1)) := by
  refine (RowAt.set h (dPlace i) _).congr fun j hj => ?_
  rcases (by omega : i = 0 ∨ i = 1 ∨ i = 2 ∨ i = 3 ∨ i = 4 ∨ i = 5 ∨ i = 6) with rfl | rfl | rfl | rfl | rfl | rfl | rfl <;>
  rcases (by omega : j = 0 ∨ j = 1 ∨ j = 2 ∨ j = 3 ∨ j = 4 ∨ j = 5 ∨ j = 6 ∨ j = 7) with rfl | rfl | rfl | rfl | rfl | rfl | rfl | rfl <;> rfl

set_option maxHeartbeats 8000000 in
theorem decode_any (W : Int) (h0 : 0 ≤ W) (h1 : W < 18446744073709551616) (w : World) :
    Calls Try.prog 35 #[.int .u64 W] w fun e w' => e = .returned (.tuple #[decV W, .int .i64 (decE W)]) ∧ Below w.heap.size w w' := by
  go_enter Try.func35, Try.ntmps35
  go_wp2_with fail
  have hd : bits .and .u64 (W / 4611686018427387904) 1 = W / 4611686018427387904 % 2 := by
    rw [and_mask _ 1 1 (by decide) (by decide) (by omega) (by omega)]; rfl
  rw [hd, show (W / 4611686018427387904 % 2 == 1) = dBit W from rfl]
  clear hd
  refine (fields_any _ _ _).mono ?_
  rintro e w2 ⟨b1, b2, rfl, hF, hz2, hg1, hg2, hb2⟩
  have HF := Lib.hid hF
  have g1 : ¬ b1 = w.heap.size + 1 := by simp at hg1; omega
  have g2 : ¬ b2 = w.heap.size + 1 := by simp at hg2; omega
  have hrow : RowAt w2 (w.heap.size + 1) 23 8 (dcell W 0) := by
    refine RowAt.kept (S := fun _ => False) ?_ (Upd.of_below hb2) (fun h => h)
    have hsz : ∀ o, (w.alloc o).heap.size = w.heap.size + 1 := fun o => by simp
    refine Eq.mp (congrArg (fun b => RowAt _ b 23 8 (dcell W 0)) (hsz _)) (row_new_of _ _ 23 8 (dcell W 0) rfl (fun k hk => ?_))
    rcases (by omega : k = 0 ∨ k = 1 ∨ k = 2 ∨ k = 3 ∨ k = 4 ∨ k = 5 ∨ k = 6 ∨ k = 7) with rfl | rfl | rfl | rfl | rfl | rfl | rfl | rfl <;> rfl
  have hzr : RowAt w2 w.heap.size 23 8 zcell := by
    refine RowAt.kept (S := fun _ => False) (RowAt.alloc (row_new_of _ _ 23 8 zcell rfl (fun k hk => ?_)) _) (Upd.of_below hb2) (fun h => h)
    rcases (by omega : k = 0 ∨ k = 1 ∨ k = 2 ∨ k = 3 ∨ k = 4 ∨ k = 5 ∨ k = 6 ∨ k = 7) with rfl | rfl | rfl | rfl | rfl | rfl | rfl | rfl <;> rfl
  have HR := Lib.hid hrow
  have HZ := Lib.hid hzr
  have B2 : Hid (Below w.heap.size w w2) := Lib.hid (by
    refine Below.trans ?_ (hb2.mono (by simp; omega))
    repeat (first | exact Below.refl _ _ | refine Below.alloc ?_ (by simp) _))
  clear hF hrow hzr hb2 hz2 hg1 hg2
  go_wp2_with fail
  go_loopw [7, 8, 20] (fun _ _ v20 wr => ∃ i : Nat, i ≤ 7 ∧ v20 = .int .i64 i ∧ RowAt wr (w.heap.size + 1) 23 8 (dcell W i) ∧ RowAt wr w.heap.size 23 8 zcell ∧ FieldsAt (w.heap.size + 1) 0 b1 b2 wr ∧ Below w.heap.size w wr) (fun _ _ v20 _ => 7 - (intOf v20).toNat)
  case atStart => exact ⟨0, by omega, rfl, HR.out, HZ.out, HF.out, B2.out⟩
  case round =>
    clear HR HF B2 HZ
    obtain ⟨i, hi, rfl, hr, hz, hf, hb⟩ := hrel
    have HR := Lib.hid hr; have HZ := Lib.hid hz; have HF := Lib.hid hf; have HB := Lib.hid hb; clear hr hf hb hz
    rcases (by omega : i = 0 ∨ i = 1 ∨ i = 2 ∨ i = 3 ∨ i = 4 ∨ i = 5 ∨ i = 6 ∨ i = 7) with rfl | rfl | rfl | rfl | rfl | rfl | rfl | rfl
    · have cp := HF.out.n0; have ca := HF.out.a0; have cz := HF.out.z0
      have ct := RowAt.cell HR.out 0 (by omega); have cf := RowAt.frozen HR.out 0
      have hv : bits .and .u64 (W) 15 = W % 16 := by rw [and_mask _ 15 4 (by decide) (by decide) (by omega) (by omega)]; rfl
      have hw := wrap_small (W % 16) (by omega) (by omega)
      go_wp2_with fail
      go_region
      go_wp2_with fail
      go_roundw
      case rel => exact ⟨1, by omega, rfl, dstep W 0 (by omega) HR.out, RowAt.other HZ.out (by simp) _, FieldsAt.upd HF.out (S := fun k => k = w.heap.size + 1) (Upd.drew (Upd.setCell (Upd.refl _ _) (by exact Or.inl rfl) _)) g1 g2, Below.drew (Below.setCell HB.out (by simp) _)⟩
      case measure => simp [intOf]
    · have cp := HF.out.n1; have ca := HF.out.a1; have cz := HF.out.z1
      have ct := RowAt.cell HR.out 1 (by omega); have cf := RowAt.frozen HR.out 1
      have hv : bits .and .u64 (W / 16) 1023 = W / 16 % 1024 := by rw [and_mask _ 1023 10 (by decide) (by decide) (by omega) (by omega)]; rfl
      have hw := wrap_small (W / 16 % 1024) (by omega) (by omega)
      go_wp2_with fail
      go_region
      go_wp2_with fail
      go_roundw
      case rel => exact ⟨2, by omega, rfl, dstep W 1 (by omega) HR.out, RowAt.other HZ.out (by simp) _, FieldsAt.upd HF.out (S := fun k => k = w.heap.size + 1) (Upd.drew (Upd.setCell (Upd.refl _ _) (by exact Or.inl rfl) _)) g1 g2, Below.drew (Below.setCell HB.out (by simp) _)⟩
      case measure => simp [intOf]
    · have cp := HF.out.n2; have ca := HF.out.a2; have cz := HF.out.z2
      have ct := RowAt.cell HR.out 2 (by omega); have cf := RowAt.frozen HR.out 2
      have hv : bits .and .u64 (W / 16384) 15 = W / 16384 % 16 := by rw [and_mask _ 15 4 (by decide) (by decide) (by omega) (by omega)]; rfl
      have hw := wrap_small (W / 16384 % 16) (by omega) (by omega)
      go_wp2_with fail
      go_region
      go_wp2_with fail
      go_roundw
      case rel => exact ⟨3, by omega, rfl, dstep W 2 (by omega) HR.out, RowAt.other HZ.out (by simp) _, FieldsAt.upd HF.out (S := fun k => k = w.heap.size + 1) (Upd.drew (Upd.setCell (Upd.refl _ _) (by exact Or.inl rfl) _)) g1 g2, Below.drew (Below.setCell HB.out (by simp) _)⟩
      case measure => simp [intOf]
    · have cp := HF.out.n3; have ca := HF.out.a3; have cz := HF.out.z3
      have ct := RowAt.cell HR.out 3 (by omega); have cf := RowAt.frozen HR.out 3
      have hv : bits .and .u64 (W / 262144) 1048575 = W / 262144 % 1048576 := by rw [and_mask _ 1048575 20 (by decide) (by decide) (by omega) (by omega)]; rfl
      have hw := wrap_small (W / 262144 % 1048576) (by omega) (by omega)
      go_wp2_with fail
      go_region
      go_wp2_with fail
      go_roundw
      case rel => exact ⟨4, by omega, rfl, dstep W 3 (by omega) HR.out, RowAt.other HZ.out (by simp) _, FieldsAt.upd HF.out (S := fun k => k = w.heap.size + 1) (Upd.drew (Upd.setCell (Upd.refl _ _) (by exact Or.inl rfl) _)) g1 g2, Below.drew (Below.setCell HB.out (by simp) _)⟩
      case measure => simp [intOf]
    · have cp := HF.out.n4; have ca := HF.out.a4; have cz := HF.out.z4
      have ct := RowAt.cell HR.out 4 (by omega); have cf := RowAt.frozen HR.out 4
      have hv : bits .and .u64 (W / 274877906944) 7 = W / 274877906944 % 8 := by rw [and_mask _ 7 3 (by decide) (by decide) (by omega) (by omega)]; rfl
      have hw := wrap_small (W / 274877906944 % 8) (by omega) (by omega)
      go_wp2_with fail
      go_region
      go_wp2_with fail
      go_roundw
      case rel => exact ⟨5, by omega, rfl, dstep W 4 (by omega) HR.out, RowAt.other HZ.out (by simp) _, FieldsAt.upd HF.out (S := fun k => k = w.heap.size + 1) (Upd.drew (Upd.setCell (Upd.refl _ _) (by exact Or.inl rfl) _)) g1 g2, Below.drew (Below.setCell HB.out (by simp) _)⟩
      case measure => simp [intOf]
    · have cp := HF.out.n5; have ca := HF.out.a5; have cz := HF.out.z5
      have ct := RowAt.cell HR.out 6 (by omega); have cf := RowAt.frozen HR.out 6
      have hv : bits .and .u64 (W / 2199023255552) 31 = W / 2199023255552 % 32 := by rw [and_mask _ 31 5 (by decide) (by decide) (by omega) (by omega)]; rfl
      have hw := wrap_small (W / 2199023255552 % 32) (by omega) (by omega)
      go_wp2_with fail
      go_region
      go_wp2_with fail
      go_roundw
      case rel => exact ⟨6, by omega, rfl, dstep W 5 (by omega) HR.out, RowAt.other HZ.out (by simp) _, FieldsAt.upd HF.out (S := fun k => k = w.heap.size + 1) (Upd.drew (Upd.setCell (Upd.refl _ _) (by exact Or.inl rfl) _)) g1 g2, Below.drew (Below.setCell HB.out (by simp) _)⟩
      case measure => simp [intOf]
    · have cp := HF.out.n6; have ca := HF.out.a6; have cz := HF.out.z6
      have ct := RowAt.cell HR.out 5 (by omega); have cf := RowAt.frozen HR.out 5
      have hv : bits .and .u64 (W / 70368744177664) 65535 = W / 70368744177664 % 65536 := by rw [and_mask _ 65535 16 (by decide) (by decide) (by omega) (by omega)]; rfl
      have hw := wrap_small (W / 70368744177664 % 65536) (by omega) (by omega)
      go_wp2_with fail
      go_region
      go_wp2_with fail
      go_roundw
      case rel => exact ⟨7, by omega, rfl, dstep W 6 (by omega) HR.out, RowAt.other HZ.out (by simp) _, FieldsAt.upd HF.out (S := fun k => k = w.heap.size + 1) (Upd.drew (Upd.setCell (Upd.refl _ _) (by exact Or.inl rfl) _)) g1 g2, Below.drew (Below.setCell HB.out (by simp) _)⟩
      case measure => simp [intOf]
    · have hlt : w.heap.size < wr.heap.size := RowAt.lt HZ.out
      by_cases hs : W < 9223372036854775808
      · have hz : W / 9223372036854775808 = 0 := by omega
        have hz' : (W / 9223372036854775808 != 0) = false := by simp [hz]
        have hs' : decide (W < 9223372036854775808) = true := by simpa using hs
        have e0 := RowAt.cell HR.out 0 (by omega)
        rw [show dcell W 7 0 = .int .i64 (fld W 0) from rfl] at e0
        have q0 := RowAt.cell HZ.out 0 (by omega)
        have f0 := RowAt.frozen HZ.out 0
        have e1 := RowAt.cell HR.out 1 (by omega)
        rw [show dcell W 7 1 = .int .i64 (fld W 1) from rfl] at e1
        have q1 := RowAt.cell HZ.out 1 (by omega)
        have f1 := RowAt.frozen HZ.out 1
        have e2 := RowAt.cell HR.out 2 (by omega)
        rw [show dcell W 7 2 = .int .i64 (fld W 2) from rfl] at e2
        have q2 := RowAt.cell HZ.out 2 (by omega)
        have f2 := RowAt.frozen HZ.out 2
        have e3 := RowAt.cell HR.out 3 (by omega)
        rw [show dcell W 7 3 = .int .i64 (fld W 3) from rfl] at e3
        have q3 := RowAt.cell HZ.out 3 (by omega)
        have f3 := RowAt.frozen HZ.out 3
        have e4 := RowAt.cell HR.out 4 (by omega)
        rw [show dcell W 7 4 = .int .i64 (fld W 4) from rfl] at e4
        have q4 := RowAt.cell HZ.out 4 (by omega)
        have f4 := RowAt.frozen HZ.out 4
        have e5 := RowAt.cell HR.out 5 (by omega)
        rw [show dcell W 7 5 = .int .i64 (fld W 5) from rfl] at e5
        have q5 := RowAt.cell HZ.out 5 (by omega)
        have f5 := RowAt.frozen HZ.out 5
        have e6 := RowAt.cell HR.out 6 (by omega)
        rw [show dcell W 7 6 = .int .i64 (fld W 6) from rfl] at e6
        have q6 := RowAt.cell HZ.out 6 (by omega)
        have f6 := RowAt.frozen HZ.out 6
        have e7 := RowAt.cell HR.out 7 (by omega)
        rw [show dcell W 7 7 = .bool (dBit W) from rfl] at e7
        have q7 := RowAt.cell HZ.out 7 (by omega)
        have f7 := RowAt.frozen HZ.out 7
        go_wp2_with fail
        refine (right_any _ _ _ _ _ _ _ _ _).mono ?_
        rintro e w4 ⟨rfl, hb4⟩
        have HZ4 := Lib.hid (RowAt.kept HZ.out (S := fun _ => False) (Upd.of_below hb4) (fun h => h))
        have HR4 := Lib.hid (RowAt.kept HR.out (S := fun _ => False) (Upd.of_below hb4) (fun h => h))
        have B4 := Lib.hid (HB.out.trans (hb4.mono HB.out.size))
        clear hb4 HZ HR HB HF e0 q0 f0 e1 q1 f1 e2 q2 f2 e3 q3 f3 e4 q4 f4 e5 q5 f5 e6 q6 f6 e7 q7 f7
        have e0 := RowAt.cell HR4.out 0 (by omega)
        rw [show dcell W 7 0 = .int .i64 (fld W 0) from rfl] at e0
        have q0 := RowAt.cell HZ4.out 0 (by omega)
        have f0 := RowAt.frozen HZ4.out 0
        have e1 := RowAt.cell HR4.out 1 (by omega)
        rw [show dcell W 7 1 = .int .i64 (fld W 1) from rfl] at e1
        have q1 := RowAt.cell HZ4.out 1 (by omega)
        have f1 := RowAt.frozen HZ4.out 1
        have e2 := RowAt.cell HR4.out 2 (by omega)
        rw [show dcell W 7 2 = .int .i64 (fld W 2) from rfl] at e2
        have q2 := RowAt.cell HZ4.out 2 (by omega)
        have f2 := RowAt.frozen HZ4.out 2
        have e3 := RowAt.cell HR4.out 3 (by omega)
        rw [show dcell W 7 3 = .int .i64 (fld W 3) from rfl] at e3
        have q3 := RowAt.cell HZ4.out 3 (by omega)
        have f3 := RowAt.frozen HZ4.out 3
        have e4 := RowAt.cell HR4.out 4 (by omega)
        rw [show dcell W 7 4 = .int .i64 (fld W 4) from rfl] at e4
        have q4 := RowAt.cell HZ4.out 4 (by omega)
        have f4 := RowAt.frozen HZ4.out 4
        have e5 := RowAt.cell HR4.out 5 (by omega)
        rw [show dcell W 7 5 = .int .i64 (fld W 5) from rfl] at e5
        have q5 := RowAt.cell HZ4.out 5 (by omega)
        have f5 := RowAt.frozen HZ4.out 5
        have e6 := RowAt.cell HR4.out 6 (by omega)
        rw [show dcell W 7 6 = .int .i64 (fld W 6) from rfl] at e6
        have q6 := RowAt.cell HZ4.out 6 (by omega)
        have f6 := RowAt.frozen HZ4.out 6
        have e7 := RowAt.cell HR4.out 7 (by omega)
        rw [show dcell W 7 7 = .bool (dBit W) from rfl] at e7
        have q7 := RowAt.cell HZ4.out 7 (by omega)
        have f7 := RowAt.frozen HZ4.out 7
        have hlt4 : w.heap.size < w4.heap.size := RowAt.lt HZ4.out
        cases hrr : rightB (fld W 0) (fld W 1) (fld W 2) (fld W 3) (fld W 4) (fld W 5) (fld W 6) (dBit W)
        · have hok : decOK W = false := by simp only [decOK, hs', hrr]; rfl
          have hV : decV W = capAgg 0 0 0 0 0 0 0 false := by simp only [decV, hok]; rfl
          have hE : decE W = 141 := by simp only [decE, hok]; rfl
          clear hok
          go_wp2_with fail
          have hst := row_store8 HZ4.out (.int .i64 0) (.int .i64 0) (.int .i64 0) (.int .i64 0) (.int .i64 0) (.int .i64 0) (.int .i64 0) (.bool false)
          have hbl : Below w.heap.size w ((((((((w4.setCell ⟨w.heap.size, 0, none⟩ (.int .i64 0)).setCell ⟨w.heap.size, 1, none⟩ (.int .i64 0)).setCell ⟨w.heap.size, 2, none⟩ (.int .i64 0)).setCell ⟨w.heap.size, 3, none⟩ (.int .i64 0)).setCell ⟨w.heap.size, 4, none⟩ (.int .i64 0)).setCell ⟨w.heap.size, 5, none⟩ (.int .i64 0)).setCell ⟨w.heap.size, 6, none⟩ (.int .i64 0)).setCell ⟨w.heap.size, 7, none⟩ (.bool false)) := by
            repeat (first | (with_reducible exact B4.out) | (with_reducible refine Below.setCell ?_ (by simp) _))
          clear e0 q0 f0 e1 q1 f1 e2 q2 f2 e3 q3 f3 e4 q4 f4 e5 q5 f5 e6 q6 f6 e7 q7 f7
          generalize ((((((((w4.setCell ⟨w.heap.size, 0, none⟩ (.int .i64 0)).setCell ⟨w.heap.size, 1, none⟩ (.int .i64 0)).setCell ⟨w.heap.size, 2, none⟩ (.int .i64 0)).setCell ⟨w.heap.size, 3, none⟩ (.int .i64 0)).setCell ⟨w.heap.size, 4, none⟩ (.int .i64 0)).setCell ⟨w.heap.size, 5, none⟩ (.int .i64 0)).setCell ⟨w.heap.size, 6, none⟩ (.int .i64 0)).setCell ⟨w.heap.size, 7, none⟩ (.bool false)) = wf at hst hbl ⊢
          obtain ⟨q0, q1, q2, q3, q4, q5, q6, q7⟩ := cells8 hst
          clear hst
          refine bodyPost_ret (v := .tuple #[.agg #[.int .i64 0, .int .i64 0, .int .i64 0, .int .i64 0, .int .i64 0, .int .i64 0, .int .i64 0, .bool false], .int .i64 141]) (by simp [results, Try.results35, go_sem, q0, q1, q2, q3, q4, q5, q6, q7]) rfl ⟨by first | (rw [hV, hE]; rfl) | rfl, hbl⟩
        · have hok : decOK W = true := by simp only [decOK, hs', hrr]; rfl
          have hV : decV W = capAgg (fld W 0) (fld W 1) (fld W 2) (fld W 3) (fld W 4) (fld W 5) (fld W 6) (dBit W) := by simp only [decV, hok]; rfl
          have hE : decE W = 0 := by simp only [decE, hok]; rfl
          clear hok
          go_wp2_with fail
          have hst := row_store8 HZ4.out (.int .i64 (fld W 0)) (.int .i64 (fld W 1)) (.int .i64 (fld W 2)) (.int .i64 (fld W 3)) (.int .i64 (fld W 4)) (.int .i64 (fld W 5)) (.int .i64 (fld W 6)) (.bool (dBit W))
          have hbl : Below w.heap.size w ((((((((w4.setCell ⟨w.heap.size, 0, none⟩ (.int .i64 (fld W 0))).setCell ⟨w.heap.size, 1, none⟩ (.int .i64 (fld W 1))).setCell ⟨w.heap.size, 2, none⟩ (.int .i64 (fld W 2))).setCell ⟨w.heap.size, 3, none⟩ (.int .i64 (fld W 3))).setCell ⟨w.heap.size, 4, none⟩ (.int .i64 (fld W 4))).setCell ⟨w.heap.size, 5, none⟩ (.int .i64 (fld W 5))).setCell ⟨w.heap.size, 6, none⟩ (.int .i64 (fld W 6))).setCell ⟨w.heap.size, 7, none⟩ (.bool (dBit W))) := by
            repeat (first | (with_reducible exact B4.out) | (with_reducible refine Below.setCell ?_ (by simp) _))
          clear e0 q0 f0 e1 q1 f1 e2 q2 f2 e3 q3 f3 e4 q4 f4 e5 q5 f5 e6 q6 f6 e7 q7 f7
          generalize ((((((((w4.setCell ⟨w.heap.size, 0, none⟩ (.int .i64 (fld W 0))).setCell ⟨w.heap.size, 1, none⟩ (.int .i64 (fld W 1))).setCell ⟨w.heap.size, 2, none⟩ (.int .i64 (fld W 2))).setCell ⟨w.heap.size, 3, none⟩ (.int .i64 (fld W 3))).setCell ⟨w.heap.size, 4, none⟩ (.int .i64 (fld W 4))).setCell ⟨w.heap.size, 5, none⟩ (.int .i64 (fld W 5))).setCell ⟨w.heap.size, 6, none⟩ (.int .i64 (fld W 6))).setCell ⟨w.heap.size, 7, none⟩ (.bool (dBit W))) = wf at hst hbl ⊢
          obtain ⟨q0, q1, q2, q3, q4, q5, q6, q7⟩ := cells8 hst
          clear hst
          refine bodyPost_ret (v := .tuple #[.agg #[.int .i64 (fld W 0), .int .i64 (fld W 1), .int .i64 (fld W 2), .int .i64 (fld W 3), .int .i64 (fld W 4), .int .i64 (fld W 5), .int .i64 (fld W 6), .bool (dBit W)], .int .i64 0]) (by simp [results, Try.results35, go_sem, q0, q1, q2, q3, q4, q5, q6, q7]) rfl ⟨by first | (rw [hV, hE]; rfl) | rfl, hbl⟩
      · have hz : ¬ W / 9223372036854775808 = 0 := by omega
        have hz' : (W / 9223372036854775808 != 0) = true := by simp [hz]
        have hs' : decide (W < 9223372036854775808) = false := by simpa using hs
        have hok : decOK W = false := by simp only [decOK, hs']; rfl
        have hV : decV W = capAgg 0 0 0 0 0 0 0 false := by simp only [decV, hok]; rfl
        have hE : decE W = 141 := by simp only [decE, hok]; rfl
        clear hok
        have e0 := RowAt.cell HR.out 0 (by omega)
        rw [show dcell W 7 0 = .int .i64 (fld W 0) from rfl] at e0
        have q0 := RowAt.cell HZ.out 0 (by omega)
        have f0 := RowAt.frozen HZ.out 0
        have e1 := RowAt.cell HR.out 1 (by omega)
        rw [show dcell W 7 1 = .int .i64 (fld W 1) from rfl] at e1
        have q1 := RowAt.cell HZ.out 1 (by omega)
        have f1 := RowAt.frozen HZ.out 1
        have e2 := RowAt.cell HR.out 2 (by omega)
        rw [show dcell W 7 2 = .int .i64 (fld W 2) from rfl] at e2
        have q2 := RowAt.cell HZ.out 2 (by omega)
        have f2 := RowAt.frozen HZ.out 2
        have e3 := RowAt.cell HR.out 3 (by omega)
        rw [show dcell W 7 3 = .int .i64 (fld W 3) from rfl] at e3
        have q3 := RowAt.cell HZ.out 3 (by omega)
        have f3 := RowAt.frozen HZ.out 3
        have e4 := RowAt.cell HR.out 4 (by omega)
        rw [show dcell W 7 4 = .int .i64 (fld W 4) from rfl] at e4
        have q4 := RowAt.cell HZ.out 4 (by omega)
        have f4 := RowAt.frozen HZ.out 4
        have e5 := RowAt.cell HR.out 5 (by omega)
        rw [show dcell W 7 5 = .int .i64 (fld W 5) from rfl] at e5
        have q5 := RowAt.cell HZ.out 5 (by omega)
        have f5 := RowAt.frozen HZ.out 5
        have e6 := RowAt.cell HR.out 6 (by omega)
        rw [show dcell W 7 6 = .int .i64 (fld W 6) from rfl] at e6
        have q6 := RowAt.cell HZ.out 6 (by omega)
        have f6 := RowAt.frozen HZ.out 6
        have e7 := RowAt.cell HR.out 7 (by omega)
        rw [show dcell W 7 7 = .bool (dBit W) from rfl] at e7
        have q7 := RowAt.cell HZ.out 7 (by omega)
        have f7 := RowAt.frozen HZ.out 7
        go_wp2_with fail
        have hst := row_store8 HZ.out (.int .i64 0) (.int .i64 0) (.int .i64 0) (.int .i64 0) (.int .i64 0) (.int .i64 0) (.int .i64 0) (.bool false)
        have hbl : Below w.heap.size w ((((((((wr.setCell ⟨w.heap.size, 0, none⟩ (.int .i64 0)).setCell ⟨w.heap.size, 1, none⟩ (.int .i64 0)).setCell ⟨w.heap.size, 2, none⟩ (.int .i64 0)).setCell ⟨w.heap.size, 3, none⟩ (.int .i64 0)).setCell ⟨w.heap.size, 4, none⟩ (.int .i64 0)).setCell ⟨w.heap.size, 5, none⟩ (.int .i64 0)).setCell ⟨w.heap.size, 6, none⟩ (.int .i64 0)).setCell ⟨w.heap.size, 7, none⟩ (.bool false)) := by
          repeat (first | (with_reducible exact HB.out) | (with_reducible refine Below.setCell ?_ (by simp) _))
        clear e0 q0 f0 e1 q1 f1 e2 q2 f2 e3 q3 f3 e4 q4 f4 e5 q5 f5 e6 q6 f6 e7 q7 f7
        generalize ((((((((wr.setCell ⟨w.heap.size, 0, none⟩ (.int .i64 0)).setCell ⟨w.heap.size, 1, none⟩ (.int .i64 0)).setCell ⟨w.heap.size, 2, none⟩ (.int .i64 0)).setCell ⟨w.heap.size, 3, none⟩ (.int .i64 0)).setCell ⟨w.heap.size, 4, none⟩ (.int .i64 0)).setCell ⟨w.heap.size, 5, none⟩ (.int .i64 0)).setCell ⟨w.heap.size, 6, none⟩ (.int .i64 0)).setCell ⟨w.heap.size, 7, none⟩ (.bool false)) = wf at hst hbl ⊢
        obtain ⟨q0, q1, q2, q3, q4, q5, q6, q7⟩ := cells8 hst
        clear hst
        refine bodyPost_ret (v := .tuple #[.agg #[.int .i64 0, .int .i64 0, .int .i64 0, .int .i64 0, .int .i64 0, .int .i64 0, .int .i64 0, .bool false], .int .i64 141]) (by simp [results, Try.results35, go_sem, q0, q1, q2, q3, q4, q5, q6, q7]) rfl ⟨by first | (rw [hV, hE]; rfl) | rfl, hbl⟩
end Go.Proofs.Ytcbbmgohdcabeaa
