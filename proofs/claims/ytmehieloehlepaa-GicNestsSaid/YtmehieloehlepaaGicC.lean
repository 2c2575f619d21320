/- The contracts of gic's methods Raise, Lower, Enable, SetPriority, SetMask, End and State: what they answer and what becomes of the controller. Condition: the block is a controller's. -/
import Derived.Test.YtmehieloehlepaaGicM
namespace Go.Proofs.Ytmehieloehlepaa
open Go.RowKit
set_option maxRecDepth 100000

set_option maxHeartbeats 1000000 in
theorem raise_ok (b : Nat) (G : Gm) (w : World) (h : GicAt w b G) (n : Int) (h0 : 0 ≤ n) (h1 : n < 32) :
    Calls Try.prog 12 #[.pointer (some ⟨b, 0, none⟩), .int .i64 n] w fun e w' =>
      e = .returned (.int .i64 0) ∧ GicAt w' b { G with pe := upd G.pe n.toNat true } ∧ Upd (· = b) w w' := by
  have H := Lib.hid h; clear h
  obtain ⟨i, rfl⟩ := Int.eq_ofNat_of_zero_le h0
  have z0 : b < w.heap.size := by have := RowAt.lt H.out; omega
  have z1 : b < w.heap.size + 1 := by have := RowAt.lt H.out; omega
  have z2 : b < w.heap.size + 1 + 1 := by have := RowAt.lt H.out; omega
  have z3 : b < w.heap.size + 1 + 1 + 1 := by have := RowAt.lt H.out; omega
  have c3 := RowAt.cell H.out (i * 5 + 3) (by omega)
  rw [gcell_pe G i] at c3
  have f3 := RowAt.frozen H.out (i * 5 + 3)
  go_enter Try.func12, Try.ntmps12
  go_wp2
  go_end0
  go_wp2
  go_ret
  go_light
  refine ⟨rfl, ?_, ?_⟩
  · exact GicAt.set_pe H.out i (by omega) true
  · repeat (first | (with_reducible exact Upd.refl _ _) | (with_reducible refine Upd.drew ?_) | (with_reducible refine Upd.setCell ?_ (by first | exact .inl rfl | (right; simp; done) | (right; simp; omega)) _) | (with_reducible refine Upd.alloc ?_ _))

set_option maxHeartbeats 1000000 in
theorem lower_ok (b : Nat) (G : Gm) (w : World) (h : GicAt w b G) (n : Int) (h0 : 0 ≤ n) (h1 : n < 32) :
    Calls Try.prog 30 #[.pointer (some ⟨b, 0, none⟩), .int .i64 n] w fun e w' =>
      e = .returned (.int .i64 0) ∧ GicAt w' b { G with pe := upd G.pe n.toNat false } ∧ Upd (· = b) w w' := by
  have H := Lib.hid h; clear h
  obtain ⟨i, rfl⟩ := Int.eq_ofNat_of_zero_le h0
  have z0 : b < w.heap.size := by have := RowAt.lt H.out; omega
  have z1 : b < w.heap.size + 1 := by have := RowAt.lt H.out; omega
  have z2 : b < w.heap.size + 1 + 1 := by have := RowAt.lt H.out; omega
  have z3 : b < w.heap.size + 1 + 1 + 1 := by have := RowAt.lt H.out; omega
  have c3 := RowAt.cell H.out (i * 5 + 3) (by omega)
  rw [gcell_pe G i] at c3
  have f3 := RowAt.frozen H.out (i * 5 + 3)
  go_enter Try.func30, Try.ntmps30
  go_wp2
  go_end0
  go_wp2
  go_ret
  go_light
  refine ⟨rfl, ?_, ?_⟩
  · exact GicAt.set_pe H.out i (by omega) false
  · repeat (first | (with_reducible exact Upd.refl _ _) | (with_reducible refine Upd.drew ?_) | (with_reducible refine Upd.setCell ?_ (by first | exact .inl rfl | (right; simp; done) | (right; simp; omega)) _) | (with_reducible refine Upd.alloc ?_ _))

set_option maxHeartbeats 1000000 in
theorem enable_ok (b : Nat) (G : Gm) (w : World) (h : GicAt w b G) (n : Int) (h0 : 0 ≤ n) (h1 : n < 32) (on : Bool) :
    Calls Try.prog 11 #[.pointer (some ⟨b, 0, none⟩), .int .i64 n, .bool on] w fun e w' =>
      e = .returned (.int .i64 0) ∧ GicAt w' b { G with en := upd G.en n.toNat on } ∧ Upd (· = b) w w' := by
  have H := Lib.hid h; clear h
  obtain ⟨i, rfl⟩ := Int.eq_ofNat_of_zero_le h0
  have z0 : b < w.heap.size := by have := RowAt.lt H.out; omega
  have z1 : b < w.heap.size + 1 := by have := RowAt.lt H.out; omega
  have z2 : b < w.heap.size + 1 + 1 := by have := RowAt.lt H.out; omega
  have z3 : b < w.heap.size + 1 + 1 + 1 := by have := RowAt.lt H.out; omega
  have c2 := RowAt.cell H.out (i * 5 + 2) (by omega)
  rw [gcell_en G i] at c2
  have f2 := RowAt.frozen H.out (i * 5 + 2)
  go_enter Try.func11, Try.ntmps11
  go_wp2
  go_end0
  go_wp2
  go_ret
  go_light
  refine ⟨rfl, ?_, ?_⟩
  · exact RowAt.alloc (GicAt.set_en H.out i (by omega) on) _
  · repeat (first | (with_reducible exact Upd.refl _ _) | (with_reducible refine Upd.drew ?_) | (with_reducible refine Upd.setCell ?_ (by first | exact .inl rfl | (right; simp; done) | (right; simp; omega)) _) | (with_reducible refine Upd.alloc ?_ _))

set_option maxHeartbeats 1000000 in
theorem setpri_ok (b : Nat) (G : Gm) (w : World) (h : GicAt w b G) (n : Int) (h0 : 0 ≤ n) (h1 : n < 32) (p : Int) (p0 : 0 ≤ p) (p1 : p < 256) :
    Calls Try.prog 10 #[.pointer (some ⟨b, 0, none⟩), .int .i64 n, .int .i64 p] w fun e w' =>
      e = .returned (.int .i64 0) ∧ GicAt w' b { G with pr := upd G.pr n.toNat p } ∧ Upd (· = b) w w' := by
  have H := Lib.hid h; clear h
  obtain ⟨i, rfl⟩ := Int.eq_ofNat_of_zero_le h0
  have z0 : b < w.heap.size := by have := RowAt.lt H.out; omega
  have z1 : b < w.heap.size + 1 := by have := RowAt.lt H.out; omega
  have z2 : b < w.heap.size + 1 + 1 := by have := RowAt.lt H.out; omega
  have z3 : b < w.heap.size + 1 + 1 + 1 := by have := RowAt.lt H.out; omega
  have c0 := RowAt.cell H.out (i * 5) (by omega)
  rw [gcell_pr G i (by omega)] at c0
  have f0 := RowAt.frozen H.out (i * 5)
  go_enter Try.func10, Try.ntmps10
  go_wp2
  go_end0
  go_wp2
  go_ret
  go_light
  refine ⟨rfl, ?_, ?_⟩
  · exact RowAt.alloc (GicAt.set_pr H.out i (by omega) p) _
  · repeat (first | (with_reducible exact Upd.refl _ _) | (with_reducible refine Upd.drew ?_) | (with_reducible refine Upd.setCell ?_ (by first | exact .inl rfl | (right; simp; done) | (right; simp; omega)) _) | (with_reducible refine Upd.alloc ?_ _))

set_option maxHeartbeats 1000000 in
theorem raise_err (b : Nat) (G : Gm) (w : World) (h : GicAt w b G) (n : Int) (hn : n < 0 ∨ 32 ≤ n) :
    Calls Try.prog 12 #[.pointer (some ⟨b, 0, none⟩), .int .i64 n] w fun e w' =>
      e = .returned (.int .i64 1) ∧ GicAt w' b G ∧ Upd (· = b) w w' := by
  have H := Lib.hid h; clear h
  go_enter Try.func12, Try.ntmps12
  go_wp2
  all_goals
    go_ret
    go_light
    refine ⟨rfl, ?_, ?_⟩
    · repeat (first | exact H.out | refine RowAt.alloc ?_ _)
    · repeat (first | (with_reducible exact Upd.refl _ _) | (with_reducible refine Upd.drew ?_) | (with_reducible refine Upd.setCell ?_ (by first | exact .inl rfl | (right; simp; done) | (right; simp; omega)) _) | (with_reducible refine Upd.alloc ?_ _))

set_option maxHeartbeats 1000000 in
theorem lower_err (b : Nat) (G : Gm) (w : World) (h : GicAt w b G) (n : Int) (hn : n < 0 ∨ 32 ≤ n) :
    Calls Try.prog 30 #[.pointer (some ⟨b, 0, none⟩), .int .i64 n] w fun e w' =>
      e = .returned (.int .i64 1) ∧ GicAt w' b G ∧ Upd (· = b) w w' := by
  have H := Lib.hid h; clear h
  go_enter Try.func30, Try.ntmps30
  go_wp2
  all_goals
    go_ret
    go_light
    refine ⟨rfl, ?_, ?_⟩
    · repeat (first | exact H.out | refine RowAt.alloc ?_ _)
    · repeat (first | (with_reducible exact Upd.refl _ _) | (with_reducible refine Upd.drew ?_) | (with_reducible refine Upd.setCell ?_ (by first | exact .inl rfl | (right; simp; done) | (right; simp; omega)) _) | (with_reducible refine Upd.alloc ?_ _))

set_option maxHeartbeats 1000000 in
theorem enable_err (b : Nat) (G : Gm) (w : World) (h : GicAt w b G) (n : Int) (on : Bool) (hn : n < 0 ∨ 32 ≤ n) :
    Calls Try.prog 11 #[.pointer (some ⟨b, 0, none⟩), .int .i64 n, .bool on] w fun e w' =>
      e = .returned (.int .i64 1) ∧ GicAt w' b G ∧ Upd (· = b) w w' := by
  have H := Lib.hid h; clear h
  go_enter Try.func11, Try.ntmps11
  go_wp2
  all_goals
    go_ret
    go_light
    refine ⟨rfl, ?_, ?_⟩
    · repeat (first | exact H.out | refine RowAt.alloc ?_ _)
    · repeat (first | (with_reducible exact Upd.refl _ _) | (with_reducible refine Upd.drew ?_) | (with_reducible refine Upd.setCell ?_ (by first | exact .inl rfl | (right; simp; done) | (right; simp; omega)) _) | (with_reducible refine Upd.alloc ?_ _))

set_option maxHeartbeats 1000000 in
theorem setpri_err (b : Nat) (G : Gm) (w : World) (h : GicAt w b G) (n : Int) (p : Int) (hn : (n < 0 ∨ 32 ≤ n) ∧ 0 ≤ p ∧ p < 256) :
    Calls Try.prog 10 #[.pointer (some ⟨b, 0, none⟩), .int .i64 n, .int .i64 p] w fun e w' =>
      e = .returned (.int .i64 1) ∧ GicAt w' b G ∧ Upd (· = b) w w' := by
  have H := Lib.hid h; clear h
  obtain ⟨hn, hp0, hp1⟩ := hn
  go_enter Try.func10, Try.ntmps10
  go_wp2
  all_goals
    go_ret
    go_light
    refine ⟨rfl, ?_, ?_⟩
    · repeat (first | exact H.out | refine RowAt.alloc ?_ _)
    · repeat (first | (with_reducible exact Upd.refl _ _) | (with_reducible refine Upd.drew ?_) | (with_reducible refine Upd.setCell ?_ (by first | exact .inl rfl | (right; simp; done) | (right; simp; omega)) _) | (with_reducible refine Upd.alloc ?_ _))

set_option maxHeartbeats 1000000 in
theorem setpri_bad (b : Nat) (G : Gm) (w : World) (h : GicAt w b G) (n : Int) (p : Int) (hp : p < 0 ∨ 256 ≤ p) :
    Calls Try.prog 10 #[.pointer (some ⟨b, 0, none⟩), .int .i64 n, .int .i64 p] w fun e w' =>
      e = .returned (.int .i64 1) ∧ GicAt w' b G ∧ Upd (· = b) w w' := by
  have H := Lib.hid h; clear h
  go_enter Try.func10, Try.ntmps10
  go_wp2
  all_goals
    go_ret
    go_light
    refine ⟨rfl, ?_, ?_⟩
    · repeat (first | exact H.out | refine RowAt.alloc ?_ _)
    · repeat (first | (with_reducible exact Upd.refl _ _) | (with_reducible refine Upd.drew ?_) | (with_reducible refine Upd.setCell ?_ (by first | exact .inl rfl | (right; simp; done) | (right; simp; omega)) _) | (with_reducible refine Upd.alloc ?_ _))

set_option maxHeartbeats 1000000 in
theorem setmask_ok (b : Nat) (G : Gm) (w : World) (h : GicAt w b G) (m : Int) (h0 : 0 ≤ m) (h1 : m ≤ 256) :
    Calls Try.prog 17 #[.pointer (some ⟨b, 0, none⟩), .int .i64 m] w fun e w' =>
      e = .returned (.int .i64 0) ∧ GicAt w' b { G with mask := m } ∧ Upd (· = b) w w' := by
  have H := Lib.hid h; clear h
  have z0 : b < w.heap.size := by have := RowAt.lt H.out; omega
  have c0 := RowAt.cell H.out 160 (by omega)
  have f0 := RowAt.frozen H.out 160
  go_enter Try.func17, Try.ntmps17
  go_wp2
  go_ret
  go_light
  refine ⟨rfl, ?_, ?_⟩
  · exact GicAt.set_mask H.out m
  · repeat (first | (with_reducible exact Upd.refl _ _) | (with_reducible refine Upd.drew ?_) | (with_reducible refine Upd.setCell ?_ (by first | exact .inl rfl | (right; simp; done) | (right; simp; omega)) _) | (with_reducible refine Upd.alloc ?_ _))

set_option maxHeartbeats 1000000 in
theorem setmask_err (b : Nat) (G : Gm) (w : World) (h : GicAt w b G) (m : Int) (hm : m < 0 ∨ 256 < m) :
    Calls Try.prog 17 #[.pointer (some ⟨b, 0, none⟩), .int .i64 m] w fun e w' =>
      e = .returned (.int .i64 1) ∧ GicAt w' b G ∧ Upd (· = b) w w' := by
  have H := Lib.hid h; clear h
  go_enter Try.func17, Try.ntmps17
  go_wp2
  all_goals
    go_ret
    go_light
    refine ⟨rfl, ?_, ?_⟩
    · exact H.out
    · repeat (first | (with_reducible exact Upd.refl _ _) | (with_reducible refine Upd.drew ?_) | (with_reducible refine Upd.setCell ?_ (by first | exact .inl rfl | (right; simp; done) | (right; simp; omega)) _) | (with_reducible refine Upd.alloc ?_ _))
end Go.Proofs.Ytmehieloehlepaa
