/- The contracts of gic's methods End and State. Condition: the block is a controller's. -/
import Derived.Test.YtmehieloehlepaaGicM
import Derived.Deep.RegionHeld3
namespace Go.Proofs.Ytmehieloehlepaa
open Go.RowKit
set_option maxRecDepth 100000

set_option maxHeartbeats 1000000 in
theorem end_ok (b : Nat) (G : Gm) (w : World) (h : GicAt w b G) (n : Int) (h0 : 0 ≤ n) (h1 : n < 32) (ha : G.ac n.toNat = true) :
    Calls Try.prog 15 #[.pointer (some ⟨b, 0, none⟩), .int .i64 n] w fun e w' =>
      e = .returned (.int .i64 0) ∧ GicAt w' b { G with ac := upd G.ac n.toNat false } ∧ Upd (· = b) w w' := by
  have H := Lib.hid h; clear h
  obtain ⟨i, rfl⟩ := Int.eq_ofNat_of_zero_le h0
  have z0 : b < w.heap.size := by have := RowAt.lt H.out; omega
  have z1 : b < w.heap.size + 1 := by have := RowAt.lt H.out; omega
  have z2 : b < w.heap.size + 1 + 1 := by have := RowAt.lt H.out; omega
  have z3 : b < w.heap.size + 1 + 1 + 1 := by have := RowAt.lt H.out; omega
  have c4 := RowAt.cell H.out (i * 5 + 4) (by omega)
  rw [gcell_ac G i] at c4
  have f4 := RowAt.frozen H.out (i * 5 + 4)
  go_enter Try.func15, Try.ntmps15
  rw [Int.toNat_natCast] at ha
  rw [ha] at c4
  go_wp2
  go_end0
  go_wp2
  go_ret
  go_light
  refine ⟨rfl, ?_, ?_⟩
  · exact RowAt.alloc (GicAt.set_ac H.out i (by omega) false) _
  · repeat (first | (with_reducible exact Upd.refl _ _) | (with_reducible refine Upd.drew ?_) | (with_reducible refine Upd.setCell ?_ (by first | exact .inl rfl | (right; simp; done) | (right; simp; omega)) _) | (with_reducible refine Upd.alloc ?_ _))

set_option maxHeartbeats 1000000 in
theorem end_off_ok (b : Nat) (G : Gm) (w : World) (h : GicAt w b G) (n : Int) (h0 : 0 ≤ n) (h1 : n < 32) (ha : G.ac n.toNat = false) :
    Calls Try.prog 15 #[.pointer (some ⟨b, 0, none⟩), .int .i64 n] w fun e w' =>
      e = .returned (.int .i64 70) ∧ GicAt w' b { G with ac := upd G.ac n.toNat false } ∧ Upd (· = b) w w' := by
  have H := Lib.hid h; clear h
  obtain ⟨i, rfl⟩ := Int.eq_ofNat_of_zero_le h0
  have z0 : b < w.heap.size := by have := RowAt.lt H.out; omega
  have z1 : b < w.heap.size + 1 := by have := RowAt.lt H.out; omega
  have z2 : b < w.heap.size + 1 + 1 := by have := RowAt.lt H.out; omega
  have z3 : b < w.heap.size + 1 + 1 + 1 := by have := RowAt.lt H.out; omega
  have c4 := RowAt.cell H.out (i * 5 + 4) (by omega)
  rw [gcell_ac G i] at c4
  have f4 := RowAt.frozen H.out (i * 5 + 4)
  go_enter Try.func15, Try.ntmps15
  rw [Int.toNat_natCast] at ha
  rw [ha] at c4
  go_wp2
  go_end0
  go_wp2
  go_ret
  go_light
  refine ⟨rfl, ?_, ?_⟩
  · exact RowAt.alloc (GicAt.set_ac H.out i (by omega) false) _
  · repeat (first | (with_reducible exact Upd.refl _ _) | (with_reducible refine Upd.drew ?_) | (with_reducible refine Upd.setCell ?_ (by first | exact .inl rfl | (right; simp; done) | (right; simp; omega)) _) | (with_reducible refine Upd.alloc ?_ _))

set_option maxHeartbeats 1000000 in
theorem state_ok (b : Nat) (G : Gm) (w : World) (h : GicAt w b G) (n : Int) (h0 : 0 ≤ n) (h1 : n < 32) :
    Calls Try.prog 14 #[.pointer (some ⟨b, 0, none⟩), .int .i64 n] w fun e w' =>
      e = .returned (.tuple #[.agg #[.int .i64 n, .int .i64 (G.pr n.toNat), .bool (G.en n.toNat), .bool (G.pe n.toNat), .bool (G.ac n.toNat)], .int .i64 0]) ∧ Below w.heap.size w w' := by
  have H := Lib.hid h; clear h
  obtain ⟨i, rfl⟩ := Int.eq_ofNat_of_zero_le h0
  have z0 : b < w.heap.size := by have := RowAt.lt H.out; omega
  have z1 : b < w.heap.size + 1 := by have := RowAt.lt H.out; omega
  have z2 : b < w.heap.size + 1 + 1 := by have := RowAt.lt H.out; omega
  have z3 : b < w.heap.size + 1 + 1 + 1 := by have := RowAt.lt H.out; omega
  have z4 : b < w.heap.size + 1 + 1 + 1 + 1 := by have := RowAt.lt H.out; omega
  have z5 : b < w.heap.size + 1 + 1 + 1 + 1 + 1 := by have := RowAt.lt H.out; omega
  have c0 := RowAt.cell H.out (i * 5) (by omega)
  rw [gcell_pr G i (by omega)] at c0
  have c2 := RowAt.cell H.out (i * 5 + 2) (by omega)
  rw [gcell_en G i] at c2
  have c3 := RowAt.cell H.out (i * 5 + 3) (by omega)
  rw [gcell_pe G i] at c3
  have c4 := RowAt.cell H.out (i * 5 + 4) (by omega)
  rw [gcell_ac G i] at c4
  go_enter Try.func14, Try.ntmps14
  go_wp2
  go_region_held3 (fun w' => w'.cell? ⟨w.heap.size, 0, none⟩ = some (.int .i64 i) ∧ w'.cell? ⟨b, i * 5, none⟩ = some (.int .i64 (G.pr i)) ∧ w'.cell? ⟨b, i * 5 + 2, none⟩ = some (.bool (G.en i)) ∧
      w'.cell? ⟨b, i * 5 + 3, none⟩ = some (.bool (G.pe i)) ∧ w'.cell? ⟨b, i * 5 + 4, none⟩ = some (.bool (G.ac i))) (first | go_simp | go_keep) (fail)
  go_wp2
  go_end0
  go_wp2
  refine bodyPost_ret (v := .tuple #[.agg #[.int .i64 (i : Int), .int .i64 (G.pr i), .bool (G.en i), .bool (G.pe i), .bool (G.ac i)], .int .i64 0]) (by simp [results, Try.results14, go_sem]) rfl ⟨rfl, ?_⟩
  go_light
  repeat (first | (with_reducible exact Below.refl _ _) | (with_reducible refine Below.drew ?_) | (with_reducible refine Below.setCell ?_ (by first | omega | (simp; done) | (simp; omega)) _) | (with_reducible refine Below.alloc ?_ (by first | omega | (simp; done) | (simp; omega)) _))

set_option maxHeartbeats 1000000 in
theorem state_err (b : Nat) (w : World) (n : Int) (hn : n < 0 ∨ 32 ≤ n) :
    Calls Try.prog 14 #[.pointer (some ⟨b, 0, none⟩), .int .i64 n] w fun e w' =>
      e = .returned (.tuple #[.agg #[.int .i64 0, .int .i64 0, .bool false, .bool false, .bool false], .int .i64 1]) ∧ Below w.heap.size w w' := by
  go_enter Try.func14, Try.ntmps14
  go_wp2
  all_goals
    refine bodyPost_ret (v := .tuple #[.agg #[.int .i64 0, .int .i64 0, .bool false, .bool false, .bool false], .int .i64 1]) (by simp [results, Try.results14, go_sem]) rfl ⟨rfl, ?_⟩
    go_light
    repeat (first | (with_reducible exact Below.refl _ _) | (with_reducible refine Below.drew ?_) | (with_reducible refine Below.setCell ?_ (by first | omega | (simp; done) | (simp; omega)) _) | (with_reducible refine Below.alloc ?_ (by first | omega | (simp; done) | (simp; omega)) _))

set_option maxHeartbeats 1000000 in
theorem end_err (b : Nat) (G : Gm) (w : World) (h : GicAt w b G) (n : Int) (hn : n < 0 ∨ 32 ≤ n) :
    Calls Try.prog 15 #[.pointer (some ⟨b, 0, none⟩), .int .i64 n] w fun e w' =>
      e = .returned (.int .i64 1) ∧ GicAt w' b G ∧ Upd (· = b) w w' := by
  have H := Lib.hid h; clear h
  go_enter Try.func15, Try.ntmps15
  go_wp2
  all_goals
    go_ret
    go_light
    refine ⟨rfl, ?_, ?_⟩
    · repeat (first | exact H.out | refine RowAt.alloc ?_ _)
    · repeat (first | (with_reducible exact Upd.refl _ _) | (with_reducible refine Upd.drew ?_) | (with_reducible refine Upd.setCell ?_ (by first | exact .inl rfl | (right; simp; done) | (right; simp; omega)) _) | (with_reducible refine Upd.alloc ?_ _))

end Go.Proofs.Ytmehieloehlepaa
