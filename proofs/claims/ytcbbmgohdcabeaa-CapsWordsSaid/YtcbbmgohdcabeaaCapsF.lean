/- The contract of caps.fields (function 41): two new slices, the one of pointers to the fields, the other of their places; no condition. -/
import Derived.Test.YtcbbmgohdcabeaaCapsA
import Derived.Deep.Light
namespace Go.Proofs.Ytcbbmgohdcabeaa
open Go.RowKit
set_option maxRecDepth 100000

/-- What stands in the two new blocks. -/
structure FieldsAt (b o b1 b2 : Nat) (w : World) : Prop where
  n0 : w.cell? ⟨b1, 0, none⟩ = some (.pointer (some ⟨b, o, none⟩))
  n1 : w.cell? ⟨b1, 1, none⟩ = some (.pointer (some ⟨b, o + 1, none⟩))
  n2 : w.cell? ⟨b1, 2, none⟩ = some (.pointer (some ⟨b, o + 2, none⟩))
  n3 : w.cell? ⟨b1, 3, none⟩ = some (.pointer (some ⟨b, o + 3, none⟩))
  n4 : w.cell? ⟨b1, 4, none⟩ = some (.pointer (some ⟨b, o + 4, none⟩))
  n5 : w.cell? ⟨b1, 5, none⟩ = some (.pointer (some ⟨b, o + 6, none⟩))
  n6 : w.cell? ⟨b1, 6, none⟩ = some (.pointer (some ⟨b, o + 5, none⟩))
  a0 : w.cell? ⟨b2, 0, none⟩ = some (.int .i64 0)
  z0 : w.cell? ⟨b2, 1, none⟩ = some (.int .i64 4)
  a1 : w.cell? ⟨b2, 2, none⟩ = some (.int .i64 4)
  z1 : w.cell? ⟨b2, 3, none⟩ = some (.int .i64 10)
  a2 : w.cell? ⟨b2, 4, none⟩ = some (.int .i64 14)
  z2 : w.cell? ⟨b2, 5, none⟩ = some (.int .i64 4)
  a3 : w.cell? ⟨b2, 6, none⟩ = some (.int .i64 18)
  z3 : w.cell? ⟨b2, 7, none⟩ = some (.int .i64 20)
  a4 : w.cell? ⟨b2, 8, none⟩ = some (.int .i64 38)
  z4 : w.cell? ⟨b2, 9, none⟩ = some (.int .i64 3)
  a5 : w.cell? ⟨b2, 10, none⟩ = some (.int .i64 41)
  z5 : w.cell? ⟨b2, 11, none⟩ = some (.int .i64 5)
  a6 : w.cell? ⟨b2, 12, none⟩ = some (.int .i64 46)
  z6 : w.cell? ⟨b2, 13, none⟩ = some (.int .i64 16)

def FieldsPost (b o : Nat) (w : World) (e : Ending) (w' : World) : Prop :=
  ∃ b1 b2, e = .returned (.tuple #[.slice (some ⟨b1, 0, none⟩) 7 7, .slice (some ⟨b2, 0, none⟩) 7 7]) ∧ FieldsAt b o b1 b2 w' ∧ w'.heap.size = w.heap.size + 2 ∧ b1 ≥ w.heap.size ∧ b2 ≥ w.heap.size ∧ Below w.heap.size w w'

set_option maxHeartbeats 2000000 in
theorem fields_any (b o : Nat) (w : World) :
    Calls Try.prog 41 #[.pointer (some ⟨b, o, none⟩)] w (FieldsPost b o w) := by
  go_enter Try.func41, Try.ntmps41
  go_wp2
  go_region_with (fail)
  all_goals (go_wp2)
  · go_ret2
    go_light
    refine ⟨w.heap.size, w.heap.size + 1, rfl, ?_, by simp, Nat.le_refl _, Nat.le_succ _, ?_⟩
    · constructor <;> simp
    · repeat (first | (with_reducible exact Below.refl _ _) | (with_reducible refine Below.drew ?_) | (with_reducible refine Below.alloc ?_ (by first | (simp; done) | (simp; omega)) _))
  · go_ret2
    go_light
    refine ⟨w.heap.size + 1, w.heap.size, rfl, ?_, by simp, Nat.le_succ _, Nat.le_refl _, ?_⟩
    · constructor <;> simp
    · repeat (first | (with_reducible exact Below.refl _ _) | (with_reducible refine Below.drew ?_) | (with_reducible refine Below.alloc ?_ (by first | (simp; done) | (simp; omega)) _))
end Go.Proofs.Ytcbbmgohdcabeaa
