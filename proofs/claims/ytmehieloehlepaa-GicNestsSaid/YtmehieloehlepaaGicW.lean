/- The contracts of gic.New and of its reference's New: a new controller, all lines of the priority 255, none enabled, pending, active; no condition. -/
import Derived.Test.YtmehieloehlepaaGicM
namespace Go.Proofs.Ytmehieloehlepaa
open Go.RowKit
set_option maxRecDepth 100000

theorem row_new_of (w : World) (c : Array Value) (T : TypeId) (n : Nat) (f : Nat → Value) (e : c = ((List.range n).map f).toArray) : RowAt (w.alloc (.cells c T)) w.heap.size T n f := by
  subst e
  have h := RowAt.new w ((List.range n).map f).toArray T
  simp only [List.size_toArray, List.length_map, List.length_range] at h
  refine h.congr fun k hk => ?_
  simp [hk]

/-- A new controller whose first k lines have their priority. -/
def Gk (k : Nat) : Gm := ⟨fun i => if i < k then 255 else 0, fun _ => 0, fun _ => false, fun _ => false, fun _ => false, 256⟩
def G0 : Gm := ⟨fun _ => 255, fun _ => 0, fun _ => false, fun _ => false, fun _ => false, 256⟩
theorem Gk_step (k : Nat) : ({ Gk k with pr := upd (Gk k).pr k 255 } : Gm) = Gk (k + 1) := by
  simp only [Gk]
  congr 1
  funext i
  simp only [upd]
  by_cases h : i = k
  · rw [if_pos h, if_pos (by omega)]
  · rw [if_neg h]
    by_cases h2 : i < k
    · rw [if_pos h2, if_pos (by omega)]
    · rw [if_neg h2, if_neg (by omega)]
theorem gic_full {w : World} {b : Nat} (h : GicAt w b (Gk 32)) : GicAt w b G0 := by
  refine RowAt.congr h fun k hk => ?_
  simp only [gcell, Gk, G0]
  repeat' split
  all_goals first | rfl | (exfalso; omega)
theorem ref_full {w : World} {b : Nat} (h : RefAt w b (Gk 32)) : RefAt w b G0 := by
  refine RowAt.congr h fun k hk => ?_
  simp only [rcell, Gk, G0]
  repeat' split
  all_goals first | rfl | (exfalso; omega)

def gz : Array Value := ((List.range 161).map (gcell (Gk 0))).toArray
def rz : Array Value := ((List.range 161).map (rcell (Gk 0))).toArray
theorem wpList_value' {ops : Array Oper} {rest : List Oper} {o : Oper} {a : Act} {w w' : World} {v : Value} {Q : Exit → Act → World → Prop} (hgd : o.guard = none)
    (hrun : (execOp a.eval o).run Try.prog w = .ok (.value v) w') (h : wpList Try.prog ops Q rest (a.put o.dst v) w') : wpList Try.prog ops Q (o :: rest) a w :=
  wpList_plain hgd fun K hK => by unfold Oper.wp; rw [hrun]; exact hK _ _ h
theorem run_build57 (w : World) (a : Act) (d : Option Tmp) (t : TypeId) (p : String) (e : Array Edge) (g : Option (Nat × Bool)) : (execOp a.eval ⟨d, .build 57 #[(1, .const (.int .i64 256))], t, p, e, g⟩).run Try.prog w = .ok (.value (.agg gz)) w := by kernel_rfl
theorem run_build50 (w : World) (a : Act) (d : Option Tmp) (t : TypeId) (p : String) (e : Array Edge) (g : Option (Nat × Bool)) : (execOp a.eval ⟨d, .build 50 #[(5, .const (.int .i64 256))], t, p, e, g⟩).run Try.prog w = .ok (.value (.agg rz)) w := by kernel_rfl

def NewPost (w : World) (A : World → Nat → Prop) (e : Ending) (w' : World) : Prop := ∃ b, e = .returned (.pointer (some ⟨b, 0, none⟩)) ∧ A w' b ∧ w.heap.size ≤ b ∧ Below w.heap.size w w'

set_option maxHeartbeats 2000000 in
theorem new_any (w : World) : Calls Try.prog 9 #[] w (NewPost w (fun w' b => GicAt w' b G0)) := by
  go_enter Try.func9, Try.ntmps9
  go_wp2_with (with_reducible refine wpList_value' rfl (run_build57 _ _ _ _ _ _ _) ?_)
  go_loopw [2, 5] (fun v2 v5 wr => ∃ k : Nat, k ≤ 32 ∧ v5 = .int .i64 k ∧ GicAt wr w.heap.size (Gk k) ∧ Below w.heap.size w wr) (fun _ v5 _ => 32 - (intOf v5).toNat)
  case atStart => exact ⟨0, by omega, rfl, row_new_of w _ 57 161 (gcell (Gk 0)) rfl, (Below.refl _ _).alloc (Nat.le_refl _) _⟩
  case round =>
    obtain ⟨k, hk, rfl, hg, hb⟩ := hrel
    have H := Lib.hid hg; have HB := Lib.hid hb; clear hg hb
    by_cases hlt : k < 32
    · have c0 := RowAt.cell H.out (k * 5) (by omega)
      rw [gcell_pr (Gk k) k hlt] at c0
      have f0 := RowAt.frozen H.out (k * 5)
      go_wp2
      go_roundw
      case rel => exact ⟨k + 1, by omega, by go_num, by have := GicAt.set_pr H.out k hlt 255; rw [Gk_step] at this; exact this, HB.out.setCell (Nat.le_refl _) _⟩
      case measure => simp [intOf]; omega
    · go_wp2
      go_ret
      go_light
      obtain rfl : k = 32 := by omega
      exact ⟨w.heap.size, rfl, gic_full H.out, Nat.le_refl _, HB.out⟩

set_option maxHeartbeats 2000000 in
theorem rnew_any (w : World) : Calls Try.prog 18 #[] w (NewPost w (fun w' b => RefAt w' b G0)) := by
  go_enter Try.func18, Try.ntmps18
  go_wp2_with (with_reducible refine wpList_value' rfl (run_build50 _ _ _ _ _ _ _) ?_)
  go_loopw [2] (fun v2 wr => ∃ k : Nat, k ≤ 32 ∧ v2 = .int .i64 k ∧ RefAt wr w.heap.size (Gk k) ∧ Below w.heap.size w wr) (fun v2 _ => 32 - (intOf v2).toNat)
  case atStart => exact ⟨0, by omega, rfl, row_new_of w _ 50 161 (rcell (Gk 0)) rfl, (Below.refl _ _).alloc (Nat.le_refl _) _⟩
  case round =>
    obtain ⟨k, hk, rfl, hg, hb⟩ := hrel
    have H := Lib.hid hg; have HB := Lib.hid hb; clear hg hb
    by_cases hlt : k < 32
    · have c0 := RowAt.cell H.out k (by omega)
      rw [rcell_pr (Gk k) k hlt] at c0
      have f0 := RowAt.frozen H.out k
      go_wp2
      go_roundw
      case rel => exact ⟨k + 1, by omega, by go_num, by have := RefAt.set_pr H.out k hlt 255; rw [Gk_step] at this; exact this, HB.out.setCell (Nat.le_refl _) _⟩
      case measure => simp [intOf]; omega
    · go_wp2
      go_ret
      go_light
      obtain rfl : k = 32 := by omega
      exact ⟨w.heap.size, rfl, ref_full H.out, Nat.le_refl _, HB.out⟩
end Go.Proofs.Ytmehieloehlepaa
