/- The interrupt controller as plain functions: its lines, the running priority, who is next; plain facts. -/
import Derived.Test.YtmehieloehlepaaMem
namespace Go.Proofs.Ytmehieloehlepaa
open Go.RowKit

/-- The controller: of each line its priority, the one with which it was acknowledged, enabled, pending, active; the mask. -/
structure Gm where
  pr : Nat → Int
  sv : Nat → Int
  en : Nat → Bool
  pe : Nat → Bool
  ac : Nat → Bool
  mask : Int

/-- The program's cells: five a line, then the mask. -/
def gcell (G : Gm) (k : Nat) : Value :=
  if k = 160 then .int .i64 G.mask
  else if k % 5 = 0 then .int .i64 (G.pr (k / 5)) else if k % 5 = 1 then .int .i64 (G.sv (k / 5))
  else if k % 5 = 2 then .bool (G.en (k / 5)) else if k % 5 = 3 then .bool (G.pe (k / 5)) else .bool (G.ac (k / 5))
/-- The reference's cells: five arrays, then the mask. -/
def rcell (G : Gm) (k : Nat) : Value :=
  if k < 32 then .int .i64 (G.pr k) else if k < 64 then .bool (G.en (k - 32)) else if k < 96 then .bool (G.pe (k - 64))
  else if k < 128 then .bool (G.ac (k - 96)) else if k < 160 then .int .i64 (G.sv (k - 128)) else .int .i64 G.mask

def GicAt (w : World) (b : Nat) (G : Gm) : Prop := RowAt w b 57 161 (gcell G)
def RefAt (w : World) (b : Nat) (G : Gm) : Prop := RowAt w b 50 161 (rcell G)

def upd {α : Type} (f : Nat → α) (n : Nat) (v : α) : Nat → α := fun k => if k = n then v else f k

section
variable (G : Gm) (i : Nat)
theorem gcell_pr (hi : i < 32) : gcell G (i * 5) = .int .i64 (G.pr i) := by
  unfold gcell; rw [if_neg (by omega), if_pos (by omega), show i * 5 / 5 = i by omega]
theorem gcell_sv : gcell G (i * 5 + 1) = .int .i64 (G.sv i) := by
  unfold gcell; rw [if_neg (by omega), if_neg (by omega), if_pos (by omega), show (i * 5 + 1) / 5 = i by omega]
theorem gcell_en : gcell G (i * 5 + 2) = .bool (G.en i) := by
  unfold gcell; rw [if_neg (by omega), if_neg (by omega), if_neg (by omega), if_pos (by omega), show (i * 5 + 2) / 5 = i by omega]
theorem gcell_pe : gcell G (i * 5 + 3) = .bool (G.pe i) := by
  unfold gcell; rw [if_neg (by omega), if_neg (by omega), if_neg (by omega), if_neg (by omega), if_pos (by omega), show (i * 5 + 3) / 5 = i by omega]
theorem gcell_ac : gcell G (i * 5 + 4) = .bool (G.ac i) := by
  unfold gcell; rw [if_neg (by omega), if_neg (by omega), if_neg (by omega), if_neg (by omega), if_neg (by omega), show (i * 5 + 4) / 5 = i by omega]
end
theorem gcell_mask (G : Gm) : gcell G 160 = .int .i64 G.mask := rfl

section
variable {w : World} {b : Nat} {G : Gm}
theorem GicAt.set_pr (h : GicAt w b G) (i : Nat) (hi : i < 32) (v : Int) : GicAt (w.setCell ⟨b, i * 5, none⟩ (.int .i64 v)) b { G with pr := upd G.pr i v } := by
  refine (RowAt.set h (i * 5) _).congr fun k hk => ?_
  simp only [gcell, upd]
  repeat' split
  all_goals first | rfl | (exfalso; omega)
theorem GicAt.set_sv (h : GicAt w b G) (i : Nat) (hi : i < 32) (v : Int) : GicAt (w.setCell ⟨b, i * 5 + 1, none⟩ (.int .i64 v)) b { G with sv := upd G.sv i v } := by
  refine (RowAt.set h (i * 5 + 1) _).congr fun k hk => ?_
  simp only [gcell, upd]
  repeat' split
  all_goals first | rfl | (exfalso; omega)
theorem GicAt.set_en (h : GicAt w b G) (i : Nat) (hi : i < 32) (v : Bool) : GicAt (w.setCell ⟨b, i * 5 + 2, none⟩ (.bool v)) b { G with en := upd G.en i v } := by
  refine (RowAt.set h (i * 5 + 2) _).congr fun k hk => ?_
  simp only [gcell, upd]
  repeat' split
  all_goals first | rfl | (exfalso; omega)
theorem GicAt.set_pe (h : GicAt w b G) (i : Nat) (hi : i < 32) (v : Bool) : GicAt (w.setCell ⟨b, i * 5 + 3, none⟩ (.bool v)) b { G with pe := upd G.pe i v } := by
  refine (RowAt.set h (i * 5 + 3) _).congr fun k hk => ?_
  simp only [gcell, upd]
  repeat' split
  all_goals first | rfl | (exfalso; omega)
theorem GicAt.set_ac (h : GicAt w b G) (i : Nat) (hi : i < 32) (v : Bool) : GicAt (w.setCell ⟨b, i * 5 + 4, none⟩ (.bool v)) b { G with ac := upd G.ac i v } := by
  refine (RowAt.set h (i * 5 + 4) _).congr fun k hk => ?_
  simp only [gcell, upd]
  repeat' split
  all_goals first | rfl | (exfalso; omega)
theorem GicAt.set_mask (h : GicAt w b G) (v : Int) : GicAt (w.setCell ⟨b, 160, none⟩ (.int .i64 v)) b { G with mask := v } := by
  refine (RowAt.set h 160 _).congr fun k hk => ?_
  simp only [gcell]
  repeat' split
  all_goals first | rfl | (exfalso; omega)
theorem RefAt.set_pr (h : RefAt w b G) (i : Nat) (hi : i < 32) (v : Int) : RefAt (w.setCell ⟨b, i, none⟩ (.int .i64 v)) b { G with pr := upd G.pr i v } := by
  refine (RowAt.set h (i) _).congr fun k hk => ?_
  simp only [rcell, upd]
  repeat' split
  all_goals first | rfl | (exfalso; omega)
theorem rcell_pr (G : Gm) (i : Nat) (hi : i < 32) : rcell G (i) = .int .i64 (G.pr i) := by
  simp only [rcell]
  repeat' split
  all_goals first | (exfalso; omega) | rw [Nat.add_sub_cancel_left] | rfl
theorem RefAt.set_en (h : RefAt w b G) (i : Nat) (hi : i < 32) (v : Bool) : RefAt (w.setCell ⟨b, 32 + i, none⟩ (.bool v)) b { G with en := upd G.en i v } := by
  refine (RowAt.set h (32 + i) _).congr fun k hk => ?_
  simp only [rcell, upd]
  repeat' split
  all_goals first | rfl | (exfalso; omega)
theorem rcell_en (G : Gm) (i : Nat) (hi : i < 32) : rcell G (32 + i) = .bool (G.en i) := by
  simp only [rcell]
  repeat' split
  all_goals first | (exfalso; omega) | rw [Nat.add_sub_cancel_left] | rfl
theorem RefAt.set_pe (h : RefAt w b G) (i : Nat) (hi : i < 32) (v : Bool) : RefAt (w.setCell ⟨b, 64 + i, none⟩ (.bool v)) b { G with pe := upd G.pe i v } := by
  refine (RowAt.set h (64 + i) _).congr fun k hk => ?_
  simp only [rcell, upd]
  repeat' split
  all_goals first | rfl | (exfalso; omega)
theorem rcell_pe (G : Gm) (i : Nat) (hi : i < 32) : rcell G (64 + i) = .bool (G.pe i) := by
  simp only [rcell]
  repeat' split
  all_goals first | (exfalso; omega) | rw [Nat.add_sub_cancel_left] | rfl
theorem RefAt.set_ac (h : RefAt w b G) (i : Nat) (hi : i < 32) (v : Bool) : RefAt (w.setCell ⟨b, 96 + i, none⟩ (.bool v)) b { G with ac := upd G.ac i v } := by
  refine (RowAt.set h (96 + i) _).congr fun k hk => ?_
  simp only [rcell, upd]
  repeat' split
  all_goals first | rfl | (exfalso; omega)
theorem rcell_ac (G : Gm) (i : Nat) (hi : i < 32) : rcell G (96 + i) = .bool (G.ac i) := by
  simp only [rcell]
  repeat' split
  all_goals first | (exfalso; omega) | rw [Nat.add_sub_cancel_left] | rfl
theorem RefAt.set_sv (h : RefAt w b G) (i : Nat) (hi : i < 32) (v : Int) : RefAt (w.setCell ⟨b, 128 + i, none⟩ (.int .i64 v)) b { G with sv := upd G.sv i v } := by
  refine (RowAt.set h (128 + i) _).congr fun k hk => ?_
  simp only [rcell, upd]
  repeat' split
  all_goals first | rfl | (exfalso; omega)
theorem rcell_sv (G : Gm) (i : Nat) (hi : i < 32) : rcell G (128 + i) = .int .i64 (G.sv i) := by
  simp only [rcell]
  repeat' split
  all_goals first | (exfalso; omega) | rw [Nat.add_sub_cancel_left] | rfl
theorem RefAt.set_mask (h : RefAt w b G) (v : Int) : RefAt (w.setCell ⟨b, 160, none⟩ (.int .i64 v)) b { G with mask := v } := by
  refine (RowAt.set h 160 _).congr fun k hk => ?_
  simp only [rcell]
  repeat' split
  all_goals first | rfl | (exfalso; omega)
theorem rcell_mask (G : Gm) : rcell G 160 = .int .i64 G.mask := by simp [rcell]
end
end Go.Proofs.Ytmehieloehlepaa
