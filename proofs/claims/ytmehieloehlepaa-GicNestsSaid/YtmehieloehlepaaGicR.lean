/- The contract of gic's method Running: the least priority with which an active line was acknowledged, or 256. Condition: the block is a controller's, and its numbers are 64-bit ones. -/
import Derived.Test.YtmehieloehlepaaGicM
import Derived.Laws.Rows
namespace Go.Proofs.Ytmehieloehlepaa
open Go.RowKit
set_option maxRecDepth 100000

/-- The lines as one value. -/
def linesL (G : Gm) : List Value := (List.range 160).map (gcell G)
def linesV (G : Gm) : Value := .agg (linesL G).toArray
theorem linesL_len (G : Gm) : (linesL G).length = 160 := by simp [linesL]
theorem linesL_at (G : Gm) (k : Nat) (hk : k < 160) : (linesL G)[k]? = some (gcell G k) := by
  simp [linesL, hk]

theorem info55 : (Try.prog.info? 55).map (·.size) = some 160 := by kernel_rfl
theorem info54 : (Try.prog.info? 54).map (·.size) = some 5 := by kernel_rfl

theorem run_load_lines (w : World) (b : Nat) (G : Gm) (h : GicAt w b G) : (loadVar 55 ⟨b, 0, none⟩).run Try.prog w = .ok (linesV G) w := by
  have hl : (loadCells ⟨b, 0, none⟩ (linesL G).length).run Try.prog w = .ok (linesL G).toArray w :=
    run_loadCells_list (P := Try.prog) w ⟨b, 0, none⟩ (linesL G) (fun j v hv => by
      have hj : j < 160 := by
        rcases Nat.lt_or_ge j 160 with hj | hj
        · exact hj
        · rw [List.getElem?_eq_none (by rw [linesL_len]; exact hj)] at hv; cases hv
      have hadd : (⟨b, 0, none⟩ : Addr).add j = ⟨b, j, none⟩ := by unfold Addr.add; split <;> simp_all
      rw [hadd, RowAt.cell h j (by omega)]
      rw [linesL_at G j hj] at hv
      exact hv)
  rw [linesL_len] at hl
  cases hq : Try.prog.info? 55 with
  | none => have := info55; rw [hq] at this; cases this
  | some i =>
    have hs : i.size = 160 := by have := info55; rw [hq] at this; simpa using this
    have hagg : (isAgg 55).run Try.prog w = .ok true w := by
      unfold isAgg
      rw [Sem.run_bind, run_underlying Try.underlying55 w]
      rfl
    simp only [loadVar, Sem.run_bind, hagg, sizeOf, typeInfo, Result.andThen_ok, linesV]
    simp [hq, hs, hl]

theorem lines_part (G : Gm) (k : Nat) (hk : k < 32) : (linesL G).toArray.extract (k * 5) (k * 5 + 5) =
    #[.int .i64 (G.pr k), .int .i64 (G.sv k), .bool (G.en k), .bool (G.pe k), .bool (G.ac k)] := by
  rw [← gcell_pr G k hk, ← gcell_sv G k, ← gcell_en G k, ← gcell_pe G k, ← gcell_ac G k]
  apply Array.ext_getElem?
  intro j
  rw [Array.getElem?_extract]
  simp only [List.size_toArray, linesL_len]
  by_cases hj : j < 5
  · rw [if_pos (by omega)]
    simp only [List.getElem?_toArray]
    rw [linesL_at G _ (by omega)]
    rcases (by omega : j = 0 ∨ j = 1 ∨ j = 2 ∨ j = 3 ∨ j = 4) with rfl | rfl | rfl | rfl | rfl <;> rfl
  · rw [if_neg (by omega)]
    symm
    simp; omega

theorem run_index_line (G : Gm) (k : Nat) (hk : k < 32) (w : World) : (Instr.index 55 (linesV G) (.int .i64 k)).run Try.prog w =
    .ok (.agg #[.int .i64 (G.pr k), .int .i64 (G.sv k), .bool (G.en k), .bool (G.pe k), .bool (G.ac k)]) w := by
  have hagg : (isAgg 54).run Try.prog w = .ok true w := by
    unfold isAgg
    rw [Sem.run_bind, run_underlying Try.underlying54 w]
    rfl
  cases hq : Try.prog.info? 54 with
  | none => have := info54; rw [hq] at this; cases this
  | some i =>
    have hs : i.size = 5 := by have := info54; rw [hq] at this; simpa using this
    have h1 : (0 : Int) ≤ (k : Int) ∧ (k : Int) < 32 := by omega
    simp [Instr.index, linesV, asIntOf, run_underlying Try.underlying55, h1, part, sizeOf, typeInfo, hq, hs]
    have hp := lines_part G k hk
    simp only [List.extract_toArray] at hp
    rw [if_pos hk]
    simp at hp
    rw [hp]

theorem wpList_value {ops : Array Oper} {rest : List Oper} {o : Oper} {a : Act} {w w' : World} {v : Value} {Q : Exit → Act → World → Prop} (hgd : o.guard = none)
    (hrun : (execOp a.eval o).run Try.prog w = .ok (.value v) w') (h : wpList Try.prog ops Q rest (a.put o.dst v) w') : wpList Try.prog ops Q (o :: rest) a w :=
  wpList_plain hgd fun K hK => by unfold Oper.wp; rw [hrun]; exact hK _ _ h
theorem run_exec_lines (w : World) (b : Nat) (G : Gm) (h : GicAt w b G) (o : Oper) (a : Act) (x : Operand) (ho : o.op = .load 55 x) (hx : a.eval x = .pointer (some ⟨b, 0, none⟩)) :
    (execOp a.eval o).run Try.prog w = .ok (.value (linesV G)) w := by
  unfold execOp
  simp only [ho, hx, Instr.loadAt, Instr.sureAddr, Sem.run_bind, Sem.run_pure, Result.andThen_ok, run_load_lines w b G h]

/-- The running priority of the first k lines. -/
def runF (G : Gm) : Nat → Int
  | 0 => 256
  | k + 1 => if G.ac k = true ∧ G.sv k < runF G k then G.sv k else runF G k

set_option maxHeartbeats 1000000 in
theorem running_any (b : Nat) (G : Gm) (w : World) (h : GicAt w b G) :
    Calls Try.prog 21 #[.pointer (some ⟨b, 0, none⟩)] w fun e w' => e = .returned (.int .i64 (runF G 32)) ∧ Below w.heap.size w w' := by
  have H := Lib.hid h; clear h
  go_enter Try.func21, Try.ntmps21
  go_wp2_with (with_reducible refine wpList_value rfl (run_exec_lines _ b G H.out _ _ _ rfl rfl) ?_)
  go_loopw [3, 5, 10] (fun v3 v5 v10 wr => ∃ k : Nat, k ≤ 32 ∧ v10 = .int .i64 k ∧ v3 = .int .i64 (runF G k) ∧ Below w.heap.size w wr) (fun _ _ v10 _ => 32 - (intOf v10).toNat)
  case atStart => exact ⟨0, by omega, rfl, rfl, Below.refl _ _⟩
  case round =>
    obtain ⟨k, hk, rfl, rfl, hb⟩ := hrel
    have HB := Lib.hid hb; clear hb
    by_cases hlt : k < 32
    · have hi := run_index_line G k hlt
      cases ha : G.ac k
      · go_wp2
        go_roundw
        case rel => exact ⟨k + 1, by omega, by go_num, by simp [runF, ha], HB.out.alloc HB.out.size _⟩
        case measure => simp [intOf]; omega
      · go_wp2
        go_roundw
        case rel => exact ⟨k + 1, by omega, by go_num, by simp [runF, ha], HB.out.alloc HB.out.size _⟩
        case measure => simp [intOf]; omega
    · go_wp2
      go_ret
      go_light
      obtain rfl : k = 32 := by omega
      exact ⟨rfl, HB.out⟩
end Go.Proofs.Ytmehieloehlepaa
