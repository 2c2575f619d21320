/- Plain facts for the law on the most urgent line: the array of what was before; the running priority behind an acknowledgement. -/
import Derived.Test.YtmehieloehlepaaGicS
import Derived.Test.YtmehieloehlepaaGicW
namespace Go.Proofs.Ytmehieloehlepaa
open Go.RowKit
set_option maxRecDepth 100000

/-- The cells of an array of 32 api.Lr, of which the first k tell G's lines. -/
def bcell (G : Gm) (k j : Nat) : Value :=
  if j / 5 < k then
    (if j % 5 = 0 then .int .i64 ((j / 5 : Nat) : Int) else if j % 5 = 1 then .int .i64 (G.pr (j / 5)) else if j % 5 = 2 then .bool (G.en (j / 5)) else if j % 5 = 3 then .bool (G.pe (j / 5)) else .bool (G.ac (j / 5)))
  else (if j % 5 = 0 then .int .i64 0 else if j % 5 = 1 then .int .i64 0 else .bool false)
def BefAt (w : World) (b : Nat) (G : Gm) (k : Nat) : Prop := RowAt w b 51 160 (bcell G k)
def bz : Array Value := ((List.range 160).map (bcell G0 0)).toArray
theorem run_alloc51 (w : World) (a : Act) (d : Option Tmp) (t : TypeId) (p : String) (e : Array Edge) (g : Option (Nat × Bool)) :
    (execOp a.eval ⟨d, .alloc 51, t, p, e, g⟩).run Try.prog w = .ok (.value (.pointer (some ⟨w.heap.size, 0, none⟩))) (w.alloc (.cells bz 51)) := by kernel_rfl
theorem bef_new (w : World) (G : Gm) : BefAt (w.alloc (.cells bz 51)) w.heap.size G 0 := by
  refine (row_new_of w bz 51 160 (bcell G0 0) rfl).congr fun k hk => ?_
  simp [bcell]
section
variable (G : Gm) (i k : Nat) (hi : i < k)
include hi
theorem bcell_0 : bcell G k (i * 5) = .int .i64 i := by
  unfold bcell; rw [if_pos (by omega), if_pos (by omega), show i * 5 / 5 = i by omega]
theorem bcell_1 : bcell G k (i * 5 + 1) = .int .i64 (G.pr i) := by
  unfold bcell; rw [if_pos (by omega), if_neg (by omega), if_pos (by omega), show (i * 5 + 1) / 5 = i by omega]
theorem bcell_2 : bcell G k (i * 5 + 2) = .bool (G.en i) := by
  unfold bcell; rw [if_pos (by omega), if_neg (by omega), if_neg (by omega), if_pos (by omega), show (i * 5 + 2) / 5 = i by omega]
theorem bcell_3 : bcell G k (i * 5 + 3) = .bool (G.pe i) := by
  unfold bcell; rw [if_pos (by omega), if_neg (by omega), if_neg (by omega), if_neg (by omega), if_pos (by omega), show (i * 5 + 3) / 5 = i by omega]
theorem bcell_4 : bcell G k (i * 5 + 4) = .bool (G.ac i) := by
  unfold bcell; rw [if_pos (by omega), if_neg (by omega), if_neg (by omega), if_neg (by omega), if_neg (by omega), show (i * 5 + 4) / 5 = i by omega]
end
theorem BefAt.step {w : World} {b : Nat} {G : Gm} {k : Nat} (h : BefAt w b G k) :
    BefAt (((((w.setCell ⟨b, k * 5, none⟩ (.int .i64 k)).setCell ⟨b, k * 5 + 1, none⟩ (.int .i64 (G.pr k))).setCell ⟨b, k * 5 + 2, none⟩ (.bool (G.en k))).setCell ⟨b, k * 5 + 3, none⟩ (.bool (G.pe k))).setCell ⟨b, k * 5 + 4, none⟩ (.bool (G.ac k))) b G (k + 1) := by
  refine (RowAt.set (RowAt.set (RowAt.set (RowAt.set (RowAt.set h (k * 5) _) (k * 5 + 1) _) (k * 5 + 2) _) (k * 5 + 3) _) (k * 5 + 4) _).congr fun j hj => ?_
  by_cases h4 : j = k * 5 + 4
  · subst h4; simp only [if_true]; rw [bcell_4 G k (k + 1) (by omega)]
  by_cases h3 : j = k * 5 + 3
  · subst h3; simp only [if_true, h4, if_false]; rw [bcell_3 G k (k + 1) (by omega)]
  by_cases h2 : j = k * 5 + 2
  · subst h2; simp only [if_true, h4, h3, if_false]; rw [bcell_2 G k (k + 1) (by omega)]
  by_cases h1 : j = k * 5 + 1
  · subst h1; simp only [if_true, h4, h3, h2, if_false]; rw [bcell_1 G k (k + 1) (by omega)]
  by_cases h0 : j = k * 5
  · subst h0; simp only [if_true, h4, h3, h2, h1, if_false]; rw [bcell_0 G k (k + 1) (by omega)]
  simp only [h4, h3, h2, h1, h0, if_false]
  unfold bcell
  by_cases hlt : j / 5 < k
  · have e1 : j / 5 < k + 1 := by omega
    simp only [hlt, e1, if_true]
  · have e2 : ¬ j / 5 < k + 1 := by omega
    simp only [hlt, e2, if_false]

theorem runF_le (G : Gm) (k m : Nat) (h : k ≤ m) : runF G m ≤ runF G k := by
  induction m with
  | zero => have : k = 0 := by omega
            subst this; omega
  | succ m ih =>
    by_cases e : k = m + 1
    · subst e; omega
    · have := ih (by omega)
      simp only [runF]; split <;> omega
theorem runF_acked (G : Gm) (j : Nat) (R : Int) (k : Nat) (hR : ∀ m, m ≤ k → R ≤ runF G m) (hl : G.pr j < R) : runF (acked G j) k = if j < k then G.pr j else runF G k := by
  induction k with
  | zero => simp [runF]
  | succ k ih =>
    have ih := ih (fun m hm => hR m (by omega))
    have h1 := hR (k + 1) (by omega)
    have h0 := hR k (by omega)
    simp only [runF] at h1 ⊢
    rw [ih]
    simp only [acked, upd]
    by_cases e : k = j
    · subst e
      have h2 : G.pr k < runF G k := by omega
      simp [h2]
    · simp only [e, if_false]
      by_cases hj : j < k
      · simp only [hj, if_true, show j < k + 1 by omega]
        by_cases hc : G.ac k = true ∧ G.sv k < G.pr j
        · exfalso
          rw [if_pos ⟨hc.1, by omega⟩] at h1
          omega
        · rw [if_neg hc]
      · simp only [hj, if_false, show ¬ j < k + 1 by omega]
theorem run_acked (G : Gm) (j : Nat) (hj : j < 32) (hl : G.pr j < runF G 32) : runF (acked G j) 32 = G.pr j := by
  rw [runF_acked G j _ 32 (fun m hm => runF_le G m 32 hm) hl, if_pos hj]
end Go.Proofs.Ytmehieloehlepaa
