/- Who is next, told by what it is; the contract of gic's method Ack. Condition: the block is a controller's. -/
import Derived.Test.YtmehieloehlepaaGicN
namespace Go.Proofs.Ytmehieloehlepaa
open Go.RowKit
set_option maxRecDepth 100000

/-- A line that is enabled, pending, not active, and of a priority below m. -/
def Cand (G : Gm) (m : Int) (i : Nat) : Prop := G.en i = true ∧ G.pe i = true ∧ G.ac i = false ∧ G.pr i < m
/-- Line j is the first of the least priority among the first k lines. -/
def First (G : Gm) (m : Int) (k j : Nat) : Prop := j < k ∧ Cand G m j ∧ ∀ i, i < k → Cand G m i → G.pr j < G.pr i ∨ G.pr j = G.pr i ∧ j ≤ i
theorem First.unique {G : Gm} {m : Int} {k j j' : Nat} (h : First G m k j) (h' : First G m k j') : j = j' := by
  have a := h.2.2 j' h'.1 h'.2.1
  have b := h'.2.2 j h.1 h.2.1
  omega
theorem nextF_is (G : Gm) (m : Int) (k : Nat) :
    (nextF G m k = (0, false, m) ∧ ∀ i, i < k → ¬ Cand G m i) ∨ ∃ j : Nat, nextF G m k = ((j : Int), true, G.pr j) ∧ First G m k j := by
  induction k with
  | zero => exact .inl ⟨rfl, fun i hi => by omega⟩
  | succ k ih =>
    by_cases hc : G.en k = true ∧ G.pe k = true ∧ G.ac k = false ∧ G.pr k < (nextF G m k).2.2
    · rw [nextF_yes hc.1 hc.2.1 hc.2.2.1 hc.2.2.2]
      refine .inr ⟨k, rfl, by omega, ⟨hc.1, hc.2.1, hc.2.2.1, ?_⟩, fun i hi ci => ?_⟩
      · rcases ih with ⟨e, _⟩ | ⟨j, e, hj⟩
        · have := hc.2.2.2; rw [e] at this; exact this
        · have := hc.2.2.2; rw [e] at this; have := hj.2.1.2.2.2; simp only at *; omega
      · by_cases hik : i = k
        · subst hik; omega
        · rcases ih with ⟨e, hn⟩ | ⟨j, e, hj⟩
          · exact absurd ci (hn i (by omega))
          · have h1 := hc.2.2.2; rw [e] at h1
            have h2 := hj.2.2 i (by omega) ci
            simp only at h1; omega
    · have hc' : G.en k = false ∨ G.pe k = false ∨ G.ac k = true ∨ ¬ G.pr k < (nextF G m k).2.2 := by
        cases he : G.en k <;> cases hp : G.pe k <;> cases ha : G.ac k <;> simp_all
      rw [nextF_no hc']
      rcases ih with ⟨e, hn⟩ | ⟨j, e, hj⟩
      · refine .inl ⟨e, fun i hi ci => ?_⟩
        by_cases hik : i = k
        · subst hik
          rw [e] at hc
          exact hc ⟨ci.1, ci.2.1, ci.2.2.1, ci.2.2.2⟩
        · exact hn i (by omega) ci
      · refine .inr ⟨j, e, by have := hj.1; omega, hj.2.1, fun i hi ci => ?_⟩
        by_cases hik : i = k
        · subst hik
          have hnl : ¬ G.pr i < G.pr j := by
            intro hl; rw [e] at hc; exact hc ⟨ci.1, ci.2.1, ci.2.2.1, hl⟩
          have := hj.1
          omega
        · exact hj.2.2 i (by omega) ci

/-- The bound below which a line is heard. -/
def bar (G : Gm) : Int := mn2 G.mask (runF G 32)
theorem lt_bar (G : Gm) (x : Int) : x < bar G ↔ x < G.mask ∧ x < runF G 32 := by
  unfold bar mn2; split <;> omega
/-- What Ack does when line j is next. -/
def acked (G : Gm) (j : Nat) : Gm := { G with pe := upd G.pe j false, ac := upd G.ac j true, sv := upd G.sv j (G.pr j) }

set_option maxHeartbeats 1000000 in
theorem ack_none (b : Nat) (G : Gm) (w : World) (h : GicAt w b G) (hn : ∀ i, i < 32 → ¬ Cand G (bar G) i) :
    Calls Try.prog 13 #[.pointer (some ⟨b, 0, none⟩)] w fun e w' => e = .returned (.int .i64 1023) ∧ GicAt w' b G ∧ Upd (· = b) w w' := by
  have hN : nextF G (mn2 G.mask (runF G 32)) 32 = (0, false, bar G) := by
    rcases nextF_is G (bar G) 32 with ⟨e, _⟩ | ⟨j, _, hj⟩
    · exact e
    · exact absurd hj.2.1 (hn j hj.1)
  have HN := Lib.hid hN; clear hN
  have H := Lib.hid h; clear h
  go_enter Try.func13, Try.ntmps13
  go_wp2_with (go_at_call 16; refine (next_any b G _ (by exact H.out)).mono ?_; rw [HN.out]; rintro e w1 ⟨rfl, hb⟩; have HB := Lib.hid hb; clear hb)
  go_ret
  go_light
  exact ⟨rfl, H.out.below HB.out, Upd.of_below HB.out⟩

set_option maxHeartbeats 1000000 in
theorem ack_some (b : Nat) (G : Gm) (w : World) (h : GicAt w b G) (j : Nat) (hj : First G (bar G) 32 j) :
    Calls Try.prog 13 #[.pointer (some ⟨b, 0, none⟩)] w fun e w' => e = .returned (.int .i64 j) ∧ GicAt w' b (acked G j) ∧ Upd (· = b) w w' := by
  have hN : nextF G (mn2 G.mask (runF G 32)) 32 = ((j : Int), true, G.pr j) := by
    rcases nextF_is G (bar G) 32 with ⟨_, hn⟩ | ⟨j', e, hj'⟩
    · exact absurd hj.2.1 (hn j hj.1)
    · obtain rfl := hj.unique hj'
      exact e
  have HN := Lib.hid hN; clear hN
  have H := Lib.hid h; clear h
  have hlt : j < 32 := hj.1
  clear hj
  go_enter Try.func13, Try.ntmps13
  go_wp2_with fail
  refine (next_any b G _ (by exact H.out)).mono ?_; rw [HN.out]; rintro e w1 ⟨rfl, hb⟩
  have HB := Lib.hid hb; clear hb
  have H1 : Hid (GicAt w1 b G) := Lib.hid (H.out.below HB.out)
  have c0 := RowAt.cell H1.out (j * 5) (by omega)
  rw [gcell_pr G j hlt] at c0
  have c1 := RowAt.cell H1.out (j * 5 + 1) (by omega)
  have c3 := RowAt.cell H1.out (j * 5 + 3) (by omega)
  have c4 := RowAt.cell H1.out (j * 5 + 4) (by omega)
  have f1 := RowAt.frozen H1.out (j * 5 + 1)
  have f3 := RowAt.frozen H1.out (j * 5 + 3)
  have f4 := RowAt.frozen H1.out (j * 5 + 4)
  go_wp2
  go_end0
  go_wp2
  go_ret
  go_light
  refine ⟨rfl, ?_, ?_⟩
  · exact GicAt.set_sv (GicAt.set_ac (GicAt.set_pe H1.out j hlt false) j hlt true) j hlt (G.pr j)
  · refine Upd.setCell (Upd.setCell (Upd.setCell (Upd.of_below HB.out) ?_ _) ?_ _) ?_ _ <;> exact .inl rfl
end Go.Proofs.Ytmehieloehlepaa
