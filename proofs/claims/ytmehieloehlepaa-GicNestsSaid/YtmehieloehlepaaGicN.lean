/- The contract of gic's method Next: of the lines that may be heard the first one of the least priority. Condition: the block is a controller's. -/
import Derived.Test.YtmehieloehlepaaGicR
import Derived.Deep.RegionHeld3
namespace Go.Proofs.Ytmehieloehlepaa
open Go.RowKit
set_option maxRecDepth 100000

theorem GicAt.below {w w' : World} {b : Nat} {G : Gm} (h : GicAt w b G) (hb : Below w.heap.size w w') : GicAt w' b G :=
  RowAt.kept h (S := fun _ => False) (Upd.of_below hb) (fun h => h)
theorem RefAt.below {w w' : World} {b : Nat} {G : Gm} (h : RefAt w b G) (hb : Below w.heap.size w w') : RefAt w' b G :=
  RowAt.kept h (S := fun _ => False) (Upd.of_below hb) (fun h => h)

/-- What the loop of Next has found among the first k lines: the line, whether there is one, the priority to be beaten. -/
def nextF (G : Gm) (m : Int) : Nat → Int × Bool × Int
  | 0 => (0, false, m)
  | k + 1 => if (G.en k && G.pe k && !G.ac k && decide (G.pr k < (nextF G m k).2.2)) = true then ((k : Int), true, G.pr k) else nextF G m k
theorem nextF_yes {G : Gm} {m : Int} {k : Nat} (he : G.en k = true) (hp : G.pe k = true) (ha : G.ac k = false) (hl : G.pr k < (nextF G m k).2.2) : nextF G m (k + 1) = ((k : Int), true, G.pr k) := by
  simp [nextF, he, hp, ha, hl]
theorem nextF_no {G : Gm} {m : Int} {k : Nat} (h : G.en k = false ∨ G.pe k = false ∨ G.ac k = true ∨ ¬ G.pr k < (nextF G m k).2.2) : nextF G m (k + 1) = nextF G m k := by
  rcases h with h | h | h | h <;> simp [nextF, h]

theorem running_kept (b : Nat) (G : Gm) (w : World) (h : GicAt w b G) :
    Calls Try.prog 21 #[.pointer (some ⟨b, 0, none⟩)] w fun e w' => e = .returned (.int .i64 (runF G 32)) ∧ GicAt w' b G ∧ w'.cell? ⟨b, 160, none⟩ = some (.int .i64 G.mask) ∧ Below w.heap.size w w' :=
  (running_any b G w h).mono fun _ _ ⟨he, hb⟩ => ⟨he, h.below hb, RowAt.cell (h.below hb) 160 (by omega), hb⟩

def mn2 (a b : Int) : Int := if b < a then b else a

set_option maxHeartbeats 2000000 in
theorem next_any (b : Nat) (G : Gm) (w : World) (h : GicAt w b G) :
    Calls Try.prog 16 #[.pointer (some ⟨b, 0, none⟩)] w fun e w' =>
      e = .returned (.tuple #[.int .i64 (nextF G (mn2 G.mask (runF G 32)) 32).1, .bool (nextF G (mn2 G.mask (runF G 32)) 32).2.1]) ∧ Below w.heap.size w w' := by
  have H := Lib.hid h; clear h
  have cm := RowAt.cell H.out 160 (by omega)
  rw [gcell_mask] at cm
  go_enter Try.func16, Try.ntmps16
  go_wp2_with fail
  go_region_held3 (fun w' => w'.cell? ⟨b, 160, none⟩ = some (.int .i64 G.mask)) (go_keep)
    (first | (go_at_call 21; refine (running_kept b G _ (by exact H.out)).mono ?_; rintro e w1 ⟨rfl, hg, cm1, hb⟩))
  rw [show (if runF G 32 < G.mask then runF G 32 else G.mask) = mn2 G.mask (runF G 32) from rfl]
  obtain ⟨m, hm⟩ : ∃ m, mn2 G.mask (runF G 32) = m := ⟨_, rfl⟩
  rw [hm]
  have HM := Lib.hid hm; clear hm
  have HG := Lib.hid hg; clear hg cm1 cm
  have hz : w.heap.size ≤ w1.heap.size := hb.size
  have HB0 : Hid (Below w.heap.size w w1) := ⟨hb.os, hb.tape, hb.output, hb.size, hb.block⟩
  clear hb
  go_wp2_with (with_reducible refine wpList_value rfl (run_exec_lines _ b G HG.out _ _ _ rfl rfl) ?_)
  go_loopw [2, 3, 4, 5, 6, 18] (fun v2 v3 v4 v5 v6 v18 wr => ∃ k : Nat, k ≤ 32 ∧ v18 = .int .i64 k ∧ v2 = .int .i64 (nextF G m k).1 ∧ v3 = .bool (nextF G m k).2.1 ∧ v4 = .int .i64 (nextF G m k).2.2 ∧ Below w.heap.size w wr) (fun _ _ _ _ _ v18 _ => 32 - (intOf v18).toNat)
  case atStart => exact ⟨0, by omega, rfl, rfl, rfl, rfl, HB0.out⟩
  case round =>
    obtain ⟨k, hk, rfl, rfl, rfl, rfl, hb⟩ := hrel
    have hs := hb.size
    have HB := Lib.hid hb; clear hb
    by_cases hlt : k < 32
    · have hi := run_index_line G k hlt
      cases he : G.en k
      · go_wp2
        go_roundw
        case rel => exact ⟨k + 1, by omega, by go_num, by rw [nextF_no (.inl he)], by rw [nextF_no (.inl he)], by rw [nextF_no (.inl he)], HB.out.alloc HB.out.size _⟩
        case measure => simp [intOf]; omega
      cases hp : G.pe k
      · go_wp2
        go_roundw
        case rel => exact ⟨k + 1, by omega, by go_num, by rw [nextF_no (.inr (.inl hp))], by rw [nextF_no (.inr (.inl hp))], by rw [nextF_no (.inr (.inl hp))], HB.out.alloc HB.out.size _⟩
        case measure => simp [intOf]; omega
      cases ha : G.ac k
      · by_cases hl : G.pr k < (nextF G m k).2.2
        · have hn := Lib.hid (nextF_yes he hp ha hl)
          go_wp2
          go_quiet (fail)
          go_wp2
          go_roundw
          case rel => exact ⟨k + 1, by omega, by go_num, by rw [hn.out], by rw [hn.out], by rw [hn.out], by repeat (first | exact HB.out | refine below_drewN ?_ _ | refine Below.drew ?_ | refine Below.alloc ?_ (by first | omega | (simp; omega)) _)⟩
          case measure => simp [intOf]; omega
        · have hn := Lib.hid (nextF_no (.inr (.inr (.inr hl))))
          go_wp2
          go_roundw
          case rel => exact ⟨k + 1, by omega, by go_num, by rw [hn.out], by rw [hn.out], by rw [hn.out], HB.out.alloc HB.out.size _⟩
          case measure => simp [intOf]; omega
      · have hn := Lib.hid (nextF_no (m := m) (.inr (.inr (.inl ha))))
        go_wp2
        go_roundw
        case rel => exact ⟨k + 1, by omega, by go_num, by rw [hn.out], by rw [hn.out], by rw [hn.out], HB.out.alloc HB.out.size _⟩
        case measure => simp [intOf]; omega
    · go_wp2
      go_ret2
      go_light
      obtain rfl : k = 32 := by omega
      rw [HM.out]
      generalize nextF G m 32 = x
      exact ⟨rfl, HB.out⟩
end Go.Proofs.Ytmehieloehlepaa
