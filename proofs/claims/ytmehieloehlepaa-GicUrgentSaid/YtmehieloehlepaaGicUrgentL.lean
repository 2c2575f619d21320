/- The walk of the law GicUrgent over lists of at most 100 acts. -/
import Derived.Test.YtmehieloehlepaaGicU
import Derived.Test.YtmehieloehlepaaGicZ
import Derived.Test.YtmehieloehlepaaGicO
namespace Go.Proofs.Ytmehieloehlepaa
open Go.RowKit
set_option maxRecDepth 100000
set_option maxHeartbeats 4000000 in
theorem walk_GicUrgentL (a : Option Addr) (len cap : Nat) (w : World) (hlen : len ≤ maxLen) (hacts : Acts w a len) (hx : len ≤ 100) :
    Calls Try.prog 6 #[.slice a len cap] w fun e w' => e = .returned (.bool true) ∧ Below w.heap.size w w' := by
  have HA := Lib.hid hacts; clear hacts
  unfold maxLen at hlen
  go_enter Try.func6, Try.ntmps6
  go_wp2_with fail
  refine (awake_any _).mono ?_
  rintro e w1 ⟨rfl, hb1⟩
  have B1 := Lib.hid hb1; clear hb1
  go_wp2_with fail
  refine (new_any _).mono ?_
  rintro e w2 ⟨g, rfl, hg, hg0, hb2⟩
  have B2 : Hid (Below w.heap.size w w2) := Lib.hid (B1.out.trans (hb2.mono B1.out.size))
  have zg : w.heap.size ≤ g := Nat.le_trans B1.out.size hg0
  have HG := Lib.hid hg; clear hg hg0 hb2
  go_wp2_with fail
  refine (rnew_any _).mono ?_
  rintro e w3 ⟨r, rfl, hr, hr0, hb3⟩
  have B3 : Hid (Below w.heap.size w w3) := Lib.hid (B2.out.trans (hb3.mono B2.out.size))
  have zr : w.heap.size ≤ r := Nat.le_trans B2.out.size hr0
  have hgr : g ≠ r := by have := RowAt.lt HG.out; omega
  have HG3 : Hid (GicAt w3 g G0) := Lib.hid (HG.out.below hb3)
  have HR := Lib.hid hr; clear hr hr0 hb3 HG B1 B2
  go_wp2_with fail
  go_loopw [6] (fun v6 wr => ∃ k : Nat, k ≤ 100 ∧ k ≤ len ∧ v6 = .int .i64 k ∧ (∃ G, Okg G ∧ GicAt wr g G ∧ RefAt wr r G) ∧ Below w.heap.size w wr) (fun v6 _ => 100 - (intOf v6).toNat)
  case atStart => exact ⟨0, by omega, by omega, rfl, ⟨G0, fun i _ => by simp [G0], HG3.out, HR.out⟩, B3.out⟩
  case round =>
    obtain ⟨k, hk, hkl, rfl, ⟨G, hok, hg, hr⟩, hb⟩ := hrel
    have HO := Lib.hid hok; have HGk := Lib.hid hg; have HRk := Lib.hid hr; have HB := Lib.hid hb; clear hok hg hr hb
    by_cases hlt : k < len
    · by_cases hlm : k < 100
      · obtain ⟨b, off, d, l, n, on, rfl, d0, d1, d2, d3⟩ := HA.out k hlt
        have hbl : b < w.heap.size := World.block_lt_of_cell? w _ d0
        have c0 := (HB.out.cell (p := ⟨b, off + k * 4, none⟩) hbl).trans d0
        have c1 := (HB.out.cell (p := ⟨b, off + k * 4 + 1, none⟩) hbl).trans d1
        have c2 := (HB.out.cell (p := ⟨b, off + k * 4 + 2, none⟩) hbl).trans d2
        have c3 := (HB.out.cell (p := ⟨b, off + k * 4 + 3, none⟩) hbl).trans d3
        clear d0 d1 d2 d3
        go_wp2_with fail
        refine (does_any g r hgr G _ HGk.out HRk.out HO.out d l n on).mono ?_
        rintro e w4 ⟨rfl, ⟨G', hok', hg', hr'⟩, hu⟩
        have B4 : Hid (Below w.heap.size w w4) := Lib.hid (HB.out.trans ⟨hu.os, hu.tape, hu.output, hu.size, fun q hq => hu.block q (by have := HB.out.size; omega) (by rintro (h | h) <;> omega)⟩)
        have HO' := Lib.hid hok'; have HG' := Lib.hid hg'; have HR' := Lib.hid hr'; clear hok' hg' hr' hu c0 c1 c2 c3 HO HGk HRk HB
        go_wp2_with fail
        go_roundw
        case rel => exact ⟨k + 1, by omega, by omega, by go_num, ⟨G', HO'.out, HG'.out, HR'.out⟩, B4.out⟩
        case measure => simp [intOf]; omega
      · exact absurd hx (by omega)

    · go_wp2_with fail
      clear HA
      refine (running_any g G _ HGk.out).mono ?_
      rintro e w4 ⟨rfl, hb4⟩
      have B4 := Lib.hid (HB.out.trans (hb4.mono HB.out.size)); have HG4 := Lib.hid (HGk.out.below hb4); have HR4 := Lib.hid (HRk.out.below hb4)
      clear hb4 HGk HRk HB
      obtain ⟨R, hR⟩ : ∃ R, runF G 32 = R := ⟨_, rfl⟩
      have HRR := Lib.hid hR
      rw [hR]
      clear hR
      have cm := RowAt.cell HR4.out 160 (by omega)
      rw [rcell_mask G] at cm
      go_wp2_with (with_reducible refine wpList_value' rfl (run_alloc51 _ _ _ _ _ _ _) ?_)
      clear cm
      have hbg : ¬ w4.heap.size = g := by have := RowAt.lt HG4.out; omega
      go_loopw [10, 11, 12] (fun v10 v11 v12 wr => ∃ i : Nat, i ≤ 32 ∧ v10 = .int .i64 i ∧ BefAt wr w4.heap.size G i ∧ GicAt wr g G ∧ Below w.heap.size w wr) (fun v10 _ _ _ => 32 - (intOf v10).toNat)
      case atStart => exact ⟨0, by omega, rfl, bef_new w4 G, RowAt.alloc HG4.out _, B4.out.alloc B4.out.size _⟩
      case round =>
        obtain ⟨i, hi, rfl, hbef, hg5, hb5⟩ := hrel
        have HBE := Lib.hid hbef; have HG5 := Lib.hid hg5; have B5 := Lib.hid hb5; clear hbef hg5 hb5
        by_cases hi32 : i < 32
        · go_wp2_with fail
          refine (state_ok g G _ HG5.out i (by omega) (by omega)).mono ?_
          rw [Int.toNat_natCast]
          rintro e w6 ⟨rfl, hb6⟩
          have B6 := Lib.hid (B5.out.trans (hb6.mono B5.out.size)); have HG6 := Lib.hid (HG5.out.below hb6)
          have HBE6 : Hid (BefAt w6 w4.heap.size G i) := Lib.hid (RowAt.kept HBE.out (S := fun _ => False) (Upd.of_below hb6) (fun h => h))
          clear hb6 HBE HG5 B5
          have zb : w4.heap.size < w6.heap.size := RowAt.lt HBE6.out
          have e0 := RowAt.cell HBE6.out (i * 5) (by omega)
          have e1 := RowAt.cell HBE6.out (i * 5 + 1) (by omega)
          have e2 := RowAt.cell HBE6.out (i * 5 + 2) (by omega)
          have e3 := RowAt.cell HBE6.out (i * 5 + 3) (by omega)
          have e4 := RowAt.cell HBE6.out (i * 5 + 4) (by omega)
          have f0 := RowAt.frozen HBE6.out (i * 5)
          have f1 := RowAt.frozen HBE6.out (i * 5 + 1)
          have f2 := RowAt.frozen HBE6.out (i * 5 + 2)
          have f3 := RowAt.frozen HBE6.out (i * 5 + 3)
          have f4 := RowAt.frozen HBE6.out (i * 5 + 4)
          go_wp2_with fail
          go_roundw
          case rel => exact ⟨i + 1, by omega, by go_num, RowAt.alloc (BefAt.step HBE6.out) _,
            RowAt.alloc (RowAt.other (RowAt.other (RowAt.other (RowAt.other (RowAt.other HG6.out hbg _) hbg _) hbg _) hbg _) hbg _) _,
            by repeat (first | exact B6.out | (with_reducible refine Below.setCell ?_ (by have := B4.out.size; simp; omega) _) | (refine Below.alloc ?_ (by have := B6.out.size; simp [World.setCell]; omega) _))⟩
          case measure => simp [intOf]; omega
        · obtain rfl : i = 32 := by omega
          clear hi hi32
          rcases nextF_is G (bar G) 32 with ⟨_, hnone⟩ | ⟨j, _, hj⟩
          · have hbar : ∀ x, x < 32 → heardB G x = false := fun x hx => by
              cases hh : heardB G x
              · rfl
              · exact absurd ((heardB_iff G x).1 hh) (hnone x hx)
            have HN := Lib.hid hnone; have HBAR := Lib.hid hbar; clear hnone hbar
            go_wp2_with fail
            refine (ack_none g G _ HG5.out HN.out).mono ?_
            rintro e w7 ⟨rfl, g7, u7⟩
            have HG7 := Lib.hid g7
            have HB7 : Hid (BefAt w7 w4.heap.size G 32) := Lib.hid (RowAt.kept HBE.out u7 hbg)
            have B7 : Hid (Below w.heap.size w w7) := Lib.hid (B5.out.trans ⟨u7.os, u7.tape, u7.output, u7.size, fun q hq => u7.block q (by have := B5.out.size; omega) (by rintro h; omega)⟩)
            clear g7 u7 HG5 HBE B5
            go_wp2_with fail
            go_loopw [14, 15, 16, 17, 18] (fun v14 v15 v16 v17 v18 wq => ∃ i : Nat, i ≤ 32 ∧ v14 = .int .i64 i ∧ BefAt wq w4.heap.size G 32 ∧ GicAt wq g (G) ∧ Below w.heap.size w wq) (fun v14 _ _ _ _ _ => 32 - (intOf v14).toNat)
            case atStart => exact ⟨0, by omega, rfl, HB7.out, HG7.out, B7.out⟩
            case round =>
              clear HB7 HG7 B7
              obtain ⟨i, hi, rfl, hbef, hg5, hb5⟩ := hrel
              have HBE := Lib.hid hbef; have HG5 := Lib.hid hg5; have B5 := Lib.hid hb5; clear hbef hg5 hb5
              by_cases hi32 : i < 32
              · have zb : w4.heap.size < wr.heap.size := RowAt.lt HBE.out
                have zb1 : w4.heap.size < wr.heap.size + 1 := by omega
                have e0 := RowAt.cell HBE.out (i * 5) (by omega)
                have e1 := RowAt.cell HBE.out (i * 5 + 1) (by omega)
                have e2 := RowAt.cell HBE.out (i * 5 + 2) (by omega)
                have e3 := RowAt.cell HBE.out (i * 5 + 3) (by omega)
                have e4 := RowAt.cell HBE.out (i * 5 + 4) (by omega)
                rw [bcell_0 G i 32 hi32] at e0
                rw [bcell_1 G i 32 hi32] at e1
                rw [bcell_2 G i 32 hi32] at e2
                rw [bcell_3 G i 32 hi32] at e3
                rw [bcell_4 G i 32 hi32] at e4
                cases he : G.en i
                · rw [he] at e2
                  go_wp2_with fail
                  go_quiet (fail)
                  go_wp2_with fail
                  refine (state_ok g _ _ (by first | exact RowAt.drewN (RowAt.alloc HG5.out _) _ | exact RowAt.alloc HG5.out _) i (by omega) (by omega)).mono ?_
                  rw [Int.toNat_natCast]
                  rintro e w8 ⟨rfl, hb8⟩
                  have B8 : Hid (Below w.heap.size w w8) := Lib.hid (by
                    refine Below.trans ?_ (hb8.mono (by have := B5.out.size; simp; omega))
                    repeat (first | exact B5.out | refine below_drewN ?_ _ | refine Below.drew ?_ | refine Below.alloc ?_ B5.out.size _))
                  have HG8 := Lib.hid (GicAt.below (by first | exact RowAt.drewN (RowAt.alloc HG5.out _) _ | exact RowAt.alloc HG5.out _) hb8)
                  have HB8 : Hid (BefAt w8 w4.heap.size G 32) := Lib.hid (RowAt.kept (by first | exact RowAt.drewN (RowAt.alloc HBE.out _) _ | exact RowAt.alloc HBE.out _) (S := fun _ => False) (Upd.of_below hb8) (fun h => h))
                  have zq : wr.heap.size < w8.heap.size := by have := hb8.size; simp at this; omega
                  have x0 := hb8.cell (p := ⟨wr.heap.size, 0, none⟩) (by simp)
                  have x1 := hb8.cell (p := ⟨wr.heap.size, 1, none⟩) (by simp)
                  have x2 := hb8.cell (p := ⟨wr.heap.size, 2, none⟩) (by simp)
                  have x3 := hb8.cell (p := ⟨wr.heap.size, 3, none⟩) (by simp)
                  have x4 := hb8.cell (p := ⟨wr.heap.size, 4, none⟩) (by simp)
                  simp at x0 x1 x2 x3 x4
                  clear hb8 e0 e1 e2 e3 e4
                  go_wp2_with fail
                  go_roundw
                  case rel => exact ⟨i + 1, by omega, by go_num, RowAt.alloc HB8.out _, RowAt.alloc HG8.out _, B8.out.alloc B8.out.size _⟩
                  case measure => simp [intOf]; omega
                cases hp : G.pe i
                · rw [he] at e2; rw [hp] at e3
                  go_wp2_with fail
                  go_quiet (fail)
                  go_wp2_with fail
                  refine (state_ok g _ _ (by first | exact RowAt.drewN (RowAt.alloc HG5.out _) _ | exact RowAt.alloc HG5.out _) i (by omega) (by omega)).mono ?_
                  rw [Int.toNat_natCast]
                  rintro e w8 ⟨rfl, hb8⟩
                  have B8 : Hid (Below w.heap.size w w8) := Lib.hid (by
                    refine Below.trans ?_ (hb8.mono (by have := B5.out.size; simp; omega))
                    repeat (first | exact B5.out | refine below_drewN ?_ _ | refine Below.drew ?_ | refine Below.alloc ?_ B5.out.size _))
                  have HG8 := Lib.hid (GicAt.below (by first | exact RowAt.drewN (RowAt.alloc HG5.out _) _ | exact RowAt.alloc HG5.out _) hb8)
                  have HB8 : Hid (BefAt w8 w4.heap.size G 32) := Lib.hid (RowAt.kept (by first | exact RowAt.drewN (RowAt.alloc HBE.out _) _ | exact RowAt.alloc HBE.out _) (S := fun _ => False) (Upd.of_below hb8) (fun h => h))
                  have zq : wr.heap.size < w8.heap.size := by have := hb8.size; simp at this; omega
                  have x0 := hb8.cell (p := ⟨wr.heap.size, 0, none⟩) (by simp)
                  have x1 := hb8.cell (p := ⟨wr.heap.size, 1, none⟩) (by simp)
                  have x2 := hb8.cell (p := ⟨wr.heap.size, 2, none⟩) (by simp)
                  have x3 := hb8.cell (p := ⟨wr.heap.size, 3, none⟩) (by simp)
                  have x4 := hb8.cell (p := ⟨wr.heap.size, 4, none⟩) (by simp)
                  simp at x0 x1 x2 x3 x4
                  clear hb8 e0 e1 e2 e3 e4
                  go_wp2_with fail
                  go_roundw
                  case rel => exact ⟨i + 1, by omega, by go_num, RowAt.alloc HB8.out _, RowAt.alloc HG8.out _, B8.out.alloc B8.out.size _⟩
                  case measure => simp [intOf]; omega
                cases ha : G.ac i
                · rw [he] at e2; rw [hp] at e3; rw [ha] at e4
                  by_cases hm : G.pr i < G.mask
                  · by_cases hr : G.pr i < R
                    · exfalso
                      have := HBAR.out i hi32
                      simp [heardB, he, hp, ha, hm, HRR.out, hr] at this
                    · have hd : decide (G.pr i < R) = false := by simpa using hr
                      go_wp2_with fail
                      go_quiet (fail)
                      go_wp2_with fail
                      refine (state_ok g _ _ (by first | exact RowAt.drewN (RowAt.alloc HG5.out _) _ | exact RowAt.alloc HG5.out _) i (by omega) (by omega)).mono ?_
                      rw [Int.toNat_natCast]
                      rintro e w8 ⟨rfl, hb8⟩
                      have B8 : Hid (Below w.heap.size w w8) := Lib.hid (by
                        refine Below.trans ?_ (hb8.mono (by have := B5.out.size; simp; omega))
                        repeat (first | exact B5.out | refine below_drewN ?_ _ | refine Below.drew ?_ | refine Below.alloc ?_ B5.out.size _))
                      have HG8 := Lib.hid (GicAt.below (by first | exact RowAt.drewN (RowAt.alloc HG5.out _) _ | exact RowAt.alloc HG5.out _) hb8)
                      have HB8 : Hid (BefAt w8 w4.heap.size G 32) := Lib.hid (RowAt.kept (by first | exact RowAt.drewN (RowAt.alloc HBE.out _) _ | exact RowAt.alloc HBE.out _) (S := fun _ => False) (Upd.of_below hb8) (fun h => h))
                      have zq : wr.heap.size < w8.heap.size := by have := hb8.size; simp at this; omega
                      have x0 := hb8.cell (p := ⟨wr.heap.size, 0, none⟩) (by simp)
                      have x1 := hb8.cell (p := ⟨wr.heap.size, 1, none⟩) (by simp)
                      have x2 := hb8.cell (p := ⟨wr.heap.size, 2, none⟩) (by simp)
                      have x3 := hb8.cell (p := ⟨wr.heap.size, 3, none⟩) (by simp)
                      have x4 := hb8.cell (p := ⟨wr.heap.size, 4, none⟩) (by simp)
                      simp at x0 x1 x2 x3 x4
                      clear hb8 e0 e1 e2 e3 e4
                      go_wp2_with fail
                      go_roundw
                      case rel => exact ⟨i + 1, by omega, by go_num, RowAt.alloc HB8.out _, RowAt.alloc HG8.out _, B8.out.alloc B8.out.size _⟩
                      case measure => simp [intOf]; omega
                  · have hd : decide (G.pr i < G.mask) = false := by simpa using hm
                    go_wp2_with fail
                    go_quiet (fail)
                    go_wp2_with fail
                    refine (state_ok g _ _ (by first | exact RowAt.drewN (RowAt.alloc HG5.out _) _ | exact RowAt.alloc HG5.out _) i (by omega) (by omega)).mono ?_
                    rw [Int.toNat_natCast]
                    rintro e w8 ⟨rfl, hb8⟩
                    have B8 : Hid (Below w.heap.size w w8) := Lib.hid (by
                      refine Below.trans ?_ (hb8.mono (by have := B5.out.size; simp; omega))
                      repeat (first | exact B5.out | refine below_drewN ?_ _ | refine Below.drew ?_ | refine Below.alloc ?_ B5.out.size _))
                    have HG8 := Lib.hid (GicAt.below (by first | exact RowAt.drewN (RowAt.alloc HG5.out _) _ | exact RowAt.alloc HG5.out _) hb8)
                    have HB8 : Hid (BefAt w8 w4.heap.size G 32) := Lib.hid (RowAt.kept (by first | exact RowAt.drewN (RowAt.alloc HBE.out _) _ | exact RowAt.alloc HBE.out _) (S := fun _ => False) (Upd.of_below hb8) (fun h => h))
                    have zq : wr.heap.size < w8.heap.size := by have := hb8.size; simp at this; omega
                    have x0 := hb8.cell (p := ⟨wr.heap.size, 0, none⟩) (by simp)
                    have x1 := hb8.cell (p := ⟨wr.heap.size, 1, none⟩) (by simp)
                    have x2 := hb8.cell (p := ⟨wr.heap.size, 2, none⟩) (by simp)
                    have x3 := hb8.cell (p := ⟨wr.heap.size, 3, none⟩) (by simp)
                    have x4 := hb8.cell (p := ⟨wr.heap.size, 4, none⟩) (by simp)
                    simp at x0 x1 x2 x3 x4
                    clear hb8 e0 e1 e2 e3 e4
                    go_wp2_with fail
                    go_roundw
                    case rel => exact ⟨i + 1, by omega, by go_num, RowAt.alloc HB8.out _, RowAt.alloc HG8.out _, B8.out.alloc B8.out.size _⟩
                    case measure => simp [intOf]; omega
                · rw [he] at e2; rw [hp] at e3; rw [ha] at e4
                  go_wp2_with fail
                  go_quiet (fail)
                  go_wp2_with fail
                  refine (state_ok g _ _ (by first | exact RowAt.drewN (RowAt.alloc HG5.out _) _ | exact RowAt.alloc HG5.out _) i (by omega) (by omega)).mono ?_
                  rw [Int.toNat_natCast]
                  rintro e w8 ⟨rfl, hb8⟩
                  have B8 : Hid (Below w.heap.size w w8) := Lib.hid (by
                    refine Below.trans ?_ (hb8.mono (by have := B5.out.size; simp; omega))
                    repeat (first | exact B5.out | refine below_drewN ?_ _ | refine Below.drew ?_ | refine Below.alloc ?_ B5.out.size _))
                  have HG8 := Lib.hid (GicAt.below (by first | exact RowAt.drewN (RowAt.alloc HG5.out _) _ | exact RowAt.alloc HG5.out _) hb8)
                  have HB8 : Hid (BefAt w8 w4.heap.size G 32) := Lib.hid (RowAt.kept (by first | exact RowAt.drewN (RowAt.alloc HBE.out _) _ | exact RowAt.alloc HBE.out _) (S := fun _ => False) (Upd.of_below hb8) (fun h => h))
                  have zq : wr.heap.size < w8.heap.size := by have := hb8.size; simp at this; omega
                  have x0 := hb8.cell (p := ⟨wr.heap.size, 0, none⟩) (by simp)
                  have x1 := hb8.cell (p := ⟨wr.heap.size, 1, none⟩) (by simp)
                  have x2 := hb8.cell (p := ⟨wr.heap.size, 2, none⟩) (by simp)
                  have x3 := hb8.cell (p := ⟨wr.heap.size, 3, none⟩) (by simp)
                  have x4 := hb8.cell (p := ⟨wr.heap.size, 4, none⟩) (by simp)
                  simp at x0 x1 x2 x3 x4
                  clear hb8 e0 e1 e2 e3 e4
                  go_wp2_with fail
                  go_roundw
                  case rel => exact ⟨i + 1, by omega, by go_num, RowAt.alloc HB8.out _, RowAt.alloc HG8.out _, B8.out.alloc B8.out.size _⟩
                  case measure => simp [intOf]; omega
              · obtain rfl : i = 32 := by omega
                go_wp2_with fail
                refine (running_any g _ _ HG5.out).mono ?_
                rintro e w8 ⟨rfl, hb8⟩
                have B8 := Lib.hid (B5.out.trans (hb8.mono B5.out.size)); clear hb8
                rw [HRR.out]
                go_wp2_with fail
                go_ret
                go_light
                exact ⟨rfl, B8.out⟩
          · have hjl := (lt_bar G _).1 hj.2.1.2.2.2
            have hj32 : j < 32 := hj.1
            have HJ := Lib.hid hj; clear hj
            have HRA := Lib.hid (run_acked G j hj32 hjl.2)
            obtain ⟨hjm, hjr⟩ := hjl
            rw [HRR.out] at hjr
            have hn1 : ((j : Int) != 1023) = true := by simp; omega
            have hn2 : ((j : Int) == 1023) = false := by simp; omega
            go_wp2_with fail
            refine (ack_some g G _ HG5.out j HJ.out).mono ?_
            rintro e w7 ⟨rfl, g7, u7⟩
            have HG7 := Lib.hid g7
            have HB7 : Hid (BefAt w7 w4.heap.size G 32) := Lib.hid (RowAt.kept HBE.out u7 hbg)
            have B7 : Hid (Below w.heap.size w w7) := Lib.hid (B5.out.trans ⟨u7.os, u7.tape, u7.output, u7.size, fun q hq => u7.block q (by have := B5.out.size; omega) (by rintro h; omega)⟩)
            clear g7 u7 HG5 HBE B5
            go_wp2_with fail
            go_loopw [14, 15, 16, 17, 18] (fun v14 v15 v16 v17 v18 wq => ∃ i : Nat, i ≤ 32 ∧ v14 = .int .i64 i ∧ BefAt wq w4.heap.size G 32 ∧ GicAt wq g (acked G j) ∧ Below w.heap.size w wq) (fun v14 _ _ _ _ _ => 32 - (intOf v14).toNat)
            case atStart => exact ⟨0, by omega, rfl, HB7.out, HG7.out, B7.out⟩
            case round =>
              clear HB7 HG7 B7
              obtain ⟨i, hi, rfl, hbef, hg5, hb5⟩ := hrel
              have HBE := Lib.hid hbef; have HG5 := Lib.hid hg5; have B5 := Lib.hid hb5; clear hbef hg5 hb5
              by_cases hi32 : i < 32
              · have zb : w4.heap.size < wr.heap.size := RowAt.lt HBE.out
                have zb1 : w4.heap.size < wr.heap.size + 1 := by omega
                have e0 := RowAt.cell HBE.out (i * 5) (by omega)
                have e1 := RowAt.cell HBE.out (i * 5 + 1) (by omega)
                have e2 := RowAt.cell HBE.out (i * 5 + 2) (by omega)
                have e3 := RowAt.cell HBE.out (i * 5 + 3) (by omega)
                have e4 := RowAt.cell HBE.out (i * 5 + 4) (by omega)
                rw [bcell_0 G i 32 hi32] at e0
                rw [bcell_1 G i 32 hi32] at e1
                rw [bcell_2 G i 32 hi32] at e2
                rw [bcell_3 G i 32 hi32] at e3
                rw [bcell_4 G i 32 hi32] at e4
                by_cases hij : i = j
                · subst hij
                  have he := HJ.out.2.1.1
                  have hp := HJ.out.2.1.2.1
                  have ha := HJ.out.2.1.2.2.1
                  rw [he] at e2; rw [hp] at e3; rw [ha] at e4
                  have hij1 : ((i : Int) != (i : Int)) = false := by simp
                  have ka : (acked G i).pr i = G.pr i := rfl
                  have kb : (acked G i).en i = true := he
                  have kc : (acked G i).pe i = false := by simp [acked, upd]
                  have kd : (acked G i).ac i = true := by simp [acked, upd]
                  have KA := Lib.hid (And.intro ka (And.intro kb (And.intro kc kd)))
                  clear ka kb kc kd
                  go_wp2_with fail
                  go_quiet (fail)
                  go_wp2_with fail
                  obtain ⟨ka, kb, kc, kd⟩ := KA.out
                  refine (state_ok g _ _ (by first | exact RowAt.drewN (RowAt.alloc HG5.out _) _ | exact RowAt.alloc HG5.out _) i (by omega) (by omega)).mono ?_
                  rw [Int.toNat_natCast, ka, kb, kc, kd]
                  clear ka kb kc kd
                  rintro e w8 ⟨rfl, hb8⟩
                  have B8 : Hid (Below w.heap.size w w8) := Lib.hid (by
                    refine Below.trans ?_ (hb8.mono (by have := B5.out.size; simp; omega))
                    repeat (first | exact B5.out | refine below_drewN ?_ _ | refine Below.drew ?_ | refine Below.alloc ?_ B5.out.size _))
                  have HG8 := Lib.hid (GicAt.below (by first | exact RowAt.drewN (RowAt.alloc HG5.out _) _ | exact RowAt.alloc HG5.out _) hb8)
                  have HB8 : Hid (BefAt w8 w4.heap.size G 32) := Lib.hid (RowAt.kept (by first | exact RowAt.drewN (RowAt.alloc HBE.out _) _ | exact RowAt.alloc HBE.out _) (S := fun _ => False) (Upd.of_below hb8) (fun h => h))
                  have zq : wr.heap.size < w8.heap.size := by have := hb8.size; simp at this; omega
                  have x0 := hb8.cell (p := ⟨wr.heap.size, 0, none⟩) (by simp)
                  have x1 := hb8.cell (p := ⟨wr.heap.size, 1, none⟩) (by simp)
                  have x2 := hb8.cell (p := ⟨wr.heap.size, 2, none⟩) (by simp)
                  have x3 := hb8.cell (p := ⟨wr.heap.size, 3, none⟩) (by simp)
                  have x4 := hb8.cell (p := ⟨wr.heap.size, 4, none⟩) (by simp)
                  simp at x0 x1 x2 x3 x4
                  clear hb8 e0 e1 e2 e3 e4
                  go_wp2_with fail
                  go_roundw
                  case rel => exact ⟨i + 1, by omega, by go_num, RowAt.alloc HB8.out _, RowAt.alloc HG8.out _, B8.out.alloc B8.out.size _⟩
                  case measure => simp [intOf]; omega
                have ka : (acked G j).pr i = G.pr i := rfl
                have kb : (acked G j).en i = G.en i := rfl
                have kc : (acked G j).pe i = G.pe i := by simp [acked, upd, hij]
                have kd : (acked G j).ac i = G.ac i := by simp [acked, upd, hij]
                have hij1 : ((i : Int) != (j : Int)) = true := by simp; omega
                have hij2 : ((i : Int) == (j : Int)) = false := by simp; omega
                have KA := Lib.hid (And.intro ka (And.intro kb (And.intro kc kd)))
                clear ka kb kc kd hij
                cases he : G.en i
                · rw [he] at e2
                  go_wp2_with fail
                  go_quiet (fail)
                  go_wp2_with fail
                  obtain ⟨ka, kb, kc, kd⟩ := KA.out
                  refine (state_ok g _ _ (by first | exact RowAt.drewN (RowAt.alloc HG5.out _) _ | exact RowAt.alloc HG5.out _) i (by omega) (by omega)).mono ?_
                  rw [Int.toNat_natCast, ka, kb, kc, kd]
                  clear ka kb kc kd
                  rintro e w8 ⟨rfl, hb8⟩
                  have B8 : Hid (Below w.heap.size w w8) := Lib.hid (by
                    refine Below.trans ?_ (hb8.mono (by have := B5.out.size; simp; omega))
                    repeat (first | exact B5.out | refine below_drewN ?_ _ | refine Below.drew ?_ | refine Below.alloc ?_ B5.out.size _))
                  have HG8 := Lib.hid (GicAt.below (by first | exact RowAt.drewN (RowAt.alloc HG5.out _) _ | exact RowAt.alloc HG5.out _) hb8)
                  have HB8 : Hid (BefAt w8 w4.heap.size G 32) := Lib.hid (RowAt.kept (by first | exact RowAt.drewN (RowAt.alloc HBE.out _) _ | exact RowAt.alloc HBE.out _) (S := fun _ => False) (Upd.of_below hb8) (fun h => h))
                  have zq : wr.heap.size < w8.heap.size := by have := hb8.size; simp at this; omega
                  have x0 := hb8.cell (p := ⟨wr.heap.size, 0, none⟩) (by simp)
                  have x1 := hb8.cell (p := ⟨wr.heap.size, 1, none⟩) (by simp)
                  have x2 := hb8.cell (p := ⟨wr.heap.size, 2, none⟩) (by simp)
                  have x3 := hb8.cell (p := ⟨wr.heap.size, 3, none⟩) (by simp)
                  have x4 := hb8.cell (p := ⟨wr.heap.size, 4, none⟩) (by simp)
                  simp at x0 x1 x2 x3 x4
                  clear hb8 e0 e1 e2 e3 e4
                  go_wp2_with fail
                  go_roundw
                  case rel => exact ⟨i + 1, by omega, by go_num, RowAt.alloc HB8.out _, RowAt.alloc HG8.out _, B8.out.alloc B8.out.size _⟩
                  case measure => simp [intOf]; omega
                cases hp : G.pe i
                · rw [he] at e2; rw [hp] at e3
                  go_wp2_with fail
                  go_quiet (fail)
                  go_wp2_with fail
                  obtain ⟨ka, kb, kc, kd⟩ := KA.out
                  refine (state_ok g _ _ (by first | exact RowAt.drewN (RowAt.alloc HG5.out _) _ | exact RowAt.alloc HG5.out _) i (by omega) (by omega)).mono ?_
                  rw [Int.toNat_natCast, ka, kb, kc, kd]
                  clear ka kb kc kd
                  rintro e w8 ⟨rfl, hb8⟩
                  have B8 : Hid (Below w.heap.size w w8) := Lib.hid (by
                    refine Below.trans ?_ (hb8.mono (by have := B5.out.size; simp; omega))
                    repeat (first | exact B5.out | refine below_drewN ?_ _ | refine Below.drew ?_ | refine Below.alloc ?_ B5.out.size _))
                  have HG8 := Lib.hid (GicAt.below (by first | exact RowAt.drewN (RowAt.alloc HG5.out _) _ | exact RowAt.alloc HG5.out _) hb8)
                  have HB8 : Hid (BefAt w8 w4.heap.size G 32) := Lib.hid (RowAt.kept (by first | exact RowAt.drewN (RowAt.alloc HBE.out _) _ | exact RowAt.alloc HBE.out _) (S := fun _ => False) (Upd.of_below hb8) (fun h => h))
                  have zq : wr.heap.size < w8.heap.size := by have := hb8.size; simp at this; omega
                  have x0 := hb8.cell (p := ⟨wr.heap.size, 0, none⟩) (by simp)
                  have x1 := hb8.cell (p := ⟨wr.heap.size, 1, none⟩) (by simp)
                  have x2 := hb8.cell (p := ⟨wr.heap.size, 2, none⟩) (by simp)
                  have x3 := hb8.cell (p := ⟨wr.heap.size, 3, none⟩) (by simp)
                  have x4 := hb8.cell (p := ⟨wr.heap.size, 4, none⟩) (by simp)
                  simp at x0 x1 x2 x3 x4
                  clear hb8 e0 e1 e2 e3 e4
                  go_wp2_with fail
                  go_roundw
                  case rel => exact ⟨i + 1, by omega, by go_num, RowAt.alloc HB8.out _, RowAt.alloc HG8.out _, B8.out.alloc B8.out.size _⟩
                  case measure => simp [intOf]; omega
                cases ha : G.ac i
                · rw [he] at e2; rw [hp] at e3; rw [ha] at e4
                  by_cases hm : G.pr i < G.mask
                  · by_cases hr : G.pr i < R
                    · have hpr := HJ.out.2.2 i hi32 ((heardB_iff G i).1 (by simp [heardB, he, hp, ha, hm, HRR.out, hr]))
                      have hq1 : ¬ G.pr i < G.pr j := by omega
                      have hq2 : decide (G.pr i < G.pr j) = false := by simpa using hq1
                      have en1 := RowAt.cell HBE.out (j * 5 + 1) (by omega)
                      rw [bcell_1 G j 32 hj32] at en1
                      by_cases hpe : G.pr i = G.pr j
                      · have hpb : (G.pr i == G.pr j) = true := by simp [hpe]
                        have hlt2 : ¬ (i : Int) < (j : Int) := by omega
                        have hlt3 : ¬ i < j := by omega
                        have hlt4 : decide (i < j) = false := by simpa using hlt3
                        have hlt5 : decide ((i : Int) < (j : Int)) = false := by simpa using hlt2
                        clear hpr hpe
                        go_wp2_with fail
                        go_quiet (fail)
                        go_wp2_with fail
                        obtain ⟨ka, kb, kc, kd⟩ := KA.out
                        refine (state_ok g _ _ (by first | exact RowAt.drewN (RowAt.alloc HG5.out _) _ | exact RowAt.alloc HG5.out _) i (by omega) (by omega)).mono ?_
                        rw [Int.toNat_natCast, ka, kb, kc, kd]
                        clear ka kb kc kd
                        rintro e w8 ⟨rfl, hb8⟩
                        have B8 : Hid (Below w.heap.size w w8) := Lib.hid (by
                          refine Below.trans ?_ (hb8.mono (by have := B5.out.size; simp; omega))
                          repeat (first | exact B5.out | refine below_drewN ?_ _ | refine Below.drew ?_ | refine Below.alloc ?_ B5.out.size _))
                        have HG8 := Lib.hid (GicAt.below (by first | exact RowAt.drewN (RowAt.alloc HG5.out _) _ | exact RowAt.alloc HG5.out _) hb8)
                        have HB8 : Hid (BefAt w8 w4.heap.size G 32) := Lib.hid (RowAt.kept (by first | exact RowAt.drewN (RowAt.alloc HBE.out _) _ | exact RowAt.alloc HBE.out _) (S := fun _ => False) (Upd.of_below hb8) (fun h => h))
                        have zq : wr.heap.size < w8.heap.size := by have := hb8.size; simp at this; omega
                        have x0 := hb8.cell (p := ⟨wr.heap.size, 0, none⟩) (by simp)
                        have x1 := hb8.cell (p := ⟨wr.heap.size, 1, none⟩) (by simp)
                        have x2 := hb8.cell (p := ⟨wr.heap.size, 2, none⟩) (by simp)
                        have x3 := hb8.cell (p := ⟨wr.heap.size, 3, none⟩) (by simp)
                        have x4 := hb8.cell (p := ⟨wr.heap.size, 4, none⟩) (by simp)
                        simp at x0 x1 x2 x3 x4
                        clear hb8 en1 e0 e1 e2 e3 e4
                        go_wp2_with fail
                        go_roundw
                        case rel => exact ⟨i + 1, by omega, by go_num, RowAt.alloc HB8.out _, RowAt.alloc HG8.out _, B8.out.alloc B8.out.size _⟩
                        case measure => simp [intOf]; omega
                      · have hpb : (G.pr i == G.pr j) = false := by simp [hpe]
                        clear hpr hpe
                        go_wp2_with fail
                        go_quiet (fail)
                        go_wp2_with fail
                        obtain ⟨ka, kb, kc, kd⟩ := KA.out
                        refine (state_ok g _ _ (by first | exact RowAt.drewN (RowAt.alloc HG5.out _) _ | exact RowAt.alloc HG5.out _) i (by omega) (by omega)).mono ?_
                        rw [Int.toNat_natCast, ka, kb, kc, kd]
                        clear ka kb kc kd
                        rintro e w8 ⟨rfl, hb8⟩
                        have B8 : Hid (Below w.heap.size w w8) := Lib.hid (by
                          refine Below.trans ?_ (hb8.mono (by have := B5.out.size; simp; omega))
                          repeat (first | exact B5.out | refine below_drewN ?_ _ | refine Below.drew ?_ | refine Below.alloc ?_ B5.out.size _))
                        have HG8 := Lib.hid (GicAt.below (by first | exact RowAt.drewN (RowAt.alloc HG5.out _) _ | exact RowAt.alloc HG5.out _) hb8)
                        have HB8 : Hid (BefAt w8 w4.heap.size G 32) := Lib.hid (RowAt.kept (by first | exact RowAt.drewN (RowAt.alloc HBE.out _) _ | exact RowAt.alloc HBE.out _) (S := fun _ => False) (Upd.of_below hb8) (fun h => h))
                        have zq : wr.heap.size < w8.heap.size := by have := hb8.size; simp at this; omega
                        have x0 := hb8.cell (p := ⟨wr.heap.size, 0, none⟩) (by simp)
                        have x1 := hb8.cell (p := ⟨wr.heap.size, 1, none⟩) (by simp)
                        have x2 := hb8.cell (p := ⟨wr.heap.size, 2, none⟩) (by simp)
                        have x3 := hb8.cell (p := ⟨wr.heap.size, 3, none⟩) (by simp)
                        have x4 := hb8.cell (p := ⟨wr.heap.size, 4, none⟩) (by simp)
                        simp at x0 x1 x2 x3 x4
                        clear hb8 en1 e0 e1 e2 e3 e4
                        go_wp2_with fail
                        go_roundw
                        case rel => exact ⟨i + 1, by omega, by go_num, RowAt.alloc HB8.out _, RowAt.alloc HG8.out _, B8.out.alloc B8.out.size _⟩
                        case measure => simp [intOf]; omega
                    · have hd : decide (G.pr i < R) = false := by simpa using hr
                      go_wp2_with fail
                      go_quiet (fail)
                      go_wp2_with fail
                      obtain ⟨ka, kb, kc, kd⟩ := KA.out
                      refine (state_ok g _ _ (by first | exact RowAt.drewN (RowAt.alloc HG5.out _) _ | exact RowAt.alloc HG5.out _) i (by omega) (by omega)).mono ?_
                      rw [Int.toNat_natCast, ka, kb, kc, kd]
                      clear ka kb kc kd
                      rintro e w8 ⟨rfl, hb8⟩
                      have B8 : Hid (Below w.heap.size w w8) := Lib.hid (by
                        refine Below.trans ?_ (hb8.mono (by have := B5.out.size; simp; omega))
                        repeat (first | exact B5.out | refine below_drewN ?_ _ | refine Below.drew ?_ | refine Below.alloc ?_ B5.out.size _))
                      have HG8 := Lib.hid (GicAt.below (by first | exact RowAt.drewN (RowAt.alloc HG5.out _) _ | exact RowAt.alloc HG5.out _) hb8)
                      have HB8 : Hid (BefAt w8 w4.heap.size G 32) := Lib.hid (RowAt.kept (by first | exact RowAt.drewN (RowAt.alloc HBE.out _) _ | exact RowAt.alloc HBE.out _) (S := fun _ => False) (Upd.of_below hb8) (fun h => h))
                      have zq : wr.heap.size < w8.heap.size := by have := hb8.size; simp at this; omega
                      have x0 := hb8.cell (p := ⟨wr.heap.size, 0, none⟩) (by simp)
                      have x1 := hb8.cell (p := ⟨wr.heap.size, 1, none⟩) (by simp)
                      have x2 := hb8.cell (p := ⟨wr.heap.size, 2, none⟩) (by simp)
                      have x3 := hb8.cell (p := ⟨wr.heap.size, 3, none⟩) (by simp)
                      have x4 := hb8.cell (p := ⟨wr.heap.size, 4, none⟩) (by simp)
                      simp at x0 x1 x2 x3 x4
                      clear hb8 e0 e1 e2 e3 e4
                      go_wp2_with fail
                      go_roundw
                      case rel => exact ⟨i + 1, by omega, by go_num, RowAt.alloc HB8.out _, RowAt.alloc HG8.out _, B8.out.alloc B8.out.size _⟩
                      case measure => simp [intOf]; omega
                  · have hd : decide (G.pr i < G.mask) = false := by simpa using hm
                    go_wp2_with fail
                    go_quiet (fail)
                    go_wp2_with fail
                    obtain ⟨ka, kb, kc, kd⟩ := KA.out
                    refine (state_ok g _ _ (by first | exact RowAt.drewN (RowAt.alloc HG5.out _) _ | exact RowAt.alloc HG5.out _) i (by omega) (by omega)).mono ?_
                    rw [Int.toNat_natCast, ka, kb, kc, kd]
                    clear ka kb kc kd
                    rintro e w8 ⟨rfl, hb8⟩
                    have B8 : Hid (Below w.heap.size w w8) := Lib.hid (by
                      refine Below.trans ?_ (hb8.mono (by have := B5.out.size; simp; omega))
                      repeat (first | exact B5.out | refine below_drewN ?_ _ | refine Below.drew ?_ | refine Below.alloc ?_ B5.out.size _))
                    have HG8 := Lib.hid (GicAt.below (by first | exact RowAt.drewN (RowAt.alloc HG5.out _) _ | exact RowAt.alloc HG5.out _) hb8)
                    have HB8 : Hid (BefAt w8 w4.heap.size G 32) := Lib.hid (RowAt.kept (by first | exact RowAt.drewN (RowAt.alloc HBE.out _) _ | exact RowAt.alloc HBE.out _) (S := fun _ => False) (Upd.of_below hb8) (fun h => h))
                    have zq : wr.heap.size < w8.heap.size := by have := hb8.size; simp at this; omega
                    have x0 := hb8.cell (p := ⟨wr.heap.size, 0, none⟩) (by simp)
                    have x1 := hb8.cell (p := ⟨wr.heap.size, 1, none⟩) (by simp)
                    have x2 := hb8.cell (p := ⟨wr.heap.size, 2, none⟩) (by simp)
                    have x3 := hb8.cell (p := ⟨wr.heap.size, 3, none⟩) (by simp)
                    have x4 := hb8.cell (p := ⟨wr.heap.size, 4, none⟩) (by simp)
                    simp at x0 x1 x2 x3 x4
                    clear hb8 e0 e1 e2 e3 e4
                    go_wp2_with fail
                    go_roundw
                    case rel => exact ⟨i + 1, by omega, by go_num, RowAt.alloc HB8.out _, RowAt.alloc HG8.out _, B8.out.alloc B8.out.size _⟩
                    case measure => simp [intOf]; omega
                · rw [he] at e2; rw [hp] at e3; rw [ha] at e4
                  go_wp2_with fail
                  go_quiet (fail)
                  go_wp2_with fail
                  obtain ⟨ka, kb, kc, kd⟩ := KA.out
                  refine (state_ok g _ _ (by first | exact RowAt.drewN (RowAt.alloc HG5.out _) _ | exact RowAt.alloc HG5.out _) i (by omega) (by omega)).mono ?_
                  rw [Int.toNat_natCast, ka, kb, kc, kd]
                  clear ka kb kc kd
                  rintro e w8 ⟨rfl, hb8⟩
                  have B8 : Hid (Below w.heap.size w w8) := Lib.hid (by
                    refine Below.trans ?_ (hb8.mono (by have := B5.out.size; simp; omega))
                    repeat (first | exact B5.out | refine below_drewN ?_ _ | refine Below.drew ?_ | refine Below.alloc ?_ B5.out.size _))
                  have HG8 := Lib.hid (GicAt.below (by first | exact RowAt.drewN (RowAt.alloc HG5.out _) _ | exact RowAt.alloc HG5.out _) hb8)
                  have HB8 : Hid (BefAt w8 w4.heap.size G 32) := Lib.hid (RowAt.kept (by first | exact RowAt.drewN (RowAt.alloc HBE.out _) _ | exact RowAt.alloc HBE.out _) (S := fun _ => False) (Upd.of_below hb8) (fun h => h))
                  have zq : wr.heap.size < w8.heap.size := by have := hb8.size; simp at this; omega
                  have x0 := hb8.cell (p := ⟨wr.heap.size, 0, none⟩) (by simp)
                  have x1 := hb8.cell (p := ⟨wr.heap.size, 1, none⟩) (by simp)
                  have x2 := hb8.cell (p := ⟨wr.heap.size, 2, none⟩) (by simp)
                  have x3 := hb8.cell (p := ⟨wr.heap.size, 3, none⟩) (by simp)
                  have x4 := hb8.cell (p := ⟨wr.heap.size, 4, none⟩) (by simp)
                  simp at x0 x1 x2 x3 x4
                  clear hb8 e0 e1 e2 e3 e4
                  go_wp2_with fail
                  go_roundw
                  case rel => exact ⟨i + 1, by omega, by go_num, RowAt.alloc HB8.out _, RowAt.alloc HG8.out _, B8.out.alloc B8.out.size _⟩
                  case measure => simp [intOf]; omega
              · obtain rfl : i = 32 := by omega
                go_wp2_with fail
                refine (running_any g _ _ HG5.out).mono ?_
                rintro e w8 ⟨rfl, hb8⟩
                have B8 := Lib.hid (B5.out.trans (hb8.mono B5.out.size))
                have HB8 : Hid (BefAt w8 w4.heap.size G 32) := Lib.hid (RowAt.kept HBE.out (S := fun _ => False) (Upd.of_below hb8) (fun h => h)); clear hb8
                have en1 := RowAt.cell HB8.out (j * 5 + 1) (by omega)
                rw [bcell_1 G j 32 hj32] at en1
                rw [HRA.out]
                go_wp2_with fail
                go_ret
                go_light
                exact ⟨rfl, B8.out⟩

end Go.Proofs.Ytmehieloehlepaa
