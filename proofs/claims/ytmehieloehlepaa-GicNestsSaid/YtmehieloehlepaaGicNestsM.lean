/- The walk of the law GicNests over lists of more than 100 acts. -/
import Derived.Test.YtmehieloehlepaaGicT
import Derived.Test.YtmehieloehlepaaGicZ
import Derived.Test.YtmehieloehlepaaGicO
import Derived.Test.YtmehieloehlepaaGicS
import Derived.Test.YtmehieloehlepaaGicD
namespace Go.Proofs.Ytmehieloehlepaa
open Go.RowKit
set_option maxRecDepth 100000
set_option maxHeartbeats 8000000 in
theorem walk_GicNestsM (a : Option Addr) (len cap : Nat) (a' : Option Addr) (len' cap' : Nat) (w : World) (hlen : len ≤ maxLen) (hacts : Acts w a len) (hnums : Ints w a' len') (hx : 100 < len) :
    Calls Try.prog 7 #[.slice a len cap, .slice a' len' cap'] w fun e w' => e = .returned (.bool true) ∧ Below w.heap.size w w' := by
  have HA := Lib.hid hacts; clear hacts
  unfold maxLen at hlen
  go_enter Try.func7, Try.ntmps7
  go_wp2_with fail
  refine (awake_any _).mono ?_
  rintro e w1 ⟨rfl, hb1⟩
  have B1 := Lib.hid hb1; clear hb1
  go_wp2_with fail
  refine (new_any _).mono ?_
  rintro e w2 ⟨g, rfl, hg, hg0, hb2⟩
  have B2 : Hid (Below w.heap.size w w2) := Lib.hid (B1.out.trans (hb2.mono B1.out.size))
  have zg : w.heap.size ≤ g := Nat.le_trans B1.out.size hg0
  have HG := Lib.hid hg; clear hg hg0 hb2
  go_wp2_with fail
  refine (rnew_any _).mono ?_
  rintro e w3 ⟨r, rfl, hr, hr0, hb3⟩
  have B3 : Hid (Below w.heap.size w w3) := Lib.hid (B2.out.trans (hb3.mono B2.out.size))
  have zr : w.heap.size ≤ r := Nat.le_trans B2.out.size hr0
  have hgr : g ≠ r := by have := RowAt.lt HG.out; omega
  have HG3 : Hid (GicAt w3 g G0) := Lib.hid (HG.out.below hb3)
  have HR := Lib.hid hr; clear hr hr0 hb3 HG B1 B2
  have HL3 : Hid (g < w3.heap.size ∧ r < w3.heap.size ∧ w.heap.size ≤ w3.heap.size) := Lib.hid ⟨RowAt.lt HG3.out, RowAt.lt HR.out, B3.out.size⟩
  have HN := Lib.hid hnums; clear hnums
  go_wp2_with fail
  go_loopw [8] (fun v8 wr => ∃ k : Nat, k ≤ 100 ∧ k ≤ len ∧ v8 = .int .i64 k ∧ (∃ G, Okg G ∧ GicAt wr g G ∧ RefAt wr r G) ∧ Below w.heap.size w wr ∧ w3.heap.size ≤ wr.heap.size) (fun v8 _ => 100 - (intOf v8).toNat)
  case atStart => exact ⟨0, by omega, by omega, rfl, ⟨G0, fun i _ => by simp [G0], HG3.out, HR.out⟩, B3.out, Nat.le_refl _⟩
  case round =>
    obtain ⟨k, hk, hkl, rfl, ⟨G, hok, hg, hr⟩, hb, hsz⟩ := hrel
    have HO := Lib.hid hok; have HGk := Lib.hid hg; have HRk := Lib.hid hr; have HB := Lib.hid hb; have HSZ := Lib.hid hsz; clear hok hg hr hb hsz
    by_cases hlt : k < len
    · by_cases hlm : k < 100
      · obtain ⟨b, off, d, l, n, on, rfl, d0, d1, d2, d3⟩ := HA.out k hlt
        have hbl : b < w.heap.size := World.block_lt_of_cell? w _ d0
        have c0 := (HB.out.cell (p := ⟨b, off + k * 4, none⟩) hbl).trans d0
        have c1 := (HB.out.cell (p := ⟨b, off + k * 4 + 1, none⟩) hbl).trans d1
        have c2 := (HB.out.cell (p := ⟨b, off + k * 4 + 2, none⟩) hbl).trans d2
        have c3 := (HB.out.cell (p := ⟨b, off + k * 4 + 3, none⟩) hbl).trans d3
        clear d0 d1 d2 d3
        go_wp2_with fail
        refine (does_any g r hgr G _ HGk.out HRk.out HO.out d l n on).mono ?_
        rintro e w4 ⟨rfl, ⟨G', hok', hg', hr'⟩, hu⟩
        have B4 : Hid (Below w.heap.size w w4) := Lib.hid (HB.out.trans ⟨hu.os, hu.tape, hu.output, hu.size, fun q hq => hu.block q (by have := HB.out.size; omega) (by rintro (h | h) <;> omega)⟩)
        have HO' := Lib.hid hok'; have HG' := Lib.hid hg'; have HR' := Lib.hid hr'; have S4 : Hid (w3.heap.size ≤ w4.heap.size) := Lib.hid (Nat.le_trans HSZ.out hu.size); clear hok' hg' hr' hu c0 c1 c2 c3 HO HGk HRk HB HSZ
        go_wp2_with fail
        go_roundw
        case rel => exact ⟨k + 1, by omega, by omega, by go_num, ⟨G', HO'.out, HG'.out, HR'.out⟩, B4.out, S4.out⟩
        case measure => simp [intOf]; omega
      · go_wp2_with fail
        have g3 : g < w3.heap.size := HL3.out.1
        have r3 : r < w3.heap.size := HL3.out.2.1
        have z3 : w.heap.size ≤ w3.heap.size := HL3.out.2.2
        clear HA
        have HS : Hid (w3.heap.size ≤ wr.heap.size) := HSZ
        clear HSZ
        have hcn : cnt G.ac 32 ≤ 32 := cnt_le _ _
        go_loopw [9, 10, 11, 12, 13, 14, 15, 16, 17, 18] (fun v9 v10 v11 v12 v13 v14 v15 v16 v17 v18 wr => ∃ (i : Nat) (A : Nat → Bool), i ≤ 32 ∧ v9 = .int .i64 i ∧ cnt A 32 + i ≤ 32 ∧ GicAt wr g (gA G A) ∧ RefAt wr r G ∧ Below w.heap.size w wr ∧ w3.heap.size ≤ wr.heap.size) (fun v9 _ _ _ _ _ _ _ _ _ _ => 32 - (intOf v9).toNat)
        case atStart => exact ⟨0, G.ac, by omega, rfl, by omega, HGk.out, HRk.out, HB.out, HS.out⟩
        case round =>
          clear HGk HRk HB HS hcn
          obtain ⟨i, A, hi, rfl, hcnt, hg5, hr5, hb5, hs5⟩ := hrel
          have HG5 := Lib.hid hg5; have HR5 := Lib.hid hr5; have B5 := Lib.hid hb5; have S5 := Lib.hid hs5; clear hg5 hr5 hb5 hs5
          by_cases hi32 : i < 32
          · have hid : decide ((i : Int) < 32) = true := by simp; omega
            go_wp2_with fail
            go_loopw [10, 11, 12, 13, 14] (fun v10 v11 v12 v13 v14 wr => ∃ k : Nat, k ≤ 32 ∧ v12 = .int .i64 k ∧ v11 = .int .i64 (runF (gA G A) k) ∧ wr.ownsRow w3.heap.size 3 1 v10 (actL A k).length ((actL A k).map (Value.int .i64)) ∧ GicAt wr g (gA G A) ∧ RefAt wr r G ∧ Below w.heap.size w wr ∧ w3.heap.size ≤ wr.heap.size) (fun _ _ v12 _ _ _ => 32 - (intOf v12).toNat)
            case atStart => exact ⟨0, by omega, rfl, rfl, World.ownsRow_nil _ _ _ _, HG5.out, HR5.out, B5.out, S5.out⟩
            case round =>
              clear HG5 HR5 B5 S5
              obtain ⟨k, hk, rfl, rfl, hown, hg6, hr6, hb6, hs6⟩ := hrel
              have HO := Lib.hid hown; have HG6 := Lib.hid hg6; have HR6 := Lib.hid hr6; have B6 := Lib.hid hb6; have S6 := Lib.hid hs6; clear hown hg6 hr6 hb6 hs6
              obtain ⟨F, hF⟩ : ∃ F, runF (gA G A) k = F := ⟨_, rfl⟩
              rw [hF]
              have HF := Lib.hid hF; clear hF
              by_cases hk32 : k < 32
              · have hkd : decide ((k : Int) < 32) = true := by simp; omega
                go_wp2_with fail
                refine (state_ok g _ _ HG6.out k (by omega) (by omega)).mono ?_
                rw [Int.toNat_natCast]
                rintro e w7 ⟨rfl, hb7⟩
                have HO7 := Lib.hid (own_below HO.out hb7)
                have HG7 := Lib.hid (GicAt.below HG6.out hb7)
                have HR7 : Hid (RefAt w7 r G) := Lib.hid (RowAt.kept HR6.out (S := fun _ => False) (Upd.of_below hb7) (fun h => h))
                have B7 := Lib.hid (B6.out.trans (hb7.mono B6.out.size))
                have S7 : Hid (w3.heap.size ≤ w7.heap.size) := Lib.hid (Nat.le_trans S6.out hb7.size)
                clear hb7 HO HG6 HR6 B6 S6
                rw [show (gA G A).ac k = A k from rfl]
                cases hA : A k
                · go_wp2_with fail
                  go_roundw
                  case rel => exact ⟨k + 1, by omega, by go_num, by rw [runF_not G A k hA, HF.out], by have := HO7.out.alloc (.cells #[.int .i64 (k : Int), .int .i64 ((gA G A).pr k), .bool ((gA G A).en k), .bool ((gA G A).pe k), .bool false] 32); simpa [actL, hA] using this, RowAt.alloc HG7.out _, RowAt.alloc HR7.out _, B7.out.alloc B7.out.size _, by have := S7.out; simp; omega⟩
                  case measure => simp [intOf]; omega
                · have cs := (RowAt.cell HR7.out (128 + k) (by omega)).trans (congrArg some (rcell_sv G k hk32))
                  obtain ⟨i0, hi0, hz0, hz1, hz2⟩ := info_parts info3
                  have hln : (actL A k).length ≤ 32 := by rw [actL_len]; have := cnt_le A k; omega
                  go_wp2_with (at_builtin; refine wpList_append_own _ rfl _ _ 22 rfl w3.heap.size 3 i0 (.int .i64 0) 1 8 Try.underlying22 hi0 hz0 hz1 hz2 rfl (by decide) _ _ _ rfl ((HO7.out.alloc _).alloc _) ⟨w7.heap.size + 1, 0, none⟩ 1 1 [.int .i64 k] rfl rfl ?c1 ?c2 ?c3 ?c4 ?c5 ?_)
                  case c1 =>
                    intro j u hj
                    match j, hj with
                    | 0, hj => simp at hj; subst hj; simp [Addr.add]
                  case c2 => intro u hu; simp at hu; subst hu; rfl
                  case c3 => unfold maxLen; omega
                  case c4 => omega
                  case c5 => have := S7.out; simp; omega
                  intro v' w8 hown' hgrow _
                  have hrg : some r ≠ Value.ownBlock _ := own_block_ne HO7.out r3
                  have hgg : some g ≠ Value.ownBlock _ := own_block_ne HO7.out g3
                  have HG8 := Lib.hid (RowAt.grown (RowAt.alloc (RowAt.alloc HG7.out _) _) hgrow hgg)
                  have HR8 : Hid (RefAt w8 r G) := Lib.hid (RowAt.grown (RowAt.alloc (RowAt.alloc HR7.out _) _) hgrow hrg)
                  have B8 : Hid (Below w.heap.size w w8) := Lib.hid (Below.grown (Below.alloc (Below.alloc B7.out B7.out.size _) (by have := B7.out.size; simp; omega) _) hgrow (by have := B7.out.size; simp; omega) (fun q hq => by have := (HO7.out.lt q hq).1; omega))
                  have S8 : Hid (w3.heap.size ≤ w8.heap.size) := Lib.hid (by have h1 := hgrow.size; have h2 := S7.out; simp at h1; omega)
                  have HO8 := Lib.hid hown'
                  clear hown' hgrow hrg hgg HG7 HO7 B7 S7 cs HR7
                  have cs := (RowAt.cell HR8.out (128 + k) (by omega)).trans (congrArg some (rcell_sv G k hk32))
                  go_wp2_with fail
                  go_roundw
                  case rel => exact ⟨k + 1, by omega, by go_num, by rw [runF_yes G A k hA, HF.out], by have := HO8.out; simpa [actL, hA] using this, HG8.out, HR8.out, B8.out, S8.out⟩
                  case measure => simp [intOf]; omega
              · obtain rfl : k = 32 := by omega
                go_wp2_with fail
                refine (running_any g _ _ HG6.out).mono ?_
                rintro e w7 ⟨rfl, hb7⟩
                have HO7 := Lib.hid (own_below HO.out hb7)
                have HG7 := Lib.hid (GicAt.below HG6.out hb7)
                have HR7 : Hid (RefAt w7 r G) := Lib.hid (RowAt.kept HR6.out (S := fun _ => False) (Upd.of_below hb7) (fun h => h))
                have B7 := Lib.hid (B6.out.trans (hb7.mono B6.out.size))
                have S7 : Hid (w3.heap.size ≤ w7.heap.size) := Lib.hid (Nat.le_trans S6.out hb7.size)
                clear hb7 HO HG6 HR6 B6 S6
                rw [HF.out]
                clear HF hk hk32
                obtain ⟨m, hm⟩ : ∃ m, (actL A 32).length = m := ⟨_, rfl⟩
                have hmc : cnt A 32 = m := by rw [← actL_len]; exact hm
                have hm32 : m ≤ 32 := by rw [← hmc]; exact cnt_le _ _
                have hparts := own_parts HO7.out
                rw [hm] at hparts
                rcases hparts with ⟨rfl, rfl⟩ | ⟨q, cap, rfl, hq3, hqs, hcell⟩
                · clear hm
                  have hdn := runF_done G A hmc
                  go_wp2_with fail
                  refine (running_any g _ _ HG7.out).mono ?_
                  rintro e w8 ⟨rfl, hb8⟩
                  rw [hdn]
                  have B8 := Lib.hid (B7.out.trans (hb8.mono B7.out.size))
                  go_wp2_with fail
                  go_ret
                  go_light
                  exact ⟨rfl, B8.out⟩
                · rcases Nat.eq_zero_or_pos m with rfl | hpos
                  · clear hm hcell
                    have hdn := runF_done G A hmc
                    go_wp2_with fail
                    refine (running_any g _ _ HG7.out).mono ?_
                    rintro e w8 ⟨rfl, hb8⟩
                    rw [hdn]
                    have B8 := Lib.hid (B7.out.trans (hb8.mono B7.out.size))
                    go_wp2_with fail
                    go_ret
                    go_light
                    exact ⟨rfl, B8.out⟩
                  · have HC := Lib.hid hcell; clear hcell
                    have hmz : ¬ m = 0 := by omega
                    by_cases hlo : i < len'
                    · obtain ⟨b, off, z, rfl, d0⟩ := HN.out i hlo
                      have c0 := (B7.out.cell (p := ⟨b, off + i, none⟩) (World.block_lt_of_cell? w _ d0)).trans d0
                      obtain ⟨y, hy⟩ : ∃ y, z.tmod (m : Int) = y := ⟨_, rfl⟩
                      have hy0 : -(m : Int) < y := by rw [← hy]; exact Int.lt_tmod_of_pos z (by omega)
                      have hy1 : y < (m : Int) := by rw [← hy]; exact Int.tmod_lt_of_pos z (by omega)
                      clear d0
                      by_cases hneg : y < 0
                      · obtain ⟨j, hj⟩ : ∃ j : Nat, -y = (j : Int) := ⟨(-y).toNat, by omega⟩
                        have hjlt : j < m := by omega
                        obtain ⟨t, ht⟩ : ∃ t, (actL A 32)[j]? = some t := ⟨_, List.getElem?_eq_getElem (by omega)⟩
                        obtain ⟨u, hu32, hut, hAu⟩ := actL_mem A 32 t (List.mem_of_getElem? ht)
                        subst hut
                        have cq := HC.out j u ht
                        have hjm : (j : Int) < (m : Int) := by omega
                        clear ht hm
                        go_wp2_with fail
                        refine (end_ok g _ _ HG7.out u (by omega) (by omega) (by rw [Int.toNat_natCast]; exact hAu)).mono ?_
                        rw [Int.toNat_natCast]
                        rintro e w8 ⟨rfl, hg8, hu8⟩
                        have HG8 := Lib.hid hg8
                        have HR8 : Hid (RefAt w8 r G) := Lib.hid (RowAt.kept HR7.out hu8 (by simpa using hgr.symm))
                        have cq8 := (hu8.cell (p := ⟨q, j, none⟩) hqs (by have := g3; show ¬ q = g; omega)).trans cq
                        have B8 : Hid (Below w.heap.size w w8) := Lib.hid (B7.out.trans ⟨hu8.os, hu8.tape, hu8.output, hu8.size, fun p hp => hu8.block p (by have := B7.out.size; omega) (by show ¬ p = g; have := zg; omega)⟩)
                        have S8 : Hid (w3.heap.size ≤ w8.heap.size) := Lib.hid (Nat.le_trans S7.out hu8.size)
                        clear hg8 hu8 HG7 HR7 B7 S7 cq
                        go_wp2_with fail
                        refine (end_off_ok g _ _ HG8.out u (by omega) (by omega) (by rw [Int.toNat_natCast]; simp [upd])).mono ?_
                        rw [Int.toNat_natCast]
                        rintro e w9 ⟨rfl, hg9, hu9⟩
                        have HG9 : Hid (GicAt w9 g (gA G (upd A u false))) := Lib.hid (by have h := hg9; rw [upd_twice] at h; exact h)
                        have HR9 : Hid (RefAt w9 r G) := Lib.hid (RowAt.kept HR8.out hu9 (by simpa using hgr.symm))
                        have B9 : Hid (Below w.heap.size w w9) := Lib.hid (B8.out.trans ⟨hu9.os, hu9.tape, hu9.output, hu9.size, fun p hp => hu9.block p (by have := B8.out.size; omega) (by show ¬ p = g; have := zg; omega)⟩)
                        have S9 : Hid (w3.heap.size ≤ w9.heap.size) := Lib.hid (Nat.le_trans S8.out hu9.size)
                        have hcc : cnt (upd A u false) 32 + (i + 1) ≤ 32 := by have := cnt_upd hu32 hAu; omega
                        clear hg9 hu9 HG8 HR8 B8 S8 cq8
                        go_wp2_with fail
                        go_roundw
                        case rel => exact ⟨i + 1, upd A u false, by omega, by go_num, hcc, HG9.out, HR9.out, B9.out, S9.out⟩
                        case measure => simp [intOf]; omega
                      · obtain ⟨j, rfl⟩ : ∃ j : Nat, y = (j : Int) := ⟨y.toNat, by omega⟩
                        have hjlt : j < m := by omega
                        obtain ⟨t, ht⟩ : ∃ t, (actL A 32)[j]? = some t := ⟨_, List.getElem?_eq_getElem (by omega)⟩
                        obtain ⟨u, hu32, hut, hAu⟩ := actL_mem A 32 t (List.mem_of_getElem? ht)
                        subst hut
                        have cq := HC.out j u ht
                        have hjm : (j : Int) < (m : Int) := by omega
                        clear ht hm
                        go_wp2_with fail
                        refine (end_ok g _ _ HG7.out u (by omega) (by omega) (by rw [Int.toNat_natCast]; exact hAu)).mono ?_
                        rw [Int.toNat_natCast]
                        rintro e w8 ⟨rfl, hg8, hu8⟩
                        have HG8 := Lib.hid hg8
                        have HR8 : Hid (RefAt w8 r G) := Lib.hid (RowAt.kept HR7.out hu8 (by simpa using hgr.symm))
                        have cq8 := (hu8.cell (p := ⟨q, j, none⟩) hqs (by have := g3; show ¬ q = g; omega)).trans cq
                        have B8 : Hid (Below w.heap.size w w8) := Lib.hid (B7.out.trans ⟨hu8.os, hu8.tape, hu8.output, hu8.size, fun p hp => hu8.block p (by have := B7.out.size; omega) (by show ¬ p = g; have := zg; omega)⟩)
                        have S8 : Hid (w3.heap.size ≤ w8.heap.size) := Lib.hid (Nat.le_trans S7.out hu8.size)
                        clear hg8 hu8 HG7 HR7 B7 S7 cq
                        go_wp2_with fail
                        refine (end_off_ok g _ _ HG8.out u (by omega) (by omega) (by rw [Int.toNat_natCast]; simp [upd])).mono ?_
                        rw [Int.toNat_natCast]
                        rintro e w9 ⟨rfl, hg9, hu9⟩
                        have HG9 : Hid (GicAt w9 g (gA G (upd A u false))) := Lib.hid (by have h := hg9; rw [upd_twice] at h; exact h)
                        have HR9 : Hid (RefAt w9 r G) := Lib.hid (RowAt.kept HR8.out hu9 (by simpa using hgr.symm))
                        have B9 : Hid (Below w.heap.size w w9) := Lib.hid (B8.out.trans ⟨hu9.os, hu9.tape, hu9.output, hu9.size, fun p hp => hu9.block p (by have := B8.out.size; omega) (by show ¬ p = g; have := zg; omega)⟩)
                        have S9 : Hid (w3.heap.size ≤ w9.heap.size) := Lib.hid (Nat.le_trans S8.out hu9.size)
                        have hcc : cnt (upd A u false) 32 + (i + 1) ≤ 32 := by have := cnt_upd hu32 hAu; omega
                        clear hg9 hu9 HG8 HR8 B8 S8 cq8
                        go_wp2_with fail
                        go_roundw
                        case rel => exact ⟨i + 1, upd A u false, by omega, by go_num, hcc, HG9.out, HR9.out, B9.out, S9.out⟩
                        case measure => simp [intOf]; omega
                    · have hj0 : (actL A 32)[0]? = some ((actL A 32)[0]'(by omega)) := List.getElem?_eq_getElem (by omega)
                      have hz0 : (0 : Int) < (m : Int) := by omega
                      obtain ⟨t, ht⟩ : ∃ t, (actL A 32)[0]? = some t := ⟨_, hj0⟩
                      obtain ⟨u, hu32, hut, hAu⟩ := actL_mem A 32 t (List.mem_of_getElem? ht)
                      subst hut
                      have cq := HC.out 0 u ht
                      clear hj0
                      clear ht hm
                      go_wp2_with fail
                      refine (end_ok g _ _ HG7.out u (by omega) (by omega) (by rw [Int.toNat_natCast]; exact hAu)).mono ?_
                      rw [Int.toNat_natCast]
                      rintro e w8 ⟨rfl, hg8, hu8⟩
                      have HG8 := Lib.hid hg8
                      have HR8 : Hid (RefAt w8 r G) := Lib.hid (RowAt.kept HR7.out hu8 (by simpa using hgr.symm))
                      have cq8 := (hu8.cell (p := ⟨q, 0, none⟩) hqs (by have := g3; show ¬ q = g; omega)).trans cq
                      have B8 : Hid (Below w.heap.size w w8) := Lib.hid (B7.out.trans ⟨hu8.os, hu8.tape, hu8.output, hu8.size, fun p hp => hu8.block p (by have := B7.out.size; omega) (by show ¬ p = g; have := zg; omega)⟩)
                      have S8 : Hid (w3.heap.size ≤ w8.heap.size) := Lib.hid (Nat.le_trans S7.out hu8.size)
                      clear hg8 hu8 HG7 HR7 B7 S7 cq
                      go_wp2_with fail
                      refine (end_off_ok g _ _ HG8.out u (by omega) (by omega) (by rw [Int.toNat_natCast]; simp [upd])).mono ?_
                      rw [Int.toNat_natCast]
                      rintro e w9 ⟨rfl, hg9, hu9⟩
                      have HG9 : Hid (GicAt w9 g (gA G (upd A u false))) := Lib.hid (by have h := hg9; rw [upd_twice] at h; exact h)
                      have HR9 : Hid (RefAt w9 r G) := Lib.hid (RowAt.kept HR8.out hu9 (by simpa using hgr.symm))
                      have B9 : Hid (Below w.heap.size w w9) := Lib.hid (B8.out.trans ⟨hu9.os, hu9.tape, hu9.output, hu9.size, fun p hp => hu9.block p (by have := B8.out.size; omega) (by show ¬ p = g; have := zg; omega)⟩)
                      have S9 : Hid (w3.heap.size ≤ w9.heap.size) := Lib.hid (Nat.le_trans S8.out hu9.size)
                      have hcc : cnt (upd A u false) 32 + (i + 1) ≤ 32 := by have := cnt_upd hu32 hAu; omega
                      clear hg9 hu9 HG8 HR8 B8 S8 cq8
                      go_wp2_with fail
                      go_roundw
                      case rel => exact ⟨i + 1, upd A u false, by omega, by go_num, hcc, HG9.out, HR9.out, B9.out, S9.out⟩
                      case measure => simp [intOf]; omega
          · obtain rfl : i = 32 := by omega
            have hdn := runF_done G A (by omega)
            go_wp2_with fail
            refine (running_any g _ _ HG5.out).mono ?_
            rintro e w7 ⟨rfl, hb7⟩
            rw [hdn]
            have B7 := Lib.hid (B5.out.trans (hb7.mono B5.out.size))
            go_wp2_with fail
            go_ret
            go_light
            exact ⟨rfl, B7.out⟩

    · exact absurd hx (by omega)


end Go.Proofs.Ytmehieloehlepaa
