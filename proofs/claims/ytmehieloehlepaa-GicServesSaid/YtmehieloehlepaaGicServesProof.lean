/- Proved: every line that may be heard is served, each once, by priorities and numbers, then there is none (viceroylaw07.GicServes returns true for every list of priorities), with no condition. -/
import Derived.Test.YtmehieloehlepaaGicZ
import Derived.Test.YtmehieloehlepaaGicI
namespace Go.Proofs.Ytmehieloehlepaa
open Go.RowKit
set_option maxRecDepth 100000

/-- Behind k lines' raising. -/
structure S1 (G : Gm) (k : Nat) : Prop where
  en : ∀ i, G.en i = decide (i < k)
  pe : ∀ i, G.pe i = decide (i < k)
  ac : ∀ i, G.ac i = false
  pr : ∀ i, 0 ≤ G.pr i ∧ G.pr i < 256
  mask : G.mask = 256
def raised (G : Gm) (k : Nat) (p : Int) : Gm :=
  { pr := upd G.pr k p, sv := G.sv, en := upd G.en k true, pe := upd G.pe k true, ac := G.ac, mask := G.mask }
theorem S1.step {G : Gm} {k : Nat} (h : S1 G k) (p : Int) (h0 : 0 ≤ p) (h1 : p < 256) : S1 (raised G k p) (k + 1) := by
  refine ⟨fun i => ?_, fun i => ?_, h.ac, fun i => ?_, h.mask⟩
  · simp only [raised, upd]; split
    · simp; omega
    · rw [h.en i]; simp; omega
  · simp only [raised, upd]; split
    · simp; omega
    · rw [h.pe i]; simp; omega
  · simp only [raised, upd]; split
    · exact ⟨h0, h1⟩
    · exact h.pr i
/-- While m raised lines are served: so many are left; those that are left come behind the last one. -/
structure S2 (G : Gm) (m left : Nat) (last before : Int) : Prop where
  en : ∀ i, G.en i = decide (i < m)
  pe : ∀ i, G.pe i = true → i < m
  ac : ∀ i, G.ac i = false
  pr : ∀ i, 0 ≤ G.pr i ∧ G.pr i < 256
  mask : G.mask = 256
  num : cnt G.pe 32 = left
  ord : ∀ i : Nat, G.pe i = true → last < G.pr i ∨ last = G.pr i ∧ before < i
theorem S1.two {G : Gm} {m : Nat} (h : S1 G m) (hm : m ≤ 32) : S2 G m m (-1) 0 := by
  refine ⟨h.en, fun i hi => by rw [h.pe i] at hi; simpa using hi, h.ac, h.pr, h.mask, ?_, fun i _ => .inl (by have := h.pr i; omega)⟩
  rw [cnt_congr (g := fun i => decide (i < m)) (fun i _ => h.pe i)]
  exact cnt_first m 32 hm
theorem runF_idle {G : Gm} (h : ∀ i, G.ac i = false) (k : Nat) : runF G k = 256 := by
  induction k with
  | zero => rfl
  | succ k ih => simp [runF, h k, ih]
theorem S2.bar {G : Gm} {m l : Nat} {a b : Int} (h : S2 G m l a b) : bar G = 256 := by
  unfold Go.Proofs.Ytmehieloehlepaa.bar; rw [runF_idle h.ac, h.mask]; rfl
theorem S2.next {G : Gm} {m l : Nat} {a b : Int} (h : S2 G m l a b) (hl : 0 < l) : ∃ j, First G (Go.Proofs.Ytmehieloehlepaa.bar G) 32 j ∧ G.pe j = true ∧ j < m := by
  rcases nextF_is G (Go.Proofs.Ytmehieloehlepaa.bar G) 32 with ⟨_, hn⟩ | ⟨j, _, hj⟩
  · exfalso
    have := h.num
    obtain ⟨i, hi, hp⟩ := cnt_pos (f := G.pe) (k := 32) (by omega)
    have hb := h.bar
    exact hn i hi ⟨by rw [h.en i]; simpa using h.pe i hp, hp, h.ac i, by rw [hb]; exact (h.pr i).2⟩
  · exact ⟨j, hj, hj.2.1.2.1, h.pe j hj.2.1.2.1⟩
theorem S2.none {G : Gm} {m : Nat} {a b : Int} (h : S2 G m 0 a b) : ∀ i, i < 32 → ¬ Cand G (Go.Proofs.Ytmehieloehlepaa.bar G) i := by
  intro i hi hc
  have := cnt_zero h.num i hi
  rw [hc.2.1] at this; cases this
def served (G : Gm) (j : Nat) : Gm := { pr := G.pr, sv := upd G.sv j (G.pr j), en := G.en, pe := upd G.pe j false, ac := upd (upd G.ac j true) j false, mask := G.mask }
theorem S2.step {G : Gm} {m l j : Nat} {a b : Int} (hm : m ≤ 32) (h : S2 G m (l + 1) a b) (hj : First G (Go.Proofs.Ytmehieloehlepaa.bar G) 32 j) : S2 (served G j) m l (G.pr j) j := by
  have hp : G.pe j = true := hj.2.1.2.1
  refine ⟨h.en, fun i hi => ?_, fun i => ?_, h.pr, h.mask, ?_, fun i hi => ?_⟩
  · simp only [served, upd] at hi
    split at hi
    · cases hi
    · exact h.pe i hi
  · simp only [served, upd]; split
    · rfl
    · exact h.ac i
  · have := cnt_upd (f := G.pe) (k := 32) hj.1 hp
    have hn := h.num
    show cnt (upd G.pe j false) 32 = l
    omega
  · simp only [served, upd] at hi
    split at hi
    · cases hi
    · rename_i hne
      have hi32 : i < 32 ∨ 32 ≤ i := by omega
      rcases hi32 with hi32 | hi32
      · have hb := h.bar
        have := hj.2.2 i hi32 ⟨by rw [h.en i]; simpa using h.pe i hi, hi, h.ac i, by rw [hb]; exact (h.pr i).2⟩
        show G.pr j < G.pr i ∨ G.pr j = G.pr i ∧ (j : Int) < i
        omega
      · have h1 := h.pe i hi
        omega

set_option maxHeartbeats 4000000 in
theorem walk_GicServes (a : Option Addr) (len cap : Nat) (w : World) (hlen : len ≤ maxLen) (hacts : Ints w a len) :
    Calls Try.prog 3 #[.slice a len cap] w fun e w' => e = .returned (.bool true) ∧ Below w.heap.size w w' := by
  have HA := Lib.hid hacts; clear hacts
  unfold maxLen at hlen
  go_enter Try.func3, Try.ntmps3
  go_wp2_with fail
  refine (awake_any _).mono ?_
  rintro e w1 ⟨rfl, hb1⟩
  have B1 := Lib.hid hb1; clear hb1
  go_wp2_with fail
  refine (new_any _).mono ?_
  rintro e w2 ⟨g, rfl, hg, hg0, hb2⟩
  have B2 : Hid (Below w.heap.size w w2) := Lib.hid (B1.out.trans (hb2.mono B1.out.size))
  have zg : w.heap.size ≤ g := Nat.le_trans B1.out.size hg0
  have HG := Lib.hid hg; clear hg hg0 hb2 B1
  go_wp2_with fail
  go_loopw [5, 6, 7, 8, 9, 10] (fun v5 v6 v7 v8 v9 v10 wr => ∃ k : Nat, k ≤ 32 ∧ k ≤ len ∧ v5 = .int .i64 k ∧ v6 = .int .i64 k ∧ (∃ G, S1 G k ∧ GicAt wr g G) ∧ Below w.heap.size w wr) (fun _ v6 _ _ _ _ _ => 32 - (intOf v6).toNat)
  case atStart => exact ⟨0, by omega, by omega, rfl, rfl, ⟨G0, ⟨fun i => by simp [G0], fun i => by simp [G0], fun i => rfl, fun i => by simp [G0], rfl⟩, HG.out⟩, B2.out⟩
  case round =>
    obtain ⟨k, hk, hkl, rfl, rfl, ⟨G, hs, hgk⟩, hb⟩ := hrel
    have HS := Lib.hid hs; have HGk := Lib.hid hgk; have HB := Lib.hid hb; clear hs hgk hb
    by_cases hc : k < len ∧ k < 32
    · obtain ⟨hlt, hlm⟩ := hc
      obtain ⟨b, off, z, rfl, d0⟩ := HA.out k hlt
      have hbl : b < w.heap.size := World.block_lt_of_cell? w _ d0
      have c0 := (HB.out.cell (p := ⟨b, off + k, none⟩) hbl).trans d0
      clear d0
      have tb := tmod_bounds z
      obtain ⟨t0, t1⟩ := tb
      by_cases hneg : z.tmod 256 < 0
      · go_wp2_with fail
        refine (setpri_ok g G _ HGk.out k (by omega) (by omega) (-z.tmod 256) (by omega) (by omega)).mono ?_
        rw [Int.toNat_natCast]
        rintro e w3 ⟨rfl, g3, u3⟩
        have H3 := Lib.hid g3; have U3 := Lib.hid u3; clear g3 u3
        go_wp2_with fail
        refine (enable_ok g _ _ H3.out k (by omega) (by omega) true).mono ?_
        rw [Int.toNat_natCast]
        rintro e w4 ⟨rfl, g4, u4⟩
        have H4 := Lib.hid g4; have U4 := Lib.hid (U3.out.trans u4); clear g4 u4 H3 U3
        go_wp2_with fail
        refine (raise_ok g _ _ H4.out k (by omega) (by omega)).mono ?_
        rw [Int.toNat_natCast]
        rintro e w5 ⟨rfl, g5, u5⟩
        have H5 := Lib.hid g5; have U5 := Lib.hid (U4.out.trans u5); clear g5 u5 H4 U4
        have B5 : Hid (Below w.heap.size w w5) := Lib.hid (HB.out.trans ⟨U5.out.os, U5.out.tape, U5.out.output, U5.out.size, fun q hq => U5.out.block q (by have := HB.out.size; omega) (by rintro h; omega)⟩)
        go_wp2_with fail
        go_roundw
        case rel => exact ⟨k + 1, by omega, by omega, by go_num, by go_num, ⟨raised G k (-z.tmod 256), S1.step HS.out (-z.tmod 256) (by omega) (by omega), H5.out⟩, B5.out⟩
        case measure => simp [intOf]; omega
      · go_wp2_with fail
        refine (setpri_ok g G _ HGk.out k (by omega) (by omega) (z.tmod 256) (by omega) (by omega)).mono ?_
        rw [Int.toNat_natCast]
        rintro e w3 ⟨rfl, g3, u3⟩
        have H3 := Lib.hid g3; have U3 := Lib.hid u3; clear g3 u3
        go_wp2_with fail
        refine (enable_ok g _ _ H3.out k (by omega) (by omega) true).mono ?_
        rw [Int.toNat_natCast]
        rintro e w4 ⟨rfl, g4, u4⟩
        have H4 := Lib.hid g4; have U4 := Lib.hid (U3.out.trans u4); clear g4 u4 H3 U3
        go_wp2_with fail
        refine (raise_ok g _ _ H4.out k (by omega) (by omega)).mono ?_
        rw [Int.toNat_natCast]
        rintro e w5 ⟨rfl, g5, u5⟩
        have H5 := Lib.hid g5; have U5 := Lib.hid (U4.out.trans u5); clear g5 u5 H4 U4
        have B5 : Hid (Below w.heap.size w w5) := Lib.hid (HB.out.trans ⟨U5.out.os, U5.out.tape, U5.out.output, U5.out.size, fun q hq => U5.out.block q (by have := HB.out.size; omega) (by rintro h; omega)⟩)
        go_wp2_with fail
        go_roundw
        case rel => exact ⟨k + 1, by omega, by omega, by go_num, by go_num, ⟨raised G k (z.tmod 256), S1.step HS.out (z.tmod 256) (by omega) (by omega), H5.out⟩, B5.out⟩
        case measure => simp [intOf]; omega
    · by_cases hlt : k < len
      · go_wp2_with fail
        go_loopw [11, 12, 13, 14, 15, 16] (fun v11 v12 v13 v14 v15 v16 wq => ∃ (i : Nat) (last before : Int), i ≤ k ∧ v11 = .int .i64 last ∧ v12 = .int .i64 before ∧ v13 = .int .i64 i ∧ (∃ G, S2 G k (k - i) last before ∧ GicAt wq g G) ∧ Below w.heap.size w wq) (fun _ _ v13 _ _ _ _ => 32 - (intOf v13).toNat)
        case atStart => exact ⟨0, -1, 0, by omega, rfl, rfl, rfl, ⟨G, HS.out.two hk, HGk.out⟩, HB.out⟩
        case round =>
          clear HS HGk HB
          obtain ⟨i, last, before, hik, rfl, rfl, rfl, ⟨G, hs, hgk⟩, hb⟩ := hrel
          have HS := Lib.hid hs; have HGk := Lib.hid hgk; have HB := Lib.hid hb; clear hs hgk hb
          by_cases hlt2 : i < k
          · have hs' : S2 G k (k - (i + 1) + 1) last before := by have := HS.out; rwa [show k - i = k - (i + 1) + 1 by omega] at this
            obtain ⟨j, hj, hpj, hjk⟩ := hs'.next (by omega)
            have HJ := Lib.hid hj; have HS' := Lib.hid hs'
            have hord := hs'.ord j hpj
            clear hj hs' hpj
            obtain ⟨q, hq⟩ : ∃ q, G.pr j = q := ⟨_, rfl⟩
            rw [hq] at hord
            have HQ := Lib.hid hq; clear hq
            have hj32 : j < 32 := HJ.out.1
            have ho1 : ¬ q < last := by omega
            have ho2 : q = last → ¬ (j : Int) ≤ before := by intro h1 h2; omega
            clear hord
            go_wp2_with fail
            refine (ack_some g G _ HGk.out j HJ.out).mono ?_
            rintro e w3 ⟨rfl, g3, u3⟩
            have H3 := Lib.hid g3; have U3 := Lib.hid u3; clear g3 u3
            go_wp2_with fail
            refine (state_ok g _ _ H3.out j (by omega) (by omega)).mono ?_
            rw [Int.toNat_natCast]
            rintro e w4 ⟨rfl, hb4⟩
            have H4 := Lib.hid (H3.out.below hb4); have U4 := Lib.hid (U3.out.trans (Upd.of_below hb4)); clear hb4 H3 U3
            rw [show (acked G j).pr j = q from HQ.out]
            go_wp2_with fail
            have H4' := Lib.hid (RowAt.alloc H4.out (.cells #[.int .i64 j, .int .i64 q, .bool ((acked G j).en j), .bool ((acked G j).pe j), .bool ((acked G j).ac j)] 32))
            refine (end_ok g (acked G j) _ H4'.out j (by omega) (by omega) (by simp [acked, upd])).mono ?_
            rw [Int.toNat_natCast]
            rintro e w6 ⟨rfl, g6, u6⟩
            have H6 : Hid (GicAt w6 g (served G j)) := Lib.hid g6
            have hne : ¬ w4.heap.size = g := by have := RowAt.lt H4.out; omega
            have cs : w6.cell? ⟨w4.heap.size, 1, none⟩ = some (.int .i64 q) := by rw [u6.cell (by simp) hne]; simp
            have B6 : Hid (Below w.heap.size w w6) := Lib.hid (by
              have hu := (U4.out.alloc (.cells #[.int .i64 j, .int .i64 q, .bool ((acked G j).en j), .bool ((acked G j).pe j), .bool ((acked G j).ac j)] 32)).trans u6
              exact HB.out.trans ⟨hu.os, hu.tape, hu.output, hu.size, fun x hx => hu.block x (by have := HB.out.size; omega) (by rintro h; omega)⟩)
            clear g6 u6 H4 H4' U4
            by_cases hql : q = last
            · have hqb : (q == last) = true := by simp [hql]
              have hjb := ho2 hql
              have HQL := Lib.hid hql
              clear hql ho2
              go_wp2_with fail
              go_roundw
              case rel => exact ⟨i + 1, q, j, by omega, rfl, rfl, by go_num, ⟨served G j, by have := HS'.out.step (by omega) HJ.out; rw [HQ.out] at this; exact this, H6.out⟩, B6.out⟩
              case measure => simp [intOf]; omega
            · have hqb : (q == last) = false := by simp [hql]
              have HQL := Lib.hid hql
              clear hql ho2
              go_wp2_with fail
              go_roundw
              case rel => exact ⟨i + 1, q, j, by omega, rfl, rfl, by go_num, ⟨served G j, by have := HS'.out.step (by omega) HJ.out; rw [HQ.out] at this; exact this, H6.out⟩, B6.out⟩
              case measure => simp [intOf]; omega
          · go_wp2_with fail
            refine (ack_none g G _ HGk.out (S2.none (by have := HS.out; rwa [show k - i = 0 by omega] at this))).mono ?_
            rintro e w3 ⟨rfl, g3, u3⟩
            have B3 : Hid (Below w.heap.size w w3) := Lib.hid (HB.out.trans ⟨u3.os, u3.tape, u3.output, u3.size, fun x hx => u3.block x (by have := HB.out.size; omega) (by rintro h; omega)⟩)
            clear g3 u3
            go_wp2_with fail
            go_ret
            go_light
            exact ⟨rfl, B3.out⟩
      · go_wp2_with fail
        go_loopw [11, 12, 13, 14, 15, 16] (fun v11 v12 v13 v14 v15 v16 wq => ∃ (i : Nat) (last before : Int), i ≤ k ∧ v11 = .int .i64 last ∧ v12 = .int .i64 before ∧ v13 = .int .i64 i ∧ (∃ G, S2 G k (k - i) last before ∧ GicAt wq g G) ∧ Below w.heap.size w wq) (fun _ _ v13 _ _ _ _ => 32 - (intOf v13).toNat)
        case atStart => exact ⟨0, -1, 0, by omega, rfl, rfl, rfl, ⟨G, HS.out.two hk, HGk.out⟩, HB.out⟩
        case round =>
          clear HS HGk HB
          obtain ⟨i, last, before, hik, rfl, rfl, rfl, ⟨G, hs, hgk⟩, hb⟩ := hrel
          have HS := Lib.hid hs; have HGk := Lib.hid hgk; have HB := Lib.hid hb; clear hs hgk hb
          by_cases hlt2 : i < k
          · have hs' : S2 G k (k - (i + 1) + 1) last before := by have := HS.out; rwa [show k - i = k - (i + 1) + 1 by omega] at this
            obtain ⟨j, hj, hpj, hjk⟩ := hs'.next (by omega)
            have HJ := Lib.hid hj; have HS' := Lib.hid hs'
            have hord := hs'.ord j hpj
            clear hj hs' hpj
            obtain ⟨q, hq⟩ : ∃ q, G.pr j = q := ⟨_, rfl⟩
            rw [hq] at hord
            have HQ := Lib.hid hq; clear hq
            have hj32 : j < 32 := HJ.out.1
            have ho1 : ¬ q < last := by omega
            have ho2 : q = last → ¬ (j : Int) ≤ before := by intro h1 h2; omega
            clear hord
            go_wp2_with fail
            refine (ack_some g G _ HGk.out j HJ.out).mono ?_
            rintro e w3 ⟨rfl, g3, u3⟩
            have H3 := Lib.hid g3; have U3 := Lib.hid u3; clear g3 u3
            go_wp2_with fail
            refine (state_ok g _ _ H3.out j (by omega) (by omega)).mono ?_
            rw [Int.toNat_natCast]
            rintro e w4 ⟨rfl, hb4⟩
            have H4 := Lib.hid (H3.out.below hb4); have U4 := Lib.hid (U3.out.trans (Upd.of_below hb4)); clear hb4 H3 U3
            rw [show (acked G j).pr j = q from HQ.out]
            go_wp2_with fail
            have H4' := Lib.hid (RowAt.alloc H4.out (.cells #[.int .i64 j, .int .i64 q, .bool ((acked G j).en j), .bool ((acked G j).pe j), .bool ((acked G j).ac j)] 32))
            refine (end_ok g (acked G j) _ H4'.out j (by omega) (by omega) (by simp [acked, upd])).mono ?_
            rw [Int.toNat_natCast]
            rintro e w6 ⟨rfl, g6, u6⟩
            have H6 : Hid (GicAt w6 g (served G j)) := Lib.hid g6
            have hne : ¬ w4.heap.size = g := by have := RowAt.lt H4.out; omega
            have cs : w6.cell? ⟨w4.heap.size, 1, none⟩ = some (.int .i64 q) := by rw [u6.cell (by simp) hne]; simp
            have B6 : Hid (Below w.heap.size w w6) := Lib.hid (by
              have hu := (U4.out.alloc (.cells #[.int .i64 j, .int .i64 q, .bool ((acked G j).en j), .bool ((acked G j).pe j), .bool ((acked G j).ac j)] 32)).trans u6
              exact HB.out.trans ⟨hu.os, hu.tape, hu.output, hu.size, fun x hx => hu.block x (by have := HB.out.size; omega) (by rintro h; omega)⟩)
            clear g6 u6 H4 H4' U4
            by_cases hql : q = last
            · have hqb : (q == last) = true := by simp [hql]
              have hjb := ho2 hql
              have HQL := Lib.hid hql
              clear hql ho2
              go_wp2_with fail
              go_roundw
              case rel => exact ⟨i + 1, q, j, by omega, rfl, rfl, by go_num, ⟨served G j, by have := HS'.out.step (by omega) HJ.out; rw [HQ.out] at this; exact this, H6.out⟩, B6.out⟩
              case measure => simp [intOf]; omega
            · have hqb : (q == last) = false := by simp [hql]
              have HQL := Lib.hid hql
              clear hql ho2
              go_wp2_with fail
              go_roundw
              case rel => exact ⟨i + 1, q, j, by omega, rfl, rfl, by go_num, ⟨served G j, by have := HS'.out.step (by omega) HJ.out; rw [HQ.out] at this; exact this, H6.out⟩, B6.out⟩
              case measure => simp [intOf]; omega
          · go_wp2_with fail
            refine (ack_none g G _ HGk.out (S2.none (by have := HS.out; rwa [show k - i = 0 by omega] at this))).mono ?_
            rintro e w3 ⟨rfl, g3, u3⟩
            have B3 : Hid (Below w.heap.size w w3) := Lib.hid (HB.out.trans ⟨u3.os, u3.tape, u3.output, u3.size, fun x hx => u3.block x (by have := HB.out.size; omega) (by rintro h; omega)⟩)
            clear g3 u3
            go_wp2_with fail
            go_ret
            go_light
            exact ⟨rfl, B3.out⟩
end Go.Proofs.Ytmehieloehlepaa
namespace Go.Proofs.Ytmehieloehlepaa
open Go.Joins Go.ChangeShapes Go.WideShapes Go.ChangeAt Go.RowKit
theorem GicServes_lifted (os : Os) (started : os.Started) (H : Type) (enc : TypeId × Value → H) :
    ReturnsInHanded {} Try.checked os 3 .any (Rows.gicServesSpec.pre6 enc Try.prog Try.f3 Rows.gicServesRow.domain false) (Rows.gicServesSpec.post enc Try.prog Try.f3 false true false false) := by
  refine returnsInHanded_of_change (C := Try.checked) own started (by kernel_rfl) Try.func3
    (ChangeSpec.witness6 (enc := enc) (C := Try.checked) false ⟨#[], #[.slice none 0 0], []⟩ 8 (by kernel_rfl) (by kernel_rfl) (by kernel_rfl) (by kernel_rfl)) ?_
  intro W base args ds gs before hval0 hW hcnd _
  have hval : ∀ (j : Nat) t v, Try.f3.params[j]? = some t → args[j]? = some v → Value.okWide Try.prog W .any base t v := hval0
  have hW' := hW
  obtain ⟨p, q, hA0, hV, rfl, hfz, hnd⟩ := hW
  have hA : DataW.TrodAll enc Try.prog W 0 (fun _ => true) true Try.f3.params.toList args.toList ds p := hA0
  rw [Try.params3] at hA hval
  obtain ⟨rfl, rfl⟩ := trodVars_none hV
  clear hA0 hval0
  obtain ⟨args⟩ := args
  obtain ⟨v0, vs0, d0, ds0, p0, q0, ha0, rfl, rfl, h0, r0⟩ := trodAll_cons hA
  simp only at ha0
  subst ha0
  obtain ⟨hn, rfl, rfl⟩ := trodAll_nil r0
  subst hn
  obtain ⟨a, len, cap, rfl, hlen, hacts⟩ := open_nums (hval 0 22 v0 rfl rfl) h0
  refine (walk_GicServes a len cap W hlen hacts).mono fun e W' ⟨he, hb⟩ => ⟨_, he, ?_⟩
  exact law_post laidOut (by kernel_rfl) (by kernel_rfl) Try.underlying4 rfl hW' rfl hb

theorem GicServes_over : Rows.gicServesRow.holds Try.pinned (OpenSpec.ofChange Rows.gicServesSpec) :=
  OpenClaim.holds_of_wide 3 Try.f3 rfl rfl rfl rfl rfl rfl rfl ⟨rfl, rfl, rfl, rfl, rfl⟩ rfl rfl rfl rfl rfl (by kernel_rfl) Try.func3 (by kernel_rfl)
    (of_decide_eq_true (by kernel_rfl)) (by unfold Func.isWrapper; first | (rw [if_pos (by decide +kernel)]; kernel_rfl) | (rw [if_neg (by decide +kernel)]; exact ⟨rfl, rfl⟩))
    (fun os started H enc _ => GicServes_lifted os started H enc)

theorem GicServes_holds : Rows.GicServesSaid := GicServes_over
#print axioms GicServes_holds
end Go.Proofs.Ytmehieloehlepaa
