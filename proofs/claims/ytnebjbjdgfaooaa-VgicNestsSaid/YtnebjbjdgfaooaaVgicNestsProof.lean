/- Proved: who is acknowledged while others are served is more urgent than each of them (viceroylaw08.VgicNests returns true for every number and every list of acts), with no condition. -/
import Derived.Test.YtnebjbjdgfaooaaVgZ
import Derived.Test.YtnebjbjdgfaooaaVgO
namespace Go.Proofs.Ytnebjbjdgfaooaa
open Go.RowKit
set_option maxRecDepth 100000

/-- No pending one's priority is negative. -/
def Okv (S : Vm) : Prop := ∀ i, i < 64 → ∀ y, S.pe i = some y → 0 ≤ y.1
theorem Okv.does {S : Vm} (h : Okv S) (d id p : Int) (on : Bool) : Okv (doesV S d id p on).1 := by
  unfold doesV
  by_cases d1 : d = 1
  · rw [if_pos d1]
    unfold injV
    by_cases hc : 0 ≤ id ∧ id < 64 ∧ 0 ≤ p ∧ p < 256
    · rw [if_pos hc]
      by_cases hs : (S.pe id.toNat).isSome = true
      · rw [if_pos hs]; exact h
      · rw [if_neg hs]
        intro i hi y hy
        show 0 ≤ y.1
        have hy' : updM S.pe id.toNat (some (p, on)) i = some y := hy
        by_cases e : i = id.toNat
        · subst e
          rw [updM_same] at hy'
          cases hy'
          exact hc.2.2.1
        · rw [updM_other _ _ e] at hy'
          exact h i hi y hy'
    · rw [if_neg hc]; exact h
  rw [if_neg d1]
  by_cases d2 : d = 2
  · rw [if_pos d2]; unfold enaV; split <;> exact h
  rw [if_neg d2]
  by_cases d3 : d = 3
  · rw [if_pos d3]; unfold maskV; split <;> exact h
  rw [if_neg d3]
  by_cases d4 : d = 4
  · rw [if_pos d4]; unfold ackV
    cases bestV S 64 with
    | none => exact h
    | some b =>
      intro i hi y hy
      have hy' : updM S.pe b.1 none i = some y := hy
      by_cases e : i = b.1
      · subst e; rw [updM_same] at hy'; cases hy'
      · rw [updM_other _ _ e] at hy'; exact h i hi y hy'
  rw [if_neg d4]
  by_cases d5 : d = 5
  · rw [if_pos d5]; unfold endV
    split
    · split <;> exact h
    · exact h
  · rw [if_neg d5]; exact h
theorem ok0 (L : Int) : Okv (V0 L) := fun i _ y h => by cases h
theorem upd_below {w a b : World} {v mp ma : Nat} (h : Below w.heap.size w a) (u : Upd (Vb v mp ma) a b) (hz : w.heap.size ≤ v ∧ w.heap.size ≤ mp ∧ w.heap.size ≤ ma) : Below w.heap.size w b := below_upd h u hz.1 hz.2.1 hz.2.2
theorem LrSl.upd {w w' : World} {base : Nat} {sl : Value} {n : Nat} {g : Nat → LrE} {X : Nat → Prop} (h : LrSl w base sl n g) (u : Upd X w w') (hx : ∀ k, base ≤ k → ¬ X k) : LrSl w' base sl n g := by
  rcases h with h | ⟨q, cap, M, h1, h2, h3, h4⟩
  · exact Or.inl h
  · exact Or.inr ⟨q, cap, M, h1, h2, h3, h4.kept u (hx q h3)⟩
theorem act_pr {S : Vm} {i : Nat} {x : LrE} (hi : i < 64) (h : lrOf S.pe S.ac i = some x) (ha : x.ac = true) : mnV S ≤ x.pr := by
  unfold lrOf at h
  split at h
  · rename_i y hy
    cases h
    have := runM_low S.ac 64 i hi y hy
    show mnV S ≤ y.1
    unfold mnV
    split <;> omega
  · split at h
    · cases h; cases ha
    · cases h
theorem all_one {pe ac : Mp} {n n' : Nat} {g g' : Nat → LrE} (h : IsAll pe ac n g) (h' : IsAll pe ac n' g') : n = n' ∧ ∀ j, j < n → g j = g' j := by
  have e : n = n' := h.1.trans h'.1.symm
  subst e
  exact ⟨rfl, h.uniq h'.2.1 (fun j hj => h'.mem hj) (fun i hi x hx => h'.has hi hx)⟩
theorem lr_same {S : Vm} {b : Nat} {q : Int} (hc : cand S b q) {i : Nat} {x : LrE} (h : lrOf S.pe S.ac i = some x) (e : x.id = (b : Int)) : x.pr = q ∧ x.ac = false ∧ x.pe = true := by
  have hid := lrOf_id h
  obtain rfl : i = b := by omega
  obtain ⟨l, hl⟩ := cand_lr hc
  rw [hl] at h
  cases h
  exact ⟨rfl, rfl, rfl⟩
set_option maxHeartbeats 8000000 in
theorem walk_VgicNestsL (L1 : Int) (a : Option Addr) (len cap : Nat) (w : World) (hlen : len ≤ maxLen) (hacts : Acts w a len) (h1 : 1 ≤ L1 ∧ L1 ≤ 16) (hx : len ≤ 100) :
    Calls Try.prog 7 #[.int .i64 L1, .slice a len cap] w fun e w' => e = .returned (.bool true) ∧ Below w.heap.size w w' := by
  have HA0 := Lib.hid hacts; clear hacts
  unfold maxLen at hlen
  go_enter Try.func7, Try.ntmps7
  go_wp2_with fail
  refine (vawake_any _).mono ?_
  rintro e w1 ⟨rfl, hb1⟩
  have B1 := Lib.hid hb1; clear hb1
  go_wp2_with fail
  refine (vnew_ok L1 h1.1 h1.2 _).mono ?_
  rintro e w2 ⟨v, mp, ma, rfl, hv, hz1, hz2, hz3, hb2⟩
  have B2 : Hid (Below w.heap.size w w2) := Lib.hid (B1.out.trans (hb2.mono B1.out.size))
  have HV2 := Lib.hid hv
  have HZ : Hid (w.heap.size ≤ v ∧ w.heap.size ≤ mp ∧ w.heap.size ≤ ma) := Lib.hid (by have := B1.out.size; omega)
  clear hb2 hv hz1 hz2 hz3 B1
  go_wp2_with fail
  go_loopw [8] (fun v8 wr => ∃ (k : Nat) (S : Vm), k ≤ 100 ∧ k ≤ len ∧ v8 = .int .i64 k ∧ Okv S ∧ VgAt wr v mp ma S ∧ Below w.heap.size w wr) (fun v8 _ => 100 - (intOf v8).toNat)
  case atStart => exact ⟨0, V0 L1, by omega, by omega, rfl, ok0 L1, HV2.out, B2.out⟩
  case round =>
    clear HV2 B2
    obtain ⟨k, S, hk, hkl, rfl, hok, hv, hb⟩ := hrel
    have HV := Lib.hid hv; have HB := Lib.hid hb; have HOK := Lib.hid hok; clear hv hb hok
    by_cases hlt : k < len
    · by_cases hlm : k < 100
      · obtain ⟨b, off, d, l, n, on, rfl, d0, d1, d2, d3⟩ := HA0.out k hlt
        have hbl : b < w.heap.size := World.block_lt_of_cell? w _ d0
        have c0 := (HB.out.cell (p := ⟨b, off + k * 4, none⟩) hbl).trans d0
        have c1 := (HB.out.cell (p := ⟨b, off + k * 4 + 1, none⟩) hbl).trans d1
        have c2 := (HB.out.cell (p := ⟨b, off + k * 4 + 2, none⟩) hbl).trans d2
        have c3 := (HB.out.cell (p := ⟨b, off + k * 4 + 3, none⟩) hbl).trans d3
        clear d0 d1 d2 d3
        go_wp2_with fail
        refine (does_any v mp ma S d l n on _ HV.out).mono ?_
        rintro e w4 ⟨rfl, hv4, hu4⟩
        have HV4 := Lib.hid hv4
        have HOK4 := Lib.hid (HOK.out.does d l n on)
        have B4 := Lib.hid (upd_below HB.out hu4 HZ.out)
        obtain ⟨S1, hS1⟩ : ∃ x, (doesV S d l n on).1 = x := ⟨_, rfl⟩
        rw [hS1] at HV4 HOK4
        clear hv4 hu4 c0 c1 c2 c3 HV HB HOK hS1
        go_wp2_with fail
        go_roundw
        case rel => exact ⟨k + 1, S1, by omega, by omega, by go_num, HOK4.out, HV4.out, B4.out⟩
        case measure => simp [intOf]; omega
      · exact absurd hx (by omega)
    · go_wp2_with fail
      clear HA0
      refine (all_any v mp ma S _ HV.out).mono ?_
      rintro e w5 ⟨⟨sl, m, g, rfl, hall, hsl⟩, hb5⟩
      have HA := Lib.hid hall
      have HS5 := Lib.hid hsl
      have HVl : Hid (v < wr.heap.size ∧ mp < wr.heap.size ∧ ma < wr.heap.size) := Lib.hid ⟨HV.out.lt, HV.out.pe.lt, HV.out.ac.lt⟩
      have HV5 := Lib.hid (HV.out.below hb5)
      have B5 : Hid (Below w.heap.size w w5) := Lib.hid (HB.out.trans (hb5.mono HB.out.size))
      have HM64 : Hid (m ≤ 64) := Lib.hid (by rw [hall.1]; exact preL_len _ _ _)
      clear hall hsl hb5 HV HB
      rcases best_spec S 64 with ⟨hb, _⟩ | ⟨b, q, hb, hb64, hc, _⟩
      · have ha : ackV S = (S, 1023) := by unfold ackV; rw [hb]
        go_wp2_with fail
        refine (vack_any v mp ma S _ HV5.out).mono ?_
        rw [ha]
        rintro e w6 ⟨rfl, hv, hu⟩
        have HV6 : Hid (VgAt w6 v mp ma S) := Lib.hid hv
        have HS6 := Lib.hid (HS5.out.upd hu (fun k hk => by unfold Vb; have := HVl.out; omega))
        have B6 := Lib.hid (upd_below B5.out hu HZ.out)
        clear hv hu ha hb HV5 HS5 B5
        go_wp2_with fail
        refine (all_any v mp ma S _ HV6.out).mono ?_
        rintro e w7 ⟨⟨sl2, m2, g2, rfl, hall2, hsl2⟩, hb7⟩
        have HE7 := Lib.hid (all_one HA.out hall2)
        have HS7 := Lib.hid (HS6.out.below hb7)
        have HS7' := Lib.hid hsl2
        have B7 : Hid (Below w.heap.size w w7) := Lib.hid (B6.out.trans (hb7.mono B6.out.size))
        clear hall2 hsl2 hb7 HV6 HS6 B6
        go_wp2_with fail
        refine (lists_eq sl sl2 m _ _ g g2 _ HS7.out (by have h := HS7'.out; rw [← HE7.out.1] at h; exact h) HE7.out.2 HM64.out).mono ?_
        rintro e w8 ⟨rfl, hk8⟩
        have B8 := Lib.hid (below_drew B7.out hk8)
        clear hk8 HS7 HS7' HE7
        go_wp2_with fail
        go_ret
        go_light
        exact ⟨rfl, B8.out⟩
      · have ha2 : (ackV S).2 = (b : Int) := by unfold ackV; rw [hb]
        go_wp2_with fail
        refine (vack_any v mp ma S _ HV5.out).mono ?_
        rw [ha2]
        rintro e w6 ⟨rfl, hv, hu⟩
        have HS6 := Lib.hid (HS5.out.upd hu (fun k hk => by unfold Vb; have := HVl.out; omega))
        have B6 := Lib.hid (upd_below B5.out hu HZ.out)
        have HC := Lib.hid hc
        have HB64 := Lib.hid hb64
        have hbs : ((b : Int) == 1023) = false := by simp; omega
        clear hv hu ha2 hb hc HV5 HS5 B5
        rcases HS6.out with ⟨rfl, rfl⟩ | ⟨qb, cap', M, rfl, hmc, hqb, hl⟩
        · exfalso
          obtain ⟨l0, hlr⟩ := cand_lr HC.out
          obtain ⟨jb, hjb, _⟩ := HA.out.has hb64 hlr
          omega
        · have HL6 := Lib.hid hl
          have hm64 := HM64.out
          clear hl HS6 hb64
          go_wp2_with fail
          go_loopw [13, 14] (fun v13 v14 wr => ∃ j : Nat, j ≤ m ∧ v14 = .int .i64 j ∧ ((v13 = .int .i64 (-1) ∧ ∀ i, i < j → (g i).id ≠ (b : Int)) ∨ v13 = .int .i64 q) ∧ LrAt wr qb M m g ∧ Below w.heap.size w wr) (fun _ v14 _ => m - (intOf v14).toNat)
          case atStart => exact ⟨0, by omega, rfl, Or.inl ⟨rfl, fun i hi => by omega⟩, HL6.out, B6.out⟩
          case round =>
            clear HL6 B6
            obtain ⟨j, hj, rfl, hmine, hl, hb⟩ := hrel
            have HL := Lib.hid hl; have HB := Lib.hid hb; clear hl hb
            by_cases hjm : j < m
            · have hd : decide ((j : Int) < (m : Int)) = true := by simp; omega
              have hji : (j : Int) < (m : Int) := by omega
              obtain ⟨i, hi, hx⟩ := HA.out.mem hjm
              have hid := lrOf_id hx
              obtain ⟨c0, c1, c2, c3, c4⟩ := HL.out.cells j hjm
              rw [hid] at c0
              by_cases e : i = b
              · obtain ⟨e1, e2, e3⟩ := lr_same HC.out hx (by omega)
                rw [e1] at c1
                rw [e3] at c3
                rw [e2] at c4
                have he : ((i : Int) == (b : Int)) = true := by simp [e]
                clear e1 e2 e3 hx hid hmine
                go_wp2_with fail
                go_roundw
                case rel => exact ⟨j + 1, by omega, by go_num, Or.inr rfl, HL.out, HB.out⟩
                case measure => simp [intOf]; omega
              · have he : ((i : Int) == (b : Int)) = false := by simp; omega
                rcases hmine with ⟨rfl, hno⟩ | rfl
                · have HNO : Hid (∀ i, i < j + 1 → (g i).id ≠ (b : Int)) := Lib.hid (fun i' h0 => if e' : i' = j then (by rw [e', hid]; omega) else hno i' (by omega))
                  clear hno hid hx
                  go_wp2_with fail
                  go_roundw
                  case rel => exact ⟨j + 1, by omega, by go_num, Or.inl ⟨rfl, HNO.out⟩, HL.out, HB.out⟩
                  case measure => simp [intOf]; omega
                · clear hid hx
                  go_wp2_with fail
                  go_roundw
                  case rel => exact ⟨j + 1, by omega, by go_num, Or.inr rfl, HL.out, HB.out⟩
                  case measure => simp [intOf]; omega
            · obtain rfl : j = m := by omega
              obtain ⟨l0, hlr⟩ := cand_lr HC.out
              obtain ⟨jb, hjb, ejb⟩ := HA.out.has HB64.out hlr
              rcases hmine with ⟨_, hno⟩ | rfl
              · exact absurd (by rw [ejb]) (hno jb hjb)
              · have HQ0 : Hid (0 ≤ q) := Lib.hid (by obtain ⟨l1, h1⟩ := HC.out.2.1; exact HOK.out b HB64.out _ h1)
                clear l0 hlr jb hjb ejb
                go_wp2_with fail
                go_loopw [15] (fun v15 wr => ∃ k : Nat, k ≤ j ∧ v15 = .int .i64 k ∧ LrAt wr qb M j g ∧ Below w.heap.size w wr) (fun v15 _ => j - (intOf v15).toNat)
                case atStart => exact ⟨0, by omega, rfl, HL.out, HB.out⟩
                case round =>
                  clear HL HB
                  obtain ⟨k, hk, rfl, hl, hb⟩ := hrel
                  have HL := Lib.hid hl; have HB := Lib.hid hb; clear hl hb
                  by_cases hkj : k < j
                  · have hd : decide ((k : Int) < (j : Int)) = true := by simp; omega
                    have hji : (k : Int) < (j : Int) := by omega
                    obtain ⟨i, hi, hx⟩ := HA.out.mem hkj
                    obtain ⟨c0, c1, c2, c3, c4⟩ := HL.out.cells k hkj
                    cases hac : (g k).ac
                    · rw [hac] at c4
                      clear hx
                      go_wp2_with fail
                      go_roundw
                      case rel => exact ⟨k + 1, by omega, by go_num, HL.out, HB.out⟩
                      case measure => simp [intOf]; omega
                    · rw [hac] at c4
                      have hp := act_pr hi hx hac
                      have hq := HC.out.2.2.2
                      have hn : ¬ (g k).pr ≤ q := by omega
                      have hdn : decide ((g k).pr ≤ q) = false := by simpa using hn
                      clear hx hp hq
                      go_wp2_with fail
                      go_roundw
                      case rel => exact ⟨k + 1, by omega, by go_num, HL.out, HB.out⟩
                      case measure => simp [intOf]; omega
                  · obtain rfl : k = j := by omega
                    have hq0 := HQ0.out
                    have hqd : decide (0 ≤ q) = true := by simpa using hq0
                    go_wp2_with fail
                    go_ret
                    go_light
                    exact ⟨by first | rfl | simp [hq0], HB.out⟩
set_option maxHeartbeats 8000000 in
theorem walk_VgicNestsM (L1 : Int) (a : Option Addr) (len cap : Nat) (w : World) (hlen : len ≤ maxLen) (hacts : Acts w a len) (h1 : 1 ≤ L1 ∧ L1 ≤ 16) (hx : 100 < len) :
    Calls Try.prog 7 #[.int .i64 L1, .slice a len cap] w fun e w' => e = .returned (.bool true) ∧ Below w.heap.size w w' := by
  have HA0 := Lib.hid hacts; clear hacts
  unfold maxLen at hlen
  go_enter Try.func7, Try.ntmps7
  go_wp2_with fail
  refine (vawake_any _).mono ?_
  rintro e w1 ⟨rfl, hb1⟩
  have B1 := Lib.hid hb1; clear hb1
  go_wp2_with fail
  refine (vnew_ok L1 h1.1 h1.2 _).mono ?_
  rintro e w2 ⟨v, mp, ma, rfl, hv, hz1, hz2, hz3, hb2⟩
  have B2 : Hid (Below w.heap.size w w2) := Lib.hid (B1.out.trans (hb2.mono B1.out.size))
  have HV2 := Lib.hid hv
  have HZ : Hid (w.heap.size ≤ v ∧ w.heap.size ≤ mp ∧ w.heap.size ≤ ma) := Lib.hid (by have := B1.out.size; omega)
  clear hb2 hv hz1 hz2 hz3 B1
  go_wp2_with fail
  go_loopw [8] (fun v8 wr => ∃ (k : Nat) (S : Vm), k ≤ 100 ∧ k ≤ len ∧ v8 = .int .i64 k ∧ Okv S ∧ VgAt wr v mp ma S ∧ Below w.heap.size w wr) (fun v8 _ => 100 - (intOf v8).toNat)
  case atStart => exact ⟨0, V0 L1, by omega, by omega, rfl, ok0 L1, HV2.out, B2.out⟩
  case round =>
    clear HV2 B2
    obtain ⟨k, S, hk, hkl, rfl, hok, hv, hb⟩ := hrel
    have HV := Lib.hid hv; have HB := Lib.hid hb; have HOK := Lib.hid hok; clear hv hb hok
    by_cases hlt : k < len
    · by_cases hlm : k < 100
      · obtain ⟨b, off, d, l, n, on, rfl, d0, d1, d2, d3⟩ := HA0.out k hlt
        have hbl : b < w.heap.size := World.block_lt_of_cell? w _ d0
        have c0 := (HB.out.cell (p := ⟨b, off + k * 4, none⟩) hbl).trans d0
        have c1 := (HB.out.cell (p := ⟨b, off + k * 4 + 1, none⟩) hbl).trans d1
        have c2 := (HB.out.cell (p := ⟨b, off + k * 4 + 2, none⟩) hbl).trans d2
        have c3 := (HB.out.cell (p := ⟨b, off + k * 4 + 3, none⟩) hbl).trans d3
        clear d0 d1 d2 d3
        go_wp2_with fail
        refine (does_any v mp ma S d l n on _ HV.out).mono ?_
        rintro e w4 ⟨rfl, hv4, hu4⟩
        have HV4 := Lib.hid hv4
        have HOK4 := Lib.hid (HOK.out.does d l n on)
        have B4 := Lib.hid (upd_below HB.out hu4 HZ.out)
        obtain ⟨S1, hS1⟩ : ∃ x, (doesV S d l n on).1 = x := ⟨_, rfl⟩
        rw [hS1] at HV4 HOK4
        clear hv4 hu4 c0 c1 c2 c3 HV HB HOK hS1
        go_wp2_with fail
        go_roundw
        case rel => exact ⟨k + 1, S1, by omega, by omega, by go_num, HOK4.out, HV4.out, B4.out⟩
        case measure => simp [intOf]; omega
      · go_wp2_with fail
        clear HA0
        refine (all_any v mp ma S _ HV.out).mono ?_
        rintro e w5 ⟨⟨sl, m, g, rfl, hall, hsl⟩, hb5⟩
        have HA := Lib.hid hall
        have HS5 := Lib.hid hsl
        have HVl : Hid (v < wr.heap.size ∧ mp < wr.heap.size ∧ ma < wr.heap.size) := Lib.hid ⟨HV.out.lt, HV.out.pe.lt, HV.out.ac.lt⟩
        have HV5 := Lib.hid (HV.out.below hb5)
        have B5 : Hid (Below w.heap.size w w5) := Lib.hid (HB.out.trans (hb5.mono HB.out.size))
        have HM64 : Hid (m ≤ 64) := Lib.hid (by rw [hall.1]; exact preL_len _ _ _)
        clear hall hsl hb5 HV HB
        rcases best_spec S 64 with ⟨hb, _⟩ | ⟨b, q, hb, hb64, hc, _⟩
        · have ha : ackV S = (S, 1023) := by unfold ackV; rw [hb]
          go_wp2_with fail
          refine (vack_any v mp ma S _ HV5.out).mono ?_
          rw [ha]
          rintro e w6 ⟨rfl, hv, hu⟩
          have HV6 : Hid (VgAt w6 v mp ma S) := Lib.hid hv
          have HS6 := Lib.hid (HS5.out.upd hu (fun k hk => by unfold Vb; have := HVl.out; omega))
          have B6 := Lib.hid (upd_below B5.out hu HZ.out)
          clear hv hu ha hb HV5 HS5 B5
          go_wp2_with fail
          refine (all_any v mp ma S _ HV6.out).mono ?_
          rintro e w7 ⟨⟨sl2, m2, g2, rfl, hall2, hsl2⟩, hb7⟩
          have HE7 := Lib.hid (all_one HA.out hall2)
          have HS7 := Lib.hid (HS6.out.below hb7)
          have HS7' := Lib.hid hsl2
          have B7 : Hid (Below w.heap.size w w7) := Lib.hid (B6.out.trans (hb7.mono B6.out.size))
          clear hall2 hsl2 hb7 HV6 HS6 B6
          go_wp2_with fail
          refine (lists_eq sl sl2 m _ _ g g2 _ HS7.out (by have h := HS7'.out; rw [← HE7.out.1] at h; exact h) HE7.out.2 HM64.out).mono ?_
          rintro e w8 ⟨rfl, hk8⟩
          have B8 := Lib.hid (below_drew B7.out hk8)
          clear hk8 HS7 HS7' HE7
          go_wp2_with fail
          go_ret
          go_light
          exact ⟨rfl, B8.out⟩
        · have ha2 : (ackV S).2 = (b : Int) := by unfold ackV; rw [hb]
          go_wp2_with fail
          refine (vack_any v mp ma S _ HV5.out).mono ?_
          rw [ha2]
          rintro e w6 ⟨rfl, hv, hu⟩
          have HS6 := Lib.hid (HS5.out.upd hu (fun k hk => by unfold Vb; have := HVl.out; omega))
          have B6 := Lib.hid (upd_below B5.out hu HZ.out)
          have HC := Lib.hid hc
          have HB64 := Lib.hid hb64
          have hbs : ((b : Int) == 1023) = false := by simp; omega
          clear hv hu ha2 hb hc HV5 HS5 B5
          rcases HS6.out with ⟨rfl, rfl⟩ | ⟨qb, cap', M, rfl, hmc, hqb, hl⟩
          · exfalso
            obtain ⟨l0, hlr⟩ := cand_lr HC.out
            obtain ⟨jb, hjb, _⟩ := HA.out.has hb64 hlr
            omega
          · have HL6 := Lib.hid hl
            have hm64 := HM64.out
            clear hl HS6 hb64
            go_wp2_with fail
            go_loopw [13, 14] (fun v13 v14 wr => ∃ j : Nat, j ≤ m ∧ v14 = .int .i64 j ∧ ((v13 = .int .i64 (-1) ∧ ∀ i, i < j → (g i).id ≠ (b : Int)) ∨ v13 = .int .i64 q) ∧ LrAt wr qb M m g ∧ Below w.heap.size w wr) (fun _ v14 _ => m - (intOf v14).toNat)
            case atStart => exact ⟨0, by omega, rfl, Or.inl ⟨rfl, fun i hi => by omega⟩, HL6.out, B6.out⟩
            case round =>
              clear HL6 B6
              obtain ⟨j, hj, rfl, hmine, hl, hb⟩ := hrel
              have HL := Lib.hid hl; have HB := Lib.hid hb; clear hl hb
              by_cases hjm : j < m
              · have hd : decide ((j : Int) < (m : Int)) = true := by simp; omega
                have hji : (j : Int) < (m : Int) := by omega
                obtain ⟨i, hi, hx⟩ := HA.out.mem hjm
                have hid := lrOf_id hx
                obtain ⟨c0, c1, c2, c3, c4⟩ := HL.out.cells j hjm
                rw [hid] at c0
                by_cases e : i = b
                · obtain ⟨e1, e2, e3⟩ := lr_same HC.out hx (by omega)
                  rw [e1] at c1
                  rw [e3] at c3
                  rw [e2] at c4
                  have he : ((i : Int) == (b : Int)) = true := by simp [e]
                  clear e1 e2 e3 hx hid hmine
                  go_wp2_with fail
                  go_roundw
                  case rel => exact ⟨j + 1, by omega, by go_num, Or.inr rfl, HL.out, HB.out⟩
                  case measure => simp [intOf]; omega
                · have he : ((i : Int) == (b : Int)) = false := by simp; omega
                  rcases hmine with ⟨rfl, hno⟩ | rfl
                  · have HNO : Hid (∀ i, i < j + 1 → (g i).id ≠ (b : Int)) := Lib.hid (fun i' h0 => if e' : i' = j then (by rw [e', hid]; omega) else hno i' (by omega))
                    clear hno hid hx
                    go_wp2_with fail
                    go_roundw
                    case rel => exact ⟨j + 1, by omega, by go_num, Or.inl ⟨rfl, HNO.out⟩, HL.out, HB.out⟩
                    case measure => simp [intOf]; omega
                  · clear hid hx
                    go_wp2_with fail
                    go_roundw
                    case rel => exact ⟨j + 1, by omega, by go_num, Or.inr rfl, HL.out, HB.out⟩
                    case measure => simp [intOf]; omega
              · obtain rfl : j = m := by omega
                obtain ⟨l0, hlr⟩ := cand_lr HC.out
                obtain ⟨jb, hjb, ejb⟩ := HA.out.has HB64.out hlr
                rcases hmine with ⟨_, hno⟩ | rfl
                · exact absurd (by rw [ejb]) (hno jb hjb)
                · have HQ0 : Hid (0 ≤ q) := Lib.hid (by obtain ⟨l1, h1⟩ := HC.out.2.1; exact HOK.out b HB64.out _ h1)
                  clear l0 hlr jb hjb ejb
                  go_wp2_with fail
                  go_loopw [15] (fun v15 wr => ∃ k : Nat, k ≤ j ∧ v15 = .int .i64 k ∧ LrAt wr qb M j g ∧ Below w.heap.size w wr) (fun v15 _ => j - (intOf v15).toNat)
                  case atStart => exact ⟨0, by omega, rfl, HL.out, HB.out⟩
                  case round =>
                    clear HL HB
                    obtain ⟨k, hk, rfl, hl, hb⟩ := hrel
                    have HL := Lib.hid hl; have HB := Lib.hid hb; clear hl hb
                    by_cases hkj : k < j
                    · have hd : decide ((k : Int) < (j : Int)) = true := by simp; omega
                      have hji : (k : Int) < (j : Int) := by omega
                      obtain ⟨i, hi, hx⟩ := HA.out.mem hkj
                      obtain ⟨c0, c1, c2, c3, c4⟩ := HL.out.cells k hkj
                      cases hac : (g k).ac
                      · rw [hac] at c4
                        clear hx
                        go_wp2_with fail
                        go_roundw
                        case rel => exact ⟨k + 1, by omega, by go_num, HL.out, HB.out⟩
                        case measure => simp [intOf]; omega
                      · rw [hac] at c4
                        have hp := act_pr hi hx hac
                        have hq := HC.out.2.2.2
                        have hn : ¬ (g k).pr ≤ q := by omega
                        have hdn : decide ((g k).pr ≤ q) = false := by simpa using hn
                        clear hx hp hq
                        go_wp2_with fail
                        go_roundw
                        case rel => exact ⟨k + 1, by omega, by go_num, HL.out, HB.out⟩
                        case measure => simp [intOf]; omega
                    · obtain rfl : k = j := by omega
                      have hq0 := HQ0.out
                      have hqd : decide (0 ≤ q) = true := by simpa using hq0
                      go_wp2_with fail
                      go_ret
                      go_light
                      exact ⟨by first | rfl | simp [hq0], HB.out⟩
    · exact absurd hx (by omega)

set_option maxHeartbeats 4000000 in
theorem walk_VgicNests (L1 : Int) (a : Option Addr) (len cap : Nat) (w : World) (hlen : len ≤ maxLen) (hacts : Acts w a len) :
    Calls Try.prog 7 #[.int .i64 L1, .slice a len cap] w fun e w' => e = .returned (.bool true) ∧ Below w.heap.size w w' := by
  by_cases h1 : 1 ≤ L1 ∧ L1 ≤ 16
  · by_cases hx : len ≤ 100
    · exact walk_VgicNestsL L1 a len cap w hlen hacts h1 hx
    · exact walk_VgicNestsM L1 a len cap w hlen hacts h1 (by omega)
  ·
    go_enter Try.func7, Try.ntmps7
    go_wp2_with fail
    refine (vawake_any _).mono ?_
    rintro e w1 ⟨rfl, hb1⟩
    have B1 := Lib.hid hb1; clear hb1
    go_wp2_with fail
    refine (vnew_err L1 h1 _).mono ?_
    rintro e w2 ⟨rfl, rfl⟩
    go_wp2_with fail
    go_ret
    go_light
    exact ⟨rfl, B1.out⟩
end Go.Proofs.Ytnebjbjdgfaooaa
namespace Go.Proofs.Ytnebjbjdgfaooaa
open Go.Joins Go.ChangeShapes Go.WideShapes Go.ChangeAt Go.RowKit
set_option maxRecDepth 100000
theorem VgicNests_lifted (os : Os) (started : os.Started) (H : Type) (enc : TypeId × Value → H) :
    ReturnsInHanded {} Try.checked os 7 .any (Rows.vgicNestsSpec.pre6 enc Try.prog Try.f7 Rows.vgicNestsRow.domain false) (Rows.vgicNestsSpec.post enc Try.prog Try.f7 false true false false) := by
  refine returnsInHanded_of_change (C := Try.checked) own started (by kernel_rfl) Try.func7
    (ChangeSpec.witness6 (enc := enc) (C := Try.checked) false ⟨#[], #[.int .i64 0, .slice none 0 0], []⟩ 8 (by kernel_rfl) (by kernel_rfl) (by kernel_rfl) (by kernel_rfl)) ?_
  intro W base args ds gs before hval0 hW hcnd _
  have hval : ∀ (j : Nat) t v, Try.f7.params[j]? = some t → args[j]? = some v → Value.okWide Try.prog W .any base t v := hval0
  have hW' := hW
  obtain ⟨p, q, hA0, hV, rfl, hfz, hnd⟩ := hW
  have hA : DataW.TrodAll enc Try.prog W 0 (fun _ => true) true Try.f7.params.toList args.toList ds p := hA0
  rw [Try.params7] at hA hval
  obtain ⟨rfl, rfl⟩ := trodVars_none hV
  clear hA0 hval0
  obtain ⟨args⟩ := args
  obtain ⟨v0, vs0, d0, ds0, p0, q0, ha0, rfl, rfl, h0, r0⟩ := trodAll_cons hA
  simp only at ha0
  subst ha0
  obtain ⟨v1, vs1, d1, ds1, p1, q1, ha1, rfl, rfl, h1, r1⟩ := trodAll_cons r0
  subst ha1
  obtain ⟨hn, rfl, rfl⟩ := trodAll_nil r1
  subst hn
  obtain ⟨L1, rfl, _, _, wf_L1⟩ := open_int Try.underlying3 (hval 0 3 v0 rfl rfl) h0
  obtain ⟨a, len, cap, rfl, hlen, hacts⟩ := open_acts (hval 1 37 v1 rfl rfl) h1
  refine (walk_VgicNests L1 a len cap W hlen hacts).mono fun e W' ⟨he, hb⟩ => ⟨_, he, ?_⟩
  exact law_post laidOut (by kernel_rfl) (by kernel_rfl) Try.underlying4 rfl hW' rfl hb

theorem VgicNests_over : Rows.vgicNestsRow.holds Try.pinned (OpenSpec.ofChange Rows.vgicNestsSpec) :=
  OpenClaim.holds_of_wide 7 Try.f7 rfl rfl rfl rfl rfl rfl rfl ⟨rfl, rfl, rfl, rfl, rfl⟩ rfl rfl rfl rfl rfl (by kernel_rfl) Try.func7 (by kernel_rfl)
    (of_decide_eq_true (by kernel_rfl)) (by unfold Func.isWrapper; first | (rw [if_pos (by decide +kernel)]; kernel_rfl) | (rw [if_neg (by decide +kernel)]; exact ⟨rfl, rfl⟩))
    (fun os started H enc _ => VgicNests_lifted os started H enc)

theorem VgicNests_holds : Rows.VgicNestsSaid := VgicNests_over
#print axioms VgicNests_holds
end Go.Proofs.Ytnebjbjdgfaooaa
