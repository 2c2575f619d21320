/- The walk of the law VgicOnce over at most 150 acts. -/
import Derived.Test.YtnebjbjdgfaooaaVgC
import Derived.Test.YtnebjbjdgfaooaaVgO
namespace Go.Proofs.Ytnebjbjdgfaooaa
open Go.RowKit Go.Maps
set_option maxRecDepth 100000
set_option maxHeartbeats 16000000 in
theorem walk_VgicOnceL (L1 : Int) (a : Option Addr) (len cap : Nat) (w : World) (hlen : len ≤ maxLen) (hacts : Acts w a len) (h1 : 1 ≤ L1 ∧ L1 ≤ 16) (hx : len ≤ 150) :
    Calls Try.prog 6 #[.int .i64 L1, .slice a len cap] w fun e w' => e = .returned (.bool true) ∧ Below w.heap.size w w' := by
  have HA0 := Lib.hid hacts; clear hacts
  unfold maxLen at hlen
  go_enter Try.func6, Try.ntmps6
  go_wp2_with fail
  refine (vawake_any _).mono ?_
  rintro e w1 ⟨rfl, hb1⟩
  have B1 := Lib.hid hb1; clear hb1
  go_wp2_with fail
  refine (vnew_ok L1 h1.1 h1.2 _).mono ?_
  rintro e w2 ⟨v, mp, ma, rfl, hv, hz1, hz2, hz3, hb2⟩
  have B2 : Hid (Below w.heap.size w w2) := Lib.hid (B1.out.trans (hb2.mono B1.out.size))
  have HV2 := Lib.hid hv
  have HZ : Hid (w.heap.size ≤ v ∧ w.heap.size ≤ mp ∧ w.heap.size ≤ ma) := Lib.hid (by have := B1.out.size; omega)
  have hvl : v < w2.heap.size ∧ mp < w2.heap.size ∧ ma < w2.heap.size := ⟨hv.lt, hv.pe.lt, hv.ac.lt⟩
  have HNB : Hid (¬ Vb v mp ma w2.heap.size ∧ ¬ Vb v mp ma (w2.heap.size + 1) ∧ ¬ Vb v mp ma (w2.heap.size + 1 + 1)) := Lib.hid (by unfold Vb; omega)
  have HVB : Hid ((w2.heap.size ≠ v ∧ w2.heap.size ≠ mp ∧ w2.heap.size ≠ ma) ∧ (w2.heap.size + 1 ≠ v ∧ w2.heap.size + 1 ≠ mp ∧ w2.heap.size + 1 ≠ ma) ∧ (w2.heap.size + 1 + 1 ≠ v ∧ w2.heap.size + 1 + 1 ≠ mp ∧ w2.heap.size + 1 + 1 ≠ ma)) := Lib.hid (by omega)
  have hdd : w2.heap.size ≠ w2.heap.size + 1 ∧ w2.heap.size ≠ w2.heap.size + 1 + 1 ∧ w2.heap.size + 1 ≠ w2.heap.size + 1 + 1 := by omega
  have hzz : w.heap.size ≤ w2.heap.size ∧ w.heap.size ≤ w2.heap.size + 1 ∧ w.heap.size ≤ w2.heap.size + 1 + 1 := by have := B2.out.size; omega
  clear hb2 hv hz1 hz2 hz3 B1 hvl
  go_wp2_with (first | (with_reducible refine wpList_value' rfl (run_alloc29 _ _ _ _ _ _ _) ?_))
  have HR2 : Hid (RowAt (((w2.alloc (.cells pz 29)).alloc (.cells pz 29)).alloc (.cells pz 29)) w2.heap.size 29 64 (fun _ => .int .i64 0) ∧ RowAt (((w2.alloc (.cells pz 29)).alloc (.cells pz 29)).alloc (.cells pz 29)) (w2.heap.size + 1) 29 64 (fun _ => .int .i64 0) ∧ RowAt (((w2.alloc (.cells pz 29)).alloc (.cells pz 29)).alloc (.cells pz 29)) (w2.heap.size + 1 + 1) 29 64 (fun _ => .int .i64 0)) :=
    Lib.hid ⟨((prow_new w2).alloc _).alloc _, by have h := (prow_new (w2.alloc (.cells pz 29))).alloc (.cells pz 29); rw [show (w2.alloc (.cells pz 29)).heap.size = w2.heap.size + 1 by simp] at h; exact h, by have h := prow_new ((w2.alloc (.cells pz 29)).alloc (.cells pz 29)); rw [show ((w2.alloc (.cells pz 29)).alloc (.cells pz 29)).heap.size = w2.heap.size + 1 + 1 by simp] at h; exact h⟩
  have HV3 := Lib.hid (((HV2.out.alloc (.cells pz 29)).alloc (.cells pz 29)).alloc (.cells pz 29))
  have B3 : Hid (Below w.heap.size w (((w2.alloc (.cells pz 29)).alloc (.cells pz 29)).alloc (.cells pz 29))) := Lib.hid (((B2.out.alloc B2.out.size _).alloc (by simp; omega) _).alloc (by simp; omega) _)
  obtain ⟨pb, hpb⟩ : ∃ y, w2.heap.size = y := ⟨_, rfl⟩
  rw [hpb] at HNB HVB hdd hzz HR2
  obtain ⟨qb, hqb⟩ : ∃ y, pb + 1 = y := ⟨_, rfl⟩
  rw [hqb] at HNB HVB hdd hzz HR2
  obtain ⟨rb, hrb⟩ : ∃ y, qb + 1 = y := ⟨_, rfl⟩
  rw [hrb] at HNB HVB hdd hzz HR2
  simp only [hpb, hqb, hrb]
  clear hpb hqb hrb
  go_loopw [11, 12, 13] (fun v11 _ _ wr => ∃ (k : Nat) (I A E : Nat → Int) (S : Vm), k ≤ 150 ∧ k ≤ len ∧ v11 = .int .i64 k ∧ OV S k I A E ∧ (RowAt wr pb 29 64 (fun j => .int .i64 (I j)) ∧ RowAt wr qb 29 64 (fun j => .int .i64 (A j)) ∧ RowAt wr rb 29 64 (fun j => .int .i64 (E j))) ∧ VgAt wr v mp ma S ∧ Below w.heap.size w wr) (fun v11 _ _ _ => 150 - (intOf v11).toNat)
  case atStart => exact ⟨0, fun _ => 0, fun _ => 0, fun _ => 0, V0 L1, by omega, by omega, rfl, ov0 L1, HR2.out, HV3.out, B3.out⟩
  case round =>
    clear HR2 HV3 B3 HV2 B2
    obtain ⟨k, I, A, E, S, hk, hkl, rfl, hov, hr, hv, hb⟩ := hrel
    have HR := Lib.hid hr; have HV := Lib.hid hv; have HB := Lib.hid hb; clear hr hv hb
    by_cases hlt : k < len
    · by_cases hlm : k < 150
      · obtain ⟨b, off, d, l, n, on, rfl, d0, d1, d2, d3⟩ := HA0.out k hlt
        have hbl : b < w.heap.size := World.block_lt_of_cell? w _ d0
        have c0 := (HB.out.cell (p := ⟨b, off + k * 4, none⟩) hbl).trans d0
        have c1 := (HB.out.cell (p := ⟨b, off + k * 4 + 1, none⟩) hbl).trans d1
        have c2 := (HB.out.cell (p := ⟨b, off + k * 4 + 2, none⟩) hbl).trans d2
        have c3 := (HB.out.cell (p := ⟨b, off + k * 4 + 3, none⟩) hbl).trans d3
        have HBD : Hid (∀ i, i < 64 → 0 ≤ I i ∧ I i ≤ k ∧ 0 ≤ A i ∧ A i ≤ k ∧ 0 ≤ E i ∧ E i ≤ k) := Lib.hid hov.bd
        have ho0 := hov.does d l n on
        clear hov
        go_wp2_with fail
        clear c0 c1 c2 c3
        rcases ho0 with ⟨rfl, i, hi, rfl, hres, ho⟩ | ⟨rfl, hres, ho⟩ | ⟨rfl, i, hi, hres, ho⟩ | ⟨rfl, hres, ho⟩ | ⟨rfl, i, hi, rfl, hres, ho⟩ | ⟨rfl, hres, ho⟩ | ⟨hn1, hn4, hn5, ho⟩
        · refine (does_any v mp ma S 1 i n on _ HV.out).mono ?_
          rintro e w4 ⟨rfl, hv4, hu4⟩
          obtain ⟨N1, hN1⟩ : ∃ x, (doesV S 1 i n on).2.1 = x := ⟨_, rfl⟩
          obtain ⟨F1, hF1⟩ : ∃ x, (doesV S 1 i n on).2.2.1 = x := ⟨_, rfl⟩
          obtain ⟨E1, hE1⟩ : ∃ x, (doesV S 1 i n on).2.2.2 = x := ⟨_, rfl⟩
          obtain ⟨S1, hS1⟩ : ∃ x, (doesV S 1 i n on).1 = x := ⟨_, rfl⟩
          rw [hN1, hF1, hE1]
          rw [hS1] at hv4 ho
          rw [hE1] at hres; subst hres
          have HO := Lib.hid ho
          have HV4 := Lib.hid hv4
          have HR4 : Hid (RowAt w4 pb 29 64 (fun j => .int .i64 (I j)) ∧ RowAt w4 qb 29 64 (fun j => .int .i64 (A j)) ∧ RowAt w4 rb 29 64 (fun j => .int .i64 (E j))) := Lib.hid ⟨HR.out.1.kept hu4 HNB.out.1, HR.out.2.1.kept hu4 HNB.out.2.1, HR.out.2.2.kept hu4 HNB.out.2.2⟩
          have B4 := Lib.hid (upd_below HB.out hu4 HZ.out)
          have c0 := (B4.out.cell (p := ⟨b, off + k * 4, none⟩) hbl).trans d0
          have c1 := (B4.out.cell (p := ⟨b, off + k * 4 + 1, none⟩) hbl).trans d1
          have hb4 : b < w4.heap.size := by have := B4.out.size; omega
          clear hv4 hu4 hS1 hN1 hF1 hE1 d0 d1 d2 d3 HV HB HR ho
          have hbp : pb < w4.heap.size := HR4.out.1.lt
          have hnb : ¬ pb = w4.heap.size := by omega
          have hi64 : (i : Int) < 64 := by omega
          have x0 := HR4.out.1.cell i hi
          have xf := HR4.out.1.frozen
          have hbd := HBD.out i hi
          obtain ⟨z, hz⟩ : ∃ z, I i = z := ⟨_, rfl⟩
          rw [hz] at x0 hbd HO
          
          go_wp2_with fail
          go_roundw
          case rel => exact ⟨k + 1, (setP I i (z + 1)), A, E, S1, by omega, by omega, by go_num, HO.out, ⟨(prow_set HR4.out.1 i (z + 1)).alloc _, (RowAt.other (p := ⟨pb, i, none⟩) HR4.out.2.1 hdd.1 _).alloc _, (RowAt.other (p := ⟨pb, i, none⟩) HR4.out.2.2 hdd.2.1 _).alloc _⟩, (VgAt.other (p := ⟨pb, i, none⟩) HV4.out HVB.out.1.1 HVB.out.1.2.1 HVB.out.1.2.2 _).alloc _, (Below.setCell (p := ⟨pb, i, none⟩) B4.out hzz.1 _).alloc (by have := B4.out.size; simpa [World.setCell] using this) _⟩
          case measure => simp [intOf]; omega
        · refine (does_any v mp ma S 1 l n on _ HV.out).mono ?_
          rintro e w4 ⟨rfl, hv4, hu4⟩
          obtain ⟨N1, hN1⟩ : ∃ x, (doesV S 1 l n on).2.1 = x := ⟨_, rfl⟩
          obtain ⟨F1, hF1⟩ : ∃ x, (doesV S 1 l n on).2.2.1 = x := ⟨_, rfl⟩
          obtain ⟨E1, hE1⟩ : ∃ x, (doesV S 1 l n on).2.2.2 = x := ⟨_, rfl⟩
          obtain ⟨S1, hS1⟩ : ∃ x, (doesV S 1 l n on).1 = x := ⟨_, rfl⟩
          rw [hN1, hF1, hE1]
          rw [hS1] at hv4 ho
          rw [hE1] at hres; have de : (E1 == 0) = false := by simpa using hres
          have HO := Lib.hid ho
          have HV4 := Lib.hid hv4
          have HR4 : Hid (RowAt w4 pb 29 64 (fun j => .int .i64 (I j)) ∧ RowAt w4 qb 29 64 (fun j => .int .i64 (A j)) ∧ RowAt w4 rb 29 64 (fun j => .int .i64 (E j))) := Lib.hid ⟨HR.out.1.kept hu4 HNB.out.1, HR.out.2.1.kept hu4 HNB.out.2.1, HR.out.2.2.kept hu4 HNB.out.2.2⟩
          have B4 := Lib.hid (upd_below HB.out hu4 HZ.out)
          have c0 := (B4.out.cell (p := ⟨b, off + k * 4, none⟩) hbl).trans d0
          have c1 := (B4.out.cell (p := ⟨b, off + k * 4 + 1, none⟩) hbl).trans d1
          have hb4 : b < w4.heap.size := by have := B4.out.size; omega
          clear hv4 hu4 hS1 hN1 hF1 hE1 d0 d1 d2 d3 HV HB HR ho
          
          go_wp2_with fail
          go_roundw
          case rel => exact ⟨k + 1, I, A, E, S1, by omega, by omega, by go_num, HO.out, ⟨HR4.out.1.alloc _, HR4.out.2.1.alloc _, HR4.out.2.2.alloc _⟩, HV4.out.alloc _, B4.out.alloc B4.out.size _⟩
          case measure => simp [intOf]; omega
        · refine (does_any v mp ma S 4 l n on _ HV.out).mono ?_
          rintro e w4 ⟨rfl, hv4, hu4⟩
          obtain ⟨N1, hN1⟩ : ∃ x, (doesV S 4 l n on).2.1 = x := ⟨_, rfl⟩
          obtain ⟨F1, hF1⟩ : ∃ x, (doesV S 4 l n on).2.2.1 = x := ⟨_, rfl⟩
          obtain ⟨E1, hE1⟩ : ∃ x, (doesV S 4 l n on).2.2.2 = x := ⟨_, rfl⟩
          obtain ⟨S1, hS1⟩ : ∃ x, (doesV S 4 l n on).1 = x := ⟨_, rfl⟩
          rw [hN1, hF1, hE1]
          rw [hS1] at hv4 ho
          rw [hN1] at hres; subst hres
          have HO := Lib.hid ho
          have HV4 := Lib.hid hv4
          have HR4 : Hid (RowAt w4 pb 29 64 (fun j => .int .i64 (I j)) ∧ RowAt w4 qb 29 64 (fun j => .int .i64 (A j)) ∧ RowAt w4 rb 29 64 (fun j => .int .i64 (E j))) := Lib.hid ⟨HR.out.1.kept hu4 HNB.out.1, HR.out.2.1.kept hu4 HNB.out.2.1, HR.out.2.2.kept hu4 HNB.out.2.2⟩
          have B4 := Lib.hid (upd_below HB.out hu4 HZ.out)
          have c0 := (B4.out.cell (p := ⟨b, off + k * 4, none⟩) hbl).trans d0
          have c1 := (B4.out.cell (p := ⟨b, off + k * 4 + 1, none⟩) hbl).trans d1
          have hb4 : b < w4.heap.size := by have := B4.out.size; omega
          clear hv4 hu4 hS1 hN1 hF1 hE1 d0 d1 d2 d3 HV HB HR ho
          have hbp : qb < w4.heap.size := HR4.out.2.1.lt
          have hnb : ¬ qb = w4.heap.size := by omega
          have hi64 : (i : Int) < 64 := by omega
          have x0 := HR4.out.2.1.cell i hi
          have xf := HR4.out.2.1.frozen
          have hbd := HBD.out i hi
          obtain ⟨z, hz⟩ : ∃ z, A i = z := ⟨_, rfl⟩
          rw [hz] at x0 hbd HO
          have di0 : decide ((i : Int) < 0) = false := by simp
          have di63 : decide ((i : Int) > 63) = false := by simp; omega
          have di63' : decide (63 < (i : Int)) = false := by simp; omega
          have di63n : decide (63 < i) = false := by simp; omega
          have diS : ((i : Int) == 1023) = false := by simp; omega
          have hn63 : ¬ 63 < (i : Int) := by omega
          have hn63n : ¬ 63 < i := by omega
          have hn0 : ¬ (i : Int) < 0 := by omega
          go_wp2_with fail
          go_roundw
          case rel => exact ⟨k + 1, I, (setP A i (z + 1)), E, S1, by omega, by omega, by go_num, HO.out, ⟨(RowAt.other (p := ⟨qb, i, none⟩) HR4.out.1 hdd.1.symm _).alloc _, (prow_set HR4.out.2.1 i (z + 1)).alloc _, (RowAt.other (p := ⟨qb, i, none⟩) HR4.out.2.2 hdd.2.2 _).alloc _⟩, (VgAt.other (p := ⟨qb, i, none⟩) HV4.out HVB.out.2.1.1 HVB.out.2.1.2.1 HVB.out.2.1.2.2 _).alloc _, (Below.setCell (p := ⟨qb, i, none⟩) B4.out hzz.2.1 _).alloc (by have := B4.out.size; simpa [World.setCell] using this) _⟩
          case measure => simp [intOf]; omega
        · refine (does_any v mp ma S 4 l n on _ HV.out).mono ?_
          rintro e w4 ⟨rfl, hv4, hu4⟩
          obtain ⟨N1, hN1⟩ : ∃ x, (doesV S 4 l n on).2.1 = x := ⟨_, rfl⟩
          obtain ⟨F1, hF1⟩ : ∃ x, (doesV S 4 l n on).2.2.1 = x := ⟨_, rfl⟩
          obtain ⟨E1, hE1⟩ : ∃ x, (doesV S 4 l n on).2.2.2 = x := ⟨_, rfl⟩
          obtain ⟨S1, hS1⟩ : ∃ x, (doesV S 4 l n on).1 = x := ⟨_, rfl⟩
          rw [hN1, hF1, hE1]
          rw [hS1] at hv4 ho
          rw [hN1] at hres; subst hres
          have HO := Lib.hid ho
          have HV4 := Lib.hid hv4
          have HR4 : Hid (RowAt w4 pb 29 64 (fun j => .int .i64 (I j)) ∧ RowAt w4 qb 29 64 (fun j => .int .i64 (A j)) ∧ RowAt w4 rb 29 64 (fun j => .int .i64 (E j))) := Lib.hid ⟨HR.out.1.kept hu4 HNB.out.1, HR.out.2.1.kept hu4 HNB.out.2.1, HR.out.2.2.kept hu4 HNB.out.2.2⟩
          have B4 := Lib.hid (upd_below HB.out hu4 HZ.out)
          have c0 := (B4.out.cell (p := ⟨b, off + k * 4, none⟩) hbl).trans d0
          have c1 := (B4.out.cell (p := ⟨b, off + k * 4 + 1, none⟩) hbl).trans d1
          have hb4 : b < w4.heap.size := by have := B4.out.size; omega
          clear hv4 hu4 hS1 hN1 hF1 hE1 d0 d1 d2 d3 HV HB HR ho
          
          go_wp2_with fail
          go_roundw
          case rel => exact ⟨k + 1, I, A, E, S1, by omega, by omega, by go_num, HO.out, ⟨HR4.out.1.alloc _, HR4.out.2.1.alloc _, HR4.out.2.2.alloc _⟩, HV4.out.alloc _, B4.out.alloc B4.out.size _⟩
          case measure => simp [intOf]; omega
        · refine (does_any v mp ma S 5 i n on _ HV.out).mono ?_
          rintro e w4 ⟨rfl, hv4, hu4⟩
          obtain ⟨N1, hN1⟩ : ∃ x, (doesV S 5 i n on).2.1 = x := ⟨_, rfl⟩
          obtain ⟨F1, hF1⟩ : ∃ x, (doesV S 5 i n on).2.2.1 = x := ⟨_, rfl⟩
          obtain ⟨E1, hE1⟩ : ∃ x, (doesV S 5 i n on).2.2.2 = x := ⟨_, rfl⟩
          obtain ⟨S1, hS1⟩ : ∃ x, (doesV S 5 i n on).1 = x := ⟨_, rfl⟩
          rw [hN1, hF1, hE1]
          rw [hS1] at hv4 ho
          rw [hE1] at hres; subst hres
          have HO := Lib.hid ho
          have HV4 := Lib.hid hv4
          have HR4 : Hid (RowAt w4 pb 29 64 (fun j => .int .i64 (I j)) ∧ RowAt w4 qb 29 64 (fun j => .int .i64 (A j)) ∧ RowAt w4 rb 29 64 (fun j => .int .i64 (E j))) := Lib.hid ⟨HR.out.1.kept hu4 HNB.out.1, HR.out.2.1.kept hu4 HNB.out.2.1, HR.out.2.2.kept hu4 HNB.out.2.2⟩
          have B4 := Lib.hid (upd_below HB.out hu4 HZ.out)
          have c0 := (B4.out.cell (p := ⟨b, off + k * 4, none⟩) hbl).trans d0
          have c1 := (B4.out.cell (p := ⟨b, off + k * 4 + 1, none⟩) hbl).trans d1
          have hb4 : b < w4.heap.size := by have := B4.out.size; omega
          clear hv4 hu4 hS1 hN1 hF1 hE1 d0 d1 d2 d3 HV HB HR ho
          have hbp : rb < w4.heap.size := HR4.out.2.2.lt
          have hnb : ¬ rb = w4.heap.size := by omega
          have hi64 : (i : Int) < 64 := by omega
          have x0 := HR4.out.2.2.cell i hi
          have xf := HR4.out.2.2.frozen
          have hbd := HBD.out i hi
          obtain ⟨z, hz⟩ : ∃ z, E i = z := ⟨_, rfl⟩
          rw [hz] at x0 hbd HO
          
          go_wp2_with fail
          go_roundw
          case rel => exact ⟨k + 1, I, A, (setP E i (z + 1)), S1, by omega, by omega, by go_num, HO.out, ⟨(RowAt.other (p := ⟨rb, i, none⟩) HR4.out.1 hdd.2.1.symm _).alloc _, (RowAt.other (p := ⟨rb, i, none⟩) HR4.out.2.1 hdd.2.2.symm _).alloc _, (prow_set HR4.out.2.2 i (z + 1)).alloc _⟩, (VgAt.other (p := ⟨rb, i, none⟩) HV4.out HVB.out.2.2.1 HVB.out.2.2.2.1 HVB.out.2.2.2.2 _).alloc _, (Below.setCell (p := ⟨rb, i, none⟩) B4.out hzz.2.2 _).alloc (by have := B4.out.size; simpa [World.setCell] using this) _⟩
          case measure => simp [intOf]; omega
        · refine (does_any v mp ma S 5 l n on _ HV.out).mono ?_
          rintro e w4 ⟨rfl, hv4, hu4⟩
          obtain ⟨N1, hN1⟩ : ∃ x, (doesV S 5 l n on).2.1 = x := ⟨_, rfl⟩
          obtain ⟨F1, hF1⟩ : ∃ x, (doesV S 5 l n on).2.2.1 = x := ⟨_, rfl⟩
          obtain ⟨E1, hE1⟩ : ∃ x, (doesV S 5 l n on).2.2.2 = x := ⟨_, rfl⟩
          obtain ⟨S1, hS1⟩ : ∃ x, (doesV S 5 l n on).1 = x := ⟨_, rfl⟩
          rw [hN1, hF1, hE1]
          rw [hS1] at hv4 ho
          rw [hE1] at hres; have de : (E1 == 0) = false := by simpa using hres
          have HO := Lib.hid ho
          have HV4 := Lib.hid hv4
          have HR4 : Hid (RowAt w4 pb 29 64 (fun j => .int .i64 (I j)) ∧ RowAt w4 qb 29 64 (fun j => .int .i64 (A j)) ∧ RowAt w4 rb 29 64 (fun j => .int .i64 (E j))) := Lib.hid ⟨HR.out.1.kept hu4 HNB.out.1, HR.out.2.1.kept hu4 HNB.out.2.1, HR.out.2.2.kept hu4 HNB.out.2.2⟩
          have B4 := Lib.hid (upd_below HB.out hu4 HZ.out)
          have c0 := (B4.out.cell (p := ⟨b, off + k * 4, none⟩) hbl).trans d0
          have c1 := (B4.out.cell (p := ⟨b, off + k * 4 + 1, none⟩) hbl).trans d1
          have hb4 : b < w4.heap.size := by have := B4.out.size; omega
          clear hv4 hu4 hS1 hN1 hF1 hE1 d0 d1 d2 d3 HV HB HR ho
          
          go_wp2_with fail
          go_roundw
          case rel => exact ⟨k + 1, I, A, E, S1, by omega, by omega, by go_num, HO.out, ⟨HR4.out.1.alloc _, HR4.out.2.1.alloc _, HR4.out.2.2.alloc _⟩, HV4.out.alloc _, B4.out.alloc B4.out.size _⟩
          case measure => simp [intOf]; omega
        · refine (does_any v mp ma S d l n on _ HV.out).mono ?_
          rintro e w4 ⟨rfl, hv4, hu4⟩
          obtain ⟨N1, hN1⟩ : ∃ x, (doesV S d l n on).2.1 = x := ⟨_, rfl⟩
          obtain ⟨F1, hF1⟩ : ∃ x, (doesV S d l n on).2.2.1 = x := ⟨_, rfl⟩
          obtain ⟨E1, hE1⟩ : ∃ x, (doesV S d l n on).2.2.2 = x := ⟨_, rfl⟩
          obtain ⟨S1, hS1⟩ : ∃ x, (doesV S d l n on).1 = x := ⟨_, rfl⟩
          rw [hN1, hF1, hE1]
          rw [hS1] at hv4 ho
          have dn1 : (d == 1) = false := by simpa using hn1
          have dn4 : (d == 4) = false := by simpa using hn4
          have dn5 : (d == 5) = false := by simpa using hn5
          have HO := Lib.hid ho
          have HV4 := Lib.hid hv4
          have HR4 : Hid (RowAt w4 pb 29 64 (fun j => .int .i64 (I j)) ∧ RowAt w4 qb 29 64 (fun j => .int .i64 (A j)) ∧ RowAt w4 rb 29 64 (fun j => .int .i64 (E j))) := Lib.hid ⟨HR.out.1.kept hu4 HNB.out.1, HR.out.2.1.kept hu4 HNB.out.2.1, HR.out.2.2.kept hu4 HNB.out.2.2⟩
          have B4 := Lib.hid (upd_below HB.out hu4 HZ.out)
          have c0 := (B4.out.cell (p := ⟨b, off + k * 4, none⟩) hbl).trans d0
          have c1 := (B4.out.cell (p := ⟨b, off + k * 4 + 1, none⟩) hbl).trans d1
          have hb4 : b < w4.heap.size := by have := B4.out.size; omega
          clear hv4 hu4 hS1 hN1 hF1 hE1 d0 d1 d2 d3 HV HB HR ho
          
          go_wp2_with fail
          go_roundw
          case rel => exact ⟨k + 1, I, A, E, S1, by omega, by omega, by go_num, HO.out, ⟨HR4.out.1.alloc _, HR4.out.2.1.alloc _, HR4.out.2.2.alloc _⟩, HV4.out.alloc _, B4.out.alloc B4.out.size _⟩
          case measure => simp [intOf]; omega
      · exact absurd hx (by omega)
    · go_wp2_with fail
      have HOV := Lib.hid hov; clear hov HA0
      go_wp2_with (first | (with_reducible refine wpList_value' rfl (run_alloc29 _ _ _ _ _ _ _) ?_))
      have hvl : v < wr.heap.size ∧ mp < wr.heap.size ∧ ma < wr.heap.size := ⟨HV.out.lt, HV.out.pe.lt, HV.out.ac.lt⟩
      have hrl : pb < wr.heap.size ∧ qb < wr.heap.size ∧ rb < wr.heap.size := ⟨HR.out.1.lt, HR.out.2.1.lt, HR.out.2.2.lt⟩
      have hzz2 : w.heap.size ≤ wr.heap.size ∧ w.heap.size ≤ wr.heap.size + 1 := by have := HB.out.size; omega
      have hpa : wr.heap.size ≠ wr.heap.size + 1 := by omega
      have hpr : wr.heap.size ≠ pb ∧ wr.heap.size ≠ qb ∧ wr.heap.size ≠ rb := by omega
      have har : wr.heap.size + 1 ≠ pb ∧ wr.heap.size + 1 ≠ qb ∧ wr.heap.size + 1 ≠ rb := by omega
      have hge : wr.heap.size + 1 + 1 ≤ ((wr.alloc (.cells pz 29)).alloc (.cells pz 29)).heap.size := by simp
      have HP4 : Hid (RowAt ((wr.alloc (.cells pz 29)).alloc (.cells pz 29)) wr.heap.size 29 64 (fun _ => .int .i64 0) ∧ RowAt ((wr.alloc (.cells pz 29)).alloc (.cells pz 29)) (wr.heap.size + 1) 29 64 (fun _ => .int .i64 0)) :=
        Lib.hid ⟨(prow_new wr).alloc _, by have h := prow_new (wr.alloc (.cells pz 29)); rw [show (wr.alloc (.cells pz 29)).heap.size = wr.heap.size + 1 by simp] at h; exact h⟩
      have HR4 : Hid (RowAt ((wr.alloc (.cells pz 29)).alloc (.cells pz 29)) pb 29 64 (fun j => .int .i64 (I j)) ∧ RowAt ((wr.alloc (.cells pz 29)).alloc (.cells pz 29)) qb 29 64 (fun j => .int .i64 (A j)) ∧ RowAt ((wr.alloc (.cells pz 29)).alloc (.cells pz 29)) rb 29 64 (fun j => .int .i64 (E j))) := Lib.hid ⟨(HR.out.1.alloc _).alloc _, (HR.out.2.1.alloc _).alloc _, (HR.out.2.2.alloc _).alloc _⟩
      have B4 : Hid (Below w.heap.size w ((wr.alloc (.cells pz 29)).alloc (.cells pz 29))) := Lib.hid ((HB.out.alloc HB.out.size _).alloc (by have := HB.out.size; simp; omega) _)
      refine (all_any v mp ma S ((wr.alloc (.cells pz 29)).alloc (.cells pz 29)) ((HV.out.alloc _).alloc _)).mono ?_
      generalize (wr.alloc (.cells pz 29)).alloc (.cells pz 29) = wq at HP4 HR4 B4 hge ⊢
      obtain ⟨pp, hpp⟩ : ∃ y, wr.heap.size = y := ⟨_, rfl⟩
      rw [hpp] at hzz2 hpa hpr har hge HP4
      obtain ⟨aa, haa⟩ : ∃ y, pp + 1 = y := ⟨_, rfl⟩
      rw [haa] at hzz2 hpa har hge HP4
      simp only [hpp, haa]
      clear hvl hrl HR HB HV
      rintro e w5 ⟨⟨sl, m, g, rfl, hall, hsl⟩, hb5⟩
      have HA := Lib.hid hall
      have hm64 : m ≤ 64 := by rw [hall.1]; exact preL_len _ _ _
      have HP5 : Hid (RowAt w5 pp 29 64 (fun _ => .int .i64 0) ∧ RowAt w5 aa 29 64 (fun _ => .int .i64 0)) := Lib.hid ⟨HP4.out.1.kept (S := fun _ => False) (Upd.of_below hb5) (fun h => h), HP4.out.2.kept (S := fun _ => False) (Upd.of_below hb5) (fun h => h)⟩
      have HR5 : Hid (RowAt w5 pb 29 64 (fun j => .int .i64 (I j)) ∧ RowAt w5 qb 29 64 (fun j => .int .i64 (A j)) ∧ RowAt w5 rb 29 64 (fun j => .int .i64 (E j))) := Lib.hid ⟨HR4.out.1.kept (S := fun _ => False) (Upd.of_below hb5) (fun h => h), HR4.out.2.1.kept (S := fun _ => False) (Upd.of_below hb5) (fun h => h), HR4.out.2.2.kept (S := fun _ => False) (Upd.of_below hb5) (fun h => h)⟩
      have B5 : Hid (Below w.heap.size w w5) := Lib.hid (B4.out.trans (hb5.mono B4.out.size))
      clear hall hb5 HP4 HR4 B4 hpp
      rcases hsl with ⟨rfl, rfl⟩ | ⟨lb, cap', M, rfl, hmc, hlb, hl⟩
      · go_wp2_with fail
        go_loopw [17] (fun v17 wr => v17 = .int .i64 0 ∧ (RowAt wr pb 29 64 (fun j => .int .i64 (I j)) ∧ RowAt wr qb 29 64 (fun j => .int .i64 (A j)) ∧ RowAt wr rb 29 64 (fun j => .int .i64 (E j))) ∧ (RowAt wr pp 29 64 (fun j => .int .i64 0) ∧ RowAt wr aa 29 64 (fun j => .int .i64 0)) ∧ Below w.heap.size w wr) (fun v17 _ => 0)
        case atStart => exact ⟨rfl, HR5.out, HP5.out, B5.out⟩
        case round =>
          clear HR5 HP5 B5
          obtain ⟨rfl, hr, hp, hb⟩ := hrel
          have HR := Lib.hid hr; have HP := Lib.hid hp; have HB := Lib.hid hb; clear hr hp hb
          obtain ⟨P, hP⟩ : ∃ P : Nat → Int, P = fun _ => 0 := ⟨_, rfl⟩
          obtain ⟨Q, hQ⟩ : ∃ P : Nat → Int, P = fun _ => 0 := ⟨_, rfl⟩
          have HPE : Hid (∀ i, i < 64 → P i = b01 (S.pe i)) := Lib.hid (fun i hi => by rw [hP]; exact marks_pe HA.out (marks0 _ _) hi)
          have HPA : Hid (∀ i, i < 64 → Q i = b01 (S.ac i)) := Lib.hid (fun i hi => by rw [hQ]; exact marks_ac HA.out (marks0 _ _) hi)
          have HP : Hid (RowAt wr pp 29 64 (fun j => .int .i64 (P j)) ∧ RowAt wr aa 29 64 (fun j => .int .i64 (Q j))) := Lib.hid (by rw [hP, hQ]; exact HP.out)
          clear HA hP hQ
          go_wp2_with fail
          go_loopw [18] (fun v18 wr => ∃ i : Nat, i ≤ 64 ∧ v18 = .int .i64 i ∧ (RowAt wr pb 29 64 (fun j => .int .i64 (I j)) ∧ RowAt wr qb 29 64 (fun j => .int .i64 (A j)) ∧ RowAt wr rb 29 64 (fun j => .int .i64 (E j))) ∧ (RowAt wr pp 29 64 (fun j => .int .i64 (P j)) ∧ RowAt wr aa 29 64 (fun j => .int .i64 (Q j))) ∧ Below w.heap.size w wr) (fun v18 _ => 64 - (intOf v18).toNat)
          case atStart => exact ⟨0, by omega, rfl, HR.out, HP.out, HB.out⟩
          case round =>
            clear HR HP HB
            obtain ⟨i, hi, rfl, hr, hp, hb⟩ := hrel
            have HR := Lib.hid hr; have HP := Lib.hid hp; have HB := Lib.hid hb; clear hr hp hb
            by_cases hi64 : i < 64
            · have e1 := HOV.out.i1 i hi64
              have e2 := HOV.out.i2 i hi64
              have hbd := HOV.out.bd i hi64
              have b4' : 0 ≤ P i ∧ P i ≤ 1 := by rw [HPE.out i hi64]; unfold b01; split <;> omega
              have b5' : 0 ≤ Q i ∧ Q i ≤ 1 := by rw [HPA.out i hi64]; unfold b01; split <;> omega
              rw [← HPE.out i hi64] at e1
              rw [← HPA.out i hi64] at e2
              have x1 := HR.out.1.cell i hi64
              have x2 := HR.out.2.1.cell i hi64
              have x3 := HR.out.2.2.cell i hi64
              have y1 := HP.out.1.cell i hi64
              have y2 := HP.out.2.cell i hi64
              obtain ⟨z1, hz1⟩ : ∃ z, I i = z := ⟨_, rfl⟩
              obtain ⟨z2, hz2⟩ : ∃ z, A i = z := ⟨_, rfl⟩
              obtain ⟨z3, hz3⟩ : ∃ z, E i = z := ⟨_, rfl⟩
              obtain ⟨z4, hz4⟩ : ∃ z, P i = z := ⟨_, rfl⟩
              obtain ⟨z5, hz5⟩ : ∃ z, Q i = z := ⟨_, rfl⟩
              rw [hz1] at e1 x1 hbd
              rw [hz2] at e1 e2 x2 hbd
              rw [hz3] at e2 x3 hbd
              rw [hz4] at e1 y1 b4'
              rw [hz5] at e2 y2 b5'
              clear hz1 hz2 hz3 hz4 hz5
              have q1 : (z1 != z2 + z4) = false := by simpa using e1
              have q2 : (z2 != z3 + z5) = false := by simpa using e2
              have b4 : 0 ≤ z4 ∧ z4 ≤ 150 := by omega
              have b5 : 0 ≤ z5 ∧ z5 ≤ 150 := by omega
              have hi64' : (i : Int) < 64 := by omega
              have E1 := Lib.hid e1
              have E2 := Lib.hid e2
              clear e1 e2
              go_wp2_with fail
              go_big_quiet (fail)
              go_wp2_with fail
              go_roundw
              case rel => exact ⟨i + 1, by omega, by go_num, HR.out, HP.out, below_drewN HB.out _⟩
              case measure => simp [intOf]; omega
            · obtain rfl : i = 64 := by omega
              go_wp2_with fail
              go_ret
              go_light
              exact ⟨rfl, HB.out⟩
      · have HL5 := Lib.hid hl
        have hpq : pp ≠ lb := by omega
        have haq : aa ≠ lb := by omega
        clear hl hlb hge haa
        go_wp2_with fail
        go_loopw [17] (fun v17 wr => ∃ (j : Nat) (P Q : Nat → Int), j ≤ m ∧ v17 = .int .i64 j ∧ (Marks g (fun x => x.pe) j P ∧ Marks g (fun x => x.ac) j Q) ∧ (RowAt wr pb 29 64 (fun j => .int .i64 (I j)) ∧ RowAt wr qb 29 64 (fun j => .int .i64 (A j)) ∧ RowAt wr rb 29 64 (fun j => .int .i64 (E j))) ∧ (RowAt wr pp 29 64 (fun j => .int .i64 (P j)) ∧ RowAt wr aa 29 64 (fun j => .int .i64 (Q j))) ∧ LrAt wr lb M m g ∧ Below w.heap.size w wr) (fun v17 _ => m - (intOf v17).toNat)
        case atStart => exact ⟨0, fun _ => 0, fun _ => 0, by omega, rfl, ⟨marks0 _ _, marks0 _ _⟩, HR5.out, HP5.out, HL5.out, B5.out⟩
        case round =>
          clear HR5 HP5 HL5 B5
          obtain ⟨j, P, Q, hj, rfl, hmk, hr, hp, hl, hb⟩ := hrel
          have HMK := Lib.hid hmk; have HR := Lib.hid hr; have HP := Lib.hid hp; have HL := Lib.hid hl; have HB := Lib.hid hb; clear hmk hr hp hl hb
          by_cases hjm : j < m
          · have hd : decide ((j : Int) < (m : Int)) = true := by simp; omega
            have hji : (j : Int) < (m : Int) := by omega
            obtain ⟨i, hi, hx⟩ := HA.out.mem hjm
            have hid := lrOf_id hx
            obtain ⟨c0, c1, c2, c3, c4⟩ := HL.out.cells j hjm
            rw [hid] at c0
            have HID := Lib.hid hid
            have hi64 : (i : Int) < 64 := by omega
            have pf1 := HP.out.1.frozen
            have pf2 := HP.out.2.frozen
            have px1 := HP.out.1.cell i hi
            have px2 := HP.out.2.cell i hi
            clear hx hid
            cases epe : (g j).pe
            · rw [epe] at c3
              cases eac : (g j).ac
              · rw [eac] at c4
                go_wp2_with fail
                go_roundw
                case rel => exact ⟨j + 1, P, Q, by omega, by go_num, ⟨HMK.out.1.skip epe, HMK.out.2.skip eac⟩, ⟨HR.out.1, HR.out.2.1, HR.out.2.2⟩, ⟨HP.out.1, HP.out.2⟩, HL.out, HB.out⟩
                case measure => simp [intOf]; omega
              · rw [eac] at c4
                go_wp2_with fail
                go_roundw
                case rel => exact ⟨j + 1, P, (setP Q i 1), by omega, by go_num, ⟨HMK.out.1.skip epe, HMK.out.2.set HID.out eac⟩, ⟨RowAt.other (p := ⟨aa, i, none⟩) (HR.out.1) har.1 _, RowAt.other (p := ⟨aa, i, none⟩) (HR.out.2.1) har.2.1 _, RowAt.other (p := ⟨aa, i, none⟩) (HR.out.2.2) har.2.2 _⟩, ⟨RowAt.other (p := ⟨aa, i, none⟩) (HP.out.1) hpa.symm _, prow_set (HP.out.2) i 1⟩, LrAt.other (p := ⟨aa, i, none⟩) (HL.out) haq _, Below.setCell (p := ⟨aa, i, none⟩) (HB.out) hzz2.2 _⟩
                case measure => simp [intOf]; omega
            · rw [epe] at c3
              cases eac : (g j).ac
              · rw [eac] at c4
                go_wp2_with fail
                go_roundw
                case rel => exact ⟨j + 1, (setP P i 1), Q, by omega, by go_num, ⟨HMK.out.1.set HID.out epe, HMK.out.2.skip eac⟩, ⟨RowAt.other (p := ⟨pp, i, none⟩) (HR.out.1) hpr.1 _, RowAt.other (p := ⟨pp, i, none⟩) (HR.out.2.1) hpr.2.1 _, RowAt.other (p := ⟨pp, i, none⟩) (HR.out.2.2) hpr.2.2 _⟩, ⟨prow_set (HP.out.1) i 1, RowAt.other (p := ⟨pp, i, none⟩) (HP.out.2) hpa _⟩, LrAt.other (p := ⟨pp, i, none⟩) (HL.out) hpq _, Below.setCell (p := ⟨pp, i, none⟩) (HB.out) hzz2.1 _⟩
                case measure => simp [intOf]; omega
              · rw [eac] at c4
                go_wp2_with fail
                go_roundw
                case rel => exact ⟨j + 1, (setP P i 1), (setP Q i 1), by omega, by go_num, ⟨HMK.out.1.set HID.out epe, HMK.out.2.set HID.out eac⟩, ⟨RowAt.other (p := ⟨aa, i, none⟩) (RowAt.other (p := ⟨pp, i, none⟩) (HR.out.1) hpr.1 _) har.1 _, RowAt.other (p := ⟨aa, i, none⟩) (RowAt.other (p := ⟨pp, i, none⟩) (HR.out.2.1) hpr.2.1 _) har.2.1 _, RowAt.other (p := ⟨aa, i, none⟩) (RowAt.other (p := ⟨pp, i, none⟩) (HR.out.2.2) hpr.2.2 _) har.2.2 _⟩, ⟨RowAt.other (p := ⟨aa, i, none⟩) (prow_set (HP.out.1) i 1) hpa.symm _, prow_set (RowAt.other (p := ⟨pp, i, none⟩) (HP.out.2) hpa _) i 1⟩, LrAt.other (p := ⟨aa, i, none⟩) (LrAt.other (p := ⟨pp, i, none⟩) (HL.out) hpq _) haq _, Below.setCell (p := ⟨aa, i, none⟩) (Below.setCell (p := ⟨pp, i, none⟩) (HB.out) hzz2.1 _) hzz2.2 _⟩
                case measure => simp [intOf]; omega
          · obtain rfl : j = m := by omega
            have HPE : Hid (∀ i, i < 64 → P i = b01 (S.pe i)) := Lib.hid (fun i hi => marks_pe HA.out HMK.out.1 hi)
            have HPA : Hid (∀ i, i < 64 → Q i = b01 (S.ac i)) := Lib.hid (fun i hi => marks_ac HA.out HMK.out.2 hi)
            have hd : decide ((j : Int) < (j : Int)) = false := by simp
            clear HMK HL HA
            go_wp2_with fail
            go_loopw [18] (fun v18 wr => ∃ i : Nat, i ≤ 64 ∧ v18 = .int .i64 i ∧ (RowAt wr pb 29 64 (fun j => .int .i64 (I j)) ∧ RowAt wr qb 29 64 (fun j => .int .i64 (A j)) ∧ RowAt wr rb 29 64 (fun j => .int .i64 (E j))) ∧ (RowAt wr pp 29 64 (fun j => .int .i64 (P j)) ∧ RowAt wr aa 29 64 (fun j => .int .i64 (Q j))) ∧ Below w.heap.size w wr) (fun v18 _ => 64 - (intOf v18).toNat)
            case atStart => exact ⟨0, by omega, rfl, HR.out, HP.out, HB.out⟩
            case round =>
              clear HR HP HB
              obtain ⟨i, hi, rfl, hr, hp, hb⟩ := hrel
              have HR := Lib.hid hr; have HP := Lib.hid hp; have HB := Lib.hid hb; clear hr hp hb
              by_cases hi64 : i < 64
              · have e1 := HOV.out.i1 i hi64
                have e2 := HOV.out.i2 i hi64
                have hbd := HOV.out.bd i hi64
                have b4' : 0 ≤ P i ∧ P i ≤ 1 := by rw [HPE.out i hi64]; unfold b01; split <;> omega
                have b5' : 0 ≤ Q i ∧ Q i ≤ 1 := by rw [HPA.out i hi64]; unfold b01; split <;> omega
                rw [← HPE.out i hi64] at e1
                rw [← HPA.out i hi64] at e2
                have x1 := HR.out.1.cell i hi64
                have x2 := HR.out.2.1.cell i hi64
                have x3 := HR.out.2.2.cell i hi64
                have y1 := HP.out.1.cell i hi64
                have y2 := HP.out.2.cell i hi64
                obtain ⟨z1, hz1⟩ : ∃ z, I i = z := ⟨_, rfl⟩
                obtain ⟨z2, hz2⟩ : ∃ z, A i = z := ⟨_, rfl⟩
                obtain ⟨z3, hz3⟩ : ∃ z, E i = z := ⟨_, rfl⟩
                obtain ⟨z4, hz4⟩ : ∃ z, P i = z := ⟨_, rfl⟩
                obtain ⟨z5, hz5⟩ : ∃ z, Q i = z := ⟨_, rfl⟩
                rw [hz1] at e1 x1 hbd
                rw [hz2] at e1 e2 x2 hbd
                rw [hz3] at e2 x3 hbd
                rw [hz4] at e1 y1 b4'
                rw [hz5] at e2 y2 b5'
                clear hz1 hz2 hz3 hz4 hz5
                have q1 : (z1 != z2 + z4) = false := by simpa using e1
                have q2 : (z2 != z3 + z5) = false := by simpa using e2
                have b4 : 0 ≤ z4 ∧ z4 ≤ 150 := by omega
                have b5 : 0 ≤ z5 ∧ z5 ≤ 150 := by omega
                have hi64' : (i : Int) < 64 := by omega
                have E1 := Lib.hid e1
                have E2 := Lib.hid e2
                clear e1 e2
                go_wp2_with fail
                go_big_quiet (fail)
                go_wp2_with fail
                go_roundw
                case rel => exact ⟨i + 1, by omega, by go_num, HR.out, HP.out, below_drewN HB.out _⟩
                case measure => simp [intOf]; omega
              · obtain rfl : i = 64 := by omega
                go_wp2_with fail
                go_ret
                go_light
                exact ⟨rfl, HB.out⟩
end Go.Proofs.Ytnebjbjdgfaooaa
