/- Proved: what is written and injected into one virtual processor is seen in that one alone (viceroylaw18.VcpuOwn returns true for every list of acts, every register and every interrupt), with no condition. -/
import Derived.Test.YtnebjbjdgfaooaaVdV
namespace Go.Proofs.Ytnebjbjdgfaooaa
open Go.RowKit
set_option maxRecDepth 100000

open Go.Maps
section
variable {w0 w : World} {p r x y m j : Nat} {o o2 : Own} {A B A0 : Am}
theorem own_write (h : Duo w0 w p r o o2 A B) (t : Two w0 w o o2 x y A0 m j) (id n v : Int) (hid : i64 id) : Calls Try.prog 33 #[.pointer (some ⟨p, 0, none⟩), .int .i64 id, .int .i64 n, .int .u32 v] w fun e w' => e = .returned (.int .i64 (writeA A id n v).2) ∧ ∃ o' o2', Duo w0 w' p r o' o2' (writeA A id n v).1 B ∧ Two w0 w' o' o2' x y A0 m j := by
  obtain ⟨C, hC, rfl⟩ := h.pk
  refine (cwrite_any p o C id n v hid w hC).mono ?_
  rintro e w1 ⟨he, hs⟩
  exact ⟨he, t.go (h.stepP hs)⟩
theorem own_inject (h : Duo w0 w p r o o2 A B) (t : Two w0 w o o2 x y A0 m j) (id irq pr : Int) (lv : Bool) (hid : i64 id) : Calls Try.prog 41 #[.pointer (some ⟨p, 0, none⟩), .int .i64 id, .int .i64 irq, .int .i64 pr, .bool lv] w fun e w' => e = .returned (.int .i64 (injectA A id irq pr lv).2) ∧ ∃ o' o2', Duo w0 w' p r o' o2' (injectA A id irq pr lv).1 B ∧ Two w0 w' o' o2' x y A0 m j := by
  obtain ⟨C, hC, rfl⟩ := h.pk
  refine (cinject_any p o C id irq pr lv hid w hC).mono ?_
  rintro e w1 ⟨he, hs⟩
  exact ⟨he, t.go (h.stepP hs)⟩
end

set_option maxHeartbeats 64000000 in
theorem walk_VcpuOwn (a : Option Addr) (len cap : Nat) (id n0 v0 irq : Int) (w : World) (hlen : len ≤ maxLen) (hacts : Acts18 w a len) (hid : i64 id) :
    Calls Try.prog 11 #[.slice a len cap, .int .i64 id, .int .i64 n0, .int .u32 v0, .int .i64 irq] w fun e w' => e = .returned (.bool true) ∧ Below w.heap.size w w' := by
  have HA := Lib.hid hacts; clear hacts
  unfold maxLen at hlen
  go_enter Try.func11, Try.ntmps11
  go_wp2_with fail
  refine (cawake_any _).mono ?_
  rintro e w1 ⟨rfl, hb1⟩
  have B1 := Lib.hid hb1; clear hb1
  go_wp2_with fail
  refine (cnew_ok 2 (by omega) (by omega) _).mono ?_
  rintro e w2 ⟨p, o0, C0', rfl, hok, hto, hfr, hb2⟩
  have HP := Lib.hid (And.intro hok (And.intro hto (And.intro hfr hb2)))
  clear hok hto hfr hb2
  go_wp2_with fail
  refine (rnew18_ok 2 (by omega) (by omega) _).mono ?_
  rintro e w3 ⟨r, q0, D0, rfl, hok, hto, hfr, hb3⟩
  have HB3 : Hid (Duo w w3 p r o0 q0 (A0 2) (A0 2)) := Lib.hid (duo_new B1.out HP.out.1 HP.out.2.1 HP.out.2.2.1 HP.out.2.2.2 hok hto hfr hb3)
  clear hok hto hfr hb3
  go_wp2_with fail
  go_loopw [16] (fun v16 wr => ∃ (k : Nat) (A : Am) (o o2 : Own), k ≤ 80 ∧ k ≤ len ∧ v16 = .int .i64 k ∧ Duo w wr p r o o2 A A ∧ A.lrs = 2 ∧ Uq A) (fun v16 _ => 80 - (intOf v16).toNat)
  case atStart => exact ⟨0, A0 2, o0, q0, by omega, by omega, rfl, HB3.out, rfl, Uq.A0 _⟩
  case round =>
    clear HB3
    obtain ⟨k, A, o, o2, hk, hkl, rfl, hduo, hlrs, huq⟩ := hrel
    have HB := Lib.hid hduo; have HS := Lib.hid hlrs; have HU := Lib.hid huq; clear hduo hlrs huq
    by_cases hlt : k < len
    · by_cases hlm : k < 80
      · rename_i wr _
        obtain ⟨b, off, d, id, n, m, bk, on, rfl, hid, d0, d1, d2, d3, d4, d12⟩ := HA.out k hlt
        have hbl : b < w.heap.size := World.block_lt_of_cell? w _ d0
        have c0 : wr.cell? ⟨b, off + k * 13, none⟩ = some (.int .i64 d) := (HB.out.bel.cell (p := ⟨b, off + k * 13, none⟩) hbl).trans d0
        have c1 : wr.cell? ⟨b, off + k * 13 + 1, none⟩ = some (.int .i64 id) := (HB.out.bel.cell (p := ⟨b, off + k * 13 + 1, none⟩) hbl).trans d1
        have c2 : wr.cell? ⟨b, off + k * 13 + 2, none⟩ = some (.int .i64 n) := (HB.out.bel.cell (p := ⟨b, off + k * 13 + 2, none⟩) hbl).trans d2
        have c3 : wr.cell? ⟨b, off + k * 13 + 3, none⟩ = some (.int .i64 m) := (HB.out.bel.cell (p := ⟨b, off + k * 13 + 3, none⟩) hbl).trans d3
        have c4 : wr.cell? ⟨b, off + k * 13 + 4, none⟩ = some (.int .u32 (bk 0)) := (HB.out.bel.cell (p := ⟨b, off + k * 13 + 4, none⟩) hbl).trans (d4 0 (by omega))
        have c5 : wr.cell? ⟨b, off + k * 13 + 5, none⟩ = some (.int .u32 (bk 1)) := (HB.out.bel.cell (p := ⟨b, off + k * 13 + 5, none⟩) hbl).trans (d4 1 (by omega))
        have c6 : wr.cell? ⟨b, off + k * 13 + 6, none⟩ = some (.int .u32 (bk 2)) := (HB.out.bel.cell (p := ⟨b, off + k * 13 + 6, none⟩) hbl).trans (d4 2 (by omega))
        have c7 : wr.cell? ⟨b, off + k * 13 + 7, none⟩ = some (.int .u32 (bk 3)) := (HB.out.bel.cell (p := ⟨b, off + k * 13 + 7, none⟩) hbl).trans (d4 3 (by omega))
        have c8 : wr.cell? ⟨b, off + k * 13 + 8, none⟩ = some (.int .u32 (bk 4)) := (HB.out.bel.cell (p := ⟨b, off + k * 13 + 8, none⟩) hbl).trans (d4 4 (by omega))
        have c9 : wr.cell? ⟨b, off + k * 13 + 9, none⟩ = some (.int .u32 (bk 5)) := (HB.out.bel.cell (p := ⟨b, off + k * 13 + 9, none⟩) hbl).trans (d4 5 (by omega))
        have c10 : wr.cell? ⟨b, off + k * 13 + 10, none⟩ = some (.int .u32 (bk 6)) := (HB.out.bel.cell (p := ⟨b, off + k * 13 + 10, none⟩) hbl).trans (d4 6 (by omega))
        have c11 : wr.cell? ⟨b, off + k * 13 + 11, none⟩ = some (.int .u32 (bk 7)) := (HB.out.bel.cell (p := ⟨b, off + k * 13 + 11, none⟩) hbl).trans (d4 7 (by omega))
        have c12 : wr.cell? ⟨b, off + k * 13 + 12, none⟩ = some (.bool on) := (HB.out.bel.cell (p := ⟨b, off + k * 13 + 12, none⟩) hbl).trans d12
        go_wp2_with fail
        clear d0 d1 d2 d3 d4 d12 c0 c1 c2 c3 c4 c5 c6 c7 c8 c9 c10 c11 c12
        obtain ⟨tk, htk⟩ := taken_bool A n
        refine (does18_any w p r o o2 A A d id n m bk on tk tk hid (by rw [HS.out]; omega) (by rw [HS.out]; omega) htk htk (fun _ => rfl) _ HB.out).mono ?_
        have HL2 := Lib.hid ((lrs_act A d id n m bk on tk).trans HS.out)
        have HU2 := Lib.hid (uq_act HU.out d id n m bk on tk htk)
        obtain ⟨A1, hA1⟩ : ∃ X, actS A d id n m bk on tk = X := ⟨_, rfl⟩
        rw [hA1] at HL2 HU2 ⊢
        clear hA1 htk
        rintro e w4 ⟨⟨bb, rfl, hbb⟩, o', o2', hd, _, _, _⟩
        have HD := Lib.hid hd
        have HBB := Lib.hid (hbb rfl)
        clear hd hbb HB HS HU
        go_wp2_with fail
        go_roundw
        case rel => exact ⟨k + 1, A1, o', o2', by omega, by omega, by go_num, HD.out, HL2.out, HU2.out⟩
        case measure => simp [intOf]; omega
      ·
        have HT0 := Lib.hid (Two.new HB.out (A := A))
        have HB0 := Lib.hid ((HB.out.alloc (.cells #[.int .u32 0, .int .u32 0, .int .u32 0, .int .u32 0, .int .u32 0, .int .u32 0, .int .u32 0, .int .u32 0, .int .u32 0, .int .u32 0, .int .u32 0, .int .u32 0, .int .u32 0, .int .u32 0, .int .u32 0, .int .u32 0, .int .u32 0, .int .u32 0, .int .u32 0, .int .u32 0, .int .u32 0, .int .u32 0, .int .u32 0, .int .u32 0, .int .u32 0, .int .u32 0, .int .u32 0, .int .u32 0, .int .u32 0, .int .u32 0, .int .u32 0, .int .u32 0, .int .u32 0, .int .u32 0, .int .u32 0, .int .u32 0, .int .u32 0, .int .u32 0, .int .u32 0, .int .u32 0, .int .u32 0, .int .u32 0, .int .u32 0, .int .u32 0, .int .u32 0, .int .u32 0, .int .u32 0, .int .u32 0] 81)).alloc (.cells #[.int .i64 0, .int .i64 0, .int .i64 0, .int .i64 0, .int .i64 0, .int .i64 0] 82))
        clear HB
        go_wp2_with fail
        obtain ⟨wg, hwg⟩ : ∃ wg, ((wr.alloc (.cells #[.int .u32 0, .int .u32 0, .int .u32 0, .int .u32 0, .int .u32 0, .int .u32 0, .int .u32 0, .int .u32 0, .int .u32 0, .int .u32 0, .int .u32 0, .int .u32 0, .int .u32 0, .int .u32 0, .int .u32 0, .int .u32 0, .int .u32 0, .int .u32 0, .int .u32 0, .int .u32 0, .int .u32 0, .int .u32 0, .int .u32 0, .int .u32 0, .int .u32 0, .int .u32 0, .int .u32 0, .int .u32 0, .int .u32 0, .int .u32 0, .int .u32 0, .int .u32 0, .int .u32 0, .int .u32 0, .int .u32 0, .int .u32 0, .int .u32 0, .int .u32 0, .int .u32 0, .int .u32 0, .int .u32 0, .int .u32 0, .int .u32 0, .int .u32 0, .int .u32 0, .int .u32 0, .int .u32 0, .int .u32 0] 81)).alloc (.cells #[.int .i64 0, .int .i64 0, .int .i64 0, .int .i64 0, .int .i64 0, .int .i64 0] 82)) = wg := ⟨_, rfl⟩
        obtain ⟨y, hy⟩ : ∃ y, wr.heap.size + 1 = y := ⟨_, rfl⟩
        obtain ⟨x, hx⟩ : ∃ x, wr.heap.size = x := ⟨_, rfl⟩
        rw [hwg] at HT0 HB0 ⊢
        rw [hy] at HT0 ⊢
        rw [hx] at HT0 ⊢
        clear hwg hy hx
        go_loopw [19, 20, 21, 22, 23, 24] (fun v19 _ _ _ _ _ wr => ∃ j : Nat, j ≤ 6 ∧ v19 = .int .i64 j ∧ Duo w wr p r o o2 A A ∧ Two w wr o o2 x y A (j * 8) j) (fun v19 _ _ _ _ _ _ => 6 - (intOf v19).toNat)
        case atStart => exact ⟨0, by omega, rfl, HB0.out, HT0.out⟩
        case round =>
          clear HB0 HT0
          obtain ⟨j, hj, rfl, hduo, htwo⟩ := hrel
          have HB := Lib.hid hduo; have HT := Lib.hid htwo; clear hduo htwo
          by_cases hlj : j < 6
          · have hdj : decide ((j : Int) < 6) = true := by simp; omega
            have hij : i64 (j : Int) := i64_of (by omega)
            have hjl : (j : Int) < 6 := by omega
            go_wp2_with fail
            go_loopw [20, 21, 22] (fun v20 _ _ wr => ∃ n : Nat, n ≤ 8 ∧ v20 = .int .i64 n ∧ Duo w wr p r o o2 A A ∧ Two w wr o o2 x y A (j * 8 + n) j) (fun v20 _ _ _ => 8 - (intOf v20).toNat)
            case atStart => exact ⟨0, by omega, rfl, HB.out, HT.out⟩
            case round =>
              clear HB HT
              obtain ⟨n, hn, rfl, hduo, htwo⟩ := hrel
              have HB := Lib.hid hduo; have HT := Lib.hid htwo; clear hduo htwo
              by_cases hln : n < 8
              · have hdn : decide ((n : Int) < 8) = true := by simp; omega
                have hnl : (n : Int) < 8 := by omega
                go_wp2_with fail
                refine (hrd HB.out j n hij).mono ?_
                obtain ⟨va, hva⟩ : ∃ z, (readA A j n).1 = z := ⟨_, rfl⟩
                obtain ⟨ea, hea⟩ : ∃ z, (readA A j n).2 = z := ⟨_, rfl⟩
                rw [hva, hea]
                have HV : Hid (va = (readA A ((( j * 8 + n) / 8 : Nat) : Int) (((j * 8 + n) % 8 : Nat) : Int)).1) := Lib.hid (by rw [show (j * 8 + n) / 8 = j by omega, show (j * 8 + n) % 8 = n by omega]; exact hva.symm)
                clear hva hea
                rintro e w4 ⟨rfl, hw⟩
                subst hw
                have cx := HT.out.rx.cell (j * 8 + n) (by omega)
                have hf := HT.out.rx.frozen (j * 8 + n)
                go_wp2_with fail
                go_roundw
                case rel => exact ⟨n + 1, by omega, by go_num, HB.out.setAt HT.out.ox HT.out.lx _ _, HT.out.setx (by omega) HV.out⟩
                case measure => simp [intOf]; omega
              · obtain rfl : n = 8 := by omega
                rw [show ((8 : Nat) : Int) = 8 from rfl]
                go_wp2_with fail
                obtain ⟨C, hC, hCA⟩ := HB.out.pk
                cases hP : C.all j with
                | none =>
                  have hcn : cntA A j = 0 := by unfold cntA; rw [← hCA, to_none hP]
                  refine (vgic_none p o C j hij _ hC hP).mono ?_
                  rintro e w4 ⟨rfl, hw⟩
                  subst hw
                  have HS2 := Lib.hid (HT.out.skip hcn)
                  clear hC hCA hP hcn
                  go_wp2_with fail
                  go_roundw
                  case rel => exact ⟨j + 1, by omega, by go_num, HB.out, by rw [show (j + 1) * 8 = j * 8 + 8 by omega]; exact HS2.out⟩
                  case measure => simp [intOf]; omega
                | some P =>
                  have hcs : cntA A j = (((preL P.S.pe P.S.ac 64).length : Nat) : Int) := by unfold cntA; rw [← hCA, to_some hP]; rfl
                  refine (vgic_some p o C j hij _ hC P hP).mono ?_
                  rintro e w4 ⟨rfl, hw⟩
                  subst hw
                  have HVG := Lib.hid (hC.vg j P hP)
                  have HCS := Lib.hid hcs
                  clear hC hCA hP hcs
                  go_wp2_with fail
                  refine (all_any P.v P.mp P.ma P.S _ HVG.out).mono ?_
                  rintro e w7 ⟨⟨sa, n, g, rfl, hall, hsa⟩, hb7⟩
                  have HB7 := Lib.hid (HB.out.below hb7)
                  have HT7 := Lib.hid (HT.out.below hb7)
                  have HN : Hid ((n : Int) = cntA A j) := Lib.hid (by rw [HCS.out, hall.1])
                  have HSA := Lib.hid hsa
                  clear hall hsa hb7 HB HT HVG HCS
                  have cy := HT7.out.ry.cell j (by omega)
                  have hfy := HT7.out.ry.frozen j
                  rcases HSA.out with ⟨rfl, rfl⟩ | ⟨qa, capa, Ma, rfl, hca, _, hla⟩
                  · go_wp2_with fail
                    go_roundw
                    case rel => exact ⟨j + 1, by omega, by go_num, HB7.out.setAt HT7.out.oy HT7.out.ly _ _, by rw [show (j + 1) * 8 = j * 8 + 8 by omega]; exact HT7.out.sety (by omega) HN.out⟩
                    case measure => simp [intOf]; omega
                  · clear hla
                    go_wp2_with fail
                    go_roundw
                    case rel => exact ⟨j + 1, by omega, by go_num, HB7.out.setAt HT7.out.oy HT7.out.ly _ _, by rw [show (j + 1) * 8 = j * 8 + 8 by omega]; exact HT7.out.sety (by omega) HN.out⟩
                    case measure => simp [intOf]; omega
          · obtain rfl : j = 6 := by omega
            go_wp2_with fail
            have HT6 : Hid (Two w _ o o2 x y A 48 6) := Lib.hid HT.out
            refine (own_write HB.out HT6.out id n0 v0 hid).mono ?_
            have hl1 := own_read A id n0 v0 irq 5 true
            have hl2 : ∀ i : Int, i ≠ id → cntA (injectA (writeA A id n0 v0).1 id irq 5 true).1 i = cntA A i := fun i h => own_cnt A id n0 v0 irq 5 true h
            obtain ⟨ec, hec⟩ : ∃ z, (writeA A id n0 v0).2 = z := ⟨_, rfl⟩
            obtain ⟨A1, hA1⟩ : ∃ z, (writeA A id n0 v0).1 = z := ⟨_, rfl⟩
            rw [hec, hA1]
            rw [hA1] at hl2
            rintro e wa ⟨rfl, oa, o2a, hd, ht⟩
            have HBA := Lib.hid hd
            have HTA := Lib.hid ht
            have hl3 : ∀ i k : Nat, k < 8 → (readA (injectA A1 id irq 5 true).1 i k).1 = if ec = 0 ∧ (i : Int) = id ∧ (k : Int) = n0 then v0 else (readA A i k).1 := by
              intro i k hk
              have h := hl1 i k (by omega)
              rw [hec, hA1] at h
              exact h
            clear hd ht HB HT HT6 hl1 hec hA1
            go_wp2_with fail
            refine (own_inject HBA.out HTA.out id irq 5 true hid).mono ?_
            obtain ⟨A2, hA2⟩ : ∃ z, (injectA A1 id irq 5 true).1 = z := ⟨_, rfl⟩
            rw [hA2] at hl3 hl2 ⊢
            have HLAW := Lib.hid (And.intro hl3 hl2)
            rintro e wb ⟨rfl, o', o2', hd, ht⟩
            have HBB := Lib.hid hd
            have HTB := Lib.hid ht
            clear hd ht HBA HTA hl3 hl2 hA2
            go_wp2_with fail
            go_loopw [26, 27, 28, 29, 30, 31, 32] (fun v26 _ _ _ _ _ _ wr => ∃ i : Nat, i ≤ 6 ∧ v26 = .int .i64 i ∧ Duo w wr p r o' o2' A2 A ∧ Two w wr o' o2' x y A 48 6) (fun v26 _ _ _ _ _ _ _ => 6 - (intOf v26).toNat)
            case atStart => exact ⟨0, by omega, rfl, HBB.out, HTB.out⟩
            case round =>
              clear HBB HTB
              obtain ⟨i, hi, rfl, hduo, htwo⟩ := hrel
              have HB := Lib.hid hduo; have HT := Lib.hid htwo; clear hduo htwo
              by_cases hli : i < 6
              · have hdi : decide ((i : Int) < 6) = true := by simp; omega
                have hij : i64 (i : Int) := i64_of (by omega)
                have hil : (i : Int) < 6 := by omega
                go_wp2_with fail
                go_loopw [27, 28, 29, 30] (fun v27 _ _ _ wr => ∃ n : Nat, n ≤ 8 ∧ v27 = .int .i64 n ∧ Duo w wr p r o' o2' A2 A ∧ Two w wr o' o2' x y A 48 6) (fun v27 _ _ _ _ => 8 - (intOf v27).toNat)
                case atStart => exact ⟨0, by omega, rfl, HB.out, HT.out⟩
                case round =>
                  clear HB HT
                  obtain ⟨n, hn, rfl, hduo, htwo⟩ := hrel
                  have HB := Lib.hid hduo; have HT := Lib.hid htwo; clear hduo htwo
                  by_cases hln : n < 8
                  · have hdn : decide ((n : Int) < 8) = true := by simp; omega
                    have hnl : (n : Int) < 8 := by omega
                    go_wp2_with fail
                    refine (hrd HB.out i n hij).mono ?_
                    have hvb := HLAW.out.1 i n hln
                    obtain ⟨vb, hvb2⟩ : ∃ z, (readA A2 i n).1 = z := ⟨_, rfl⟩
                    obtain ⟨ea, hea⟩ : ∃ z, (readA A2 i n).2 = z := ⟨_, rfl⟩
                    rw [hvb2, hea]
                    rw [hvb2] at hvb
                    obtain ⟨va, hva⟩ : ∃ z, (readA A i n).1 = z := ⟨_, rfl⟩
                    rw [hva] at hvb
                    have HVB := Lib.hid hvb
                    rintro e w4 ⟨rfl, hw⟩
                    subst hw
                    have cx := HT.out.rx.cell (i * 8 + n) (by omega)
                    rw [FA_at A hli hln, hva] at cx
                    clear hvb hvb2 hea hva
                    by_cases he : ec = 0
                    · have de : (ec == 0) = true := by simpa using he
                      by_cases hii : (i : Int) = id
                      · have d1 : ((i : Int) == id) = true := by simpa using hii
                        by_cases hnn : (n : Int) = n0
                        · have d3 : ((n : Int) == n0) = true := by simpa using hnn
                          obtain rfl : vb = v0 := by rw [HVB.out]; exact if_pos ⟨he, hii, hnn⟩
                          clear he hii hnn
                          go_wp2_with fail
                          go_roundw
                          case rel => exact ⟨n + 1, by omega, by go_num, HB.out, HT.out⟩
                          case measure => simp [intOf]; omega
                        · have d3 : ((n : Int) == n0) = false := by simpa using hnn
                          obtain rfl : vb = va := by rw [HVB.out]; exact if_neg (fun h => hnn h.2.2)
                          clear he hii hnn
                          go_wp2_with fail
                          go_roundw
                          case rel => exact ⟨n + 1, by omega, by go_num, HB.out, HT.out⟩
                          case measure => simp [intOf]; omega
                      · have d1 : ((i : Int) == id) = false := by simpa using hii
                        obtain rfl : vb = va := by rw [HVB.out]; exact if_neg (fun h => hii h.2.1)
                        clear he hii
                        go_wp2_with fail
                        go_roundw
                        case rel => exact ⟨n + 1, by omega, by go_num, HB.out, HT.out⟩
                        case measure => simp [intOf]; omega
                    · have de : (ec == 0) = false := by simpa using he
                      obtain rfl : vb = va := by rw [HVB.out]; exact if_neg (fun h => he h.1)
                      clear he
                      go_wp2_with fail
                      go_roundw
                      case rel => exact ⟨n + 1, by omega, by go_num, HB.out, HT.out⟩
                      case measure => simp [intOf]; omega
                  · obtain rfl : n = 8 := by omega
                    rw [show ((8 : Nat) : Int) = 8 from rfl]
                    go_wp2_with fail
                    obtain ⟨C, hC, hCA⟩ := HB.out.pk
                    cases hP : C.all i with
                    | none =>
                      refine (vgic_none p o' C i hij _ hC hP).mono ?_
                      rintro e w4 ⟨rfl, hw⟩
                      subst hw
                      clear hC hCA hP
                      go_wp2_with fail
                      go_roundw
                      case rel => exact ⟨i + 1, by omega, by go_num, HB.out, HT.out⟩
                      case measure => simp [intOf]; omega
                    | some P =>
                      have hcs : cntA A2 i = (((preL P.S.pe P.S.ac 64).length : Nat) : Int) := by unfold cntA; rw [← hCA, to_some hP]; rfl
                      refine (vgic_some p o' C i hij _ hC P hP).mono ?_
                      rintro e w4 ⟨rfl, hw⟩
                      subst hw
                      have HVG := Lib.hid (hC.vg i P hP)
                      have HCS := Lib.hid hcs
                      clear hC hCA hP hcs
                      by_cases hii : (i : Int) = id
                      · have d1 : ((i : Int) == id) = true := by simpa using hii
                        have d2 : ((i : Int) != id) = false := by simpa using hii
                        go_wp2_with fail
                        go_roundw
                        case rel => exact ⟨i + 1, by omega, by go_num, HB.out, HT.out⟩
                        case measure => simp [intOf]; omega
                      · have d1 : ((i : Int) == id) = false := by simpa using hii
                        have d2 : ((i : Int) != id) = true := by simpa using hii
                        have HCI := Lib.hid (HLAW.out.2 i hii)
                        go_wp2_with fail
                        refine (all_any P.v P.mp P.ma P.S _ HVG.out).mono ?_
                        rintro e w7 ⟨⟨sa, n, g, rfl, hall, hsa⟩, hb7⟩
                        have HB7 := Lib.hid (HB.out.below hb7)
                        have HT7 := Lib.hid (HT.out.below hb7)
                        have HN : cntA A i = (n : Int) := by rw [← HCI.out, HCS.out, hall.1]
                        have HSA := Lib.hid hsa
                        have cy := HT7.out.ry.cell i (by omega)
                        rw [GA_at A (by omega), HN] at cy
                        clear hall hsa hb7 HB HT HVG HCS HCI HN
                        rcases HSA.out with ⟨rfl, rfl⟩ | ⟨qa, capa, Ma, rfl, hca, _, hla⟩
                        · rw [show ((0 : Nat) : Int) = 0 from rfl] at cy
                          go_wp2_with fail
                          go_roundw
                          case rel => exact ⟨i + 1, by omega, by go_num, HB7.out, HT7.out⟩
                          case measure => simp [intOf]; omega
                        · clear hla
                          go_wp2_with fail
                          go_roundw
                          case rel => exact ⟨i + 1, by omega, by go_num, HB7.out, HT7.out⟩
                          case measure => simp [intOf]; omega
              · obtain rfl : i = 6 := by omega
                go_wp2_with fail
                go_ret
                exact ⟨rfl, HB.out.bel⟩
    ·
      have HT0 := Lib.hid (Two.new HB.out (A := A))
      have HB0 := Lib.hid ((HB.out.alloc (.cells #[.int .u32 0, .int .u32 0, .int .u32 0, .int .u32 0, .int .u32 0, .int .u32 0, .int .u32 0, .int .u32 0, .int .u32 0, .int .u32 0, .int .u32 0, .int .u32 0, .int .u32 0, .int .u32 0, .int .u32 0, .int .u32 0, .int .u32 0, .int .u32 0, .int .u32 0, .int .u32 0, .int .u32 0, .int .u32 0, .int .u32 0, .int .u32 0, .int .u32 0, .int .u32 0, .int .u32 0, .int .u32 0, .int .u32 0, .int .u32 0, .int .u32 0, .int .u32 0, .int .u32 0, .int .u32 0, .int .u32 0, .int .u32 0, .int .u32 0, .int .u32 0, .int .u32 0, .int .u32 0, .int .u32 0, .int .u32 0, .int .u32 0, .int .u32 0, .int .u32 0, .int .u32 0, .int .u32 0, .int .u32 0] 81)).alloc (.cells #[.int .i64 0, .int .i64 0, .int .i64 0, .int .i64 0, .int .i64 0, .int .i64 0] 82))
      clear HB
      go_wp2_with fail
      obtain ⟨wg, hwg⟩ : ∃ wg, ((wr.alloc (.cells #[.int .u32 0, .int .u32 0, .int .u32 0, .int .u32 0, .int .u32 0, .int .u32 0, .int .u32 0, .int .u32 0, .int .u32 0, .int .u32 0, .int .u32 0, .int .u32 0, .int .u32 0, .int .u32 0, .int .u32 0, .int .u32 0, .int .u32 0, .int .u32 0, .int .u32 0, .int .u32 0, .int .u32 0, .int .u32 0, .int .u32 0, .int .u32 0, .int .u32 0, .int .u32 0, .int .u32 0, .int .u32 0, .int .u32 0, .int .u32 0, .int .u32 0, .int .u32 0, .int .u32 0, .int .u32 0, .int .u32 0, .int .u32 0, .int .u32 0, .int .u32 0, .int .u32 0, .int .u32 0, .int .u32 0, .int .u32 0, .int .u32 0, .int .u32 0, .int .u32 0, .int .u32 0, .int .u32 0, .int .u32 0] 81)).alloc (.cells #[.int .i64 0, .int .i64 0, .int .i64 0, .int .i64 0, .int .i64 0, .int .i64 0] 82)) = wg := ⟨_, rfl⟩
      obtain ⟨y, hy⟩ : ∃ y, wr.heap.size + 1 = y := ⟨_, rfl⟩
      obtain ⟨x, hx⟩ : ∃ x, wr.heap.size = x := ⟨_, rfl⟩
      rw [hwg] at HT0 HB0 ⊢
      rw [hy] at HT0 ⊢
      rw [hx] at HT0 ⊢
      clear hwg hy hx
      go_loopw [19, 20, 21, 22, 23, 24] (fun v19 _ _ _ _ _ wr => ∃ j : Nat, j ≤ 6 ∧ v19 = .int .i64 j ∧ Duo w wr p r o o2 A A ∧ Two w wr o o2 x y A (j * 8) j) (fun v19 _ _ _ _ _ _ => 6 - (intOf v19).toNat)
      case atStart => exact ⟨0, by omega, rfl, HB0.out, HT0.out⟩
      case round =>
        clear HB0 HT0
        obtain ⟨j, hj, rfl, hduo, htwo⟩ := hrel
        have HB := Lib.hid hduo; have HT := Lib.hid htwo; clear hduo htwo
        by_cases hlj : j < 6
        · have hdj : decide ((j : Int) < 6) = true := by simp; omega
          have hij : i64 (j : Int) := i64_of (by omega)
          have hjl : (j : Int) < 6 := by omega
          go_wp2_with fail
          go_loopw [20, 21, 22] (fun v20 _ _ wr => ∃ n : Nat, n ≤ 8 ∧ v20 = .int .i64 n ∧ Duo w wr p r o o2 A A ∧ Two w wr o o2 x y A (j * 8 + n) j) (fun v20 _ _ _ => 8 - (intOf v20).toNat)
          case atStart => exact ⟨0, by omega, rfl, HB.out, HT.out⟩
          case round =>
            clear HB HT
            obtain ⟨n, hn, rfl, hduo, htwo⟩ := hrel
            have HB := Lib.hid hduo; have HT := Lib.hid htwo; clear hduo htwo
            by_cases hln : n < 8
            · have hdn : decide ((n : Int) < 8) = true := by simp; omega
              have hnl : (n : Int) < 8 := by omega
              go_wp2_with fail
              refine (hrd HB.out j n hij).mono ?_
              obtain ⟨va, hva⟩ : ∃ z, (readA A j n).1 = z := ⟨_, rfl⟩
              obtain ⟨ea, hea⟩ : ∃ z, (readA A j n).2 = z := ⟨_, rfl⟩
              rw [hva, hea]
              have HV : Hid (va = (readA A ((( j * 8 + n) / 8 : Nat) : Int) (((j * 8 + n) % 8 : Nat) : Int)).1) := Lib.hid (by rw [show (j * 8 + n) / 8 = j by omega, show (j * 8 + n) % 8 = n by omega]; exact hva.symm)
              clear hva hea
              rintro e w4 ⟨rfl, hw⟩
              subst hw
              have cx := HT.out.rx.cell (j * 8 + n) (by omega)
              have hf := HT.out.rx.frozen (j * 8 + n)
              go_wp2_with fail
              go_roundw
              case rel => exact ⟨n + 1, by omega, by go_num, HB.out.setAt HT.out.ox HT.out.lx _ _, HT.out.setx (by omega) HV.out⟩
              case measure => simp [intOf]; omega
            · obtain rfl : n = 8 := by omega
              rw [show ((8 : Nat) : Int) = 8 from rfl]
              go_wp2_with fail
              obtain ⟨C, hC, hCA⟩ := HB.out.pk
              cases hP : C.all j with
              | none =>
                have hcn : cntA A j = 0 := by unfold cntA; rw [← hCA, to_none hP]
                refine (vgic_none p o C j hij _ hC hP).mono ?_
                rintro e w4 ⟨rfl, hw⟩
                subst hw
                have HS2 := Lib.hid (HT.out.skip hcn)
                clear hC hCA hP hcn
                go_wp2_with fail
                go_roundw
                case rel => exact ⟨j + 1, by omega, by go_num, HB.out, by rw [show (j + 1) * 8 = j * 8 + 8 by omega]; exact HS2.out⟩
                case measure => simp [intOf]; omega
              | some P =>
                have hcs : cntA A j = (((preL P.S.pe P.S.ac 64).length : Nat) : Int) := by unfold cntA; rw [← hCA, to_some hP]; rfl
                refine (vgic_some p o C j hij _ hC P hP).mono ?_
                rintro e w4 ⟨rfl, hw⟩
                subst hw
                have HVG := Lib.hid (hC.vg j P hP)
                have HCS := Lib.hid hcs
                clear hC hCA hP hcs
                go_wp2_with fail
                refine (all_any P.v P.mp P.ma P.S _ HVG.out).mono ?_
                rintro e w7 ⟨⟨sa, n, g, rfl, hall, hsa⟩, hb7⟩
                have HB7 := Lib.hid (HB.out.below hb7)
                have HT7 := Lib.hid (HT.out.below hb7)
                have HN : Hid ((n : Int) = cntA A j) := Lib.hid (by rw [HCS.out, hall.1])
                have HSA := Lib.hid hsa
                clear hall hsa hb7 HB HT HVG HCS
                have cy := HT7.out.ry.cell j (by omega)
                have hfy := HT7.out.ry.frozen j
                rcases HSA.out with ⟨rfl, rfl⟩ | ⟨qa, capa, Ma, rfl, hca, _, hla⟩
                · go_wp2_with fail
                  go_roundw
                  case rel => exact ⟨j + 1, by omega, by go_num, HB7.out.setAt HT7.out.oy HT7.out.ly _ _, by rw [show (j + 1) * 8 = j * 8 + 8 by omega]; exact HT7.out.sety (by omega) HN.out⟩
                  case measure => simp [intOf]; omega
                · clear hla
                  go_wp2_with fail
                  go_roundw
                  case rel => exact ⟨j + 1, by omega, by go_num, HB7.out.setAt HT7.out.oy HT7.out.ly _ _, by rw [show (j + 1) * 8 = j * 8 + 8 by omega]; exact HT7.out.sety (by omega) HN.out⟩
                  case measure => simp [intOf]; omega
        · obtain rfl : j = 6 := by omega
          go_wp2_with fail
          have HT6 : Hid (Two w _ o o2 x y A 48 6) := Lib.hid HT.out
          refine (own_write HB.out HT6.out id n0 v0 hid).mono ?_
          have hl1 := own_read A id n0 v0 irq 5 true
          have hl2 : ∀ i : Int, i ≠ id → cntA (injectA (writeA A id n0 v0).1 id irq 5 true).1 i = cntA A i := fun i h => own_cnt A id n0 v0 irq 5 true h
          obtain ⟨ec, hec⟩ : ∃ z, (writeA A id n0 v0).2 = z := ⟨_, rfl⟩
          obtain ⟨A1, hA1⟩ : ∃ z, (writeA A id n0 v0).1 = z := ⟨_, rfl⟩
          rw [hec, hA1]
          rw [hA1] at hl2
          rintro e wa ⟨rfl, oa, o2a, hd, ht⟩
          have HBA := Lib.hid hd
          have HTA := Lib.hid ht
          have hl3 : ∀ i k : Nat, k < 8 → (readA (injectA A1 id irq 5 true).1 i k).1 = if ec = 0 ∧ (i : Int) = id ∧ (k : Int) = n0 then v0 else (readA A i k).1 := by
            intro i k hk
            have h := hl1 i k (by omega)
            rw [hec, hA1] at h
            exact h
          clear hd ht HB HT HT6 hl1 hec hA1
          go_wp2_with fail
          refine (own_inject HBA.out HTA.out id irq 5 true hid).mono ?_
          obtain ⟨A2, hA2⟩ : ∃ z, (injectA A1 id irq 5 true).1 = z := ⟨_, rfl⟩
          rw [hA2] at hl3 hl2 ⊢
          have HLAW := Lib.hid (And.intro hl3 hl2)
          rintro e wb ⟨rfl, o', o2', hd, ht⟩
          have HBB := Lib.hid hd
          have HTB := Lib.hid ht
          clear hd ht HBA HTA hl3 hl2 hA2
          go_wp2_with fail
          go_loopw [26, 27, 28, 29, 30, 31, 32] (fun v26 _ _ _ _ _ _ wr => ∃ i : Nat, i ≤ 6 ∧ v26 = .int .i64 i ∧ Duo w wr p r o' o2' A2 A ∧ Two w wr o' o2' x y A 48 6) (fun v26 _ _ _ _ _ _ _ => 6 - (intOf v26).toNat)
          case atStart => exact ⟨0, by omega, rfl, HBB.out, HTB.out⟩
          case round =>
            clear HBB HTB
            obtain ⟨i, hi, rfl, hduo, htwo⟩ := hrel
            have HB := Lib.hid hduo; have HT := Lib.hid htwo; clear hduo htwo
            by_cases hli : i < 6
            · have hdi : decide ((i : Int) < 6) = true := by simp; omega
              have hij : i64 (i : Int) := i64_of (by omega)
              have hil : (i : Int) < 6 := by omega
              go_wp2_with fail
              go_loopw [27, 28, 29, 30] (fun v27 _ _ _ wr => ∃ n : Nat, n ≤ 8 ∧ v27 = .int .i64 n ∧ Duo w wr p r o' o2' A2 A ∧ Two w wr o' o2' x y A 48 6) (fun v27 _ _ _ _ => 8 - (intOf v27).toNat)
              case atStart => exact ⟨0, by omega, rfl, HB.out, HT.out⟩
              case round =>
                clear HB HT
                obtain ⟨n, hn, rfl, hduo, htwo⟩ := hrel
                have HB := Lib.hid hduo; have HT := Lib.hid htwo; clear hduo htwo
                by_cases hln : n < 8
                · have hdn : decide ((n : Int) < 8) = true := by simp; omega
                  have hnl : (n : Int) < 8 := by omega
                  go_wp2_with fail
                  refine (hrd HB.out i n hij).mono ?_
                  have hvb := HLAW.out.1 i n hln
                  obtain ⟨vb, hvb2⟩ : ∃ z, (readA A2 i n).1 = z := ⟨_, rfl⟩
                  obtain ⟨ea, hea⟩ : ∃ z, (readA A2 i n).2 = z := ⟨_, rfl⟩
                  rw [hvb2, hea]
                  rw [hvb2] at hvb
                  obtain ⟨va, hva⟩ : ∃ z, (readA A i n).1 = z := ⟨_, rfl⟩
                  rw [hva] at hvb
                  have HVB := Lib.hid hvb
                  rintro e w4 ⟨rfl, hw⟩
                  subst hw
                  have cx := HT.out.rx.cell (i * 8 + n) (by omega)
                  rw [FA_at A hli hln, hva] at cx
                  clear hvb hvb2 hea hva
                  by_cases he : ec = 0
                  · have de : (ec == 0) = true := by simpa using he
                    by_cases hii : (i : Int) = id
                    · have d1 : ((i : Int) == id) = true := by simpa using hii
                      by_cases hnn : (n : Int) = n0
                      · have d3 : ((n : Int) == n0) = true := by simpa using hnn
                        obtain rfl : vb = v0 := by rw [HVB.out]; exact if_pos ⟨he, hii, hnn⟩
                        clear he hii hnn
                        go_wp2_with fail
                        go_roundw
                        case rel => exact ⟨n + 1, by omega, by go_num, HB.out, HT.out⟩
                        case measure => simp [intOf]; omega
                      · have d3 : ((n : Int) == n0) = false := by simpa using hnn
                        obtain rfl : vb = va := by rw [HVB.out]; exact if_neg (fun h => hnn h.2.2)
                        clear he hii hnn
                        go_wp2_with fail
                        go_roundw
                        case rel => exact ⟨n + 1, by omega, by go_num, HB.out, HT.out⟩
                        case measure => simp [intOf]; omega
                    · have d1 : ((i : Int) == id) = false := by simpa using hii
                      obtain rfl : vb = va := by rw [HVB.out]; exact if_neg (fun h => hii h.2.1)
                      clear he hii
                      go_wp2_with fail
                      go_roundw
                      case rel => exact ⟨n + 1, by omega, by go_num, HB.out, HT.out⟩
                      case measure => simp [intOf]; omega
                  · have de : (ec == 0) = false := by simpa using he
                    obtain rfl : vb = va := by rw [HVB.out]; exact if_neg (fun h => he h.1)
                    clear he
                    go_wp2_with fail
                    go_roundw
                    case rel => exact ⟨n + 1, by omega, by go_num, HB.out, HT.out⟩
                    case measure => simp [intOf]; omega
                · obtain rfl : n = 8 := by omega
                  rw [show ((8 : Nat) : Int) = 8 from rfl]
                  go_wp2_with fail
                  obtain ⟨C, hC, hCA⟩ := HB.out.pk
                  cases hP : C.all i with
                  | none =>
                    refine (vgic_none p o' C i hij _ hC hP).mono ?_
                    rintro e w4 ⟨rfl, hw⟩
                    subst hw
                    clear hC hCA hP
                    go_wp2_with fail
                    go_roundw
                    case rel => exact ⟨i + 1, by omega, by go_num, HB.out, HT.out⟩
                    case measure => simp [intOf]; omega
                  | some P =>
                    have hcs : cntA A2 i = (((preL P.S.pe P.S.ac 64).length : Nat) : Int) := by unfold cntA; rw [← hCA, to_some hP]; rfl
                    refine (vgic_some p o' C i hij _ hC P hP).mono ?_
                    rintro e w4 ⟨rfl, hw⟩
                    subst hw
                    have HVG := Lib.hid (hC.vg i P hP)
                    have HCS := Lib.hid hcs
                    clear hC hCA hP hcs
                    by_cases hii : (i : Int) = id
                    · have d1 : ((i : Int) == id) = true := by simpa using hii
                      have d2 : ((i : Int) != id) = false := by simpa using hii
                      go_wp2_with fail
                      go_roundw
                      case rel => exact ⟨i + 1, by omega, by go_num, HB.out, HT.out⟩
                      case measure => simp [intOf]; omega
                    · have d1 : ((i : Int) == id) = false := by simpa using hii
                      have d2 : ((i : Int) != id) = true := by simpa using hii
                      have HCI := Lib.hid (HLAW.out.2 i hii)
                      go_wp2_with fail
                      refine (all_any P.v P.mp P.ma P.S _ HVG.out).mono ?_
                      rintro e w7 ⟨⟨sa, n, g, rfl, hall, hsa⟩, hb7⟩
                      have HB7 := Lib.hid (HB.out.below hb7)
                      have HT7 := Lib.hid (HT.out.below hb7)
                      have HN : cntA A i = (n : Int) := by rw [← HCI.out, HCS.out, hall.1]
                      have HSA := Lib.hid hsa
                      have cy := HT7.out.ry.cell i (by omega)
                      rw [GA_at A (by omega), HN] at cy
                      clear hall hsa hb7 HB HT HVG HCS HCI HN
                      rcases HSA.out with ⟨rfl, rfl⟩ | ⟨qa, capa, Ma, rfl, hca, _, hla⟩
                      · rw [show ((0 : Nat) : Int) = 0 from rfl] at cy
                        go_wp2_with fail
                        go_roundw
                        case rel => exact ⟨i + 1, by omega, by go_num, HB7.out, HT7.out⟩
                        case measure => simp [intOf]; omega
                      · clear hla
                        go_wp2_with fail
                        go_roundw
                        case rel => exact ⟨i + 1, by omega, by go_num, HB7.out, HT7.out⟩
                        case measure => simp [intOf]; omega
            · obtain rfl : i = 6 := by omega
              go_wp2_with fail
              go_ret
              exact ⟨rfl, HB.out.bel⟩
end Go.Proofs.Ytnebjbjdgfaooaa
namespace Go.Proofs.Ytnebjbjdgfaooaa
open Go.Joins Go.ChangeShapes Go.WideShapes Go.ChangeAt Go.RowKit
set_option maxRecDepth 100000
theorem VcpuOwn_lifted (os : Os) (started : os.Started) (H : Type) (enc : TypeId × Value → H) :
    ReturnsInHanded {} Try.checked os 11 .any (Rows.vcpuOwnSpec.pre6 enc Try.prog Try.f11 Rows.vcpuOwnRow.domain false) (Rows.vcpuOwnSpec.post enc Try.prog Try.f11 false true false false) := by
  refine returnsInHanded_of_change (C := Try.checked) own started (by kernel_rfl) Try.func11
    (ChangeSpec.witness6 (enc := enc) (C := Try.checked) false ⟨#[], #[.slice none 0 0, .int .i64 0, .int .i64 0, .int .u32 0, .int .i64 0], []⟩ 8 (by kernel_rfl) (by kernel_rfl) (by kernel_rfl) (by kernel_rfl)) ?_
  intro W base args ds gs before hval0 hW hcnd _
  have hval : ∀ (j : Nat) t v, Try.f11.params[j]? = some t → args[j]? = some v → Value.okWide Try.prog W .any base t v := hval0
  have hW' := hW
  obtain ⟨p, q, hA0, hV, rfl, hfz, hnd⟩ := hW
  have hA : DataW.TrodAll enc Try.prog W 0 (fun _ => true) true Try.f11.params.toList args.toList ds p := hA0
  rw [Try.params11] at hA hval
  obtain ⟨rfl, rfl⟩ := trodVars_none hV
  clear hA0 hval0
  obtain ⟨args⟩ := args
  obtain ⟨v0, vs0, d0, ds0, p0, q0, ha0, rfl, rfl, h0, r0⟩ := trodAll_cons hA
  simp only at ha0
  subst ha0
  obtain ⟨v1, vs1, d1, ds1, p1, q1, ha1, rfl, rfl, h1, r1⟩ := trodAll_cons r0
  subst ha1
  obtain ⟨v2, vs2, d2, ds2, p2, q2, ha2, rfl, rfl, h2, r2⟩ := trodAll_cons r1
  subst ha2
  obtain ⟨v3, vs3, d3, ds3, p3, q3, ha3, rfl, rfl, h3, r3⟩ := trodAll_cons r2
  subst ha3
  obtain ⟨v4, vs4, d4, ds4, p4, q4, ha4, rfl, rfl, h4, r4⟩ := trodAll_cons r3
  subst ha4
  obtain ⟨hn, rfl, rfl⟩ := trodAll_nil r4
  subst hn
  obtain ⟨a, len, cap, rfl, hlen, hacts⟩ := open_acts18 (hval 0 71 v0 rfl rfl) h0
  obtain ⟨id, rfl, _, _, wf_id⟩ := open_int Try.underlying3 (hval 1 3 v1 rfl rfl) h1
  obtain ⟨n0, rfl, _, _, wf_n0⟩ := open_int Try.underlying3 (hval 2 3 v2 rfl rfl) h2
  obtain ⟨v0, rfl, _, _, wf_v0⟩ := open_int Try.underlying63 (hval 3 63 v3 rfl rfl) h3
  obtain ⟨irq, rfl, _, _, wf_irq⟩ := open_int Try.underlying3 (hval 4 3 v4 rfl rfl) h4
  refine (walk_VcpuOwn a len cap id n0 v0 irq W hlen hacts wf_id).mono fun e W' ⟨he, hb⟩ => ⟨_, he, ?_⟩
  exact law_post laidOut (by kernel_rfl) (by kernel_rfl) Try.underlying4 rfl hW' rfl hb

theorem VcpuOwn_over : Rows.vcpuOwnRow.holds Try.pinned (OpenSpec.ofChange Rows.vcpuOwnSpec) :=
  OpenClaim.holds_of_wide 11 Try.f11 rfl rfl rfl rfl rfl rfl rfl ⟨rfl, rfl, rfl, rfl, rfl⟩ rfl rfl rfl rfl rfl (by kernel_rfl) Try.func11 (by kernel_rfl)
    (of_decide_eq_true (by kernel_rfl)) (by unfold Func.isWrapper; first | (rw [if_pos (by decide +kernel)]; kernel_rfl) | (rw [if_neg (by decide +kernel)]; exact ⟨rfl, rfl⟩))
    (fun os started H enc _ => VcpuOwn_lifted os started H enc)

theorem VcpuOwn_holds : Rows.VcpuOwnSaid := VcpuOwn_over
#print axioms VcpuOwn_holds
end Go.Proofs.Ytnebjbjdgfaooaa
