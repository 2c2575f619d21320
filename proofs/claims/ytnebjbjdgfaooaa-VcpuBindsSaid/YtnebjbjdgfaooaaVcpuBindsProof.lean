/- Proved: a virtual processor has one thread, and a thread one virtual processor, at most (viceroylaw18.VcpuBinds returns true for every list of acts), with no condition. -/
import Derived.Test.YtnebjbjdgfaooaaVdO
import Derived.Test.YtnebjbjdgfaooaaVdL
namespace Go.Proofs.Ytnebjbjdgfaooaa
open Go.RowKit
set_option maxRecDepth 100000

open Go.Maps
theorem duo_new {w w1 w2 w3 : World} {p r : Nat} {o q : Own} {C : Pc} {D : Rc} {A B : Am} (b1 : Below w.heap.size w w1) (hC : VcOk w2 o p C) (hA : C.to = A) (hf : ∀ b, Ow o b → w1.heap.size ≤ b) (b2 : Below w1.heap.size w1 w2)
    (hD : RcOk w3 q r D) (hB : D.to = B) (hg : ∀ b, Ow q b → w2.heap.size ≤ b) (b3 : Below w2.heap.size w2 w3) : Duo w w3 p r o q A B :=
  ⟨⟨C, hC.below b3, hA⟩, ⟨D, hD, hB⟩, fun b ho hq => by have := hC.lim b ho; have := hg b hq; omega, fun b hb => by
    have h1 := b1.size
    have h2 := b2.size
    rcases hb with hb | hb
    · have := hf b hb; omega
    · have := hg b hb; omega, b1.trans ((b2.mono b1.size).trans (b3.mono (by have := b1.size; have := b2.size; omega)))⟩
theorem isof_uniq {A : Am} (h : Uq A) {t r i : Int} {a : Ax} (hr : IsOf A t r) (ha : A.all i = some a) (ht : a.th = t) (hn : t ≠ -1) : r = i := by
  rcases hr with ⟨b, hb, hb2, _⟩ | ⟨_, hno⟩
  · exact h r i b a hb ha (by rw [hb2, ht]) (by rw [hb2]; exact hn)
  · exact absurd (hno i a ha ht) hn
def thA (A : Am) (i : Int) : Int := match A.all i with | none => -1 | some a => a.th
theorem hth {w0 w : World} {p r : Nat} {o o2 : Own} {A B : Am} (h : Duo w0 w p r o o2 A B) (id : Int) (hid : i64 id) : Calls Try.prog 42 #[.pointer (some ⟨p, 0, none⟩), .int .i64 id] w fun e w' => e = .returned (.int .i64 (thA A id)) ∧ w' = w := by
  obtain ⟨C, hC, rfl⟩ := h.pk
  cases hP : C.all id with
  | none => rw [show thA C.to id = -1 by unfold thA; rw [to_none hP]]; exact thread_none p o C id hid w hC hP
  | some P => rw [show thA C.to id = P.th by unfold thA; rw [to_some hP]; rfl]; exact thread_some p o C id hid w hC P hP
theorem hof {w0 w : World} {p r : Nat} {o o2 : Own} {A B : Am} (h : Duo w0 w p r o o2 A B) (t : Int) : Calls Try.prog 43 #[.pointer (some ⟨p, 0, none⟩), .int .i64 t] w fun e w' => (∃ z, e = .returned (.int .i64 z) ∧ IsOf A t z) ∧ Duo w0 w' p r o o2 A B := by
  obtain ⟨C, hC, hCA⟩ := h.pk
  refine (cof_any p o C t w hC).mono ?_
  rw [hCA]
  rintro e w1 ⟨h1, h2⟩
  exact ⟨h1, h.below h2⟩
theorem isof_dom {w0 w : World} {p r : Nat} {o o2 : Own} {A B : Am} (h : Duo w0 w p r o o2 A B) {i : Int} {a : Ax} (ha : A.all i = some a) : 0 ≤ i ∧ i < 1024 := by
  obtain ⟨C, hC, rfl⟩ := h.pk
  obtain ⟨P, hP, _⟩ := to_inv ha
  exact hC.dom hP

set_option maxHeartbeats 32000000 in
theorem walk_VcpuBinds (a : Option Addr) (len cap : Nat) (w : World) (hlen : len ≤ maxLen) (hacts : Acts18 w a len) :
    Calls Try.prog 12 #[.slice a len cap] w fun e w' => e = .returned (.bool true) ∧ Below w.heap.size w w' := by
  have HA := Lib.hid hacts; clear hacts
  unfold maxLen at hlen
  go_enter Try.func12, Try.ntmps12
  go_wp2_with fail
  refine (cawake_any _).mono ?_
  rintro e w1 ⟨rfl, hb1⟩
  have B1 := Lib.hid hb1; clear hb1
  go_wp2_with fail
  refine (cnew_ok 1 (by omega) (by omega) _).mono ?_
  rintro e w2 ⟨p, o0, C0', rfl, hok, hto, hfr, hb2⟩
  have HP := Lib.hid (And.intro hok (And.intro hto (And.intro hfr hb2)))
  clear hok hto hfr hb2
  go_wp2_with fail
  refine (rnew18_ok 1 (by omega) (by omega) _).mono ?_
  rintro e w3 ⟨r, q0, D0, rfl, hok, hto, hfr, hb3⟩
  have HB3 : Hid (Duo w w3 p r o0 q0 (A0 1) (A0 1)) := Lib.hid (duo_new B1.out HP.out.1 HP.out.2.1 HP.out.2.2.1 HP.out.2.2.2 hok hto hfr hb3)
  clear hok hto hfr hb3
  go_wp2_with fail
  go_loopw [8] (fun v8 wr => ∃ (k : Nat) (A : Am) (o o2 : Own), k ≤ 100 ∧ k ≤ len ∧ v8 = .int .i64 k ∧ Duo w wr p r o o2 A A ∧ A.lrs = 1 ∧ Uq A) (fun v8 _ => 100 - (intOf v8).toNat)
  case atStart => exact ⟨0, A0 1, o0, q0, by omega, by omega, rfl, HB3.out, rfl, Uq.A0 _⟩
  case round =>
    clear HB3
    obtain ⟨k, A, o, o2, hk, hkl, rfl, hduo, hlrs, huq⟩ := hrel
    have HB := Lib.hid hduo; have HS := Lib.hid hlrs; have HU := Lib.hid huq; clear hduo hlrs huq
    by_cases hlt : k < len
    · by_cases hlm : k < 100
      · rename_i wr _
        obtain ⟨b, off, d, id, n, m, bk, on, rfl, hid, d0, d1, d2, d3, d4, d12⟩ := HA.out k hlt
        have hbl : b < w.heap.size := World.block_lt_of_cell? w _ d0
        have c0 : wr.cell? ⟨b, off + k * 13, none⟩ = some (.int .i64 d) := (HB.out.bel.cell (p := ⟨b, off + k * 13, none⟩) hbl).trans d0
        have c1 : wr.cell? ⟨b, off + k * 13 + 1, none⟩ = some (.int .i64 id) := (HB.out.bel.cell (p := ⟨b, off + k * 13 + 1, none⟩) hbl).trans d1
        have c2 : wr.cell? ⟨b, off + k * 13 + 2, none⟩ = some (.int .i64 n) := (HB.out.bel.cell (p := ⟨b, off + k * 13 + 2, none⟩) hbl).trans d2
        have c3 : wr.cell? ⟨b, off + k * 13 + 3, none⟩ = some (.int .i64 m) := (HB.out.bel.cell (p := ⟨b, off + k * 13 + 3, none⟩) hbl).trans d3
        have c4 : wr.cell? ⟨b, off + k * 13 + 4, none⟩ = some (.int .u32 (bk 0)) := (HB.out.bel.cell (p := ⟨b, off + k * 13 + 4, none⟩) hbl).trans (d4 0 (by omega))
        have c5 : wr.cell? ⟨b, off + k * 13 + 5, none⟩ = some (.int .u32 (bk 1)) := (HB.out.bel.cell (p := ⟨b, off + k * 13 + 5, none⟩) hbl).trans (d4 1 (by omega))
        have c6 : wr.cell? ⟨b, off + k * 13 + 6, none⟩ = some (.int .u32 (bk 2)) := (HB.out.bel.cell (p := ⟨b, off + k * 13 + 6, none⟩) hbl).trans (d4 2 (by omega))
        have c7 : wr.cell? ⟨b, off + k * 13 + 7, none⟩ = some (.int .u32 (bk 3)) := (HB.out.bel.cell (p := ⟨b, off + k * 13 + 7, none⟩) hbl).trans (d4 3 (by omega))
        have c8 : wr.cell? ⟨b, off + k * 13 + 8, none⟩ = some (.int .u32 (bk 4)) := (HB.out.bel.cell (p := ⟨b, off + k * 13 + 8, none⟩) hbl).trans (d4 4 (by omega))
        have c9 : wr.cell? ⟨b, off + k * 13 + 9, none⟩ = some (.int .u32 (bk 5)) := (HB.out.bel.cell (p := ⟨b, off + k * 13 + 9, none⟩) hbl).trans (d4 5 (by omega))
        have c10 : wr.cell? ⟨b, off + k * 13 + 10, none⟩ = some (.int .u32 (bk 6)) := (HB.out.bel.cell (p := ⟨b, off + k * 13 + 10, none⟩) hbl).trans (d4 6 (by omega))
        have c11 : wr.cell? ⟨b, off + k * 13 + 11, none⟩ = some (.int .u32 (bk 7)) := (HB.out.bel.cell (p := ⟨b, off + k * 13 + 11, none⟩) hbl).trans (d4 7 (by omega))
        have c12 : wr.cell? ⟨b, off + k * 13 + 12, none⟩ = some (.bool on) := (HB.out.bel.cell (p := ⟨b, off + k * 13 + 12, none⟩) hbl).trans d12
        go_wp2_with fail
        clear d0 d1 d2 d3 d4 d12 c0 c1 c2 c3 c4 c5 c6 c7 c8 c9 c10 c11 c12
        obtain ⟨tk, htk⟩ := taken_bool A n
        refine (does18_any w p r o o2 A A d id n m bk on tk tk hid (by rw [HS.out]; omega) (by rw [HS.out]; omega) htk htk (fun _ => rfl) _ HB.out).mono ?_
        have HL2 := Lib.hid ((lrs_act A d id n m bk on tk).trans HS.out)
        have HU2 := Lib.hid (uq_act HU.out d id n m bk on tk htk)
        obtain ⟨A1, hA1⟩ : ∃ X, actS A d id n m bk on tk = X := ⟨_, rfl⟩
        rw [hA1] at HL2 HU2 ⊢
        clear hA1 htk
        rintro e w4 ⟨⟨bb, rfl, hbb⟩, o', o2', hd, _, _, _⟩
        have HD := Lib.hid hd
        have HBB := Lib.hid (hbb rfl)
        clear hd hbb HB HS HU
        go_wp2_with fail
        go_roundw
        case rel => exact ⟨k + 1, A1, o', o2', by omega, by omega, by go_num, HD.out, HL2.out, HU2.out⟩
        case measure => simp [intOf]; omega
      · go_wp2_with fail
        go_loopw [9, 10, 11, 12, 13] (fun v9 _ _ _ _ wr => ∃ j : Nat, j ≤ 6 ∧ v9 = .int .i64 j ∧ Duo w wr p r o o2 A A) (fun v9 _ _ _ _ _ => 6 - (intOf v9).toNat)
        case atStart => exact ⟨0, by omega, rfl, HB.out⟩
        case round =>
          clear HB
          obtain ⟨j, hj, rfl, hduo⟩ := hrel
          have HB := Lib.hid hduo; clear hduo
          by_cases hlj : j < 6
          · have hdj : decide ((j : Int) < 6) = true := by simp; omega
            have hij : i64 (j : Int) := i64_of (by omega)
            go_wp2_with fail
            refine (hth HB.out j hij).mono ?_
            obtain ⟨t, ht⟩ : ∃ t, thA A j = t := ⟨_, rfl⟩
            rw [ht]
            have HT := Lib.hid ht
            clear ht
            rintro e w4 ⟨rfl, hw⟩
            subst hw
            by_cases h0 : 0 ≤ t
            · have dt : decide (0 ≤ t) = true := by simpa using h0
              have hta : ∃ a, A.all j = some a ∧ a.th = t := by
                have h := HT.out
                unfold thA at h
                cases ha : A.all j with
                | none => rw [ha] at h; simp only at h; omega
                | some a => rw [ha] at h; exact ⟨a, rfl, h⟩
              have HTA := Lib.hid hta
              clear hta
              go_wp2_with fail
              refine (hof HB.out t).mono ?_
              rintro e w5 ⟨⟨z, rfl, hz⟩, hduo⟩
              obtain rfl : z = (j : Int) := by
                obtain ⟨a, ha, hat⟩ := HTA.out
                exact isof_uniq HU.out hz ha hat (by omega)
              have HB1 := Lib.hid hduo
              clear hduo hz HB
              have HB := HB1
              clear HB1
              go_wp2_with fail
              refine (hof HB.out j).mono ?_
              rintro e w6 ⟨⟨z, rfl, hz⟩, hduo⟩
              have HB1 := Lib.hid hduo
              clear hduo HB
              by_cases hz0 : 0 ≤ z
              · have dz : decide (0 ≤ z) = true := by simpa using hz0
                obtain ⟨a, ha, hat⟩ : ∃ a, A.all z = some a ∧ a.th = (j : Int) := by
                  rcases hz with ⟨a, ha, hat, _⟩ | ⟨e, _⟩
                  · exact ⟨a, ha, hat⟩
                  · omega
                have hzd := isof_dom HB1.out ha
                have HTZ : Hid (thA A z = (j : Int)) := Lib.hid (by unfold thA; rw [ha]; exact hat)
                clear hz ha hat
                go_wp2_with fail
                refine (hth HB1.out z (i64_of (by omega))).mono ?_
                rw [HTZ.out]
                rintro e w7 ⟨rfl, hw⟩
                subst hw
                go_wp2_with fail
                go_roundw
                case rel => exact ⟨j + 1, by omega, by go_num, HB1.out⟩
                case measure => simp [intOf]; omega
              · have dz : decide (0 ≤ z) = false := by simpa using hz0
                clear hz
                go_wp2_with fail
                go_roundw
                case rel => exact ⟨j + 1, by omega, by go_num, HB1.out⟩
                case measure => simp [intOf]; omega
            · have dt : decide (0 ≤ t) = false := by simpa using h0
              go_wp2_with fail
              refine (hof HB.out j).mono ?_
              rintro e w6 ⟨⟨z, rfl, hz⟩, hduo⟩
              have HB1 := Lib.hid hduo
              clear hduo HB
              by_cases hz0 : 0 ≤ z
              · have dz : decide (0 ≤ z) = true := by simpa using hz0
                obtain ⟨a, ha, hat⟩ : ∃ a, A.all z = some a ∧ a.th = (j : Int) := by
                  rcases hz with ⟨a, ha, hat, _⟩ | ⟨e, _⟩
                  · exact ⟨a, ha, hat⟩
                  · omega
                have hzd := isof_dom HB1.out ha
                have HTZ : Hid (thA A z = (j : Int)) := Lib.hid (by unfold thA; rw [ha]; exact hat)
                clear hz ha hat
                go_wp2_with fail
                refine (hth HB1.out z (i64_of (by omega))).mono ?_
                rw [HTZ.out]
                rintro e w7 ⟨rfl, hw⟩
                subst hw
                go_wp2_with fail
                go_roundw
                case rel => exact ⟨j + 1, by omega, by go_num, HB1.out⟩
                case measure => simp [intOf]; omega
              · have dz : decide (0 ≤ z) = false := by simpa using hz0
                clear hz
                go_wp2_with fail
                go_roundw
                case rel => exact ⟨j + 1, by omega, by go_num, HB1.out⟩
                case measure => simp [intOf]; omega
          · obtain rfl : j = 6 := by omega
            go_wp2_with fail
            refine (hof HB.out (-1)).mono ?_
            rintro e w5 ⟨⟨z, rfl, hz⟩, hduo⟩
            obtain rfl : z = -1 := by
              rcases hz with ⟨_, _, _, hn⟩ | ⟨e, _⟩
              · exact absurd rfl hn
              · exact e
            have HB1 := Lib.hid hduo
            clear hduo hz
            go_wp2_with fail
            go_ret
            exact ⟨rfl, HB1.out.bel⟩
    · go_wp2_with fail
      go_loopw [9, 10, 11, 12, 13] (fun v9 _ _ _ _ wr => ∃ j : Nat, j ≤ 6 ∧ v9 = .int .i64 j ∧ Duo w wr p r o o2 A A) (fun v9 _ _ _ _ _ => 6 - (intOf v9).toNat)
      case atStart => exact ⟨0, by omega, rfl, HB.out⟩
      case round =>
        clear HB
        obtain ⟨j, hj, rfl, hduo⟩ := hrel
        have HB := Lib.hid hduo; clear hduo
        by_cases hlj : j < 6
        · have hdj : decide ((j : Int) < 6) = true := by simp; omega
          have hij : i64 (j : Int) := i64_of (by omega)
          go_wp2_with fail
          refine (hth HB.out j hij).mono ?_
          obtain ⟨t, ht⟩ : ∃ t, thA A j = t := ⟨_, rfl⟩
          rw [ht]
          have HT := Lib.hid ht
          clear ht
          rintro e w4 ⟨rfl, hw⟩
          subst hw
          by_cases h0 : 0 ≤ t
          · have dt : decide (0 ≤ t) = true := by simpa using h0
            have hta : ∃ a, A.all j = some a ∧ a.th = t := by
              have h := HT.out
              unfold thA at h
              cases ha : A.all j with
              | none => rw [ha] at h; simp only at h; omega
              | some a => rw [ha] at h; exact ⟨a, rfl, h⟩
            have HTA := Lib.hid hta
            clear hta
            go_wp2_with fail
            refine (hof HB.out t).mono ?_
            rintro e w5 ⟨⟨z, rfl, hz⟩, hduo⟩
            obtain rfl : z = (j : Int) := by
              obtain ⟨a, ha, hat⟩ := HTA.out
              exact isof_uniq HU.out hz ha hat (by omega)
            have HB1 := Lib.hid hduo
            clear hduo hz HB
            have HB := HB1
            clear HB1
            go_wp2_with fail
            refine (hof HB.out j).mono ?_
            rintro e w6 ⟨⟨z, rfl, hz⟩, hduo⟩
            have HB1 := Lib.hid hduo
            clear hduo HB
            by_cases hz0 : 0 ≤ z
            · have dz : decide (0 ≤ z) = true := by simpa using hz0
              obtain ⟨a, ha, hat⟩ : ∃ a, A.all z = some a ∧ a.th = (j : Int) := by
                rcases hz with ⟨a, ha, hat, _⟩ | ⟨e, _⟩
                · exact ⟨a, ha, hat⟩
                · omega
              have hzd := isof_dom HB1.out ha
              have HTZ : Hid (thA A z = (j : Int)) := Lib.hid (by unfold thA; rw [ha]; exact hat)
              clear hz ha hat
              go_wp2_with fail
              refine (hth HB1.out z (i64_of (by omega))).mono ?_
              rw [HTZ.out]
              rintro e w7 ⟨rfl, hw⟩
              subst hw
              go_wp2_with fail
              go_roundw
              case rel => exact ⟨j + 1, by omega, by go_num, HB1.out⟩
              case measure => simp [intOf]; omega
            · have dz : decide (0 ≤ z) = false := by simpa using hz0
              clear hz
              go_wp2_with fail
              go_roundw
              case rel => exact ⟨j + 1, by omega, by go_num, HB1.out⟩
              case measure => simp [intOf]; omega
          · have dt : decide (0 ≤ t) = false := by simpa using h0
            go_wp2_with fail
            refine (hof HB.out j).mono ?_
            rintro e w6 ⟨⟨z, rfl, hz⟩, hduo⟩
            have HB1 := Lib.hid hduo
            clear hduo HB
            by_cases hz0 : 0 ≤ z
            · have dz : decide (0 ≤ z) = true := by simpa using hz0
              obtain ⟨a, ha, hat⟩ : ∃ a, A.all z = some a ∧ a.th = (j : Int) := by
                rcases hz with ⟨a, ha, hat, _⟩ | ⟨e, _⟩
                · exact ⟨a, ha, hat⟩
                · omega
              have hzd := isof_dom HB1.out ha
              have HTZ : Hid (thA A z = (j : Int)) := Lib.hid (by unfold thA; rw [ha]; exact hat)
              clear hz ha hat
              go_wp2_with fail
              refine (hth HB1.out z (i64_of (by omega))).mono ?_
              rw [HTZ.out]
              rintro e w7 ⟨rfl, hw⟩
              subst hw
              go_wp2_with fail
              go_roundw
              case rel => exact ⟨j + 1, by omega, by go_num, HB1.out⟩
              case measure => simp [intOf]; omega
            · have dz : decide (0 ≤ z) = false := by simpa using hz0
              clear hz
              go_wp2_with fail
              go_roundw
              case rel => exact ⟨j + 1, by omega, by go_num, HB1.out⟩
              case measure => simp [intOf]; omega
        · obtain rfl : j = 6 := by omega
          go_wp2_with fail
          refine (hof HB.out (-1)).mono ?_
          rintro e w5 ⟨⟨z, rfl, hz⟩, hduo⟩
          obtain rfl : z = -1 := by
            rcases hz with ⟨_, _, _, hn⟩ | ⟨e, _⟩
            · exact absurd rfl hn
            · exact e
          have HB1 := Lib.hid hduo
          clear hduo hz
          go_wp2_with fail
          go_ret
          exact ⟨rfl, HB1.out.bel⟩
end Go.Proofs.Ytnebjbjdgfaooaa
namespace Go.Proofs.Ytnebjbjdgfaooaa
open Go.Joins Go.ChangeShapes Go.WideShapes Go.ChangeAt Go.RowKit
set_option maxRecDepth 100000
theorem VcpuBinds_lifted (os : Os) (started : os.Started) (H : Type) (enc : TypeId × Value → H) :
    ReturnsInHanded {} Try.checked os 12 .any (Rows.vcpuBindsSpec.pre6 enc Try.prog Try.f12 Rows.vcpuBindsRow.domain false) (Rows.vcpuBindsSpec.post enc Try.prog Try.f12 false true false false) := by
  refine returnsInHanded_of_change (C := Try.checked) own started (by kernel_rfl) Try.func12
    (ChangeSpec.witness6 (enc := enc) (C := Try.checked) false ⟨#[], #[.slice none 0 0], []⟩ 8 (by kernel_rfl) (by kernel_rfl) (by kernel_rfl) (by kernel_rfl)) ?_
  intro W base args ds gs before hval0 hW hcnd _
  have hval : ∀ (j : Nat) t v, Try.f12.params[j]? = some t → args[j]? = some v → Value.okWide Try.prog W .any base t v := hval0
  have hW' := hW
  obtain ⟨p, q, hA0, hV, rfl, hfz, hnd⟩ := hW
  have hA : DataW.TrodAll enc Try.prog W 0 (fun _ => true) true Try.f12.params.toList args.toList ds p := hA0
  rw [Try.params12] at hA hval
  obtain ⟨rfl, rfl⟩ := trodVars_none hV
  clear hA0 hval0
  obtain ⟨args⟩ := args
  obtain ⟨v0, vs0, d0, ds0, p0, q0, ha0, rfl, rfl, h0, r0⟩ := trodAll_cons hA
  simp only at ha0
  subst ha0
  obtain ⟨hn, rfl, rfl⟩ := trodAll_nil r0
  subst hn
  obtain ⟨a, len, cap, rfl, hlen, hacts⟩ := open_acts18 (hval 0 71 v0 rfl rfl) h0
  refine (walk_VcpuBinds a len cap W hlen hacts).mono fun e W' ⟨he, hb⟩ => ⟨_, he, ?_⟩
  exact law_post laidOut (by kernel_rfl) (by kernel_rfl) Try.underlying4 rfl hW' rfl hb

theorem VcpuBinds_over : Rows.vcpuBindsRow.holds Try.pinned (OpenSpec.ofChange Rows.vcpuBindsSpec) :=
  OpenClaim.holds_of_wide 12 Try.f12 rfl rfl rfl rfl rfl rfl rfl ⟨rfl, rfl, rfl, rfl, rfl⟩ rfl rfl rfl rfl rfl (by kernel_rfl) Try.func12 (by kernel_rfl)
    (of_decide_eq_true (by kernel_rfl)) (by unfold Func.isWrapper; first | (rw [if_pos (by decide +kernel)]; kernel_rfl) | (rw [if_neg (by decide +kernel)]; exact ⟨rfl, rfl⟩))
    (fun os started H enc _ => VcpuBinds_lifted os started H enc)

theorem VcpuBinds_holds : Rows.VcpuBindsSaid := VcpuBinds_over
#print axioms VcpuBinds_holds
end Go.Proofs.Ytnebjbjdgfaooaa
