/- Proved: whatever virtual processors come and go, are bound, entered and left, read and written, whatever is injected and ticks, each answer, register and interrupt is as the document says (viceroylaw18.VcpuPlays returns true for all numbers of list registers and every list of acts), with no condition. -/
import Derived.Test.YtnebjbjdgfaooaaVdO
import Derived.Test.YtnebjbjdgfaooaaVdS
namespace Go.Proofs.Ytnebjbjdgfaooaa
open Go.RowKit
set_option maxRecDepth 100000

open Go.Maps
theorem rngA_upd {A : Am} (h : RngA A) {i : Int} {x : Option Ax} (hx : ∀ x', x = some x' → Rng x'.S) (L : Int) : RngA { A with loaded := L, all := updQ A.all i x } := by
  intro k a ha
  have ha' : updQ A.all i x k = some a := ha
  by_cases hk : k = i
  · rw [hk, updQ_same] at ha'; exact hx a ha'
  · rw [updQ_other _ _ hk] at ha'; exact h k a ha'
theorem rngA_inj {A : Am} (h : RngA A) (id irq pr : Int) (lv : Bool) : RngA (injectA A id irq pr lv).1 := by
  unfold injectA
  cases ha : A.all id with
  | none => exact h
  | some a => exact rngA_upd h (fun x' hx => by cases hx; exact (h id a ha).inj irq pr lv) A.loaded
theorem rngA_tick1 {A : Am} (h : RngA A) {a : Ax} (ha : A.all A.loaded = some a) : RngA (tick1 A a) := by
  unfold tick1
  exact rngA_upd h (fun x' hx => by cases hx; exact h _ a ha) A.loaded
theorem rngA_act {A : Am} (h : RngA A) (d id n m : Int) (bk : Nat → Int) (on tk : Bool) : RngA (actS A d id n m bk on tk) := by
  unfold actS
  split
  · unfold addA
    split
    · split
      · exact h
      · exact rngA_upd h (fun x' hx => by cases hx; exact Rng.V0 _) A.loaded
    · exact h
  split
  · unfold dropA
    split
    · exact h
    · exact rngA_upd h (fun x' hx => by cases hx) _
  split
  · unfold bindA
    split
    · exact h
    · rename_i a ha
      split
      · split
        · exact h
        · exact rngA_upd h (fun x' hx => by cases hx; exact h id a ha) A.loaded
      · exact h
  split
  · unfold unbindA
    split
    · exact h
    · rename_i a ha
      split
      · exact h
      · exact rngA_upd h (fun x' hx => by cases hx; exact h id a ha) A.loaded
  split
  · unfold enterA
    split
    · exact h
    · exact h
  split
  · exact h
  split
  · unfold setbankA
    split
    · exact h
    · split
      · rename_i a ha
        exact rngA_upd h (fun x' hx => by cases hx; exact h _ a ha) A.loaded
      · exact h
  split
  · unfold writeA
    split
    · exact h
    · split
      · rename_i a ha _
        exact rngA_upd h (fun x' hx => by cases hx; exact h _ a ha) A.loaded
      · exact h
  split
  · exact rngA_inj h id n m on
  split
  · unfold tickA
    split
    · exact h
    · rename_i a ha
      split
      · exact rngA_tick1 h ha
      · exact rngA_inj (rngA_tick1 h ha) _ _ _ _
  split
  · unfold ackA
    split
    · exact h
    · rename_i a ha
      exact rngA_upd h (fun x' hx => by cases hx; exact (h id a ha).ack) A.loaded
  · exact h

set_option maxHeartbeats 32000000 in
theorem walk_VcpuPlays (L1 : Int) (a : Option Addr) (len cap : Nat) (w : World) (hlen : len ≤ maxLen) (hacts : Acts18 w a len) :
    Calls Try.prog 13 #[.int .i64 L1, .slice a len cap] w fun e w' => e = .returned (.bool true) ∧ Below w.heap.size w w' := by
  have HA := Lib.hid hacts; clear hacts
  unfold maxLen at hlen
  by_cases h1 : 1 ≤ L1 ∧ L1 ≤ 16
  ·
    have HLP := Lib.hid h1
    clear h1
    go_enter Try.func13, Try.ntmps13
    go_wp2_with fail
    refine (cawake_any _).mono ?_
    rintro e w1 ⟨rfl, hb1⟩
    have B1 := Lib.hid hb1; clear hb1
    go_wp2_with fail
    refine (cnew_ok L1 HLP.out.1 HLP.out.2 _).mono ?_
    rintro e w2 ⟨p, o0, C0', rfl, hok, hto, hfr, hb2⟩
    have HP := Lib.hid (And.intro hok (And.intro hto (And.intro hfr hb2)))
    clear hok hto hfr hb2
    go_wp2_with fail
    refine (rnew18_ok L1 HLP.out.1 HLP.out.2 _).mono ?_
    rintro e w3 ⟨r, q0, D0, rfl, hok, hto, hfr, hb3⟩
    have HB3 : Hid (Duo w w3 p r o0 q0 (A0 L1) (A0 L1)) := Lib.hid (duo_new B1.out HP.out.1 HP.out.2.1 HP.out.2.2.1 HP.out.2.2.2 hok hto hfr hb3)
    clear hok hto hfr hb3
    go_wp2_with fail
    go_loopw [10, 11, 12] (fun v10 _ _ wr => ∃ (k : Nat) (A : Am) (o o2 : Own), k ≤ 100 ∧ k ≤ len ∧ v10 = .int .i64 k ∧ Duo w wr p r o o2 A A ∧ A.lrs = L1 ∧ Uq A ∧ RngA A) (fun v10 _ _ _ => 100 - (intOf v10).toNat)
    case atStart => exact ⟨0, A0 L1, o0, q0, by omega, by omega, rfl, HB3.out, rfl, Uq.A0 _, fun i a ha => (by cases ha)⟩
    case round =>
      clear HB3
      obtain ⟨k, A, o, o2, hk, hkl, rfl, hduo, hlrs, huq, hrng⟩ := hrel
      have HB := Lib.hid hduo; have HS := Lib.hid hlrs; have HU := Lib.hid huq; have HG := Lib.hid hrng; clear hduo hlrs huq hrng
      by_cases hlt : k < len
      · by_cases hlm : k < 100
        · rename_i wr _
          obtain ⟨b, off, d, id, n, m, bk, on, rfl, hid, d0, d1, d2, d3, d4, d12⟩ := HA.out k hlt
          have hbl : b < w.heap.size := World.block_lt_of_cell? w _ d0
          have c0 : wr.cell? ⟨b, off + k * 13, none⟩ = some (.int .i64 d) := (HB.out.bel.cell (p := ⟨b, off + k * 13, none⟩) hbl).trans d0
          have c1 : wr.cell? ⟨b, off + k * 13 + 1, none⟩ = some (.int .i64 id) := (HB.out.bel.cell (p := ⟨b, off + k * 13 + 1, none⟩) hbl).trans d1
          have c2 : wr.cell? ⟨b, off + k * 13 + 2, none⟩ = some (.int .i64 n) := (HB.out.bel.cell (p := ⟨b, off + k * 13 + 2, none⟩) hbl).trans d2
          have c3 : wr.cell? ⟨b, off + k * 13 + 3, none⟩ = some (.int .i64 m) := (HB.out.bel.cell (p := ⟨b, off + k * 13 + 3, none⟩) hbl).trans d3
          have c4 : wr.cell? ⟨b, off + k * 13 + 4, none⟩ = some (.int .u32 (bk 0)) := (HB.out.bel.cell (p := ⟨b, off + k * 13 + 4, none⟩) hbl).trans (d4 0 (by omega))
          have c5 : wr.cell? ⟨b, off + k * 13 + 5, none⟩ = some (.int .u32 (bk 1)) := (HB.out.bel.cell (p := ⟨b, off + k * 13 + 5, none⟩) hbl).trans (d4 1 (by omega))
          have c6 : wr.cell? ⟨b, off + k * 13 + 6, none⟩ = some (.int .u32 (bk 2)) := (HB.out.bel.cell (p := ⟨b, off + k * 13 + 6, none⟩) hbl).trans (d4 2 (by omega))
          have c7 : wr.cell? ⟨b, off + k * 13 + 7, none⟩ = some (.int .u32 (bk 3)) := (HB.out.bel.cell (p := ⟨b, off + k * 13 + 7, none⟩) hbl).trans (d4 3 (by omega))
          have c8 : wr.cell? ⟨b, off + k * 13 + 8, none⟩ = some (.int .u32 (bk 4)) := (HB.out.bel.cell (p := ⟨b, off + k * 13 + 8, none⟩) hbl).trans (d4 4 (by omega))
          have c9 : wr.cell? ⟨b, off + k * 13 + 9, none⟩ = some (.int .u32 (bk 5)) := (HB.out.bel.cell (p := ⟨b, off + k * 13 + 9, none⟩) hbl).trans (d4 5 (by omega))
          have c10 : wr.cell? ⟨b, off + k * 13 + 10, none⟩ = some (.int .u32 (bk 6)) := (HB.out.bel.cell (p := ⟨b, off + k * 13 + 10, none⟩) hbl).trans (d4 6 (by omega))
          have c11 : wr.cell? ⟨b, off + k * 13 + 11, none⟩ = some (.int .u32 (bk 7)) := (HB.out.bel.cell (p := ⟨b, off + k * 13 + 11, none⟩) hbl).trans (d4 7 (by omega))
          have c12 : wr.cell? ⟨b, off + k * 13 + 12, none⟩ = some (.bool on) := (HB.out.bel.cell (p := ⟨b, off + k * 13 + 12, none⟩) hbl).trans d12
          go_wp2_with fail
          clear d0 d1 d2 d3 d4 d12 c0 c1 c2 c3 c4 c5 c6 c7 c8 c9 c10 c11 c12
          obtain ⟨tk, htk⟩ := taken_bool A n
          refine (does18_any w p r o o2 A A d id n m bk on tk tk hid (by rw [HS.out]; exact HLP.out) (by rw [HS.out]; exact HLP.out) htk htk (fun _ => rfl) _ HB.out).mono ?_
          have HL2 := Lib.hid ((lrs_act A d id n m bk on tk).trans HS.out)
          have HU2 := Lib.hid (uq_act HU.out d id n m bk on tk htk)
          obtain ⟨A1, hA1⟩ : ∃ X, actS A d id n m bk on tk = X := ⟨_, rfl⟩
          rw [hA1] at HL2 HU2 ⊢
          clear htk
          rintro e w4 ⟨⟨bb, rfl, hbb⟩, o', o2', hd, _, _, _⟩
          have HD := Lib.hid hd
          have HBB := Lib.hid (hbb rfl)
          clear hd hbb HB HS HU
          obtain rfl : bb = true := HBB.out
          have HG2 := Lib.hid (rngA_act HG.out d id n m bk on tk)
          rw [hA1] at HG2
          clear hA1 HBB HG
          go_wp2_with fail
          refine (same18_any w p r o' o2' A1 _ HD.out HU2.out HG2.out).mono ?_
          rintro e w5 ⟨rfl, hd5⟩
          have HD5 := Lib.hid hd5
          clear hd5 HD
          go_wp2_with fail
          go_roundw
          case rel => exact ⟨k + 1, A1, o', o2', by omega, by omega, by go_num, HD5.out, HL2.out, HU2.out, HG2.out⟩
          case measure => simp [intOf]; omega
        · go_wp2_with fail
          go_ret
          exact ⟨rfl, HB.out.bel⟩
      · go_wp2_with fail
        go_ret
        exact ⟨rfl, HB.out.bel⟩
  ·
    go_enter Try.func13, Try.ntmps13
    go_wp2_with fail
    refine (cawake_any _).mono ?_
    rintro e w1 ⟨rfl, hb1⟩
    have B1 := Lib.hid hb1; clear hb1
    go_wp2_with fail
    refine (cnew_err L1 h1 _).mono ?_
    rintro e w2 ⟨rfl, hw⟩
    subst hw
    go_wp2_with fail
    refine (rnew18_err L1 h1 _).mono ?_
    rintro e w3 ⟨rfl, hw⟩
    subst hw
    go_wp2_with fail
    go_ret
    exact ⟨rfl, B1.out⟩
end Go.Proofs.Ytnebjbjdgfaooaa
namespace Go.Proofs.Ytnebjbjdgfaooaa
open Go.Joins Go.ChangeShapes Go.WideShapes Go.ChangeAt Go.RowKit
set_option maxRecDepth 100000
theorem VcpuPlays_lifted (os : Os) (started : os.Started) (H : Type) (enc : TypeId × Value → H) :
    ReturnsInHanded {} Try.checked os 13 .any (Rows.vcpuPlaysSpec.pre6 enc Try.prog Try.f13 Rows.vcpuPlaysRow.domain false) (Rows.vcpuPlaysSpec.post enc Try.prog Try.f13 false true false false) := by
  refine returnsInHanded_of_change (C := Try.checked) own started (by kernel_rfl) Try.func13
    (ChangeSpec.witness6 (enc := enc) (C := Try.checked) false ⟨#[], #[.int .i64 0, .slice none 0 0], []⟩ 8 (by kernel_rfl) (by kernel_rfl) (by kernel_rfl) (by kernel_rfl)) ?_
  intro W base args ds gs before hval0 hW hcnd _
  have hval : ∀ (j : Nat) t v, Try.f13.params[j]? = some t → args[j]? = some v → Value.okWide Try.prog W .any base t v := hval0
  have hW' := hW
  obtain ⟨p, q, hA0, hV, rfl, hfz, hnd⟩ := hW
  have hA : DataW.TrodAll enc Try.prog W 0 (fun _ => true) true Try.f13.params.toList args.toList ds p := hA0
  rw [Try.params13] at hA hval
  obtain ⟨rfl, rfl⟩ := trodVars_none hV
  clear hA0 hval0
  obtain ⟨args⟩ := args
  obtain ⟨v0, vs0, d0, ds0, p0, q0, ha0, rfl, rfl, h0, r0⟩ := trodAll_cons hA
  simp only at ha0
  subst ha0
  obtain ⟨v1, vs1, d1, ds1, p1, q1, ha1, rfl, rfl, h1, r1⟩ := trodAll_cons r0
  subst ha1
  obtain ⟨hn, rfl, rfl⟩ := trodAll_nil r1
  subst hn
  obtain ⟨L1, rfl, _, _, wf_L1⟩ := open_int Try.underlying3 (hval 0 3 v0 rfl rfl) h0
  obtain ⟨a, len, cap, rfl, hlen, hacts⟩ := open_acts18 (hval 1 71 v1 rfl rfl) h1
  refine (walk_VcpuPlays L1 a len cap W hlen hacts).mono fun e W' ⟨he, hb⟩ => ⟨_, he, ?_⟩
  exact law_post laidOut (by kernel_rfl) (by kernel_rfl) Try.underlying4 rfl hW' rfl hb

theorem VcpuPlays_over : Rows.vcpuPlaysRow.holds Try.pinned (OpenSpec.ofChange Rows.vcpuPlaysSpec) :=
  OpenClaim.holds_of_wide 13 Try.f13 rfl rfl rfl rfl rfl rfl rfl ⟨rfl, rfl, rfl, rfl, rfl⟩ rfl rfl rfl rfl rfl (by kernel_rfl) Try.func13 (by kernel_rfl)
    (of_decide_eq_true (by kernel_rfl)) (by unfold Func.isWrapper; first | (rw [if_pos (by decide +kernel)]; kernel_rfl) | (rw [if_neg (by decide +kernel)]; exact ⟨rfl, rfl⟩))
    (fun os started H enc _ => VcpuPlays_lifted os started H enc)

theorem VcpuPlays_holds : Rows.VcpuPlaysSaid := VcpuPlays_over
#print axioms VcpuPlays_holds
end Go.Proofs.Ytnebjbjdgfaooaa
