/- Proved: whatever is raised, lowered, set, acknowledged and ended, in whatever order, each answer and each line is as the document says (viceroylaw07.GicPlays returns true for every list of acts), with no condition. -/
import Derived.Test.YtmehieloehlepaaGicS
import Derived.Test.YtmehieloehlepaaGicZ
import Derived.Test.YtmehieloehlepaaGicO
namespace Go.Proofs.Ytmehieloehlepaa
open Go.RowKit
set_option maxRecDepth 100000

set_option maxHeartbeats 4000000 in
theorem walk_GicPlays (a : Option Addr) (len cap : Nat) (w : World) (hlen : len ≤ maxLen) (hacts : Acts w a len) :
    Calls Try.prog 5 #[.slice a len cap] w fun e w' => e = .returned (.bool true) ∧ Below w.heap.size w w' := by
  have HA := Lib.hid hacts; clear hacts
  unfold maxLen at hlen
  go_enter Try.func5, Try.ntmps5
  go_wp2_with fail
  refine (awake_any _).mono ?_
  rintro e w1 ⟨rfl, hb1⟩
  have B1 := Lib.hid hb1; clear hb1
  go_wp2_with fail
  refine (new_any _).mono ?_
  rintro e w2 ⟨g, rfl, hg, hg0, hb2⟩
  have B2 : Hid (Below w.heap.size w w2) := Lib.hid (B1.out.trans (hb2.mono B1.out.size))
  have zg : w.heap.size ≤ g := Nat.le_trans B1.out.size hg0
  have HG := Lib.hid hg; clear hg hg0 hb2
  go_wp2_with fail
  refine (rnew_any _).mono ?_
  rintro e w3 ⟨r, rfl, hr, hr0, hb3⟩
  have B3 : Hid (Below w.heap.size w w3) := Lib.hid (B2.out.trans (hb3.mono B2.out.size))
  have zr : w.heap.size ≤ r := Nat.le_trans B2.out.size hr0
  have hgr : g ≠ r := by have := RowAt.lt HG.out; omega
  have HG3 : Hid (GicAt w3 g G0) := Lib.hid (HG.out.below hb3)
  have HR := Lib.hid hr; clear hr hr0 hb3 HG B1 B2
  go_wp2_with fail
  go_loopw [6, 7, 8] (fun v6 v7 v8 wr => ∃ k : Nat, k ≤ 150 ∧ k ≤ len ∧ v6 = .int .i64 k ∧ (∃ G, Okg G ∧ GicAt wr g G ∧ RefAt wr r G) ∧ Below w.heap.size w wr) (fun v6 _ _ _ => 150 - (intOf v6).toNat)
  case atStart => exact ⟨0, by omega, by omega, rfl, ⟨G0, fun i _ => by simp [G0], HG3.out, HR.out⟩, B3.out⟩
  case round =>
    obtain ⟨k, hk, hkl, rfl, ⟨G, hok, hg, hr⟩, hb⟩ := hrel
    have HO := Lib.hid hok; have HGk := Lib.hid hg; have HRk := Lib.hid hr; have HB := Lib.hid hb; clear hok hg hr hb
    by_cases hlt : k < len
    · by_cases hlm : k < 150
      · obtain ⟨b, off, d, l, n, on, rfl, d0, d1, d2, d3⟩ := HA.out k hlt
        have hbl : b < w.heap.size := World.block_lt_of_cell? w _ d0
        have c0 := (HB.out.cell (p := ⟨b, off + k * 4, none⟩) hbl).trans d0
        have c1 := (HB.out.cell (p := ⟨b, off + k * 4 + 1, none⟩) hbl).trans d1
        have c2 := (HB.out.cell (p := ⟨b, off + k * 4 + 2, none⟩) hbl).trans d2
        have c3 := (HB.out.cell (p := ⟨b, off + k * 4 + 3, none⟩) hbl).trans d3
        clear d0 d1 d2 d3
        go_wp2_with fail
        refine (does_any g r hgr G _ HGk.out HRk.out HO.out d l n on).mono ?_
        rintro e w4 ⟨rfl, ⟨G', hok', hg', hr'⟩, hu⟩
        have B4 : Hid (Below w.heap.size w w4) := Lib.hid (HB.out.trans ⟨hu.os, hu.tape, hu.output, hu.size, fun q hq => hu.block q (by have := HB.out.size; omega) (by rintro (h | h) <;> omega)⟩)
        have HO' := Lib.hid hok'; have HG' := Lib.hid hg'; have HR' := Lib.hid hr'; clear hok' hg' hr' hu c0 c1 c2 c3 HO HGk HRk HB
        go_wp2_with fail
        refine (same_any g r G' _ HG'.out HR'.out HO'.out).mono ?_
        rintro e w5 ⟨rfl, hb5⟩
        have B5 : Hid (Below w.heap.size w w5) := Lib.hid (B4.out.trans (hb5.mono B4.out.size))
        have HG5 := Lib.hid (HG'.out.below hb5); have HR5 := Lib.hid (HR'.out.below hb5); clear hb5
        go_wp2_with fail
        go_roundw
        case rel => exact ⟨k + 1, by omega, by omega, by go_num, ⟨G', HO'.out, HG5.out, HR5.out⟩, B5.out⟩
        case measure => simp [intOf]; omega
      · go_wp2_with fail
        go_ret
        go_light
        exact ⟨rfl, HB.out⟩
    · go_wp2_with fail
      go_ret
      go_light
      exact ⟨rfl, HB.out⟩
end Go.Proofs.Ytmehieloehlepaa
namespace Go.Proofs.Ytmehieloehlepaa
open Go.Joins Go.ChangeShapes Go.WideShapes Go.ChangeAt Go.RowKit
theorem GicPlays_lifted (os : Os) (started : os.Started) (H : Type) (enc : TypeId × Value → H) :
    ReturnsInHanded {} Try.checked os 5 .any (Rows.gicPlaysSpec.pre6 enc Try.prog Try.f5 Rows.gicPlaysRow.domain false) (Rows.gicPlaysSpec.post enc Try.prog Try.f5 false true false false) := by
  refine returnsInHanded_of_change (C := Try.checked) own started (by kernel_rfl) Try.func5
    (ChangeSpec.witness6 (enc := enc) (C := Try.checked) false ⟨#[], #[.slice none 0 0], []⟩ 8 (by kernel_rfl) (by kernel_rfl) (by kernel_rfl) (by kernel_rfl)) ?_
  intro W base args ds gs before hval0 hW hcnd _
  have hval : ∀ (j : Nat) t v, Try.f5.params[j]? = some t → args[j]? = some v → Value.okWide Try.prog W .any base t v := hval0
  have hW' := hW
  obtain ⟨p, q, hA0, hV, rfl, hfz, hnd⟩ := hW
  have hA : DataW.TrodAll enc Try.prog W 0 (fun _ => true) true Try.f5.params.toList args.toList ds p := hA0
  rw [Try.params5] at hA hval
  obtain ⟨rfl, rfl⟩ := trodVars_none hV
  clear hA0 hval0
  obtain ⟨args⟩ := args
  obtain ⟨v0, vs0, d0, ds0, p0, q0, ha0, rfl, rfl, h0, r0⟩ := trodAll_cons hA
  simp only at ha0
  subst ha0
  obtain ⟨hn, rfl, rfl⟩ := trodAll_nil r0
  subst hn
  obtain ⟨a, len, cap, rfl, hlen, hacts⟩ := open_acts (hval 0 39 v0 rfl rfl) h0
  refine (walk_GicPlays a len cap W hlen hacts).mono fun e W' ⟨he, hb⟩ => ⟨_, he, ?_⟩
  exact law_post laidOut (by kernel_rfl) (by kernel_rfl) Try.underlying4 rfl hW' rfl hb

theorem GicPlays_over : Rows.gicPlaysRow.holds Try.pinned (OpenSpec.ofChange Rows.gicPlaysSpec) :=
  OpenClaim.holds_of_wide 5 Try.f5 rfl rfl rfl rfl rfl rfl rfl ⟨rfl, rfl, rfl, rfl, rfl⟩ rfl rfl rfl rfl rfl (by kernel_rfl) Try.func5 (by kernel_rfl)
    (of_decide_eq_true (by kernel_rfl)) (by unfold Func.isWrapper; first | (rw [if_pos (by decide +kernel)]; kernel_rfl) | (rw [if_neg (by decide +kernel)]; exact ⟨rfl, rfl⟩))
    (fun os started H enc _ => GicPlays_lifted os started H enc)

theorem GicPlays_holds : Rows.GicPlaysSaid := GicPlays_over
#print axioms GicPlays_holds
end Go.Proofs.Ytmehieloehlepaa
