/- Proved: what is masked, or not enabled, is not heard, and not forgotten (viceroylaw07.GicMasks returns true for every line, priority and mask), with no condition. -/
import Derived.Test.YtmehieloehlepaaGicZ
namespace Go.Proofs.Ytmehieloehlepaa
open Go.RowKit
set_option maxRecDepth 100000

theorem runF_none {G : Gm} (h : ∀ i, G.ac i = false) (k : Nat) : runF G k = 256 := by
  induction k with
  | zero => rfl
  | succ k ih => simp [runF, h k, ih]
theorem next_of {G : Gm} {j : Nat} (hj : j < 32) (hc : Cand G (bar G) j) (hu : ∀ i, Cand G (bar G) i → i = j) : nextF G (mn2 G.mask (runF G 32)) 32 = ((j : Int), true, G.pr j) := by
  rcases nextF_is G (bar G) 32 with ⟨_, hn⟩ | ⟨j', e, hj'⟩
  · exact absurd hc (hn j hj)
  · obtain rfl := hu j' hj'.2.1; exact e
theorem next_no {G : Gm} (h : ∀ i, ¬ Cand G (bar G) i) : nextF G (mn2 G.mask (runF G 32)) 32 = (0, false, bar G) := by
  rcases nextF_is G (bar G) 32 with ⟨e, _⟩ | ⟨j', _, hj'⟩
  · exact e
  · exact absurd hj'.2.1 (h j')
def m1 (j : Nat) (p : Int) : Gm := { G0 with pr := upd G0.pr j p }
def m2 (j : Nat) (p : Int) : Gm := { m1 j p with pe := upd (m1 j p).pe j true }
def m3 (j : Nat) (p : Int) : Gm := { m2 j p with en := upd (m2 j p).en j true }
def m4 (j : Nat) (p m : Int) : Gm := { m3 j p with mask := m }
def m5 (j : Nat) (p m : Int) : Gm := { m4 j p m with mask := 256 }
theorem cand4 (j : Nat) (p m : Int) (i : Nat) (hm : m ≤ 256) : Cand (m4 j p m) (bar (m4 j p m)) i ↔ i = j ∧ p < m := by
  have hr : runF (m4 j p m) 32 = 256 := runF_none (fun _ => rfl) 32
  simp only [Cand, lt_bar, hr]
  simp only [m4, m3, m2, m1, G0, upd]
  by_cases h : i = j
  · simp [h]; omega
  · simp [h]
theorem cand5 (j : Nat) (p m : Int) (i : Nat) (hp : p < 256) : Cand (m5 j p m) (bar (m5 j p m)) i ↔ i = j := by
  have hr : runF (m5 j p m) 32 = 256 := runF_none (fun _ => rfl) 32
  simp only [Cand, lt_bar, hr]
  simp only [m5, m4, m3, m2, m1, G0, upd]
  by_cases h : i = j
  · simp [h]; omega
  · simp [h]
theorem cand2 (j : Nat) (p : Int) (i : Nat) : ¬ Cand (m2 j p) (bar (m2 j p)) i := by
  rintro ⟨h, _⟩
  simp [m2, m1, G0] at h
theorem nx2 (j : Nat) (p : Int) : nextF (m2 j p) (mn2 (m2 j p).mask (runF (m2 j p) 32)) 32 = (0, false, bar (m2 j p)) := next_no (cand2 j p)
theorem nx4y (j : Nat) (p m : Int) (hj : j < 32) (hm : m ≤ 256) (h : p < m) : nextF (m4 j p m) (mn2 (m4 j p m).mask (runF (m4 j p m) 32)) 32 = ((j : Int), true, (m4 j p m).pr j) :=
  next_of hj ((cand4 j p m j hm).2 ⟨rfl, h⟩) (fun i hi => ((cand4 j p m i hm).1 hi).1)
theorem nx4n (j : Nat) (p m : Int) (hm : m ≤ 256) (h : ¬ p < m) : nextF (m4 j p m) (mn2 (m4 j p m).mask (runF (m4 j p m) 32)) 32 = (0, false, bar (m4 j p m)) :=
  next_no (fun i hi => h ((cand4 j p m i hm).1 hi).2)
theorem nx5 (j : Nat) (p m : Int) (hj : j < 32) (hp : p < 256) : nextF (m5 j p m) (mn2 (m5 j p m).mask (runF (m5 j p m) 32)) 32 = ((j : Int), true, (m5 j p m).pr j) :=
  next_of hj ((cand5 j p m j hp).2 rfl) (fun i hi => (cand5 j p m i hp).1 hi)

set_option maxHeartbeats 4000000 in
theorem walk_GicMasks (l p m : Int) (w : World) :
    Calls Try.prog 4 #[.int .i64 l, .int .i64 p, .int .i64 m] w fun e w' => e = .returned (.bool true) ∧ Below w.heap.size w w' := by
  by_cases hr : 0 ≤ l ∧ l ≤ 31 ∧ 0 ≤ p ∧ p ≤ 255 ∧ 0 ≤ m ∧ m ≤ 256
  · obtain ⟨l0, l1, p0, p1, m0, m1'⟩ := hr
    obtain ⟨j, rfl⟩ := Int.eq_ofNat_of_zero_le l0
    by_cases hm : p < m
    · have hd : decide (p < m) = true := by simpa using hm
      go_enter Try.func4, Try.ntmps4
      go_wp2_with fail
      refine (awake_any _).mono ?_
      rintro e w' ⟨rfl, hb1⟩
      have B1 := Lib.hid hb1; clear hb1
      go_wp2_with fail
      refine (new_any _).mono ?_
      rintro e w0 ⟨b, rfl, hg, hg0, hb2⟩
      have B2 : Hid (Below w.heap.size w w0) := Lib.hid (B1.out.trans (hb2.mono B1.out.size))
      have zg : Hid (w.heap.size ≤ b) := Lib.hid (Nat.le_trans B1.out.size hg0)
      have H0 := Lib.hid hg; have U0 := Lib.hid (Upd.refl (· = b) w0); clear hg hg0 hb2 B1
      go_wp2_with fail
      refine (setpri_ok b G0 _ H0.out j (by omega) (by omega) p (by omega) (by omega)).mono ?_
      rintro e w1 ⟨rfl, h1, u1⟩
      have H1 : Hid (GicAt w1 b (m1 j p)) := Lib.hid h1; have U1 := Lib.hid (U0.out.trans u1); clear h1 u1 H0 U0
      go_wp2_with fail
      refine (raise_ok b _ _ H1.out j (by omega) (by omega)).mono ?_
      rintro e w2 ⟨rfl, h2, u2⟩
      have H2 : Hid (GicAt w2 b (m2 j p)) := Lib.hid h2; have U2 := Lib.hid (U1.out.trans u2); clear h2 u2 H1 U1
      go_wp2_with fail
      refine (next_any b _ _ H2.out).mono ?_
      rw [nx2 j p]
      rintro e w3 ⟨rfl, hb3⟩
      have H3 : Hid (GicAt w3 b (m2 j p)) := Lib.hid (H2.out.below hb3); have U3 := Lib.hid (U2.out.trans (Upd.of_below hb3)); clear hb3 H2 U2
      go_wp2_with fail
      refine (enable_ok b _ _ H3.out j (by omega) (by omega) true).mono ?_
      rintro e w4 ⟨rfl, h4, u4⟩
      have H4 : Hid (GicAt w4 b (m3 j p)) := Lib.hid h4; have U4 := Lib.hid (U3.out.trans u4); clear h4 u4 H3 U3
      go_wp2_with fail
      refine (setmask_ok b _ _ H4.out m (by omega) (by omega)).mono ?_
      rintro e w5 ⟨rfl, h5, u5⟩
      have H5 : Hid (GicAt w5 b (m4 j p m)) := Lib.hid h5; have U5 := Lib.hid (U4.out.trans u5); clear h5 u5 H4 U4
      go_wp2_with fail
      refine (next_any b _ _ H5.out).mono ?_
      rw [nx4y j p m (by omega) (by omega) hm]
      rintro e w6 ⟨rfl, hb6⟩
      have H6 : Hid (GicAt w6 b (m4 j p m)) := Lib.hid (H5.out.below hb6); have U6 := Lib.hid (U5.out.trans (Upd.of_below hb6)); clear hb6 H5 U5
      go_wp2_with fail
      refine (setmask_ok b _ _ H6.out 256 (by omega) (by omega)).mono ?_
      rintro e w7 ⟨rfl, h7, u7⟩
      have H7 : Hid (GicAt w7 b (m5 j p m)) := Lib.hid h7; have U7 := Lib.hid (U6.out.trans u7); clear h7 u7 H6 U6
      go_wp2_with fail
      refine (next_any b _ _ H7.out).mono ?_
      rw [nx5 j p m (by omega) (by omega)]
      rintro e w8 ⟨rfl, hb8⟩
      have H8 : Hid (GicAt w8 b (m5 j p m)) := Lib.hid (H7.out.below hb8); have U8 := Lib.hid (U7.out.trans (Upd.of_below hb8)); clear hb8 H7 U7
      go_wp2_with fail
      go_ret
      go_light
      refine ⟨rfl, ?_⟩
      have hU : Upd (· = b) w w8 := (Upd.of_below B2.out).trans U8.out
      exact hU.below (fun k hk => by rw [hk]; exact zg.out)
    · have hd : decide (p < m) = false := by simpa using hm
      go_enter Try.func4, Try.ntmps4
      go_wp2_with fail
      refine (awake_any _).mono ?_
      rintro e w' ⟨rfl, hb1⟩
      have B1 := Lib.hid hb1; clear hb1
      go_wp2_with fail
      refine (new_any _).mono ?_
      rintro e w0 ⟨b, rfl, hg, hg0, hb2⟩
      have B2 : Hid (Below w.heap.size w w0) := Lib.hid (B1.out.trans (hb2.mono B1.out.size))
      have zg : Hid (w.heap.size ≤ b) := Lib.hid (Nat.le_trans B1.out.size hg0)
      have H0 := Lib.hid hg; have U0 := Lib.hid (Upd.refl (· = b) w0); clear hg hg0 hb2 B1
      go_wp2_with fail
      refine (setpri_ok b G0 _ H0.out j (by omega) (by omega) p (by omega) (by omega)).mono ?_
      rintro e w1 ⟨rfl, h1, u1⟩
      have H1 : Hid (GicAt w1 b (m1 j p)) := Lib.hid h1; have U1 := Lib.hid (U0.out.trans u1); clear h1 u1 H0 U0
      go_wp2_with fail
      refine (raise_ok b _ _ H1.out j (by omega) (by omega)).mono ?_
      rintro e w2 ⟨rfl, h2, u2⟩
      have H2 : Hid (GicAt w2 b (m2 j p)) := Lib.hid h2; have U2 := Lib.hid (U1.out.trans u2); clear h2 u2 H1 U1
      go_wp2_with fail
      refine (next_any b _ _ H2.out).mono ?_
      rw [nx2 j p]
      rintro e w3 ⟨rfl, hb3⟩
      have H3 : Hid (GicAt w3 b (m2 j p)) := Lib.hid (H2.out.below hb3); have U3 := Lib.hid (U2.out.trans (Upd.of_below hb3)); clear hb3 H2 U2
      go_wp2_with fail
      refine (enable_ok b _ _ H3.out j (by omega) (by omega) true).mono ?_
      rintro e w4 ⟨rfl, h4, u4⟩
      have H4 : Hid (GicAt w4 b (m3 j p)) := Lib.hid h4; have U4 := Lib.hid (U3.out.trans u4); clear h4 u4 H3 U3
      go_wp2_with fail
      refine (setmask_ok b _ _ H4.out m (by omega) (by omega)).mono ?_
      rintro e w5 ⟨rfl, h5, u5⟩
      have H5 : Hid (GicAt w5 b (m4 j p m)) := Lib.hid h5; have U5 := Lib.hid (U4.out.trans u5); clear h5 u5 H4 U4
      go_wp2_with fail
      refine (next_any b _ _ H5.out).mono ?_
      rw [nx4n j p m (by omega) (by omega)]
      rintro e w6 ⟨rfl, hb6⟩
      have H6 : Hid (GicAt w6 b (m4 j p m)) := Lib.hid (H5.out.below hb6); have U6 := Lib.hid (U5.out.trans (Upd.of_below hb6)); clear hb6 H5 U5
      go_wp2_with fail
      refine (setmask_ok b _ _ H6.out 256 (by omega) (by omega)).mono ?_
      rintro e w7 ⟨rfl, h7, u7⟩
      have H7 : Hid (GicAt w7 b (m5 j p m)) := Lib.hid h7; have U7 := Lib.hid (U6.out.trans u7); clear h7 u7 H6 U6
      go_wp2_with fail
      refine (next_any b _ _ H7.out).mono ?_
      rw [nx5 j p m (by omega) (by omega)]
      rintro e w8 ⟨rfl, hb8⟩
      have H8 : Hid (GicAt w8 b (m5 j p m)) := Lib.hid (H7.out.below hb8); have U8 := Lib.hid (U7.out.trans (Upd.of_below hb8)); clear hb8 H7 U7
      go_wp2_with fail
      go_ret
      go_light
      refine ⟨rfl, ?_⟩
      have hU : Upd (· = b) w w8 := (Upd.of_below B2.out).trans U8.out
      exact hU.below (fun k hk => by rw [hk]; exact zg.out)
  · go_enter Try.func4, Try.ntmps4
    go_wp2_with fail
    refine (awake_any _).mono ?_
    rintro e w' ⟨rfl, hb1⟩
    have B1 := Lib.hid hb1; clear hb1
    go_wp2_with fail
    refine (new_any _).mono ?_
    rintro e w0 ⟨b, rfl, hg, hg0, hb2⟩
    have B2 : Hid (Below w.heap.size w w0) := Lib.hid (B1.out.trans (hb2.mono B1.out.size))
    clear hg hg0 hb2 B1
    go_wp2_with fail
    all_goals first
      | (exfalso; omega)
      | (go_ret
         go_light
         exact ⟨rfl, B2.out⟩)
end Go.Proofs.Ytmehieloehlepaa
namespace Go.Proofs.Ytmehieloehlepaa
open Go.Joins Go.ChangeShapes Go.WideShapes Go.ChangeAt Go.RowKit
theorem GicMasks_lifted (os : Os) (started : os.Started) (H : Type) (enc : TypeId × Value → H) :
    ReturnsInHanded {} Try.checked os 4 .any (Rows.gicMasksSpec.pre6 enc Try.prog Try.f4 Rows.gicMasksRow.domain false) (Rows.gicMasksSpec.post enc Try.prog Try.f4 false true false false) := by
  refine returnsInHanded_of_change (C := Try.checked) own started (by kernel_rfl) Try.func4
    (ChangeSpec.witness6 (enc := enc) (C := Try.checked) false ⟨#[], #[.int .i64 0, .int .i64 0, .int .i64 0], []⟩ 8 (by kernel_rfl) (by kernel_rfl) (by kernel_rfl) (by kernel_rfl)) ?_
  intro W base args ds gs before hval0 hW hcnd _
  have hval : ∀ (j : Nat) t v, Try.f4.params[j]? = some t → args[j]? = some v → Value.okWide Try.prog W .any base t v := hval0
  have hW' := hW
  obtain ⟨p, q, hA0, hV, rfl, hfz, hnd⟩ := hW
  have hA : DataW.TrodAll enc Try.prog W 0 (fun _ => true) true Try.f4.params.toList args.toList ds p := hA0
  rw [Try.params4] at hA hval
  obtain ⟨rfl, rfl⟩ := trodVars_none hV
  clear hA0 hval0
  obtain ⟨args⟩ := args
  obtain ⟨v0, vs0, d0, ds0, p0, q0, ha0, rfl, rfl, h0, r0⟩ := trodAll_cons hA
  simp only at ha0
  subst ha0
  obtain ⟨v1, vs1, d1, ds1, p1, q1, ha1, rfl, rfl, h1, r1⟩ := trodAll_cons r0
  subst ha1
  obtain ⟨v2, vs2, d2, ds2, p2, q2, ha2, rfl, rfl, h2, r2⟩ := trodAll_cons r1
  subst ha2
  obtain ⟨hn, rfl, rfl⟩ := trodAll_nil r2
  subst hn
  obtain ⟨l, rfl, _, _, wf_l⟩ := open_int Try.underlying3 (hval 0 3 v0 rfl rfl) h0
  obtain ⟨p, rfl, _, _, wf_p⟩ := open_int Try.underlying3 (hval 1 3 v1 rfl rfl) h1
  obtain ⟨m, rfl, _, _, wf_m⟩ := open_int Try.underlying3 (hval 2 3 v2 rfl rfl) h2
  refine (walk_GicMasks l p m W).mono fun e W' ⟨he, hb⟩ => ⟨_, he, ?_⟩
  exact law_post laidOut (by kernel_rfl) (by kernel_rfl) Try.underlying4 rfl hW' rfl hb

theorem GicMasks_over : Rows.gicMasksRow.holds Try.pinned (OpenSpec.ofChange Rows.gicMasksSpec) :=
  OpenClaim.holds_of_wide 4 Try.f4 rfl rfl rfl rfl rfl rfl rfl ⟨rfl, rfl, rfl, rfl, rfl⟩ rfl rfl rfl rfl rfl (by kernel_rfl) Try.func4 (by kernel_rfl)
    (of_decide_eq_true (by kernel_rfl)) (by unfold Func.isWrapper; first | (rw [if_pos (by decide +kernel)]; kernel_rfl) | (rw [if_neg (by decide +kernel)]; exact ⟨rfl, rfl⟩))
    (fun os started H enc _ => GicMasks_lifted os started H enc)

theorem GicMasks_holds : Rows.GicMasksSaid := GicMasks_over
#print axioms GicMasks_holds
end Go.Proofs.Ytmehieloehlepaa
