/- The contract of the law's own step: an act is done by the program and by the reference, and both answer alike and stand alike behind it. Condition: both stood alike. -/
import Derived.Test.YtmehieloehlepaaGicC
import Derived.Test.YtmehieloehlepaaGicD
import Derived.Test.YtmehieloehlepaaGicY
namespace Go.Proofs.Ytmehieloehlepaa
open Go.RowKit
set_option maxRecDepth 100000

theorem upd_same {{f : Nat → Bool}} {{i : Nat}} {{v : Bool}} (h : f i = v) : upd f i v = f := by
  funext k; unfold upd; split
  · next e => rw [e, h]
  · rfl
/-- Priorities are 0 to 255. -/
def Okg (G : Gm) : Prop := ∀ i, i < 32 → 0 ≤ G.pr i ∧ G.pr i < 256
def Both (g r : Nat) (w : World) (e : Ending) (w' : World) : Prop :=
  e = .returned (.bool true) ∧ (∃ G, Okg G ∧ GicAt w' g G ∧ RefAt w' r G) ∧ Upd (fun k => k = g ∨ k = r) w w'
theorem act_cells (w w1 : World) (g : Nat) (d l n : Int) (on : Bool) (hg : g < w.heap.size) (hu : Upd (· = g) (w.alloc (.cells #[.int .i64 d, .int .i64 l, .int .i64 n, .bool on] 44)) w1) :
    w1.cell? ⟨w.heap.size, 0, none⟩ = some (.int .i64 d) ∧ w1.cell? ⟨w.heap.size, 1, none⟩ = some (.int .i64 l) ∧ w1.cell? ⟨w.heap.size, 2, none⟩ = some (.int .i64 n) ∧ w1.cell? ⟨w.heap.size, 3, none⟩ = some (.bool on) := by
  refine ⟨?_, ?_, ?_, ?_⟩ <;> (rw [hu.cell (by simp) (by simp; omega)]; simp)
theorem Okg.upd {G : Gm} (h : Okg G) (i : Nat) (p : Int) (h0 : 0 ≤ p) (h1 : p < 256) : Okg { G with pr := upd G.pr i p } := by
  intro j hj
  show 0 ≤ (if j = i then p else G.pr j) ∧ (if j = i then p else G.pr j) < 256
  split
  · exact ⟨h0, h1⟩
  · exact h j hj

set_option maxHeartbeats 4000000 in
theorem does_1 (g r : Nat) (hgr : g ≠ r) (G : Gm) (w : World) (hG : GicAt w g G) (hR : RefAt w r G) (hok : Okg G) (l n : Int) (on : Bool) (h0 : 0 ≤ l) (h1 : l < 32) :
    Calls Try.prog 19 #[.pointer (some ⟨g, 0, none⟩), .pointer (some ⟨r, 0, none⟩), .agg #[.int .i64 1, .int .i64 l, .int .i64 n, .bool on]] w (Both g r w) := by
  have HG := Lib.hid hG; have HR := Lib.hid hR; have HO := Lib.hid hok; clear hG hR hok
  have zg : g < w.heap.size := RowAt.lt HG.out
  have zr : r < w.heap.size := RowAt.lt HR.out
  have hi : isB l = true := by simp [isB]; omega
  go_enter Try.func19, Try.ntmps19
  go_wp2_with (first | (go_at_call 29; refine (is_any _ _).mono ?_; rintro e w1 ⟨rfl, rfl⟩))
  refine (raise_ok g G _ (RowAt.alloc HG.out _) l h0 h1).mono ?_
  rintro e w1 ⟨rfl, hg1, hu⟩
  obtain ⟨x0, x1, x2, x3⟩ := act_cells w w1 g _ l n on zg hu
  have HU := Lib.hid hu; clear hu
  have HG1 := Lib.hid hg1; clear hg1
  have HR1 : Hid (RefAt w1 r G) := Lib.hid (RowAt.kept (RowAt.alloc HR.out _) HU.out (fun h => hgr h.symm))
  obtain ⟨i, rfl⟩ := Int.eq_ofNat_of_zero_le h0
  have cr := RowAt.cell HR1.out (64 + i) (by omega)
  have fr := RowAt.frozen HR1.out (64 + i)
  go_wp2
  try go_region
  go_wp2
  go_ret
  go_light
  refine ⟨rfl, ⟨{ G with pe := upd G.pe i true }, HO.out, ?_, ?_⟩, ?_⟩
  · exact RowAt.other HG1.out hgr.symm _
  · exact RefAt.set_pe HR1.out i (by omega) true
  · repeat (first | exact ((Upd.refl _ _).alloc _).trans (HU.out.mono (fun k h => .inl h)) | (with_reducible refine Upd.drew ?_) | (with_reducible refine Upd.setCell ?_ (.inl (.inr rfl)) _))

set_option maxHeartbeats 4000000 in
theorem does_1n (g r : Nat) (hgr : g ≠ r) (G : Gm) (w : World) (hG : GicAt w g G) (hR : RefAt w r G) (hok : Okg G) (l n : Int) (on : Bool) (hl : l < 0 ∨ 32 ≤ l) :
    Calls Try.prog 19 #[.pointer (some ⟨g, 0, none⟩), .pointer (some ⟨r, 0, none⟩), .agg #[.int .i64 1, .int .i64 l, .int .i64 n, .bool on]] w (Both g r w) := by
  have HG := Lib.hid hG; have HR := Lib.hid hR; have HO := Lib.hid hok; clear hG hR hok
  have zg : g < w.heap.size := RowAt.lt HG.out
  have zr : r < w.heap.size := RowAt.lt HR.out
  have hi : isB l = false := by simp [isB]; omega
  go_enter Try.func19, Try.ntmps19
  go_wp2_with (first | (go_at_call 29; refine (is_any _ _).mono ?_; rintro e w1 ⟨rfl, rfl⟩))
  refine (raise_err g G _ (RowAt.alloc HG.out _) l hl).mono ?_
  rintro e w1 ⟨rfl, hg1, hu⟩
  obtain ⟨x0, x1, x2, x3⟩ := act_cells w w1 g _ l n on zg hu
  have HU := Lib.hid hu; clear hu
  have HG1 := Lib.hid hg1; clear hg1
  have HR1 : Hid (RefAt w1 r G) := Lib.hid (RowAt.kept (RowAt.alloc HR.out _) HU.out (fun h => hgr h.symm))
  go_wp2
  go_ret
  go_light
  exact ⟨rfl, ⟨G, HO.out, HG1.out, HR1.out⟩, ((Upd.refl _ _).alloc _).trans (HU.out.mono (fun k h => .inl h))⟩

set_option maxHeartbeats 4000000 in
theorem does_2 (g r : Nat) (hgr : g ≠ r) (G : Gm) (w : World) (hG : GicAt w g G) (hR : RefAt w r G) (hok : Okg G) (l n : Int) (on : Bool) (h0 : 0 ≤ l) (h1 : l < 32) :
    Calls Try.prog 19 #[.pointer (some ⟨g, 0, none⟩), .pointer (some ⟨r, 0, none⟩), .agg #[.int .i64 2, .int .i64 l, .int .i64 n, .bool on]] w (Both g r w) := by
  have HG := Lib.hid hG; have HR := Lib.hid hR; have HO := Lib.hid hok; clear hG hR hok
  have zg : g < w.heap.size := RowAt.lt HG.out
  have zr : r < w.heap.size := RowAt.lt HR.out
  have hi : isB l = true := by simp [isB]; omega
  go_enter Try.func19, Try.ntmps19
  go_wp2_with (first | (go_at_call 29; refine (is_any _ _).mono ?_; rintro e w1 ⟨rfl, rfl⟩))
  refine (lower_ok g G _ (RowAt.alloc HG.out _) l h0 h1).mono ?_
  rintro e w1 ⟨rfl, hg1, hu⟩
  obtain ⟨x0, x1, x2, x3⟩ := act_cells w w1 g _ l n on zg hu
  have HU := Lib.hid hu; clear hu
  have HG1 := Lib.hid hg1; clear hg1
  have HR1 : Hid (RefAt w1 r G) := Lib.hid (RowAt.kept (RowAt.alloc HR.out _) HU.out (fun h => hgr h.symm))
  obtain ⟨i, rfl⟩ := Int.eq_ofNat_of_zero_le h0
  have cr := RowAt.cell HR1.out (64 + i) (by omega)
  have fr := RowAt.frozen HR1.out (64 + i)
  go_wp2
  try go_region
  go_wp2
  go_ret
  go_light
  refine ⟨rfl, ⟨{ G with pe := upd G.pe i false }, HO.out, ?_, ?_⟩, ?_⟩
  · exact RowAt.other HG1.out hgr.symm _
  · exact RefAt.set_pe HR1.out i (by omega) false
  · repeat (first | exact ((Upd.refl _ _).alloc _).trans (HU.out.mono (fun k h => .inl h)) | (with_reducible refine Upd.drew ?_) | (with_reducible refine Upd.setCell ?_ (.inl (.inr rfl)) _))

set_option maxHeartbeats 4000000 in
theorem does_2n (g r : Nat) (hgr : g ≠ r) (G : Gm) (w : World) (hG : GicAt w g G) (hR : RefAt w r G) (hok : Okg G) (l n : Int) (on : Bool) (hl : l < 0 ∨ 32 ≤ l) :
    Calls Try.prog 19 #[.pointer (some ⟨g, 0, none⟩), .pointer (some ⟨r, 0, none⟩), .agg #[.int .i64 2, .int .i64 l, .int .i64 n, .bool on]] w (Both g r w) := by
  have HG := Lib.hid hG; have HR := Lib.hid hR; have HO := Lib.hid hok; clear hG hR hok
  have zg : g < w.heap.size := RowAt.lt HG.out
  have zr : r < w.heap.size := RowAt.lt HR.out
  have hi : isB l = false := by simp [isB]; omega
  go_enter Try.func19, Try.ntmps19
  go_wp2_with (first | (go_at_call 29; refine (is_any _ _).mono ?_; rintro e w1 ⟨rfl, rfl⟩))
  refine (lower_err g G _ (RowAt.alloc HG.out _) l hl).mono ?_
  rintro e w1 ⟨rfl, hg1, hu⟩
  obtain ⟨x0, x1, x2, x3⟩ := act_cells w w1 g _ l n on zg hu
  have HU := Lib.hid hu; clear hu
  have HG1 := Lib.hid hg1; clear hg1
  have HR1 : Hid (RefAt w1 r G) := Lib.hid (RowAt.kept (RowAt.alloc HR.out _) HU.out (fun h => hgr h.symm))
  go_wp2
  go_ret
  go_light
  exact ⟨rfl, ⟨G, HO.out, HG1.out, HR1.out⟩, ((Upd.refl _ _).alloc _).trans (HU.out.mono (fun k h => .inl h))⟩

set_option maxHeartbeats 4000000 in
theorem does_3 (g r : Nat) (hgr : g ≠ r) (G : Gm) (w : World) (hG : GicAt w g G) (hR : RefAt w r G) (hok : Okg G) (l n : Int) (on : Bool) (h0 : 0 ≤ l) (h1 : l < 32) :
    Calls Try.prog 19 #[.pointer (some ⟨g, 0, none⟩), .pointer (some ⟨r, 0, none⟩), .agg #[.int .i64 3, .int .i64 l, .int .i64 n, .bool on]] w (Both g r w) := by
  have HG := Lib.hid hG; have HR := Lib.hid hR; have HO := Lib.hid hok; clear hG hR hok
  have zg : g < w.heap.size := RowAt.lt HG.out
  have zr : r < w.heap.size := RowAt.lt HR.out
  have hi : isB l = true := by simp [isB]; omega
  go_enter Try.func19, Try.ntmps19
  go_wp2_with (first | (go_at_call 29; refine (is_any _ _).mono ?_; rintro e w1 ⟨rfl, rfl⟩))
  refine (enable_ok g G _ (RowAt.alloc HG.out _) l h0 h1 on).mono ?_
  rintro e w1 ⟨rfl, hg1, hu⟩
  obtain ⟨x0, x1, x2, x3⟩ := act_cells w w1 g _ l n on zg hu
  have HU := Lib.hid hu; clear hu
  have HG1 := Lib.hid hg1; clear hg1
  have HR1 : Hid (RefAt w1 r G) := Lib.hid (RowAt.kept (RowAt.alloc HR.out _) HU.out (fun h => hgr h.symm))
  obtain ⟨i, rfl⟩ := Int.eq_ofNat_of_zero_le h0
  have cr := RowAt.cell HR1.out (32 + i) (by omega)
  have fr := RowAt.frozen HR1.out (32 + i)
  go_wp2
  try go_region
  go_wp2
  go_ret
  go_light
  refine ⟨rfl, ⟨{ G with en := upd G.en i on }, HO.out, ?_, ?_⟩, ?_⟩
  · exact RowAt.other HG1.out hgr.symm _
  · exact RefAt.set_en HR1.out i (by omega) on
  · repeat (first | exact ((Upd.refl _ _).alloc _).trans (HU.out.mono (fun k h => .inl h)) | (with_reducible refine Upd.drew ?_) | (with_reducible refine Upd.setCell ?_ (.inl (.inr rfl)) _))

set_option maxHeartbeats 4000000 in
theorem does_3n (g r : Nat) (hgr : g ≠ r) (G : Gm) (w : World) (hG : GicAt w g G) (hR : RefAt w r G) (hok : Okg G) (l n : Int) (on : Bool) (hl : l < 0 ∨ 32 ≤ l) :
    Calls Try.prog 19 #[.pointer (some ⟨g, 0, none⟩), .pointer (some ⟨r, 0, none⟩), .agg #[.int .i64 3, .int .i64 l, .int .i64 n, .bool on]] w (Both g r w) := by
  have HG := Lib.hid hG; have HR := Lib.hid hR; have HO := Lib.hid hok; clear hG hR hok
  have zg : g < w.heap.size := RowAt.lt HG.out
  have zr : r < w.heap.size := RowAt.lt HR.out
  have hi : isB l = false := by simp [isB]; omega
  go_enter Try.func19, Try.ntmps19
  go_wp2_with (first | (go_at_call 29; refine (is_any _ _).mono ?_; rintro e w1 ⟨rfl, rfl⟩))
  refine (enable_err g G _ (RowAt.alloc HG.out _) l on hl).mono ?_
  rintro e w1 ⟨rfl, hg1, hu⟩
  obtain ⟨x0, x1, x2, x3⟩ := act_cells w w1 g _ l n on zg hu
  have HU := Lib.hid hu; clear hu
  have HG1 := Lib.hid hg1; clear hg1
  have HR1 : Hid (RefAt w1 r G) := Lib.hid (RowAt.kept (RowAt.alloc HR.out _) HU.out (fun h => hgr h.symm))
  go_wp2
  go_ret
  go_light
  exact ⟨rfl, ⟨G, HO.out, HG1.out, HR1.out⟩, ((Upd.refl _ _).alloc _).trans (HU.out.mono (fun k h => .inl h))⟩

set_option maxHeartbeats 4000000 in
theorem does_4 (g r : Nat) (hgr : g ≠ r) (G : Gm) (w : World) (hG : GicAt w g G) (hR : RefAt w r G) (hok : Okg G) (l n : Int) (on : Bool) (h0 : 0 ≤ l) (h1 : l < 32) (p0 : 0 ≤ n) (p1 : n < 256) :
    Calls Try.prog 19 #[.pointer (some ⟨g, 0, none⟩), .pointer (some ⟨r, 0, none⟩), .agg #[.int .i64 4, .int .i64 l, .int .i64 n, .bool on]] w (Both g r w) := by
  have HG := Lib.hid hG; have HR := Lib.hid hR; have HO := Lib.hid hok; clear hG hR hok
  have zg : g < w.heap.size := RowAt.lt HG.out
  have zr : r < w.heap.size := RowAt.lt HR.out
  have hi : isB l = true := by simp [isB]; omega
  go_enter Try.func19, Try.ntmps19
  go_wp2_with (first | (go_at_call 29; refine (is_any _ _).mono ?_; rintro e w1 ⟨rfl, rfl⟩))
  refine (setpri_ok g G _ (RowAt.alloc HG.out _) l h0 h1 n p0 p1).mono ?_
  rintro e w1 ⟨rfl, hg1, hu⟩
  obtain ⟨x0, x1, x2, x3⟩ := act_cells w w1 g _ l n on zg hu
  have HU := Lib.hid hu; clear hu
  have HG1 := Lib.hid hg1; clear hg1
  have HR1 : Hid (RefAt w1 r G) := Lib.hid (RowAt.kept (RowAt.alloc HR.out _) HU.out (fun h => hgr h.symm))
  obtain ⟨i, rfl⟩ := Int.eq_ofNat_of_zero_le h0
  have cr := RowAt.cell HR1.out (i) (by omega)
  have fr := RowAt.frozen HR1.out (i)
  go_wp2
  try go_region
  go_wp2
  go_ret
  go_light
  refine ⟨rfl, ⟨{ G with pr := upd G.pr i n }, HO.out.upd i n p0 p1, ?_, ?_⟩, ?_⟩
  · exact RowAt.other HG1.out hgr.symm _
  · exact RefAt.set_pr HR1.out i (by omega) n
  · repeat (first | exact ((Upd.refl _ _).alloc _).trans (HU.out.mono (fun k h => .inl h)) | (with_reducible refine Upd.drew ?_) | (with_reducible refine Upd.setCell ?_ (.inl (.inr rfl)) _))

set_option maxHeartbeats 4000000 in
theorem does_4n (g r : Nat) (hgr : g ≠ r) (G : Gm) (w : World) (hG : GicAt w g G) (hR : RefAt w r G) (hok : Okg G) (l n : Int) (on : Bool) (hl : l < 0 ∨ 32 ≤ l) (p0 : 0 ≤ n) (p1 : n < 256) :
    Calls Try.prog 19 #[.pointer (some ⟨g, 0, none⟩), .pointer (some ⟨r, 0, none⟩), .agg #[.int .i64 4, .int .i64 l, .int .i64 n, .bool on]] w (Both g r w) := by
  have HG := Lib.hid hG; have HR := Lib.hid hR; have HO := Lib.hid hok; clear hG hR hok
  have zg : g < w.heap.size := RowAt.lt HG.out
  have zr : r < w.heap.size := RowAt.lt HR.out
  have hi : isB l = false := by simp [isB]; omega
  go_enter Try.func19, Try.ntmps19
  go_wp2_with (first | (go_at_call 29; refine (is_any _ _).mono ?_; rintro e w1 ⟨rfl, rfl⟩))
  refine (setpri_err g G _ (RowAt.alloc HG.out _) l n ⟨hl, p0, p1⟩).mono ?_
  rintro e w1 ⟨rfl, hg1, hu⟩
  obtain ⟨x0, x1, x2, x3⟩ := act_cells w w1 g _ l n on zg hu
  have HU := Lib.hid hu; clear hu
  have HG1 := Lib.hid hg1; clear hg1
  have HR1 : Hid (RefAt w1 r G) := Lib.hid (RowAt.kept (RowAt.alloc HR.out _) HU.out (fun h => hgr h.symm))
  go_wp2
  go_ret
  go_light
  exact ⟨rfl, ⟨G, HO.out, HG1.out, HR1.out⟩, ((Upd.refl _ _).alloc _).trans (HU.out.mono (fun k h => .inl h))⟩

set_option maxHeartbeats 4000000 in
theorem does_4bt (g r : Nat) (hgr : g ≠ r) (G : Gm) (w : World) (hG : GicAt w g G) (hR : RefAt w r G) (hok : Okg G) (l n : Int) (on : Bool) (h0 : 0 ≤ l) (h1 : l < 32) (hp : n < 0 ∨ 256 ≤ n) :
    Calls Try.prog 19 #[.pointer (some ⟨g, 0, none⟩), .pointer (some ⟨r, 0, none⟩), .agg #[.int .i64 4, .int .i64 l, .int .i64 n, .bool on]] w (Both g r w) := by
  have HG := Lib.hid hG; have HR := Lib.hid hR; have HO := Lib.hid hok; clear hG hR hok
  have zg : g < w.heap.size := RowAt.lt HG.out
  have zr : r < w.heap.size := RowAt.lt HR.out
  have hi : isB l = true := by simp [isB]; omega
  go_enter Try.func19, Try.ntmps19
  go_wp2_with (first | (go_at_call 29; refine (is_any _ _).mono ?_; rintro e w1 ⟨rfl, rfl⟩))
  refine (setpri_bad g G _ (RowAt.alloc HG.out _) l n hp).mono ?_
  rintro e w1 ⟨rfl, hg1, hu⟩
  obtain ⟨x0, x1, x2, x3⟩ := act_cells w w1 g _ l n on zg hu
  have HU := Lib.hid hu; clear hu
  have HG1 := Lib.hid hg1; clear hg1
  have HR1 : Hid (RefAt w1 r G) := Lib.hid (RowAt.kept (RowAt.alloc HR.out _) HU.out (fun h => hgr h.symm))
  go_wp2
  all_goals
    go_ret
    go_light
    exact ⟨rfl, ⟨G, HO.out, HG1.out, HR1.out⟩, ((Upd.refl _ _).alloc _).trans (HU.out.mono (fun k h => .inl h))⟩

set_option maxHeartbeats 4000000 in
theorem does_5t (g r : Nat) (hgr : g ≠ r) (G : Gm) (w : World) (hG : GicAt w g G) (hR : RefAt w r G) (hok : Okg G) (l n : Int) (on : Bool) (h0 : 0 ≤ l) (h1 : l < 32) (p0 : 0 ≤ n) (p1 : n ≤ 256) :
    Calls Try.prog 19 #[.pointer (some ⟨g, 0, none⟩), .pointer (some ⟨r, 0, none⟩), .agg #[.int .i64 5, .int .i64 l, .int .i64 n, .bool on]] w (Both g r w) := by
  have HG := Lib.hid hG; have HR := Lib.hid hR; have HO := Lib.hid hok; clear hG hR hok
  have zg : g < w.heap.size := RowAt.lt HG.out
  have zr : r < w.heap.size := RowAt.lt HR.out
  have hi : isB l = true := by simp [isB]; omega
  go_enter Try.func19, Try.ntmps19
  go_wp2_with (first | (go_at_call 29; refine (is_any _ _).mono ?_; rintro e w1 ⟨rfl, rfl⟩))
  refine (setmask_ok g G _ (RowAt.alloc HG.out _) n p0 p1).mono ?_
  rintro e w1 ⟨rfl, hg1, hu⟩
  obtain ⟨x0, x1, x2, x3⟩ := act_cells w w1 g _ l n on zg hu
  have HU := Lib.hid hu; clear hu
  have HG1 := Lib.hid hg1; clear hg1
  have HR1 : Hid (RefAt w1 r G) := Lib.hid (RowAt.kept (RowAt.alloc HR.out _) HU.out (fun h => hgr h.symm))
  have cr := RowAt.cell HR1.out 160 (by omega)
  have fr := RowAt.frozen HR1.out 160
  go_wp2
  try go_region
  go_wp2
  go_ret
  go_light
  refine ⟨rfl, ⟨{ G with mask := n }, HO.out, ?_, ?_⟩, ?_⟩
  · exact RowAt.other HG1.out hgr.symm _
  · exact RefAt.set_mask HR1.out n
  · repeat (first | exact ((Upd.refl _ _).alloc _).trans (HU.out.mono (fun k h => .inl h)) | (with_reducible refine Upd.drew ?_) | (with_reducible refine Upd.setCell ?_ (.inl (.inr rfl)) _))

set_option maxHeartbeats 4000000 in
theorem does_5bt (g r : Nat) (hgr : g ≠ r) (G : Gm) (w : World) (hG : GicAt w g G) (hR : RefAt w r G) (hok : Okg G) (l n : Int) (on : Bool) (h0 : 0 ≤ l) (h1 : l < 32) (hp : n < 0 ∨ 256 < n) :
    Calls Try.prog 19 #[.pointer (some ⟨g, 0, none⟩), .pointer (some ⟨r, 0, none⟩), .agg #[.int .i64 5, .int .i64 l, .int .i64 n, .bool on]] w (Both g r w) := by
  have HG := Lib.hid hG; have HR := Lib.hid hR; have HO := Lib.hid hok; clear hG hR hok
  have zg : g < w.heap.size := RowAt.lt HG.out
  have zr : r < w.heap.size := RowAt.lt HR.out
  have hi : isB l = true := by simp [isB]; omega
  go_enter Try.func19, Try.ntmps19
  go_wp2_with (first | (go_at_call 29; refine (is_any _ _).mono ?_; rintro e w1 ⟨rfl, rfl⟩))
  refine (setmask_err g G _ (RowAt.alloc HG.out _) n hp).mono ?_
  rintro e w1 ⟨rfl, hg1, hu⟩
  obtain ⟨x0, x1, x2, x3⟩ := act_cells w w1 g _ l n on zg hu
  have HU := Lib.hid hu; clear hu
  have HG1 := Lib.hid hg1; clear hg1
  have HR1 : Hid (RefAt w1 r G) := Lib.hid (RowAt.kept (RowAt.alloc HR.out _) HU.out (fun h => hgr h.symm))
  go_wp2
  all_goals
    go_ret
    go_light
    exact ⟨rfl, ⟨G, HO.out, HG1.out, HR1.out⟩, ((Upd.refl _ _).alloc _).trans (HU.out.mono (fun k h => .inl h))⟩

set_option maxHeartbeats 4000000 in
theorem does_4bn (g r : Nat) (hgr : g ≠ r) (G : Gm) (w : World) (hG : GicAt w g G) (hR : RefAt w r G) (hok : Okg G) (l n : Int) (on : Bool) (hl : l < 0 ∨ 32 ≤ l) (hp : n < 0 ∨ 256 ≤ n) :
    Calls Try.prog 19 #[.pointer (some ⟨g, 0, none⟩), .pointer (some ⟨r, 0, none⟩), .agg #[.int .i64 4, .int .i64 l, .int .i64 n, .bool on]] w (Both g r w) := by
  have HG := Lib.hid hG; have HR := Lib.hid hR; have HO := Lib.hid hok; clear hG hR hok
  have zg : g < w.heap.size := RowAt.lt HG.out
  have zr : r < w.heap.size := RowAt.lt HR.out
  have hi : isB l = false := by simp [isB]; omega
  go_enter Try.func19, Try.ntmps19
  go_wp2_with (first | (go_at_call 29; refine (is_any _ _).mono ?_; rintro e w1 ⟨rfl, rfl⟩))
  refine (setpri_bad g G _ (RowAt.alloc HG.out _) l n hp).mono ?_
  rintro e w1 ⟨rfl, hg1, hu⟩
  obtain ⟨x0, x1, x2, x3⟩ := act_cells w w1 g _ l n on zg hu
  have HU := Lib.hid hu; clear hu
  have HG1 := Lib.hid hg1; clear hg1
  have HR1 : Hid (RefAt w1 r G) := Lib.hid (RowAt.kept (RowAt.alloc HR.out _) HU.out (fun h => hgr h.symm))
  go_wp2
  all_goals
    go_ret
    go_light
    exact ⟨rfl, ⟨G, HO.out, HG1.out, HR1.out⟩, ((Upd.refl _ _).alloc _).trans (HU.out.mono (fun k h => .inl h))⟩

set_option maxHeartbeats 4000000 in
theorem does_5n (g r : Nat) (hgr : g ≠ r) (G : Gm) (w : World) (hG : GicAt w g G) (hR : RefAt w r G) (hok : Okg G) (l n : Int) (on : Bool) (hl : l < 0 ∨ 32 ≤ l) (p0 : 0 ≤ n) (p1 : n ≤ 256) :
    Calls Try.prog 19 #[.pointer (some ⟨g, 0, none⟩), .pointer (some ⟨r, 0, none⟩), .agg #[.int .i64 5, .int .i64 l, .int .i64 n, .bool on]] w (Both g r w) := by
  have HG := Lib.hid hG; have HR := Lib.hid hR; have HO := Lib.hid hok; clear hG hR hok
  have zg : g < w.heap.size := RowAt.lt HG.out
  have zr : r < w.heap.size := RowAt.lt HR.out
  have hi : isB l = false := by simp [isB]; omega
  go_enter Try.func19, Try.ntmps19
  go_wp2_with (first | (go_at_call 29; refine (is_any _ _).mono ?_; rintro e w1 ⟨rfl, rfl⟩))
  refine (setmask_ok g G _ (RowAt.alloc HG.out _) n p0 p1).mono ?_
  rintro e w1 ⟨rfl, hg1, hu⟩
  obtain ⟨x0, x1, x2, x3⟩ := act_cells w w1 g _ l n on zg hu
  have HU := Lib.hid hu; clear hu
  have HG1 := Lib.hid hg1; clear hg1
  have HR1 : Hid (RefAt w1 r G) := Lib.hid (RowAt.kept (RowAt.alloc HR.out _) HU.out (fun h => hgr h.symm))
  have cr := RowAt.cell HR1.out 160 (by omega)
  have fr := RowAt.frozen HR1.out 160
  go_wp2
  try go_region
  go_wp2
  go_ret
  go_light
  refine ⟨rfl, ⟨{ G with mask := n }, HO.out, ?_, ?_⟩, ?_⟩
  · exact RowAt.other HG1.out hgr.symm _
  · exact RefAt.set_mask HR1.out n
  · repeat (first | exact ((Upd.refl _ _).alloc _).trans (HU.out.mono (fun k h => .inl h)) | (with_reducible refine Upd.drew ?_) | (with_reducible refine Upd.setCell ?_ (.inl (.inr rfl)) _))

set_option maxHeartbeats 4000000 in
theorem does_5bn (g r : Nat) (hgr : g ≠ r) (G : Gm) (w : World) (hG : GicAt w g G) (hR : RefAt w r G) (hok : Okg G) (l n : Int) (on : Bool) (hl : l < 0 ∨ 32 ≤ l) (hp : n < 0 ∨ 256 < n) :
    Calls Try.prog 19 #[.pointer (some ⟨g, 0, none⟩), .pointer (some ⟨r, 0, none⟩), .agg #[.int .i64 5, .int .i64 l, .int .i64 n, .bool on]] w (Both g r w) := by
  have HG := Lib.hid hG; have HR := Lib.hid hR; have HO := Lib.hid hok; clear hG hR hok
  have zg : g < w.heap.size := RowAt.lt HG.out
  have zr : r < w.heap.size := RowAt.lt HR.out
  have hi : isB l = false := by simp [isB]; omega
  go_enter Try.func19, Try.ntmps19
  go_wp2_with (first | (go_at_call 29; refine (is_any _ _).mono ?_; rintro e w1 ⟨rfl, rfl⟩))
  refine (setmask_err g G _ (RowAt.alloc HG.out _) n hp).mono ?_
  rintro e w1 ⟨rfl, hg1, hu⟩
  obtain ⟨x0, x1, x2, x3⟩ := act_cells w w1 g _ l n on zg hu
  have HU := Lib.hid hu; clear hu
  have HG1 := Lib.hid hg1; clear hg1
  have HR1 : Hid (RefAt w1 r G) := Lib.hid (RowAt.kept (RowAt.alloc HR.out _) HU.out (fun h => hgr h.symm))
  go_wp2
  all_goals
    go_ret
    go_light
    exact ⟨rfl, ⟨G, HO.out, HG1.out, HR1.out⟩, ((Upd.refl _ _).alloc _).trans (HU.out.mono (fun k h => .inl h))⟩

set_option maxHeartbeats 4000000 in
theorem does_6tsome (g r : Nat) (hgr : g ≠ r) (G : Gm) (w : World) (hG : GicAt w g G) (hR : RefAt w r G) (hok : Okg G) (l n : Int) (on : Bool) (h0 : 0 ≤ l) (h1 : l < 32) (j : Nat) (hj : First G (bar G) 32 j) :
    Calls Try.prog 19 #[.pointer (some ⟨g, 0, none⟩), .pointer (some ⟨r, 0, none⟩), .agg #[.int .i64 6, .int .i64 l, .int .i64 n, .bool on]] w (Both g r w) := by
  have HG := Lib.hid hG; have HR := Lib.hid hR; have HO := Lib.hid hok; clear hG hR hok
  have zg : g < w.heap.size := RowAt.lt HG.out
  have zr : r < w.heap.size := RowAt.lt HR.out
  have hi : isB l = true := by simp [isB]; omega
  go_enter Try.func19, Try.ntmps19
  go_wp2_with (first | (go_at_call 29; refine (is_any _ _).mono ?_; rintro e w1 ⟨rfl, rfl⟩))
  refine (ack_some g G _ (RowAt.alloc HG.out _) j hj).mono ?_
  rintro e w1 ⟨rfl, hg1, hu⟩
  obtain ⟨x0, x1, x2, x3⟩ := act_cells w w1 g _ l n on zg hu
  have HU := Lib.hid hu; clear hu
  have HG1 := Lib.hid hg1; clear hg1
  have HR1 : Hid (RefAt w1 r G) := Lib.hid (RowAt.kept (RowAt.alloc HR.out _) HU.out (fun h => hgr h.symm))
  go_wp2_with fail
  refine (rack_some r G _ HR1.out HO.out j hj).mono ?_
  rintro e w2 ⟨rfl, hr2, hu2⟩
  have HU2 := Lib.hid hu2; have HR2 := Lib.hid hr2; clear hu2 hr2
  have HG2 := Lib.hid (RowAt.kept HG1.out HU2.out (fun h => hgr h))
  go_wp2
  go_ret
  go_light
  exact ⟨rfl, ⟨acked G j, HO.out, HG2.out, HR2.out⟩, Upd.trans (((Upd.refl _ _).alloc _).trans (HU.out.mono (fun k h => .inl h))) (HU2.out.mono (fun k h => .inr h))⟩

set_option maxHeartbeats 4000000 in
theorem does_6tnone (g r : Nat) (hgr : g ≠ r) (G : Gm) (w : World) (hG : GicAt w g G) (hR : RefAt w r G) (hok : Okg G) (l n : Int) (on : Bool) (h0 : 0 ≤ l) (h1 : l < 32) (hn : ∀ i, i < 32 → ¬ Cand G (bar G) i) :
    Calls Try.prog 19 #[.pointer (some ⟨g, 0, none⟩), .pointer (some ⟨r, 0, none⟩), .agg #[.int .i64 6, .int .i64 l, .int .i64 n, .bool on]] w (Both g r w) := by
  have HG := Lib.hid hG; have HR := Lib.hid hR; have HO := Lib.hid hok; clear hG hR hok
  have zg : g < w.heap.size := RowAt.lt HG.out
  have zr : r < w.heap.size := RowAt.lt HR.out
  have hi : isB l = true := by simp [isB]; omega
  go_enter Try.func19, Try.ntmps19
  go_wp2_with (first | (go_at_call 29; refine (is_any _ _).mono ?_; rintro e w1 ⟨rfl, rfl⟩))
  refine (ack_none g G _ (RowAt.alloc HG.out _) hn).mono ?_
  rintro e w1 ⟨rfl, hg1, hu⟩
  obtain ⟨x0, x1, x2, x3⟩ := act_cells w w1 g _ l n on zg hu
  have HU := Lib.hid hu; clear hu
  have HG1 := Lib.hid hg1; clear hg1
  have HR1 : Hid (RefAt w1 r G) := Lib.hid (RowAt.kept (RowAt.alloc HR.out _) HU.out (fun h => hgr h.symm))
  go_wp2_with fail
  refine (rack_none r G _ HR1.out HO.out hn).mono ?_
  rintro e w2 ⟨rfl, hr2, hu2⟩
  have HU2 := Lib.hid hu2; have HR2 := Lib.hid hr2; clear hu2 hr2
  have HG2 := Lib.hid (RowAt.kept HG1.out HU2.out (fun h => hgr h))
  go_wp2
  go_ret
  go_light
  exact ⟨rfl, ⟨G, HO.out, HG2.out, HR2.out⟩, Upd.trans (((Upd.refl _ _).alloc _).trans (HU.out.mono (fun k h => .inl h))) (HU2.out.mono (fun k h => .inr h))⟩

set_option maxHeartbeats 4000000 in
theorem does_6nsome (g r : Nat) (hgr : g ≠ r) (G : Gm) (w : World) (hG : GicAt w g G) (hR : RefAt w r G) (hok : Okg G) (l n : Int) (on : Bool) (hl : l < 0 ∨ 32 ≤ l) (j : Nat) (hj : First G (bar G) 32 j) :
    Calls Try.prog 19 #[.pointer (some ⟨g, 0, none⟩), .pointer (some ⟨r, 0, none⟩), .agg #[.int .i64 6, .int .i64 l, .int .i64 n, .bool on]] w (Both g r w) := by
  have HG := Lib.hid hG; have HR := Lib.hid hR; have HO := Lib.hid hok; clear hG hR hok
  have zg : g < w.heap.size := RowAt.lt HG.out
  have zr : r < w.heap.size := RowAt.lt HR.out
  have hi : isB l = false := by simp [isB]; omega
  go_enter Try.func19, Try.ntmps19
  go_wp2_with (first | (go_at_call 29; refine (is_any _ _).mono ?_; rintro e w1 ⟨rfl, rfl⟩))
  refine (ack_some g G _ (RowAt.alloc HG.out _) j hj).mono ?_
  rintro e w1 ⟨rfl, hg1, hu⟩
  obtain ⟨x0, x1, x2, x3⟩ := act_cells w w1 g _ l n on zg hu
  have HU := Lib.hid hu; clear hu
  have HG1 := Lib.hid hg1; clear hg1
  have HR1 : Hid (RefAt w1 r G) := Lib.hid (RowAt.kept (RowAt.alloc HR.out _) HU.out (fun h => hgr h.symm))
  go_wp2_with fail
  refine (rack_some r G _ HR1.out HO.out j hj).mono ?_
  rintro e w2 ⟨rfl, hr2, hu2⟩
  have HU2 := Lib.hid hu2; have HR2 := Lib.hid hr2; clear hu2 hr2
  have HG2 := Lib.hid (RowAt.kept HG1.out HU2.out (fun h => hgr h))
  go_wp2
  go_ret
  go_light
  exact ⟨rfl, ⟨acked G j, HO.out, HG2.out, HR2.out⟩, Upd.trans (((Upd.refl _ _).alloc _).trans (HU.out.mono (fun k h => .inl h))) (HU2.out.mono (fun k h => .inr h))⟩

set_option maxHeartbeats 4000000 in
theorem does_6nnone (g r : Nat) (hgr : g ≠ r) (G : Gm) (w : World) (hG : GicAt w g G) (hR : RefAt w r G) (hok : Okg G) (l n : Int) (on : Bool) (hl : l < 0 ∨ 32 ≤ l) (hn : ∀ i, i < 32 → ¬ Cand G (bar G) i) :
    Calls Try.prog 19 #[.pointer (some ⟨g, 0, none⟩), .pointer (some ⟨r, 0, none⟩), .agg #[.int .i64 6, .int .i64 l, .int .i64 n, .bool on]] w (Both g r w) := by
  have HG := Lib.hid hG; have HR := Lib.hid hR; have HO := Lib.hid hok; clear hG hR hok
  have zg : g < w.heap.size := RowAt.lt HG.out
  have zr : r < w.heap.size := RowAt.lt HR.out
  have hi : isB l = false := by simp [isB]; omega
  go_enter Try.func19, Try.ntmps19
  go_wp2_with (first | (go_at_call 29; refine (is_any _ _).mono ?_; rintro e w1 ⟨rfl, rfl⟩))
  refine (ack_none g G _ (RowAt.alloc HG.out _) hn).mono ?_
  rintro e w1 ⟨rfl, hg1, hu⟩
  obtain ⟨x0, x1, x2, x3⟩ := act_cells w w1 g _ l n on zg hu
  have HU := Lib.hid hu; clear hu
  have HG1 := Lib.hid hg1; clear hg1
  have HR1 : Hid (RefAt w1 r G) := Lib.hid (RowAt.kept (RowAt.alloc HR.out _) HU.out (fun h => hgr h.symm))
  go_wp2_with fail
  refine (rack_none r G _ HR1.out HO.out hn).mono ?_
  rintro e w2 ⟨rfl, hr2, hu2⟩
  have HU2 := Lib.hid hu2; have HR2 := Lib.hid hr2; clear hu2 hr2
  have HG2 := Lib.hid (RowAt.kept HG1.out HU2.out (fun h => hgr h))
  go_wp2
  go_ret
  go_light
  exact ⟨rfl, ⟨G, HO.out, HG2.out, HR2.out⟩, Upd.trans (((Upd.refl _ _).alloc _).trans (HU.out.mono (fun k h => .inl h))) (HU2.out.mono (fun k h => .inr h))⟩

set_option maxHeartbeats 4000000 in
theorem does_7t (g r : Nat) (hgr : g ≠ r) (G : Gm) (w : World) (hG : GicAt w g G) (hR : RefAt w r G) (hok : Okg G) (l n : Int) (on : Bool) (h0 : 0 ≤ l) (h1 : l < 32) (ha : G.ac l.toNat = true) :
    Calls Try.prog 19 #[.pointer (some ⟨g, 0, none⟩), .pointer (some ⟨r, 0, none⟩), .agg #[.int .i64 7, .int .i64 l, .int .i64 n, .bool on]] w (Both g r w) := by
  have HG := Lib.hid hG; have HR := Lib.hid hR; have HO := Lib.hid hok; clear hG hR hok
  have zg : g < w.heap.size := RowAt.lt HG.out
  have zr : r < w.heap.size := RowAt.lt HR.out
  have hi : isB l = true := by simp [isB]; omega
  go_enter Try.func19, Try.ntmps19
  go_wp2_with (first | (go_at_call 29; refine (is_any _ _).mono ?_; rintro e w1 ⟨rfl, rfl⟩))
  refine (end_ok g G _ (RowAt.alloc HG.out _) l h0 h1 ha).mono ?_
  rintro e w1 ⟨rfl, hg1, hu⟩
  obtain ⟨x0, x1, x2, x3⟩ := act_cells w w1 g _ l n on zg hu
  have HU := Lib.hid hu; clear hu
  have HG1 := Lib.hid hg1; clear hg1
  have HR1 : Hid (RefAt w1 r G) := Lib.hid (RowAt.kept (RowAt.alloc HR.out _) HU.out (fun h => hgr h.symm))
  go_wp2_with fail
  refine (rend_ok r G _ HR1.out l h0 h1 ha).mono ?_
  rintro e w2 ⟨rfl, hr2, hu2⟩
  have HU2 := Lib.hid hu2; have HR2 := Lib.hid hr2; clear hu2 hr2
  have HG2 := Lib.hid (RowAt.kept HG1.out HU2.out (fun h => hgr h))
  go_wp2
  go_ret
  go_light
  exact ⟨rfl, ⟨{ G with ac := upd G.ac l.toNat false }, HO.out, HG2.out, HR2.out⟩, Upd.trans (((Upd.refl _ _).alloc _).trans (HU.out.mono (fun k h => .inl h))) (HU2.out.mono (fun k h => .inr h))⟩

set_option maxHeartbeats 4000000 in
theorem does_7o (g r : Nat) (hgr : g ≠ r) (G : Gm) (w : World) (hG : GicAt w g G) (hR : RefAt w r G) (hok : Okg G) (l n : Int) (on : Bool) (h0 : 0 ≤ l) (h1 : l < 32) (ha : G.ac l.toNat = false) :
    Calls Try.prog 19 #[.pointer (some ⟨g, 0, none⟩), .pointer (some ⟨r, 0, none⟩), .agg #[.int .i64 7, .int .i64 l, .int .i64 n, .bool on]] w (Both g r w) := by
  have HG := Lib.hid hG; have HR := Lib.hid hR; have HO := Lib.hid hok; clear hG hR hok
  have zg : g < w.heap.size := RowAt.lt HG.out
  have zr : r < w.heap.size := RowAt.lt HR.out
  have hi : isB l = true := by simp [isB]; omega
  go_enter Try.func19, Try.ntmps19
  go_wp2_with (first | (go_at_call 29; refine (is_any _ _).mono ?_; rintro e w1 ⟨rfl, rfl⟩))
  refine (end_off_ok g G _ (RowAt.alloc HG.out _) l h0 h1 ha).mono ?_
  rintro e w1 ⟨rfl, hg1, hu⟩
  obtain ⟨x0, x1, x2, x3⟩ := act_cells w w1 g _ l n on zg hu
  have HU := Lib.hid hu; clear hu
  rw [upd_same ha] at hg1
  have HG1 := Lib.hid hg1; clear hg1
  have HR1 : Hid (RefAt w1 r G) := Lib.hid (RowAt.kept (RowAt.alloc HR.out _) HU.out (fun h => hgr h.symm))
  go_wp2_with fail
  refine (rend_off r G _ HR1.out l h0 h1 ha).mono ?_
  rintro e w2 ⟨rfl, hr2, hu2⟩
  have HU2 := Lib.hid hu2; have HR2 := Lib.hid hr2; clear hu2 hr2
  have HG2 := Lib.hid (RowAt.kept HG1.out HU2.out (fun h => hgr h))
  go_wp2
  go_ret
  go_light
  exact ⟨rfl, ⟨G, HO.out, HG2.out, HR2.out⟩, Upd.trans (((Upd.refl _ _).alloc _).trans (HU.out.mono (fun k h => .inl h))) (HU2.out.mono (fun k h => .inr h))⟩

set_option maxHeartbeats 4000000 in
theorem does_7n (g r : Nat) (hgr : g ≠ r) (G : Gm) (w : World) (hG : GicAt w g G) (hR : RefAt w r G) (hok : Okg G) (l n : Int) (on : Bool) (hl : l < 0 ∨ 32 ≤ l) :
    Calls Try.prog 19 #[.pointer (some ⟨g, 0, none⟩), .pointer (some ⟨r, 0, none⟩), .agg #[.int .i64 7, .int .i64 l, .int .i64 n, .bool on]] w (Both g r w) := by
  have HG := Lib.hid hG; have HR := Lib.hid hR; have HO := Lib.hid hok; clear hG hR hok
  have zg : g < w.heap.size := RowAt.lt HG.out
  have zr : r < w.heap.size := RowAt.lt HR.out
  have hi : isB l = false := by simp [isB]; omega
  go_enter Try.func19, Try.ntmps19
  go_wp2_with (first | (go_at_call 29; refine (is_any _ _).mono ?_; rintro e w1 ⟨rfl, rfl⟩))
  refine (end_err g G _ (RowAt.alloc HG.out _) l hl).mono ?_
  rintro e w1 ⟨rfl, hg1, hu⟩
  obtain ⟨x0, x1, x2, x3⟩ := act_cells w w1 g _ l n on zg hu
  have HU := Lib.hid hu; clear hu
  have HG1 := Lib.hid hg1; clear hg1
  have HR1 : Hid (RefAt w1 r G) := Lib.hid (RowAt.kept (RowAt.alloc HR.out _) HU.out (fun h => hgr h.symm))
  go_wp2_with fail
  refine (rend_err r _ l hl).mono ?_
  rintro e w2 ⟨rfl, rfl⟩
  go_wp2
  go_ret
  go_light
  exact ⟨rfl, ⟨G, HO.out, HG1.out, HR1.out⟩, ((Upd.refl _ _).alloc _).trans (HU.out.mono (fun k h => .inl h))⟩

set_option maxHeartbeats 4000000 in
theorem does_x (g r : Nat) (_ : g ≠ r) (G : Gm) (w : World) (hG : GicAt w g G) (hR : RefAt w r G) (hok : Okg G) (d l n : Int) (on : Bool) (e1 : (d == 1) = false) (e2 : (d == 2) = false) (e3 : (d == 3) = false) (e4 : (d == 4) = false) (e5 : (d == 5) = false) (e6 : (d == 6) = false) (e7 : (d == 7) = false) :
    Calls Try.prog 19 #[.pointer (some ⟨g, 0, none⟩), .pointer (some ⟨r, 0, none⟩), .agg #[.int .i64 d, .int .i64 l, .int .i64 n, .bool on]] w (Both g r w) := by
  have HG := Lib.hid hG; have HR := Lib.hid hR; have HO := Lib.hid hok; clear hG hR hok
  have zg : g < w.heap.size := RowAt.lt HG.out
  have zr : r < w.heap.size := RowAt.lt HR.out
  go_enter Try.func19, Try.ntmps19
  go_wp2_with (first | (go_at_call 29; refine (is_any _ _).mono ?_; rintro e w1 ⟨rfl, rfl⟩))
  all_goals
    go_ret
    go_light
    exact ⟨rfl, ⟨G, HO.out, RowAt.alloc HG.out _, RowAt.alloc HR.out _⟩, (Upd.refl _ _).alloc _⟩

theorem does_any (g r : Nat) (hgr : g ≠ r) (G : Gm) (w : World) (hG : GicAt w g G) (hR : RefAt w r G) (hok : Okg G) (d l n : Int) (on : Bool) :
    Calls Try.prog 19 #[.pointer (some ⟨g, 0, none⟩), .pointer (some ⟨r, 0, none⟩), .agg #[.int .i64 d, .int .i64 l, .int .i64 n, .bool on]] w (Both g r w) := by
  have hl : (0 ≤ l ∧ l < 32) ∨ (l < 0 ∨ 32 ≤ l) := by omega
  have hp : (0 ≤ n ∧ n < 256) ∨ (n < 0 ∨ 256 ≤ n) := by omega
  have hm : (0 ≤ n ∧ n ≤ 256) ∨ (n < 0 ∨ 256 < n) := by omega
  by_cases e1 : d = 1
  · subst e1; rcases hl with ⟨a, b⟩ | a
    · exact does_1 g r hgr G w hG hR hok l n on a b
    · exact does_1n g r hgr G w hG hR hok l n on a
  by_cases e2 : d = 2
  · subst e2; rcases hl with ⟨a, b⟩ | a
    · exact does_2 g r hgr G w hG hR hok l n on a b
    · exact does_2n g r hgr G w hG hR hok l n on a
  by_cases e3 : d = 3
  · subst e3; rcases hl with ⟨a, b⟩ | a
    · exact does_3 g r hgr G w hG hR hok l n on a b
    · exact does_3n g r hgr G w hG hR hok l n on a
  by_cases e4 : d = 4
  · subst e4; rcases hl with ⟨a, b⟩ | a <;> rcases hp with ⟨c, c'⟩ | c
    · exact does_4 g r hgr G w hG hR hok l n on a b c c'
    · exact does_4bt g r hgr G w hG hR hok l n on a b c
    · exact does_4n g r hgr G w hG hR hok l n on a c c'
    · exact does_4bn g r hgr G w hG hR hok l n on a c
  by_cases e5 : d = 5
  · subst e5; rcases hl with ⟨a, b⟩ | a <;> rcases hm with ⟨c, c'⟩ | c
    · exact does_5t g r hgr G w hG hR hok l n on a b c c'
    · exact does_5bt g r hgr G w hG hR hok l n on a b c
    · exact does_5n g r hgr G w hG hR hok l n on a c c'
    · exact does_5bn g r hgr G w hG hR hok l n on a c
  by_cases e6 : d = 6
  · subst e6; rcases hl with ⟨a, b⟩ | a <;> rcases nextF_is G (bar G) 32 with ⟨_, hn⟩ | ⟨j, _, hj⟩
    · exact does_6tnone g r hgr G w hG hR hok l n on a b hn
    · exact does_6tsome g r hgr G w hG hR hok l n on a b j hj
    · exact does_6nnone g r hgr G w hG hR hok l n on a hn
    · exact does_6nsome g r hgr G w hG hR hok l n on a j hj
  by_cases e7 : d = 7
  · subst e7; rcases hl with ⟨a, b⟩ | a
    · cases ha : G.ac l.toNat
      · exact does_7o g r hgr G w hG hR hok l n on a b ha
      · exact does_7t g r hgr G w hG hR hok l n on a b ha
    · exact does_7n g r hgr G w hG hR hok l n on a
  exact does_x g r hgr G w hG hR hok d l n on (by simp [e1]) (by simp [e2]) (by simp [e3]) (by simp [e4]) (by simp [e5]) (by simp [e6]) (by simp [e7])
end Go.Proofs.Ytmehieloehlepaa
