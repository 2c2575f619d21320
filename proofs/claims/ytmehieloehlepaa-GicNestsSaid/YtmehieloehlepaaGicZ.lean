/- The contract of the gic laws' own example (function 8): it holds; no condition. -/
import Derived.Test.YtmehieloehlepaaGicC
import Derived.Test.YtmehieloehlepaaGicD
import Derived.Test.YtmehieloehlepaaGicA
import Derived.Test.YtmehieloehlepaaGicW
namespace Go.Proofs.Ytmehieloehlepaa
open Go.RowKit
set_option maxRecDepth 100000

theorem first_of {G : Gm} {j : Nat} {p : Int} (h : nextF G (bar G) 32 = ((j : Int), true, p)) : First G (bar G) 32 j := by
  rcases nextF_is G (bar G) 32 with ⟨e, _⟩ | ⟨j', e, hj⟩
  · rw [h] at e; simp at e
  · rw [h] at e
    simp only [Prod.mk.injEq] at e
    have : j = j' := by omega
    subst this; exact hj
theorem none_of {G : Gm} {x : Int} (h : nextF G (bar G) 32 = (0, false, x)) : ∀ i, i < 32 → ¬ Cand G (bar G) i := by
  rcases nextF_is G (bar G) 32 with ⟨_, hn⟩ | ⟨j', e, _⟩
  · exact hn
  · rw [h] at e; simp at e
def a1 : Gm := { G0 with en := upd G0.en (3 : Int).toNat true }
def a2 : Gm := { a1 with en := upd a1.en (5 : Int).toNat true }
def a3 : Gm := { a2 with pr := upd a2.pr (5 : Int).toNat 10 }
def a4 : Gm := { a3 with pe := upd a3.pe (3 : Int).toNat true }
def a5 : Gm := { a4 with pe := upd a4.pe (5 : Int).toNat true }
def a6 : Gm := acked a5 5
def a7 : Gm := a6
def a8 : Gm := { a7 with pr := upd a7.pr (3 : Int).toNat 4 }
def a9 : Gm := acked a8 3
def a10 : Gm := a9
theorem run10 : runF a9 32 = 4 := by decide +kernel
def a11 : Gm := { a10 with ac := upd a10.ac (5 : Int).toNat false }
def a12 : Gm := { a11 with ac := upd a11.ac (5 : Int).toNat false }

set_option maxHeartbeats 4000000 in
theorem awake_any (w : World) : Calls Try.prog 8 #[] w fun e w' => e = .returned (.bool true) ∧ Below w.heap.size w w' := by
  go_enter Try.func8, Try.ntmps8
  go_wp2_with fail
  refine (new_any _).mono ?_
  rintro e w0 ⟨b, rfl, h0, hb, hbel⟩
  have H0 := Lib.hid h0; have HB := Lib.hid hb; have HBL := Lib.hid hbel; have U0 := Lib.hid (Upd.refl (· = b) w0); clear h0 hb hbel
  go_wp2_with fail
  refine (enable_ok b G0 _ H0.out 3 (by decide) (by decide) true).mono ?_
  rintro e w1 ⟨rfl, h1, u1⟩
  have H1 : Hid (GicAt w1 b a1) := Lib.hid h1; have U1 := Lib.hid (U0.out.trans u1); clear h1 u1 H0 U0
  go_wp2_with fail
  refine (enable_ok b a1 _ H1.out 5 (by decide) (by decide) true).mono ?_
  rintro e w2 ⟨rfl, h2, u2⟩
  have H2 : Hid (GicAt w2 b a2) := Lib.hid h2; have U2 := Lib.hid (U1.out.trans u2); clear h2 u2 H1 U1
  go_wp2_with fail
  refine (setpri_ok b a2 _ H2.out 5 (by decide) (by decide) 10 (by decide) (by decide)).mono ?_
  rintro e w3 ⟨rfl, h3, u3⟩
  have H3 : Hid (GicAt w3 b a3) := Lib.hid h3; have U3 := Lib.hid (U2.out.trans u3); clear h3 u3 H2 U2
  go_wp2_with fail
  refine (raise_ok b a3 _ H3.out 3 (by decide) (by decide)).mono ?_
  rintro e w4 ⟨rfl, h4, u4⟩
  have H4 : Hid (GicAt w4 b a4) := Lib.hid h4; have U4 := Lib.hid (U3.out.trans u4); clear h4 u4 H3 U3
  go_wp2_with fail
  refine (raise_ok b a4 _ H4.out 5 (by decide) (by decide)).mono ?_
  rintro e w5 ⟨rfl, h5, u5⟩
  have H5 : Hid (GicAt w5 b a5) := Lib.hid h5; have U5 := Lib.hid (U4.out.trans u5); clear h5 u5 H4 U4
  go_wp2_with fail
  refine (ack_some b a5 _ H5.out 5 (first_of (p := 10) (by decide +kernel))).mono ?_
  rintro e w6 ⟨rfl, h6, u6⟩
  have H6 : Hid (GicAt w6 b a6) := Lib.hid h6; have U6 := Lib.hid (U5.out.trans u6); clear h6 u6 H5 U5
  go_wp2_with fail
  refine (ack_none b a6 _ H6.out (none_of (x := 10) (by decide +kernel))).mono ?_
  rintro e w7 ⟨rfl, h7, u7⟩
  have H7 : Hid (GicAt w7 b a7) := Lib.hid h7; have U7 := Lib.hid (U6.out.trans u7); clear h7 u7 H6 U6
  go_wp2_with fail
  refine (setpri_ok b a7 _ H7.out 3 (by decide) (by decide) 4 (by decide) (by decide)).mono ?_
  rintro e w8 ⟨rfl, h8, u8⟩
  have H8 : Hid (GicAt w8 b a8) := Lib.hid h8; have U8 := Lib.hid (U7.out.trans u8); clear h8 u8 H7 U7
  go_wp2_with fail
  refine (ack_some b a8 _ H8.out 3 (first_of (p := 4) (by decide +kernel))).mono ?_
  rintro e w9 ⟨rfl, h9, u9⟩
  have H9 : Hid (GicAt w9 b a9) := Lib.hid h9; have U9 := Lib.hid (U8.out.trans u9); clear h9 u9 H8 U8
  go_wp2_with fail
  refine (running_any b a9 _ H9.out).mono ?_
  rintro e w10 ⟨rfl, hb10⟩
  rw [run10]
  have H10 : Hid (GicAt w10 b a10) := Lib.hid (H9.out.below hb10); have U10 := Lib.hid (U9.out.trans (Upd.of_below hb10)); clear hb10 H9 U9
  go_wp2_with fail
  refine (end_ok b a10 _ H10.out 5 (by decide) (by decide) (by decide +kernel)).mono ?_
  rintro e w11 ⟨rfl, h11, u11⟩
  have H11 : Hid (GicAt w11 b a11) := Lib.hid h11; have U11 := Lib.hid (U10.out.trans u11); clear h11 u11 H10 U10
  go_wp2_with fail
  refine (end_off_ok b a11 _ H11.out 5 (by decide) (by decide) (by decide +kernel)).mono ?_
  rintro e w12 ⟨rfl, h12, u12⟩
  have H12 : Hid (GicAt w12 b a12) := Lib.hid h12; have U12 := Lib.hid (U11.out.trans u12); clear h12 u12 H11 U11
  go_wp2
  go_ret
  go_light
  refine ⟨rfl, ?_⟩
  have hU : Upd (· = b) w w12 := (Upd.of_below HBL.out).trans U12.out
  exact hU.below (fun k hk => by rw [hk]; exact HB.out)
end Go.Proofs.Ytmehieloehlepaa
