/- Proved: nothing is made of a right cap but a right one of the same object, with no right more, and what was badged keeps its badge (viceroylaw11.CapsLess returns true for every cap and all numbers), with no condition. -/
import Derived.Test.YtcbbmgohdcabeaaCapsW
import Derived.Test.YtcbbmgohdcabeaaCapsO
namespace Go.Proofs.Ytcbbmgohdcabeaa
open Go.RowKit
set_option maxRecDepth 100000

theorem ofInt_and (x y : Int) : BitVec.ofInt 64 (bits .and .i64 x y) = BitVec.ofInt 64 x &&& BitVec.ofInt 64 y := by
  have hb : bits .and .i64 x y = IntKind.i64.wrap ((BitVec.ofInt 64 x &&& BitVec.ofInt 64 y).toNat : Int) := rfl
  have hl := (BitVec.ofInt 64 x &&& BitVec.ofInt 64 y).isLt
  apply BitVec.eq_of_toNat_eq
  have e := toNat_ofInt (bits .and .i64 x y)
  rw [hb, IntKind.wrap_i64] at e ⊢
  omega
theorem bv_self (a : BitVec 64) : a &&& ~~~a = 0#64 := by
  apply BitVec.eq_of_getLsbD_eq
  intro i hi
  simp only [BitVec.getLsbD_and, BitVec.getLsbD_not, BitVec.getLsbD_zero]
  cases a.getLsbD i <;> simp
theorem bv_less (a b : BitVec 64) : (a &&& b) &&& ~~~a = 0#64 := by
  apply BitVec.eq_of_getLsbD_eq
  intro i hi
  simp only [BitVec.getLsbD_and, BitVec.getLsbD_not, BitVec.getLsbD_zero]
  cases a.getLsbD i <;> simp
theorem bv_in (a b m : BitVec 64) (h : a &&& ~~~m = 0#64) : (a &&& b) &&& ~~~m = 0#64 := by
  rw [BitVec.and_assoc, BitVec.and_comm b, ← BitVec.and_assoc, h, BitVec.zero_and]
theorem less_mR (k r m : Int) : bits .andNot .i64 (mR k r m) r = 0 := by
  unfold mR; split
  · show IntKind.i64.wrap ((BitVec.ofInt 64 (bits .and .i64 r m) &&& ~~~(BitVec.ofInt 64 r)).toNat : Int) = 0
    rw [ofInt_and, bv_less]; rfl
  · show IntKind.i64.wrap ((BitVec.ofInt 64 r &&& ~~~(BitVec.ofInt 64 r)).toNat : Int) = 0
    rw [bv_self]; rfl
theorem in_mR (k r m x : Int) (h : bits .andNot .i64 r x = 0) : bits .andNot .i64 (mR k r m) x = 0 := by
  unfold mR; split
  · show IntKind.i64.wrap ((BitVec.ofInt 64 (bits .and .i64 r m) &&& ~~~(BitVec.ofInt 64 x)).toNat : Int) = 0
    have h' : BitVec.ofInt 64 r &&& ~~~(BitVec.ofInt 64 x) = 0#64 := wrap_zero _ h
    rw [ofInt_and, bv_in _ _ _ h']; rfl
  · exact h
theorem right_mask {k o r b ra g gb : Int} {d : Bool} (m : Int) (h : rightB k o r b ra g gb d = true) : rightB k o (mR k r m) b ra g gb d = true := by
  simp only [rightB, decide_eq_true_eq] at h ⊢
  rcases h with ⟨h1, h2, h3, h4⟩ | ⟨h1, h2, h3, h4, h5, h6, h7, h8⟩
  · exact .inl ⟨h1, h2, by simp [mR, h1, h3], h4⟩
  · exact .inr ⟨h1, h2, h3, h4, h5, h6, in_mR _ _ _ _ h7, h8⟩
theorem right_mint {k o r b ra g gb : Int} {d : Bool} (m : Int) {bd G B : Int} (h : rightB k o r b ra g gb d = true) (he : mintE k b bd G B = 0) :
    rightB k o (mR k r m) (mB k b bd) ra (mG k g G) (mG k gb B) d = true ∧ sameB k o k o = true ∧ (b = 0 ∨ mB k b bd = b) := by
  have hm := right_mask m h
  unfold mintE at he
  by_cases hd : derE k = 0
  · have hk0 := (derE_not hd).1
    simp only [hd, ne_eq, not_true_eq_false, if_false] at he
    by_cases h4 : (k = 4 ∨ k = 5) ∧ bd ≠ 0
    · have h4' : (k = 4 ∨ k = 5) ∧ ¬ bd = 0 := h4
      rw [if_pos h4'] at he
      have hb0 : b = 0 := by split at he <;> first | omega | (rename_i hx; omega)
      rw [if_neg (by omega)] at he
      have hbd : ¬ (bd < 0 ∨ 1048576 ≤ bd) := by intro hx; rw [if_pos hx] at he; omega
      have hk2 : ¬ k = 2 := by omega
      refine ⟨?_, by simp [sameB, hk0], .inl hb0⟩
      simp only [mB, mG, if_pos h4, if_neg hk2]
      simp only [rightB, decide_eq_true_eq] at hm ⊢
      rcases hm with hm | ⟨h1, h2, h3, h4'', h5, h6, h7, h8, h9, h10, h11, h12⟩
      · exact absurd hm.1 hk0
      · exact .inr ⟨h1, h2, h3, h4'', h5, h6, h7, fun _ => by omega, fun hx => absurd h4.1 hx, h10, h11, h12⟩
    · have h4' : ¬ ((k = 4 ∨ k = 5) ∧ ¬ bd = 0) := h4
      rw [if_neg h4'] at he
      have hmB : mB k b bd = b := by simp only [mB, if_neg h4]
      refine ⟨?_, by simp [sameB, hk0], .inr hmB⟩
      rw [hmB]
      by_cases hk2 : k = 2
      · rw [if_pos hk2] at he
        have hg : gB G B = true := by
          cases hg : gB G B
          · simp [hg] at he
          · rfl
        simp only [mG, if_pos hk2]
        simp only [rightB, decide_eq_true_eq] at hm ⊢
        rcases hm with hm | ⟨h1, h2, h3, h4'', h5, h6, h7, h8, h9, h10, h11, h12⟩
        · exact absurd hm.1 hk0
        · exact .inr ⟨h1, h2, h3, h4'', h5, h6, h7, h8, h9, fun hx => ⟨(h10 hx).1, (h10 hx).2.1, hg⟩, fun hx => absurd hk2 hx, h12⟩
      · simp only [mG, if_neg hk2]
        exact hm
  · simp [hd] at he

set_option maxHeartbeats 4000000 in
theorem walk_CapsLess (k o r b ra g gb : Int) (d : Bool) (rights badge guard bits' : Int) (w : World) :
    Calls Try.prog 7 #[.agg #[.int .i64 k, .int .i64 o, .int .i64 r, .int .i64 b, .int .i64 ra, .int .i64 g, .int .i64 gb, .bool d], .int .i64 rights, .int .i64 badge, .int .i64 guard, .int .i64 bits'] w fun e w' => e = .returned (.bool true) ∧ Below w.heap.size w w' := by
  cases hr : rightB k o r b ra g gb d
  · go_enter Try.func7, Try.ntmps7
    go_wp2_with fail
    refine (awake_any _).mono ?_; rintro e w1 ⟨rfl, hbw1⟩
    have hcw1 := (bcell hbw1).1
    try simp only [World.size_alloc] at hcw1
    have y0_0 : w.heap.size < w1.heap.size := by have := hbw1.size; first | omega | (simp at this; omega)
    have y0_1 : w.heap.size < w1.heap.size + 1 := by omega
    go_wp2_with fail
    refine (right_any _ _ _ _ _ _ _ _ _).mono ?_; rintro e w2 ⟨rfl, hbw2⟩
    have hcw2 := (bcell hbw2).1
    try simp only [World.size_alloc] at hcw2
    have z0_0 : w.heap.size < w2.heap.size := by have := hbw2.size; first | omega | (simp at this; omega)
    have z0_1 : w.heap.size < w2.heap.size + 1 := by omega
    have z0_2 : w.heap.size < w2.heap.size + 1 + 1 := by omega
    have z0_3 : w.heap.size < w2.heap.size + 1 + 1 + 1 := by omega
    go_wp2_with fail
    all_goals
      go_ret
      go_light
      refine ⟨rfl, ?_⟩
      clear hcw1 hcw2
      repeat (first | exact Below.refl _ _ | (with_reducible refine Below.alloc ?_ (by first | omega | (simp; done) | (simp; omega)) _))
      refine Below.trans ?_ (hbw2.mono (by first | omega | (simp; done) | (simp; omega)))
      repeat (first | exact Below.refl _ _ | (with_reducible refine Below.alloc ?_ (by first | omega | (simp; done) | (simp; omega)) _))
      refine Below.trans ?_ (hbw1.mono (by first | omega | (simp; done) | (simp; omega)))
      repeat (first | exact Below.refl _ _ | (with_reducible refine Below.alloc ?_ (by first | omega | (simp; done) | (simp; omega)) _))
  · have hm := right_mask rights hr
    have hl := less_mR k r rights
    by_cases hE : mintE k b badge guard bits' = 0
    · obtain ⟨hx, hs, hb⟩ := right_mint rights hr hE
      have hb' : (b == 0) = true ∨ (b == 0) = false ∧ mB k b badge = b := by
        by_cases hb0 : b = 0
        · exact .inl (by simp [hb0])
        · exact .inr ⟨by simp [hb0], hb.resolve_left hb0⟩
      clear hb
      rcases hb' with hb' | ⟨hb', hb''⟩
      · go_enter Try.func7, Try.ntmps7
        go_wp2_with fail
        refine (awake_any _).mono ?_; rintro e w1 ⟨rfl, hbw1⟩
        have hcw1 := (bcell hbw1).1
        try simp only [World.size_alloc] at hcw1
        have y0_0 : w.heap.size < w1.heap.size := by have := hbw1.size; first | omega | (simp at this; omega)
        have y0_1 : w.heap.size < w1.heap.size + 1 := by omega
        go_wp2_with fail
        refine (right_any _ _ _ _ _ _ _ _ _).mono ?_; rintro e w2 ⟨rfl, hbw2⟩
        have hcw2 := (bcell hbw2).1
        try simp only [World.size_alloc] at hcw2
        have z0_0 : w.heap.size < w2.heap.size := by have := hbw2.size; first | omega | (simp at this; omega)
        have z0_1 : w.heap.size < w2.heap.size + 1 := by omega
        have z0_2 : w.heap.size < w2.heap.size + 1 + 1 := by omega
        have z0_3 : w.heap.size < w2.heap.size + 1 + 1 + 1 := by omega
        go_wp2_with (go_at_call 11; refine (mask_any _ _ _ _ _ _ _ _ _ _).mono ?_; rintro e w9 ⟨rfl, rfl⟩)
        refine (mint_any _ _ _ _ _ _ _ _ _ _ _ _ _).mono ?_; rintro e w3 ⟨rfl, hbw3⟩; simp only [hE, mz, mzb, if_true]
        have hcw3 := (bcell hbw3).1
        try simp only [World.size_alloc] at hcw3
        have u0_0 : w.heap.size < w3.heap.size := by have := hbw3.size; first | omega | (simp at this; omega)
        have u0_1 : w.heap.size < w3.heap.size + 1 := by omega
        have u1_0 : w2.heap.size + 1 + 1 < w3.heap.size := by have := hbw3.size; first | omega | (simp at this; omega)
        have u1_1 : w2.heap.size + 1 + 1 < w3.heap.size + 1 := by omega
        go_wp2_with fail
        refine (right_any _ _ _ _ _ _ _ _ _).mono ?_; rintro e w4 ⟨rfl, hbw4⟩
        have hcw4 := (bcell hbw4).1
        try simp only [World.size_alloc] at hcw4
        have v0_0 : w.heap.size < w4.heap.size := by have := hbw4.size; first | omega | (simp at this; omega)
        have v1_0 : w2.heap.size + 1 + 1 < w4.heap.size := by have := hbw4.size; first | omega | (simp at this; omega)
        have v2_0 : w3.heap.size < w4.heap.size := by have := hbw4.size; first | omega | (simp at this; omega)
        go_wp2_with fail
        refine (right_any _ _ _ _ _ _ _ _ _).mono ?_; rintro e w5 ⟨rfl, hbw5⟩
        have hcw5 := (bcell hbw5).1
        try simp only [World.size_alloc] at hcw5
        have x0_0 : w.heap.size < w5.heap.size := by have := hbw5.size; first | omega | (simp at this; omega)
        have x0_1 : w.heap.size < w5.heap.size + 1 := by omega
        have x0_2 : w.heap.size < w5.heap.size + 1 + 1 := by omega
        have x1_0 : w2.heap.size + 1 + 1 < w5.heap.size := by have := hbw5.size; first | omega | (simp at this; omega)
        have x1_1 : w2.heap.size + 1 + 1 < w5.heap.size + 1 := by omega
        have x1_2 : w2.heap.size + 1 + 1 < w5.heap.size + 1 + 1 := by omega
        have x2_0 : w3.heap.size < w5.heap.size := by have := hbw5.size; first | omega | (simp at this; omega)
        have x2_1 : w3.heap.size < w5.heap.size + 1 := by omega
        have x2_2 : w3.heap.size < w5.heap.size + 1 + 1 := by omega
        go_wp2_with (go_at_call 29; refine (same_any _ _ _ _ _ _ _ _ _ _ _ _ _ _ _ _ _).mono ?_; rintro e w9 ⟨rfl, rfl⟩)
        all_goals
          go_ret
          go_light
          refine ⟨rfl, ?_⟩
          clear hcw1 hcw2 hcw3 hcw4 hcw5
          repeat (first | exact Below.refl _ _ | (with_reducible refine Below.alloc ?_ (by first | omega | (simp; done) | (simp; omega)) _))
          refine Below.trans ?_ (hbw5.mono (by first | omega | (simp; done) | (simp; omega)))
          repeat (first | exact Below.refl _ _ | (with_reducible refine Below.alloc ?_ (by first | omega | (simp; done) | (simp; omega)) _))
          refine Below.trans ?_ (hbw4.mono (by first | omega | (simp; done) | (simp; omega)))
          repeat (first | exact Below.refl _ _ | (with_reducible refine Below.alloc ?_ (by first | omega | (simp; done) | (simp; omega)) _))
          refine Below.trans ?_ (hbw3.mono (by first | omega | (simp; done) | (simp; omega)))
          repeat (first | exact Below.refl _ _ | (with_reducible refine Below.alloc ?_ (by first | omega | (simp; done) | (simp; omega)) _))
          refine Below.trans ?_ (hbw2.mono (by first | omega | (simp; done) | (simp; omega)))
          repeat (first | exact Below.refl _ _ | (with_reducible refine Below.alloc ?_ (by first | omega | (simp; done) | (simp; omega)) _))
          refine Below.trans ?_ (hbw1.mono (by first | omega | (simp; done) | (simp; omega)))
          repeat (first | exact Below.refl _ _ | (with_reducible refine Below.alloc ?_ (by first | omega | (simp; done) | (simp; omega)) _))
      · rw [hb''] at hx
        go_enter Try.func7, Try.ntmps7
        go_wp2_with fail
        refine (awake_any _).mono ?_; rintro e w1 ⟨rfl, hbw1⟩
        have hcw1 := (bcell hbw1).1
        try simp only [World.size_alloc] at hcw1
        have y0_0 : w.heap.size < w1.heap.size := by have := hbw1.size; first | omega | (simp at this; omega)
        have y0_1 : w.heap.size < w1.heap.size + 1 := by omega
        go_wp2_with fail
        refine (right_any _ _ _ _ _ _ _ _ _).mono ?_; rintro e w2 ⟨rfl, hbw2⟩
        have hcw2 := (bcell hbw2).1
        try simp only [World.size_alloc] at hcw2
        have z0_0 : w.heap.size < w2.heap.size := by have := hbw2.size; first | omega | (simp at this; omega)
        have z0_1 : w.heap.size < w2.heap.size + 1 := by omega
        have z0_2 : w.heap.size < w2.heap.size + 1 + 1 := by omega
        have z0_3 : w.heap.size < w2.heap.size + 1 + 1 + 1 := by omega
        go_wp2_with (go_at_call 11; refine (mask_any _ _ _ _ _ _ _ _ _ _).mono ?_; rintro e w9 ⟨rfl, rfl⟩)
        refine (mint_any _ _ _ _ _ _ _ _ _ _ _ _ _).mono ?_; rintro e w3 ⟨rfl, hbw3⟩; simp only [hE, mz, mzb, if_true]
        have hcw3 := (bcell hbw3).1
        try simp only [World.size_alloc] at hcw3
        have u0_0 : w.heap.size < w3.heap.size := by have := hbw3.size; first | omega | (simp at this; omega)
        have u0_1 : w.heap.size < w3.heap.size + 1 := by omega
        have u1_0 : w2.heap.size + 1 + 1 < w3.heap.size := by have := hbw3.size; first | omega | (simp at this; omega)
        have u1_1 : w2.heap.size + 1 + 1 < w3.heap.size + 1 := by omega
        go_wp2_with fail
        refine (right_any _ _ _ _ _ _ _ _ _).mono ?_; rintro e w4 ⟨rfl, hbw4⟩
        have hcw4 := (bcell hbw4).1
        try simp only [World.size_alloc] at hcw4
        have v0_0 : w.heap.size < w4.heap.size := by have := hbw4.size; first | omega | (simp at this; omega)
        have v1_0 : w2.heap.size + 1 + 1 < w4.heap.size := by have := hbw4.size; first | omega | (simp at this; omega)
        have v2_0 : w3.heap.size < w4.heap.size := by have := hbw4.size; first | omega | (simp at this; omega)
        go_wp2_with fail
        refine (right_any _ _ _ _ _ _ _ _ _).mono ?_; rintro e w5 ⟨rfl, hbw5⟩
        have hcw5 := (bcell hbw5).1
        try simp only [World.size_alloc] at hcw5
        have x0_0 : w.heap.size < w5.heap.size := by have := hbw5.size; first | omega | (simp at this; omega)
        have x0_1 : w.heap.size < w5.heap.size + 1 := by omega
        have x0_2 : w.heap.size < w5.heap.size + 1 + 1 := by omega
        have x1_0 : w2.heap.size + 1 + 1 < w5.heap.size := by have := hbw5.size; first | omega | (simp at this; omega)
        have x1_1 : w2.heap.size + 1 + 1 < w5.heap.size + 1 := by omega
        have x1_2 : w2.heap.size + 1 + 1 < w5.heap.size + 1 + 1 := by omega
        have x2_0 : w3.heap.size < w5.heap.size := by have := hbw5.size; first | omega | (simp at this; omega)
        have x2_1 : w3.heap.size < w5.heap.size + 1 := by omega
        have x2_2 : w3.heap.size < w5.heap.size + 1 + 1 := by omega
        go_wp2_with (go_at_call 29; refine (same_any _ _ _ _ _ _ _ _ _ _ _ _ _ _ _ _ _).mono ?_; rintro e w9 ⟨rfl, rfl⟩)
        all_goals
          go_ret
          go_light
          refine ⟨rfl, ?_⟩
          clear hcw1 hcw2 hcw3 hcw4 hcw5
          repeat (first | exact Below.refl _ _ | (with_reducible refine Below.alloc ?_ (by first | omega | (simp; done) | (simp; omega)) _))
          refine Below.trans ?_ (hbw5.mono (by first | omega | (simp; done) | (simp; omega)))
          repeat (first | exact Below.refl _ _ | (with_reducible refine Below.alloc ?_ (by first | omega | (simp; done) | (simp; omega)) _))
          refine Below.trans ?_ (hbw4.mono (by first | omega | (simp; done) | (simp; omega)))
          repeat (first | exact Below.refl _ _ | (with_reducible refine Below.alloc ?_ (by first | omega | (simp; done) | (simp; omega)) _))
          refine Below.trans ?_ (hbw3.mono (by first | omega | (simp; done) | (simp; omega)))
          repeat (first | exact Below.refl _ _ | (with_reducible refine Below.alloc ?_ (by first | omega | (simp; done) | (simp; omega)) _))
          refine Below.trans ?_ (hbw2.mono (by first | omega | (simp; done) | (simp; omega)))
          repeat (first | exact Below.refl _ _ | (with_reducible refine Below.alloc ?_ (by first | omega | (simp; done) | (simp; omega)) _))
          refine Below.trans ?_ (hbw1.mono (by first | omega | (simp; done) | (simp; omega)))
          repeat (first | exact Below.refl _ _ | (with_reducible refine Below.alloc ?_ (by first | omega | (simp; done) | (simp; omega)) _))
    · have hn : (mintE k b badge guard bits' != 0) = true := by simp [hE]
      go_enter Try.func7, Try.ntmps7
      go_wp2_with fail
      refine (awake_any _).mono ?_; rintro e w1 ⟨rfl, hbw1⟩
      have hcw1 := (bcell hbw1).1
      try simp only [World.size_alloc] at hcw1
      have y0_0 : w.heap.size < w1.heap.size := by have := hbw1.size; first | omega | (simp at this; omega)
      have y0_1 : w.heap.size < w1.heap.size + 1 := by omega
      go_wp2_with fail
      refine (right_any _ _ _ _ _ _ _ _ _).mono ?_; rintro e w2 ⟨rfl, hbw2⟩
      have hcw2 := (bcell hbw2).1
      try simp only [World.size_alloc] at hcw2
      have z0_0 : w.heap.size < w2.heap.size := by have := hbw2.size; first | omega | (simp at this; omega)
      have z0_1 : w.heap.size < w2.heap.size + 1 := by omega
      have z0_2 : w.heap.size < w2.heap.size + 1 + 1 := by omega
      have z0_3 : w.heap.size < w2.heap.size + 1 + 1 + 1 := by omega
      go_wp2_with (go_at_call 11; refine (mask_any _ _ _ _ _ _ _ _ _ _).mono ?_; rintro e w9 ⟨rfl, rfl⟩)
      refine (mint_any _ _ _ _ _ _ _ _ _ _ _ _ _).mono ?_; rintro e w3 ⟨rfl, hbw3⟩; simp only [hE, mz, mzb, if_false]
      have hcw3 := (bcell hbw3).1
      try simp only [World.size_alloc] at hcw3
      have u0_0 : w.heap.size < w3.heap.size := by have := hbw3.size; first | omega | (simp at this; omega)
      have u0_1 : w.heap.size < w3.heap.size + 1 := by omega
      have u1_0 : w2.heap.size + 1 + 1 < w3.heap.size := by have := hbw3.size; first | omega | (simp at this; omega)
      have u1_1 : w2.heap.size + 1 + 1 < w3.heap.size + 1 := by omega
      go_wp2_with fail
      refine (right_any _ _ _ _ _ _ _ _ _).mono ?_; rintro e w4 ⟨rfl, hbw4⟩
      have hcw4 := (bcell hbw4).1
      try simp only [World.size_alloc] at hcw4
      have v0_0 : w.heap.size < w4.heap.size := by have := hbw4.size; first | omega | (simp at this; omega)
      have v1_0 : w2.heap.size + 1 + 1 < w4.heap.size := by have := hbw4.size; first | omega | (simp at this; omega)
      have v2_0 : w3.heap.size < w4.heap.size := by have := hbw4.size; first | omega | (simp at this; omega)
      go_wp2_with fail
      refine (right_any _ _ _ _ _ _ _ _ _).mono ?_; rintro e w5 ⟨rfl, hbw5⟩
      have hcw5 := (bcell hbw5).1
      try simp only [World.size_alloc] at hcw5
      have x0_0 : w.heap.size < w5.heap.size := by have := hbw5.size; first | omega | (simp at this; omega)
      have x0_1 : w.heap.size < w5.heap.size + 1 := by omega
      have x0_2 : w.heap.size < w5.heap.size + 1 + 1 := by omega
      have x1_0 : w2.heap.size + 1 + 1 < w5.heap.size := by have := hbw5.size; first | omega | (simp at this; omega)
      have x1_1 : w2.heap.size + 1 + 1 < w5.heap.size + 1 := by omega
      have x1_2 : w2.heap.size + 1 + 1 < w5.heap.size + 1 + 1 := by omega
      have x2_0 : w3.heap.size < w5.heap.size := by have := hbw5.size; first | omega | (simp at this; omega)
      have x2_1 : w3.heap.size < w5.heap.size + 1 := by omega
      have x2_2 : w3.heap.size < w5.heap.size + 1 + 1 := by omega
      go_wp2_with fail
      all_goals
        go_ret
        go_light
        refine ⟨rfl, ?_⟩
        clear hcw1 hcw2 hcw3 hcw4 hcw5
        repeat (first | exact Below.refl _ _ | (with_reducible refine Below.alloc ?_ (by first | omega | (simp; done) | (simp; omega)) _))
        refine Below.trans ?_ (hbw5.mono (by first | omega | (simp; done) | (simp; omega)))
        repeat (first | exact Below.refl _ _ | (with_reducible refine Below.alloc ?_ (by first | omega | (simp; done) | (simp; omega)) _))
        refine Below.trans ?_ (hbw4.mono (by first | omega | (simp; done) | (simp; omega)))
        repeat (first | exact Below.refl _ _ | (with_reducible refine Below.alloc ?_ (by first | omega | (simp; done) | (simp; omega)) _))
        refine Below.trans ?_ (hbw3.mono (by first | omega | (simp; done) | (simp; omega)))
        repeat (first | exact Below.refl _ _ | (with_reducible refine Below.alloc ?_ (by first | omega | (simp; done) | (simp; omega)) _))
        refine Below.trans ?_ (hbw2.mono (by first | omega | (simp; done) | (simp; omega)))
        repeat (first | exact Below.refl _ _ | (with_reducible refine Below.alloc ?_ (by first | omega | (simp; done) | (simp; omega)) _))
        refine Below.trans ?_ (hbw1.mono (by first | omega | (simp; done) | (simp; omega)))
        repeat (first | exact Below.refl _ _ | (with_reducible refine Below.alloc ?_ (by first | omega | (simp; done) | (simp; omega)) _))
end Go.Proofs.Ytcbbmgohdcabeaa
namespace Go.Proofs.Ytcbbmgohdcabeaa
open Go.Joins Go.ChangeShapes Go.WideShapes Go.ChangeAt Go.RowKit
theorem CapsLess_lifted (os : Os) (started : os.Started) (H : Type) (enc : TypeId × Value → H) :
    ReturnsInHanded {} Try.checked os 7 .any (Rows.capsLessSpec.pre6 enc Try.prog Try.f7 Rows.capsLessRow.domain false) (Rows.capsLessSpec.post enc Try.prog Try.f7 false true false false) := by
  refine returnsInHanded_of_change (C := Try.checked) own started (by kernel_rfl) Try.func7
    (ChangeSpec.witness6 (enc := enc) (C := Try.checked) false ⟨#[], #[.agg #[.int .i64 0, .int .i64 0, .int .i64 0, .int .i64 0, .int .i64 0, .int .i64 0, .int .i64 0, .bool false], .int .i64 0, .int .i64 0, .int .i64 0, .int .i64 0], []⟩ 8 (by kernel_rfl) (by kernel_rfl) (by kernel_rfl) (by kernel_rfl)) ?_
  intro W base args ds gs before hval0 hW hcnd _
  have hval : ∀ (j : Nat) t v, Try.f7.params[j]? = some t → args[j]? = some v → Value.okWide Try.prog W .any base t v := hval0
  have hW' := hW
  obtain ⟨p, q, hA0, hV, rfl, hfz, hnd⟩ := hW
  have hA : DataW.TrodAll enc Try.prog W 0 (fun _ => true) true Try.f7.params.toList args.toList ds p := hA0
  rw [Try.params7] at hA hval
  obtain ⟨rfl, rfl⟩ := trodVars_none hV
  clear hA0 hval0
  obtain ⟨args⟩ := args
  obtain ⟨v0, vs0, d0, ds0, p0, q0, ha0, rfl, rfl, h0, r0⟩ := trodAll_cons hA
  simp only at ha0
  subst ha0
  obtain ⟨v1, vs1, d1, ds1, p1, q1, ha1, rfl, rfl, h1, r1⟩ := trodAll_cons r0
  subst ha1
  obtain ⟨v2, vs2, d2, ds2, p2, q2, ha2, rfl, rfl, h2, r2⟩ := trodAll_cons r1
  subst ha2
  obtain ⟨v3, vs3, d3, ds3, p3, q3, ha3, rfl, rfl, h3, r3⟩ := trodAll_cons r2
  subst ha3
  obtain ⟨v4, vs4, d4, ds4, p4, q4, ha4, rfl, rfl, h4, r4⟩ := trodAll_cons r3
  subst ha4
  obtain ⟨hn, rfl, rfl⟩ := trodAll_nil r4
  subst hn
  obtain ⟨k, o, r, b, ra, g, gb, d, rfl, hr0, hr1⟩ := open_cap (hval 0 23 v0 rfl rfl) h0
  obtain ⟨rights, rfl, _, _, wf_rights⟩ := open_int Try.underlying3 (hval 1 3 v1 rfl rfl) h1
  obtain ⟨badge, rfl, _, _, wf_badge⟩ := open_int Try.underlying3 (hval 2 3 v2 rfl rfl) h2
  obtain ⟨guard, rfl, _, _, wf_guard⟩ := open_int Try.underlying3 (hval 3 3 v3 rfl rfl) h3
  obtain ⟨bits', rfl, _, _, wf_bits'⟩ := open_int Try.underlying3 (hval 4 3 v4 rfl rfl) h4
  refine (walk_CapsLess k o r b ra g gb d rights badge guard bits' W).mono fun e W' ⟨he, hb⟩ => ⟨_, he, ?_⟩
  exact law_post laidOut (by kernel_rfl) (by kernel_rfl) Try.underlying4 rfl hW' rfl hb

theorem CapsLess_over : Rows.capsLessRow.holds Try.pinned (OpenSpec.ofChange Rows.capsLessSpec) :=
  OpenClaim.holds_of_wide 7 Try.f7 rfl rfl rfl rfl rfl rfl rfl ⟨rfl, rfl, rfl, rfl, rfl⟩ rfl rfl rfl rfl rfl (by kernel_rfl) Try.func7 (by kernel_rfl)
    (of_decide_eq_true (by kernel_rfl)) (by unfold Func.isWrapper; first | (rw [if_pos (by decide +kernel)]; kernel_rfl) | (rw [if_neg (by decide +kernel)]; exact ⟨rfl, rfl⟩))
    (fun os started H enc _ => CapsLess_lifted os started H enc)

theorem CapsLess_holds : Rows.CapsLessSaid := CapsLess_over
#print axioms CapsLess_holds
end Go.Proofs.Ytcbbmgohdcabeaa
