/- The contracts of the reference's Ack and End. Condition: the block is a reference controller's; its priorities are 0 to 255. -/
import Derived.Test.YtmehieloehlepaaGicX
namespace Go.Proofs.Ytmehieloehlepaa
open Go.RowKit
set_option maxRecDepth 100000

set_option maxHeartbeats 1000000 in
theorem rack_none (b : Nat) (G : Gm) (w : World) (h : RefAt w b G) (hb : ∀ i, i < 32 → 0 ≤ G.pr i ∧ G.pr i < 256) (hn : ∀ i, i < 32 → ¬ Cand G (bar G) i) :
    Calls Try.prog 31 #[.pointer (some ⟨b, 0, none⟩)] w fun e w' => e = .returned (.int .i64 1023) ∧ RefAt w' b G ∧ Upd (· = b) w w' := by
  have H := Lib.hid h; clear h
  have HN := Lib.hid hn; clear hn
  have HB := Lib.hid hb; clear hb
  go_enter Try.func31, Try.ntmps31
  go_wp2_with fail
  refine (rnext_any b G _ (by exact H.out) HB.out).mono ?_
  rintro e w1 ⟨⟨j, hj, _⟩ | ⟨_, rfl⟩, n, rfl⟩
  · exact absurd hj.2.1 (HN.out j hj.1)
  · go_wp2
    go_ret
    go_light
    exact ⟨rfl, H.out, (Upd.refl _ _).drewN n⟩

set_option maxHeartbeats 1000000 in
theorem rack_some (b : Nat) (G : Gm) (w : World) (h : RefAt w b G) (hb : ∀ i, i < 32 → 0 ≤ G.pr i ∧ G.pr i < 256) (j : Nat) (hj : First G (bar G) 32 j) :
    Calls Try.prog 31 #[.pointer (some ⟨b, 0, none⟩)] w fun e w' => e = .returned (.int .i64 j) ∧ RefAt w' b (acked G j) ∧ Upd (· = b) w w' := by
  have H := Lib.hid h; clear h
  have HB := Lib.hid hb; clear hb
  have hlt : j < 32 := hj.1
  have HJ := Lib.hid hj; clear hj
  go_enter Try.func31, Try.ntmps31
  go_wp2_with fail
  refine (rnext_any b G _ (by exact H.out) HB.out).mono ?_
  rintro e w1 ⟨⟨j', hj', rfl⟩ | ⟨hn, _⟩, n, rfl⟩
  · obtain rfl := HJ.out.unique hj'
    clear hj'
    have cp := RowAt.cell H.out j (by omega)
    have cs := RowAt.cell H.out (128 + j) (by omega)
    have cq := RowAt.cell H.out (64 + j) (by omega)
    have ca := RowAt.cell H.out (96 + j) (by omega)
    have fs := RowAt.frozen H.out (128 + j)
    have fq := RowAt.frozen H.out (64 + j)
    have fa := RowAt.frozen H.out (96 + j)
    rw [rcell_pr G j hlt] at cp
    go_wp2
    go_region
    go_wp2
    go_ret
    go_light
    refine ⟨rfl, ?_, ?_⟩
    · exact RefAt.set_sv (RefAt.set_pe (RefAt.set_ac (w := w.drewN n) H.out j hlt true) j hlt false) j hlt (G.pr j)
    · refine Upd.drew (Upd.setCell (Upd.setCell (Upd.setCell ((Upd.refl _ _).drewN n) ?_ _) ?_ _) ?_ _) <;> exact .inl rfl
  · exact absurd HJ.out.2.1 (hn j hlt)

set_option maxHeartbeats 1000000 in
theorem rend_ok (b : Nat) (G : Gm) (w : World) (h : RefAt w b G) (n : Int) (h0 : 0 ≤ n) (h1 : n < 32) (ha : G.ac n.toNat = true) :
    Calls Try.prog 32 #[.pointer (some ⟨b, 0, none⟩), .int .i64 n] w fun e w' =>
      e = .returned (.int .i64 0) ∧ RefAt w' b { G with ac := upd G.ac n.toNat false } ∧ Upd (· = b) w w' := by
  have H := Lib.hid h; clear h
  obtain ⟨i, rfl⟩ := Int.eq_ofNat_of_zero_le h0
  rw [Int.toNat_natCast] at ha
  have ca := RowAt.cell H.out (96 + i) (by omega)
  have fa := RowAt.frozen H.out (96 + i)
  rw [rcell_ac G i (by omega), ha] at ca
  have hi : isB (i : Int) = true := by simp [isB]; omega
  go_enter Try.func32, Try.ntmps32
  go_wp2_with (go_at_call 29; refine (is_any _ _).mono ?_; rintro e w1 ⟨rfl, rfl⟩)
  go_ret
  go_light
  exact ⟨rfl, RefAt.set_ac H.out i (by omega) false, by refine (Upd.refl _ _).setCell ?_ _; exact .inl rfl⟩
set_option maxHeartbeats 1000000 in
theorem rend_off (b : Nat) (G : Gm) (w : World) (h : RefAt w b G) (n : Int) (h0 : 0 ≤ n) (h1 : n < 32) (ha : G.ac n.toNat = false) :
    Calls Try.prog 32 #[.pointer (some ⟨b, 0, none⟩), .int .i64 n] w fun e w' =>
      e = .returned (.int .i64 70) ∧ RefAt w' b G ∧ Upd (· = b) w w' := by
  have H := Lib.hid h; clear h
  obtain ⟨i, rfl⟩ := Int.eq_ofNat_of_zero_le h0
  rw [Int.toNat_natCast] at ha
  have ca := RowAt.cell H.out (96 + i) (by omega)
  rw [rcell_ac G i (by omega), ha] at ca
  have hi : isB (i : Int) = true := by simp [isB]; omega
  go_enter Try.func32, Try.ntmps32
  go_wp2_with (go_at_call 29; refine (is_any _ _).mono ?_; rintro e w1 ⟨rfl, rfl⟩)
  go_ret
  go_light
  exact ⟨rfl, H.out, Upd.refl _ _⟩
set_option maxHeartbeats 1000000 in
theorem rend_err (b : Nat) (w : World) (n : Int) (hn : n < 0 ∨ 32 ≤ n) :
    Calls Try.prog 32 #[.pointer (some ⟨b, 0, none⟩), .int .i64 n] w fun e w' => e = .returned (.int .i64 1) ∧ w = w' := by
  have hi : isB n = false := by simp [isB]; omega
  go_enter Try.func32, Try.ntmps32
  go_wp2_with (go_at_call 29; refine (is_any _ _).mono ?_; rintro e w1 ⟨rfl, rfl⟩)
  go_ret
  go_light
  exact ⟨rfl, rfl⟩
end Go.Proofs.Ytmehieloehlepaa
