/- The contract of Vgic.All: all virtual interrupts that are pending or active, in the document's order, in a slice of new memory; no condition. -/
import Derived.Test.YtnebjbjdgfaooaaVgL
import Derived.WalkKit
namespace Go.Proofs.Ytnebjbjdgfaooaa
open Go.RowKit Go.Maps
set_option maxRecDepth 100000
theorem info48 : (Try.prog.info? 48).map (fun i => (i.zero, i.size, i.bytes)) = some (some (.agg #[.int .i64 0, .int .i64 0, .bool false, .bool false, .bool false]), 5, 24) := by kernel_rfl
theorem own_block_ne {w : World} {base : Nat} {e : TypeId} {size : Nat} {v : Value} {n : Nat} {xs : List Value} (h : w.ownsRow base e size v n xs) {b : Nat} (hb : b < base) : some b ≠ v.ownBlock := by
  intro he
  have := (h.lt b he.symm).1
  omega
theorem VgAt.grown {w w' : World} {v mp ma : Nat} {S : Vm} {row : Option Nat} (h : VgAt w v mp ma S) (hg : w.grownBy w' row) (h1 : some v ≠ row) (h2 : some mp ≠ row) (h3 : some ma ≠ row) : VgAt w' v mp ma S :=
  h.kept (X := fun k => some k = row) ⟨hg.os, hg.tape, hg.output, hg.size, fun k hk hn => hg.block k hk hn⟩ h1 h2 h3
theorem cell_new3 (w : World) (x y : Obj) (c : Array Value) (T : TypeId) (j : Nat) : (((w.alloc x).alloc y).alloc (.cells c T)).cell? ((⟨w.heap.size + 1 + 1, 0, none⟩ : Addr).add j) = c[j]? := by
  have h : (((w.alloc x).alloc y).alloc (.cells c T)).heap[w.heap.size + 1 + 1]? = some (.cells c T) := by
    show (((w.heap.push _).push _).push _)[w.heap.size + 1 + 1]? = _
    rw [Array.getElem?_push, if_pos (by simp)]
  have hadd : (⟨w.heap.size + 1 + 1, 0, none⟩ : Addr).add j = ⟨w.heap.size + 1 + 1, j, none⟩ := by unfold Addr.add; split <;> simp_all
  rw [hadd]
  exact cell_of_row _ _ j c T (0, 0) h
theorem is_nil (w : World) : Calls Try.prog 84 #[.slice none 0 0, .int .i64 0, .int .i64 0, .func (.func 49) #[] #[]] w fun e w' => e = .returned (.tuple #[]) ∧ w = w' := by
  go_enter Try.func84, Try.ntmps84
  go_wp2_with fail
  go_loopw [8, 9] (fun v8 _ wr => v8 = .int .i64 1 ∧ w = wr) (fun _ _ _ => 0)
  case atStart => exact ⟨rfl, rfl⟩
  case round =>
    obtain ⟨rfl, rfl⟩ := hrel
    go_wp2_with fail
    exact bodyPost_end (v := .tuple #[]) (by first | rfl | simp [results, Try.results84, go_sem]) rfl ⟨rfl, rfl⟩
theorem st_nil (w : World) : Calls Try.prog 80 #[.slice none 0 0, .int .i64 0, .func (.func 49) #[] #[]] w fun e w' => e = .returned (.tuple #[]) ∧ w = w' := by
  go_enter Try.func80, Try.ntmps80
  go_wp2_with fail
  go_loopw [7, 8] (fun v7 v8 wr => v7 = .int .i64 0 ∧ v8 = .int .i64 20 ∧ w = wr) (fun _ _ _ => 0)
  case atStart => exact ⟨rfl, rfl, rfl⟩
  case round =>
    obtain ⟨rfl, rfl, rfl⟩ := hrel
    go_wp2_with fail
    refine (is_nil _).mono ?_
    rintro e w2 ⟨rfl, rfl⟩
    go_wp2_with fail
    go_loopw [6, 7, 8, 9] (fun v6 _ _ _ wr => v6 = .int .i64 20 ∧ w = wr) (fun _ _ _ _ _ => 0)
    case atStart => exact ⟨rfl, rfl⟩
    case round =>
      obtain ⟨rfl, rfl⟩ := hrel
      go_wp2_with fail
      exact bodyPost_end (v := .tuple #[]) (by first | rfl | simp [results, Try.results80, go_sem]) rfl ⟨rfl, rfl⟩
theorem sortstable_nil (w : World) : Calls Try.prog 48 #[.slice none 0 0, .func (.func 49) #[] #[]] w fun e w' => e = .returned (.tuple #[]) ∧ w = w' := by
  go_enter Try.func48, Try.ntmps48
  go_wp2_with fail
  refine (st_nil _).mono ?_
  rintro e w2 ⟨rfl, rfl⟩
  go_wp2_with fail
  exact bodyPost_end (v := .tuple #[]) (by first | rfl | simp [results, Try.results48, go_sem]) rfl ⟨rfl, rfl⟩
/-- A slice of new memory that holds the first n of g. -/
def LrSl (w : World) (base : Nat) (sl : Value) (n : Nat) (g : Nat → LrE) : Prop :=
  (sl = .slice none 0 0 ∧ n = 0) ∨ ∃ q cap M, sl = .slice (some ⟨q, 0, none⟩) n cap ∧ n ≤ cap ∧ base ≤ q ∧ LrAt w q M n g
set_option maxHeartbeats 8000000 in
theorem all_any (v mp ma : Nat) (S : Vm) (w : World) (h : VgAt w v mp ma S) :
    Calls Try.prog 20 #[.pointer (some ⟨v, 0, none⟩)] w fun e w' => (∃ sl n g, e = .returned sl ∧ IsAll S.pe S.ac n g ∧ LrSl w' w.heap.size sl n g) ∧ Below w.heap.size w w' := by
  have z0 := h.lt
  have zp := h.pe.lt
  have za := h.ac.lt
  have H := Lib.hid h; clear h
  go_enter Try.func20, Try.ntmps20
  go_wp2_with fail
  go_loopw [3, 4, 5, 6, 7, 8, 9] (fun v3 _ _ _ _ _ v9 wr => ∃ k : Nat, k ≤ 64 ∧ v9 = .int .i64 k ∧ wr.ownsRow w.heap.size 48 5 v3 (preL S.pe S.ac k).length (cellsL (preL S.pe S.ac k)) ∧ VgAt wr v mp ma S ∧ Below w.heap.size w wr) (fun _ _ _ _ _ _ v9 _ => 64 - (intOf v9).toNat)
  case atStart => exact ⟨0, by omega, rfl, World.ownsRow_nil _ _ _ _, H.out, Below.refl _ _⟩
  case round =>
    clear H
    obtain ⟨k, hk, rfl, hown, hv, hb⟩ := hrel
    have HO := Lib.hid hown; have HV := Lib.hid hv; have HB := Lib.hid hb; clear hown hv hb
    have y0 : v < wr.heap.size := by have := HB.out.size; omega
    have y1 : v < wr.heap.size + 1 := by omega
    have y2 : v < wr.heap.size + 1 + 1 := by omega
    have c66 := HV.out.mpc
    have c67 := HV.out.mac
    by_cases hlt : k < 64
    · have hd : decide ((k : Int) < 64) = true := by simp; omega
      cases hac : S.ac k with
      | some y =>
        cases hpe : S.pe k with
        | none =>
          obtain ⟨i0, hi0, hz0, hz1, hz2⟩ := info_parts info48
          have hln : (preL S.pe S.ac k).length ≤ 64 := by have := preL_len S.pe S.ac k; omega
          go_wp2_with (first | (at_lookup; refine wpList_look _ rfl _ _ rfl mp S.pe k hlt rfl HV.out.pe rfl ?_; rw [hpe]; simp only [hP, hL, Option.isSome]) | (at_lookup; refine wpList_look _ rfl _ _ rfl ma S.ac k hlt rfl (HV.out.ac.alloc _) rfl ?_; rw [hac]; simp only [hP, hL, Option.isSome]) | (at_builtin; refine wpList_append_own _ rfl _ _ 43 rfl w.heap.size 48 i0 _ 5 24 Try.underlying43 hi0 hz0 hz1 hz2 rfl (by decide) _ _ _ rfl (((HO.out.alloc _).alloc _).alloc _) ⟨wr.heap.size + 1 + 1, 0, none⟩ 1 1 [.int .i64 k, .int .i64 y.1, .bool y.2, .bool false, .bool true] rfl rfl ?c1 ?c2 ?c3 ?c4 ?c5 ?_))
          case c1 =>
            intro j u hj
            match j, hj with
            | 0, hj => simp at hj; subst hj; exact cell_new3 _ _ _ _ _ 0
            | 1, hj => simp at hj; subst hj; exact cell_new3 _ _ _ _ _ 1
            | 2, hj => simp at hj; subst hj; exact cell_new3 _ _ _ _ _ 2
            | 3, hj => simp at hj; subst hj; exact cell_new3 _ _ _ _ _ 3
            | 4, hj => simp at hj; subst hj; exact cell_new3 _ _ _ _ _ 4
          case c2 => intro u hu; simp at hu; rcases hu with rfl | rfl | rfl | rfl | rfl <;> rfl
          case c3 => unfold maxLen; omega
          case c4 => omega
          case c5 => have := HB.out.size; simp; omega
          intro v' w1 hown' hgrow _
          have HV1 := Lib.hid (((((HV.out.alloc _).alloc _).alloc _)).grown hgrow (own_block_ne HO.out z0) (own_block_ne HO.out zp) (own_block_ne HO.out za))
          have HB1 : Hid (Below w.heap.size w w1) := Lib.hid (Below.grown (Below.alloc (Below.alloc (Below.alloc HB.out HB.out.size _) (by have := HB.out.size; simp; omega) _) (by have := HB.out.size; simp; omega) _) hgrow (by have := HB.out.size; simp; omega) (fun q hq => (HO.out.lt q hq).1))
          have HO1 := Lib.hid hown'
          clear hown' hgrow
          go_wp2_with fail
          go_roundw
          case rel => exact ⟨k + 1, by omega, by go_num, by have h := HO1.out; rw [← cellsL_snoc (preL S.pe S.ac k) ⟨k, y.1, y.2, false, true⟩, show preL S.pe S.ac k ++ [⟨k, y.1, y.2, false, true⟩] = preL S.pe S.ac (k + 1) by simp [preL, lrOf, hac, hpe]] at h; rw [show (preL S.pe S.ac (k + 1)).length = (preL S.pe S.ac k).length + 1 by simp [preL, lrOf, hac, hpe]]; exact h, HV1.out, HB1.out⟩
          case measure => simp [intOf]; omega
        | some z =>
          obtain ⟨i0, hi0, hz0, hz1, hz2⟩ := info_parts info48
          have hln : (preL S.pe S.ac k).length ≤ 64 := by have := preL_len S.pe S.ac k; omega
          go_wp2_with (first | (at_lookup; refine wpList_look _ rfl _ _ rfl mp S.pe k hlt rfl HV.out.pe rfl ?_; rw [hpe]; simp only [hP, hL, Option.isSome]) | (at_lookup; refine wpList_look _ rfl _ _ rfl ma S.ac k hlt rfl (HV.out.ac.alloc _) rfl ?_; rw [hac]; simp only [hP, hL, Option.isSome]) | (at_builtin; refine wpList_append_own _ rfl _ _ 43 rfl w.heap.size 48 i0 _ 5 24 Try.underlying43 hi0 hz0 hz1 hz2 rfl (by decide) _ _ _ rfl (((HO.out.alloc _).alloc _).alloc _) ⟨wr.heap.size + 1 + 1, 0, none⟩ 1 1 [.int .i64 k, .int .i64 y.1, .bool y.2, .bool true, .bool true] rfl rfl ?c1 ?c2 ?c3 ?c4 ?c5 ?_))
          case c1 =>
            intro j u hj
            match j, hj with
            | 0, hj => simp at hj; subst hj; exact cell_new3 _ _ _ _ _ 0
            | 1, hj => simp at hj; subst hj; exact cell_new3 _ _ _ _ _ 1
            | 2, hj => simp at hj; subst hj; exact cell_new3 _ _ _ _ _ 2
            | 3, hj => simp at hj; subst hj; exact cell_new3 _ _ _ _ _ 3
            | 4, hj => simp at hj; subst hj; exact cell_new3 _ _ _ _ _ 4
          case c2 => intro u hu; simp at hu; rcases hu with rfl | rfl | rfl | rfl | rfl <;> rfl
          case c3 => unfold maxLen; omega
          case c4 => omega
          case c5 => have := HB.out.size; simp; omega
          intro v' w1 hown' hgrow _
          have HV1 := Lib.hid (((((HV.out.alloc _).alloc _).alloc _)).grown hgrow (own_block_ne HO.out z0) (own_block_ne HO.out zp) (own_block_ne HO.out za))
          have HB1 : Hid (Below w.heap.size w w1) := Lib.hid (Below.grown (Below.alloc (Below.alloc (Below.alloc HB.out HB.out.size _) (by have := HB.out.size; simp; omega) _) (by have := HB.out.size; simp; omega) _) hgrow (by have := HB.out.size; simp; omega) (fun q hq => (HO.out.lt q hq).1))
          have HO1 := Lib.hid hown'
          clear hown' hgrow
          go_wp2_with fail
          go_roundw
          case rel => exact ⟨k + 1, by omega, by go_num, by have h := HO1.out; rw [← cellsL_snoc (preL S.pe S.ac k) ⟨k, y.1, y.2, true, true⟩, show preL S.pe S.ac k ++ [⟨k, y.1, y.2, true, true⟩] = preL S.pe S.ac (k + 1) by simp [preL, lrOf, hac, hpe]] at h; rw [show (preL S.pe S.ac (k + 1)).length = (preL S.pe S.ac k).length + 1 by simp [preL, lrOf, hac, hpe]]; exact h, HV1.out, HB1.out⟩
          case measure => simp [intOf]; omega
      | none =>
        cases hpe : S.pe k with
        | some z =>
          obtain ⟨i0, hi0, hz0, hz1, hz2⟩ := info_parts info48
          have hln : (preL S.pe S.ac k).length ≤ 64 := by have := preL_len S.pe S.ac k; omega
          go_wp2_with (first | (at_lookup; refine wpList_look _ rfl _ _ rfl mp S.pe k hlt rfl HV.out.pe rfl ?_; rw [hpe]; simp only [hP, hL, Option.isSome]) | (at_lookup; refine wpList_look _ rfl _ _ rfl ma S.ac k hlt rfl (HV.out.ac.alloc _) rfl ?_; rw [hac]; simp only [hP, hL, Option.isSome]) | (at_builtin; refine wpList_append_own _ rfl _ _ 43 rfl w.heap.size 48 i0 _ 5 24 Try.underlying43 hi0 hz0 hz1 hz2 rfl (by decide) _ _ _ rfl (((HO.out.alloc _).alloc _).alloc _) ⟨wr.heap.size + 1 + 1, 0, none⟩ 1 1 [.int .i64 k, .int .i64 z.1, .bool z.2, .bool true, .bool false] rfl rfl ?c1 ?c2 ?c3 ?c4 ?c5 ?_))
          case c1 =>
            intro j u hj
            match j, hj with
            | 0, hj => simp at hj; subst hj; exact cell_new3 _ _ _ _ _ 0
            | 1, hj => simp at hj; subst hj; exact cell_new3 _ _ _ _ _ 1
            | 2, hj => simp at hj; subst hj; exact cell_new3 _ _ _ _ _ 2
            | 3, hj => simp at hj; subst hj; exact cell_new3 _ _ _ _ _ 3
            | 4, hj => simp at hj; subst hj; exact cell_new3 _ _ _ _ _ 4
          case c2 => intro u hu; simp at hu; rcases hu with rfl | rfl | rfl | rfl | rfl <;> rfl
          case c3 => unfold maxLen; omega
          case c4 => omega
          case c5 => have := HB.out.size; simp; omega
          intro v' w1 hown' hgrow _
          have HV1 := Lib.hid (((((HV.out.alloc _).alloc _).alloc _)).grown hgrow (own_block_ne HO.out z0) (own_block_ne HO.out zp) (own_block_ne HO.out za))
          have HB1 : Hid (Below w.heap.size w w1) := Lib.hid (Below.grown (Below.alloc (Below.alloc (Below.alloc HB.out HB.out.size _) (by have := HB.out.size; simp; omega) _) (by have := HB.out.size; simp; omega) _) hgrow (by have := HB.out.size; simp; omega) (fun q hq => (HO.out.lt q hq).1))
          have HO1 := Lib.hid hown'
          clear hown' hgrow
          go_wp2_with fail
          go_roundw
          case rel => exact ⟨k + 1, by omega, by go_num, by have h := HO1.out; rw [← cellsL_snoc (preL S.pe S.ac k) ⟨k, z.1, z.2, true, false⟩, show preL S.pe S.ac k ++ [⟨k, z.1, z.2, true, false⟩] = preL S.pe S.ac (k + 1) by simp [preL, lrOf, hac, hpe]] at h; rw [show (preL S.pe S.ac (k + 1)).length = (preL S.pe S.ac k).length + 1 by simp [preL, lrOf, hac, hpe]]; exact h, HV1.out, HB1.out⟩
          case measure => simp [intOf]; omega
        | none =>
          go_wp2_with (first | (at_lookup; refine wpList_look _ rfl _ _ rfl mp S.pe k hlt rfl HV.out.pe rfl ?_; rw [hpe]; simp only [hP, hL, Option.isSome]) | (at_lookup; refine wpList_look _ rfl _ _ rfl ma S.ac k hlt rfl (HV.out.ac.alloc _) rfl ?_; rw [hac]; simp only [hP, hL, Option.isSome]))
          go_roundw
          case rel => exact ⟨k + 1, by omega, by go_num, by have h := (HO.out.alloc (.cells #[.int .i64 0, .bool false] 96)).alloc (.cells #[.int .i64 0, .bool false] 96); simpa [preL, lrOf, hac, hpe] using h, (HV.out.alloc _).alloc _, (HB.out.alloc HB.out.size _).alloc (by have := HB.out.size; simp; omega) _⟩
          case measure => simp [intOf]; omega
    · obtain rfl : k = 64 := by omega
      obtain ⟨L, hL⟩ : ∃ L, preL S.pe S.ac 64 = L := ⟨_, rfl⟩
      have hlen : L.length ≤ 64 := by rw [← hL]; exact preL_len _ _ _
      have HLL := Lib.hid hL
      rw [hL] at HO
      clear hL
      rcases lr_of_own HO.out rfl with ⟨rfl, hn⟩ | ⟨q, cap, rfl, hq, hlr⟩
      · go_wp2_with fail
        refine (sortstable_nil _).mono ?_
        rintro e w2 ⟨rfl, rfl⟩
        go_wp2_with fail
        go_ret
        refine ⟨⟨_, 0, fL L, rfl, ⟨by rw [HLL.out]; exact hn.symm, fun i j _ h1 h2 => by omega, by rw [HLL.out]; exact Pm.refl _ _ _⟩, Or.inl ⟨rfl, rfl⟩⟩, HB.out⟩
      · have hcap : L.length ≤ cap := by
          rcases HO.out.2 with ⟨e, _⟩ | ⟨q', cap', cur, e, _, _, h1, _⟩
          · cases e
          · cases e; exact h1
        obtain ⟨n, hn⟩ : ∃ n, L.length = n := ⟨_, rfl⟩
        rw [hn] at hlen hcap hlr
        have HR := Lib.hid hlr
        have HN := Lib.hid hn
        rw [hn]
        clear hlr hn HO
        go_wp2_with fail
        refine (sortstable_any q (cap * 5) n cap (fL L) _ HR.out hlen (fun i j h1 h2 => by rw [← HLL.out]; exact fL_inc _ _ _ i j h1 (by rw [HLL.out, HN.out]; exact h2))).mono ?_
        rintro e w2 ⟨rfl, ⟨g, hp, hs, hl2⟩, hu⟩
        have HS := Lib.hid hs; have HPm := Lib.hid hp; have HL2 := Lib.hid hl2; have HU := Lib.hid hu; clear hs hp hl2 hu
        go_wp2_with fail
        go_ret
        refine ⟨⟨_, n, g, rfl, ⟨by rw [HLL.out]; exact HN.out.symm, HS.out, by rw [HLL.out]; exact HPm.out⟩, Or.inr ⟨q, cap, cap * 5, rfl, hcap, hq, HL2.out⟩⟩, HB.out.trans ⟨HU.out.os, HU.out.tape, HU.out.output, HU.out.size, fun k hk => HU.out.block k (by have := HB.out.size; omega) (by show ¬ k = q; omega)⟩⟩
end Go.Proofs.Ytnebjbjdgfaooaa
