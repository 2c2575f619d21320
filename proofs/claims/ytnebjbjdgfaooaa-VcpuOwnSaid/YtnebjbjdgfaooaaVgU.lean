/- The contract of the reference's All: the sequence of records by priorities and numbers, in a slice of new memory; no condition. -/
import Derived.Test.YtnebjbjdgfaooaaVgT
import Derived.Test.YtnebjbjdgfaooaaVgW
namespace Go.Proofs.Ytnebjbjdgfaooaa
open Go.RowKit Go.Maps
set_option maxRecDepth 100000
theorem own_drewN {w : World} {base : Nat} {e : TypeId} {size : Nat} {v : Value} {n : Nat} {xs : List Value} (h : w.ownsRow base e size v n xs) (m : Nat) : (w.drewN m).ownsRow base e size v n xs := h
theorem own_cap {w : World} {base : Nat} {e : TypeId} {size q cap : Nat} {n : Nat} {xs : List Value} (h : w.ownsRow base e size (.slice (some ⟨q, 0, none⟩) n cap) n xs) : n ≤ cap := by
  rcases h.2 with ⟨e, _⟩ | ⟨q', cap', cur, e, _, _, h1, _⟩
  · cases e
  · cases e; exact h1
theorem cell_newD (w : World) (x : Obj) (c : Array Value) (T : TypeId) (j : Nat) : ((w.alloc x).alloc (.cells c T)).cell? ((⟨w.heap.size + 1, 0, none⟩ : Addr).add j) = c[j]? := by
  have h : ((w.alloc x).alloc (.cells c T)).heap[w.heap.size + 1]? = some (.cells c T) := by
    show ((w.heap.push _).push _)[w.heap.size + 1]? = _
    rw [Array.getElem?_push, if_pos (by simp)]
  have hadd : (⟨w.heap.size + 1, 0, none⟩ : Addr).add j = ⟨w.heap.size + 1, j, none⟩ := by unfold Addr.add; split <;> simp_all
  rw [hadd]
  exact cell_of_row _ _ j c T (0, 0) h
set_option maxHeartbeats 16000000 in
theorem rall_any (b : Nat) (R : Rm) (M : Nat) (hM : M = 32768) (w : World) (h : RfAt w b R) :
    Calls Try.prog 26 #[.pointer (some ⟨b, 0, none⟩)] w fun e w' => (∃ sl, e = .returned sl ∧ LrSl w' w.heap.size sl (seqF (recR R) M).length (fL (seqF (recR R) M))) ∧ Below w.heap.size w w' := by
  have H := Lib.hid h; clear h
  obtain ⟨f, hf⟩ : ∃ f, recR R = f := ⟨_, rfl⟩
  rw [hf]
  have HF := Lib.hid hf; clear hf
  go_enter Try.func26, Try.ntmps26
  go_wp2_with fail
  go_loopw [3, 4, 5, 6] (fun v3 v4 _ _ wr => ∃ p : Nat, p ≤ 256 ∧ v4 = .int .i64 p ∧ wr.ownsRow w.heap.size 48 5 v3 (seqF f (p * 64)).length (cellsL (seqF f (p * 64))) ∧ Below w.heap.size w wr) (fun _ v4 _ _ _ => 256 - (intOf v4).toNat)
  case atStart => exact ⟨0, by omega, rfl, World.ownsRow_nil _ _ _ _, Below.refl _ _⟩
  case round =>
    skip
    obtain ⟨p, hp, rfl, hown, hb⟩ := hrel
    have HO := Lib.hid hown; have HB := Lib.hid hb; clear hown hb
    by_cases hlp : p < 256
    · have hdp : decide ((p : Int) < 256) = true := by simp; omega
      go_wp2_with fail
      go_loopw [3, 5, 6] (fun v3 v5 _ wr => ∃ k : Nat, k ≤ 64 ∧ v5 = .int .i64 k ∧ wr.ownsRow w.heap.size 48 5 v3 (seqF f (p * 64 + k)).length (cellsL (seqF f (p * 64 + k))) ∧ Below w.heap.size w wr) (fun _ v5 _ _ => 64 - (intOf v5).toNat)
      case atStart => exact ⟨0, by omega, rfl, HO.out, HB.out⟩
      case round =>
        clear HO HB
        obtain ⟨k, hk, rfl, hown, hb⟩ := hrel
        have HO := Lib.hid hown; have HB := Lib.hid hb; clear hown hb
        rename_i wr _
        have HR := Lib.hid (H.out.below HB.out)
        by_cases hlt : k < 64
        · have hd : decide ((k : Int) < 64) = true := by simp; omega
          have hk64 : (k : Int) < 64 := by omega
          have c0 := HR.out.c_off hlt
          have c1 := HR.out.c_pe hlt
          have c2 := HR.out.c_ac hlt
          have c3 := HR.out.c_P hlt
          have c4 := HR.out.c_A hlt
          have c5 := HR.out.c_lv hlt
          have c6 := HR.out.c_fl hlt
          have bl := HR.out.lt
          have bl1 : b < wr.heap.size + 1 := by omega
          by_cases h1 : R.ac k = true
          · by_cases h2 : R.A k = (p : Int)
            · have HY : Hid (f (p * 64 + k) = some ⟨k, p, R.fl k, R.pe k, true⟩) := Lib.hid (by rw [← HF.out]; exact recR_a hlp hlt h1 h2)
              rw [h1] at c2; rw [h2] at c4
              obtain ⟨fl, hfl⟩ : ∃ fl, R.fl k = fl := ⟨_, rfl⟩
              obtain ⟨pe, hpe⟩ : ∃ pe, R.pe k = pe := ⟨_, rfl⟩
              rw [hfl] at c6 HY; rw [hpe] at c1 HY
              clear hfl hpe h1 h2
              obtain ⟨i0, hi0, hz0, hz1, hz2⟩ := info_parts info48
              have hln : (seqF f (p * 64 + k)).length ≤ 32768 := by have := seqF_len f (p * 64 + k); omega
              go_wp2_with (at_builtin; refine wpList_append_own _ rfl _ _ 43 rfl w.heap.size 48 i0 _ 5 24 Try.underlying43 hi0 hz0 hz1 hz2 rfl (by decide) _ _ _ rfl ((HO.out.alloc _).alloc _) ⟨wr.heap.size + 1, 0, none⟩ 1 1 [.int .i64 k, .int .i64 p, .bool fl, .bool pe, .bool true] rfl rfl ?c1 ?c2 ?c3 ?c4 ?c5 ?_)
              case c1 =>
                intro j u hj
                match j, hj with
                | 0, hj => simp at hj; subst hj; exact cell_newD _ _ _ _ 0
                | 1, hj => simp at hj; subst hj; exact cell_newD _ _ _ _ 1
                | 2, hj => simp at hj; subst hj; exact cell_newD _ _ _ _ 2
                | 3, hj => simp at hj; subst hj; exact cell_newD _ _ _ _ 3
                | 4, hj => simp at hj; subst hj; exact cell_newD _ _ _ _ 4
              case c2 => intro u hu; simp at hu; rcases hu with rfl | rfl | rfl | rfl | rfl <;> rfl
              case c3 => unfold maxLen; omega
              case c4 => omega
              case c5 => have := HB.out.size; simp; omega
              intro v' w1 hown' hgrow _
              have HB1 : Hid (Below w.heap.size w w1) := Lib.hid (Below.grown (Below.alloc (Below.alloc HB.out HB.out.size _) (by have := HB.out.size; simp; omega) _) hgrow (by have := HB.out.size; simp; omega) (fun q hq => (HO.out.lt q hq).1))
              have HO1 := Lib.hid hown'
              clear hown' hgrow
              go_wp2_with fail
              go_roundw
              case rel => exact ⟨k + 1, by omega, by go_num, by have h := HO1.out; rw [← cellsL_snoc (seqF f (p * 64 + k)) ⟨k, p, fl, pe, true⟩] at h; rw [← Nat.add_assoc, seqF_some HY.out, List.length_append]; exact h, HB1.out⟩
              case measure => simp [intOf]; omega
            · have d2 : (R.A k == (p : Int)) = false := by simpa using h2
              have HY : Hid (f (p * 64 + k) = none) := Lib.hid (by rw [← HF.out]; exact recR_an hlp hlt (fun h => h2 h.2))
              rw [h1] at c2
              go_wp2_with fail
              go_roundw
              case rel => exact ⟨k + 1, by omega, by go_num, by have e := seqF_none HY.out; rw [← Nat.add_assoc, e]; exact HO.out.alloc _, HB.out.alloc HB.out.size _⟩
              case measure => simp [intOf]; omega
          · have h1' : R.ac k = false := by simpa using h1
            have HY : Hid (f (p * 64 + k) = none) := Lib.hid (by rw [← HF.out]; exact recR_an hlp hlt (fun h => h1 h.1))
            rw [h1'] at c2
            go_wp2_with fail
            go_roundw
            case rel => exact ⟨k + 1, by omega, by go_num, by have e := seqF_none HY.out; rw [← Nat.add_assoc, e]; exact HO.out.alloc _, HB.out.alloc HB.out.size _⟩
            case measure => simp [intOf]; omega
        · obtain rfl : k = 64 := by omega
          go_wp2_with fail
          go_roundw
          case rel => exact ⟨p + 1, by omega, by go_num, by have h := HO.out; rw [show ((p + 1) * 64) = (p * 64 + 64) by omega]; exact h, HB.out⟩
          case measure => simp [intOf]; omega
    · obtain rfl : p = 256 := by omega
      rw [show ((256 : Nat) : Int) = 256 from rfl]
      go_wp2_with fail
      go_loopw [3, 7, 8, 9] (fun v3 v7 _ _ wr => ∃ p : Nat, p ≤ 256 ∧ v7 = .int .i64 p ∧ wr.ownsRow w.heap.size 48 5 v3 (seqF f (16384 + p * 64)).length (cellsL (seqF f (16384 + p * 64))) ∧ Below w.heap.size w wr) (fun _ v7 _ _ _ => 256 - (intOf v7).toNat)
      case atStart => exact ⟨0, by omega, rfl, HO.out, HB.out⟩
      case round =>
        clear HO HB
        obtain ⟨p, hp, rfl, hown, hb⟩ := hrel
        have HO := Lib.hid hown; have HB := Lib.hid hb; clear hown hb
        by_cases hlp : p < 256
        · have hdp : decide ((p : Int) < 256) = true := by simp; omega
          go_wp2_with fail
          go_loopw [3, 8, 9] (fun v3 v8 _ wr => ∃ k : Nat, k ≤ 64 ∧ v8 = .int .i64 k ∧ wr.ownsRow w.heap.size 48 5 v3 (seqF f (16384 + p * 64 + k)).length (cellsL (seqF f (16384 + p * 64 + k))) ∧ Below w.heap.size w wr) (fun _ v8 _ _ => 64 - (intOf v8).toNat)
          case atStart => exact ⟨0, by omega, rfl, HO.out, HB.out⟩
          case round =>
            clear HO HB
            obtain ⟨k, hk, rfl, hown, hb⟩ := hrel
            have HO := Lib.hid hown; have HB := Lib.hid hb; clear hown hb
            rename_i wr _
            have HR := Lib.hid (H.out.below HB.out)
            by_cases hlt : k < 64
            · have hd : decide ((k : Int) < 64) = true := by simp; omega
              have hk64 : (k : Int) < 64 := by omega
              have c0 := HR.out.c_off hlt
              have c1 := HR.out.c_pe hlt
              have c2 := HR.out.c_ac hlt
              have c3 := HR.out.c_P hlt
              have c4 := HR.out.c_A hlt
              have c5 := HR.out.c_lv hlt
              have c6 := HR.out.c_fl hlt
              have bl := HR.out.lt
              have bl1 : b < wr.heap.size + 1 := by omega
              by_cases h1 : R.ac k = true
              · have HY : Hid (f (16384 + p * 64 + k) = none) := Lib.hid (by rw [← HF.out]; exact recR_bn hlt (fun h => by rw [h1] at h; cases h.1))
                rw [h1] at c2
                go_wp2_with fail
                go_roundw
                case rel => exact ⟨k + 1, by omega, by go_num, by have e := seqF_none HY.out; rw [← Nat.add_assoc, e]; exact HO.out.alloc _, HB.out.alloc HB.out.size _⟩
                case measure => simp [intOf]; omega
              · have h1' : R.ac k = false := by simpa using h1
                rw [h1'] at c2
                by_cases h2 : R.pe k = true
                · rw [h2] at c1
                  by_cases h3 : R.P k = (p : Int)
                  · have HY : Hid (f (16384 + p * 64 + k) = some ⟨k, p, R.lv k, true, false⟩) := Lib.hid (by rw [← HF.out]; exact recR_b hlt h1' h2 h3)
                    rw [h3] at c3
                    obtain ⟨lv, hlv⟩ : ∃ lv, R.lv k = lv := ⟨_, rfl⟩
                    rw [hlv] at c5 HY
                    clear hlv h1 h2 h3
                    obtain ⟨i0, hi0, hz0, hz1, hz2⟩ := info_parts info48
                    have hln : (seqF f (16384 + p * 64 + k)).length ≤ 32768 := by have := seqF_len f (16384 + p * 64 + k); omega
                    go_wp2_with (at_builtin; refine wpList_append_own _ rfl _ _ 43 rfl w.heap.size 48 i0 _ 5 24 Try.underlying43 hi0 hz0 hz1 hz2 rfl (by decide) _ _ _ rfl ((HO.out.alloc _).alloc _) ⟨wr.heap.size + 1, 0, none⟩ 1 1 [.int .i64 k, .int .i64 p, .bool lv, .bool true, .bool false] rfl rfl ?c1 ?c2 ?c3 ?c4 ?c5 ?_)
                    case c1 =>
                      intro j u hj
                      match j, hj with
                      | 0, hj => simp at hj; subst hj; exact cell_newD _ _ _ _ 0
                      | 1, hj => simp at hj; subst hj; exact cell_newD _ _ _ _ 1
                      | 2, hj => simp at hj; subst hj; exact cell_newD _ _ _ _ 2
                      | 3, hj => simp at hj; subst hj; exact cell_newD _ _ _ _ 3
                      | 4, hj => simp at hj; subst hj; exact cell_newD _ _ _ _ 4
                    case c2 => intro u hu; simp at hu; rcases hu with rfl | rfl | rfl | rfl | rfl <;> rfl
                    case c3 => unfold maxLen; omega
                    case c4 => omega
                    case c5 => have := HB.out.size; simp; omega
                    intro v' w1 hown' hgrow _
                    have HB1 : Hid (Below w.heap.size w w1) := Lib.hid (Below.grown (Below.alloc (Below.alloc HB.out HB.out.size _) (by have := HB.out.size; simp; omega) _) hgrow (by have := HB.out.size; simp; omega) (fun q hq => (HO.out.lt q hq).1))
                    have HO1 := Lib.hid hown'
                    clear hown' hgrow
                    go_wp2_with fail
                    go_roundw
                    case rel => exact ⟨k + 1, by omega, by go_num, by have h := HO1.out; rw [← cellsL_snoc (seqF f (16384 + p * 64 + k)) ⟨k, p, lv, true, false⟩] at h; rw [← Nat.add_assoc, seqF_some HY.out, List.length_append]; exact h, HB1.out⟩
                    case measure => simp [intOf]; omega
                  · have d3 : (R.P k == (p : Int)) = false := by simpa using h3
                    have HY : Hid (f (16384 + p * 64 + k) = none) := Lib.hid (by rw [← HF.out]; exact recR_bn hlt (fun h => h3 h.2.2))
                    go_wp2_with fail
                    go_roundw
                    case rel => exact ⟨k + 1, by omega, by go_num, by have e := seqF_none HY.out; rw [← Nat.add_assoc, e]; exact HO.out.alloc _, HB.out.alloc HB.out.size _⟩
                    case measure => simp [intOf]; omega
                · have h2' : R.pe k = false := by simpa using h2
                  have HY : Hid (f (16384 + p * 64 + k) = none) := Lib.hid (by rw [← HF.out]; exact recR_bn hlt (fun h => h2 h.2.1))
                  rw [h2'] at c1
                  go_wp2_with fail
                  go_roundw
                  case rel => exact ⟨k + 1, by omega, by go_num, by have e := seqF_none HY.out; rw [← Nat.add_assoc, e]; exact HO.out.alloc _, HB.out.alloc HB.out.size _⟩
                  case measure => simp [intOf]; omega
            · obtain rfl : k = 64 := by omega
              go_wp2_with fail
              go_roundw
              case rel => exact ⟨p + 1, by omega, by go_num, by have h := HO.out; rw [show (16384 + (p + 1) * 64) = (16384 + p * 64 + 64) by omega]; exact h, HB.out⟩
              case measure => simp [intOf]; omega
        · obtain rfl : p = 256 := by omega
          obtain ⟨L, hL⟩ : ∃ L, seqF f (16384 + 256 * 64) = L := ⟨_, rfl⟩
          rw [hL] at HO
          rw [show 16384 + 256 * 64 = M by omega] at hL
          have HLL := Lib.hid hL
          clear hL
          go_wp2_with fail
          go_ret
          rw [HLL.out]
          refine ⟨⟨_, rfl, ?_⟩, HB.out⟩
          rcases lr_of_own HO.out rfl with ⟨rfl, hn⟩ | ⟨q, cap, rfl, hq, hlr⟩
          · exact Or.inl ⟨rfl, hn⟩
          · exact Or.inr ⟨q, cap, _, rfl, own_cap HO.out, hq, hlr⟩
end Go.Proofs.Ytnebjbjdgfaooaa
