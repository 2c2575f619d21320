/- Three parties; the contract of alike of chapter 18: two that stand alike are told to do so; no condition but plain invariants. -/
import Derived.Test.YtnebjbjdgfaooaaVdS
import Derived.Test.YtnebjbjdgfaooaaVdO
namespace Go.Proofs.Ytnebjbjdgfaooaa
open Go.Joins Go.ChangeShapes Go.WideShapes Go.ChangeAt Go.RowKit Go.Deep Go.Maps
set_option maxRecDepth 100000
/-- Each of the first len numbers stands in memory. -/
def Ints (w : World) (a : Option Addr) (len : Nat) : Prop :=
  ∀ k, k < len → ∃ (b off : Nat) (z : Int), a = some ⟨b, off, none⟩ ∧ w.cell? ⟨b, off + k, none⟩ = some (.int .i64 z)
theorem addr_flat {w : World} {a : Addr} {v : Value} (h : w.cell? a = some v) : a = ⟨a.block, a.off, none⟩ := by
  obtain ⟨b, o, sp⟩ := a
  cases sp with
  | none => rfl
  | some x =>
    simp only [World.cell?] at h
    split at h <;> simp at h
theorem open_nums {H : Type} {enc : TypeId × Value → H} {w : World} {base : Nat} {spare : Nat → Bool} {held : Bool} {r : Reach} {b0 : Nat} {v : Value} {d : DataW H} {p : List MemPlace}
    (hv : Value.okWide Try.prog w r b0 22 v) (h : DataW.Trod enc Try.prog w base spare held 22 v d p) :
    ∃ (a : Option Addr) (len cap : Nat), v = .slice a len cap ∧ len ≤ maxLen ∧ Ints w a len := by
  obtain ⟨a0, len, cap, rfl⟩ := okWide_slice Try.underlying22 hv
  obtain ⟨fuel, hf⟩ := h
  rcases open_ints Try.underlying22 Try.underlying3 cells3 hf with ⟨hcs, _⟩ | ⟨a, len', cap', zs, hcs, hb, hl, hm, hz, hx, hcell, hwz⟩
  · simp only [Value.cells, List.cons.injEq, and_true, Value.slice.injEq] at hcs
    obtain ⟨rfl, rfl, rfl⟩ := hcs
    exact ⟨none, 0, 0, rfl, by unfold maxLen; omega, fun k hk => by omega⟩
  · simp only [Value.cells, List.cons.injEq, and_true, Value.slice.injEq] at hcs
    obtain ⟨rfl, rfl, rfl⟩ := hcs
    refine ⟨some a, len, cap, rfl, by omega, fun k hk => ?_⟩
    have hkm : k < zs.length := by rw [hz]; split <;> omega
    have ha : a = ⟨a.block, a.off, none⟩ := by
      have h0 := hcell 0 (by omega)
      have : a.add 0 = a := by simp [Addr.add]
      rw [this] at h0
      exact addr_flat h0
    have hk' := hcell k hkm
    generalize a.block = b at ha
    generalize a.off = off at ha
    subst ha
    have hadd : (⟨b, off, none⟩ : Addr).add k = ⟨b, off + k, none⟩ := by unfold Addr.add; split <;> simp_all
    rw [hadd] at hk'
    exact ⟨b, off, _, rfl, hk'⟩


structure Trio (w0 w : World) (p q r : Nat) (o oq o2 : Own) (A Aq B : Am) : Prop where
  pr : Duo w0 w p r o o2 A B
  qr : Duo w0 w q r oq o2 Aq B
  pq : ∀ b, Ow o b → ¬ Ow oq b
/-- A row that is nobody's. -/
def Loc (w : World) (o oq o2 : Own) (b : Nat) (T : TypeId) (n : Nat) (f : Nat → Value) : Prop := RowAt w b T n f ∧ ¬ Ow o b ∧ ¬ Ow oq b ∧ ¬ Ow o2 b
section
variable {w0 w w1 : World} {p q r : Nat} {o oq o2 : Own} {A Aq B : Am}
theorem Trio.swap (h : Trio w0 w p q r o oq o2 A Aq B) : Trio w0 w q p r oq o o2 Aq A B := ⟨h.qr, h.pr, fun b hb hp => h.pq b hp hb⟩
theorem Trio.below (h : Trio w0 w p q r o oq o2 A Aq B) (u : Below w.heap.size w w1) : Trio w0 w1 p q r o oq o2 A Aq B := ⟨h.pr.below u, h.qr.below u, h.pq⟩
theorem Trio.alloc (h : Trio w0 w p q r o oq o2 A Aq B) (x : Obj) : Trio w0 (w.alloc x) p q r o oq o2 A Aq B := h.below ((Below.refl _ _).alloc (Nat.le_refl _) _)
theorem Trio.drewN (h : Trio w0 w p q r o oq o2 A Aq B) (m : Nat) : Trio w0 (w.drewN m) p q r o oq o2 A Aq B := ⟨h.pr.drewN m, h.qr.drewN m, h.pq⟩
/-- One party, and the reference, go on. -/
theorem Trio.go {A' B' : Am} (h : Trio w0 w p q r o oq o2 A Aq B) (g : DGo w0 w w1 p r o o2 A' B') : ∃ o' o2', Trio w0 w1 p q r o' oq o2' A' Aq B' ∧ ∀ b T n f, Loc w o oq o2 b T n f → Loc w1 o' oq o2' b T n f := by
  obtain ⟨o', o2', hd, x1, x2, hu⟩ := g
  obtain ⟨E, hE, hEA⟩ := h.qr.pk
  have hno : ∀ b, Ow oq b → ¬ (Ow o b ∨ Ow o2 b) := fun b hb ho => ho.elim (fun ho => h.pq b ho hb) (fun ho => h.qr.dis b hb ho)
  refine ⟨o', o2', ⟨hd, ⟨⟨E, hE.kept hu hno, hEA⟩, hd.rk, fun b hb h2 => ?_, fun b hb => ?_, hd.bel⟩, fun b hb hq => ?_⟩, fun b T n f hl => ?_⟩
  · have hl := hE.lim b hb
    exact h.qr.dis b hb (by unfold Ow at *; rw [← x2 b hl]; exact h2)
  · exact hb.elim (fun hb => h.qr.fr b (Or.inl hb)) (fun hb => hd.fr b (Or.inr hb))
  · have hl := hE.lim b hq
    exact h.pq b (by unfold Ow at *; rw [← x1 b hl]; exact hb) hq
  · have hlt := hl.1.lt
    refine ⟨hl.1.kept hu (fun ho => ho.elim hl.2.1 hl.2.2.2), ?_, hl.2.2.1, ?_⟩
    · unfold Ow; rw [x1 b hlt]; exact hl.2.1
    · unfold Ow; rw [x2 b hlt]; exact hl.2.2.2
theorem Loc.swap {b n : Nat} {T : TypeId} {f : Nat → Value} (h : Loc w o oq o2 b T n f) : Loc w oq o o2 b T n f := ⟨h.1, h.2.2.1, h.2.1, h.2.2.2⟩
theorem all_two {pe ac : Mp} {n n' : Nat} {g g' : Nat → LrE} (h : IsAll pe ac n g) (h' : IsAll pe ac n' g') : n = n' ∧ ∀ j, j < n → g j = g' j := by
  have e : n = n' := h.1.trans h'.1.symm
  subst e
  exact ⟨rfl, h.uniq h'.2.1 (fun j hj => h'.mem hj) (fun i hi x hx => h'.has hi hx)⟩
end
set_option maxHeartbeats 64000000 in
theorem alike18_any (w : World) (p q r : Nat) (o oq o2 : Own) (A B : Am) (w1 : World) (h : Trio w w1 p q r o oq o2 A A B) (h4 : ∀ i : Int, 0 ≤ i ∧ i < 4 → ∃ a, A.all i = some a) :
    Calls Try.prog 39 #[.pointer (some ⟨p, 0, none⟩), .pointer (some ⟨q, 0, none⟩)] w1 fun e w' => e = .returned (.bool true) ∧ Below w.heap.size w w' := by
  have H := Lib.hid h; clear h
  have H4 := Lib.hid h4; clear h4
  go_enter Try.func39, Try.ntmps39
  go_wp2_with fail
  go_loopw [5, 6, 7, 8, 9, 10, 11, 12, 13, 14, 15] (fun v5 _ _ _ _ _ _ _ _ _ _ wr => ∃ j : Nat, j ≤ 4 ∧ v5 = .int .i64 j ∧ Trio w wr p q r o oq o2 A A B) (fun v5 _ _ _ _ _ _ _ _ _ _ _ => 4 - (intOf v5).toNat)
  case atStart => exact ⟨0, by omega, rfl, H.out⟩
  case round =>
    clear H
    obtain ⟨j, hj, rfl, htr⟩ := hrel
    have HB := Lib.hid htr; clear htr
    by_cases hlj : j < 4
    · have hdj : decide ((j : Int) < 4) = true := by simp; omega
      have hij : i64 (j : Int) := i64_of (by omega)
      go_wp2_with fail
      go_loopw [6, 7, 8, 9, 10] (fun v6 _ _ _ _ wr => ∃ n : Nat, n ≤ 8 ∧ v6 = .int .i64 n ∧ Trio w wr p q r o oq o2 A A B) (fun v6 _ _ _ _ _ => 8 - (intOf v6).toNat)
      case atStart => exact ⟨0, by omega, rfl, HB.out⟩
      case round =>
        clear HB
        obtain ⟨n, hn, rfl, htr⟩ := hrel
        have HB := Lib.hid htr; clear htr
        by_cases hln : n < 8
        · have hdn : decide ((n : Int) < 8) = true := by simp; omega
          have he : (readA A j n).2 = 0 := by
            obtain ⟨ax, hax⟩ := H4.out j (by omega)
            unfold readA
            rw [hax]
            show (if 0 ≤ (n : Int) ∧ (n : Int) < 8 then _ else _ : Int × Int).2 = 0
            rw [if_pos (by omega)]
          obtain ⟨va, hva⟩ : ∃ z, (readA A j n).1 = z := ⟨_, rfl⟩
          have HV := Lib.hid (And.intro hva he)
          clear hva he
          go_wp2_with fail
          refine (hrd HB.out.pr j n hij).mono ?_
          rw [HV.out.1, HV.out.2]
          rintro e w4 ⟨rfl, hw⟩
          subst hw
          go_wp2_with fail
          refine (hrd HB.out.qr j n hij).mono ?_
          rw [HV.out.1, HV.out.2]
          rintro e w5 ⟨rfl, hw⟩
          subst hw
          clear HV
          go_wp2_with fail
          go_roundw
          case rel => exact ⟨n + 1, by omega, by go_num, HB.out⟩
          case measure => simp [intOf]; omega
        · obtain rfl : n = 8 := by omega
          rw [show ((8 : Nat) : Int) = 8 from rfl]
          go_wp2_with fail
          obtain ⟨C, hC, hCA⟩ := HB.out.pr.pk
          obtain ⟨E, hE, hEA⟩ := HB.out.qr.pk
          obtain ⟨ax, hax⟩ := H4.out j (by omega)
          obtain ⟨P, hP, hP2⟩ := to_inv (hCA ▸ hax)
          obtain ⟨R, hR, hR2⟩ := to_inv (hEA ▸ hax)
          have hSS : P.S = R.S := (congrArg Ax.S hP2).symm.trans (congrArg Ax.S hR2)
          refine (vgic_some p o C j hij _ hC P hP).mono ?_
          rintro e w4 ⟨rfl, hw⟩
          subst hw
          go_wp2_with fail
          refine (vgic_some q oq E j hij _ hE R hR).mono ?_
          rintro e w5 ⟨rfl, hw⟩
          subst hw
          have HVP := Lib.hid (hC.vg j P hP)
          have HVR := Lib.hid (hE.vg j R hR)
          have HSS := Lib.hid hSS
          clear hC hCA hE hEA hax hP hP2 hR hR2 hSS
          go_wp2_with fail
          refine (all_any P.v P.mp P.ma P.S _ HVP.out).mono ?_
          rintro e w7 ⟨⟨sa, n0, g, rfl, hall, hsa⟩, hb7⟩
          have HAL := Lib.hid hall
          have HSA7 := Lib.hid hsa
          have HB7 := Lib.hid (HB.out.below hb7)
          have HV7 := Lib.hid (HVR.out.below hb7)
          have HN : Hid (n0 ≤ 64) := Lib.hid (by rw [hall.1]; exact preL_len _ _ _)
          clear hall hsa hb7 HB HVP HVR
          go_wp2_with fail
          refine (all_any R.v R.mp R.ma R.S _ HV7.out).mono ?_
          rintro e w9 ⟨⟨sr, n, g', rfl, hall, hsr⟩, hb9⟩
          obtain ⟨e1, e2⟩ := all_two (by rw [← HSS.out] at hall; exact hall) HAL.out
          subst e1
          have HSA := Lib.hid (HSA7.out.below hb9)
          have HSB := Lib.hid (hsr.congr (fun i hi => e2 i hi))
          have HB9 := Lib.hid (HB7.out.below hb9)
          clear hsr hb9 hall HSA7 HB7 HV7 HAL HSS e2
          rcases HSA.out with ⟨rfl, rfl⟩ | ⟨qa, capa, Ma, rfl, hca, _, hla⟩
          · rcases HSB.out with ⟨rfl, _⟩ | ⟨qb, capb, Mb, rfl, hcb, _, hlb⟩
            · go_wp2_with fail
              go_loopw [15] (fun v15 wr => ∃ i m : Nat, i ≤ 0 ∧ v15 = .int .i64 i ∧ wr = w9.drewN m) (fun v15 _ => 0 - (intOf v15).toNat)
              case atStart => exact ⟨0, 0, by omega, rfl, rfl⟩
              case round =>
                obtain ⟨i, m, hi, rfl, rfl⟩ := hrel
                obtain rfl : i = 0 := by omega
                have HF := Lib.hid (HB9.out.drewN m)
                go_wp2_with fail
                go_roundw
                case rel => exact ⟨j + 1, by omega, by go_num, HF.out⟩
                case measure => simp [intOf]; omega
            · go_wp2_with fail
              go_loopw [15] (fun v15 wr => ∃ i m : Nat, i ≤ 0 ∧ v15 = .int .i64 i ∧ wr = w9.drewN m) (fun v15 _ => 0 - (intOf v15).toNat)
              case atStart => exact ⟨0, 0, by omega, rfl, rfl⟩
              case round =>
                obtain ⟨i, m, hi, rfl, rfl⟩ := hrel
                obtain rfl : i = 0 := by omega
                have HF := Lib.hid (HB9.out.drewN m)
                go_wp2_with fail
                go_roundw
                case rel => exact ⟨j + 1, by omega, by go_num, HF.out⟩
                case measure => simp [intOf]; omega
          · rcases HSB.out with ⟨rfl, rfl⟩ | ⟨qb, capb, Mb, rfl, hcb, _, hlb⟩
            · clear hla hca
              go_wp2_with fail
              go_loopw [15] (fun v15 wr => ∃ i m : Nat, i ≤ 0 ∧ v15 = .int .i64 i ∧ wr = w9.drewN m) (fun v15 _ => 0 - (intOf v15).toNat)
              case atStart => exact ⟨0, 0, by omega, rfl, rfl⟩
              case round =>
                obtain ⟨i, m, hi, rfl, rfl⟩ := hrel
                obtain rfl : i = 0 := by omega
                have HF := Lib.hid (HB9.out.drewN m)
                go_wp2_with fail
                go_roundw
                case rel => exact ⟨j + 1, by omega, by go_num, HF.out⟩
                case measure => simp [intOf]; omega
            · have HLA := Lib.hid hla
              have HLB := Lib.hid hlb
              clear hla hlb
              have hn64 := HN.out
              go_wp2_with fail
              go_loopw [15] (fun v15 wr => ∃ i m : Nat, i ≤ n ∧ v15 = .int .i64 i ∧ wr = w9.drewN m) (fun v15 _ => n - (intOf v15).toNat)
              case atStart => exact ⟨0, 0, by omega, rfl, rfl⟩
              case round =>
                obtain ⟨i, m, hi, rfl, rfl⟩ := hrel
                by_cases hlt : i < n
                · obtain ⟨x0, x1, x2, x3, x4⟩ := HLA.out.cells i hlt
                  obtain ⟨y0, y1, y2, y3, y4⟩ := HLB.out.cells i hlt
                  have hdi : decide ((i : Int) < (n : Int)) = true := by simp; omega
                  have hii : (i : Int) < (n : Int) := by omega
                  go_wp2_with fail
                  go_quiet (fail)
                  go_wp2_with fail
                  go_roundw
                  case rel => exact ⟨i + 1, _, by omega, by go_num, rfl⟩
                  case measure => simp [intOf]; omega
                · obtain rfl : i = n := by omega
                  have HF := Lib.hid (HB9.out.drewN m)
                  go_wp2_with fail
                  go_roundw
                  case rel => exact ⟨j + 1, by omega, by go_num, HF.out⟩
                  case measure => simp [intOf]; omega
    · obtain rfl : j = 4 := by omega
      go_wp2_with fail
      go_ret
      exact ⟨rfl, HB.out.pr.bel⟩
end Go.Proofs.Ytnebjbjdgfaooaa
