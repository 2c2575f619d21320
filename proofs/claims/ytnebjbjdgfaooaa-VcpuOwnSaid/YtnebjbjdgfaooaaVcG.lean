/- The contracts of vcpu.Of and Bind; no condition but numbers of 64 bits. -/
import Derived.Test.YtnebjbjdgfaooaaVcF
namespace Go.Proofs.Ytnebjbjdgfaooaa
open Go.RowKit Go.Maps
set_option maxRecDepth 100000
/-- r is one that is bound to the thread t, or there is none. -/
def IsOf (A : Am) (t r : Int) : Prop := (∃ a, A.all r = some a ∧ a.th = t ∧ t ≠ -1) ∨ (r = -1 ∧ ∀ i a, A.all i = some a → a.th = t → t = -1)
def Taken (A : Am) (t : Int) : Prop := ∃ i a, A.all i = some a ∧ a.th = t
theorem to_inv {C : Pc} {i : Int} {a : Ax} (h : C.to.all i = some a) : ∃ P, C.all i = some P ∧ a = C.one i P := by
  cases hP : C.all i with
  | none => rw [to_none hP] at h; cases h
  | some P => rw [to_some hP] at h; exact ⟨P, rfl, (Option.some.inj h).symm⟩
theorem qx_of {C : Pc} {i : Int} {x : Nat} (hM : (fun i => (C.all i).map Px.x) i = some x) : ∃ P, C.all i = some P ∧ P.x = x := by
  have hM' : (C.all i).map Px.x = some x := hM
  cases hP : C.all i with
  | none => rw [hP] at hM'; cases hM'
  | some P => rw [hP] at hM'; exact ⟨P, rfl, Option.some.inj hM'⟩
theorem of_step {C : Pc} {left : Lit → Bool} {t i : Int} {P : Px} (hl : ∀ i P, C.all i = some P → left (ki i) = false → P.th = t → t = -1) (hP : C.all i = some P) :
    P.th ≠ t ∨ t = -1 → ∀ j Q, C.all j = some Q → (left (ki j) && !(ki j).sameKey (ki i)) = false → Q.th = t → t = -1 := by
  intro hn j Q hQ hj ht
  by_cases e : j = i
  · subst e
    rw [hP] at hQ; cases hQ
    rcases hn with hn | hn
    · exact absurd ht hn
    · exact hn
  · rw [show (ki j).sameKey (ki i) = false from sameKey_ne (fun h => e (ki_inj h))] at hj
    exact hl j Q hQ (by simpa using hj) ht
set_option maxHeartbeats 8000000 in
theorem cof_any (p : Nat) (o : Own) (C : Pc) (t : Int) (w : World) (h : VcOk w o p C) :
    Calls Try.prog 43 #[.pointer (some ⟨p, 0, none⟩), .int .i64 t] w fun e w' => (∃ r, e = .returned (.int .i64 r) ∧ IsOf C.to t r) ∧ Below w.heap.size w w' := by
  have H := Lib.hid h; clear h
  have c1 := H.out.mb
  obtain ⟨D, hown, hr⟩ := H.out.map
  obtain ⟨M, hMM⟩ : ∃ M : Qp, (fun i => (C.all i).map Px.x) = M := ⟨_, rfl⟩
  rw [hMM] at hr
  have HM := Lib.hid hMM; clear hMM
  have HR := Lib.hid hr; clear hr
  have hlt := hown.lt
  go_enter Try.func43, Try.ntmps43
  go_wp2_with (at_range; refine wpList_range_own _ rfl _ 105 rfl 3 108 kLaw Try.underlying105 qR C.mb _ D rfl hown ?_; intro w0 hrg0 hg0 hs0)
  go_frame
  go_loopw [5, 6] (fun _ _ wr => ∃ (left : Lit → Bool) (cnt : Nat), wr.ranges Try.prog 3 qR C.mb w.heap.size (Maps.size D) D left cnt ∧ (∀ i P, C.all i = some P → left (ki i) = false → P.th = t → t = -1) ∧ Below w.heap.size w wr) (fun _ _ wr => wr.rangeLeft C.mb w.heap.size)
  case atStart => exact ⟨_, _, hrg0, fun i P hP hl => (by rw [HR.out.has i, ← HM.out] at hl; simp [hP] at hl), ⟨hg0.os, hg0.tape, hg0.output, hg0.size, fun k hk => hg0.block k hk (by simp)⟩⟩
  case round =>
    clear hrg0 hg0 hs0
    obtain ⟨left, cnt, hrg, hl, hb⟩ := hrel
    have HL := Lib.hid hl; have HB := Lib.hid hb; clear hl hb
    go_wp2_with (at_next; refine wpList_next_q _ rfl _ rfl C.mb w.heap.size _ D M left cnt rfl hrg HR.out ?done ?more)
    case done =>
      intro _ hl0
      go_wp2_with fail
      go_ret
      exact ⟨⟨-1, rfl, Or.inr ⟨rfl, fun i a ha hth => by obtain ⟨P, hP, rfl⟩ := to_inv ha; exact HL.out i P hP (hl0 _) hth⟩⟩, HB.out⟩
    case more =>
      intro i x w1 cnt1 i0 i1 hM hrg1 hlt1 hg1 hs1 hen
      rw [← HM.out] at hM
      obtain ⟨P, hP, rfl⟩ := qx_of hM
      have hb1 : Below w.heap.size w w1 := HB.out.grown hg1 HB.out.size (fun k hk => by cases hk; exact Nat.le_refl _)
      have HB1 := Lib.hid hb1
      have H1 := Lib.hid (H.out.below hb1)
      have c9 := H1.out.pth hP
      have HP := Lib.hid hP
      have HN := Lib.hid (of_step HL.out hP)
      clear hb1 hM hP
      by_cases ht : P.th = t
      · by_cases hn : t = -1
        · have HN2 := Lib.hid (HN.out (Or.inr hn))
          clear HN
          subst hn
          rw [ht] at c9
          clear ht
          go_wp2_with fail
          go_roundw
          case rel => exact ⟨_, cnt1, hrg1, fun _ _ _ _ _ => trivial, HB1.out⟩
          case measure => rw [hrg1.left_eq, hrg.left_eq]; exact hlt1
        · have hn2 : (t == -1) = false := by simpa using hn
          rw [ht] at c9
          have HT := Lib.hid (And.intro ht hn)
          clear ht hn HN
          go_wp2_with fail
          go_ret
          exact ⟨⟨i, rfl, Or.inl ⟨_, to_some HP.out, HT.out.1, HT.out.2⟩⟩, HB1.out⟩
      · have ht2 : (P.th == t) = false := by simpa using ht
        have HN2 := Lib.hid (HN.out (Or.inl ht))
        clear HN ht
        go_wp2_with fail
        go_roundw
        case rel => exact ⟨_, cnt1, hrg1, HN2.out, HB1.out⟩
        case measure => rw [hrg1.left_eq, hrg.left_eq]; exact hlt1
def bindA (A : Am) (id t : Int) (tk : Bool) : Am × Int :=
  match A.all id with
  | none => (A, 181)
  | some a => if 0 ≤ t ∧ t < 1024 then (if a.th ≠ -1 ∨ tk = true then (A, 180) else ({ A with all := updQ A.all id (some { a with th := t }) }, 0)) else (A, 1)
set_option maxHeartbeats 8000000 in
theorem cbind_any (p : Nat) (o : Own) (C : Pc) (id t : Int) (tk : Bool) (htk : tk = true ↔ Taken C.to t) (hid : i64 id) (w : World) (h : VcOk w o p C) :
    Calls Try.prog 60 #[.pointer (some ⟨p, 0, none⟩), .int .i64 id, .int .i64 t] w fun e w' => e = .returned (.int .i64 (bindA C.to id t tk).2) ∧ Stp w w' o p (bindA C.to id t tk).1 := by
  have H := Lib.hid h; clear h
  have HTK := Lib.hid htk; clear htk
  have c1 := H.out.mb
  cases hP : C.all id with
  | none =>
    have hA : bindA C.to id t tk = (C.to, 181) := by unfold bindA; rw [to_none hP]
    rw [hA]
    clear hA
    go_enter Try.func60, Try.ntmps60
    go_wp2_with (at_lookup; refine wpList_getq _ rfl _ _ rfl C.mb _ id hid rfl H.out.map rfl ?_; simp only [hP, Option.map_none, qv])
    go_ret
    exact ⟨rfl, stp_same H.out⟩
  | some P =>
    by_cases hr : 0 ≤ t ∧ t < 1024
    · have hd : decide (0 ≤ t ∧ t < 1024) = true := by simpa using hr
      have c9 := H.out.pth hP
      by_cases ht : P.th = -1
      · rw [ht] at c9
        cases tk with
        | true =>
          have hA : bindA C.to id t true = (C.to, 180) := by unfold bindA; rw [to_some hP]; show (if 0 ≤ t ∧ t < 1024 then _ else _) = _; rw [if_pos hr]; exact if_pos (Or.inr rfl)
          rw [hA]
          clear hA
          have HTT := Lib.hid (HTK.out.1 rfl)
          go_enter Try.func60, Try.ntmps60
          go_wp2_with (first | (at_lookup; refine wpList_getq _ rfl _ _ rfl C.mb _ id hid rfl H.out.map rfl ?_; simp only [hP, Option.map_some, qv]) | (go_at_call 61; refine (cis_any _ _).mono ?_; rintro e w1 ⟨rfl, rfl⟩; rw [hd]) | (go_at_call 43; refine (cof_any p o C t _ H.out).mono ?_; rintro e w2 ⟨⟨r, rfl, hof⟩, hb2⟩; have HB := Lib.hid hb2; have hne : r ≠ -1 := (by rcases hof with ⟨a, ha, _⟩ | ⟨_, hno⟩; (obtain ⟨Q, hQ, _⟩ := to_inv ha; have := H.out.dom hQ; omega); (obtain ⟨i, a, ha, e⟩ := HTT.out; have := hno i a ha e; omega)); have hr2 : (r == -1) = false := (by simpa using hne); clear hof hb2 hne))
          go_ret
          exact ⟨rfl, o, C, H.out.below HB.out, rfl, Ext.refl _ _, Upd.of_below HB.out⟩
        | false =>
          have hA : bindA C.to id t false = ({ C.to with all := updQ C.to.all id (some { C.one id P with th := t }) }, 0) := by
            unfold bindA; rw [to_some hP]; show (if 0 ≤ t ∧ t < 1024 then _ else _) = _; rw [if_pos hr]; exact if_neg (by rintro (h | h); exact h ht; cases h)
          rw [hA]
          clear hA
          have HTT : Hid (¬ Taken C.to t) := Lib.hid (fun h => by have := HTK.out.2 h; cases this)
          go_enter Try.func60, Try.ntmps60
          go_wp2_with (first | (at_lookup; refine wpList_getq _ rfl _ _ rfl C.mb _ id hid rfl H.out.map rfl ?_; simp only [hP, Option.map_some, qv]) | (go_at_call 61; refine (cis_any _ _).mono ?_; rintro e w1 ⟨rfl, rfl⟩; rw [hd]) | (go_at_call 43; refine (cof_any p o C t _ H.out).mono ?_; rintro e w2 ⟨⟨r, rfl, hof⟩, hb2⟩; have HB := Lib.hid hb2; have H2 := Lib.hid (H.out.below hb2); have hf := H2.out.pfrozen hP; have q9 := H2.out.pth hP; obtain rfl : r = -1 := (by rcases hof with ⟨a, ha, e, _⟩ | ⟨e, _⟩; exact absurd ⟨r, a, ha, e⟩ HTT.out; exact e); clear hof hb2 c9 c1))
          go_ret
          refine ⟨rfl, o, _, H2.out.stt hP t, ?_, Ext.refl _ _, (Upd.of_below HB.out).setCell (Or.inl (H.out.owx hP)) _⟩
          rw [to_updq]; rfl
      · have hA : bindA C.to id t tk = (C.to, 180) := by unfold bindA; rw [to_some hP]; show (if 0 ≤ t ∧ t < 1024 then _ else _) = _; rw [if_pos hr]; exact if_pos (Or.inl ht)
        rw [hA]
        clear hA
        have ht2 : (P.th == -1) = false := by simpa using ht
        go_enter Try.func60, Try.ntmps60
        go_wp2_with (first | (at_lookup; refine wpList_getq _ rfl _ _ rfl C.mb _ id hid rfl H.out.map rfl ?_; simp only [hP, Option.map_some, qv]) | (go_at_call 61; refine (cis_any _ _).mono ?_; rintro e w1 ⟨rfl, rfl⟩; rw [hd]))
        go_ret
        exact ⟨rfl, stp_same H.out⟩
    · have hd : decide (0 ≤ t ∧ t < 1024) = false := by simpa using hr
      have hA : bindA C.to id t tk = (C.to, 1) := by unfold bindA; rw [to_some hP]; exact if_neg hr
      rw [hA]
      clear hA
      go_enter Try.func60, Try.ntmps60
      go_wp2_with (first | (at_lookup; refine wpList_getq _ rfl _ _ rfl C.mb _ id hid rfl H.out.map rfl ?_; simp only [hP, Option.map_some, qv]) | (go_at_call 61; refine (cis_any _ _).mono ?_; rintro e w1 ⟨rfl, rfl⟩; rw [hd]))
      go_ret
      exact ⟨rfl, stp_same H.out⟩
end Go.Proofs.Ytnebjbjdgfaooaa
