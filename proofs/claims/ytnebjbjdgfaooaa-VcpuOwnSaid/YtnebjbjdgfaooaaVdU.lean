/- What the laws of chapter 18 share: two new parties; threads, by the abstract state; no condition. -/
import Derived.Test.YtnebjbjdgfaooaaVdL
namespace Go.Proofs.Ytnebjbjdgfaooaa
open Go.RowKit

open Go.Maps
theorem duo_new {w w1 w2 w3 : World} {p r : Nat} {o q : Own} {C : Pc} {D : Rc} {A B : Am} (b1 : Below w.heap.size w w1) (hC : VcOk w2 o p C) (hA : C.to = A) (hf : ∀ b, Ow o b → w1.heap.size ≤ b) (b2 : Below w1.heap.size w1 w2)
    (hD : RcOk w3 q r D) (hB : D.to = B) (hg : ∀ b, Ow q b → w2.heap.size ≤ b) (b3 : Below w2.heap.size w2 w3) : Duo w w3 p r o q A B :=
  ⟨⟨C, hC.below b3, hA⟩, ⟨D, hD, hB⟩, fun b ho hq => by have := hC.lim b ho; have := hg b hq; omega, fun b hb => by
    have h1 := b1.size
    have h2 := b2.size
    rcases hb with hb | hb
    · have := hf b hb; omega
    · have := hg b hb; omega, b1.trans ((b2.mono b1.size).trans (b3.mono (by have := b1.size; have := b2.size; omega)))⟩
theorem isof_uniq {A : Am} (h : Uq A) {t r i : Int} {a : Ax} (hr : IsOf A t r) (ha : A.all i = some a) (ht : a.th = t) (hn : t ≠ -1) : r = i := by
  rcases hr with ⟨b, hb, hb2, _⟩ | ⟨_, hno⟩
  · exact h r i b a hb ha (by rw [hb2, ht]) (by rw [hb2]; exact hn)
  · exact absurd (hno i a ha ht) hn
def thA (A : Am) (i : Int) : Int := match A.all i with | none => -1 | some a => a.th
theorem hth {w0 w : World} {p r : Nat} {o o2 : Own} {A B : Am} (h : Duo w0 w p r o o2 A B) (id : Int) (hid : i64 id) : Calls Try.prog 42 #[.pointer (some ⟨p, 0, none⟩), .int .i64 id] w fun e w' => e = .returned (.int .i64 (thA A id)) ∧ w' = w := by
  obtain ⟨C, hC, rfl⟩ := h.pk
  cases hP : C.all id with
  | none => rw [show thA C.to id = -1 by unfold thA; rw [to_none hP]]; exact thread_none p o C id hid w hC hP
  | some P => rw [show thA C.to id = P.th by unfold thA; rw [to_some hP]; rfl]; exact thread_some p o C id hid w hC P hP
theorem hof {w0 w : World} {p r : Nat} {o o2 : Own} {A B : Am} (h : Duo w0 w p r o o2 A B) (t : Int) : Calls Try.prog 43 #[.pointer (some ⟨p, 0, none⟩), .int .i64 t] w fun e w' => (∃ z, e = .returned (.int .i64 z) ∧ IsOf A t z) ∧ Duo w0 w' p r o o2 A B := by
  obtain ⟨C, hC, hCA⟩ := h.pk
  refine (cof_any p o C t w hC).mono ?_
  rw [hCA]
  rintro e w1 ⟨h1, h2⟩
  exact ⟨h1, h.below h2⟩
theorem isof_dom {w0 w : World} {p r : Nat} {o o2 : Own} {A B : Am} (h : Duo w0 w p r o o2 A B) {i : Int} {a : Ax} (ha : A.all i = some a) : 0 ≤ i ∧ i < 1024 := by
  obtain ⟨C, hC, rfl⟩ := h.pk
  obtain ⟨P, hP, _⟩ := to_inv ha
  exact hC.dom hP

end Go.Proofs.Ytnebjbjdgfaooaa
