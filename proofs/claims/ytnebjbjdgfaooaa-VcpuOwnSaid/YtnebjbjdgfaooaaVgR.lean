/- The contract of Vgic.running: the least priority of those that are active, in whatever order the map hands them out; no condition. -/
import Derived.Test.YtnebjbjdgfaooaaVgA
namespace Go.Proofs.Ytnebjbjdgfaooaa
open Go.RowKit Go.Maps
set_option maxRecDepth 100000
/-- The least priority of the first k, 256 at most. -/
def runM (M : Mp) : Nat → Int
  | 0 => 256
  | k + 1 => match M k with | some y => if y.1 < runM M k then y.1 else runM M k | none => runM M k
theorem runM_le (M : Mp) (k : Nat) : runM M k ≤ 256 := by
  induction k with
  | zero => simp [runM]
  | succ k ih => simp only [runM]; split; · split <;> omega
                 · exact ih
theorem runM_low (M : Mp) (k i : Nat) (hi : i < k) (y : Int × Bool) (h : M i = some y) : runM M k ≤ y.1 := by
  induction k with
  | zero => omega
  | succ k ih =>
    simp only [runM]
    by_cases e : i = k
    · subst e; rw [h]; simp only; split <;> omega
    · have := ih (by omega)
      split
      · split <;> omega
      · exact this
theorem runM_hit (M : Mp) (k : Nat) : runM M k = 256 ∨ ∃ i y, i < k ∧ M i = some y ∧ runM M k = y.1 := by
  induction k with
  | zero => exact Or.inl rfl
  | succ k ih =>
    have old : runM M k = 256 ∨ ∃ i y, i < k + 1 ∧ M i = some y ∧ runM M k = y.1 := by
      rcases ih with h | ⟨i, y, h1, h2, h3⟩
      · exact Or.inl h
      · exact Or.inr ⟨i, y, by omega, h2, h3⟩
    simp only [runM]
    split
    · rename_i y hy
      split
      · exact Or.inr ⟨k, y, by omega, hy, rfl⟩
      · exact old
    · exact old
/-- What stands in a variable that has met those that are no longer to come. -/
structure Least (M : Mp) (left : Lit → Bool) (x : Int) : Prop where
  le : x ≤ 256
  low : ∀ i y, i < 64 → M i = some y → left (kl i) = false → x ≤ y.1
  hit : x = 256 ∨ ∃ i y, i < 64 ∧ M i = some y ∧ x = y.1
theorem Least.done {M : Mp} {left : Lit → Bool} {x : Int} (h : Least M left x) (hl : ∀ k, left k = false) : x = runM M 64 := by
  have h1 : x ≤ runM M 64 := by
    rcases runM_hit M 64 with e | ⟨i, y, hi, hM, e⟩
    · rw [e]; exact h.le
    · rw [e]; exact h.low i y hi hM (hl _)
  have h2 : runM M 64 ≤ x := by
    rcases h.hit with e | ⟨i, y, hi, hM, e⟩
    · rw [e]; exact runM_le _ _
    · rw [e]; exact runM_low M 64 i hi y hM
  omega
theorem Least.step {M : Mp} {left : Lit → Bool} {x : Int} (h : Least M left x) {i : Nat} {y : Int × Bool} (hi : i < 64) (hM : M i = some y) :
    Least M (fun z => left z && !z.sameKey (kl i)) (if y.1 < x then y.1 else x) := by
  have hle := h.le
  refine ⟨by split <;> omega, fun j z hj hz hl => ?_, ?_⟩
  · by_cases e : j = i
    · subst e
      rw [hM] at hz
      cases hz
      split <;> omega
    · have hs : (kl j).sameKey (kl i) = false := sameKey_ne (fun h => e (kl_inj h))
      rw [hs] at hl
      have := h.low j z hj hz (by simpa using hl)
      split <;> omega
  · split
    · exact Or.inr ⟨i, y, hi, hM, rfl⟩
    · exact h.hit
/-- What comes of a map is an entry of the function. -/
theorem entry_of {D : DataW Unit} {M : Mp} (r : Reads D M) {k : Lit} {c : Int × Bool} {y : DataW Unit × List MemPlace} (hy : howR (.agg #[.int .i64 c.1, .bool c.2]) = some y) (hat : ∀ zd, D.atKey k zd = y.1) : ∃ i, i < 64 ∧ k = kl i ∧ M i = some c := by
  obtain ⟨i, hi, e⟩ := r.keys k (has_true_of_atKey hat)
  subst e
  have hh := r.has i hi
  rw [has_true_of_atKey hat] at hh
  cases hM : M i with
  | none => rw [hM] at hh; cases hh
  | some z =>
    refine ⟨i, hi, rfl, ?_⟩
    have h1 := hat (howD 0 false)
    rw [r.at_ i hi z.1 z.2 hM] at h1
    rw [howR_mk] at hy
    cases hy
    obtain ⟨e1, e2⟩ := howD_inj h1
    obtain ⟨z1, z2⟩ := z
    obtain ⟨c1, c2⟩ := c
    simp only at e1 e2
    rw [hM, e1, e2]
theorem wpList_next_how (w : World) {ops : Array Oper} {rest : List Oper} {o : Oper} {a : Act} {Q : Exit → Act → World → Prop} (hg : o.guard = none) (it : Operand) (hop : o.op = Op.next it false) (b r n : Nat) (D : DataW Unit) (M : Mp) (left : Lit → Bool) (cnt : Nat)
    (hit : a.eval it = .pointer (some ⟨r, 0, none⟩)) (h : w.ranges Try.prog 3 howR b r n D left cnt) (hR : Reads D M)
    (hDone : cnt = 0 → (∀ kl, left kl = false) → wpList Try.prog ops Q rest (a.put o.dst (.tuple #[.bool false])) w)
    (hMore : ∀ (i : Nat) (p : Int) (l : Bool) (w' : World) (cnt' : Nat), i < 64 → M i = some (p, l) → w'.ranges Try.prog 3 howR b r n D (fun z => left z && !z.sameKey (kl i)) cnt' → cnt' < cnt → w.grownBy w' (some r) → w'.heap.size = w.heap.size →
      (Instr.entry (.pointer (some ⟨r, 0, none⟩))).run Try.prog w' = .ok (.tuple #[.int .i64 i, .agg #[.int .i64 p, .bool l]]) w' → wpList Try.prog ops Q rest (a.put o.dst (.tuple #[.bool true, .int .i64 i, .agg #[.int .i64 p, .bool l]])) w') :
    wpList Try.prog ops Q (o :: rest) a w := by
  refine wpList_next_ranges (α := Int) (β := Int × Bool) w hg it hop 3 kLaw howR (Value.int .i64) (fun c => .agg #[.int .i64 c.1, .bool c.2]) (fun key kl hkey => by obtain ⟨x, rfl, _⟩ := Maps.keyOf_int_inv Try.underlying3 hkey; exact ⟨x, rfl⟩) (fun v y hv => by obtain ⟨p, l, rfl, _⟩ := howR_inv hv; exact ⟨(p, l), rfl⟩) b r n D left cnt hit h hDone ?_
  intro key c k y w1 cnt1 hkey hlk hy hat hrg1 hlt1 hg1 hs1 hen
  obtain ⟨i, hi, rfl, hM⟩ := entry_of hR hy hat
  obtain ⟨x, hx, hk, _⟩ := Maps.keyOf_int_inv Try.underlying3 hkey
  simp only [kl, Lit.int.injEq, true_and, Value.int.injEq] at hk hx
  subst hk
  subst hx
  exact hMore i c.1 c.2 w1 cnt1 hi hM hrg1 hlt1 hg1 hs1 hen
set_option maxHeartbeats 2000000 in
theorem vrunning_any (v mp ma : Nat) (S : Vm) (w : World) (h : VgAt w v mp ma S) :
    Calls Try.prog 56 #[.pointer (some ⟨v, 0, none⟩)] w fun e w' => e = .returned (.int .i64 (runM S.ac 64)) ∧ Below w.heap.size w w' := by
  have H := Lib.hid h; clear h
  have c67 := H.out.mac
  obtain ⟨D, hown, hr⟩ := H.out.ac
  have HR := Lib.hid hr; clear hr
  have hlt := hown.lt
  go_enter Try.func56, Try.ntmps56
  go_wp2_with (at_range; refine wpList_range_own _ rfl _ 91 rfl 3 96 kLaw Try.underlying91 howR ma _ D rfl hown ?_; intro w0 hrg0 hg0 hs0)
  go_frame
  go_loopw [3, 5] (fun v3 _ wr => ∃ (x : Int) (left : Lit → Bool) (cnt : Nat), v3 = .int .i64 x ∧ wr.ranges Try.prog 3 howR ma w.heap.size (Maps.size D) D left cnt ∧ Least S.ac left x ∧ Below w.heap.size w wr) (fun _ _ wr => wr.rangeLeft ma w.heap.size)
  case atStart => exact ⟨256, _, _, rfl, hrg0, ⟨by omega, fun i y hi hM hl => (by rw [HR.out.has i hi, hM] at hl; cases hl), Or.inl rfl⟩, ⟨hg0.os, hg0.tape, hg0.output, hg0.size, fun k hk => hg0.block k hk (by simp)⟩⟩
  case round =>
    clear hrg0 hg0 hs0
    obtain ⟨x, left, cnt, rfl, hrg, hl, hb⟩ := hrel
    have HL := Lib.hid hl; have HB := Lib.hid hb; clear hl hb
    go_wp2_with (at_next; refine wpList_next_how _ rfl _ rfl ma w.heap.size _ D S.ac left cnt rfl hrg HR.out (fun _ hl0 => ?_) (fun i p l w1 cnt1 hi hM hrg1 hlt1 hg1 hs1 hen => ?_))
    · have he := HL.out.done hl0
      go_wp2_with fail
      go_ret
      rw [he]
      exact ⟨rfl, HB.out⟩
    · have hb1 : Below w.heap.size w w1 := HB.out.grown hg1 HB.out.size (fun k hk => by cases hk; exact Nat.le_refl _)
      go_roundw
      case rel => exact ⟨_, _, cnt1, rfl, hrg1.alloc _, HL.out.step hi hM, hb1.alloc hb1.size _⟩
      case measure => rw [(hrg1.alloc _).left_eq, hrg.left_eq]; exact hlt1
end Go.Proofs.Ytnebjbjdgfaooaa
