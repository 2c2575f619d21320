/- Plain facts on memory: a block that reads as a function, and worlds of which some blocks alone have turned. -/
import Derived.Test.YtnebjbjdgfaooaaFrame
import Derived.Lib.Hide
import Derived.Deep.QuietTactic
import Derived.BigQuiet
import Derived.WalkSmall
import Derived.WalkSpells
import Derived.WalkLawsBesides
import Derived.Outline
import Derived.RegionTactic
import Derived.ChangeAlike
import Derived.Deep.RegionWith
import Derived.Deep.Light
namespace Go.Proofs.Ytnebjbjdgfaooaa
open Go.RowKit

/-- Of the blocks that were there those of S alone may have turned. -/
structure Upd (S : Nat → Prop) (w w' : World) : Prop where
  os : w'.os = w.os
  tape : w'.tape = w.tape
  output : w'.output = w.output
  size : w.heap.size ≤ w'.heap.size
  block : ∀ k, k < w.heap.size → ¬ S k → w'.heap[k]? = w.heap[k]?

theorem Upd.refl (S : Nat → Prop) (w : World) : Upd S w w := ⟨rfl, rfl, rfl, Nat.le_refl _, fun _ _ _ => rfl⟩
theorem Upd.trans {S : Nat → Prop} {a b c : World} (h : Upd S a b) (k : Upd S b c) : Upd S a c :=
  ⟨k.os.trans h.os, k.tape.trans h.tape, k.output.trans h.output, Nat.le_trans h.size k.size, fun i hi hn => (k.block i (Nat.lt_of_lt_of_le hi h.size) hn).trans (h.block i hi hn)⟩
theorem Upd.mono {S S' : Nat → Prop} {a b : World} (h : Upd S a b) (hs : ∀ k, S k → S' k) : Upd S' a b :=
  ⟨h.os, h.tape, h.output, h.size, fun i hi hn => h.block i hi (fun hk => hn (hs i hk))⟩
theorem Upd.alloc {S : Nat → Prop} {a w : World} (h : Upd S a w) (o : Obj) : Upd S a (w.alloc o) :=
  h.trans ⟨rfl, rfl, rfl, by simp, fun k hk _ => Below.heap_alloc _ _ _ hk⟩
theorem Upd.drew {S : Nat → Prop} {a w : World} (h : Upd S a w) : Upd S a w.drew := ⟨h.os, h.tape, h.output, h.size, h.block⟩
theorem Upd.drewN {S : Nat → Prop} {a w : World} (h : Upd S a w) (n : Nat) : Upd S a (w.drewN n) := h.trans ⟨rfl, rfl, rfl, Nat.le_refl _, fun _ _ _ => rfl⟩
theorem Upd.setCell {S : Nat → Prop} {a w : World} (h : Upd S a w) {p : Addr} (hp : S p.block ∨ a.heap.size ≤ p.block) (u : Value) : Upd S a (w.setCell p u) := by
  refine ⟨h.os, h.tape, h.output, by simpa [World.setCell] using h.size, fun k hk hn => ?_⟩
  rw [Below.heap_setCell _ _ _ _ (by rintro rfl; exact hp.elim hn (fun hp => by omega))]
  exact h.block k hk hn
theorem Upd.of_below {S : Nat → Prop} {a b : World} (h : Below a.heap.size a b) : Upd S a b := ⟨h.os, h.tape, h.output, h.size, fun k hk _ => h.block k hk⟩
/-- A callee's blocks: what it may turn is what the caller may turn, or is new. -/
theorem Upd.call {S S' : Nat → Prop} {a b c : World} (h : Upd S a b) (k : Upd S' b c) (hs : ∀ i, S' i → S i ∨ a.heap.size ≤ i) : Upd S a c :=
  ⟨k.os.trans h.os, k.tape.trans h.tape, k.output.trans h.output, Nat.le_trans h.size k.size, fun i hi hn =>
    (k.block i (Nat.lt_of_lt_of_le hi h.size) (fun hk => (hs i hk).elim hn (fun hb => by omega))).trans (h.block i hi hn)⟩
theorem Upd.below {S : Nat → Prop} {a b : World} (h : Upd S a b) (hs : ∀ k, S k → a.heap.size ≤ k) : Below a.heap.size a b :=
  ⟨h.os, h.tape, h.output, h.size, fun k hk => h.block k hk (fun hS => by have := hs k hS; omega)⟩
theorem Upd.cell {S : Nat → Prop} {a b : World} (h : Upd S a b) {p : Addr} (hp : p.block < a.heap.size) (hn : ¬ S p.block) : b.cell? p = a.cell? p := World.cell?_of_block (w := a) (h.block p.block hp hn)
theorem Upd.frozen {S : Nat → Prop} {a b : World} (h : Upd S a b) {p : Addr} (hp : p.block < a.heap.size) (hn : ¬ S p.block) : b.frozen? p = a.frozen? p := World.frozen?_of_block (w := a) (h.block p.block hp hn)

/-- Block b is a row of n cells of type T that reads as f. -/
def RowAt (w : World) (b : Nat) (T : TypeId) (n : Nat) (f : Nat → Value) : Prop :=
  ∃ c : Array Value, w.heap[b]? = some (.cells c T (0, 0)) ∧ c.size = n ∧ ∀ k, k < n → c[k]? = some (f k)

theorem RowAt.lt {w : World} {b : Nat} {T : TypeId} {n : Nat} {f : Nat → Value} (h : RowAt w b T n f) : b < w.heap.size := by
  obtain ⟨c, hb, _⟩ := h
  exact (Array.getElem?_eq_some_iff.1 hb).1
theorem RowAt.cell {w : World} {b : Nat} {T : TypeId} {n : Nat} {f : Nat → Value} (h : RowAt w b T n f) (k : Nat) (hk : k < n) : w.cell? ⟨b, k, none⟩ = some (f k) := by
  obtain ⟨c, hb, _, hf⟩ := h
  simp only [World.cell?, hb]
  simpa using hf k hk
theorem RowAt.frozen {w : World} {b : Nat} {T : TypeId} {n : Nat} {f : Nat → Value} (h : RowAt w b T n f) (k : Nat) : w.frozen? ⟨b, k, none⟩ = false := by
  obtain ⟨c, hb, _, hf⟩ := h
  simp [World.frozen?, hb]
theorem RowAt.congr {w : World} {b : Nat} {T : TypeId} {n : Nat} {f g : Nat → Value} (h : RowAt w b T n f) (e : ∀ k, k < n → f k = g k) : RowAt w b T n g := by
  obtain ⟨c, hb, hs, hf⟩ := h
  exact ⟨c, hb, hs, fun k hk => by rw [hf k hk, e k hk]⟩
theorem RowAt.kept {w w' : World} {b : Nat} {T : TypeId} {n : Nat} {f : Nat → Value} {S : Nat → Prop} (h : RowAt w b T n f) (u : Upd S w w') (hn : ¬ S b) : RowAt w' b T n f := by
  have hl := h.lt
  obtain ⟨c, hb, hs, hf⟩ := h
  exact ⟨c, by rw [u.block b hl hn, hb], hs, hf⟩
theorem RowAt.alloc {w : World} {b : Nat} {T : TypeId} {n : Nat} {f : Nat → Value} (h : RowAt w b T n f) (o : Obj) : RowAt (w.alloc o) b T n f :=
  h.kept (S := fun _ => False) ((Upd.refl _ _).alloc o) (fun h => h)
theorem RowAt.drew {w : World} {b : Nat} {T : TypeId} {n : Nat} {f : Nat → Value} (h : RowAt w b T n f) : RowAt w.drew b T n f := h
theorem RowAt.drewN {w : World} {b : Nat} {T : TypeId} {n : Nat} {f : Nat → Value} (h : RowAt w b T n f) (m : Nat) : RowAt (w.drewN m) b T n f := h
theorem RowAt.other {w : World} {b : Nat} {T : TypeId} {n : Nat} {f : Nat → Value} (h : RowAt w b T n f) {p : Addr} (hp : p.block ≠ b) (v : Value) : RowAt (w.setCell p v) b T n f := by
  obtain ⟨c, hb, hs, hf⟩ := h
  exact ⟨c, by rw [Below.heap_setCell _ _ _ _ (fun e => hp e.symm), hb], hs, hf⟩
theorem RowAt.set {w : World} {b : Nat} {T : TypeId} {n : Nat} {f : Nat → Value} (h : RowAt w b T n f) (k : Nat) (v : Value) : RowAt (w.setCell ⟨b, k, none⟩ v) b T n (fun j => if j = k then v else f j) := by
  obtain ⟨c, hb, hs, hf⟩ := h
  refine ⟨c.setIfInBounds k v, ?_, by simpa using hs, fun j hj => ?_⟩
  · simp only [World.setCell, Array.getElem?_modify, hb, if_pos]
    simp
  · rw [Array.getElem?_setIfInBounds]
    by_cases e : k = j
    · subst e; simp [hs, hj]
    · rw [if_neg e]
      show c[j]? = some (if j = k then v else f j)
      rw [if_neg (fun h : j = k => e h.symm)]; exact hf j hj
theorem RowAt.new (w : World) (c : Array Value) (T : TypeId) : RowAt (w.alloc (.cells c T)) w.heap.size T c.size (fun k => c[k]?.getD undef) := by
  refine ⟨c, ?_, rfl, fun k hk => ?_⟩
  · show (w.heap.push _)[w.heap.size]? = _
    simp
  · show c[k]? = some (c[k]?.getD undef)
    rw [Array.getElem?_eq_getElem hk]; rfl
end Go.Proofs.Ytnebjbjdgfaooaa
