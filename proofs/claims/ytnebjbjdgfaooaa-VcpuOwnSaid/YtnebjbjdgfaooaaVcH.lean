/- One party alone: the contracts by the abstract state; awake of chapter 18 is true; no condition. -/
import Derived.Test.YtnebjbjdgfaooaaVcG
import Derived.Laws.StructEq
namespace Go.Proofs.Ytnebjbjdgfaooaa
open Go.RowKit Go.Maps
set_option maxRecDepth 100000
/-- Eight numbers are equal to themselves. -/
theorem run_same75 (w : World) (d : Nat) (l : List Int) (hl8 : l.length = 8) : (Op.equalIn (d + 2) 75 (.agg (l.map (Value.int .u32)).toArray) (.agg (l.map (Value.int .u32)).toArray)).run Try.prog w = .ok true w := by
  have hsz : ∀ w, (sizeOf 63).run Try.prog w = .ok 1 w := fun w => by kernel_rfl
  rw [Op.equalIn]
  simp only [Sem.run_bind, run_underlying Try.underlying75, Result.andThen_ok, hsz, Std.Legacy.Range.forIn_eq_forIn_range', Std.Legacy.Range.size, Nat.sub_zero, Nat.add_sub_cancel, Nat.div_one]
  have hl : ∀ i ∈ List.range' 0 8 1, i < 8 := fun i hi => by simpa using (List.mem_range'_1.1 hi).2
  generalize List.range' 0 8 1 = r at hl ⊢
  induction r with
  | nil => simp
  | cons i r ih =>
    have hi : i < 8 := hl i (by simp)
    have px : (part 63 (l.map (Value.int .u32)).toArray (i * 1)).run Try.prog w = .ok (.int .u32 (l.getD i 0)) w := by
      simp [part, isAgg, run_underlying Try.underlying63, List.getD, List.getElem?_eq_getElem (show i < l.length by omega)]
    have pe : (Op.equalIn (d + 1) 63 (.int .u32 (l.getD i 0)) (.int .u32 (l.getD i 0))).run Try.prog w = .ok true w := by
      rw [run_equalIn_int w d 63 .u32 .u32 _ _ Try.underlying63]
      simp
    simp only [List.forIn_cons, Sem.run_bind, px, pe, Result.andThen_ok]
    simp only [Bool.not_true, Bool.false_eq_true, if_false, Sem.run_pure, Result.andThen_ok]
    exact ih fun j hj => hl j (by simp [hj])
theorem same75 (w : World) (a0 a1 a2 a3 a4 a5 a6 a7 : Int) : (Op.equalIn 10000 75 (.agg #[.int .u32 a0, .int .u32 a1, .int .u32 a2, .int .u32 a3, .int .u32 a4, .int .u32 a5, .int .u32 a6, .int .u32 a7]) (.agg #[.int .u32 a0, .int .u32 a1, .int .u32 a2, .int .u32 a3, .int .u32 a4, .int .u32 a5, .int .u32 a6, .int .u32 a7])).run Try.prog w = .ok true w := run_same75 w 9998 [a0, a1, a2, a3, a4, a5, a6, a7] rfl
/-- In w1 the party p stands as A and owns o; all its blocks are new since w, and nothing of w has turned. -/
def Has (w w1 : World) (p : Nat) (o : Own) (A : Am) : Prop := ∃ C, VcOk w1 o p C ∧ C.to = A ∧ (∀ b, Ow o b → w.heap.size ≤ b) ∧ Below w.heap.size w w1
/-- A step of it. -/
def Go1 (w w1 w2 : World) (p : Nat) (o : Own) (A : Am) : Prop := ∃ o', Has w w2 p o' A ∧ Ext w1 o o' ∧ Upd (Ow o) w1 w2
/-- A row that is not the party's. -/
def Oth (w : World) (o : Own) (b : Nat) (T : TypeId) (n : Nat) (f : Nat → Value) : Prop := RowAt w b T n f ∧ ¬ Ow o b
section
variable {w w1 w2 : World} {p : Nat} {o : Own} {A : Am}
theorem Oth.go {b n : Nat} {T : TypeId} {f : Nat → Value} {o' : Own} (h : Oth w1 o b T n f) (hx : Ext w1 o o') (hu : Upd (Ow o) w1 w2) : Oth w2 o' b T n f :=
  ⟨h.1.kept hu h.2, by unfold Ow; rw [hx b h.1.lt]; exact h.2⟩
theorem Oth.alloc {b n : Nat} {T : TypeId} {f : Nat → Value} (h : Oth w1 o b T n f) (x : Obj) : Oth (w1.alloc x) o b T n f := ⟨h.1.alloc x, h.2⟩
theorem has_stp {A' : Am} (hf : ∀ b, Ow o b → w.heap.size ≤ b) (hb : Below w.heap.size w w1) (s : Stp w1 w2 o p A') : Go1 w w1 w2 p o A' := by
  obtain ⟨o', C', h', e, hx, hu⟩ := s
  refine ⟨o', ⟨C', h', e, fun b hbo => ?_, ?_⟩, hx, hu⟩
  · by_cases hl : b < w1.heap.size
    · exact hf b (by unfold Ow at *; rw [← hx b hl]; exact hbo)
    · have := hb.size; omega
  · exact hb.trans ⟨hu.os, hu.tape, hu.output, hu.size, fun k hk => hu.block k (by have := hb.size; omega) (fun ho => by have := hf k ho; omega)⟩
theorem Has.below (h : Has w w1 p o A) (u : Below w1.heap.size w1 w2) : Has w w2 p o A := by
  obtain ⟨C, hok, e, hf, hb⟩ := h
  exact ⟨C, hok.below u, e, hf, hb.trans (u.mono hb.size)⟩
theorem Has.alloc (h : Has w w1 p o A) (x : Obj) : Has w (w1.alloc x) p o A := h.below ((Below.refl _ _).alloc (Nat.le_refl _) _)
theorem Has.drewN (h : Has w w1 p o A) (m : Nat) : Has w (w1.drewN m) p o A := by
  obtain ⟨C, hok, e, hf, hb⟩ := h
  exact ⟨C, hok.drewN m, e, hf, below_drewN hb _⟩
theorem Has.bel (h : Has w w1 p o A) : Below w.heap.size w w1 := by obtain ⟨C, hok, e, hf, hb⟩ := h; exact hb
theorem Has.lim (h : Has w w1 p o A) {b : Nat} (hb : Ow o b) : b < w1.heap.size := by obtain ⟨C, hok, e, hf, _⟩ := h; exact hok.lim b hb
theorem Has.new (h : Has w w1 p o A) (c : Array Value) (T : TypeId) (n : Nat) (f : Nat → Value) (e : c = ((List.range n).map f).toArray) : Oth (w1.alloc (.cells c T)) o w1.heap.size T n f := ⟨row_new_of w1 c T n f e, fun ho => by have := h.lim ho; omega⟩
theorem hnew {w w1 : World} (hb : Below w.heap.size w w1) (L : Int) (h1 : 1 ≤ L) (h2 : L ≤ 16) : Calls Try.prog 30 #[.int .i64 L] w1 fun e w2 => ∃ p o, e = .returned (.tuple #[.pointer (some ⟨p, 0, none⟩), .int .i64 0]) ∧ Has w w2 p o (A0 L) :=
  (cnew_ok L h1 h2 w1).mono (fun _ _ ⟨p, o, C, he, hok, hto, hf, hb2⟩ => ⟨p, o, he, C, hok, hto, fun b ho => Nat.le_trans hb.size (hf b ho), hb.trans (hb2.mono hb.size)⟩)
theorem hadd (h : Has w w1 p o A) (id : Int) (hid : i64 id) (hl : 1 ≤ A.lrs ∧ A.lrs ≤ 16) : Calls Try.prog 31 #[.pointer (some ⟨p, 0, none⟩), .int .i64 id] w1 fun e w2 => e = .returned (.int .i64 (addA A id).2) ∧ Go1 w w1 w2 p o (addA A id).1 := by
  obtain ⟨C, hok, rfl, hf, hb⟩ := h
  exact (cadd_any p o C id hid hl w1 hok).mono (fun _ _ ⟨he, hs⟩ => ⟨he, has_stp hf hb hs⟩)

theorem henter (h : Has w w1 p o A) (id : Int) (hid : i64 id) : Calls Try.prog 32 #[.pointer (some ⟨p, 0, none⟩), .int .i64 id] w1 fun e w2 => e = .returned (.int .i64 (enterA A id).2) ∧ Go1 w w1 w2 p o (enterA A id).1 := by
  obtain ⟨C, hok, rfl, hf, hb⟩ := h
  exact (center_any p o C id hid w1 hok).mono (fun _ _ ⟨he, hs⟩ => ⟨he, has_stp hf hb hs⟩)

theorem hsetbank (h : Has w w1 p o A) (b : Nat → Int) : Calls Try.prog 58 #[.pointer (some ⟨p, 0, none⟩), .agg #[.int .u32 (b 0), .int .u32 (b 1), .int .u32 (b 2), .int .u32 (b 3), .int .u32 (b 4), .int .u32 (b 5), .int .u32 (b 6), .int .u32 (b 7)]] w1 fun e w2 => e = .returned (.int .i64 (setbankA A b).2) ∧ Go1 w w1 w2 p o (setbankA A b).1 := by
  obtain ⟨C, hok, rfl, hf, hb⟩ := h
  exact (csetbank_any p o C b w1 hok).mono (fun _ _ ⟨he, hs⟩ => ⟨he, has_stp hf hb hs⟩)

theorem hwrite (h : Has w w1 p o A) (id n x : Int) (hid : i64 id) : Calls Try.prog 33 #[.pointer (some ⟨p, 0, none⟩), .int .i64 id, .int .i64 n, .int .u32 x] w1 fun e w2 => e = .returned (.int .i64 (writeA A id n x).2) ∧ Go1 w w1 w2 p o (writeA A id n x).1 := by
  obtain ⟨C, hok, rfl, hf, hb⟩ := h
  exact (cwrite_any p o C id n x hid w1 hok).mono (fun _ _ ⟨he, hs⟩ => ⟨he, has_stp hf hb hs⟩)

theorem hbind (h : Has w w1 p o A) (id t : Int) (tk : Bool) (htk : tk = true ↔ Taken A t) (hid : i64 id) : Calls Try.prog 60 #[.pointer (some ⟨p, 0, none⟩), .int .i64 id, .int .i64 t] w1 fun e w2 => e = .returned (.int .i64 (bindA A id t tk).2) ∧ Go1 w w1 w2 p o (bindA A id t tk).1 := by
  obtain ⟨C, hok, rfl, hf, hb⟩ := h
  exact (cbind_any p o C id t tk htk hid w1 hok).mono (fun _ _ ⟨he, hs⟩ => ⟨he, has_stp hf hb hs⟩)

theorem htick (h : Has w w1 p o A) : Calls Try.prog 34 #[.pointer (some ⟨p, 0, none⟩)] w1 fun e w2 => e = .returned (.bool (tickA A).2) ∧ Go1 w w1 w2 p o (tickA A).1 := by
  obtain ⟨C, hok, rfl, hf, hb⟩ := h
  exact (ctick_any p o C w1 hok).mono (fun _ _ ⟨he, hs⟩ => ⟨he, has_stp hf hb hs⟩)

theorem hbank (h : Has w w1 p o A) : Calls Try.prog 59 #[.pointer (some ⟨p, 0, none⟩)] w1 fun e w2 => e = .returned (.agg #[.int .u32 ((bankA A) 0), .int .u32 ((bankA A) 1), .int .u32 ((bankA A) 2), .int .u32 ((bankA A) 3), .int .u32 ((bankA A) 4), .int .u32 ((bankA A) 5), .int .u32 ((bankA A) 6), .int .u32 ((bankA A) 7)]) ∧ Go1 w w1 w2 p o A := by
  have hh := h
  obtain ⟨C, hok, rfl, hf, hb⟩ := h
  exact (cbank_any p o C w1 hok).mono (fun _ _ ⟨he, hs⟩ => ⟨he, o, hh.below hs, Ext.refl _ _, Upd.of_below hs⟩)
theorem hread (h : Has w w1 p o A) (id n : Int) (hid : i64 id) : Calls Try.prog 40 #[.pointer (some ⟨p, 0, none⟩), .int .i64 id, .int .i64 n] w1 fun e w2 => e = .returned (.tuple #[.int .u32 (readA A id n).1, .int .i64 (readA A id n).2]) ∧ w2 = w1 := by
  obtain ⟨C, hok, rfl, hf, hb⟩ := h
  exact cread_any p o C id n hid w1 hok
end
def awb (n : Nat) : Int := if n = 0 then 1 else if n = 1 then 2 else 0
def aw1 : Am := (addA (A0 2) 3).1
def aw2 : Am := (addA aw1 4).1
def aw3 : Am := (enterA aw2 3).1
def aw4 : Am := (setbankA aw3 awb).1
def aw5 : Am := (enterA aw4 4).1
def aw6 : Am := (writeA aw5 3 1 9).1
def aw7 : Am := (enterA aw6 3).1
def aw8 : Am := (bindA aw7 3 7 false).1
def aw9 : Am := (bindA aw8 4 7 true).1
def aw10 : Am := (writeA aw9 3 3 2).1
def aw11 : Am := (tickA aw10).1
theorem aw_r1 : (addA (A0 2) 3).2 = 0 := by kernel_rfl
theorem aw_r2 : (addA aw1 4).2 = 0 := by kernel_rfl
theorem aw_r3 : (enterA aw2 3).2 = 0 := by kernel_rfl
theorem aw_r4 : (setbankA aw3 awb).2 = 0 := by kernel_rfl
theorem aw_r5 : (enterA aw4 4).2 = 0 := by kernel_rfl
theorem aw_b5 : (#[.int .u32 ((bankA aw5) 0), .int .u32 ((bankA aw5) 1), .int .u32 ((bankA aw5) 2), .int .u32 ((bankA aw5) 3), .int .u32 ((bankA aw5) 4), .int .u32 ((bankA aw5) 5), .int .u32 ((bankA aw5) 6), .int .u32 ((bankA aw5) 7)] : Array Value) = #[.int .u32 0, .int .u32 0, .int .u32 0, .int .u32 0, .int .u32 0, .int .u32 0, .int .u32 4, .int .u32 0] := by kernel_rfl
theorem aw_q5 : (readA aw5 3 1).1 = 2 := by kernel_rfl
theorem aw_e5 : (readA aw5 3 1).2 = 0 := by kernel_rfl
theorem aw_r6 : (writeA aw5 3 1 9).2 = 0 := by kernel_rfl
theorem aw_r7 : (enterA aw6 3).2 = 0 := by kernel_rfl
theorem aw_b7 : (#[.int .u32 ((bankA aw7) 0), .int .u32 ((bankA aw7) 1), .int .u32 ((bankA aw7) 2), .int .u32 ((bankA aw7) 3), .int .u32 ((bankA aw7) 4), .int .u32 ((bankA aw7) 5), .int .u32 ((bankA aw7) 6), .int .u32 ((bankA aw7) 7)] : Array Value) = #[.int .u32 1, .int .u32 9, .int .u32 0, .int .u32 0, .int .u32 0, .int .u32 0, .int .u32 3, .int .u32 0] := by kernel_rfl
theorem aw_r8 : (bindA aw7 3 7 false).2 = 0 := by kernel_rfl
theorem aw_r9 : (bindA aw8 4 7 true).2 = 180 := by kernel_rfl
theorem aw_r10 : (writeA aw9 3 3 2).2 = 0 := by kernel_rfl
theorem aw_r11 : (tickA aw10).2 = false := by kernel_rfl
theorem aw_r12 : (tickA aw11).2 = true := by kernel_rfl
theorem aw_none {i : Int} (h3 : i ≠ 3) (h4 : i ≠ 4) : aw7.all i = none := by
  show updQ (updQ (updQ (updQ (fun _ => none) 3 _) 4 _) 3 _) 3 _ i = none
  rw [updQ_other _ _ h3, updQ_other _ _ h3, updQ_other _ _ h4, updQ_other _ _ h3]
theorem aw_t8 : false = true ↔ Taken aw7 7 := by
  constructor
  · intro h; cases h
  · rintro ⟨i, a, ha, ht⟩
    exfalso
    by_cases h3 : i = 3
    · subst h3
      have : some (-1 : Int) = some a.th := by rw [show some (-1 : Int) = (aw7.all 3).map Ax.th by kernel_rfl, ha]; rfl
      simp at this; omega
    · by_cases h4 : i = 4
      · subst h4
        have : some (-1 : Int) = some a.th := by rw [show some (-1 : Int) = (aw7.all 4).map Ax.th by kernel_rfl, ha]; rfl
        simp at this; omega
      · rw [aw_none h3 h4] at ha; cases ha
theorem aw_t9 : true = true ↔ Taken aw8 7 := by
  refine ⟨fun _ => ?_, fun _ => rfl⟩
  have h : (aw8.all 3).map Ax.th = some 7 := by kernel_rfl
  cases ha : aw8.all 3 with
  | none => rw [ha] at h; cases h
  | some a => rw [ha] at h; exact ⟨3, a, ha, Option.some.inj h⟩
theorem i64n (n : Nat) (h : n < 1000) : i64 (n : Int) := i64_of (by omega)
def aw_v5 : Array Value := #[.int .u32 0, .int .u32 0, .int .u32 0, .int .u32 0, .int .u32 0, .int .u32 0, .int .u32 4, .int .u32 0]
def aw_f5 (k : Nat) : Value := .int .u32 (if k = 6 then 4 else 0)
theorem aw_n5 : aw_v5 = ((List.range 8).map aw_f5).toArray := by kernel_rfl
def aw_v7 : Array Value := #[.int .u32 1, .int .u32 9, .int .u32 0, .int .u32 0, .int .u32 0, .int .u32 0, .int .u32 3, .int .u32 0]
def aw_f7 (k : Nat) : Value := .int .u32 (if k = 0 then 1 else if k = 1 then 9 else if k = 6 then 3 else 0)
theorem aw_n7 : aw_v7 = ((List.range 8).map aw_f7).toArray := by kernel_rfl
set_option maxHeartbeats 16000000 in
theorem cawake_any (w : World) : Calls Try.prog 29 #[] w fun e w' => e = .returned (.bool true) ∧ Below w.heap.size w w' := by
  go_enter Try.func29, Try.ntmps29
  go_wp2_with fail
  refine (hnew (Below.refl _ _) 2 (by omega) (by omega)).mono ?_
  rintro e w0 ⟨p, o, rfl, hh⟩
  have HH : Hid (Has w w0 p o (A0 2)) := Lib.hid hh
  clear hh
  go_wp2_with fail
  refine (hadd HH.out 3 (i64n 3 (by omega)) (by decide)).mono ?_
  rw [aw_r1]
  rintro e w1 ⟨rfl, o1, hh, hx, hu⟩
  have HH : Hid (Has w w1 p o1 aw1) := Lib.hid hh
  clear hh hx hu
  go_wp2_with fail
  refine (hadd HH.out 4 (i64n 4 (by omega)) (by decide)).mono ?_
  rw [aw_r2]
  rintro e w2 ⟨rfl, o2, hh, hx, hu⟩
  have HH : Hid (Has w w2 p o2 aw2) := Lib.hid hh
  clear hh hx hu
  go_wp2_with fail
  refine (henter HH.out 3 (i64n 3 (by omega))).mono ?_
  rw [aw_r3]
  rintro e w3 ⟨rfl, o3, hh, hx, hu⟩
  have HH : Hid (Has w w3 p o3 aw3) := Lib.hid hh
  clear hh hx hu
  go_wp2_with fail
  refine (hsetbank HH.out awb).mono ?_
  rw [aw_r4]
  rintro e w4 ⟨rfl, o4, hh, hx, hu⟩
  have HH : Hid (Has w w4 p o4 aw4) := Lib.hid hh
  clear hh hx hu
  go_wp2_with fail
  refine (henter HH.out 4 (i64n 4 (by omega))).mono ?_
  rw [aw_r5]
  rintro e w5 ⟨rfl, o5, hh, hx, hu⟩
  have HH : Hid (Has w w5 p o5 aw5) := Lib.hid hh
  clear hh hx hu
  go_wp2_with fail
  refine (hbank HH.out).mono ?_
  rw [aw_b5]
  rintro e w6 ⟨rfl, o6, hh, hx, hu⟩
  have HH : Hid (Has w w6 p o6 aw5) := Lib.hid hh
  clear hh hx hu
  go_wp2_with fail
  have HX : Hid (Has w (w6.alloc (.cells aw_v5 75)) p o6 aw5) := Lib.hid (HH.out.alloc _)
  have HR5 : Hid (Oth (w6.alloc (.cells aw_v5 75)) o6 w6.heap.size 75 8 (aw_f5)) := Lib.hid (HH.out.new _ 75 8 _ aw_n5)
  obtain ⟨x5, hx5⟩ : ∃ x, w6.heap.size = x := ⟨_, rfl⟩
  clear HH
  have HH := HX
  clear HX
  change Calls _ _ _ (w6.alloc (.cells aw_v5 75)) _
  rw [hx5] at HR5 ⊢
  generalize w6.alloc (.cells aw_v5 75) = w6x at HH  HR5 ⊢
  clear hx5
  refine (hread HH.out 3 1 (i64n 3 (by omega))).mono ?_
  rw [aw_q5, aw_e5]
  rintro e w7 ⟨rfl, hw⟩
  subst hw
  go_wp2_with fail
  refine (hwrite HH.out 3 1 9 (i64n 3 (by omega))).mono ?_
  rw [aw_r6]
  rintro e w8 ⟨rfl, o8, hh, hx, hu⟩
  have HH : Hid (Has w w8 p o8 aw6) := Lib.hid hh
  have HR5 := Lib.hid (HR5.out.go hx hu)
  clear hh hx hu
  go_wp2_with fail
  refine (henter HH.out 3 (i64n 3 (by omega))).mono ?_
  rw [aw_r7]
  rintro e w9 ⟨rfl, o9, hh, hx, hu⟩
  have HH : Hid (Has w w9 p o9 aw7) := Lib.hid hh
  have HR5 := Lib.hid (HR5.out.go hx hu)
  clear hh hx hu
  go_wp2_with fail
  refine (hbank HH.out).mono ?_
  rw [aw_b7]
  rintro e w10 ⟨rfl, o10, hh, hx, hu⟩
  have HH : Hid (Has w w10 p o10 aw7) := Lib.hid hh
  have HR5 := Lib.hid (HR5.out.go hx hu)
  clear hh hx hu
  go_wp2_with fail
  have HX : Hid (Has w (w10.alloc (.cells aw_v7 75)) p o10 aw7) := Lib.hid (HH.out.alloc _)
  have HR7 : Hid (Oth (w10.alloc (.cells aw_v7 75)) o10 w10.heap.size 75 8 (aw_f7)) := Lib.hid (HH.out.new _ 75 8 _ aw_n7)
  obtain ⟨x7, hx7⟩ : ∃ x, w10.heap.size = x := ⟨_, rfl⟩
  clear HH
  have HH := HX
  clear HX
  have HR5 := Lib.hid (HR5.out.alloc (.cells aw_v7 75))
  change Calls _ _ _ (w10.alloc (.cells aw_v7 75)) _
  rw [hx7] at HR7 ⊢
  generalize w10.alloc (.cells aw_v7 75) = w10x at HH HR5 HR7 ⊢
  clear hx7
  refine (hbind HH.out 3 7 false aw_t8 (i64n 3 (by omega))).mono ?_
  rw [aw_r8]
  rintro e w11 ⟨rfl, o11, hh, hx, hu⟩
  have HH : Hid (Has w w11 p o11 aw8) := Lib.hid hh
  have HR5 := Lib.hid (HR5.out.go hx hu)
  have HR7 := Lib.hid (HR7.out.go hx hu)
  clear hh hx hu
  go_wp2_with fail
  refine (hbind HH.out 4 7 true aw_t9 (i64n 4 (by omega))).mono ?_
  rw [aw_r9]
  rintro e w12 ⟨rfl, o12, hh, hx, hu⟩
  have HH : Hid (Has w w12 p o12 aw9) := Lib.hid hh
  have HR5 := Lib.hid (HR5.out.go hx hu)
  have HR7 := Lib.hid (HR7.out.go hx hu)
  clear hh hx hu
  go_wp2_with fail
  refine (hwrite HH.out 3 3 2 (i64n 3 (by omega))).mono ?_
  rw [aw_r10]
  rintro e w13 ⟨rfl, o13, hh, hx, hu⟩
  have HH : Hid (Has w w13 p o13 aw10) := Lib.hid hh
  have HR5 := Lib.hid (HR5.out.go hx hu)
  have HR7 := Lib.hid (HR7.out.go hx hu)
  clear hh hx hu
  go_wp2_with fail
  refine (htick HH.out).mono ?_
  rw [aw_r11]
  rintro e w14 ⟨rfl, o14, hh, hx, hu⟩
  have HH : Hid (Has w w14 p o14 aw11) := Lib.hid hh
  have HR5 := Lib.hid (HR5.out.go hx hu)
  have HR7 := Lib.hid (HR7.out.go hx hu)
  clear hh hx hu
  go_wp2_with fail
  refine (htick HH.out).mono ?_
  rw [aw_r12]
  rintro e w15 ⟨rfl, o15, hh, hx, hu⟩
  have HH : Hid (Has w w15 p o15 (tickA aw11).1) := Lib.hid hh
  have HR5 := Lib.hid (HR5.out.go hx hu)
  have HR7 := Lib.hid (HR7.out.go hx hu)
  clear hh hx hu
  go_wp2_with fail
  refine (cnew_err 0 (by omega) _).mono ?_
  rintro e wz ⟨rfl, hz⟩
  subst hz
  have q5_0 : w15.cell? ⟨x5, 0, none⟩ = some (.int .u32 0) := HR5.out.1.cell 0 (by omega)
  have q5_1 : w15.cell? ⟨x5, 1, none⟩ = some (.int .u32 0) := HR5.out.1.cell 1 (by omega)
  have q5_2 : w15.cell? ⟨x5, 2, none⟩ = some (.int .u32 0) := HR5.out.1.cell 2 (by omega)
  have q5_3 : w15.cell? ⟨x5, 3, none⟩ = some (.int .u32 0) := HR5.out.1.cell 3 (by omega)
  have q5_4 : w15.cell? ⟨x5, 4, none⟩ = some (.int .u32 0) := HR5.out.1.cell 4 (by omega)
  have q5_5 : w15.cell? ⟨x5, 5, none⟩ = some (.int .u32 0) := HR5.out.1.cell 5 (by omega)
  have q5_6 : w15.cell? ⟨x5, 6, none⟩ = some (.int .u32 4) := HR5.out.1.cell 6 (by omega)
  have q5_7 : w15.cell? ⟨x5, 7, none⟩ = some (.int .u32 0) := HR5.out.1.cell 7 (by omega)
  have q7_0 : w15.cell? ⟨x7, 0, none⟩ = some (.int .u32 1) := HR7.out.1.cell 0 (by omega)
  have q7_1 : w15.cell? ⟨x7, 1, none⟩ = some (.int .u32 9) := HR7.out.1.cell 1 (by omega)
  have q7_2 : w15.cell? ⟨x7, 2, none⟩ = some (.int .u32 0) := HR7.out.1.cell 2 (by omega)
  have q7_3 : w15.cell? ⟨x7, 3, none⟩ = some (.int .u32 0) := HR7.out.1.cell 3 (by omega)
  have q7_4 : w15.cell? ⟨x7, 4, none⟩ = some (.int .u32 0) := HR7.out.1.cell 4 (by omega)
  have q7_5 : w15.cell? ⟨x7, 5, none⟩ = some (.int .u32 0) := HR7.out.1.cell 5 (by omega)
  have q7_6 : w15.cell? ⟨x7, 6, none⟩ = some (.int .u32 3) := HR7.out.1.cell 6 (by omega)
  have q7_7 : w15.cell? ⟨x7, 7, none⟩ = some (.int .u32 0) := HR7.out.1.cell 7 (by omega)
  have hsame := same75
  go_wp2_with fail
  go_ret
  exact ⟨rfl, HH.out.bel⟩
end Go.Proofs.Ytnebjbjdgfaooaa
