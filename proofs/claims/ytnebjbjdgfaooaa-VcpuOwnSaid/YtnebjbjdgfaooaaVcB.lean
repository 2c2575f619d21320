/- The contracts of vcpu.New, is, Add, Thread, Loaded, Vgic, Leave, Enter, Unbind; no condition but numbers of 64 bits. -/
import Derived.Test.YtnebjbjdgfaooaaVcA
import Derived.BigRegion
namespace Go.Proofs.Ytnebjbjdgfaooaa
open Go.RowKit Go.Maps
set_option maxRecDepth 100000
def Stp (w w' : World) (o : Own) (p : Nat) (A : Am) : Prop := ∃ o' C', VcOk w' o' p C' ∧ C'.to = A ∧ Ext w o o' ∧ Upd (Ow o) w w'
def A0 (L : Int) : Am := ⟨L, -1, fun _ => none⟩
def C0 (L : Int) (mb : Nat) : Pc := ⟨mb, L, -1, fun _ => 0, fun _ => none⟩
def own0 (p mb : Nat) : Own := fun b => if b = p then some (-1, 0) else if b = mb then some (-1, 1) else none
theorem ccells (L : Int) (mb : Nat) : (#[.int .i64 L, .map (some mb), .int .u32 0, .int .u32 0, .int .u32 0, .int .u32 0, .int .u32 0, .int .u32 0, .int .u32 0, .int .u32 0, .int .i64 (-1)] : Array Value) = ((List.range 11).map (ccell (C0 L mb))).toArray := by kernel_rfl
set_option maxHeartbeats 4000000 in
theorem cnew_ok (L : Int) (h1 : 1 ≤ L) (h2 : L ≤ 16) (w : World) : Calls Try.prog 30 #[.int .i64 L] w fun e w' => ∃ p o C, e = .returned (.tuple #[.pointer (some ⟨p, 0, none⟩), .int .i64 0]) ∧ VcOk w' o p C ∧ C.to = A0 L ∧ (∀ b, Ow o b → w.heap.size ≤ b) ∧ Below w.heap.size w w' := by
  have hmm := @run_makeMap Try.prog
  go_enter Try.func30, Try.ntmps30
  go_wp2_with fail
  refine (vnew_ok L h1 h2 _).mono ?_
  rintro e w1 ⟨v, mp, ma, rfl, _, _, _, _, hb1⟩
  have HB := Lib.hid hb1
  clear hb1
  go_wp2_with fail
  go_ret2
  refine ⟨w1.heap.size + 1, own0 (w1.heap.size + 1) w1.heap.size, C0 L w1.heap.size, rfl, ⟨?_, ?_, fun i P h => (by cases h), fun i P h => (by cases h), ?_, ?_, fun i P h => (by cases h), fun b hb => ?_, Or.inl ⟨rfl, rfl⟩⟩, rfl, fun b hb => ?_, ?_⟩
  · have h := row_new_of (w1.alloc (.map #[] 0)) _ 107 11 (ccell (C0 L w1.heap.size)) (ccells L w1.heap.size)
    rw [show (w1.alloc (.map #[] 0)).heap.size = w1.heap.size + 1 by simp] at h
    exact h
  · exact (MapQ.made w1).alloc _
  · simp [own0]
  · simp [own0, C0]
  · unfold own0 at hb
    simp
    split at hb
    · omega
    split at hb
    · omega
    · exact absurd rfl hb
  · have := HB.out.size
    unfold Ow own0 at hb
    split at hb
    · omega
    split at hb
    · omega
    · exact absurd rfl hb
  · exact (HB.out.alloc HB.out.size _).alloc (by have := HB.out.size; simp; omega) _
theorem cnew_err (L : Int) (h : ¬ (1 ≤ L ∧ L ≤ 16)) (w : World) : Calls Try.prog 30 #[.int .i64 L] w fun e w' => e = .returned (.tuple #[.pointer none, .int .i64 1]) ∧ w = w' := by
  go_enter Try.func30, Try.ntmps30
  go_wp2_with fail
  refine (vnew_err L h _).mono ?_
  rintro e w1 ⟨rfl, rfl⟩
  go_wp2_with fail
  go_ret2
  simp
theorem cis_any (id : Int) (w : World) : Calls Try.prog 61 #[.int .i64 id] w fun e w' => e = .returned (.bool (decide (0 ≤ id ∧ id < 1024))) ∧ w = w' := by
  go_enter Try.func61, Try.ntmps61
  go_wp2_with fail
  all_goals
    go_ret
    refine ⟨congrArg (fun x => Ending.returned (Value.bool x)) ?_, rfl⟩
    first
    | (simp_all; done)
    | (simp; omega)
theorem thread_some (p : Nat) (o : Own) (C : Pc) (id : Int) (hid : i64 id) (w : World) (h : VcOk w o p C) (P : Px) (hP : C.all id = some P) :
    Calls Try.prog 42 #[.pointer (some ⟨p, 0, none⟩), .int .i64 id] w fun e w' => e = .returned (.int .i64 P.th) ∧ w' = w := by
  have H := Lib.hid h; clear h
  have c1 := H.out.mb
  have c9 := H.out.pth hP
  go_enter Try.func42, Try.ntmps42
  go_wp2_with (at_lookup; refine wpList_getq _ rfl _ _ rfl C.mb _ id hid rfl H.out.map rfl ?_; simp only [hP, Option.map_some, qv])
  go_ret
  exact ⟨rfl, rfl⟩
theorem thread_none (p : Nat) (o : Own) (C : Pc) (id : Int) (hid : i64 id) (w : World) (h : VcOk w o p C) (hP : C.all id = none) :
    Calls Try.prog 42 #[.pointer (some ⟨p, 0, none⟩), .int .i64 id] w fun e w' => e = .returned (.int .i64 (-1)) ∧ w' = w := by
  have H := Lib.hid h; clear h
  have c1 := H.out.mb
  go_enter Try.func42, Try.ntmps42
  go_wp2_with (at_lookup; refine wpList_getq _ rfl _ _ rfl C.mb _ id hid rfl H.out.map rfl ?_; simp only [hP, Option.map_none, qv])
  go_ret
  exact ⟨rfl, rfl⟩
theorem loaded_any (p : Nat) (o : Own) (C : Pc) (w : World) (h : VcOk w o p C) :
    Calls Try.prog 76 #[.pointer (some ⟨p, 0, none⟩)] w fun e w' => e = .returned (.int .i64 C.loaded) ∧ w' = w := by
  have H := Lib.hid h; clear h
  have c1 := H.out.loaded
  go_enter Try.func76, Try.ntmps76
  go_wp2_with fail
  go_ret
  exact ⟨rfl, rfl⟩
theorem vgic_some (p : Nat) (o : Own) (C : Pc) (id : Int) (hid : i64 id) (w : World) (h : VcOk w o p C) (P : Px) (hP : C.all id = some P) :
    Calls Try.prog 35 #[.pointer (some ⟨p, 0, none⟩), .int .i64 id] w fun e w' => e = .returned (.pointer (some ⟨P.v, 0, none⟩)) ∧ w' = w := by
  have H := Lib.hid h; clear h
  have c1 := H.out.mb
  have c9 := H.out.pv hP
  go_enter Try.func35, Try.ntmps35
  go_wp2_with (at_lookup; refine wpList_getq _ rfl _ _ rfl C.mb _ id hid rfl H.out.map rfl ?_; simp only [hP, Option.map_some, qv])
  go_ret
  exact ⟨rfl, rfl⟩
theorem vgic_none (p : Nat) (o : Own) (C : Pc) (id : Int) (hid : i64 id) (w : World) (h : VcOk w o p C) (hP : C.all id = none) :
    Calls Try.prog 35 #[.pointer (some ⟨p, 0, none⟩), .int .i64 id] w fun e w' => e = .returned (.pointer none) ∧ w' = w := by
  have H := Lib.hid h; clear h
  have c1 := H.out.mb
  go_enter Try.func35, Try.ntmps35
  go_wp2_with (at_lookup; refine wpList_getq _ rfl _ _ rfl C.mb _ id hid rfl H.out.map rfl ?_; simp only [hP, Option.map_none, qv])
  go_ret
  exact ⟨rfl, rfl⟩
end Go.Proofs.Ytnebjbjdgfaooaa
