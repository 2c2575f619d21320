/- TopSum answers true whatever the number, and leaves all old memory as it was; no condition. -/
import Derived.Below
import Derived.WalkKit
import Derived.Laws.BitsLemmas
import Derived.Test.YtokhodhhaenlfaaGreatDoorTab
import Derived.Test.YtokhodhhaenlfaaGreatDoorFa
import Derived.Test.YtokhodhhaenlfaaGreatDoorAl
import Derived.Test.YtokhodhhaenlfaaGreatDoorN1
import Derived.Test.YtokhodhhaenlfaaGreatDoorN2
import Derived.Test.YtokhodhhaenlfaaGreatDoorN3
import Derived.Test.YtokhodhhaenlfaaGreatDoorN4
import Derived.Test.YtokhodhhaenlfaaGreatDoorN5
import Derived.Test.YtokhodhhaenlfaaGreatDoorN6
namespace Go.Ev
open Go.Proofs
set_option maxRecDepth 100000
theorem dok : DOk Tryz.prog cf (compD cf) := compD_DOk env_ok mixed
theorem t205 : TabM Tryz.prog 205 mm205 := tabM_of env_ok dok noSp_ok tab_ok m205
theorem sp1_ok : SpOk Tryz.prog sp1 := memoSp_ok (memoOf_is fun x hx => by
  simp only [tabs1, List.mem_cons, List.not_mem_nil, or_false] at hx
  subst hx; exact t205)
theorem t158 : TabM Tryz.prog 158 mm158 := tabM_of env_ok dok sp1_ok tab_ok m158
theorem sp2_ok : SpOk Tryz.prog sp2 := memoSp_ok (memoOf_is fun x hx => by
  simp only [tabs2, List.mem_cons, List.not_mem_nil, or_false] at hx
  rcases hx with rfl | rfl
  · exact t205
  · exact t158)
theorem t105 : TabM Tryz.prog 105 mm105 := tabM_of env_ok dok sp2_ok tab_ok m105
theorem sp3_ok : SpOk Tryz.prog sp3 := memoSp_ok (memoOf_is fun x hx => by
  simp only [tabs3, List.mem_cons, List.not_mem_nil, or_false] at hx
  rcases hx with rfl | rfl | rfl
  · exact t205
  · exact t158
  · exact t105)
theorem t63 : TabM Tryz.prog 63 mm63 := tabM_of env_ok dok sp3_ok tab_ok m63
theorem t211 : TabM Tryz.prog 211 mm211 := tabM_of env_ok dok sp3_ok tab_ok m211
theorem memo5_ok : MemoOk Tryz.prog (memoOf tabs5) := memoOf_is fun x hx => by
  simp only [tabs5, List.mem_cons, List.not_mem_nil, or_false] at hx
  rcases hx with rfl | rfl | rfl | rfl | rfl
  · exact t205
  · exact t158
  · exact t105
  · exact t63
  · exact t211
theorem spA_ok : SpOk Tryz.prog spA := mkSp_ok env_ok dok tab_ok memo5_ok
theorem spB_ok : SpOk Tryz.prog spB := by
  refine mkSp2_ok (mkSp2_ok spA_ok (hms_of env_ok dok tab_ok (fuel := 3000) fun m hm => ?_)) (hms_of env_ok dok tab_ok (fuel := 3000) fun m hm => ?_)
  · simp only [List.mem_cons, List.not_mem_nil, or_false] at hm
    rcases hm with rfl | rfl
    · exact hi1_is
    · exact hi2_is
  · simp only [List.mem_cons, List.not_mem_nil, or_false] at hm
    rcases hm with rfl | rfl
    · exact ack1_is
    · exact ack2_is
theorem t4 : TabM Tryz.prog 4 [([], .bool true)] := tabM_of env_ok dok spA_ok tab_ok alive_is
/- alive answers true, and leaves what was there -/
theorem alive_any (w : World) : Calls Tryz.prog 4 #[] w fun e w' => e = .returned (.bool true) ∧ ∃ ρ s, Ok (Bs.of w) ρ s w' := by
  obtain ⟨_, hc⟩ := t4.fn [] (.bool true) (List.mem_cons_self ..) (Bs.of w) _ _ w [] (ok_start w) (by simp [vals])
  refine Calls.mono hc ?_
  rintro e w' ⟨ρ', x, rfl, ok', _, hx⟩
  simp only [val, Option.some.injEq] at hx
  exact ⟨by rw [hx], ρ', _, ok'⟩
/- TopSum's end, for a number from 1 on -/
theorem rest_ok {rest : Code} {K : Nat} (hK : K >>> 65536 = 0) (hc : compC (compD cf) cf K 75 rest = some restX) {n : Nat} (ht : okTail (path 2) (ev spB tab 2000 restX (tN n) (.mk .leaf 0)) = true) {a : Act} {w : World}
    (hsz : a.tmps.size = 75) (h3 : a.tmps.getD 3 undef = .bool true) (h4 : a.tmps.getD 4 undef = .int .i64 n) (hd : a.defers = []) (h2 : Nat.testBit K 2 = true) {Q : Exit → Act → World → Prop}
    (hQ : ∀ (a' : Act) (w' : World) (ρ : Rho) (s : S), Ok (Bs.of w) ρ s w' → a'.tmps.getD 2 undef = .bool true → a'.defers = [] → Q .ret a' w') : rest.wp Tryz.prog Q a w := by
  obtain ⟨t', s', he, hg⟩ := okTail_ok ht
  have F0 : Fr K 75 (fun _ => none) .leaf [] a := ⟨hsz, fun m _ _ => .inl (getP_leaf _), fun _ _ h => by simp at h⟩
  have F1 : Fr K 75 (fun _ => none) (tN n) [] a := by
    refine ⟨hsz, fun m hb hm => ?_, fun _ _ h => by simp at h⟩
    unfold tN
    rw [getP_putP, getP_putP]
    split
    · rename_i hp
      have : m = 4 := path_inj hm (by omega) hp
      subst this
      exact .inr (by rw [h4]; rfl)
    · split
      · rename_i hp
        have : m = 3 := path_inj hm (by omega) hp
        subst this
        exact .inr (by rw [h3]; rfl)
      · exact .inl (getP_leaf _)
  refine code_ok (w0 := Bs.of w) env_ok dok hK spB tab 2000 (fun f _ => call_ok env_ok dok spB tab spB_ok tab_ok f) 2000 (Nat.le_refl _) rest restX hc (tN n) (.mk .leaf 0) .r t' s' _ a w Q he F1 (ok_start w) hd ?_
  intro ρ' a' w' ok' _ F' hd'
  refine hQ a' w' ρ' s' ok' ?_ hd'
  have := F'.tmps 2 h2 (by omega)
  rw [hg] at this
  exact OV_bool this
end Go.Ev
namespace Go.Ev
open Go.Proofs Go.RowKit
set_option maxRecDepth 100000
section
variable {P : Program} {ops : Array Oper} {Q : Exit → Act → World → Prop} {rest : List Oper} {o : Oper} {a : Act} {w w' : World} {x : Value}
theorem wpl_value (hg : o.guard = none) (hr : (execOp a.eval o).run P w = .ok (.value x) w') (h : wpList P ops Q rest (a.put o.dst x) w') : wpList P ops Q (o :: rest) a w :=
  wpList_plain hg fun K hK => by rw [Oper.wp, hr, Oper.upon_value]; exact hK _ _ h
theorem wpl_call {f : FuncId} {args : Array Value} (hg : o.guard = none) (hr : (execOp a.eval o).run P w = .ok (.enter f args) w) (hc : Calls P f args w fun e w' => ∃ x, e = .returned x ∧ wpList P ops Q rest (a.put o.dst x) w') : wpList P ops Q (o :: rest) a w :=
  wpList_plain hg fun K hK => by
    rw [Oper.wp, hr]
    refine Calls.mono hc ?_
    rintro e w' ⟨x, rfl, h⟩
    exact hK _ _ h
end
def tlC : Code → Code
  | .seq _ b => b
  | c => c
noncomputable def body3 : Code := Tryz.f3.body.getD .skip
noncomputable def rest3 : Code := tlC (tlC (tlC body3))
def op0 : Oper := Oper.mk (some 2) (.assign (.const (.bool false))) 4 "top20.go:481" #[] none
def op1a : Oper := Oper.mk (some 13) (.call (Call.mk (.value (.func 4)) #[] #[])) 4 "top20.go:482" #[] none
def op1b : Oper := Oper.mk (some 3) (.assign (.tmp 13)) 4 "top20.go:482" #[Edge.mk 0 .data, Edge.mk 0 .chain, Edge.mk 0 .phase] none
def op2a : Oper := Oper.mk (some 14) (.move (.tmp 0)) 3 "top20.go:483" #[] none
def op2b : Oper := Oper.mk (some 15) (.call (Call.mk (.value (.func 5)) #[.tmp 14, .const (.int .i64 12)] #[3, 3])) 3 "top20.go:483" #[Edge.mk 0 .data] none
def op2c : Oper := Oper.mk (some 16) (.binOp .add 3 (.const (.int .i64 1)) (.tmp 15) 3) 3 "top20.go:483" #[Edge.mk 1 .data] none
def op2d : Oper := Oper.mk (some 4) (.assign (.tmp 16)) 3 "top20.go:483" #[Edge.mk 2 .data, Edge.mk 1 .chain, Edge.mk 0 .phase, Edge.mk 1 .phase, Edge.mk 2 .phase] none
theorem body3_is : Tryz.f3.body = some (.seq (.region 0 #[op0] false) (.seq (.region 1 #[op1a, op1b] false) (.seq (.region 2 #[op2a, op2b, op2c, op2d] false) rest3))) := by kernel_rfl
theorem rest3_is : compC (compD cf) cf 37777670234729706012671 75 rest3 = some restX := by kernel_rfl
theorem pick_any (c : Int) (h1 : -9223372036854775808 ≤ c) (h2 : c < 9223372036854775808) (w : World) : Calls Tryz.prog 5 #[.int .i64 c, .int .i64 12] w fun e w' => (∃ k : Nat, k < 12 ∧ e = .returned (.int .i64 (k : Int))) ∧ w' = w := by
  go_enter Tryz.func5, Tryz.ntmps5
  go_wp2
  · rename_i hc
    have hm : -(c + 1).tmod 12 = (-(c + 1)) % 12 := by rw [← Int.neg_tmod, Int.tmod_eq_emod_of_nonneg (by omega)]
    refine ⟨rfl, _, results_tmp rfl _ _ _, ⟨⟨(-(c + 1) % 12).toNat, by omega, ?_⟩, rfl⟩⟩
    rw [Int.toNat_of_nonneg (by omega), ← hm]; rfl
  · rename_i hc
    refine ⟨rfl, _, results_tmp rfl _ _ _, ⟨⟨(c % 12).toNat, by omega, ?_⟩, rfl⟩⟩
    rw [Int.toNat_of_nonneg (by omega)]; rfl
theorem walk_TopSum (c : Int) (h1 : -9223372036854775808 ≤ c) (h2 : c < 9223372036854775808) (w : World) : Calls Tryz.prog 3 #[.int .i64 c] w fun e w' => e = .returned (.bool true) ∧ Below w.heap.size w w' := by
  refine calls_of_wp Tryz.func3 body3_is ?_
  obtain ⟨a0, ha0⟩ : ∃ a0 : Act, a0 = { tmps := #[.int .i64 c] ++ Array.replicate (Tryz.f3.ntmps - (#[Value.int .i64 c] : Array Value).size) undef, defers := [] } := ⟨_, rfl⟩
  rw [← ha0]
  have hn : Tryz.f3.ntmps = 75 := Tryz.ntmps3
  have hsz : a0.tmps.size = 75 := by rw [ha0, hn]; simp
  have h0 : a0.tmps.getD 0 undef = .int .i64 c := by rw [ha0]; simp [Array.getD_eq_getD_getElem?]
  have hd0 : a0.defers = [] := by rw [ha0]
  clear ha0
  refine wp_seq (wp_region_list (wpl_value (x := .bool false) (w' := w) rfl (by simp [execOp, op0, Act.eval]) ?_))
  refine wp_seq (wp_region_list (wpl_call (f := 4) (args := #[]) rfl (by simp [execOp, op1a, resolve, Deferred.ofValue, invoke, Act.eval, Tryz.call4]) ?_))
  refine (alive_any w).mono ?_
  rintro e w1 ⟨rfl, ρ1, s1, ok1⟩
  refine ⟨.bool true, rfl, wpl_value (x := .bool true) (w' := w1) rfl ?_ ?_⟩
  · have : ((a0.put op0.dst (.bool false)).put op1a.dst (.bool true)).eval (.tmp 13) = .bool true := by
      show ((a0.put (some 2) (.bool false)).put (some 13) (.bool true)).tmps.getD 13 undef = _
      rw [tmps_put, if_pos ⟨rfl, by rw [size_put, hsz]; omega⟩]
    simp [execOp, op1b]
    exact this
  obtain ⟨a1, ha1⟩ : ∃ a1 : Act, a1 = ((a0.put op0.dst (.bool false)).put op1a.dst (.bool true)).put op1b.dst (.bool true) := ⟨_, rfl⟩
  show (Code.seq _ rest3).wp _ _ _ w1
  rw [← ha1]
  have hsz1 : a1.tmps.size = 75 := by rw [ha1, size_put, size_put, size_put, hsz]
  have h01 : a1.tmps.getD 0 undef = .int .i64 c := by rw [ha1, tmps_put, if_neg (by simp [op1b]), tmps_put, if_neg (by simp [op1a]), tmps_put, if_neg (by simp [op0]), h0]
  have h31 : a1.tmps.getD 3 undef = .bool true := by rw [ha1, tmps_put, if_pos ⟨rfl, by rw [size_put, size_put, hsz]; omega⟩]
  have hd1 : a1.defers = [] := by rw [ha1, put_defers, put_defers, put_defers, hd0]
  clear ha1
  refine wp_seq (wp_region_list (wpl_value (x := .int .i64 c) (w' := w1) rfl (by
    have : a1.eval (.tmp 0) = .int .i64 c := h01
    simp [execOp, op2a]; exact this) ?_))
  have h14 : (a1.put op2a.dst (.int .i64 c)).eval (.tmp 14) = .int .i64 c := by
    show (a1.put (some 14) (.int .i64 c)).tmps.getD 14 undef = _
    rw [tmps_put, if_pos ⟨rfl, by rw [hsz1]; omega⟩]
  refine wpl_call (f := 5) (args := #[.int .i64 c, .int .i64 12]) rfl (by
    have e1 : (a1.put op2a.dst (.int .i64 c)).eval (.const (.int .i64 12)) = .int .i64 12 := rfl
    have e2 : (a1.put op2a.dst (.int .i64 c)).eval (.func 5) = .func (.func 5) #[] #[] := rfl
    simp [execOp, op2b, resolve, h14, e1, e2, Deferred.ofValue, invoke, Tryz.call5]) ?_
  refine (pick_any c h1 h2 w1).mono ?_
  rintro e w2 ⟨⟨k, hk, rfl⟩, rfl⟩
  refine ⟨.int .i64 k, rfl, ?_⟩
  obtain ⟨a2, ha2⟩ : ∃ a2 : Act, a2 = (a1.put op2a.dst (.int .i64 c)).put op2b.dst (.int .i64 k) := ⟨_, rfl⟩
  rw [← ha2]
  have hsz2 : a2.tmps.size = 75 := by rw [ha2, size_put, size_put, hsz1]
  have h15 : a2.eval (.tmp 15) = .int .i64 k := by
    show a2.tmps.getD 15 undef = _
    rw [ha2, tmps_put, if_pos ⟨rfl, by rw [size_put, hsz1]; omega⟩]
  have h32 : a2.tmps.getD 3 undef = .bool true := by rw [ha2, tmps_put, if_neg (by simp [op2b]), tmps_put, if_neg (by simp [op2a]), h31]
  have hd2 : a2.defers = [] := by rw [ha2, put_defers, put_defers, hd1]
  clear ha2
  have hw : IntKind.i64.wrap (1 + (k : Int)) = ((k + 1 : Nat) : Int) := by
    rw [IntKind.wrap_i64]; omega
  refine wpl_value (x := .int .i64 ((k + 1 : Nat) : Int)) (w' := w2) rfl (by
    have e1 : a2.eval (.const (.int .i64 1)) = .int .i64 1 := rfl
    simp [execOp, op2c, h15, e1, binOp, eqGuard, Op.intArith]
    simpa using hw) ?_
  refine wpl_value (x := .int .i64 ((k + 1 : Nat) : Int)) (w' := w2) rfl (by
    have : (a2.put op2c.dst (.int .i64 ((k + 1 : Nat) : Int))).eval (.tmp 16) = .int .i64 ((k + 1 : Nat) : Int) := by
      show (a2.put (some 16) _).tmps.getD 16 undef = _
      rw [tmps_put, if_pos ⟨rfl, by rw [hsz2]; omega⟩]
    simp [execOp, op2d]; exact this) ?_
  obtain ⟨a3, ha3⟩ : ∃ a3 : Act, a3 = (a2.put op2c.dst (.int .i64 ((k + 1 : Nat) : Int))).put op2d.dst (.int .i64 ((k + 1 : Nat) : Int)) := ⟨_, rfl⟩
  show rest3.wp _ _ _ w2
  rw [← ha3]
  have hsz3 : a3.tmps.size = 75 := by rw [ha3, size_put, size_put, hsz2]
  have h33 : a3.tmps.getD 3 undef = .bool true := by rw [ha3, tmps_put, if_neg (by simp [op2d]), tmps_put, if_neg (by simp [op2c]), h32]
  have h43 : a3.tmps.getD 4 undef = .int .i64 ((k + 1 : Nat) : Int) := by rw [ha3, tmps_put, if_pos ⟨rfl, by rw [size_put, hsz2]; omega⟩]
  have hd3 : a3.defers = [] := by rw [ha3, put_defers, put_defers, hd2]
  clear ha3
  have fin : okTail (path 2) (ev spB tab 2000 restX (tN (k + 1)) (.mk .leaf 0)) = true := by
    match k, hk with
    | 0, _ => exact tail1
    | 1, _ => exact tail2
    | 2, _ => exact tail3
    | 3, _ => exact tail4
    | 4, _ => exact tail5
    | 5, _ => exact tail6
    | 6, _ => exact tail7
    | 7, _ => exact tail8
    | 8, _ => exact tail9
    | 9, _ => exact tail10
    | 10, _ => exact tail11
    | 11, _ => exact tail12
    | n + 12, h => exact absurd h (by omega)
  refine rest_ok (by decide) rest3_is fin hsz3 h33 h43 hd3 (by decide) ?_
  intro a' w' ρ s ok' hres hd'
  refine ⟨hd', .bool true, ?_, rfl, ?_⟩
  · rw [results_eq, Tryz.results3]
    simp [resultSem, hres]
  · have b1 : Below w.heap.size w w2 := ⟨ok1.os, ok1.tape, ok1.out, ok1.ofSize, fun j hj => ok1.ofOld hj⟩
    have b2 : Below w2.heap.size w2 w' := ⟨ok'.os, ok'.tape, ok'.out, ok'.ofSize, fun j hj => ok'.ofOld hj⟩
    exact b1.trans (b2.mono ok1.ofSize)
end Go.Ev
