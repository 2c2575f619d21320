/- The reckoner: its operations, further. -/
import Derived.Laws.MakeOwn
import Derived.Laws.RangeString
import Derived.Laws.Externs
import Derived.Laws.BytesString
import Derived.Test.YtiliabomdlhgoaaGreatDoorEa
set_option linter.unusedSectionVars false
set_option linter.unusedVariables false
namespace Go.Ev
variable [Sy]

section
variable {P : Program} {w0 : Bs} {w : World} {ρ : Rho} {s s' : S} {v : V} {a : Operand → Value} {o : Oper} {t : Tr} {call : CallT}

theorem nilq_wide {k : NK} {vx : V} {x : Value} (hx : OV ρ vx x) (h : nilq k vx = some true) : wide x = true := by
  cases k <;> cases vx <;> simp only [nilq, Option.some.injEq] at h <;> try (exfalso; cases h; done)
  · rw [OV_nilptr hx]; rfl
  · rw [OV_nilslice hx]; rfl
  · rw [OV_nilmap hx]; rfl
  · rw [OV_nilFunc hx]; rfl
  · rw [OV_nilIface hx]; rfl
theorem nilq_nint {k : NK} {vx : V} {x : Value} {b : Bool} (hx : OV ρ vx x) (h : nilq k vx = some b) : ∀ k n, x ≠ .int k n := by
  intro j n he
  subst he
  cases k <;> cases vx <;> simp only [nilq, Option.some.injEq] at h <;> try (exfalso; cases h; done)
  · have := OV_nilptr hx; exact absurd this (by simp)
  · obtain ⟨_, _, this⟩ := OV_ptr hx; exact absurd this (by simp)
  · have := OV_nilslice hx; exact absurd this (by simp)
  · obtain ⟨_, _, _, this⟩ := OV_slice hx; exact absurd this (by simp)
  · obtain ⟨_, _, _, this⟩ := OV_fsl hx; exact absurd this (by simp)
  · obtain ⟨_, _, _, this⟩ := OV_efs hx; exact absurd this (by simp)
  · have := OV_nilmap hx; exact absurd this (by simp)
  · obtain ⟨_, _, this⟩ := OV_map hx; exact absurd this (by simp)
  · obtain ⟨_, _, _, _, this⟩ := OV_func hx; exact absurd this (by simp)
  · have := OV_nilFunc hx; exact absurd this (by simp)
  · obtain ⟨_, _, this⟩ := OV_iface hx; exact absurd this (by simp)
  · have := OV_nilIface hx; exact absurd this (by simp)

theorem eqGuard_const (op : BinOp) (ty : TypeId) (x : Operand) (c : Value) {u z : Value} (hu : ∀ l, u ≠ .agg l) : eqGuard op ty x (.const c) u z = pure () := by
  cases op <;> cases u <;> first | rfl | (exact absurd rfl (hu _)) | (cases z <;> first | rfl | (cases x <;> rfl))

theorem nilq_nagg {k : NK} {vx : V} {x : Value} {b : Bool} (hx : OV ρ vx x) (h : nilq k vx = some b) : ∀ l, x ≠ .agg l := by
  intro l he
  subst he
  cases k <;> cases vx <;> simp only [nilq, Option.some.injEq] at h <;> try (exfalso; cases h; done)
  · have := OV_nilptr hx; exact absurd this (by simp)
  · obtain ⟨_, _, this⟩ := OV_ptr hx; exact absurd this (by simp)
  · have := OV_nilslice hx; exact absurd this (by simp)
  · obtain ⟨_, _, _, this⟩ := OV_slice hx; exact absurd this (by simp)
  · obtain ⟨_, _, _, this⟩ := OV_fsl hx; exact absurd this (by simp)
  · obtain ⟨_, _, _, this⟩ := OV_efs hx; exact absurd this (by simp)
  · have := OV_nilmap hx; exact absurd this (by simp)
  · obtain ⟨_, _, this⟩ := OV_map hx; exact absurd this (by simp)
  · obtain ⟨_, _, _, _, this⟩ := OV_func hx; exact absurd this (by simp)
  · have := OV_nilFunc hx; exact absurd this (by simp)
  · obtain ⟨_, _, this⟩ := OV_iface hx; exact absurd this (by simp)
  · have := OV_nilIface hx; exact absurd this (by simp)

theorem to_eqN {neg : Bool} {k : NK} {ty yt : TypeId} {x : Operand} {c : Value} {cX cY : X} (ho : o.op = .binOp (if neg then .neq else .eql) ty x (.const c) yt) (hk : NKt P ty k)
    (ok : Ok w0 ρ s w) (hx : OV ρ (cX.ev t) (a x)) (hy : OV ρ (cY.ev t) (a (.const c)))
    (h : o_eqN neg k cX cY call t s = .ok v s') : To P w0 ρ s w (execOp a o) v s' := by
  obtain ⟨p, hp, h⟩ := onSome_ok h
  obtain ⟨q, hq, h⟩ := onSome_ok h
  have hpq : p = true ∨ q = true := by
    cases p
    · rw [bc_false] at h
      exact .inr (bc_ok h).1
    · exact .inl rfl
  have hres : v = .bool (xorB neg (p && q)) ∧ s = s' := by
    cases p
    · rw [bc_false] at h
      have := (bc_ok h).2
      simp only [retB_eq, OR.ok.injEq] at this
      exact ⟨this.1.symm, this.2⟩
    · rw [bc_true, retB_eq] at h
      simp only [OR.ok.injEq] at h
      exact ⟨by simpa using h.1.symm, h.2⟩
  obtain ⟨rfl, rfl⟩ := hres
  have hr := run_nil_eq (w := w) hk hx hy hp hq hpq 9999
  have hb := binOp_eq (w := w) ty (x := a x) (y := a (.const c)) (by
    rcases hpq with h1 | h1
    · subst h1; exact .inl ⟨nilq_wide hx hp, nilq_nint hy hq⟩
    · subst h1; exact .inr ⟨nilq_wide hy hq, nilq_nint hx hp⟩) _ hr neg
  refine To.got ok (x := .bool (xorB neg (p && q))) ?_ rfl
  have hg := eqGuard_const (if neg then .neq else .eql) ty x c (u := a x) (z := a (.const c)) (nilq_nagg hx hp)
  simp [execOp, ho, hg, hb]

/- a flat record's type -/
structure FlatTy (P : Program) (ty : TypeId) (sh : List SK) : Prop where
  guard : P.eqGuardType P.depth ty = false
  equal : ∀ (ρ : Rho) (l m : List V) (xs ys : List Value) (w : World), fits sh l = true → fits sh m = true → vals ρ l = some xs → vals ρ m = some ys →
    (Op.equalIn (9999 + 1) ty (.agg xs.toArray) (.agg ys.toArray)).run P w = .ok (beqVs l m) w

/- a flat record with symbols in it -/
noncomputable def lit (v : V) : V := match v with
  | .sym i k => .int k (Sy.f i)
  | v => v
noncomputable def lits : List V → List V
  | [] => []
  | v :: l => lit v :: lits l
theorem val_lit (ρ : Rho) (v : V) : val ρ (lit v) = val ρ v := by cases v <;> rfl
theorem vals_lits (ρ : Rho) : ∀ l : List V, vals ρ (lits l) = vals ρ l
  | [] => rfl
  | v :: l => by simp only [lits, vals, val_lit, vals_lits ρ l]
theorem fitsKS_lit {k : SK} {v : V} (h : fitsKS k v = true) : fitsK k (lit v) = true := by
  cases k <;> cases v <;> first | exact h | (simp [fitsKS] at h; done)
theorem fitsS_lits : ∀ {ks : List SK} {l : List V}, fitsS ks l = true → fits ks (lits l) = true
  | [], [], _ => rfl
  | [], _ :: _, h => absurd h (by simp [fitsS])
  | _ :: _, [], h => absurd h (by simp [fitsS])
  | k :: ks, v :: l, h => by
    have h : bc (fitsKS k v) (fitsS ks l) false = true := h
    show bc (fitsK k (lit v)) (fits ks (lits l)) false = true
    rw [bc_eq] at h
    split at h
    · rename_i h1
      rw [fitsKS_lit h1, fitsS_lits h]; rfl
    · exact absurd h (by simp)
theorem eqVO_ok {a b : V} {c : Bool} (h : eqVO a b = some c) : beqV (lit a) (lit b) = c := by
  cases a <;> cases b <;> first | exact Option.some.inj h | (simp [eqVO] at h; done) | skip
  · rename_i k a i j
    obtain ⟨rfl, h1⟩ := eqlI_ok (show eqlI a a (symLo i) (symHi i) = some c from h) ⟨Int.le_refl _, Int.le_refl _⟩ (Sy.rng i)
    show beqI _ _ = false
    rw [beqI_eq, decide_eq_false h1]
  · rename_i i j k b
    obtain ⟨rfl, h1⟩ := eqlI_ok (show eqlI (symLo i) (symHi i) b b = some c from h) (Sy.rng i) ⟨Int.le_refl _, Int.le_refl _⟩
    show beqI _ _ = false
    rw [beqI_eq, decide_eq_false h1]
  · rename_i i k j l
    have g : bc (Nat.beq i j) (some true) (eqlI (symLo i) (symHi i) (symLo j) (symHi j)) = some c := h
    clear h
    rw [bc_eq] at g
    split at g
    · rename_i h1
      have e1 := beqN_of h1
      clear h1
      subst e1
      cases g
      show beqI _ _ = true
      rw [beqI_eq, decide_eq_true rfl]
    · obtain ⟨rfl, h1⟩ := eqlI_ok g (Sy.rng i) (Sy.rng j)
      show beqI _ _ = false
      rw [beqI_eq, decide_eq_false h1]
theorem eqVsO_ok : ∀ {a b : List V} {c : Bool}, eqVsO a b = some c → beqVs (lits a) (lits b) = c
  | [], [], c, h => Option.some.inj h
  | [], _ :: _, c, h => Option.some.inj h
  | _ :: _, [], c, h => Option.some.inj h
  | a :: x, b :: y, c, h => by
    show bc (beqV (lit a) (lit b)) (beqVs (lits x) (lits y)) false = c
    simp only [eqVsO] at h
    split at h
    · rename_i h1
      rw [eqVO_ok h1, eqVsO_ok h]; rfl
    · rename_i h1
      rw [eqVO_ok h1]; exact Option.some.inj h
    · split at h
      · rename_i h2
        rw [eqVsO_ok h2]
        cases beqV (lit a) (lit b) <;> exact Option.some.inj h
      · exact absurd h (by simp)

theorem to_eqA {neg : Bool} {sh : List SK} {ty yt : TypeId} {x y : Operand} {cX cY : X} (ho : o.op = .binOp (if neg then .neq else .eql) ty x y yt) (hk : FlatTy P ty sh)
    (ok : Ok w0 ρ s w) (hx : OV ρ (cX.ev t) (a x)) (hy : OV ρ (cY.ev t) (a y))
    (h : o_eqA neg sh cX cY call t s = .ok v s') : To P w0 ρ s w (execOp a o) v s' := by
  obtain ⟨p, hp, h⟩ := onAgg_ok h
  obtain ⟨q, hq, h⟩ := onAgg_ok h
  have key : ∃ p' q' : List V, fits sh p' = true ∧ fits sh q' = true ∧ vals ρ p' = vals ρ p ∧ vals ρ q' = vals ρ q ∧ .bool (xorB neg (beqVs p' q')) = v ∧ s = s' := by
    have alt : eqAS neg sh p q s = .ok v s' → ∃ p' q' : List V, fits sh p' = true ∧ fits sh q' = true ∧ vals ρ p' = vals ρ p ∧ vals ρ q' = vals ρ q ∧ .bool (xorB neg (beqVs p' q')) = v ∧ s = s' := fun h => by
      obtain ⟨h1, h⟩ := bc_ok h
      obtain ⟨h2, h⟩ := bc_ok h
      obtain ⟨c, hc, h⟩ := onSome_ok h
      simp only [retB_eq, OR.ok.injEq] at h
      exact ⟨lits p, lits q, fitsS_lits h1, fitsS_lits h2, vals_lits ρ p, vals_lits ρ q, by rw [eqVsO_ok hc]; exact h.1, h.2⟩
    rw [bc_eq] at h
    split at h
    · rename_i h1
      rw [bc_eq] at h
      split at h
      · rename_i h2
        simp only [retB_eq, OR.ok.injEq] at h
        exact ⟨p, q, h1, h2, rfl, rfl, h.1, h.2⟩
      · exact alt h
    · exact alt h
  obtain ⟨p', q', h1, h2, e1, e2, rfl, rfl⟩ := key
  rw [hp] at hx; rw [hq] at hy
  obtain ⟨xs, hxs, hx⟩ := OV_agg hx
  obtain ⟨ys, hys, hy⟩ := OV_agg hy
  have hr := hk.equal ρ p' q' xs ys w h1 h2 (e1.trans hxs) (e2.trans hys)
  have hb := binOp_eq (w := w) ty (x := .agg xs.toArray) (y := .agg ys.toArray) (.inl ⟨rfl, fun _ _ => by simp⟩) _ hr neg
  have hg := run_eqGuard_agg (P := P) w (if neg then .neq else .eql) ty x y xs.toArray ys.toArray hk.guard
  refine To.got ok (x := .bool (xorB neg (beqVs p' q'))) ?_ rfl
  simp [execOp, ho, hx, hy, hg, hb]

/- two addresses of one cell -/
theorem to_eqP {neg : Bool} {ty yt e : TypeId} {i : TypeInfo} {x y : Operand} {cX cY : X} (ho : o.op = .binOp (if neg then .neq else .eql) ty x y yt) (hu : P.underlying ty = some (.pointer e)) (hi : P.info? e = some i)
    (ok : Ok w0 ρ s w) (hx : OV ρ (cX.ev t) (a x)) (hy : OV ρ (cY.ev t) (a y))
    (h : o_eqP neg cX cY call t s = .ok v s') : To P w0 ρ s w (execOp a o) v s' := by
  obtain ⟨b, q, hp, h⟩ := onPtr_ok h
  obtain ⟨b', q', hp', h⟩ := onPtr_ok h
  obtain ⟨h1, h⟩ := bc_ok h
  obtain ⟨h2, h⟩ := bc_ok h
  simp only [retB_eq, OR.ok.injEq] at h
  obtain ⟨rfl, rfl⟩ := h
  have h1 := Nat.eq_of_beq_eq_true h1
  have h2 := Nat.eq_of_beq_eq_true h2
  subst h1 h2
  rw [hp] at hx; rw [hp'] at hy
  obtain ⟨p, hb, hx⟩ := OV_ptr hx
  obtain ⟨p', hb', hy⟩ := OV_ptr hy
  rw [hb] at hb'; simp only [Option.some.injEq] at hb'; subst hb'
  have hr : ∀ d : Nat, (Op.equalIn (d + 1) ty (.pointer (some ⟨p.1, q, none⟩)) (.pointer (some ⟨p.1, q, none⟩))).run P w = .ok true w := fun d => by
    simp [Op.equalIn, run_underlying hu, sizeOf, typeInfo, hi, sameAddr]
  have hb : (binOp (if neg then .neq else .eql) ty (.pointer (some ⟨p.1, q, none⟩)) (.pointer (some ⟨p.1, q, none⟩))).run P w = .ok (.bool (xorB neg true)) w := by
    cases neg
    · simp only [Bool.false_eq_true, if_false, binOp]
      simp [Op.equal, Op.maxDepth, hr 9999, xorB, bc]
    · simp only [if_true, binOp]
      simp [Op.equal, Op.maxDepth, hr 9999, xorB, bc, bnotB]
  have hg : eqGuard (if neg then .neq else .eql) ty x y (.pointer (some ⟨p.1, q, none⟩)) (.pointer (some ⟨p.1, q, none⟩)) = pure () := by cases neg <;> rfl
  refine To.got ok (x := .bool (xorB neg true)) ?_ (by cases neg <;> rfl)
  simp [execOp, ho, hx, hy, hg, hb]

/- loads and stores -/
def aggD : TypeDesc → Bool
  | .struct _ | .array _ _ => true
  | _ => false
theorem run_isAgg {ty : TypeId} {d : TypeDesc} (h : P.underlying ty = some d) (w : World) : (isAgg ty).run P w = .ok (aggD d) w := by
  simp only [isAgg, Sem.run_bind, run_underlying h, Result.andThen_ok]
  cases d <;> rfl
theorem run_sizeOf {ty : TypeId} {i : TypeInfo} (h : P.info? ty = some i) (w : World) : (sizeOf ty).run P w = .ok i.size w := by
  simp [sizeOf, typeInfo, h]
theorem run_typeInfo {ty : TypeId} {i : TypeInfo} (h : P.info? ty = some i) (w : World) : (typeInfo ty).run P w = .ok i w := by
  simp [typeInfo, h]
theorem run_zeroValue {ty : TypeId} {i : TypeInfo} {z : Value} (h : P.info? ty = some i) (hz : i.zero = some z) (w : World) : (zeroValue ty).run P w = .ok z w := by
  simp [zeroValue, typeInfo, h, hz]

theorem Ok.readAt (ok : Ok w0 ρ s w) {b q : Nat} {p : Nat × Nat} {c : Tr} (hb : ρ b = some p) (hc : s.heap.get b = .cells c ∨ s.heap.get b = .ro c) (h1 : isOne (c.get q) = true) : ∃ y, val ρ (c.get q) = some y ∧ w.cell? ⟨p.1, q, none⟩ = some y := by
  rcases hc with hc | hc
  · obtain ⟨arr, e, fz, r⟩ := ok.row hb hc
    obtain ⟨y, hy, hcell, _, _⟩ := r.there h1
    exact ⟨y, hy, hcell⟩
  · obtain ⟨_, ob, hob, hrel⟩ := ok.blk b p hb (by rw [hc]; simp)
    rw [hc] at hrel
    obtain ⟨arr, e, fz, rfl, hn, hh⟩ := hrel
    rcases hh q with h0 | ⟨_, x, hx, ha⟩
    · rw [h0] at h1; exact absurd h1 (by simp [isOne])
    · exact ⟨x, hx, by simp [World.cell?, hob, ha]⟩
theorem to_ld {ty : TypeId} {d : TypeDesc} {x : Operand} {cX : X} (ho : o.op = .load ty x) (hd : P.underlying ty = some d) (hg : aggD d = false) (ok : Ok w0 ρ s w) (hx : OV ρ (cX.ev t) (a x))
    (h : o_ld cX call t s = .ok v s') : To P w0 ρ s w (execOp a o) v s' := by
  obtain ⟨b, q, hp, h⟩ := onPtr_ok h
  obtain ⟨c, hc, h⟩ := onCR_ok h
  obtain ⟨h1, h⟩ := okV_ok h
  simp only [OR.ok.injEq] at h
  obtain ⟨rfl, rfl⟩ := h
  rw [hp] at hx
  obtain ⟨p, hb, hx⟩ := OV_ptr hx
  rw [hget_eq] at hc
  obtain ⟨y, hy, hcell⟩ := ok.readAt hb hc h1
  exact To.got ok (x := y) (by simp [execOp, ho, hx, Instr.loadAt, Instr.sureAddr, loadVar, run_isAgg hd, hg, hcell]) hy

theorem to_lda {ty : TypeId} {d : TypeDesc} {i : TypeInfo} {x : Operand} {cX : X} (ho : o.op = .load ty x) (hd : P.underlying ty = some d) (hg : aggD d = true) (hi : P.info? ty = some i) (ok : Ok w0 ρ s w)
    (hx : OV ρ (cX.ev t) (a x)) (h : o_lda i.size cX call t s = .ok v s') : To P w0 ρ s w (execOp a o) v s' := by
  obtain ⟨b, q, hp, h⟩ := onPtr_ok h
  obtain ⟨c, hc, h⟩ := cellsOf_ok h
  obtain ⟨l, hl, hj, h⟩ := rd_ok h
  simp only [List.reverse_nil, List.nil_append, OR.ok.injEq] at h
  obtain ⟨rfl, rfl⟩ := h
  rw [hp] at hx
  obtain ⟨p, hb, hx⟩ := OV_ptr hx
  obtain ⟨arr, e, fz, r⟩ := ok.row hb hc
  obtain ⟨xs, hxs, hrun⟩ := r.loads P q i.size 0 #[] l hl (by simpa using hj)
  exact To.got ok (x := .agg xs.toArray) (by simp [execOp, ho, hx, Instr.loadAt, Instr.sureAddr, loadVar, run_isAgg hd, hg, run_sizeOf hi, loadCells, hrun]) (by simp [val, hxs])

theorem To.skip {m : Sem Next} {ρ' : Rho} {w' : World} (ok : Ok w0 ρ' s' w') (po : Post ρ s ρ' s') (hr : m.run P w = .ok .skip w') : To P w0 ρ s w m .undef s' :=
  ⟨ρ', w', _, ok, po, hr, .inl ⟨rfl, rfl⟩⟩
theorem To.new {m : Sem Next} {ρ' : Rho} {w' : World} {x : Value} (ok : Ok w0 ρ' s' w') (po : Post ρ s ρ' s') (hr : m.run P w = .ok (.value x) w') (hx : val ρ' v = some x) : To P w0 ρ s w m v s' :=
  ⟨ρ', w', _, ok, po, hr, .inr ⟨x, rfl, .inr hx⟩⟩

theorem to_st {ty : TypeId} {i : TypeInfo} {x y : Operand} {cX cY : X} (ho : o.op = .store ty x y) (hi : P.info? ty = some i) (h1' : i.size = 1) (ok : Ok w0 ρ s w)
    (hx : OV ρ (cX.ev t) (a x)) (hy : OV ρ (cY.ev t) (a y)) (h : o_st cX cY call t s = .ok v s') : To P w0 ρ s w (execOp a o) v s' := by
  obtain ⟨b, q, hp, h⟩ := onPtr_ok h
  obtain ⟨c, hc, h⟩ := cellsOf_ok h
  obtain ⟨h1, h⟩ := okV_ok h
  obtain ⟨h2, h⟩ := okV_ok h
  rw [Tr.force_eq, setB_eq] at h
  simp only [OR.ok.injEq] at h
  obtain ⟨rfl, rfl⟩ := h
  rw [hp] at hx
  obtain ⟨p, hb, hx⟩ := OV_ptr hx
  obtain ⟨arr, e, fz, r⟩ := ok.row hb hc
  obtain ⟨z, _, hcell, _, hf⟩ := r.there h1
  have hy := hy.get (isOne_ne h2)
  have h1c := oneCell_of h2 hy
  obtain ⟨ok', po, _⟩ := r.store ok h1 h2 hy
  refine To.skip ok' po ?_
  have hs := run_store_at (P := P) hcell hf h1c
  simp [execOp, ho, hx, Instr.storeAt, Instr.sureAddr, storeVar, cells_of h1c, run_sizeOf hi, h1', storeCells, Addr.add, hs]

theorem store_ok {b q : Nat} {l : List V} {k : S → OR} (h : store s b q l k = .ok v s') : ∃ c, s.heap.get b = .cells c ∧ wrOk c q l = true ∧ k (s.set b (.cells (wr c q l))) = .ok v s' := by
  obtain ⟨c, hc, h⟩ := cellsOf_ok h
  obtain ⟨h1, h⟩ := bc_ok h
  rw [Tr.force_eq, setB_eq] at h
  exact ⟨c, hc, h1, h⟩

theorem to_sta {ty : TypeId} {i : TypeInfo} {x y : Operand} {cX cY : X} (ho : o.op = .store ty x y) (hi : P.info? ty = some i) (ok : Ok w0 ρ s w)
    (hx : OV ρ (cX.ev t) (a x)) (hy : OV ρ (cY.ev t) (a y)) (h : o_sta i.size cX cY call t s = .ok v s') : To P w0 ρ s w (execOp a o) v s' := by
  obtain ⟨b, q, hp, h⟩ := onPtr_ok h
  obtain ⟨l, hl, h⟩ := onAgg_ok h
  obtain ⟨hn, h⟩ := bc_ok h
  obtain ⟨c, hc, h1, h⟩ := store_ok h
  simp only [OR.ok.injEq] at h
  obtain ⟨rfl, rfl⟩ := h
  have hn : l.length = i.size := by simpa [beq_eq, lenN_eq] using hn
  rw [hp] at hx; rw [hl] at hy
  obtain ⟨p, hb, hx⟩ := OV_ptr hx
  obtain ⟨ys, hys, hy⟩ := OV_agg hy
  obtain ⟨arr, e, fz, r⟩ := ok.row hb hc
  obtain ⟨w', arr', hrun, ok', po, _⟩ := Row.stores P q l ys 0 s w c arr r ok hys h1
  refine To.skip ok' po ?_
  have hlen := vals_length hys
  simp [execOp, ho, hx, hy, Instr.storeAt, Instr.sureAddr, storeVar, Value.cells, run_sizeOf hi, hlen, hn, hrun]

/- new blocks -/
theorem cellsV_cases (v : V) : (∃ cs, v = .agg cs ∧ cellsV v = cs) ∨ cellsV v = [v] := by
  cases v <;> first | exact .inl ⟨_, rfl, rfl⟩ | exact .inr rfl
theorem allOne_cells {vx : V} {x : Value} (h : allOne (cellsV vx) = true) (hx : OV ρ vx x) : vals ρ (cellsV vx) = some x.cells.toList := by
  rcases cellsV_cases vx with ⟨cs, rfl, _⟩ | hc
  · obtain ⟨xs, hxs, rfl⟩ := OV_agg hx; simpa [cellsV, Value.cells] using hxs
  · rw [hc] at h ⊢
    have h1 : isOne vx = true := by
      simp only [allOne, bc_eq] at h
      split at h
      · rename_i hc; exact hc
      · exact absurd h (by simp)
    have hx' := hx.get (isOne_ne h1)
    rw [cells_of (oneCell_of h1 hx')]
    exact vals_cons.2 ⟨x, [], rfl, hx', by simp [vals]⟩

theorem new_row {vs : List V} {xs : Array Value} (ok : Ok w0 ρ s w) (h : vals ρ vs = some xs.toList) (h1 : allOne vs = true) (e : TypeId) :
    Ok w0 (ρ.set s.next (w.heap.size, xs.size)) (s.add (.cells (wr .leaf 0 vs))) (w.alloc (.cells xs e)) ∧
    Post ρ s (ρ.set s.next (w.heap.size, xs.size)) (s.add (.cells (wr .leaf 0 vs))) := by
  refine ok.add _ _ _ ?_
  have := cellsR_new h h1 e #[] (0, 0) (fun i _ => by simp)
  simpa using this
theorem rho_set (ρ : Rho) (k : Nat) (p : Nat × Nat) : ρ.set k p k = some p := by simp [Rho.set]

structure ZeroOf (i : TypeInfo) (zs : List V) (z : Value) : Prop where
  zero : i.zero = some z
  vals : ∀ ρ, vals ρ zs = some z.cells.toList
  one : allOne zs = true

theorem to_alloc {ty : TypeId} {i : TypeInfo} {zs : List V} {z : Value} (ho : o.op = .alloc ty) (hi : P.info? ty = some i) (hz : ZeroOf i zs z) (ok : Ok w0 ρ s w)
    (h : o_alloc (wr .leaf 0 zs) call t s = .ok v s') : To P w0 ρ s w (execOp a o) v s' := by
  simp only [o_alloc, news_eq, OR.ok.injEq] at h
  obtain ⟨rfl, rfl⟩ := h
  obtain ⟨ok', po⟩ := new_row ok (hz.vals ρ) hz.one ty
  refine To.new ok' po (x := .pointer (some ⟨w.heap.size, 0, none⟩)) ?_ (by simp [val, rho_set])
  simp [execOp, ho, Instr.alloc, run_zeroValue hi hz.zero, newVar, newRow]

theorem to_box {ty : TypeId} {x : Operand} {cX : X} (ho : o.op = .box ty x) (ok : Ok w0 ρ s w) (hx : OV ρ (cX.ev t) (a x)) (h : o_box cX call t s = .ok v s') :
    To P w0 ρ s w (execOp a o) v s' := by
  obtain ⟨h1, h⟩ := bc_ok h
  simp only [news_eq, OR.ok.injEq] at h
  obtain ⟨rfl, rfl⟩ := h
  obtain ⟨ok', po⟩ := new_row ok (allOne_cells h1 hx) h1 ty
  refine To.new ok' po (x := .pointer (some ⟨w.heap.size, 0, none⟩)) ?_ (by simp [val, rho_set])
  simp [execOp, ho, Instr.box, newVar, newRow]

theorem to_mkmap {ty : TypeId} (ho : o.op = .makeMap ty none) (ok : Ok w0 ρ s w) (h : o_mkmap call t s = .ok v s') : To P w0 ρ s w (execOp a o) v s' := by
  simp only [o_mkmap, news_eq, OR.ok.injEq] at h
  obtain ⟨rfl, rfl⟩ := h
  obtain ⟨ok', po⟩ := ok.add (.map [] 0) (.map #[] 0) 0 ⟨#[], rfl, .nil⟩
  refine To.new ok' po (x := .map (some w.heap.size)) ?_ (by simp [val, rho_set])
  simp [execOp, ho, Instr.makeMap]
end
end Go.Ev
namespace Go.Ev
variable [Sy]

section
variable {P : Program} {w0 : Bs} {w : World} {ρ : Rho} {s s' : S} {v : V} {a : Operand → Value} {o : Oper} {t : Tr} {call : CallT}

theorem onOX_no {d : Nat} {k : Nat → OR} (h : onOX t d .no k = .ok v s') : k d = .ok v s' := h
theorem onOX_so {d : Nat} {x : X} {k : Nat → OR} (h : onOX t d (.so x) k = .ok v s') : ∃ j n, x.ev t = .int j (.ofNat n) ∧ k n = .ok v s' := onInt_ok h

/- the bound of a slice expression, and what the reckoner takes for it -/
inductive Bd (ρ : Rho) (t : Tr) (a : Operand → Value) : OX → Option Operand → Prop where
  | no : Bd ρ t a .no none
  | so {c : X} {x : Operand} : OV ρ (c.ev t) (a x) → Bd ρ t a (.so c) (some x)
theorem Bd.ok {c : OX} {x : Option Operand} {d : Nat} {k : Nat → OR} (hb : Bd ρ t a c x) (h : onOX t d c k = .ok v s') :
    ∃ n, k n = .ok v s' ∧ ((x = none ∧ n = d) ∨ ∃ y j, x = some y ∧ a y = .int j (n : Int)) := by
  cases hb with
  | no => exact ⟨d, h, .inl ⟨rfl, rfl⟩⟩
  | so hx =>
    obtain ⟨j, n, hc, h⟩ := onOX_so h
    rw [hc] at hx
    exact ⟨n, h, .inr ⟨_, j, rfl, OV_int hx⟩⟩

theorem run_bound {j : IntKind} {n y : Nat} (h : n ≤ y) (code : BoundsCode) : (Instr.sliceBound (.int j (n : Int)) y code).run P w = .ok n w := by
  have h1 : (0 : Int) ≤ n ∧ (n : Int) ≤ y := by omega
  simp only [Instr.sliceBound, asIntOf, pure_bind, h1, and_self, if_true]
  rfl
/- the three bounds of a slice expression -/
theorem run_bounds {x y : Option Operand} {l h c n : Nat} (isS : Bool) (hx : (x = none ∧ l = 0) ∨ ∃ z j, x = some z ∧ a z = .int j (l : Int)) (hy : (y = none ∧ h = n) ∨ ∃ z j, y = some z ∧ a z = .int j (h : Int))
    (hlh : l ≤ h) (hhc : h ≤ c) : (Instr.sliceBounds isS n c (x.map a) (y.map a) none).run P w = .ok (l, h, c) w := by
  rcases hx with ⟨rfl, rfl⟩ | ⟨z, j, rfl, hz⟩ <;> rcases hy with ⟨rfl, rfl⟩ | ⟨z', j', rfl, hz'⟩
  · simp [Instr.sliceBounds]
  · simp [Instr.sliceBounds, hz', run_bound hhc]
  · simp [Instr.sliceBounds, hz, run_bound hlh]
  · simp [Instr.sliceBounds, hz, hz', run_bound hlh, run_bound hhc]

theorem to_slcS {ty : TypeId} {x : Operand} {lo up : Option Operand} {cX : X} {cL cH : OX} (ho : o.op = .slice ty x lo up none) (hu : P.underlying ty = some .string) (ok : Ok w0 ρ s w)
    (hx : OV ρ (cX.ev t) (a x)) (hl : Bd ρ t a cL lo) (hh : Bd ρ t a cH up) (h : o_slcS cX cL cH call t s = .ok v s') : To P w0 ρ s w (execOp a o) v s' := by
  obtain ⟨m, hm, h⟩ := onStr_ok h
  rw [hm] at hx
  obtain ⟨sm, hx⟩ := OV_str hx
  obtain ⟨i, h, hi'⟩ := hl.ok h
  obtain ⟨j, h, hj'⟩ := hh.ok h
  obtain ⟨h1, h⟩ := bc_ok h
  obtain ⟨h2, h⟩ := bc_ok h
  simp only [OR.ok.injEq] at h
  obtain ⟨rfl, rfl⟩ := h
  simp only [ble_eq, decide_eq_true_eq, lenN_eq] at h1 h2
  rw [lenN_eq] at hj'
  have hb := run_bounds (P := P) (w := w) (c := (bytesOf (chs m)).size) (n := (bytesOf (chs m)).size) false hi' (by rw [bytesOf_size, chs_length]; exact hj') h1 (by rw [bytesOf_size, chs_length]; exact h2)
  refine To.got ok (x := .string ((bytesOf (chs m)).extract i j)) (by simp [execOp, ho, hx, Instr.sliceAt, Instr.slice, run_underlying hu, hb]) ?_
  have hext : (bytesOf (chs m)).extract i j = bytesOf (chs (takeL (j - i) (dropL i m))) := by
    apply ByteArray.ext
    apply Array.ext'
    rw [takeL_eq, dropL_eq, bytesOf_list, chs_take, chs_drop]
    simp [bytesOf, List.extract_eq_take_drop, List.map_take, List.map_drop]
  have hsm : okX (takeL (j - i) (dropL i m)) = true := by rw [takeL_eq, dropL_eq]; exact okX_take (okX_drop sm _) _
  show val ρ (.str (takeL (j - i) (dropL i m))) = _
  simp only [val, hsm, if_true, hext]

theorem to_slc {ty e : TypeId} {i : TypeInfo} {x : Operand} {lo up : Option Operand} {cX : X} {cL cH : OX} (ho : o.op = .slice ty x lo up none) (hu : P.underlying ty = some (.slice e)) (hi : P.info? e = some i) (ok : Ok w0 ρ s w)
    (hx : OV ρ (cX.ev t) (a x)) (hl : Bd ρ t a cL lo) (hh : Bd ρ t a cH up) (h : o_slc i.size cX cL cH call t s = .ok v s') : To P w0 ρ s w (execOp a o) v s' := by
  simp only [o_slc] at h
  split at h
  · rename_i b q l c hv
    rw [hv] at hx
    obtain ⟨hlc, p, hp, hx⟩ := OV_slice hx
    obtain ⟨m, h, hm⟩ := hl.ok h
    obtain ⟨n, h, hn⟩ := hh.ok h
    by_cases h0 : m = c
    · rw [show Nat.beq m c = true by rw [beq_eq]; exact decide_eq_true h0, bc_true] at h
      obtain ⟨h1, h⟩ := bc_ok h
      obtain ⟨h2, h⟩ := bc_ok h
      simp only [OR.ok.injEq] at h
      obtain ⟨rfl, rfl⟩ := h
      simp only [beq_eq, decide_eq_true_eq] at h1 h2
      subst h0
      subst h1
      have hb := run_bounds (P := P) (w := w) (c := n) true hm hn (Nat.le_refl _) (Nat.le_refl _)
      refine To.got ok (x := .slice (some ⟨p.1, q, none⟩) 0 0) ?_ (by simp [val, hp])
      simp [execOp, ho, hx, Instr.sliceAt, Instr.slice, run_underlying hu, hb, run_sizeOf hi]
    rw [show Nat.beq m c = false by rw [beq_eq]; exact decide_eq_false h0, bc_false] at h
    simp only [slice3] at h
    obtain ⟨h1, h⟩ := bc_ok h
    obtain ⟨h2, h⟩ := bc_ok h
    simp only [nat_eq, OR.ok.injEq] at h
    obtain ⟨rfl, rfl⟩ := h
    simp only [ble_eq, decide_eq_true_eq] at h1 h2
    have h0 : c ≠ m := fun hh => h0 hh.symm
    have hb := run_bounds (P := P) (w := w) (c := c) true hm hn h1 (by omega)
    refine To.got ok (x := .slice (some ⟨p.1, q + m * i.size, none⟩) (n - m) (c - m)) ?_ ?_
    · simp [execOp, ho, hx, Instr.sliceAt, Instr.slice, run_underlying hu, hb, run_sizeOf hi, h0, add_none]
    · have : n.sub m ≤ c.sub m := by show n - m ≤ c - m; omega
      simp only [val, this, if_true, hp, Option.map_some]
      rfl
  · rename_i e' b q l hv
    rw [hv] at hx
    obtain ⟨p, hp, ⟨hle, he0, hd1, hd2⟩, hx⟩ := OV_fsl hx
    obtain ⟨m, h, hm⟩ := hl.ok h
    obtain ⟨n, h, hn⟩ := hh.ok h
    obtain ⟨hee, h⟩ := bc_ok h
    by_cases h00 : m = l
    · rw [show Nat.beq m l = true by rw [beq_eq]; exact decide_eq_true h00, bc_true] at h
      obtain ⟨h1, h⟩ := bc_ok h
      simp only [OR.ok.injEq] at h
      obtain ⟨rfl, rfl⟩ := h
      simp only [beq_eq, decide_eq_true_eq] at h1 hee
      subst h00
      subst h1
      subst hee
      have hcap : n ≤ (p.2 - q) / i.size := by
        rw [Nat.le_div_iff_mul_le he0]; omega
      have hb := run_bounds (P := P) (w := w) (c := (p.2 - q) / i.size) true hm hn (Nat.le_refl _) hcap
      refine To.got ok (x := .slice (some ⟨p.1, if (p.2 - q) / i.size = n then q else q + n * i.size, none⟩) 0 ((p.2 - q) / i.size - n)) ?_ ?_
      · generalize (p.2 - q) / i.size = cp at hb hx hcap ⊢
        by_cases hcc : cp = n
        · subst hcc
          simp [execOp, ho, hx, Instr.sliceAt, Instr.slice, run_underlying hu, hb, run_sizeOf hi]
        · simp [execOp, ho, hx, Instr.sliceAt, Instr.slice, run_underlying hu, hb, run_sizeOf hi, hcc, add_none]
      · simp only [val, hp, Option.bind_some]
        rw [if_pos ⟨hle, he0⟩]
    rw [show Nat.beq m l = false by rw [beq_eq]; exact decide_eq_false h00, bc_false] at h
    have h0 := h00
    simp only [slice4] at h
    obtain ⟨h1, h⟩ := bc_ok h
    obtain ⟨h2, h⟩ := bc_ok h
    simp only [nat_eq, OR.ok.injEq] at h
    obtain ⟨rfl, rfl⟩ := h
    simp only [ble_eq, beq_eq, decide_eq_true_eq] at h1 h2 hee
    have hcap : l ≤ (p.2 - q) / e' := by
      rw [Nat.le_div_iff_mul_le he0]; omega
    have hb := run_bounds (P := P) (w := w) (c := (p.2 - q) / e') true hm hn h1 (by omega)
    have hne : (p.2 - q) / e' ≠ m := by omega
    refine To.got ok (x := .slice (some ⟨p.1, q + m * i.size, none⟩) (n - m) ((p.2 - q) / e' - m)) ?_ ?_
    · simp [execOp, ho, hx, Instr.sliceAt, Instr.slice, run_underlying hu, hb, run_sizeOf hi, hne, add_none]
    · have e1 : q.add (m.mul i.size) = q + m * i.size := rfl
      have e2 : n.sub m = n - m := rfl
      have hmn : m * i.size + (n - m) * i.size ≤ l * i.size := by
        rw [← Nat.add_mul]; exact Nat.mul_le_mul_right _ (by omega)
      rw [hee] at *
      simp only [val, hp, Option.bind_some, e1, e2]
      rw [if_pos ⟨by omega, he0, hd1, Nat.dvd_add hd2 (Nat.dvd_mul_left _ _)⟩]
      congr 2
      obtain ⟨u, hu'⟩ := hd1
      obtain ⟨z, hz⟩ := hd2
      rw [hu', hz]
      have k1 : e' * u - (e' * z + m * e') = e' * (u - z - m) := by
        rw [Nat.mul_sub, Nat.mul_sub, Nat.mul_comm m e']; omega
      have k2 : e' * u - e' * z = e' * (u - z) := by rw [Nat.mul_sub]
      rw [k1, k2, Nat.mul_div_cancel_left _ he0, Nat.mul_div_cancel_left _ he0]
  · rename_i e' b q l hv
    rw [hv] at hx
    obtain ⟨p, hp, ⟨hle, he0⟩, hx⟩ := OV_efs hx
    obtain ⟨m, h, hm⟩ := hl.ok h
    obtain ⟨n, h, hn⟩ := hh.ok h
    obtain ⟨h1, h⟩ := bc_ok h
    obtain ⟨h2, h⟩ := bc_ok h
    simp only [OR.ok.injEq] at h
    obtain ⟨rfl, rfl⟩ := h
    simp only [beq_eq, decide_eq_true_eq] at h1 h2
    subst h1 h2
    have hb := run_bounds (P := P) (w := w) (c := (p.2 - q) / e' - l) true hm hn (Nat.le_refl _) (Nat.zero_le _)
    refine To.got ok (x := .slice (some ⟨p.1, if (p.2 - q) / e' = l then q else q + l * e', none⟩) 0 ((p.2 - q) / e' - l)) ?_ ?_
    · simp [execOp, ho, hx, Instr.sliceAt, Instr.slice, run_underlying hu, hb, run_sizeOf hi, Addr.add]
    · simp only [val, hp, Option.bind_some]
      rw [if_pos ⟨hle, he0⟩]
  · rename_i hv
    rw [hv] at hx
    have hx := OV_nilslice hx
    obtain ⟨m, h, hm⟩ := hl.ok h
    obtain ⟨n, h, hn⟩ := hh.ok h
    obtain ⟨h1, h⟩ := bc_ok h
    obtain ⟨h2, h⟩ := bc_ok h
    simp only [OR.ok.injEq] at h
    obtain ⟨rfl, rfl⟩ := h
    simp only [beq_eq, decide_eq_true_eq] at h1 h2
    subst h1 h2
    have hb := run_bounds (P := P) (w := w) (c := 0) true hm hn (Nat.le_refl _) (Nat.le_refl _)
    exact To.got ok (x := .slice none 0 0) (by simp [execOp, ho, hx, Instr.sliceAt, Instr.slice, run_underlying hu, hb, run_sizeOf hi]) rfl
  · exact absurd h (by simp)

theorem run_bounds3 {x y : Option Operand} {mxo : Operand} {jm : IntKind} {l h m c n : Nat} (isS : Bool) (hx : (x = none ∧ l = 0) ∨ ∃ z j, x = some z ∧ a z = .int j (l : Int)) (hy : ∃ z j, y = some z ∧ a z = .int j (h : Int)) (hm : a mxo = .int jm (m : Int))
    (hlh : l ≤ h) (hhm : h ≤ m) (hmc : m ≤ c) : (Instr.sliceBounds isS n c (x.map a) (y.map a) ((some mxo).map a)).run P w = .ok (l, h, m) w := by
  obtain ⟨z', j', rfl, hz'⟩ := hy
  rcases hx with ⟨rfl, rfl⟩ | ⟨z, j, rfl, hz⟩
  · simp [Instr.sliceBounds, hz', hm, run_bound hhm, run_bound hmc]
  · simp [Instr.sliceBounds, hz', hz, hm, run_bound hlh, run_bound hhm, run_bound hmc]
theorem slice5_ok {e b o x h m : Nat} (hh : slice5 e b o x h m s = .ok v s') : x ≤ h ∧ h ≤ m ∧ s = s' ∧ v = .slice b (if m = x then o else o + x * e) (h - x) (m - x) := by
  obtain ⟨h1, hh⟩ := bc_ok hh
  obtain ⟨h2, hh⟩ := bc_ok hh
  simp only [ble_eq, decide_eq_true_eq] at h1 h2
  by_cases hxm : x = m
  · subst hxm
    rw [show Nat.beq x x = true by rw [beq_eq]; simp, bc_true] at hh
    simp only [OR.ok.injEq] at hh
    obtain ⟨e1, e2⟩ := hh
    have e3 : h = x := by omega
    subst e3
    exact ⟨h1, h2, e2, by simp [← e1]⟩
  · rw [show Nat.beq x m = false by rw [beq_eq]; simp [hxm], bc_false] at hh
    simp only [nat_eq, OR.ok.injEq] at hh
    exact ⟨h1, h2, hh.2, by rw [if_neg (fun h => hxm h.symm), ← hh.1]; rfl⟩
theorem to_slc3 {ty e : TypeId} {i : TypeInfo} {x up mx : Operand} {lo : Option Operand} {cX cM : X} {cL cH : OX} (ho : o.op = .slice ty x lo (some up) (some mx)) (hu : P.underlying ty = some (.slice e)) (hi : P.info? e = some i) (ok : Ok w0 ρ s w)
    (hx : OV ρ (cX.ev t) (a x)) (hl : Bd ρ t a cL lo) (hh : Bd ρ t a cH (some up)) (hmx : OV ρ (cM.ev t) (a mx)) (h : o_slc3 i.size cX cL cH cM call t s = .ok v s') : To P w0 ρ s w (execOp a o) v s' := by
  obtain ⟨jm, m, hm, h⟩ := onInt_ok h
  rw [hm] at hmx
  have hmx := OV_int hmx
  obtain ⟨l, h, hlv⟩ := hl.ok h
  obtain ⟨k, h, hkv⟩ := hh.ok h
  have hkv : ∃ z j, some up = some z ∧ a z = .int j (k : Int) := by
    rcases hkv with ⟨h0, _⟩ | h0
    · exact absurd h0 (by simp)
    · exact h0
  have go : ∀ (b q len cap : Nat) (p : Nat × Nat), ρ b = some p → a x = .slice (some ⟨p.1, q, none⟩) len cap → m ≤ cap → slice5 i.size b q l k m s = .ok v s' → To P w0 ρ s w (execOp a o) v s' := by
    intro b q len cap p hp hxv hmc h5
    obtain ⟨h1, h2, rfl, rfl⟩ := slice5_ok h5
    have hb := run_bounds3 (P := P) (w := w) (n := len) true hlv hkv hmx h1 h2 hmc
    refine To.got ok (x := .slice (some ⟨p.1, if m = l then q else q + l * i.size, none⟩) (k - l) (m - l)) ?_ ?_
    · by_cases hml : m = l
      · subst hml
        simp only [Option.map_some] at hb
        simp [execOp, ho, hxv, Instr.sliceAt, Instr.slice, run_underlying hu, hb, run_sizeOf hi]
      · simp only [Option.map_some] at hb
        simp [execOp, ho, hxv, Instr.sliceAt, Instr.slice, run_underlying hu, hb, run_sizeOf hi, hml, add_none]
    · have : k - l ≤ m - l := by omega
      simp only [val, this, if_true, hp, Option.map_some]
  generalize cX.ev t = vx at h hx
  cases vx <;> try (exfalso; exact OR.noConfusion (show OR.fail 36 = OR.ok v s' from h))
  case slice b q len c =>
    obtain ⟨h1, h⟩ := bc_ok h
    obtain ⟨hlc, p, hp, hxv⟩ := OV_slice hx
    exact go b q len c p hp hxv (by simpa [ble_eq] using h1) h
  case fsl e' b q len =>
    obtain ⟨h1, h⟩ := bc_ok h
    obtain ⟨p, hp, ⟨hle, he0, _, _⟩, hxv⟩ := OV_fsl hx
    have h1 : m ≤ len := by simpa [ble_eq] using h1
    have hcap : len ≤ (p.2 - q) / e' := by rw [Nat.le_div_iff_mul_le he0]; omega
    exact go b q len _ p hp hxv (by omega) h
  case nilslice =>
    have hxv := OV_nilslice hx
    obtain ⟨h1, h⟩ := bc_ok h
    obtain ⟨h2, h⟩ := bc_ok h
    obtain ⟨h3, h⟩ := bc_ok h
    simp only [OR.ok.injEq] at h
    obtain ⟨rfl, rfl⟩ := h
    simp only [beq_eq, decide_eq_true_eq] at h1 h2 h3
    subst h1 h2 h3
    have hb := run_bounds3 (P := P) (w := w) (n := 0) (c := 0) true hlv hkv hmx (Nat.le_refl _) (Nat.le_refl _) (Nat.le_refl _)
    simp only [Option.map_some] at hb
    exact To.got ok (x := .slice none 0 0) (by simp [execOp, ho, hxv, Instr.sliceAt, Instr.slice, run_underlying hu, hb, run_sizeOf hi]) rfl
theorem to_slca {ty e : TypeId} {n : Nat} {i : TypeInfo} {x : Operand} {lo up : Option Operand} {cX : X} {cL cH : OX} (ho : o.op = .slice ty x lo up none) (hu : P.underlying ty = some (.array n e)) (hi : P.info? e = some i) (ok : Ok w0 ρ s w)
    (hx : OV ρ (cX.ev t) (a x)) (hl : Bd ρ t a cL lo) (hh : Bd ρ t a cH up) (h : o_slca i.size n cX cL cH call t s = .ok v s') : To P w0 ρ s w (execOp a o) v s' := by
  obtain ⟨b, q, hv, h⟩ := onPtr_ok h
  rw [hv] at hx
  obtain ⟨p, hp, hx⟩ := OV_ptr hx
  obtain ⟨m, h, hm⟩ := hl.ok h
  obtain ⟨k, h, hn⟩ := hh.ok h
  obtain ⟨h0, h⟩ := bc_ok' h
  simp only [slice3] at h
  obtain ⟨h1, h⟩ := bc_ok h
  obtain ⟨h2, h⟩ := bc_ok h
  simp only [nat_eq, OR.ok.injEq] at h
  obtain ⟨rfl, rfl⟩ := h
  simp only [ble_eq, decide_eq_true_eq] at h1 h2
  have h0 : n ≠ m := by intro hh; subst hh; simp at h0
  have hb := run_bounds (P := P) (w := w) (c := n) false hm hn h1 h2
  refine To.got ok (x := .slice (some ⟨p.1, q + m * i.size, none⟩) (k - m) (n - m)) ?_ ?_
  · simp [execOp, ho, hx, Instr.sliceAt, run_underlying hu, hb, run_sizeOf hi, h0, add_none, Instr.sureAddr]
  · have : k.sub m ≤ n.sub m := by show k - m ≤ n - m; omega
    simp only [val, this, if_true, hp, Option.map_some]
    rfl

theorem to_fa {ty : TypeId} {fs : Array Field} {f : Field} {n : Nat} {i : TypeInfo} {x : Operand} {cX : X} (ho : o.op = .fieldAddr ty x n) (hu : P.underlying ty = some (.struct fs)) (hf : fs[n]? = some f)
    (hi : P.info? f.type = some i) (h0 : i.size ≠ 0) (ok : Ok w0 ρ s w) (hx : OV ρ (cX.ev t) (a x)) (h : o_fa f.offset cX call t s = .ok v s') : To P w0 ρ s w (execOp a o) v s' := by
  obtain ⟨b, q, hv, h⟩ := onPtr_ok h
  rw [hv] at hx
  obtain ⟨p, hp, hx⟩ := OV_ptr hx
  simp only [nat_eq, OR.ok.injEq] at h
  obtain ⟨rfl, rfl⟩ := h
  refine To.got ok (x := .pointer (some ⟨p.1, q + f.offset, none⟩)) ?_ (by simp [val, hp])
  simp [execOp, ho, hx, Instr.fieldAt, run_underlying hu, hf, Instr.sureAddr, fieldPlace, run_sizeOf hi, h0, add_none]

theorem to_fld {ty : TypeId} {fs : Array Field} {f : Field} {n : Nat} {d : TypeDesc} {x : Operand} {cX : X} (ho : o.op = .field ty x n) (hu : P.underlying ty = some (.struct fs)) (hf : fs[n]? = some f)
    (hd : P.underlying f.type = some d) (hg : aggD d = false) (ok : Ok w0 ρ s w) (hx : OV ρ (cX.ev t) (a x)) (h : o_fld f.offset cX call t s = .ok v s') : To P w0 ρ s w (execOp a o) v s' := by
  obtain ⟨l, hv, h⟩ := onAgg_ok h
  rw [hv] at hx
  obtain ⟨xs, hxs, hx⟩ := OV_agg hx
  obtain ⟨y, hy, h⟩ := onSome_ok h
  simp only [OR.ok.injEq] at h
  obtain ⟨rfl, rfl⟩ := h
  rw [nth_eq] at hy
  obtain ⟨z, hz, hvz⟩ := vals_get hxs hy
  exact To.got ok (x := z) (by simp [execOp, ho, hx, Instr.field, run_underlying hu, hf, asAgg, part, run_isAgg hd, hg, hz]) hvz
theorem to_flda {ty : TypeId} {fs : Array Field} {f : Field} {n : Nat} {d : TypeDesc} {i : TypeInfo} {x : Operand} {cX : X} (ho : o.op = .field ty x n) (hu : P.underlying ty = some (.struct fs)) (hf : fs[n]? = some f)
    (hd : P.underlying f.type = some d) (hg : aggD d = true) (hi : P.info? f.type = some i) (ok : Ok w0 ρ s w) (hx : OV ρ (cX.ev t) (a x)) (h : o_flda f.offset i.size cX call t s = .ok v s') : To P w0 ρ s w (execOp a o) v s' := by
  obtain ⟨l, hv, h⟩ := onAgg_ok h
  rw [hv] at hx
  obtain ⟨xs, hxs, hx⟩ := OV_agg hx
  simp only [OR.ok.injEq] at h
  obtain ⟨rfl, rfl⟩ := h
  refine To.got ok (x := .agg (xs.toArray.extract f.offset (f.offset + i.size))) (by simp [execOp, ho, hx, Instr.field, run_underlying hu, hf, asAgg, part, run_isAgg hd, hg, run_sizeOf hi]) ?_
  have h1 := vals_take (n := i.size) (vals_drop (n := f.offset) hxs)
  simp only [val, takeL_eq, dropL_eq, h1]
  congr 2
  apply Array.ext'
  simp [List.extract_eq_take_drop]

theorem to_ia {ty e : TypeId} {i : TypeInfo} {x y : Operand} {cX cY : X} (ho : o.op = .indexAddr ty x y) (hu : P.underlying ty = some (.slice e)) (hi : P.info? e = some i) (ok : Ok w0 ρ s w)
    (hx : OV ρ (cX.ev t) (a x)) (hy : OV ρ (cY.ev t) (a y)) (h : o_ia i.size cX cY call t s = .ok v s') : To P w0 ρ s w (execOp a o) v s' := by
  obtain ⟨j, n, hn, h⟩ := onInt_ok h
  rw [hn] at hy
  have hy := OV_int hy
  split at h
  · rename_i b q l c hv
    rw [hv] at hx
    obtain ⟨hlc, p, hp, hx⟩ := OV_slice hx
    obtain ⟨h1, h⟩ := bc_ok h
    simp only [nat_eq, OR.ok.injEq] at h
    obtain ⟨rfl, rfl⟩ := h
    simp only [blt_eq', decide_eq_true_eq] at h1
    have h2 : ¬ l ≤ n := by omega
    refine To.got ok (x := .pointer (some ⟨p.1, q + n * i.size, none⟩)) ?_ (by simp [val, hp])
    simp [execOp, ho, hx, hy, Instr.indexAt, run_underlying hu, asIntOf, run_sizeOf hi, h2, add_none]
  · rename_i e' b q l hv
    rw [hv] at hx
    obtain ⟨p, hp, _, hx⟩ := OV_fsl hx
    obtain ⟨h1, h⟩ := bc_ok h
    simp only [nat_eq, OR.ok.injEq] at h
    obtain ⟨rfl, rfl⟩ := h
    simp only [blt_eq', decide_eq_true_eq] at h1
    have h2 : ¬ l ≤ n := by omega
    refine To.got ok (x := .pointer (some ⟨p.1, q + n * i.size, none⟩)) ?_ (by simp [val, hp])
    simp [execOp, ho, hx, hy, Instr.indexAt, run_underlying hu, asIntOf, run_sizeOf hi, h2, add_none]
  · exact absurd h (by simp)
theorem to_iaa {ty e : TypeId} {m : Nat} {i : TypeInfo} {x y : Operand} {cX cY : X} (ho : o.op = .indexAddr ty x y) (hu : P.underlying ty = some (.array m e)) (hi : P.info? e = some i) (ok : Ok w0 ρ s w)
    (hx : OV ρ (cX.ev t) (a x)) (hy : OV ρ (cY.ev t) (a y)) (h : o_iaa i.size m cX cY call t s = .ok v s') : To P w0 ρ s w (execOp a o) v s' := by
  obtain ⟨j, n, hn, h⟩ := onInt_ok h
  rw [hn] at hy
  have hy := OV_int hy
  obtain ⟨b, q, hv, h⟩ := onPtr_ok h
  rw [hv] at hx
  obtain ⟨p, hp, hx⟩ := OV_ptr hx
  obtain ⟨h1, h⟩ := bc_ok h
  simp only [nat_eq, OR.ok.injEq] at h
  obtain ⟨rfl, rfl⟩ := h
  simp only [blt_eq', decide_eq_true_eq] at h1
  have h2 : ¬ m ≤ n := by omega
  refine To.got ok (x := .pointer (some ⟨p.1, q + n * i.size, none⟩)) ?_ (by simp [val, hp])
  simp [execOp, ho, hx, hy, Instr.indexAt, run_underlying hu, asIntOf, run_sizeOf hi, h2, add_none, Instr.sureAddr]

theorem bytesOf_get {l : List Nat} {n c : Nat} (h : l[n]? = some c) : (bytesOf l)[n]? = some (UInt8.ofNat c) := by
  have hlt : n < (bytesOf l).size := by
    rw [bytesOf_size]
    rcases Nat.lt_or_ge n l.length with h' | h'
    · exact h'
    · simp [List.getElem?_eq_none h'] at h
  rw [ByteArray.getElem?_lt' _ _ hlt]
  congr 1
  have h2 : (bytesOf l).data.toList[n]? = some (UInt8.ofNat c) := by rw [bytesOf_list]; simp [h]
  have h3 : (bytesOf l).data[n]? = some (UInt8.ofNat c) := by simpa using h2
  have h4 := Array.getElem?_eq_some_iff.1 h3
  exact h4.2
theorem to_ixs {ty : TypeId} {x y : Operand} {cX cY : X} (ho : o.op = .index ty x y) (hu : P.underlying ty = some .string) (ok : Ok w0 ρ s w)
    (hx : OV ρ (cX.ev t) (a x)) (hy : OV ρ (cY.ev t) (a y)) (h : o_ixs cX cY call t s = .ok v s') : To P w0 ρ s w (execOp a o) v s' := by
  obtain ⟨j, n, hn, h⟩ := onInt_ok h
  rw [hn] at hy
  have hy := OV_int hy
  obtain ⟨l, hv, h⟩ := onStr_ok h
  rw [hv] at hx
  obtain ⟨sm, hx⟩ := OV_str hx
  obtain ⟨c, hc, h⟩ := onSome_ok h
  simp only [OR.ok.injEq] at h
  obtain ⟨rfl, rfl⟩ := h
  rw [nth_eq] at hc
  have ho8 := okX_get sm hc
  have h8 := okC_ch ho8
  have hg := bytesOf_get (chs_get hc)
  refine To.got ok (x := .int .u8 (UInt8.ofNat (ch c)).toNat) ?_ ?_
  · simp [execOp, ho, hx, hy, Instr.index, run_underlying hu, asIntOf, hg]
  · rw [chV_val ho8, UInt8.toNat_ofNat']
    congr 2
    omega
theorem to_ixa {ty e : TypeId} {m : Nat} {i : TypeInfo} {d : TypeDesc} {x y : Operand} {cX cY : X} (ho : o.op = .index ty x y) (hu : P.underlying ty = some (.array m e)) (hi : P.info? e = some i) (h1' : i.size = 1)
    (hd : P.underlying e = some d) (hg : aggD d = false) (ok : Ok w0 ρ s w)
    (hx : OV ρ (cX.ev t) (a x)) (hy : OV ρ (cY.ev t) (a y)) (h : o_ixa m cX cY call t s = .ok v s') : To P w0 ρ s w (execOp a o) v s' := by
  obtain ⟨j, n, hn, h⟩ := onInt_ok h
  rw [hn] at hy
  have hy := OV_int hy
  obtain ⟨l, hv, h⟩ := onAgg_ok h
  rw [hv] at hx
  obtain ⟨xs, hxs, hx⟩ := OV_agg hx
  obtain ⟨h1, h⟩ := bc_ok h
  obtain ⟨c, hc, h⟩ := onSome_ok h
  simp only [OR.ok.injEq] at h
  obtain ⟨rfl, rfl⟩ := h
  simp only [blt_eq', decide_eq_true_eq] at h1
  have h2 : ¬ m ≤ n := by omega
  rw [nth_eq] at hc
  obtain ⟨z, hz, hvz⟩ := vals_get hxs hc
  exact To.got ok (x := z) (by simp [execOp, ho, hx, hy, Instr.index, run_underlying hu, asIntOf, run_sizeOf hi, h1', h2, part, run_isAgg hd, hg, hz]) hvz
theorem to_ixaa {ty e : TypeId} {m : Nat} {i : TypeInfo} {d : TypeDesc} {x y : Operand} {cX cY : X} (ho : o.op = .index ty x y) (hu : P.underlying ty = some (.array m e)) (hi : P.info? e = some i)
    (hd : P.underlying e = some d) (hg : aggD d = true) (ok : Ok w0 ρ s w)
    (hx : OV ρ (cX.ev t) (a x)) (hy : OV ρ (cY.ev t) (a y)) (h : o_ixaa i.size m cX cY call t s = .ok v s') : To P w0 ρ s w (execOp a o) v s' := by
  obtain ⟨j, n, hn, h⟩ := onInt_ok h
  rw [hn] at hy
  have hy := OV_int hy
  obtain ⟨l, hv, h⟩ := onAgg_ok h
  rw [hv] at hx
  obtain ⟨xs, hxs, hx⟩ := OV_agg hx
  obtain ⟨h1, h⟩ := bc_ok h
  simp only [OR.ok.injEq] at h
  obtain ⟨rfl, rfl⟩ := h
  simp only [blt_eq', decide_eq_true_eq] at h1
  have h2 : ¬ m ≤ n := by omega
  refine To.got ok (x := .agg (xs.toArray.extract (n * i.size) (n * i.size + i.size))) (by simp [execOp, ho, hx, hy, Instr.index, run_underlying hu, asIntOf, run_sizeOf hi, h2, part, run_isAgg hd, hg]) ?_
  have h1 := vals_take (n := i.size) (vals_drop (n := n * i.size) hxs)
  have e1 : n.mul i.size = n * i.size := rfl
  simp only [val, takeL_eq, dropL_eq, e1, h1]
  congr 2
  apply Array.ext'
  simp [List.extract_eq_take_drop]
end
end Go.Ev
namespace Go.Ev
variable [Sy]

/- what a list becomes when another is written into it -/
def setXs : Nat → List Value → List Value → List Value
  | _, [], l => l
  | o, v :: vs, l => setXs (o + 1) vs (l.set o v)
theorem setN_eq (v : V) : ∀ (n : Nat) (l : List V), setN v n l = l.set n v
  | _, [] => by simp [setN]
  | 0, x :: l => by simp [setN]
  | n + 1, x :: l => by simp [setN, setN_eq v n l]
theorem vals_set {ρ : Rho} {v : V} {x : Value} (hv : val ρ v = some x) : ∀ {l : List V} {xs : List Value} (n : Nat), vals ρ l = some xs → vals ρ (l.set n v) = some (xs.set n x)
  | [], xs, n, h => by rw [vals_nil] at h; subst h; simp [vals]
  | u :: l, xs, 0, h => by
    obtain ⟨y, ys, rfl, hy, hys⟩ := vals_cons.1 h
    exact vals_cons.2 ⟨x, ys, rfl, hv, hys⟩
  | u :: l, xs, n + 1, h => by
    obtain ⟨y, ys, rfl, hy, hys⟩ := vals_cons.1 h
    exact vals_cons.2 ⟨y, ys.set n x, rfl, hy, vals_set hv n hys⟩
theorem vals_setLs {ρ : Rho} : ∀ {vs : List V} {xs : List Value} {l : List V} {ys : List Value} (o : Nat), vals ρ vs = some xs → vals ρ l = some ys →
    vals ρ (setLs o vs l) = some (setXs o xs ys) ∧ (setLs o vs l).length = l.length
  | [], xs, l, ys, o, h, hl => by rw [vals_nil] at h; subst h; exact ⟨hl, rfl⟩
  | v :: vs, xs, l, ys, o, h, hl => by
    obtain ⟨x, xs', rfl, hx, hxs⟩ := vals_cons.1 h
    obtain ⟨h1, h2⟩ := vals_setLs (o + 1) hxs (vals_set hx o hl)
    refine ⟨?_, ?_⟩
    · show vals ρ (setLs (o + 1) vs (setN v o l)) = _
      rw [setN_eq]; exact h1
    · show (setLs (o + 1) vs (setN v o l)).length = _
      rw [setN_eq, h2]; simp
theorem fold_set : ∀ (xs : List Value) (o k : Nat) (cells : Array Value),
    ((xs.zipIdx k).foldl (fun cs (x : Value × Nat) => cs.setIfInBounds (o + x.2) x.1) cells).toList = setXs (o + k) xs cells.toList
  | [], o, k, cells => rfl
  | x :: xs, o, k, cells => by
    simp only [List.zipIdx_cons, List.foldl_cons, setXs]
    rw [fold_set xs o (k + 1) _]
    simp [Nat.add_assoc]

inductive Parts (ρ : Rho) (t : Tr) (a : Operand → Value) (place : Nat → Option (Nat × Nat)) (n : Nat) : List Pa → List (Nat × Operand) → Prop where
  | nil : Parts ρ t a place n [] []
  | cons {p : Pa} {ps : List Pa} {i : Nat} {x : Operand} {xs : List (Nat × Operand)} : place i = some (p.off, p.size) → p.off + p.size ≤ n → OV ρ (p.x.ev t) (a x) → Parts ρ t a place n ps xs →
      Parts ρ t a place n (p :: ps) ((i, x) :: xs)

theorem fill_ok {ρ : Rho} {t : Tr} {a : Operand → Value} {place : Nat → Option (Nat × Nat)} {n : Nat} : ∀ {ps : List Pa} {xs : List (Nat × Operand)} {l l' : List V} {cells : Array Value},
    Parts ρ t a place n ps xs → buildL t ps l = some l' → vals ρ l = some cells.toList → l.length = n →
    ∃ cells', Instr.fill place cells (xs.map fun y => (y.1, a y.2)) = some cells' ∧ vals ρ l' = some cells'.toList ∧ l'.length = n
  | [], [], l, l', cells, .nil, h, hl, hn => by
    simp only [buildL, Option.some.injEq] at h
    subst h
    exact ⟨cells, rfl, hl, hn⟩
  | p :: ps, (i, x) :: xs, l, l', cells, .cons hp hb hx hr, h, hl, hn => by
    simp only [buildL, bc_eq] at h
    split at h
    · rename_i h1
      split at h
      · rename_i h2
        have hxc := allOne_cells h2 hx
        have hsz : (a x).cells.size = p.size := by
          have := vals_length hxc
          simp only [beq_eq, decide_eq_true_eq, lenN_eq] at h1
          rw [← h1, ← this]; simp
        obtain ⟨h3, h4⟩ := vals_setLs p.off hxc hl
        have hlen : cells.size = n := by
          have := vals_length hl
          rw [← hn, ← this]; simp
        have hfold : ((a x).cells.zipIdx.foldl (fun cs (c, j) => cs.setIfInBounds (p.off + j) c) cells).toList = setXs p.off (a x).cells.toList cells.toList := by
          rw [← Array.foldl_toList, Array.toList_zipIdx]
          exact fold_set _ p.off 0 cells
        rw [← hfold] at h3
        obtain ⟨cells', hf, hv, hl'⟩ := fill_ok hr h h3 (by rw [h4]; exact hn)
        refine ⟨cells', ?_, hv, hl'⟩
        have hnot : ((a x).cells.size ≠ p.size || p.off + (a x).cells.size > cells.size) = false := by
          rw [hsz, hlen]; simp; omega
        simp only [List.map_cons, Instr.fill, hp]
        simp only [ne_eq, decide_not] at hnot ⊢
        rw [if_neg (by simpa using hnot)]
        exact hf
      · exact absurd h (by simp)
    · exact absurd h (by simp)

section
variable {P : Program} {w0 : Bs} {w : World} {ρ : Rho} {s s' : S} {v : V} {a : Operand → Value} {o : Oper} {t : Tr} {call : CallT}

theorem run_places (P : Program) (w : World) (inf : Field → TypeInfo) : ∀ (fs : List Field), (∀ f ∈ fs, P.info? f.type = some (inf f)) →
    (fs.mapM fun f => (do pure (f.offset, ← sizeOf f.type) : Sem (Nat × Nat))).run P w = .ok (fs.map fun f => (f.offset, (inf f).size)) w
  | [], _ => by simp
  | f :: fs, h => by
    have h1 := h f (List.mem_cons_self ..)
    have h2 := run_places P w inf fs (fun g hg => h g (List.mem_cons_of_mem _ hg))
    simp only [List.mapM_cons, Sem.run_bind, run_sizeOf h1, Result.andThen_ok, Sem.run_pure, h2, List.map_cons]
theorem run_places' (P : Program) (w : World) (inf : Field → TypeInfo) (fs : Array Field) (h : ∀ f ∈ fs.toList, P.info? f.type = some (inf f)) :
    (fs.mapM fun f => (do pure (f.offset, ← sizeOf f.type) : Sem (Nat × Nat))).run P w = .ok (fs.map fun f => (f.offset, (inf f).size)) w := by
  rw [Array.mapM_eq_mapM_toList, Sem.run_map, run_places P w inf fs.toList h]
  simp only [Result.andThen_ok]
  congr 1
  apply Array.ext'
  simp

theorem to_buildS {ty : TypeId} {i : TypeInfo} {zs : List V} {z : Value} {fs : Array Field} {inf : Field → TypeInfo} {xs : Array (Nat × Operand)} {ps : List Pa} (ho : o.op = .build ty xs)
    (hi : P.info? ty = some i) (hz : ZeroOf i zs z) (hu : P.underlying ty = some (.struct fs)) (hf : ∀ f ∈ fs.toList, P.info? f.type = some (inf f)) (ok : Ok w0 ρ s w)
    (hp : Parts ρ t a (fun n : Nat => (fs[n]?).map fun f => (f.offset, (inf f).size)) zs.length ps xs.toList) (h : o_build zs ps call t s = .ok v s') : To P w0 ρ s w (execOp a o) v s' := by
  obtain ⟨l, hl, h⟩ := onSome_ok h
  simp only [OR.ok.injEq] at h
  obtain ⟨rfl, rfl⟩ := h
  obtain ⟨cells', hfill, hv, _⟩ := fill_ok hp hl (hz.vals ρ) rfl
  refine To.got ok (x := .agg cells') ?_ (by simp [val, hv])
  have hfun : (fun n : Nat => (fs.map fun f => (f.offset, (inf f).size))[n]?) = fun n : Nat => (fs[n]?).map fun f => (f.offset, (inf f).size) := by funext n; simp
  have hpl := run_places' P w inf fs hf
  have hmap : (xs.map fun x => (x.fst, a x.snd)).toList = xs.toList.map fun y => (y.1, a y.2) := by simp
  simp only [execOp, ho, Sem.run_bind, Instr.build, run_zeroValue hi hz.zero, Result.andThen_ok, run_underlying hu, hpl, hfun, hmap, hfill]
  rfl
theorem to_buildA {ty e : TypeId} {m : Nat} {i j : TypeInfo} {zs : List V} {z : Value} {xs : Array (Nat × Operand)} {ps : List Pa} (ho : o.op = .build ty xs)
    (hi : P.info? ty = some i) (hz : ZeroOf i zs z) (hu : P.underlying ty = some (.array m e)) (hj : P.info? e = some j) (ok : Ok w0 ρ s w)
    (hp : Parts ρ t a (fun n => some (n * j.size, j.size)) zs.length ps xs.toList) (h : o_build zs ps call t s = .ok v s') : To P w0 ρ s w (execOp a o) v s' := by
  obtain ⟨l, hl, h⟩ := onSome_ok h
  simp only [OR.ok.injEq] at h
  obtain ⟨rfl, rfl⟩ := h
  obtain ⟨cells', hfill, hv, _⟩ := fill_ok hp hl (hz.vals ρ) rfl
  refine To.got ok (x := .agg cells') ?_ (by simp [val, hv])
  have hmap : (xs.map fun x => (x.fst, a x.snd)).toList = xs.toList.map fun y => (y.1, a y.2) := by simp
  simp only [execOp, ho, Sem.run_bind, Instr.build, run_zeroValue hi hz.zero, Result.andThen_ok, run_underlying hu, run_sizeOf hj, hmap, hfill]
  rfl

/- zero cells, over and over -/
theorem rep_get {α : Type} (z : List α) : ∀ (n i : Nat), i < n * z.length → (repL z n)[i]? = z[i % z.length]?
  | 0, i, h => by simp at h
  | n + 1, i, h => by
    rw [Nat.succ_mul] at h
    simp only [repL, app_eq]
    by_cases hi : i < z.length
    · rw [List.getElem?_append_left hi, Nat.mod_eq_of_lt hi]
    · have h0 : 0 < z.length := by
        rcases Nat.eq_zero_or_pos z.length with h' | h'
        · rw [h'] at h; simp at h
        · exact h'
      rw [List.getElem?_append_right (by omega), rep_get z n (i - z.length) (by omega)]
      congr 1
      exact (Nat.mod_eq_sub_mod (by omega)).symm
theorem range_rep (z : Array Value) (n : Nat) : ((Array.range (n * z.size)).map fun i => z[i % z.size]!).toList = repL z.toList n := by
  apply List.ext_getElem?
  intro i
  by_cases hi : i < n * z.size
  · rw [rep_get _ _ _ (by simpa using hi)]
    have h0 : 0 < z.size := by
      rcases Nat.eq_zero_or_pos z.size with h' | h'
      · rw [h'] at hi; simp at hi
      · exact h'
    have hm := Nat.mod_lt i h0
    simp [hi, hm, getElem!_pos]
  · have h1 : (repL z.toList n).length ≤ i := by rw [repL_length]; simpa using hi
    rw [List.getElem?_eq_none h1, List.getElem?_eq_none (by simpa using hi)]
theorem allOne_app {x y : List V} (hx : allOne x = true) (hy : allOne y = true) : allOne (app x y) = true := by
  induction x with
  | nil => exact hy
  | cons v x ih =>
    simp only [allOne, app, bc_eq] at hx ⊢
    split at hx
    · rename_i h1; rw [if_pos h1]; exact ih hx
    · exact absurd hx (by simp)
theorem allOne_rep {z : List V} (h : allOne z = true) : ∀ n, allOne (repL z n) = true
  | 0 => rfl
  | n + 1 => allOne_app h (allOne_rep h n)

theorem to_mkslice {ty e : TypeId} {i : TypeInfo} {zs : List V} {z : Value} {x y : Operand} {cX cY : X} (ho : o.op = .makeSlice ty x y) (hu : P.underlying ty = some (.slice e)) (hi : P.info? e = some i)
    (hz : ZeroOf i zs z) (hzs : z.cells.size = i.size) (ok : Ok w0 ρ s w) (hx : OV ρ (cX.ev t) (a x)) (hy : OV ρ (cY.ev t) (a y)) (h : o_mkslice i.size i.bytes zs cX cY call t s = .ok v s') :
    To P w0 ρ s w (execOp a o) v s' := by
  obtain ⟨j1, l, hl, h⟩ := onInt_ok h
  obtain ⟨j2, c, hc, h⟩ := onInt_ok h
  rw [hl] at hx; rw [hc] at hy
  have hx := OV_int hx
  have hy := OV_int hy
  obtain ⟨h1, h⟩ := bc_ok h
  obtain ⟨h2, h⟩ := bc_ok h
  obtain ⟨h3, h⟩ := bc_ok h
  simp only [news_eq, OR.ok.injEq] at h
  obtain ⟨rfl, rfl⟩ := h
  simp only [ble_eq, decide_eq_true_eq] at h1 h2 h3
  have e1 : i.bytes.mul c = i.bytes * c := rfl
  rw [e1] at h2
  have hrun := run_make (P := P) w ty e i z hu hi hz.zero j1 j2 l c (by omega) (by omega) (by
    have h : ((i.bytes * c : Nat) : Int) ≤ 281474976710656 := by omega
    rwa [Int.natCast_mul] at h) (by omega)
  simp only [Int.toNat_natCast] at hrun
  have hrow : vals ρ (repL zs c) = some (madeCells z.cells (c * i.size)).toList := by
    have := range_rep z.cells c
    rw [hzs] at this
    simp only [madeCells, hzs, this]
    exact vals_rep (hz.vals ρ) c
  obtain ⟨ok', po⟩ := new_row ok hrow (allOne_rep hz.one c) e
  refine To.new ok' po (x := .slice (some ⟨w.heap.size, 0, none⟩) l c) ?_ (by simp [val, rho_set, h1])
  have hx' : a x = .int j1 (l : Int) := hx
  have hy' : a y = .int j2 (c : Int) := hy
  simp [execOp, ho, hx', hy', hrun]

theorem to_bslice {ty e : TypeId} {m : Nat} {i : TypeInfo} {zs : List V} {z : Value} {xs : Array (Nat × Operand)} {ps : List Pa} (ho : o.op = .buildSlice ty m xs) (hu : P.underlying ty = some (.slice e))
    (hi : P.info? e = some i) (hz : ZeroOf i zs z) (hzs : z.cells.size = i.size) (hm : m * i.size ≤ 2 ^ 24) (hm0 : m * i.size ≠ 0) (ok : Ok w0 ρ s w)
    (hp : Parts ρ t a (fun n => some (n * i.size, i.size)) (repL zs m).length ps xs.toList) (h : o_bslice (repL zs m) m ps call t s = .ok v s') (hone : ∀ l, buildL t ps (repL zs m) = some l → allOne l = true) :
    To P w0 ρ s w (execOp a o) v s' := by
  obtain ⟨l, hl, h⟩ := onSome_ok h
  simp only [news_eq, OR.ok.injEq] at h
  obtain ⟨rfl, rfl⟩ := h
  have hrow : vals ρ (repL zs m) = some ((Array.range (m * i.size)).map fun k => z.cells[k % z.cells.size]!).toList := by
    have := range_rep z.cells m
    rw [hzs] at this
    rw [hzs, this]; exact vals_rep (hz.vals ρ) m
  obtain ⟨cells', hfill, hv, _⟩ := fill_ok hp hl hrow rfl
  obtain ⟨ok', po⟩ := new_row ok hv (hone l hl) e
  refine To.new ok' po (x := .slice (some ⟨w.heap.size, 0, none⟩) m m) ?_ (by simp [val, rho_set])
  have hmap : (xs.map fun x => (x.fst, a x.snd)).toList = xs.toList.map fun y => (y.1, a y.2) := by simp
  have hng : ¬ (m * i.size > 2 ^ 24) := by omega
  simp only [execOp, ho, Sem.run_bind, Instr.buildSlice, run_underlying hu, Result.andThen_ok, run_sizeOf hi, hng, if_false, hm0, run_zeroValue hi hz.zero, Sem.run_pure, hmap, hfill, newRow, run_newObj]
  rfl
theorem to_bslice0 {ty e : TypeId} {i : TypeInfo} (ho : o.op = .buildSlice ty 0 #[]) (hu : P.underlying ty = some (.slice e)) (hi : P.info? e = some i) (ok : Ok w0 ρ s w)
    (h : o_bslice [] 0 [] call t s = .ok v s') : To P w0 ρ s w (execOp a o) v s' := by
  obtain ⟨l, hl, h⟩ := onSome_ok h
  simp only [buildL, Option.some.injEq] at hl
  subst hl
  simp only [news_eq, OR.ok.injEq] at h
  obtain ⟨rfl, rfl⟩ := h
  obtain ⟨ok', po⟩ := new_row (vs := []) (xs := #[]) ok (by simp [vals]) rfl e
  refine To.new ok' po (x := .slice (some ⟨w.heap.size, 0, none⟩) 0 0) ?_ (by simp [val, rho_set])
  simp only [execOp, ho, Sem.run_bind, Instr.buildSlice, run_underlying hu, Result.andThen_ok, run_sizeOf hi]
  simp [Instr.fill, newRow, show Array.range 0 = #[] from rfl]
end
end Go.Ev
namespace Go.Ev
variable [Sy]

section
variable {P : Program} {w0 : Bs} {w : World} {ρ : Rho} {s s' : S} {v : V} {a : Operand → Value} {o : Oper} {t : Tr} {call : CallT}

theorem allOne_iff {l : List V} : allOne l = true ↔ ∀ x ∈ l, isOne x = true := by
  induction l with
  | nil => simp [allOne]
  | cons x l ih =>
    simp only [allOne, bc_eq, List.mem_cons, forall_eq_or_imp, ← ih]
    by_cases h : isOne x = true <;> simp [h]
theorem allOne_setLs : ∀ {vs : List V} {l : List V} (o : Nat), allOne vs = true → allOne l = true → allOne (setLs o vs l) = true
  | [], l, o, _, hl => hl
  | v :: vs, l, o, hv, hl => by
    rw [allOne_iff] at hv
    refine allOne_setLs (o + 1) (allOne_iff.2 fun x hx => hv x (List.mem_cons_of_mem _ hx)) ?_
    rw [setN_eq, allOne_iff]
    intro x hx
    rcases List.mem_or_eq_of_mem_set hx with h | h
    · exact allOne_iff.1 hl x h
    · rw [h]; exact hv v (List.mem_cons_self ..)
theorem allOne_build : ∀ {ps : List Pa} {l l' : List V}, allOne l = true → buildL t ps l = some l' → allOne l' = true
  | [], l, l', h, hb => by simp only [buildL, Option.some.injEq] at hb; subst hb; exact h
  | p :: ps, l, l', h, hb => by
    simp only [buildL, bc_eq] at hb
    split at hb
    · split at hb
      · rename_i h2; exact allOne_build (allOne_setLs p.off h2 h) hb
      · exact absurd hb (by simp)
    · exact absurd hb (by simp)

/- a slice that is read whole -/
theorem rd_list {c : Tr} {q n : Nat} {l : List V} (h : l.length = n) (hj : ∀ j, j < n → isOne (c.get (q + j)) = true ∧ l[j]? = some (c.get (q + j))) : allOne l = true := by
  rw [allOne_iff]
  intro x hx
  obtain ⟨j, hjl, hxj⟩ := List.getElem_of_mem hx
  obtain ⟨h1, h2⟩ := hj j (by omega)
  rw [List.getElem?_eq_getElem hjl, Option.some.injEq] at h2
  rw [← hxj, h2]; exact h1

theorem Row.loads_at {b : Nat} {c : Tr} {p : Nat × Nat} {arr : Array Value} {e : TypeId} {fz : Nat × Nat} (r : Row w0 ρ s w b c p arr e fz) (P : Program) {w' : World} (hw : w'.heap = w.heap) {q n : Nat} {l : List V} {xs : List Value}
    (hl : l.length = n) (hj : ∀ j, j < n → isOne (c.get (q + j)) = true ∧ l[j]? = some (c.get (q + j))) (hv : vals ρ l = some xs) : (loadCellsFrom ⟨p.1, q, none⟩ 0 n #[]).run P w' = .ok xs.toArray w' := by
  have r' : Row w0 ρ s w' b c p arr e fz := ⟨r.rho, r.get, r.ge, by rw [hw]; exact r.heap, r.size, r.free, r.cells⟩
  obtain ⟨xs', hxs, hrun⟩ := r'.loads P q n 0 #[] l hl (by simpa using hj)
  rw [hv, Option.some.injEq] at hxs
  subst hxs
  simpa using hrun

theorem rdSl_ok {e : Nat} {vy : V} {y : Value} {k : Nat → List V → OR} (ok : Ok w0 ρ s w) (hy : OV ρ vy y) (h : rdSl s e vy k = .ok v s') :
    ∃ base ly cap ys xs, y = .slice base ly cap ∧ ys.length = ly * e ∧ k ly ys = .ok v s' ∧ vals ρ ys = some xs ∧ allOne ys = true ∧
      (∀ w' : World, w'.heap = w.heap → (Builtin.firstCells e ly y).run P w' = .ok xs.toArray w') ∧
      ∀ n, n ≤ ly → (Builtin.firstCells e n y).run P w = .ok (xs.take (n * e)).toArray w := by
  simp only [rdSl] at h
  split at h
  · have hy := OV_nilslice hy
    exact ⟨none, 0, 0, [], [], hy, by simp, h, by simp [vals], rfl, fun w' _ => by simp [hy, Builtin.firstCells], fun n _ => by simp [hy, Builtin.firstCells]⟩
  · obtain ⟨p, _, _, hy⟩ := OV_efs hy
    exact ⟨_, 0, _, [], [], hy, by simp, h, by simp [vals], rfl, fun w' _ => by simp [hy, Builtin.firstCells, loadCells, loadCellsFrom], fun n hn => by
      have : n = 0 := by omega
      subst this
      simp [hy, Builtin.firstCells, loadCells, loadCellsFrom]⟩
  · rename_i b q l c
    obtain ⟨hlc, p, hp, hy⟩ := OV_slice hy
    obtain ⟨c', hc, h⟩ := cellsOf_ok h
    obtain ⟨ys, hl, hj, h⟩ := rd_ok h
    obtain ⟨arr, e', fz, r⟩ := ok.row hp hc
    obtain ⟨xs, hxs, _⟩ := r.loads P q (l * e) 0 #[] ys hl (by simpa using hj)
    refine ⟨_, l, c, ys, xs, hy, hl, by simpa using h, hxs, rd_list hl hj, fun w' hw => ?_, fun n hn => ?_⟩
    · have hrun := r.loads_at P hw hl hj hxs
      rw [hy]
      exact hrun
    · have hle : n * e ≤ l * e := Nat.mul_le_mul_right _ hn
      have hle' : n * e ≤ l.mul e := hle
      have hrun := r.loads_at P (w' := w) rfl (n := n * e) (l := ys.take (n * e)) (by rw [List.length_take, hl]; omega) (fun j hjn => by
        obtain ⟨k1, k2⟩ := hj j (by omega)
        exact ⟨k1, by rw [List.getElem?_take_of_lt hjn]; exact k2⟩) (vals_take hxs)
      rw [hy]
      exact hrun
  · rename_i e'' b q l
    obtain ⟨p, hp, _, hy⟩ := OV_fsl hy
    obtain ⟨c', hc, h⟩ := cellsOf_ok h
    obtain ⟨ys, hl, hj, h⟩ := rd_ok h
    obtain ⟨arr, e', fz, r⟩ := ok.row hp hc
    obtain ⟨xs, hxs, _⟩ := r.loads P q (l * e) 0 #[] ys hl (by simpa using hj)
    refine ⟨_, l, _, ys, xs, hy, hl, by simpa using h, hxs, rd_list hl hj, fun w' hw => ?_, fun n hn => ?_⟩
    · have hrun := r.loads_at P hw hl hj hxs
      rw [hy]
      exact hrun
    · have hle : n * e ≤ l * e := Nat.mul_le_mul_right _ hn
      have hle' : n * e ≤ l.mul e := hle
      have hrun := r.loads_at P (w' := w) rfl (n := n * e) (l := ys.take (n * e)) (by rw [List.length_take, hl]; omega) (fun j hjn => by
        obtain ⟨k1, k2⟩ := hj j (by omega)
        exact ⟨k1, by rw [List.getElem?_take_of_lt hjn]; exact k2⟩) (vals_take hxs)
      rw [hy]
      exact hrun
  · exact absurd h (by simp)

theorem next_cap {n c : Nat} (h : c < n) : Builtin.nextslicecap n c ≤ 2 * n := by
  unfold Builtin.nextslicecap
  split
  · omega
  · split
    · omega
    · rename_i h2
      have key : ∀ r c, 256 ≤ c → c ≤ 2 * n → Builtin.growBy n r c ≤ 2 * n := by
        intro r
        induction r with
        | zero => intro c _ hc; exact hc
        | succ r ih =>
          intro c h1 hc
          simp only [Builtin.growBy]
          split
          · exact hc
          · exact ih _ (by omega) (by omega)
      exact key 4 c (by omega) (by omega)

theorem run_append_grow {st xt e : TypeId} {d : TypeDesc} {ty : TypeId} {i : TypeInfo} {z : Value} {base : Option Addr} {l cap n : Nat} {y : Value} {olds news : List Value}
    (hs : P.underlying st = some (.slice e)) (hx : P.underlying xt = some d) (hd : ∀ k, d ≠ .int k) (hi : P.info? e = some i) (hz : i.zero = some z) (hzs : z.cells.size = i.size)
    (hlen : (Builtin.lenOf y).run P w = .ok n w) (hcap : cap < l + n) (hb : (l + n) * i.bytes ≤ 1099511627776) (hn : l + n ≤ 1048576)
    (h1 : (Builtin.firstCells i.size l (.slice base l cap)).run P w.drew = .ok olds.toArray w.drew) (h2 : (Builtin.firstCells i.size n y).run P w.drew = .ok news.toArray w.drew) :
    ∃ nc rest, l + n ≤ nc ∧ rest.size = (nc - (l + n)) * i.size ∧
      (Builtin.append_ #[st, xt] ty #[.slice base l cap, y]).run P w = .ok (.slice (some ⟨w.heap.size, 0, none⟩) (l + n) nc) (w.drew.alloc (.cells ((olds ++ news).toArray ++ rest) e)) := by
  refine ⟨(Question.appendCap (l + n) cap e).cut (w.tape w.drawn (.appendCap (l + n) cap e)), Builtin.zeroCells z.cells ((Question.appendCap (l + n) cap e).cut (w.tape w.drawn (.appendCap (l + n) cap e)) - (l + n)), ?_, ?_, ?_⟩
  · simp only [Question.cut]; omega
  · simp [Builtin.zeroCells, hzs]
  · have hnot : ¬ (l + n ≤ cap) := by omega
    have hmax : ¬ (((l + n : Nat) : Int) > IntKind.i64.max) := by
      simp [IntKind.max, IntKind.signed, IntKind.bits]; omega
    have hnc : ¬ (Builtin.nextslicecap (l + n) cap * i.bytes > 2 ^ 48) := by
      have h3 := next_cap hcap
      have h4 : Builtin.nextslicecap (l + n) cap * i.bytes ≤ 2 * (l + n) * i.bytes := Nat.mul_le_mul_right _ h3
      have h5 : 2 * (l + n) * i.bytes = 2 * ((l + n) * i.bytes) := by rw [Nat.mul_assoc]
      omega
    have hforced : (Question.appendCap (l + n) cap e).forced = false := rfl
    cases d <;> first | (exact absurd rfl (hd _)) | skip
    all_goals simp only [Builtin.append_, List.getElem?_toArray, List.getElem?_cons_zero, List.getElem?_cons_succ, Sem.run_bind, run_underlying hs, run_underlying hx, Result.andThen_ok, run_sizeOf hi, Sem.run_pure, Bool.false_eq_true, if_false, hlen,
      hnot, hmax, false_and, run_typeInfo hi, hnc, run_choose, hforced, World.drew_eq, run_askRoom, h1, h2, Bool.not_false, if_true, run_zeroValue hi hz, newRow, run_newObj, World.alloc_eq]
    all_goals simp

theorem run_append_in {st xt e : TypeId} {d : TypeDesc} {ty : TypeId} {i : TypeInfo} {r : Option Addr} {l cap n : Nat} {y : Value} {news : List Value} {w' : World}
    (hs : P.underlying st = some (.slice e)) (hx : P.underlying xt = some d) (hd : ∀ k, d ≠ .int k) (hi : P.info? e = some i)
    (hlen : (Builtin.lenOf y).run P w = .ok n w) (hcap : l + n ≤ cap) (h2 : (Builtin.firstCells i.size n y).run P w = .ok news.toArray w)
    (hst : match r with | some q => (storeCells (q.add (l * i.size)) news).run P w = .ok () w' | none => w' = w) :
    (Builtin.append_ #[st, xt] ty #[.slice r l cap, y]).run P w = .ok (.slice r (l + n) cap) w' := by
  cases r with
  | none =>
    simp only at hst
    subst hst
    cases d <;> first | (exact absurd rfl (hd _)) | skip
    all_goals simp only [Builtin.append_, List.getElem?_toArray, List.getElem?_cons_zero, List.getElem?_cons_succ, Sem.run_bind, run_underlying hs, run_underlying hx, Result.andThen_ok, run_sizeOf hi, Sem.run_pure, Bool.false_eq_true, if_false, hlen,
      hcap, Bool.not_false, if_true, h2]
  | some q =>
    simp only at hst
    cases d <;> first | (exact absurd rfl (hd _)) | skip
    all_goals simp only [Builtin.append_, List.getElem?_toArray, List.getElem?_cons_zero, List.getElem?_cons_succ, Sem.run_bind, run_underlying hs, run_underlying hx, Result.andThen_ok, run_sizeOf hi, Sem.run_pure, Bool.false_eq_true, if_false, hlen,
      hcap, Bool.not_false, if_true, h2, hst]

theorem lenOf_slice {b : Option Addr} {l c : Nat} : (Builtin.lenOf (.slice b l c)).run P w = .ok l w := by simp [Builtin.lenOf]

/- the new row of a growth, whichever way it came -/
theorem grown_eq {e : Nat} {x : V} {lx ly : Nat} {xs ys : List V} : grown s e x lx ly xs ys = kill s x fun s => .ok (.fsl e s.next 0 (lx + ly)) (s.add (.cells (wr .leaf 0 (app xs ys)))) := by
  simp only [grown, nat_eq, news_eq]; rfl

theorem grown_fresh {e : TypeId} {sz : Nat} {xs ys : List V} {as bs : List Value} {rest : Array Value} {nc lx ly : Nat} (ok : Ok w0 ρ s w) (hx : vals ρ xs = some as) (hy : vals ρ ys = some bs) (ox : allOne xs = true) (oy : allOne ys = true)
    (lx' : xs.length = lx * sz) (ly' : ys.length = ly * sz) (hnc : lx + ly ≤ nc) (hr : rest.size = (nc - (lx + ly)) * sz) (hsz : 0 < sz) :
    ∃ ρ', Ok w0 ρ' (s.add (.cells (wr .leaf 0 (app xs ys)))) (w.alloc (.cells ((as ++ bs).toArray ++ rest) e)) ∧ Post ρ s ρ' (s.add (.cells (wr .leaf 0 (app xs ys)))) ∧
      val ρ' (.fsl sz s.next 0 (lx + ly)) = some (.slice (some ⟨w.heap.size, 0, none⟩) (lx + ly) nc) := by
  have hv := vals_append hx hy
  have h1 := allOne_app ox oy
  have hsize : ((as ++ bs).toArray ++ rest).size = nc * sz := by
    have e1 := vals_length hx
    have e2 := vals_length hy
    have e3 : (lx + ly) * sz + (nc - (lx + ly)) * sz = nc * sz := by rw [← Nat.add_mul]; congr 1; omega
    simp only [Array.size_append, List.size_toArray, List.length_append, e1, e2, lx', ly', hr]
    rw [← e3, Nat.add_mul]
  obtain ⟨ok', po⟩ := ok.add _ _ _ (cellsR_new hv h1 e rest (0, 0) (fun i _ => by simp))
  refine ⟨_, ok', po, ?_⟩
  simp only [val, rho_set, Option.bind_some, hsize]
  have hle : 0 + (lx + ly) * sz ≤ nc * sz := by have := Nat.mul_le_mul_right sz hnc; omega
  rw [if_pos ⟨hle, hsz, Nat.dvd_mul_left _ _, Nat.dvd_zero _⟩]
  simp [Nat.mul_div_cancel _ hsz]

end
end Go.Ev
namespace Go.Ev
variable [Sy]

section
variable {P : Program} {w0 : Bs} {w : World} {ρ : Rho} {s s' : S} {v : V} {a : Operand → Value} {o : Oper} {t : Tr} {call : CallT}

theorem exec_append {x y : Operand} {st xt : TypeId} {z : Value} {w' : World} (ho : o.op = .call { callee := .builtin .append, args := #[x, y], argTypes := #[st, xt] })
    (h : (Builtin.append_ #[st, xt] o.type #[a x, a y]).run P w = .ok z w') : (execOp a o).run P w = .ok (.value z) w' := by
  simp [execOp, ho, resolve, invoke, builtin, h]

theorem oneCells {vs : List V} {xs : List Value} (h : vals ρ vs = some xs) (h1 : allOne vs = true) : ∀ x ∈ xs, x.oneCell' = true := by
  intro x hx
  obtain ⟨j, hj, rfl⟩ := List.getElem_of_mem hx
  have hjv : j < vs.length := by rw [← vals_length h]; exact hj
  obtain ⟨y, hy, hv⟩ := vals_get h (List.getElem?_eq_getElem hjv)
  rw [List.getElem?_eq_getElem hj, Option.some.injEq] at hy
  rw [hy]
  exact oneCell_of (allOne_iff.1 h1 _ (List.getElem_mem hjv)) hv

structure AppT (P : Program) (o : Oper) (x y : Operand) (e : TypeId) (i : TypeInfo) (z : Value) : Prop where
  ho : ∃ st xt d, o.op = .call { callee := .builtin .append, args := #[x, y], argTypes := #[st, xt] } ∧ P.underlying st = some (.slice e) ∧ P.underlying xt = some d ∧ ∀ k, d ≠ .int k
  hi : P.info? e = some i
  hz : i.zero = some z
  hzs : z.cells.size = i.size
  hsz : 0 < i.size

/- a growth into a new row -/
theorem app_fresh {x y : Operand} {e : TypeId} {i : TypeInfo} {z : Value} (T : AppT P o x y e i z) {s1 : S} (ok1 : Ok w0 ρ s1 w) (po1 : Post ρ s ρ s1) {base : Option Addr} {l cap ly : Nat} {xs ys : List V} {as bs : List Value}
    (hxv : a x = .slice base l cap) (hylen : (Builtin.lenOf (a y)).run P w = .ok ly w) (hcap : cap < l + ly) (hb : (l + ly) * i.bytes ≤ 1099511627776) (hn : l + ly ≤ 1048576)
    (hxl : xs.length = l * i.size) (hyl : ys.length = ly * i.size) (hxs : vals ρ xs = some as) (hys : vals ρ ys = some bs) (oxs : allOne xs = true) (oys : allOne ys = true)
    (hxrun : (Builtin.firstCells i.size l (.slice base l cap)).run P w.drew = .ok as.toArray w.drew) (hyrun : (Builtin.firstCells i.size ly (a y)).run P w.drew = .ok bs.toArray w.drew) :
    To P w0 ρ s w (execOp a o) (.fsl i.size s1.next 0 (l + ly)) (s1.add (.cells (wr .leaf 0 (app xs ys)))) := by
  obtain ⟨st, xt, d, ho, hs, hxt, hd⟩ := T.ho
  obtain ⟨nc, rest, h1, h2, h3⟩ := run_append_grow (w := w) (ty := o.type) hs hxt hd T.hi T.hz T.hzs hylen hcap hb hn hxrun hyrun
  obtain ⟨ρ', ok', po', hv⟩ := grown_fresh (e := e) (rest := rest) ok1.drew hxs hys oxs oys hxl hyl h1 h2 T.hsz
  refine To.new ok' (po1.trans po') ?_ hv
  refine exec_append ho ?_
  rw [hxv]; exact h3

theorem to_app {x y : Operand} {cX cY : X} {e : TypeId} {i : TypeInfo} {z : Value} (T : AppT P o x y e i z) (ok : Ok w0 ρ s w) (hx : OV ρ (cX.ev t) (a x)) (hy : OV ρ (cY.ev t) (a y))
    (h : o_app i.size i.bytes cX cY call t s = .ok v s') : To P w0 ρ s w (execOp a o) v s' := by
  obtain ⟨ybase, ly, ycap, ys, bs, hyv, hyl, h, hys, oys, hyrun, _⟩ := rdSl_ok (P := P) ok hy h
  have hylen : (Builtin.lenOf (a y)).run P w = .ok ly w := by rw [hyv]; exact lenOf_slice
  obtain ⟨st, xt, d, ho, hs, hxt, hd⟩ := T.ho
  generalize cX.ev t = vx at h hx
  cases vx <;> simp only [appK] at h
  case nilslice =>
    have hxv := OV_nilslice hx
    by_cases h0 : ly = 0
    · subst h0
      rw [show Nat.beq 0 0 = true from rfl, bc_true] at h
      simp only [OR.ok.injEq] at h
      obtain ⟨rfl, rfl⟩ := h
      refine To.got ok (x := .slice none 0 0) ?_ rfl
      refine exec_append ho ?_
      rw [hxv]
      exact run_append_in (r := none) (n := 0) hs hxt hd T.hi hylen (Nat.le_refl _) (hyrun w rfl) rfl
    · rw [show Nat.beq ly 0 = false by rw [beq_eq]; simp [h0], bc_false] at h
      obtain ⟨h1, h⟩ := bc_ok h
      obtain ⟨h2, h⟩ := bc_ok h
      rw [grown_eq] at h
      simp only [kill, OR.ok.injEq] at h
      obtain ⟨rfl, rfl⟩ := h
      simp only [ble_eq, decide_eq_true_eq] at h1 h2
      have h1 : ly * i.bytes ≤ 1099511627776 := h1
      exact app_fresh (xs := []) (as := []) T ok (Post.refl ρ s) hxv hylen (by omega) (by rw [Nat.zero_add]; exact h1) (by omega) (by simp) hyl (by simp [vals]) hys rfl oys (by simp [Builtin.firstCells]) (hyrun _ rfl)
  case slice b q l c =>
    obtain ⟨hlc, p, hp, hxv⟩ := OV_slice hx
    by_cases hfit : l + ly ≤ c
    · rw [show Nat.ble (Nat.add l ly) c = true by rw [ble_eq]; exact decide_eq_true hfit, bc_true] at h
      obtain ⟨cc, hc, hw, h⟩ := store_ok h
      simp only [nat_eq, OR.ok.injEq] at h
      obtain ⟨rfl, rfl⟩ := h
      obtain ⟨arr, e', fz, r⟩ := ok.row hp hc
      obtain ⟨w', arr', hrun, ok', po, _⟩ := Row.stores P (q + l * i.size) ys bs 0 s w cc arr r ok hys hw
      refine To.new ok' po (x := .slice (some ⟨p.1, q, none⟩) (l + ly) c) ?_ (by
        show val ρ (.slice b q (l + ly) c) = _
        simp [val, hp, hfit])
      refine exec_append ho ?_
      rw [hxv]
      exact run_append_in (r := some _) hs hxt hd T.hi hylen hfit (hyrun w rfl) (by simpa [add_none] using hrun)
    · rw [show Nat.ble (Nat.add l ly) c = false by rw [ble_eq]; exact decide_eq_false hfit, bc_false] at h
      obtain ⟨h1, h⟩ := bc_ok h
      obtain ⟨h2, h⟩ := bc_ok h
      obtain ⟨xbase, lx, xcap, xs, as, hxv', hxl, h, hxs, oxs, hxrun, _⟩ := rdSl_ok (P := P) ok hx h
      rw [hxv] at hxv' hxrun
      simp only [Value.slice.injEq] at hxv'
      obtain ⟨rfl, rfl, rfl⟩ := hxv'
      rw [grown_eq] at h
      simp only [kill, OR.ok.injEq] at h
      obtain ⟨rfl, rfl⟩ := h
      simp only [ble_eq, decide_eq_true_eq] at h1 h2
      exact app_fresh T ok (Post.refl ρ s) hxv hylen (by omega) h1 h2 hxl hyl hxs hys oxs oys (hxrun _ rfl) (hyrun _ rfl)
  case fsl e1 b q l =>
    obtain ⟨p, hp, ⟨hle, he0, hd1, hd2⟩, hxv⟩ := OV_fsl hx
    by_cases h0 : ly = 0
    · subst h0
      rw [show Nat.beq 0 0 = true from rfl, bc_true] at h
      simp only [OR.ok.injEq] at h
      obtain ⟨rfl, rfl⟩ := h
      have hys0 : bs = [] := by
        have := vals_length hys
        rw [hyl] at this
        exact List.eq_nil_of_length_eq_zero (by simpa using this)
      subst hys0
      have hcap : l ≤ (p.2 - q) / e1 := by rw [Nat.le_div_iff_mul_le he0]; omega
      refine To.got ok (x := .slice (some ⟨p.1, q, none⟩) (l + 0) ((p.2 - q) / e1)) ?_ (by
        simp only [val, hp, Option.bind_some]
        rw [if_pos ⟨hle, he0, hd1, hd2⟩]; rfl)
      refine exec_append ho ?_
      rw [hxv]
      exact run_append_in (r := some _) (n := 0) hs hxt hd T.hi hylen hcap (hyrun w rfl) (by simp [storeCells])
    · rw [show Nat.beq ly 0 = false by rw [beq_eq]; simp [h0], bc_false] at h
      obtain ⟨hee, h⟩ := bc_ok h
      obtain ⟨hq0, h⟩ := bc_ok h
      obtain ⟨h1, h⟩ := bc_ok h
      obtain ⟨h2, h⟩ := bc_ok h
      simp only [beq_eq, ble_eq, decide_eq_true_eq] at hee hq0 h1 h2
      subst hq0
      subst hee
      simp only [rdSl] at h
      obtain ⟨cc, hc, h⟩ := cellsOf_ok h
      obtain ⟨xs, hxl, hj, h⟩ := rd_ok h
      have hxl : xs.length = l * i.size := hxl
      have hj : ∀ j, j < l * i.size → isOne (cc.get (0 + j)) = true ∧ xs[j]? = some (cc.get (0 + j)) := hj
      simp only [List.reverse_nil, List.nil_append, grown_eq, kill, setB_eq, OR.ok.injEq] at h
      obtain ⟨rfl, rfl⟩ := h
      obtain ⟨arr, e', fz, r⟩ := ok.row hp hc
      obtain ⟨as, hxs, _⟩ := r.loads P 0 (l * i.size) 0 #[] xs hxl (by simpa using hj)
      have oxs := rd_list hxl hj
      obtain ⟨ok1, po1⟩ := ok.kill hp
      by_cases hfit : l + ly ≤ (p.2 - 0) / i.size
      · have hroom : (l + ly) * i.size ≤ p.2 := by
          rw [Nat.le_div_iff_mul_le he0] at hfit; omega
        have hbl := vals_length hys
        have hal := vals_length hxs
        have hmul : (l + ly) * i.size = l * i.size + ly * i.size := Nat.add_mul ..
        obtain ⟨w', arr', hrun, hset, hsz', hget⟩ := run_stores (P := P) p.1 (l * i.size) e' fz bs 0 w arr r.heap (oneCells hys oys) (by rw [r.size, hbl, hyl]; omega) (by rw [r.size]; exact fun j hj => r.free j (Nat.le_of_lt hj))
        have hbrel : BRel ρ p.2 (.cells (wr .leaf 0 (app xs ys))) (.cells arr' e' fz) := by
          refine ⟨arr', e', fz, rfl, by rw [hsz']; exact r.size, r.free, fun j => ?_⟩
          have hlen : (app xs ys).length = (l + ly) * i.size := by rw [app_eq, List.length_append, hxl, hyl, hmul]
          rw [wr_get, Tr.get_leaf]
          split
          · rename_i hjr
            right
            have hj' : j < (app xs ys).length := by omega
            have hv := List.getElem?_eq_getElem hj'
            have hone := allOne_iff.1 (allOne_app oxs oys) _ (List.getElem_mem hj')
            obtain ⟨y', hy', hvy⟩ := vals_get (vals_append hxs hys) hv
            simp only [Nat.sub_zero, hv, Option.getD_some]
            refine ⟨hone, y', hvy, ?_⟩
            rw [hget]
            by_cases hjx : j < l * i.size
            · rw [if_neg (by omega)]
              rw [List.getElem?_append_left (by rw [hal, hxl]; exact hjx)] at hy'
              obtain ⟨k1, k2⟩ := hj j hjx
              rw [Nat.zero_add] at k1 k2
              obtain ⟨x', hx', _, ha, _⟩ := r.there k1
              obtain ⟨y2, hy2, hv2⟩ := vals_get hxs k2
              rw [hy2, Option.some.injEq] at hy'
              rw [hx', Option.some.injEq] at hv2
              rw [ha, hv2, hy']
            · rw [if_pos (by rw [hbl, hyl]; omega)]
              rw [List.getElem?_append_right (by rw [hal, hxl]; omega), hal, hxl] at hy'
              rw [Nat.add_zero]; exact hy'
          · exact .inl rfl
        obtain ⟨ok2, po2⟩ := ok1.again r.ge (ok.lt b p hp) (fun k q hk hn he => by
          rw [S.get_set] at hn
          split at hn
          · exact hn rfl
          · rename_i hkb
            exact hkb (ok.inj k b q p hk hp hn (by rw [hc]; simp) he)) hbrel hset
        refine To.new ok2 (po1.trans po2) (x := .slice (some ⟨p.1, 0, none⟩) (l + ly) ((p.2 - 0) / i.size)) ?_ (by
          simp only [val, rho_set, Option.bind_some]
          rw [if_pos ⟨by omega, he0, hd1, hd2⟩])
        refine exec_append ho ?_
        rw [hxv]
        exact run_append_in (r := some _) hs hxt hd T.hi hylen hfit (hyrun w rfl) (by simpa [add_none] using hrun)
      · have hxrun := r.loads_at P (w' := w.drew) rfl hxl hj hxs
        exact app_fresh T ok1 po1 hxv hylen (by omega) h1 h2 hxl hyl hxs hys oxs oys (by simp [Builtin.firstCells, loadCells, hxrun]) (hyrun _ rfl)
  all_goals exact absurd h (by simp)
end
end Go.Ev
namespace Go.Ev
variable [Sy]

section
variable {P : Program} {w0 : Bs} {w : World} {ρ : Rho} {s s' : S} {v : V} {a : Operand → Value} {o : Oper} {t : Tr} {call : CallT}

theorem to_lenS {x : Operand} {cX : X} {st : TypeId} (ho : o.op = .call { callee := .builtin .len, args := #[x], argTypes := #[st] }) (hu : P.underlying st = some .string) (ok : Ok w0 ρ s w)
    (hx : OV ρ (cX.ev t) (a x)) (h : o_lenS cX call t s = .ok v s') : To P w0 ρ s w (execOp a o) v s' := by
  obtain ⟨l, hl, h⟩ := onStr_ok h
  rw [hl] at hx
  obtain ⟨_, hx⟩ := OV_str hx
  simp only [nat_eq, OR.ok.injEq] at h
  obtain ⟨rfl, rfl⟩ := h
  refine To.got ok (x := .int .i64 (bytesOf (chs l)).size) (by simp [execOp, ho, resolve, invoke, builtin, Builtin.len_, run_underlying hu, hx, goInt]) ?_
  rw [bytesOf_size, chs_length, lenN_eq]; rfl
theorem to_lenL {x : Operand} {cX : X} {st e : TypeId} (ho : o.op = .call { callee := .builtin .len, args := #[x], argTypes := #[st] }) (hu : P.underlying st = some (.slice e)) (ok : Ok w0 ρ s w)
    (hx : OV ρ (cX.ev t) (a x)) (h : o_lenL cX call t s = .ok v s') : To P w0 ρ s w (execOp a o) v s' := by
  simp only [o_lenL] at h
  generalize cX.ev t = vx at h hx
  cases vx <;> simp only [OR.ok.injEq] at h
  case slice b q l c =>
    obtain ⟨_, p, _, hx⟩ := OV_slice hx
    obtain ⟨rfl, rfl⟩ := h
    exact To.got ok (x := .int .i64 l) (by simp [execOp, ho, resolve, invoke, builtin, Builtin.len_, run_underlying hu, hx, goInt]) rfl
  case fsl e' b q l =>
    obtain ⟨p, _, _, hx⟩ := OV_fsl hx
    obtain ⟨rfl, rfl⟩ := h
    exact To.got ok (x := .int .i64 l) (by simp [execOp, ho, resolve, invoke, builtin, Builtin.len_, run_underlying hu, hx, goInt]) rfl
  case efs e' b q l =>
    obtain ⟨p, _, _, hx⟩ := OV_efs hx
    obtain ⟨rfl, rfl⟩ := h
    exact To.got ok (x := .int .i64 0) (by simp [execOp, ho, resolve, invoke, builtin, Builtin.len_, run_underlying hu, hx, goInt]) rfl
  case nilslice =>
    have hx := OV_nilslice hx
    obtain ⟨rfl, rfl⟩ := h
    exact To.got ok (x := .int .i64 0) (by simp [execOp, ho, resolve, invoke, builtin, Builtin.len_, run_underlying hu, hx, goInt]) rfl
  all_goals exact absurd h (by simp)
theorem to_alen {x : Operand} {st e : TypeId} {n : Nat} (ho : o.op = .call { callee := .builtin .len, args := #[x], argTypes := #[st] }) (hu : P.underlying st = some (.array n e)) (ok : Ok w0 ρ s w)
    (h : o_alen n call t s = .ok v s') : To P w0 ρ s w (execOp a o) v s' := by
  simp only [o_alen, OR.ok.injEq] at h
  obtain ⟨rfl, rfl⟩ := h
  exact To.got ok (x := .int .i64 n) (by simp [execOp, ho, resolve, invoke, builtin, Builtin.len_, run_underlying hu, goInt]) rfl

theorem lkpR_ok {ok : Bool} {u : V} {b : Bool} (h : lkpR ok u b s = .ok v s') : s = s' ∧ v = if ok then .tuple [u, .bool b] else u := by
  cases ok <;> simp only [lkpR, bc_true, bc_false, OR.ok.injEq] at h <;> exact ⟨h.2, h.1.symm⟩
theorem lkp_val {ok : Bool} {u : V} {b : Bool} {x : Value} (h : val ρ u = some x) : val ρ (if ok then .tuple [u, .bool b] else u) = some (if ok then .tuple #[x, .bool b] else x) := by
  cases ok
  · exact h
  · simp [val, vals, h]

structure ZeroV (i : TypeInfo) (zv : V) (z : Value) : Prop where
  zero : i.zero = some z
  val : ∀ ρ, val ρ zv = some z

theorem to_tass {x : Operand} {cX : X} {xt ty : TypeId} {okk : Bool} {d : TypeDesc} {i : TypeInfo} {zv : V} {z : Value} (ho : o.op = .typeAssert x xt ty okk) (hu : P.underlying ty = some d) (hd : ∀ m, d ≠ .interface m)
    (hi : P.info? ty = some i) (hz : ZeroV i zv z) (ok : Ok w0 ρ s w) (hx : OV ρ (cX.ev t) (a x)) (h : o_tass ty zv okk cX call t s = .ok v s') : To P w0 ρ s w (execOp a o) v s' := by
  simp only [o_tass] at h
  generalize cX.ev t = vx at h hx
  cases vx <;> simp only at h
  case iface u y =>
    obtain ⟨y', hy, hx⟩ := OV_iface hx
    by_cases hut : u = ty
    · subst hut
      rw [show Nat.beq u u = true by rw [beq_eq]; simp, bc_true] at h
      obtain ⟨rfl, rfl⟩ := lkpR_ok h
      refine To.got ok ?_ (lkp_val hy)
      cases d <;> first | exact absurd rfl (hd _) | (cases okk <;> simp [execOp, ho, hx, Instr.typeAssert, run_underlying hu])
    · rw [show Nat.beq u ty = false by rw [beq_eq]; simp [hut], bc_false] at h
      obtain ⟨hok, h⟩ := bc_ok h
      subst hok
      obtain ⟨rfl, rfl⟩ := lkpR_ok h
      refine To.got ok ?_ (lkp_val (hz.val ρ))
      cases d <;> first | exact absurd rfl (hd _) | (simp [execOp, ho, hx, Instr.typeAssert, run_underlying hu, hut, run_zeroValue hi hz.zero])
  case nilIface =>
    have hx := OV_nilIface hx
    obtain ⟨hok, h⟩ := bc_ok h
    subst hok
    obtain ⟨rfl, rfl⟩ := lkpR_ok h
    refine To.got ok ?_ (lkp_val (hz.val ρ))
    cases d <;> first | exact absurd rfl (hd _) | (simp [execOp, ho, hx, Instr.typeAssert, run_underlying hu, run_zeroValue hi hz.zero])
  all_goals exact absurd h (by simp)

theorem to_minI {x y : Operand} {cX cY : X} {ts : Array TypeId} (ho : o.op = .call { callee := .builtin .min, args := #[x, y], argTypes := ts }) (ok : Ok w0 ρ s w)
    (hx : OV ρ (cX.ev t) (a x)) (hy : OV ρ (cY.ev t) (a y)) (h : o_minI cX cY call t s = .ok v s') : To P w0 ρ s w (execOp a o) v s' := by
  obtain ⟨k, n, hn, h⟩ := onI_ok h
  obtain ⟨j, m, hm, h⟩ := onI_ok h
  rw [hn] at hx; rw [hm] at hy
  have hx := OV_int hx
  have hy := OV_int hy
  have hr : v = .int k (if m < n then m else n) ∧ s = s' := by
    rw [blt_eq, bc_eq] at h
    by_cases hmn : m < n <;> simp only [hmn, decide_true, decide_false, if_true, if_false, Bool.false_eq_true, OR.ok.injEq] at h ⊢ <;> exact ⟨h.1.symm, h.2⟩
  obtain ⟨rfl, rfl⟩ := hr
  exact To.got ok (x := .int k (if m < n then m else n)) (by simp [execOp, ho, resolve, invoke, builtin, Builtin.min_, Builtin.min2, hx, hy]) rfl
theorem to_maxI {x y : Operand} {cX cY : X} {ts : Array TypeId} (ho : o.op = .call { callee := .builtin .max, args := #[x, y], argTypes := ts }) (ok : Ok w0 ρ s w)
    (hx : OV ρ (cX.ev t) (a x)) (hy : OV ρ (cY.ev t) (a y)) (h : o_maxI cX cY call t s = .ok v s') : To P w0 ρ s w (execOp a o) v s' := by
  obtain ⟨k, n, hn, h⟩ := onI_ok h
  obtain ⟨j, m, hm, h⟩ := onI_ok h
  rw [hn] at hx; rw [hm] at hy
  have hx := OV_int hx
  have hy := OV_int hy
  have hr : v = .int k (if m > n then m else n) ∧ s = s' := by
    rw [blt_eq, bc_eq] at h
    by_cases hmn : n < m <;> simp only [hmn, decide_true, decide_false, if_true, if_false, Bool.false_eq_true, OR.ok.injEq] at h ⊢ <;> exact ⟨h.1.symm, h.2⟩
  obtain ⟨rfl, rfl⟩ := hr
  exact To.got ok (x := .int k (if m > n then m else n)) (by simp [execOp, ho, resolve, invoke, builtin, Builtin.max_, Builtin.max2, hx, hy]) rfl

/- iterators of strings -/
theorem to_rangeS {ty : TypeId} {x : Operand} {cX : X} (ho : o.op = .range ty x) (hu : P.underlying ty = some .string) (ok : Ok w0 ρ s w) (hx : OV ρ (cX.ev t) (a x)) (h : o_rangeS cX call t s = .ok v s') :
    To P w0 ρ s w (execOp a o) v s' := by
  obtain ⟨l, hl, h⟩ := onStr_ok h
  rw [hl] at hx
  obtain ⟨sm, hx⟩ := OV_str hx
  simp only [news_eq, OR.ok.injEq] at h
  obtain ⟨rfl, rfl⟩ := h
  obtain ⟨ok', po⟩ := ok.add (.siter l 0) (.stringIter (bytesOf (chs l)) 0) 0 ⟨sm, rfl⟩
  exact To.new ok' po (x := .pointer (some ⟨w.heap.size, 0, none⟩)) (by simp [execOp, ho, hx, Instr.range, run_underlying hu]) (by simp [val, rho_set])

theorem ptr0_ok {u : V} {k : Nat → OR} (h : ptr0 u k = .ok v s') : ∃ b, u = .ptr b 0 ∧ k b = .ok v s' := by
  obtain ⟨b, q, hb, h⟩ := onPtr_ok h
  obtain ⟨h0, h⟩ := bc_ok h
  simp only [beq_eq, decide_eq_true_eq] at h0
  subst h0
  exact ⟨b, hb, h⟩

theorem getObj_run {r : Nat} {ob : Obj} (h : w.heap[r]? = some ob) (hc : ∀ c e f, ob ≠ .cells c e f) : (getObj r).run P w = .ok ob w := by
  cases ob <;> first | exact absurd rfl (hc _ _ _) | simp [getObj, Sem.run, h]
theorem setObj_run {r : Nat} {ob x : Obj} (h : w.heap[r]? = some ob) (hc : ∀ c e f, ob ≠ .cells c e f) : (setObj r x).run P w = .ok () { w with heap := w.heap.setIfInBounds r x } := by
  cases ob <;> first | exact absurd rfl (hc _ _ _) | simp [setObj, Sem.run, h]
theorem setObj_at {r : Nat} {ob x : Obj} (h : w.heap[r]? = some ob) : SetAt w r x { w with heap := w.heap.setIfInBounds r x } := by
  have hlt : r < w.heap.size := by
    rcases Nat.lt_or_ge r w.heap.size with h' | h'
    · exact h'
    · simp [Array.getElem?_eq_none h'] at h
  refine ⟨by simp, by simp [hlt], fun q hq => ?_, rfl, rfl, rfl⟩
  simp [Array.getElem?_setIfInBounds_ne (Ne.symm hq)]

theorem runeV_val {c : Nat} (h : okC c = true) (ρ : Rho) : val ρ (runeV c) = some (.int .i32 (ch c : Int)) := by
  unfold runeV
  rcases lit_cases c with ⟨h1, _, h3⟩ | ⟨h1, _, _⟩
  · rw [h1, h3]; rfl
  · rw [h1, sym_ch h h1]; rfl
theorem to_nextS {x : Operand} {cX : X} (ho : o.op = .next x true) (ok : Ok w0 ρ s w) (hx : OV ρ (cX.ev t) (a x)) (h : o_nextS cX call t s = .ok v s') :
    To P w0 ρ s w (execOp a o) v s' := by
  obtain ⟨b, hb, h⟩ := ptr0_ok h
  rw [hb] at hx
  obtain ⟨p, hp, hx⟩ := OV_ptr hx
  rw [hget_eq] at h
  generalize hg : s.heap.get b = blk at h
  cases blk <;> simp only [nextS] at h
  case siter l q =>
    obtain ⟨_, ob, hob, hrel⟩ := ok.blk b p hp (by rw [hg]; simp)
    rw [hg] at hrel
    obtain ⟨sm, rfl⟩ := hrel
    have hgo := getObj_run (P := P) hob (by simp)
    rw [nth_eq] at h
    cases hc : l[q]? with
    | some c =>
      simp only [hc] at h
      obtain ⟨h8, h⟩ := bc_ok h
      have ho8 := okX_get sm hc
      have h8 : ch c < 128 := by
        have := (ch_range ho8).2
        simp only [blt_eq, decide_eq_true_eq] at h8
        have h8 : cHi c < 128 := h8
        omega
      rw [setB_eq] at h
      simp only [OR.ok.injEq] at h
      obtain ⟨rfl, rfl⟩ := h
      have hlt : q < (bytesOf (chs l)).size := by
        rw [bytesOf_size, chs_length]
        rcases Nat.lt_or_ge q l.length with h' | h'
        · exact h'
        · simp [List.getElem?_eq_none h'] at hc
      have hbyte := bytesOf_get (chs_get hc)
      rw [ByteArray.getElem?_lt' _ _ hlt, Option.some.injEq] at hbyte
      have hnat : ((bytesOf (chs l))[q]'hlt).toNat = ch c := by rw [hbyte, UInt8.toNat_ofNat']; omega
      have hdec := decode_ascii (bytesOf (chs l)) q hlt (by rw [hnat]; exact h8)
      rw [hnat] at hdec
      have hset := setObj_at (x := .stringIter (bytesOf (chs l)) (q + 1)) hob
      obtain ⟨ok', po⟩ := ok.set hp (by rw [hg]; simp) (x := .siter l (q + 1)) (o := .stringIter (bytesOf (chs l)) (q + 1)) ⟨sm, rfl⟩ hset
      have hso := setObj_run (P := P) (x := .stringIter (bytesOf (chs l)) (q + 1)) hob (by simp)
      refine To.new ok' po (x := .tuple #[.bool true, .int .i64 q, .int .i32 (ch c : Int)]) ?_ (by
        have hr := runeV_val ho8 ρ
        simp [val, vals, hr])
      simp [execOp, ho, hx, Instr.next, hgo, hlt, hdec, hso, goInt]
    | none =>
      simp only [hc, OR.ok.injEq] at h
      obtain ⟨rfl, rfl⟩ := h
      have hge : ¬ q < (bytesOf (chs l)).size := by
        rw [bytesOf_size, chs_length]; intro hlt; rw [List.getElem?_eq_getElem hlt] at hc; exact absurd hc (by simp)
      exact To.got ok (x := .tuple #[.bool false]) (by simp [execOp, ho, hx, Instr.next, hgo, hge]) (by simp [val, vals])
  all_goals exact absurd h (by simp)
end
end Go.Ev
namespace Go.Ev
variable [Sy]

theorem fitsK_int {k : IntKind} {v : V} (h : fitsK (.i k) v = true) : ∃ n, v = .int k n := by
  cases v <;> simp only [fitsK] at h <;> try (exfalso; cases h; done)
  rename_i j n
  rw [beqK_eq, decide_eq_true_eq] at h
  subst h; exact ⟨n, rfl⟩
theorem fitsK_b {v : V} (h : fitsK .b v = true) : ∃ n, v = .bool n := by
  cases v <;> simp only [fitsK] at h <;> first | exact ⟨_, rfl⟩ | (exfalso; cases h; done)
theorem fitsK_s {v : V} (h : fitsK .str v = true) : ∃ n, v = .str n := by
  cases v <;> simp only [fitsK] at h <;> first | exact ⟨_, rfl⟩ | (exfalso; cases h; done)
theorem bc_and {b c : Bool} (h : bc b c false = true) : b = true ∧ c = true := by
  cases b
  · exact absurd h (by simp [bc])
  · exact ⟨rfl, h⟩

/- equal flat values are the same -/
theorem beqV_same {k : SK} {u v : V} (hu : fitsK k u = true) (hv : fitsK k v = true) : beqV u v = true ↔ u = v := by
  cases k with
  | i k =>
    obtain ⟨n, rfl⟩ := fitsK_int hu; obtain ⟨m, rfl⟩ := fitsK_int hv
    simp [beqV, beqI_eq]
  | b =>
    obtain ⟨n, rfl⟩ := fitsK_b hu; obtain ⟨m, rfl⟩ := fitsK_b hv
    simp [beqV, beqB_eq]
  | str =>
    obtain ⟨n, rfl⟩ := fitsK_s hu; obtain ⟨m, rfl⟩ := fitsK_s hv
    simp [beqV, beqS_eq]
theorem fits_cons {k : SK} {ks : List SK} {v : V} {vs : List V} (h : fits (k :: ks) (v :: vs) = true) : fitsK k v = true ∧ fits ks vs = true := bc_and h
theorem beqVs_same : ∀ {sh : List SK} {a b : List V}, fits sh a = true → fits sh b = true → (beqVs a b = true ↔ a = b)
  | [], [], [], _, _ => by simp [beqVs]
  | [], _ :: _, _, h, _ => by simp [fits] at h
  | [], [], _ :: _, _, h => by simp [fits] at h
  | _ :: _, [], _, h, _ => by simp [fits] at h
  | _ :: _, _ :: _, [], _, h => by simp [fits] at h
  | k :: ks, u :: a, v :: b, ha, hb => by
    obtain ⟨h1, h2⟩ := fits_cons ha
    obtain ⟨h3, h4⟩ := fits_cons hb
    have e1 := beqV_same h1 h3
    have e2 := beqVs_same h2 h4
    simp only [beqVs, bc_eq, List.cons.injEq]
    rw [← e1, ← e2]
    by_cases h : beqV u v = true <;> simp [h]

theorem sameBits_one {k : SK} {ρ : Rho} {u : V} {x : Value} (hu : fitsK k u = true) (hx : val ρ u = some x) (n : Nat) : Instr.sameBits n x x = true := by
  cases k with
  | i k => obtain ⟨m, rfl⟩ := fitsK_int hu; simp only [val, Option.some.injEq] at hx; subst hx; cases n <;> simp [Instr.sameBits]
  | b => obtain ⟨m, rfl⟩ := fitsK_b hu; simp only [val, Option.some.injEq] at hx; subst hx; cases n <;> simp [Instr.sameBits]
  | str =>
    obtain ⟨m, rfl⟩ := fitsK_s hu
    obtain ⟨_, hx⟩ := OV_str (.inr hx); subst hx
    have : (bytesOf (chs m) == bytesOf (chs m)) = true := by rw [beq_toListBytes]; simp
    cases n <;> simp [Instr.sameBits, this]
theorem sameBits_many {ρ : Rho} (n : Nat) : ∀ {sh : List SK} {a : List V} {xs : List Value}, fits sh a = true → vals ρ a = some xs → ((xs.zip xs).all fun (x, y) => Instr.sameBits n x y) = true
  | [], [], xs, _, h => by rw [vals_nil] at h; subst h; rfl
  | [], _ :: _, _, h, _ => by simp [fits] at h
  | _ :: _, [], _, h, _ => by simp [fits] at h
  | k :: ks, u :: a, xs, h, hx => by
    obtain ⟨h1, h2⟩ := fits_cons h
    obtain ⟨y, ys, rfl, hy, hys⟩ := vals_cons.1 hx
    have := sameBits_many n h2 hys
    simp only [List.zip_cons_cons, List.all_cons, sameBits_one h1 hy, Bool.true_and]
    exact this

/- keys -/
structure KeyTy (P : Program) (kt : TypeId) (kk : KK) : Prop where
  check : ∀ (ρ : Rho) (v : V) (x : Value) (b : Bool) (w : World), keyOk kk v = true → val ρ v = some x → (Instr.checkKey b 10000 kt x).run P w = .ok () w
  find : ∀ (ρ : Rho) (v : V) (x : Value) (es : List Ent) (xs : List MapEntry) (r : Option (Nat × V)) (w : World), keyOk kk v = true → val ρ v = some x → EntsR ρ es xs → findE kk v es 0 = some r →
    ∃ r' : Option (Nat × Value), (Instr.findKey kt x xs).run P w = .ok r' w ∧ match r, r' with
      | none, none => True
      | some (i, u), some (j, y) => i = j ∧ val ρ u = some y ∧ ∃ e z, es[i]? = some e ∧ xs[i]? = some z ∧ keyEq kk v e.key = some true
      | _, _ => False

def scalarD : SK → TypeDesc → Prop
  | .i _, .int _ => True
  | .b, .bool => True
  | .str, .string => True
  | _, _ => False
theorem sameNow_eq {ρ : Rho} {k : SK} {d : TypeDesc} {u v : V} {x y : Value} {b : Bool} (hd : scalarD k d) (hx : val ρ u = some x) (hy : val ρ v = some y) (h : keyEq (.k k) u v = some b) : Instr.sameNow d x y = some b := by
  simp only [keyEq, bc_eq] at h
  split at h
  · rename_i h1
    split at h
    · rename_i h2
      simp only [Option.some.injEq] at h
      subst h
      cases k with
      | i k =>
        obtain ⟨n, rfl⟩ := fitsK_int h1; obtain ⟨m, rfl⟩ := fitsK_int h2
        cases d <;> simp only [scalarD] at hd
        simp only [val, Option.some.injEq] at hx hy
        subst hx hy
        simp [Instr.sameNow, beqV, beqI_eq, eqd]
      | b =>
        obtain ⟨n, rfl⟩ := fitsK_b h1; obtain ⟨m, rfl⟩ := fitsK_b h2
        cases d <;> simp only [scalarD] at hd
        simp only [val, Option.some.injEq] at hx hy
        subst hx hy
        simp [Instr.sameNow, beqV, beqB_eq]
      | str =>
        obtain ⟨n, rfl⟩ := fitsK_s h1; obtain ⟨m, rfl⟩ := fitsK_s h2
        cases d <;> simp only [scalarD] at hd
        obtain ⟨_, hx⟩ := OV_str (.inr hx)
        obtain ⟨_, hy⟩ := OV_str (.inr hy)
        obtain ⟨_, c1, s1⟩ := okX_lit (show litX n = true from h1)
        obtain ⟨_, c2, s2⟩ := okX_lit (show litX m = true from h2)
        rw [c1] at hx
        rw [c2] at hy
        subst hx hy
        simp only [Instr.sameNow, Option.some.injEq, beqV, beqS_eq]
        rw [beq_toListBytes, bytesOf_toList, bytesOf_toList]
        by_cases hnm : n = m
        · simp [hnm]
        · simp only [hnm, decide_false, beq_eq_false_iff_ne, ne_eq]
          exact fun hh => hnm (map_inj_small s1 s2 hh)
    · exact absurd h (by simp)
  · exact absurd h (by simp)

theorem findNow_eq {ρ : Rho} {k : SK} {d : TypeDesc} {v : V} {x : Value} (hd : scalarD k d) (hx : val ρ v = some x) : ∀ {es : List Ent} {xs : List MapEntry} {i : Nat} {r : Option (Nat × V)}, EntsR ρ es xs → findE (.k k) v es i = some r →
    ∃ r' : Option (Nat × Value), Instr.findNow d x xs i = some r' ∧ match r, r' with
      | none, none => True
      | some (p, u), some (q, y) => p = q ∧ val ρ u = some y ∧ i ≤ p ∧ ∃ e z, es[p - i]? = some e ∧ xs[p - i]? = some z ∧ keyEq (.k k) v e.key = some true
      | _, _ => False
  | [], [], i, r, .nil, h => by
    simp only [findE, Option.some.injEq] at h
    subst h
    exact ⟨none, rfl, trivial⟩
  | e :: es, z :: zs, i, r, .cons he hr, h => by
    simp only [findE] at h
    obtain ⟨h1, h2, h3⟩ := he
    cases hk : keyEq (.k k) v e.key with
    | none => simp [hk] at h
    | some b =>
      have hs := sameNow_eq hd hx h1 hk
      cases b
      · simp only [hk] at h
        obtain ⟨r', hr', hm⟩ := findNow_eq hd hx hr h
        refine ⟨r', by simp only [Instr.findNow, hs]; exact hr', ?_⟩
        cases r with
        | none =>
          cases r' with
          | none => trivial
          | some _ => exact hm.elim
        | some pu =>
          obtain ⟨p, u⟩ := pu
          cases r' with
          | none => exact hm.elim
          | some qy =>
            obtain ⟨q, y⟩ := qy
            obtain ⟨m1, m2, m3, e', z', m4, m5, m6⟩ := hm
            refine ⟨m1, m2, by omega, e', z', ?_, ?_, m6⟩
            · have : p - i = (p - (i + 1)) + 1 := by omega
              rw [this]; simpa using m4
            · have : p - i = (p - (i + 1)) + 1 := by omega
              rw [this]; simpa using m5
      · simp only [hk, Option.some.injEq] at h
        subst h
        exact ⟨some (i, z.val), by simp only [Instr.findNow, hs], rfl, h2, Nat.le_refl _, e, z, by simp, by simp, hk⟩

theorem keyTy_scalar {P : Program} {kt : TypeId} {k : SK} {d : TypeDesc} (hu : P.underlying kt = some d) (hd : scalarD k d) : KeyTy P kt (.k k) := by
  refine ⟨fun ρ v x b w hv hx => ?_, fun ρ v x es xs r w hv hx he hf => ?_⟩
  · have : (Instr.checkKey b (9999 + 1) kt x).run P w = .ok () w := by
      generalize 9999 = n
      cases k <;> cases d <;> simp only [scalarD] at hd <;> simp [Instr.checkKey, run_underlying hu]
    exact this
  · obtain ⟨r', h1, h2⟩ := findNow_eq hd hx he hf
    refine ⟨r', by simp [Instr.findKey, run_underlying hu, h1], ?_⟩
    cases r with
    | none =>
      cases r' with
      | none => trivial
      | some _ => exact h2.elim
    | some pu =>
      obtain ⟨p, u⟩ := pu
      cases r' with
      | none => exact h2.elim
      | some qy =>
        obtain ⟨q, y⟩ := qy
        obtain ⟨m1, m2, m3, e', z', m4, m5, m6⟩ := h2
        exact ⟨m1, m2, e', z', by simpa using m4, by simpa using m5, m6⟩

/- flat records as keys -/
structure FlatKey (P : Program) (kt : TypeId) (sh : List SK) : Prop where
  wide : ∃ d, P.underlying kt = some d ∧ aggD d = true
  check : ∀ (ρ : Rho) (l : List V) (xs : List Value) (b : Bool) (w : World), fits sh l = true → vals ρ l = some xs → (Instr.checkKey b (9999 + 1) kt (.agg xs.toArray)).run P w = .ok () w
  equal : ∀ (ρ : Rho) (l m : List V) (xs ys : List Value) (w : World), fits sh l = true → fits sh m = true → vals ρ l = some xs → vals ρ m = some ys →
    (Op.equalIn (9999 + 1) kt (.agg xs.toArray) (.agg ys.toArray)).run P w = .ok (beqVs l m) w

theorem keyOk_agg {sh : List SK} {v : V} (h : keyOk (.a sh) v = true) : ∃ l, v = .agg l ∧ fits sh l = true := by
  cases v <;> simp only [keyOk] at h <;> first | exact ⟨_, rfl, h⟩ | (exfalso; cases h; done)
theorem keyEq_agg {sh : List SK} {u v : V} {b : Bool} (h : keyEq (.a sh) u v = some b) : ∃ l m, u = .agg l ∧ v = .agg m ∧ fits sh l = true ∧ fits sh m = true ∧ b = beqVs l m := by
  cases u <;> cases v <;> simp only [keyEq] at h <;> try (exfalso; cases h; done)
  rename_i l m
  simp only [bc_eq] at h
  split at h
  · rename_i h1
    split at h
    · rename_i h2
      simp only [Option.some.injEq] at h
      exact ⟨l, m, rfl, rfl, h1, h2, h.symm⟩
    · exact absurd h (by simp)
  · exact absurd h (by simp)

theorem findAsking_eq {P : Program} {kt : TypeId} {sh : List SK} (K : FlatKey P kt sh) {ρ : Rho} {v : V} {x : Value} (hx : val ρ v = some x) (w : World) : ∀ {es : List Ent} {xs : List MapEntry} {i : Nat} {r : Option (Nat × V)}, EntsR ρ es xs → findE (.a sh) v es i = some r →
    ∃ r' : Option (Nat × Value), (Instr.findAsking kt x xs i).run P w = .ok r' w ∧ match r, r' with
      | none, none => True
      | some (p, u), some (q, y) => p = q ∧ val ρ u = some y ∧ i ≤ p ∧ ∃ e z, es[p - i]? = some e ∧ xs[p - i]? = some z ∧ keyEq (.a sh) v e.key = some true
      | _, _ => False
  | [], [], i, r, .nil, h => by
    simp only [findE, Option.some.injEq] at h
    subst h
    exact ⟨none, rfl, trivial⟩
  | e :: es, z :: zs, i, r, .cons he hr, h => by
    simp only [findE] at h
    obtain ⟨h1, h2, h3⟩ := he
    cases hk : keyEq (.a sh) v e.key with
    | none => simp [hk] at h
    | some b =>
      obtain ⟨l, m, rfl, hkk, f1, f2, hb⟩ := keyEq_agg hk
      obtain ⟨ls, hls, rfl⟩ := OV_agg (.inr hx)
      rw [hkk] at h1
      obtain ⟨ms, hms, hz⟩ := OV_agg (.inr h1)
      have hs : (Op.equal kt (.agg ls.toArray) z.key).run P w = .ok b w := by
        rw [hz, hb]
        exact K.equal ρ l m ls ms w f1 f2 hls hms
      cases b
      · simp only [hk] at h
        obtain ⟨r', hr', hm⟩ := findAsking_eq K hx w hr h
        refine ⟨r', by simp only [Instr.findAsking, Sem.run_bind, hs, Result.andThen_ok, Bool.false_eq_true, if_false]; exact hr', ?_⟩
        cases r with
        | none =>
          cases r' with
          | none => trivial
          | some _ => exact hm.elim
        | some pu =>
          obtain ⟨p, u⟩ := pu
          cases r' with
          | none => exact hm.elim
          | some qy =>
            obtain ⟨q, y⟩ := qy
            obtain ⟨m1, m2, m3, e', z', m4, m5, m6⟩ := hm
            refine ⟨m1, m2, by omega, e', z', ?_, ?_, m6⟩
            · have : p - i = (p - (i + 1)) + 1 := by omega
              rw [this]; simpa using m4
            · have : p - i = (p - (i + 1)) + 1 := by omega
              rw [this]; simpa using m5
      · simp only [hk, Option.some.injEq] at h
        subst h
        exact ⟨some (i, z.val), by simp only [Instr.findAsking, Sem.run_bind, hs, Result.andThen_ok, if_true]; rfl, rfl, h2, Nat.le_refl _, e, z, by simp, by simp, hk⟩

theorem keyTy_flat {P : Program} {kt : TypeId} {sh : List SK} (K : FlatKey P kt sh) : KeyTy P kt (.a sh) := by
  obtain ⟨d, hu, hd⟩ := K.wide
  refine ⟨fun ρ v x b w hv hx => ?_, fun ρ v x es xs r w hv hx he hf => ?_⟩
  · obtain ⟨l, rfl, hl⟩ := keyOk_agg hv
    obtain ⟨ls, hls, rfl⟩ := OV_agg (.inr hx)
    exact K.check ρ l ls b w hl hls
  · obtain ⟨r', h1, h2⟩ := findAsking_eq K hx w he hf
    have hkey : (Instr.findKey kt x xs).run P w = .ok r' w := by
      obtain ⟨l, rfl, hl⟩ := keyOk_agg hv
      obtain ⟨ls, hls, rfl⟩ := OV_agg (.inr hx)
      cases xs with
      | nil =>
        simp only [Instr.findAsking, Sem.run_pure, Result.ok.injEq] at h1
        obtain ⟨rfl, _⟩ := h1
        simp [Instr.findKey, run_underlying hu, Instr.findNow]
      | cons z zs =>
        have hn : Instr.sameNow d (.agg ls.toArray) z.key = none := by cases d <;> simp only [aggD] at hd <;> first | rfl | (exfalso; cases hd; done)
        simp only [Instr.findKey, Sem.run_bind, run_underlying hu, Result.andThen_ok, Instr.findNow, hn]
        exact h1
    refine ⟨r', hkey, ?_⟩
    cases r with
    | none =>
      cases r' with
      | none => trivial
      | some _ => exact h2.elim
    | some pu =>
      obtain ⟨p, u⟩ := pu
      cases r' with
      | none => exact h2.elim
      | some qy =>
        obtain ⟨q, y⟩ := qy
        obtain ⟨m1, m2, m3, e', z', m4, m5, m6⟩ := h2
        exact ⟨m1, m2, e', z', by simpa using m4, by simpa using m5, m6⟩

/- the key that stays is the same key -/
theorem stays {ρ : Rho} {kk : KK} {u v : V} {x y : Value} (h : keyEq kk u v = some true) (hx : val ρ u = some x) (hy : val ρ v = some y) {P : Program} (w : World) : (Instr.keyThatStays y x).run P w = .ok x w := by
  have key : u = v ∧ Instr.sameBits 10000 x x = true := by
    cases kk with
    | k s =>
      simp only [keyEq, bc_eq] at h
      split at h
      · rename_i h1
        split at h
        · rename_i h2
          simp only [Option.some.injEq] at h
          exact ⟨(beqV_same h1 h2).1 h, sameBits_one h1 hx _⟩
        · exact absurd h (by simp)
      · exact absurd h (by simp)
    | a sh =>
      obtain ⟨l, m, rfl, rfl, h1, h2, hb⟩ := keyEq_agg h
      refine ⟨by rw [(beqVs_same h1 h2).1 hb.symm], ?_⟩
      obtain ⟨ls, hls, rfl⟩ := OV_agg (.inr hx)
      have := sameBits_many 9999 h1 hls
      show Instr.sameBits (9999 + 1) _ _ = true
      generalize 9999 = n at this
      simp only [Instr.sameBits, this, Bool.and_true]
      simp
  obtain ⟨rfl, hb⟩ := key
  rw [hx, Option.some.injEq] at hy
  subst hy
  simp [Instr.keyThatStays, hb]
end Go.Ev
namespace Go.Ev
variable [Sy]

section
variable {P : Program} {w0 : Bs} {w : World} {ρ : Rho} {s s' : S} {v : V} {a : Operand → Value} {o : Oper} {t : Tr} {call : CallT}

theorem onMap_ok {u : V} {k0 : OR} {k : Nat → List Ent → Nat → OR} (h : onMap s u k0 k = .ok v s') : (u = .nilmap ∧ k0 = .ok v s') ∨ ∃ r es c, u = .map r ∧ s.heap.get r = .map es c ∧ k r es c = .ok v s' := by
  cases u <;> simp only [onMap] at h
  case nilmap => exact .inl ⟨rfl, h⟩
  case map r =>
    rw [hget_eq] at h
    generalize hg : s.heap.get r = b at h
    cases b <;> simp only at h
    case map es c => exact .inr ⟨r, es, c, rfl, hg, h⟩
    all_goals exact absurd h (by simp)
  all_goals exact absurd h (by simp)

theorem Ok.mapAt (ok : Ok w0 ρ s w) {r : Nat} {p : Nat × Nat} {es : List Ent} {c : Nat} (hp : ρ r = some p) (hg : s.heap.get r = .map es c) : ∃ xs, w.heap[p.1]? = some (.map xs c) ∧ EntsR ρ es xs.toList := by
  obtain ⟨_, ob, hob, hrel⟩ := ok.blk r p hp (by rw [hg]; simp)
  rw [hg] at hrel
  obtain ⟨xs, rfl, he⟩ := hrel
  exact ⟨xs, hob, he⟩

theorem EntsR.length {es : List Ent} {xs : List MapEntry} (h : EntsR ρ es xs) : es.length = xs.length := by
  induction h with
  | nil => rfl
  | cons _ _ ih => simp [ih]

theorem onUni_ok {u : V} {d : OR} {k : List (V × V) → OR} (h : onUni s u d k = .ok v s') : d = .ok v s' ∨ ∃ r es, u = .map r ∧ s.heap.get r = .uni es ∧ k es = .ok v s' := by
  cases u <;> simp only [onUni] at h
  case map r =>
    rw [hget_eq] at h
    generalize hg : s.heap.get r = b at h
    cases b <;> simp only at h
    case uni es => exact .inr ⟨r, es, rfl, hg, h⟩
    all_goals exact .inl h
  all_goals exact .inl h
theorem lookU_ok {kk : KK} {k : V} : ∀ {ps : List (V × V)} {r : Option V}, lookU kk k ps = some r → (∀ p ∈ ps, ∃ b, keyEq kk k p.1 = some b) ∧ (ps.filter fun p => keyEq kk k p.1 == some true).map Prod.snd = r.toList
  | [], r, h => by
    simp only [lookU, Option.some.injEq] at h
    subst h
    exact ⟨by simp, rfl⟩
  | e :: es, r, h => by
    simp only [lookU] at h
    split at h
    · rename_i h1 h2
      obtain ⟨i1, i2⟩ := lookU_ok h1
      simp only [Option.some.injEq] at h
      subst h
      refine ⟨fun p hp => ?_, ?_⟩
      · rcases List.mem_cons.1 hp with rfl | hp
        · exact ⟨true, h2⟩
        · exact i1 p hp
      · rw [List.filter_cons_of_pos (by simp [h2]), List.map_cons, i2]; rfl
    · rename_i v h1 h2
      obtain ⟨i1, i2⟩ := lookU_ok h1
      simp only [Option.some.injEq] at h
      subst h
      refine ⟨fun p hp => ?_, ?_⟩
      · rcases List.mem_cons.1 hp with rfl | hp
        · exact ⟨false, h2⟩
        · exact i1 p hp
      · rw [List.filter_cons_of_neg (by simp [h2]), i2]
    · rename_i h1 h2
      obtain ⟨i1, i2⟩ := lookU_ok h1
      simp only [Option.some.injEq] at h
      subst h
      refine ⟨fun p hp => ?_, ?_⟩
      · rcases List.mem_cons.1 hp with rfl | hp
        · exact ⟨false, h2⟩
        · exact i1 p hp
      · rw [List.filter_cons_of_neg (by simp [h2]), i2]
    · exact absurd h (by simp)
theorem findE_of {kk : KK} {k : V} : ∀ {es : List Ent} {i : Nat} {r : Option V}, (∀ p ∈ es.map (fun e : Ent => (e.key, e.val)), ∃ b, keyEq kk k p.1 = some b) → ((es.map fun e : Ent => (e.key, e.val)).filter fun p => keyEq kk k p.1 == some true).map Prod.snd = r.toList →
    ∃ rr, findE kk k es i = some rr ∧ rr.map Prod.snd = r
  | [], i, r, h, hf => by
    cases r with
    | none => exact ⟨none, rfl, rfl⟩
    | some v => simp at hf
  | e :: es, i, r, h, hf => by
    obtain ⟨b, hb⟩ := h (e.key, e.val) (by simp)
    cases b with
    | true =>
      rw [List.map_cons, List.filter_cons_of_pos (by simp [hb]), List.map_cons] at hf
      refine ⟨some (i, e.val), by simp only [findE, hb], ?_⟩
      cases r with
      | none => simp at hf
      | some v => simp only [Option.toList_some, List.cons.injEq] at hf; simp [hf.1]
    | false =>
      rw [List.map_cons, List.filter_cons_of_neg (by simp [hb])] at hf
      obtain ⟨rr, h1, h2⟩ := findE_of (i := i + 1) (fun p hp => h p (by rw [List.map_cons]; exact List.mem_cons_of_mem _ hp)) hf
      exact ⟨rr, by simp only [findE, hb]; exact h1, h2⟩
theorem findU_ok {kk : KK} {k : V} {ps : List (V × V)} {es : List Ent} {r : Option V} (h : lookU kk k ps = some r) (hp : List.Perm (es.map fun e : Ent => (e.key, e.val)) ps) : ∃ rr, findE kk k es 0 = some rr ∧ rr.map Prod.snd = r := by
  obtain ⟨h1, h2⟩ := lookU_ok h
  refine findE_of (fun p hm => h1 p (hp.mem_iff.1 hm)) ?_
  have h3 := (hp.filter fun p => keyEq kk k p.1 == some true).map Prod.snd
  rw [h2] at h3
  cases r with
  | none => exact List.perm_nil.1 h3
  | some v => exact List.perm_singleton.1 h3
theorem Ok.uniAt (ok : Ok w0 ρ s w) {r : Nat} {p : Nat × Nat} {ps : List (V × V)} (hp : ρ r = some p) (hg : s.heap.get r = .uni ps) : ∃ xs c es, w.heap[p.1]? = some (.map xs c) ∧ List.Perm (es.map fun e : Ent => (e.key, e.val)) ps ∧ EntsR ρ es xs.toList := by
  obtain ⟨_, ob, hob, hrel⟩ := ok.blk r p hp (by rw [hg]; simp)
  rw [hg] at hrel
  obtain ⟨xs, c, es, rfl, he⟩ := hrel
  exact ⟨xs, c, es, hob, he⟩

theorem to_lkp {ty kt e : TypeId} {kk : KK} {i : TypeInfo} {zv : V} {z : Value} {x y : Operand} {cX cY : X} {okk : Bool} (ho : o.op = .lookup ty x y okk) (hu : P.underlying ty = some (.map kt e)) (hk : KeyTy P kt kk)
    (hi : P.info? e = some i) (hz : ZeroV i zv z) (ok : Ok w0 ρ s w) (hx : OV ρ (cX.ev t) (a x)) (hy : OV ρ (cY.ev t) (a y)) (h : o_lkp kk zv okk cX cY call t s = .ok v s') : To P w0 ρ s w (execOp a o) v s' := by
  obtain ⟨hko, h⟩ := bc_ok h
  have hyv : cY.ev t ≠ .undef := by
    intro hh; rw [hh] at hko
    cases kk with
    | k s => cases s <;> simp [keyOk, fitsK] at hko
    | a sh => simp [keyOk] at hko
  have hy := hy.get hyv
  rcases onUni_ok h with h | ⟨r, ps, hv, hg, h⟩
  case inr =>
    rw [hv] at hx
    obtain ⟨p, hp, hx⟩ := OV_map hx
    obtain ⟨xs, c, es, hob, hpm, he⟩ := ok.uniAt hp hg
    have hgo := getObj_run (P := P) hob (by simp)
    have hc := hk.check ρ _ _ xs.isEmpty w hko hy
    cases hfu : lookU kk (cY.ev t) ps with
    | none => simp [hfu] at h
    | some ru =>
    obtain ⟨rr, hfe, hru⟩ := findU_ok hfu hpm
    obtain ⟨r', hf, hm⟩ := hk.find ρ _ _ es xs.toList rr w hko hy he hfe
    cases rr with
    | none =>
      simp only [Option.map_none] at hru
      subst hru
      simp only [hfu] at h
      obtain ⟨rfl, rfl⟩ := lkpR_ok h
      cases r' with
      | some _ => exact hm.elim
      | none =>
        refine To.got ok ?_ (lkp_val (hz.val ρ))
        cases okk <;> simp [execOp, ho, hx, Instr.lookup, run_underlying hu, hgo, hc, hf, run_zeroValue hi hz.zero]
    | some pu =>
      obtain ⟨q, u⟩ := pu
      simp only [Option.map_some] at hru
      subst hru
      simp only [hfu] at h
      obtain ⟨rfl, rfl⟩ := lkpR_ok h
      cases r' with
      | none => exact hm.elim
      | some qy =>
        obtain ⟨q', y'⟩ := qy
        obtain ⟨_, hval, _⟩ := hm
        refine To.got ok ?_ (lkp_val hval)
        cases okk <;> simp [execOp, ho, hx, Instr.lookup, run_underlying hu, hgo, hc, hf]
  rcases onMap_ok h with ⟨hv, h⟩ | ⟨r, es, c, hv, hg, h⟩
  · rw [hv] at hx
    have hx := OV_nilmap hx
    obtain ⟨rfl, rfl⟩ := lkpR_ok h
    have hc := hk.check ρ _ _ true w hko hy
    obtain ⟨r', hf, hm⟩ := hk.find ρ _ _ [] [] none w hko hy .nil rfl
    cases r' with
    | some _ => exact hm.elim
    | none =>
      refine To.got ok ?_ (lkp_val (hz.val ρ))
      cases okk <;> simp [execOp, ho, hx, Instr.lookup, run_underlying hu, hc, hf, run_zeroValue hi hz.zero]
  · rw [hv] at hx
    obtain ⟨p, hp, hx⟩ := OV_map hx
    obtain ⟨xs, hob, he⟩ := ok.mapAt hp hg
    have hgo := getObj_run (P := P) hob (by simp)
    have hc := hk.check ρ _ _ xs.isEmpty w hko hy
    cases hfe : findE kk (cY.ev t) es 0 with
    | none => simp [hfe] at h
    | some rr =>
      obtain ⟨r', hf, hm⟩ := hk.find ρ _ _ es xs.toList rr w hko hy he hfe
      cases rr with
      | none =>
        simp only [hfe] at h
        obtain ⟨rfl, rfl⟩ := lkpR_ok h
        cases r' with
        | some _ => exact hm.elim
        | none =>
          refine To.got ok ?_ (lkp_val (hz.val ρ))
          cases okk <;> simp [execOp, ho, hx, Instr.lookup, run_underlying hu, hgo, hc, hf, run_zeroValue hi hz.zero]
      | some pu =>
        obtain ⟨q, u⟩ := pu
        simp only [hfe] at h
        obtain ⟨rfl, rfl⟩ := lkpR_ok h
        cases r' with
        | none => exact hm.elim
        | some qy =>
          obtain ⟨q', y'⟩ := qy
          obtain ⟨_, hval, _⟩ := hm
          refine To.got ok ?_ (lkp_val hval)
          cases okk <;> simp [execOp, ho, hx, Instr.lookup, run_underlying hu, hgo, hc, hf]

theorem EntsR.set {kv vv : V} {kx vx : Value} (hk : val ρ kv = some kx) (hv : val ρ vv = some vx) : ∀ {es : List Ent} {xs : List MapEntry} (n : Nat), EntsR ρ es xs → EntsR ρ (setEnt kv vv n es) (xs.modify n fun e => { e with key := kx, val := vx })
  | [], [], n, .nil => by simpa [setEnt] using EntsR.nil
  | e :: es, x :: xs, 0, .cons ⟨_, _, h3⟩ ht => by
    simpa [setEnt] using EntsR.cons (e := ⟨kv, vv, e.born⟩) (x := { key := kx, val := vx, born := x.born }) ⟨hk, hv, h3⟩ ht
  | e :: es, x :: xs, n + 1, .cons h1 ht => by simpa [setEnt] using EntsR.cons h1 (EntsR.set hk hv n ht)
theorem EntsR.key {es : List Ent} {xs : List MapEntry} (h : EntsR ρ es xs) : ∀ {q : Nat} {e : Ent} {z : MapEntry}, es[q]? = some e → xs[q]? = some z → val ρ e.key = some z.key ∧ val ρ e.val = some z.val ∧ e.born = z.born := by
  induction h with
  | nil => intro q e z h1; simp at h1
  | cons hh _ ih =>
    intro q e z h1 h2
    cases q with
    | zero => simp only [List.getElem?_cons_zero, Option.some.injEq] at h1 h2; subst h1 h2; exact hh
    | succ q => exact ih (by simpa using h1) (by simpa using h2)
theorem EntsR.append {es es' : List Ent} {xs xs' : List MapEntry} (h : EntsR ρ es xs) (h' : EntsR ρ es' xs') : EntsR ρ (app es es') (xs ++ xs') := by
  induction h with
  | nil => exact h'
  | cons h1 _ ih => exact EntsR.cons h1 ih

theorem to_mup {ty kt e : TypeId} {kk : KK} {x y z : Operand} {cX cY cZ : X} (ho : o.op = .mapUpdate ty x y z ∨ o.op = .insert ty x y z) (hu : P.underlying ty = some (.map kt e)) (hk : KeyTy P kt kk)
    (ok : Ok w0 ρ s w) (hx : OV ρ (cX.ev t) (a x)) (hy : OV ρ (cY.ev t) (a y)) (hz : OV ρ (cZ.ev t) (a z)) (h : o_mup kk cX cY cZ call t s = .ok v s') : To P w0 ρ s w (execOp a o) v s' := by
  obtain ⟨hd, h⟩ := bc_ok h
  obtain ⟨hko, h⟩ := bc_ok h
  have hyv : cY.ev t ≠ .undef := by
    intro hh; rw [hh] at hko
    cases kk with
    | k s => cases s <;> simp [keyOk, fitsK] at hko
    | a sh => simp [keyOk] at hko
  have hzv : cZ.ev t ≠ .undef := by intro hh; rw [hh] at hd; simp [dfn] at hd
  have hy := hy.get hyv
  have hz := hz.get hzv
  have hexec : execOp a o = (do Instr.mapUpdate ty (a x) (a y) (a z); pure .skip) := by
    rcases ho with ho | ho <;> simp [execOp, ho]
  rcases onMap_ok h with ⟨hv, h⟩ | ⟨r, es, c, hv, hg, h⟩
  · exact absurd h (by simp)
  · rw [hv] at hx
    obtain ⟨p, hp, hx⟩ := OV_map hx
    obtain ⟨xs, hob, he⟩ := ok.mapAt hp hg
    have hgo := getObj_run (P := P) hob (by simp)
    have hc := hk.check ρ _ _ false w hko hy
    cases hfe : findE kk (cY.ev t) es 0 with
    | none => simp [hfe] at h
    | some rr =>
      obtain ⟨r', hf, hm⟩ := hk.find ρ _ _ es xs.toList rr w hko hy he hfe
      cases rr with
      | none =>
        simp only [hfe, setB_eq, OR.ok.injEq] at h
        obtain ⟨rfl, rfl⟩ := h
        cases r' with
        | some _ => exact hm.elim
        | none =>
          have hset := setObj_at (x := .map (xs.push { key := a y, val := a z, born := c }) (c + 1)) hob
          have hso := setObj_run (P := P) (x := .map (xs.push { key := a y, val := a z, born := c }) (c + 1)) hob (by simp)
          obtain ⟨ok', po⟩ := ok.set hp (by rw [hg]; simp) (x := .map (app es [⟨cY.ev t, cZ.ev t, c⟩]) (c + 1)) ⟨_, rfl, by
            have := EntsR.append he (EntsR.cons (e := ⟨cY.ev t, cZ.ev t, c⟩) (x := { key := a y, val := a z, born := c }) ⟨hy, hz, rfl⟩ .nil)
            simpa using this⟩ hset
          refine To.skip ok' po ?_
          rw [hexec]
          simp [hx, Instr.mapUpdate, run_underlying hu, hgo, hc, hf, hso]
      | some pu =>
        obtain ⟨q, u⟩ := pu
        simp only [hfe, setB_eq, OR.ok.injEq] at h
        obtain ⟨rfl, rfl⟩ := h
        cases r' with
        | none => exact hm.elim
        | some qy =>
          obtain ⟨q', y'⟩ := qy
          obtain ⟨rfl, _, e', z', h1, h2, h3⟩ := hm
          have hkey := (he.key h1 h2).1
          have hst := stays (P := P) h3 hy hkey w
          have hz2 : xs[q]? = some z' := by simpa using h2
          have hset := setObj_at (x := .map (xs.modify q fun e => { e with key := a y, val := a z }) c) hob
          have hso := setObj_run (P := P) (x := .map (xs.modify q fun e => { e with key := a y, val := a z }) c) hob (by simp)
          obtain ⟨ok', po⟩ := ok.set hp (by rw [hg]; simp) (x := .map (setEnt (cY.ev t) (cZ.ev t) q es) c) ⟨_, rfl, by
            have := EntsR.set hy hz q he
            simpa [Array.toList_modify] using this⟩ hset
          refine To.skip ok' po ?_
          rw [hexec]
          simp [hx, Instr.mapUpdate, run_underlying hu, hgo, hc, hf, hz2, hst, hso]
end
end Go.Ev
namespace Go.Ev
variable [Sy]

section
variable {P : Program} {w0 : Bs} {w : World} {ρ : Rho} {s s' : S} {v : V} {a : Operand → Value} {o : Oper} {t : Tr} {call : CallT}

theorem to_rangeM {ty k e : TypeId} {x : Operand} {cX : X} (ho : o.op = .range ty x) (hu : P.underlying ty = some (.map k e)) (ok : Ok w0 ρ s w) (hx : OV ρ (cX.ev t) (a x)) (h : o_rangeM cX call t s = .ok v s') :
    To P w0 ρ s w (execOp a o) v s' := by
  rcases onMap_ok h with ⟨hv, h⟩ | ⟨r, es, c, hv, hg, h⟩
  · rw [hv] at hx
    have hx := OV_nilmap hx
    simp only [news_eq, OR.ok.injEq] at h
    obtain ⟨rfl, rfl⟩ := h
    obtain ⟨ok', po⟩ := ok.add .mnil (.mapIter none 0 #[] 0) 0 ⟨_, _, _, rfl⟩
    exact To.new ok' po (x := .pointer (some ⟨w.heap.size, 0, none⟩)) (by simp [execOp, ho, hx, Instr.range, run_underlying hu]) (by simp [val, rho_set])
  · rw [hv] at hx
    obtain ⟨p, hp, hx⟩ := OV_map hx
    obtain ⟨xs, hob, he⟩ := ok.mapAt hp hg
    have hgo := getObj_run (P := P) hob (by simp)
    simp only [news_eq, OR.ok.injEq] at h
    obtain ⟨rfl, rfl⟩ := h
    obtain ⟨ok', po⟩ := ok.add (.miter r c [] c) (.mapIter (some p.1) c #[] c) 0 ⟨p, hp, rfl⟩
    exact To.new ok' po (x := .pointer (some ⟨w.heap.size, 0, none⟩)) (by simp [execOp, ho, hx, Instr.range, run_underlying hu, hgo]) (by simp [val, rho_set])

theorem to_nextM {x : Operand} {cX : X} (ho : o.op = .next x false) (ok : Ok w0 ρ s w) (hx : OV ρ (cX.ev t) (a x)) (h : o_nextM cX call t s = .ok v s') :
    To P w0 ρ s w (execOp a o) v s' := by
  obtain ⟨b, hb, h⟩ := ptr0_ok h
  rw [hb] at hx
  obtain ⟨p, hp, hx⟩ := OV_ptr hx
  rw [hget_eq] at h
  generalize hg : s.heap.get b = blk at h
  cases blk <;> simp only [nextM] at h
  case mnil =>
    obtain ⟨_, ob, hob, hrel⟩ := ok.blk b p hp (by rw [hg]; simp)
    rw [hg] at hrel
    obtain ⟨a1, a2, a3, rfl⟩ := hrel
    have hgo := getObj_run (P := P) hob (by simp)
    simp only [OR.ok.injEq] at h
    obtain ⟨rfl, rfl⟩ := h
    exact To.got ok (x := .tuple #[.bool false]) (by simp [execOp, ho, hx, Instr.next, hgo]) (by simp [val, vals])
  case miter m since seen stepped =>
    obtain ⟨_, ob, hob, hrel⟩ := ok.blk b p hp (by rw [hg]; simp)
    rw [hg] at hrel
    obtain ⟨r, hr, rfl⟩ := hrel
    have hgo := getObj_run (P := P) hob (by simp)
    rw [hget_eq] at h
    generalize hgm : s.heap.get m = mb at h
    cases mb <;> try simp only at h
    case map es c =>
      obtain ⟨xs, hobm, he⟩ := ok.mapAt hr hgm
      have hgom := getObj_run (P := P) hobm (by simp)
      cases es with
      | nil =>
        simp only [OR.ok.injEq] at h
        obtain ⟨rfl, rfl⟩ := h
        have hxs : xs = #[] := by
          have := he.length
          exact Array.eq_empty_of_size_eq_zero (by simpa using this.symm)
        subst hxs
        exact To.got ok (x := .tuple #[.bool false]) (by simp [execOp, ho, hx, Instr.next, hgo, hgom, Question.forced]) (by simp [val, vals])
      | cons e es =>
        cases es with
        | cons e2 es => simp at h
        | nil =>
          have hlen := he.length
          obtain ⟨z, hz⟩ : ∃ z, xs = #[z] := by
            have h1 : xs.size = 1 := by simpa using hlen.symm
            exact Array.size_eq_one_iff.1 h1
          subst hz
          obtain ⟨hk, hvv, hborn⟩ := he.key (q := 0) (e := e) (z := z) (by simp) (by simp)
          cases seen with
          | nil =>
            simp only at h
            obtain ⟨h1, h⟩ := bc_ok h
            rw [setB_eq] at h
            simp only [OR.ok.injEq] at h
            obtain ⟨rfl, rfl⟩ := h
            simp only [blt_eq', decide_eq_true_eq] at h1
            rw [hborn] at h1
            have hnge : ¬ (since ≤ z.born) := by omega
            have hset := setObj_at (x := .mapIter (some r.1) since #[z.born] c) hob
            have hso := setObj_run (P := P) (x := .mapIter (some r.1) since #[z.born] c) hob (by simp)
            obtain ⟨ok', po⟩ := ok.set hp (by rw [hg]; simp) (x := .miter m since [e.born] c) (o := .mapIter (some r.1) since #[z.born] c) ⟨r, hr, by rw [hborn]⟩ hset
            refine To.new ok' po (x := .tuple #[.bool true, z.key, z.val]) ?_ (by simp [val, vals, hk, hvv])
            simp [execOp, ho, hx, Instr.next, hgo, hgom, h1, hnge, Question.forced, hso]
          | cons q seen =>
          cases seen with
            | cons _ _ => simp at h
            | nil =>
              simp only at h
              obtain ⟨h1, h⟩ := bc_ok h
              obtain ⟨h2, h⟩ := bc_ok h
              simp only [OR.ok.injEq] at h
              obtain ⟨rfl, rfl⟩ := h
              simp only [beq_eq, blt_eq', decide_eq_true_eq] at h1 h2
              rw [hborn] at h1 h2
              subst h1
              have hnge : ¬ (stepped ≤ z.born) := by omega
              exact To.got ok (x := .tuple #[.bool false]) (by simp [execOp, ho, hx, Instr.next, hgo, hgom, hnge, Question.forced]) (by simp [val, vals])
    all_goals exact absurd h (by simp)
  all_goals exact absurd h (by simp)

theorem findBorn_eq {es : List Ent} {xs : List MapEntry} (h : EntsR ρ es xs) : ∀ {q : Nat} {e : Ent}, findBorn q es = some e → ∃ z, xs.find? (fun y => y.born == q) = some z ∧ val ρ e.key = some z.key ∧ val ρ e.val = some z.val := by
  induction h with
  | nil => intro q e hfe; simp [findBorn] at hfe
  | @cons e1 x1 es1 xs1 hh _ ih =>
    intro q e hfe
    obtain ⟨k1, k2, k3⟩ := hh
    simp only [findBorn, bc_eq, beq_eq, decide_eq_true_eq] at hfe
    by_cases hq : e1.born = q
    · rw [if_pos hq, Option.some.injEq] at hfe
      subst hfe
      exact ⟨x1, by simp [List.find?, ← k3, hq], k1, k2⟩
    · rw [if_neg hq] at hfe
      obtain ⟨z, hz, h5, h6⟩ := ih hfe
      refine ⟨z, ?_, h5, h6⟩
      have : (x1.born == q) = false := by rw [← k3]; simpa using hq
      simp [List.find?, this, hz]
theorem lastN_none : ∀ {l : List Nat}, lastN l = none → l = []
  | [], _ => rfl
  | q :: l, h => by
    simp only [lastN] at h
    split at h <;> exact absurd h (by simp)
theorem lastN_back : ∀ {l : List Nat} {q : Nat}, lastN l = some q → l.getLast? = some q
  | [], q, h => by simp [lastN] at h
  | a :: l, q, h => by
    simp only [lastN] at h
    split at h
    · rename_i h1
      have := lastN_none h1
      subst this
      simpa using h
    · rename_i r h1
      rw [Option.some.injEq] at h; subst h
      rw [List.getLast?_cons, lastN_back h1]; rfl
theorem to_entM {x : Operand} {cX : X} (ho : o.op = .entry x) (ok : Ok w0 ρ s w) (hx : OV ρ (cX.ev t) (a x)) (h : o_entM cX call t s = .ok v s') :
    To P w0 ρ s w (execOp a o) v s' := by
  obtain ⟨b, hb, h⟩ := ptr0_ok h
  rw [hb] at hx
  obtain ⟨p, hp, hx⟩ := OV_ptr hx
  rw [hget_eq] at h
  generalize hg : s.heap.get b = blk at h
  cases blk <;> simp only [entM] at h
  case miter m since seen stepped =>
    obtain ⟨_, ob, hob, hrel⟩ := ok.blk b p hp (by rw [hg]; simp)
    rw [hg] at hrel
    obtain ⟨r, hr, rfl⟩ := hrel
    have hgo := getObj_run (P := P) hob (by simp)
    obtain ⟨q, hq, h⟩ := onSome_ok h
    have hback : seen.getLast? = some q := lastN_back hq
    simp only [hget_eq] at h
    generalize hgm : s.heap.get m = mb at h
    cases mb <;> try simp only at h
    case map es c =>
      obtain ⟨xs, hobm, he⟩ := ok.mapAt hr hgm
      have hgom := getObj_run (P := P) hobm (by simp)
      obtain ⟨h1, h⟩ := bc_ok h
      obtain ⟨e, hfe, h⟩ := onSome_ok h
      simp only [OR.ok.injEq] at h
      obtain ⟨rfl, rfl⟩ := h
      simp only [beq_eq, decide_eq_true_eq] at h1
      subst h1
      have hfind := findBorn_eq he hfe
      rw [Array.find?_toList] at hfind
      obtain ⟨z, hz, h5, h6⟩ := hfind
      exact To.got ok (x := .tuple #[z.key, z.val]) (by simp [execOp, ho, hx, Instr.entry, hgo, hgom, hz, hback]) (by simp [val, vals, h5, h6])
    all_goals exact absurd h (by simp)
  all_goals exact absurd h (by simp)
end
end Go.Ev
namespace Go.Ev
variable [Sy]

section
variable {P : Program} {w0 : Bs} {w : World} {ρ : Rho} {s s' : S} {v : V} {a : Operand → Value} {o : Oper} {t : Tr} {call : CallT}

theorem toNats_vals : ∀ {l : List V} {m : List Nat} {xs : List Value}, toNats l = some m → vals ρ l = some xs → okX m = true ∧ xs = ((chs m).map fun n : Nat => (n : Int)).map (Value.int .u8)
  | [], m, xs, h, hx => by
    simp only [toNats, Option.some.injEq] at h; subst h
    rw [vals_nil] at hx; subst hx; exact ⟨rfl, rfl⟩
  | u :: l, m, xs, h, hx => by
    obtain ⟨y, ys, rfl, hy, hys⟩ := vals_cons.1 hx
    unfold toNats at h
    split at h
    · rename_i hh; cases hh
    · rename_i n l' hh
      cases hh
      split at h
      · rename_i m' hm
        rw [bc_eq] at h
        split at h
        · rename_i h8
          simp only [Option.some.injEq] at h
          subst h
          obtain ⟨i1, i2⟩ := toNats_vals hm hys
          rw [blt_eq', decide_eq_true_eq] at h8
          rcases lit_cases n with ⟨h1, _, h3⟩ | ⟨_, h4, _⟩
          · refine ⟨okX_cons.2 ⟨by unfold okC; rw [h1]; rfl, i1⟩, ?_⟩
            simp only [val, Option.some.injEq] at hy
            rw [i2, ← hy]
            show _ = Value.int .u8 ((ch n : Nat) : Int) :: _
            rw [h3]; rfl
          · omega
        · exact absurd h (by simp)
      · exact absurd h (by simp)
    · rename_i i l' hh
      cases hh
      split at h
      · rename_i m' hm
        rw [bc_eq] at h
        split at h
        · rename_i h8
          simp only [Option.some.injEq] at h
          subst h
          obtain ⟨i1, i2⟩ := toNats_vals hm hys
          have hlt : Nat.blt (Nat.add 1000 i) 256 = false := by
            rw [blt_eq']; exact decide_eq_false (by show ¬ 1000 + i < 256; omega)
          refine ⟨okX_cons.2 ⟨h8, i1⟩, ?_⟩
          have hs := sym_ch h8 hlt
          rw [show Nat.add 1000 i - 1000 = i by show 1000 + i - 1000 = i; omega] at hs
          simp only [val, Option.some.injEq] at hy
          rw [i2, ← hy]
          show _ = Value.int .u8 ((ch (Nat.add 1000 i) : Nat) : Int) :: _
          rw [hs]; rfl
        · exact absurd h (by simp)
      · exact absurd h (by simp)
    · exact absurd h (by simp)

theorem fold_bytes : ∀ (m : List Nat) (b : ByteArray), (m.map fun n : Nat => (n : Int)).foldl (fun r n => r.push (UInt8.ofNat n.toNat)) b = b ++ bytesOf m
  | [], b => by
    apply ByteArray.ext; simp [bytesOf]
  | n :: m, b => by
    simp only [List.map_cons, List.foldl_cons, Int.toNat_natCast]
    rw [fold_bytes m]
    apply ByteArray.ext
    apply Array.ext'
    simp [bytesOf]

theorem to_toStr {src dst e : TypeId} {x : Operand} {cX : X} (ho : o.op = .convert src dst x) (hs : P.underlying src = some (.slice e)) (he : P.underlying e = some (.int .u8)) (hd : P.underlying dst = some .string)
    (ok : Ok w0 ρ s w) (hx : OV ρ (cX.ev t) (a x)) (h : o_toStr cX call t s = .ok v s') : To P w0 ρ s w (execOp a o) v s' := by
  obtain ⟨base, ly, cap, ys, xs, hyv, hyl, h, hys, oys, hrun, _⟩ := rdSl_ok (P := P) ok hx h
  obtain ⟨l, hl, h⟩ := onSome_ok h
  simp only [OR.ok.injEq] at h
  obtain ⟨rfl, rfl⟩ := h
  obtain ⟨hsm, hxs⟩ := toNats_vals hl hys
  have hr := hrun w rfl
  refine To.got ok (x := .string (bytesOf (chs l))) ?_ (by simp [val, hsm])
  have hconv := run_convert_bytes_string (P := P) w src dst e base ly cap hs he hd
  have hb : (Conv.bytesToString (.slice base ly cap)).run P w = .ok (.string (bytesOf (chs l))) w := by
    rw [hyv] at hr
    cases base with
    | none =>
      simp only [Builtin.firstCells, Sem.run_pure, Result.ok.injEq, and_true] at hr
      have h0 : xs = [] := by simpa using congrArg Array.toList hr.symm
      have hl0 : chs l = [] := by
        rw [h0] at hxs
        simpa using hxs.symm
      rw [hl0]
      rfl
    | some q =>
      simp only [Builtin.firstCells, Nat.mul_one] at hr
      rw [hxs] at hr
      rw [run_bytesToString w q ly cap _ hr, fold_bytes]
      congr 2
  simp [execOp, ho, hyv, hconv, hb]

theorem alloc_last (w : World) (x : Obj) : (w.alloc x).heap[w.heap.size]? = some x := by
  show (w.heap.push x)[w.heap.size]? = some x
  simp
theorem push_modify {α : Type} (a : Array α) (x : α) (f : α → α) : (a.push x).modify a.size f = a.push (f x) := by
  apply Array.ext
  · simp
  · intro i h1 h2
    simp only [Array.getElem_modify, Array.getElem_push]
    by_cases hi : i < a.size
    · simp [hi]; omega
    · have : a.size = i := by simp at h2; omega
      simp [this]
theorem freeze_alloc (w : World) (c : Array Value) (e : TypeId) (n : Nat) : (w.alloc (.cells c e)).freeze ⟨w.heap.size, n, none⟩ 1 = w.alloc (.cells c e (n, n + 1)) := by
  have hne : ¬ (1 = 0) := by decide
  simp only [World.freeze, hne, if_false, World.alloc]
  congr 1
  rw [push_modify]
  rfl
theorem ofNats_vals (ρ : Rho) : ∀ (l : List Nat), okX l = true → vals ρ (ofNats l) = some ((chs l).map fun n : Nat => Value.int .u8 (n : Int)) ∧ allOne (ofNats l) = true ∧ (ofNats l).length = l.length
  | [], _ => ⟨by simp [ofNats, vals, chs], rfl, rfl⟩
  | n :: l, h => by
    rw [okX_cons] at h
    obtain ⟨h1, h2, h3⟩ := ofNats_vals ρ l h.2
    refine ⟨vals_cons.2 ⟨_, _, rfl, chV_val h.1 ρ, h1⟩, ?_, by simp [ofNats, h3]⟩
    simp [ofNats, allOne, chV_one, bc, h2]
theorem to_toBytes {src dst e : TypeId} {x : Operand} {cX : X} (ho : o.op = .convert src dst x) (hs : P.underlying src = some .string) (he : P.underlying e = some (.int .u8)) (hd : P.underlying dst = some (.slice e))
    (ok : Ok w0 ρ s w) (hx : OV ρ (cX.ev t) (a x)) (h : o_toBytes cX call t s = .ok v s') : To P w0 ρ s w (execOp a o) v s' := by
  obtain ⟨l, hl, h⟩ := onStr_ok h
  rw [hl] at hx
  obtain ⟨sm, hx⟩ := OV_str hx
  simp only [nat_eq, news_eq, OR.ok.injEq] at h
  obtain ⟨rfl, rfl⟩ := h
  obtain ⟨h1, h2, h3⟩ := ofNats_vals ρ l sm
  have sm := small_chs sm
  have hml : l.length = (chs l).length := (chs_length l).symm
  obtain ⟨m, hm⟩ : ∃ m, m = chs l := ⟨_, rfl⟩
  rw [← hm] at h1 sm hml hx
  have hsz := bytesOf_size m
  have hdata : ((bytesOf m).data.map fun b : UInt8 => Value.int .u8 b.toNat).toList = m.map fun n : Nat => Value.int .u8 (n : Int) := by
    rw [Array.toList_map, bytesOf_list, List.map_map]
    apply List.map_congr_left
    intro n hn
    have : n < 256 := by
      simp only [small, List.all_eq_true] at sm
      simpa [blt_eq'] using sm n hn
    simp only [Function.comp, UInt8.toNat_ofNat']
    congr 2; omega
  generalize hcap : (Question.appendCap (bytesOf m).size 0 e).cut (w.tape w.drawn (.appendCap (bytesOf m).size 0 e)) = cap
  have hcap' : m.length ≤ cap := by
    rw [← hcap, hsz]; simp only [Question.cut]; omega
  have hrow : BRel ρ cap (.ro (wr .leaf 0 (ofNats l))) (.cells (((bytesOf m).data.map fun b : UInt8 => Value.int .u8 b.toNat) ++ Array.replicate (cap - (bytesOf m).size) (Value.int .u8 0)) e (cap, cap + 1)) := by
    have hss : (((bytesOf m).data.map fun b : UInt8 => Value.int .u8 b.toNat) ++ Array.replicate (cap - (bytesOf m).size) (Value.int .u8 0)).size = cap := by
      have : (bytesOf m).data.size = m.length := hsz
      simp [hsz, this]; omega
    have := cellsR_new (e := e) h1 h2 (Array.replicate (cap - (bytesOf m).size) (Value.int .u8 0)) (0, 0) (fun i _ => by simp)
    have e1 : ((m.map fun n : Nat => Value.int .u8 (n : Int)).toArray) = ((bytesOf m).data.map fun b : UInt8 => Value.int .u8 b.toNat) := by
      apply Array.ext'; rw [hdata]
    rw [e1, hss] at this
    obtain ⟨arr, e2, fz, ho, hn, _, hc⟩ := this
    simp only [Obj.cells.injEq] at ho
    obtain ⟨rfl, rfl, rfl⟩ := ho
    exact ⟨_, _, _, rfl, hss, hc⟩
  obtain ⟨ok', po⟩ := ok.drew.add _ _ _ hrow
  refine To.new ok' po (x := .slice (some ⟨w.heap.size, 0, none⟩) (bytesOf m).size cap) ?_ (by
    have hs' : w.drew.heap.size = w.heap.size := rfl
    simp only [val, rho_set, Option.bind_some, hs']
    rw [if_pos ⟨by rw [lenN_eq]; omega, by decide, Nat.one_dvd _, Nat.one_dvd _⟩, hsz, lenN_eq, hml]
    simp)
  have hf : (Question.appendCap (bytesOf m).size 0 e).forced = false := rfl
  simp [execOp, ho, hx, convert, run_underlying hs, run_underlying hd, run_underlying he, Conv.stringToBytes, hf, hcap, newRow, markStringish]
  have hsh : (w.drew.alloc (.cells (((bytesOf m).data.map fun b : UInt8 => Value.int .u8 b.toNat) ++ Array.replicate (cap - (bytesOf m).size) (Value.int .u8 0)) e)).shape? w.heap.size = some (e, cap) := by
    have hlast : (w.drew.alloc (.cells (((bytesOf m).data.map fun b : UInt8 => Value.int .u8 b.toNat) ++ Array.replicate (cap - (bytesOf m).size) (Value.int .u8 0)) e)).heap[w.heap.size]? = some _ := alloc_last w.drew _
    have : (bytesOf m).data.size = m.length := hsz
    rw [World.shape?, hlast]
    simp [hsz, this]; omega
  rw [hsh]
  simp only [run_freeze, Result.andThen_ok]
  congr 1
  exact freeze_alloc w.drew _ e cap
end
end Go.Ev
namespace Go.Ev
variable [Sy]

section
variable {P : Program} {w0 : Bs} {w : World} {ρ : Rho} {s s' : S} {v : V} {a : Operand → Value} {o : Oper} {t : Tr} {call : CallT}

/- a store into a slice -/
theorem OV_anySlice {u : V} {x : Value} (h : OV ρ u x) {b q l : Nat} (hu : (∃ c, u = .slice b q l c) ∨ ∃ e, u = .fsl e b q l) : ∃ p cap, ρ b = some p ∧ x = .slice (some ⟨p.1, q, none⟩) l cap := by
  rcases hu with ⟨c, rfl⟩ | ⟨e, rfl⟩
  · obtain ⟨_, p, hp, hx⟩ := OV_slice h; exact ⟨p, _, hp, hx⟩
  · obtain ⟨p, hp, _, hx⟩ := OV_fsl h; exact ⟨p, _, hp, hx⟩

theorem allOne_take {l : List V} (h : allOne l = true) (n : Nat) : allOne (l.take n) = true := by
  rw [allOne_iff] at *
  exact fun x hx => h x (List.mem_of_mem_take hx)

theorem to_copy {x y : Operand} {cX cY : X} {dt e : TypeId} {st : TypeId} {i : TypeInfo} (ho : o.op = .call { callee := .builtin .copy, args := #[x, y], argTypes := #[dt, st] }) (hd : P.underlying dt = some (.slice e)) (hi : P.info? e = some i)
    (ok : Ok w0 ρ s w) (hx : OV ρ (cX.ev t) (a x)) (hy : OV ρ (cY.ev t) (a y)) (h : o_copy i.size cX cY call t s = .ok v s') : To P w0 ρ s w (execOp a o) v s' := by
  obtain ⟨ybase, ly, ycap, ys, bs, hyv, hyl, h, hys, oys, _, hyrun⟩ := rdSl_ok (P := P) ok hy h
  have key : ∀ b q l : Nat, ((∃ c, cX.ev t = .slice b q l c) ∨ ∃ e, cX.ev t = .fsl e b q l) → store s b q (takeL (Nat.mul (minN ly l) i.size) ys) (fun s => .ok (.int .i64 (.ofNat (minN ly l))) s) = .ok v s' → To P w0 ρ s w (execOp a o) v s' := by
    intro b q l hu h
    obtain ⟨p, cap, hp, hxv⟩ := OV_anySlice hx hu
    obtain ⟨c, hc, hw, h⟩ := store_ok h
    simp only [OR.ok.injEq] at h
    obtain ⟨rfl, rfl⟩ := h
    have e1 : Nat.mul (minN ly l) i.size = min ly l * i.size := by rw [minN_eq]; rfl
    rw [takeL_eq, e1] at hw ⊢
    obtain ⟨arr, e', fz, r⟩ := ok.row hp hc
    obtain ⟨w', arr', hrun, ok', po, _⟩ := Row.stores P q _ _ 0 s w c arr r ok (vals_take (n := min ly l * i.size) hys) hw
    refine To.new ok' po (x := .int .i64 ((min ly l : Nat) : Int)) ?_ (by rw [minN_eq]; rfl)
    have hr := hyrun (min ly l) (Nat.min_le_left _ _)
    have hmin : Nat.min ly l = min ly l := rfl
    rw [hyv] at hr
    simp [execOp, ho, resolve, invoke, builtin, Builtin.copy_, hxv, hyv, run_underlying hd, run_sizeOf hi, Builtin.lenOf, hmin, hr, hrun, goInt]
  generalize hcx : cX.ev t = vx at h key
  cases vx <;> simp only [nat_eq] at h
  case slice b q l c => exact key b q l (.inl ⟨c, rfl⟩) h
  case fsl e' b q l => exact key b q l (.inr ⟨e', rfl⟩) h
  all_goals exact absurd h (by simp)

theorem zeroCells_list (z : Array Value) (n : Nat) : (Builtin.zeroCells z n).toList = repL z.toList n := range_rep z n

theorem to_clear {x : Operand} {cX : X} {dt e : TypeId} {i : TypeInfo} {zs : List V} {z : Value} (ho : o.op = .call { callee := .builtin .clear, args := #[x], argTypes := #[dt] }) (hd : P.underlying dt = some (.slice e)) (hi : P.info? e = some i) (hz : ZeroOf i zs z)
    (ok : Ok w0 ρ s w) (hx : OV ρ (cX.ev t) (a x)) (h : o_clear i.size zs cX call t s = .ok v s') : To P w0 ρ s w (execOp a o) v s' := by
  have key : ∀ b q l : Nat, ((∃ c, cX.ev t = .slice b q l c) ∨ ∃ e, cX.ev t = .fsl e b q l) → store s b q (repL zs l) (fun s => .ok (.tuple []) s) = .ok v s' → To P w0 ρ s w (execOp a o) v s' := by
    intro b q l hu h
    obtain ⟨p, cap, hp, hxv⟩ := OV_anySlice hx hu
    obtain ⟨c, hc, hw, h⟩ := store_ok h
    simp only [OR.ok.injEq] at h
    obtain ⟨rfl, rfl⟩ := h
    obtain ⟨arr, e', fz, r⟩ := ok.row hp hc
    obtain ⟨w', arr', hrun, ok', po, _⟩ := Row.stores P q _ _ 0 s w c arr r ok (vals_rep (hz.vals ρ) l) hw
    refine To.new ok' po (x := .tuple #[]) ?_ (by simp [val, vals])
    cases l with
    | zero =>
      simp only [repL, storeCells, Sem.run_pure, Result.ok.injEq, true_and] at hrun
      subst hrun
      simp [execOp, ho, resolve, invoke, builtin, Builtin.clear_, hxv, run_underlying hd]
    | succ l =>
      have hl := zeroCells_list z.cells (l + 1)
      simp [execOp, ho, resolve, invoke, builtin, Builtin.clear_, hxv, run_underlying hd, run_zeroValue hi hz.zero, hl, hrun]
  simp only [o_clear] at h
  generalize hcx : cX.ev t = vx at h key hx
  cases vx <;> simp only at h
  case slice b q l c => exact key b q l (.inl ⟨c, rfl⟩) h
  case fsl e' b q l => exact key b q l (.inr ⟨e', rfl⟩) h
  case nilslice =>
    have hx := OV_nilslice hx
    simp only [OR.ok.injEq] at h
    obtain ⟨rfl, rfl⟩ := h
    exact To.got ok (x := .tuple #[]) (by simp [execOp, ho, resolve, invoke, builtin, Builtin.clear_, hx, run_underlying hd]) (by simp [val, vals])
  all_goals exact absurd h (by simp)

theorem onU8_ok {u : V} {k : Nat → OR} (h : onU8 u k = .ok v s') : ∃ n, u = .int .u8 (.ofNat n) ∧ n < 256 ∧ k n = .ok v s' := by
  unfold onU8 at h
  split at h
  · rename_i n
    obtain ⟨h1, h⟩ := bc_ok h
    exact ⟨n, rfl, by simpa [blt_eq'] using h1, h⟩
  · exact absurd h (by simp)

noncomputable def findBn (c : Nat) : List Nat → Nat → Int
  | [], _ => .negSucc 0
  | a :: l, i => bc (Nat.beq a c) (.ofNat i) (findBn c l (Nat.succ i))
noncomputable def cntBn (c : Nat) : List Nat → Nat → Nat
  | [], i => i
  | a :: l, i => bc (Nat.beq a c) (cntBn c l (Nat.succ i)) (cntBn c l i)
theorem ch_lit {c : Nat} (h : c < 256) : okC c = true ∧ ch c = c := by
  rcases lit_cases c with ⟨h1, _, h3⟩ | ⟨_, h4, _⟩
  · exact ⟨by unfold okC; rw [h1]; rfl, h3⟩
  · omega
theorem findB_n {c : Nat} (hc : c < 256) : ∀ {l : List Nat} {i : Nat} {z : Int}, findB c l i = some z → okX l = true → z = findBn c (chs l) i
  | [], i, z, h, _ => (Option.some.inj h).symm
  | a :: l, i, z, h, ho => by
    rw [okX_cons] at ho
    obtain ⟨o1, o2⟩ := ch_lit hc
    simp only [findB] at h
    show z = bc (Nat.beq (ch a) c) (.ofNat i) (findBn c (chs l) (Nat.succ i))
    split at h
    · rename_i b hb
      have := eqC_ok hb ho.1 o1
      rw [o2] at this
      rw [beq_eq, ← this]
      cases b
      · exact findB_n hc h ho.2
      · exact (Option.some.inj h).symm
    · exact absurd h (by simp)
theorem cntB_n {c : Nat} (hc : c < 256) : ∀ {l : List Nat} {i z : Nat}, cntB c l i = some z → okX l = true → z = cntBn c (chs l) i
  | [], i, z, h, _ => (Option.some.inj h).symm
  | a :: l, i, z, h, ho => by
    rw [okX_cons] at ho
    obtain ⟨o1, o2⟩ := ch_lit hc
    simp only [cntB] at h
    show z = bc (Nat.beq (ch a) c) (cntBn c (chs l) (Nat.succ i)) (cntBn c (chs l) i)
    split at h
    · rename_i b hb
      have := eqC_ok hb ho.1 o1
      rw [o2] at this
      rw [beq_eq, ← this]
      cases b
      · exact cntB_n hc h ho.2
      · exact cntB_n hc h ho.2
    · exact absurd h (by simp)
theorem findB_range (c : Nat) (p : Nat → Bool) : ∀ (l : List Nat) (k : Nat), (∀ j (h : j < l.length), p (k + j) = (l[j] == c)) → findBn c l k = match (List.range' k l.length).find? p with | some i => (i : Int) | none => -1
  | [], k, _ => rfl
  | a :: l, k, h => by
    have h0 : p k = (a == c) := h 0 (Nat.zero_lt_succ _)
    have ih := findB_range c p l (k + 1) (fun j hj => by
      have := h (j + 1) (by simpa using hj)
      have e : k + 1 + j = k + (j + 1) := by omega
      rw [e]; simpa using this)
    simp only [findBn, bc_eq, beq_eq, List.length_cons, List.range'_succ, List.find?_cons, h0]
    by_cases hac : a = c
    · simp [hac]
    · have : (a == c) = false := by simpa using hac
      simp only [hac, decide_false, Bool.false_eq_true, if_false, this]
      exact ih
theorem byte_get {l : List Nat} (sm : small l = true) {c j : Nat} (hc : c < 256) (hj : j < l.length) : ((bytesOf l)[j]! == (c : Int).toNat.toUInt8) = (l[j] == c) := by
  have hlt : j < (bytesOf l).size := by rw [bytesOf_size]; exact hj
  have h1 := bytesOf_get (List.getElem?_eq_getElem hj)
  rw [ByteArray.getElem?_lt' _ _ hlt, Option.some.injEq] at h1
  have h2 : (bytesOf l)[j]! = UInt8.ofNat l[j] := by rw [← h1]; simp [getElem!_pos, hlt]
  have hb := small_get sm (List.getElem?_eq_getElem hj)
  rw [h2]
  show (UInt8.ofNat l[j] == UInt8.ofNat c) = _
  by_cases h : l[j] = c
  · simp [h]
  · have hne : UInt8.ofNat l[j] ≠ UInt8.ofNat c := by
      intro hh
      have := congrArg UInt8.toNat hh
      simp only [UInt8.toNat_ofNat'] at this
      omega
    rw [beq_eq_false_iff_ne.2 hne, beq_eq_false_iff_ne.2 h]
theorem firstIdx_eq {l : List Nat} (sm : small l = true) {c : Nat} (hc : c < 256) : firstIdx (bytesOf l) (c : Int).toNat.toUInt8 = findBn c l 0 := by
  rw [findB_range c (fun i => (bytesOf l)[i]! == (c : Int).toNat.toUInt8) l 0 (fun j hj => by rw [Nat.zero_add]; exact byte_get sm hc hj)]
  simp only [firstIdx, bytesOf_size, List.range_eq_range']
  cases List.find? (fun i => (bytesOf l)[i]! == (c : Int).toNat.toUInt8) (List.range' 0 l.length) <;> rfl

/- two functions whose bodies the model gives -/
structure Ixb (P : Program) (f : FuncId) : Prop where
  run : ∀ (s : ByteArray) (c : Int) (w : World), (callFunc f #[.string s, .int .u8 c]).run P w = .ok (.value (.int .i64 (firstIdx s c.toNat.toUInt8))) w
structure Cnt (P : Program) (f : FuncId) : Prop where
  run : ∀ (l : List Nat) (c : Nat) (w : World), small l = true → c < 256 → (callFunc f #[.string (bytesOf l), .int .u8 (c : Int)]).run P w = .ok (.value (.int .i64 (cntBn c l 0))) w

theorem exec_call {f : FuncId} {args : Array Operand} {ts : Array TypeId} (ho : o.op = .call { callee := .value (.func f), args, argTypes := ts }) (hf : a (.func f) = .func (.func f) #[] #[]) :
    execOp a o = callFunc f (args.map a) := by
  simp [execOp, ho, resolve, hf, Deferred.ofValue, invoke]

theorem to_ixb {f : FuncId} {x y : Operand} {ts : Array TypeId} {cX cY : X} (ho : o.op = .call { callee := .value (.func f), args := #[x, y], argTypes := ts }) (hf : a (.func f) = .func (.func f) #[] #[]) (I : Ixb P f)
    (ok : Ok w0 ρ s w) (hx : OV ρ (cX.ev t) (a x)) (hy : OV ρ (cY.ev t) (a y)) (h : o_ixb cX cY call t s = .ok v s') : To P w0 ρ s w (execOp a o) v s' := by
  obtain ⟨c, hc, hc2, h⟩ := onU8_ok h
  rw [hc] at hy
  have hy := OV_int hy
  obtain ⟨l, hl, h⟩ := onStr_ok h
  rw [hl] at hx
  obtain ⟨sm, hx⟩ := OV_str hx
  obtain ⟨z, hz, h⟩ := onSome_ok h
  have hz := findB_n hc2 hz sm
  subst hz
  simp only [int_eq, OR.ok.injEq] at h
  obtain ⟨rfl, rfl⟩ := h
  refine To.got ok (x := .int .i64 (findBn c (chs l) 0)) ?_ rfl
  rw [exec_call ho hf]
  have := I.run (bytesOf (chs l)) c w
  rw [firstIdx_eq (small_chs sm) hc2] at this
  have hy' : a y = .int .u8 (c : Int) := hy
  simpa [hx, hy'] using this
theorem to_cnt {f : FuncId} {x y : Operand} {ts : Array TypeId} {cX cY : X} (ho : o.op = .call { callee := .value (.func f), args := #[x, y], argTypes := ts }) (hf : a (.func f) = .func (.func f) #[] #[]) (I : Cnt P f)
    (ok : Ok w0 ρ s w) (hx : OV ρ (cX.ev t) (a x)) (hy : OV ρ (cY.ev t) (a y)) (h : o_cnt cX cY call t s = .ok v s') : To P w0 ρ s w (execOp a o) v s' := by
  obtain ⟨c, hc, hc2, h⟩ := onU8_ok h
  rw [hc] at hy
  have hy := OV_int hy
  obtain ⟨l, hl, h⟩ := onStr_ok h
  rw [hl] at hx
  obtain ⟨sm, hx⟩ := OV_str hx
  obtain ⟨z, hz, h⟩ := onSome_ok h
  have hz := cntB_n hc2 hz sm
  subst hz
  simp only [nat_eq, OR.ok.injEq] at h
  obtain ⟨rfl, rfl⟩ := h
  refine To.got ok (x := .int .i64 (cntBn c (chs l) 0)) ?_ rfl
  rw [exec_call ho hf]
  have := I.run (chs l) c w (small_chs sm) hc2
  have hy' : a y = .int .u8 (c : Int) := hy
  simpa [hx, hy'] using this
end
end Go.Ev
