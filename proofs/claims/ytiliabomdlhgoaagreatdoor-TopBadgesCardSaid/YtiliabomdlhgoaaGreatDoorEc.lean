/- A second reckoner: the orders of a range over a map, ranges over a function; calls that change nothing; tables of known answers; known states; special calls with symbols. -/
import Derived.RangeFuncRecord
import Derived.Maps.RangeRun
import Derived.RangeFuncLeaves
import Derived.TacticsIn
import Derived.LoopN
import Derived.Test.YtiliabomdlhgoaaGreatDoorEa
import Derived.Test.YtiliabomdlhgoaaGreatDoorEb
set_option linter.unusedSectionVars false
set_option linter.unusedVariables false
namespace Go.Ev
noncomputable section
/- plain: a function; mark: it has been through a range over a function; round: a round of such a loop; ready, over: the function that is ranged over, its loop's jump -/
inductive J where
  | plain
  | mark
  | round
  | ready
  | over (e : E)
inductive RN where
  | fail (n : Nat)
  | done (e : E) (t : Tr) (s : S) (j : J)
inductive RO where
  | fail (n : Nat)
  | ok (v : V) (s : S) (j : J)
structure Lp where
  yb : Nat
  tc : Tr
  ps : List Pt
  asg : C
  body : C
abbrev NH := Option Lp → J → C → Tr → S → List RN

def mapL {α β : Type} (f : α → β) : List α → List β
  | [] => []
  | a :: l => f a :: mapL f l
def bindL {α β : Type} (l : List α) (f : α → List β) : List β := match l with
  | [] => []
  | a :: l => app (f a) (bindL l f)
def memN (k : Nat) : List Nat → Bool
  | [] => false
  | a :: l => bc (Nat.beq a k) true (memN k l)
def allOld (since : Nat) : List Ent → Bool
  | [] => true
  | e :: l => bc (Nat.blt e.born since) (allOld since l) false
def unseen (seen : List Nat) : List Ent → List Ent
  | [] => []
  | e :: l => bc (memN e.born seen) (unseen seen l) (e :: unseen seen l)
def stepM (s : S) (b m since c : Nat) (seen : List Nat) (e : Ent) : OR := setB s b (.miter m since (app seen [e.born]) c) fun s => .ok (.tuple [.bool true, e.key, e.val]) s
def cands (s : S) (b m since c : Nat) (seen : List Nat) (l : List Ent) : List OR := match l with
  | [] => [.ok (.tuple [.bool false]) s]
  | l => mapL (stepM s b m since c seen) l
def nextM2 (s : S) (b : Nat) (x : B) : List OR := match x with
  | .mnil => [.ok (.tuple [.bool false]) s]
  | .miter m since seen stepped => (match hget s m with
    | .map es c => bc (allOld since es) (bc (Nat.ble since stepped) (cands s b m since c seen (unseen seen es)) [.fail 120]) [.fail 121]
    | _ => [.fail 122])
  | _ => [.fail 123]
def liftJ (j : J) (r : OR) : RO := match r with
  | .ok v s => .ok v s j
  | .fail n => .fail n
def liftR (j : J) (r : R) : RN := match r with
  | .done e t s => .done e t s j
  | .fail n => .fail n
def argsN (t : Tr) : List X → Option (List V)
  | [] => some []
  | x :: xs => bc (dfn (x.ev t)) (match argsN t xs with
    | some l => some (x.ev t :: l)
    | none => none) none
def putPs : List Pt → List V → Tr → Tr
  | [], _, t => t
  | _ :: _, [], t => t
  | p :: ps, v :: vs, t => putPs ps vs (putP v p t)
def finJ (res : List RV) (r : RN) : OR := match r with
  | .done .n t s _ => resVs t s res (one s)
  | .done .r t s _ => resVs t s res (one s)
  | .done (.b _) _ _ _ => .fail 81
  | .fail n => .fail n
section
variable (tab : Tb) (call : CallT) (ih : NH)
def ndCall (f : Nat) (args : List V) (s : S) : List OR := match tab.get f with
  | .mk body res n => bc (Nat.ble (lenN args) n) (mapL (finJ res) (ih none .plain body (inits args 0 .leaf) s)) [.fail 78]
  | .no => [.fail 82]
def endRd (r : RN) : RO := match r with
  | .done .n _ s _ => .ok (.bool true) s .ready
  | .done e _ s _ => .ok (.bool false) s (.over e)
  | .fail n => .fail n
def ndRound (L : Lp) (l : List V) (s : S) : List RO := bc (Nat.beq (lenN l) (lenN L.ps)) (bindL (ih none .round L.asg (putPs L.ps l L.tc) s) fun r => match r with
  | .done .n t s _ => mapL endRd (ih none .round L.body t s)
  | .done _ _ _ _ => [.fail 124]
  | .fail n => [.fail n]) [.fail 125]
def ndYield (lp : Option Lp) (j : J) (b : Nat) (args : List X) (t : Tr) (s : S) : List RO := match lp, j with
  | some L, .ready => bc (Nat.beq b L.yb) (match argsN t args with
    | some l => ndRound ih L l s
    | none => [.fail 90]) [.fail 126]
  | _, _ => [.fail 127]
def ndO (lp : Option Lp) (j : J) (o : O) (t : Tr) (s : S) : List RO := match o with
  | .nextM x => (match x.ev t with
    | .ptr b o => bc (Nat.beq o 0) (mapL (liftJ j) (nextM2 s b (hget s b))) [.fail 49]
    | _ => [.fail 3])
  | .call f args => (match argsN t args with
    | some l => mapL (liftJ j) (ndCall tab ih f l s)
    | none => [.fail 90])
  | .callv x args => (match x.ev t with
    | .func f a b => (match argsN t args with
      | some l => mapL (liftJ j) (ndCall tab ih f (app (app a l) b) s)
      | none => [.fail 90])
    | .yld b => ndYield ih lp j b args t s
    | _ => [.fail 74])
  | o => [liftJ j (evO o noCallT t s)]
abbrev NKK := Tr → S → J → List RN
def thenO (d : D) (k : NKK) (t : Tr) (l : List RO) : List RN := bindL l fun r => match r with
  | .ok v s j => k (setD d v t) s j
  | .fail n => [.fail n]
def onGL (v : V) (a b c : List RN) : List RN := match v with
  | .bool x => bc x a b
  | .tuple _ => c
  | _ => [.fail 97]
def ndL (lp : Option Lp) : L → NKK
  | .nil, t, s, j => [.done .n t s j]
  | .op d o k, t, s, j => thenO d (ndL lp k) t (ndO tab ih lp j o t s)
  | .opg p w d o k, t, s, j => onGL (getP p t) (bc w (thenO d (ndL lp k) t (ndO tab ih lp j o t s)) (ndL lp k (setD d uV t) s j)) (bc w (ndL lp k (setD d uV t) s j) (thenO d (ndL lp k) t (ndO tab ih lp j o t s))) (ndL lp k (setD d uV t) s j)
def plO : O → Bool
  | .nextM _ => false
  | .call _ _ => false
  | .callv _ _ => false
  | _ => true
def plL : L → Bool
  | .nil => true
  | .op _ o k => bc (plO o) (plL k) false
  | .opg _ _ _ o k => bc (plO o) (plL k) false
def free (j : J) : Bool := match j with
  | .mark => false
  | _ => true
def scp (a : C) (j : J) : Bool := match a, j with
  | .skip, .round => true
  | _, _ => false
def thenN (k : Tr → S → J → List RN) (l : List RN) : List RN := bindL l fun r => match r with
  | .done .n t s j => k t s j
  | r => [r]
def blockN (id : Nat) (r : RN) : RN := match r with
  | .done (.b i) t s j => bc (Nat.beq i id) (.done .n t s j) (.done (.b i) t s j)
  | r => r
def endLp (t : Tr) (res : List RV) (r : RN) : RN := match finJ res r with
  | .fail n => .fail n
  | .ok _ _ => match r with
    | .done _ _ s .ready => .done .n t s .mark
    | .done _ _ s (.over e) => .done e t s .mark
    | _ => .fail 128
def ndRng (g : X) (ps : List Pt) (a b : C) (lp : Option Lp) (j : J) (t : Tr) (s : S) : List RN := match lp, j with
  | none, .plain => (match g.ev t with
    | .func f fa fb => (match tab.get f with
      | .mk body res n => bc (Nat.ble (lenN (app (app fa [.yld s.next]) fb)) n) (mapL (endLp t res) (ih (some ⟨s.next, t, ps, a, b⟩) .ready body (inits (app (app fa [.yld s.next]) fb) 0 .leaf) (.mk (s.heap.put .no s.next) (Nat.succ s.next)))) [.fail 78]
      | .no => [.fail 82])
    | _ => [.fail 129])
  | _, _ => [.fail 130]
def ndC (lp : Option Lp) (j : J) (c : C) (t : Tr) (s : S) : List RN := match c with
  | .skip => [.done .n t s j]
  | .ret => [.done .r t s j]
  | .exit id => [.done (.b id) t s j]
  | .reg l => bc (plL l) [liftR j (evL noCallT l t s)] (ndL tab ih lp l t s j)
  | .dreg l => bc (free j) [liftR j (evDL call l t s [])] [.fail 131]
  | .seq a b => bc (scp a j) [.fail 132] (thenN (fun t s j => ih lp j b t s) (ih lp j a t s))
  | .cond x a b => (match x.ev t with
    | .bool c => bc c (ih lp j a t s) (ih lp j b t s)
    | _ => [.fail 80])
  | .block id c => mapL (blockN id) (ih lp j c t s)
  | .loop c => thenN (fun t s j => ih lp j (.loop c) t s) (ih lp j c t s)
  | .rng g ps a b => ndRng tab ih g ps a b lp j t s
  | .bad => [.fail 96]
end
def nd (tab : Tb) (call : CallT) : Nat → NH
  | 0, _, _, _, _, _ => [.fail 83]
  | f + 1, lp, j, c, t, s => ndC tab call (nd tab call f) lp j c t s
/- the whole of a function -/
def ndRun (tab : Tb) (call : CallT) (fuel f : Nat) (args : List V) (s : S) : List OR := ndCall tab (nd tab call fuel) f args s
end
end Go.Ev
namespace Go.Ev
variable [Sy]
theorem mem_mapL {α β : Type} {f : α → β} : ∀ {l : List α} {x : β}, x ∈ mapL f l ↔ ∃ a, a ∈ l ∧ x = f a
  | [], x => by simp [mapL]
  | a :: l, x => by simp [mapL, mem_mapL (l := l)]
theorem app_mem {α : Type} {l m : List α} {x : α} : x ∈ app l m ↔ x ∈ l ∨ x ∈ m := by rw [app_eq, List.mem_append]
theorem mem_bindL {α β : Type} {f : α → List β} : ∀ {l : List α} {x : β}, x ∈ bindL l f ↔ ∃ a, a ∈ l ∧ x ∈ f a
  | [], x => by simp [bindL]
  | a :: l, x => by
    rw [bindL, app_mem, mem_bindL (l := l)]
    simp
theorem all_map {α β : Type} {f : α → β} {l : List α} {p : β → Prop} (h : ∀ x, x ∈ mapL f l → p x) : ∀ a, a ∈ l → p (f a) := fun a ha => h _ (mem_mapL.2 ⟨a, ha, rfl⟩)
theorem all_bind {α β : Type} {f : α → List β} {l : List α} {p : β → Prop} (h : ∀ x, x ∈ bindL l f → p x) : ∀ a, a ∈ l → ∀ x, x ∈ f a → p x := fun a ha x hx => h x (mem_bindL.2 ⟨a, ha, hx⟩)
theorem all_one {α : Type} {a : α} {p : α → Prop} (h : ∀ x, x ∈ [a] → p x) : p a := h a (List.mem_cons_self ..)

def Bs.put (B : Bs) (r : Nat) (o : Obj) : Bs := ⟨fun k => if k = r then some o else B.keep k, B.w⟩
def Bs.drop (B : Bs) (r : Nat) : Bs := ⟨fun k => if k = r then none else B.keep k, B.w⟩
theorem Bs.put_same (B : Bs) (r : Nat) (o : Obj) : (B.put r o).keep r = some o := by simp [Bs.put]
theorem Bs.put_other (B : Bs) {r k : Nat} (o : Obj) (h : k ≠ r) : (B.put r o).keep k = B.keep k := by simp [Bs.put, h]
theorem Bs.drop_other (B : Bs) {r k : Nat} (h : k ≠ r) : (B.drop r).keep k = B.keep k := by simp [Bs.drop, h]
theorem Bs.drop_same (B : Bs) (r : Nat) : (B.drop r).keep r = none := by simp [Bs.drop]

/- what is kept stays so, but for one block -/
structure Ext (x : Option Nat) (B B' : Bs) : Prop where
  keep : ∀ r o, some r ≠ x → B.keep r = some o → B'.keep r = some o
  w : B'.w = B.w
theorem Ext.refl (x : Option Nat) (B : Bs) : Ext x B B := ⟨fun _ _ _ h => h, rfl⟩
theorem Ext.trans {x : Option Nat} {A B C : Bs} (h : Ext x A B) (k : Ext x B C) : Ext x A C := ⟨fun r o hr ho => k.keep r o hr (h.keep r o hr ho), k.w.trans h.w⟩
theorem Ext.any {x : Option Nat} {B B' : Bs} (h : Ext none B B') : Ext x B B' := ⟨fun r o _ ho => h.keep r o (by simp) ho, h.w⟩
theorem Ext.putAt (B : Bs) (l : Nat) (o : Obj) : Ext (some l) B (B.put l o) := ⟨fun r o' hr ho => by rw [Bs.put_other _ _ (fun e => hr (by rw [e]))]; exact ho, rfl⟩

variable {B B' : Bs} {w w' : World} {ρ ρ' : Rho} {s s' : S}
theorem Ok.weaken (h : Ok B' ρ s w) (e : Ext none B B') : Ok B ρ s w := by
  refine ⟨fun k p hk hn => ?_, h.inj, h.lt, h.nx, h.nxh, fun r o hr => h.old r o (e.keep r o (by simp) hr), by rw [← e.w]; exact h.os, by rw [← e.w]; exact h.tape, by rw [← e.w]; exact h.out⟩
  obtain ⟨h1, h2⟩ := h.blk k p hk hn
  refine ⟨?_, h2⟩
  cases hb : B.keep p.1 with
  | none => rfl
  | some o => rw [e.keep _ _ (by simp) hb] at h1; exact absurd h1 (by simp)
theorem Ok.putKept (h : Ok B ρ s w) {r : Nat} {o : Obj} (hr : B.keep r = some o) (o' : Obj) : Ok (B.put r o') ρ s (w.putObj r o') := by
  have hlt := h.kept hr
  refine ⟨fun k p hk hn => ?_, h.inj, fun k p hk => by rw [World.putObj_size]; exact h.lt k p hk, h.nx, h.nxh, fun k o2 hk => ?_, h.os, h.tape, h.out⟩
  · obtain ⟨h1, o2, h2, h3⟩ := h.blk k p hk hn
    have hne : p.1 ≠ r := fun e => by rw [e, hr] at h1; exact absurd h1 (by simp)
    exact ⟨by rw [Bs.put_other _ _ hne]; exact h1, o2, by rw [World.putObj_heap_other hne]; exact h2, h3⟩
  · by_cases hkr : k = r
    · subst hkr
      rw [Bs.put_same, Option.some.injEq] at hk; subst hk
      exact World.putObj_heap_same hlt
    · rw [Bs.put_other _ _ hkr] at hk
      rw [World.putObj_heap_other hkr]; exact h.old k o2 hk
theorem Ok.putGone (h : Ok B ρ s w) {r : Nat} {o : Obj} (hr : B.keep r = some o) (o' : Obj) : Ok (B.drop r) ρ s (w.putObj r o') := by
  refine (h.putKept hr o').weaken ⟨fun k o2 _ hk => ?_, rfl⟩
  by_cases hkr : k = r
  · subst hkr; rw [Bs.drop_same] at hk; exact absurd hk (by simp)
  · rw [Bs.drop_other _ hkr] at hk; rw [Bs.put_other _ _ hkr]; exact hk
theorem Ok.allocKept (h : Ok B ρ s w) (o : Obj) : Ok (B.put w.heap.size o) ρ s (w.alloc o) := by
  refine ⟨fun k p hk hn => ?_, h.inj, fun k p hk => by rw [World.size_alloc]; have := h.lt k p hk; omega, h.nx, h.nxh, fun k o2 hk => ?_, h.os, h.tape, h.out⟩
  · obtain ⟨h1, o2, h2, h3⟩ := h.blk k p hk hn
    have hlt := h.lt k p hk
    refine ⟨by rw [Bs.put_other _ _ (by omega)]; exact h1, o2, ?_, h3⟩
    show (w.heap.push o)[p.1]? = some o2
    rw [Array.getElem?_push, if_neg (by omega)]; exact h2
  · show (w.heap.push o)[k]? = some o2
    by_cases hkr : k = w.heap.size
    · subst hkr
      rw [Bs.put_same, Option.some.injEq] at hk; subst hk
      simp
    · rw [Bs.put_other _ _ hkr] at hk
      rw [Array.getElem?_push, if_neg hkr]; exact h.old k o2 hk
/- a block that nobody reads gets a number -/
theorem Ok.named (h : Ok B ρ s w) {p : Nat × Nat} (hlt : p.1 < w.heap.size) : Ok B (ρ.set s.next p) (s.add .no) w ∧ Post ρ s (ρ.set s.next p) (s.add .no) := by
  have hP : Post ρ s (ρ.set s.next p) (s.add .no) := by
    refine ⟨fun k hk => ?_, by rw [S.next_add]; omega, fun k hk _ => ?_⟩
    · simp [Rho.set]; intro hk'; omega
    · rw [S.get_add, if_neg (by omega)]
  have hle := hP.le h
  have live : ∀ {k q}, (ρ.set s.next p) k = some q → (s.add .no).heap.get k ≠ .no → ρ k = some q ∧ s.heap.get k ≠ .no ∧ (s.add .no).heap.get k = s.heap.get k := by
    intro k q hk hn
    rw [S.get_add] at hn ⊢
    simp only [Rho.set] at hk
    split at hn
    · exact absurd rfl hn
    · rename_i hne
      rw [if_neg hne] at hk ⊢
      exact ⟨hk, hn, rfl⟩
  refine ⟨⟨fun k q hk hn => ?_, fun k k' q q' hk hk' hn hn' he => ?_, fun k q hk => ?_, fun k hk => ?_, fun k hk => ?_, h.old, h.os, h.tape, h.out⟩, hP⟩
  · obtain ⟨h1, h2, h3⟩ := live hk hn
    obtain ⟨h4, o, h5, h6⟩ := h.blk k q h1 h2
    rw [h3]
    exact ⟨h4, o, h5, h6.mono hle⟩
  · obtain ⟨h1, h2, _⟩ := live hk hn
    obtain ⟨h1', h2', _⟩ := live hk' hn'
    exact h.inj k k' q q' h1 h1' h2 h2' he
  · simp only [Rho.set] at hk
    split at hk
    · simp only [Option.some.injEq] at hk; subst hk; exact hlt
    · exact h.lt k q hk
  · rw [S.next_add] at hk
    simp only [Rho.set]
    rw [if_neg (by omega)]; exact h.nx k (by omega)
  · rw [S.next_add] at hk
    rw [S.get_add]
    split
    · rfl
    · exact h.nxh k (by omega)

/- the loop's record -/
structure LC where
  l : Nat
  fn : FuncId
  tmps : Array Value
  ps : Array Tmp
  asg : Code
  body : Code
  D : Nat
def LC.loop (L : LC) (st : LoopState) (pe : Option Code) : Loop := { state := st, pending := pe, fn := L.fn, tmps := L.tmps, params := L.ps, assign := L.asg, body := L.body, defers := L.D }
def codeOf : E → Option Code
  | .n => none
  | .r => some .ret
  | .b id => some (.exit id)
/- 'B0': what was kept when the function began -/
def St (lc : Option LC) (ro : Option Nat) (B0 : Bs) (j : J) (B : Bs) (ds : List Deferred) : Prop := match j with
  | .plain => lc = none ∧ ro = none ∧ Ext none B0 B ∧ ds = []
  | .mark => lc = none ∧ ro = none ∧ Ext none B0 B ∧ ∃ D, ds = [{ target := .collected D, args := #[] }] ∧ B.keep D = some (.deferred (some [])) ∧ B0.keep D = none
  | .round => lc = none ∧ (∃ l, ro = some l) ∧ ds = []
  | .ready => ro = none ∧ ds = [] ∧ ∃ L, lc = some L ∧ B.keep L.l = some (.loop (L.loop .ready none))
  | .over e => ro = none ∧ ds = [] ∧ ∃ L c, lc = some L ∧ codeOf e = some c ∧ B.keep L.l = some (.loop (L.loop .done (some c)))
def lcAt (lc : Option LC) : Option Nat := lc.map (·.l)
/- what is kept stays: another base will do -/
theorem St.ext {lc : Option LC} {ro : Option Nat} {B0 : Bs} {j : J} {ds : List Deferred} (h : St lc ro B0 j B ds) (e : Ext none B B') : St lc ro B0 j B' ds := by
  cases j with
  | plain => obtain ⟨h1, h2, h3, h4⟩ := h; exact ⟨h1, h2, h3.trans e, h4⟩
  | round => obtain ⟨h1, h2, h3⟩ := h; exact ⟨h1, h2, h3⟩
  | mark => obtain ⟨h1, h2, h0, D, h3, h4, h5⟩ := h; exact ⟨h1, h2, h0.trans e, D, h3, e.keep _ _ (by simp) h4, h5⟩
  | ready => obtain ⟨h1, h2, L, h3, h4⟩ := h; exact ⟨h1, h2, L, h3, e.keep _ _ (by simp) h4⟩
  | over x => obtain ⟨h1, h2, L, c, h3, h4, h5⟩ := h; exact ⟨h1, h2, L, c, h3, h4, e.keep _ _ (by simp) h5⟩
end Go.Ev
namespace Go.Ev
variable [Sy]
open Go.ChangeMaps (setBlock)
section
variable {P : Program} {cf : Cf} {w0 : Bs} {w : World} {ρ ρ' : Rho} {s s' : S} {v : V} {a : Act} {o : Oper} {t t' : Tr} {call : CallT} {K N : Nat} {σ : Sub}

theorem memN_eq : ∀ {l : List Nat} {k : Nat}, memN k l = l.contains k
  | [], k => rfl
  | a :: l, k => by
    simp only [memN, bc_eq, beq_eq, memN_eq (l := l), List.contains_cons]
    by_cases h : a = k
    · subst h; simp
    · simp [h]; exact fun hh => absurd hh.symm h
theorem allOld_mem : ∀ {es : List Ent} {xs : List MapEntry} {k : Nat}, EntsR ρ es xs → allOld k es = true → ∀ x, x ∈ xs → x.born < k
  | _, _, k, .nil, _, x, hx => by simp at hx
  | _, _, k, .cons ⟨_, _, h3⟩ ht, h, x, hx => by
    obtain ⟨h1, h2⟩ := bcT (show bc _ _ false = true from h)
    rcases List.mem_cons.1 hx with rfl | hx
    · rw [← h3]; simpa [blt_eq'] using h1
    · exact allOld_mem ht h2 x hx
theorem unseen_rel {seen : List Nat} : ∀ {es : List Ent} {xs : List MapEntry}, EntsR ρ es xs → EntsR ρ (unseen seen es) (xs.filter fun e => !seen.contains e.born)
  | _, _, .nil => .nil
  | _, _, .cons (e := e) (x := x) ⟨h1, h2, h3⟩ ht => by
    simp only [unseen, memN_eq, bc_eq, h3, List.filter_cons]
    cases hc : seen.contains x.born
    · simpa using EntsR.cons ⟨h1, h2, h3⟩ (unseen_rel (seen := seen) ht)
    · simpa using unseen_rel (seen := seen) ht
theorem EntsR.mem : ∀ {es : List Ent} {xs : List MapEntry}, EntsR ρ es xs → ∀ {x : MapEntry}, x ∈ xs → ∃ e, e ∈ es ∧ EntR ρ e x
  | _, _, .nil, x, hx => by simp at hx
  | _, _, .cons (e := e) h ht, x, hx => by
    rcases List.mem_cons.1 hx with rfl | hx
    · exact ⟨e, List.mem_cons_self .., h⟩
    · obtain ⟨e', he, hr⟩ := ht.mem hx
      exact ⟨e', List.mem_cons_of_mem _ he, hr⟩
theorem setBlock_at {w : World} {r : Nat} {o o' : Obj} (h : w.heap[r]? = some o) : SetAt w r o' (setBlock w r o') := by
  have hlt : r < w.heap.size := (Array.getElem?_eq_some_iff.1 h).1
  refine ⟨by simp [setBlock], by simp [setBlock, hlt], fun q hq => by simp [setBlock, Array.getElem?_setIfInBounds_ne (Ne.symm hq)], rfl, rfl, rfl⟩

theorem nextM2_ok {x : Operand} {b : Nat} (ho : o.op = .next x false) (ok : Ok w0 ρ s w) (hx : OV ρ (.ptr b 0) (a.eval x)) (h : ∀ r, r ∈ nextM2 s b (hget s b) → ∃ v s', r = .ok v s') :
    ∃ v s', OR.ok v s' ∈ nextM2 s b (hget s b) ∧ To P w0 ρ s w (execOp a.eval o) v s' := by
  obtain ⟨p, hp, hx⟩ := OV_ptr hx
  rw [hget_eq] at h ⊢
  generalize hg : s.heap.get b = blk at h ⊢
  have bad : ∀ {n : Nat}, (∀ r, r ∈ [OR.fail n] → ∃ v s', r = .ok v s') → False := fun h => by
    obtain ⟨_, _, h⟩ := all_one h; exact absurd h (by simp)
  cases blk <;> simp only [nextM2] at h ⊢
  case mnil =>
    obtain ⟨_, ob, hob, hrel⟩ := ok.blk b p hp (by rw [hg]; simp)
    rw [hg] at hrel
    obtain ⟨a1, a2, a3, rfl⟩ := hrel
    have hgo := getObj_run (P := P) hob (by simp)
    exact ⟨_, _, List.mem_cons_self .., To.got ok (x := .tuple #[.bool false]) (by simp [execOp, ho, hx, Instr.next, hgo]) (by simp [val, vals])⟩
  case miter m since seen stepped =>
    obtain ⟨_, ob, hob, hrel⟩ := ok.blk b p hp (by rw [hg]; simp)
    rw [hg] at hrel
    obtain ⟨r, hr, rfl⟩ := hrel
    rw [hget_eq] at h ⊢
    generalize hgm : s.heap.get m = mb at h ⊢
    cases mb <;> try (exact (bad h).elim)
    case map es c =>
      simp only at h ⊢
      cases h1 : allOld since es with
      | false => rw [h1] at h; exact (bad h).elim
      | true =>
      cases h2 : Nat.ble since stepped with
      | false => rw [h1, h2] at h; exact (bad h).elim
      | true =>
      obtain ⟨xs, hobm, he⟩ := ok.mapAt hr hgm
      have hall := allOld_mem he h1
      have hexec : ∀ (y : Value) (w' : World), (Instr.next (.pointer (some ⟨p.1, 0, none⟩)) false 0).run P w = .ok y w' → (execOp a.eval o).run P w = .ok (.value y) w' := by
        intro y w' hrun
        simp only [execOp, ho, hx]
        have hty : (Instr.next (.pointer (some ⟨p.1, 0, none⟩)) false o.type).run P w = .ok y w' := hrun
        simp [hty]
      have hun := unseen_rel (seen := seen) he
      show ∃ v s', OR.ok v s' ∈ cands s b m since c seen (unseen seen es) ∧ _
      rcases run_next_at (P := P) w 0 p.1 r.1 since stepped seen.toArray xs c hob hobm hall (by simpa [ble_eq] using h2) with ⟨h0, hrun⟩ | ⟨e, hmem, w1, hw1, hrun⟩
      · have hnil : unseen seen es = [] := by
          have := hun.length
          have h3 : (leftOf xs seen.toArray).toList.length = 0 := by simpa using h0
          have h4 : (leftOf xs seen.toArray).toList = xs.toList.filter fun e => !seen.contains e.born := by simp [leftOf]
          rw [h4] at h3
          exact List.eq_nil_of_length_eq_zero (by rw [this, h3])
        rw [hnil]
        exact ⟨_, _, List.mem_cons_self .., To.got ok (x := .tuple #[.bool false]) (hexec _ _ hrun) (by simp [val, vals])⟩
      · have h4 : (leftOf xs seen.toArray).toList = xs.toList.filter fun e => !seen.contains e.born := by simp [leftOf]
        rw [h4] at hmem
        obtain ⟨en, hen, hk, hv, hb⟩ := hun.mem hmem
        refine ⟨.tuple [.bool true, en.key, en.val], s.set b (.miter m since (app seen [en.born]) c), ?_, ?_⟩
        · have : stepM s b m since c seen en = .ok (.tuple [.bool true, en.key, en.val]) (s.set b (.miter m since (app seen [en.born]) c)) := by simp only [stepM, setB_eq]
          rw [← this]
          generalize unseen seen es = l at hen
          cases l with
          | nil => simp at hen
          | cons z l => exact mem_mapL.2 ⟨en, hen, rfl⟩
        · have hob1 : w1.heap[p.1]? = some (.mapIter (some r.1) since seen.toArray stepped) := by rcases hw1 with rfl | rfl <;> exact hob
          have ok1 : Ok w0 ρ s w1 := by rcases hw1 with rfl | rfl; exact ok; exact ok.drew
          obtain ⟨ok', po⟩ := ok1.set hp (by rw [hg]; simp) (x := .miter m since (app seen [en.born]) c) (o := .mapIter (some r.1) since (seen.toArray.push e.born) c) ⟨r, hr, by rw [app_eq, hb]; simp⟩ (setBlock_at hob1)
          exact To.new ok' po (x := .tuple #[.bool true, e.key, e.val]) (hexec _ _ hrun) (by simp [val, vals, hk, hv])
  all_goals exact (bad h).elim
end
end Go.Ev
namespace Go.Ev
variable [Sy]
section
variable (P : Program) (cd : Nat → Nat → Nat → Array Oper → Option DL) (cf : Cf)
def LpOk (lp : Option Lp) (lc : Option LC) (ρ : Rho) : Prop := match lp, lc with
  | none, none => True
  | some L, some C => ρ L.yb = some (C.l, 0) ∧ ∃ K N, K >>> 65536 = 0 ∧ paths K N C.ps.toList = some L.ps ∧ compC cd cf K N C.asg = some L.asg ∧ compC cd cf K N C.body = some L.body ∧ Fr K N ρ L.tc [] { tmps := C.tmps, defers := [] }
  | _, _ => False
def NSnd (ih : NH) : Prop := ∀ (lp : Option Lp) (lc : Option LC) (ro : Option Nat) (K N : Nat) (c : Code) (x : C), K >>> 65536 = 0 → compC cd cf K N c = some x →
  ∀ (j : J) (t : Tr) (s : S) (ρ : Rho) (a : Act) (w : World) (B0 B : Bs) (n : Nat) (Q : Exit → Act → World → Prop), LpOk cd cf lp lc ρ → St lc ro B0 j B a.defers → Fr K N ρ t [] a → Ok B ρ s w →
  (∀ r, r ∈ ih lp j x t s → ∃ e t' s' j', r = .done e t' s' j' ∧ ∀ ρ' a' w' B', Ok B' ρ' s' w' → Post ρ s ρ' s' → Ext (lcAt lc) B B' → St lc ro B0 j' B' a'.defers → Fr K N ρ' t' [] a' → Q (exitE e) a' w') →
  c.wpIn (FW ro) n P Q a w
end
section
variable {P : Program} {cd : Nat → Nat → Nat → Array Oper → Option DL} {cf : Cf} {tab : Tb} {ih : NH} {w : World} {ρ ρ' : Rho} {s s' : S} {v : V} {a : Act} {o : Oper} {t t' : Tr} {K N n : Nat} {σ : Sub} {lp : Option Lp} {lc : Option LC} {ro : Option Nat} {B : Bs} {j : J}

theorem LpOk.mono (h : LpOk cd cf lp lc ρ) (hle : Le ρ ρ') : LpOk cd cf lp lc ρ' := by
  cases lp with
  | none => cases lc with
    | none => trivial
    | some C => exact h
  | some L => cases lc with
    | none => exact h
    | some C => obtain ⟨h1, K, N, h2, h3, h4, h5, h6⟩ := h; exact ⟨hle _ _ h1, K, N, h2, h3, h4, h5, h6.mono hle⟩
theorem Fr.act (F : Fr K N ρ t σ a) (ds : List Deferred) : Fr K N ρ t σ { a with defers := ds } := ⟨F.size, F.tmps, F.sub⟩

/- a call -/
theorem ndCall_ok (E : EnvOk P cf) (ht : TabOk P cf cd tab) (H : NSnd P cd cf ih) (ro : Option Nat) {f : FuncId} {l : List V} {xs : List Value} {R : Ending → World → Prop} (ok : Ok B ρ s w) (hl : vals ρ l = some xs)
    (h : ∀ r, r ∈ ndCall tab ih f l s → ∃ v s', r = .ok v s' ∧ ∀ ρ' w' x, Ok B ρ' s' w' → Post ρ s ρ' s' → val ρ' v = some x → R (.returned x) w') :
    (∀ (args : Array Value) (w : World), (callFunc f args).run P w = .ok (.enter f args) w) ∧ CallsIn (FW ro) n P f xs.toArray w R := by
  unfold ndCall at h
  cases hg : tab.get f with
  | no =>
    rw [hg] at h
    obtain ⟨_, _, h, _⟩ := all_one h
    exact absurd h (by simp)
  | mk body res m =>
  rw [hg] at h
  simp only at h
  cases hle : Nat.ble (lenN l) m with
  | false =>
    rw [hle] at h
    obtain ⟨_, _, h, _⟩ := all_one (a := OR.fail 78) h
    exact absurd h (by simp)
  | true =>
  rw [hle] at h
  have h := all_map h
  have hf := ht.fn f body res m hg
  obtain ⟨fn, c, K, hfn, hb, hn, hc, hr, hK⟩ := hf.out
  refine ⟨hf.enter, ?_⟩
  show CallsIn (FW none) n P f xs.toArray w R
  simp only [ble_eq, decide_eq_true_eq, lenN_eq] at hle
  have F := inits_fr (K := K) hl hle hf.small
  refine callsIn_of_wp_marks (F := FW none) hfn hb trivial ?_
  rw [hn]
  refine H none none none K m c body hK hc .plain _ s ρ _ w B B n _ trivial ⟨rfl, rfl, .refl _ _, rfl⟩ F ok ?_
  intro r hr'
  obtain ⟨v, s1, hfin, hgo⟩ := h r hr'
  cases r with
  | fail k => exact absurd hfin (by simp [finJ])
  | done e t1 s2 j' =>
    refine ⟨e, t1, s2, j', rfl, ?_⟩
    have key : (e = .n ∨ e = .r) ∧ resVs t1 s2 res (one s2) = .ok v s1 := by
      cases e with
      | n => exact ⟨.inl rfl, hfin⟩
      | r => exact ⟨.inr rfl, hfin⟩
      | b id => exact absurd hfin (by simp [finJ])
    intro ρ1 a1 w1 B1 ok1 po1 ex1 st1 F1
    have res : ∀ w2 B2, Ok B2 ρ1 s2 w2 → Ext none B B2 → ∃ v, (results fn a1.tmps).run P w2 = .ok v w2 ∧ R (.returned v) w2 := by
      intro w2 B2 ok2 ex2
      obtain ⟨l1, xs1, hl1, hk1, hrun⟩ := res_ok E hK F1 ok2 hr key.2
      obtain ⟨rfl, hv⟩ := one_ok hl1 hk1
      refine ⟨_, ?_, hgo ρ1 w2 _ (ok2.weaken ex2) po1 hv⟩
      rw [results_eq, Sem.run_bind, Array.mapM_eq_mapM_toList, Sem.run_map, hrun]
      rfl
    have leave : LeavesInM (FW none) n P fn a1.tmps R a1.defers .returning w1 := by
      cases j' with
      | plain =>
        obtain ⟨_, _, _, hd⟩ := st1
        rw [hd]
        exact res w1 B1 ok1 ex1
      | mark =>
        obtain ⟨_, _, _, D, hd, hD, hD0⟩ := st1
        rw [hd]
        refine ⟨by simp, .inl ⟨D, _, rfl, run_takeDeferred (ok1.old _ _ hD), ?_⟩⟩
        exact res _ (B1.put D (.deferred none)) (ok1.putKept hD _) ⟨fun r o hr ho => by
          rw [Bs.put_other _ _ (fun e => by rw [e, hD0] at ho; exact absurd ho (by simp))]; exact ex1.keep r o hr ho, ex1.w⟩
      | round => obtain ⟨_, ⟨_, h2⟩, _⟩ := st1; exact absurd h2 (by simp)
      | ready => obtain ⟨_, _, _, h2, _⟩ := st1; exact absurd h2 (by simp)
      | over e => obtain ⟨_, _, _, _, h2, _⟩ := st1; exact absurd h2 (by simp)
    rcases key.1 with rfl | rfl
    · exact leave
    · exact leave
end
end Go.Ev
namespace Go.Ev
variable [Sy]
section
variable {P : Program} {cd : Nat → Nat → Nat → Array Oper → Option DL} {cf : Cf} {tab : Tb} {ih : NH} {w : World} {ρ ρ' : Rho} {s s' : S} {v : V} {a : Act} {o : Oper} {t t' : Tr} {K N n : Nat} {σ : Sub} {lp : Option Lp} {lc : Option LC} {ro : Option Nat} {B0 B : Bs} {j : J}

theorem putPs_fr (hK : K >>> 65536 = 0) : ∀ {ps : List Tmp} {pts : List Pt} {l : List V} {xs : List Value} {t : Tr} {tm : Array Value}, paths K N ps = some pts → vals ρ l = some xs → l.length = pts.length → Fr K N ρ t [] { tmps := tm, defers := [] } →
    Fr K N ρ (putPs pts l t) [] { tmps := (ps.zip xs).foldl (fun t p => t.setIfInBounds p.1 p.2) tm, defers := [] }
  | [], pts, l, xs, t, tm, hp, hl, hn, F => by
    simp only [paths, Option.some.injEq] at hp; subst hp
    cases l with
    | nil => rw [vals_nil] at hl; subst hl; exact F
    | cons _ _ => simp at hn
  | d :: ps, pts, l, xs, t, tm, hp, hl, hn, F => by
    simp only [paths] at hp
    obtain ⟨h1, hp⟩ := ask_ok hp
    obtain ⟨h2, hp⟩ := ask_ok hp
    simp only [Option.map_eq_some_iff] at hp
    obtain ⟨q, hq, rfl⟩ := hp
    cases l with
    | nil => simp at hn
    | cons u l =>
      obtain ⟨x, ys, rfl, hx, hys⟩ := vals_cons.1 hl
      have F1 := F.put hK h1 (by simpa [blt_eq'] using h2) (v := u) (x := x) (.inr hx)
      have := putPs_fr hK hq hys (by simpa using hn) F1
      exact this
theorem paths_len : ∀ {ps : List Tmp} {pts : List Pt}, paths K N ps = some pts → pts.length = ps.length
  | [], pts, h => by simp only [paths, Option.some.injEq] at h; subst h; rfl
  | d :: ps, pts, h => by
    simp only [paths] at h
    obtain ⟨h1, h⟩ := ask_ok h
    obtain ⟨h2, h⟩ := ask_ok h
    simp only [Option.map_eq_some_iff] at h
    obtain ⟨q, hq, rfl⟩ := h
    simp [paths_len hq]

theorem round_ok (H : NSnd P cd cf ih) {L : Lp} {C : LC} {l : List V} {xs : List Value} {R : Ending → World → Prop} (hlp : LpOk cd cf (some L) (some C) ρ) (hk : B.keep C.l = some (.loop (C.loop .ready none)))
    (ok : Ok B ρ s w) (hl : vals ρ l = some xs)
    (h : ∀ r, r ∈ ndRound ih L l s → ∃ v s' j', r = .ok v s' j' ∧ ∀ ρ' w' x B', Ok B' ρ' s' w' → Post ρ s ρ' s' → Ext (some C.l) B B' → St (some C) none B0 j' B' [] → val ρ' v = some x → R (.returned x) w') :
    ∃ tm, (Instr.yield C.l xs.toArray).run P w = .ok (.round C.l C.fn tm C.asg C.body) w ∧ RoundIn (FW none) n P C.l C.fn tm C.asg C.body w R := by
  obtain ⟨_, K, N, hK, hps, hca, hcb, F⟩ := hlp
  unfold ndRound at h
  cases hn : Nat.beq (lenN l) (lenN L.ps) with
  | false =>
    rw [hn] at h
    obtain ⟨_, _, _, h, _⟩ := all_one (a := RO.fail 125) h
    exact absurd h (by simp)
  | true =>
  rw [hn] at h
  have h := all_bind h
  have hn : l.length = L.ps.length := by simpa [beq_eq, lenN_eq] using hn
  have hsz : xs.toArray.size = C.ps.size := by
    have h1 := vals_length hl
    have h2 := paths_len hps
    simp only [List.size_toArray]
    rw [h1, hn, h2]; simp
  refine ⟨_, run_yield (r := C.loop .ready none) (ok.old _ _ hk) hsz, ?_⟩
  have hfold : ((C.loop .ready none).params.zip xs.toArray).foldl (fun tmps (t, a) => tmps.setIfInBounds t a) (C.loop .ready none).tmps = (C.ps.toList.zip xs).foldl (fun t p => t.setIfInBounds p.1 p.2) C.tmps := by
    show (C.ps.zip xs.toArray).foldl _ C.tmps = _
    rw [← Array.foldl_toList, Array.toList_zip]
  rw [hfold]
  have F1 := putPs_fr hK hps hl hn F
  refine roundIn_of_wpIn (F := FW none) trivial ?_
  refine H none none (some C.l) K N C.asg L.asg hK hca .round _ s ρ _ w B B n _ trivial ⟨rfl, ⟨_, rfl⟩, rfl⟩ F1 ok ?_
  intro r hr
  have h := h r hr
  cases r with
  | fail k => obtain ⟨_, _, _, h, _⟩ := all_one h; exact absurd h (by simp)
  | done e t1 s1 j1 =>
  cases e with
  | r => obtain ⟨_, _, _, h, _⟩ := all_one (a := RO.fail 124) h; exact absurd h (by simp)
  | b id => obtain ⟨_, _, _, h, _⟩ := all_one (a := RO.fail 124) h; exact absurd h (by simp)
  | n =>
  refine ⟨.n, t1, s1, j1, rfl, ?_⟩
  intro ρ1 a1 w1 B1 ok1 po1 ex1 st1 G1
  have ex1 : Ext none B B1 := ex1
  have hk1 : B1.keep C.l = some (.loop (C.loop .ready none)) := ex1.keep _ _ (by simp) hk
  refine ⟨_, run_beginRound (ok1.old _ _ hk1) rfl, ?_⟩
  have ok2 : Ok (B1.put C.l (.loop (C.loop .busy none))) ρ1 s1 (w1.putObj C.l (.loop { C.loop .ready none with state := .busy })) := ok1.putKept hk1 _
  have hd1 : a1.defers = [] := by
    cases j1 with
    | round => exact st1.2.2
    | plain => exact absurd st1.2.1 (by simp)
    | mark => exact absurd st1.2.1 (by simp)
    | ready => exact absurd st1.1 (by simp)
    | over e => exact absurd st1.1 (by simp)
  refine H none none (some C.l) K N C.body L.body hK hcb .round t1 s1 ρ1 a1 _ B _ n _ trivial ⟨rfl, ⟨_, rfl⟩, hd1⟩ G1 ok2 ?_
  intro r2 hr2
  obtain ⟨v, s3, j3, hend, hgo⟩ := all_map h r2 hr2
  cases r2 with
  | fail k => exact absurd hend (by simp [endRd])
  | done e t2 s2 j2 =>
  refine ⟨e, t2, s2, j2, rfl, ?_⟩
  intro ρ2 a2 w2 B2 ok3 po2 ex2 st2 G2
  have ex2 : Ext none (B1.put C.l (.loop (C.loop .busy none))) B2 := ex2
  have hk2 : B2.keep C.l = some (.loop (C.loop .busy none)) := ex2.keep _ _ (by simp) (Bs.put_same _ _ _)
  have fin : ∀ (jump : Option Code) (st : LoopState), (if jump.isNone then LoopState.ready else .done) = st → v = .bool jump.isNone → s3 = s2 → St (some C) none B0 j3 (B2.put C.l (.loop (C.loop st jump))) [] →
      ∃ v w', (Instr.endRound C.l jump).run P w2 = .ok v w' ∧ R (.returned v) w' := by
    intro jump st hst hv hs hSt
    subst hst hv hs
    refine ⟨_, _, run_endRound jump (ok3.old _ _ hk2), ?_⟩
    refine hgo ρ2 _ _ (B2.put C.l (.loop (C.loop (if jump.isNone then .ready else .done) jump))) (ok3.putKept hk2 _) (po1.trans po2) ?_ hSt (by simp [val])
    exact (((ex1.any).trans (.putAt _ _ _)).trans ex2.any).trans (.putAt _ _ _)
  cases e with
  | n =>
    have hend : RO.ok (.bool true) s2 .ready = .ok v s3 j3 := hend
    simp only [RO.ok.injEq] at hend
    obtain ⟨rfl, rfl, rfl⟩ := hend
    exact fin none .ready rfl rfl rfl ⟨rfl, rfl, C, rfl, Bs.put_same _ _ _⟩
  | r =>
    have hend : RO.ok (.bool false) s2 (.over .r) = .ok v s3 j3 := hend
    simp only [RO.ok.injEq] at hend
    obtain ⟨rfl, rfl, rfl⟩ := hend
    exact fin (some .ret) .done rfl rfl rfl ⟨rfl, rfl, C, .ret, rfl, rfl, Bs.put_same _ _ _⟩
  | b id =>
    have hend : RO.ok (.bool false) s2 (.over (.b id)) = .ok v s3 j3 := hend
    simp only [RO.ok.injEq] at hend
    obtain ⟨rfl, rfl, rfl⟩ := hend
    exact fin (some (.exit id)) .done rfl rfl rfl ⟨rfl, rfl, C, .exit id, rfl, rfl, Bs.put_same _ _ _⟩
end
end Go.Ev
namespace Go.Ev
variable [Sy]
section
variable {P : Program} {cd : Nat → Nat → Nat → Array Oper → Option DL} {cf : Cf} {tab : Tb} {ih : NH} {w : World} {ρ ρ' : Rho} {s s' : S} {v : V} {a : Act} {o : Oper} {t t' : Tr} {K N n : Nat} {σ : Sub} {lp : Option Lp} {lc : Option LC} {ro : Option Nat} {B0 B : Bs} {j : J}

theorem argsN_evs : ∀ {as : List X} {l : List V}, argsN t as = some l → ∀ k : List V → OR, evs t as k = k l
  | [], l, h, k => by simp only [argsN, Option.some.injEq] at h; subst h; rfl
  | x :: xs, l, h, k => by
    simp only [argsN, bc_eq] at h
    split at h
    · rename_i hd
      split at h
      · rename_i l' hl
        simp only [Option.some.injEq] at h; subst h
        simp only [evs, hd, bc_eq, if_true]
        exact argsN_evs hl _
      · exact absurd h (by simp)
    · exact absurd h (by simp)
theorem argsN_ok {as : List X} {l : List V} {xs : List Operand} (h : argsN t as = some l) (ha : Args ρ t a.eval as xs) : vals ρ l = some (xs.map a.eval) := by
  obtain ⟨l', hl, he⟩ := evs_ok (s' := .mk .leaf 0) (v := .tuple l) (argsN_evs h fun l => .ok (.tuple l) (.mk .leaf 0)) ha
  simp only [OR.ok.injEq, V.tuple.injEq, and_true] at he
  rw [← he]; exact hl
theorem LetJ {r : OR} {v : V} {s' : S} {j' : J} (h : liftJ j r = .ok v s' j') : r = .ok v s' ∧ j' = j := by
  cases r with
  | fail n => exact absurd h (by simp [liftJ])
  | ok u s1 =>
    simp only [liftJ, RO.ok.injEq] at h
    obtain ⟨rfl, rfl, rfl⟩ := h
    exact ⟨rfl, rfl⟩

theorem ndO_ok (E : EnvOk P cf) (hK : K >>> 65536 = 0) (ht : TabOk P cf cd tab) (H : NSnd P cd cf ih) (F : Fr K N ρ t σ a) (ok : Ok B ρ s w) {i : O} (hi : compB cf K σ o.op = some i) (hlp : LpOk cd cf lp lc ρ) (hst : St lc ro B0 j B a.defers)
    {next : Act → World → Prop} {Q : Exit → Act → World → Prop}
    (h : ∀ r, r ∈ ndO tab ih lp j i t s → ∃ v s' j', r = .ok v s' j' ∧ ∀ ρ' w' x B', Ok B' ρ' s' w' → Post ρ s ρ' s' → Ext (lcAt lc) B B' → St lc ro B0 j' B' a.defers → OV ρ' v x → next (a.put o.dst x) w') :
    o.wpIn (FW ro) n P a w next Q := by
  have semAt : o.semAt (FW ro).round a.eval = execOp a.eval o := Oper.semAt_eq _ _ _ (by intro c hc; rw [hc] at hi; simp [compB, compO] at hi)
  have got : ∀ (v : V) (s1 : S), To P B ρ s w (execOp a.eval o) v s1 → (∀ ρ' w' x B', Ok B' ρ' s1 w' → Post ρ s ρ' s1 → Ext (lcAt lc) B B' → St lc ro B0 j B' a.defers → OV ρ' v x → next (a.put o.dst x) w') → o.wpIn (FW ro) n P a w next Q := by
    intro v s1 hto hgo
    obtain ⟨ρ', w', nx, ok', po, hr, hv⟩ := hto
    refine ⟨fun _ _ => trivial, ?_⟩
    rw [semAt, hr]
    rcases hv with ⟨rfl, rfl⟩ | ⟨x, rfl, hx⟩
    · exact hgo ρ' w' undef B ok' po (.refl _ _) hst (.inl rfl)
    · exact hgo ρ' w' x B ok' po (.refl _ _) hst hx
  have plain : compO cf K σ o.op = some i → isCall i = false → ndO tab ih lp j i t s = [liftJ j (evO i noCallT t s)] → o.wpIn (FW ro) n P a w next Q := by
    intro hc hn hlist
    rw [hlist] at h
    obtain ⟨v, s1, j1, he, hgo⟩ := all_one h
    obtain ⟨he2, rfl⟩ := LetJ he
    exact got v s1 (compO_ok (call := noCallT) E hK F ok hc hn he2) hgo
  have fin : ∀ (f : FuncId) (l : List V) (xs : List Value), execOp a.eval o = callFunc f xs.toArray → vals ρ l = some xs → (∀ r, r ∈ mapL (liftJ j) (ndCall tab ih f l s) → ∃ v s' j', r = .ok v s' j' ∧ ∀ ρ' w' x B', Ok B' ρ' s' w' → Post ρ s ρ' s' → Ext (lcAt lc) B B' → St lc ro B0 j' B' a.defers → OV ρ' v x → next (a.put o.dst x) w') →
      o.wpIn (FW ro) n P a w next Q := by
    intro f l xs hx hl hc
    have key := fun (R : Ending → World → Prop) (hR : ∀ x w', next (a.put o.dst x) w' → R (.returned x) w') => ndCall_ok (n := n - 1) (R := R) E ht H ro ok hl (by
      intro r hr
      obtain ⟨v, s1, j1, he, hgo⟩ := all_map hc r hr
      obtain ⟨he2, rfl⟩ := LetJ he
      exact ⟨v, s1, he2, fun ρ' w' x ok' po hx => hR x w' (hgo ρ' w' x B ok' po (.refl _ _) hst (.inr hx))⟩)
    refine ⟨fun _ _ => trivial, ?_⟩
    have key := key (fun
          | .returned v, w'' => next (a.put o.dst v) w''
          | .panicked chain, w'' => Q (.panic chain) a w''
          | .outgrown, _ => LetsOut Q) (fun x w' h => h)
    rw [semAt, hx, key.1, Oper.uponIn_enter]
    exact ⟨fun h => absurd h (by simp [FW, Fence.wide]), key.2⟩
  generalize hop : o.op = op at hi
  unfold compB at hi
  split at hi
  · rename_i x args argTypes
    simp only [compCall] at hi
    split at hi
    · rename_i hh; exact absurd hh (by simp)
    · rename_i f hh
      simp only [Callee.value.injEq] at hh
      subst hh
      split at hi
      · refine plain (by rw [hop]; simp only [compO, compCall]; rename_i h1 h2; simp only [h1, h2, hi]) ?_ ?_
        all_goals simp only [Option.bind_eq_some_iff, Option.some.injEq] at hi; obtain ⟨_, _, _, _, rfl⟩ := hi; rfl
      · refine plain (by rw [hop]; simp only [compO, compCall]; rename_i h1 h2 h3; simp only [h1, h2, h3, hi]) ?_ ?_
        all_goals simp only [Option.bind_eq_some_iff, Option.some.injEq] at hi; obtain ⟨_, _, _, _, rfl⟩ := hi; rfl
      · simp only [Option.bind_eq_some_iff, Option.some.injEq] at hi
        obtain ⟨as, has, rfl⟩ := hi
        simp only [ndO] at h
        cases hl : argsN t as with
        | none => rw [hl] at h; obtain ⟨_, _, _, h, _⟩ := all_one h; exact absurd h (by simp)
        | some l =>
          rw [hl] at h
          refine fin f l _ ?_ (argsN_ok hl (cxs_ok hK F has)) h
          rw [exec_call hop rfl]
          congr 1
          apply Array.ext'; simp
      · exact absurd hi (by simp)
    · rename_i x' hne hh
      simp only [Callee.value.injEq] at hh
      subst hh
      simp only [Option.bind_eq_some_iff, Option.some.injEq] at hi
      obtain ⟨c1, h1, as, has, rfl⟩ := hi
      have hx := cx_ok hK F h1
      simp only [ndO] at h
      generalize hv1 : c1.ev t = v1 at h hx
      cases v1 <;> try (obtain ⟨_, _, _, h, _⟩ := all_one (a := RO.fail 74) h; exact absurd h (by simp))
      case func f fi ca =>
        obtain ⟨xf, xc, hf, hca, hx⟩ := OV_func hx
        simp only at h
        cases hl : argsN t as with
        | none => rw [hl] at h; obtain ⟨_, _, _, h, _⟩ := all_one h; exact absurd h (by simp)
        | some l =>
          rw [hl] at h
          refine fin f _ _ ?_ (vals_append (vals_append hf (argsN_ok hl (cxs_ok hK F has))) hca) h
          have e1 : (xf ++ List.map a.eval args.toList ++ xc).toArray = xf.toArray ++ (args.map a.eval) ++ xc.toArray := by
            apply Array.ext'; simp
          rw [e1]
          simp [execOp, hop, resolve, hx, Deferred.ofValue, invoke]
      case yld b =>
        simp only at h
        unfold ndYield at h
        split at h
        case h_2 => obtain ⟨_, _, _, h, _⟩ := all_one h; exact absurd h (by simp)
        rename_i L
        cases hb : Nat.beq b L.yb with
        | false => rw [hb] at h; obtain ⟨_, _, _, h, _⟩ := all_one (a := RO.fail 126) h; exact absurd h (by simp)
        | true =>
        rw [hb] at h
        cases hl : argsN t as with
        | none => rw [hl] at h; obtain ⟨_, _, _, h, _⟩ := all_one (a := RO.fail 90) h; exact absurd h (by simp)
        | some l =>
        rw [hl] at h
        have h : ∀ r, r ∈ ndRound ih L l s → _ := h
        simp only [beq_eq, decide_eq_true_eq] at hb
        subst hb
        obtain ⟨hro, hds, C, rfl, hk⟩ := hst
        have hro : ro = none := hro
        subst hro
        have hyb := hlp.1
        have hxv : a.eval x = .func (.yield C.l) #[] #[] := by
          rcases hx with hx | hx
          · exact absurd hx (by simp)
          · simpa [val, hyb] using hx.symm
        obtain ⟨tm, hy, hround⟩ := round_ok (n := n - 1) (B0 := B0) (R := fun
          | .returned v, w'' => next (a.put o.dst v) w''
          | .panicked chain, w'' => Q (.panic chain) a w''
          | .outgrown, _ => LetsOut Q) H hlp hk ok (argsN_ok hl (cxs_ok hK F has)) (by
            intro r hr
            obtain ⟨v, s1, j1, he, hgo⟩ := h r hr
            exact ⟨v, s1, j1, he, fun ρ' w' x B' ok' po ex st hv => hgo ρ' w' x B' ok' po ex (by rw [hds]; exact st) (.inr hv)⟩)
        refine ⟨fun _ _ => trivial, ?_⟩
        have hex : (execOp a.eval o).run P w = .ok (.round C.l C.fn tm C.asg C.body) w := by
          have e1 : (List.map a.eval args.toList).toArray = args.map a.eval := by apply Array.ext'; simp
          rw [e1] at hy
          simp [execOp, hop, resolve, hxv, Deferred.ofValue, invoke, hy]
        rw [semAt, hex, Oper.uponIn_round]
        exact ⟨fun h => absurd h (by simp [FW, Fence.wide]), hround⟩
    · rename_i hh; exact absurd hh (by simp)
  · rename_i x
    simp only [Option.bind_eq_some_iff, Option.some.injEq] at hi
    obtain ⟨c, hx, rfl⟩ := hi
    have hxv := cx_ok hK F hx
    simp only [ndO] at h
    generalize hv1 : c.ev t = v1 at h hxv
    cases v1 <;> try (obtain ⟨_, _, _, h, _⟩ := all_one (a := RO.fail 3) h; exact absurd h (by simp))
    case ptr b q =>
      simp only at h
      cases hq : Nat.beq q 0 with
      | false => rw [hq] at h; obtain ⟨_, _, _, h, _⟩ := all_one (a := RO.fail 49) h; exact absurd h (by simp)
      | true =>
      rw [hq] at h
      have h := all_map h
      have hq := Nat.eq_of_beq_eq_true hq
      subst hq
      obtain ⟨v, s1, hmem, hto⟩ := nextM2_ok (P := P) hop ok hxv (by
        intro r hr
        obtain ⟨v, s1, j1, he, _⟩ := h r hr
        exact ⟨v, s1, (LetJ he).1⟩)
      obtain ⟨v', s1', j1, he, hgo⟩ := h _ hmem
      obtain ⟨he2, rfl⟩ := LetJ he
      simp only [OR.ok.injEq] at he2
      obtain ⟨rfl, rfl⟩ := he2
      exact got v s1 hto hgo
  · simp only [Option.bind_eq_some_iff] at hi
    obtain ⟨i', h1, h2⟩ := hi
    obtain ⟨h3, h2⟩ := ask_ok h2
    simp only [Option.some.injEq] at h2; subst h2
    have hnx : isNx i' = false := by
      unfold noCall at h3
      split at h3
      · exact absurd h3 (by simp)
      · assumption
    refine plain (by rw [hop]; exact h1) ?_ ?_
    · cases i' <;> first | rfl | exact absurd hnx (by simp [isNx, isCall])
    · cases i' <;> first | rfl | exact absurd hnx (by simp [isNx, isCall])
end
end Go.Ev
namespace Go.Ev
variable [Sy]
section
variable {P : Program} {cd : Nat → Nat → Nat → Array Oper → Option DL} {cf : Cf} {tab : Tb} {ih : NH} {w : World} {ρ ρ' : Rho} {s s' : S} {v : V} {a : Act} {o : Oper} {t t' : Tr} {K N n : Nat} {σ : Sub} {lp : Option Lp} {lc : Option LC} {ro : Option Nat} {B0 B : Bs} {j : J}

/- what a list of answers must lead to -/
def Goes (K N : Nat) (lc : Option LC) (ro : Option Nat) (B0 : Bs) (Q : Exit → Act → World → Prop) (s : S) (ρ : Rho) (B : Bs) (r : RN) : Prop :=
  ∃ e t' s' j', r = .done e t' s' j' ∧ ∀ ρ' a' w' B', Ok B' ρ' s' w' → Post ρ s ρ' s' → Ext (lcAt lc) B B' → St lc ro B0 j' B' a'.defers → Fr K N ρ' t' [] a' → Q (exitE e) a' w'
theorem Goes.from {Q : Exit → Act → World → Prop} {r : RN} {s1 : S} {ρ1 : Rho} {B1 : Bs} (h : Goes K N lc ro B0 Q s ρ B r) (po : Post ρ s ρ1 s1) (ex : Ext (lcAt lc) B B1) : Goes K N lc ro B0 Q s1 ρ1 B1 r := by
  obtain ⟨e, t', s', j', rfl, hgo⟩ := h
  exact ⟨e, t', s', j', rfl, fun ρ' a' w' B' ok' po' ex' st' F' => hgo ρ' a' w' B' ok' (po.trans po') (ex.trans ex') st' F'⟩
theorem Goes.fail {Q : Exit → Act → World → Prop} {k : Nat} (h : Goes K N lc ro B0 Q s ρ B (.fail k)) : False := by
  obtain ⟨_, _, _, _, h, _⟩ := h; exact absurd h (by simp)

theorem ndL_ok (E : EnvOk P cf) (hK : K >>> 65536 = 0) (ht : TabOk P cf cd tab) (H : NSnd P cd cf ih) {ops : Array Oper} {Q : Exit → Act → World → Prop} : ∀ (rest : List Oper) (σ : Sub) (l : L) (t : Tr) (s : S) (j : J) (ρ : Rho) (a : Act) (w : World) (B : Bs),
    compL cf K N ops rest σ = some l → Fr K N ρ t σ a → Ok B ρ s w → LpOk cd cf lp lc ρ → St lc ro B0 j B a.defers →
    (∀ r, r ∈ ndL tab ih lp l t s j → Goes K N lc ro B0 Q s ρ B r) → wpListIn (FW ro) n P ops Q rest a w
  | [], σ, l, t, s, j, ρ, a, w, B, hl, F, ok, hlp, hst, h => by
    simp only [compL, Option.some.injEq] at hl
    subst hl
    obtain ⟨e, t', s', j', he, hgo⟩ := all_one (a := RN.done .n t s j) h
    simp only [RN.done.injEq] at he
    obtain ⟨rfl, rfl, rfl, rfl⟩ := he
    exact hgo ρ a w B ok (Post.refl ρ s) (.refl _ _) hst F.nil
  | o :: rest, σ, l, t, s, j, ρ, a, w, B, hl, F, ok, hlp, hst, h => by
    have doit : ∀ {i : O} {d : D} {k : L}, compB cf K σ o.op = some i → dstOf K N o.dst = some d → compL cf K N ops rest (clean σ o.dst) = some k → (∀ r, r ∈ thenO d (ndL tab ih lp k) t (ndO tab ih lp j i t s) → Goes K N lc ro B0 Q s ρ B r) →
        ∀ (K' : Act → World → Prop), (∀ a w, wpListIn (FW ro) n P ops Q rest a w → K' a w) → o.wpIn (FW ro) n P a w K' Q := by
      intro i d k hi hd hk hh K' hK'
      have hh := all_bind hh
      refine ndO_ok E hK ht H F ok hi hlp hst ?_
      intro r hr
      have hh := hh r hr
      cases r with
      | fail q => exact (all_one hh).fail.elim
      | ok v s1 j1 =>
        refine ⟨v, s1, j1, rfl, fun ρ1 w1 x B1 ok1 po1 ex1 st1 hx => hK' _ _ ?_⟩
        have hle := po1.le ok
        exact ndL_ok E hK ht H rest _ k _ s1 j1 ρ1 _ w1 B1 hk ((F.mono hle).dst hK hd hx) ok1 (hlp.mono hle) (by rw [put_defers]; exact st1) fun r hr => (hh r hr).from po1 ex1
    have skipIt : ∀ {d : D} {k : L}, dstOf K N o.dst = some d → compL cf K N ops rest (clean σ o.dst) = some k → (∀ r, r ∈ ndL tab ih lp k (setD d uV t) s j → Goes K N lc ro B0 Q s ρ B r) → wpListIn (FW ro) n P ops Q rest (a.put o.dst undef) w := by
      intro d k hd hk hh
      have F1 := F.dst hK hd (v := uV) (x := undef) (.inr (by simp [uV, val, vals, undef]))
      exact ndL_ok E hK ht H rest _ k _ s j ρ _ w B hk F1 ok hlp (by rw [put_defers]; exact hst) hh
    simp only [compL] at hl
    split at hl
    case h_2 =>
      simp only [Option.map_eq_some_iff] at hl
      obtain ⟨k, _, rfl⟩ := hl
      exact ((all_one (a := RN.fail 95) h).fail).elim
    rename_i l0 hl0
    simp only [Option.some.injEq] at hl
    rw [hl] at hl0
    clear hl
    have hl := hl0
    clear hl0
    split at hl
    · rename_i hg
      have viaDo : ∀ {i : O} {d : D} {k : L}, compB cf K σ o.op = some i → dstOf K N o.dst = some d → compL cf K N ops rest (clean σ o.dst) = some k → l = .op d i k → wpListIn (FW ro) n P ops Q (o :: rest) a w := by
        intro i d k hi hd hk hll
        subst hll
        refine wpListIn_step fun K' hK' => ?_
        rw [if_pos (by simp [Region.wanted, hg])]
        exact doit hi hd hk h K' hK'
      split at hl
      · rename_i x d hop hdst
        split at hl
        · rename_i hb
          simp only [Option.bind_eq_some_iff] at hl
          obtain ⟨c, hx, hl⟩ := hl
          obtain ⟨hd, hl⟩ := ask_ok hl
          simp only [Option.bind_eq_some_iff, Option.some.injEq] at hl
          obtain ⟨k, hk, rfl⟩ := hl
          refine viaDo (i := .mv c) (d := .to (path d)) (k := k) ?_ ?_ ?_ rfl
          · rw [hop]; simp [compB, compO, hx, noCall, isNx, isCall, ask]
          · rw [hdst]; simp [dstOf, hb, hd, ask]
          · rw [hdst]; exact hk
        · rename_i hb
          simp only [Option.bind_eq_some_iff] at hl
          obtain ⟨c, hx, hl⟩ := hl
          obtain ⟨hd, hl⟩ := ask_ok hl
          have hxv := cx_ok hK F hx
          have hd : d < N := by simpa [blt_eq'] using hd
          have F1 := F.drop (by simpa using hb) hd hxv
          have ih := ndL_ok E hK ht H rest _ l t s j ρ (a.put (some d) (a.eval x)) w B hl F1 ok hlp (by rw [put_defers]; exact hst) h
          refine wpListIn_step fun K' hK' => ?_
          rw [if_pos (by simp [Region.wanted, hg])]
          have hr : (execOp a.eval o).run P w = .ok (.value (a.eval x)) w := by simp [execOp, hop]
          refine ⟨fun _ _ => trivial, ?_⟩
          rw [Oper.semAt_eq _ _ _ (by rw [hop]; simp), hr, Oper.uponIn_value, hdst]
          exact hK' _ _ ih
      · simp only [Option.bind_eq_some_iff, Option.some.injEq] at hl
        obtain ⟨i, hi, d, hd, k, hk, rfl⟩ := hl
        exact viaDo hi hd hk rfl
    · rename_i jj want hg
      simp only [Option.bind_eq_some_iff] at hl
      obtain ⟨i, hi, d, hd, g, hgj, gd, hgd, hl⟩ := hl
      obtain ⟨hb, hl⟩ := ask_ok hl
      simp only [Option.bind_eq_some_iff, Option.some.injEq] at hl
      obtain ⟨k, hk, rfl⟩ := hl
      have h : ∀ r, r ∈ onGL (getP (path gd) t) (bc want (thenO d (ndL tab ih lp k) t (ndO tab ih lp j i t s)) (ndL tab ih lp k (setD d uV t) s j)) (bc want (ndL tab ih lp k (setD d uV t) s j) (thenO d (ndL tab ih lp k) t (ndO tab ih lp j i t s))) (ndL tab ih lp k (setD d uV t) s j) → Goes K N lc ro B0 Q s ρ B r := h
      have hgv := F.tmps gd hb (bound_of hK hb)
      generalize hgt : getP (path gd) t = gv at h hgv
      cases gv <;> try (exact ((all_one (a := RN.fail 97) h).fail).elim)
      case tuple us =>
        obtain ⟨xs, _, hgv⟩ := OV_tuple hgv
        have hy : yielded ops a.tmps jj = none := by
          simp only [yielded, hgj, hgd, Option.bind_some]
          cases hh : a.tmps[gd]? with
          | none => rfl
          | some z =>
            have : z = .tuple xs.toArray := by
              simpa [Array.getD_eq_getD_getElem?, hh] using hgv
            rw [this]
        have hw : Region.wanted o (yielded ops a.tmps) = false := by
          simp [Region.wanted, hg, hy]
        exact wpListIn_step fun K' hK' => by rw [hw, if_neg (by decide)]; exact ⟨fun _ _ => trivial, hK' _ _ (skipIt hd hk h)⟩
      case bool c =>
        have hgv := OV_bool hgv
        have hy : yielded ops a.tmps jj = some c := by
          have hlt : gd < a.tmps.size := by
            rcases Nat.lt_or_ge gd a.tmps.size with h' | h'
            · exact h'
            · simp [Array.getD_eq_getD_getElem?, Array.getElem?_eq_none h', undef] at hgv
          have h9 : a.tmps[gd]? = some (.bool c) := by
            simp only [Array.getD_eq_getD_getElem?, Array.getElem?_eq_getElem hlt, Option.getD_some] at hgv
            rw [Array.getElem?_eq_getElem hlt, hgv]
          simp [yielded, hgj, hgd, h9]
        have hw : Region.wanted o (yielded ops a.tmps) = (c == want) := by
          simp [Region.wanted, hg, hy]
        cases c <;> cases want
        · exact wpListIn_step fun K' hK' => by rw [hw, if_pos (show (false == false) = true from rfl)]; exact doit hi hd hk h K' hK'
        · exact wpListIn_step fun K' hK' => by rw [hw, if_neg (show ¬ (false == true) = true by decide)]; exact ⟨fun _ _ => trivial, hK' _ _ (skipIt hd hk h)⟩
        · exact wpListIn_step fun K' hK' => by rw [hw, if_neg (show ¬ (true == false) = true by decide)]; exact ⟨fun _ _ => trivial, hK' _ _ (skipIt hd hk h)⟩
        · exact wpListIn_step fun K' hK' => by rw [hw, if_pos (show (true == true) = true from rfl)]; exact doit hi hd hk h K' hK'
end
end Go.Ev
namespace Go.Ev
variable [Sy]
section
variable {P : Program} {cd : Nat → Nat → Nat → Array Oper → Option DL} {cf : Cf} {tab : Tb} {call : CallT} {w : World} {ρ ρ' : Rho} {s s' : S} {v : V} {a : Act} {t t' : Tr} {K N n : Nat} {lp : Option Lp} {lc : Option LC} {ro : Option Nat} {B0 B : Bs} {j : J}

theorem free_defers (h : St lc ro B0 j B a.defers) (hf : free j = true) : a.defers = [] := by
  cases j with
  | plain => exact h.2.2.2
  | ready => exact h.2.1
  | over e => exact h.2.1
  | mark => exact absurd hf (by simp [free])
  | round => exact h.2.2
theorem lp_none (h : LpOk cd cf none lc ρ) : lc = none := by
  cases lc with
  | none => rfl
  | some _ => exact h.elim

/- the loop over a function -/
theorem rng_ok (ht : TabOk P cf cd tab) {ih : NH} (H : NSnd P cd cf ih) (E : EnvOk P cf) {g : Operand} {ps : Array Tmp} {c1 c2 : Code} {z : X} {pl : List Pt} {x1 x2 : C} {Q : Exit → Act → World → Prop} (hK : K >>> 65536 = 0)
    (hz : cx K [] g = some z) (hp : paths K N ps.toList = some pl) (h1 : compC cd cf K N c1 = some x1) (h2 : compC cd cf K N c2 = some x2)
    (hlp : LpOk cd cf lp lc ρ) (hst : St lc ro B0 j B a.defers) (F : Fr K N ρ t [] a) (ok : Ok B ρ s w)
    (h : ∀ r, r ∈ ndRng tab ih z pl x1 x2 lp j t s → Goes K N lc ro B0 Q s ρ B r) : (Code.rangeFunc g ps c1 c2).wpIn (FW ro) n P Q a w := by
  unfold ndRng at h
  split at h
  case h_2 => exact ((all_one h).fail).elim
  have := lp_none hlp
  subst this
  obtain ⟨_, hro, hex0, hds⟩ := hst
  subst hro
  have hzv := cx_ok hK F hz
  generalize hv1 : z.ev t = v1 at h hzv
  cases v1 <;> try (exact ((all_one (a := RN.fail 129) h).fail).elim)
  case func f fa fb =>
  obtain ⟨xa, xb, hfa, hfb, hzv⟩ := OV_func hzv
  simp only at h
  cases hg : tab.get f with
  | no => rw [hg] at h; exact ((all_one h).fail).elim
  | mk body res m =>
  rw [hg] at h
  simp only at h
  cases hle : Nat.ble (lenN (app (app fa [.yld s.next]) fb)) m with
  | false => rw [hle] at h; exact ((all_one (a := RN.fail 78) h).fail).elim
  | true =>
  rw [hle] at h
  have h := all_map h
  have hf := ht.fn f body res m hg
  obtain ⟨fn, c, Kf, hfn, hb, hn, hc, hr, hKf⟩ := hf.out
  simp only [ble_eq, decide_eq_true_eq, lenN_eq] at hle
  refine wpIn_rangeFunc ?_
  intro fnid _
  obtain ⟨C, hC⟩ : ∃ C : LC, C = { l := w.heap.size + 1, fn := fnid, tmps := a.tmps, ps := ps, asg := c1, body := c2, D := w.heap.size } := ⟨_, rfl⟩
  obtain ⟨W1, hW1⟩ : ∃ W1, (w.alloc (.deferred (some []))).alloc (.loop (C.loop .ready none)) = W1 := ⟨_, rfl⟩
  obtain ⟨B1, hB1⟩ : ∃ B1 : Bs, (B.put w.heap.size (.deferred (some []))).put (w.heap.size + 1) (.loop (C.loop .ready none)) = B1 := ⟨_, rfl⟩
  have ok1 : Ok B1 ρ s W1 := by
    have h1 := ok.allocKept (.deferred (some []))
    have h2 := h1.allocKept (.loop (C.loop .ready none))
    rw [World.size_alloc] at h2
    rw [← hB1, ← hW1]; exact h2
  have hsz : W1.heap.size = w.heap.size + 2 := by rw [← hW1, World.size_alloc, World.size_alloc]
  obtain ⟨ok2, po2⟩ := ok1.named (p := (w.heap.size + 1, 0)) (by omega)
  obtain ⟨ρ1, hρ1⟩ : ∃ ρ1, ρ.set s.next (w.heap.size + 1, 0) = ρ1 := ⟨_, rfl⟩
  rw [hρ1] at ok2 po2
  have hle1 := po2.le ok1
  have hyv : vals ρ1 [.yld s.next] = some [.func (.yield (w.heap.size + 1)) #[] #[]] := by
    rw [← hρ1]; simp [vals, val, Rho.set]
  have hargs : vals ρ1 (app (app fa [.yld s.next]) fb) = some (xa ++ [Value.func (.yield (w.heap.size + 1)) #[] #[]] ++ xb) := vals_append (vals_append (vals_mono hle1 _ _ hfa) hyv) (vals_mono hle1 _ _ hfb)
  have hkl : B1.keep (w.heap.size + 1) = some (.loop (C.loop .ready none)) := by rw [← hB1]; exact Bs.put_same _ _ _
  have hkD : B1.keep w.heap.size = some (.deferred (some [])) := by rw [← hB1, Bs.put_other _ _ (by omega)]; exact Bs.put_same _ _ _
  have hexB : Ext none B B1 := by
    refine ⟨fun r o _ ho => ?_, by rw [← hB1]; rfl⟩
    have := ok.kept ho
    rw [← hB1, Bs.put_other _ _ (by omega), Bs.put_other _ _ (by omega)]; exact ho
  have hD0 : B0.keep w.heap.size = none := by
    cases hk : B0.keep w.heap.size with
    | none => rfl
    | some o => have := ok.kept (hex0.keep _ _ (by simp) hk); omega
  have hL0 : B.keep (w.heap.size + 1) = none := ok.fresh (by omega)
  refine ⟨w.heap.size + 1, [{ target := .collected w.heap.size, args := #[] }], W1, { target := .fn (.func f) xb.toArray, args := xa.toArray ++ #[Value.func (.yield (w.heap.size + 1)) #[] #[]] }, W1, f,
    (xa ++ [Value.func (.yield (w.heap.size + 1)) #[] #[]] ++ xb).toArray, W1, ?_, ?_, fun _ _ => trivial, ?_, fun h => absurd h (by simp [FW, Fence.wide]), ?_⟩
  · rw [← hW1, hC]; exact run_enterLoop_outer _ _ _ _ _
  · simp only [resolve, hzv]
    simp [Deferred.ofValue, Act.eval]
  · simp only [invoke]
    have e1 : xa.toArray ++ #[Value.func (.yield (w.heap.size + 1)) #[] #[]] ++ xb.toArray = (xa ++ [Value.func (.yield (w.heap.size + 1)) #[] #[]] ++ xb).toArray := by
      apply Array.ext'; simp
    rw [e1]; exact hf.enter _ _
  · have Ff := inits_fr (K := Kf) (N := m) hargs hle hf.small
    refine callsIn_of_wp_marks (F := FW none) hfn hb trivial ?_
    rw [hn]
    have hlp1 : LpOk cd cf (some ⟨s.next, t, pl, x1, x2⟩) (some C) ρ1 := by
      rw [hC]
      exact ⟨by rw [← hρ1]; simp [Rho.set], K, N, hK, hp, h1, h2, (F.mono hle1).act []⟩
    refine H (some ⟨s.next, t, pl, x1, x2⟩) (some C) none Kf m c body hKf hc .ready _ (s.add .no) ρ1 _ W1 B1 B1 _ _ hlp1 ⟨rfl, rfl, C, rfl, by rw [hC] at hkl ⊢; exact hkl⟩ Ff ok2 ?_
    intro r hr'
    have h := h r hr'
    cases r with
    | fail k => exact absurd h (fun h => (show Goes K N none none B0 Q s ρ B (.fail k) from h).fail)
    | done e t1 s1 j1 =>
    refine ⟨e, t1, s1, j1, rfl, ?_⟩
    intro ρ2 a2 w2 B2 ok3 po3 ex3 st3 F3
    unfold endLp at h
    generalize hfin : finJ res (.done e t1 s1 j1) = fr at h
    cases fr with
    | fail k => exact (h.fail).elim
    | ok u su =>
    simp only at h
    have key : (e = .n ∨ e = .r) ∧ resVs t1 s1 res (one s1) = .ok u su := by
      cases e with
      | n => exact ⟨.inl rfl, hfin⟩
      | r => exact ⟨.inr rfl, hfin⟩
      | b id => exact absurd hfin (by simp [finJ])
    have hCl : C.l = w.heap.size + 1 := by rw [hC]
    have ex3 : Ext (some C.l) B1 B2 := ex3
    have hD2 : B2.keep w.heap.size = some (.deferred (some [])) := ex3.keep _ _ (by rw [hCl]; simp) hkD
    have leave : ∃ v, (results fn a2.tmps).run P w2 = .ok v w2 := by
      obtain ⟨l1, xs1, hl1, hk1, hrun⟩ := res_ok E hKf F3 ok3 hr key.2
      refine ⟨if h : xs1.toArray.size = 1 then xs1.toArray[0] else .tuple xs1.toArray, ?_⟩
      rw [results_eq, Sem.run_bind, Array.mapM_eq_mapM_toList, Sem.run_map, hrun]
      rfl
    obtain ⟨vr, hvr⟩ := leave
    /- behind the loop -/
    have behind : ∀ (st : LoopState) (pe : Option Code), B2.keep C.l = some (.loop (C.loop st pe)) → st ≠ .busy → ∃ w4 B4, (Instr.endLoop C.l).run P w2 = .ok pe w4 ∧ Ok B4 ρ2 s1 w4 ∧ Post ρ s ρ2 s1 ∧ Ext none B B4 ∧ St none none B0 .mark B4 [{ target := .collected w.heap.size, args := #[] }] ∧ Fr K N ρ2 t [] { a with defers := [{ target := .collected w.heap.size, args := #[] }] ++ a.defers } := by
      intro st pe hk hb
      refine ⟨_, B2.drop C.l, run_endLoop (r := C.loop st pe) (ok3.old _ _ hk) hb, ok3.putGone hk _, po2.trans po3, ?_, ?_, ?_⟩
      · refine ⟨fun r o _ ho => ?_, by show B2.w = B.w; rw [ex3.w, hexB.w]⟩
        have hne : r ≠ C.l := fun e => by rw [e, hCl, hL0] at ho; exact absurd ho (by simp)
        rw [Bs.drop_other _ hne]
        exact ex3.keep _ _ (by simpa using hne) (hexB.keep _ _ (by simp) ho)
      · refine ⟨rfl, rfl, ?_, w.heap.size, rfl, by rw [Bs.drop_other _ (by rw [hCl]; omega)]; exact hD2, hD0⟩
        refine ⟨fun r o _ ho => ?_, by show B2.w = B0.w; rw [ex3.w, hexB.w, hex0.w]⟩
        have ho := hex0.keep _ _ (by simp) ho
        have hne : r ≠ C.l := fun e => by rw [e, hCl, hL0] at ho; exact absurd ho (by simp)
        rw [Bs.drop_other _ hne]
        exact ex3.keep _ _ (by simpa using hne) (hexB.keep _ _ (by simp) ho)
      · exact (F.mono ((po2.trans po3).le ok)).act _
    have hdef : a2.defers = [] := by
      cases j1 with
      | ready => exact st3.2.1
      | over e => exact st3.2.1
      | plain => exact absurd st3.1 (by simp)
      | mark => exact absurd st3.1 (by simp)
      | round => exact absurd st3.1 (by simp)
    have done : rangePost (FW none) n P (w.heap.size + 1) Q { a with defers := [{ target := .collected w.heap.size, args := #[] }] ++ a.defers } (.returned vr) w2 := by
      cases j1 with
      | ready =>
        obtain ⟨_, _, C', hC', hk⟩ := st3
        simp only [Option.some.injEq] at hC'; subst hC'
        obtain ⟨w4, B4, h5, h6, h7, h8, h9, h10⟩ := behind _ _ hk (by simp)
        rw [hCl] at h5
        obtain ⟨e', t2, s2, j2, he, hgo⟩ := h
        simp only [RN.done.injEq] at he
        obtain ⟨rfl, rfl, rfl, rfl⟩ := he
        refine ⟨none, w4, h5, ?_⟩
        exact hgo ρ2 _ w4 B4 h6 h7 h8 (by simp only [hds, List.append_nil]; exact h9) h10
      | over ej =>
        obtain ⟨_, _, C', cc, hC', hcc, hk⟩ := st3
        simp only [Option.some.injEq] at hC'; subst hC'
        obtain ⟨w4, B4, h5, h6, h7, h8, h9, h10⟩ := behind _ _ hk (by simp)
        rw [hCl] at h5
        obtain ⟨e', t2, s2, j2, he, hgo⟩ := h
        simp only [RN.done.injEq] at he
        obtain ⟨rfl, rfl, rfl, rfl⟩ := he
        have hq := hgo ρ2 _ w4 B4 h6 h7 h8 (by simp only [hds, List.append_nil]; exact h9) h10
        refine ⟨some cc, w4, h5, ?_⟩
        cases ej with
        | n => exact absurd hcc (by simp [codeOf])
        | r => simp only [codeOf, Option.some.injEq] at hcc; subst hcc; exact wpIn_ret hq
        | b id => simp only [codeOf, Option.some.injEq] at hcc; subst hcc; exact wpIn_exit hq
      | plain => exact absurd st3.1 (by simp)
      | mark => exact absurd st3.1 (by simp)
      | round => exact absurd st3.1 (by simp)
    have fin : LeavesInM (FW none) (n - 1) P fn a2.tmps (rangePost (FW none) n P (w.heap.size + 1) Q { a with defers := [{ target := .collected w.heap.size, args := #[] }] ++ a.defers }) a2.defers .returning w2 := by
      rw [hdef]
      exact ⟨vr, hvr, done⟩
    rcases key.1 with rfl | rfl
    · exact fin
    · exact fin
end
end Go.Ev
namespace Go.Ev
variable [Sy]
section
variable {P : Program} {cd : Nat → Nat → Nat → Array Oper → Option DL} {cf : Cf} {tab : Tb} {call : CallT}
theorem nd_succ (f : Nat) (lp : Option Lp) (j : J) (c : C) (t : Tr) (s : S) : nd tab call (f + 1) lp j c t s = ndC tab call (nd tab call f) lp j c t s := rfl

theorem Goes.to {K N : Nat} {lc : Option LC} {ro : Option Nat} {B0 B : Bs} {Q Q' : Exit → Act → World → Prop} {s : S} {ρ : Rho} {e : Ev.E} {t1 : Tr} {s1 : S} {j1 : J} (h : Goes K N lc ro B0 Q s ρ B (.done e t1 s1 j1)) (hq : ∀ a w, Q (exitE e) a w → Q' (exitE e) a w) : Goes K N lc ro B0 Q' s ρ B (.done e t1 s1 j1) := by
  obtain ⟨e', t', s', j', he, hgo⟩ := h
  simp only [RN.done.injEq] at he
  obtain ⟨rfl, rfl, rfl, rfl⟩ := he
  exact ⟨_, _, _, _, rfl, fun ρ' a' w' B' ok' po' ex' st' F' => hq _ _ (hgo ρ' a' w' B' ok' po' ex' st' F')⟩

theorem nd_ok (E : EnvOk P cf) (hd : DOk P cf cd) (ht : TabOk P cf cd tab) (hcall : ∀ B, CallOk P B call) : ∀ f, NSnd P cd cf (nd tab call f) := by
  intro f
  induction f using Nat.strongRecOn with
  | _ f IH =>
  intro lp lc ro K N c x hK hx j t s ρ a w B0 B n Q hlp hst F ok h
  have h : ∀ r, r ∈ nd tab call f lp j x t s → Goes K N lc ro B0 Q s ρ B r := h
  cases f with
  | zero => exact ((all_one (a := RN.fail 83) h).fail).elim
  | succ f =>
  have ih := IH f (Nat.lt_succ_self f)
  rw [nd_succ] at h
  have leaf : ∀ {e : Ev.E}, (∀ r, r ∈ [RN.done e t s j] → Goes K N lc ro B0 Q s ρ B r) → Q (exitE e) a w := by
    intro e h
    obtain ⟨e', t', s', j', he, hgo⟩ := all_one h
    simp only [RN.done.injEq] at he
    obtain ⟨rfl, rfl, rfl, rfl⟩ := he
    exact hgo ρ a w B ok (Post.refl ρ s) (.refl _ _) hst F
  /- one piece of code behind another -/
  have sub : ∀ {c1 : Code} {x1 : Ev.C} {Q' : Exit → Act → World → Prop} (m : Nat), m < f + 1 → compC cd cf K N c1 = some x1 → ∀ {t1 : Tr} {s1 : S} {j1 : J} {ρ1 : Rho} {a1 : Act} {w1 : World} {B1 : Bs}, LpOk cd cf lp lc ρ1 → St lc ro B0 j1 B1 a1.defers → Fr K N ρ1 t1 [] a1 → Ok B1 ρ1 s1 w1 →
      (∀ r, r ∈ nd tab call m lp j1 x1 t1 s1 → Goes K N lc ro B0 Q' s1 ρ1 B1 r) → c1.wpIn (FW ro) n P Q' a1 w1 :=
    fun {_ _ _} m hm hx1 {_ _ _ _ _ _ _} hlp1 hst1 F1 ok1 h1 => IH m hm lp lc ro K N _ _ hK hx1 _ _ _ _ _ _ B0 _ n _ hlp1 hst1 F1 ok1 h1
  cases c <;> try simp only [compC] at hx
  case skip => simp only [Option.some.injEq] at hx; subst hx; exact wpIn_skip (leaf (e := .n) h)
  case label l => simp only [Option.some.injEq] at hx; subst hx; exact wpIn_label (leaf (e := .n) h)
  case ret => simp only [Option.some.injEq] at hx; subst hx; exact wpIn_ret (leaf (e := .r) h)
  case exit id => simp only [Option.some.injEq] at hx; subst hx; exact wpIn_exit (leaf (e := .b id) h)
  case region id ops draw =>
    cases draw
    · simp only [compC, Option.map_eq_some_iff] at hx
      obtain ⟨l, hl, rfl⟩ := hx
      have h : ∀ r, r ∈ bc (plL l) [liftR j (evL noCallT l t s)] (ndL tab (nd tab call f) lp l t s j) → Goes K N lc ro B0 Q s ρ B r := h
      cases hp : plL l with
      | false =>
        rw [hp] at h
        exact wpIn_region_list (ndL_ok E hK ht ih ops.toList [] l t s j ρ a w B hl F ok hlp hst h)
      | true =>
        rw [hp] at h
        have h := all_one (a := liftR j (evL noCallT l t s)) h
        generalize he : evL noCallT l t s = r at h
        cases r with
        | fail k => exact (Goes.fail (k := k) h).elim
        | done e t' s' =>
          obtain ⟨e', t2, s2, j2, he2, hgo⟩ := h
          simp only [liftR, RN.done.injEq] at he2
          obtain ⟨rfl, rfl, rfl, rfl⟩ := he2
          have key := fun Q hQ' => evL_okIn (Q := Q) ro n E hK (noCallOk P B) ops.toList [] l t s ρ a w hl F ok he hQ'
          have hen : e = .n := (key (fun _ _ _ => True) (fun _ _ _ _ _ _ _ => trivial)).1
          subst hen
          exact wpIn_region_list (key Q (fun ρ' a' w' ok' po F' hd' => hgo ρ' a' w' B ok' po (.refl _ _) (by rw [hd']; exact hst) F')).2
    · simp only [compC, Option.map_eq_some_iff] at hx
      obtain ⟨l, hl, rfl⟩ := hx
      have h : ∀ r, r ∈ bc (free j) [liftR j (evDL call l t s [])] [.fail 131] → Goes K N lc ro B0 Q s ρ B r := h
      cases hf : free j with
      | false => rw [hf] at h; exact ((all_one (a := RN.fail 131) h).fail).elim
      | true =>
      rw [hf] at h
      have h := all_one (a := liftR j (evDL call l t s [])) h
      have hdf := free_defers hst hf
      generalize he : evDL call l t s [] = r at h
      cases r with
      | fail k => exact (Goes.fail (k := k) h).elim
      | done e t' s' =>
        obtain ⟨e', t2, s2, j2, he2, hgo⟩ := h
        simp only [liftR, RN.done.injEq] at he2
        obtain ⟨rfl, rfl, rfl, rfl⟩ := he2
        obtain ⟨rfl, h2⟩ := hd.run B K N id ops l call t s e t' s' ρ a w Q ro n hl hK (hcall B) F ok hdf he
        refine (h2 fun ρ' a' w' ok' po' F' hd' => hgo ρ' a' w' B ok' po' (.refl _ _) (by rw [hd', ← hdf]; exact hst) F')
  case seq c1 c2 =>
    split at hx
    · rename_i x1 x2 h1 h2
      simp only [Option.some.injEq] at hx; subst hx
      have h : ∀ r, r ∈ bc (scp x1 j) [.fail 132] (thenN (fun t s j => nd tab call f lp j x2 t s) (nd tab call f lp j x1 t s)) → Goes K N lc ro B0 Q s ρ B r := h
      cases hs : scp x1 j with
      | true => rw [hs] at h; exact ((all_one (a := RN.fail 132) h).fail).elim
      | false =>
      rw [hs] at h
      have h := all_bind (f := fun r : RN => match r with
        | .done .n t s j => nd tab call f lp j x2 t s
        | r => [r]) h
      refine wpIn_seq (sub f (Nat.lt_succ_self f) h1 hlp hst F ok fun r hr => ?_)
      have h := h r hr
      cases r with
      | fail k => exact (all_one h).fail.elim
      | done e1 t1 s1 j1 =>
        cases e1 with
        | n =>
          refine ⟨.n, t1, s1, j1, rfl, fun ρ1 a1 w1 B1 ok1 po1 ex1 st1 F1 => ?_⟩
          exact sub f (Nat.lt_succ_self f) h2 (hlp.mono (po1.le ok)) st1 F1 ok1 fun r hr => (h r hr).from po1 ex1
        | r => exact (all_one (a := RN.done .r t1 s1 j1) h).to fun _ _ h => h
        | b id => exact (all_one (a := RN.done (.b id) t1 s1 j1) h).to fun _ _ h => h
    · exact absurd hx (by simp)
  case cond c0 c1 c2 =>
    split at hx
    · rename_i z x1 x2 h0 h1 h2
      simp only [Option.some.injEq] at hx; subst hx
      have hz := cx_ok hK F h0
      have h : ∀ r, r ∈ (match z.ev t with
        | .bool c => bc c (nd tab call f lp j x1 t s) (nd tab call f lp j x2 t s)
        | _ => [.fail 80]) → Goes K N lc ro B0 Q s ρ B r := h
      generalize z.ev t = u at h hz
      cases u <;> try (exact ((all_one (a := RN.fail 80) h).fail).elim)
      rename_i b
      refine wpIn_cond (OV_bool hz) ?_
      cases b
      · exact sub f (Nat.lt_succ_self f) h2 hlp hst F ok h
      · exact sub f (Nat.lt_succ_self f) h1 hlp hst F ok h
    · simp only [Option.some.injEq] at hx; subst hx
      exact ((all_one (a := RN.fail 96) h).fail).elim
  case block id c1 =>
    simp only [Option.map_eq_some_iff] at hx
    obtain ⟨x1, h1, rfl⟩ := hx
    have h := all_map (f := blockN id) (l := nd tab call f lp j x1 t s) h
    refine wpIn_block (sub f (Nat.lt_succ_self f) h1 hlp hst F ok fun r hr => ?_)
    have h := h r hr
    cases r with
    | fail k => exact (Goes.fail (k := k) h).elim
    | done e1 t1 s1 j1 =>
      cases e1 with
      | n => exact Goes.to (e := .n) h fun _ _ h => h
      | r => exact Goes.to (e := .r) h fun _ _ h => h
      | b q =>
        have h : Goes K N lc ro B0 Q s ρ B (bc (Nat.beq q id) (.done .n t1 s1 j1) (.done (.b q) t1 s1 j1)) := h
        rw [bc_eq, beq_eq] at h
        by_cases hq : q = id
        · rw [if_pos (by simpa using hq)] at h
          obtain ⟨e', t2, s2, j2, he, hgo⟩ := h
          simp only [RN.done.injEq] at he
          obtain ⟨rfl, rfl, rfl, rfl⟩ := he
          refine ⟨.b q, t1, s1, j1, rfl, fun ρ1 a1 w1 B1 ok1 po1 ex1 st1 F1 => ?_⟩
          show (if q = id then Q .normal a1 w1 else Q (.exit q) a1 w1)
          rw [if_pos hq]
          exact hgo ρ1 a1 w1 B1 ok1 po1 ex1 st1 F1
        · rw [if_neg (by simpa using hq)] at h
          obtain ⟨e', t2, s2, j2, he, hgo⟩ := h
          simp only [RN.done.injEq] at he
          obtain ⟨rfl, rfl, rfl, rfl⟩ := he
          refine ⟨.b q, t1, s1, j1, rfl, fun ρ1 a1 w1 B1 ok1 po1 ex1 st1 F1 => ?_⟩
          show (if q = id then Q .normal a1 w1 else Q (.exit q) a1 w1)
          rw [if_neg hq]
          exact hgo ρ1 a1 w1 B1 ok1 po1 ex1 st1 F1
  case scope c1 =>
    simp only [Option.map_eq_some_iff] at hx
    obtain ⟨x1, h1, rfl⟩ := hx
    have h : ∀ r, r ∈ bc (scp .skip j) [.fail 132] (thenN (fun t s j => nd tab call f lp j x1 t s) (nd tab call f lp j .skip t s)) → Goes K N lc ro B0 Q s ρ B r := h
    cases hs : scp .skip j with
    | true => rw [hs] at h; exact ((all_one (a := RN.fail 132) h).fail).elim
    | false =>
    rw [hs] at h
    have h := all_bind (f := fun r : RN => match r with
      | .done .n t s j => nd tab call f lp j x1 t s
      | r => [r]) h
    have hro : ro = none := by
      cases j with
      | round => exact absurd hs (by simp [scp])
      | plain => exact hst.2.1
      | mark => exact hst.2.1
      | ready => exact hst.1
      | over e => exact hst.1
    subst hro
    cases f with
    | zero => exact ((all_one (h (.fail 83) (by simp [nd]))).fail).elim
    | succ f =>
    have h := h (.done .n t s j) (by simp [nd, ndC])
    have h1 := sub (Q' := Exit.noGoto Q) (f + 1) (Nat.lt_succ_self _) h1 hlp hst F ok fun r hr => by
      obtain ⟨e, t', s', j', rfl, hgo⟩ := h r hr
      refine ⟨e, t', s', j', rfl, fun ρ1 a1 w1 B1 ok1 po1 ex1 st1 F1 => ?_⟩
      have := hgo ρ1 a1 w1 B1 ok1 po1 ex1 st1 F1
      cases e <;> exact this
    exact wpIn_wide.2 (wp_scope_straight (wpIn_wide.1 h1))
  case loop c1 =>
    simp only [Option.map_eq_some_iff] at hx
    obtain ⟨x1, h1, rfl⟩ := hx
    let Inv : Nat → Act → World → Prop := fun m a1 w1 => m ≤ f + 1 ∧ ∃ ρ1 t1 s1 j1 B1, (∀ r, r ∈ nd tab call m lp j1 (.loop x1) t1 s1 → Goes K N lc ro B0 Q s1 ρ1 B1 r) ∧ Fr K N ρ1 t1 [] a1 ∧ Ok B1 ρ1 s1 w1 ∧ LpOk cd cf lp lc ρ1 ∧ St lc ro B0 j1 B1 a1.defers
    have hstart : Inv (f + 1) a w := ⟨Nat.le_refl _, ρ, t, s, j, B, by rw [nd_succ]; exact h, F, ok, hlp, hst⟩
    classical
    refine wpIn_loop (fun a1 w1 => ∃ m, Inv m a1 w1) (fun a1 w1 => if h : ∃ m, Inv m a1 w1 then Classical.choose (exists_least h) else 0) ⟨f + 1, hstart⟩ ?_
    intro a1 w1 hI
    have hleast := Classical.choose_spec (exists_least hI)
    rw [dif_pos hI]
    generalize Classical.choose (exists_least hI) = m at hleast
    obtain ⟨⟨hm, ρ1, t1, s1, j1, B1, hev, F1, ok1, hlp1, hst1⟩, hmin⟩ := hleast
    cases m with
    | zero => exact ((all_one (a := RN.fail 83) hev).fail).elim
    | succ m =>
    have hev := all_bind (l := nd tab call m lp j1 x1 t1 s1) (f := fun r : RN => match r with
      | .done .n t s j => nd tab call m lp j (.loop x1) t s
      | r => [r]) hev
    refine sub m (by omega) h1 hlp1 hst1 F1 ok1 fun r hr => ?_
    have hev := hev r hr
    cases r with
    | fail k => exact (all_one hev).fail.elim
    | done e2 t2 s2 j2 =>
      cases e2 with
      | n =>
        refine ⟨.n, t2, s2, j2, rfl, fun ρ2 a2 w2 B2 ok2 po2 ex2 st2 F2 => ?_⟩
        have hI2 : Inv m a2 w2 := ⟨by omega, ρ2, t2, s2, j2, B2, fun r hr => (hev r hr).from po2 ex2, F2, ok2, hlp1.mono (po2.le ok1), st2⟩
        have hex : ∃ m, Inv m a2 w2 := ⟨m, hI2⟩
        refine ⟨hex, ?_⟩
        rw [dif_pos hex]
        have := (Classical.choose_spec (exists_least hex)).2 m hI2
        omega
      | r => exact (all_one (a := RN.done .r t2 s2 j2) hev).to fun _ _ h => h
      | b id => exact (all_one (a := RN.done (.b id) t2 s2 j2) hev).to fun _ _ h => h
  case rangeFunc g ps c1 c2 =>
    split at hx
    · rename_i z pl x1 x2 hz hp h1 h2
      simp only [Option.some.injEq] at hx; subst hx
      exact rng_ok ht ih E hK hz hp h1 h2 hlp hst F ok h
    · simp only [Option.some.injEq] at hx; subst hx
      exact ((all_one (a := RN.fail 96) h).fail).elim
  all_goals (simp only [Option.some.injEq] at hx; subst hx; exact ((all_one (a := RN.fail 96) h).fail).elim)

/- a whole call -/
theorem ndRun_ok (E : EnvOk P cf) (hd : DOk P cf cd) (ht : TabOk P cf cd tab) (hcall : ∀ B, CallOk P B call) {fuel f : Nat} {l : List V} {xs : List Value} {s : S} {ρ : Rho} {w : World} {B : Bs} {R : Ending → World → Prop} (ok : Ok B ρ s w) (hl : vals ρ l = some xs)
    (h : ∀ r, r ∈ ndRun tab call fuel f l s → ∃ v s', r = .ok v s' ∧ ∀ ρ' w' x, Ok B ρ' s' w' → Post ρ s ρ' s' → val ρ' v = some x → R (.returned x) w') :
    (∀ (args : Array Value) (w : World), (callFunc f args).run P w = .ok (.enter f args) w) ∧ Calls P f xs.toArray w R := by
  obtain ⟨h1, h2⟩ := ndCall_ok (n := 0) E ht (nd_ok E hd ht hcall fuel) none ok hl h
  exact ⟨h1, callsIn_wide.1 h2⟩
end
end Go.Ev
namespace Go.Ev
variable [Sy]
noncomputable section
def isEfsV (a b c d : Nat) : V → Bool
  | .efs e f g h => bc (Nat.beq a e) (bc (Nat.beq b f) (bc (Nat.beq c g) (Nat.beq d h) false) false) false
  | _ => false
def beqU (a b : V) : Bool := match a with
  | .undef => isUndef b
  | .efs x y z u => isEfsV x y z u b
  | a => beqT a b
def isLeaf : Tr → Bool
  | .leaf => true
  | _ => false
def onNode (t : Tr) (k : Tr → V → Tr → Bool) : Bool := match t with
  | .node l v r => k l v r
  | _ => false
def eqTr (a : Tr) : Tr → Bool := Tr.rec (motive := fun _ => Tr → Bool) isLeaf (fun _ v _ ihl ihr b => onNode b fun l' v' r' => bc (beqU v v') (bc (ihl l') (ihr r') false) false) a
def eqEs : List Ent → List Ent → Bool
  | [], [] => true
  | a :: x, b :: y => bc (beqT a.key b.key) (bc (beqT a.val b.val) (bc (Nat.beq a.born b.born) (eqEs x y) false) false) false
  | _, _ => false
def eqB (a b : B) : Bool := match a, b with
  | .cells c, .cells d => eqTr c d
  | .map es c, .map fs d => bc (Nat.beq c d) (eqEs es fs) false
  | _, _ => false
def selH (s : S) : List Nat → H
  | [] => .leaf
  | k :: l => (selH s l).put (hget s k) k
def redS (s : S) (sel : List Nat) : S := .mk (selH s sel) s.next
def eqSel (s s' : S) : List Nat → Bool
  | [] => true
  | k :: l => bc (eqB (hget s' k) (hget s k)) (eqSel s s' l) false
def pureOk (v : V) (sel : List Nat) (s : S) (r : OR) : Bool := match r with
  | .ok v' s' => bc (beqA v' v) (eqSel s s' sel) false
  | .fail _ => false
def allB (v : V) (sel : List Nat) (s : S) : List OR → Bool
  | [] => true
  | r :: l => bc (pureOk v sel s r) (allB v sel s l) false
def pureR (sel : List Nat) (s : S) (l : List OR) : OR := match l with
  | [] => .fail 140
  | r :: rs => match r with
    | .fail n => .fail n
    | .ok v _ => bc (bndV s.next v) (bc (allB v sel s (r :: rs)) (.ok v s) (.fail 141)) (.fail 142)
def pureCall (tab : Tb) (call : CallT) (fuel : Nat) (sel : List Nat) (f : Nat) (args : List V) (s : S) : OR := pureR sel s (ndRun tab call fuel f args (redS s sel))
end

theorem beqU_eq {a b : V} (h : beqU a b = true) : a = b := by
  unfold beqU at h
  split at h
  · cases b <;> first | rfl | exact absurd h (by simp [isUndef])
  · cases b with
    | efs c d e f =>
      obtain ⟨h1, h⟩ := bcT (show bc (Nat.beq _ c) (bc (Nat.beq _ d) (bc (Nat.beq _ e) (Nat.beq _ f) false) false) false = true from h)
      obtain ⟨h2, h⟩ := bcT h
      obtain ⟨h3, h4⟩ := bcT h
      rw [natT h1, natT h2, natT h3, natT h4]
    | _ => exact absurd h (by simp [isEfsV])
  · exact beqT_eq h
theorem eqTr_eq : ∀ {a b : Tr}, eqTr a b = true → a = b
  | .leaf, .leaf, _ => rfl
  | .leaf, .node .., h => absurd (show false = true from h) (by simp)
  | .node .., .leaf, h => absurd (show false = true from h) (by simp)
  | .node l v r, .node l' v' r', h => by
    obtain ⟨h1, h⟩ := bcT (show bc (beqU v v') (bc (eqTr l l') (eqTr r r') false) false = true from h)
    obtain ⟨h2, h3⟩ := bcT h
    rw [beqU_eq h1, eqTr_eq h2, eqTr_eq h3]
theorem eqEs_eq : ∀ {a b : List Ent}, eqEs a b = true → a = b
  | [], [], _ => rfl
  | [], _ :: _, h => absurd h (by simp [eqEs])
  | _ :: _, [], h => absurd h (by simp [eqEs])
  | ⟨k, v, n⟩ :: x, ⟨k', v', n'⟩ :: y, h => by
    obtain ⟨h1, h⟩ := bcT (show bc _ _ false = true from h)
    obtain ⟨h2, h⟩ := bcT h
    obtain ⟨h3, h4⟩ := bcT h
    rw [show k = k' from beqT_eq h1, show v = v' from beqT_eq h2, show n = n' from Nat.eq_of_beq_eq_true h3, eqEs_eq h4]
theorem eqB_eq {a b : B} (h : eqB a b = true) : a = b ∧ ((∃ c, b = .cells c) ∨ ∃ es c, b = .map es c) := by
  unfold eqB at h
  split at h
  · rw [eqTr_eq h]; exact ⟨rfl, .inl ⟨_, rfl⟩⟩
  · obtain ⟨h1, h2⟩ := bcT h
    rw [Nat.eq_of_beq_eq_true h1, eqEs_eq h2]; exact ⟨rfl, .inr ⟨_, _, rfl⟩⟩
  · exact absurd h (by simp)
theorem eqSel_mem {s s' : S} : ∀ {l : List Nat}, eqSel s s' l = true → ∀ k, k ∈ l → eqB (hget s' k) (hget s k) = true
  | [], _, k, hk => by simp at hk
  | a :: l, h, k, hk => by
    obtain ⟨h1, h2⟩ := bcT (show bc _ _ false = true from h)
    rcases List.mem_cons.1 hk with rfl | hk
    · exact h1
    · exact eqSel_mem h2 k hk
theorem allB_mem {v : V} {sel : List Nat} {s : S} : ∀ {l : List OR}, allB v sel s l = true → ∀ r, r ∈ l → pureOk v sel s r = true
  | [], _, r, hr => by simp at hr
  | a :: l, h, r, hr => by
    obtain ⟨h1, h2⟩ := bcT (show bc _ _ false = true from h)
    rcases List.mem_cons.1 hr with rfl | hr
    · exact h1
    · exact allB_mem h2 r hr
theorem selH_get (s : S) : ∀ (l : List Nat) (k : Nat), (selH s l).get k = if k ∈ l then hget s k else .no
  | [], k => rfl
  | a :: l, k => by
    simp only [selH]
    rw [H.get_put, selH_get s l k]
    by_cases h : k = a
    · subst h; simp
    · simp [h]

section
variable {ρ ρ' : Rho}
theorem EntsR.back (hle : Le ρ ρ') : ∀ {es : List Ent} {xs ys : List MapEntry}, EntsR ρ es xs → EntsR ρ' es ys → EntsR ρ es ys
  | _, _, _, .nil, .nil => .nil
  | _, _, _, .cons ⟨h1, h2, h3⟩ ht, .cons ⟨k1, k2, k3⟩ kt => .cons ⟨by
      have := val_mono hle _ _ h1; rw [this] at k1; rw [h1]; exact k1, by
      have := val_mono hle _ _ h2; rw [this] at k2; rw [h2]; exact k2, k3⟩ (ht.back hle kt)
theorem BRel.back (hle : Le ρ ρ') {n : Nat} {b : B} {o o' : Obj} (hb : (∃ c, b = .cells c) ∨ ∃ es c, b = .map es c) (h : BRel ρ n b o) (h' : BRel ρ' n b o') : BRel ρ n b o' := by
  rcases hb with ⟨c, rfl⟩ | ⟨es, c, rfl⟩
  · obtain ⟨arr, e, fz, _, _, _, hc⟩ := h
    obtain ⟨arr', e', fz', ho', hs', hf', hc'⟩ := h'
    refine ⟨arr', e', fz', ho', hs', hf', fun i => ?_⟩
    rcases hc i with h0 | ⟨h1, x, hx, _⟩
    · exact .inl h0
    · rcases hc' i with h0 | ⟨_, y, hy, ha⟩
      · exact .inl h0
      · have := val_mono hle _ _ hx
        rw [this] at hy
        exact .inr ⟨h1, x, hx, by rw [ha, ← hy]⟩
  · obtain ⟨xs, _, he⟩ := h
    obtain ⟨ys, ho', he'⟩ := h'
    exact ⟨ys, ho', he.back hle he'⟩

variable {P : Program} {cd : Nat → Nat → Nat → Array Oper → Option DL} {cf : Cf} {tab : Tb} {call : CallT}
theorem pureCall_ok (E : EnvOk P cf) (hd : DOk P cf cd) (ht : TabOk P cf cd tab) (hcall : ∀ B, CallOk P B call) {fuel f : Nat} {sel : List Nat} {l : List V} {xs : List Value} {s s' : S} {v : V} {w : World} {B : Bs} (ok : Ok B ρ s w) (hl : vals ρ l = some xs)
    (h : pureCall tab call fuel sel f l s = .ok v s') : CallR P B f xs ρ s w v s' := by
  unfold pureCall at h
  generalize hrs : ndRun tab call fuel f l (redS s sel) = rs at h
  cases rs with
  | nil => exact absurd h (by simp [pureR])
  | cons r0 rs =>
  cases r0 with
  | fail n => exact absurd h (by simp [pureR])
  | ok v0 s0 =>
  simp only [pureR] at h
  obtain ⟨hbn, h⟩ := bc_ok h
  obtain ⟨hall, h⟩ := bc_ok h
  simp only [OR.ok.injEq] at h
  obtain ⟨rfl, rfl⟩ := h
  have hget : ∀ k, (redS s sel).heap.get k = if k ∈ sel then s.heap.get k else .no := fun k => by
    show (selH s sel).get k = _
    rw [selH_get, hget_eq]
  have hlive : ∀ {k}, (redS s sel).heap.get k ≠ .no → k ∈ sel ∧ (redS s sel).heap.get k = s.heap.get k := fun {k} hk => by
    rw [hget] at hk ⊢
    split at hk
    · rename_i h; rw [if_pos h]; exact ⟨h, rfl⟩
    · exact absurd rfl hk
  classical
  obtain ⟨Br, hBr⟩ : ∃ Br : Bs, Br = ⟨fun r => if ∃ k p, ρ k = some p ∧ (redS s sel).heap.get k ≠ .no ∧ p.1 = r then none else w.heap[r]?, w⟩ := ⟨_, rfl⟩
  have hno : ∀ {k p}, ρ k = some p → (redS s sel).heap.get k ≠ .no → Br.keep p.1 = none := fun {k p} hk hn => by
    rw [hBr]; exact if_pos ⟨k, p, hk, hn, rfl⟩
  have hyes : ∀ {r}, (¬ ∃ k p, ρ k = some p ∧ (redS s sel).heap.get k ≠ .no ∧ p.1 = r) → Br.keep r = w.heap[r]? := fun {r} hr => by
    rw [hBr]; exact if_neg hr
  have okr : Ok Br ρ (redS s sel) w := by
    refine ⟨fun k p hk hn => ?_, fun k k' p p' hk hk' hn hn' he => ?_, ok.lt, ok.nx, fun k hk => ?_, fun r o hr => ?_, by rw [hBr], by rw [hBr], by rw [hBr]⟩
    · obtain ⟨_, heq⟩ := hlive hn
      obtain ⟨_, o, h2, h3⟩ := ok.blk k p hk (by rw [← heq]; exact hn)
      exact ⟨hno hk hn, o, h2, by rw [heq]; exact h3⟩
    · exact ok.inj k k' p p' hk hk' (by rw [← (hlive hn).2]; exact hn) (by rw [← (hlive hn').2]; exact hn') he
    · rw [hget]
      split
      · exact ok.nxh k hk
      · rfl
    · by_cases hc : ∃ k p, ρ k = some p ∧ (redS s sel).heap.get k ≠ .no ∧ p.1 = r
      · obtain ⟨k, p, hk, hn, rfl⟩ := hc
        rw [hno hk hn] at hr; exact absurd hr (by simp)
      · rw [hyes hc] at hr; exact hr
  have key := fun (R : Ending → World → Prop) hR => ndRun_ok (R := R) E hd ht hcall (fuel := fuel) (f := f) okr hl hR
  have hR : ∀ r, r ∈ ndRun tab call fuel f l (redS s sel) → ∃ v s', r = .ok v s' ∧ ∀ ρ' w' x, Ok Br ρ' s' w' → Post ρ (redS s sel) ρ' s' → val ρ' v = some x →
      (∃ ρ' y, (Ending.returned x) = .returned y ∧ Ok B ρ' s w' ∧ Post ρ s ρ' s ∧ val ρ' v0 = some y) := by
    intro r hr
    rw [hrs] at hr
    have h1 := allB_mem hall r hr
    cases r with
    | fail n => exact absurd h1 (by simp [pureOk])
    | ok v1 s1 =>
    obtain ⟨h2, h3⟩ := bcT (show bc (beqA v1 v0) (eqSel s s1 sel) false = true from h1)
    have := beqA_eq h2
    subst this
    refine ⟨v1, s1, rfl, fun ρ1 w1 x ok1 po1 hx => ⟨ρ, x, rfl, ?_, Post.refl ρ s, ?_⟩⟩
    · have hext : ∀ {k p}, ρ k = some p → ρ1 k = some p := fun {k p} hk => by
        rcases Nat.lt_or_ge k s.next with hlt | hge
        · rw [po1.ext k hlt]; exact hk
        · rw [ok.nx k hge] at hk; exact absurd hk (by simp)
      have hle : Le ρ ρ1 := fun k p hk => hext hk
      refine ⟨fun k p hk hn => ?_, ok.inj, fun k p hk => ok1.lt k p (hext hk), ok.nx, ok.nxh, fun r o hr => ?_, ?_, ?_, ?_⟩
      · obtain ⟨h4, o0, h5, h6⟩ := ok.blk k p hk hn
        by_cases hc : (redS s sel).heap.get k = .no
        · refine ⟨h4, o0, ?_, h6⟩
          refine ok1.old _ _ ?_
          rw [hyes ?_]; exact h5
          rintro ⟨k', p', hk', hn', he⟩
          have := ok.inj k' k p' p hk' hk (by rw [← (hlive hn').2]; exact hn') hn he
          subst this
          exact hn' hc
        · obtain ⟨hm, heq⟩ := hlive hc
          have h7 := eqSel_mem h3 k hm
          rw [hget_eq, hget_eq] at h7
          obtain ⟨h8, h9⟩ := eqB_eq h7
          obtain ⟨_, o1, h10, h11⟩ := ok1.blk k p (hext hk) (by rw [h8]; exact hn)
          rw [h8] at h11
          exact ⟨h4, o1, h10, BRel.back hle h9 h6 h11⟩
      · refine ok1.old _ _ ?_
        rw [hyes ?_]; exact ok.old r o hr
        rintro ⟨k', p', hk', hn', he⟩
        have := (ok.blk k' p' hk' (by rw [← (hlive hn').2]; exact hn')).1
        rw [he, hr] at this; exact absurd this (by simp)
      · rw [ok1.os, ← ok.os, hBr]
      · rw [ok1.tape, ← ok.tape, hBr]
      · rw [ok1.out, ← ok.out, hBr]
    · have h4 : ρ1.below s.next = ρ.below s.next := by
        funext k
        unfold Rho.below
        split
        · rename_i hk; exact po1.ext k hk
        · rfl
      rw [← val_below v1 hbn, ← h4, val_below v1 hbn]; exact hx
  have key := key (fun e w' => ∃ ρ' y, e = .returned y ∧ Ok B ρ' s w' ∧ Post ρ s ρ' s ∧ val ρ' v0 = some y) hR
  exact ⟨key.1, key.2⟩
end
end Go.Ev
namespace Go.Ev
variable [Sy]
noncomputable section
def mapB : V → List Nat
  | .map r => [r]
  | _ => []
def slB : V → List Nat
  | .slice b _ _ _ => [b]
  | .fsl _ b _ _ => [b]
  | _ => []
def ptB : V → List Nat
  | .ptr b _ => [b]
  | _ => []
def slBs (c : Tr) : Nat → Nat → List Nat
  | _, 0 => []
  | o, n + 1 => app (slB (c.get o)) (slBs c (Nat.succ o) n)
def cellB (x : B) (k : Tr → List Nat) : List Nat := match x with
  | .cells c => k c
  | _ => []
def entB (x : B) (k : V → List Nat) : List Nat := match x with
  | .map es _ => bindL es fun e => k e.val
  | _ => []
def ptrArg (args : List V) (k : Nat → List Nat) : List Nat := match args with
  | .ptr b _ :: _ => b :: k b
  | _ => []
/- the table, the tasks and a domain's queues of a scheduler -/
def selHi (args : List V) (s : S) : List Nat := ptrArg args fun b => cellB (hget s b) fun c => app (slB (c.get 0)) (app (mapB (c.get 3)) (slBs c 4 64))
/- the mappings of the spaces -/
def selWh (args : List V) (s : S) : List Nat := ptrArg args fun b => cellB (hget s b) fun c => mapB (c.get 4)
/- the spaces and their tables -/
def selUs (args : List V) (s : S) : List Nat := ptrArg args fun b => cellB (hget s b) fun c => app (mapB (c.get 3)) (bindL (mapB (c.get 3)) fun m => entB (hget s m) fun v => app (ptB v) (bindL (ptB v) fun p => cellB (hget s p) fun d => mapB (d.get 1)))
def noSp : Nat → List V → S → Option OR := fun _ _ _ => none
def plainC (tab : Tb) (fuel : Nat) : CallT := callW noSp tab (ev noSp tab fuel)
def mkSp (tab : Tb) (fuel hi wh us : Nat) (memo : Nat → List V → Option V) (f : Nat) (args : List V) (s : S) : Option OR :=
  bc (Nat.beq f hi) (some (pureCall tab (plainC tab fuel) fuel (selHi args s) f args s)) (bc (Nat.beq f wh) (some (pureCall tab (plainC tab fuel) fuel (selWh args s) f args s)) (bc (Nat.beq f us) (some (pureCall tab (plainC tab fuel) fuel (selUs args s) f args s))
    (match memo f args with
    | some v => some (.ok v s)
    | none => none)))
end

section
variable {P : Program} {cd : Nat → Nat → Nat → Array Oper → Option DL} {cf : Cf} {tab : Tb}
structure MemoOk (P : Program) (memo : Nat → List V → Option V) : Prop where
  fn : ∀ f l v, memo f l = some v → ∀ (B : Bs) (ρ : Rho) (s : S) (w : World) (xs : List Value), Ok B ρ s w → vals ρ l = some xs → CallR P B f xs ρ s w v s
theorem mkSp_ok (E : EnvOk P cf) (hd : DOk P cf cd) (ht : TabOk P cf cd tab) {fuel hi wh us : Nat} {memo : Nat → List V → Option V} (hm : MemoOk P memo) : SpOk P (mkSp tab fuel hi wh us memo) := by
  refine ⟨fun w0 f l s v s' ρ w xs h ok hl => ?_⟩
  have pure : ∀ {sel : List Nat}, some (pureCall tab (plainC tab fuel) fuel sel f l s) = some (.ok v s') → CallR P w0 f xs ρ s w v s' := by
    intro sel h
    rw [Option.some.injEq] at h
    exact pureCall_ok E hd ht (fun B => call_ok E hd noSp tab ⟨fun _ _ _ _ _ _ _ _ _ h => absurd h (by simp [noSp])⟩ ht fuel) ok hl h
  unfold mkSp at h
  rw [bc_eq] at h
  split at h
  · exact pure h
  · rw [bc_eq] at h
    split at h
    · exact pure h
    · rw [bc_eq] at h
      split at h
      · exact pure h
      · split at h
        · rename_i u hu
          simp only [Option.some.injEq, OR.ok.injEq] at h
          obtain ⟨rfl, rfl⟩ := h
          exact hm.fn f l u hu w0 ρ s w xs ok hl
        · exact absurd h (by simp)

theorem Ok.later {B : Bs} {ρ ρ' : Rho} {s s' : S} {w w' : World} (h : Ok B ρ s w) (h' : Ok (Bs.of w) ρ' s' w') : Ok B ρ s w' := by
  refine ⟨fun k p hk hn => ?_, h.inj, fun k p hk => Nat.lt_of_lt_of_le (h.lt k p hk) h'.ofSize, h.nx, h.nxh, fun r o hr => h'.old r o (h.old r o hr), ?_, ?_, ?_⟩
  · obtain ⟨h1, o, h2, h3⟩ := h.blk k p hk hn
    exact ⟨h1, o, h'.old _ _ h2, h3⟩
  · rw [h'.os]; exact h.os
  · rw [h'.tape]; exact h.tape
  · rw [h'.out]; exact h.out
theorem below0 (ρ : Rho) : ρ.below 0 = fun _ => none := by funext k; simp [Rho.below]
theorem memo_ok (E : EnvOk P cf) (hd : DOk P cf cd) {sp : Nat → List V → S → Option OR} (hsp : SpOk P sp) (ht : TabOk P cf cd tab) {fuel f : Nat} {l : List V} {v : V} {s1 : S} (h : run sp tab fuel f l (.mk .leaf 0) = .ok v s1) (hv : bndV 0 v = true) (hl0 : bndVs 0 l = true)
    (B : Bs) (ρ : Rho) (s : S) (w : World) (xs : List Value) (ok : Ok B ρ s w) (hl : vals ρ l = some xs) : CallR P B f xs ρ s w v s := by
  have hl1 : vals (fun _ => none) l = some xs := by rw [← below0 ρ, vals_below l hl0]; exact hl
  obtain ⟨he, hc⟩ := run_ok E hd sp tab hsp ht (ok_start w) hl1 h
  refine ⟨he, Calls.mono hc ?_⟩
  rintro e w' ⟨ρ', x, rfl, ok', _, hx⟩
  refine ⟨ρ, x, rfl, ok.later ok', Post.refl ρ s, ?_⟩
  rw [← val_below v hv, below0, ← below0 ρ', val_below v hv]; exact hx
/- a table of what was reckoned once -/
noncomputable def findM (l : List V) : List (List V × V) → Option V
  | [] => none
  | e :: m => bc (beqL beqT l e.1) (some e.2) (findM l m)
theorem beqLT_eq : ∀ {a b : List V}, beqL beqT a b = true → a = b
  | [], [], _ => rfl
  | [], _ :: _, h => absurd h (by simp [beqL])
  | _ :: _, [], h => absurd h (by simp [beqL])
  | a :: x, b :: y, h => by
    obtain ⟨h1, h2⟩ := bcT (show bc (beqT a b) (beqL beqT x y) false = true from h)
    rw [beqT_eq h1, beqLT_eq h2]
theorem findM_mem {l : List V} {v : V} : ∀ {m : List (List V × V)}, findM l m = some v → (l, v) ∈ m
  | [], h => by simp [findM] at h
  | e :: m, h => by
    simp only [findM, bc_eq] at h
    split at h
    · rename_i hb
      simp only [Option.some.injEq] at h
      rw [beqLT_eq hb, ← h]; exact List.mem_cons_self ..
    · exact List.mem_cons_of_mem _ (findM_mem h)
end
end Go.Ev
namespace Go.Ev
variable [Sy]
noncomputable section
/- a call whose answer is known where some blocks are as written -/
structure Hm where
  args : List V
  blks : List (Nat × B)
  n0 : Nat
  v : V
def hitB (s : S) : List (Nat × B) → Bool
  | [] => true
  | x :: l => bc (eqB (hget s x.1) x.2) (hitB s l) false
def hmH : List (Nat × B) → H
  | [] => .leaf
  | x :: l => (hmH l).put x.2 x.1
def bndT (n : Nat) : Tr → Bool
  | .leaf => true
  | .node l v r => bc (bndV n v) (bc (bndT n l) (bndT n r) false) false
def bndE (n : Nat) : List Ent → Bool
  | [] => true
  | e :: l => bc (bndV n e.key) (bc (bndV n e.val) (bndE n l) false) false
def bndB (n : Nat) : B → Bool
  | .cells c => bndT n c
  | .map es _ => bndE n es
  | _ => false
def bndBs (n : Nat) : List (Nat × B) → Bool
  | [] => true
  | x :: l => bc (Nat.blt x.1 n) (bc (bndB n x.2) (bndBs n l) false) false
def hmOk (v : V) (blks : List (Nat × B)) (r : OR) : Bool := match r with
  | .ok v' s' => bc (beqA v' v) (hitB s' blks) false
  | .fail _ => false
def hmAll (v : V) (blks : List (Nat × B)) : List OR → Bool
  | [] => true
  | r :: l => bc (hmOk v blks r) (hmAll v blks l) false
/- to be reckoned once -/
def hmFact (tab : Tb) (call : CallT) (fuel f : Nat) (m : Hm) : Bool :=
  bc (bndV m.n0 m.v) (bc (bndVs m.n0 m.args) (bc (bndBs m.n0 m.blks) (hmAll m.v m.blks (ndRun tab call fuel f m.args (.mk (hmH m.blks) m.n0))) false) false) false
def hmFind (args : List V) (s : S) : List Hm → Option OR
  | [] => none
  | m :: l => bc (beqL beqT args m.args) (bc (hitB s m.blks) (some (.ok m.v s)) (hmFind args s l)) (hmFind args s l)
end
section
variable {ρ ρ' : Rho}
theorem bndT_get {n : Nat} : ∀ {t : Tr}, bndT n t = true → ∀ i, bndV n (t.get i) = true
  | .leaf, _, i => by rw [show Tr.get .leaf i = .undef from rfl]; simp [bndV]
  | .node l v r, h, i => by
    obtain ⟨h1, h⟩ := bcT (show bc _ _ false = true from h)
    obtain ⟨h2, h3⟩ := bcT h
    show bndV n (bc (Nat.beq i 0) v (bc (odd i) (l.get (half i)) (r.get (half i)))) = true
    cases Nat.beq i 0
    · cases odd i
      · exact bndT_get h3 _
      · exact bndT_get h2 _
    · exact h1
theorem EntsR.lower {n : Nat} : ∀ {es : List Ent} {xs : List MapEntry}, bndE n es = true → EntsR ρ es xs → EntsR (ρ.below n) es xs
  | _, _, _, .nil => .nil
  | _, _, h, .cons ⟨h1, h2, h3⟩ ht => by
    obtain ⟨k1, h⟩ := bcT (show bc _ _ false = true from h)
    obtain ⟨k2, h⟩ := bcT h
    exact .cons ⟨by rw [val_below _ k1]; exact h1, by rw [val_below _ k2]; exact h2, h3⟩ (ht.lower h)
theorem BRel.lower {n m : Nat} {b : B} {o : Obj} (hb : bndB n b = true) (h : BRel ρ m b o) : BRel (ρ.below n) m b o := by
  cases b with
  | cells c =>
    obtain ⟨arr, e, fz, h1, h2, h3, h4⟩ := h
    refine ⟨arr, e, fz, h1, h2, h3, fun i => ?_⟩
    rcases h4 i with h0 | ⟨h5, x, hx, ha⟩
    · exact .inl h0
    · exact .inr ⟨h5, x, by rw [val_below _ (bndT_get hb i)]; exact hx, ha⟩
  | map es c =>
    obtain ⟨xs, h1, h2⟩ := h
    exact ⟨xs, h1, h2.lower hb⟩
  | no => exact absurd hb (by simp [bndB])
  | siter s p => exact absurd hb (by simp [bndB])
  | miter a b c d => exact absurd hb (by simp [bndB])
  | mnil => exact absurd hb (by simp [bndB])
  | uni ps => exact absurd hb (by simp [bndB])
  | ro c => exact absurd hb (by simp [bndB])
theorem bndB_kind {n : Nat} {b : B} (h : bndB n b = true) : (∃ c, b = .cells c) ∨ ∃ es c, b = .map es c := by
  cases b with
  | cells c => exact .inl ⟨_, rfl⟩
  | map es c => exact .inr ⟨_, _, rfl⟩
  | no => exact absurd h (by simp [bndB])
  | siter s p => exact absurd h (by simp [bndB])
  | miter a b c d => exact absurd h (by simp [bndB])
  | mnil => exact absurd h (by simp [bndB])
  | uni ps => exact absurd h (by simp [bndB])
  | ro c => exact absurd h (by simp [bndB])
theorem bndBs_mem {n : Nat} : ∀ {l : List (Nat × B)}, bndBs n l = true → ∀ x, x ∈ l → x.1 < n ∧ bndB n x.2 = true
  | [], _, x, hx => by simp at hx
  | y :: l, h, x, hx => by
    obtain ⟨h1, h⟩ := bcT (show bc _ _ false = true from h)
    obtain ⟨h2, h3⟩ := bcT h
    rcases List.mem_cons.1 hx with rfl | hx
    · exact ⟨by simpa [blt_eq'] using h1, h2⟩
    · exact bndBs_mem h3 x hx
theorem hitB_mem {s : S} : ∀ {l : List (Nat × B)}, hitB s l = true → ∀ x, x ∈ l → s.heap.get x.1 = x.2
  | [], _, x, hx => by simp at hx
  | y :: l, h, x, hx => by
    obtain ⟨h1, h2⟩ := bcT (show bc _ _ false = true from h)
    rcases List.mem_cons.1 hx with rfl | hx
    · rw [← hget_eq]; exact (eqB_eq h1).1
    · exact hitB_mem h2 x hx
theorem hmH_get : ∀ (l : List (Nat × B)) (k : Nat), (hmH l).get k ≠ .no → ∃ x, x ∈ l ∧ x.1 = k ∧ (hmH l).get k = x.2
  | [], k, h => absurd rfl h
  | y :: l, k, h => by
    simp only [hmH] at h ⊢
    rw [H.get_put] at h ⊢
    by_cases hk : k = y.1
    · rw [if_pos hk] at h ⊢
      exact ⟨y, List.mem_cons_self .., hk.symm, rfl⟩
    · rw [if_neg hk] at h ⊢
      obtain ⟨x, h1, h2, h3⟩ := hmH_get l k h
      exact ⟨x, List.mem_cons_of_mem _ h1, h2, h3⟩
theorem hmAll_mem {v : V} {bl : List (Nat × B)} : ∀ {l : List OR}, hmAll v bl l = true → ∀ r, r ∈ l → hmOk v bl r = true
  | [], _, r, hr => by simp at hr
  | a :: l, h, r, hr => by
    obtain ⟨h1, h2⟩ := bcT (show bc _ _ false = true from h)
    rcases List.mem_cons.1 hr with rfl | hr
    · exact h1
    · exact hmAll_mem h2 r hr

variable {P : Program} {cd : Nat → Nat → Nat → Array Oper → Option DL} {cf : Cf} {tab : Tb} {call : CallT}
theorem hm_ok (E : EnvOk P cf) (hd : DOk P cf cd) (ht : TabOk P cf cd tab) (hcall : ∀ B, CallOk P B call) {fuel f : Nat} {m : Hm} (hf : hmFact tab call fuel f m = true) {xs : List Value} {s : S} {w : World} {B : Bs} (ok : Ok B ρ s w) (hl : vals ρ m.args = some xs)
    (hit : hitB s m.blks = true) : CallR P B f xs ρ s w m.v s := by
  obtain ⟨hbv, hf⟩ := bcT hf
  obtain ⟨hba, hf⟩ := bcT hf
  obtain ⟨hbb, hall⟩ := bcT hf
  obtain ⟨ρ0, hρ0⟩ : ∃ ρ0, ρ.below m.n0 = ρ0 := ⟨_, rfl⟩
  have hle0 : Le ρ0 ρ := by rw [← hρ0]; exact below_le _ _
  have hlow : ∀ {k p}, k < m.n0 → ρ k = some p → ρ0 k = some p := fun {k p} hk hp => by rw [← hρ0]; unfold Rho.below; rw [if_pos hk]; exact hp
  have hlt0 : ∀ {k p}, ρ0 k = some p → k < m.n0 := fun {k p} hp => by
    rw [← hρ0] at hp
    unfold Rho.below at hp
    split at hp
    · assumption
    · exact absurd hp (by simp)
  have hlive : ∀ {k}, (hmH m.blks).get k ≠ .no → k < m.n0 ∧ (hmH m.blks).get k = s.heap.get k ∧ bndB m.n0 (s.heap.get k) = true ∧ ∃ x, x ∈ m.blks ∧ x.1 = k ∧ x.2 = s.heap.get k := fun {k} hk => by
    obtain ⟨x, h1, h2, h3⟩ := hmH_get _ _ hk
    subst h2
    have h4 := hitB_mem hit x h1
    obtain ⟨h5, h6⟩ := bndBs_mem hbb x h1
    exact ⟨h5, by rw [h3, h4], by rw [h4]; exact h6, x, h1, rfl, h4.symm⟩
  classical
  obtain ⟨s0, hs0⟩ : ∃ s0, S.mk (hmH m.blks) m.n0 = s0 := ⟨_, rfl⟩
  have hheap : s0.heap = hmH m.blks := by rw [← hs0]; rfl
  have hnext : s0.next = m.n0 := by rw [← hs0]; rfl
  rw [hs0] at hall
  obtain ⟨Br, hBr⟩ : ∃ Br : Bs, Br = ⟨fun r => if ∃ k p, ρ0 k = some p ∧ s0.heap.get k ≠ .no ∧ p.1 = r then none else w.heap[r]?, w⟩ := ⟨_, rfl⟩
  have hno : ∀ {k p}, ρ0 k = some p → s0.heap.get k ≠ .no → Br.keep p.1 = none := fun {k p} hk hn => by
    rw [hBr]; exact if_pos ⟨k, p, hk, hn, rfl⟩
  have hyes : ∀ {r}, (¬ ∃ k p, ρ0 k = some p ∧ s0.heap.get k ≠ .no ∧ p.1 = r) → Br.keep r = w.heap[r]? := fun {r} hr => by
    rw [hBr]; exact if_neg hr
  rw [hheap] at hno hyes
  have okr : Ok Br ρ0 s0 w := by
    refine ⟨fun k p hk hn => ?_, fun k k' p p' hk hk' hn hn' he => ?_, fun k p hk => ok.lt k p (hle0 k p hk), fun k hk => ?_, fun k hk => ?_, fun r o hr => ?_, by rw [hBr], by rw [hBr], by rw [hBr]⟩
    · rw [hheap] at hn ⊢
      obtain ⟨_, heq, hbk, _⟩ := hlive hn
      obtain ⟨_, o, h2, h3⟩ := ok.blk k p (hle0 k p hk) (by rw [← heq]; exact hn)
      exact ⟨hno hk hn, o, h2, by rw [heq, ← hρ0]; exact h3.lower hbk⟩
    · rw [hheap] at hn hn'
      exact ok.inj k k' p p' (hle0 k p hk) (hle0 k' p' hk') (by rw [← (hlive hn).2.1]; exact hn) (by rw [← (hlive hn').2.1]; exact hn') he
    · rw [hnext] at hk
      cases h : ρ0 k with
      | none => rfl
      | some p => have := hlt0 h; omega
    · rw [hnext] at hk; rw [hheap]
      by_cases h : (hmH m.blks).get k = .no
      · exact h
      · have := (hlive h).1; omega
    · by_cases hc : ∃ k p, ρ0 k = some p ∧ (hmH m.blks).get k ≠ .no ∧ p.1 = r
      · obtain ⟨k, p, hk, hn, rfl⟩ := hc
        rw [hno hk hn] at hr; exact absurd hr (by simp)
      · rw [hyes hc] at hr; exact hr
  have hl0 : vals ρ0 m.args = some xs := by rw [← hρ0, vals_below _ hba]; exact hl
  have hR : ∀ r, r ∈ ndRun tab call fuel f m.args s0 → ∃ v s', r = .ok v s' ∧ ∀ ρ' w' x, Ok Br ρ' s' w' → Post ρ0 s0 ρ' s' → val ρ' v = some x →
      (∃ ρ' y, (Ending.returned x) = .returned y ∧ Ok B ρ' s w' ∧ Post ρ s ρ' s ∧ val ρ' m.v = some y) := by
    intro r hr
    have h1 := hmAll_mem hall r hr
    cases r with
    | fail n => exact absurd h1 (by simp [hmOk])
    | ok v1 s1 =>
    obtain ⟨h2, h3⟩ := bcT (show bc (beqA v1 m.v) (hitB s1 m.blks) false = true from h1)
    have hv1 := beqA_eq h2
    refine ⟨v1, s1, rfl, fun ρ1 w1 x ok1 po1 hx => ⟨ρ, x, rfl, ?_, Post.refl ρ s, ?_⟩⟩
    · have hext : ∀ {k p}, ρ0 k = some p → ρ1 k = some p := fun {k p} hk => by
        rw [po1.ext k (by rw [hnext]; exact hlt0 hk)]; exact hk
      have hle : Le ρ0 ρ1 := fun k p hk => hext hk
      have old : ∀ {r : Nat} {o : Obj}, (¬ ∃ k p, ρ0 k = some p ∧ (hmH m.blks).get k ≠ .no ∧ p.1 = r) → w.heap[r]? = some o → w1.heap[r]? = some o := fun {r o} hr ho => ok1.old _ _ (by rw [hyes hr]; exact ho)
      refine ⟨fun k p hk hn => ?_, ok.inj, fun k p hk => ?_, ok.nx, ok.nxh, fun r o hr => ?_, ?_, ?_, ?_⟩
      · obtain ⟨h4, o0, h5, h6⟩ := ok.blk k p hk hn
        by_cases hc : (hmH m.blks).get k = .no
        · refine ⟨h4, o0, old ?_ h5, h6⟩
          rintro ⟨k', p', hk', hn', he⟩
          have := ok.inj k' k p' p (hle0 _ _ hk') hk (by rw [← (hlive hn').2.1]; exact hn') hn he
          subst this
          exact hn' hc
        · obtain ⟨hkn, heq, hbk, y, hy1, hy2, hy3⟩ := hlive hc
          have hk0 := hlow hkn hk
          have h7 : s1.heap.get k = s.heap.get k := by rw [← hy2, hitB_mem h3 y hy1, hy3, hy2]
          obtain ⟨_, o1, h10, h11⟩ := ok1.blk k p (hext hk0) (by rw [h7]; exact hn)
          rw [h7] at h11
          have h12 : BRel ρ0 p.2 (s.heap.get k) o0 := by rw [← hρ0]; exact h6.lower hbk
          exact ⟨h4, o1, h10, (BRel.back hle (bndB_kind hbk) h12 h11).mono hle0⟩
      · by_cases hc : ∃ k' p', ρ0 k' = some p' ∧ (hmH m.blks).get k' ≠ .no ∧ p'.1 = p.1
        · obtain ⟨k', p', hk', _, he⟩ := hc
          rw [← he]; exact ok1.lt k' p' (hext hk')
        · have hlt := ok.lt k p hk
          exact (Array.getElem?_eq_some_iff.1 (old hc (o := w.heap[p.1]) (by simp [hlt]))).1
      · refine old ?_ (ok.old r o hr)
        rintro ⟨k', p', hk', hn', he⟩
        have := (ok.blk k' p' (hle0 _ _ hk') (by rw [← (hlive hn').2.1]; exact hn')).1
        rw [he, hr] at this; exact absurd this (by simp)
      · rw [ok1.os, ← ok.os, hBr]
      · rw [ok1.tape, ← ok.tape, hBr]
      · rw [ok1.out, ← ok.out, hBr]
    · have h4 : ρ1.below m.n0 = ρ.below m.n0 := by
        funext k
        unfold Rho.below
        split
        · rename_i hk
          rw [po1.ext k (by rw [hnext]; exact hk), ← hρ0]
          unfold Rho.below; rw [if_pos hk]
        · rfl
      rw [← val_below m.v hbv, ← h4, val_below m.v hbv, ← hv1]; exact hx
  have key := ndRun_ok (R := fun e w' => ∃ ρ' y, e = .returned y ∧ Ok B ρ' s w' ∧ Post ρ s ρ' s ∧ val ρ' m.v = some y) E hd ht hcall (fuel := fuel) (f := f) okr hl0 hR
  exact ⟨key.1, key.2⟩

structure HmsOk (P : Program) (f : Nat) (ms : List Hm) : Prop where
  fn : ∀ m, m ∈ ms → ∀ (B : Bs) (ρ : Rho) (s : S) (w : World) (xs : List Value), Ok B ρ s w → vals ρ m.args = some xs → hitB s m.blks = true → CallR P B f xs ρ s w m.v s
theorem hmFind_ok {f : Nat} {s s' : S} {v : V} {w : World} {B : Bs} {l : List V} {xs : List Value} (ok : Ok B ρ s w) (hl : vals ρ l = some xs) : ∀ {ms : List Hm}, HmsOk P f ms → hmFind l s ms = some (.ok v s') → CallR P B f xs ρ s w v s'
  | [], _, h => by simp [hmFind] at h
  | m :: ms, hm, h => by
    have hm' : HmsOk P f ms := ⟨fun m' h' => hm.fn m' (List.mem_cons_of_mem _ h')⟩
    simp only [hmFind, bc_eq] at h
    split at h
    · rename_i ha
      have ha := beqLT_eq ha
      split at h
      · rename_i hh
        simp only [Option.some.injEq, OR.ok.injEq] at h
        obtain ⟨rfl, rfl⟩ := h
        exact hm.fn m (List.mem_cons_self ..) B ρ s w xs ok (by rw [← ha]; exact hl) hh
      · exact hmFind_ok ok hl hm' h
    · exact hmFind_ok ok hl hm' h
/- special calls, with what is known ahead -/
noncomputable def mkSp2 (sp : Nat → List V → S → Option OR) (f0 : Nat) (ms : List Hm) (f : Nat) (args : List V) (s : S) : Option OR :=
  bc (Nat.beq f f0) (match hmFind args s ms with
    | some r => some r
    | none => sp f args s) (sp f args s)
theorem mkSp2_ok {sp : Nat → List V → S → Option OR} (h0 : SpOk P sp) {f0 : Nat} {ms : List Hm} (hm : HmsOk P f0 ms) : SpOk P (mkSp2 sp f0 ms) := by
  refine ⟨fun w0 f l s v s' ρ w xs h ok hl => ?_⟩
  unfold mkSp2 at h
  rw [bc_eq] at h
  split at h
  · rename_i hf
    have hf := Nat.eq_of_beq_eq_true hf
    subst hf
    split at h
    · rename_i r hr
      rw [Option.some.injEq] at h; subst h
      exact hmFind_ok ok hl hm hr
    · exact h0.fn w0 f l s v s' ρ w xs h ok hl
  · exact h0.fn w0 f l s v s' ρ w xs h ok hl
end
end Go.Ev
namespace Go.Ev
variable [Sy]
noncomputable section
def memoOne (sp : Nat → List V → S → Option OR) (tab : Tb) (fuel f : Nat) (l : List V) (v : V) : Bool := match run sp tab fuel f l (.mk .leaf 0) with
  | .ok v' _ => bc (beqT v' v) (bc (bndV 0 v) (bndVs 0 l) false) false
  | .fail _ => false
def memoAll (sp : Nat → List V → S → Option OR) (tab : Tb) (fuel f : Nat) : List (List V × V) → Bool
  | [] => true
  | e :: m => bc (memoOne sp tab fuel f e.1 e.2) (memoAll sp tab fuel f m) false
def pickM : List (Nat × List (List V × V)) → Nat → List (List V × V)
  | [], _ => []
  | e :: r, f => bc (Nat.beq f e.1) e.2 (pickM r f)
def memoOf (tabs : List (Nat × List (List V × V))) (f : Nat) (l : List V) : Option V := findM l (pickM tabs f)
def memoSp (memo : Nat → List V → Option V) (f : Nat) (args : List V) (s : S) : Option OR := match memo f args with
  | some v => some (.ok v s)
  | none => none
/- the end of a function's code: a 'true' -/
def okTail (p : Pt) (r : R) : Bool := match r with
  | .done .r t _ => isBoolV true (getP p t)
  | _ => false
end
section
variable {P : Program} {cd : Nat → Nat → Nat → Array Oper → Option DL} {cf : Cf} {tab : Tb}
structure TabM (P : Program) (f : Nat) (m : List (List V × V)) : Prop where
  fn : ∀ l v, (l, v) ∈ m → ∀ (B : Bs) (ρ : Rho) (s : S) (w : World) (xs : List Value), Ok B ρ s w → vals ρ l = some xs → CallR P B f xs ρ s w v s
theorem memoAll_mem {sp : Nat → List V → S → Option OR} {fuel f : Nat} : ∀ {m : List (List V × V)}, memoAll sp tab fuel f m = true → ∀ l v, (l, v) ∈ m → memoOne sp tab fuel f l v = true
  | [], _, l, v, h => by simp at h
  | e :: m, h, l, v, hm => by
    obtain ⟨h1, h2⟩ := bcT (show bc _ _ false = true from h)
    rcases List.mem_cons.1 hm with rfl | hm
    · exact h1
    · exact memoAll_mem h2 l v hm
theorem tabM_of (E : EnvOk P cf) (hd : DOk P cf cd) {sp : Nat → List V → S → Option OR} (hsp : SpOk P sp) (ht : TabOk P cf cd tab) {fuel f : Nat} {m : List (List V × V)} (h : memoAll sp tab fuel f m = true) : TabM P f m := ⟨fun l v hm B ρ s w xs ok hl => by
  have h1 := memoAll_mem h l v hm
  unfold memoOne at h1
  generalize hr : run sp tab fuel f l (.mk .leaf 0) = r at h1
  cases r with
  | fail n => exact absurd h1 (by simp)
  | ok v' s1 =>
    obtain ⟨h2, h1⟩ := bcT h1
    obtain ⟨h3, h4⟩ := bcT h1
    have := beqT_eq h2
    subst this
    exact memo_ok E hd hsp ht hr h3 h4 B ρ s w xs ok hl⟩
theorem TabM.append {f : Nat} {m m' : List (List V × V)} (h : TabM P f m) (h' : TabM P f m') : TabM P f (m ++ m') := ⟨fun l v hm => by
  rcases List.mem_append.1 hm with hm | hm
  · exact h.fn l v hm
  · exact h'.fn l v hm⟩
theorem memoOf_ok : ∀ {tabs : List (Nat × List (List V × V))}, (∀ x, x ∈ tabs → TabM P x.1 x.2) → ∀ f l v, memoOf tabs f l = some v → ∀ (B : Bs) (ρ : Rho) (s : S) (w : World) (xs : List Value), Ok B ρ s w → vals ρ l = some xs → CallR P B f xs ρ s w v s
  | [], _, f, l, v, h => by simp [memoOf, pickM, findM] at h
  | e :: r, ht, f, l, v, h => by
    unfold memoOf pickM at h
    rw [bc_eq] at h
    split at h
    · rename_i hf
      have hf := Nat.eq_of_beq_eq_true hf
      subst hf
      exact (ht e (List.mem_cons_self ..)).fn l v (findM_mem h)
    · exact memoOf_ok (tabs := r) (fun x hx => ht x (List.mem_cons_of_mem _ hx)) f l v h
theorem memoOf_is {tabs : List (Nat × List (List V × V))} (h : ∀ x, x ∈ tabs → TabM P x.1 x.2) : MemoOk P (memoOf tabs) := ⟨memoOf_ok h⟩
theorem memoSp_ok {memo : Nat → List V → Option V} (h : MemoOk P memo) : SpOk P (memoSp memo) := ⟨fun w0 f l s v s' ρ w xs hs ok hl => by
  unfold memoSp at hs
  split at hs
  · rename_i u hu
    simp only [Option.some.injEq, OR.ok.injEq] at hs
    obtain ⟨rfl, rfl⟩ := hs
    exact h.fn f l u hu w0 ρ s w xs ok hl
  · exact absurd hs (by simp)⟩
theorem noSp_ok : SpOk P noSp := ⟨fun _ _ _ _ _ _ _ _ _ h => absurd h (by simp [noSp])⟩
theorem hms_of (E : EnvOk P cf) (hd : DOk P cf cd) (ht : TabOk P cf cd tab) {fuel f : Nat} {ms : List Hm} (h : ∀ m, m ∈ ms → hmFact tab (plainC tab fuel) fuel f m = true) : HmsOk P f ms := ⟨fun m hm _ _ _ _ _ ok hl hit =>
  hm_ok E hd ht (fun _ => call_ok E hd noSp tab noSp_ok ht fuel) (h m hm) ok hl hit⟩
theorem okTail_ok {p : Pt} {r : R} (h : okTail p r = true) : ∃ t s, r = .done .r t s ∧ getP p t = .bool true := by
  unfold okTail at h
  split at h
  · rename_i t s
    refine ⟨t, s, rfl, ?_⟩
    cases hg : getP p t with
    | bool b =>
      rw [hg] at h
      cases b
      · exact absurd h (by simp [isBoolV, beqB, bc])
      · rfl
    | _ => rw [hg] at h; exact absurd h (by simp [isBoolV])
  · exact absurd h (by simp)
end
end Go.Ev
namespace Go.Ev
variable [Sy]
noncomputable section
def okL (h : IH) : List C → Tr → S → (Tr → S → Bool) → Bool
  | [], t, s, k => k t s
  | c :: cs, t, s, k => (match h c t s with
    | .done .n t s => okL h cs t s k
    | _ => false)
def isBs (j : Nat) : V → Bool
  | .bsym i => Nat.beq j i
  | _ => false
def turnsE (h : IH) (body : C) (last : Bool) (k : Tr → S → Bool) (t : Tr) (s : S) : Bool := bc last true (match h body t s with
  | .done .n t s => k t s
  | _ => false)
def turns (h : IH) (test body tail : C) (pb pr : Pt) (kk : Nat → Tr → S → Bool) : Nat → Nat → Tr → S → Bool
  | 0, j, t, s => kk j t s
  | k + 1, j, t, s => (match h test t s with
    | .done .n t s => bc (isBs j (getP pb t)) (bc (bc (Nat.beq j 0) true (okTail pr (h tail t s))) (turnsE h body (Nat.beq j 4) (turns h test body tail pb pr kk k (Nat.succ j)) t s) false) false
    | _ => false)
/- a known state: some of the frame's values, the blocks that matter -/
def hitT : List (Nat × V) → Tr → Bool
  | [], _ => true
  | x :: l, t => bc (beqA x.2 (getP (path x.1) t)) (hitT l t) false
def hitS (T : List (Nat × V)) (bl : List (Nat × B)) (N : Nat) (t : Tr) (s : S) : Bool := bc (hitT T t) (bc (Nat.beq s.next N) (hitB s bl) false) false
def mkT : List (Nat × V) → Tr
  | [] => .leaf
  | x :: l => (mkT l).force fun t => putP x.2 (path x.1) t
def segK (T : List (Nat × V)) (bl : List (Nat × B)) (N : Nat) (f : Tr → S → Bool) : Bool := (mkT T).force fun t => (hmH bl).force fun h => f t (.mk h N)
end
def seqs : List Code → Code → Code
  | [], r => r
  | c :: cs, r => .seq c (seqs cs r)
section
variable {P : Program} {cf : Cf} {cd : Nat → Nat → Nat → Array Oper → Option DL} {w0 : Bs} {K N : Nat} {h : IH}
inductive Comps (cd : Nat → Nat → Nat → Array Oper → Option DL) (cf : Cf) (K N : Nat) : List Code → List C → Prop where
  | nil : Comps cd cf K N [] []
  | cons {d : Code} {ds : List Code} {c : C} {cs : List C} : compC cd cf K N d = some c → Comps cd cf K N ds cs → Comps cd cf K N (d :: ds) (c :: cs)
def Snd (P : Program) (cd : Nat → Nat → Nat → Array Oper → Option DL) (cf : Cf) (w0 : Bs) (K N : Nat) (h : IH) : Prop := ∀ (d : Code) (c : C), compC cd cf K N d = some c → Sound P w0 K N d c h
/- a chain -/
theorem okL_wp (H : Snd P cd cf w0 K N h) {rest : Code} {Q : Exit → Act → World → Prop} {k : Tr → S → Bool}
    (hr : ∀ (t : Tr) (s : S) (ρ : Rho) (a : Act) (w : World), k t s = true → Fr K N ρ t [] a → Ok w0 ρ s w → a.defers = [] → rest.wp P Q a w) :
    ∀ {ds : List Code} {cs : List C}, Comps cd cf K N ds cs → ∀ {t : Tr} {s : S} {ρ : Rho} {a : Act} {w : World}, okL h cs t s k = true → Fr K N ρ t [] a → Ok w0 ρ s w → a.defers = [] → (seqs ds rest).wp P Q a w := by
  intro ds cs hc
  induction hc with
  | nil => intro t s ρ a w hk F ok hd; exact hr t s ρ a w hk F ok hd
  | cons h1 _ ih =>

    intro t s ρ a w hk F ok hd
    simp only [okL] at hk
    split at hk
    · rename_i t1 s1 he
      exact wp_seq (H _ _ h1 t s .n t1 s1 ρ a w _ he F ok hd fun ρ1 a1 w1 ok1 _ F1 hd1 => ih hk F1 ok1 hd1)
    · exact absurd hk (by simp)
theorem isBs_eq {j : Nat} {v : V} (h : isBs j v = true) : v = .bsym j := by
  cases v with
  | bsym i => rw [Nat.eq_of_beq_eq_true (show Nat.beq j i = true from h)]
  | _ => exact absurd h (by simp [isBs])
/- the known state stands for the one that is -/
theorem mkT_get : ∀ (T : List (Nat × V)) (n : Nat), n < 65536 → (∀ x ∈ T, x.1 < 65536) → getP (path n) (mkT T) = .undef ∨ ∃ x ∈ T, x.1 = n ∧ getP (path n) (mkT T) = x.2
  | [], n, _, _ => .inl (getP_leaf _)
  | x :: l, n, hn, hT => by
    simp only [mkT, Tr.force_eq]
    rw [getP_putP]
    by_cases h : path n = path x.1
    · rw [if_pos h]
      exact .inr ⟨x, List.mem_cons_self .., (path_inj hn (hT x (List.mem_cons_self ..)) h).symm, rfl⟩
    · rw [if_neg h]
      rcases mkT_get l n hn (fun y hy => hT y (List.mem_cons_of_mem _ hy)) with h1 | ⟨y, h1, h2, h3⟩
      · exact .inl h1
      · exact .inr ⟨y, List.mem_cons_of_mem _ h1, h2, h3⟩
theorem hitT_mem : ∀ {T : List (Nat × V)} {t : Tr}, hitT T t = true → ∀ x ∈ T, getP (path x.1) t = x.2
  | [], _, _, x, hx => by simp at hx
  | y :: l, t, h, x, hx => by
    obtain ⟨h1, h2⟩ := bcT (show bc _ _ false = true from h)
    rcases List.mem_cons.1 hx with rfl | hx
    · exact (beqA_eq h1).symm
    · exact hitT_mem h2 x hx
theorem Fr.part {ρ : Rho} {t : Tr} {a : Act} (F : Fr K N ρ t [] a) {T : List (Nat × V)} (hT : ∀ x ∈ T, x.1 < 65536) (h : hitT T t = true) : Fr K N ρ (mkT T) [] a := by
  refine ⟨F.size, fun n hb hn => ?_, fun n x hx => by simp at hx⟩
  rcases mkT_get T n hn hT with h1 | ⟨x, hx, rfl, h3⟩
  · exact .inl h1
  · rw [h3, ← hitT_mem h x hx]
    exact F.tmps x.1 hb hn
theorem Ok.part {ρ : Rho} {s : S} {w : World} (ok : Ok w0 ρ s w) {bl : List (Nat × B)} (h : hitB s bl = true) : Ok w0 ρ (.mk (hmH bl) s.next) w := by
  have live : ∀ {k}, (hmH bl).get k ≠ .no → (hmH bl).get k = s.heap.get k ∧ s.heap.get k ≠ .no := fun {k} hk => by
    obtain ⟨x, h1, h2, h3⟩ := hmH_get _ _ hk
    have h4 := hitB_mem h x h1
    subst h2
    exact ⟨by rw [h3, h4], by rw [h4, ← h3]; exact hk⟩
  refine ⟨fun k p hp hk => ?_, fun k k' p p' h1 h2 hk hk' => ok.inj k k' p p' h1 h2 (live hk).2 (live hk').2, ok.lt, ok.nx, fun k hk => ?_, ok.old, ok.os, ok.tape, ok.out⟩
  · have hk : (hmH bl).get k ≠ .no := hk
    obtain ⟨e1, e2⟩ := live hk
    obtain ⟨g1, ob, g2, g3⟩ := ok.blk k p hp e2
    exact ⟨g1, ob, g2, by rw [show (S.mk (hmH bl) s.next).heap.get k = (hmH bl).get k from rfl, e1]; exact g3⟩
  · show (hmH bl).get k = .no
    by_cases h0 : (hmH bl).get k = .no
    · exact h0
    · exact absurd (ok.nxh k hk) (live h0).2
theorem hitS_ok {ρ : Rho} {t : Tr} {s : S} {a : Act} {w : World} {T : List (Nat × V)} {bl : List (Nat × B)} {M : Nat} (h : hitS T bl M t s = true) (hT : ∀ x ∈ T, x.1 < 65536) (F : Fr K N ρ t [] a) (ok : Ok w0 ρ s w) :
    Fr K N ρ (mkT T) [] a ∧ Ok w0 ρ (.mk (hmH bl) M) w := by
  obtain ⟨h1, h⟩ := bcT (show bc _ _ false = true from h)
  obtain ⟨h2, h3⟩ := bcT h
  have := Nat.eq_of_beq_eq_true h2
  subst this
  exact ⟨F.part hT h1, ok.part h3⟩
theorem segK_eq {T : List (Nat × V)} {bl : List (Nat × B)} {M : Nat} {f : Tr → S → Bool} (h : segK T bl M f = true) : f (mkT T) (.mk (hmH bl) M) = true := by
  simpa only [segK, Tr.force_eq, H.force_eq] using h
/- the loop -/
theorem turns_wp (H : Snd P cd cf w0 K N h) {R B tl : Code} {test body tail : C} {p id r : Nat} (h1 : compC cd cf K N R = some test) (h2 : compC cd cf K N B = some body) (h3 : compC cd cf K N tl = some tail)
    (hp : Nat.testBit K p = true) (hpN : p < 65536) (hr : Nat.testBit K r = true) (hrN : r < 65536) {Q : Exit → Act → World → Prop}
    (hQ : ∀ (ρ : Rho) (s : S) (a : Act) (w : World), Ok w0 ρ s w → a.tmps.getD r undef = .bool true → a.defers = [] → Q .ret a w) {kk : Nat → Tr → S → Bool} {m : Nat}
    (hk : ∀ (j : Nat) (t : Tr) (s : S) (ρ : Rho) (a : Act) (w : World), kk j t s = true → Fr K N ρ t [] a → Ok w0 ρ s w → a.defers = [] → Code.rounds P (.seq (.seq R (.cond (.tmp p) .skip (.exit id))) B) (Exit.inBlock id (Exit.then (tl.wp P Q) Q)) m a w) :
    ∀ (k j : Nat) (t : Tr) (s : S) (ρ : Rho) (a : Act) (w : World), turns h test body tail (path p) (path r) kk k j t s = true → Fr K N ρ t [] a → Ok w0 ρ s w → a.defers = [] →
      Code.rounds P (.seq (.seq R (.cond (.tmp p) .skip (.exit id))) B) (Exit.inBlock id (Exit.then (tl.wp P Q) Q)) (k + m) a w := by
  intro k
  induction k with
  | zero => intro j t s ρ a w h0 F ok hd; rw [Nat.zero_add]; exact hk j t s ρ a w h0 F ok hd
  | succ k ih =>
    intro j t s ρ a w hk F ok hd
    rw [Nat.succ_add_eq_add_succ, Nat.add_succ, rounds_succ]
    simp only [turns] at hk
    split at hk
    case h_2 => exact absurd hk (by simp)
    rename_i t1 s1 he
    obtain ⟨hb, hk⟩ := bcT hk
    obtain ⟨htl, hbd⟩ := bcT hk
    refine wp_seq (wp_seq (H R test h1 t s .n t1 s1 ρ a w _ he F ok hd ?_))
    intro ρ1 a1 w1 ok1 po1 F1 hd1
    have hv := F1.tmps p hp hpN
    rw [isBs_eq hb] at hv
    have hbool : a1.eval (.tmp p) = .bool (decide ((j : Int) < Sy.f 6)) := by
      rcases hv with hv | hv
      · exact absurd hv (by simp)
      · simp only [val, Option.some.injEq] at hv
        exact hv.symm
    have q0 := Sy.q0
    have q1 := Sy.q1
    have up2 := Sy.up2
    refine wp_cond_split hbool (fun ht => ?_) (fun hf => ?_)
    · have ht : (j : Int) < Sy.f 6 := by simpa using ht
      refine wp_skip ?_
      have hj : Nat.beq j 4 = false := by
        rw [beq_eq]; exact decide_eq_false (by omega)
      rw [hj] at hbd
      simp only [turnsE, bc_false] at hbd
      split at hbd
      · rename_i t2 s2 he2
        exact H B body h2 t1 s1 .n t2 s2 ρ1 a1 w1 _ he2 F1 ok1 hd1 fun ρ2 a2 w2 ok2 _ F2 hd2 => ih (Nat.succ j) t2 s2 ρ2 a2 w2 hbd F2 ok2 hd2
      · exact absurd hbd (by simp)
    · have hf : ¬ (j : Int) < Sy.f 6 := by simpa using hf
      have hj : Nat.beq j 0 = false := by
        rw [beq_eq]; exact decide_eq_false (by omega)
      rw [hj, bc_false] at htl
      refine wp_exit ?_
      show (if id = id then _ else _)
      rw [if_pos rfl]
      obtain ⟨t3, s3, he3, hg3⟩ := okTail_ok htl
      refine H tl tail h3 t1 s1 .r t3 s3 ρ1 a1 w1 _ he3 F1 ok1 hd1 ?_
      intro ρ3 a3 w3 ok3 _ F3 hd3
      refine hQ ρ3 s3 a3 w3 ok3 ?_ hd3
      have := F3.tmps r hr hrN
      rw [hg3] at this
      exact OV_bool this
/- all of it -/
theorem top_wp (H : Snd P cd cf w0 K N h) {ds : List Code} {cs : List C} (hc : Comps cd cf K N ds cs) {R B tl : Code} {p id : Nat} {Q : Exit → Act → World → Prop} {r0 : Code} {c0 : C} (h0 : compC cd cf K N r0 = some c0) {k : Tr → S → Bool} {n : Nat}
    (hr : ∀ (t : Tr) (s : S) (ρ : Rho) (a : Act) (w : World), k t s = true → Fr K N ρ t [] a → Ok w0 ρ s w → a.defers = [] → Code.rounds P (.seq (.seq R (.cond (.tmp p) .skip (.exit id))) B) (Exit.inBlock id (Exit.then (tl.wp P Q) Q)) n a w)
    {t : Tr} {s : S} {ρ : Rho} {a : Act} {w : World} (hk : okL h (app cs [c0]) t s k = true) (F : Fr K N ρ t [] a) (ok : Ok w0 ρ s w) (hd : a.defers = []) :
    (seqs ds (.seq (.seq r0 (.block id (.loop (.seq (.seq R (.cond (.tmp p) .skip (.exit id))) B)))) tl)).wp P Q a w := by
  have split : ∀ (cs : List C) (t : Tr) (s : S), okL h (app cs [c0]) t s k = okL h cs t s fun t s => okL h [c0] t s k := by
    intro cs
    induction cs with
    | nil => intro t s; rfl
    | cons c cs ih =>
      intro t s
      simp only [app, okL]
      split
      · exact ih _ _
      · rfl
  rw [split] at hk
  refine okL_wp H ?_ hc hk F ok hd
  intro t1 s1 ρ1 a1 w1 hk1 F1 ok1 hd1
  simp only [okL] at hk1
  split at hk1
  · rename_i t2 s2 he
    refine wp_seq (wp_seq (H r0 c0 h0 t1 s1 .n t2 s2 ρ1 a1 w1 _ he F1 ok1 hd1 ?_))
    intro ρ2 a2 w2 ok2 _ F2 hd2
    exact wp_block (wp_loop_rounds n (hr t2 s2 ρ2 a2 w2 hk1 F2 ok2 hd2))
  · exact absurd hk1 (by simp)
end
end Go.Ev
namespace Go.Ev
variable [Sy]
noncomputable section
def isOkV (v : V) (r : OR) : Bool := match r with
  | .ok u _ => beqA u v
  | .fail _ => false
/- a symbol's interval, gone through -/
def enumR (g : Nat → OR) (v : V) : Nat → Nat → Bool
  | 0, _ => true
  | n + 1, a => bc (isOkV v (g a)) (enumR g v n (Nat.succ a)) false
def enumI (lo hi : Int) (g : Nat → OR) (s : S) (d : Option OR) : Option OR := match lo, hi with
  | .ofNat lo, .ofNat hi => (match g lo with
    | .ok v _ => bc (enumR g v (Nat.sub (Nat.succ hi) lo) lo) (some (.ok v s)) d
    | .fail _ => d)
  | _, _ => d
def enumA (tab : Tb) (fuel f0 : Nat) (args : List V) (s : S) (d : Option OR) : Option OR := match args with
  | [.ptr b o, .sym i k] => enumI (symLo i) (symHi i) (fun n => pureCall tab (plainC tab fuel) fuel [b] f0 [.ptr b o, .int k (.ofNat n)] s) s d
  | _ => d
def enumSp (sp : Nat → List V → S → Option OR) (tab : Tb) (fuel f0 : Nat) (f : Nat) (args : List V) (s : S) : Option OR :=
  bc (Nat.beq f f0) (enumA tab fuel f args s (sp f args s)) (sp f args s)
/- an answer that is a new block -/
structure Nw where
  f : Nat
  args : List V
  cells : List V
def nwR (cells : List V) (s : S) : OR := nat (lenN cells) fun n => news s (.cells (wr .leaf 0 cells)) fun b s => .ok (.fsl 1 b 0 n) s
def nwFind (f : Nat) (args : List V) (s : S) : List Nw → Option OR
  | [] => none
  | m :: l => bc (Nat.beq f m.f) (bc (beqL beqT args m.args) (some (nwR m.cells s)) (nwFind f args s l)) (nwFind f args s l)
def nwSp (sp : Nat → List V → S → Option OR) (l : List Nw) (f : Nat) (args : List V) (s : S) : Option OR := match nwFind f args s l with
  | some r => some r
  | none => sp f args s
def eqCs (c : Tr) : Nat → List V → Bool
  | _, [] => true
  | o, v :: vs => bc (beqA (c.get o) v) (bc (isOne v) (eqCs c (Nat.succ o) vs) false) false
def nwCells (x : B) (cells : List V) : Bool := match x with
  | .cells c => eqCs c 0 cells
  | _ => false
def nwRes (cells : List V) (r : OR) : Bool := match r with
  | .ok (.fsl e b o n) s1 => bc (Nat.beq e 1) (bc (Nat.beq o 0) (bc (Nat.beq n (lenN cells)) (nwCells (hget s1 b) cells) false) false) false
  | _ => false
def nwFact (sp : Nat → List V → S → Option OR) (tab : Tb) (fuel f : Nat) (args cells : List V) : Bool := bc (bndVs 0 args) (bc (bndVs 0 cells) (nwRes cells (run sp tab fuel f args (.mk .leaf 0))) false) false
end
section
variable {P : Program} {cd : Nat → Nat → Nat → Array Oper → Option DL} {cf : Cf} {tab : Tb}
/- two names of one value -/
def VEq (a b : V) : Prop := ∀ ρ, val ρ a = val ρ b
def VsEq (a b : List V) : Prop := ∀ ρ, vals ρ a = vals ρ b
theorem VEq.rfl' (a : V) : VEq a a := fun _ => rfl
theorem VEq.sym {i j : Nat} (k : IntKind) (h : Sy.f i = Sy.f j) : VEq (.sym i k) (.sym j k) := fun ρ => by simp only [val, h]
theorem VEq.lit {i : Nat} {n : Int} (k : IntKind) (h : Sy.f i = n) : VEq (.sym i k) (.int k n) := fun ρ => by simp only [val, h]
theorem VEq.txt {i : Nat} {l m : List Nat} (h : Sy.g i = m) (hl : okX l = true) : VEq (.ssym i l) (.str (m ++ l)) := fun ρ => by
  have hm : okX m = true := by rw [← h]; exact Sy.gok i
  simp only [val, h, hl, okX_append hm hl, if_true]
theorem VsEq.nil : VsEq [] [] := fun _ => rfl
theorem VsEq.cons {a b : V} {x y : List V} (h : VEq a b) (h' : VsEq x y) : VsEq (a :: x) (b :: y) := fun ρ => by simp only [vals, h ρ, h' ρ]
theorem VsEq.length {x y : List V} (h : VsEq x y) (h1 : ∃ ρ xs, vals ρ x = some xs) : x.length = y.length := by
  obtain ⟨ρ, xs, hx⟩ := h1
  rw [← vals_length hx, ← vals_length (by rw [← h ρ]; exact hx)]
theorem CallR.args {B : Bs} {f : Nat} {l m : List V} {xs : List Value} {ρ : Rho} {s s' : S} {w : World} {v : V} (h : VsEq l m) (hm : ∀ xs, vals ρ m = some xs → CallR P B f xs ρ s w v s') (hl : vals ρ l = some xs) : CallR P B f xs ρ s w v s' :=
  hm xs (by rw [← h ρ]; exact hl)
theorem CallR.val {B : Bs} {f : Nat} {xs : List Value} {ρ : Rho} {s s' : S} {w : World} {u v : V} (h : VEq u v) (hm : CallR P B f xs ρ s w v s') : CallR P B f xs ρ s w u s' := by
  obtain ⟨he, hc⟩ := hm
  refine ⟨he, Calls.mono hc ?_⟩
  rintro e w' ⟨ρ', x, rfl, ok', po', hx⟩
  exact ⟨ρ', x, rfl, ok', po', by rw [h ρ']; exact hx⟩
theorem TabM.other {f : Nat} {l l' : List V} {v v' : V} (h : TabM P f [(l', v')]) (hl : VsEq l l') (hv : VEq v v') : TabM P f [(l, v)] := ⟨fun a u hm B ρ s w xs ok hx => by
  simp only [List.mem_cons, List.not_mem_nil, or_false, Prod.mk.injEq] at hm
  obtain ⟨rfl, rfl⟩ := hm
  exact CallR.val hv (CallR.args hl (fun ys hy => h.fn l' v' (by simp) B ρ s w ys ok hy) hx)⟩

/- a small table -/
theorem enumR_at {g : Nat → OR} {v : V} : ∀ {n a : Nat}, enumR g v n a = true → ∀ j, j < n → isOkV v (g (a + j)) = true
  | 0, _, _, j, hj => absurd hj (by omega)
  | n + 1, a, h, j, hj => by
    obtain ⟨h1, h2⟩ := bcT (show bc _ _ false = true from h)
    cases j with
    | zero => exact h1
    | succ j => rw [show a + (j + 1) = Nat.succ a + j by omega]; exact enumR_at h2 j (by omega)
theorem isOkV_ok {v : V} {r : OR} (h : isOkV v r = true) : ∃ s, r = .ok v s := by
  cases r with
  | ok u s => exact ⟨s, by rw [beqA_eq (show beqA u v = true from h)]⟩
  | fail n => exact absurd h (by simp [isOkV])
theorem pureCall_same {call : CallT} {fuel f : Nat} {sel : List Nat} {l : List V} {s s' : S} {v : V} (h : pureCall tab call fuel sel f l s = .ok v s') : s' = s := by
  unfold pureCall at h
  cases hr : ndRun tab call fuel f l (redS s sel) with
  | nil => rw [hr] at h; exact absurd h (by simp [pureR])
  | cons r rs =>
    rw [hr] at h
    cases r with
    | fail n => exact absurd h (by simp [pureR])
    | ok v0 s0 =>
      simp only [pureR] at h
      obtain ⟨_, h⟩ := bc_ok h
      obtain ⟨_, h⟩ := bc_ok h
      simp only [OR.ok.injEq] at h
      exact h.2.symm
theorem enumSp_ok (E : EnvOk P cf) (hd : DOk P cf cd) (ht : TabOk P cf cd tab) {sp : Nat → List V → S → Option OR} (h0 : SpOk P sp) {fuel f0 : Nat} : SpOk P (enumSp sp tab fuel f0) := by
  refine ⟨fun w0 f l s v s' ρ w xs h ok hl => ?_⟩
  have old : sp f l s = some (.ok v s') → CallR P w0 f xs ρ s w v s' := fun h => h0.fn w0 f l s v s' ρ w xs h ok hl
  unfold enumSp at h
  rw [bc_eq] at h
  split at h
  case isFalse => exact old h
  unfold enumA at h
  split at h
  case h_2 => exact old h
  rename_i b o i k
  unfold enumI at h
  split at h
  case h_2 => exact old h
  rename_i lo hi hlo hhi
  split at h
  case h_2 => exact old h
  rename_i u s1 hu
  rw [bc_eq] at h
  split at h
  case isFalse => exact old h
  rename_i hall
  simp only [Option.some.injEq, OR.ok.injEq] at h
  obtain ⟨rfl, rfl⟩ := h
  have hr := Sy.rng i
  rw [hlo, hhi] at hr
  obtain ⟨n, hn⟩ : ∃ n : Nat, Sy.f i = n := ⟨(Sy.f i).toNat, by rw [Int.toNat_of_nonneg]; have := hr.1; simp at this; omega⟩
  rw [hn] at hr
  have r1 : lo ≤ n := by have := hr.1; simpa using this
  have r2 : n ≤ hi := by have := hr.2; simpa using this
  have := enumR_at hall (n - lo) (show n - lo < Nat.sub (Nat.succ hi) lo by show _ < hi + 1 - lo; omega)
  rw [show lo + (n - lo) = n by omega] at this
  obtain ⟨s2, h2⟩ := isOkV_ok this
  have h3 := pureCall_same h2
  subst h3
  exact CallR.args (VsEq.cons (VEq.rfl' _) (VsEq.cons (VEq.lit k hn) VsEq.nil)) (fun ys hy => pureCall_ok E hd ht (fun B => call_ok E hd noSp tab noSp_ok ht fuel) ok hy h2) hl

/- a new block -/
structure NwOk (P : Program) (m : Nw) : Prop where
  fn : ∀ (B : Bs) (ρ : Rho) (s : S) (w : World) (xs : List Value), Ok B ρ s w → vals ρ m.args = some xs → CallR P B m.f xs ρ s w (.fsl 1 s.next 0 m.cells.length) (s.add (.cells (wr .leaf 0 m.cells)))
theorem nwFind_ok {f : Nat} {args : List V} {s : S} {r : OR} : ∀ {l : List Nw}, nwFind f args s l = some r → ∃ m ∈ l, m.f = f ∧ m.args = args ∧ r = .ok (.fsl 1 s.next 0 m.cells.length) (s.add (.cells (wr .leaf 0 m.cells)))
  | [], h => absurd h (by simp [nwFind])
  | m :: l, h => by
    have rest : nwFind f args s l = some r → ∃ m' ∈ m :: l, m'.f = f ∧ m'.args = args ∧ r = .ok (.fsl 1 s.next 0 m'.cells.length) (s.add (.cells (wr .leaf 0 m'.cells))) := fun h => by
      obtain ⟨m', h1, h2⟩ := nwFind_ok h
      exact ⟨m', List.mem_cons_of_mem _ h1, h2⟩
    simp only [nwFind, bc_eq] at h
    split at h
    · rename_i h1
      split at h
      · rename_i h2
        simp only [Option.some.injEq] at h
        refine ⟨m, List.mem_cons_self .., (natT h1).symm, (beqLT_eq h2).symm, ?_⟩
        rw [← h]
        unfold nwR
        rw [nat_eq, news_eq, lenN_eq]
      · exact rest h
    · exact rest h
theorem nwSp_ok {sp : Nat → List V → S → Option OR} (h0 : SpOk P sp) {l : List Nw} (hl : ∀ m ∈ l, NwOk P m) : SpOk P (nwSp sp l) := by
  refine ⟨fun w0 f args s v s' ρ w xs h ok hx => ?_⟩
  unfold nwSp at h
  split at h
  · rename_i r hr
    obtain ⟨m, hm, rfl, rfl, rfl⟩ := nwFind_ok hr
    simp only [Option.some.injEq, OR.ok.injEq] at h
    obtain ⟨rfl, rfl⟩ := h
    exact (hl m hm).fn w0 ρ s w xs ok hx
  · exact h0.fn w0 f args s v s' ρ w xs h ok hx
theorem eqCs_get {c : Tr} : ∀ {vs : List V} {o : Nat}, eqCs c o vs = true → ∀ i v, vs[i]? = some v → c.get (o + i) = v ∧ isOne v = true
  | [], _, _, i, v, hi => by simp at hi
  | a :: vs, o, h, i, v, hi => by
    obtain ⟨h1, h⟩ := bcT (show bc _ _ false = true from h)
    obtain ⟨h2, h3⟩ := bcT h
    cases i with
    | zero =>
      simp only [List.getElem?_cons_zero, Option.some.injEq] at hi
      subst hi
      exact ⟨beqA_eq h1, h2⟩
    | succ i =>
      rw [show o + (i + 1) = Nat.succ o + i by omega]
      exact eqCs_get h3 i v (by simpa using hi)
inductive Alike2 : List V → List V → Prop where
  | nil : Alike2 [] []
  | cons {a b : V} {x y : List V} : VEq a b → isOne a = true → isOne b = true → Alike2 x y → Alike2 (a :: x) (b :: y)
theorem Alike2.at_ : ∀ {x y : List V}, Alike2 x y → ∀ (i : Nat) (a : V), x[i]? = some a → ∃ b : V, y[i]? = some b ∧ VEq a b ∧ isOne a = true ∧ isOne b = true
  | _, _, .nil, i, a, h => by simp at h
  | _, _, .cons h1 h2 h4 h3, i, a, h => by
    cases i with
    | zero =>
      simp only [List.getElem?_cons_zero, Option.some.injEq] at h
      subst h
      exact ⟨_, rfl, h1, h2, h4⟩
    | succ i => simpa using h3.at_ i a (by simpa using h)
theorem Alike2.len : ∀ {x y : List V}, Alike2 x y → x.length = y.length
  | _, _, .nil => rfl
  | _, _, .cons _ _ _ h => by simp [h.len]
theorem nw_ok (E : EnvOk P cf) (hd : DOk P cf cd) {sp : Nat → List V → S → Option OR} (hsp : SpOk P sp) (ht : TabOk P cf cd tab) {fuel f : Nat} {args args' cells cells' : List V} (h : nwFact sp tab fuel f args' cells' = true) (ha : VsEq args args') (hc : Alike2 cells cells') :
    NwOk P ⟨f, args, cells⟩ := by
  refine ⟨fun B ρ s w xs ok hl => ?_⟩
  obtain ⟨h1, h⟩ := bcT (show bc _ _ false = true from h)
  obtain ⟨h2, h⟩ := bcT h
  have hl1 : vals (fun _ => none) args' = some xs := by rw [← below0 ρ, vals_below args' h1, ← ha ρ]; exact hl
  generalize hr : run sp tab fuel f args' (.mk .leaf 0) = r at h
  unfold nwRes at h
  split at h
  case h_2 => exact absurd h (by simp)
  rename_i e b o n s1
  have hall : e = 1 ∧ o = 0 ∧ n = cells'.length ∧ nwCells (hget s1 b) cells' = true := by
    obtain ⟨k1, h⟩ := bcT h
    obtain ⟨k2, h⟩ := bcT h
    obtain ⟨k3, h⟩ := bcT h
    exact ⟨natT k1, natT k2, by rw [natT k3, lenN_eq], h⟩
  obtain ⟨k1, k2, k3, hcells⟩ := hall
  subst k1 k2 k3
  clear h
  obtain ⟨c, hb, h⟩ : ∃ c, hget s1 b = .cells c ∧ eqCs c 0 cells' = true := by
    unfold nwCells at hcells
    split at hcells
    · rename_i c hb; exact ⟨c, hb, hcells⟩
    · exact absurd hcells (by simp)
  rw [hget_eq] at hb
  obtain ⟨he, hcl⟩ := run_ok E hd sp tab hsp ht (ok_start w) hl1 hr
  refine ⟨he, Calls.mono hcl ?_⟩
  rintro e w' ⟨ρ1, x, rfl, ok1, _, hx⟩
  simp only [Go.Ev.val, Option.bind_eq_some_iff] at hx
  obtain ⟨p, hp, hx⟩ := hx
  split at hx
  case isFalse => exact absurd hx (by simp)
  rename_i hcond
  simp only [Option.some.injEq] at hx
  have hn : s1.heap.get b ≠ .no := by rw [hb]; simp
  have hge := ok1.ofGe hp hn
  have hlt := ok1.lt b p hp
  obtain ⟨_, ob, hob, hbr⟩ := ok1.blk b p hp hn
  rw [hb] at hbr
  have okw : Ok B ρ s w' := ok.later ok1
  have hbr' : BRel ρ p.2 (.cells (wr .leaf 0 cells)) ob := by
    obtain ⟨arr, ty, fz, q1, q2, q3, q4⟩ := hbr
    refine ⟨arr, ty, fz, q1, q2, q3, fun i => ?_⟩
    rw [wr_get]
    split
    · rename_i hi
      obtain ⟨a, hai⟩ : ∃ a, cells[i]? = some a := ⟨cells[i]'(by omega), by simp⟩
      obtain ⟨b', hbi, hv, hone, _⟩ := hc.at_ i a hai
      obtain ⟨g1, g2⟩ := eqCs_get h i b' hbi
      rw [Nat.zero_add] at g1
      rw [Nat.sub_zero, hai]
      refine .inr ⟨hone, ?_⟩
      rcases q4 i with q5 | ⟨_, y, q6, q7⟩
      · rw [g1] at q5; rw [q5] at g2; exact absurd g2 (by simp [isOne])
      · rw [g1] at q6
        refine ⟨y, ?_, q7⟩
        show Go.Ev.val ρ a = some y
        have hbd : bndV 0 b' = true := by
          have : ∀ {l : List V}, bndVs 0 l = true → ∀ (i : Nat) (v : V), l[i]? = some v → bndV 0 v = true := by
            intro l
            induction l with
            | nil => intro _ i v h; simp at h
            | cons a l ih =>
              intro h i v hv
              obtain ⟨h1, h2⟩ := bcT (show bc _ _ false = true from h)
              cases i with
              | zero => simp only [List.getElem?_cons_zero, Option.some.injEq] at hv; rw [← hv]; exact h1
              | succ i => exact ih h2 i v (by simpa using hv)
          exact this h2 i b' hbi
        rw [hv ρ, ← val_below b' hbd, below0, ← below0 ρ1, val_below b' hbd]; exact q6
    · exact .inl rfl
  obtain ⟨ok2, po2⟩ := Ok.again okw (p := p) (by
      cases hk : B.keep p.1 with
      | none => rfl
      | some o => have := ok.kept hk; omega) hlt (fun k q hk _ => by have := ok.lt k q hk; omega) hbr' ⟨rfl, hob, fun _ _ => rfl, rfl, rfl, rfl⟩
  refine ⟨_, x, rfl, ok2, po2, ?_⟩
  show Go.Ev.val _ (.fsl 1 s.next 0 cells.length) = some x
  rw [hc.len]
  simp only [Go.Ev.val, Rho.set, if_true, Option.bind_some]
  rw [if_pos hcond, hx]
/- a block with other names of the same values -/
theorem Alike2.flip {x y : List V} (h : Alike2 x y) : Alike2 y x := by
  induction h with
  | nil => exact .nil
  | cons h1 h2 h3 _ ih => exact .cons (fun ρ => (h1 ρ).symm) h3 h2 ih
theorem cells_other {x y : List V} (h : Alike2 x y) {ρ : Rho} {n : Nat} {o : Obj} (hb : BRel ρ n (.cells (wr .leaf 0 x)) o) : BRel ρ n (.cells (wr .leaf 0 y)) o := by
  obtain ⟨arr, ty, fz, q1, q2, q3, q4⟩ := hb
  refine ⟨arr, ty, fz, q1, q2, q3, fun i => ?_⟩
  have q5 := q4 i
  rw [wr_get] at q5 ⊢
  rw [← h.len]
  split
  · rename_i hi
    rw [if_pos hi] at q5
    obtain ⟨a, hai⟩ : ∃ a, x[i]? = some a := ⟨x[i]'(by omega), by simp⟩
    obtain ⟨b, hbi, hv, h1, h2⟩ := h.at_ i a hai
    rw [Nat.sub_zero, hai] at q5
    rw [Nat.sub_zero, hbi]
    rcases q5 with q5 | ⟨_, z, q6, q7⟩
    · have q5 : a = .undef := q5
      rw [q5] at h1; exact absurd h1 (by simp [isOne])
    · exact .inr ⟨h2, z, by rw [Option.getD_some, ← hv ρ]; exact q6, q7⟩
  · exact .inl rfl
theorem Ok.swapB {B : Bs} {ρ : Rho} {s : S} {w : World} (h : Ok B ρ s w) {b : Nat} {x y : List V} (hb : s.heap.get b = .cells (wr .leaf 0 x)) (hxy : Alike2 x y) : Ok B ρ (s.set b (.cells (wr .leaf 0 y))) w := by
  have live : ∀ {k}, (s.set b (.cells (wr .leaf 0 y))).heap.get k ≠ .no → s.heap.get k ≠ .no := fun {k} hk => by
    rw [S.get_set] at hk
    split at hk
    · rename_i h1; rw [h1, hb]; simp
    · exact hk
  refine ⟨fun k p hp hk => ?_, fun k k' p p' hp hp' hk hk' => h.inj k k' p p' hp hp' (live hk) (live hk'), h.lt, h.nx, fun k hk => ?_, h.old, h.os, h.tape, h.out⟩
  · obtain ⟨h1, o, h2, h3⟩ := h.blk k p hp (live hk)
    refine ⟨h1, o, h2, ?_⟩
    rw [S.get_set]
    split
    · rename_i h4
      subst h4
      rw [hb] at h3
      exact cells_other hxy h3
    · exact h3
  · have h1 := h.nxh k hk
    rw [S.get_set]
    split
    · rename_i h2
      subst h2
      rw [hb] at h1; exact absurd h1 (by simp)
    · exact h1
theorem hm_other {f b n0 : Nat} {args args' cells cells' : List V} {v v' : V} (h : HmsOk P f [⟨args', [(b, .cells (wr .leaf 0 cells'))], n0, v'⟩]) (ha : VsEq args args') (hc : Alike2 cells cells') (hv : VEq v v')
    (hr : eqTr (wr .leaf 0 cells') (wr .leaf 0 cells') = true) : HmsOk P f [⟨args, [(b, .cells (wr .leaf 0 cells))], n0, v⟩] := by
  refine ⟨fun m hm B ρ s w xs ok hl hit => ?_⟩
  simp only [List.mem_cons, List.not_mem_nil, or_false] at hm
  subst hm
  have hb : s.heap.get b = .cells (wr .leaf 0 cells) := hitB_mem hit (b, .cells (wr .leaf 0 cells)) (by simp)
  have ok' := ok.swapB hb hc
  have hit' : hitB (s.set b (.cells (wr .leaf 0 cells'))) [(b, .cells (wr .leaf 0 cells'))] = true := by
    simp only [hitB]
    rw [hget_eq, S.get_set, if_pos rfl]
    show bc (eqTr _ _) true false = true
    rw [hr]; rfl
  have hcall := h.fn ⟨args', [(b, .cells (wr .leaf 0 cells'))], n0, v'⟩ (by simp) B ρ _ w xs ok' (by rw [← ha ρ]; exact hl) hit'
  refine ⟨hcall.enter, Calls.mono hcall.calls ?_⟩
  rintro e w1 ⟨ρ1, x, rfl, ok1, po1, hx⟩
  refine ⟨ρ1, x, rfl, ?_, ⟨po1.ext, Nat.le_refl _, fun _ _ _ => rfl⟩, by rw [hv ρ1]; exact hx⟩
  have h2 := ok1.swapB (b := b) (x := cells') (y := cells) (by rw [S.get_set, if_pos rfl]) hc.flip
  refine h2.alike ⟨fun k => ?_, rfl⟩
  rw [S.get_set, S.get_set]
  split
  · rename_i hk; rw [hk, hb]
  · rfl
end
end Go.Ev
