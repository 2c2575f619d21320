/- The reckoner: the form of operations, regions, code and calls; regions whose order is drawn. -/
import Derived.Scope
import Derived.CallsIn
import Derived.TacticsIn
import Derived.OrdersIn
import Derived.Test.YtiliabomdlhgoaaGreatDoorEg
set_option linter.unusedSectionVars false
set_option linter.unusedVariables false
namespace Go.Ev
variable [Sy]
noncomputable section

inductive Tt where
  | leaf
  | node (l : Tt) (v : Option TypeInfo) (r : Tt)
def Tt.get : Tt → Nat → Option TypeInfo
  | .leaf, _ => none
  | .node l v r, k => match Nat.beq k 0 with
    | true => v
    | false => match odd k with
      | true => l.get (half k)
      | false => r.get (half k)

structure Cf where
  tt : Tt
  eqs : List (Nat × List SK)
  keys : List (Nat × KK)
  ixbF : Nat
  cntF : Nat

def look {α : Type} : List (Nat × α) → Nat → Option α
  | [], _ => none
  | (k, v) :: l, n => match Nat.beq k n with
    | true => some v
    | false => look l n

def undT (tt : Tt) (t : TypeId) : Option TypeDesc := match tt.get t with
  | none => none
  | some i => match i.desc with
    | .named _ u => (tt.get u).map (·.desc)
    | d => some d

def ofV : Value → Option V
  | .bool b => some (.bool b)
  | .int k n => some (.int k n)
  | .string s => some (.str (s.data.toList.map (·.toNat)))
  | .pointer none => some .nilptr
  | .slice none 0 0 => some .nilslice
  | .map none => some .nilmap
  | .nilFunc => some .nilFunc
  | .nilIface => some .nilIface
  | _ => none
def ofVs : List Value → Option (List V)
  | [] => some []
  | x :: xs => match ofV x, ofVs xs with
    | some v, some vs => some (v :: vs)
    | _, _ => none
def ofVA (x : Value) : Option V := match x with
  | .agg cs => (ofVs cs.toList).map .agg
  | x => ofV x
def zerosI (i : TypeInfo) : Option (List V) := match i.zero with
  | none => none
  | some z => ofVs z.cells.toList
def zeroVI (i : TypeInfo) : Option V := match i.zero with
  | none => none
  | some z => ofVA z
def ask {α : Type} (b : Bool) (x : Option α) : Option α := match b with
  | true => x
  | false => none

abbrev Sub := List (Nat × X)
section
variable (cf : Cf) (K : Nat) (σ : Sub)
def cx : Operand → Option X
  | .tmp n => match Nat.testBit K n with
    | true => some (.t (path n))
    | false => look σ n
  | .const v => (ofV v).map .c
  | .func f => some (.c (.func f [] []))
  | .global _ => none
def cxs : List Operand → Option (List X)
  | [] => some []
  | x :: xs => (cx K σ x).bind fun y => (cxs xs).bind fun ys => some (y :: ys)
def cox : Option Operand → Option OX
  | none => some .no
  | some x => (cx K σ x).map .so
def partsBy (place : Nat → Option (Nat × Nat)) (n : Nat) : List (Nat × Operand) → Option (List Pa)
  | [] => some []
  | (i, x) :: xs => (place i).bind fun p => (cx K σ x).bind fun y => ask (Nat.ble (p.1 + p.2) n) ((partsBy place n xs).bind fun ys => some (⟨p.1, p.2, y⟩ :: ys))
def fieldPlaceOf (fs : Array Field) (n : Nat) : Option (Nat × Nat) := match fs.toList[n]? with
  | none => none
  | some f => (cf.tt.get f.type).map fun i => (f.offset, i.size)
def allKnown : List Field → Bool
  | [] => true
  | f :: fs => match cf.tt.get f.type with
    | some _ => allKnown fs
    | none => false
def isEqOp (op : BinOp) : Option Bool := match op with
  | .eql => some false
  | .neq => some true
  | _ => none
def nkOf : TypeDesc → Option NK
  | .pointer _ => some .ptr
  | .slice _ => some .slice
  | .map _ _ => some .map
  | .func _ _ _ => some .func
  | .interface _ => some .iface
  | _ => none
def isC : Operand → Bool
  | .const _ => true
  | _ => false
def compBin (op : BinOp) (t : TypeId) (x y : Operand) : Option O :=
  (undT cf.tt t).bind fun d => (cx K σ x).bind fun a => (cx K σ y).bind fun b => match d with
    | .int _ => some (.bin op a b)
    | .string => some (.binS op a b)
    | .bool => some (.binB op a b)
    | .struct _ | .array _ _ => (isEqOp op).bind fun n => (look cf.eqs t).bind fun sh => some (.eqA n sh a b)
    | .pointer e => (isEqOp op).bind fun n => match isC y with
      | true => some (.eqN n .ptr a b)
      | false => (cf.tt.get e).bind fun _ => some (.eqP n a b)
    | d => (isEqOp op).bind fun n => (nkOf d).bind fun k => ask (isC y) (some (.eqN n k a b))
def isU8 (t : TypeId) : Bool := match undT cf.tt t with
  | some (.int .u8) => true
  | _ => false
def compConv (src dst : TypeId) (x : Operand) : Option O :=
  (undT cf.tt src).bind fun s => (undT cf.tt dst).bind fun d => (cx K σ x).bind fun a => match d with
    | .int k => some (.conv k a)
    | .string => (match s with
      | .slice e => ask (isU8 cf e) (some (.toStr a))
      | _ => none)
    | .slice e => (match s with
      | .string => ask (isU8 cf e) (some (.toBytes a))
      | _ => none)
    | _ => none
def compSlice (t : TypeId) (x : Operand) (lo hi : Option Operand) : Option O :=
  (undT cf.tt t).bind fun d => (cx K σ x).bind fun a => (cox K σ lo).bind fun l => (cox K σ hi).bind fun h => match d with
    | .string => some (.slcS a l h)
    | .slice e => (cf.tt.get e).bind fun i => some (.slc i.size a l h)
    | .array n e => (cf.tt.get e).bind fun i => some (.slca i.size n a l h)
    | _ => none
def compIndexAddr (t : TypeId) (x y : Operand) : Option O :=
  (undT cf.tt t).bind fun d => (cx K σ x).bind fun a => (cx K σ y).bind fun b => match d with
    | .slice e => (cf.tt.get e).bind fun i => some (.ia i.size a b)
    | .array n e => (cf.tt.get e).bind fun i => some (.iaa i.size n a b)
    | _ => none
def compIndex (t : TypeId) (x y : Operand) : Option O :=
  (undT cf.tt t).bind fun d => (cx K σ x).bind fun a => (cx K σ y).bind fun b => match d with
    | .string => some (.ixs a b)
    | .array n e => (cf.tt.get e).bind fun i => (undT cf.tt e).bind fun de => (match aggD de with
      | true => some (.ixaa i.size n a b)
      | false => ask (Nat.beq i.size 1) (some (.ixa n a b)))
    | _ => none
def compCall (c : Call) : Option O := match c.callee with
  | .builtin b => (match b, c.args.toList, c.argTypes.toList with
    | .len, [x], [t] => (undT cf.tt t).bind fun d => (cx K σ x).bind fun a => (match d with
      | .string => some (.lenS a)
      | .slice _ => some (.lenL a)
      | .array n _ => some (.alen n)
      | _ => none)
    | .append, [x, y], [t, u] => (undT cf.tt t).bind fun d => (undT cf.tt u).bind fun du => (cx K σ x).bind fun a => (cx K σ y).bind fun b => (match d, du with
      | .slice e, .slice _ => (cf.tt.get e).bind fun i => (zerosI i).bind fun z => ask (Nat.beq z.length i.size) (ask (Nat.blt 0 i.size) (some (.app i.size i.bytes a b)))
      | _, _ => none)
    | .copy, [x, y], [t, _] => (undT cf.tt t).bind fun d => (cx K σ x).bind fun a => (cx K σ y).bind fun b => (match d with
      | .slice e => (cf.tt.get e).bind fun i => some (.copy i.size a b)
      | _ => none)
    | .clear, [x], [t] => (undT cf.tt t).bind fun d => (cx K σ x).bind fun a => (match d with
      | .slice e => (cf.tt.get e).bind fun i => (zerosI i).bind fun z => some (.clear i.size z a)
      | _ => none)
    | .min, [x, y], _ => (cx K σ x).bind fun a => (cx K σ y).bind fun b => some (.minI a b)
    | .max, [x, y], _ => (cx K σ x).bind fun a => (cx K σ y).bind fun b => some (.maxI a b)
    | _, _, _ => none)
  | .value (.func f) => (match Nat.beq f cf.ixbF, Nat.beq f cf.cntF, c.args.toList with
    | true, _, [x, y] => (cx K σ x).bind fun a => (cx K σ y).bind fun b => some (.ixb a b)
    | false, true, [x, y] => (cx K σ x).bind fun a => (cx K σ y).bind fun b => some (.cnt a b)
    | false, false, xs => (cxs K σ xs).bind fun as => some (.call f as)
    | _, _, _ => none)
  | .value x => (cx K σ x).bind fun a => (cxs K σ c.args.toList).bind fun as => some (.callv a as)
  | .invoke _ _ => none
def compO (op : Op) : Option O := match op with
  | .move x | .assign x => (cx K σ x).bind fun a => some (.mv a)
  | .pick c x y => (cx K σ c).bind fun d => (cx K σ x).bind fun a => (cx K σ y).bind fun b => some (.pick d a b)
  | .alloc e => (cf.tt.get e).bind fun i => (zerosI i).bind fun z => some (.alloc (wr .leaf 0 z))
  | .box _ x => (cx K σ x).bind fun a => some (.box a)
  | .build t ps => (cf.tt.get t).bind fun i => (zerosI i).bind fun z => (undT cf.tt t).bind fun d => (match d with
    | .struct fs => ask (allKnown cf fs.toList) ((partsBy K σ (fieldPlaceOf cf fs) z.length ps.toList).bind fun qs => some (.build z qs))
    | .array _ e => (cf.tt.get e).bind fun j => (partsBy K σ (fun n => some (n * j.size, j.size)) z.length ps.toList).bind fun qs => some (.build z qs)
    | _ => none)
  | .buildSlice t n ps => (undT cf.tt t).bind fun d => (match d with
    | .slice e => (cf.tt.get e).bind fun i => (match Nat.beq n 0 && ps.toList.isEmpty with
      | true => some (.bslice [] 0 [])
      | false => (zerosI i).bind fun z => ask (Nat.beq z.length i.size) (ask (Nat.ble (n * i.size) 16777216) (ask (Nat.blt 0 (n * i.size))
      ((partsBy K σ (fun n => some (n * i.size, i.size)) (repL z n).length ps.toList).bind fun qs => some (.bslice (repL z n) n qs)))))
    | _ => none)
  | .load t x => (undT cf.tt t).bind fun d => (cf.tt.get t).bind fun i => (cx K σ x).bind fun a => (match aggD d with
    | true => some (.lda i.size a)
    | false => some (.ld a))
  | .store t x y => (undT cf.tt t).bind fun d => (cf.tt.get t).bind fun i => (cx K σ x).bind fun a => (cx K σ y).bind fun b => (match aggD d with
    | true => some (.sta i.size a b)
    | false => ask (Nat.beq i.size 1) (some (.st a b)))
  | .nilCheck x => (cx K σ x).bind fun a => some (.nilck a)
  | .binOp op t x y _ => compBin cf K σ op t x y
  | .unOp op _ x => (cx K σ x).bind fun a => (match op with
    | .not => some (.bnot a)
    | .neg => some (.ineg a)
    | _ => none)
  | .convert s d x => compConv cf K σ s d x
  | .makeInterface t x => (undT cf.tt t).bind fun d => (cx K σ x).bind fun a => (match d with
    | .interface _ => none
    | _ => some (.mkif t a))
  | .makeFunc (.func f) fi ca => (cxs K σ fi.toList).bind fun a => (cxs K σ ca.toList).bind fun b => some (.mkfn f a b)
  | .makeMap _ none => some .mkmap
  | .makeSlice t l c => (undT cf.tt t).bind fun d => (match d with
    | .slice e => (cf.tt.get e).bind fun i => (zerosI i).bind fun z => ask (Nat.beq z.length i.size) ((cx K σ l).bind fun a => (cx K σ c).bind fun b => some (.mkslice i.size i.bytes z a b))
    | _ => none)
  | .slice t x lo hi none => compSlice cf K σ t x lo hi
  | .slice t x lo (some hi) (some mx) => (undT cf.tt t).bind fun d => (cx K σ x).bind fun a => (cox K σ lo).bind fun l => (cx K σ hi).bind fun h => (cx K σ mx).bind fun m => (match d with
    | .slice e => (cf.tt.get e).bind fun i => some (.slc3 i.size a l (.so h) m)
    | _ => none)
  | .fieldAddr t x n => (undT cf.tt t).bind fun d => (cx K σ x).bind fun a => (match d with
    | .struct fs => (fs.toList[n]?).bind fun f => (cf.tt.get f.type).bind fun i => ask (Nat.blt 0 i.size) (some (.fa f.offset a))
    | _ => none)
  | .field t x n => (undT cf.tt t).bind fun d => (cx K σ x).bind fun a => (match d with
    | .struct fs => (fs.toList[n]?).bind fun f => (cf.tt.get f.type).bind fun i => (undT cf.tt f.type).bind fun de => (match aggD de with
      | true => some (.flda f.offset i.size a)
      | false => some (.fld f.offset a))
    | _ => none)
  | .indexAddr t x y => compIndexAddr cf K σ t x y
  | .index t x y => compIndex cf K σ t x y
  | .lookup t x y ok => (undT cf.tt t).bind fun d => (match d with
    | .map k e => (look cf.keys k).bind fun kk => (cf.tt.get e).bind fun i => (zeroVI i).bind fun z => (cx K σ x).bind fun a => (cx K σ y).bind fun b => some (.lkp kk z ok a b)
    | _ => none)
  | .mapUpdate t x y z | .insert t x y z => (undT cf.tt t).bind fun d => (match d with
    | .map k _ => (look cf.keys k).bind fun kk => (cx K σ x).bind fun a => (cx K σ y).bind fun b => (cx K σ z).bind fun c => some (.mup kk a b c)
    | _ => none)
  | .range t x => (undT cf.tt t).bind fun d => (cx K σ x).bind fun a => (match d with
    | .string => some (.rangeS a)
    | .map _ _ => some (.rangeM a)
    | _ => none)
  | .next x b => (cx K σ x).bind fun a => (match b with
    | true => some (.nextS a)
    | false => some (.nextM a))
  | .entry x => (cx K σ x).bind fun a => some (.entM a)
  | .typeAssert x _ t ok => (undT cf.tt t).bind fun d => (cf.tt.get t).bind fun i => (zeroVI i).bind fun z => (cx K σ x).bind fun a => (match d with
    | .interface _ => none
    | _ => some (.tass t z ok a))
  | .extract x n => (cx K σ x).bind fun a => some (.ext n a)
  | .call c => compCall cf K σ c
  | _ => none
end
end
end Go.Ev
namespace Go.Ev
variable [Sy]

structure EnvOk (P : Program) (cf : Cf) : Prop where
  tt : ∀ t i, cf.tt.get t = some i → P.info? t = some i
  eqs : ∀ t sh, look cf.eqs t = some sh → FlatTy P t sh
  keys : ∀ t kk, look cf.keys t = some kk → KeyTy P t kk
  ixb : Ixb P cf.ixbF
  cnt : Cnt P cf.cntF

section
variable {P : Program} {cf : Cf} {w0 : Bs} {w : World} {ρ : Rho} {s s' : S} {v : V} {a : Act} {o : Oper} {t : Tr} {call : CallT} {K N : Nat} {σ : Sub}

theorem und_ok (E : EnvOk P cf) {ty : TypeId} {d : TypeDesc} (h : undT cf.tt ty = some d) : P.underlying ty = some d := by
  unfold undT at h
  split at h
  · exact absurd h (by simp)
  · rename_i i hi
    have h1 := E.tt _ _ hi
    unfold Program.underlying
    split at h
    · rename_i n u hd
      simp only [Option.map_eq_some_iff] at h
      obtain ⟨j, hj, rfl⟩ := h
      have h2 := E.tt _ _ hj
      obtain ⟨d', s1, s2, s3, s4, s5, s6, s7, s8, s9⟩ := i
      simp only at hd
      subst hd
      simp [h1, h2]
    · rename_i hne
      simp only [Option.some.injEq] at h
      subst h
      obtain ⟨d', s1, s2, s3, s4, s5, s6, s7, s8, s9⟩ := i
      simp only at hne
      cases d' <;> first | (exact absurd rfl (hne _ _)) | simp [h1]

theorem ofV_val {x : Value} {u : V} (h : ofV x = some u) : (∀ ρ, val ρ u = some x) ∧ isOne u = true := by
  unfold ofV at h
  split at h
  · simp only [Option.some.injEq] at h; subst h; exact ⟨fun ρ => rfl, rfl⟩
  · simp only [Option.some.injEq] at h; subst h; exact ⟨fun ρ => rfl, rfl⟩
  · rename_i b
    simp only [Option.some.injEq] at h; subst h
    have h1 : small (b.data.toList.map (·.toNat)) = true := by
      simp only [small, List.all_eq_true, List.mem_map]
      rintro n ⟨u, _, rfl⟩
      rw [blt_eq', decide_eq_true_eq]; exact u.toNat_lt
    have h2 : bytesOf (b.data.toList.map (·.toNat)) = b := by
      apply ByteArray.ext
      apply Array.ext'
      rw [bytesOf_list, List.map_map]
      have hid : (UInt8.ofNat ∘ fun x : UInt8 => x.toNat) = id := by
        funext x; exact UInt8.ofNat_toNat
      rw [hid, List.map_id]
    obtain ⟨g1, g2⟩ := okX_small h1
    exact ⟨fun ρ => by simp only [val, g1, if_true, g2, h2], rfl⟩
  · simp only [Option.some.injEq] at h; subst h; exact ⟨fun ρ => rfl, rfl⟩
  · simp only [Option.some.injEq] at h; subst h; exact ⟨fun ρ => rfl, rfl⟩
  · simp only [Option.some.injEq] at h; subst h; exact ⟨fun ρ => rfl, rfl⟩
  · simp only [Option.some.injEq] at h; subst h; exact ⟨fun ρ => rfl, rfl⟩
  · simp only [Option.some.injEq] at h; subst h; exact ⟨fun ρ => rfl, rfl⟩
  · exact absurd h (by simp)
theorem ofVs_val : ∀ {xs : List Value} {us : List V}, ofVs xs = some us → (∀ ρ, vals ρ us = some xs) ∧ allOne us = true
  | [], us, h => by simp only [ofVs, Option.some.injEq] at h; subst h; exact ⟨fun ρ => by simp [vals], rfl⟩
  | x :: xs, us, h => by
    simp only [ofVs] at h
    split at h
    · rename_i u us' hu hus
      simp only [Option.some.injEq] at h; subst h
      obtain ⟨h1, h2⟩ := ofV_val hu
      obtain ⟨h3, h4⟩ := ofVs_val hus
      exact ⟨fun ρ => vals_cons.2 ⟨x, xs, rfl, h1 ρ, h3 ρ⟩, by simp [allOne, bc, h2, h4]⟩
    · exact absurd h (by simp)
theorem zeros_ok {i : TypeInfo} {zs : List V} (h : zerosI i = some zs) : ∃ z, ZeroOf i zs z := by
  unfold zerosI at h
  split at h
  · exact absurd h (by simp)
  · rename_i z hz
    obtain ⟨h1, h2⟩ := ofVs_val h
    exact ⟨z, hz, h1, h2⟩
theorem zeroV_ok {i : TypeInfo} {zv : V} (h : zeroVI i = some zv) : ∃ z, ZeroV i zv z := by
  unfold zeroVI at h
  split at h
  · exact absurd h (by simp)
  · rename_i z hz
    refine ⟨z, hz, fun ρ => ?_⟩
    unfold ofVA at h
    split at h
    · rename_i cs
      simp only [Option.map_eq_some_iff] at h
      obtain ⟨us, hus, rfl⟩ := h
      simp [val, (ofVs_val hus).1 ρ]
    · exact (ofV_val h).1 ρ

theorem look_mem {α : Type} : ∀ {l : List (Nat × α)} {n : Nat} {x : α}, look l n = some x → (n, x) ∈ l
  | [], n, x, h => by simp [look] at h
  | (k, u) :: l, n, x, h => by
    simp only [look] at h
    split at h
    · rename_i hk
      rw [beq_eq, decide_eq_true_eq] at hk
      simp only [Option.some.injEq] at h; subst h hk; exact List.mem_cons_self ..
    · exact List.mem_cons_of_mem _ (look_mem h)
/- the frame -/
structure Fr (K N : Nat) (ρ : Rho) (t : Tr) (σ : Sub) (a : Act) : Prop where
  size : a.tmps.size = N
  tmps : ∀ n, Nat.testBit K n = true → n < 65536 → OV ρ (getP (path n) t) (a.tmps.getD n undef)
  sub : ∀ n x, (n, x) ∈ σ → OV ρ (x.ev t) (a.tmps.getD n undef)

theorem cx_ok (hK : K >>> 65536 = 0) (F : Fr K N ρ t σ a) {x : Operand} {c : X} (h : cx K σ x = some c) : OV ρ (c.ev t) (a.eval x) := by
  cases x with
  | tmp n =>
    simp only [cx] at h
    split at h
    · rename_i hb
      simp only [Option.some.injEq] at h; subst h
      have hn : n < 65536 := by
        rcases Nat.lt_or_ge n 65536 with h' | h'
        · exact h'
        · have h2 : Nat.testBit (K >>> 65536) (n - 65536) = Nat.testBit K n := by
            rw [Nat.testBit_shiftRight, Nat.add_sub_cancel' h']
          rw [hK, Nat.zero_testBit] at h2
          rw [← h2] at hb; exact absurd hb (by simp)
      exact F.tmps n hb hn
    · exact F.sub n c (look_mem h)
  | const z =>
    simp only [cx, Option.map_eq_some_iff] at h
    obtain ⟨u, hu, rfl⟩ := h
    exact .inr ((ofV_val hu).1 ρ)
  | global g => simp [cx] at h
  | func f =>
    simp only [cx, Option.some.injEq] at h; subst h
    exact .inr (by simp [val, vals, X.ev, Act.eval])
theorem cxs_ok (hK : K >>> 65536 = 0) (F : Fr K N ρ t σ a) : ∀ {xs : List Operand} {cs : List X}, cxs K σ xs = some cs → Args ρ t a.eval cs xs
  | [], cs, h => by simp only [cxs, Option.some.injEq] at h; subst h; exact .nil
  | x :: xs, cs, h => by
    simp only [cxs, Option.bind_eq_some_iff] at h
    obtain ⟨c, hc, cs', hcs, h⟩ := h
    simp only [Option.some.injEq] at h; subst h
    exact .cons (cx_ok hK F hc) (cxs_ok hK F hcs)
theorem cox_ok (hK : K >>> 65536 = 0) (F : Fr K N ρ t σ a) {x : Option Operand} {c : OX} (h : cox K σ x = some c) : Bd ρ t a.eval c x := by
  cases x with
  | none => simp only [cox, Option.some.injEq] at h; subst h; exact .no
  | some x =>
    simp only [cox, Option.map_eq_some_iff] at h
    obtain ⟨u, hu, rfl⟩ := h
    exact .so (cx_ok hK F hu)
theorem ask_ok {α : Type} {b : Bool} {x : Option α} {y : α} (h : ask b x = some y) : b = true ∧ x = some y := by
  cases b
  · exact absurd h (by simp [ask])
  · exact ⟨rfl, h⟩
theorem parts_ok (hK : K >>> 65536 = 0) (F : Fr K N ρ t σ a) {place : Nat → Option (Nat × Nat)} {n : Nat} : ∀ {xs : List (Nat × Operand)} {ps : List Pa}, partsBy K σ place n xs = some ps → Parts ρ t a.eval place n ps xs
  | [], ps, h => by simp only [partsBy, Option.some.injEq] at h; subst h; exact .nil
  | (i, x) :: xs, ps, h => by
    simp only [partsBy, Option.bind_eq_some_iff] at h
    obtain ⟨p, hp, c, hc, h⟩ := h
    obtain ⟨h1, h⟩ := ask_ok h
    simp only [Option.bind_eq_some_iff] at h
    obtain ⟨ys, hys, h⟩ := h
    simp only [Option.some.injEq] at h; subst h
    simp only [ble_eq, decide_eq_true_eq] at h1
    exact .cons hp h1 (cx_ok hK F hc) (parts_ok hK F hys)
theorem parts_place {place place' : Nat → Option (Nat × Nat)} {n : Nat} {av : Operand → Value} (hp : ∀ i p, place i = some p → place' i = some p) : ∀ {xs : List (Nat × Operand)} {ps : List Pa}, Parts ρ t av place n ps xs → Parts ρ t av place' n ps xs
  | _, _, .nil => .nil
  | _, _, .cons h1 h2 h3 h4 => .cons (hp _ _ h1) h2 h3 (parts_place hp h4)

theorem nk_ok (E : EnvOk P cf) {ty : TypeId} {d : TypeDesc} {k : NK} (h : undT cf.tt ty = some d) (hk : nkOf d = some k) : NKt P ty k := by
  have hu := und_ok E h
  cases d <;> simp only [nkOf, Option.some.injEq] at hk <;> try (exfalso; cases hk; done)
  all_goals subst hk
  · exact ⟨_, hu⟩
  · exact ⟨_, hu⟩
  · exact ⟨_, _, hu⟩
  · exact ⟨_, _, _, hu⟩
  · exact ⟨_, hu⟩
theorem isEq_ok {op : BinOp} {n : Bool} (h : isEqOp op = some n) : op = if n then .neq else .eql := by
  cases op <;> simp only [isEqOp, Option.some.injEq] at h <;> first | (subst h; rfl) | (exfalso; cases h; done)
theorem u8_ok (E : EnvOk P cf) {ty : TypeId} (h : isU8 cf ty = true) : P.underlying ty = some (.int .u8) := by
  unfold isU8 at h
  split at h
  · rename_i hu; exact und_ok E hu
  · exact absurd h (by simp)

theorem compBin_ok (E : EnvOk P cf) (hK : K >>> 65536 = 0) (F : Fr K N ρ t σ a) (ok : Ok w0 ρ s w) {op : BinOp} {ty yt : TypeId} {x y : Operand} {i : O} (ho : o.op = .binOp op ty x y yt) (h : compBin cf K σ op ty x y = some i)
    (he : evO i call t s = .ok v s') : To P w0 ρ s w (execOp a.eval o) v s' := by
  simp only [compBin, Option.bind_eq_some_iff] at h
  obtain ⟨d, hd, c1, h1, c2, h2, h⟩ := h
  have hu := und_ok E hd
  have hx := cx_ok hK F h1
  have hy := cx_ok hK F h2
  cases d <;> simp only [Option.bind_eq_some_iff, Option.some.injEq, nkOf] at h
  case int k => subst h; exact to_bin (call := call) ho ok hx hy he
  case string => subst h; exact to_binS (call := call) ho ok hx hy he
  case bool => subst h; exact to_binB (call := call) ho hu ok hx hy he
  case struct fs =>
    obtain ⟨n, hn, sh, hsh, rfl⟩ := h
    exact to_eqA (call := call) (by rw [ho, isEq_ok hn]) (E.eqs _ _ hsh) ok hx hy he
  case array m e =>
    obtain ⟨n, hn, sh, hsh, rfl⟩ := h
    exact to_eqA (call := call) (by rw [ho, isEq_ok hn]) (E.eqs _ _ hsh) ok hx hy he
  case pointer e =>
    obtain ⟨n, hn, h⟩ := h
    split at h
    · rename_i hc
      simp only [Option.some.injEq] at h; subst h
      cases y <;> simp only [isC] at hc <;> try (exfalso; cases hc; done)
      exact to_eqN (call := call) (by rw [ho, isEq_ok hn]) (nk_ok E hd rfl) ok hx hy he
    · simp only [Option.bind_eq_some_iff, Option.some.injEq] at h
      obtain ⟨j, hj, rfl⟩ := h
      exact to_eqP (call := call) (by rw [ho, isEq_ok hn]) hu (E.tt _ _ hj) ok hx hy he
  case slice e =>
    obtain ⟨n, hn, k, rfl, h⟩ := h
    obtain ⟨hc, h⟩ := ask_ok h
    simp only [Option.some.injEq] at h; subst h
    cases y <;> simp only [isC] at hc <;> try (exfalso; cases hc; done)
    exact to_eqN (call := call) (by rw [ho, isEq_ok hn]) (nk_ok E hd rfl) ok hx hy he
  case map k' e =>
    obtain ⟨n, hn, k, rfl, h⟩ := h
    obtain ⟨hc, h⟩ := ask_ok h
    simp only [Option.some.injEq] at h; subst h
    cases y <;> simp only [isC] at hc <;> try (exfalso; cases hc; done)
    exact to_eqN (call := call) (by rw [ho, isEq_ok hn]) (nk_ok E hd rfl) ok hx hy he
  case func ps rs c =>
    obtain ⟨n, hn, k, rfl, h⟩ := h
    obtain ⟨hc, h⟩ := ask_ok h
    simp only [Option.some.injEq] at h; subst h
    cases y <;> simp only [isC] at hc <;> try (exfalso; cases hc; done)
    exact to_eqN (call := call) (by rw [ho, isEq_ok hn]) (nk_ok E hd rfl) ok hx hy he
  case interface ms =>
    obtain ⟨n, hn, k, rfl, h⟩ := h
    obtain ⟨hc, h⟩ := ask_ok h
    simp only [Option.some.injEq] at h; subst h
    cases y <;> simp only [isC] at hc <;> try (exfalso; cases hc; done)
    exact to_eqN (call := call) (by rw [ho, isEq_ok hn]) (nk_ok E hd rfl) ok hx hy he
  all_goals (obtain ⟨_, _, _, hh, _⟩ := h; exact absurd hh (by simp))

theorem compConv_ok (E : EnvOk P cf) (hK : K >>> 65536 = 0) (F : Fr K N ρ t σ a) (ok : Ok w0 ρ s w) {sr ds : TypeId} {x : Operand} {i : O} (ho : o.op = .convert sr ds x) (h : compConv cf K σ sr ds x = some i)
    (he : evO i call t s = .ok v s') : To P w0 ρ s w (execOp a.eval o) v s' := by
  simp only [compConv, Option.bind_eq_some_iff] at h
  obtain ⟨sd, hsd, d, hd, c1, h1, h⟩ := h
  have hus := und_ok E hsd
  have hud := und_ok E hd
  have hx := cx_ok hK F h1
  cases d <;> simp only [Option.some.injEq] at h
  case int k => subst h; exact to_conv (call := call) ho hus hud ok hx he
  case string =>
    cases sd <;> simp only at h
    case slice e =>
      obtain ⟨h8, h⟩ := ask_ok h
      simp only [Option.some.injEq] at h; subst h
      exact to_toStr (call := call) ho hus (u8_ok E h8) hud ok hx he
    all_goals exact absurd h (by simp)
  case slice e =>
    cases sd <;> simp only at h
    case string =>
      obtain ⟨h8, h⟩ := ask_ok h
      simp only [Option.some.injEq] at h; subst h
      exact to_toBytes (call := call) ho hus (u8_ok E h8) hud ok hx he
    all_goals exact absurd h (by simp)
  all_goals exact absurd h (by simp)

theorem compSlice_ok (E : EnvOk P cf) (hK : K >>> 65536 = 0) (F : Fr K N ρ t σ a) (ok : Ok w0 ρ s w) {ty : TypeId} {x : Operand} {lo up : Option Operand} {i : O} (ho : o.op = .slice ty x lo up none) (h : compSlice cf K σ ty x lo up = some i)
    (he : evO i call t s = .ok v s') : To P w0 ρ s w (execOp a.eval o) v s' := by
  simp only [compSlice, Option.bind_eq_some_iff] at h
  obtain ⟨d, hd, c1, h1, l, hl, u, hu', h⟩ := h
  have hu := und_ok E hd
  have hx := cx_ok hK F h1
  have hlo := cox_ok hK F hl
  have hup := cox_ok hK F hu'
  cases d <;> simp only [Option.some.injEq, Option.bind_eq_some_iff] at h
  case string => subst h; exact to_slcS (call := call) ho hu ok hx hlo hup he
  case slice e =>
    obtain ⟨j, hj, rfl⟩ := h
    exact to_slc (call := call) ho hu (E.tt _ _ hj) ok hx hlo hup he
  case array n e =>
    obtain ⟨j, hj, rfl⟩ := h
    exact to_slca (call := call) ho hu (E.tt _ _ hj) ok hx hlo hup he
  all_goals exact absurd h (by simp)

theorem compIndexAddr_ok (E : EnvOk P cf) (hK : K >>> 65536 = 0) (F : Fr K N ρ t σ a) (ok : Ok w0 ρ s w) {ty : TypeId} {x y : Operand} {i : O} (ho : o.op = .indexAddr ty x y) (h : compIndexAddr cf K σ ty x y = some i)
    (he : evO i call t s = .ok v s') : To P w0 ρ s w (execOp a.eval o) v s' := by
  simp only [compIndexAddr, Option.bind_eq_some_iff] at h
  obtain ⟨d, hd, c1, h1, c2, h2, h⟩ := h
  have hu := und_ok E hd
  have hx := cx_ok hK F h1
  have hy := cx_ok hK F h2
  cases d <;> simp only [Option.bind_eq_some_iff, Option.some.injEq] at h
  case slice e =>
    obtain ⟨j, hj, rfl⟩ := h
    exact to_ia (call := call) ho hu (E.tt _ _ hj) ok hx hy he
  case array n e =>
    obtain ⟨j, hj, rfl⟩ := h
    exact to_iaa (call := call) ho hu (E.tt _ _ hj) ok hx hy he
  all_goals exact absurd h (by simp)

theorem compIndex_ok (E : EnvOk P cf) (hK : K >>> 65536 = 0) (F : Fr K N ρ t σ a) (ok : Ok w0 ρ s w) {ty : TypeId} {x y : Operand} {i : O} (ho : o.op = .index ty x y) (h : compIndex cf K σ ty x y = some i)
    (he : evO i call t s = .ok v s') : To P w0 ρ s w (execOp a.eval o) v s' := by
  simp only [compIndex, Option.bind_eq_some_iff] at h
  obtain ⟨d, hd, c1, h1, c2, h2, h⟩ := h
  have hu := und_ok E hd
  have hx := cx_ok hK F h1
  have hy := cx_ok hK F h2
  cases d <;> simp only [Option.bind_eq_some_iff, Option.some.injEq] at h
  case string => subst h; exact to_ixs (call := call) ho hu ok hx hy he
  case array n e =>
    obtain ⟨j, hj, de, hde, h⟩ := h
    have hue := und_ok E hde
    split at h
    · rename_i hg
      simp only [Option.some.injEq] at h; subst h
      exact to_ixaa (call := call) ho hu (E.tt _ _ hj) hue hg ok hx hy he
    · rename_i hg
      obtain ⟨h3, h⟩ := ask_ok h
      simp only [Option.some.injEq] at h; subst h
      exact to_ixa (call := call) ho hu (E.tt _ _ hj) (by simpa [beq_eq] using h3) hue hg ok hx hy he
  all_goals exact absurd h (by simp)

theorem arr1 {α : Type} {x : α} {xs : Array α} (h : xs.toList = [x]) : xs = #[x] := by apply Array.ext'; simpa using h
theorem arr2 {α : Type} {x y : α} {xs : Array α} (h : xs.toList = [x, y]) : xs = #[x, y] := by apply Array.ext'; simpa using h

/- a call that is left to another law -/
def isCall : O → Bool
  | .call _ _ | .callv _ _ => true
  | _ => false

theorem compCall_ok (E : EnvOk P cf) (hK : K >>> 65536 = 0) (F : Fr K N ρ t σ a) (ok : Ok w0 ρ s w) {c : Call} {i : O} (ho : o.op = .call c) (h : compCall cf K σ c = some i) (hn : isCall i = false)
    (he : evO i call t s = .ok v s') : To P w0 ρ s w (execOp a.eval o) v s' := by
  obtain ⟨callee, args, argTypes⟩ := c
  simp only [compCall] at h
  split at h
  · split at h
    · rename_i x ty ha ht
      rw [arr1 ha, arr1 ht] at ho
      simp only [Option.bind_eq_some_iff] at h
      obtain ⟨d, hd, c1, h1, h⟩ := h
      have hu := und_ok E hd
      have hx := cx_ok hK F h1
      cases d <;> simp only [Option.some.injEq] at h
      case string => subst h; exact to_lenS (call := call) ho hu ok hx he
      case slice e => subst h; exact to_lenL (call := call) ho hu ok hx he
      case array n e => subst h; exact to_alen (t := t) (call := call) ho hu ok he
      all_goals exact absurd h (by simp)
    · rename_i x y ty u ha ht
      rw [arr2 ha, arr2 ht] at ho
      simp only [Option.bind_eq_some_iff] at h
      obtain ⟨d, hd, du, hdu, c1, h1, c2, h2, h⟩ := h
      have hx := cx_ok hK F h1
      have hy := cx_ok hK F h2
      split at h
      · rename_i e e2
        simp only [Option.bind_eq_some_iff] at h
        obtain ⟨i', hi, z, hz, h⟩ := h
        obtain ⟨h3, h⟩ := ask_ok h
        obtain ⟨h4, h⟩ := ask_ok h
        simp only [Option.some.injEq] at h; subst h
        obtain ⟨zv, hzo⟩ := zeros_ok hz
        have hlen : zv.cells.size = i'.size := by
          have := vals_length (hzo.vals (fun _ => none))
          have h3' : z.length = i'.size := by simpa [beq_eq] using h3
          rw [← h3', ← this]; simp
        exact to_app (call := call) ⟨⟨_, _, _, ho, und_ok E hd, und_ok E hdu, fun k => by simp⟩, E.tt _ _ hi, hzo.zero, hlen, by simpa [blt_eq'] using h4⟩ ok hx hy he
      · exact absurd h (by simp)
    · rename_i x y ty u ha ht
      rw [arr2 ha, arr2 ht] at ho
      simp only [Option.bind_eq_some_iff] at h
      obtain ⟨d, hd, c1, h1, c2, h2, h⟩ := h
      have hx := cx_ok hK F h1
      have hy := cx_ok hK F h2
      cases d <;> simp only [Option.bind_eq_some_iff, Option.some.injEq] at h
      case slice e =>
        obtain ⟨j, hj, rfl⟩ := h
        exact to_copy (call := call) ho (und_ok E hd) (E.tt _ _ hj) ok hx hy he
      all_goals exact absurd h (by simp)
    · rename_i x ty ha ht
      rw [arr1 ha, arr1 ht] at ho
      simp only [Option.bind_eq_some_iff] at h
      obtain ⟨d, hd, c1, h1, h⟩ := h
      have hx := cx_ok hK F h1
      cases d <;> simp only [Option.bind_eq_some_iff, Option.some.injEq] at h
      case slice e =>
        obtain ⟨j, hj, z, hz, rfl⟩ := h
        obtain ⟨zv, hzo⟩ := zeros_ok hz
        exact to_clear (call := call) ho (und_ok E hd) (E.tt _ _ hj) hzo ok hx he
      all_goals exact absurd h (by simp)
    · rename_i x y _ ha
      rw [arr2 ha] at ho
      simp only [Option.bind_eq_some_iff, Option.some.injEq] at h
      obtain ⟨c1, h1, c2, h2, rfl⟩ := h
      exact to_minI (call := call) ho ok (cx_ok hK F h1) (cx_ok hK F h2) he
    · rename_i x y _ ha
      rw [arr2 ha] at ho
      simp only [Option.bind_eq_some_iff, Option.some.injEq] at h
      obtain ⟨c1, h1, c2, h2, rfl⟩ := h
      exact to_maxI (call := call) ho ok (cx_ok hK F h1) (cx_ok hK F h2) he
    · exact absurd h (by simp)
  · rename_i f
    split at h
    · rename_i x y hf ha
      rw [arr2 ha] at ho
      simp only [Option.bind_eq_some_iff, Option.some.injEq] at h
      obtain ⟨c1, h1, c2, h2, rfl⟩ := h
      have hf : f = cf.ixbF := by simpa [beq_eq] using hf
      subst hf
      exact to_ixb (call := call) ho rfl E.ixb ok (cx_ok hK F h1) (cx_ok hK F h2) he
    · rename_i x y _ hf ha
      rw [arr2 ha] at ho
      simp only [Option.bind_eq_some_iff, Option.some.injEq] at h
      obtain ⟨c1, h1, c2, h2, rfl⟩ := h
      have hf : f = cf.cntF := by simpa [beq_eq] using hf
      subst hf
      exact to_cnt (call := call) ho rfl E.cnt ok (cx_ok hK F h1) (cx_ok hK F h2) he
    · simp only [Option.bind_eq_some_iff, Option.some.injEq] at h
      obtain ⟨_, _, rfl⟩ := h
      simp [isCall] at hn
    · exact absurd h (by simp)
  · simp only [Option.bind_eq_some_iff, Option.some.injEq] at h
    obtain ⟨_, _, _, _, rfl⟩ := h
    simp [isCall] at hn
  · exact absurd h (by simp)
end
end Go.Ev
namespace Go.Ev
variable [Sy]

section
variable {P : Program} {cf : Cf} {w0 : Bs} {w : World} {ρ : Rho} {s s' : S} {v : V} {a : Act} {o : Oper} {t : Tr} {call : CallT} {K N : Nat} {σ : Sub}

theorem known_all (E : EnvOk P cf) : ∀ {fs : List Field}, allKnown cf fs = true → ∀ f ∈ fs, P.info? f.type = some ((cf.tt.get f.type).getD default)
  | [], _, f, hf => by simp at hf
  | g :: fs, h, f, hf => by
    simp only [allKnown] at h
    split at h
    · rename_i i hi
      rcases List.mem_cons.1 hf with rfl | hf
      · rw [hi]; exact E.tt _ _ hi
      · exact known_all E h f hf
    · exact absurd h (by simp)
theorem zsize {i : TypeInfo} {zs : List V} {z : Value} (hz : ZeroOf i zs z) (h : Nat.beq zs.length i.size = true) : z.cells.size = i.size := by
  have := vals_length (hz.vals (fun _ => none))
  have h3' : zs.length = i.size := by simpa [beq_eq] using h
  rw [← h3', ← this]; simp

theorem compO_ok (E : EnvOk P cf) (hK : K >>> 65536 = 0) (F : Fr K N ρ t σ a) (ok : Ok w0 ρ s w) {i : O} (h : compO cf K σ o.op = some i) (hn : isCall i = false)
    (he : evO i call t s = .ok v s') : To P w0 ρ s w (execOp a.eval o) v s' := by
  generalize hop : o.op = op at h
  cases op <;> try simp only [compO, Option.bind_eq_some_iff, Option.some.injEq] at h
  case move x =>
    obtain ⟨c1, h1, rfl⟩ := h
    exact to_move (call := call) (.inl hop) ok (cx_ok hK F h1) he
  case assign x =>
    obtain ⟨c1, h1, rfl⟩ := h
    exact to_move (call := call) (.inr hop) ok (cx_ok hK F h1) he
  case pick c x y =>
    obtain ⟨c0, h0, c1, h1, c2, h2, rfl⟩ := h
    exact to_pick (call := call) hop ok (cx_ok hK F h0) (cx_ok hK F h1) (cx_ok hK F h2) he
  case alloc e =>
    obtain ⟨j, hj, z, hz, rfl⟩ := h
    obtain ⟨zv, hzo⟩ := zeros_ok hz
    exact to_alloc (t := t) (call := call) hop (E.tt _ _ hj) hzo ok he
  case box e x =>
    obtain ⟨c1, h1, rfl⟩ := h
    exact to_box (call := call) hop ok (cx_ok hK F h1) he
  case build ty ps =>
    obtain ⟨j, hj, z, hz, d, hd, h⟩ := h
    obtain ⟨zv, hzo⟩ := zeros_ok hz
    have hu := und_ok E hd
    cases d <;> simp only [Option.bind_eq_some_iff, Option.some.injEq] at h
    case struct fs =>
      obtain ⟨hk, h⟩ := ask_ok h
      simp only [Option.bind_eq_some_iff, Option.some.injEq] at h
      obtain ⟨qs, hq, rfl⟩ := h
      refine to_buildS (call := call) (inf := fun f => (cf.tt.get f.type).getD default) hop (E.tt _ _ hj) hzo hu (known_all E hk) ok ?_ he
      refine parts_place (fun n p hp => ?_) (parts_ok hK F hq)
      unfold fieldPlaceOf at hp
      split at hp
      · exact absurd hp (by simp)
      · rename_i f hf
        simp only [Option.map_eq_some_iff] at hp
        obtain ⟨k, hk', rfl⟩ := hp
        have : fs[n]? = some f := by simpa using hf
        simp [this, hk']
    case array m e =>
      obtain ⟨k, hk, qs, hq, rfl⟩ := h
      exact to_buildA (call := call) hop (E.tt _ _ hj) hzo hu (E.tt _ _ hk) ok (parts_ok hK F hq) he
    all_goals exact absurd h (by simp)
  case buildSlice ty n ps =>
    obtain ⟨d, hd, h⟩ := h
    have hu := und_ok E hd
    cases d <;> simp only [Option.bind_eq_some_iff] at h
    case slice e =>
      obtain ⟨j, hj, h⟩ := h
      split at h
      · rename_i h0
        simp only [Option.some.injEq] at h
        subst h
        simp only [Bool.and_eq_true, beq_eq, decide_eq_true_eq, List.isEmpty_iff] at h0
        obtain ⟨rfl, hps⟩ := h0
        have hps : ps = #[] := by apply Array.ext'; simpa using hps
        subst hps
        exact to_bslice0 (call := call) hop hu (E.tt _ _ hj) ok he
      simp only [Option.bind_eq_some_iff] at h
      obtain ⟨z, hz, h⟩ := h
      obtain ⟨zv, hzo⟩ := zeros_ok hz
      obtain ⟨h1, h⟩ := ask_ok h
      obtain ⟨h2, h⟩ := ask_ok h
      obtain ⟨h3, h⟩ := ask_ok h
      simp only [Option.bind_eq_some_iff, Option.some.injEq] at h
      obtain ⟨qs, hq, rfl⟩ := h
      simp only [ble_eq, blt_eq', decide_eq_true_eq] at h2 h3
      exact to_bslice (call := call) hop hu (E.tt _ _ hj) hzo (zsize hzo h1) (by omega) (by omega) ok (parts_ok hK F hq) he (fun l hl => allOne_build (allOne_rep hzo.one n) hl)
    all_goals exact absurd h (by simp)
  case load ty x =>
    obtain ⟨d, hd, j, hj, c1, h1, h⟩ := h
    split at h
    · rename_i hg
      simp only [Option.some.injEq] at h; subst h
      exact to_lda (call := call) hop (und_ok E hd) hg (E.tt _ _ hj) ok (cx_ok hK F h1) he
    · rename_i hg
      simp only [Option.some.injEq] at h; subst h
      exact to_ld (call := call) hop (und_ok E hd) hg ok (cx_ok hK F h1) he
  case store ty x y =>
    obtain ⟨d, hd, j, hj, c1, h1, c2, h2, h⟩ := h
    split at h
    · simp only [Option.some.injEq] at h; subst h
      exact to_sta (call := call) hop (E.tt _ _ hj) ok (cx_ok hK F h1) (cx_ok hK F h2) he
    · obtain ⟨h3, h⟩ := ask_ok h
      simp only [Option.some.injEq] at h; subst h
      exact to_st (call := call) hop (E.tt _ _ hj) (by simpa [beq_eq] using h3) ok (cx_ok hK F h1) (cx_ok hK F h2) he
  case nilCheck x =>
    obtain ⟨c1, h1, rfl⟩ := h
    exact to_nilck (call := call) hop ok (cx_ok hK F h1) he
  case binOp op ty x y yt => exact compBin_ok (call := call) E hK F ok hop h he
  case unOp op ty x =>
    obtain ⟨c1, h1, h⟩ := h
    cases op <;> simp only [Option.some.injEq] at h
    case not => subst h; exact to_not (call := call) hop ok (cx_ok hK F h1) he
    case neg => subst h; exact to_neg (call := call) hop ok (cx_ok hK F h1) he
    all_goals exact absurd h (by simp)
  case convert sr ds x => exact compConv_ok (call := call) E hK F ok hop h he
  case makeInterface ty x =>
    obtain ⟨d, hd, c1, h1, h⟩ := h
    split at h
    · exact absurd h (by simp)
    · rename_i hne
      simp only [Option.some.injEq] at h; subst h
      exact to_mkif (call := call) hop (und_ok E hd) (fun m hm => hne m hm) ok (cx_ok hK F h1) he
  case makeFunc fn fi ca =>
    cases fn <;> simp only [Option.bind_eq_some_iff, Option.some.injEq] at h
    case func f =>
      obtain ⟨c1, h1, c2, h2, rfl⟩ := h
      exact to_mkfn (call := call) hop ok (cxs_ok hK F h1) (cxs_ok hK F h2) he
    all_goals exact absurd h (by simp)
  case makeMap ty r =>
    cases r <;> simp only [Option.some.injEq] at h
    · subst h; exact to_mkmap (t := t) (call := call) hop ok he
    · exact absurd h (by simp)
  case makeSlice ty l c =>
    obtain ⟨d, hd, h⟩ := h
    have hu := und_ok E hd
    cases d <;> simp only [Option.bind_eq_some_iff] at h
    case slice e =>
      obtain ⟨j, hj, z, hz, h⟩ := h
      obtain ⟨zv, hzo⟩ := zeros_ok hz
      obtain ⟨h1, h⟩ := ask_ok h
      simp only [Option.bind_eq_some_iff, Option.some.injEq] at h
      obtain ⟨c1, h2, c2, h3, rfl⟩ := h
      exact to_mkslice (call := call) hop hu (E.tt _ _ hj) hzo (zsize hzo h1) ok (cx_ok hK F h2) (cx_ok hK F h3) he
    all_goals exact absurd h (by simp)
  case slice ty x lo up mx =>
    cases mx with
    | none => exact compSlice_ok (call := call) E hK F ok hop h he
    | some mx =>
      cases up with
      | none => exact absurd h (by simp)
      | some up =>
        simp only [Option.bind_eq_some_iff] at h
        obtain ⟨d, hd, c1, h1, l, hl, c2, h2, c3, h3, h⟩ := h
        have hu := und_ok E hd
        cases d <;> simp only [Option.bind_eq_some_iff, Option.some.injEq] at h
        case slice e =>
          obtain ⟨j, hj, rfl⟩ := h
          exact to_slc3 (call := call) hop hu (E.tt _ _ hj) ok (cx_ok hK F h1) (cox_ok hK F hl) (.so (cx_ok hK F h2)) (cx_ok hK F h3) he
        all_goals exact absurd h (by simp)
  case fieldAddr ty x n =>
    obtain ⟨d, hd, c1, h1, h⟩ := h
    have hu := und_ok E hd
    cases d <;> simp only [Option.bind_eq_some_iff] at h
    case struct fs =>
      obtain ⟨f, hf, j, hj, h⟩ := h
      obtain ⟨h3, h⟩ := ask_ok h
      simp only [Option.some.injEq] at h; subst h
      simp only [blt_eq', decide_eq_true_eq] at h3
      exact to_fa (call := call) hop hu (by simpa using hf) (E.tt _ _ hj) (by omega) ok (cx_ok hK F h1) he
    all_goals exact absurd h (by simp)
  case field ty x n =>
    obtain ⟨d, hd, c1, h1, h⟩ := h
    have hu := und_ok E hd
    cases d <;> simp only [Option.bind_eq_some_iff] at h
    case struct fs =>
      obtain ⟨f, hf, j, hj, de, hde, h⟩ := h
      split at h
      · rename_i hg
        simp only [Option.some.injEq] at h; subst h
        exact to_flda (call := call) hop hu (by simpa using hf) (und_ok E hde) hg (E.tt _ _ hj) ok (cx_ok hK F h1) he
      · rename_i hg
        simp only [Option.some.injEq] at h; subst h
        exact to_fld (call := call) hop hu (by simpa using hf) (und_ok E hde) hg ok (cx_ok hK F h1) he
    all_goals exact absurd h (by simp)
  case indexAddr ty x y => exact compIndexAddr_ok (call := call) E hK F ok hop h he
  case index ty x y => exact compIndex_ok (call := call) E hK F ok hop h he
  case lookup ty x y okk =>
    obtain ⟨d, hd, h⟩ := h
    have hu := und_ok E hd
    cases d <;> simp only [Option.bind_eq_some_iff, Option.some.injEq] at h
    case map k e =>
      obtain ⟨kk, hkk, j, hj, z, hz, c1, h1, c2, h2, rfl⟩ := h
      obtain ⟨zv, hzo⟩ := zeroV_ok hz
      exact to_lkp (call := call) hop hu (E.keys _ _ hkk) (E.tt _ _ hj) hzo ok (cx_ok hK F h1) (cx_ok hK F h2) he
    all_goals exact absurd h (by simp)
  case mapUpdate ty x y z =>
    obtain ⟨d, hd, h⟩ := h
    have hu := und_ok E hd
    cases d <;> simp only [Option.bind_eq_some_iff, Option.some.injEq] at h
    case map k e =>
      obtain ⟨kk, hkk, c1, h1, c2, h2, c3, h3, rfl⟩ := h
      exact to_mup (call := call) (.inl hop) hu (E.keys _ _ hkk) ok (cx_ok hK F h1) (cx_ok hK F h2) (cx_ok hK F h3) he
    all_goals exact absurd h (by simp)
  case insert ty x y z =>
    obtain ⟨d, hd, h⟩ := h
    have hu := und_ok E hd
    cases d <;> simp only [Option.bind_eq_some_iff, Option.some.injEq] at h
    case map k e =>
      obtain ⟨kk, hkk, c1, h1, c2, h2, c3, h3, rfl⟩ := h
      exact to_mup (call := call) (.inr hop) hu (E.keys _ _ hkk) ok (cx_ok hK F h1) (cx_ok hK F h2) (cx_ok hK F h3) he
    all_goals exact absurd h (by simp)
  case range ty x =>
    obtain ⟨d, hd, c1, h1, h⟩ := h
    have hu := und_ok E hd
    cases d <;> simp only [Option.some.injEq] at h
    case string => subst h; exact to_rangeS (call := call) hop hu ok (cx_ok hK F h1) he
    case map k e => subst h; exact to_rangeM (call := call) hop hu ok (cx_ok hK F h1) he
    all_goals exact absurd h (by simp)
  case next x b =>
    obtain ⟨c1, h1, h⟩ := h
    cases b <;> simp only [Option.some.injEq] at h <;> subst h
    · exact to_nextM (call := call) hop ok (cx_ok hK F h1) he
    · exact to_nextS (call := call) hop ok (cx_ok hK F h1) he
  case entry x =>
    obtain ⟨c1, h1, rfl⟩ := h
    exact to_entM (call := call) hop ok (cx_ok hK F h1) he
  case typeAssert x xt ty okk =>
    obtain ⟨d, hd, j, hj, z, hz, c1, h1, h⟩ := h
    obtain ⟨zv, hzo⟩ := zeroV_ok hz
    split at h
    · exact absurd h (by simp)
    · rename_i hne
      simp only [Option.some.injEq] at h; subst h
      exact to_tass (call := call) hop (und_ok E hd) (fun m hm => hne m hm) (E.tt _ _ hj) hzo ok (cx_ok hK F h1) he
  case extract x n =>
    obtain ⟨c1, h1, rfl⟩ := h
    exact to_ext (call := call) hop ok (cx_ok hK F h1) he
  case call c => exact compCall_ok (call := call) E hK F ok hop h hn he
  all_goals exact absurd h (by simp)
end
end Go.Ev
namespace Go.Ev
variable [Sy]
noncomputable section

section
variable (cf : Cf) (K N : Nat) (σ : Sub)
def dstOf : Option Tmp → Option D
  | none => some .no
  | some d => ask (Nat.testBit K d) (ask (Nat.blt d N) (some (.to (path d))))
def beqPt : Pt → Pt → Bool
  | .e, .e => true
  | .l p, .l q => beqPt p q
  | .r p, .r q => beqPt p q
  | _, _ => false
def usesT (p : Pt) : X → Bool
  | .t q => beqPt p q
  | .c _ => false
def cleanT (d : Nat) : Sub → Sub
  | [] => []
  | (n, x) :: l => match Nat.beq n d || usesT (path d) x with
    | true => cleanT d l
    | false => (n, x) :: cleanT d l
def clean (σ : Sub) : Option Tmp → Sub
  | none => σ
  | some d => cleanT d σ
def isNx : O → Bool
  | .nextM _ => true
  | i => isCall i
def noCall (i : O) : Bool := match isNx i with
  | true => false
  | false => true
def compB (op : Op) : Option O := match op with
  | .call { callee := .value f, args, argTypes } => compCall cf K σ { callee := .value f, args, argTypes }
  | .next x false => (cx K σ x).bind fun a => some (.nextM a)
  | op => (compO cf K σ op).bind fun i => ask (noCall i) (some i)
def compL (all : Array Oper) : List Oper → Sub → Option L
  | [], _ => some .nil
  | o :: rest, σ => match (match o.guard with
    | none => match o.op, o.dst with
      | .move x, some d => match Nat.testBit K d with
        | true => (cx K σ x).bind fun a => ask (Nat.blt d N) ((compL all rest (cleanT d σ)).bind fun k => some (.op (.to (path d)) (.mv a) k))
        | false => (cx K σ x).bind fun a => ask (Nat.blt d N) (compL all rest ((d, a) :: cleanT d σ))
      | _, _ => (compB cf K σ o.op).bind fun i => (dstOf K N o.dst).bind fun d => (compL all rest (clean σ o.dst)).bind fun k => some (.op d i k)
    | some (j, want) => (compB cf K σ o.op).bind fun i => (dstOf K N o.dst).bind fun d => (all[j]?).bind fun g => g.dst.bind fun gd => ask (Nat.testBit K gd)
      ((compL all rest (clean σ o.dst)).bind fun k => some (.opg (path gd) want d i k))) with
    | some l => some l
    | none => (compL all rest σ).map (.op .no .bad)
end

def FW (ro : Option Nat) : Fence := { Fence.wide with round := ro }
theorem FW_none : FW none = Fence.wide := rfl
/- what a call is worth -/
structure CallR (P : Program) (w0 : Bs) (f : FuncId) (xs : List Value) (ρ : Rho) (s : S) (w : World) (v : V) (s' : S) : Prop where
  enter : ∀ (args : Array Value) (w : World), (callFunc f args).run P w = .ok (.enter f args) w
  calls : Calls P f xs.toArray w fun e w' => ∃ ρ' x, e = .returned x ∧ Ok w0 ρ' s' w' ∧ Post ρ s ρ' s' ∧ val ρ' v = some x
def CallOk (P : Program) (w0 : Bs) (call : CallT) : Prop :=
  ∀ f l s v s' ρ w xs, call f l s = .ok v s' → Ok w0 ρ s w → vals ρ l = some xs → CallR P w0 f xs ρ s w v s'

section
variable {P : Program} {cf : Cf} {w0 : Bs} {w : World} {ρ ρ' : Rho} {s s' : S} {v : V} {a : Act} {o : Oper} {t : Tr} {call : CallT} {K N : Nat} {σ : Sub}

theorem beqPt_eq : ∀ (p q : Pt), beqPt p q = decide (p = q)
  | .e, .e => by simp [beqPt]
  | .e, .l _ => by simp [beqPt]
  | .e, .r _ => by simp [beqPt]
  | .l _, .e => by simp [beqPt]
  | .l p, .l q => by simp [beqPt, beqPt_eq p q]
  | .l _, .r _ => by simp [beqPt]
  | .r _, .e => by simp [beqPt]
  | .r _, .l _ => by simp [beqPt]
  | .r p, .r q => by simp [beqPt, beqPt_eq p q]

theorem clean_mem {d : Nat} : ∀ {σ : Sub} {n : Nat} {x : X}, (n, x) ∈ cleanT d σ → (n, x) ∈ σ ∧ n ≠ d ∧ usesT (path d) x = false
  | [], n, x, h => by simp [cleanT] at h
  | (k, y) :: l, n, x, h => by
    simp only [cleanT] at h
    split at h
    · obtain ⟨h1, h2⟩ := clean_mem h
      exact ⟨List.mem_cons_of_mem _ h1, h2⟩
    · rename_i hk
      rcases List.mem_cons.1 h with h | h
      · simp only [Prod.mk.injEq] at h
        obtain ⟨rfl, rfl⟩ := h
        simp only [Bool.or_eq_false_iff, beq_eq, decide_eq_false_iff_not] at hk
        exact ⟨List.mem_cons_self .., hk.1, hk.2⟩
      · obtain ⟨h1, h2⟩ := clean_mem h
        exact ⟨List.mem_cons_of_mem _ h1, h2⟩
theorem ev_put {x : X} {p : Pt} (h : usesT p x = false) (v : V) (t : Tr) : x.ev (putP v p t) = x.ev t := by
  cases x with
  | t q =>
    simp only [usesT, beqPt_eq, decide_eq_false_iff_not] at h
    show getP q (putP v p t) = getP q t
    rw [getP_putP, if_neg (fun hh => h hh.symm)]
  | c v => rfl

theorem Fr.mono (F : Fr K N ρ t σ a) (h : Le ρ ρ') : Fr K N ρ' t σ a := ⟨F.size, fun n h1 h2 => (F.tmps n h1 h2).mono h, fun n x hx => (F.sub n x hx).mono h⟩
theorem Fr.nil (F : Fr K N ρ t σ a) : Fr K N ρ t [] a := ⟨F.size, F.tmps, fun n x hx => by simp at hx⟩
theorem bound_of (hK : K >>> 65536 = 0) {n : Nat} (hb : Nat.testBit K n = true) : n < 65536 := by
  rcases Nat.lt_or_ge n 65536 with h' | h'
  · exact h'
  · have h2 : Nat.testBit (K >>> 65536) (n - 65536) = Nat.testBit K n := by
      rw [Nat.testBit_shiftRight, Nat.add_sub_cancel' h']
    rw [hK, Nat.zero_testBit] at h2
    rw [← h2] at hb; exact absurd hb (by simp)

theorem Fr.put (hK : K >>> 65536 = 0) (F : Fr K N ρ t σ a) {d : Tmp} (hb : Nat.testBit K d = true) (hd : d < N) {x : Value} (hx : OV ρ v x) : Fr K N ρ (putP v (path d) t) (cleanT d σ) (a.put (some d) x) := by
  have hdb := bound_of hK hb
  refine ⟨by simp [Act.put, F.size], fun n h1 h2 => ?_, fun n y hy => ?_⟩
  · rw [getP_putP]
    by_cases hn : n = d
    · subst hn
      rw [if_pos rfl]
      have : n < a.tmps.size := by rw [F.size]; exact hd
      simpa [Act.put, Array.getD_eq_getD_getElem?, this] using hx
    · rw [if_neg (fun hh => hn (path_inj h2 hdb hh))]
      have := F.tmps n h1 h2
      simpa [Act.put, Array.getD_eq_getD_getElem?, Array.getElem?_setIfInBounds_ne (Ne.symm hn)] using this
  · obtain ⟨h1, h2, h3⟩ := clean_mem hy
    rw [ev_put h3]
    have := F.sub n y h1
    simpa [Act.put, Array.getD_eq_getD_getElem?, Array.getElem?_setIfInBounds_ne (Ne.symm h2)] using this
theorem Fr.drop (F : Fr K N ρ t σ a) {d : Tmp} (hb : Nat.testBit K d = false) (hd : d < N) {c : X} {x : Value} (hx : OV ρ (c.ev t) x) : Fr K N ρ t ((d, c) :: cleanT d σ) (a.put (some d) x) := by
  refine ⟨by simp [Act.put, F.size], fun n h1 h2 => ?_, fun n y hy => ?_⟩
  · have hn : n ≠ d := by intro hh; subst hh; rw [hb] at h1; exact absurd h1 (by simp)
    have := F.tmps n h1 h2
    simpa [Act.put, Array.getD_eq_getD_getElem?, Array.getElem?_setIfInBounds_ne (Ne.symm hn)] using this
  · rcases List.mem_cons.1 hy with hy | hy
    · simp only [Prod.mk.injEq] at hy
      obtain ⟨rfl, rfl⟩ := hy
      have : n < a.tmps.size := by rw [F.size]; exact hd
      simpa [Act.put, Array.getD_eq_getD_getElem?, this] using hx
    · obtain ⟨h1, h2, _⟩ := clean_mem hy
      have := F.sub n y h1
      simpa [Act.put, Array.getD_eq_getD_getElem?, Array.getElem?_setIfInBounds_ne (Ne.symm h2)] using this

theorem Fr.dst (hK : K >>> 65536 = 0) (F : Fr K N ρ t σ a) {d : Option Tmp} {D : D} (hd : dstOf K N d = some D) {x : Value} (hx : OV ρ v x) : Fr K N ρ (setD D v t) (clean σ d) (a.put d x) := by
  cases d with
  | none => simp only [dstOf, Option.some.injEq] at hd; subst hd; exact F
  | some d =>
    obtain ⟨h1, hd⟩ := ask_ok hd
    obtain ⟨h2, hd⟩ := ask_ok hd
    simp only [Option.some.injEq] at hd; subst hd
    exact F.put hK h1 (by simpa [blt_eq'] using h2) hx

theorem step1_ok {d : D} {ih : Tr → S → R} {r : OR} {e : E} {t' : Tr} (h : step1 d ih t r = .done e t' s') : ∃ v s1, r = .ok v s1 ∧ ih (setD d v t) s1 = .done e t' s' := by
  cases r with
  | fail n => exact absurd h (by simp [step1])
  | ok v s1 =>
    refine ⟨v, s1, rfl, ?_⟩
    have : ((setD d v t).force fun t => ih t s1) = .done e t' s' := h
    rwa [Tr.force_eq] at this

/- an operation, whatever it is -/
theorem op_ok (E : EnvOk P cf) (hK : K >>> 65536 = 0) (hc : CallOk P w0 call) (F : Fr K N ρ t σ a) (ok : Ok w0 ρ s w) {i : O} (h : compB cf K σ o.op = some i) (he : evO i call t s = .ok v s')
    {next : Act → World → Prop} {Q : Exit → Act → World → Prop} (hn : ∀ ρ' w' x, Ok w0 ρ' s' w' → Post ρ s ρ' s' → OV ρ' v x → next (a.put o.dst x) w') : o.wp P a w next Q := by
  have plain : compO cf K σ o.op = some i → isCall i = false → o.wp P a w next Q := by
    intro h hi
    obtain ⟨ρ', w', n, ok', po, hr, hv⟩ := compO_ok (call := call) E hK F ok h hi he
    rw [Oper.wp, hr]
    rcases hv with ⟨rfl, rfl⟩ | ⟨x, rfl, hx⟩
    · exact hn ρ' w' undef ok' po (.inl rfl)
    · exact hn ρ' w' x ok' po hx
  have fin : ∀ (f : FuncId) (l : List V) (xs : List Value), execOp a.eval o = callFunc f xs.toArray → vals ρ l = some xs → call f l s = .ok v s' → o.wp P a w next Q := by
    intro f l xs hx hl hcall
    obtain ⟨henter, hcalls⟩ := hc f l s v s' ρ w xs hcall ok hl
    rw [Oper.wp, hx, henter]
    refine Calls.mono hcalls ?_
    rintro e w' ⟨ρ', x, rfl, ok', po, hv⟩
    exact hn ρ' w' x ok' po (.inr hv)
  generalize hop : o.op = op at h
  unfold compB at h
  split at h
  · rename_i x args argTypes
    simp only [compCall] at h
    split at h
    · rename_i hh; exact absurd hh (by simp)
    · rename_i f hh
      simp only [Callee.value.injEq] at hh
      subst hh
      split at h
      · refine plain (by rw [hop]; simp only [compO, compCall]; rename_i h1 h2; simp only [h1, h2, h]) ?_
        simp only [Option.bind_eq_some_iff, Option.some.injEq] at h
        obtain ⟨_, _, _, _, rfl⟩ := h; rfl
      · refine plain (by rw [hop]; simp only [compO, compCall]; rename_i h1 h2 h3; simp only [h1, h2, h3, h]) ?_
        simp only [Option.bind_eq_some_iff, Option.some.injEq] at h
        obtain ⟨_, _, _, _, rfl⟩ := h; rfl
      · simp only [Option.bind_eq_some_iff, Option.some.injEq] at h
        obtain ⟨as, has, rfl⟩ := h
        have he : (evs t as fun l => call f l s) = .ok v s' := he
        obtain ⟨l, hl, hcall⟩ := evs_ok he (cxs_ok hK F has)
        refine fin f l _ ?_ hl hcall
        rw [exec_call hop rfl]
        congr 1
        apply Array.ext'; simp
      · exact absurd h (by simp)
    · rename_i x' hne hh
      simp only [Callee.value.injEq] at hh
      subst hh
      simp only [Option.bind_eq_some_iff, Option.some.injEq] at h
      obtain ⟨c1, h1, as, has, rfl⟩ := h
      have he : o_callv c1 as call t s = .ok v s' := he
      have hx := cx_ok hK F h1
      simp only [o_callv] at he
      generalize hv1 : c1.ev t = v1 at he hx
      cases v1 <;> try simp only at he
      case func f fi ca =>
        obtain ⟨xf, xc, hf, hca, hx⟩ := OV_func hx
        obtain ⟨l, hl, hcall⟩ := evs_ok he (cxs_ok hK F has)
        refine fin f _ _ ?_ (vals_append (vals_append hf hl) hca) hcall
        have e1 : (xf ++ List.map a.eval args.toList ++ xc).toArray = xf.toArray ++ (args.map a.eval) ++ xc.toArray := by
          apply Array.ext'; simp
        rw [e1]
        simp [execOp, hop, resolve, hx, Deferred.ofValue, invoke]
      all_goals exact absurd he (by simp)
    · rename_i hh; exact absurd hh (by simp)
  · refine plain (by rw [hop]; exact h) ?_
    simp only [Option.bind_eq_some_iff, Option.some.injEq] at h
    obtain ⟨_, _, rfl⟩ := h; rfl
  · simp only [Option.bind_eq_some_iff] at h
    obtain ⟨i', h1, h2⟩ := h
    obtain ⟨h3, h2⟩ := ask_ok h2
    simp only [Option.some.injEq] at h2; subst h2
    refine plain (by rw [hop]; exact h1) ?_
    unfold noCall isNx at h3
    split at h3
    · exact absurd h3 (by simp)
    · rename_i h4
      split at h4
      · rfl
      · assumption
/- the same in a round of a loop over a function -/
theorem op_okIn (ro : Option Nat) (n : Nat) (E : EnvOk P cf) (hK : K >>> 65536 = 0) (hc : CallOk P w0 call) (F : Fr K N ρ t σ a) (ok : Ok w0 ρ s w) {i : O} (h : compB cf K σ o.op = some i) (he : evO i call t s = .ok v s')
    {next : Act → World → Prop} {Q : Exit → Act → World → Prop} (hn : ∀ ρ' w' x, Ok w0 ρ' s' w' → Post ρ s ρ' s' → OV ρ' v x → next (a.put o.dst x) w') : o.wpIn (FW ro) n P a w next Q := by
  have semAt : o.semAt (FW ro).round a.eval = execOp a.eval o := Oper.semAt_eq _ _ _ (by intro c hc; rw [hc] at h; simp [compB, compO] at h)
  have plain : compO cf K σ o.op = some i → isCall i = false → o.wpIn (FW ro) n P a w next Q := by
    intro h hi
    obtain ⟨ρ', w', nx, ok', po, hr, hv⟩ := compO_ok (call := call) E hK F ok h hi he
    refine ⟨fun _ _ => trivial, ?_⟩
    rw [semAt, hr]
    rcases hv with ⟨rfl, rfl⟩ | ⟨x, rfl, hx⟩
    · exact hn ρ' w' undef ok' po (.inl rfl)
    · exact hn ρ' w' x ok' po hx
  have fin : ∀ (f : FuncId) (l : List V) (xs : List Value), execOp a.eval o = callFunc f xs.toArray → vals ρ l = some xs → call f l s = .ok v s' → o.wpIn (FW ro) n P a w next Q := by
    intro f l xs hx hl hcall
    obtain ⟨henter, hcalls⟩ := hc f l s v s' ρ w xs hcall ok hl
    refine ⟨fun _ _ => trivial, ?_⟩
    rw [semAt, hx, henter, Oper.uponIn_enter]
    refine ⟨fun h => absurd h (by simp [FW, Fence.wide]), ?_⟩
    refine CallsIn.mono (show CallsIn (FW ro) (n - 1) P f xs.toArray w _ from callsIn_wide.2 hcalls) ?_
    rintro e w' ⟨ρ', x, rfl, ok', po, hv⟩
    exact hn ρ' w' x ok' po (.inr hv)
  generalize hop : o.op = op at h
  unfold compB at h
  split at h
  · rename_i x args argTypes
    simp only [compCall] at h
    split at h
    · rename_i hh; exact absurd hh (by simp)
    · rename_i f hh
      simp only [Callee.value.injEq] at hh
      subst hh
      split at h
      · refine plain (by rw [hop]; simp only [compO, compCall]; rename_i h1 h2; simp only [h1, h2, h]) ?_
        simp only [Option.bind_eq_some_iff, Option.some.injEq] at h
        obtain ⟨_, _, _, _, rfl⟩ := h; rfl
      · refine plain (by rw [hop]; simp only [compO, compCall]; rename_i h1 h2 h3; simp only [h1, h2, h3, h]) ?_
        simp only [Option.bind_eq_some_iff, Option.some.injEq] at h
        obtain ⟨_, _, _, _, rfl⟩ := h; rfl
      · simp only [Option.bind_eq_some_iff, Option.some.injEq] at h
        obtain ⟨as, has, rfl⟩ := h
        have he : (evs t as fun l => call f l s) = .ok v s' := he
        obtain ⟨l, hl, hcall⟩ := evs_ok he (cxs_ok hK F has)
        refine fin f l _ ?_ hl hcall
        rw [exec_call hop rfl]
        congr 1
        apply Array.ext'; simp
      · exact absurd h (by simp)
    · rename_i x' hne hh
      simp only [Callee.value.injEq] at hh
      subst hh
      simp only [Option.bind_eq_some_iff, Option.some.injEq] at h
      obtain ⟨c1, h1, as, has, rfl⟩ := h
      have he : o_callv c1 as call t s = .ok v s' := he
      have hx := cx_ok hK F h1
      simp only [o_callv] at he
      generalize hv1 : c1.ev t = v1 at he hx
      cases v1 <;> try simp only at he
      case func f fi ca =>
        obtain ⟨xf, xc, hf, hca, hx⟩ := OV_func hx
        obtain ⟨l, hl, hcall⟩ := evs_ok he (cxs_ok hK F has)
        refine fin f _ _ ?_ (vals_append (vals_append hf hl) hca) hcall
        have e1 : (xf ++ List.map a.eval args.toList ++ xc).toArray = xf.toArray ++ (args.map a.eval) ++ xc.toArray := by
          apply Array.ext'; simp
        rw [e1]
        simp [execOp, hop, resolve, hx, Deferred.ofValue, invoke]
      all_goals exact absurd he (by simp)
    · rename_i hh; exact absurd hh (by simp)
  · refine plain (by rw [hop]; exact h) ?_
    simp only [Option.bind_eq_some_iff, Option.some.injEq] at h
    obtain ⟨_, _, rfl⟩ := h; rfl
  · simp only [Option.bind_eq_some_iff] at h
    obtain ⟨i', h1, h2⟩ := h
    obtain ⟨h3, h2⟩ := ask_ok h2
    simp only [Option.some.injEq] at h2; subst h2
    refine plain (by rw [hop]; exact h1) ?_
    unfold noCall isNx at h3
    split at h3
    · exact absurd h3 (by simp)
    · rename_i h4
      split at h4
      · rfl
      · assumption
end
end
end Go.Ev
namespace Go.Ev
variable [Sy]
noncomputable section
section
variable {P : Program} {cf : Cf} {w0 : Bs} {w : World} {ρ ρ' : Rho} {s s' : S} {v : V} {a : Act} {o : Oper} {t t' : Tr} {call : CallT} {K N : Nat} {σ : Sub}

theorem put_defers (a : Act) (d : Option Tmp) (x : Value) : (a.put d x).defers = a.defers := by cases d <;> rfl

theorem evL_ok (E : EnvOk P cf) (hK : K >>> 65536 = 0) (hc : CallOk P w0 call) {ops : Array Oper} {Q : Exit → Act → World → Prop} {e : Ev.E} : ∀ (rest : List Oper) (σ : Sub) (l : L) (t : Tr) (s : S) (ρ : Rho) (a : Act) (w : World),
    compL cf K N ops rest σ = some l → Fr K N ρ t σ a → Ok w0 ρ s w → evL call l t s = .done e t' s' →
    (∀ ρ' a' w', Ok w0 ρ' s' w' → Post ρ s ρ' s' → Fr K N ρ' t' [] a' → a'.defers = a.defers → Q .normal a' w') → e = .n ∧ wpList P ops Q rest a w
  | [], σ, l, t, s, ρ, a, w, hl, F, ok, he, hQ => by
    simp only [compL, Option.some.injEq] at hl
    subst hl
    have he : R.done .n t s = .done e t' s' := he
    simp only [R.done.injEq] at he
    obtain ⟨rfl, rfl, rfl⟩ := he
    exact ⟨rfl, hQ ρ a w ok (Post.refl ρ s) F.nil rfl⟩
  | o :: rest, σ, l, t, s, ρ, a, w, hl, F, ok, he, hQ => by
    /- an operation that is done -/
    have doit : ∀ {i : O} {d : D} {k : L}, compB cf K σ o.op = some i → dstOf K N o.dst = some d → compL cf K N ops rest (clean σ o.dst) = some k → step1 d (evL call k) t (evO i call t s) = .done e t' s' →
        e = .n ∧ ∀ (K' : Act → World → Prop), (∀ a w, wpList P ops Q rest a w → K' a w) → o.wp P a w K' Q := by
      intro i d k hi hd hk hs
      obtain ⟨v, s1, hr, hih⟩ := step1_ok hs
      have one : ∀ ρ1 w1 x, Ok w0 ρ1 s1 w1 → Post ρ s ρ1 s1 → OV ρ1 v x → e = .n ∧ wpList P ops Q rest (a.put o.dst x) w1 := by
        intro ρ1 w1 x ok1 po1 hx
        have F1 := (F.mono (po1.le ok)).dst hK hd hx
        refine evL_ok E hK hc rest _ k _ s1 ρ1 _ w1 hk F1 ok1 hih ?_
        intro ρ2 a2 w2 ok2 po2 F2 hd2
        exact hQ ρ2 a2 w2 ok2 (po1.trans po2) F2 (by rw [hd2, put_defers])
      have hen : e = .n := by
        /- whatever the world, the reckoner's answer is the same -/
        by_cases h0 : e = .n
        · exact h0
        · exfalso
          have hgen : ∀ (l : L) (t : Tr) (s : S), evL call l t s = .done e t' s' → e = .n := by
            intro l
            induction l with
            | nil => intro t s h; have h : R.done .n t s = .done e t' s' := h; simp only [R.done.injEq] at h; exact h.1.symm
            | op d o k ih =>
              intro t s h
              obtain ⟨_, _, _, h⟩ := step1_ok (r := evO o call t s) h
              exact ih _ _ h
            | opg p b d o k ih =>
              intro t s h
              have h : onG (getP p t) (bc b (step1 d (evL call k) t (evO o call t s)) (skip1 d (evL call k) t s)) (bc b (skip1 d (evL call k) t s) (step1 d (evL call k) t (evO o call t s))) (skip1 d (evL call k) t s) = .done e t' s' := h
              have h1 : step1 d (evL call k) t (evO o call t s) = .done e t' s' → e = .n := by
                intro hh
                obtain ⟨_, _, _, hh⟩ := step1_ok hh
                exact ih _ _ hh
              have h2 : skip1 d (evL call k) t s = .done e t' s' → e = .n := by
                intro hh; rw [skip1, Tr.force_eq] at hh; exact ih _ _ hh
              cases hg : getP p t <;> rw [hg] at h <;> try (exfalso; exact R.noConfusion (show R.fail 97 = R.done e t' s' from h))
              · rename_i c
                cases c <;> cases b
                · exact h1 h
                · exact h2 h
                · exact h2 h
                · exact h1 h
              · exact h2 h
          exact h0 (hgen k _ _ hih)
      refine ⟨hen, fun K' hK' => op_ok E hK hc F ok hi hr fun ρ1 w1 x ok1 po1 hx => hK' _ _ (one ρ1 w1 x ok1 po1 hx).2⟩
    simp only [compL] at hl
    split at hl
    case h_2 =>
      simp only [Option.map_eq_some_iff] at hl
      obtain ⟨k, _, rfl⟩ := hl
      exact absurd he (by
        show ¬ (R.fail 95 = R.done e t' s')
        simp)
    rename_i l0 hl0
    simp only [Option.some.injEq] at hl
    rw [hl] at hl0
    clear hl
    have hl := hl0
    clear hl0
    split at hl
    · rename_i hg
      have viaDo : ∀ {i : O} {d : D} {k : L}, compB cf K σ o.op = some i → dstOf K N o.dst = some d → compL cf K N ops rest (clean σ o.dst) = some k → l = .op d i k → e = .n ∧ wpList P ops Q (o :: rest) a w := by
        intro i d k hi hd hk hll
        subst hll
        have he : step1 d (evL call k) t (evO i call t s) = .done e t' s' := he
        obtain ⟨h1, h2⟩ := doit hi hd hk he
        exact ⟨h1, wpList_plain hg fun K' hK' => h2 K' hK'⟩
      split at hl
      · rename_i x d hop hdst
        split at hl
        · rename_i hb
          simp only [Option.bind_eq_some_iff] at hl
          obtain ⟨c, hx, hl⟩ := hl
          obtain ⟨hd, hl⟩ := ask_ok hl
          simp only [Option.bind_eq_some_iff, Option.some.injEq] at hl
          obtain ⟨k, hk, rfl⟩ := hl
          refine viaDo (i := .mv c) (d := .to (path d)) (k := k) ?_ ?_ ?_ rfl
          · rw [hop]; simp [compB, compO, hx, noCall, isNx, isCall, ask]
          · rw [hdst]; simp [dstOf, hb, hd, ask]
          · rw [hdst]; exact hk
        · rename_i hb
          simp only [Option.bind_eq_some_iff] at hl
          obtain ⟨c, hx, hl⟩ := hl
          obtain ⟨hd, hl⟩ := ask_ok hl
          have hxv := cx_ok hK F hx
          have hd : d < N := by simpa [blt_eq'] using hd
          have F1 := F.drop (by simpa using hb) hd hxv
          have ih := evL_ok E hK hc rest _ l t s ρ (a.put (some d) (a.eval x)) w hl F1 ok he (by
            intro ρ2 a2 w2 ok2 po2 F2 hd2
            exact hQ ρ2 a2 w2 ok2 po2 F2 (by rw [hd2, put_defers]))
          refine ⟨ih.1, wpList_plain hg fun K' hK' => ?_⟩
          have hr : (execOp a.eval o).run P w = .ok (.value (a.eval x)) w := by simp [execOp, hop]
          rw [Oper.wp, hr, Oper.upon_value, hdst]
          exact hK' _ _ ih.2
      · simp only [Option.bind_eq_some_iff, Option.some.injEq] at hl
        obtain ⟨i, hi, d, hd, k, hk, rfl⟩ := hl
        exact viaDo hi hd hk rfl
    · rename_i j want hg
      simp only [Option.bind_eq_some_iff] at hl
      obtain ⟨i, hi, d, hd, g, hgj, gd, hgd, hl⟩ := hl
      obtain ⟨hb, hl⟩ := ask_ok hl
      simp only [Option.bind_eq_some_iff, Option.some.injEq] at hl
      obtain ⟨k, hk, rfl⟩ := hl
      have he : onG (getP (path gd) t) (bc want (step1 d (evL call k) t (evO i call t s)) (skip1 d (evL call k) t s)) (bc want (skip1 d (evL call k) t s) (step1 d (evL call k) t (evO i call t s))) (skip1 d (evL call k) t s) = .done e t' s' := he
      have hgv := F.tmps gd hb (bound_of hK hb)
      have skipIt : skip1 d (evL call k) t s = .done e t' s' → e = .n ∧ wpList P ops Q rest (a.put o.dst undef) w := by
        intro h
        rw [skip1, Tr.force_eq] at h
        have F1 := F.dst hK hd (v := uV) (x := undef) (.inr (by simp [uV, val, vals, undef]))
        exact evL_ok E hK hc rest _ k _ s ρ _ w hk F1 ok h (by
          intro ρ2 a2 w2 ok2 po2 F2 hd2
          exact hQ ρ2 a2 w2 ok2 po2 F2 (by rw [hd2, put_defers]))
      generalize hgt : getP (path gd) t = gv at he hgv
      cases gv <;> try (exfalso; exact R.noConfusion (show R.fail 97 = R.done e t' s' from he))
      case tuple us =>
        obtain ⟨xs, _, hgv⟩ := OV_tuple hgv
        have hy : yielded ops a.tmps j = none := by
          simp only [yielded, hgj, hgd, Option.bind_some]
          cases hh : a.tmps[gd]? with
          | none => rfl
          | some z =>
            have : z = .tuple xs.toArray := by
              simpa [Array.getD_eq_getD_getElem?, hh] using hgv
            rw [this]
        have hw : Region.wanted o (yielded ops a.tmps) = false := by
          simp [Region.wanted, hg, hy]
        obtain ⟨h1, h2⟩ := skipIt he
        exact ⟨h1, wpList_step fun K' hK' => by rw [hw, if_neg (by decide)]; exact hK' _ _ h2⟩
      case bool c =>
        have hgv := OV_bool hgv
        have hy : yielded ops a.tmps j = some c := by
          have hlt : gd < a.tmps.size := by
            rcases Nat.lt_or_ge gd a.tmps.size with h' | h'
            · exact h'
            · simp [Array.getD_eq_getD_getElem?, Array.getElem?_eq_none h', undef] at hgv
          have h9 : a.tmps[gd]? = some (.bool c) := by
            simp only [Array.getD_eq_getD_getElem?, Array.getElem?_eq_getElem hlt, Option.getD_some] at hgv
            rw [Array.getElem?_eq_getElem hlt, hgv]
          simp [yielded, hgj, hgd, h9]
        have hw : Region.wanted o (yielded ops a.tmps) = (c == want) := by
          simp [Region.wanted, hg, hy]
        cases c <;> cases want
        · obtain ⟨h1, h2⟩ := doit hi hd hk he
          exact ⟨h1, wpList_step fun K' hK' => by rw [hw, if_pos (show (false == false) = true from rfl)]; exact h2 K' hK'⟩
        · obtain ⟨h1, h2⟩ := skipIt he
          exact ⟨h1, wpList_step fun K' hK' => by rw [hw, if_neg (show ¬ (false == true) = true by decide)]; exact hK' _ _ h2⟩
        · obtain ⟨h1, h2⟩ := skipIt he
          exact ⟨h1, wpList_step fun K' hK' => by rw [hw, if_neg (show ¬ (true == false) = true by decide)]; exact hK' _ _ h2⟩
        · obtain ⟨h1, h2⟩ := doit hi hd hk he
          exact ⟨h1, wpList_step fun K' hK' => by rw [hw, if_pos (show (true == true) = true from rfl)]; exact h2 K' hK'⟩
theorem evL_okIn (ro : Option Nat) (n : Nat) (E : EnvOk P cf) (hK : K >>> 65536 = 0) (hc : CallOk P w0 call) {ops : Array Oper} {Q : Exit → Act → World → Prop} {e : Ev.E} : ∀ (rest : List Oper) (σ : Sub) (l : L) (t : Tr) (s : S) (ρ : Rho) (a : Act) (w : World),
    compL cf K N ops rest σ = some l → Fr K N ρ t σ a → Ok w0 ρ s w → evL call l t s = .done e t' s' →
    (∀ ρ' a' w', Ok w0 ρ' s' w' → Post ρ s ρ' s' → Fr K N ρ' t' [] a' → a'.defers = a.defers → Q .normal a' w') → e = .n ∧ wpListIn (FW ro) n P ops Q rest a w
  | [], σ, l, t, s, ρ, a, w, hl, F, ok, he, hQ => by
    simp only [compL, Option.some.injEq] at hl
    subst hl
    have he : R.done .n t s = .done e t' s' := he
    simp only [R.done.injEq] at he
    obtain ⟨rfl, rfl, rfl⟩ := he
    exact ⟨rfl, hQ ρ a w ok (Post.refl ρ s) F.nil rfl⟩
  | o :: rest, σ, l, t, s, ρ, a, w, hl, F, ok, he, hQ => by
    /- an operation that is done -/
    have doit : ∀ {i : O} {d : D} {k : L}, compB cf K σ o.op = some i → dstOf K N o.dst = some d → compL cf K N ops rest (clean σ o.dst) = some k → step1 d (evL call k) t (evO i call t s) = .done e t' s' →
        e = .n ∧ ∀ (K' : Act → World → Prop), (∀ a w, wpListIn (FW ro) n P ops Q rest a w → K' a w) → o.wpIn (FW ro) n P a w K' Q := by
      intro i d k hi hd hk hs
      obtain ⟨v, s1, hr, hih⟩ := step1_ok hs
      have one : ∀ ρ1 w1 x, Ok w0 ρ1 s1 w1 → Post ρ s ρ1 s1 → OV ρ1 v x → e = .n ∧ wpListIn (FW ro) n P ops Q rest (a.put o.dst x) w1 := by
        intro ρ1 w1 x ok1 po1 hx
        have F1 := (F.mono (po1.le ok)).dst hK hd hx
        refine evL_okIn ro n E hK hc rest _ k _ s1 ρ1 _ w1 hk F1 ok1 hih ?_
        intro ρ2 a2 w2 ok2 po2 F2 hd2
        exact hQ ρ2 a2 w2 ok2 (po1.trans po2) F2 (by rw [hd2, put_defers])
      have hen : e = .n := by
        /- whatever the world, the reckoner's answer is the same -/
        by_cases h0 : e = .n
        · exact h0
        · exfalso
          have hgen : ∀ (l : L) (t : Tr) (s : S), evL call l t s = .done e t' s' → e = .n := by
            intro l
            induction l with
            | nil => intro t s h; have h : R.done .n t s = .done e t' s' := h; simp only [R.done.injEq] at h; exact h.1.symm
            | op d o k ih =>
              intro t s h
              obtain ⟨_, _, _, h⟩ := step1_ok (r := evO o call t s) h
              exact ih _ _ h
            | opg p b d o k ih =>
              intro t s h
              have h : onG (getP p t) (bc b (step1 d (evL call k) t (evO o call t s)) (skip1 d (evL call k) t s)) (bc b (skip1 d (evL call k) t s) (step1 d (evL call k) t (evO o call t s))) (skip1 d (evL call k) t s) = .done e t' s' := h
              have h1 : step1 d (evL call k) t (evO o call t s) = .done e t' s' → e = .n := by
                intro hh
                obtain ⟨_, _, _, hh⟩ := step1_ok hh
                exact ih _ _ hh
              have h2 : skip1 d (evL call k) t s = .done e t' s' → e = .n := by
                intro hh; rw [skip1, Tr.force_eq] at hh; exact ih _ _ hh
              cases hg : getP p t <;> rw [hg] at h <;> try (exfalso; exact R.noConfusion (show R.fail 97 = R.done e t' s' from h))
              · rename_i c
                cases c <;> cases b
                · exact h1 h
                · exact h2 h
                · exact h2 h
                · exact h1 h
              · exact h2 h
          exact h0 (hgen k _ _ hih)
      refine ⟨hen, fun K' hK' => op_okIn ro n E hK hc F ok hi hr fun ρ1 w1 x ok1 po1 hx => hK' _ _ (one ρ1 w1 x ok1 po1 hx).2⟩
    simp only [compL] at hl
    split at hl
    case h_2 =>
      simp only [Option.map_eq_some_iff] at hl
      obtain ⟨k, _, rfl⟩ := hl
      exact absurd he (by
        show ¬ (R.fail 95 = R.done e t' s')
        simp)
    rename_i l0 hl0
    simp only [Option.some.injEq] at hl
    rw [hl] at hl0
    clear hl
    have hl := hl0
    clear hl0
    split at hl
    · rename_i hg
      have viaDo : ∀ {i : O} {d : D} {k : L}, compB cf K σ o.op = some i → dstOf K N o.dst = some d → compL cf K N ops rest (clean σ o.dst) = some k → l = .op d i k → e = .n ∧ wpListIn (FW ro) n P ops Q (o :: rest) a w := by
        intro i d k hi hd hk hll
        subst hll
        have he : step1 d (evL call k) t (evO i call t s) = .done e t' s' := he
        obtain ⟨h1, h2⟩ := doit hi hd hk he
        exact ⟨h1, wpListIn_plain hg fun K' hK' => h2 K' hK'⟩
      split at hl
      · rename_i x d hop hdst
        split at hl
        · rename_i hb
          simp only [Option.bind_eq_some_iff] at hl
          obtain ⟨c, hx, hl⟩ := hl
          obtain ⟨hd, hl⟩ := ask_ok hl
          simp only [Option.bind_eq_some_iff, Option.some.injEq] at hl
          obtain ⟨k, hk, rfl⟩ := hl
          refine viaDo (i := .mv c) (d := .to (path d)) (k := k) ?_ ?_ ?_ rfl
          · rw [hop]; simp [compB, compO, hx, noCall, isNx, isCall, ask]
          · rw [hdst]; simp [dstOf, hb, hd, ask]
          · rw [hdst]; exact hk
        · rename_i hb
          simp only [Option.bind_eq_some_iff] at hl
          obtain ⟨c, hx, hl⟩ := hl
          obtain ⟨hd, hl⟩ := ask_ok hl
          have hxv := cx_ok hK F hx
          have hd : d < N := by simpa [blt_eq'] using hd
          have F1 := F.drop (by simpa using hb) hd hxv
          have ih := evL_okIn ro n E hK hc rest _ l t s ρ (a.put (some d) (a.eval x)) w hl F1 ok he (by
            intro ρ2 a2 w2 ok2 po2 F2 hd2
            exact hQ ρ2 a2 w2 ok2 po2 F2 (by rw [hd2, put_defers]))
          refine ⟨ih.1, wpListIn_plain hg fun K' hK' => ?_⟩
          have hr : (execOp a.eval o).run P w = .ok (.value (a.eval x)) w := by simp [execOp, hop]
          refine ⟨fun _ _ => trivial, ?_⟩
          rw [Oper.semAt_eq _ _ _ (by rw [hop]; simp), hr, Oper.uponIn_value, hdst]
          exact hK' _ _ ih.2
      · simp only [Option.bind_eq_some_iff, Option.some.injEq] at hl
        obtain ⟨i, hi, d, hd, k, hk, rfl⟩ := hl
        exact viaDo hi hd hk rfl
    · rename_i j want hg
      simp only [Option.bind_eq_some_iff] at hl
      obtain ⟨i, hi, d, hd, g, hgj, gd, hgd, hl⟩ := hl
      obtain ⟨hb, hl⟩ := ask_ok hl
      simp only [Option.bind_eq_some_iff, Option.some.injEq] at hl
      obtain ⟨k, hk, rfl⟩ := hl
      have he : onG (getP (path gd) t) (bc want (step1 d (evL call k) t (evO i call t s)) (skip1 d (evL call k) t s)) (bc want (skip1 d (evL call k) t s) (step1 d (evL call k) t (evO i call t s))) (skip1 d (evL call k) t s) = .done e t' s' := he
      have hgv := F.tmps gd hb (bound_of hK hb)
      have skipIt : skip1 d (evL call k) t s = .done e t' s' → e = .n ∧ wpListIn (FW ro) n P ops Q rest (a.put o.dst undef) w := by
        intro h
        rw [skip1, Tr.force_eq] at h
        have F1 := F.dst hK hd (v := uV) (x := undef) (.inr (by simp [uV, val, vals, undef]))
        exact evL_okIn ro n E hK hc rest _ k _ s ρ _ w hk F1 ok h (by
          intro ρ2 a2 w2 ok2 po2 F2 hd2
          exact hQ ρ2 a2 w2 ok2 po2 F2 (by rw [hd2, put_defers]))
      generalize hgt : getP (path gd) t = gv at he hgv
      cases gv <;> try (exfalso; exact R.noConfusion (show R.fail 97 = R.done e t' s' from he))
      case tuple us =>
        obtain ⟨xs, _, hgv⟩ := OV_tuple hgv
        have hy : yielded ops a.tmps j = none := by
          simp only [yielded, hgj, hgd, Option.bind_some]
          cases hh : a.tmps[gd]? with
          | none => rfl
          | some z =>
            have : z = .tuple xs.toArray := by
              simpa [Array.getD_eq_getD_getElem?, hh] using hgv
            rw [this]
        have hw : Region.wanted o (yielded ops a.tmps) = false := by
          simp [Region.wanted, hg, hy]
        obtain ⟨h1, h2⟩ := skipIt he
        exact ⟨h1, wpListIn_step fun K' hK' => by rw [hw, if_neg (by decide)]; exact ⟨fun _ _ => trivial, hK' _ _ h2⟩⟩
      case bool c =>
        have hgv := OV_bool hgv
        have hy : yielded ops a.tmps j = some c := by
          have hlt : gd < a.tmps.size := by
            rcases Nat.lt_or_ge gd a.tmps.size with h' | h'
            · exact h'
            · simp [Array.getD_eq_getD_getElem?, Array.getElem?_eq_none h', undef] at hgv
          have h9 : a.tmps[gd]? = some (.bool c) := by
            simp only [Array.getD_eq_getD_getElem?, Array.getElem?_eq_getElem hlt, Option.getD_some] at hgv
            rw [Array.getElem?_eq_getElem hlt, hgv]
          simp [yielded, hgj, hgd, h9]
        have hw : Region.wanted o (yielded ops a.tmps) = (c == want) := by
          simp [Region.wanted, hg, hy]
        cases c <;> cases want
        · obtain ⟨h1, h2⟩ := doit hi hd hk he
          exact ⟨h1, wpListIn_step fun K' hK' => by rw [hw, if_pos (show (false == false) = true from rfl)]; exact h2 K' hK'⟩
        · obtain ⟨h1, h2⟩ := skipIt he
          exact ⟨h1, wpListIn_step fun K' hK' => by rw [hw, if_neg (show ¬ (false == true) = true by decide)]; exact ⟨fun _ _ => trivial, hK' _ _ h2⟩⟩
        · obtain ⟨h1, h2⟩ := skipIt he
          exact ⟨h1, wpListIn_step fun K' hK' => by rw [hw, if_neg (show ¬ (true == false) = true by decide)]; exact ⟨fun _ _ => trivial, hK' _ _ h2⟩⟩
        · obtain ⟨h1, h2⟩ := doit hi hd hk he
          exact ⟨h1, wpListIn_step fun K' hK' => by rw [hw, if_pos (show (true == true) = true from rfl)]; exact h2 K' hK'⟩
end
end
end Go.Ev
namespace Go.Ev
variable [Sy]
noncomputable section

section
variable (cd : Nat → Nat → Nat → Array Oper → Option DL) (cf : Cf) (K N : Nat)
/- 'cd': the form of a region whose order is drawn -/
def paths : List Tmp → Option (List Pt)
  | [] => some []
  | d :: l => ask (Nat.testBit K d) (ask (Nat.blt d N) ((paths l).map (path d :: ·)))
def compC : Code → Option C
  | .skip => some .skip
  | .label _ => some .skip
  | .ret => some .ret
  | .region _ ops false => (compL cf K N ops ops.toList []).map .reg
  | .region id ops true => (cd K N id ops).map .dreg
  | .seq a b => match compC a, compC b with
    | some x, some y => some (.seq x y)
    | _, _ => none
  | .cond c a b => match cx K [] c, compC a, compC b with
    | some z, some x, some y => some (.cond z x y)
    | _, _, _ => some .bad
  | .block id c => (compC c).map (.block id)
  | .loop c => (compC c).map .loop
  | .scope c => (compC c).map (.seq .skip)
  | .exit id => some (.exit id)
  | .rangeFunc g ps a b => match cx K [] g, paths K N ps.toList, compC a, compC b with
    | some z, some l, some x, some y => some (.rng z l x y)
    | _, _, _, _ => some .bad
  | _ => some .bad
def compR : List ResultVar → Option (List RV)
  | [] => some []
  | .tmp t :: l => ask (Nat.testBit K t) ((compR l).map (.t (path t) :: ·))
  | .cell a ty :: l => ask (Nat.testBit K a) (match undT cf.tt ty, cf.tt.get ty with
    | some d, some i => (match aggD d with
      | true => (compR l).map (.cella (path a) i.size :: ·)
      | false => (compR l).map (.cell (path a) :: ·))
    | _, _ => none)
end

structure DOk (P : Program) (cf : Cf) (cd : Nat → Nat → Nat → Array Oper → Option DL) : Prop where
  run : ∀ (w0 : Bs) (K N id : Nat) (ops : Array Oper) (l : DL) (call : CallT) (t : Tr) (s : S) (e : E) (t' : Tr) (s' : S) (ρ : Rho) (a : Act) (w : World) (Q : Exit → Act → World → Prop) (ro : Option Nat) (n : Nat), cd K N id ops = some l → K >>> 65536 = 0 → CallOk P w0 call →
    Fr K N ρ t [] a → Ok w0 ρ s w → a.defers = [] → evDL call l t s [] = .done e t' s' →
    e = .n ∧ ((∀ ρ' a' w', Ok w0 ρ' s' w' → Post ρ s ρ' s' → Fr K N ρ' t' [] a' → a'.defers = [] → Q .normal a' w') → (Code.region id ops true).wpIn (FW ro) n P Q a w)

def exitE : E → Exit
  | .n => .normal
  | .r => .ret
  | .b id => .exit id

structure FnOk (P : Program) (cf : Cf) (cd : Nat → Nat → Nat → Array Oper → Option DL) (f : FuncId) (body : C) (res : List RV) (n : Nat) : Prop where
  out : ∃ fn c K, P.funcs[f]? = some fn ∧ fn.body = some c ∧ fn.ntmps = n ∧ compC cd cf K n c = some body ∧ compR cf K fn.results.toList = some res ∧ K >>> 65536 = 0
  small : n < 65536
  enter : ∀ (args : Array Value) (w : World), (callFunc f args).run P w = .ok (.enter f args) w

section
variable {P : Program} {cd : Nat → Nat → Nat → Array Oper → Option DL} {cf : Cf} {w0 : Bs} {w : World} {ρ ρ' : Rho} {s s' : S} {v : V} {a : Act} {t t' : Tr} {call : CallT} {K N : Nat}

/- what the reckoner says of a piece of code is so -/
def Sound (P : Program) (w0 : Bs) (K N : Nat) (c : Code) (x : C) (h : IH) : Prop :=
  ∀ (t : Tr) (s : S) (e : E) (t' : Tr) (s' : S) (ρ : Rho) (a : Act) (w : World) (Q : Exit → Act → World → Prop), h x t s = .done e t' s' → Fr K N ρ t [] a → Ok w0 ρ s w → a.defers = [] →
    (∀ ρ' a' w', Ok w0 ρ' s' w' → Post ρ s ρ' s' → Fr K N ρ' t' [] a' → a'.defers = [] → Q (exitE e) a' w') → c.wp P Q a w

theorem exists_least {p : Nat → Prop} (h : ∃ n, p n) : ∃ n, p n ∧ ∀ m, p m → n ≤ m := by
  obtain ⟨n, hn⟩ := h
  induction n using Nat.strongRecOn with
  | _ n ih =>
    by_cases hh : ∃ m, m < n ∧ p m
    · obtain ⟨m, hm, hp⟩ := hh; exact ih m hm hp
    · exact ⟨n, hn, fun m hm => Nat.le_of_not_lt fun hl => hh ⟨m, hl, hm⟩⟩

theorem ev_succ (sp : Nat → List V → S → Option OR) (tab : Tb) (f : Nat) (c : C) (t : Tr) (s : S) : ev sp tab (f + 1) c t s = evC c (callW sp tab (ev sp tab f)) (ev sp tab f) t s := rfl

theorem onBR_ok {u : V} {x y : R} {e : E} (h : onBR u x y = .done e t' s') : ∃ b, u = .bool b ∧ (if b then x else y) = .done e t' s' := by
  cases u <;> try (exfalso; exact R.noConfusion (show R.fail 80 = R.done e t' s' from h))
  rename_i b
  exact ⟨b, rfl, by cases b <;> exact h⟩

theorem code_ok (E : EnvOk P cf) (hd : DOk P cf cd) (hK : K >>> 65536 = 0) (sp : Nat → List V → S → Option OR) (tab : Tb) (F0 : Nat) (hcall : ∀ f, f < F0 → CallOk P w0 (callW sp tab (ev sp tab f))) :
    ∀ (f : Nat), f ≤ F0 → ∀ (c : Code) (x : C), compC cd cf K N c = some x → Sound P w0 K N c x (ev sp tab f) := by
  intro f
  induction f using Nat.strongRecOn with
  | _ f IH =>
  intro hf0 c x hx t s e t' s' ρ a w Q he F ok hdf hQ
  cases f with
  | zero => exact absurd he (by simp [ev])
  | succ f =>
  have ih := fun c x hx => IH f (Nat.lt_succ_self f) (by omega) c x hx
  have hcall := hcall f (by omega)
  rw [ev_succ] at he
  cases c <;> try simp only [compC] at hx
  case skip =>
    simp only [Option.some.injEq] at hx; subst hx
    have he : R.done .n t s = .done e t' s' := he
    simp only [R.done.injEq] at he
    obtain ⟨rfl, rfl, rfl⟩ := he
    exact wp_skip (hQ ρ a w ok (Post.refl ρ s) F hdf)
  case label l =>
    simp only [Option.some.injEq] at hx; subst hx
    have he : R.done .n t s = .done e t' s' := he
    simp only [R.done.injEq] at he
    obtain ⟨rfl, rfl, rfl⟩ := he
    exact wp_label (hQ ρ a w ok (Post.refl ρ s) F hdf)
  case ret =>
    simp only [Option.some.injEq] at hx; subst hx
    have he : R.done .r t s = .done e t' s' := he
    simp only [R.done.injEq] at he
    obtain ⟨rfl, rfl, rfl⟩ := he
    exact wp_ret (hQ ρ a w ok (Post.refl ρ s) F hdf)
  case exit id =>
    simp only [Option.some.injEq] at hx; subst hx
    have he : R.done (.b id) t s = .done e t' s' := he
    simp only [R.done.injEq] at he
    obtain ⟨rfl, rfl, rfl⟩ := he
    exact wp_exit (hQ ρ a w ok (Post.refl ρ s) F hdf)
  case region id ops draw =>
    cases draw
    · simp only [compC, Option.map_eq_some_iff] at hx
      obtain ⟨l, hl, rfl⟩ := hx
      have he : evL (callW sp tab (ev sp tab f)) l t s = .done e t' s' := he
      have key := fun Q hQ' => evL_ok (Q := Q) E hK hcall ops.toList [] l t s ρ a w hl F ok he hQ'
      have hen : e = .n := (key (fun _ _ _ => True) (fun _ _ _ _ _ _ _ => trivial)).1
      subst hen
      exact wp_region_list (key Q (fun ρ' a' w' ok' po F' hd' => hQ ρ' a' w' ok' po F' (by rw [hd', hdf]))).2
    · simp only [compC, Option.map_eq_some_iff] at hx
      obtain ⟨l, hl, rfl⟩ := hx
      have he : evDL (callW sp tab (ev sp tab f)) l t s [] = .done e t' s' := he
      obtain ⟨rfl, h2⟩ := hd.run w0 K N id ops l _ t s e t' s' ρ a w Q none 0 hl hK hcall F ok hdf he
      exact wpIn_wide.1 (h2 hQ)
  case seq c1 c2 =>
    split at hx
    · rename_i x1 x2 h1 h2
      simp only [Option.some.injEq] at hx; subst hx
      have he : seqK (ev sp tab f) x2 (ev sp tab f x1 t s) = .done e t' s' := he
      cases hr : ev sp tab f x1 t s with
      | fail n => rw [hr] at he; exact absurd he (by simp [seqK])
      | done e1 t1 s1 =>
        rw [hr] at he
        refine wp_seq (ih c1 x1 h1 t s e1 t1 s1 ρ a w _ hr F ok hdf ?_)
        intro ρ1 a1 w1 ok1 po1 F1 hd1
        cases e1 with
        | n =>
          have he : ev sp tab f x2 t1 s1 = .done e t' s' := he
          exact ih c2 x2 h2 t1 s1 e t' s' ρ1 a1 w1 Q he F1 ok1 hd1 (fun ρ2 a2 w2 ok2 po2 F2 hd2 => hQ ρ2 a2 w2 ok2 (po1.trans po2) F2 hd2)
        | r =>
          have he : R.done .r t1 s1 = .done e t' s' := he
          simp only [R.done.injEq] at he
          obtain ⟨rfl, rfl, rfl⟩ := he
          exact hQ ρ1 a1 w1 ok1 po1 F1 hd1
        | b id =>
          have he : R.done (.b id) t1 s1 = .done e t' s' := he
          simp only [R.done.injEq] at he
          obtain ⟨rfl, rfl, rfl⟩ := he
          exact hQ ρ1 a1 w1 ok1 po1 F1 hd1
    · exact absurd hx (by simp)
  case cond c0 c1 c2 =>
    split at hx
    · rename_i z x1 x2 h0 h1 h2
      simp only [Option.some.injEq] at hx; subst hx
      have he : onBR (z.ev t) (ev sp tab f x1 t s) (ev sp tab f x2 t s) = .done e t' s' := he
      obtain ⟨b, hb, he⟩ := onBR_ok he
      have hz := cx_ok hK F h0
      rw [hb] at hz
      have hz := OV_bool hz
      refine wp_cond hz ?_
      cases b
      · exact ih c2 x2 h2 t s e t' s' ρ a w Q he F ok hdf hQ
      · exact ih c1 x1 h1 t s e t' s' ρ a w Q he F ok hdf hQ
    · simp only [Option.some.injEq] at hx; subst hx
      exact absurd (show R.fail 96 = .done e t' s' from he) (by simp)
  case block id c1 =>
    simp only [Option.map_eq_some_iff] at hx
    obtain ⟨x1, h1, rfl⟩ := hx
    have he : blockK id (ev sp tab f x1 t s) = .done e t' s' := he
    cases hr : ev sp tab f x1 t s with
    | fail n => rw [hr] at he; exact absurd he (by simp [blockK])
    | done e1 t1 s1 =>
      rw [hr] at he
      refine wp_block (ih c1 x1 h1 t s e1 t1 s1 ρ a w _ hr F ok hdf ?_)
      intro ρ1 a1 w1 ok1 po1 F1 hd1
      cases e1 with
      | n =>
        have he : R.done .n t1 s1 = .done e t' s' := he
        simp only [R.done.injEq] at he
        obtain ⟨rfl, rfl, rfl⟩ := he
        exact hQ ρ1 a1 w1 ok1 po1 F1 hd1
      | r =>
        have he : R.done .r t1 s1 = .done e t' s' := he
        simp only [R.done.injEq] at he
        obtain ⟨rfl, rfl, rfl⟩ := he
        exact hQ ρ1 a1 w1 ok1 po1 F1 hd1
      | b j =>
        have he : bc (Nat.beq j id) (R.done .n t1 s1) (R.done (.b j) t1 s1) = .done e t' s' := he
        show (if j = id then Q .normal a1 w1 else Q (.exit j) a1 w1)
        rw [bc_eq, beq_eq] at he
        by_cases hj : j = id
        · rw [if_pos hj]
          rw [if_pos (by simpa using hj)] at he
          simp only [R.done.injEq] at he
          obtain ⟨rfl, rfl, rfl⟩ := he
          exact hQ ρ1 a1 w1 ok1 po1 F1 hd1
        · rw [if_neg hj]
          rw [if_neg (by simpa using hj)] at he
          simp only [R.done.injEq] at he
          obtain ⟨rfl, rfl, rfl⟩ := he
          exact hQ ρ1 a1 w1 ok1 po1 F1 hd1
  case scope c1 =>
    simp only [Option.map_eq_some_iff] at hx
    obtain ⟨x1, h1, rfl⟩ := hx
    have he : seqK (ev sp tab f) x1 (ev sp tab f .skip t s) = .done e t' s' := he
    cases f with
    | zero => exact absurd he (by simp [seqK, ev])
    | succ f =>
    have he : ev sp tab (f + 1) x1 t s = .done e t' s' := he
    refine wp_scope_straight (ih c1 x1 h1 t s e t' s' ρ a w _ he F ok hdf ?_)
    intro ρ1 a1 w1 ok1 po1 F1 hd1
    have := hQ ρ1 a1 w1 ok1 po1 F1 hd1
    cases e <;> exact this
  case loop c1 =>
    simp only [Option.map_eq_some_iff] at hx
    obtain ⟨x1, h1, rfl⟩ := hx
    let Inv : Nat → Act → World → Prop := fun n a1 w1 => n ≤ f + 1 ∧ ∃ ρ1 t1 s1, ev sp tab n (.loop x1) t1 s1 = .done e t' s' ∧ Fr K N ρ1 t1 [] a1 ∧ Ok w0 ρ1 s1 w1 ∧ a1.defers = [] ∧ Post ρ s ρ1 s1
    have hstart : Inv (f + 1) a w := ⟨Nat.le_refl _, ρ, t, s, by rw [ev_succ]; exact he, F, ok, hdf, Post.refl ρ s⟩
    classical
    refine wp_loop (fun a1 w1 => ∃ n, Inv n a1 w1) (fun a1 w1 => if h : ∃ n, Inv n a1 w1 then Classical.choose (exists_least h) else 0) ⟨f + 1, hstart⟩ ?_
    intro a1 w1 hI
    have hleast := Classical.choose_spec (exists_least hI)
    rw [dif_pos hI]
    generalize Classical.choose (exists_least hI) = n at hleast
    obtain ⟨⟨hn, ρ1, t1, s1, hev, F1, ok1, hd1, po1⟩, hmin⟩ := hleast
    cases n with
    | zero => exact absurd hev (by simp [ev])
    | succ n =>
    rw [ev_succ] at hev
    have hev : seqK (ev sp tab n) (.loop x1) (ev sp tab n x1 t1 s1) = .done e t' s' := hev
    cases hr : ev sp tab n x1 t1 s1 with
    | fail m => rw [hr] at hev; exact absurd hev (by simp [seqK])
    | done e2 t2 s2 =>
      rw [hr] at hev
      refine IH n (by omega) (by omega) c1 x1 h1 t1 s1 e2 t2 s2 ρ1 a1 w1 _ hr F1 ok1 hd1 ?_
      intro ρ2 a2 w2 ok2 po2 F2 hd2
      cases e2 with
      | n =>
        have hev : ev sp tab n (.loop x1) t2 s2 = .done e t' s' := hev
        have hI2 : Inv n a2 w2 := ⟨by omega, ρ2, t2, s2, hev, F2, ok2, hd2, po1.trans po2⟩
        have hex : ∃ n, Inv n a2 w2 := ⟨n, hI2⟩
        refine ⟨hex, ?_⟩
        rw [dif_pos hex]
        have := (Classical.choose_spec (exists_least hex)).2 n hI2
        omega
      | r =>
        have hev : R.done .r t2 s2 = .done e t' s' := hev
        simp only [R.done.injEq] at hev
        obtain ⟨rfl, rfl, rfl⟩ := hev
        exact hQ ρ2 a2 w2 ok2 (po1.trans po2) F2 hd2
      | b id =>
        have hev : R.done (.b id) t2 s2 = .done e t' s' := hev
        simp only [R.done.injEq] at hev
        obtain ⟨rfl, rfl, rfl⟩ := hev
        exact hQ ρ2 a2 w2 ok2 (po1.trans po2) F2 hd2
  case rangeFunc g ps c1 c2 =>
    split at hx
    · simp only [Option.some.injEq] at hx; subst hx
      exact absurd (show R.fail 98 = .done e t' s' from he) (by simp)
    · simp only [Option.some.injEq] at hx; subst hx
      exact absurd (show R.fail 96 = .done e t' s' from he) (by simp)
  all_goals (simp only [Option.some.injEq] at hx; subst hx; exact absurd (show R.fail 96 = .done e t' s' from he) (by simp))
end
end
end Go.Ev
namespace Go.Ev
variable [Sy]
section
variable {P : Program} {cd : Nat → Nat → Nat → Array Oper → Option DL} {cf : Cf} {w0 : Bs} {w : World} {ρ ρ' : Rho} {s s' : S} {v : V} {a : Act} {t t' : Tr} {call : CallT} {K N : Nat}

theorem inits_get : ∀ (vs : List V) (i m : Nat) (t : Tr), i + vs.length ≤ 65536 → m < 65536 → getP (path m) (inits vs i t) = if i ≤ m ∧ m < i + vs.length then (vs[m - i]?).getD .undef else getP (path m) t
  | [], i, m, t, _, _ => by simp [inits]; omega
  | v :: vs, i, m, t, h, hm => by
    simp only [List.length_cons] at h
    simp only [inits, Tr.force_eq]
    rw [inits_get vs (i + 1) m _ (by omega) hm, getP_putP]
    by_cases h1 : m = i
    · subst h1
      rw [if_neg (by omega), if_pos rfl, if_pos (by simp)]; simp
    · have h2 : path m ≠ path i := fun hh => h1 (path_inj hm (by omega) hh)
      by_cases h3 : i + 1 ≤ m ∧ m < i + 1 + vs.length
      · rw [if_pos h3, if_pos (by simp; omega)]
        have : m - i = (m - (i + 1)) + 1 := by omega
        rw [this]; simp
      · rw [if_neg h3, if_neg h2, if_neg (by simp; omega)]

theorem inits_fr {xs : List Value} {l : List V} (hl : vals ρ l = some xs) (hn : l.length ≤ N) (hN : N < 65536) : Fr K N ρ (inits l 0 .leaf) [] { tmps := xs.toArray ++ Array.replicate (N - xs.toArray.size) undef, defers := [] } := by
  have hlen := vals_length hl
  refine ⟨by simp; omega, fun m _ hm => ?_, fun n x hx => by simp at hx⟩
  rw [inits_get l 0 m .leaf (by omega) hm, getP_leaf]
  split
  · rename_i hr
    obtain ⟨u, hu⟩ : ∃ u, l[m]? = some u := ⟨l[m]'(by omega), by simp⟩
    obtain ⟨y, hy, hv⟩ := vals_get hl hu
    rw [Nat.sub_zero, hu, Option.getD_some]
    right
    rw [hv]
    have : m < xs.toArray.size := by simp; omega
    simp only [Array.getD_eq_getD_getElem?]
    rw [Array.getElem?_append_left this]
    simp [hy]
  · exact .inl rfl

def resultSem (tmps : Array Value) : ResultVar → Sem Value
  | .tmp t => pure (tmps.getD t undef)
  | .cell a t => do loadVar t (← asAddr (tmps.getD a undef))
theorem results_eq (fn : Func) (tmps : Array Value) : results fn tmps = (do
    let vs ← fn.results.mapM (resultSem tmps)
    pure (if h : vs.size = 1 then vs[0] else .tuple vs)) := by
  unfold results
  congr 1

theorem res_ok (E : EnvOk P cf) (hK : K >>> 65536 = 0) (F : Fr K N ρ t [] a) (ok : Ok w0 ρ s w) : ∀ {rs : List ResultVar} {vs : List RV} {k : List V → OR}, compR cf K rs = some vs → resVs t s vs k = .ok v s' →
    ∃ l xs, vals ρ l = some xs ∧ k l = .ok v s' ∧ (rs.mapM (resultSem a.tmps)).run P w = .ok xs w
  | [], vs, k, h, hr => by
    simp only [compR, Option.some.injEq] at h; subst h
    exact ⟨[], [], by simp [vals], hr, by simp⟩
  | .tmp n :: rs, vs, k, h, hr => by
    simp only [compR] at h
    obtain ⟨hb, h⟩ := ask_ok h
    simp only [Option.map_eq_some_iff] at h
    obtain ⟨vs', hvs, rfl⟩ := h
    simp only [resVs, resV] at hr
    obtain ⟨hd, hr⟩ := bc_ok hr
    obtain ⟨l, xs, hl, hk, hrun⟩ := res_ok E hK F ok hvs hr
    have hx := F.tmps n hb (bound_of hK hb)
    have hne : getP (path n) t ≠ .undef := by intro hh; rw [hh] at hd; simp [dfn] at hd
    exact ⟨getP (path n) t :: l, a.tmps.getD n undef :: xs, vals_cons.2 ⟨_, _, rfl, hx.get hne, hl⟩, hk, by simp [resultSem, hrun]⟩
  | .cell n ty :: rs, vs, k, h, hr => by
    simp only [compR] at h
    obtain ⟨hb, h⟩ := ask_ok h
    have hx := F.tmps n hb (bound_of hK hb)
    split at h
    · rename_i d i hd hi
      have hu := und_ok E hd
      split at h
      · rename_i hg
        simp only [Option.map_eq_some_iff] at h
        obtain ⟨vs', hvs, rfl⟩ := h
        simp only [resVs, resV] at hr
        obtain ⟨b, q, hp, hr⟩ := onPtr_ok hr
        obtain ⟨c, hc, hr⟩ := cellsOf_ok hr
        obtain ⟨l0, hl0, hj, hr⟩ := rd_ok hr
        rw [hp] at hx
        obtain ⟨p, hpb, hx⟩ := OV_ptr hx
        obtain ⟨arr, e, fz, r⟩ := ok.row hpb hc
        obtain ⟨ys, hys, hrun0⟩ := r.loads P q i.size 0 #[] l0 hl0 (by simpa using hj)
        obtain ⟨l, xs, hl, hk, hrun⟩ := res_ok E hK F ok hvs hr
        refine ⟨.agg l0 :: l, .agg ys.toArray :: xs, vals_cons.2 ⟨_, _, rfl, by simp [val, hys], hl⟩, by simpa using hk, ?_⟩
        simp [resultSem, hx, asAddr, loadVar, run_isAgg hu, hg, run_sizeOf (E.tt _ _ hi), loadCells, hrun0, hrun]
      · rename_i hg
        simp only [Option.map_eq_some_iff] at h
        obtain ⟨vs', hvs, rfl⟩ := h
        simp only [resVs, resV] at hr
        obtain ⟨b, q, hp, hr⟩ := onPtr_ok hr
        obtain ⟨c, hc, hr⟩ := cellsOf_ok hr
        obtain ⟨h1, hr⟩ := okV_ok hr
        rw [hp] at hx
        obtain ⟨p, hpb, hx⟩ := OV_ptr hx
        obtain ⟨arr, e, fz, r⟩ := ok.row hpb hc
        obtain ⟨y, hy, hcell, _, _⟩ := r.there h1
        obtain ⟨l, xs, hl, hk, hrun⟩ := res_ok E hK F ok hvs hr
        refine ⟨c.get q :: l, y :: xs, vals_cons.2 ⟨_, _, rfl, hy, hl⟩, hk, ?_⟩
        simp [resultSem, hx, asAddr, loadVar, run_isAgg hu, hg, hcell, hrun]
    · exact absurd h (by simp)

theorem one_ok {l : List V} {xs : List Value} (hl : vals ρ l = some xs) (h : one s l = .ok v s') : s = s' ∧ val ρ v = some (if h : xs.toArray.size = 1 then xs.toArray[0] else .tuple xs.toArray) := by
  cases l with
  | nil =>
    rw [vals_nil] at hl; subst hl
    simp only [one, OR.ok.injEq] at h
    obtain ⟨rfl, rfl⟩ := h
    exact ⟨rfl, by simp [val, vals]⟩
  | cons u l =>
    obtain ⟨x, xs', rfl, hx, hxs⟩ := vals_cons.1 hl
    cases l with
    | nil =>
      rw [vals_nil] at hxs; subst hxs
      simp only [one, OR.ok.injEq] at h
      obtain ⟨rfl, rfl⟩ := h
      exact ⟨rfl, by simpa using hx⟩
    | cons u2 l =>
      simp only [one, OR.ok.injEq] at h
      obtain ⟨rfl, rfl⟩ := h
      obtain ⟨y, ys, rfl, _, _⟩ := vals_cons.1 hxs
      refine ⟨rfl, ?_⟩
      rw [dif_neg (by simp)]
      simp only [val, hl]

structure TabOk (P : Program) (cf : Cf) (cd : Nat → Nat → Nat → Array Oper → Option DL) (tab : Tb) : Prop where
  fn : ∀ f body res n, tab.get f = .mk body res n → FnOk P cf cd f body res n
structure SpOk (P : Program) (sp : Nat → List V → S → Option OR) : Prop where
  fn : ∀ w0 f l s v s' ρ w xs, sp f l s = some (.ok v s') → Ok w0 ρ s w → vals ρ l = some xs → CallR P w0 f xs ρ s w v s'

theorem callR_of (E : EnvOk P cf) {f : FuncId} {body : C} {res : List RV} {n : Nat} (hf : FnOk P cf cd f body res n) {h : IH} (hs : ∀ c K, compC cd cf K n c = some body → K >>> 65536 = 0 → Sound P w0 K n c body h) {l : List V} {xs : List Value}
    (ok : Ok w0 ρ s w) (hl : vals ρ l = some xs) (he : callF h l s (.mk body res n) = .ok v s') : CallR P w0 f xs ρ s w v s' := by
  refine ⟨hf.enter, ?_⟩
  obtain ⟨fn, c, K, hfn, hb, hn, hc, hr, hK⟩ := hf.out
  simp only [callF] at he
  obtain ⟨hle, he⟩ := bc_ok he
  simp only [ble_eq, decide_eq_true_eq, lenN_eq] at hle
  have F := inits_fr (K := K) hl hle hf.small
  refine calls_of_wp hfn hb ?_
  rw [hn]
  cases hev : h body (inits l 0 .leaf) s with
  | fail m => rw [hev] at he; exact absurd he (by simp [fin])
  | done e t1 s1 =>
    rw [hev] at he
    have key : (e = .n ∨ e = .r) ∧ resVs t1 s1 res (one s1) = .ok v s' := by
      cases e with
      | n => exact ⟨.inl rfl, he⟩
      | r => exact ⟨.inr rfl, he⟩
      | b id => exact absurd he (by simp [fin])
    refine hs c K hc hK _ _ _ _ _ _ _ _ _ hev F ok rfl ?_
    intro ρ1 a1 w1 ok1 po1 F1 hd1
    obtain ⟨l1, xs1, hl1, hk1, hrun⟩ := res_ok E hK F1 ok1 hr key.2
    obtain ⟨rfl, hv⟩ := one_ok hl1 hk1
    have hres : (results fn a1.tmps).run P w1 = .ok (if h : xs1.toArray.size = 1 then xs1.toArray[0] else .tuple xs1.toArray) w1 := by
      rw [results_eq, Sem.run_bind, Array.mapM_eq_mapM_toList, Sem.run_map, hrun]
      rfl
    rcases key.1 with rfl | rfl
    · exact ⟨hd1, _, hres, ρ1, _, rfl, ok1, po1, hv⟩
    · exact ⟨hd1, _, hres, ρ1, _, rfl, ok1, po1, hv⟩

theorem call_ok (E : EnvOk P cf) (hd : DOk P cf cd) (sp : Nat → List V → S → Option OR) (tab : Tb) (hsp : SpOk P sp) (ht : TabOk P cf cd tab) : ∀ (f : Nat), CallOk P w0 (callW sp tab (ev sp tab f)) := by
  intro f
  induction f using Nat.strongRecOn with
  | _ f IH =>
  intro g l s v s' ρ w xs he ok hl
  simp only [callW] at he
  split at he
  · rename_i r hr
    subst he
    exact hsp.fn w0 g l s v s' ρ w xs hr ok hl
  · cases hg : tab.get g with
    | no => rw [hg] at he; exact absurd he (by simp [callF])
    | mk body res n =>
      rw [hg] at he
      exact callR_of E (ht.fn g body res n hg) (fun c K hc hK => code_ok E hd hK sp tab f IH f (Nat.le_refl _) c body hc) ok hl he

/- a whole run -/
theorem run_ok (E : EnvOk P cf) (hd : DOk P cf cd) (sp : Nat → List V → S → Option OR) (tab : Tb) (hsp : SpOk P sp) (ht : TabOk P cf cd tab) {f g : Nat} {l : List V} {xs : List Value} (ok : Ok w0 ρ s w) (hl : vals ρ l = some xs)
    (he : run sp tab f g l s = .ok v s') : CallR P w0 g xs ρ s w v s' := call_ok E hd sp tab hsp ht f g l s v s' ρ w xs he ok hl

/- a run from nothing -/
theorem ok_start (w : World) : Ok (Bs.of w) (fun _ => none) (.mk .leaf 0) w :=
  ⟨fun k p h => by simp at h, fun k k' p p' h => by simp at h, fun k p h => by simp at h, fun k _ => rfl, fun k _ => rfl, fun r o h => h, rfl, rfl, rfl⟩
end
end Go.Ev
namespace Go.Ev
variable [Sy]
noncomputable section
/- what must be done ahead of each operation: a number's bits -/
def ancOf (acc : List Nat) : List Edge → Nat
  | [] => 0
  | e :: es => match Region.binds .any e with
    | true => Nat.lor (Nat.lor (Nat.pow 2 e.on) ((nth e.on acc).getD 0)) (ancOf acc es)
    | false => ancOf acc es
def ancs : List Oper → List Nat → List Nat
  | [], acc => acc
  | o :: os, acc => ancs os (app acc [ancOf acc o.after.toList])
def opMask : List Operand → Nat
  | [] => 0
  | .tmp t :: xs => Nat.lor (Nat.pow 2 t) (opMask xs)
  | _ :: xs => opMask xs
def opTmps : List Operand → List Pt
  | [] => []
  | .tmp t :: xs => path t :: opTmps xs
  | _ :: xs => opTmps xs
def kindOf (anc : Nat) (ps : List Pt) : O → Option DK
  | .mv _ | .pick .. | .build .. | .nilck _ | .bin .. | .binS .. | .binB .. | .eqN .. | .eqP .. | .eqA .. | .bnot _ | .ineg _ | .conv .. | .mkif .. | .mkfn .. | .slcS .. | .slc .. | .slca .. | .fa .. | .fld .. | .flda ..
  | .ia .. | .iaa .. | .ixs .. | .ixa .. | .ixaa .. | .ext .. | .tass .. | .lenS _ | .lenL _ | .alen _ | .minI .. | .maxI .. => some .pure
  | .ld _ | .lda .. | .lkp .. => some .read
  | .alloc _ | .box _ | .mkmap | .bslice .. | .mkslice .. => some (.make ps)
  | .call .. | .callv .. | .st .. | .sta .. | .mup .. | .app .. | .copy .. | .clear .. => some (.act anc)
  | .bad => some .pure
  | _ => none
def isAct : DK → Bool
  | .act _ => true
  | _ => false
section
variable (cf : Cf) (K N : Nat)
def itemOf (ops : List Oper) (as : List Nat) (i : Nat) : Option It :=
  (nth i ops).bind fun o => (nth i as).bind fun anc => ask (Nat.beq (Nat.land (opMask o.op.operands.toList) K) (opMask o.op.operands.toList))
    ((some ((compB cf (opMask o.op.operands.toList) [] o.op).getD .bad)).bind fun c => (dstOf K N o.dst).bind fun d => (kindOf anc (opTmps o.op.operands.toList) c).bind fun k => match o.guard with
      | none => some ⟨i, k, d, c, .no⟩
      | some (j, want) => (nth j ops).bind fun g => g.dst.bind fun gd => ask (Nat.testBit K gd) (some ⟨i, k, d, c, .b (path gd) want⟩))
def itemsOf (ops : List Oper) (as : List Nat) : List Nat → Option (List It)
  | [] => some []
  | i :: is => (itemOf cf K N ops as i).bind fun x => (itemsOf ops as is).bind fun xs => some (x :: xs)
/- the first of the open ones that may be done: first what changes nothing -/
def isActOp (o : Oper) : Bool := match o.op with
  | .call { callee := .builtin .append, .. } | .call { callee := .builtin .copy, .. } | .call { callee := .builtin .clear, .. } | .call { callee := .value _, .. } | .store .. | .mapUpdate .. => true
  | _ => false
def pickOne (ops : List Oper) (as : List Nat) (done : Nat) (acts : Bool) : List Nat → Option Nat
  | [] => none
  | i :: is => match nth i ops, nth i as with
    | some o, some anc => bc (bc (Nat.testBit done i) false (bc (Nat.beq (Nat.land anc done) anc) (bc acts true (bnotB (isActOp o))) false)) (some i) (pickOne ops as done acts is)
    | _, _ => none
def orderOf (ops : List Oper) (as : List Nat) (all : List Nat) : Nat → Nat → List Nat
  | 0, _ => []
  | f + 1, done => match pickOne ops as done false all with
    | some i => i :: orderOf ops as all f (Nat.lor done (Nat.pow 2 i))
    | none => match pickOne ops as done true all with
      | some i => i :: orderOf ops as all f (Nat.lor done (Nat.pow 2 i))
      | none => []
def upto : Nat → List Nat
  | 0 => []
  | n + 1 => app (upto n) [n]
/- two operations of which one names what the other writes are in one order -/
def gdOf (ops : List Oper) (o : Oper) : Option Nat := match o.guard with
  | none => none
  | some (j, _) => (nth j ops).bind fun g => g.dst
def readsT (o : Oper) (ops : List Oper) (d : Nat) : Bool := Nat.testBit (opMask o.op.operands.toList) d || (match gdOf ops o with
  | none => false
  | some gd => Nat.beq gd d)
/- x is done ahead of y; 'b': x is bound to be done ahead of y -/
def pairA (ops : List Oper) (x y : Oper) (b : Bool) : Bool := match x.dst with
  | none => true
  | some d => bc (readsT y ops d) b true && (match y.dst with
    | none => true
    | some e => bnotB (Nat.beq d e))
def pairB (ops : List Oper) (x y : Oper) (b : Bool) : Bool := match y.dst with
  | none => true
  | some e => bc (readsT x ops e) b true
def okPair (ops : List Oper) (as : List Nat) (p q : It) : Bool := match nth p.i ops, nth q.i ops, nth q.i as with
  | some x, some y, some aq => pairA ops x y (Nat.testBit aq p.i) && pairB ops x y (Nat.testBit aq p.i) && bc (isAct p.k) (Nat.testBit aq p.i) true
  | _, _, _ => false
def okFrom (ops : List Oper) (as : List Nat) (p : It) : List It → Bool
  | [] => true
  | q :: qs => bc (okPair ops as p q) (okFrom ops as p qs) false
def okAll (ops : List Oper) (as : List Nat) : List It → Bool
  | [] => true
  | p :: qs => bc (okFrom ops as p qs) (okAll ops as qs) false
def perm (n : Nat) : List It → Nat → Bool
  | [], done => Nat.beq done (Nat.sub (Nat.pow 2 n) 1)
  | x :: is, done => bc (Nat.blt x.i n) (bc (Nat.testBit done x.i) false (perm n is (Nat.lor done (Nat.pow 2 x.i)))) false
def backEs (i : Nat) : List Edge → Bool
  | [] => true
  | e :: es => bc (bc (Region.binds .any e) (Nat.blt e.on i) true) (backEs i es) false
def backOnly : List Oper → Nat → Bool
  | [], _ => true
  | o :: os, i => bc (backEs i o.after.toList) (backOnly os (Nat.succ i)) false
def compD (K N : Nat) (_ : Nat) (ops : Array Oper) : Option DL :=
  match ancs ops.toList [] with
  | as => (itemsOf cf K N ops.toList as (orderOf ops.toList as (upto (lenN ops.toList)) (lenN ops.toList) 0)).bind fun l =>
    ask (backOnly ops.toList 0) (ask (perm (lenN ops.toList) l 0) (ask (okAll ops.toList as l) (some l)))
end
end
end Go.Ev
namespace Go.Ev
variable [Sy]
noncomputable section
/- the answer's value, or its fault, is the same in any state -/
def Unif (f : S → OR) : Prop := (∃ v, ∀ s, f s = .ok v s) ∨ (∃ n, ∀ s, f s = .fail n)
theorem Unif.ok (v : V) : Unif fun s => .ok v s := .inl ⟨v, fun _ => rfl⟩
theorem Unif.fail (n : Nat) : Unif fun _ => .fail n := .inr ⟨n, fun _ => rfl⟩
theorem Unif.bc {f g : S → OR} (b : Bool) (h1 : Unif f) (h2 : Unif g) : Unif fun s => Ev.bc b (f s) (g s) := by cases b <;> assumption
theorem Unif.nat {f : Nat → S → OR} (n : Nat) (h : ∀ n, Unif (f n)) : Unif fun s => Ev.nat n fun n => f n s := by simp only [nat_eq]; exact h n
theorem Unif.int {f : Int → S → OR} (n : Int) (h : ∀ n, Unif (f n)) : Unif fun s => Ev.int n fun n => f n s := by simp only [int_eq]; exact h n
theorem Unif.onI {f : IntKind → Int → S → OR} (v : V) (h : ∀ a b, Unif (f a b)) : Unif fun s => Ev.onI v fun a b => f a b s := by cases v <;> first | exact h _ _ | exact .fail 7
theorem Unif.onI' {f : IntKind → Int → S → OR} {d : S → OR} (v : V) (hd : Unif d) (h : ∀ a b, Unif (f a b)) : Unif fun s => Ev.onI' v (d s) fun a b => f a b s := by cases v <;> first | exact h _ _ | exact hd
theorem Unif.onB {f : Bool → S → OR} (v : V) (h : ∀ a, Unif (f a)) : Unif fun s => Ev.onB v fun a => f a s := by cases v <;> first | exact h _ | exact .fail 8
theorem Unif.onStr {f : List Nat → S → OR} (v : V) (h : ∀ a, Unif (f a)) : Unif fun s => Ev.onStr v fun a => f a s := by cases v <;> first | exact h _ | exact .fail 5
theorem Unif.onSs {f : Nat → List Nat → S → OR} {d : S → OR} (v : V) (h : ∀ a b, Unif (f a b)) (hd : Unif d) : Unif fun s => Ev.onSs v (fun a b => f a b s) (d s) := by cases v <;> first | exact h _ _ | exact hd
theorem Unif.onAgg {f : List V → S → OR} (v : V) (h : ∀ a, Unif (f a)) : Unif fun s => Ev.onAgg v fun a => f a s := by cases v <;> first | exact h _ | exact .fail 6
theorem Unif.onPtr {f : Nat → Nat → S → OR} (v : V) (h : ∀ a b, Unif (f a b)) : Unif fun s => Ev.onPtr v fun a b => f a b s := by cases v <;> first | exact h _ _ | exact .fail 3
theorem Unif.onSome {α : Type} {f : α → S → OR} (v : Option α) (h : ∀ a, Unif (f a)) : Unif fun s => Ev.onSome v fun a => f a s := by cases v <;> first | exact h _ | exact .fail 9
theorem Unif.onInt {f : Nat → S → OR} (v : V) (h : ∀ a, Unif (f a)) : Unif fun s => Ev.onInt v fun a => f a s := by
  cases v <;> first | exact .fail 4 | skip
  rename_i k z; cases z <;> first | exact h _ | exact .fail 4
theorem Unif.onOX {f : Nat → S → OR} (t : Tr) (d : Nat) (x : OX) (h : ∀ a, Unif (f a)) : Unif fun s => Ev.onOX t d x fun a => f a s := by
  cases x
  · exact h _
  · exact .onInt _ h
theorem Unif.evs (t : Tr) : ∀ (xs : List X) (f : List V → S → OR), (∀ a, Unif (f a)) → Unif fun s => Ev.evs t xs fun a => f a s
  | [], _, h => h []
  | x :: xs, f, h => .bc _ (Unif.evs t xs (fun l => f (x.ev t :: l)) fun _ => h _) (.fail 90)
theorem Unif.retB (b : Bool) : Unif fun s => Ev.retB b s := by cases b <;> exact .ok _
theorem Unif.retI (k : IntKind) (z : Int) : Unif fun s => Ev.retI k z s := .int _ fun _ => .ok _
theorem Unif.lkpR (ok : Bool) (v : V) (b : Bool) : Unif fun s => Ev.lkpR ok v b s := .bc _ (.ok _) (.ok _)
theorem Unif.use {f : S → OR} (h : Unif f) {s s' : S} {v : V} (he : f s = .ok v s') : s' = s ∧ ∀ s2, f s2 = .ok v s2 := by
  rcases h with ⟨u, h⟩ | ⟨n, h⟩
  · rw [h] at he
    simp only [OR.ok.injEq] at he
    obtain ⟨rfl, rfl⟩ := he
    exact ⟨rfl, h⟩
  · rw [h] at he; exact absurd he (by simp)
theorem Unif.slice3 (e b o l c x h : Nat) : Unif fun s => Ev.slice3 e b o l c x h s := .bc _ (.bc _ (.nat _ fun _ => .nat _ fun _ => .nat _ fun _ => .ok _) (.fail _)) (.fail _)
theorem Unif.slice4 (e b o l x h : Nat) : Unif fun s => Ev.slice4 e b o l x h s := .bc _ (.bc _ (.nat _ fun _ => .nat _ fun _ => .ok _) (.fail _)) (.fail _)

theorem binI_unif (op : BinOp) (k : IntKind) (a b : Int) : Unif fun s => binI op k a b s := by
  cases op
  case shl => show Unif (bI_shl k a b); cases b; exact .retI _ _; exact .fail _
  case shr => show Unif (bI_shr k a b); cases b; exact .int (f := fun z s => .ok (.int k z) s) _ fun _ => .ok _; exact .fail _
  case quo => exact .bc _ (.fail _) (.retI _ _)
  case rem => exact .bc _ (.fail _) (.int _ fun _ => .ok _)
  all_goals first | exact .retI _ _ | exact .retB _
theorem pure_unif {o : O} {anc : Nat} {ps : List Pt} (h : kindOf anc ps o = some .pure) (c : CallT) (t : Tr) : Unif fun s => evO o c t s := by
  cases o <;> simp only [kindOf, reduceCtorEq, Option.some.injEq] at h
  case mv x => exact .ok _
  case pick c a b => exact .onB _ fun _ => .bc _ (.ok _) (.ok _)
  case build z ps => exact .onSome _ fun _ => .ok _
  case nilck x =>
    show Unif fun s => o_nilck x c t s
    unfold o_nilck
    generalize x.ev t = v
    cases v <;> first | exact .fail _ | exact .ok _
  case bin op x y => exact .onI' _ (.onSome _ fun _ => .ok _) fun _ _ => .onI' _ (.onSome _ fun _ => .ok _) fun _ _ => .bc _ (binI_unif ..) (.bc _ (binI_unif ..) (.fail _))
  case binS op x y =>
    refine .onSs (d := fun s => onStr (x.ev t) fun a => onStr (y.ev t) fun b => strOp op a b s) _ (fun i a => .onStr _ fun b => ?_) (.onStr _ fun a => .onStr _ fun b => ?_)
    · cases op <;> first | exact .fail _ | exact .bc _ (.ok _) (.fail _)
    · cases op <;> first | exact .retB _ | exact .onSome _ fun _ => .retB _ | exact .fail _ | exact .bc _ (.ok _) (.fail _)
  case binB op x y =>
    refine .onB _ fun a => .onB _ fun b => ?_
    cases op <;> first | exact .retB _ | exact .fail _
  case eqN neg k x y => exact .onSome _ fun _ => .onSome _ fun _ => .bc _ (.retB _) (.bc _ (.retB _) (.fail _))
  case eqP neg x y => exact .onPtr _ fun _ _ => .onPtr _ fun _ _ => .bc _ (.bc _ (.retB _) (.fail _)) (.fail _)
  case eqA neg sh x y =>
    have hs : ∀ a b, Unif fun s => eqAS neg sh a b s := fun a b => .bc _ (.bc _ (.onSome _ fun _ => .retB _) (.fail _)) (.fail _)
    exact .onAgg _ fun _ => .onAgg _ fun _ => .bc _ (.bc _ (.retB _) (hs _ _)) (hs _ _)
  case bnot x => exact .onB _ fun _ => .retB _
  case ineg x => exact .onI _ fun _ _ => .retI _ _
  case conv k x => exact .onI' _ (.onSome _ fun _ => .ok _) fun _ _ => .retI _ _
  case mkif ty x => exact .bc _ (.ok _) (.fail _)
  case mkfn f a b => exact .evs _ _ (fun a s => evs t b fun b => .ok (.func f a b) s) fun a => .evs _ _ (fun b s => .ok (.func f a b) s) fun _ => .ok _
  case slcS x lo hi => exact .onStr _ fun _ => .onOX _ _ _ fun _ => .onOX _ _ _ fun _ => .bc _ (.bc _ (.ok _) (.fail _)) (.fail _)
  case slc e x lo hi =>
    show Unif fun s => o_slc e x lo hi c t s
    unfold o_slc
    generalize x.ev t = v
    cases v <;> first
      | exact .fail _
      | exact .onOX _ _ _ fun _ => .onOX _ _ _ fun _ => .bc _ (.bc _ (.bc _ (.ok _) (.fail _)) (.fail _)) (.slice3 ..)
      | exact .onOX _ _ _ fun _ => .onOX _ _ _ fun _ => .bc _ (.bc _ (.bc _ (.ok _) (.fail _)) (.slice4 ..)) (.fail _)
      | exact .onOX _ _ _ fun _ => .onOX _ _ _ fun _ => .bc _ (.bc _ (.ok _) (.fail _)) (.fail _)
  case slca e n x lo hi => exact .onPtr _ fun _ _ => .onOX _ _ _ fun _ => .onOX _ _ _ fun _ => .bc _ (.fail _) (.slice3 ..)
  case fa off x => exact .onPtr _ fun _ _ => .nat _ fun _ => .ok _
  case fld off x => exact .onAgg _ fun _ => .onSome _ fun _ => .ok _
  case flda off n x => exact .onAgg _ fun _ => .ok _
  case ia e x i =>
    refine .onInt _ fun j => ?_
    generalize x.ev t = v
    cases v <;> first | exact .fail _ | exact .bc _ (.nat _ fun _ => .ok _) (.fail _)
  case iaa e l x i => exact .onInt _ fun _ => .onPtr _ fun _ _ => .bc _ (.nat _ fun _ => .ok _) (.fail _)
  case ixs x i => exact .onInt _ fun _ => .onStr _ fun _ => .onSome _ fun _ => .ok _
  case ixa n x i => exact .onInt _ fun _ => .onAgg _ fun _ => .bc _ (.onSome _ fun _ => .ok _) (.fail _)
  case ixaa e n x i => exact .onInt _ fun _ => .onAgg _ fun _ => .bc _ (.ok _) (.fail _)
  case ext n x =>
    show Unif fun s => o_ext n x c t s
    unfold o_ext
    generalize x.ev t = v
    cases v <;> first | exact .fail _ | exact .onSome _ fun _ => .ok _
  case tass ty z ok x =>
    show Unif fun s => o_tass ty z ok x c t s
    unfold o_tass
    generalize x.ev t = v
    cases v <;> first | exact .fail _ | exact .bc _ (.lkpR ..) (.fail _) | exact .bc _ (.lkpR ..) (.bc _ (.lkpR ..) (.fail _))
  case lenS x => exact .onStr _ fun _ => .nat _ fun _ => .ok _
  case lenL x =>
    show Unif fun s => o_lenL x c t s
    unfold o_lenL
    generalize x.ev t = v
    cases v <;> first | exact .fail _ | exact .ok _
  case alen n => exact .ok _
  case minI x y => exact .onI _ fun _ _ => .onI _ fun _ _ => .bc _ (.ok _) (.ok _)
  case maxI x y => exact .onI _ fun _ _ => .onI _ fun _ _ => .bc _ (.ok _) (.ok _)
  case bad => exact .fail _
theorem read_same {o : O} {anc : Nat} {ps : List Pt} (h : kindOf anc ps o = some .read) {c : CallT} {t : Tr} {s s' : S} {v : V} (he : evO o c t s = .ok v s') : s' = s := by
  cases o <;> simp only [kindOf, reduceCtorEq, Option.some.injEq] at h
  case ld x =>
    obtain ⟨b, q, _, he⟩ := onPtr_ok (show o_ld x c t s = _ from he)
    obtain ⟨cs, _, he⟩ := onCR_ok he
    obtain ⟨_, he⟩ := okV_ok he
    simp only [OR.ok.injEq] at he; exact he.2.symm
  case lda n x =>
    obtain ⟨b, q, _, he⟩ := onPtr_ok (show o_lda n x c t s = _ from he)
    obtain ⟨cs, _, he⟩ := cellsOf_ok he
    obtain ⟨_, _, _, he⟩ := rd_ok he
    simp only [OR.ok.injEq] at he; exact he.2.symm
  case lkp kk z ok m k =>
    obtain ⟨_, he⟩ := bc_ok (show o_lkp kk z ok m k c t s = _ from he)
    have fin : ∀ {u b}, lkpR ok u b s = .ok v s' → s' = s := fun hh => (Unif.use (.lkpR ..) hh).1
    rcases onUni_ok he with he | ⟨r, es, _, _, he⟩
    case inr =>
      split at he
      · exact fin he
      · exact fin he
      · exact absurd he (by simp)
    unfold onMap at he
    split at he
    · exact fin he
    · split at he
      · dsimp only at he
        split at he
        · exact fin he
        · exact fin he
        · exact absurd he (by simp)
      · exact absurd he (by simp)
    · exact absurd he (by simp)
/- an operation that makes one block: the same wherever it is made -/
theorem make_one {o : O} {anc : Nat} {ps ps' : List Pt} (h : kindOf anc ps o = some (.make ps')) {c : CallT} {t : Tr} {s s' : S} {v : V} (he : evO o c t s = .ok v s') :
    ∃ C, s' = s.add C ∧ evO o c t (.mk .leaf s.next) = .ok v ((S.mk .leaf s.next).add C) ∧ ∀ ρ x, OV ρ v x → ∃ p, ρ s.next = some p := by
  have hP : ∀ {b o : Nat} {ρ : Rho} {x : Value}, OV ρ (.ptr b o) x → ∃ p, ρ b = some p := fun h => (OV_ptr h).imp fun _ h => h.1
  have hS : ∀ {b o l c : Nat} {ρ : Rho} {x : Value}, OV ρ (.slice b o l c) x → ∃ p, ρ b = some p := fun h => (OV_slice h).2.imp fun _ h => h.1
  cases o <;> simp only [kindOf, reduceCtorEq, Option.some.injEq] at h
  case alloc z =>
    have he : (news s (.cells z) fun b s => .ok (.ptr b 0) s) = .ok v s' := he
    rw [news_eq] at he
    simp only [OR.ok.injEq] at he
    obtain ⟨rfl, rfl⟩ := he
    refine ⟨_, rfl, ?_, fun ρ x => hP⟩
    show (news (S.mk .leaf s.next) (.cells z) fun b s => .ok (.ptr b 0) s) = _
    rw [news_eq]; rfl
  case box x =>
    obtain ⟨h1, he⟩ := bc_ok (show o_box x c t s = _ from he)
    rw [news_eq] at he
    simp only [OR.ok.injEq] at he
    obtain ⟨rfl, rfl⟩ := he
    refine ⟨_, rfl, ?_, fun ρ x => hP⟩
    show bc _ (news _ _ _) _ = _
    rw [h1, bc_true, news_eq]; rfl
  case bslice z l qs =>
    obtain ⟨cs, h1, he⟩ := onSome_ok (show o_bslice z l qs c t s = _ from he)
    rw [news_eq] at he
    simp only [OR.ok.injEq] at he
    obtain ⟨rfl, rfl⟩ := he
    refine ⟨_, rfl, ?_, fun ρ x => hS⟩
    show onSome _ _ = _
    rw [h1]
    show news (S.mk .leaf s.next) (.cells (wr .leaf 0 cs)) (fun b s => .ok (.slice b 0 l l) s) = _
    rw [news_eq]; rfl
  case mkmap =>
    have he : (news s (.map [] 0) fun b s => .ok (.map b) s) = .ok v s' := he
    rw [news_eq] at he
    simp only [OR.ok.injEq] at he
    obtain ⟨rfl, rfl⟩ := he
    refine ⟨_, rfl, ?_, fun ρ x hx => (OV_map hx).imp fun _ h => h.1⟩
    show (news (S.mk .leaf s.next) (.map [] 0) fun b s => .ok (.map b) s) = _
    rw [news_eq]; rfl
  case mkslice e b z l q =>
    obtain ⟨_, n, h1, he⟩ := onInt_ok (show o_mkslice e b z l q c t s = _ from he)
    obtain ⟨_, m, h2, he⟩ := onInt_ok he
    obtain ⟨h3, he⟩ := bc_ok he
    obtain ⟨h4, he⟩ := bc_ok he
    obtain ⟨h5, he⟩ := bc_ok he
    rw [news_eq] at he
    simp only [OR.ok.injEq] at he
    obtain ⟨rfl, rfl⟩ := he
    refine ⟨_, rfl, ?_, fun ρ x => hS⟩
    show onInt _ _ = _
    rw [h1]
    show onInt _ _ = _
    rw [h2]
    show bc _ _ _ = _
    rw [h3, bc_true, h4, bc_true, h5, bc_true, news_eq]; rfl

/- equal values -/
theorem beqS_eq' : ∀ {a b : List Nat}, beqS a b = true → a = b
  | [], [], _ => rfl
  | [], _ :: _, h => absurd h (by simp [beqS])
  | _ :: _, [], h => absurd h (by simp [beqS])
  | a :: x, b :: y, h => by
    have h : bc (Nat.beq a b) (beqS x y) false = true := h
    rw [bc_eq] at h
    split at h
    · rename_i h1
      rw [beq_eq, decide_eq_true_eq] at h1
      rw [h1, beqS_eq' h]
    · exact absurd h (by simp)
theorem bcT {a b : Bool} (h : bc a b false = true) : a = true ∧ b = true := by cases a <;> cases b <;> simp_all [bc]
theorem natT {a b : Nat} (h : Nat.beq a b = true) : a = b := Nat.eq_of_beq_eq_true h
theorem beqI_eq' {a b : Int} (h : beqI a b = true) : a = b := by
  cases a <;> cases b <;> first | exact congrArg _ (natT h) | exact absurd h (by simp [beqI])
theorem beqA_eq {a b : V} (h : beqA a b = true) : a = b := by
  cases a with
  | bool a =>
    cases b with
    | bool b => cases a <;> cases b <;> first | rfl | exact absurd h (by simp [beqA, isBoolV, beqB, bc])
    | _ => exact absurd h (by simp [beqA, isBoolV])
  | int j a =>
    cases b with
    | int k b =>
      obtain ⟨h1, h2⟩ := bcT (show bc (beqK j k) (beqI a b) false = true from h)
      rw [beqI_eq' h2]
      cases j <;> cases k <;> first | rfl | exact absurd h1 (by simp [beqK])
    | _ => exact absurd h (by simp [beqA, isIntV])
  | str a =>
    cases b with
    | str b => rw [beqS_eq' (show beqS a b = true from h)]
    | _ => exact absurd h (by simp [beqA, isStrV])
  | nilptr => cases b <;> first | rfl | exact absurd h (by simp [beqA, isNilptr])
  | ptr x y =>
    cases b with
    | ptr c d => obtain ⟨h1, h2⟩ := bcT (show bc (Nat.beq x c) (Nat.beq y d) false = true from h); rw [natT h1, natT h2]
    | _ => exact absurd h (by simp [beqA, isPtrV])
  | nilslice => cases b <;> first | rfl | exact absurd h (by simp [beqA, isNilslice])
  | slice x y z u =>
    cases b with
    | slice c d e f =>
      obtain ⟨h1, h⟩ := bcT (show bc (Nat.beq x c) (bc (Nat.beq y d) (bc (Nat.beq z e) (Nat.beq u f) false) false) false = true from h)
      obtain ⟨h2, h⟩ := bcT h
      obtain ⟨h3, h⟩ := bcT h
      rw [natT h1, natT h2, natT h3, natT h]
    | _ => exact absurd h (by simp [beqA, isSliceV])
  | fsl x y z u =>
    cases b with
    | fsl c d e f =>
      obtain ⟨h1, h⟩ := bcT (show bc (Nat.beq x c) (bc (Nat.beq y d) (bc (Nat.beq z e) (Nat.beq u f) false) false) false = true from h)
      obtain ⟨h2, h⟩ := bcT h
      obtain ⟨h3, h⟩ := bcT h
      rw [natT h1, natT h2, natT h3, natT h]
    | _ => exact absurd h (by simp [beqA, isFslV])
  | nilmap => cases b <;> first | rfl | exact absurd h (by simp [beqA, isNilmap])
  | map x =>
    cases b with
    | map c => rw [natT (show Nat.beq x c = true from h)]
    | _ => exact absurd h (by simp [beqA, isMapV])
  | nilFunc => cases b <;> first | rfl | exact absurd h (by simp [beqA, isNilFunc])
  | nilIface => cases b <;> first | rfl | exact absurd h (by simp [beqA, isNilIface])
  | undef => exact absurd h (by simp [beqA])
  | efs _ _ _ _ => exact absurd h (by simp [beqA])
  | func f x y =>
    cases x with
    | cons _ _ => cases y <;> exact absurd h (by simp [beqA])
    | nil =>
      cases y with
      | cons _ _ => exact absurd h (by simp [beqA])
      | nil =>
        cases b with
        | func g x y =>
          cases x with
          | cons _ _ => cases y <;> exact absurd h (by simp [beqA, isFunc0])
          | nil =>
            cases y with
            | cons _ _ => exact absurd h (by simp [beqA, isFunc0])
            | nil => rw [natT (show Nat.beq f g = true from h)]
        | _ => exact absurd h (by simp [beqA, isFunc0])
  | iface _ _ => exact absurd h (by simp [beqA])
  | agg _ => exact absurd h (by simp [beqA])
  | tuple _ => exact absurd h (by simp [beqA])
  | yld _ => exact absurd h (by simp [beqA])
  | bsym _ => exact absurd h (by simp [beqA])
  | ssym i a =>
    cases b with
    | ssym j b =>
      obtain ⟨h1, h2⟩ := bcT (show bc (Nat.beq i j) (beqS a b) false = true from h)
      rw [natT h1, beqS_eq' h2]
    | _ => exact absurd h (by simp [beqA, isSsymV])
  | sym i k =>
    cases b with
    | sym j l =>
      obtain ⟨h1, h2⟩ := bcT (show bc (Nat.beq i j) (beqK k l) false = true from h)
      rw [natT h1]
      cases k <;> cases l <;> first | rfl | exact absurd h2 (by simp [beqK])
    | _ => exact absurd h (by simp [beqA, isSymV])
theorem beqL_eq {f : V → V → Bool} (hf : ∀ {a b : V}, f a b = true → a = b) : ∀ {a b : List V}, beqL f a b = true → a = b
  | [], [], _ => rfl
  | [], _ :: _, h => absurd h (by simp [beqL])
  | _ :: _, [], h => absurd h (by simp [beqL])
  | a :: x, b :: y, h => by
    obtain ⟨h1, h2⟩ := bcT (show bc (f a b) (beqL f x y) false = true from h)
    rw [hf h1, beqL_eq hf h2]
theorem beqT1_eq {a b : V} (h : beqT1 a b = true) : a = b := by
  unfold beqT1 at h
  split at h
  · cases b with
    | agg y => rw [beqL_eq beqA_eq (show beqL beqA _ y = true from h)]
    | _ => exact absurd h (by simp [isAgg1])
  · exact beqA_eq h
theorem beqT_eq {a b : V} (h : beqT a b = true) : a = b := by
  unfold beqT at h
  split at h
  · cases b with
    | agg y => rw [beqL_eq beqT1_eq (show beqL beqT1 _ y = true from h)]
    | _ => exact absurd h (by simp [isAggT])
  · cases b with
    | tuple y => rw [beqL_eq beqT1_eq (show beqL beqT1 _ y = true from h)]
    | _ => exact absurd h (by simp [isTupT])
  · cases b with
    | func g c d =>
      obtain ⟨h1, h⟩ := bcT (show bc (Nat.beq _ g) (bc (beqL beqA _ c) (beqL beqA _ d) false) false = true from h)
      obtain ⟨h2, h3⟩ := bcT h
      rw [natT h1, beqL_eq beqA_eq h2, beqL_eq beqA_eq h3]
    | _ => exact absurd h (by simp [isFuncT])
  · exact beqA_eq h
theorem again_ok {s : S} : ∀ {l : List Wt} {x : Wt}, again s l = true → x ∈ l → ∃ s', evO x.o noCallT x.t s = .ok x.v s'
  | y :: l, x, h, hx => by
    unfold again at h
    split at h
    · rename_i v s1 hy
      obtain ⟨h1, h2⟩ := bcT h
      rcases List.mem_cons.1 hx with rfl | hx
      · exact ⟨s1, by rw [hy, beqT_eq h1]⟩
      · exact again_ok h2 hx
    · exact absurd h (by simp)
theorem unread_mem {b : Nat} : ∀ {l : List Wt} {x : Wt}, x ∈ l → Nat.testBit b x.i = false → x ∈ unread b l
  | y :: l, x, hx, hb => by
    have hu : unread b (y :: l) = bc (Nat.testBit b y.i) (unread b l) (y :: unread b l) := rfl
    rw [hu]
    rcases List.mem_cons.1 hx with rfl | hx
    · rw [hb]; exact List.mem_cons_self ..
    · cases Nat.testBit b y.i
      · exact List.mem_cons_of_mem _ (unread_mem hx hb)
      · exact unread_mem hx hb

/- values that name no block from k on -/
def Rho.below (ρ : Rho) (k : Nat) : Rho := fun j => if j < k then ρ j else none
theorem below_le (ρ : Rho) (k : Nat) : Le (ρ.below k) ρ := fun j p h => by
  unfold Rho.below at h
  split at h
  · exact h
  · exact absurd h (by simp)
theorem below_eq {ρ : Rho} {k b : Nat} (h : Nat.blt b k = true) : ρ.below k b = ρ b := by
  unfold Rho.below; rw [if_pos (by simpa [blt_eq'] using h)]
mutual
theorem val_below {ρ : Rho} {k : Nat} : ∀ (v : V), bndV k v = true → val (ρ.below k) v = val ρ v
  | .undef, _ => by simp [val]
  | .bool _, _ => by simp [val]
  | .int _ _, _ => by simp [val]
  | .str _, _ => by simp [val]
  | .nilptr, _ => by simp [val]
  | .nilslice, _ => by simp [val]
  | .nilmap, _ => by simp [val]
  | .nilFunc, _ => by simp [val]
  | .nilIface, _ => by simp [val]
  | .sym _ _, _ => by simp [val]
  | .bsym _, _ => by simp [val]
  | .ssym _ _, _ => by simp [val]
  | .ptr b o, h => by simp only [val, below_eq (show Nat.blt b k = true by simpa [bndV] using h)]
  | .slice b o l c, h => by simp only [val, below_eq (show Nat.blt b k = true by simpa [bndV] using h)]
  | .fsl e b o l, h => by simp only [val, below_eq (show Nat.blt b k = true by simpa [bndV] using h)]
  | .efs e b o l, h => by simp only [val, below_eq (show Nat.blt b k = true by simpa [bndV] using h)]
  | .map b, h => by simp only [val, below_eq (show Nat.blt b k = true by simpa [bndV] using h)]
  | .func f a b, h => by
    obtain ⟨h1, h2⟩ := bcT (show bc (bndVs k a) (bndVs k b) false = true by simpa [bndV] using h)
    simp only [val, vals_below a h1, vals_below b h2]
  | .iface t v, h => by simp only [val, val_below v (by simpa [bndV] using h)]
  | .agg cs, h => by simp only [val, vals_below cs (by simpa [bndV] using h)]
  | .tuple cs, h => by simp only [val, vals_below cs (by simpa [bndV] using h)]
  | .yld b, h => by simp only [val, below_eq (show Nat.blt b k = true by simpa [bndV] using h)]
theorem vals_below {ρ : Rho} {k : Nat} : ∀ (l : List V), bndVs k l = true → vals (ρ.below k) l = vals ρ l
  | [], _ => by simp [vals]
  | v :: vs, h => by
    obtain ⟨h1, h2⟩ := bcT (show bc (bndV k v) (bndVs k vs) false = true by simpa [bndVs] using h)
    simp only [vals, val_below v h1, vals_below vs h2]
end
theorem bndPs_mem {k : Nat} {t : Tr} : ∀ {ps : List Pt} {p : Pt}, bndPs k t ps = true → p ∈ ps → bndV k (getP p t) = true
  | q :: ps, p, h, hp => by
    obtain ⟨h1, h2⟩ := bcT (show bc (bndV k (getP q t)) (bndPs k t ps) false = true from h)
    rcases List.mem_cons.1 hp with rfl | hp
    · exact h1
    · exact bndPs_mem h2 hp
end
end Go.Ev
namespace Go.Ev
variable [Sy]
noncomputable section
structure Stp (call : CallT) (x : It) (T : Tr) (B : S) (W : List Wt) (v : V) (did : Bool) (B' : S) (W' : List Wt) : Prop where
  guard : match x.g with
    | .no => did = true
    | .b p w => (∃ c, getP p T = .bool c ∧ did = (c == w)) ∨ ((∃ us, getP p T = .tuple us) ∧ did = false)
  skip : did = false → v = uV ∧ B' = B ∧ W' = W
  done : did = true → match x.k with
    | .act b => again B W = true ∧ evO x.o call T B = .ok v B' ∧ W' = unread b W
    | .make ps => bndPs B.next T ps = true ∧ evO x.o noCallT T B = .ok v B' ∧ W' = W
    | .read => evO x.o noCallT T B = .ok v B' ∧ W' = ⟨x.i, x.o, T, v⟩ :: W
    | .pure => evO x.o noCallT T B = .ok v B' ∧ W' = W

structure Tra (call : CallT) (l : DL) (t : Tr) (s : S) (W0 : List Wt) (t' : Tr) (s' : S) (T : Nat → Tr) (B : Nat → S) (W : Nat → List Wt) (v : Nat → V) (did : Nat → Bool) : Prop where
  t0 : T 0 = t
  s0 : B 0 = s
  w0 : W 0 = W0
  tn : T l.length = t'
  sn : B l.length = s'
  last : again (B l.length) (W l.length) = true
  step : ∀ p x, l[p]? = some x → T (p + 1) = setD x.d (v p) (T p) ∧ Stp call x (T p) (B p) (W p) (v p) (did p) (B (p + 1)) (W (p + 1))

theorem doneD_ok {x : It} {ih : DR} {t : Tr} {W : List Wt} {r : OR} {e : E} {t' : Tr} {s' : S} (h : doneD x ih t W r = .done e t' s') :
    ∃ v s1 W1, r = .ok v s1 ∧ ih (setD x.d v t) s1 W1 = .done e t' s' ∧ W1 = match x.k with | .read => ⟨x.i, x.o, t, v⟩ :: W | .act b => unread b W | _ => W := by
  cases r with
  | fail n => exact absurd h (by simp [doneD])
  | ok v s1 =>
    refine ⟨v, s1, _, rfl, ?_, rfl⟩
    unfold doneD at h
    dsimp only at h
    split at h <;> simp only [goD, Tr.force_eq] at h <;> simp_all

theorem actD_ok {call : CallT} {x : It} {ih : DR} {t : Tr} {s : S} {W : List Wt} {e : E} {t' : Tr} {s' : S} (h : actD call x ih t s W = .done e t' s') (hg : match x.g with
    | .no => True
    | .b p w => getP p t = .bool w) :
    ∃ v s1 W1, Stp call x t s W v true s1 W1 ∧ ih (setD x.d v t) s1 W1 = .done e t' s' := by
  have hg' : match x.g with
    | .no => true = true
    | .b p w => (∃ c, getP p t = .bool c ∧ true = (c == w)) ∨ ((∃ us, getP p t = .tuple us) ∧ true = false) := by
    split
    · rfl
    · rename_i p w hx
      rw [hx] at hg
      exact .inl ⟨w, hg, by simp⟩
  unfold actD at h
  split at h
  · rename_i b hk
    rw [bc_eq] at h
    split at h
    · rename_i ha
      obtain ⟨v, s1, W1, h1, h2, h3⟩ := doneD_ok h
      rw [hk] at h3
      exact ⟨v, s1, W1, ⟨hg', by simp, fun _ => by rw [hk]; exact ⟨ha, h1, h3⟩⟩, h2⟩
    · exact absurd h (by simp)
  · rename_i ps hk
    rw [bc_eq] at h
    split at h
    · rename_i ha
      obtain ⟨v, s1, W1, h1, h2, h3⟩ := doneD_ok h
      rw [hk] at h3
      exact ⟨v, s1, W1, ⟨hg', by simp, fun _ => by rw [hk]; exact ⟨ha, h1, h3⟩⟩, h2⟩
    · exact absurd h (by simp)
  · rename_i hn1 hn2
    obtain ⟨v, s1, W1, h1, h2, h3⟩ := doneD_ok h
    refine ⟨v, s1, W1, ⟨hg', by simp, fun _ => ?_⟩, h2⟩
    generalize x.k = k at hn1 hn2 h3
    cases k with
    | pure => exact ⟨h1, h3⟩
    | read => exact ⟨h1, h3⟩
    | make ps => exact absurd rfl (hn2 ps)
    | act b => exact absurd rfl (hn1 b)

theorem itD_ok {call : CallT} {x : It} {ih : DR} {t : Tr} {s : S} {W : List Wt} {e : E} {t' : Tr} {s' : S} (h : itD call x ih t s W = .done e t' s') :
    ∃ v did s1 W1, Stp call x t s W v did s1 W1 ∧ ih (setD x.d v t) s1 W1 = .done e t' s' := by
  unfold itD at h
  split at h
  · rename_i hg
    obtain ⟨v, s1, W1, h1, h2⟩ := actD_ok h (by rw [hg]; trivial)
    exact ⟨v, true, s1, W1, h1, h2⟩
  · rename_i p w hg
    have sk : skipD x ih t s W = .done e t' s' → ((∃ c, getP p t = .bool c ∧ false = (c == w)) ∨ ∃ us, getP p t = .tuple us) → ∃ v did s1 W1, Stp call x t s W v did s1 W1 ∧ ih (setD x.d v t) s1 W1 = .done e t' s' := by
      intro h hc
      simp only [skipD, goD, Tr.force_eq] at h
      refine ⟨uV, false, s, W, ⟨?_, fun _ => ⟨rfl, rfl, rfl⟩, by simp⟩, h⟩
      rw [hg]
      exact hc.imp id fun h => ⟨h, rfl⟩
    have dn : actD call x ih t s W = .done e t' s' → getP p t = .bool w → ∃ v did s1 W1, Stp call x t s W v did s1 W1 ∧ ih (setD x.d v t) s1 W1 = .done e t' s' := by
      intro h hc
      obtain ⟨v, s1, W1, h1, h2⟩ := actD_ok h (by rw [hg]; exact hc)
      exact ⟨v, true, s1, W1, h1, h2⟩
    generalize hgv : getP p t = gv at h
    cases gv <;> try (exfalso; exact R.noConfusion (show R.fail 97 = R.done e t' s' from h))
    · rename_i c
      cases c <;> cases w
      · exact dn h hgv
      · exact sk h (.inl ⟨false, hgv, rfl⟩)
      · exact sk h (.inl ⟨true, hgv, rfl⟩)
      · exact dn h hgv
    · rename_i us
      exact sk h (.inr ⟨us, hgv⟩)

theorem evDL_ok {call : CallT} : ∀ {l : DL} {t : Tr} {s : S} {W0 : List Wt} {e : E} {t' : Tr} {s' : S}, evDL call l t s W0 = .done e t' s' →
    e = .n ∧ ∃ T B W v did, Tra call l t s W0 t' s' T B W v did
  | [], t, s, W0, e, t', s', h => by
    have h : bc (again s W0) (.done .n t s) (.fail 87) = R.done e t' s' := h
    rw [bc_eq] at h
    split at h
    · rename_i ha
      simp only [R.done.injEq] at h
      obtain ⟨rfl, rfl, rfl⟩ := h
      exact ⟨rfl, fun _ => t, fun _ => s, fun _ => W0, fun _ => .undef, fun _ => false, rfl, rfl, rfl, rfl, rfl, ha, fun p x h => by simp at h⟩
    · exact absurd h (by simp)
  | x :: l, t, s, W0, e, t', s', h => by
    obtain ⟨v0, d0, s1, W1, h1, h2⟩ := itD_ok (show itD call x (evDL call l) t s W0 = _ from h)
    obtain ⟨he, T, B, W, v, did, tr⟩ := evDL_ok h2
    refine ⟨he, fun n => Nat.casesOn n t T, fun n => Nat.casesOn n s B, fun n => Nat.casesOn n W0 W, fun n => Nat.casesOn n v0 v, fun n => Nat.casesOn n d0 did, rfl, rfl, rfl, tr.tn, tr.sn, tr.last, ?_⟩
    intro p y hp
    cases p with
    | zero =>
      simp only [List.getElem?_cons_zero, Option.some.injEq] at hp
      subst hp
      refine ⟨tr.t0, ?_⟩
      show Stp call x t s W0 v0 d0 (B 0) (W 0)
      rw [tr.s0, tr.w0]; exact h1
    | succ p =>
      simp only [List.getElem?_cons_succ] at hp
      exact tr.step p y hp
end
end Go.Ev
namespace Go.Ev
variable [Sy]
noncomputable section
theorem ancOf_bit {acc : List Nat} {j : Nat} : ∀ {es : List Edge}, Nat.testBit (ancOf acc es) j = true → ∃ e ∈ es, Region.binds .any e = true ∧ (j = e.on ∨ Nat.testBit ((acc[e.on]?).getD 0) j = true)
  | [], h => by simp [ancOf] at h
  | e :: es, h => by
    have rec_ : Nat.testBit (ancOf acc es) j = true → ∃ e' ∈ e :: es, Region.binds .any e' = true ∧ (j = e'.on ∨ Nat.testBit ((acc[e'.on]?).getD 0) j = true) := fun h => by
      obtain ⟨e', he, h'⟩ := ancOf_bit h
      exact ⟨e', List.mem_cons_of_mem _ he, h'⟩
    unfold ancOf at h
    split at h
    · rename_i hb
      rw [show ∀ a b, Nat.lor a b = a ||| b from fun _ _ => rfl, show ∀ a b, Nat.lor a b = a ||| b from fun _ _ => rfl, Nat.testBit_or, Nat.testBit_or, Bool.or_eq_true, Bool.or_eq_true] at h
      rcases h with (h | h) | h
      · rw [show Nat.pow 2 e.on = 2 ^ e.on from rfl, Nat.testBit_two_pow, decide_eq_true_eq] at h
        exact ⟨e, List.mem_cons_self .., hb, .inl h.symm⟩
      · rw [nth_eq] at h
        exact ⟨e, List.mem_cons_self .., hb, .inr h⟩
      · exact rec_ h
    · exact rec_ h
theorem ancs_ok : ∀ (os : List Oper) (acc : List Nat), acc <+: ancs os acc ∧ ∀ k o, os[k]? = some o → (ancs os acc)[acc.length + k]? = some (ancOf ((ancs os acc).take (acc.length + k)) o.after.toList)
  | [], acc => ⟨List.prefix_refl _, fun k o h => by simp at h⟩
  | o :: os, acc => by
    have h := ancs_ok os (app acc [ancOf acc o.after.toList])
    have he : ancs (o :: os) acc = ancs os (app acc [ancOf acc o.after.toList]) := rfl
    rw [app_eq] at h he
    rw [he]
    obtain ⟨h1, h2⟩ := h
    have hp : acc <+: ancs os (acc ++ [ancOf acc o.after.toList]) := List.IsPrefix.trans ⟨_, rfl⟩ h1
    refine ⟨hp, fun k o' hk => ?_⟩
    cases k with
    | zero =>
      simp only [List.getElem?_cons_zero, Option.some.injEq] at hk
      subst hk
      rw [Nat.add_zero, List.prefix_iff_eq_take.1 hp |>.symm]
      obtain ⟨r, hr⟩ := h1
      rw [← hr]
      simp
    | succ k =>
      simp only [List.getElem?_cons_succ] at hk
      have := h2 k o' hk
      simp only [List.length_append, List.length_cons, List.length_nil, Nat.zero_add] at this
      rw [show acc.length + (k + 1) = acc.length + 1 + k by omega]
      exact this
def ancAt (ops : Array Oper) (i : Nat) : Nat := ((ancs ops.toList [])[i]?).getD 0
theorem ancAt_bit {ops : Array Oper} {i j : Nat} {o : Oper} (ho : ops[i]? = some o) (h : Nat.testBit (ancAt ops i) j = true) :
    ∃ e ∈ o.after, Region.binds .any e = true ∧ (j = e.on ∨ Nat.testBit (ancAt ops e.on) j = true) := by
  have h2 := (ancs_ok ops.toList []).2 i o (by simpa using ho)
  simp only [List.length_nil, Nat.zero_add] at h2
  unfold ancAt at h
  rw [h2, Option.getD_some] at h
  obtain ⟨e, he, hb, h⟩ := ancOf_bit h
  refine ⟨e, by simpa using he, hb, h.imp id fun h => ?_⟩
  rw [List.getElem?_take] at h
  split at h
  · exact h
  · simp at h

theorem perm_ok {n : Nat} : ∀ {l : List It} {done : Nat}, perm n l done = true → (∀ (p : Nat) (x : It), l[p]? = some x → x.i < n ∧ Nat.testBit done x.i = false) ∧
    (∀ (p q : Nat) (x y : It), l[p]? = some x → l[q]? = some y → x.i = y.i → p = q) ∧ ∀ i, i < n → Nat.testBit done i = true ∨ ∃ (p : Nat) (x : It), l[p]? = some x ∧ x.i = i
  | [], done, h => by
    have h := natT (show Nat.beq done (Nat.sub (Nat.pow 2 n) 1) = true from h)
    refine ⟨fun p x h => by simp at h, fun p q x y h => by simp at h, fun i hi => .inl ?_⟩
    rw [h, show Nat.sub (Nat.pow 2 n) 1 = 2 ^ n - 1 from rfl, Nat.testBit_two_pow_sub_one]
    simpa using hi
  | x :: l, done, h => by
    obtain ⟨h1, h⟩ := bcT (show bc (Nat.blt x.i n) (bc (Nat.testBit done x.i) false (perm n l (Nat.lor done (Nat.pow 2 x.i)))) false = true from h)
    have h2 : Nat.testBit done x.i = false ∧ perm n l (Nat.lor done (Nat.pow 2 x.i)) = true := by
      cases hb : Nat.testBit done x.i <;> rw [hb] at h
      · exact ⟨rfl, h⟩
      · exact absurd h (by simp [bc])
    obtain ⟨h2, h⟩ := h2
    obtain ⟨i1, i2, i3⟩ := perm_ok h
    have hbit : ∀ j, Nat.testBit (Nat.lor done (Nat.pow 2 x.i)) j = (Nat.testBit done j || decide (x.i = j)) := fun j => by
      rw [show Nat.lor done (Nat.pow 2 x.i) = done ||| 2 ^ x.i from rfl, Nat.testBit_or, Nat.testBit_two_pow]
    have hne : ∀ (p : Nat) (y : It), l[p]? = some y → x.i ≠ y.i := fun p y hp he => by
      have := (i1 p y hp).2
      rw [hbit, ← he] at this
      simp at this
    refine ⟨fun p y hp => ?_, fun p q y z hp hq he => ?_, fun i hi => ?_⟩
    · cases p with
      | zero =>
        simp only [List.getElem?_cons_zero, Option.some.injEq] at hp
        subst hp
        exact ⟨by simpa [blt_eq'] using h1, h2⟩
      | succ p =>
        obtain ⟨a, b⟩ := i1 p y hp
        rw [hbit, Bool.or_eq_false_iff] at b
        exact ⟨a, b.1⟩
    · cases p <;> cases q
      · rfl
      · simp only [List.getElem?_cons_zero, Option.some.injEq] at hp
        subst hp
        exact absurd he (hne _ z hq)
      · simp only [List.getElem?_cons_zero, Option.some.injEq] at hq
        subst hq
        exact absurd he.symm (hne _ y hp)
      · rw [i2 _ _ y z hp hq he]
    · rcases i3 i hi with h | ⟨p, y, hp, hy⟩
      · rw [hbit, Bool.or_eq_true, decide_eq_true_eq] at h
        rcases h with h | h
        · exact .inl h
        · exact .inr ⟨0, x, rfl, h⟩
      · exact .inr ⟨p + 1, y, hp, hy⟩

theorem okFrom_ok {ops : List Oper} {as : List Nat} {x : It} : ∀ {l : List It} {q : Nat} {y : It}, okFrom ops as x l = true → l[q]? = some y → okPair ops as x y = true
  | [], q, y, h, hq => by simp at hq
  | z :: l, q, y, h, hq => by
    obtain ⟨h1, h2⟩ := bcT (show bc (okPair ops as x z) (okFrom ops as x l) false = true from h)
    cases q with
    | zero =>
      simp only [List.getElem?_cons_zero, Option.some.injEq] at hq
      subst hq; exact h1
    | succ q => exact okFrom_ok h2 hq
theorem okAll_ok {ops : List Oper} {as : List Nat} : ∀ {l : List It} {p q : Nat} {x y : It}, okAll ops as l = true → p < q → l[p]? = some x → l[q]? = some y → okPair ops as x y = true
  | [], p, q, x, y, h, hpq, hp, hq => by simp at hq
  | z :: l, p, q, x, y, h, hpq, hp, hq => by
    obtain ⟨h1, h2⟩ := bcT (show bc (okFrom ops as z l) (okAll ops as l) false = true from h)
    cases q with
    | zero => omega
    | succ q =>
      cases p with
      | zero =>
        simp only [List.getElem?_cons_zero, Option.some.injEq] at hp
        subst hp
        exact okFrom_ok h1 hq
      | succ p => exact okAll_ok h2 (by omega) hp hq
theorem backEs_ok {i : Nat} : ∀ {es : List Edge} {e : Edge}, backEs i es = true → e ∈ es → Region.binds .any e = true → e.on < i
  | [], e, h, he, hb => by simp at he
  | f :: es, e, h, he, hb => by
    obtain ⟨h1, h2⟩ := bcT (show bc (bc (Region.binds .any f) (Nat.blt f.on i) true) (backEs i es) false = true from h)
    rcases List.mem_cons.1 he with rfl | he
    · rw [hb] at h1
      simpa [blt_eq', bc] using h1
    · exact backEs_ok h2 he hb
theorem backOnly_ok : ∀ {os : List Oper} {i k : Nat} {o : Oper} {e : Edge}, backOnly os i = true → os[k]? = some o → e ∈ o.after → Region.binds .any e = true → e.on < i + k
  | [], i, k, o, e, h, hk, he, hb => by simp at hk
  | o' :: os, i, k, o, e, h, hk, he, hb => by
    obtain ⟨h1, h2⟩ := bcT (show bc (backEs i o'.after.toList) (backOnly os (Nat.succ i)) false = true from h)
    cases k with
    | zero =>
      simp only [List.getElem?_cons_zero, Option.some.injEq] at hk
      subst hk
      exact backEs_ok h1 (by simpa using he) hb
    | succ k =>
      have := backOnly_ok h2 hk he hb
      omega

def maskOf (o : Oper) : Nat := opMask o.op.operands.toList
structure ItemF (cf : Cf) (K N : Nat) (ops : Array Oper) (x : It) (o : Oper) : Prop where
  op : ops[x.i]? = some o
  mask : maskOf o &&& K = maskOf o
  o_eq : x.o = (compB cf (maskOf o) [] o.op).getD .bad
  dst : dstOf K N o.dst = some x.d
  kind : kindOf (ancAt ops x.i) (opTmps o.op.operands.toList) x.o = some x.k
  guard : match o.guard with
    | none => x.g = .no
    | some (j, want) => ∃ g gd, ops[j]? = some g ∧ g.dst = some gd ∧ Nat.testBit K gd = true ∧ x.g = .b (path gd) want
structure DF (cf : Cf) (K N : Nat) (ops : Array Oper) (l : DL) : Prop where
  item : ∀ (p : Nat) (x : It), l[p]? = some x → ∃ o, ItemF cf K N ops x o
  all : ∀ i, i < ops.size → ∃ (p : Nat) (x : It), l[p]? = some x ∧ x.i = i
  inj : ∀ (p q : Nat) (x y : It), l[p]? = some x → l[q]? = some y → x.i = y.i → p = q
  pair : ∀ (p q : Nat) (x y : It) (ox oy : Oper), p < q → l[p]? = some x → l[q]? = some y → ops[x.i]? = some ox → ops[y.i]? = some oy →
    (∀ d, ox.dst = some d → (readsT oy ops.toList d = true → Nat.testBit (ancAt ops y.i) x.i = true) ∧ oy.dst ≠ some d) ∧
    (∀ e, oy.dst = some e → readsT ox ops.toList e = true → Nat.testBit (ancAt ops y.i) x.i = true) ∧ (isAct x.k = true → Nat.testBit (ancAt ops y.i) x.i = true)
  back : ∀ (i : Nat) (o : Oper) (e : Edge), ops[i]? = some o → e ∈ o.after → Region.binds .any e = true → e.on < i

theorem itemOf_ok {cf : Cf} {K N : Nat} {ops : Array Oper} {i : Nat} {x : It} (h : itemOf cf K N ops.toList (ancs ops.toList []) i = some x) : x.i = i ∧ ∃ o, ItemF cf K N ops x o := by
  simp only [itemOf, Option.bind_eq_some_iff] at h
  obtain ⟨o, ho, anc, ha, h⟩ := h
  obtain ⟨hm, h⟩ := ask_ok h
  simp only [Option.bind_eq_some_iff, Option.some.injEq] at h
  obtain ⟨c, hc, d, hd, k, hk, h⟩ := h
  rw [nth_eq] at ho ha
  have ho : ops[i]? = some o := by simpa using ho
  have ha' : ancAt ops i = anc := by unfold ancAt; rw [ha]; rfl
  have hm := natT hm
  cases hg : o.guard with
  | none =>
    rw [hg] at h
    simp only [Option.some.injEq] at h
    subst h
    exact ⟨rfl, o, ho, hm, hc.symm, hd, by simpa [ha'] using hk, by rw [hg]⟩
  | some jw =>
    obtain ⟨j, want⟩ := jw
    rw [hg] at h
    simp only [Option.bind_eq_some_iff] at h
    obtain ⟨g, hgj, gd, hgd, h⟩ := h
    obtain ⟨hb, h⟩ := ask_ok h
    simp only [Option.some.injEq] at h
    subst h
    rw [nth_eq] at hgj
    exact ⟨rfl, o, ho, hm, hc.symm, hd, by simpa [ha'] using hk, by rw [hg]; exact ⟨g, gd, by simpa using hgj, hgd, hb, rfl⟩⟩
theorem itemsOf_ok {cf : Cf} {K N : Nat} {ops : Array Oper} : ∀ {is : List Nat} {l : List It}, itemsOf cf K N ops.toList (ancs ops.toList []) is = some l → ∀ (p : Nat) (x : It), l[p]? = some x → ∃ o, ItemF cf K N ops x o
  | [], l, h, p, x, hp => by simp only [itemsOf, Option.some.injEq] at h; subst h; simp at hp
  | i :: is, l, h, p, x, hp => by
    simp only [itemsOf, Option.bind_eq_some_iff, Option.some.injEq] at h
    obtain ⟨y, hy, ys, hys, rfl⟩ := h
    cases p with
    | zero =>
      simp only [List.getElem?_cons_zero, Option.some.injEq] at hp
      subst hp
      exact (itemOf_ok hy).2
    | succ p => exact itemsOf_ok hys p x hp
theorem compD_ok {cf : Cf} {K N id : Nat} {ops : Array Oper} {l : DL} (h : compD cf K N id ops = some l) : DF cf K N ops l := by
  simp only [compD, Option.bind_eq_some_iff] at h
  obtain ⟨l', hl, h⟩ := h
  obtain ⟨hb, h⟩ := ask_ok h
  obtain ⟨hp, h⟩ := ask_ok h
  obtain ⟨ha, h⟩ := ask_ok h
  simp only [Option.some.injEq] at h
  subst h
  obtain ⟨p1, p2, p3⟩ := perm_ok hp
  refine ⟨itemsOf_ok hl, fun i hi => ?_, p2, ?_, fun i o e ho he hbi => ?_⟩
  · rcases p3 i (by rw [lenN_eq]; simpa using hi) with h | h
    · simp at h
    · exact h
  · intro p q x y ox oy hpq hx hy hox hoy
    have := okAll_ok ha hpq hx hy
    unfold okPair at this
    have h1 : nth x.i ops.toList = some ox := by rw [nth_eq]; simpa using hox
    have h2 : nth y.i ops.toList = some oy := by rw [nth_eq]; simpa using hoy
    have h3 : ∃ aq, nth y.i (ancs ops.toList []) = some aq ∧ ancAt ops y.i = aq := by
      have := (ancs_ok ops.toList []).2 y.i oy (by simpa using hoy)
      simp only [List.length_nil, Nat.zero_add] at this
      exact ⟨_, by rw [nth_eq]; exact this, by unfold ancAt; rw [this]; rfl⟩
    obtain ⟨aq, h3, h4⟩ := h3
    rw [h1, h2, h3] at this
    simp only [Bool.and_eq_true] at this
    obtain ⟨⟨ha, hb⟩, hc⟩ := this
    rw [h4]
    refine ⟨fun d hd => ?_, fun e he hr => ?_, fun hk => ?_⟩
    · unfold pairA at ha
      rw [hd] at ha
      simp only [Bool.and_eq_true] at ha
      refine ⟨fun hr => ?_, fun hy => ?_⟩
      · rw [hr] at ha; exact ha.1
      · rw [hy] at ha
        have := ha.2
        simp [bnotB, bc] at this
    · unfold pairB at hb
      rw [he] at hb
      dsimp only at hb
      rw [hr] at hb; exact hb
    · rw [hk] at hc; exact hc
  · have := backOnly_ok (i := 0) (k := i) hb (by simpa using ho) he hbi
    omega
end
end Go.Ev
namespace Go.Ev
variable [Sy]
noncomputable section
def Li (listed : Array Bool) (i : Nat) : Prop := listed.getD i false = true
theorem Li_set {listed : Array Bool} {i j : Nat} (hi : i < listed.size) : Li (listed.setIfInBounds i true) j ↔ (j = i ∨ Li listed j) := by
  unfold Li
  simp only [Array.getD_eq_getD_getElem?, Array.getElem?_setIfInBounds]
  by_cases h : i = j
  · subst h; simp [hi]
  · simp [h, Ne.symm h]
theorem tmps_put {a : Act} {d : Option Tmp} {x : Value} {n : Nat} : (a.put d x).tmps.getD n undef = if d = some n ∧ n < a.tmps.size then x else a.tmps.getD n undef := by
  cases d with
  | none => simp [Act.put]
  | some d =>
    simp only [Act.put, Array.getD_eq_getD_getElem?, Array.getElem?_setIfInBounds]
    by_cases h : d = n
    · subst h
      by_cases h2 : d < a.tmps.size <;> simp [h2]
    · simp [h]
theorem size_put {a : Act} {d : Option Tmp} {x : Value} : (a.put d x).tmps.size = a.tmps.size := by cases d <;> simp [Act.put]
theorem Ok.pending {w0 : Bs} {w : World} {ρ : Rho} {s : S} (h : Ok w0 ρ s w) (C : B) : Ok w0 ρ (s.add C) w ∧ Post ρ s ρ (s.add C) := by
  have hne : ∀ {k p}, ρ k = some p → k ≠ s.next := fun {k p} hk he => by
    subst he
    rw [h.nx _ (Nat.le_refl _)] at hk; exact absurd hk (by simp)
  have hg : ∀ {k p}, ρ k = some p → (s.add C).heap.get k = s.heap.get k := fun hk => by rw [S.get_add, if_neg (hne hk)]
  refine ⟨⟨fun k p hk hn => ?_, fun k k' p p' hk hk' hn hn' => ?_, h.lt, fun k hk => ?_, fun k hk => ?_, h.old, h.os, h.tape, h.out⟩, ⟨fun _ _ => rfl, ?_, fun k hk _ => ?_⟩⟩
  · rw [hg hk] at hn ⊢; exact h.blk k p hk hn
  · rw [hg hk] at hn; rw [hg hk'] at hn'; exact h.inj k k' p p' hk hk' hn hn'
  · rw [S.next_add] at hk; exact h.nx k (by omega)
  · rw [S.next_add] at hk; rw [S.get_add, if_neg (by omega)]; exact h.nxh k (by omega)
  · rw [S.next_add]; omega
  · rw [S.get_add, if_neg (by omega)]
/- a block that was pending is made -/
theorem Ok.late {w0 : Bs} {w w1 : World} {ρ ρ1 : Rho} {s : S} {k : Nat} {p : Nat × Nat} {C : B} (h : Ok w0 ρ s w) (hk : ρ k = none) (hlt : k < s.next) (hC : s.heap.get k = C) (hp : ρ1 k = some p)
    (h1 : Ok (Bs.of w) ρ1 ((S.mk .leaf k).add C) w1) (hle : Le ρ1 (ρ.set k p)) : Ok w0 (ρ.set k p) s w1 := by
  have hge : w.heap.size ≤ p.1 ∨ C = .no := by
    by_cases hC0 : C = .no
    · exact .inr hC0
    · left
      have hg : ((S.mk .leaf k).add C).heap.get k = C := by rw [S.get_add]; exact if_pos rfl
      exact h1.ofGe hp (by rw [hg]; exact hC0)
  have hset : ∀ {j q}, (ρ.set k p) j = some q → (j = k ∧ q = p) ∨ (j ≠ k ∧ ρ j = some q) := fun {j q} hj => by
    simp only [Rho.set] at hj
    split at hj
    · rename_i e; simp only [Option.some.injEq] at hj; exact .inl ⟨e, hj.symm⟩
    · rename_i e; exact .inr ⟨e, hj⟩
  refine ⟨fun j q hj hn => ?_, fun j j' q q' hj hj' hn hn' he => ?_, fun j q hj => ?_, fun j hj => ?_, h.nxh, fun r o hr => ?_, by rw [h1.os]; exact h.os, by rw [h1.tape]; exact h.tape, by rw [h1.out]; exact h.out⟩
  · rcases hset hj with ⟨rfl, rfl⟩ | ⟨hne, hj⟩
    · rw [hC] at hn
      have hg : ((S.mk .leaf j).add C).heap.get j = C := by rw [S.get_add]; exact if_pos rfl
      obtain ⟨a1, o, a2, a3⟩ := h1.blk j q hp (by rw [hg]; exact hn)
      rw [hg] at a3
      refine ⟨h.fresh (h1.ofGe hp (by rw [hg]; exact hn)), o, a2, ?_⟩
      rw [hC]; exact a3.mono hle
    · obtain ⟨a1, o, a2, a3⟩ := h.blk j q hj hn
      refine ⟨a1, o, ?_, a3.mono fun i r hi => ?_⟩
      · rw [h1.ofOld (h.lt j q hj)]; exact a2
      · simp only [Rho.set]
        rw [if_neg (fun e => by subst e; rw [hk] at hi; exact absurd hi (by simp))]; exact hi
  · rcases hset hj with ⟨e1, e2⟩ | ⟨hne, hj2⟩ <;> rcases hset hj' with ⟨e3, e4⟩ | ⟨hne', hj2'⟩
    · rw [e1, e3]
    · rcases hge with hge | hge
      · have := h.lt j' q' hj2'; rw [e2] at he; omega
      · rw [e1, hC, hge] at hn; exact absurd rfl hn
    · rcases hge with hge | hge
      · have := h.lt j q hj2; rw [e4] at he; omega
      · rw [e3, hC, hge] at hn'; exact absurd rfl hn'
    · exact h.inj j j' q q' hj2 hj2' hn hn' he
  · rcases hset hj with ⟨rfl, rfl⟩ | ⟨hne, hj⟩
    · exact h1.lt j q hp
    · have := h.lt j q hj; have := h1.ofSize; omega
  · simp only [Rho.set]; rw [if_neg (by omega)]; exact h.nx j hj
  · rw [h1.ofOld (h.kept hr)]; exact h.old r o hr
theorem Ok.bare {w : World} {w0 : Bs} {ρ : Rho} {s : S} (h : Ok w0 ρ s w) (k : Nat) : Ok (Bs.of w) (ρ.below k) (.mk .leaf k) w := by
  have hl : ∀ j, (S.mk .leaf k).heap.get j = .no := fun j => rfl
  refine ⟨fun j p _ hn => absurd (hl j) hn, fun j _ p _ _ _ hn => absurd (hl j) hn, fun j p hj => h.lt j p (below_le ρ k j p hj), fun j hj => ?_, fun j _ => hl j, fun _ _ h => h, rfl, rfl, rfl⟩
  unfold Rho.below; rw [if_neg (by exact Nat.not_lt.2 hj)]
theorem noCallOk (P : Program) (w0 : Bs) : CallOk P w0 noCallT := fun f l s v s' ρ w xs h => absurd h (by simp [noCallT])

section
variable {P : Program} {cf : Cf} {K N : Nat} {ops : Array Oper} {l : DL} {call : CallT} {t0 t' : Tr} {s0 s' : S} {T : Nat → Tr} {B : Nat → S} {W : Nat → List Wt} {v : Nat → V} {did : Nat → Bool}
def Act1 (l : DL) (did : Nat → Bool) (p : Nat) : Prop := ∃ x, l[p]? = some x ∧ isAct x.k = true ∧ did p = true

structure Inv (ops : Array Oper) (l : DL) (K N : Nat) (w0 : Bs) (ρ0 : Rho) (t0 : Tr) (s0 : S) (B : Nat → S) (v : Nat → V) (did : Nat → Bool) (listed : Array Bool) (m : Nat) (ρ : Rho) (a : Act) (w : World) : Prop where
  sz : listed.size = ops.size
  clo : ∀ i j, Li listed i → Nat.testBit (ancAt ops i) j = true → Li listed j
  ml : m ≤ l.length
  below : ∀ (q : Nat) (x : It), q < m → Act1 l did q → l[q]? = some x → Li listed x.i
  above : ∀ (q : Nat) (x : It), m ≤ q → Act1 l did q → l[q]? = some x → ¬ Li listed x.i
  ok : Ok w0 ρ (B m) w
  post : Post ρ0 s0 ρ (B m)
  mono : ∀ p q, p ≤ q → q ≤ m → (B p).next ≤ (B q).next
  pend : ∀ (p : Nat) (x : It) (ps : List Pt), p < m → l[p]? = some x → x.k = .make ps → did p = true → ¬ Li listed x.i → ρ (B p).next = none ∧ (B m).heap.get (B p).next = (B (p + 1)).heap.get (B p).next
  tm1 : ∀ (q : Nat) (x : It) (o : Oper) (n : Nat), l[q]? = some x → ops[x.i]? = some o → o.dst = some n → Li listed x.i → OV ρ (v q) (a.tmps.getD n undef)
  tm2 : ∀ n, Nat.testBit K n = true → n < 65536 → (∀ (q : Nat) (x : It) (o : Oper), l[q]? = some x → ops[x.i]? = some o → Li listed x.i → o.dst ≠ some n) → OV ρ (getP (path n) t0) (a.tmps.getD n undef)
  size : a.tmps.size = N
  defers : a.defers = []

theorem lt_of {α : Type} {l : List α} {p : Nat} {x : α} (h : l[p]? = some x) : p < l.length := by
  rcases Nat.lt_or_ge p l.length with h' | h'
  · exact h'
  · rw [List.getElem?_eq_none h'] at h; exact absurd h (by simp)
theorem at_of {α : Type} {l : List α} {p : Nat} (h : p < l.length) : ∃ x, l[p]? = some x := ⟨l[p], List.getElem?_eq_getElem h⟩

theorem dst_of {d : Option Tmp} {D : D} (h : dstOf K N d = some D) : (d = none ∧ D = .no) ∨ ∃ n, d = some n ∧ Nat.testBit K n = true ∧ n < N ∧ D = .to (path n) := by
  cases d with
  | none => simp only [dstOf, Option.some.injEq] at h; exact .inl ⟨rfl, h.symm⟩
  | some d =>
    obtain ⟨h1, h⟩ := ask_ok h
    obtain ⟨h2, h⟩ := ask_ok h
    simp only [Option.some.injEq] at h
    exact .inr ⟨d, rfl, h1, by simpa [blt_eq'] using h2, h.symm⟩

/- the frame at each step -/
theorem frame1 (D : DF cf K N ops l) (hK : K >>> 65536 = 0) (tr : Tra call l t0 s0 [] t' s' T B W v did) : ∀ p, p ≤ l.length → ∀ n, n < 65536 →
    (∀ (q : Nat) (x : It) (o : Oper), q < p → l[q]? = some x → ops[x.i]? = some o → o.dst = some n → getP (path n) (T p) = v q) ∧
    ((∀ (q : Nat) (x : It) (o : Oper), q < p → l[q]? = some x → ops[x.i]? = some o → o.dst ≠ some n) → getP (path n) (T p) = getP (path n) t0) := by
  intro p
  induction p with
  | zero => intro _ n _; exact ⟨fun q x o h => by omega, fun _ => by rw [tr.t0]⟩
  | succ p ih =>
    intro hp n hn
    obtain ⟨i1, i2⟩ := ih (by omega) n hn
    obtain ⟨x, hx⟩ := at_of (l := l) (p := p) (by omega)
    obtain ⟨hT, _⟩ := tr.step p x hx
    obtain ⟨o, io⟩ := D.item p x hx
    rw [hT]
    have hcase : (o.dst = some n ∧ getP (path n) (setD x.d (v p) (T p)) = v p) ∨ (o.dst ≠ some n ∧ getP (path n) (setD x.d (v p) (T p)) = getP (path n) (T p)) := by
      rcases dst_of io.dst with ⟨h1, h2⟩ | ⟨m, h1, h2, _, h3⟩
      · rw [h1, h2]; exact .inr ⟨by simp, rfl⟩
      · rw [h1, h3]
        show (_ ∧ getP (path n) (putP (v p) (path m) (T p)) = _) ∨ _ ∧ getP (path n) (putP (v p) (path m) (T p)) = _
        rw [getP_putP]
        by_cases hmn : m = n
        · subst hmn; exact .inl ⟨rfl, if_pos rfl⟩
        · exact .inr ⟨by simpa using hmn, if_neg fun h => hmn (path_inj hn (bound_of hK h2) h).symm⟩
    refine ⟨fun q y oy hq hy hoy hd => ?_, fun hno => ?_⟩
    · rcases Nat.lt_or_ge q p with hqp | hqp
      · rcases hcase with ⟨hd', _⟩ | ⟨_, h⟩
        · exact absurd hd' ((D.pair q p y x oy o hqp hy hx hoy io.op).1 n hd).2
        · rw [h]; exact i1 q y oy hqp hy hoy hd
      · have : q = p := by omega
        subst this
        rw [hx] at hy; simp only [Option.some.injEq] at hy; subst hy
        rw [io.op] at hoy; simp only [Option.some.injEq] at hoy; subst hoy
        rcases hcase with ⟨_, h⟩ | ⟨hd', _⟩
        · exact h
        · exact absurd hd hd'
    · rcases hcase with ⟨hd', _⟩ | ⟨_, h⟩
      · exact absurd hd' (hno p x o (by omega) hx io.op)
      · rw [h]; exact i2 fun q y oy hq => hno q y oy (by omega)

variable {w0 : Bs} {w : World} {ρ0 ρ : Rho} {listed : Array Bool} {m p : Nat} {a : Act} {x : It} {o : Oper}
/- an operation that may be done next -/
structure Rdy (ops : Array Oper) (l : DL) (listed : Array Bool) (p : Nat) (x : It) : Prop where
  at_ : l[p]? = some x
  lt : x.i < ops.size
  no : ¬ Li listed x.i
  anc : ∀ j, Nat.testBit (ancAt ops x.i) j = true → Li listed j

theorem rdy_of (D : DF cf K N ops l) (I : Inv ops l K N w0 ρ0 t0 s0 B v did listed m ρ a w) {i : Nat} (h : i ∈ Region.ready .any ops listed) : ∃ p x, x.i = i ∧ Rdy ops l listed p x := by
  simp only [Region.ready, List.mem_filter, List.mem_range, Bool.and_eq_true] at h
  obtain ⟨hlt, hno, hal⟩ := h
  obtain ⟨p, x, hp, hx⟩ := D.all i hlt
  obtain ⟨o, io⟩ := D.item p x hp
  have ho := io.op
  subst hx
  refine ⟨p, x, rfl, hp, hlt, ?_, fun j hj => ?_⟩
  · intro hL
    unfold Li at hL
    have hs : x.i < listed.size := by rw [I.sz]; exact hlt
    simp only [Array.getD_eq_getD_getElem?, Array.getElem?_eq_getElem hs, Option.getD_some] at hL hno
    rw [hL] at hno; exact absurd hno (by simp)
  · obtain ⟨e, he, hb, hor⟩ := ancAt_bit ho hj
    rw [ho] at hal
    simp only [Option.map_some, Option.getD_some, Array.all_eq_true_iff_forall_mem] at hal
    have := hal e he
    rw [hb] at this
    have hL : Li listed e.on := by simpa [Li] using this
    rcases hor with rfl | hj
    · exact hL
    · exact I.clo _ _ hL hj

theorem frame_ok (D : DF cf K N ops l) (hK : K >>> 65536 = 0) (tr : Tra call l t0 s0 [] t' s' T B W v did) (I : Inv ops l K N w0 ρ0 t0 s0 B v did listed m ρ a w)
    (R : Rdy ops l listed p x) (ho : ops[x.i]? = some o) {n : Nat} (hn : n < 65536) (hk : Nat.testBit K n = true) (hr : readsT o ops.toList n = true) : OV ρ (getP (path n) (T p)) (a.tmps.getD n undef) := by
  obtain ⟨f1, f2⟩ := frame1 D hK tr p (Nat.le_of_lt (lt_of R.at_)) n hn
  by_cases h : ∃ (q : Nat) (y : It) (oy : Oper), q < p ∧ l[q]? = some y ∧ ops[y.i]? = some oy ∧ oy.dst = some n
  · obtain ⟨q, y, oy, hq, hy, hoy, hd⟩ := h
    rw [f1 q y oy hq hy hoy hd]
    exact I.tm1 q y oy n hy hoy hd (R.anc _ (((D.pair q p y x oy o hq hy R.at_ hoy ho).1 n hd).1 hr))
  · have hno : ∀ (q : Nat) (y : It) (oy : Oper), q < p → l[q]? = some y → ops[y.i]? = some oy → oy.dst ≠ some n := fun q y oy h1 h2 h3 h4 => h ⟨q, y, oy, h1, h2, h3, h4⟩
    rw [f2 hno]
    refine I.tm2 n hk hn fun q y oy hy hoy hL hd => ?_
    rcases Nat.lt_trichotomy q p with hq | hq | hq
    · exact hno q y oy hq hy hoy hd
    · subst hq
      have := R.at_
      rw [this] at hy; simp only [Option.some.injEq] at hy; subst hy
      exact R.no hL
    · exact R.no (I.clo _ _ hL ((D.pair p q x y o oy hq R.at_ hy ho hoy).2.1 n hd hr))

theorem opMask_mem {n : Nat} : ∀ {xs : List Operand}, Nat.testBit (opMask xs) n = true → path n ∈ opTmps xs
  | [], h => by simp [opMask] at h
  | y :: xs, h => by
    cases y with
    | tmp t =>
      have h : Nat.testBit (2 ^ t ||| opMask xs) n = true := h
      rw [Nat.testBit_or, Bool.or_eq_true, Nat.testBit_two_pow, decide_eq_true_eq] at h
      rcases h with rfl | h
      · exact List.mem_cons_self ..
      · exact List.mem_cons_of_mem _ (opMask_mem h)
    | const _ => exact opMask_mem (xs := xs) h
    | global _ => exact opMask_mem (xs := xs) h
    | func _ => exact opMask_mem (xs := xs) h
theorem mask_le {M K : Nat} (h : M &&& K = M) {n : Nat} (hb : Nat.testBit M n = true) : Nat.testBit K n = true := by
  rw [← h, Nat.testBit_and, Bool.and_eq_true] at hb; exact hb.2
theorem mask_small {M K : Nat} (h : M &&& K = M) (hK : K >>> 65536 = 0) : M >>> 65536 = 0 := by
  apply Nat.eq_of_testBit_eq
  intro i
  rw [Nat.zero_testBit, Nat.testBit_shiftRight]
  cases hb : Nat.testBit M (65536 + i)
  · rfl
  · have := bound_of hK (mask_le h hb); omega
theorem reads_mask {n : Nat} (h : Nat.testBit (maskOf o) n = true) : readsT o ops.toList n = true := by
  unfold readsT; unfold maskOf at h; rw [h]; rfl

theorem fr_ok (D : DF cf K N ops l) (hK : K >>> 65536 = 0) (tr : Tra call l t0 s0 [] t' s' T B W v did) (I : Inv ops l K N w0 ρ0 t0 s0 B v did listed m ρ a w)
    (R : Rdy ops l listed p x) (io : ItemF cf K N ops x o) : Fr (maskOf o) N ρ (T p) [] a :=
  ⟨I.size, fun _ hb hn => frame_ok D hK tr I R io.op hn (mask_le io.mask hb) (reads_mask hb), fun n x hx => by simp at hx⟩

/- whether it is wanted -/
theorem wanted_ok (D : DF cf K N ops l) (hK : K >>> 65536 = 0) (tr : Tra call l t0 s0 [] t' s' T B W v did) (I : Inv ops l K N w0 ρ0 t0 s0 B v did listed m ρ a w)
    (R : Rdy ops l listed p x) (io : ItemF cf K N ops x o) : Region.wanted o (yielded ops a.tmps) = did p := by
  have hs := (tr.step p x R.at_).2.guard
  have hg := io.guard
  cases hgu : o.guard with
  | none =>
    rw [hgu] at hg
    dsimp only at hg
    rw [hg] at hs
    simp [Region.wanted, hgu, hs]
  | some jw =>
    obtain ⟨j, want⟩ := jw
    rw [hgu] at hg
    obtain ⟨g, gd, hgj, hgd, hb, hxg⟩ := hg
    rw [hxg] at hs
    have hgv := frame_ok D hK tr I R io.op (bound_of hK hb) hb (by
      unfold readsT gdOf
      rw [hgu]
      simp only [nth_eq]
      rw [show ops.toList[j]? = some g by simpa using hgj]
      simp [hgd])
    rcases hs with ⟨c, hc, hd⟩ | ⟨⟨us, hc⟩, hd⟩
    · rw [hc] at hgv
      have hgv := OV_bool hgv
      have hlt : gd < a.tmps.size := by
        rcases Nat.lt_or_ge gd a.tmps.size with h' | h'
        · exact h'
        · simp [Array.getD_eq_getD_getElem?, Array.getElem?_eq_none h', undef] at hgv
      have h9 : a.tmps[gd]? = some (.bool c) := by
        simp only [Array.getD_eq_getD_getElem?, Array.getElem?_eq_getElem hlt, Option.getD_some] at hgv
        rw [Array.getElem?_eq_getElem hlt, hgv]
      have hy : yielded ops a.tmps j = some c := by simp [yielded, hgj, hgd, h9]
      simp [Region.wanted, hgu, hy, hd]
    · rw [hc] at hgv
      obtain ⟨xs, _, hgv⟩ := OV_tuple hgv
      have hy : yielded ops a.tmps j = none := by
        simp only [yielded, hgj, hgd, Option.bind_some]
        cases hh : a.tmps[gd]? with
        | none => rfl
        | some z =>
          have : z = .tuple xs.toArray := by
            simpa [Array.getD_eq_getD_getElem?, hh] using hgv
          rw [this]
      simp [Region.wanted, hgu, hy, hd]

/- one operation more is listed -/
theorem Inv.put (D : DF cf K N ops l) (I : Inv ops l K N w0 ρ0 t0 s0 B v did listed m ρ a w) (R : Rdy ops l listed p x) (io : ItemF cf K N ops x o) {m' : Nat} {ρ' : Rho} {w' : World} {y : Value}
    (hle : Le ρ ρ') (hy : OV ρ' (v p) y) (hm : (m' = m ∧ ¬ Act1 l did p) ∨ (m' = m + 1 ∧ p = m)) (hok : Ok w0 ρ' (B m') w') (hpo : Post ρ0 s0 ρ' (B m')) (hmono : ∀ p q, p ≤ q → q ≤ m' → (B p).next ≤ (B q).next)
    (hpend : ∀ (q : Nat) (z : It) (ps : List Pt), q < m' → l[q]? = some z → z.k = .make ps → did q = true → ¬ Li (listed.setIfInBounds x.i true) z.i → ρ' (B q).next = none ∧ (B m').heap.get (B q).next = (B (q + 1)).heap.get (B q).next) :
    Inv ops l K N w0 ρ0 t0 s0 B v did (listed.setIfInBounds x.i true) m' ρ' (a.put o.dst y) w' := by
  have hs : x.i < listed.size := by rw [I.sz]; exact R.lt
  have hpl := lt_of R.at_
  refine ⟨by simp [I.sz], fun i j hi hj => ?_, ?_, fun q z hq hz hzq => ?_, fun q z hq hz hzq => ?_, hok, hpo, hmono, hpend, fun q z oz n hz hoz hd hL => ?_, fun n hb hn hno => ?_, by rw [size_put]; exact I.size, by rw [put_defers]; exact I.defers⟩
  · rw [Li_set hs] at hi ⊢
    rcases hi with rfl | hi
    · exact .inr (R.anc j hj)
    · exact .inr (I.clo i j hi hj)
  · have := I.ml
    rcases hm with ⟨h, _⟩ | ⟨h, h2⟩ <;> omega
  · rw [Li_set hs]
    rcases Nat.lt_or_ge q m with h | h
    · exact .inr (I.below q z h hz hzq)
    · rcases hm with ⟨h1, _⟩ | ⟨h1, h2⟩
      · omega
      · have : q = p := by omega
        subst this
        rw [R.at_] at hzq; simp only [Option.some.injEq] at hzq; subst hzq
        exact .inl rfl
  · rw [Li_set hs]
    rintro (h | h)
    · have hqp := D.inj q p z x hzq R.at_ h
      subst hqp
      rcases hm with ⟨_, h2⟩ | ⟨h1, h2⟩
      · exact h2 hz
      · omega
    · exact I.above q z (by rcases hm with ⟨h1, _⟩ | ⟨h1, _⟩ <;> omega) hz hzq h
  · rw [Li_set hs] at hL
    rw [tmps_put]
    by_cases hqp : q = p
    · subst hqp
      rw [R.at_] at hz; simp only [Option.some.injEq] at hz; subst hz
      rw [io.op] at hoz; simp only [Option.some.injEq] at hoz; subst hoz
      rcases dst_of io.dst with ⟨h1, _⟩ | ⟨n', h1, _, h3, _⟩
      · rw [h1] at hd; exact absurd hd (by simp)
      · rw [h1] at hd; simp only [Option.some.injEq] at hd; subst hd
        rw [if_pos ⟨h1, by rw [I.size]; exact h3⟩]; exact hy
    · have hL : Li listed z.i := hL.resolve_left fun h => hqp (D.inj q p z x hz R.at_ h)
      have hne : o.dst ≠ some n := by
        rcases Nat.lt_or_ge q p with h | h
        · exact ((D.pair q p z x oz o h hz R.at_ hoz io.op).1 n hd).2
        · intro h2
          exact ((D.pair p q x z o oz (by omega) R.at_ hz io.op hoz).1 n h2).2 hd
      rw [if_neg (fun h => hne h.1)]
      exact (I.tm1 q z oz n hz hoz hd hL).mono hle
  · have hne : o.dst ≠ some n := hno p x o R.at_ io.op ((Li_set hs).2 (.inl rfl))
    rw [tmps_put, if_neg (fun h => hne h.1)]
    exact (I.tm2 n hb hn fun q z oz hz hoz hL => hno q z oz hz hoz ((Li_set hs).2 (.inr hL))).mono hle
end
end
end Go.Ev
namespace Go.Ev
variable [Sy]
noncomputable section
section
variable {P : Program} {cf : Cf} {K N : Nat} {ops : Array Oper} {l : DL} {call : CallT} {t0 t' : Tr} {s0 s' : S} {T : Nat → Tr} {B : Nat → S} {W : Nat → List Wt} {v : Nat → V} {did : Nat → Bool}
variable {ro : Option Nat} {nn : Nat} {w0 : Bs} {w : World} {ρ0 ρ : Rho} {listed : Array Bool} {m p : Nat} {a : Act} {x : It} {o : Oper}

/- what a step that is no act leaves -/
theorem quiet_step (D : DF cf K N ops l) (tr : Tra call l t0 s0 [] t' s' T B W v did) (hx : l[p]? = some x) (hn : ¬ Act1 l did p) :
    (B (p + 1) = B p ∧ ∀ ps, x.k = .make ps → did p = false) ∨ ∃ ps C, x.k = .make ps ∧ did p = true ∧ B (p + 1) = (B p).add C ∧ bndPs (B p).next (T p) ps = true ∧ evO x.o noCallT (T p) (.mk .leaf (B p).next) = .ok (v p) ((S.mk .leaf (B p).next).add C) ∧
      ∀ ρ y, OV ρ (v p) y → ∃ q, ρ (B p).next = some q := by
  obtain ⟨o, io⟩ := D.item p x hx
  have st := (tr.step p x hx).2
  cases hd : did p with
  | false => exact .inl ⟨(st.skip hd).2.1, fun _ _ => rfl⟩
  | true =>
    have hdo := st.done hd
    have hk := io.kind
    cases hkk : x.k with
    | pure =>
      rw [hkk] at hdo hk
      exact .inl ⟨((pure_unif hk noCallT (T p)).use hdo.1).1, fun _ h => absurd h (by simp)⟩
    | read =>
      rw [hkk] at hdo hk
      exact .inl ⟨read_same hk hdo.1, fun _ h => absurd h (by simp)⟩
    | make ps =>
      rw [hkk] at hdo hk
      obtain ⟨C, h1, h2, h3⟩ := make_one hk hdo.2.1
      exact .inr ⟨ps, C, rfl, rfl, h1, hdo.1, h2, h3⟩
    | act b => exact absurd ⟨x, hx, by rw [hkk]; rfl, hd⟩ hn

theorem make_next (D : DF cf K N ops l) (tr : Tra call l t0 s0 [] t' s' T B W v did) {ps : List Pt} (hx : l[p]? = some x) (hk : x.k = .make ps) (hd : did p = true) : (B (p + 1)).next = (B p).next + 1 := by
  have hn : ¬ Act1 l did p := by
    rintro ⟨y, hy, ha, _⟩
    rw [hx] at hy; simp only [Option.some.injEq] at hy; subst hy
    rw [hk] at ha; exact absurd ha (by simp [isAct])
  rcases quiet_step D tr hx hn with ⟨_, h⟩ | ⟨_, C, _, _, h, _⟩
  · rw [h ps hk] at hd; exact absurd hd (by simp)
  · rw [h, S.next_add]

theorem Inv.adv (D : DF cf K N ops l) (tr : Tra call l t0 s0 [] t' s' T B W v did) (I : Inv ops l K N w0 ρ0 t0 s0 B v did listed m ρ a w) (hm : m < l.length) (hn : ¬ Act1 l did m) :
    Inv ops l K N w0 ρ0 t0 s0 B v did listed (m + 1) ρ a w := by
  obtain ⟨x, hx⟩ := at_of hm
  have hok : Ok w0 ρ (B (m + 1)) w ∧ Post ρ (B m) ρ (B (m + 1)) ∧ (∀ k, k < (B m).next → (B (m + 1)).heap.get k = (B m).heap.get k) := by
    rcases quiet_step D tr hx hn with ⟨h, _⟩ | ⟨_, C, _, _, h, _⟩
    · rw [h]; exact ⟨I.ok, Post.refl _ _, fun _ _ => rfl⟩
    · rw [h]
      obtain ⟨h1, h2⟩ := I.ok.pending C
      exact ⟨h1, h2, fun k hk => by rw [S.get_add, if_neg (by omega)]⟩
  obtain ⟨hok, hpo, hsame⟩ := hok
  refine ⟨I.sz, I.clo, hm, fun q y hq hy hyq => ?_, fun q y hq => I.above q y (by omega), hok, I.post.trans hpo, fun q r hqr hr => ?_, fun q y ps hq hy hk hd hL => ?_, I.tm1, I.tm2, I.size, I.defers⟩
  · rcases Nat.lt_or_ge q m with h | h
    · exact I.below q y h hy hyq
    · have : q = m := by omega
      subst this
      exact absurd hy hn
  · rcases Nat.lt_or_ge m r with h | h
    · have : r = m + 1 := by omega
      subst this
      rcases Nat.lt_or_ge m q with h2 | h2
      · have : q = m + 1 := by omega
        subst this; exact Nat.le_refl _
      · exact Nat.le_trans (I.mono q m h2 (Nat.le_refl _)) hpo.nx
    · exact I.mono q r hqr h
  · have hnx := make_next D tr hy hk hd
    rcases Nat.lt_or_ge q m with h | h
    · obtain ⟨h1, h2⟩ := I.pend q y ps h hy hk hd hL
      refine ⟨h1, ?_⟩
      rw [hsame]
      · exact h2
      · have := I.mono (q + 1) m h (Nat.le_refl _); omega
    · have : q = m := by omega
      subst this
      exact ⟨I.ok.nx _ (Nat.le_refl _), rfl⟩
theorem Inv.norm (D : DF cf K N ops l) (tr : Tra call l t0 s0 [] t' s' T B W v did) : ∀ n m, l.length - m = n → Inv ops l K N w0 ρ0 t0 s0 B v did listed m ρ a w →
    ∃ m', Inv ops l K N w0 ρ0 t0 s0 B v did listed m' ρ a w ∧ (m' < l.length → Act1 l did m') := by
  intro n
  induction n with
  | zero => intro m hm I; exact ⟨m, I, fun h => by omega⟩
  | succ n ih =>
    intro m hm I
    by_cases h : Act1 l did m
    · exact ⟨m, I, fun _ => h⟩
    · exact ih (m + 1) (by omega) (I.adv D tr (by omega) h)

/- what is read stays to be read again -/
theorem watch_ok (D : DF cf K N ops l) (tr : Tra call l t0 s0 [] t' s' T B W v did) (I : Inv ops l K N w0 ρ0 t0 s0 B v did listed m ρ a w) (R : Rdy ops l listed p x) (hk : x.k = .read) (hd : did p = true) :
    ∀ q, p < q → q ≤ m → (⟨x.i, x.o, T p, v p⟩ : Wt) ∈ W q := by
  intro q
  induction q with
  | zero => intro h; omega
  | succ q ih =>
    intro hpq hqm
    have hml := I.ml
    obtain ⟨y, hy⟩ := at_of (l := l) (p := q) (by omega)
    have st := (tr.step q y hy).2
    rcases Nat.lt_or_ge p q with h | h
    · have hm := ih h (by omega)
      cases hdq : did q with
      | false => rw [(st.skip hdq).2.2]; exact hm
      | true =>
        have hdo := st.done hdq
        cases hky : y.k with
        | pure => rw [hky] at hdo; rw [hdo.2]; exact hm
        | read => rw [hky] at hdo; rw [hdo.2]; exact List.mem_cons_of_mem _ hm
        | make ps => rw [hky] at hdo; rw [hdo.2.2]; exact hm
        | act b =>
          rw [hky] at hdo; rw [hdo.2.2]
          refine unread_mem hm ?_
          obtain ⟨oy, ioy⟩ := D.item q y hy
          have hk2 := ioy.kind
          rw [hky] at hk2
          have hb : b = ancAt ops y.i := by
            generalize y.o = oo at hk2
            cases oo <;> simp only [kindOf, reduceCtorEq, Option.some.injEq, DK.act.injEq] at hk2 <;> exact hk2.symm
          have hL := I.below q y (by omega) ⟨y, hy, by rw [hky]; rfl, hdq⟩ hy
          show Nat.testBit b x.i = false
          rw [hb]
          cases hbit : Nat.testBit (ancAt ops y.i) x.i
          · rfl
          · exact absurd (I.clo _ _ hL hbit) R.no
    · have : q = p := by omega
      subst this
      rw [R.at_] at hy; simp only [Option.some.injEq] at hy; subst hy
      have hdo := st.done hd
      rw [hk] at hdo
      rw [hdo.2]; exact List.mem_cons_self ..
theorem again_at (tr : Tra call l t0 s0 [] t' s' T B W v did) (hm : m < l.length → Act1 l did m) (hml : m ≤ l.length) : again (B m) (W m) = true := by
  rcases Nat.lt_or_ge m l.length with h | h
  · obtain ⟨x, hx, hk, hd⟩ := hm h
    have hdo := (tr.step m x hx).2.done hd
    cases hkx : x.k with
    | act b => rw [hkx] at hdo; exact hdo.1
    | pure => rw [hkx] at hk; exact absurd hk (by simp [isAct])
    | read => rw [hkx] at hk; exact absurd hk (by simp [isAct])
    | make ps => rw [hkx] at hk; exact absurd hk (by simp [isAct])
  · have : m = l.length := by omega
    rw [this]; exact tr.last

/- one step of any order -/
theorem step_ok (E : EnvOk P cf) (hK : K >>> 65536 = 0) (hc : CallOk P w0 call) (D : DF cf K N ops l) (tr : Tra call l t0 s0 [] t' s' T B W v did) (I : Inv ops l K N w0 ρ0 t0 s0 B v did listed m ρ a w)
    (hm : m < l.length → Act1 l did m) (R : Rdy ops l listed p x) {next : Act → World → Prop} {Q : Exit → Act → World → Prop}
    (hn : ∀ m' ρ' a' w', Inv ops l K N w0 ρ0 t0 s0 B v did (listed.setIfInBounds x.i true) m' ρ' a' w' → next a' w') : wpOpIn (FW ro) nn P ops Q x.i next a w := by
  obtain ⟨o, io⟩ := D.item p x R.at_
  have hw := wanted_ok D hK tr I R io
  have F := fr_ok D hK tr I R io
  have hK' := mask_small io.mask hK
  have hs : x.i < listed.size := by rw [I.sz]; exact R.lt
  have st := (tr.step p x R.at_).2
  unfold wpOpIn
  rw [io.op]
  dsimp only
  rw [hw]
  have pend0 : ∀ (q : Nat) (z : It) (ps : List Pt), q < m → l[q]? = some z → z.k = .make ps → did q = true → ¬ Li (listed.setIfInBounds x.i true) z.i → ρ (B q).next = none ∧ (B m).heap.get (B q).next = (B (q + 1)).heap.get (B q).next :=
    fun q z ps hq hz hk hd hL => I.pend q z ps hq hz hk hd fun h => hL ((Li_set hs).2 (.inr h))
  have pm : p ≤ m := by
    rcases Nat.lt_or_ge m p with h | h
    · exfalso
      have hml : m < l.length := by have := lt_of R.at_; omega
      obtain ⟨y, hy, hky, hdy⟩ := hm hml
      obtain ⟨oy, ioy⟩ := D.item m y hy
      exact I.above m y (Nat.le_refl _) ⟨y, hy, hky, hdy⟩ hy (R.anc _ ((D.pair m p y x oy o h hy R.at_ ioy.op io.op).2.2 hky))
    · exact h
  cases hd : did p with
  | false =>
    rw [if_neg (by simp)]
    have hna : ¬ Act1 l did p := fun ⟨_, _, _, h⟩ => by rw [hd] at h; exact absurd h (by simp)
    refine ⟨fun _ _ => trivial, ?_⟩
    refine hn m ρ _ w (I.put D R io (Le.refl ρ) ?_ (.inl ⟨rfl, hna⟩) I.ok I.post I.mono pend0)
    rw [(st.skip hd).1]
    exact .inr (by simp [uV, val, vals, undef])
  | true =>
    rw [if_pos rfl]
    have hdo := st.done hd
    have hkind := io.kind
    have comp : ∀ {c : CallT} {s1 s2 : S}, evO x.o c (T p) s1 = .ok (v p) s2 → compB cf (maskOf o) [] o.op = some x.o := by
      intro c s1 s2 he
      have := io.o_eq
      cases hcb : compB cf (maskOf o) [] o.op with
      | none =>
        rw [hcb] at this
        simp only [Option.getD_none] at this
        rw [this] at he
        exact absurd (show OR.fail 95 = .ok (v p) s2 from he) (by simp)
      | some i => rw [hcb] at this; rw [this]; rfl
    /- nothing changes but the answer -/
    have still : ¬ Act1 l did p → evO x.o noCallT (T p) (B m) = .ok (v p) (B m) → o.wpIn (FW ro) nn P a w next Q := by
      intro hna he
      refine op_okIn ro nn E hK' (noCallOk P w0) F I.ok (comp he) he fun ρ1 w1 y ok1 po1 hy => ?_
      have hρ : ρ1 = ρ := by
        funext k
        rcases Nat.lt_or_ge k (B m).next with h | h
        · exact po1.ext k h
        · rw [ok1.nx k h, I.ok.nx k h]
      subst hρ
      exact hn m ρ1 _ w1 (I.put D R io (Le.refl ρ1) hy (.inl ⟨rfl, hna⟩) ok1 I.post I.mono pend0)
    have noAct : isAct x.k = false → ¬ Act1 l did p := fun h ⟨y, hy, hk, _⟩ => by
      rw [R.at_] at hy; simp only [Option.some.injEq] at hy; subst hy
      rw [h] at hk; exact absurd hk (by simp)
    have ltm : ¬ Act1 l did p → p < m := fun h => by
      rcases Nat.lt_or_ge p m with h' | h'
      · exact h'
      · have : p = m := by omega
        subst this
        exact absurd (hm (lt_of R.at_)) h
    cases hkx : x.k with
    | pure =>
      rw [hkx] at hdo hkind
      exact still (noAct (by rw [hkx]; rfl)) (((pure_unif hkind noCallT (T p)).use hdo.1).2 _)
    | read =>
      rw [hkx] at hdo hkind
      have hna := noAct (by rw [hkx]; rfl)
      obtain ⟨s2, he⟩ := again_ok (again_at tr hm I.ml) (watch_ok D tr I R hkx hd m (ltm hna) (Nat.le_refl _))
      have he : evO x.o noCallT (T p) (B m) = .ok (v p) s2 := he
      have := read_same hkind he
      subst this
      exact still hna he
    | make ps =>
      have hna := noAct (by rw [hkx]; rfl)
      have hpm := ltm hna
      rcases quiet_step D tr R.at_ hna with ⟨_, h⟩ | ⟨ps', C, hk2, _, hB, hbn, hev, hin⟩
      · rw [h ps hkx] at hd; exact absurd hd (by simp)
      · rw [hkx] at hk2 hkind
        simp only [DK.make.injEq] at hk2
        subst hk2
        have hps : ps = opTmps o.op.operands.toList := by
          generalize x.o = oo at hkind
          cases oo <;> simp only [kindOf, reduceCtorEq, Option.some.injEq, DK.make.injEq] at hkind <;> exact hkind.symm
        obtain ⟨hpn, hph⟩ := I.pend p x ps hpm R.at_ hkx hd R.no
        have hnx : (B (p + 1)).next = (B p).next + 1 := by rw [hB, S.next_add]
        have hlt : (B p).next < (B m).next := by have := I.mono (p + 1) m hpm (Nat.le_refl _); omega
        have F' : Fr (maskOf o) N (ρ.below (B p).next) (T p) [] a := by
          refine ⟨I.size, fun n hb hn => ?_, fun n x hx => by simp at hx⟩
          rcases F.tmps n hb hn with h | h
          · exact .inl h
          · exact .inr (by rw [val_below _ (bndPs_mem hbn (by rw [hps]; exact opMask_mem hb))]; exact h)
        refine op_okIn ro nn E hK' (noCallOk P (Bs.of w)) F' (I.ok.bare _) (comp hev) hev fun ρ1 w1 y ok1 po1 hy => ?_
        obtain ⟨q, hq⟩ := hin ρ1 y hy
        have hle1 : Le ρ1 (ρ.set (B p).next q) := fun j r hj => by
          simp only [Rho.set]
          rcases Nat.lt_trichotomy j (B p).next with h | h | h
          · rw [if_neg (by omega)]
            rw [po1.ext j h] at hj
            exact below_le _ _ _ _ hj
          · subst h
            rw [if_pos rfl, ← hq, hj]
          · have := ok1.nx j (by rw [S.next_add]; exact h)
            rw [this] at hj; exact absurd hj (by simp)
        have hle : Le ρ (ρ.set (B p).next q) := fun j r hj => by
          simp only [Rho.set]
          rw [if_neg (fun e => by subst e; rw [hpn] at hj; exact absurd hj (by simp))]; exact hj
        have hC : (B m).heap.get (B p).next = C := by rw [hph, hB, S.get_add, if_pos rfl]
        refine hn m (ρ.set (B p).next q) _ w1 (I.put D R io hle (hy.mono hle1) (.inl ⟨rfl, hna⟩) (I.ok.late hpn hlt hC hq ok1 hle1) ⟨fun k hk => ?_, I.post.nx, fun k hk h0 => I.post.pend k hk h0⟩ I.mono fun r z ps' hr hz hkz hdz hL => ?_)
        · have : s0.next ≤ (B p).next := by have := I.mono 0 p (Nat.zero_le _) (by omega); rw [tr.s0] at this; exact this
          simp only [Rho.set]
          rw [if_neg (by omega)]; exact I.post.ext k hk
        · obtain ⟨h1, h2⟩ := pend0 r z ps' hr hz hkz hdz hL
          refine ⟨?_, h2⟩
          simp only [Rho.set]
          rw [if_neg ?_]
          · exact h1
          · intro he
            have hnz := make_next D tr hz hkz hdz
            rcases Nat.lt_trichotomy r p with h | h | h
            · have := I.mono (r + 1) p h (by omega); omega
            · subst h
              rw [R.at_] at hz; simp only [Option.some.injEq] at hz; subst hz
              exact hL ((Li_set hs).2 (.inl rfl))
            · have := I.mono (p + 1) r h (by omega); omega
    | act b =>
      have hact : Act1 l did p := ⟨x, R.at_, by rw [hkx]; rfl, hd⟩
      have hpm : p = m := by
        rcases Nat.lt_or_ge p m with h | h
        · exact absurd (I.below p x h hact R.at_) R.no
        · omega
      subst hpm
      rw [hkx] at hdo
      refine op_okIn ro nn E hK' hc F I.ok (comp hdo.2.1) hdo.2.1 fun ρ1 w1 y ok1 po1 hy => ?_
      refine hn (p + 1) ρ1 _ w1 (I.put D R io (po1.le I.ok) hy (.inr ⟨rfl, rfl⟩) ok1 (I.post.trans po1) (fun q r hqr hr => ?_) fun q z ps hq hz hkz hdz hL => ?_)
      · rcases Nat.lt_or_ge p r with h | h
        · have : r = p + 1 := by omega
          subst this
          rcases Nat.lt_or_ge p q with h2 | h2
          · have : q = p + 1 := by omega
            subst this; exact Nat.le_refl _
          · exact Nat.le_trans (I.mono q p h2 (Nat.le_refl _)) po1.nx
        · exact I.mono q r hqr h
      · have hqp : q < p := by
          rcases Nat.lt_or_ge q p with h | h
          · exact h
          · have : q = p := by omega
            subst this
            rw [R.at_] at hz; simp only [Option.some.injEq] at hz; subst hz
            rw [hkx] at hkz; exact absurd hkz (by simp)
        obtain ⟨h1, h2⟩ := pend0 q z ps hqp hz hkz hdz hL
        have hnz := make_next D tr hz hkz hdz
        have hlt : (B q).next < (B p).next := by have := I.mono (q + 1) p hqp (Nat.le_refl _); omega
        exact ⟨by rw [po1.ext _ hlt]; exact h1, by rw [po1.pend _ hlt h1]; exact h2⟩

theorem all_listed (D : DF cf K N ops l) (I : Inv ops l K N w0 ρ0 t0 s0 B v did listed m ρ a w) (h : Region.ready .any ops listed = []) : ∀ i, i < ops.size → Li listed i := by
  intro i
  induction i using Nat.strongRecOn with
  | _ i ih =>
    intro hi
    by_cases hL : Li listed i
    · exact hL
    · exfalso
      have : i ∈ Region.ready .any ops listed := by
        simp only [Region.ready, List.mem_filter, List.mem_range, Bool.and_eq_true]
        have hs : i < listed.size := by rw [I.sz]; exact hi
        refine ⟨hi, ?_, ?_⟩
        · unfold Li at hL
          simp only [Array.getD_eq_getD_getElem?, Array.getElem?_eq_getElem hs, Option.getD_some] at hL ⊢
          simpa using hL
        · rw [Array.getElem?_eq_getElem hi]
          simp only [Option.map_some, Option.getD_some, Array.all_eq_true_iff_forall_mem]
          intro e he
          cases hb : Region.binds .any e with
          | false => rfl
          | true =>
            have hlt := D.back i _ e (Array.getElem?_eq_getElem hi) he hb
            exact ih e.on hlt (by omega)
      rw [h] at this; exact absurd this (by simp)

theorem end_ok (D : DF cf K N ops l) (hK : K >>> 65536 = 0) (tr : Tra call l t0 s0 [] t' s' T B W v did) (I : Inv ops l K N w0 ρ0 t0 s0 B v did listed m ρ a w) (hm : m < l.length → Act1 l did m)
    (h : Region.ready .any ops listed = []) : Ok w0 ρ s' w ∧ Post ρ0 s0 ρ s' ∧ Fr K N ρ t' [] a := by
  have hall := all_listed D I h
  have hml : m = l.length := by
    rcases Nat.lt_or_ge m l.length with h' | h'
    · obtain ⟨x, hx, hk, hd⟩ := hm h'
      obtain ⟨o, io⟩ := D.item m x hx
      exact absurd (hall x.i (by
        rcases Nat.lt_or_ge x.i ops.size with h2 | h2
        · exact h2
        · have := io.op; rw [Array.getElem?_eq_none h2] at this; exact absurd this (by simp))) (I.above m x (Nat.le_refl _) ⟨x, hx, hk, hd⟩ hx)
    · have := I.ml; omega
  subst hml
  refine ⟨by rw [← tr.sn]; exact I.ok, by rw [← tr.sn]; exact I.post, ⟨I.size, fun n hb hn => ?_, fun n x hx => by simp at hx⟩⟩
  obtain ⟨f1, f2⟩ := frame1 D hK tr l.length (Nat.le_refl _) n hn
  rw [← tr.tn]
  by_cases h : ∃ (q : Nat) (y : It) (oy : Oper), l[q]? = some y ∧ ops[y.i]? = some oy ∧ oy.dst = some n
  · obtain ⟨q, y, oy, hy, hoy, hd⟩ := h
    rw [f1 q y oy (lt_of hy) hy hoy hd]
    refine I.tm1 q y oy n hy hoy hd (hall _ ?_)
    rcases Nat.lt_or_ge y.i ops.size with h2 | h2
    · exact h2
    · rw [Array.getElem?_eq_none h2] at hoy; exact absurd hoy (by simp)
  · rw [f2 fun q y oy _ h2 h3 h4 => h ⟨q, y, oy, h2, h3, h4⟩]
    exact I.tm2 n hb hn fun q y oy h2 h3 _ h4 => h ⟨q, y, oy, h2, h3, h4⟩

theorem any_ok (E : EnvOk P cf) (hK : K >>> 65536 = 0) (hc : CallOk P w0 call) (D : DF cf K N ops l) (tr : Tra call l t0 s0 [] t' s' T B W v did) {Q : Exit → Act → World → Prop}
    (hQ : ∀ ρ' a' w', Ok w0 ρ' s' w' → Post ρ0 s0 ρ' s' → Fr K N ρ' t' [] a' → a'.defers = [] → Q .normal a' w') : ∀ (fuel : Nat) (listed : Array Bool) (m : Nat) (ρ : Rho) (a : Act) (w : World),
    listed.toList.count false ≤ fuel → Inv ops l K N w0 ρ0 t0 s0 B v did listed m ρ a w → wpAnyIn (FW ro) nn P .any ops Q fuel listed a w := by
  intro fuel
  induction fuel with
  | zero =>
    intro listed m ρ a w hf I
    obtain ⟨m', I, hm⟩ := I.norm D tr _ _ rfl
    have hr : Region.ready .any ops listed = [] := by
      apply List.eq_nil_iff_forall_not_mem.2
      intro i hi
      obtain ⟨p, x, rfl, R⟩ := rdy_of D I hi
      have hs : x.i < listed.size := by rw [I.sz]; exact R.lt
      have : listed[x.i] = false := by
        have := R.no
        unfold Li at this
        simp only [Array.getD_eq_getD_getElem?, Array.getElem?_eq_getElem hs, Option.getD_some] at this
        simpa using this
      have hmem : false ∈ listed.toList := by rw [← this]; simp
      have := List.count_pos_iff.2 hmem
      omega
    obtain ⟨h1, h2, h3⟩ := end_ok D hK tr I hm hr
    exact ⟨hr, hQ ρ a w h1 h2 h3 I.defers⟩
  | succ fuel ih =>
    intro listed m ρ a w hf I
    obtain ⟨m', I, hm⟩ := I.norm D tr _ _ rfl
    refine ⟨fun hr => ?_, fun i hi => ?_⟩
    · obtain ⟨h1, h2, h3⟩ := end_ok D hK tr I hm hr
      exact hQ ρ a w h1 h2 h3 I.defers
    · obtain ⟨p, x, rfl, R⟩ := rdy_of D I hi
      refine step_ok E hK hc D tr I hm R fun m2 ρ2 a2 w2 I2 => ih _ m2 ρ2 a2 w2 ?_ I2
      have hs : x.i < listed.size := by rw [I.sz]; exact R.lt
      have h0 : listed[x.i] = false := by
        have := R.no
        unfold Li at this
        simp only [Array.getD_eq_getD_getElem?, Array.getElem?_eq_getElem hs, Option.getD_some] at this
        simpa using this
      have hmem : false ∈ listed.toList := by rw [← h0]; simp
      have hpos := List.count_pos_iff.2 hmem
      have hl : x.i < listed.toList.length := by simpa using hs
      have h0' : listed.toList[x.i] = false := by simpa using h0
      rw [Array.toList_setIfInBounds, List.count_set hl, h0']
      simp only [beq_self_eq_true, if_true, show (true == false) = false from rfl, Bool.false_eq_true, if_false]
      omega
end

theorem compD_DOk {P : Program} {cf : Cf} (E : EnvOk P cf) (hf : P.follows .mixedOrders = true) : DOk P cf (compD cf) := by
  refine ⟨fun w0 K N id ops l call t s e t' s' ρ a w Q ro nn hl hK hc F ok hdf he => ?_⟩
  obtain ⟨rfl, T, B, W, v, did, tr⟩ := evDL_ok he
  have D := compD_ok hl
  refine ⟨rfl, fun hQ => wpIn_region_any hf ?_⟩
  have no : ∀ i, ¬ Li (Array.replicate ops.size false) i := fun i h => by
    unfold Li at h
    simp only [Array.getD_eq_getD_getElem?, Array.getElem?_replicate] at h
    split at h <;> simp at h
  refine any_ok E hK hc D tr hQ ops.size _ 0 ρ a _ ?_ ⟨by simp, fun i j h => absurd h (no i), Nat.zero_le _, fun q x h => by omega, fun q x _ _ _ h => no _ h, by rw [tr.s0]; exact ok.drew, by rw [tr.s0]; exact Post.refl _ _, fun p q h1 h2 => ?_, fun p x ps h => by omega,
    fun q x o n _ _ _ h => absurd h (no _), fun n hb hn _ => F.tmps n hb hn, F.size, hdf⟩
  · exact Nat.le_trans List.count_le_length (by simp)
  · have : p = q := by omega
    rw [this]; exact Nat.le_refl _
end
end Go.Ev
