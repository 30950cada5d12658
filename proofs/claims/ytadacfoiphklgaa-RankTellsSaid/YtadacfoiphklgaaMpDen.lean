/-
  A denotation of the model's code: 'D' turns the body of a function into a statement on worlds, without slots and without orders; proved sound once for every program.
-/
import Derived.Orders
import Derived.Tactics
import Derived.Laws.Tables
import Derived.Laws.StructEq
import Derived.Laws.MakeOwn
import Derived.Laws.Slices
import Derived.KernelRfl
namespace Go.Den
open Go

/-- A slice. -/
structure Sl where
  b : Option Addr
  l : Nat
  c : Nat

/-- Kinds of one cell. -/
inductive CK where
  | int (k : IntKind)
  | bool
  | str
  | ptr
  | slice
  | map
  | any

def CK.T : CK → Type
  | .int _ => Int
  | .bool => Bool
  | .str => ByteArray
  | .ptr => Option Addr
  | .slice => Sl
  | .map => Option Nat
  | .any => Value
def CK.enc : (k : CK) → k.T → Value
  | .int k, (n : Int) => .int k n
  | .bool, (b : Bool) => .bool b
  | .str, (s : ByteArray) => .string s
  | .ptr, (p : Option Addr) => .pointer p
  | .slice, (s : Sl) => .slice s.b s.l s.c
  | .map, (r : Option Nat) => .map r
  | .any, (v : Value) => v
def CK.of : Value → CK
  | .int k _ => .int k
  | .bool _ => .bool
  | .string _ => .str
  | .pointer _ => .ptr
  | .slice .. => .slice
  | .map _ => .map
  | _ => .any
def CK.dec : (k : CK) → Value → (k.T → Prop) → Prop
  | .int k, .int k' n, K => match decEq k k' with
    | .isTrue _ => K n
    | .isFalse _ => False
  | .bool, .bool b, K => K b
  | .str, .string s, K => K s
  | .ptr, .pointer p, K => K p
  | .slice, .slice b l c, K => K ⟨b, l, c⟩
  | .map, .map r, K => K r
  | .any, v, K => K v
  | _, _, _ => False

def CTs : List CK → Type
  | [] => Unit
  | k :: r => k.T × CTs r
def encs : (l : List CK) → CTs l → List Value
  | [], _ => []
  | k :: r, t => k.enc t.1 :: encs r t.2
def decs : (l : List CK) → List Value → (CTs l → Prop) → Prop
  | [], [], K => K ()
  | k :: r, v :: vs, K => k.dec v fun x => decs r vs fun t => K (x, t)
  | _, _, _ => False

/-- Kinds of a value: one cell, or a struct's or an array's cells. -/
inductive Knd where
  | c (k : CK)
  | agg (l : List CK)
def Knd.T : Knd → Type
  | .c k => k.T
  | .agg l => CTs l
def Knd.enc : (k : Knd) → k.T → Value
  | .c k, t => k.enc t
  | .agg l, t => .agg (encs l t).toArray
def Knd.dec : (k : Knd) → Value → (k.T → Prop) → Prop
  | .c k, v, K => k.dec v K
  | .agg l, .agg cs, K => decs l cs.toList K
  | _, _, _ => False
def Knd.of : Value → Knd
  | .agg zs => .agg (zs.toList.map CK.of)
  | v => .c (CK.of v)
def KTs : List Knd → Type
  | [] => Unit
  | k :: r => k.T × KTs r
def encK : (l : List Knd) → KTs l → List Value
  | [], _ => []
  | k :: r, t => k.enc t.1 :: encK r t.2
def decK : (l : List Knd) → List Value → (KTs l → Prop) → Prop
  | [], [], K => K ()
  | k :: r, v :: vs, K => k.dec v fun x => decK r vs fun t => K (x, t)
  | _, _, _ => False

theorem CK.dec_spec {k : CK} {v : Value} {K : k.T → Prop} (h : k.dec v K) : ∃ x, v = k.enc x ∧ K x := by
  cases k
  case int k =>
    cases v <;> simp only [CK.dec] at h
    rename_i k' n
    cases hd : decEq k k' with
    | isTrue e => subst e; rw [hd] at h; exact ⟨n, rfl, h⟩
    | isFalse e => rw [hd] at h; exact h.elim
  all_goals first
    | (cases v <;> simp only [CK.dec] at h <;> exact ⟨_, rfl, h⟩)
    | exact ⟨v, rfl, by cases v <;> exact h⟩
theorem decs_spec : ∀ {l : List CK} {vs : List Value} {K : CTs l → Prop}, decs l vs K → ∃ t, vs = encs l t ∧ K t
  | [], [], _, h => ⟨(), rfl, h⟩
  | [], _ :: _, _, h => h.elim
  | _ :: _, [], _, h => h.elim
  | k :: r, v :: vs, K, h => by
    obtain ⟨x, rfl, h2⟩ := CK.dec_spec h
    obtain ⟨t, rfl, h3⟩ := decs_spec (l := r) (vs := vs) (K := fun t => K (x, t)) h2
    exact ⟨(x, t), rfl, h3⟩
theorem Knd.dec_spec {k : Knd} {v : Value} {K : k.T → Prop} (h : k.dec v K) : ∃ x, v = k.enc x ∧ K x := by
  cases k with
  | c k => exact CK.dec_spec h
  | agg l =>
    cases v <;> simp only [Knd.dec] at h
    rename_i cs
    obtain ⟨t, ht, h⟩ := decs_spec h
    exact ⟨t, by simp only [Knd.enc, ← ht], h⟩
theorem decK_spec : ∀ {l : List Knd} {vs : List Value} {K : KTs l → Prop}, decK l vs K → ∃ t, vs = encK l t ∧ K t
  | [], [], _, h => ⟨(), rfl, h⟩
  | [], _ :: _, _, h => h.elim
  | _ :: _, [], _, h => h.elim
  | k :: r, v :: vs, K, h => by
    obtain ⟨x, rfl, h2⟩ := Knd.dec_spec h
    obtain ⟨t, rfl, h3⟩ := decK_spec (l := r) (vs := vs) (K := fun t => K (x, t)) h2
    exact ⟨(x, t), rfl, h3⟩

/-- What is known of the slots: the newest first. -/
abbrev Ent := List (Nat × Value)
def look : Ent → Nat → Option Value
  | [], _ => none
  | (i, v) :: r, t => cond (Nat.beq i t) (some v) (look r t)
def rdT (cur o : Ent) (t : Nat) : Option Value := match look cur t with
  | some v => some v
  | none => look o t
def rd (cur o : Ent) : Operand → Option Value
  | .tmp t => rdT cur o t
  | .const v => some v
  | .global g => some (.pointer (some ⟨g, 0, none⟩))
  | .func f => some (.func (.func f) #[] #[])
def onV {α : Type} (x : Option α) (K : α → Prop) : Prop := match x with
  | some v => K v
  | none => False
theorem onV_spec {α : Type} {x : Option α} {K : α → Prop} (h : onV x K) : ∃ v, x = some v ∧ K v := by
  cases x with
  | none => exact h.elim
  | some v => exact ⟨v, rfl, h⟩
def rds (cur o : Ent) : List Operand → Option (List Value)
  | [] => some []
  | x :: r => match rd cur o x with
    | some v => match rds cur o r with
      | some vs => some (v :: vs)
      | none => none
    | none => none

structure View (n : Nat) (cur o : Ent) (a : Act) : Prop where
  size : a.tmps.size = n
  cur : ∀ t v, look cur t = some v → a.tmps.getD t undef = v
  o : ∀ t v, look o t = some v → a.tmps.getD t undef = v
  dfr : a.defers = []

theorem View.rd {n : Nat} {cur o : Ent} {a : Act} (h : View n cur o a) {x : Operand} {v : Value} (hx : rd cur o x = some v) : a.eval x = v := by
  cases x with
  | tmp t =>
    simp only [Den.rd, rdT] at hx
    cases hl : look cur t with
    | some u => rw [hl] at hx; cases hx; exact h.cur _ _ hl
    | none => rw [hl] at hx; exact h.o _ _ hx
  | const c => cases hx; rfl
  | global g => cases hx; rfl
  | func f => cases hx; rfl
theorem View.rds {n : Nat} {cur o : Ent} {a : Act} (h : View n cur o a) : ∀ {xs : List Operand} {vs : List Value}, rds cur o xs = some vs → xs.map a.eval = vs
  | [], vs, hx => by cases hx; rfl
  | x :: r, vs, hx => by
    simp only [Den.rds] at hx
    cases h1 : Den.rd cur o x with
    | none => simp [h1] at hx
    | some v =>
      cases h2 : Den.rds cur o r with
      | none => simp [h1, h2] at hx
      | some us =>
        simp [h1, h2] at hx
        subst hx
        simp [h.rd h1, View.rds h h2]

/-- A slot is written: it may be no slot of the outer ones. -/
def putD (n : Nat) (dst : Option Nat) (v : Value) (o cur : Ent) (K : Ent → Prop) : Prop := match dst with
  | none => K cur
  | some d => cond (Nat.blt d n) (match look o d with
    | none => K ((d, v) :: cur)
    | some _ => False) False
theorem putD_spec {n : Nat} {dst : Option Nat} {v : Value} {o cur : Ent} {K : Ent → Prop} (h : putD n dst v o cur K) :
    ∃ cur', K cur' ∧ ∀ a, View n cur o a → View n cur' o (a.put dst v) := by
  cases dst with
  | none => exact ⟨cur, h, fun a ha => ha⟩
  | some d =>
    simp only [putD] at h
    cases hb : Nat.blt d n with
    | false => rw [hb] at h; exact h.elim
    | true =>
      rw [hb] at h
      cases hl : look o d with
      | some u => rw [hl] at h; exact h.elim
      | none =>
        rw [hl] at h
        have hd : d < n := by simpa using hb
        refine ⟨_, h, fun a ha => ⟨by simp [Act.put, ha.size], ?_, ?_, ha.dfr⟩⟩
        · intro t u hu
          simp only [look] at hu
          cases he : Nat.beq d t with
          | true =>
            rw [he] at hu
            have : d = t := Nat.eq_of_beq_eq_true he
            subst this
            cases hu
            simp [Act.put, ha.size, hd]
          | false =>
            rw [he] at hu
            have hne : d ≠ t := Nat.ne_of_beq_eq_false he
            have := ha.cur t u hu
            simpa [Act.put, Array.getElem?_setIfInBounds_ne hne] using this
        · intro t u hu
          have hne : d ≠ t := by rintro rfl; rw [hl] at hu; cases hu
          have := ha.o t u hu
          simpa [Act.put, Array.getElem?_setIfInBounds_ne hne] using this

/-- A pointer that is not nil. -/
def onSome (p : Option Addr) (K : Addr → Prop) : Prop := match p with
  | some a => K a
  | none => False

def W64 (n : Int) : Int := IntKind.i64.wrap n

def sliceAddr (b : Option Addr) (c l size : Nat) : Option Addr := if c = l then b else b.map (·.add (l * size))

def nilV (v : Value) (K : Value → Prop) : Prop := match v with
  | .func (.func _) _ _ => K v
  | _ => False

def bitsV (op : BinOp) (k : IntKind) (x y : Int) : Int :=
  let a := BitVec.ofInt k.bits x
  let b := BitVec.ofInt k.bits y
  match op with
  | .and => k.wrap (a &&& b).toNat
  | .or => k.wrap (a ||| b).toNat
  | .xor => k.wrap (a ^^^ b).toNat
  | _ => k.wrap (a &&& ~~~b).toNat

/-- '==' of structs whose fields are all whole numbers, bools or strings of one cell. -/
def plainFields (P : Program) : List Field → Nat → Bool
  | [], _ => true
  | f :: r, i => !(f.name == "_") && Nat.beq f.offset i && (match P.underlying f.type with
    | some (.int _) => true
    | _ => false) && plainFields P r (i + 1)
def eqInts : List Value → List Value → Option Bool
  | [], [] => some true
  | .int k a :: r, .int k' b :: s => match decEq k k' with
    | .isTrue _ => match eqInts r s with
      | some e => some ((a == b) && e)
      | none => none
    | .isFalse _ => none
  | _, _ => none
def eqAgg (P : Program) (t : TypeId) (xs ys : Array Value) (K : Bool → Prop) : Prop :=
  match P.underlying t with
  | some (.struct fs) => cond (!P.stoodInHeld t && !P.eqGuardType P.depth t && plainFields P fs.toList 0 && Nat.beq fs.size xs.size && Nat.beq fs.size ys.size) (onV (eqInts xs.toList ys.toList) K) False
  | _ => False

def binD (P : Program) (op : BinOp) (t : TypeId) (x y : Value) (K : Value → Prop) : Prop :=
  match x, y with
  | .int k a, .int k' b =>
    match op with
    | .shl => 0 ≤ b ∧ K (.int k (k.wrap (a * 2 ^ (min b.toNat k.bits))))
    | .shr => 0 ≤ b ∧ K (.int k (a.fdiv (2 ^ (min b.toNat k.bits))))
    | op => match decEq k k' with
      | .isFalse _ => False
      | .isTrue _ => match op with
        | .add => K (.int k (k.wrap (a + b)))
        | .sub => K (.int k (k.wrap (a - b)))
        | .mul => K (.int k (k.wrap (a * b)))
        | .quo => ¬ b = 0 ∧ K (.int k (k.wrap (a.tdiv b)))
        | .rem => ¬ b = 0 ∧ K (.int k (a.tmod b))
        | .and => K (.int k (bitsV .and k a b))
        | .or => K (.int k (bitsV .or k a b))
        | .xor => K (.int k (bitsV .xor k a b))
        | .andNot => K (.int k (bitsV .andNot k a b))
        | .eql => K (.bool (a == b))
        | .neq => K (.bool (a != b))
        | .lss => K (.bool (decide (a < b)))
        | .leq => K (.bool (decide (a ≤ b)))
        | .gtr => K (.bool (decide (a > b)))
        | .geq => K (.bool (decide (a ≥ b)))
        | _ => False
  | .bool a, .bool b => match op, P.underlying t with
    | .eql, some .bool => K (.bool (a == b))
    | .neq, some .bool => K (.bool (!(a == b)))
    | _, _ => False
  | .string a, .string b => match op with
    | .eql => K (.bool (a.toList == b.toList))
    | .neq => K (.bool (!(a.toList == b.toList)))
    | _ => False
  | .pointer a, .pointer none => match op, P.underlying t with
    | .eql, some (.pointer _) => K (.bool a.isNone)
    | .neq, some (.pointer _) => K (.bool (!a.isNone))
    | _, _ => False
  | .slice a _ _, .slice none _ _ => match op, P.underlying t with
    | .eql, some (.slice _) => K (.bool a.isNone)
    | .neq, some (.slice _) => K (.bool (!a.isNone))
    | _, _ => False
  | .map a, .map none => match op, P.underlying t with
    | .eql, some (.map _ _) => K (.bool a.isNone)
    | .neq, some (.map _ _) => K (.bool (!a.isNone))
    | _, _ => False
  | .agg xs, .agg ys => match op with
    | .eql => eqAgg P t xs ys fun b => K (.bool b)
    | .neq => eqAgg P t xs ys fun b => K (.bool (!b))
    | _ => False
  | _, _ => False

def unD (op : UnOp) (x : Value) (K : Value → Prop) : Prop :=
  match op, x with
  | .not, .bool b => K (.bool (!b))
  | .neg, .int k n => K (.int k (k.wrap (0 - n)))
  | .xor, .int k n => K (.int k (bitsV .xor k (if k.signed then -1 else k.max) n))
  | _, _ => False

def sizeD (P : Program) (t : TypeId) (K : Nat → Prop) : Prop := match P.info? t with
  | some i => K i.size
  | none => False

/-- a slice's bounds -/
def boundD (y : Nat) (v : Option Value) (d : Nat) (K : Nat → Prop) : Prop := match v with
  | none => K d
  | some (.int _ i) => (0 ≤ i ∧ i ≤ (y : Int)) ∧ K i.toNat
  | some _ => False

/-- an optional operand -/
def onO (cur o : Ent) (x : Option Operand) (K : Option Value → Prop) : Prop := match x with
  | none => K none
  | some x => onV (rd cur o x) fun v => K (some v)

def partD (P : Program) (t : TypeId) (cs : Array Value) (off : Nat) (K : Value → Prop) : Prop := match P.underlying t with
  | some (.struct _) => sizeD P t fun n => K (.agg (cs.extract off (off + n)))
  | some (.array _ _) => sizeD P t fun n => K (.agg (cs.extract off (off + n)))
  | some _ => match cs[off]? with
    | some v => K v
    | none => False
  | none => False

def zeroD (P : Program) (t : TypeId) (K : Value → Prop) : Prop := match P.info? t with
  | some i => match i.zero with
    | some z => K z
    | none => False
  | none => False

/-- a value of a kind -/
def asK (k : Knd) (v : Value) (K : Value → Prop) : Prop := ∃ x : k.T, v = k.enc x ∧ K (k.enc x)
def asKs : List Knd → List Value → (List Value → Prop) → Prop
  | [], [], K => K []
  | k :: r, v :: vs, K => asK k v fun u => asKs r vs fun us => K (u :: us)
  | _, _, _ => False

def isConst : Operand → Bool
  | .const _ => true
  | _ => false

def indexD (P : Program) (t : TypeId) (x : Value) (ix : Operand) (i : Int) (K : Value → Prop) : Prop :=
  match P.underlying t, x with
  | some (.array len elem), .agg cs => cond (isConst ix) ((0 ≤ i ∧ i < (len : Int)) ∧ sizeD P elem fun n => partD P elem cs (i.toNat * n) K)
      ((0 ≤ i ∧ i < (len : Int)) ∧ sizeD P elem fun m => cond (Nat.beq m 1) (match P.underlying elem with
        | some (.int k) => ∃ n : Int, cs[i.toNat]? = some (.int k n) ∧ K (.int k n)
        | _ => False) False)
  | some .string, .string s => 0 ≤ i ∧ ∃ b : UInt8, s[i.toNat]? = some b ∧ K (.int .u8 b.toNat)
  | _, _ => False

def fieldOf (P : Program) (t : TypeId) (f : Nat) : Option Field := match P.underlying t with
  | some (.struct fs) => fs[f]?
  | _ => none

def lenD (P : Program) (t : TypeId) (x : Value) (K : Value → Prop) : Prop := match P.underlying t, x with
  | some (.slice _), .slice _ n _ => K (.int .i64 (n : Int))
  | some .string, .string s => K (.int .i64 (s.size : Int))
  | some (.array n _), _ => K (.int .i64 (n : Int))
  | _, _ => False
def isLen (P : Program) (t : TypeId) : Bool := match P.underlying t with
  | some (.slice _) => true
  | some .string => true
  | some (.array _ _) => true
  | _ => false

def minInt (x y : Int) : Int := if y < x then y else x
def maxInt (x y : Int) : Int := if y > x then y else x
def minD (mx : Bool) : Value → List Value → (Value → Prop) → Prop
  | x, [], K => K x
  | .int k x, .int _ y :: r, K => minD mx (.int k (cond mx (maxInt x y) (minInt x y))) r K
  | _, _, _ => False

/-- Operations that leave the world alone, and hang on nothing of it. -/
def pureD (P : Program) (cur o : Ent) (op : Op) (K : Value → Prop) : Prop :=
  match op with
  | .move x => onV (rd cur o x) K
  | .assign x => onV (rd cur o x) K
  | .pick c a b => onV (rd cur o c) fun v => match v with
    | .bool t => cond t (onV (rd cur o a) K) (onV (rd cur o b) K)
    | _ => False
  | .nilCheck x => onV (rd cur o x) fun v => match v with
    | .pointer p => onSome p fun a => K (.pointer (some a))
    | v => nilV v K
  | .binOp bop t x y _ => onV (rd cur o x) fun u => onV (rd cur o y) fun v => binD P bop t u v K
  | .unOp uop _ x => onV (rd cur o x) fun u => unD uop u K
  | .convert src dst x => onV (rd cur o x) fun u => match P.underlying src, P.underlying dst, u with
    | some _, some (.int k), .int _ n => K (.int k (k.wrap n))
    | _, _, _ => False
  | .fieldAddr s x f => onV (rd cur o x) fun u => match u with
    | .pointer p => onSome p fun a => onV (fieldOf P s f) fun fd => sizeD P fd.type fun n => cond (Nat.beq n 0) False (K (.pointer (some (a.add fd.offset))))
    | _ => False
  | .field t x f => onV (rd cur o x) fun u => match u with
    | .agg cs => onV (fieldOf P t f) fun fd => partD P fd.type cs fd.offset K
    | _ => False
  | .indexAddr t x ix => onV (rd cur o x) fun u => onV (rd cur o ix) fun v => match v with
    | .int _ i => match P.underlying t, u with
      | some (.slice e), .slice b l _ => (0 ≤ i ∧ i < (l : Int)) ∧ onSome b fun a => sizeD P e fun n => K (.pointer (some (a.add (i.toNat * n))))
      | some (.array len e), .pointer p => (0 ≤ i ∧ i < (len : Int)) ∧ onSome p fun a => sizeD P e fun n => K (.pointer (some (a.add (i.toNat * n))))
      | _, _ => False
    | _ => False
  | .index t x ix => onV (rd cur o x) fun u => onV (rd cur o ix) fun v => match v with
    | .int _ i => indexD P t u ix i K
    | _ => False
  | .extract x i => onV (rd cur o x) fun u => match u with
    | .tuple vs => onV vs.toList[i]? K
    | _ => False
  | .slice t x lo hi none => onV (rd cur o x) fun u => onO cur o lo fun vl => onO cur o hi fun vh => match P.underlying t, u with
    | some (.slice e), .slice b l c => boundD c vh l fun h => boundD h vl 0 fun l' => sizeD P e fun n => K (.slice (sliceAddr b c l' n) (h - l') (c - l'))
    | _, _ => False
  | .slice t x lo (some hi) (some mx) => onV (rd cur o x) fun u => onO cur o lo fun vl => onV (rd cur o hi) fun vh => onV (rd cur o mx) fun vm => match P.underlying t, u with
    | some (.slice e), .slice b _ c => boundD c (some vm) 0 fun m => boundD m (some vh) 0 fun h => boundD h vl 0 fun l' => sizeD P e fun n => K (.slice (sliceAddr b m l' n) (h - l') (m - l'))
    | _, _ => False
  | .build t parts => onV (rds cur o (parts.toList.map (·.2))) fun vs => onV (P.built t ((parts.toList.map (·.1)).zip vs)) fun cells => K (.agg cells)
  | .makeFunc fn first captured => onV (rds cur o first.toList) fun f => onV (rds cur o captured.toList) fun c => K (.func fn f.toArray c.toArray)
  | .call { callee := .builtin .len, args, argTypes } => match args.toList, argTypes.toList with
    | [x], [t] => onV (rd cur o x) fun u => lenD P t u K
    | _, _ => False
  | .call { callee := .builtin .cap, args, argTypes } => match args.toList, argTypes.toList with
    | [x], [t] => onV (rd cur o x) fun u => match P.underlying t, u with
      | some (.slice _), .slice _ _ c => K (.int .i64 (c : Int))
      | _, _ => False
    | _, _ => False
  | .call { callee := .builtin .min, args, .. } => onV (rds cur o args.toList) fun vs => match vs with
    | v :: r => minD false v r K
    | [] => False
  | .call { callee := .builtin .max, args, .. } => onV (rds cur o args.toList) fun vs => match vs with
    | v :: r => minD true v r K
    | [] => False
  | _ => False

/-- Is it one of these? -/
def isPure (P : Program) : Op → Bool
  | .move _ | .assign _ | .pick .. | .nilCheck _ | .binOp .. | .unOp .. | .fieldAddr .. | .field .. | .indexAddr .. | .index .. | .extract .. | .build .. | .makeFunc .. => true
  | .slice t _ _ _ none => match P.underlying t with
    | some (.slice _) => true
    | _ => false
  | .slice t _ _ (some _) (some _) => match P.underlying t with
    | some (.slice _) => true
    | _ => false
  | .convert src dst _ => match P.underlying src, P.underlying dst with
    | some (.int _), some (.int _) => true
    | _, _ => false
  | .call { callee := .builtin .len, argTypes, .. } => match argTypes.toList with
    | [t] => isLen P t
    | _ => false
  | .call { callee := .builtin .cap, .. } => true
  | .call { callee := .builtin .min, .. } => true
  | .call { callee := .builtin .max, .. } => true
  | _ => false

end Go.Den
