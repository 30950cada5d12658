import Derived.Orders
import Derived.Tactics
import Derived.Laws.Tables
import Derived.Laws.StructEq
import Derived.Laws.MakeOwn
import Derived.Laws.Slices
import Derived.KernelRfl
import Derived.Laws.AppendOwn
import Derived.Laws.OwnMore
import Derived.Laws.CopyRow
import Derived.Below
import Derived.Lib.SmallJoins
namespace Go.Den
open Go
structure Sl where
 b : Option Addr
 l : Nat
 c : Nat
inductive CK where
 | int (k : IntKind)
 | bool
 | str
 | ptr
 | slice
 | map
 | any
def CK.T : CK → Type
 | .int _ => Int
 | .bool => Bool
 | .str => ByteArray
 | .ptr => Option Addr
 | .slice => Sl
 | .map => Option Nat
 | .any => Value
def CK.enc : (k : CK) → k.T → Value
 | .int k, (n : Int) => .int k n
 | .bool, (b : Bool) => .bool b
 | .str, (s : ByteArray) => .string s
 | .ptr, (p : Option Addr) => .pointer p
 | .slice, (s : Sl) => .slice s.b s.l s.c
 | .map, (r : Option Nat) => .map r
 | .any, (v : Value) => v
def CK.of : Value → CK
 | .int k _ => .int k
 | .bool _ => .bool
 | .string _ => .str
 | .pointer _ => .ptr
 | .slice .. => .slice
 | .map _ => .map
 | _ => .any
def CK.dec : (k : CK) → Value → (k.T → Prop) → Prop
 | .int k, .int k' n, K => match decEq k k' with
  | .isTrue _ => K n
  | .isFalse _ => False
 | .bool, .bool b, K => K b
 | .str, .string s, K => K s
 | .ptr, .pointer p, K => K p
 | .slice, .slice b l c, K => K ⟨b, l, c⟩
 | .map, .map r, K => K r
 | .any, v, K => K v
 | _, _, _ => False
def CTs : List CK → Type
 | [] => Unit
 | k :: r => k.T × CTs r
def encs : (l : List CK) → CTs l → List Value
 | [], _ => []
 | k :: r, t => k.enc t.1 :: encs r t.2
def decs : (l : List CK) → List Value → (CTs l → Prop) → Prop
 | [], [], K => K ()
 | k :: r, v :: vs, K => k.dec v fun x => decs r vs fun t => K (x, t)
 | _, _, _ => False
inductive Knd where
 | c (k : CK)
 | agg (l : List CK)
def Knd.T : Knd → Type
 | .c k => k.T
 | .agg l => CTs l
def Knd.enc : (k : Knd) → k.T → Value
 | .c k, t => k.enc t
 | .agg l, t => .agg (encs l t).toArray
def Knd.dec : (k : Knd) → Value → (k.T → Prop) → Prop
 | .c k, v, K => k.dec v K
 | .agg l, .agg cs, K => decs l cs.toList K
 | _, _, _ => False
def Knd.of : Value → Knd
 | .agg zs => .agg (zs.toList.map CK.of)
 | v => .c (CK.of v)
def KTs : List Knd → Type
 | [] => Unit
 | k :: r => k.T × KTs r
def encK : (l : List Knd) → KTs l → List Value
 | [], _ => []
 | k :: r, t => k.enc t.1 :: encK r t.2
def decK : (l : List Knd) → List Value → (KTs l → Prop) → Prop
 | [], [], K => K ()
 | k :: r, v :: vs, K => k.dec v fun x => decK r vs fun t => K (x, t)
 | _, _, _ => False
theorem CK.dec_spec {k : CK} {v : Value} {K : k.T → Prop} (h : k.dec v K) : ∃ x, v = k.enc x ∧ K x := by
 cases k
 case int k =>
  cases v <;> simp only [CK.dec] at h
  rename_i k' n
  cases hd : decEq k k' with
  | isTrue e => subst e; rw [hd] at h; exact ⟨n, rfl, h⟩
  | isFalse e => rw [hd] at h; exact h.elim
 all_goals first
  | (cases v <;> simp only [CK.dec] at h <;> exact ⟨_, rfl, h⟩)
  | exact ⟨v, rfl, by cases v <;> exact h⟩
theorem decs_spec : ∀ {l : List CK} {vs : List Value} {K : CTs l → Prop}, decs l vs K → ∃ t, vs = encs l t ∧ K t
 | [], [], _, h => ⟨(), rfl, h⟩
 | [], _ :: _, _, h => h.elim
 | _ :: _, [], _, h => h.elim
 | k :: r, v :: vs, K, h => by
  obtain ⟨x, rfl, h2⟩ := CK.dec_spec h
  obtain ⟨t, rfl, h3⟩ := decs_spec (l := r) (vs := vs) (K := fun t => K (x, t)) h2
  exact ⟨(x, t), rfl, h3⟩
theorem Knd.dec_spec {k : Knd} {v : Value} {K : k.T → Prop} (h : k.dec v K) : ∃ x, v = k.enc x ∧ K x := by
 cases k with
 | c k => exact CK.dec_spec h
 | agg l =>
  cases v <;> simp only [Knd.dec] at h
  rename_i cs
  obtain ⟨t, ht, h⟩ := decs_spec h
  exact ⟨t, by simp only [Knd.enc, ← ht], h⟩
theorem decK_spec : ∀ {l : List Knd} {vs : List Value} {K : KTs l → Prop}, decK l vs K → ∃ t, vs = encK l t ∧ K t
 | [], [], _, h => ⟨(), rfl, h⟩
 | [], _ :: _, _, h => h.elim
 | _ :: _, [], _, h => h.elim
 | k :: r, v :: vs, K, h => by
  obtain ⟨x, rfl, h2⟩ := Knd.dec_spec h
  obtain ⟨t, rfl, h3⟩ := decK_spec (l := r) (vs := vs) (K := fun t => K (x, t)) h2
  exact ⟨(x, t), rfl, h3⟩
abbrev Ent := List (Nat × Value)
def look : Ent → Nat → Option Value
 | [], _ => none
 | (i, v) :: r, t => cond (Nat.beq i t) (some v) (look r t)
def rdT (cur o : Ent) (t : Nat) : Option Value := match look cur t with
 | some v => some v
 | none => look o t
def rd (cur o : Ent) : Operand → Option Value
 | .tmp t => rdT cur o t
 | .const v => some v
 | .global g => some (.pointer (some ⟨g, 0, none⟩))
 | .func f => some (.func (.func f) #[] #[])
def onV {α : Type} (x : Option α) (K : α → Prop) : Prop := match x with
 | some v => K v
 | none => False
theorem onV_spec {α : Type} {x : Option α} {K : α → Prop} (h : onV x K) : ∃ v, x = some v ∧ K v := by
 cases x with
 | none => exact h.elim
 | some v => exact ⟨v, rfl, h⟩
def rds (cur o : Ent) : List Operand → Option (List Value)
 | [] => some []
 | x :: r => match rd cur o x with
  | some v => match rds cur o r with
   | some vs => some (v :: vs)
   | none => none
  | none => none
structure View (n : Nat) (cur o : Ent) (a : Act) : Prop where
 size : a.tmps.size = n
 cur : ∀ t v, look cur t = some v → a.tmps.getD t undef = v
 o : ∀ t v, look o t = some v → a.tmps.getD t undef = v
 dfr : a.defers = []
theorem View.rd {n : Nat} {cur o : Ent} {a : Act} (h : View n cur o a) {x : Operand} {v : Value} (hx : rd cur o x = some v) : a.eval x = v := by
 cases x with
 | tmp t =>
  simp only [Den.rd, rdT] at hx
  cases hl : look cur t with
  | some u => rw [hl] at hx; cases hx; exact h.cur _ _ hl
  | none => rw [hl] at hx; exact h.o _ _ hx
 | const c => cases hx; rfl
 | global g => cases hx; rfl
 | func f => cases hx; rfl
theorem View.rds {n : Nat} {cur o : Ent} {a : Act} (h : View n cur o a) : ∀ {xs : List Operand} {vs : List Value}, rds cur o xs = some vs → xs.map a.eval = vs
 | [], vs, hx => by cases hx; rfl
 | x :: r, vs, hx => by
  simp only [Den.rds] at hx
  cases h1 : Den.rd cur o x with
  | none => simp [h1] at hx
  | some v =>
   cases h2 : Den.rds cur o r with
   | none => simp [h1, h2] at hx
   | some us =>
    simp [h1, h2] at hx
    subst hx
    simp [h.rd h1, View.rds h h2]
def putD (n : Nat) (dst : Option Nat) (v : Value) (o cur : Ent) (K : Ent → Prop) : Prop := match dst with
 | none => K cur
 | some d => cond (Nat.blt d n) (match look o d with
  | none => K ((d, v) :: cur)
  | some _ => False) False
theorem putD_spec {n : Nat} {dst : Option Nat} {v : Value} {o cur : Ent} {K : Ent → Prop} (h : putD n dst v o cur K) :
  ∃ cur', K cur' ∧ ∀ a, View n cur o a → View n cur' o (a.put dst v) := by
 cases dst with
 | none => exact ⟨cur, h, fun a ha => ha⟩
 | some d =>
  simp only [putD] at h
  cases hb : Nat.blt d n with
  | false => rw [hb] at h; exact h.elim
  | true =>
   rw [hb] at h
   cases hl : look o d with
   | some u => rw [hl] at h; exact h.elim
   | none =>
    rw [hl] at h
    have hd : d < n := by simpa using hb
    refine ⟨_, h, fun a ha => ⟨by simp [Act.put, ha.size], ?_, ?_, ha.dfr⟩⟩
    ·intro t u hu
     simp only [look] at hu
     cases he : Nat.beq d t with
     | true =>
      rw [he] at hu
      have : d = t := Nat.eq_of_beq_eq_true he
      subst this
      cases hu
      simp [Act.put, ha.size, hd]
     | false =>
      rw [he] at hu
      have hne : d ≠ t := Nat.ne_of_beq_eq_false he
      have := ha.cur t u hu
      simpa [Act.put, Array.getElem?_setIfInBounds_ne hne] using this
    ·intro t u hu
     have hne : d ≠ t := by rintro rfl; rw [hl] at hu; cases hu
     have := ha.o t u hu
     simpa [Act.put, Array.getElem?_setIfInBounds_ne hne] using this
def onSome (p : Option Addr) (K : Addr → Prop) : Prop := match p with
 | some a => K a
 | none => False
def sliceAddr (b : Option Addr) (c l size : Nat) : Option Addr := if c = l then b else b.map (·.add (l * size))
def nilV (v : Value) (K : Value → Prop) : Prop := match v with
 | .func (.func _) _ _ => K v
 | _ => False
def bitsV (op : BinOp) (k : IntKind) (x y : Int) : Int :=
 let a := BitVec.ofInt k.bits x
 let b := BitVec.ofInt k.bits y
 match op with
 | .and => k.wrap (a &&& b).toNat
 | .or => k.wrap (a ||| b).toNat
 | .xor => k.wrap (a ^^^ b).toNat
 | _ => k.wrap (a &&& ~~~b).toNat
def plainFields (P : Program) : List Field → Nat → Bool
 | [], _ => true
 | f :: r, i => !(f.name == "_") && Nat.beq f.offset i && (match P.underlying f.type with
  | some (.int _) => true
  | _ => false) && plainFields P r (i + 1)
def eqInts : List Value → List Value → Option Bool
 | [], [] => some true
 | .int k a :: r, .int k' b :: s => match decEq k k' with
  | .isTrue _ => match eqInts r s with
   | some e => some ((a == b) && e)
   | none => none
  | .isFalse _ => none
 | _, _ => none
def eqAgg (P : Program) (t : TypeId) (xs ys : Array Value) (K : Bool → Prop) : Prop :=
 match P.underlying t with
 | some (.struct fs) => cond (!P.stoodInHeld t && !P.eqGuardType P.depth t && plainFields P fs.toList 0 && Nat.beq fs.size xs.size && Nat.beq fs.size ys.size) (onV (eqInts xs.toList ys.toList) K) False
 | _ => False
def binD (P : Program) (op : BinOp) (t : TypeId) (x y : Value) (K : Value → Prop) : Prop :=
 match x, y with
 | .int k a, .int k' b =>
  match op with
  | .shl => 0 ≤ b ∧ K (.int k (k.wrap (a * 2 ^ (min b.toNat k.bits))))
  | .shr => 0 ≤ b ∧ K (.int k (a.fdiv (2 ^ (min b.toNat k.bits))))
  | op => match decEq k k' with
   | .isFalse _ => False
   | .isTrue _ => match op with
    | .add => K (.int k (k.wrap (a + b)))
    | .sub => K (.int k (k.wrap (a - b)))
    | .mul => K (.int k (k.wrap (a * b)))
    | .quo => ¬ b = 0 ∧ K (.int k (k.wrap (a.tdiv b)))
    | .rem => ¬ b = 0 ∧ K (.int k (a.tmod b))
    | .and => K (.int k (bitsV .and k a b))
    | .or => K (.int k (bitsV .or k a b))
    | .xor => K (.int k (bitsV .xor k a b))
    | .andNot => K (.int k (bitsV .andNot k a b))
    | .eql => K (.bool (a == b))
    | .neq => K (.bool (a != b))
    | .lss => K (.bool (decide (a < b)))
    | .leq => K (.bool (decide (a ≤ b)))
    | .gtr => K (.bool (decide (a > b)))
    | .geq => K (.bool (decide (a ≥ b)))
    | _ => False
 | .bool a, .bool b => match op, P.underlying t with
  | .eql, some .bool => K (.bool (a == b))
  | .neq, some .bool => K (.bool (!(a == b)))
  | _, _ => False
 | .string a, .string b => match op with
  | .eql => K (.bool (a.toList == b.toList))
  | .neq => K (.bool (!(a.toList == b.toList)))
  | _ => False
 | .pointer a, .pointer none => match op, P.underlying t with
  | .eql, some (.pointer _) => K (.bool a.isNone)
  | .neq, some (.pointer _) => K (.bool (!a.isNone))
  | _, _ => False
 | .slice a _ _, .slice none _ _ => match op, P.underlying t with
  | .eql, some (.slice _) => K (.bool a.isNone)
  | .neq, some (.slice _) => K (.bool (!a.isNone))
  | _, _ => False
 | .map a, .map none => match op, P.underlying t with
  | .eql, some (.map _ _) => K (.bool a.isNone)
  | .neq, some (.map _ _) => K (.bool (!a.isNone))
  | _, _ => False
 | .agg xs, .agg ys => match op with
  | .eql => eqAgg P t xs ys fun b => K (.bool b)
  | .neq => eqAgg P t xs ys fun b => K (.bool (!b))
  | _ => False
 | _, _ => False
def unD (op : UnOp) (x : Value) (K : Value → Prop) : Prop :=
 match op, x with
 | .not, .bool b => K (.bool (!b))
 | .neg, .int k n => K (.int k (k.wrap (0 - n)))
 | .xor, .int k n => K (.int k (bitsV .xor k (if k.signed then -1 else k.max) n))
 | _, _ => False
def sizeD (P : Program) (t : TypeId) (K : Nat → Prop) : Prop := match P.info? t with
 | some i => K i.size
 | none => False
def boundD (y : Nat) (v : Option Value) (d : Nat) (K : Nat → Prop) : Prop := match v with
 | none => K d
 | some (.int _ i) => (0 ≤ i ∧ i ≤ (y : Int)) ∧ K i.toNat
 | some _ => False
def onO (cur o : Ent) (x : Option Operand) (K : Option Value → Prop) : Prop := match x with
 | none => K none
 | some x => onV (rd cur o x) fun v => K (some v)
def partD (P : Program) (t : TypeId) (cs : Array Value) (off : Nat) (K : Value → Prop) : Prop := match P.underlying t with
 | some (.struct _) => sizeD P t fun n => K (.agg (cs.extract off (off + n)))
 | some (.array _ _) => sizeD P t fun n => K (.agg (cs.extract off (off + n)))
 | some _ => match cs[off]? with
  | some v => K v
  | none => False
 | none => False
def zeroD (P : Program) (t : TypeId) (K : Value → Prop) : Prop := match P.info? t with
 | some i => match i.zero with
  | some z => K z
  | none => False
 | none => False
def isConst : Operand → Bool
 | .const _ => true
 | _ => false
def indexD (P : Program) (t : TypeId) (x : Value) (ix : Operand) (i : Int) (K : Value → Prop) : Prop :=
 match P.underlying t, x with
 | some (.array len elem), .agg cs => cond (isConst ix) ((0 ≤ i ∧ i < (len : Int)) ∧ sizeD P elem fun n => partD P elem cs (i.toNat * n) K)
   ((0 ≤ i ∧ i < (len : Int)) ∧ sizeD P elem fun m => cond (Nat.beq m 1) (match P.underlying elem with
    | some (.int k) => ∃ n : Int, cs[i.toNat]? = some (.int k n) ∧ K (.int k n)
    | _ => False) False)
 | some .string, .string s => 0 ≤ i ∧ ∃ b : UInt8, s[i.toNat]? = some b ∧ K (.int .u8 b.toNat)
 | _, _ => False
def fieldOf (P : Program) (t : TypeId) (f : Nat) : Option Field := match P.underlying t with
 | some (.struct fs) => fs[f]?
 | _ => none
def lenD (P : Program) (t : TypeId) (x : Value) (K : Value → Prop) : Prop := match P.underlying t, x with
 | some (.slice _), .slice _ n _ => K (.int .i64 (n : Int))
 | some .string, .string s => K (.int .i64 (s.size : Int))
 | some (.array n _), _ => K (.int .i64 (n : Int))
 | _, _ => False
def isLen (P : Program) (t : TypeId) : Bool := match P.underlying t with
 | some (.slice _) => true
 | some .string => true
 | some (.array _ _) => true
 | _ => false
def minInt (x y : Int) : Int := if y < x then y else x
def maxInt (x y : Int) : Int := if y > x then y else x
def minD (mx : Bool) : Value → List Value → (Value → Prop) → Prop
 | x, [], K => K x
 | .int k x, .int _ y :: r, K => minD mx (.int k (cond mx (maxInt x y) (minInt x y))) r K
 | _, _, _ => False
def pureD (P : Program) (cur o : Ent) (op : Op) (K : Value → Prop) : Prop :=
 match op with
 | .move x => onV (rd cur o x) K
 | .assign x => onV (rd cur o x) K
 | .pick c a b => onV (rd cur o c) fun v => match v with
  | .bool t => cond t (onV (rd cur o a) K) (onV (rd cur o b) K)
  | _ => False
 | .nilCheck x => onV (rd cur o x) fun v => match v with
  | .pointer p => onSome p fun a => K (.pointer (some a))
  | v => nilV v K
 | .binOp bop t x y _ => onV (rd cur o x) fun u => onV (rd cur o y) fun v => binD P bop t u v K
 | .unOp uop _ x => onV (rd cur o x) fun u => unD uop u K
 | .convert src dst x => onV (rd cur o x) fun u => match P.underlying src, P.underlying dst, u with
  | some _, some (.int k), .int _ n => K (.int k (k.wrap n))
  | _, _, _ => False
 | .fieldAddr s x f => onV (rd cur o x) fun u => match u with
  | .pointer p => onSome p fun a => onV (fieldOf P s f) fun fd => sizeD P fd.type fun n => cond (Nat.beq n 0) False (K (.pointer (some (a.add fd.offset))))
  | _ => False
 | .field t x f => onV (rd cur o x) fun u => match u with
  | .agg cs => onV (fieldOf P t f) fun fd => partD P fd.type cs fd.offset K
  | _ => False
 | .indexAddr t x ix => onV (rd cur o x) fun u => onV (rd cur o ix) fun v => match v with
  | .int _ i => match P.underlying t, u with
   | some (.slice e), .slice b l _ => (0 ≤ i ∧ i < (l : Int)) ∧ onSome b fun a => sizeD P e fun n => K (.pointer (some (a.add (i.toNat * n))))
   | some (.array len e), .pointer p => (0 ≤ i ∧ i < (len : Int)) ∧ onSome p fun a => sizeD P e fun n => K (.pointer (some (a.add (i.toNat * n))))
   | _, _ => False
  | _ => False
 | .index t x ix => onV (rd cur o x) fun u => onV (rd cur o ix) fun v => match v with
  | .int _ i => indexD P t u ix i K
  | _ => False
 | .extract x i => onV (rd cur o x) fun u => match u with
  | .tuple vs => onV vs.toList[i]? K
  | _ => False
 | .slice t x lo hi none => onV (rd cur o x) fun u => onO cur o lo fun vl => onO cur o hi fun vh => match P.underlying t, u with
  | some (.slice e), .slice b l c => boundD c vh l fun h => boundD h vl 0 fun l' => sizeD P e fun n => K (.slice (sliceAddr b c l' n) (h - l') (c - l'))
  | _, _ => False
 | .slice t x lo (some hi) (some mx) => onV (rd cur o x) fun u => onO cur o lo fun vl => onV (rd cur o hi) fun vh => onV (rd cur o mx) fun vm => match P.underlying t, u with
  | some (.slice e), .slice b _ c => boundD c (some vm) 0 fun m => boundD m (some vh) 0 fun h => boundD h vl 0 fun l' => sizeD P e fun n => K (.slice (sliceAddr b m l' n) (h - l') (m - l'))
  | _, _ => False
 | .build t parts => onV (rds cur o (parts.toList.map (·.2))) fun vs => onV (P.built t ((parts.toList.map (·.1)).zip vs)) fun cells => K (.agg cells)
 | .makeFunc fn first captured => onV (rds cur o first.toList) fun f => onV (rds cur o captured.toList) fun c => K (.func fn f.toArray c.toArray)
 | .call { callee := .builtin .len, args, argTypes } => match args.toList, argTypes.toList with
  | [x], [t] => onV (rd cur o x) fun u => lenD P t u K
  | _, _ => False
 | .call { callee := .builtin .cap, args, argTypes } => match args.toList, argTypes.toList with
  | [x], [t] => onV (rd cur o x) fun u => match P.underlying t, u with
   | some (.slice _), .slice _ _ c => K (.int .i64 (c : Int))
   | _, _ => False
  | _, _ => False
 | .call { callee := .builtin .min, args, .. } => onV (rds cur o args.toList) fun vs => match vs with
  | v :: r => minD false v r K
  | [] => False
 | .call { callee := .builtin .max, args, .. } => onV (rds cur o args.toList) fun vs => match vs with
  | v :: r => minD true v r K
  | [] => False
 | _ => False
def isPure (P : Program) : Op → Bool
 | .move _ | .assign _ | .pick .. | .nilCheck _ | .binOp .. | .unOp .. | .fieldAddr .. | .field .. | .indexAddr .. | .index .. | .extract .. | .build .. | .makeFunc .. => true
 | .slice t _ _ _ none => match P.underlying t with
  | some (.slice _) => true
  | _ => false
 | .slice t _ _ (some _) (some _) => match P.underlying t with
  | some (.slice _) => true
  | _ => false
 | .convert src dst _ => match P.underlying src, P.underlying dst with
  | some (.int _), some (.int _) => true
  | _, _ => false
 | .call { callee := .builtin .len, argTypes, .. } => match argTypes.toList with
  | [t] => isLen P t
  | _ => false
 | .call { callee := .builtin .cap, .. } => true
 | .call { callee := .builtin .min, .. } => true
 | .call { callee := .builtin .max, .. } => true
 | _ => false
end Go.Den

namespace Go.Den
open Go
theorem run_sizeOf' {P : Program} {t : TypeId} {i : TypeInfo} (h : P.info? t = some i) (w : World) : (sizeOf t).run P w = .ok i.size w := by
 simp [sizeOf, typeInfo, h]
theorem sizeD_spec {P : Program} {t : TypeId} {K : Nat → Prop} (h : sizeD P t K) : ∃ n, K n ∧ ∀ w, (sizeOf t).run P w = .ok n w := by
 unfold sizeD at h
 cases hi : P.info? t with
 | none => rw [hi] at h; exact h.elim
 | some i => rw [hi] at h; exact ⟨i.size, h, run_sizeOf' hi⟩
theorem eqInts_eq {P : Program} (d : Nat) (w : World) : ∀ (fs : List Field) (i : Nat) (xs ys : Array Value) (e : Bool), plainFields P fs i = true → eqInts (xs.toList.drop i) (ys.toList.drop i) = some e →
  xs.size = i + fs.length → (Op.eqFields (d + 1) xs ys fs).run P w = .ok e w
 | [], i, xs, ys, e, _, he, hx => by
  have h1 : xs.toList.drop i = [] := by simp at hx; simp; omega
  rw [h1] at he
  cases hy : ys.toList.drop i with
  | nil => rw [hy] at he; simp [eqInts] at he; subst he; simp [Op.eqFields]
  | cons y r => rw [hy] at he; simp [eqInts] at he
 | f :: fs, i, xs, ys, e, hp, he, hx => by
  simp only [plainFields, Bool.and_eq_true] at hp
  obtain ⟨⟨⟨h1, h2⟩, h3⟩, h4⟩ := hp
  have hoff : f.offset = i := Nat.eq_of_beq_eq_true h2
  simp only [List.length_cons] at hx
  have hix : i < xs.toList.length := by simp; omega
  have hdx : xs.toList.drop i = xs.toList[i] :: xs.toList.drop (i + 1) := List.drop_eq_getElem_cons hix
  rw [hdx] at he
  cases hdy : ys.toList.drop i with
  | nil => rw [hdy] at he; cases xs.toList[i] <;> simp [eqInts] at he
  | cons y r =>
   have hiy : i < ys.toList.length := by
    rcases Nat.lt_or_ge i ys.toList.length with h | h
    ·exact h
    ·rw [List.drop_eq_nil_of_le h] at hdy; cases hdy
   have hdy' := List.drop_eq_getElem_cons hiy
   rw [hdy] at hdy'
   simp only [List.cons.injEq] at hdy'
   obtain ⟨hy0, hyr⟩ := hdy'
   rw [hdy, hyr] at he
   have hu : ∃ k', P.underlying f.type = some (.int k') := by
    cases hu : P.underlying f.type with
    | none => simp [hu] at h3
    | some dd => cases dd <;> simp [hu] at h3; exact ⟨_, rfl⟩
   obtain ⟨k', hu⟩ := hu
   generalize hxv : xs.toList[i] = xv at he
   cases xv <;> try (simp [eqInts] at he; done)
   rename_i k a
   cases y <;> try (simp [eqInts] at he; done)
   rename_i k2 b
   simp only [eqInts] at he
   cases hd : decEq k k2 with
   | isFalse hne => rw [hd] at he; cases he
   | isTrue hk =>
    subst hk
    rw [hd] at he
    cases hr : eqInts (xs.toList.drop (i + 1)) (ys.toList.drop (i + 1)) with
    | none => simp [hr] at he
    | some e' =>
     simp [hr] at he
     subst he
     have hname : f.name ≠ "_" := by simpa using h1
     have hag : ∀ w, (isAgg f.type).run P w = .ok false w := fun w => by simp [isAgg, run_underlying hu]
     have ex : xs[i]? = some (.int k a) := by
      have : xs.toList[i]? = some (.int k a) := by rw [List.getElem?_eq_getElem hix, hxv]
      simpa using this
     have ey : ys[i]? = some (.int k b) := by
      have : ys.toList[i]? = some (.int k b) := by rw [List.getElem?_eq_getElem hiy, ← hy0]
      simpa using this
     have px : ∀ w, (part f.type xs f.offset).run P w = .ok (.int k a) w := fun w => by simp [part, hag, hoff, ex]
     have py : ∀ w, (part f.type ys f.offset).run P w = .ok (.int k b) w := fun w => by simp [part, hag, hoff, ey]
     have ih := eqInts_eq d w fs (i + 1) xs ys e' (by simpa using h4) hr (by omega)
     have heq : (Op.equalIn (d + 1) f.type (.int k a) (.int k b)).run P w = .ok (a == b) w := by simp [Op.equalIn, run_underlying hu]
     simp only [Op.eqFields, hname, ne_eq, not_false_eq_true, if_true, Sem.run_bind, px, py, Result.andThen_ok, heq, Sem.run_ite]
     cases hab : (a == b) with
     | true => simp [ih]
     | false => simp
theorem eqAgg_spec {P : Program} {t : TypeId} {xs ys : Array Value} {K : Bool → Prop} (h : eqAgg P t xs ys K) :
  ∃ b, K b ∧ P.eqGuardType P.depth t = false ∧ ∀ w, (Op.equal t (.agg xs) (.agg ys)).run P w = .ok b w := by
 unfold eqAgg at h
 cases hu : P.underlying t with
 | none => rw [hu] at h; exact h.elim
 | some d =>
  cases d <;> try (rw [hu] at h; exact h.elim)
  rename_i fs
  rw [hu] at h
  simp only at h
  cases hc : (!P.stoodInHeld t && !P.eqGuardType P.depth t && plainFields P fs.toList 0 && Nat.beq fs.size xs.size && Nat.beq fs.size ys.size) with
  | false => rw [hc] at h; exact h.elim
  | true =>
   rw [hc] at h
   obtain ⟨b, hb, hK⟩ := onV_spec h
   simp only [Bool.and_eq_true, Bool.not_eq_true'] at hc
   obtain ⟨⟨⟨⟨h1, h2⟩, h3⟩, h4⟩, h5⟩ := hc
   refine ⟨b, hK, h2, fun w => ?_⟩
   have hfo : P.fieldsOf t = fs := by simp [Program.fieldsOf, hu]
   have hs : xs.size = 0 + fs.toList.length := by have := Nat.eq_of_beq_eq_true h4; simp; omega
   rw [Op.equal, show Op.maxDepth = 9999 + 1 from rfl, run_equalIn_struct w 9999 t xs ys (by rw [hfo]; exact hu) h1, hfo]
   exact eqInts_eq 9998 w fs.toList 0 xs ys b h3 (by simpa using hb) hs
theorem eqBool {P : Program} (d : Nat) (w : World) {t : TypeId} (hu : P.underlying t = some .bool) (a b : Bool) : (Op.equalIn (d + 1) t (.bool a) (.bool b)).run P w = .ok (a == b) w := by
 simp [Op.equalIn, run_underlying hu]
theorem eqPtr {P : Program} (d : Nat) (w : World) {t e : TypeId} (hu : P.underlying t = some (.pointer e)) (a : Option Addr) : (Op.equalIn (d + 1) t (.pointer a) (.pointer none)).run P w = .ok a.isNone w := by
 cases a <;> simp [Op.equalIn, run_underlying hu]
theorem eqSl {P : Program} (d : Nat) (w : World) {t e : TypeId} (hu : P.underlying t = some (.slice e)) (a : Option Addr) (l c l' c' : Nat) : (Op.equalIn (d + 1) t (.slice a l c) (.slice none l' c')).run P w = .ok a.isNone w := by
 cases a <;> simp [Op.equalIn, run_underlying hu]
theorem eqMap {P : Program} (d : Nat) (w : World) {t k e : TypeId} (hu : P.underlying t = some (.map k e)) (a : Option Nat) : (Op.equalIn (d + 1) t (.map a) (.map none)).run P w = .ok a.isNone w := by
 cases a <;> simp [Op.equalIn, run_underlying hu]
theorem run_eql {P : Program} (w : World) {op : BinOp} {t : TypeId} {x y : Value} {ox oy : Operand} {e : Bool} (h1 : (eqGuard op t ox oy x y).run P w = .ok () w) (h2 : (Op.equalIn 10000 t x y).run P w = .ok e w)
  (h3 : binOp op t x y = (do pure (.bool (← Op.equal t x y)))) : (do eqGuard op t ox oy x y; binOp op t x y : Sem Value).run P w = .ok (.bool e) w := by
 simp [h1, h3, Op.equal, Op.maxDepth, h2]
theorem run_neq {P : Program} (w : World) {op : BinOp} {t : TypeId} {x y : Value} {ox oy : Operand} {e : Bool} (h1 : (eqGuard op t ox oy x y).run P w = .ok () w) (h2 : (Op.equalIn 10000 t x y).run P w = .ok e w)
  (h3 : binOp op t x y = (do pure (.bool (!(← Op.equal t x y))))) : (do eqGuard op t ox oy x y; binOp op t x y : Sem Value).run P w = .ok (.bool (!e)) w := by
 simp [h1, h3, Op.equal, Op.maxDepth, h2]
theorem binD_spec {P : Program} {op : BinOp} {t : TypeId} {x y : Value} {K : Value → Prop} (h : binD P op t x y K) :
  ∃ v, K v ∧ ∀ (w : World) (ox oy : Operand), (do eqGuard op t ox oy x y; binOp op t x y : Sem Value).run P w = .ok v w := by
 have wrapEq : ∀ k n, IntKind.wrap k n = IntKind.wrap k n := fun _ _ => rfl
 cases x <;> cases y <;> try (exact h.elim)
 case bool.bool a b =>
  simp only [binD] at h
  cases op <;> try (exact h.elim)
  all_goals
   cases hu : P.underlying t with
   | none => simp [hu] at h
   | some d =>
    cases d <;> try (simp [hu] at h; done)
    simp only [hu] at h
    refine ⟨_, h, fun w ox oy => ?_⟩
    first
     | exact run_eql w (by simp [eqGuard]) (eqBool 9999 w hu _ _) rfl
     | exact run_neq w (by simp [eqGuard]) (eqBool 9999 w hu _ _) rfl
 case int.int k a k' b =>
  simp only [binD] at h
  cases op
  case shl => exact ⟨_, h.2, fun w ox oy => by simp [eqGuard, binOp, Op.shift, Int.not_lt.2 h.1]⟩
  case shr => exact ⟨_, h.2, fun w ox oy => by simp [eqGuard, binOp, Op.shift, Int.not_lt.2 h.1]⟩
  all_goals
   cases hd : decEq k k' with
   | isFalse hne => rw [hd] at h; exact h.elim
   | isTrue hk =>
    subst hk
    rw [hd] at h
    simp only at h
    first
     | exact ⟨_, h, fun w ox oy => by simp [eqGuard, binOp, Op.intArith, Op.intBits, Op.intCmp, bitsV]⟩
     | exact ⟨_, h.2, fun w ox oy => by simp [eqGuard, binOp, Op.intDiv, h.1]⟩
     | exact h.elim
 case string.string a b =>
  simp only [binD] at h
  cases op <;> try (exact h.elim)
  all_goals exact ⟨_, h, fun w ox oy => by simp [eqGuard, binOp, Op.stringOp]⟩
 case pointer.pointer a b =>
  cases b with
  | some b => exact h.elim
  | none =>
   simp only [binD] at h
   cases op <;> try (exact h.elim)
   all_goals
    cases hu : P.underlying t with
    | none => simp [hu] at h
    | some d =>
     cases d <;> try (simp [hu] at h; done)
     simp only [hu] at h
     refine ⟨_, h, fun w ox oy => ?_⟩
     first
      | exact run_eql w (by simp [eqGuard]) (eqPtr 9999 w hu _) rfl
      | exact run_neq w (by simp [eqGuard]) (eqPtr 9999 w hu _) rfl
 case slice.slice a l c b l' c' =>
  cases b with
  | some b => exact h.elim
  | none =>
   simp only [binD] at h
   cases op <;> try (exact h.elim)
   all_goals
    cases hu : P.underlying t with
    | none => simp [hu] at h
    | some d =>
     cases d <;> try (simp [hu] at h; done)
     simp only [hu] at h
     refine ⟨_, h, fun w ox oy => ?_⟩
     first
      | exact run_eql w (by simp [eqGuard]) (eqSl 9999 w hu _ _ _ _ _) rfl
      | exact run_neq w (by simp [eqGuard]) (eqSl 9999 w hu _ _ _ _ _) rfl
 case map.map a b =>
  cases b with
  | some b => exact h.elim
  | none =>
   simp only [binD] at h
   cases op <;> try (exact h.elim)
   all_goals
    cases hu : P.underlying t with
    | none => simp [hu] at h
    | some d =>
     cases d <;> try (simp [hu] at h; done)
     simp only [hu] at h
     refine ⟨_, h, fun w ox oy => ?_⟩
     first
      | exact run_eql w (by simp [eqGuard]) (eqMap 9999 w hu _) rfl
      | exact run_neq w (by simp [eqGuard]) (eqMap 9999 w hu _) rfl
 case agg.agg xs ys =>
  simp only [binD] at h
  cases op <;> try (exact h.elim)
  all_goals
   obtain ⟨b, hb, hg, hr⟩ := eqAgg_spec h
   refine ⟨_, hb, fun w ox oy => ?_⟩
   first
    | exact run_eql w (by simp [eqGuard, hg]) (hr w) rfl
    | exact run_neq w (by simp [eqGuard, hg]) (hr w) rfl
theorem unD_spec {P : Program} {op : UnOp} {x : Value} {K : Value → Prop} (h : unD op x K) : ∃ v, K v ∧ ∀ w, (Op.unary op x).run P w = .ok v w := by
 cases op <;> cases x <;> try (exact h.elim)
 all_goals exact ⟨_, h, fun w => by simp [Op.unary, Op.intArith, Op.intBits, bitsV]⟩
theorem partD_spec {P : Program} {t : TypeId} {cs : Array Value} {off : Nat} {K : Value → Prop} (h : partD P t cs off K) :
  ∃ v, K v ∧ ∀ w, (part t cs off).run P w = .ok v w := by
 unfold partD at h
 cases hu : P.underlying t with
 | none => rw [hu] at h; exact h.elim
 | some d =>
  rw [hu] at h
  by_cases hs : (∃ fs, d = .struct fs) ∨ (∃ n e, d = .array n e)
  ·have hag : ∀ w, (isAgg t).run P w = .ok true w := fun w => by
    rcases hs with ⟨fs, rfl⟩ | ⟨n, e, rfl⟩ <;> simp [isAgg, run_underlying hu]
   have h' : sizeD P t fun n => K (.agg (cs.extract off (off + n))) := by
    rcases hs with ⟨fs, rfl⟩ | ⟨n, e, rfl⟩ <;> exact h
   obtain ⟨n, hK, hn⟩ := sizeD_spec h'
   exact ⟨_, hK, fun w => by simp [part, hag, hn]⟩
  ·have hag : ∀ w, (isAgg t).run P w = .ok false w := fun w => by
    cases d <;> simp [isAgg, run_underlying hu] <;> simp_all
   cases hc : cs[off]? with
   | none => cases d <;> simp [hc] at h <;> simp_all
   | some v =>
    refine ⟨v, ?_, fun w => by simp [part, hag, hc]⟩
    cases d <;> simp [hc] at h <;> first | exact h | simp_all
theorem boundD_spec {P : Program} {y : Nat} {v : Option Value} {d : Nat} {K : Nat → Prop} (h : boundD y v d K) :
  ∃ m, K m ∧ ((v = none ∧ m = d) ∨ ∃ u, v = some u ∧ m ≤ y ∧ ∀ w code, (Instr.sliceBound u y code).run P w = .ok m w) := by
 cases v with
 | none => exact ⟨d, h, .inl ⟨rfl, rfl⟩⟩
 | some u =>
  cases u <;> try (exact h.elim)
  rename_i k i
  obtain ⟨⟨h0, h1⟩, hK⟩ := h
  refine ⟨_, hK, .inr ⟨_, rfl, by omega, fun w code => by simp [Instr.sliceBound, asIntOf, h0, h1]⟩⟩
theorem onO_spec {n : Nat} {cur o : Ent} {a : Act} (hv : View n cur o a) {x : Option Operand} {K : Option Value → Prop} (h : onO cur o x K) : K (x.map a.eval) := by
 cases x with
 | none => exact h
 | some x =>
  obtain ⟨v, hx, hK⟩ := onV_spec h
  rw [Option.map_some, hv.rd hx]
  exact hK
theorem minD_spec {P : Program} (mx : Bool) : ∀ {r : List Value} {x : Value} {K : Value → Prop}, minD mx x r K →
  ∃ v, K v ∧ ∀ w, (r.foldlM (if mx then Builtin.max2 else Builtin.min2) x).run P w = .ok v w
 | [], x, K, h => ⟨x, by cases x <;> exact h, fun w => by simp⟩
 | y :: r, x, K, h => by
  cases x <;> cases y <;> try (exact h.elim)
  rename_i k a k' b
  obtain ⟨v, hK, hr⟩ := minD_spec mx (r := r) (x := .int k (cond mx (maxInt a b) (minInt a b))) h
  refine ⟨v, hK, fun w => ?_⟩
  have := hr w
  cases mx <;> simpa [List.foldlM, Builtin.max2, Builtin.min2, minInt, maxInt] using this
theorem indexD_spec {P : Program} {t : TypeId} {x : Value} {ix : Operand} {k : IntKind} {i : Int} {K : Value → Prop} (h : indexD P t x ix i K) :
  ∃ v, K v ∧ ∀ w, (Instr.index t x (.int k i)).run P w = .ok v w := by
 unfold indexD at h
 cases hu : P.underlying t with
 | none => rw [hu] at h; exact h.elim
 | some d =>
  rw [hu] at h
  cases d <;> try (exact h.elim)
  case array len elem =>
   cases x <;> try (exact h.elim)
   rename_i cs
   simp only at h
   cases hc : isConst ix with
   | true =>
    rw [hc] at h
    obtain ⟨hb, h⟩ := h
    obtain ⟨n, hn, hs⟩ := sizeD_spec h
    obtain ⟨v, hK, hp⟩ := partD_spec hn
    exact ⟨v, hK, fun w => by simp [Instr.index, asIntOf, run_underlying hu, hb, hs, hp]⟩
   | false =>
    rw [hc] at h
    obtain ⟨hb, h⟩ := h
    obtain ⟨m, h, hm⟩ := sizeD_spec h
    cases hm1 : Nat.beq m 1 with
    | false => rw [hm1] at h; exact h.elim
    | true =>
     rw [hm1] at h
     have : m = 1 := Nat.eq_of_beq_eq_true hm1
     subst this
     cases he : P.underlying elem with
     | none => rw [he] at h; exact h.elim
     | some de =>
      rw [he] at h
      cases de <;> try (exact h.elim)
      rename_i k'
      obtain ⟨n, hn, hK⟩ := h
      refine ⟨_, hK, fun w => ?_⟩
      have hag : ∀ w, (isAgg elem).run P w = .ok false w := fun w => by simp [isAgg, run_underlying he]
      simp [Instr.index, asIntOf, run_underlying hu, hb, hm, part, hag, hn]
  case string =>
   cases x <;> try (exact h.elim)
   rename_i s
   obtain ⟨h0, b, hb, hK⟩ := h
   exact ⟨_, hK, fun w => by simp [Instr.index, asIntOf, run_underlying hu, h0, hb]⟩
end Go.Den

namespace Go.Den
open Go
theorem fieldOf_spec {P : Program} {t : TypeId} {f : Nat} {fd : Field} (h : fieldOf P t f = some fd) : ∃ fs, P.underlying t = some (.struct fs) ∧ fs[f]? = some fd := by
 unfold fieldOf at h
 cases hu : P.underlying t with
 | none => rw [hu] at h; cases h
 | some d =>
  rw [hu] at h
  cases d <;> try (cases h; done)
  exact ⟨_, rfl, h⟩
theorem onSome_spec {p : Option Addr} {K : Addr → Prop} (h : onSome p K) : ∃ a, p = some a ∧ K a := by
 cases p with
 | none => exact h.elim
 | some a => exact ⟨a, rfl, h⟩
theorem pure_slice {P : Program} {t : TypeId} {u : Value} {vl vh : Option Value} {K : Value → Prop}
  (h : match P.underlying t, u with
   | some (.slice e), .slice b l c => boundD c vh l fun h => boundD h vl 0 fun l' => sizeD P e fun n => K (.slice (sliceAddr b c l' n) (h - l') (c - l'))
   | _, _ => False) : ∃ v, K v ∧ ∀ w, (Instr.sliceAt t u vl vh none).run P w = .ok v w := by
 cases hu : P.underlying t with
 | none => simp [hu] at h
 | some d =>
  cases d <;> try (simp [hu] at h; done)
  rename_i e
  cases u <;> try (simp [hu] at h; done)
  rename_i b l c
  simp only [hu] at h
  obtain ⟨hh, h1, hb1⟩ := boundD_spec (P := P) h
  obtain ⟨ll, h2, hb2⟩ := boundD_spec (P := P) h1
  obtain ⟨n, hK, hn⟩ := sizeD_spec h2
  refine ⟨_, hK, fun w => ?_⟩
  have hb : ∀ w, (Instr.sliceBounds true l c vl vh none).run P w = .ok (ll, hh, c) w := fun w => by
   rcases hb1 with ⟨rfl, rfl⟩ | ⟨uh, rfl, _, hr1⟩ <;> rcases hb2 with ⟨rfl, rfl⟩ | ⟨ul, rfl, _, hr2⟩ <;> simp [Instr.sliceBounds, *]
  simp [Instr.sliceAt, Instr.slice, run_underlying hu, hb, hn, sliceAddr]
theorem pure_slice3 {P : Program} {t : TypeId} {u : Value} {vl : Option Value} {vh vm : Value} {K : Value → Prop}
  (h : match P.underlying t, u with
   | some (.slice e), .slice b _ c => boundD c (some vm) 0 fun m => boundD m (some vh) 0 fun h => boundD h vl 0 fun l' => sizeD P e fun n => K (.slice (sliceAddr b m l' n) (h - l') (m - l'))
   | _, _ => False) : ∃ v, K v ∧ ∀ w, (Instr.sliceAt t u vl (some vh) (some vm)).run P w = .ok v w := by
 cases hu : P.underlying t with
 | none => simp [hu] at h
 | some d =>
  cases d <;> try (simp [hu] at h; done)
  rename_i e
  cases u <;> try (simp [hu] at h; done)
  rename_i b l c
  simp only [hu] at h
  obtain ⟨mm, h0, hb0⟩ := boundD_spec (P := P) h
  obtain ⟨hh, h1, hb1⟩ := boundD_spec (P := P) h0
  obtain ⟨ll, h2, hb2⟩ := boundD_spec (P := P) h1
  obtain ⟨n, hK, hn⟩ := sizeD_spec h2
  refine ⟨_, hK, fun w => ?_⟩
  have hb : ∀ w, (Instr.sliceBounds true l c vl (some vh) (some vm)).run P w = .ok (ll, hh, mm) w := fun w => by
   rcases hb0 with ⟨h3, _⟩ | ⟨u0, h3, _, hr0⟩
   ·cases h3
   ·cases h3
    rcases hb1 with ⟨h4, _⟩ | ⟨u1, h4, _, hr1⟩
    ·cases h4
    ·cases h4
     rcases hb2 with ⟨rfl, rfl⟩ | ⟨ul, rfl, _, hr2⟩ <;> simp [Instr.sliceBounds, *]
  simp [Instr.sliceAt, Instr.slice, run_underlying hu, hb, hn, sliceAddr]
theorem call_builtin_run {P : Program} {ρ : Operand → Value} {b : Builtin} {args : Array Operand} {argTypes : Array TypeId} {ty : TypeId} {dst pos after guard} (w : World) {v : Value} {w' : World}
  (hb : (builtin b argTypes ty (args.map fun | .const _ => true | _ => false) (args.map ρ)).run P w = .ok (.value v) w') :
  (execOp ρ { dst, op := .call { callee := .builtin b, args, argTypes }, type := ty, pos, after, guard }).run P w = .ok (.value v) w' := by
 unfold execOp
 simp only [resolve, invoke, Sem.run_bind, Sem.run_pure, Result.andThen_ok]
 exact hb
theorem map_zip_eq {α β γ : Type} (f : β → γ) : ∀ (l : List (α × β)) (vs : List γ), l.map (fun p => f p.2) = vs → (l.map fun p => (p.1, f p.2)) = (l.map (·.1)).zip vs
 | [], vs, h => by simp at h; subst h; rfl
 | p :: l, vs, h => by
  subst h
  simp [map_zip_eq f l _ rfl]
theorem pure_sound {P : Program} {n : Nat} {cur o : Ent} {a : Act} (hv : View n cur o a) (op : Oper) {K : Value → Prop} (h : pureD P cur o op.op K) :
  ∃ v, K v ∧ ∀ w, (execOp a.eval op).run P w = .ok (.value v) w := by
 obtain ⟨dst, op, ty, pos, after, guard⟩ := op
 cases op <;> simp only [pureD] at h <;> try (exact h.elim)
 case move x =>
  obtain ⟨v, hx, hK⟩ := onV_spec h
  exact ⟨v, hK, fun w => by simp [execOp, hv.rd hx]⟩
 case assign x =>
  obtain ⟨v, hx, hK⟩ := onV_spec h
  exact ⟨v, hK, fun w => by simp [execOp, hv.rd hx]⟩
 case pick c x y =>
  obtain ⟨vc, hc, h⟩ := onV_spec h
  cases vc <;> try (exact h.elim)
  rename_i t
  cases t with
  | true =>
   obtain ⟨v, hx, hK⟩ := onV_spec h
   exact ⟨v, hK, fun w => by simp [execOp, hv.rd hx, hv.rd hc, asBool]⟩
  | false =>
   obtain ⟨v, hx, hK⟩ := onV_spec h
   exact ⟨v, hK, fun w => by simp [execOp, hv.rd hx, hv.rd hc, asBool]⟩
 case nilCheck x =>
  obtain ⟨vx, hx, h⟩ := onV_spec h
  cases vx <;> try (exact h.elim)
  case pointer p =>
   obtain ⟨ad, rfl, hK⟩ := onSome_spec h
   exact ⟨_, hK, fun w => by simp [execOp, hv.rd hx]⟩
  case func f a b =>
   cases f <;> try (exact h.elim)
   exact ⟨_, h, fun w => by simp [execOp, hv.rd hx]⟩
 case binOp bop t x y yt =>
  obtain ⟨vx, hx, h⟩ := onV_spec h
  obtain ⟨vy, hy, h⟩ := onV_spec h
  obtain ⟨v, hK, hr⟩ := binD_spec h
  refine ⟨v, hK, fun w => ?_⟩
  have := hr w x y
  unfold execOp
  simp only [hv.rd hx, hv.rd hy]
  simp only [Sem.run_bind] at this ⊢
  rw [this]
  rfl
 case unOp uop t x =>
  obtain ⟨vx, hx, h⟩ := onV_spec h
  obtain ⟨v, hK, hr⟩ := unD_spec (P := P) h
  exact ⟨v, hK, fun w => by simp [execOp, hv.rd hx, hr]⟩
 case convert src d x =>
  obtain ⟨vx, hx, h⟩ := onV_spec h
  cases hs : P.underlying src with
  | none => simp [hs] at h
  | some ds =>
   cases hd : P.underlying d with
   | none => simp [hs, hd] at h
   | some dd =>
    cases dd <;> try (simp [hs, hd] at h; done)
    cases vx <;> try (simp [hs, hd] at h; done)
    simp only [hs, hd] at h
    exact ⟨_, h, fun w => by simp [execOp, hv.rd hx, convert, run_underlying hs, run_underlying hd, Conv.intToInt]⟩
 case fieldAddr s x f =>
  obtain ⟨vx, hx, h⟩ := onV_spec h
  cases vx <;> try (exact h.elim)
  rename_i p
  obtain ⟨ad, rfl, h⟩ := onSome_spec h
  obtain ⟨fd, hf, h⟩ := onV_spec h
  obtain ⟨fs, hu, hfd⟩ := fieldOf_spec hf
  obtain ⟨m, h, hm⟩ := sizeD_spec h
  cases hz : Nat.beq m 0 with
  | true => rw [hz] at h; exact h.elim
  | false =>
   rw [hz] at h
   have hm0 : m ≠ 0 := Nat.ne_of_beq_eq_false hz
   exact ⟨_, h, fun w => by simp [execOp, hv.rd hx, Instr.fieldAt, run_underlying hu, hfd, Instr.sureAddr, fieldPlace, hm, hm0]⟩
 case field t x f =>
  obtain ⟨vx, hx, h⟩ := onV_spec h
  cases vx <;> try (exact h.elim)
  rename_i cs
  obtain ⟨fd, hf, h⟩ := onV_spec h
  obtain ⟨fs, hu, hfd⟩ := fieldOf_spec hf
  obtain ⟨v, hK, hp⟩ := partD_spec h
  exact ⟨v, hK, fun w => by simp [execOp, hv.rd hx, Instr.field, run_underlying hu, hfd, asAgg, hp]⟩
 case indexAddr t x ix =>
  obtain ⟨vx, hx, h1⟩ := onV_spec h
  obtain ⟨vi, hi, h2⟩ := onV_spec h1
  clear h h1
  have h := h2
  clear h2
  cases vi <;> try (exact h.elim)
  rename_i k i
  cases hu : P.underlying t with
  | none => simp [hu] at h
  | some d =>
   cases d <;> try (simp [hu] at h; done)
   case slice e =>
    cases vx <;> try (simp [hu] at h; done)
    rename_i b l c
    simp only [hu] at h
    obtain ⟨hb, h3⟩ := h
    obtain ⟨ad, rfl, h4⟩ := onSome_spec h3
    obtain ⟨m, h5, hm⟩ := sizeD_spec h4
    exact ⟨_, h5, fun w => by simp [execOp, hv.rd hx, hv.rd hi, Instr.indexAt, asIntOf, run_underlying hu, hb, hm]⟩
   case array len e =>
    cases vx <;> try (simp [hu] at h; done)
    rename_i p
    simp only [hu] at h
    obtain ⟨hb, h3⟩ := h
    obtain ⟨ad, rfl, h4⟩ := onSome_spec h3
    obtain ⟨m, h5, hm⟩ := sizeD_spec h4
    exact ⟨_, h5, fun w => by simp [execOp, hv.rd hx, hv.rd hi, Instr.indexAt, asIntOf, run_underlying hu, Instr.sureAddr, hb, hm]⟩
 case index t x ix =>
  obtain ⟨vx, hx, h⟩ := onV_spec h
  obtain ⟨vi, hi, h⟩ := onV_spec h
  cases vi <;> try (exact h.elim)
  rename_i k i
  obtain ⟨v, hK, hr⟩ := indexD_spec (k := k) h
  exact ⟨v, hK, fun w => by simp [execOp, hv.rd hx, hv.rd hi, hr]⟩
 case extract x i =>
  obtain ⟨vx, hx, h⟩ := onV_spec h
  cases vx <;> try (exact h.elim)
  rename_i vs
  obtain ⟨v, hi, hK⟩ := onV_spec h
  have hi' : vs[i]? = some v := by simpa using hi
  exact ⟨v, hK, fun w => by simp [execOp, hv.rd hx, Instr.extract, hi']⟩
 case slice t x lo hi mx =>
  cases mx with
  | some m =>
   cases hi with
   | none => exact h.elim
   | some hi =>
    simp only at h
    obtain ⟨vx, hx, h⟩ := onV_spec h
    have h := onO_spec hv h
    obtain ⟨vh, hh, h⟩ := onV_spec h
    obtain ⟨vm, hm, h⟩ := onV_spec h
    obtain ⟨v, hK, hr⟩ := pure_slice3 h
    exact ⟨v, hK, fun w => by simp [execOp, hv.rd hx, hv.rd hh, hv.rd hm, hr]⟩
  | none =>
   simp only at h
   obtain ⟨vx, hx, h⟩ := onV_spec h
   have h := onO_spec hv (onO_spec hv h)
   obtain ⟨v, hK, hr⟩ := pure_slice h
   exact ⟨v, hK, fun w => by simp [execOp, hv.rd hx, hr]⟩
 case build t parts =>
  obtain ⟨vs, hvs, h⟩ := onV_spec h
  obtain ⟨cells, hc, hK⟩ := onV_spec h
  refine ⟨_, hK, fun w => ?_⟩
  have he : (parts.map fun (i, x) => (i, a.eval x)).toList = (parts.toList.map (·.1)).zip vs := by
   rw [Array.toList_map]
   exact map_zip_eq a.eval parts.toList vs (by rw [← hv.rds hvs]; simp)
  have := run_build (P := P) w t (parts.map fun (i, x) => (i, a.eval x)) cells (by rw [he]; exact hc)
  unfold execOp
  simp only [Sem.run_bind, this]
  rfl
 case makeFunc fn first captured =>
  obtain ⟨fs, hf, h⟩ := onV_spec h
  obtain ⟨cs, hc, hK⟩ := onV_spec h
  refine ⟨_, hK, fun w => ?_⟩
  have e1 : first.map a.eval = fs.toArray := by
   apply Array.toList_inj.1
   simpa using hv.rds hf
  have e2 : captured.map a.eval = cs.toArray := by
   apply Array.toList_inj.1
   simpa using hv.rds hc
  simp [execOp, Instr.makeFunc, e1, e2]
 case call c =>
  obtain ⟨callee, args, argTypes⟩ := c
  cases callee <;> try (exact h.elim)
  rename_i b
  obtain ⟨args⟩ := args
  obtain ⟨argTypes⟩ := argTypes
  cases b <;> try (exact h.elim)
  case len =>
   match args, argTypes, h with
   | [x], [t], h =>
    obtain ⟨vx, hx, h⟩ := onV_spec h
    unfold lenD at h
    cases hu : P.underlying t with
    | none => simp [hu] at h
    | some d =>
     cases d <;> try (simp [hu] at h; done)
     case string =>
      cases vx <;> try (simp [hu] at h; done)
      simp only [hu] at h
      exact ⟨_, h, fun w => call_builtin_run w (by simp [builtin, Builtin.len_, run_underlying hu, hv.rd hx, goInt])⟩
     case slice =>
      cases vx <;> try (simp [hu] at h; done)
      simp only [hu] at h
      exact ⟨_, h, fun w => call_builtin_run w (by simp [builtin, Builtin.len_, run_underlying hu, hv.rd hx, goInt])⟩
     case array =>
      simp only [hu] at h
      exact ⟨_, h, fun w => call_builtin_run w (by simp [builtin, Builtin.len_, run_underlying hu, goInt])⟩
  case cap =>
   match args, argTypes, h with
   | [x], [t], h =>
    obtain ⟨vx, hx, h⟩ := onV_spec h
    cases hu : P.underlying t with
    | none => simp [hu] at h
    | some d =>
     cases d <;> try (simp [hu] at h; done)
     cases vx <;> try (simp [hu] at h; done)
     simp only [hu] at h
     exact ⟨_, h, fun w => call_builtin_run w (by simp [builtin, Builtin.cap_, run_underlying hu, hv.rd hx, goInt])⟩
  case min =>
   obtain ⟨vs, hvs, h⟩ := onV_spec h
   cases vs with
   | nil => exact h.elim
   | cons v r =>
    obtain ⟨u, hK, hr⟩ := minD_spec (P := P) false h
    have e := hv.rds hvs
    refine ⟨u, hK, fun w => call_builtin_run w ?_⟩
    have := hr w
    simp only [Bool.false_eq_true, if_false] at this
    simp only [List.map_toArray] at e ⊢
    simp [builtin, Builtin.min_, e, this]
  case max =>
   obtain ⟨vs, hvs, h⟩ := onV_spec h
   cases vs with
   | nil => exact h.elim
   | cons v r =>
    obtain ⟨u, hK, hr⟩ := minD_spec (P := P) true h
    have e := hv.rds hvs
    refine ⟨u, hK, fun w => call_builtin_run w ?_⟩
    have := hr w
    simp only [if_true] at this
    simp only [List.map_toArray] at e ⊢
    simp [builtin, Builtin.max_, e, this]
end Go.Den

namespace Go.Den
open Go
abbrev Tr := List Value → World → (Value → World → Prop) → Prop
def Sound (P : Program) (g : FuncId) (T : Tr) : Prop :=
 ∀ args w K, T args w K → Calls P g args.toArray w fun e w' => ∃ v, e = .returned v ∧ K v w'
def enters (P : Program) (g : FuncId) : Bool := match P.funcs[g]? with
 | some fn => fn.body.isSome && !(fn.name == "runtime.NumGoroutine")
 | none => false
abbrev Env := List (FuncId × Tr)
def findE : Env → FuncId → Option Tr
 | [], _ => none
 | (g, T) :: r, f => cond (Nat.beq g f) (some T) (findE r f)
def EnvOk (P : Program) : Env → Prop
 | [] => True
 | (g, T) :: r => (enters P g = true ∧ Sound P g T) ∧ EnvOk P r
def callV (P : Program) (fv : Value) (args : List Value) (w : World) (K : Value → World → Prop) : Prop :=
 ∃ g first cap, fv = .func (.func g) first cap ∧ enters P g = true ∧ Calls P g (first ++ args.toArray ++ cap) w fun e w' => ∃ v, e = .returned v ∧ K v w'
def runK (P : Program) (k : Knd) (s : Sem Value) (w : World) (K : k.T → World → Prop) : Prop := ∃ x w', s.run P w = .ok (k.enc x) w' ∧ K x w'
def runU (P : Program) (s : Sem Unit) (w : World) (K : World → Prop) : Prop := ∃ w', s.run P w = .ok () w' ∧ K w'
def runT (P : Program) (ks : List Knd) (s : Sem Value) (w : World) (K : KTs ks → World → Prop) : Prop := ∃ x w', s.run P w = .ok (.tuple (encK ks x).toArray) w' ∧ K x w'
def allocD (w : World) (cells : Array Value) (t : TypeId) (K : Addr → World → Prop) : Prop := K ⟨w.heap.size, 0, none⟩ (w.alloc (.cells cells t))
def mapNewD (w : World) (K : Nat → World → Prop) : Prop := K w.heap.size (w.alloc (.map #[] 0))
def HoldsAt (w : World) (a : Addr) : Nat → List Value → Prop
 | _, [] => True
 | i, v :: r => w.cell? (a.add i) = some v ∧ HoldsAt w a (i + 1) r
def ld1 (k : CK) (w : World) (a : Addr) (K : k.T → Prop) : Prop := ∃ x : k.T, w.cell? a = some (k.enc x) ∧ K x
def ldN (l : List CK) (w : World) (a : Addr) (K : CTs l → Prop) : Prop := ∃ x : CTs l, HoldsAt w a 0 (encs l x) ∧ K x
def loadD (P : Program) (t : TypeId) (w : World) (a : Addr) (K : Value → (World → Prop) → Prop) : Prop :=
 match P.info? t with
 | some i => match i.zero with
  | some z => match P.underlying t with
   | some (.struct _) => match z with
    | .agg zs => cond (Nat.beq zs.size i.size) (ldN (zs.toList.map CK.of) w a fun x => K (.agg (encs (zs.toList.map CK.of) x).toArray) fun w' => HoldsAt w' a 0 (encs (zs.toList.map CK.of) x)) False
    | _ => False
   | some (.array _ _) => match z with
    | .agg zs => cond (Nat.beq zs.size i.size) (ldN (zs.toList.map CK.of) w a fun x => K (.agg (encs (zs.toList.map CK.of) x).toArray) fun w' => HoldsAt w' a 0 (encs (zs.toList.map CK.of) x)) False
    | _ => False
   | some _ => ld1 (CK.of z) w a fun x => K ((CK.of z).enc x) fun w' => w'.cell? a = some ((CK.of z).enc x)
   | none => False
  | none => False
 | none => False
def storeD (P : Program) (t : TypeId) (a : Addr) (v : Value) (w : World) (K : World → Prop) : Prop := runU P (storeVar t a v) w K
def appendD (P : Program) (t u : TypeId) (s : Sl) (x : Value) (w : World) (K : Sl → World → Prop) : Prop := runK P (.c .slice) (Builtin.append_ #[t, u] 0 #[.slice s.b s.l s.c, x]) w K
def copyD (P : Program) (t u : TypeId) (s : Sl) (x : Value) (w : World) (K : Int → World → Prop) : Prop := runK P (.c (.int .i64)) (Builtin.copy_ #[t, u] 0 #[.slice s.b s.l s.c, x]) w K
def clearD (P : Program) (t : TypeId) (x : Value) (w : World) (K : World → Prop) : Prop := runT P [] (Builtin.clear_ #[t] 0 #[x]) w fun _ w' => K w'
def deleteD (P : Program) (t u : TypeId) (m k : Value) (w : World) (K : World → Prop) : Prop := runT P [] (Builtin.delete_ #[t, u] 0 #[m, k]) w fun _ w' => K w'
def mapLenD (P : Program) (t : TypeId) (m : Value) (w : World) (K : Int → World → Prop) : Prop := runK P (.c (.int .i64)) (Builtin.len_ #[t] 0 #[m]) w K
def lookup1D (P : Program) (kn : Knd) (t : TypeId) (m k : Value) (w : World) (K : kn.T → World → Prop) : Prop := runK P kn (Instr.lookup t m k false) w K
def lookup2D (P : Program) (kn : Knd) (t : TypeId) (m k : Value) (w : World) (K : kn.T → Bool → World → Prop) : Prop := runT P [kn, .c .bool] (Instr.lookup t m k true) w fun x w' => K x.1 x.2.1 w'
def mapUpdateD (P : Program) (t : TypeId) (m k v : Value) (w : World) (K : World → Prop) : Prop := runU P (Instr.mapUpdate t m k v) w K
def mapEntryD (P : Program) (kn : Knd) (t : TypeId) (m k : Value) (w : World) (K : kn.T → Int → World → Prop) : Prop := runT P [kn, .c (.int .i64)] (Instr.mapEntry t m k) w fun x w' => K x.1 x.2.1 w'
def entryStoreD (P : Program) (t : TypeId) (m s v : Value) (w : World) (K : World → Prop) : Prop := runU P (Instr.entryStore t m s v) w K
def makeSliceD (P : Program) (t : TypeId) (l c : Value) (w : World) (K : Sl → World → Prop) : Prop := runK P (.c .slice) (Instr.makeSlice t l c) w K
def convD (P : Program) (kn : Knd) (src dst : TypeId) (x : Value) (w : World) (K : kn.T → World → Prop) : Prop := runK P kn (convert src dst x) w K
def extD (P : Program) (kn : Knd) (f : FuncId) (args : List Value) (w : World) (K : kn.T → World → Prop) : Prop := ∃ x w', (callFunc f args.toArray).run P w = .ok (.value (kn.enc x)) w' ∧ K x w'
def tupleKinds (P : Program) : List TypeId → Option (List Knd)
 | [] => some []
 | t :: r => match P.info? t with
  | some i => match i.zero with
   | some z => match tupleKinds P r with
    | some ks => some (Knd.of z :: ks)
    | none => none
   | none => none
  | none => none
def retD (P : Program) (ty : TypeId) (v : Value) (K : Value → Prop) : Prop := match P.underlying ty with
 | some (.tuple ts) => onV (tupleKinds P ts.toList) fun ks => ∃ x : KTs ks, v = .tuple (encK ks x).toArray ∧ K (.tuple (encK ks x).toArray)
 | _ => zeroD P ty fun z => ∃ x : (Knd.of z).T, v = (Knd.of z).enc x ∧ K ((Knd.of z).enc x)
def builtSlice (P : Program) (t : TypeId) (len : Nat) (parts : List (Nat × Value)) : Option (TypeId × Array Value) := match P.underlying t with
 | some (.slice e) => match P.info? e with
  | some i => match i.zero with
   | some z => cond (Nat.ble (len * i.size) 16777216) (match Instr.fill (fun j => some (j * i.size, i.size)) (madeCells z.cells (len * i.size)) parts with
    | some cells => some (e, cells)
    | none => none) none
   | none => none
  | none => none
 | _ => none
def callD (P : Program) (env : Env) (ty : TypeId) (f : FuncId) (args : List Value) (w : World) (K : Value → World → Prop) : Prop := match findE env f with
 | some T => T args w K
 | none => zeroD P ty fun z => extD P (Knd.of z) f args w fun x w' => K ((Knd.of z).enc x) w'
def effD (P : Program) (env : Env) (cur o : Ent) (op : Op) (ty : TypeId) (w : World) (K : Value → World → Prop) : Prop :=
 match op with
 | .load t x => onV (rd cur o x) fun v => match v with
  | .pointer p => onSome p fun a => loadD P t w a fun v _ => K v w
  | _ => False
 | .alloc e => zeroD P e fun z => allocD w z.cells e fun a w' => K (.pointer (some a)) w'
 | .box e x => onV (rd cur o x) fun v => allocD w v.cells e fun a w' => K (.pointer (some a)) w'
 | .buildSlice t len parts => onV (rds cur o (parts.toList.map (·.2))) fun vs => onV (builtSlice P t len ((parts.toList.map (·.1)).zip vs)) fun p => allocD w p.2 p.1 fun a w' => K (.slice (some a) len len) w'
 | .store t x y => onV (rd cur o x) fun u => onV (rd cur o y) fun v => match u with
  | .pointer p => onSome p fun a => storeD P t a v w fun w' => K undef w'
  | _ => False
 | .makeMap _ none => mapNewD w fun r w' => K (.map (some r)) w'
 | .makeSlice t l c => onV (rd cur o l) fun u => onV (rd cur o c) fun v => makeSliceD P t u v w fun s w' => K (.slice s.b s.l s.c) w'
 | .lookup t m k ok => onV (rd cur o m) fun u => onV (rd cur o k) fun v => match P.underlying t with
  | some (.map _ e) => zeroD P e fun z => cond ok (lookup2D P (Knd.of z) t u v w fun x b w' => K (.tuple #[(Knd.of z).enc x, .bool b]) w') (lookup1D P (Knd.of z) t u v w fun x w' => K ((Knd.of z).enc x) w')
  | _ => False
 | .mapUpdate t m k x => onV (rd cur o m) fun u => onV (rd cur o k) fun v => onV (rd cur o x) fun y => mapUpdateD P t u v y w fun w' => K undef w'
 | .insert t m k x => onV (rd cur o m) fun u => onV (rd cur o k) fun v => onV (rd cur o x) fun y => mapUpdateD P t u v y w fun w' => K undef w'
 | .mapEntry t m k => onV (rd cur o m) fun u => onV (rd cur o k) fun v => match P.underlying t with
  | some (.map _ e) => zeroD P e fun z => mapEntryD P (Knd.of z) t u v w fun x n w' => K (.tuple #[(Knd.of z).enc x, .int .i64 n]) w'
  | _ => False
 | .entryStore t m s x => onV (rd cur o m) fun u => onV (rd cur o s) fun v => onV (rd cur o x) fun y => entryStoreD P t u v y w fun w' => K undef w'
 | .convert src dst x => onV (rd cur o x) fun u => zeroD P dst fun z => convD P (Knd.of z) src dst u w fun x w' => K ((Knd.of z).enc x) w'
 | .call { callee := .builtin .append, args, argTypes } => match args.toList, argTypes.toList with
  | [s, x], [t, u] => onV (rd cur o s) fun vs => onV (rd cur o x) fun vx => match vs with
   | .slice b l c => appendD P t u ⟨b, l, c⟩ vx w fun r w' => K (.slice r.b r.l r.c) w'
   | _ => False
  | _, _ => False
 | .call { callee := .builtin .copy, args, argTypes } => match args.toList, argTypes.toList with
  | [s, x], [t, u] => onV (rd cur o s) fun vs => onV (rd cur o x) fun vx => match vs with
   | .slice b l c => copyD P t u ⟨b, l, c⟩ vx w fun n w' => K (.int .i64 n) w'
   | _ => False
  | _, _ => False
 | .call { callee := .builtin .clear, args, argTypes } => match args.toList, argTypes.toList with
  | [x], [t] => onV (rd cur o x) fun vx => clearD P t vx w fun w' => K (.tuple #[]) w'
  | _, _ => False
 | .call { callee := .builtin .delete, args, argTypes } => match args.toList, argTypes.toList with
  | [m, k], [t, u] => onV (rd cur o m) fun vm => onV (rd cur o k) fun vk => deleteD P t u vm vk w fun w' => K (.tuple #[]) w'
  | _, _ => False
 | .call { callee := .builtin .len, args, argTypes } => match args.toList, argTypes.toList with
  | [m], [t] => onV (rd cur o m) fun vm => mapLenD P t vm w fun n w' => K (.int .i64 n) w'
  | _, _ => False
 | .call { callee := .value (.func f), args, .. } => onV (rds cur o args.toList) fun vs => callD P env ty f vs w K
 | .call { callee := .value x, args, .. } => onV (rd cur o x) fun fv => onV (rds cur o args.toList) fun vs => callV P fv vs w fun v w' => retD P ty v fun v' => K v' w'
 | _ => False
def opD (P : Program) (env : Env) (cur o : Ent) (op : Op) (ty : TypeId) (w : World) (K : Value → World → Prop) : Prop :=
 cond (isPure P op) (pureD P cur o op fun v => K v w) (effD P env cur o op ty w K)
theorem zeroD_spec {P : Program} {t : TypeId} {K : Value → Prop} (h : zeroD P t K) : ∃ i z, P.info? t = some i ∧ i.zero = some z ∧ K z := by
 unfold zeroD at h
 cases hi : P.info? t with
 | none => rw [hi] at h; exact h.elim
 | some i =>
  rw [hi] at h
  cases hz : i.zero with
  | none => simp [hz] at h
  | some z => simp only [hz] at h; exact ⟨i, z, rfl, hz, h⟩
theorem run_loadCells {P : Program} {a : Addr} (w : World) : ∀ (vs : List Value) (i : Nat) (acc : Array Value), HoldsAt w a i vs → (loadCellsFrom a i vs.length acc).run P w = .ok (acc ++ vs.toArray) w
 | [], i, acc, _ => by simp [loadCellsFrom]
 | v :: r, i, acc, h => by
  have := run_loadCells (P := P) w r (i + 1) (acc.push v) h.2
  simp [loadCellsFrom, h.1, this]
theorem encs_length : ∀ (l : List CK) (t : CTs l), (encs l t).length = l.length
 | [], _ => rfl
 | _ :: r, t => by simp [encs, encs_length r]
theorem loadD_spec {P : Program} {t : TypeId} {w : World} {a : Addr} {K : Value → (World → Prop) → Prop} (h : loadD P t w a K) :
  ∃ v C, K v C ∧ C w ∧ ∀ w', C w' → (loadVar t a).run P w' = .ok v w' := by
 unfold loadD at h
 cases hi : P.info? t with
 | none => simp [hi] at h
 | some i =>
  cases hz : i.zero with
  | none => simp [hi, hz] at h
  | some z =>
   cases hu : P.underlying t with
   | none => simp [hi, hz, hu] at h
   | some d =>
    by_cases hs : (∃ fs, d = .struct fs) ∨ (∃ n e, d = .array n e)
    ·have hag : ∀ w, (isAgg t).run P w = .ok true w := fun w => by
      rcases hs with ⟨fs, rfl⟩ | ⟨n, e, rfl⟩ <;> simp [isAgg, run_underlying hu]
     cases z <;> try (rcases hs with ⟨fs, rfl⟩ | ⟨n, e, rfl⟩ <;> simp [hi, hz, hu] at h; done)
     rename_i zs
     have h' : cond (Nat.beq zs.size i.size) (ldN (zs.toList.map CK.of) w a fun x => K (.agg (encs (zs.toList.map CK.of) x).toArray) fun w' => HoldsAt w' a 0 (encs (zs.toList.map CK.of) x)) False := by
      rcases hs with ⟨fs, rfl⟩ | ⟨n, e, rfl⟩ <;> simpa only [hi, hz, hu] using h
     cases hb : Nat.beq zs.size i.size with
     | false => rw [hb] at h'; exact h'.elim
     | true =>
      rw [hb] at h'
      obtain ⟨x, hx, hK⟩ := h'
      refine ⟨_, _, hK, hx, fun w' hw' => ?_⟩
      have hlen : (encs (zs.toList.map CK.of) x).length = i.size := by
       rw [encs_length]; simpa using Nat.eq_of_beq_eq_true hb
      have hr := run_loadCells (P := P) w' _ 0 #[] hw'
      rw [hlen] at hr
      simp [loadVar, hag, run_sizeOf' hi, loadCells, hr]
    ·have hag : ∀ w, (isAgg t).run P w = .ok false w := fun w => by
      cases d <;> simp [isAgg, run_underlying hu] <;> simp_all
     have h' : ld1 (CK.of z) w a fun x => K ((CK.of z).enc x) fun w' => w'.cell? a = some ((CK.of z).enc x) := by
      cases d <;> first | simpa only [hi, hz, hu] using h | simp_all
     obtain ⟨x, hx, hK⟩ := h'
     exact ⟨_, _, hK, hx, fun w' hw' => by simp [loadVar, hag, hw']⟩
theorem findE_spec {P : Program} : ∀ {env : Env} {f : FuncId} {T : Tr}, EnvOk P env → findE env f = some T → enters P f = true ∧ Sound P f T
 | [], _, _, _, h => by cases h
 | (g, T') :: r, f, T, hok, h => by
  simp only [findE] at h
  cases hb : Nat.beq g f with
  | true =>
   rw [hb] at h
   have : g = f := Nat.eq_of_beq_eq_true hb
   subst this
   cases h
   exact hok.1
  | false => rw [hb] at h; exact findE_spec hok.2 h
theorem enters_run {P : Program} {g : FuncId} (h : enters P g = true) (args : Array Value) (w : World) : (callFunc g args).run P w = .ok (.enter g args) w := by
 unfold enters at h
 cases hf : P.funcs[g]? with
 | none => simp [hf] at h
 | some fn =>
  simp [hf] at h
  obtain ⟨h1, h2⟩ := h
  obtain ⟨c, hc⟩ := Option.isSome_iff_exists.1 h1
  simp [callFunc, hf, hc, h2]
theorem upon_value {P : Program} {o : Oper} {a : Act} {w w' : World} {next : Act → World → Prop} {Q : Exit → Act → World → Prop} {v : Value}
  (h : (execOp a.eval o).run P w = .ok (.value v) w') (hn : next (a.put o.dst v) w') : o.wp P a w next Q := by
 unfold Oper.wp
 rw [h]
 exact hn
theorem upon_skip {P : Program} {o : Oper} {a : Act} {w w' : World} {next : Act → World → Prop} {Q : Exit → Act → World → Prop}
  (h : (execOp a.eval o).run P w = .ok .skip w') (hn : next (a.put o.dst undef) w') : o.wp P a w next Q := by
 unfold Oper.wp
 rw [h]
 exact hn
theorem upon_enter {P : Program} {o : Oper} {a : Act} {w w' : World} {next : Act → World → Prop} {Q : Exit → Act → World → Prop} {f : FuncId} {args : Array Value}
  (h : (execOp a.eval o).run P w = .ok (.enter f args) w') (hn : Calls P f args w' fun e w'' => ∃ v, e = .returned v ∧ next (a.put o.dst v) w'') : o.wp P a w next Q := by
 unfold Oper.wp
 rw [h]
 exact hn.mono fun e w'' ⟨v, he, hv⟩ => by subst he; exact hv
theorem run_buildSlice {P : Program} (w : World) (t : TypeId) (len : Nat) (ps : Array (Nat × Value)) (e : TypeId) (cells : Array Value) (hp : builtSlice P t len ps.toList = some (e, cells)) :
  (Instr.buildSlice t len ps).run P w = .ok (.slice (some ⟨w.heap.size, 0, none⟩) len len) (w.alloc (.cells cells e)) := by
 unfold builtSlice at hp
 cases hu : P.underlying t with
 | none => simp [hu] at hp
 | some d =>
  cases d <;> try (simp [hu] at hp; done)
  rename_i e'
  cases hi : P.info? e' with
  | none => simp [hu, hi] at hp
  | some i =>
   cases hz : i.zero with
   | none => simp [hu, hi, hz] at hp
   | some z =>
    simp only [hu, hi, hz] at hp
    cases hb : Nat.ble (len * i.size) 16777216 with
    | false => rw [hb] at hp; cases hp
    | true =>
     rw [hb] at hp
     have hle : len * i.size ≤ 16777216 := Nat.le_of_ble_eq_true hb
     cases hfl : Instr.fill (fun j => some (j * i.size, i.size)) (madeCells z.cells (len * i.size)) ps.toList with
     | none => simp [hfl] at hp
     | some cs =>
      simp [hfl] at hp
      obtain ⟨rfl, rfl⟩ := hp
      have hno : ¬ (2 ^ 24 < len * i.size) := by omega
      unfold Instr.buildSlice
      simp only [Sem.run_bind, run_underlying hu, Result.andThen_ok, run_sizeOf' hi, gt_iff_lt, hno, if_false]
      by_cases h0 : len * i.size = 0
      ·have hf' := hfl
       rw [h0] at hf'
       simp only [madeCells, Array.range_zero', Array.map_empty] at hf'
       simp only [h0, if_true, Sem.run_pure, Result.andThen_ok, Array.range_zero', Array.map_empty, hf', newRow, Sem.run_bind, run_newObj]
       rfl
      ·simp only [madeCells] at hfl
       simp only [h0, if_false, zeroValue, typeInfo, Sem.run_bind, run_program, hi, hz, Sem.run_pure, Result.andThen_ok, hfl, newRow, run_newObj]
       rfl
theorem append_ty (A : Array TypeId) (ty : TypeId) (x : Array Value) : Builtin.append_ A ty x = Builtin.append_ A 0 x := rfl
theorem copy_ty (A : Array TypeId) (ty : TypeId) (x : Array Value) : Builtin.copy_ A ty x = Builtin.copy_ A 0 x := rfl
theorem clear_ty (A : Array TypeId) (ty : TypeId) (x : Array Value) : Builtin.clear_ A ty x = Builtin.clear_ A 0 x := rfl
theorem delete_ty (A : Array TypeId) (ty : TypeId) (x : Array Value) : Builtin.delete_ A ty x = Builtin.delete_ A 0 x := rfl
theorem len_ty (A : Array TypeId) (ty : TypeId) (x : Array Value) : Builtin.len_ A ty x = Builtin.len_ A 0 x := rfl
theorem eff_sound {P : Program} {env : Env} (henv : EnvOk P env) {n : Nat} {cur o : Ent} {a : Act} (hv : View n cur o a) (op : Oper) {w : World} {K : Value → World → Prop} {next : Act → World → Prop} {Q : Exit → Act → World → Prop}
  (h : effD P env cur o op.op op.type w K) (hn : ∀ v w', K v w' → next (a.put op.dst v) w') : op.wp P a w next Q := by
 obtain ⟨dst, op, ty, pos, after, guard⟩ := op
 cases op <;> simp only [effD] at h <;> try (exact h.elim)
 case load t x =>
  obtain ⟨v, hx, h1⟩ := onV_spec h
  cases v <;> try (exact h1.elim)
  obtain ⟨ad, rfl, h2⟩ := onSome_spec h1
  obtain ⟨v, C, hK, hC, hr⟩ := loadD_spec h2
  exact upon_value (v := v) (w' := w) (by simp [execOp, hv.rd hx, Instr.loadAt, Instr.sureAddr, hr w hC]) (hn _ _ hK)
 case alloc e =>
  obtain ⟨i, z, hi, hz, hK⟩ := zeroD_spec h
  exact upon_value (by simp [execOp, Instr.alloc, zeroValue, typeInfo, hi, hz, newVar, newRow]) (hn _ _ hK)
 case box e x =>
  obtain ⟨v, hx, hK⟩ := onV_spec h
  exact upon_value (by simp [execOp, Instr.box, hv.rd hx, newVar, newRow]) (hn _ _ hK)
 case store t x y =>
  obtain ⟨u, hx, h1⟩ := onV_spec h
  obtain ⟨v, hy, h2⟩ := onV_spec h1
  cases u <;> try (exact h2.elim)
  obtain ⟨ad, rfl, h3⟩ := onSome_spec h2
  obtain ⟨w', hr, hK⟩ := h3
  exact upon_skip (w' := w') (by simp [execOp, hv.rd hx, hv.rd hy, Instr.storeAt, Instr.sureAddr, hr]) (hn _ _ hK)
 case makeMap t r =>
  cases r with
  | some r => exact h.elim
  | none => exact upon_value (by simp [execOp, Instr.makeMap]) (hn _ _ h)
 case makeSlice t l c =>
  obtain ⟨u, hx, h1⟩ := onV_spec h
  obtain ⟨v, hy, h2⟩ := onV_spec h1
  obtain ⟨s, w', hr, hK⟩ := h2
  exact upon_value (w' := w') (by simp [execOp, hv.rd hx, hv.rd hy, hr]; rfl) (hn _ _ hK)
 case mapUpdate t m k x =>
  obtain ⟨u, hm, h1⟩ := onV_spec h
  obtain ⟨v, hk, h2⟩ := onV_spec h1
  obtain ⟨y, hx, h3⟩ := onV_spec h2
  obtain ⟨w', hr, hK⟩ := h3
  exact upon_skip (w' := w') (by simp [execOp, hv.rd hm, hv.rd hk, hv.rd hx, hr]) (hn _ _ hK)
 case insert t m k x =>
  obtain ⟨u, hm, h1⟩ := onV_spec h
  obtain ⟨v, hk, h2⟩ := onV_spec h1
  obtain ⟨y, hx, h3⟩ := onV_spec h2
  obtain ⟨w', hr, hK⟩ := h3
  exact upon_skip (w' := w') (by simp [execOp, hv.rd hm, hv.rd hk, hv.rd hx, hr]) (hn _ _ hK)
 case entryStore t m s x =>
  obtain ⟨u, hm, h1⟩ := onV_spec h
  obtain ⟨v, hk, h2⟩ := onV_spec h1
  obtain ⟨y, hx, h3⟩ := onV_spec h2
  obtain ⟨w', hr, hK⟩ := h3
  exact upon_skip (w' := w') (by simp [execOp, hv.rd hm, hv.rd hk, hv.rd hx, hr]) (hn _ _ hK)
 case mapEntry t m k =>
  obtain ⟨u, hm, h1⟩ := onV_spec h
  obtain ⟨v, hk, h2⟩ := onV_spec h1
  cases hu : P.underlying t with
  | none => simp [hu] at h2
  | some d =>
   cases d <;> try (simp [hu] at h2; done)
   simp only [hu] at h2
   obtain ⟨i, z, hi, hz, h3⟩ := zeroD_spec h2
   obtain ⟨x, w', hr, hK⟩ := h3
   exact upon_value (w' := w') (by simp [execOp, hv.rd hm, hv.rd hk, hr]; try rfl) (hn _ _ hK)
 case lookup t m k ok =>
  obtain ⟨u, hm, h1⟩ := onV_spec h
  obtain ⟨v, hk, h2⟩ := onV_spec h1
  cases hu : P.underlying t with
  | none => simp [hu] at h2
  | some d =>
   cases d <;> try (simp [hu] at h2; done)
   simp only [hu] at h2
   obtain ⟨i, z, hi, hz, h3⟩ := zeroD_spec h2
   cases ok with
   | true =>
    obtain ⟨x, w', hr, hK⟩ := h3
    exact upon_value (w' := w') (by simp [execOp, hv.rd hm, hv.rd hk, hr]; try rfl) (hn _ _ hK)
   | false =>
    obtain ⟨x, w', hr, hK⟩ := h3
    exact upon_value (w' := w') (by simp [execOp, hv.rd hm, hv.rd hk, hr]; try rfl) (hn _ _ hK)
 case convert src d x =>
  obtain ⟨u, hx, h1⟩ := onV_spec h
  obtain ⟨i, z, hi, hz, h2⟩ := zeroD_spec h1
  obtain ⟨x, w', hr, hK⟩ := h2
  exact upon_value (w' := w') (by simp [execOp, hv.rd hx, hr]) (hn _ _ hK)
 case buildSlice t len parts =>
  obtain ⟨vs, hvs, h1⟩ := onV_spec h
  obtain ⟨p, hp, hK⟩ := onV_spec h1
  obtain ⟨e, cells⟩ := p
  have he : (parts.map fun (i, x) => (i, a.eval x)).toList = (parts.toList.map (·.1)).zip vs := by
   rw [Array.toList_map]
   exact map_zip_eq a.eval parts.toList vs (by rw [← hv.rds hvs]; simp)
  have hr := run_buildSlice w t len (parts.map fun (i, x) => (i, a.eval x)) e cells (by rw [he]; exact hp)
  refine upon_value (v := .slice (some ⟨w.heap.size, 0, none⟩) len len) (w' := w.alloc (.cells cells e)) ?_ (hn _ _ hK)
  unfold execOp
  simp only [Sem.run_bind, hr]
  rfl
 case call c =>
  obtain ⟨callee, args, argTypes⟩ := c
  obtain ⟨args⟩ := args
  obtain ⟨argTypes⟩ := argTypes
  cases callee with
  | invoke r m => exact h.elim
  | builtin b =>
   cases b <;> try (exact h.elim)
   case append =>
    match args, argTypes, h with
    | [s, x], [t, u], h =>
     obtain ⟨vs, hs, h1⟩ := onV_spec h
     obtain ⟨vx, hx, h2⟩ := onV_spec h1
     cases vs <;> try (exact h2.elim)
     obtain ⟨r, w', hr, hK⟩ := h2
     exact upon_value (w' := w') (call_builtin_run w (by
      simp only [builtin, Sem.run_bind, List.map_toArray, List.map_cons, List.map_nil, hv.rd hs, hv.rd hx]
      rw [append_ty, hr.trans rfl]; rfl)) (hn _ _ hK)
   case copy =>
    match args, argTypes, h with
    | [s, x], [t, u], h =>
     obtain ⟨vs, hs, h1⟩ := onV_spec h
     obtain ⟨vx, hx, h2⟩ := onV_spec h1
     cases vs <;> try (exact h2.elim)
     obtain ⟨r, w', hr, hK⟩ := h2
     exact upon_value (w' := w') (call_builtin_run w (by
      simp only [builtin, Sem.run_bind, List.map_toArray, List.map_cons, List.map_nil, hv.rd hs, hv.rd hx]
      rw [copy_ty, hr.trans rfl]; rfl)) (hn _ _ hK)
   case clear =>
    match args, argTypes, h with
    | [x], [t], h =>
     obtain ⟨vx, hx, h2⟩ := onV_spec h
     obtain ⟨r, w', hr, hK⟩ := h2
     exact upon_value (w' := w') (call_builtin_run w (by
      simp only [builtin, Sem.run_bind, List.map_toArray, List.map_cons, List.map_nil, hv.rd hx]
      rw [clear_ty, hr.trans rfl]; rfl)) (hn _ _ hK)
   case delete =>
    match args, argTypes, h with
    | [m, k], [t, u], h =>
     obtain ⟨vm, hm, h1⟩ := onV_spec h
     obtain ⟨vk, hk, h2⟩ := onV_spec h1
     obtain ⟨r, w', hr, hK⟩ := h2
     exact upon_value (w' := w') (call_builtin_run w (by
      simp only [builtin, Sem.run_bind, List.map_toArray, List.map_cons, List.map_nil, hv.rd hm, hv.rd hk]
      rw [delete_ty, hr.trans rfl]; rfl)) (hn _ _ hK)
   case len =>
    match args, argTypes, h with
    | [m], [t], h =>
     obtain ⟨vm, hm, h2⟩ := onV_spec h
     obtain ⟨r, w', hr, hK⟩ := h2
     exact upon_value (w' := w') (call_builtin_run w (by
      simp only [builtin, Sem.run_bind, List.map_toArray, List.map_cons, List.map_nil, hv.rd hm]
      rw [len_ty, hr.trans rfl]; rfl)) (hn _ _ hK)
  | value x =>
   by_cases hfx : ∃ f, x = .func f
   ·obtain ⟨f, rfl⟩ := hfx
    obtain ⟨vs, hvs, h1⟩ := onV_spec h
    have e := hv.rds hvs
    have hres : ∀ w, (execOp a.eval { dst := dst, op := .call { callee := .value (.func f), args := ⟨args⟩, argTypes := ⟨argTypes⟩ }, type := ty, pos := pos, after := after, guard := guard }).run P w = (callFunc f vs.toArray).run P w := fun w => by
     have em : (⟨args⟩ : Array Operand).map a.eval = vs.toArray := by rw [← e]; simp
     unfold execOp
     simp only [resolve, em, Act.eval, Deferred.ofValue, Sem.run_bind, Sem.run_pure, Result.andThen_ok, invoke]
     simp
    unfold callD at h1
    cases hf : findE env f with
    | some T =>
     rw [hf] at h1
     obtain ⟨h2, h3⟩ := findE_spec henv hf
     exact upon_enter ((hres w).trans (enters_run h2 _ w)) ((h3 _ _ _ h1).mono fun e w' ⟨v, he, hK⟩ => ⟨v, he, hn _ _ hK⟩)
    | none =>
     rw [hf] at h1
     obtain ⟨i, z, hi, hz, h3⟩ := zeroD_spec h1
     obtain ⟨x, w', hr, hK⟩ := h3
     exact upon_value ((hres w).trans hr) (hn _ _ hK)
   ·have h' : onV (rd cur o x) fun fv => onV (rds cur o args) fun vs => callV P fv vs w fun v w' => retD P ty v fun v' => K v' w' := by
     cases x <;> first | exact h | exact absurd ⟨_, rfl⟩ hfx
    obtain ⟨fv, hfv, h1⟩ := onV_spec h'
    obtain ⟨vs, hvs, h2⟩ := onV_spec h1
    obtain ⟨g, first, cap, rfl, h3, h4⟩ := h2
    have e := hv.rds hvs
    have em : (⟨args⟩ : Array Operand).map a.eval = vs.toArray := by rw [← e]; simp
    have hres : (execOp a.eval { dst := dst, op := .call { callee := .value x, args := ⟨args⟩, argTypes := ⟨argTypes⟩ }, type := ty, pos := pos, after := after, guard := guard }).run P w = (callFunc g (first ++ vs.toArray ++ cap)).run P w := by
     unfold execOp
     simp only [resolve, em, hv.rd hfv, Deferred.ofValue, Sem.run_bind, Sem.run_pure, Result.andThen_ok, invoke]
    refine upon_enter (hres.trans (enters_run h3 _ w)) (h4.mono fun e w' ⟨v, he, hK⟩ => ⟨v, he, ?_⟩)
    have : K v w' := by
     unfold retD at hK
     cases hu : P.underlying ty with
     | none =>
      rw [hu] at hK
      obtain ⟨i, z, hi, hz, x, rfl, hk⟩ := zeroD_spec hK
      exact hk
     | some d =>
      rw [hu] at hK
      cases d
      case tuple ts =>
       obtain ⟨ks, hks, x, rfl, hk⟩ := onV_spec hK
       exact hk
      all_goals
       obtain ⟨i, z, hi, hz, x, rfl, hk⟩ := zeroD_spec hK
       exact hk
    exact hn _ _ this
end Go.Den

namespace Go.Den
open Go
structure Ctx where
 P : Program
 n : Nat
 env : Env
inductive Plan where
 | fin
 | no
 | fl (i : Nat) (p : Plan)
 | mn (i : Nat) (p r : Plan)
inductive Ann where
 | n
 | s (a b : Ann)
 | c (a b : Ann)
 | b (a : Ann)
 | l (live : List (Nat × Knd)) (drop : List Nat) (a : Ann)
 | j (live : List (Nat × Knd)) (drop : List Nat) (a b : Ann)
 | r (p : Plan)
 | o (ins : List Nat)
def kindsOf (l : List (Nat × Knd)) : List Knd := l.map (·.2)
def encL : (l : List (Nat × Knd)) → KTs (kindsOf l) → Ent
 | [], _ => []
 | (i, k) :: r, t => (i, k.enc t.1) :: encL r t.2
def decL : (l : List (Nat × Knd)) → Ent → Ent → (KTs (kindsOf l) → Prop) → Prop
 | [], _, _, K => K ()
 | (i, k) :: r, cur, o, K => onV (rdT cur o i) fun v => k.dec v fun x => decL r cur o fun t => K (x, t)
def mem (l : List Nat) (i : Nat) : Bool := match l with
 | [] => false
 | j :: r => cond (Nat.beq j i) true (mem r i)
def dropE : Ent → List Nat → Ent
 | [], _ => []
 | (i, v) :: r, l => cond (mem l i) (dropE r l) ((i, v) :: dropE r l)
def keepE : Ent → List Nat → Ent
 | [], _ => []
 | (i, v) :: r, l => cond (mem l i) ((i, v) :: keepE r l) (keepE r l)
def slotOf (ops : Array Oper) (j : Nat) : Option Nat := (ops[j]?).bind (·.dst)
def guardD (ops : Array Oper) (g : Option (Nat × Bool)) (cur o : Ent) (yes no : Ent → Prop) : Prop := match g with
 | none => yes cur
 | some (j, want) => onV (slotOf ops j) fun s => onV (rdT cur o s) fun v => match v with
  | .bool t => match look o s with
   | none => cond t (cond want (yes ((s, .bool true) :: cur)) (no ((s, .bool true) :: cur))) (cond want (no ((s, .bool false) :: cur)) (yes ((s, .bool false) :: cur)))
   | some _ => False
  | .tuple _ => no cur
  | _ => False
def regD (C : Ctx) (ops : Array Oper) (o : Ent) (K : Ent → World → Prop) : List Oper → Ent → World → Prop
 | [], cur, w => K cur w
 | op :: r, cur, w => guardD ops op.guard cur o
  (fun cur' => opD C.P C.env cur' o op.op op.type w fun v w' => putD C.n op.dst v o cur' fun cur'' => regD C ops o K r cur'' w')
  (fun cur' => putD C.n op.dst undef o cur' fun cur'' => regD C ops o K r cur'' w)
abbrev Pend := List (List Nat × (World → Prop))
def waitsFor (op : Oper) (l : List Nat) : Bool := op.after.toList.any fun e => Region.binds .any e && mem l e.on
def pendMain (op : Oper) : Pend → Pend
 | [] => []
 | (l, C) :: r => cond (waitsFor op l) (pendMain op r) ((l, C) :: pendMain op r)
def pendFloat (i : Nat) (op : Oper) : Pend → Pend
 | [] => []
 | (l, C) :: r => cond (waitsFor op l) ((i :: l, C) :: pendFloat i op r) ((l, C) :: pendFloat i op r)
def keeps : Pend → World → Prop → Prop
 | [], _, G => G
 | (_, C) :: r, w, G => C w ∧ keeps r w G
def floatD (P : Program) (cur o : Ent) (op : Op) (w : World) (K : Value → Option (World → Prop) → Prop) : Prop :=
 match op with
 | .load t x => onV (rd cur o x) fun v => match v with
  | .pointer p => onSome p fun a => loadD P t w a fun v C => K v (some C)
  | _ => False
 | op => pureD P cur o op fun v => K v none
def pushP (i : Nat) (C : Option (World → Prop)) (pd : Pend) : Pend := match C with
 | some C => ([i], C) :: pd
 | none => pd
def depsMet (n : Nat) (op : Oper) (m : Nat) : Bool := op.after.toList.all fun e => !Region.binds .any e || (Nat.blt e.on n && Nat.testBit m e.on)
def readyB (ops : Array Oper) (m i : Nat) : Bool := match ops[i]? with
 | some op => !Nat.testBit m i && depsMet ops.size op m
 | none => false
def allLt (f : Nat → Bool) : Nat → Bool
 | 0 => true
 | n + 1 => f n && allLt f n
def freeB (ops : Array Oper) (m i : Nat) (oi : Oper) : Bool := allLt (fun j => Nat.beq j i || Nat.testBit m j || match ops[j]? with
 | some oj => oj.after.toList.any (fun e => Region.binds .any e && Nat.beq e.on i) || oi.apart ops oj
 | none => true) ops.size
def Plan.depth : Plan → Nat
 | .fin => 0
 | .no => 0
 | .fl _ p => p.depth + 1
 | .mn _ p r => cond (Nat.ble (p.depth + 1) r.depth) r.depth (p.depth + 1)
def inChain : Plan → Nat → Bool
 | .mn i _ r, j => Nat.beq i j || inChain r j
 | _, _ => false
def covered (ops : Array Oper) (m : Nat) (p : Plan) : Bool := allLt (fun j => inChain p j || !readyB ops m j) ops.size
def drawP (C : Ctx) (ops : Array Oper) (o : Ent) (K : Ent → World → Prop) : Plan → Bool → Nat → Pend → Ent → World → Prop
  | .fin, _, m, _, cur, w => cond (covered ops m .no) (K cur w) False
  | .no, head, _, _, _, _ => cond head False True
  | .fl i p, _, m, pd, cur, w => onV ops[i]? fun op => cond (readyB ops m i && freeB ops m i op) (guardD ops op.guard cur o
        (fun cur' => floatD C.P cur' o op.op w fun v Cv => putD C.n op.dst v o cur' fun cur'' => drawP C ops o K p true (Nat.lor m (Nat.shiftLeft 1 i)) (pushP i Cv (pendFloat i op pd)) cur'' w)
        (fun cur' => putD C.n op.dst undef o cur' fun cur'' => drawP C ops o K p true (Nat.lor m (Nat.shiftLeft 1 i)) (pendFloat i op pd) cur'' w)) False
  | .mn i p r, head, m, pd, cur, w => cond (!head || (readyB ops m i && covered ops m (.mn i p r))) (match r with
      | .no => onV ops[i]? fun op => guardD ops op.guard cur o
          (fun cur' => effD C.P C.env cur' o op.op op.type w fun v w' => keeps (pendMain op pd) w' (putD C.n op.dst v o cur' fun cur'' => drawP C ops o K p true (Nat.lor m (Nat.shiftLeft 1 i)) (pendMain op pd) cur'' w'))
          (fun cur' => keeps (pendMain op pd) w (putD C.n op.dst undef o cur' fun cur'' => drawP C ops o K p true (Nat.lor m (Nat.shiftLeft 1 i)) (pendMain op pd) cur'' w))
      | r => (onV ops[i]? fun op => guardD ops op.guard cur o
          (fun cur' => effD C.P C.env cur' o op.op op.type w fun v w' => keeps (pendMain op pd) w' (putD C.n op.dst v o cur' fun cur'' => drawP C ops o K p true (Nat.lor m (Nat.shiftLeft 1 i)) (pendMain op pd) cur'' w'))
          (fun cur' => keeps (pendMain op pd) w (putD C.n op.dst undef o cur' fun cur'' => drawP C ops o K p true (Nat.lor m (Nat.shiftLeft 1 i)) (pendMain op pd) cur'' w))) ∧ drawP C ops o K r false m pd cur w) False
def pickE : List Nat → Ent → Ent → Ent
 | [], _, _ => []
 | s :: r, cur, o => match rdT cur o s with
  | some v => (s, v) :: pickE r cur o
  | none => pickE r cur o
def freshO (n : Nat) (o : Ent) : List Oper → Bool
 | [] => true
 | op :: r => (match op.dst with
  | none => true
  | some d => Nat.blt d n && (match look o d with
   | none => true
   | some _ => false)) && freshO n o r
def depsLtB (ops : Array Oper) : Bool := allLt (fun i => match ops[i]? with
 | some op => op.after.toList.all fun e => !Region.binds .any e || Nat.blt e.on i
 | none => true) ops.size
def putE (dst : Option Nat) (v : Value) (cur : Ent) : Ent := match dst with
 | none => cur
 | some d => (d, v) :: cur
def orderD (C : Ctx) (ops : Array Oper) (o : Ent) (K : Ent → World → Prop) : Nat → Nat → Ent → World → Prop
 | 0, _, cur, w => K cur w
 | k + 1, m, cur, w => ∀ i op, ops[i]? = some op → readyB ops m i = true → guardD ops op.guard cur o
   (fun cur' => opD C.P C.env cur' o op.op op.type w fun v w' => orderD C ops o K k (Nat.lor m (Nat.shiftLeft 1 i)) (putE op.dst v cur') w')
   (fun cur' => orderD C ops o K k (Nat.lor m (Nat.shiftLeft 1 i)) (putE op.dst undef cur') w)
structure OrdP (C : Ctx) (ops : Array Oper) (o : Ent) (K : Ent → World → Prop) (w : World) : Prop where
 out : orderD C ops o K ops.size 0 [] w
def resD (P : Program) (cur : Ent) : List ResultVar → World → (List Value → Prop) → Prop
 | [], _, K => K []
 | .tmp t :: r, w, K => onV (rdT cur [] t) fun v => resD P cur r w fun vs => K (v :: vs)
 | .cell a t :: r, w, K => onV (rdT cur [] a) fun v => match v with
  | .pointer p => onSome p fun ad => loadD P t w ad fun v _ => resD P cur r w fun vs => K (v :: vs)
  | _ => False
def oneOr (vs : List Value) : Value := match vs with
 | [v] => v
 | vs => .tuple vs.toArray
def postD (P : Program) (rs : List ResultVar) (R : Value → World → Prop) (e : Exit) (cur : Ent) (w : World) : Prop := match e with
 | .normal => resD P cur rs w fun vs => R (oneOr vs) w
 | .ret => resD P cur rs w fun vs => R (oneOr vs) w
 | _ => False
def thenD (N : Ent → World → Prop) (Q : Exit → Ent → World → Prop) : Exit → Ent → World → Prop
 | .normal, cur, w => N cur w
 | e, cur, w => Q e cur w
def blockD (id : Nat) (Q : Exit → Ent → World → Prop) : Exit → Ent → World → Prop
 | .exit i, cur, w => cond (Nat.beq i id) (Q .normal cur w) (Q (.exit i) cur w)
 | e, cur, w => Q e cur w
def condD (v : Value) (A B : Prop) : Prop := match v with
 | .bool t => cond t A B
 | _ => False
def D (C : Ctx) : Code → Ann → Ent → (Exit → Ent → World → Prop) → Ent → World → Prop
 | .skip, _, _, Q, cur, w => Q .normal cur w
 | .region _ ops draw, ann, o, Q, cur, w => cond draw (match ann with
   | .r p => cond (Nat.ble p.depth ops.size) (drawP C ops o (Q .normal) p true 0 [] cur w.drew) False
   | .o ins => cond (freshO C.n o ops.toList && freshO C.n (pickE ins cur o) ops.toList && depsLtB ops) (OrdP C ops (pickE ins cur o) (Q .normal) w.drew) False
   | _ => False) (regD C ops o (Q .normal) ops.toList cur w)
 | .seq x y, ann, o, Q, cur, w => match ann with
  | .s a b => D C x a o (thenD (D C y b o Q) Q) cur w
  | .n => D C x .n o (thenD (D C y .n o Q) Q) cur w
  | .j live drop a b => ∀ J : KTs (kindsOf live) → World → Prop, (∀ t w, D C y b o Q (encL live t ++ dropE cur drop) w → J t w) →
    D C x a (dropE cur drop ++ o) (thenD (fun cur' w' => decL live cur' (dropE cur drop ++ o) fun t => J t w') fun e cur' w' => Q e (cur' ++ dropE cur drop) w') (keepE cur drop) w
  | _ => False
 | .cond c x y, ann, o, Q, cur, w => match ann with
  | .c a b => onV (rd cur o c) fun v => condD v (D C x a o Q cur w) (D C y b o Q cur w)
  | .n => onV (rd cur o c) fun v => condD v (D C x .n o Q cur w) (D C y .n o Q cur w)
  | _ => False
 | .block id c, ann, o, Q, cur, w => match ann with
  | .b a => D C c a o (blockD id Q) cur w
  | .n => D C c .n o (blockD id Q) cur w
  | _ => False
 | .loop c, ann, o, Q, cur, w => match ann with
  | .l live drop a => ∀ X : KTs (kindsOf live) → World → Prop,
    (∀ t w, D C c a (dropE cur drop ++ o) (thenD (fun cur' w' => decL live cur' (dropE cur drop ++ o) fun t' => X t' w') fun e cur' w' => Q e (cur' ++ dropE cur drop) w') (encL live t) w → X t w) →
    decL live cur o fun t => X t w
  | _ => False
 | .exit id, _, _, Q, cur, w => Q (.exit id) cur w
 | .ret, _, _, Q, cur, w => Q .ret cur w
 | _, _, _, _, _, _ => False
end Go.Den

namespace Go.Den
open Go
theorem look_append (x y : Ent) (t : Nat) : look (x ++ y) t = match look x t with
  | some v => some v
  | none => look y t := by
 induction x with
 | nil => rfl
 | cons p x ih =>
  obtain ⟨i, v⟩ := p
  simp only [List.cons_append, look]
  cases Nat.beq i t with
  | true => rfl
  | false => exact ih
theorem look_dropE (l : List Nat) (t : Nat) : ∀ (x : Ent), look (dropE x l) t = cond (mem l t) none (look x t)
 | [] => by cases mem l t <;> rfl
 | (i, v) :: r => by
  have ih := look_dropE l t r
  simp only [dropE, look]
  cases hb : Nat.beq i t with
  | true =>
   have : i = t := Nat.eq_of_beq_eq_true hb
   subst this
   cases hm : mem l i with
   | true => rw [hm] at ih; exact ih
   | false => simp only [cond_false, look, hb, cond_true]
  | false =>
   cases hm : mem l i with
   | true => simp only [cond_true]; rw [ih]; rfl
   | false => simp only [cond_false, look, hb]; rw [ih]
theorem look_keepE (l : List Nat) (t : Nat) : ∀ (x : Ent) (v : Value), look (keepE x l) t = some v → mem l t = true ∧ look x t = some v
 | [], v, h => by cases h
 | (i, u) :: r, v, h => by
  simp only [keepE] at h
  cases hm : mem l i with
  | true =>
   rw [hm] at h
   simp only [cond_true, look] at h
   cases hb : Nat.beq i t with
   | true =>
    rw [hb] at h
    have : i = t := Nat.eq_of_beq_eq_true hb
    subst this
    exact ⟨hm, by simp only [look, hb]; exact h⟩
   | false =>
    rw [hb] at h
    obtain ⟨h1, h2⟩ := look_keepE l t r v h
    exact ⟨h1, by simp only [look, hb]; exact h2⟩
  | false =>
   rw [hm] at h
   obtain ⟨h1, h2⟩ := look_keepE l t r v h
   refine ⟨h1, ?_⟩
   have : Nat.beq i t = false := by
    cases hb : Nat.beq i t with
    | false => rfl
    | true =>
     have : i = t := Nat.eq_of_beq_eq_true hb
     subst this
     rw [h1] at hm
     cases hm
   simp only [look, this]
   exact h2
theorem View.outer {n : Nat} {cur o : Ent} {a : Act} (h : View n cur o a) (l : List Nat) : ∀ t v, look (dropE cur l ++ o) t = some v → a.tmps.getD t undef = v := by
 intro t v hv
 rw [look_append, look_dropE] at hv
 cases hm : mem l t with
 | true => rw [hm] at hv; exact h.o t v hv
 | false =>
  rw [hm] at hv
  cases hl : look cur t with
  | some u => rw [hl] at hv; simp at hv; subst hv; exact h.cur t _ hl
  | none => rw [hl] at hv; exact h.o t v hv
theorem View.back {n : Nat} {cur cur' o : Ent} {l : List Nat} {a : Act} (h : View n cur' (dropE cur l ++ o) a) (ho : ∀ t v, look o t = some v → look (dropE cur l ++ o) t = some v) : View n (cur' ++ dropE cur l) o a := by
 refine ⟨h.size, ?_, fun t v hv => h.o t v (ho t v hv), h.dfr⟩
 intro t v hv
 rw [look_append] at hv
 cases hl : look cur' t with
 | some u => rw [hl] at hv; simp at hv; subst hv; exact h.cur t _ hl
 | none =>
  rw [hl] at hv
  exact h.o t v (by rw [look_append]; simp only at hv; rw [hv])
theorem rdT_view {n : Nat} {cur o : Ent} {a : Act} (h : View n cur o a) {t : Nat} {v : Value} (hx : rdT cur o t = some v) : a.tmps.getD t undef = v :=
 h.rd (x := .tmp t) hx
theorem decL_spec {n : Nat} {a : Act} : ∀ {l : List (Nat × Knd)} {cur o : Ent} {K : KTs (kindsOf l) → Prop}, View n cur o a → decL l cur o K →
  ∃ t, K t ∧ ∀ i v, look (encL l t) i = some v → a.tmps.getD i undef = v
 | [], _, _, _, _, h => ⟨(), h, fun i v hv => by cases hv⟩
 | (i, k) :: r, cur, o, K, hv, h => by
  obtain ⟨v, hr, h1⟩ := onV_spec h
  obtain ⟨x, rfl, h2⟩ := Knd.dec_spec h1
  obtain ⟨t, hK, ht⟩ := decL_spec (K := fun t => K (x, t)) hv h2
  refine ⟨(x, t), hK, fun j u hu => ?_⟩
  simp only [encL, look] at hu
  cases hb : Nat.beq i j with
  | true =>
   rw [hb] at hu
   have : i = j := Nat.eq_of_beq_eq_true hb
   subst this
   cases hu
   exact rdT_view hv hr
  | false => rw [hb] at hu; exact ht j u hu
theorem guardD_spec {n : Nat} {cur o : Ent} {a : Act} (hv : View n cur o a) {ops : Array Oper} {op : Oper} {yes no : Ent → Prop} (h : guardD ops op.guard cur o yes no) :
  (∃ cur', View n cur' o a ∧ Region.wanted op (yielded ops a.tmps) = true ∧ yes cur') ∨ (∃ cur', View n cur' o a ∧ Region.wanted op (yielded ops a.tmps) = false ∧ no cur') := by
 unfold guardD at h
 cases hg : op.guard with
 | none => rw [hg] at h; exact .inl ⟨cur, hv, by simp [Region.wanted, hg], h⟩
 | some jw =>
  obtain ⟨j, want⟩ := jw
  rw [hg] at h
  obtain ⟨s, hs, h1⟩ := onV_spec h
  obtain ⟨v, hr, h2⟩ := onV_spec h1
  cases v <;> try (exact h2.elim)
  case tuple vs =>
   have ht := rdT_view hv hr
   have hy : yielded ops a.tmps j = none := by
    unfold slotOf at hs
    cases hq : a.tmps[s]? with
    | none => simp [yielded, hs, hq]
    | some u => simp [hq] at ht; simp [yielded, hs, hq, ht]
   exact .inr ⟨cur, hv, by simp [Region.wanted, hg, hy], h2⟩
  rename_i t
  have ht := rdT_view hv hr
  have hy : yielded ops a.tmps j = some t := by
   unfold slotOf at hs
   have hsome : a.tmps[s]? = some (.bool t) := by
    cases hq : a.tmps[s]? with
    | none => simp [hq, undef] at ht
    | some u => simp [hq] at ht; rw [ht]
   simp [yielded, hs, hsome]
  cases hlo : look o s with
  | some u => simp only [hlo] at h2
  | none =>
  simp only [hlo] at h2
  have hview : View n ((s, .bool t) :: cur) o a := by
   refine ⟨hv.size, ?_, hv.o, hv.dfr⟩
   intro i u hu
   simp only [look] at hu
   cases hb : Nat.beq s i with
   | true =>
    rw [hb] at hu
    have : s = i := Nat.eq_of_beq_eq_true hb
    subst this
    cases hu
    exact ht
   | false => rw [hb] at hu; exact hv.cur i u hu
  cases t <;> cases want
  ·exact .inl ⟨_, hview, by simp [Region.wanted, hg, hy], h2⟩
  ·exact .inr ⟨_, hview, by simp [Region.wanted, hg, hy], h2⟩
  ·exact .inr ⟨_, hview, by simp [Region.wanted, hg, hy], h2⟩
  ·exact .inl ⟨_, hview, by simp [Region.wanted, hg, hy], h2⟩
theorem op_sound {P : Program} {env : Env} (henv : EnvOk P env) {n : Nat} {cur o : Ent} {a : Act} (hv : View n cur o a) (op : Oper) {w : World} {K : Value → World → Prop} {next : Act → World → Prop} {Q : Exit → Act → World → Prop}
  (h : opD P env cur o op.op op.type w K) (hn : ∀ v w', K v w' → next (a.put op.dst v) w') : op.wp P a w next Q := by
 unfold opD at h
 cases hp : isPure P op.op with
 | true =>
  rw [hp] at h
  obtain ⟨v, hK, hr⟩ := pure_sound hv op h
  exact upon_value (hr w) (hn _ _ hK)
 | false => rw [hp] at h; exact eff_sound henv hv op h hn
theorem regD_sound {C : Ctx} (henv : EnvOk C.P C.env) {ops : Array Oper} {o : Ent} {K : Ent → World → Prop} {Q : Exit → Act → World → Prop} (hQ : ∀ cur a w, View C.n cur o a → K cur w → Q .normal a w) :
  ∀ (l : List Oper) (cur : Ent) (a : Act) (w : World), View C.n cur o a → regD C ops o K l cur w → wpList C.P ops Q l a w
 | [], cur, a, w, hv, h => hQ cur a w hv h
 | op :: r, cur, a, w, hv, h => by
  simp only [regD] at h
  unfold wpList
  rcases guardD_spec hv h with ⟨cur', hv', hw, h1⟩ | ⟨cur', hv', hw, h1⟩
  ·rw [if_pos hw]
   refine .inl (op_sound henv hv' op h1 fun v w' h2 => ?_)
   obtain ⟨cur'', h3, h4⟩ := putD_spec h2
   exact regD_sound henv hQ r cur'' _ w' (h4 a hv') h3
  ·rw [if_neg (by rw [hw]; simp)]
   obtain ⟨cur'', h3, h4⟩ := putD_spec h1
   exact regD_sound henv hQ r cur'' _ w (h4 a hv') h3
def Wd (P : Program) (ops : Array Oper) (Q : Exit → Act → World → Prop) : Nat → Array Bool → Pend → Act → World → Prop
 | 0, done, _, a, w => Region.ready .any ops done = [] ∧ Q .normal a w
 | f + 1, done, pd, a, w => (Region.ready .any ops done = [] → Q .normal a w) ∧ ∀ j ∈ Region.ready .any ops done, ∀ oj, ops[j]? = some oj →
   wpOp P ops Q j (fun a' w' => (∀ p ∈ pendMain oj pd, p.2 w') ∧ Wd P ops Q f (done.setIfInBounds j true) (pendMain oj pd) a' w') a w
theorem Wd_any {P : Program} {ops : Array Oper} {Q : Exit → Act → World → Prop} : ∀ (f : Nat) (done : Array Bool) (pd : Pend) (a : Act) (w : World), Wd P ops Q f done pd a w → wpAny P .any ops Q f done a w
 | 0, _, _, _, _, h => h
 | f + 1, done, pd, a, w, h => ⟨h.1, fun j hj => by
  obtain ⟨_, o, ho, _⟩ := mem_ready.1 hj
  exact wpOp_mono (fun a' w' h' => Wd_any f _ _ a' w' h'.2) (h.2 j hj o ho)⟩
theorem pendMain_mem {op : Oper} : ∀ {pd : Pend} {p : List Nat × (World → Prop)}, p ∈ pendMain op pd ↔ p ∈ pd ∧ waitsFor op p.1 = false
 | [], p => by simp [pendMain]
 | (l, C) :: r, p => by
  simp only [pendMain]
  cases hw : waitsFor op l with
  | true =>
   simp only [cond_true, List.mem_cons, pendMain_mem (pd := r)]
   constructor
   ·rintro ⟨h1, h2⟩; exact ⟨.inr h1, h2⟩
   ·rintro ⟨h1 | h1, h2⟩
    ·subst h1; rw [hw] at h2; cases h2
    ·exact ⟨h1, h2⟩
  | false =>
   simp only [cond_false, List.mem_cons, pendMain_mem (pd := r)]
   constructor
   ·rintro (h1 | ⟨h1, h2⟩)
    ·subst h1; exact ⟨.inl rfl, hw⟩
    ·exact ⟨.inr h1, h2⟩
   ·rintro ⟨h1 | h1, h2⟩
    ·exact .inl h1
    ·exact .inr ⟨h1, h2⟩
theorem Wd_sub {P : Program} {ops : Array Oper} {Q : Exit → Act → World → Prop} : ∀ (f : Nat) (done : Array Bool) (pd pd' : Pend) (a : Act) (w : World), (∀ p ∈ pd', p ∈ pd) → Wd P ops Q f done pd a w → Wd P ops Q f done pd' a w
 | 0, _, _, _, _, _, _, h => h
 | f + 1, done, pd, pd', a, w, hs, h => ⟨h.1, fun j hj oj hoj => wpOp_mono (fun a' w' h' => by
   have hsub : ∀ p ∈ pendMain oj pd', p ∈ pendMain oj pd := fun p hp => pendMain_mem.2 ⟨hs p (pendMain_mem.1 hp).1, (pendMain_mem.1 hp).2⟩
   exact ⟨fun p hp => h'.1 p (hsub p hp), Wd_sub f _ _ _ a' w' hsub h'.2⟩) (h.2 j hj oj hoj)⟩
def YieldsC (P : Program) (ops : Array Oper) (Cl : World → Prop) (o : Oper) (v : Value) (a : Act) : Prop :=
 (Region.wanted o (yielded ops a.tmps) = true ∧ ∀ w, Cl w → (execOp a.eval o).run P w = .ok (.value v) w) ∨
 (Region.wanted o (yielded ops a.tmps) = false ∧ v = undef)
theorem YieldsC.wpOp {P : Program} {ops : Array Oper} {Cl : World → Prop} {Q : Exit → Act → World → Prop} {i : Nat} {o : Oper} {v : Value} {a : Act} (hi : ops[i]? = some o) (hy : YieldsC P ops Cl o v a)
  {K : Act → World → Prop} {w : World} (hw : Cl w) (h : K (a.put o.dst v) w) : wpOp P ops Q i K a w := by
 unfold Go.wpOp
 simp only [hi]
 rcases hy with ⟨h1, hv⟩ | ⟨h1, rfl⟩
 ·simp only [h1, if_true, Oper.wp, hv w hw, Oper.upon]; exact .inl h
 ·simp only [h1, Bool.false_eq_true, if_false]; exact h
theorem wpOp_putC {P : Program} {ops : Array Oper} {Cl : World → Prop} {Q : Exit → Act → World → Prop} {j : Nat} {oi oj : Oper} {v : Value} (hj : ops[j]? = some oj) (hap : oi.apart ops oj = true)
  (hsi : ∀ cs b, oi.op ≠ .select cs b) (hsj : ∀ cs b, oj.op ≠ .select cs b)
  (hQ : ∀ c a w, Q (.panic c) (a.put oi.dst v) w → Q (.panic c) a w) {K : Act → World → Prop} {a : Act} {w : World}
  (hy : YieldsC P ops Cl oi v a) (h : Go.wpOp P ops Q j K (a.put oi.dst v) w) :
  Go.wpOp P ops Q j (fun a' w' => YieldsC P ops Cl oi v a' ∧ K (a'.put oi.dst v) w') a w := by
 obtain ⟨h1, h2, h3⟩ := Oper.apart_spec hap
 have of_same : ∀ {a a' : Act}, YieldsC P ops Cl oi v a → execOp a'.eval oi = execOp a.eval oi → Region.wanted oi (yielded ops a'.tmps) = Region.wanted oi (yielded ops a.tmps) → YieldsC P ops Cl oi v a' := fun hy he hw => by
  unfold YieldsC at *
  rw [he, hw]
  exact hy
 have keep : ∀ (a : Act), YieldsC P ops Cl oi v a → ∀ u, YieldsC P ops Cl oi v (a.put oj.dst u) := fun a hy u =>
  of_same hy (execOp_put oi hsi a oj.dst u h3) (wanted_put oi a oj.dst u h3)
 have keepD : ∀ d, YieldsC P ops Cl oi v { a with defers := d :: a.defers } := fun d => of_same hy rfl rfl
 unfold Go.wpOp at *
 simp only [hj] at *
 rw [wanted_put oj a oi.dst v h1] at h
 split
 ·rename_i hw
  simp only [hw, if_true] at h
  rcases h with h | ⟨hasks, hlets⟩
  case inr => exact .inr ⟨by unfold Oper.asks at *; rw [execOp_put oj hsj a oi.dst v h1] at hasks; exact hasks, hlets⟩
  refine .inl ?_
  unfold Oper.wp at *
  rw [execOp_put oj hsj a oi.dst v h1] at h
  generalize (execOp a.eval oj).run P w = r at *
  cases r with
  | ok n w' =>
   cases n <;> simp only [Oper.upon] at h ⊢
   case value u => exact ⟨keep a hy u, by rw [← Act.put_comm a v u h2]; exact h⟩
   case skip => exact ⟨keep a hy _, by rw [← Act.put_comm a v undef h2]; exact h⟩
   case defer d =>
    refine ⟨keep _ (keepD d) _, ?_⟩
    rw [← Act.put_comm _ v undef h2, ← Act.put_defers]
    exact h
   case enter f args =>
    refine Calls.mono h fun e w'' he => ?_
    cases e with
    | returned u => exact ⟨keep a hy u, by rw [← Act.put_comm a v u h2]; exact he⟩
    | panicked c => exact hQ _ _ _ he
    | outgrown => exact he
   case row row args => exact Rows.mono h fun u w'' he => ⟨keep a hy u, by rw [← Act.put_comm a v u h2]; exact he⟩
  | halt x w' =>
   cases x <;> simp only [Oper.upon] at h ⊢
   case panic u => exact hQ _ _ _ h
 ·rename_i hw
  simp only [hw] at h
  exact ⟨keep a hy _, by rw [← Act.put_comm a v undef h2]; exact h⟩
theorem pendFloat_mem {i : Nat} {op : Oper} : ∀ {pd : Pend} {l : List Nat} {Cl : World → Prop}, (l, Cl) ∈ pd → (l, Cl) ∈ pendFloat i op pd ∨ (waitsFor op l = true ∧ (i :: l, Cl) ∈ pendFloat i op pd)
 | [], _, _, h => by cases h
 | (l', C') :: r, l, Cl, h => by
  simp only [pendFloat]
  rcases List.mem_cons.1 h with h | h
  ·obtain ⟨rfl, rfl⟩ := Prod.mk.inj h
   cases hw : waitsFor op l with
   | true => exact .inr ⟨rfl, by simp⟩
   | false => exact .inl (by simp)
  ·rcases pendFloat_mem (i := i) (op := op) h with h | ⟨h1, h2⟩
   ·left; cases waitsFor op l' <;> exact List.mem_cons_of_mem _ h
   ·right; refine ⟨h1, ?_⟩; cases waitsFor op l' <;> exact List.mem_cons_of_mem _ h2
theorem pendFloat_cls {i : Nat} {op : Oper} : ∀ {pd : Pend} {p : List Nat × (World → Prop)}, p ∈ pendFloat i op pd → ∃ l, (l, p.2) ∈ pd ∧ ((p.1 = l ∧ waitsFor op l = false) ∨ (p.1 = i :: l ∧ waitsFor op l = true))
 | [], p, h => by cases h
 | (l', C') :: r, p, h => by
  simp only [pendFloat] at h
  cases hw : waitsFor op l' with
  | true =>
   rw [hw] at h
   rcases List.mem_cons.1 h with h | h
   ·subst h; exact ⟨l', by simp, .inr ⟨rfl, hw⟩⟩
   ·obtain ⟨l, h1, h2⟩ := pendFloat_cls h
    exact ⟨l, List.mem_cons_of_mem _ h1, h2⟩
  | false =>
   rw [hw] at h
   rcases List.mem_cons.1 h with h | h
   ·subst h; exact ⟨l', by simp, .inl ⟨rfl, hw⟩⟩
   ·obtain ⟨l, h1, h2⟩ := pendFloat_cls h
    exact ⟨l, List.mem_cons_of_mem _ h1, h2⟩
theorem waitsFor_cons {op : Oper} {i : Nat} {l : List Nat} (h : ∀ e ∈ op.after, Region.binds .any e = true → e.on ≠ i) : waitsFor op (i :: l) = waitsFor op l := by
 unfold waitsFor
 rw [Bool.eq_iff_iff, List.any_eq_true, List.any_eq_true]
 constructor
 ·rintro ⟨e, he, hb⟩
  simp only [Bool.and_eq_true] at hb
  refine ⟨e, he, ?_⟩
  simp only [Bool.and_eq_true]
  refine ⟨hb.1, ?_⟩
  have hne := h e (by simpa using he) hb.1
  have h2 := hb.2
  simp only [mem] at h2
  have : Nat.beq i e.on = false := by
   cases hq : Nat.beq i e.on with
   | false => rfl
   | true => exact absurd (Nat.eq_of_beq_eq_true hq).symm hne
  rw [this] at h2
  exact h2
 ·rintro ⟨e, he, hb⟩
  simp only [Bool.and_eq_true] at hb
  refine ⟨e, he, ?_⟩
  simp only [Bool.and_eq_true]
  refine ⟨hb.1, ?_⟩
  simp only [mem]
  cases Nat.beq i e.on with
  | true => rfl
  | false => exact hb.2
theorem waitsFor_one {op : Oper} {i : Nat} (h : ∀ e ∈ op.after, Region.binds .any e = true → e.on ≠ i) : waitsFor op [i] = false := by
 rw [waitsFor_cons h]
 unfold waitsFor
 rw [List.any_eq_false]
 intro e he
 simp [mem]
theorem pend_swap {i : Nat} {oi oj : Oper} (hno : ∀ e ∈ oj.after, Region.binds .any e = true → e.on ≠ i) : ∀ (pd : Pend), pendMain oj (pendFloat i oi pd) = pendFloat i oi (pendMain oj pd)
 | [] => rfl
 | (l, C) :: r => by
  have ih := pend_swap (i := i) (oi := oi) hno r
  simp only [pendFloat, pendMain]
  cases h1 : waitsFor oi l with
  | true =>
   simp only [cond_true, pendMain, waitsFor_cons hno]
   cases h2 : waitsFor oj l with
   | true => simpa using ih
   | false => simp [pendFloat, h1, ih]
  | false =>
   simp only [cond_false, pendMain]
   cases h2 : waitsFor oj l with
   | true => simpa using ih
   | false => simp [pendFloat, h1, ih]
theorem Wd_first {P : Program} {ops : Array Oper} {Cl : World → Prop} {Q : Exit → Act → World → Prop} {i : Nat} {oi : Oper} {v : Value} (hi : ops[i]? = some oi) (hsel : ∀ (j : Nat) (o : Oper) cs b, ops[j]? = some o → o.op ≠ .select cs b)
  (hQ : ∀ c a w, Q (.panic c) (a.put oi.dst v) w → Q (.panic c) a w) :
  ∀ (f : Nat) (done : Array Bool) (pd : Pend) (a : Act) (w : World),
   (∀ j oj, ops[j]? = some oj → j ≠ i → done.getD j true = false → (∀ e ∈ oj.after, Region.binds .any e = true → e.on ≠ i) → oi.apart ops oj = true) →
   i ∈ Region.ready .any ops done → YieldsC P ops Cl oi v a → Cl w → (∀ p ∈ pd, p.2 w) →
   Wd P ops Q f (done.setIfInBounds i true) (([i], Cl) :: pendFloat i oi pd) (a.put oi.dst v) w → Wd P ops Q (f + 1) done pd a w := by
 intro f
 induction f with
 | zero =>
  intro done pd a w _ hr hy hC hp H
  refine ⟨fun h => (by rw [h] at hr; cases hr), fun j hj oj hoj => ?_⟩
  by_cases hji : j = i
  ·subst hji
   rw [hi] at hoj; cases hoj
   exact hy.wpOp hi hC ⟨fun p hpm => hp p (pendMain_mem.1 hpm).1, H.1, H.2⟩
  ·have := ready_mono hj hji
   rw [H.1] at this
   cases this
 | succ f ih =>
  intro done pd a w hfree hr hy hC hp H
  refine ⟨fun h => (by rw [h] at hr; cases hr), fun j hj oj hoj => ?_⟩
  by_cases hji : j = i
  ·subst hji
   rw [hi] at hoj; cases hoj
   refine hy.wpOp hi hC ⟨fun p hpm => hp p (pendMain_mem.1 hpm).1, Wd_sub _ _ _ _ _ _ ?_ H⟩
   intro p hpm
   obtain ⟨h1, h2⟩ := pendMain_mem.1 hpm
   obtain ⟨l, Cl'⟩ := p
   rcases pendFloat_mem (i := j) (op := oi) h1 with h3 | ⟨h3, _⟩
   ·exact List.mem_cons_of_mem _ h3
   ·rw [h2] at h3; cases h3
  ·obtain ⟨hjun, oj', hoj', hall⟩ := mem_ready.1 hj
   rw [hoj] at hoj'; cases hoj'
   have h1 := H.2 j (ready_mono hj hji) oj hoj
   have hnot : ∀ e ∈ oj.after, Region.binds .any e = true → e.on ≠ i := fun e he hb heq => by
    have h1 := hall e he hb
    have h0 := (mem_ready.1 hr).1
    rw [heq] at h1
    rcases Nat.lt_or_ge i done.size with h' | h'
    ·simp [h'] at h0 h1; rw [h0] at h1; cases h1
    ·simp [Array.getElem?_eq_none h'] at h1
   have h2 := wpOp_putC hoj (hfree j oj hoj hji hjun hnot) (fun cs b => hsel i oi cs b hi) (fun cs b => hsel j oj cs b hoj) hQ hy h1
   have hfree' : ∀ k ok, ops[k]? = some ok → k ≠ i → (done.setIfInBounds j true).getD k true = false →
     (∀ e ∈ ok.after, Region.binds .any e = true → e.on ≠ i) → oi.apart ops ok = true := fun k ok hk hki hun hno => by
    refine hfree k ok hk hki ?_ hno
    by_cases hjk : j = k
    ·subst hjk; exact hjun
    ·rw [getD_set_ne true hjk] at hun; exact hun
   have hpm : pendMain oj (([i], Cl) :: pendFloat i oi pd) = ([i], Cl) :: pendFloat i oi (pendMain oj pd) := by
    simp only [pendMain, waitsFor_one hnot, cond_false]
    rw [pend_swap hnot]
   rw [hpm] at h2
   refine wpOp_mono (fun a' w' h3 => ?_) h2
   obtain ⟨hy', hcl, hW⟩ := h3
   have hCw : Cl w' := hcl ([i], Cl) (by simp)
   have hpd : ∀ p ∈ pendMain oj pd, p.2 w' := fun p hpp => by
    obtain ⟨l, Cl'⟩ := p
    rcases pendFloat_mem (i := i) (op := oi) hpp with h4 | ⟨_, h4⟩
    ·exact hcl _ (List.mem_cons_of_mem _ h4)
    ·exact hcl (i :: l, Cl') (List.mem_cons_of_mem _ h4)
   refine ⟨hpd, ih (done.setIfInBounds j true) (pendMain oj pd) a' w' hfree' (ready_mono hr (Ne.symm hji)) hy' hCw hpd ?_⟩
   rw [Array.setIfInBounds_comm _ _ hji]
   exact hW
theorem keeps_spec : ∀ {pd : Pend} {w : World} {G : Prop}, keeps pd w G → (∀ p ∈ pd, p.2 w) ∧ G
 | [], _, _, h => ⟨(fun p hp => by cases hp), h⟩
 | (l, C) :: r, w, G, h => by
  obtain ⟨h1, h2⟩ := h
  obtain ⟨h3, h4⟩ := keeps_spec h2
  exact ⟨fun p hp => by
   rcases List.mem_cons.1 hp with hp | hp
   ·subst hp; exact h1
   ·exact h3 p hp, h4⟩
theorem floatD_spec {P : Program} {n : Nat} {cur o : Ent} {a : Act} (hv : View n cur o a) (op : Oper) {w : World} {K : Value → Option (World → Prop) → Prop} (h : floatD P cur o op.op w K) :
  ∃ v Cv, K v Cv ∧ match Cv with
   | some C => C w ∧ ∀ w', C w' → (execOp a.eval op).run P w' = .ok (.value v) w'
   | none => ∀ w', (execOp a.eval op).run P w' = .ok (.value v) w' := by
 have other : pureD P cur o op.op (fun v => K v none) → ∃ v Cv, K v Cv ∧ match Cv with
   | some C => C w ∧ ∀ w', C w' → (execOp a.eval op).run P w' = .ok (.value v) w'
   | none => ∀ w', (execOp a.eval op).run P w' = .ok (.value v) w' := fun hp => by
  obtain ⟨v, hK, hr⟩ := pure_sound hv op hp
  exact ⟨v, none, hK, hr⟩
 obtain ⟨dst, op, ty, pos, after, guard⟩ := op
 cases op
 case load t x =>
  obtain ⟨v, hx, h1⟩ := onV_spec h
  cases v <;> try (exact h1.elim)
  obtain ⟨ad, rfl, h2⟩ := onSome_spec h1
  obtain ⟨v, C, hK, hC, hr⟩ := loadD_spec h2
  exact ⟨v, some C, hK, hC, fun w' hw' => by simp [execOp, hv.rd hx, Instr.loadAt, Instr.sureAddr, hr w' hw']⟩
 all_goals exact other h
theorem allLt_spec {f : Nat → Bool} : ∀ {n : Nat}, allLt f n = true → ∀ i, i < n → f i = true
 | 0, _, i, hi => absurd hi (Nat.not_lt_zero _)
 | n + 1, h, i, hi => by
  simp only [allLt, Bool.and_eq_true] at h
  rcases Nat.lt_or_ge i n with h1 | h1
  ·exact allLt_spec h.2 i h1
  ·have : i = n := by omega
   subst this
   exact h.1
def arrOf (n m : Nat) : Array Bool := (Array.range n).map fun i => Nat.testBit m i
theorem arrOf_getD {n m j : Nat} {d : Bool} : (arrOf n m).getD j d = if j < n then Nat.testBit m j else d := by
 unfold arrOf
 by_cases h : j < n
 ·simp [h]
 ·simp [h]
theorem arrOf_zero (n : Nat) : Array.replicate n false = arrOf n 0 := by
 apply Array.ext
 ·simp [arrOf]
 ·intro i h1 h2
  simp [arrOf]
theorem testBit_lor_shift (m i j : Nat) : Nat.testBit (Nat.lor m (Nat.shiftLeft 1 i)) j = (Nat.testBit m j || decide (i = j)) := by
 show Nat.testBit (m ||| 1 <<< i) j = _
 rw [Nat.testBit_or, Nat.testBit_shiftLeft]
 congr 1
 by_cases hij : i = j
 ·subst hij; simp
 ·by_cases hle : i ≤ j
  ·obtain ⟨k, hk⟩ : ∃ k, j - i = k + 1 := ⟨j - i - 1, by omega⟩
   rw [hk]
   simp [hij, Nat.testBit_succ]
  ·simp [hij, hle]
theorem arrOf_set (n m i : Nat) : (arrOf n m).setIfInBounds i true = arrOf n (Nat.lor m (Nat.shiftLeft 1 i)) := by
 apply Array.ext_getElem?
 intro j
 rw [Array.getElem?_setIfInBounds]
 by_cases hij : i = j
 ·subst hij
  by_cases hn : i < n
  ·have := testBit_lor_shift m i i
   simp only [arrOf, Array.size_map, Array.size_range, hn, if_true, Array.getElem?_map, Array.getElem?_range, Option.map_some, this]
   simp
  ·simp [arrOf, hn]
 ·by_cases hn : j < n
  ·have := testBit_lor_shift m i j
   simp only [arrOf, Array.getElem?_map, Array.getElem?_range, hn, if_true, Option.map_some, this, hij, if_false]
   simp
  ·simp [arrOf, hn, hij]
theorem readyB_mem {ops : Array Oper} {m j : Nat} : j ∈ Region.ready .any ops (arrOf ops.size m) ↔ readyB ops m j = true := by
 rw [mem_ready]
 unfold readyB depsMet
 cases ho : ops[j]? with
 | none =>
  simp
 | some o =>
  have hlt : j < ops.size := (Array.getElem?_eq_some_iff.1 ho).1
  simp only [arrOf_getD, hlt, if_true, Option.some.injEq, exists_eq_left', Bool.and_eq_true, Bool.not_eq_true', List.all_eq_true, Bool.or_eq_true]
  constructor
  ·rintro ⟨h1, h2⟩
   refine ⟨h1, fun e he => ?_⟩
   cases hb : Region.binds .any e
   ·exact .inl rfl
   ·right
    have := h2 e (by simpa using he) hb
    split at this
    ·rename_i hl; exact ⟨by simpa using hl, this⟩
    ·cases this
  ·rintro ⟨h1, h2⟩
   refine ⟨h1, fun e he hb => ?_⟩
   rcases h2 e (by simpa using he) with h | ⟨h, h'⟩
   ·rw [hb] at h; cases h
   ·rw [if_pos (by simpa using h)]; exact h'
theorem freeB_spec {ops : Array Oper} {m i : Nat} {oi : Oper} (h : freeB ops m i oi = true) (j : Nat) (oj : Oper)
  (hj : ops[j]? = some oj) (hne : j ≠ i) (hun : (arrOf ops.size m).getD j true = false) (hno : ∀ e ∈ oj.after, Region.binds .any e = true → e.on ≠ i) :
  oi.apart ops oj = true := by
 have hlt : j < ops.size := (Array.getElem?_eq_some_iff.1 hj).1
 have h1 := allLt_spec h j hlt
 rw [arrOf_getD, if_pos hlt] at hun
 simp only [hj, Bool.or_eq_true, hun, Bool.false_eq_true, or_false] at h1
 rcases h1 with h1 | h1 | h1
 ·exact absurd (Nat.eq_of_beq_eq_true h1) hne
 ·rw [List.any_eq_true] at h1
  obtain ⟨e, he, hb⟩ := h1
  simp only [Bool.and_eq_true] at hb
  exact absurd (Nat.eq_of_beq_eq_true hb.2) (hno e (by simpa using he) hb.1)
 ·exact h1
def mainStep (C : Ctx) (ops : Array Oper) (o : Ent) (K : Ent → World → Prop) (i : Nat) (p : Plan) (m : Nat) (pd : Pend) (cur : Ent) (w : World) : Prop :=
 onV ops[i]? fun op => guardD ops op.guard cur o
  (fun cur' => effD C.P C.env cur' o op.op op.type w fun v w' => keeps (pendMain op pd) w' (putD C.n op.dst v o cur' fun cur'' => drawP C ops o K p true (Nat.lor m (Nat.shiftLeft 1 i)) (pendMain op pd) cur'' w'))
  (fun cur' => keeps (pendMain op pd) w (putD C.n op.dst undef o cur' fun cur'' => drawP C ops o K p true (Nat.lor m (Nat.shiftLeft 1 i)) (pendMain op pd) cur'' w))
theorem Wd_true {P : Program} {ops : Array Oper} {Q : Exit → Act → World → Prop} {f : Nat} {done : Array Bool} {l : List Nat} {pd : Pend} {a : Act} {w : World}
  (h : Wd P ops Q f done pd a w) : Wd P ops Q f done ((l, fun _ => True) :: pd) a w := by
 suffices H : ∀ (f : Nat) (done : Array Bool) (pd pd' : Pend) (a : Act) (w : World), (∀ p ∈ pd', p ∈ pd ∨ ∀ w, p.2 w) → Wd P ops Q f done pd a w → Wd P ops Q f done pd' a w by
  refine H f done pd _ a w (fun p hp => ?_) h
  rcases List.mem_cons.1 hp with rfl | hp
  ·exact .inr fun _ => trivial
  ·exact .inl hp
 clear h
 intro f
 induction f with
 | zero => exact fun done pd pd' a w _ h => h
 | succ f ih =>
  intro done pd pd' a w hs h
  refine ⟨h.1, fun j hj oj hoj => wpOp_mono (fun a' w' h' => ?_) (h.2 j hj oj hoj)⟩
  have hsub : ∀ p ∈ pendMain oj pd', p ∈ pendMain oj pd ∨ ∀ w, p.2 w := fun p hp => by
   obtain ⟨h1, h2⟩ := pendMain_mem.1 hp
   rcases hs p h1 with h3 | h3
   ·exact .inl (pendMain_mem.2 ⟨h3, h2⟩)
   ·exact .inr h3
  exact ⟨fun p hp => (hsub p hp).elim (h'.1 p) (fun h => h w'), ih _ _ _ a' w' hsub h'.2⟩
theorem drawP_mn {C : Ctx} {ops : Array Oper} {o : Ent} {K : Ent → World → Prop} {i : Nat} {p r : Plan} {head : Bool} {m : Nat} {pd : Pend} {cur : Ent} {w : World} (h : drawP C ops o K (.mn i p r) head m pd cur w) :
  (!head || (readyB ops m i && covered ops m (.mn i p r))) = true ∧ mainStep C ops o K i p m pd cur w ∧ (r ≠ .no → drawP C ops o K r false m pd cur w) := by
 have hc : (!head || (readyB ops m i && covered ops m (.mn i p r))) = true := by
  cases hc : (!head || (readyB ops m i && covered ops m (.mn i p r))) with
  | true => rfl
  | false => cases r <;> simp only [drawP, hc] at h <;> exact h.elim
 refine ⟨hc, ?_⟩
 cases r <;> simp only [drawP, hc, cond_true] at h
 case no => exact ⟨h, fun h' => absurd rfl h'⟩
 all_goals exact ⟨h.1, fun _ => by simpa only [drawP] using h.2⟩
theorem drawP_sound {C : Ctx} (henv : EnvOk C.P C.env) {ops : Array Oper} (hns : Region.noSelect ops = true) {o : Ent} {K : Ent → World → Prop} {Q : Exit → Act → World → Prop} (hQ : ∀ cur a w, View C.n cur o a → K cur w → Q .normal a w)
  (hQp : ∀ c a w, ¬ Q (.panic c) a w) :
  ∀ (p : Plan) (head : Bool) (m : Nat) (pd : Pend) (cur : Ent) (a : Act) (w : World) (f : Nat), p.depth ≤ f → View C.n cur o a → (∀ q ∈ pd, q.2 w) → drawP C ops o K p head m pd cur w →
   (head = true → Wd C.P ops Q f (arrOf ops.size m) pd a w) ∧
   (∀ j, inChain p j = true → ∀ f', f = f' + 1 → ∀ oj, ops[j]? = some oj → wpOp C.P ops Q j (fun a' w' => (∀ q ∈ pendMain oj pd, q.2 w') ∧ Wd C.P ops Q f' (arrOf ops.size (Nat.lor m (Nat.shiftLeft 1 j))) (pendMain oj pd) a' w') a w) := by
 intro p
 induction p with
 | fin =>
  intro head m pd cur a w f hd hv hp h
  refine ⟨fun _ => ?_, fun j hj => by cases hj⟩
  simp only [drawP] at h
  cases hc : covered ops m .no with
  | false => rw [hc] at h; exact h.elim
  | true =>
   rw [hc] at h
   have h0 : Region.ready .any ops (arrOf ops.size m) = [] := by
    cases hr : Region.ready .any ops (arrOf ops.size m) with
    | nil => rfl
    | cons j r =>
     have hj : j ∈ Region.ready .any ops (arrOf ops.size m) := by rw [hr]; simp
     have hrd := readyB_mem.1 hj
     have hlt : j < ops.size := by
      unfold readyB at hrd
      cases ho : ops[j]? with
      | none => rw [ho] at hrd; cases hrd
      | some _ => exact (Array.getElem?_eq_some_iff.1 ho).1
     have := allLt_spec hc j hlt
     simp [inChain, hrd] at this
   cases f with
   | zero => exact ⟨h0, hQ cur a w hv h⟩
   | succ f => exact ⟨fun _ => hQ cur a w hv h, fun j hj => by rw [h0] at hj; cases hj⟩
 | no => intro head m pd cur a w f hd hv hp h; exact ⟨fun hh => by subst hh; exact h.elim, fun j hj => by cases hj⟩
 | fl i p ih =>
  intro head m pd cur a w f hd hv hp h
  refine ⟨fun _ => ?_, fun j hj => by cases hj⟩
  simp only [Plan.depth] at hd
  obtain ⟨f, rfl⟩ : ∃ g, f = g + 1 := ⟨f - 1, by omega⟩
  simp only [drawP] at h
  obtain ⟨op, hio, h⟩ := onV_spec h
  cases hc : (readyB ops m i && freeB ops m i op) with
  | false => rw [hc] at h; exact h.elim
  | true =>
   rw [hc] at h
   simp only [cond_true] at h
   simp only [Bool.and_eq_true] at hc
   have hir := readyB_mem.2 hc.1
   have hfr := freeB_spec hc.2
   have goOn : ∀ (pd' : Pend) (cur'' : Ent) (a' : Act), View C.n cur'' o a' → (∀ q ∈ pd', q.2 w) → drawP C ops o K p true (Nat.lor m (Nat.shiftLeft 1 i)) pd' cur'' w →
     Wd C.P ops Q f ((arrOf ops.size m).setIfInBounds i true) pd' a' w := fun pd' cur'' a' hv' hp' h' => by
    rw [arrOf_set]
    exact (ih true _ pd' cur'' a' w f (by omega) hv' hp' h').1 rfl
   ·rcases guardD_spec hv h with ⟨cur', hv', hw, h1⟩ | ⟨cur', hv', hw, h1⟩
    ·obtain ⟨v, Cv, h2, hr⟩ := floatD_spec hv' op h1
     obtain ⟨cur'', h3, h4⟩ := putD_spec h2
     cases Cv with
     | some Cl =>
      obtain ⟨hC, hr⟩ := hr
      refine Wd_first (Cl := Cl) hio (Region.noSelect_spec hns) (fun c a w hq => absurd hq (hQp _ _ _)) f _ pd a w hfr hir (.inl ⟨hw, hr⟩) hC hp ?_
      refine goOn _ cur'' _ (h4 a hv') ?_ h3
      intro p hpm
      rcases List.mem_cons.1 hpm with rfl | hpm
      ·exact hC
      ·obtain ⟨l, h5, _⟩ := pendFloat_cls hpm
       exact hp (l, p.2) h5
     | none =>
      refine Wd_first (Cl := fun _ => True) hio (Region.noSelect_spec hns) (fun c a w hq => absurd hq (hQp _ _ _)) f _ pd a w hfr hir (.inl ⟨hw, fun w' _ => hr w'⟩) trivial hp ?_
      exact Wd_true (goOn _ cur'' _ (h4 a hv') (fun p hpm => by
       obtain ⟨l, h5, _⟩ := pendFloat_cls hpm
       exact hp (l, p.2) h5) h3)
    ·obtain ⟨cur'', h3, h4⟩ := putD_spec h1
     refine Wd_first (Cl := fun _ => True) (v := undef) hio (Region.noSelect_spec hns) (fun c a w hq => absurd hq (hQp _ _ _)) f _ pd a w hfr hir (.inr ⟨hw, rfl⟩) trivial hp ?_
     exact Wd_true (goOn _ cur'' _ (h4 a hv') (fun p hpm => by
      obtain ⟨l, h5, _⟩ := pendFloat_cls hpm
      exact hp (l, p.2) h5) h3)
 | mn i p r ihp ihr =>
  intro head m pd cur a w f hd hv hp h
  have hd1 : p.depth + 1 ≤ f ∧ r.depth ≤ f := by
   simp only [Plan.depth] at hd
   cases hb : Nat.ble (p.depth + 1) r.depth with
   | true => rw [hb] at hd; have := Nat.le_of_ble_eq_true hb; simp only [cond_true] at hd; omega
   | false =>
    rw [hb] at hd
    have : ¬ (p.depth + 1 ≤ r.depth) := fun h => by rw [Nat.ble_eq_true_of_le h] at hb; cases hb
    simp only [cond_false] at hd
    omega
  obtain ⟨hc, two⟩ := drawP_mn h
  ·skip
   have second : ∀ j, inChain (.mn i p r) j = true → ∀ f', f = f' + 1 → ∀ oj, ops[j]? = some oj → wpOp C.P ops Q j (fun a' w' => (∀ q ∈ pendMain oj pd, q.2 w') ∧ Wd C.P ops Q f' (arrOf ops.size (Nat.lor m (Nat.shiftLeft 1 j))) (pendMain oj pd) a' w') a w := by
    intro j hj f' hf oj hoj
    simp only [inChain, Bool.or_eq_true] at hj
    by_cases hji : i = j
    ·subst hji
     obtain ⟨op, hop, h2⟩ := onV_spec two.1
     rw [hoj] at hop; cases hop
     unfold wpOp
     simp only [hoj]
     have goOn : ∀ (cur'' : Ent) (a' : Act) (w' : World), View C.n cur'' o a' → (∀ q ∈ pendMain oj pd, q.2 w') → drawP C ops o K p true (Nat.lor m (Nat.shiftLeft 1 i)) (pendMain oj pd) cur'' w' →
       Wd C.P ops Q f' (arrOf ops.size (Nat.lor m (Nat.shiftLeft 1 i))) (pendMain oj pd) a' w' := fun cur'' a' w' hv' hp' h' =>
      (ihp true _ _ cur'' a' w' f' (by omega) hv' hp' h').1 rfl
     rcases guardD_spec hv h2 with ⟨cur', hv', hw, h3⟩ | ⟨cur', hv', hw, h3⟩
     ·rw [if_pos hw]
      refine .inl (eff_sound henv hv' oj h3 fun v w' h4 => ?_)
      obtain ⟨h5, h6⟩ := keeps_spec h4
      obtain ⟨cur'', h7, h8⟩ := putD_spec h6
      exact ⟨h5, goOn cur'' _ w' (h8 a hv') h5 h7⟩
     ·rw [if_neg (by rw [hw]; simp)]
      obtain ⟨h5, h6⟩ := keeps_spec h3
      obtain ⟨cur'', h7, h8⟩ := putD_spec h6
      exact ⟨h5, goOn cur'' _ w (h8 a hv') h5 h7⟩
    ·have hjr : inChain r j = true := hj.resolve_left fun h => hji (Nat.eq_of_beq_eq_true h)
     have hrn : r ≠ .no := by rintro rfl; cases hjr
     exact (ihr false m pd cur a w f hd1.2 hv hp (two.2 hrn)).2 j hjr f' hf oj hoj
   refine ⟨fun hh => ?_, second⟩
   subst hh
   simp only [Bool.not_true, Bool.false_or, Bool.and_eq_true] at hc
   obtain ⟨f, rfl⟩ : ∃ g, f = g + 1 := ⟨f - 1, by omega⟩
   refine ⟨fun h0 => ?_, fun j hj oj hoj => ?_⟩
   ·have := readyB_mem.2 hc.1
    rw [h0] at this
    cases this
   ·have hrd := readyB_mem.1 hj
    have hlt : j < ops.size := (Array.getElem?_eq_some_iff.1 hoj).1
    have := allLt_spec hc.2 j hlt
    simp only [hrd, Bool.not_true, Bool.or_false] at this
    rw [arrOf_set]
    exact second j this f rfl oj hoj
theorem freshO_spec {n : Nat} {o : Ent} {l : List Oper} (h : freshO n o l = true) : ∀ op ∈ l, ∀ d, op.dst = some d → d < n ∧ look o d = none := by
 induction l with
 | nil => intro op hm; cases hm
 | cons op r ih =>
  intro op' hm d hd
  simp only [freshO, Bool.and_eq_true] at h
  rcases List.mem_cons.1 hm with he | hm
  ·subst he
   have h1 := h.1
   rw [hd] at h1
   simp only [Bool.and_eq_true] at h1
   refine ⟨by simpa using h1.1, ?_⟩
   cases hl : look o d with
   | none => rfl
   | some v => rw [hl] at h1; simp at h1
  ·exact ih h.2 op' hm d hd
theorem View.putE {n : Nat} {cur o : Ent} {a : Act} (h : View n cur o a) {dst : Option Nat} (hd : ∀ d, dst = some d → d < n ∧ look o d = none) (v : Value) : View n (Den.putE dst v cur) o (a.put dst v) := by
 cases dst with
 | none => exact h
 | some d =>
  obtain ⟨h1, h2⟩ := hd d rfl
  have hp : putD n (some d) v o cur fun c => c = (d, v) :: cur := by
   simp only [putD]
   rw [show Nat.blt d n = true by simpa using h1, h2]; trivial
  obtain ⟨c, rfl, hc⟩ := putD_spec hp
  exact hc a h
theorem View.outerOf {n : Nat} {o : Ent} {a : Act} (hs : a.tmps.size = n) (hdf : a.defers = []) (h : ∀ t v, look o t = some v → a.tmps.getD t undef = v) : View n [] o a := ⟨hs, fun _ _ h => (by cases h), h, hdf⟩
def undone (m : Nat) : Nat → Nat
 | 0 => 0
 | n + 1 => undone m n + cond (Nat.testBit m n) 0 1
theorem undone_same {m m' : Nat} : ∀ {n}, (∀ j, j < n → Nat.testBit m' j = Nat.testBit m j) → undone m' n = undone m n
 | 0, _ => rfl
 | n + 1, h => by simp only [undone]; rw [undone_same fun j hj => h j (by omega), h n (by omega)]
theorem undone_set {m i : Nat} (hi : Nat.testBit m i = false) : ∀ {n}, i < n → undone (Nat.lor m (Nat.shiftLeft 1 i)) n + 1 = undone m n
 | n + 1, h => by
  simp only [undone]
  by_cases he : i = n
  ·subst he
   rw [undone_same (m := m) fun j hj => by rw [testBit_lor_shift]; simp; omega, testBit_lor_shift, hi]
   simp
  ·have := undone_set hi (n := n) (by omega)
   rw [testBit_lor_shift]
   simp only [he, decide_false, Bool.or_false]
   omega
theorem undone_zero {m : Nat} : ∀ {n}, undone m n = 0 → ∀ j, j < n → Nat.testBit m j = true
 | n + 1, h, j, hj => by
  simp only [undone] at h
  cases ht : Nat.testBit m n with
  | false => rw [ht] at h; simp at h
  | true =>
   by_cases he : j = n
   ·subst he; exact ht
   ·rw [ht] at h
    exact undone_zero (n := n) (by simpa using h) j (by omega)
theorem undone_full : ∀ n, undone 0 n = n
 | 0 => rfl
 | n + 1 => by simp [undone, undone_full n]
theorem ready_some {ops : Array Oper} (hd : depsLtB ops = true) {m : Nat} : ∀ j, j < ops.size → Nat.testBit m j = false → ∃ i, readyB ops m i = true := by
 intro j
 induction j using Nat.strongRecOn with
 | ind j ih =>
  intro hj ht
  have hdj := allLt_spec hd j hj
  obtain ⟨op, hop⟩ : ∃ op, ops[j]? = some op := ⟨ops[j], Array.getElem?_eq_getElem hj⟩
  rw [hop] at hdj
  cases hr : readyB ops m j with
  | true => exact ⟨j, hr⟩
  | false =>
   unfold readyB at hr
   rw [hop] at hr
   simp only [ht, Bool.not_false, Bool.true_and, depsMet] at hr
   rw [List.all_eq_false] at hr
   obtain ⟨e, he, hr⟩ := hr
   have hlt := List.all_eq_true.1 hdj e he
   simp only [Bool.or_eq_true, Bool.and_eq_true, not_or, not_and, Bool.not_eq_true] at hr
   have hb : (!Region.binds .any e) = false := by
    cases hb : (!Region.binds .any e) with
    | false => rfl
    | true => rw [hb] at hr; simp at hr
   rw [hb] at hr hlt
   have hlt' : e.on < j := by simpa using hlt
   have : Nat.testBit m e.on = false := by
    cases htb : Nat.testBit m e.on with
    | false => rfl
    | true =>
     have : Nat.blt e.on ops.size = true := by simp; omega
     rw [this, htb] at hr; simp at hr
   exact ih e.on hlt' (by omega) this
theorem orderD_sound {C : Ctx} (henv : EnvOk C.P C.env) {ops : Array Oper} {i0 o : Ent} {K : Ent → World → Prop} {Q : Exit → Act → World → Prop} (hQ : ∀ cur a w, View C.n cur o a → K cur w → Q .normal a w)
  (hf : freshO C.n o ops.toList = true) (hf' : freshO C.n i0 ops.toList = true) (hd : depsLtB ops = true) :
  ∀ (k m : Nat) (cur : Ent) (a : Act) (w : World), undone m ops.size = k → View C.n cur i0 a → (∀ t v, look o t = some v → a.tmps.getD t undef = v) → orderD C ops i0 K k m cur w → wpAny C.P .any ops Q k (arrOf ops.size m) a w
 | 0, m, cur, a, w, hu, hv, ho, h => by
  refine ⟨?_, hQ cur a w ⟨hv.size, hv.cur, ho, hv.dfr⟩ h⟩
  rw [List.eq_nil_iff_forall_not_mem]
  intro j hj
  have hr := readyB_mem.1 hj
  unfold readyB at hr
  cases hop : ops[j]? with
  | none => rw [hop] at hr; cases hr
  | some op =>
   have hlt : j < ops.size := (Array.getElem?_eq_some_iff.1 hop).1
   rw [hop] at hr
   rw [undone_zero hu j hlt] at hr
   simp at hr
 | k + 1, m, cur, a, w, hu, hv, ho, h => by
  refine ⟨fun h0 => ?_, fun i hi => ?_⟩
  ·exfalso
   have : ∃ j, j < ops.size ∧ Nat.testBit m j = false := by
    apply Classical.byContradiction
    intro hn
    have hall : ∀ j, j < ops.size → Nat.testBit m j = true := fun j hj => by
     cases ht : Nat.testBit m j with
     | true => rfl
     | false => exact absurd ⟨j, hj, ht⟩ hn
    have : undone m ops.size = 0 := by
     clear hu h hv h0 hn
     generalize ops.size = n at hall
     induction n with
     | zero => rfl
     | succ n ih => simp only [undone]; rw [ih fun j hj => hall j (by omega), hall n (by omega)]; rfl
    omega
   obtain ⟨j, hj, ht⟩ := this
   obtain ⟨i, hi⟩ := ready_some hd j hj ht
   have := readyB_mem.2 hi
   rw [h0] at this
   cases this
  ·have hr := readyB_mem.1 hi
   have hrr := hr
   unfold readyB at hrr
   cases hop : ops[i]? with
   | none => rw [hop] at hrr; cases hrr
   | some op =>
    rw [hop] at hrr
    have hlt : i < ops.size := (Array.getElem?_eq_some_iff.1 hop).1
    have ht : Nat.testBit m i = false := by
     simp only [Bool.and_eq_true] at hrr
     simpa using hrr.1
    have hu' : undone (Nat.lor m (Nat.shiftLeft 1 i)) ops.size = k := by have := undone_set ht hlt; omega
    have hmem : op ∈ ops.toList := by
     have := Array.mem_of_getElem? hop
     simpa using this
    have hd1 := freshO_spec hf op hmem
    have hd2 := freshO_spec hf' op hmem
    unfold wpOp
    rw [hop, arrOf_set]
    have next : ∀ (cur' : Ent) (v : Value) (w' : World), View C.n cur' i0 a → orderD C ops i0 K k (Nat.lor m (Nat.shiftLeft 1 i)) (putE op.dst v cur') w' →
      wpAny C.P .any ops Q k (arrOf ops.size (Nat.lor m (Nat.shiftLeft 1 i))) (a.put op.dst v) w' := fun cur' v w' hv' h' =>
     orderD_sound henv hQ hf hf' hd k _ _ _ w' hu' (hv'.putE hd2 v) (((View.outerOf hv.size hv.dfr ho).putE hd1 v).o) h'
    rcases guardD_spec hv (h i op hop hr) with ⟨cur', hv', hw, h1⟩ | ⟨cur', hv', hw, h1⟩
    ·simp only [hw, if_true]
     exact .inl (op_sound henv hv' op h1 fun v w' h2 => next cur' v w' hv' h2)
    ·simp only [hw]
     exact next cur' undef w hv' h1
def noSel : Code → Bool
 | .region _ ops _ => Region.noSelect ops
 | .seq x y => noSel x && noSel y
 | .cond _ x y => noSel x && noSel y
 | .block _ c => noSel c
 | .loop c => noSel c
 | _ => true
theorem D_sound {C : Ctx} (hm : C.P.follows .mixedOrders = true) (henv : EnvOk C.P C.env) : ∀ (c : Code) (ann : Ann) (o : Ent) (Q : Exit → Ent → World → Prop) (cur : Ent) (w : World) (a : Act) (Q' : Exit → Act → World → Prop),
  noSel c = true → D C c ann o Q cur w → View C.n cur o a → (∀ e cur' a' w', View C.n cur' o a' → Q e cur' w' → Q' e a' w') → (∀ ch a w, ¬ Q' (.panic ch) a w) → c.wp C.P Q' a w := by
 intro c
 induction c with
 | skip => intro ann o Q cur w a Q' _ h hv hQ _; exact wp_skip (hQ _ _ _ _ hv h)
 | region id ops draw =>
  intro ann o Q cur w a Q' hs h hv hQ hp
  simp only [D] at h
  cases draw with
  | false => exact wp_region_list (regD_sound henv (fun cur a w hv h => hQ _ _ _ _ hv h) _ _ _ _ hv h)
  | true =>
   cases ann <;> try (exact h.elim)
   case o ins =>
    simp only [cond_true] at h
    cases hb : (freshO C.n o ops.toList && freshO C.n (pickE ins cur o) ops.toList && depsLtB ops) with
    | false => rw [hb] at h; exact h.elim
    | true =>
     rw [hb] at h
     simp only [Bool.and_eq_true] at hb
     have hpick : ∀ (l : List Nat) t v, look (pickE l cur o) t = some v → a.tmps.getD t undef = v := by
      intro l
      induction l with
      | nil => intro t v ht; cases ht
      | cons s r ih =>
       intro t v ht
       simp only [pickE] at ht
       cases hr : rdT cur o s with
       | none => rw [hr] at ht; exact ih t v ht
       | some u =>
        rw [hr] at ht
        simp only [look] at ht
        cases hbq : Nat.beq s t with
        | false => rw [hbq] at ht; exact ih t v ht
        | true =>
         rw [hbq] at ht
         have : s = t := Nat.eq_of_beq_eq_true hbq
         subst this
         cases ht
         exact rdT_view hv hr
     refine wp_region_any hm ?_
     rw [arrOf_zero]
     exact orderD_sound henv (fun cur a w hv h => hQ _ _ _ _ hv h) hb.1.1 hb.1.2 hb.2 ops.size 0 [] _ _ (undone_full _) ⟨hv.size, fun _ _ h => (by cases h), hpick ins, hv.dfr⟩ hv.o h.out
   rename_i p
   simp only [cond_true] at h
   cases hb : Nat.ble p.depth ops.size with
   | false => rw [hb] at h; exact h.elim
   | true =>
    rw [hb] at h
    refine wp_region_any hm ?_
    rw [arrOf_zero]
    exact Wd_any _ _ [] _ _ ((drawP_sound henv hs (fun cur a w hv h => hQ _ _ _ _ hv h) hp p true 0 [] cur a _ _ (Nat.le_of_ble_eq_true hb) hv (fun p hp => by cases hp) h).1 rfl)
 | seq x y ihx ihy =>
  intro ann o Q cur w a Q' hs h hv hQ hp
  simp only [noSel, Bool.and_eq_true] at hs
  have plain : ∀ ax ay, D C x ax o (thenD (D C y ay o Q) Q) cur w → (Code.seq x y).wp C.P Q' a w := fun ax ay h => by
   refine wp_seq (ihx ax o _ cur w a _ hs.1 h hv ?_ ?_)
   ·intro e cur' a' w' hv' h'
    cases e with
    | normal => exact ihy ay o Q cur' w' a' Q' hs.2 h' hv' hQ hp
    | exit i => exact hQ _ _ _ _ hv' h'
    | goto l => exact hQ _ _ _ _ hv' h'
    | ret => exact hQ _ _ _ _ hv' h'
    | panic ch => exact hQ _ _ _ _ hv' h'
    | outgrown => exact hQ _ _ _ _ hv' h'
   ·exact fun ch a w h => hp ch a w h
  cases ann with
  | n => exact plain _ _ h
  | s ax ay => exact plain _ _ h
  | j live drop ax ay =>
   simp only [D] at h
   have hag : ∀ t v, look o t = some v → View C.n cur o a → True := fun _ _ _ _ => trivial
   have h1 := h (fun t w => ∀ a, View C.n (encL live t ++ dropE cur drop) o a → y.wp C.P Q' a w) (fun t w ht a' hv' => ihy ay o Q _ w a' Q' hs.2 ht hv' hQ hp)
   have hvx : View C.n (keepE cur drop) (dropE cur drop ++ o) a := ⟨hv.size, fun t v ht => hv.cur t v (look_keepE drop t cur v ht).2, hv.outer drop, hv.dfr⟩
   have back : ∀ cur' a', View C.n cur' (dropE cur drop ++ o) a' → View C.n (cur' ++ dropE cur drop) o a' := fun cur' a' hv' => by
    refine ⟨hv'.size, ?_, ?_, hv'.dfr⟩
    ·intro t v ht
     rw [look_append] at ht
     cases hl : look cur' t with
     | some u => rw [hl] at ht; simp at ht; subst ht; exact hv'.cur t _ hl
     | none => rw [hl] at ht; simp only at ht; exact hv'.o t v (by rw [look_append, ht])
    ·intro t v ht
     cases hl : look (dropE cur drop) t with
     | none => exact hv'.o t v (by rw [look_append, hl]; exact ht)
     | some u =>
      have h2 := hv'.o t u (by rw [look_append, hl])
      rw [look_dropE] at hl
      cases hmm : mem drop t with
      | true => rw [hmm] at hl; cases hl
      | false =>
       rw [hmm] at hl
       have e1 := hv.cur t u hl
       have e2 := hv.o t v ht
       rw [h2, ← e1, e2]
   refine wp_seq (ihx ax _ _ (keepE cur drop) w a _ hs.1 h1 hvx ?_ ?_)
   ·intro e cur' a' w' hv' h'
    cases e with
    | normal =>
     obtain ⟨t, hK, ht⟩ := decL_spec hv' h'
     refine hK a' ⟨hv'.size, ?_, (back cur' a' hv').o, hv'.dfr⟩
     intro i v hi
     rw [look_append] at hi
     cases hl : look (encL live t) i with
     | some u => rw [hl] at hi; simp at hi; subst hi; exact ht i _ hl
     | none => rw [hl] at hi; simp only at hi; exact hv'.o i v (by rw [look_append, hi])
    | exit i => exact hQ _ _ _ _ (back _ _ hv') h'
    | goto l => exact hQ _ _ _ _ (back _ _ hv') h'
    | ret => exact hQ _ _ _ _ (back _ _ hv') h'
    | panic ch => exact hQ _ _ _ _ (back _ _ hv') h'
    | outgrown => exact hQ _ _ _ _ (back _ _ hv') h'
   ·exact fun ch a w h => hp ch a w h
  | c _ _ => exact h.elim
  | b _ => exact h.elim
  | l _ _ _ => exact h.elim
  | r _ => exact h.elim
  | o _ => exact h.elim
 | cond c x y ihx ihy =>
  intro ann o Q cur w a Q' hs h hv hQ hp
  simp only [noSel, Bool.and_eq_true] at hs
  have plain : ∀ ax ay, onV (rd cur o c) (fun v => condD v (D C x ax o Q cur w) (D C y ay o Q cur w)) → (Code.cond c x y).wp C.P Q' a w := fun ax ay h => by
   obtain ⟨v, hx, h1⟩ := onV_spec h
   cases v <;> try (exact h1.elim)
   rename_i t
   refine wp_cond (t := t) (hv.rd hx) ?_
   cases t with
   | true => exact ihx ax o Q cur w a Q' hs.1 h1 hv hQ hp
   | false => exact ihy ay o Q cur w a Q' hs.2 h1 hv hQ hp
  cases ann with
  | n => exact plain _ _ h
  | c ax ay => exact plain _ _ h
  | s _ _ => exact h.elim
  | b _ => exact h.elim
  | l _ _ _ => exact h.elim
  | j _ _ _ _ => exact h.elim
  | r _ => exact h.elim
  | o _ => exact h.elim
 | block id c ih =>
  intro ann o Q cur w a Q' hs h hv hQ hp
  have plain : ∀ ax, D C c ax o (blockD id Q) cur w → (Code.block id c).wp C.P Q' a w := fun ax h => by
   refine wp_block (ih ax o _ cur w a _ hs h hv ?_ ?_)
   ·intro e cur' a' w' hv' h'
    cases e with
    | exit i =>
     simp only [blockD] at h'
     simp only [Exit.inBlock]
     cases hb : Nat.beq i id with
     | true => rw [hb] at h'; rw [if_pos (Nat.eq_of_beq_eq_true hb)]; exact hQ _ _ _ _ hv' h'
     | false => rw [hb] at h'; rw [if_neg (Nat.ne_of_beq_eq_false hb)]; exact hQ _ _ _ _ hv' h'
    | normal => exact hQ _ _ _ _ hv' h'
    | goto l => exact hQ _ _ _ _ hv' h'
    | ret => exact hQ _ _ _ _ hv' h'
    | panic ch => exact hQ _ _ _ _ hv' h'
    | outgrown => exact hQ _ _ _ _ hv' h'
   ·exact fun ch a w h => hp ch a w h
  cases ann with
  | n => exact plain _ h
  | b ax => exact plain _ h
  | s _ _ => exact h.elim
  | c _ _ => exact h.elim
  | l _ _ _ => exact h.elim
  | j _ _ _ _ => exact h.elim
  | r _ => exact h.elim
  | o _ => exact h.elim
 | loop c ih =>
  intro ann o Q cur w a Q' hs h hv hQ hp
  cases ann with
  | l live drop ax =>
   simp only [D] at h
   have hbase : ∀ a', View C.n [] (dropE cur drop ++ o) a' → ∀ t v, look o t = some v → a'.tmps.getD t undef = v := fun a' hv' t v ht => by
    cases hl : look (dropE cur drop) t with
    | none => exact hv'.o t v (by rw [look_append, hl]; exact ht)
    | some u =>
     have h2 := hv'.o t u (by rw [look_append, hl])
     rw [look_dropE] at hl
     cases hmm : mem drop t with
     | true => rw [hmm] at hl; cases hl
     | false =>
      rw [hmm] at hl
      have e1 := hv.cur t u hl
      have e2 := hv.o t v ht
      rw [h2, ← e1, e2]
   have back : ∀ cur' a', View C.n cur' (dropE cur drop ++ o) a' → View C.n (cur' ++ dropE cur drop) o a' := fun cur' a' hv' => by
    refine ⟨hv'.size, ?_, hbase a' ⟨hv'.size, (fun t v ht => by cases ht), hv'.o, hv'.dfr⟩, hv'.dfr⟩
    intro t v ht
    rw [look_append] at ht
    cases hl : look cur' t with
    | some u => rw [hl] at ht; simp at ht; subst ht; exact hv'.cur t _ hl
    | none => rw [hl] at ht; simp only at ht; exact hv'.o t v (by rw [look_append, ht])
   let X : KTs (kindsOf live) → World → Prop := fun t w => ∀ a, View C.n (encL live t) (dropE cur drop ++ o) a →
    ∀ (b : Frame) (k : List Item) (cs : List Frame), ∃ e a' w', Q' e a' w' ∧ Arrives C.P (lone (b.at a (.code c :: .inLoop c :: k)) cs w) b k cs e a' w'
   have key := h X (fun t w ht a₀ hv₀ b k cs => by
    have hwp := ih ax _ _ (encL live t) w a₀ (Exit.then (fun a' w' => ∃ t' , View C.n (encL live t') (dropE cur drop ++ o) a' ∧ X t' w') Q') hs ht hv₀ (by
     intro e cur' a' w' hv' h'
     cases e with
     | normal =>
      obtain ⟨t', hK, ht'⟩ := decL_spec hv' h'
      exact ⟨t', ⟨hv'.size, ht', hv'.o, hv'.dfr⟩, hK⟩
     | exit i => exact hQ _ _ _ _ (back _ _ hv') h'
     | goto l => exact hQ _ _ _ _ (back _ _ hv') h'
     | ret => exact hQ _ _ _ _ (back _ _ hv') h'
     | panic ch => exact hQ _ _ _ _ (back _ _ hv') h'
     | outgrown => exact hQ _ _ _ _ (back _ _ hv') h') (fun ch a w h => hp ch a w h)
    obtain ⟨e, a₁, w₁, hq, harr⟩ := hwp b (.inLoop c :: k) cs
    cases e with
    | normal =>
     obtain ⟨t', hv₁, hX⟩ := hq
     obtain ⟨e₂, a₂, w₂, hq₂, harr₂⟩ := hX a₁ hv₁ b k cs
     exact ⟨e₂, a₂, w₂, hq₂, .of_steps (Steps.trans harr (.one step_inLoop)) harr₂⟩
    | exit id => exact ⟨_, a₁, w₁, hq, .pass (x := .inLoop c) rfl (fun _ _ => .inl (by simp)) harr⟩
    | goto l => exact ⟨_, a₁, w₁, hq, .pass (x := .inLoop c) rfl (fun _ _ => .inl (by simp)) harr⟩
    | ret => exact ⟨_, a₁, w₁, hq, .pass (x := .inLoop c) rfl (fun _ _ => .inl (by simp)) harr⟩
    | panic ch => exact ⟨_, a₁, w₁, hq, .pass (x := .inLoop c) rfl (fun _ _ => .inl (by simp)) harr⟩
    | outgrown => exact ⟨_, a₁, w₁, hq, .pass (x := .inLoop c) rfl (fun _ _ => .inl (by simp)) harr⟩)
   obtain ⟨t, hX, ht⟩ := decL_spec hv key
   intro b k cs
   obtain ⟨e, a', w', hq, harr⟩ := hX a ⟨hv.size, ht, hv.outer drop, hv.dfr⟩ b k cs
   exact ⟨e, a', w', hq, .of_steps (.one step_loop) harr⟩
  | n => exact h.elim
  | s _ _ => exact h.elim
  | c _ _ => exact h.elim
  | b _ => exact h.elim
  | j _ _ _ _ => exact h.elim
  | r _ => exact h.elim
  | o _ => exact h.elim
 | exit id => intro ann o Q cur w a Q' _ h hv hQ _; exact wp_exit (hQ _ _ _ _ hv h)
 | ret => intro ann o Q cur w a Q' _ h hv hQ _; exact wp_ret (hQ _ _ _ _ hv h)
 | rangeFunc _ _ _ _ => intro ann o Q cur w a Q' _ h; exact h.elim
 | scope _ => intro ann o Q cur w a Q' _ h; exact h.elim
 | label _ => intro ann o Q cur w a Q' _ h; exact h.elim
 | goto _ => intro ann o Q cur w a Q' _ h; exact h.elim
 | refuse _ => intro ann o Q cur w a Q' _ h; exact h.elim
def resOne (tmps : Array Value) : ResultVar → Sem Value
 | .tmp t => pure (tmps.getD t undef)
 | .cell a t => do loadVar t (← asAddr (tmps.getD a undef))
theorem results_eq (fn : Func) (tmps : Array Value) : results fn tmps = (do
 let vs ← fn.results.mapM (resOne tmps)
 pure (if h : vs.size = 1 then vs[0] else .tuple vs)) := rfl
theorem resD_spec {P : Program} {n : Nat} {cur : Ent} {a : Act} (hv : View n cur [] a) : ∀ {rs : List ResultVar} {w : World} {K : List Value → Prop}, resD P cur rs w K →
  ∃ vs, K vs ∧ (rs.mapM (resOne a.tmps)).run P w = .ok vs w
 | [], w, K, h => ⟨[], h, by simp⟩
 | .tmp t :: r, w, K, h => by
  obtain ⟨v, hr, h1⟩ := onV_spec h
  obtain ⟨vs, hK, hvs⟩ := resD_spec hv (K := fun vs => K (v :: vs)) h1
  exact ⟨v :: vs, hK, by simp only [List.mapM_cons, resOne, Sem.run_bind, Sem.run_pure, Result.andThen_ok, rdT_view hv hr, hvs]⟩
 | .cell c t :: r, w, K, h => by
  obtain ⟨v, hr, h1⟩ := onV_spec h
  cases v <;> try (exact h1.elim)
  obtain ⟨ad, rfl, h2⟩ := onSome_spec h1
  obtain ⟨v, Cl, h3, hC, hl⟩ := loadD_spec h2
  obtain ⟨vs, hK, hvs⟩ := resD_spec hv (K := fun vs => K (v :: vs)) h3
  have ha : ∀ w, (asAddr (a.tmps.getD c undef)).run P w = .ok ad w := fun w => by rw [rdT_view hv hr]; rfl
  exact ⟨v :: vs, hK, by simp only [List.mapM_cons, resOne, Sem.run_bind, Sem.run_pure, Result.andThen_ok, ha, hl w hC, hvs]⟩
theorem results_of {P : Program} {n : Nat} {cur : Ent} {a : Act} {fn : Func} (hv : View n cur [] a) {w : World} {K : List Value → Prop} (h : resD P cur fn.results.toList w K) :
  ∃ vs, K vs ∧ (results fn a.tmps).run P w = .ok (oneOr vs) w := by
 obtain ⟨vs, hK, hr⟩ := resD_spec hv h
 refine ⟨vs, hK, ?_⟩
 rw [results_eq, Sem.run_bind]
 have e : fn.results.mapM (resOne a.tmps) = List.toArray <$> fn.results.toList.mapM (resOne a.tmps) := by
  rw [← List.mapM_toArray]
 rw [e]
 simp only [Sem.run_map, hr, Result.andThen_ok, Sem.run_pure]
 match vs with
 | [] => simp [oneOr]
 | [v] => simp [oneOr]
 | v :: u :: r => simp [oneOr]
def initE : Nat → List Value → Ent
 | _, [] => []
 | i, v :: r => (i, v) :: initE (i + 1) r
theorem look_initE : ∀ (vs : List Value) (i t : Nat) (v : Value), look (initE i vs) t = some v → i ≤ t ∧ vs[t - i]? = some v
 | [], _, _, _, h => by cases h
 | u :: r, i, t, v, h => by
  simp only [initE, look] at h
  cases hb : Nat.beq i t with
  | true =>
   rw [hb] at h
   have : i = t := Nat.eq_of_beq_eq_true hb
   subst this
   cases h
   simp
  | false =>
   rw [hb] at h
   obtain ⟨h1, h2⟩ := look_initE r (i + 1) t v h
   have e : t - i = (t - (i + 1)) + 1 := by omega
   refine ⟨by omega, ?_⟩
   rw [e]
   simpa using h2
theorem CK.dec_intro {k : CK} {x : k.T} {K : k.T → Prop} (h : K x) : k.dec (k.enc x) K := by
 cases k
 case int k => cases k <;> exact h
 all_goals first
  | exact h
  | (simp only [CK.enc]; cases x <;> exact h)
theorem decs_intro : ∀ {l : List CK} {t : CTs l} {K : CTs l → Prop}, K t → decs l (encs l t) K
 | [], _, _, h => h
 | _ :: r, t, K, h => CK.dec_intro (x := t.1) (K := fun x => decs r (encs r t.2) fun t => K (x, t)) (decs_intro (l := r) (t := t.2) h)
theorem Knd.dec_intro {k : Knd} {x : k.T} {K : k.T → Prop} (h : K x) : k.dec (k.enc x) K := by
 cases k with
 | c k => exact CK.dec_intro (k := k) h
 | agg l => exact decs_intro (l := l) h
theorem decK_intro : ∀ {ks : List Knd} {t : KTs ks} {K : KTs ks → Prop}, K t → decK ks (encK ks t) K
 | [], _, _, h => h
 | _ :: r, t, K, h => Knd.dec_intro (x := t.1) (K := fun x => decK r (encK r t.2) fun t => K (x, t)) (decK_intro (ks := r) (t := t.2) h)
theorem sound_of {P : Program} {g : FuncId} {fn : Func} (hf : P.funcs[g]? = some fn) (hb' : fn.body.isSome = true) (hm : P.follows .mixedOrders = true) (hs : noSel (fn.body.getD .skip) = true) (ann : Ann) (env : Env) (henv : EnvOk P env) (ks : List Knd)
  (hk : Nat.ble ks.length fn.ntmps = true) (F : KTs ks → World → (Value → World → Prop) → Prop)
  (hF : ∀ t w K, F t w K = D ⟨P, fn.ntmps, env⟩ (fn.body.getD .skip) ann [] (postD P fn.results.toList K) (initE 0 (encK ks t)) w) :
  Sound P g fun args w K => decK ks args fun t => F t w K := by
 intro args w K h
 obtain ⟨c, hb⟩ := Option.isSome_iff_exists.1 hb'
 have hc : fn.body.getD .skip = c := by rw [hb]; rfl
 obtain ⟨t, rfl, h1⟩ := decK_spec h
 rw [hF, hc] at h1
 rw [hc] at hs
 have hlen : ∀ (ks : List Knd) (t : KTs ks), (encK ks t).length = ks.length := by
  intro ks
  induction ks with
  | nil => intro t; rfl
  | cons k r ih => intro t; simp [encK, ih]
 have hle : ks.length ≤ fn.ntmps := Nat.le_of_ble_eq_true hk
 refine calls_of_wp hf hb ?_
 refine D_sound (C := ⟨P, fn.ntmps, env⟩) hm henv c ann [] _ _ w _ _ hs h1 ?_ ?_ ?_
 ·refine ⟨?_, ?_, (fun t v ht => by cases ht), rfl⟩
  ·simp [hlen]; omega
  ·intro i v hi
   obtain ⟨_, h2⟩ := look_initE _ _ _ _ hi
   simp only [Nat.sub_zero] at h2
   have hi' : i < (encK ks t).length := (List.getElem?_eq_some_iff.1 h2).1
   simp only [Array.getD_eq_getD_getElem?]
   rw [Array.getElem?_append_left (by simpa using hi')]
   simp [h2]
 ·intro e cur' a' w' hv' hq
  cases e with
  | normal =>
   obtain ⟨vs, hK, hr⟩ := results_of hv' hq
   exact ⟨hv'.dfr, _, hr, _, rfl, hK⟩
  | ret =>
   obtain ⟨vs, hK, hr⟩ := results_of hv' hq
   exact ⟨hv'.dfr, _, hr, _, rfl, hK⟩
  | exit i => exact hq.elim
  | goto l => exact hq.elim
  | panic ch => exact hq.elim
  | outgrown => exact hq.elim
 ·rintro ch a w ⟨_, v, hv, _⟩
  cases hv
end Go.Den

namespace Go.Den
open Go
structure Mod (F : Nat → Prop) (w w' : World) : Prop where
 os : w'.os = w.os
 tape : w'.tape = w.tape
 output : w'.output = w.output
 size : w.heap.size ≤ w'.heap.size
 block : ∀ k, k < w.heap.size → ¬ F k → w'.heap[k]? = w.heap[k]?
abbrev Keep (w w' : World) : Prop := Mod (fun _ => False) w w'
theorem Mod.refl (F : Nat → Prop) (w : World) : Mod F w w := ⟨rfl, rfl, rfl, Nat.le_refl _, fun _ _ _ => rfl⟩
theorem Mod.mono {F G : Nat → Prop} {w w' : World} (h : Mod F w w') (hs : ∀ k, k < w.heap.size → F k → G k) : Mod G w w' :=
 ⟨h.os, h.tape, h.output, h.size, fun k hk hn => h.block k hk fun hf => hn (hs k hk hf)⟩
theorem Mod.trans {F G : Nat → Prop} {a b c : World} (h : Mod F a b) (h' : Mod G b c) (hs : ∀ k, k < a.heap.size → G k → F k) : Mod F a c :=
 ⟨h'.os.trans h.os, h'.tape.trans h.tape, h'.output.trans h.output, Nat.le_trans h.size h'.size,
  fun k hk hn => (h'.block k (Nat.lt_of_lt_of_le hk h.size) fun hg => hn (hs k hk hg)).trans (h.block k hk hn)⟩
theorem Mod.tr {F : Nat → Prop} {a b c : World} (h : Mod F a b) (h' : Mod F b c) : Mod F a c := h.trans h' fun _ _ h => h
theorem Keep.mod {F : Nat → Prop} {w w' : World} (h : Keep w w') : Mod F w w' := h.mono fun _ _ h => h.elim
theorem Mod.wk {F : Nat → Prop} {w w' : World} (h : Mod (fun _ => False) w w') : Mod F w w' := h.mono fun _ _ h => h.elim
theorem Mod.drew {F : Nat → Prop} {a w : World} (h : Mod F a w) : Mod F a w.drew := ⟨h.os, h.tape, h.output, h.size, h.block⟩
theorem Keep.alloc (w : World) (o : Obj) : Keep w (w.alloc o) := ⟨rfl, rfl, rfl, by simp, fun k hk _ => RowKit.Below.heap_alloc w o k hk⟩
theorem Mod.alloc {F : Nat → Prop} {a w : World} (h : Mod F a w) (o : Obj) : Mod F a (w.alloc o) := h.trans (Keep.alloc w o) fun _ _ h => h.elim
theorem Mod.setRow (w : World) (g : Nat) (cs : Array Value) : Mod (fun k => k = g) w (w.setRow g cs) := ⟨rfl, rfl, rfl, by simp, fun k _ hk => setRow_other w g k cs hk⟩
theorem Mod.fresh {F G : Nat → Prop} {a w w' : World} (h : Mod F a w) (h' : Mod G w w') (hs : ∀ k, G k → a.heap.size ≤ k) : Mod F a w' :=
 h.trans h' fun k hk hg => absurd (hs k hg) (by omega)
theorem Mod.below {w w' : World} {B : Nat} (h : Mod (fun k => B ≤ k) w w') (hB : B ≤ w.heap.size) : RowKit.Below B w w' :=
 ⟨h.os, h.tape, h.output, h.size, fun k hk => h.block k (by omega) (by omega)⟩
theorem Keep.below {w w' : World} (h : Keep w w') : RowKit.Below w.heap.size w w' := ⟨h.os, h.tape, h.output, h.size, fun k hk => h.block k hk id⟩
theorem cell_lt {w : World} {a : Addr} {v : Value} (h : w.cell? a = some v) : a.block < w.heap.size := World.block_lt_of_cell? w a h
theorem Mod.cell {F : Nat → Prop} {w w' : World} (h : Mod F w w') {a : Addr} {v : Value} (hc : w.cell? a = some v) (hn : ¬ F a.block) : w'.cell? a = some v :=
 (World.cell?_of_block (h.block _ (cell_lt hc) hn)).trans hc
theorem add_add (a : Addr) (m n : Nat) : (a.add m).add n = a.add (m + n) := by
 unfold Addr.add
 by_cases hm : m = 0 <;> by_cases hn : n = 0 <;> simp [hm, hn, Nat.add_assoc]
@[simp] theorem add_block (a : Addr) (n : Nat) : (a.add n).block = a.block := by unfold Addr.add; split <;> rfl
theorem add_zero (a : Addr) : a.add 0 = a := by simp [Addr.add]
theorem holds_keep {w w' : World} {a : Addr} (hb : w'.heap[a.block]? = w.heap[a.block]?) : ∀ {vs : List Value} {i : Nat}, HoldsAt w a i vs → HoldsAt w' a i vs
 | [], _, _ => trivial
 | _ :: _, _, h => ⟨(World.cell?_of_block (w := w) (by simpa using hb)).trans h.1, holds_keep hb h.2⟩
theorem holds_iff {w : World} {a : Addr} : ∀ {vs : List Value} {i : Nat}, HoldsAt w a i vs ↔ ∀ j v, vs[j]? = some v → w.cell? (a.add (i + j)) = some v
 | [], i => by simp [HoldsAt]
 | v :: r, i => by
  simp only [HoldsAt]
  rw [holds_iff (vs := r) (i := i + 1)]
  constructor
  ·rintro ⟨h1, h2⟩ j u hu
   cases j with
   | zero => simp only [List.getElem?_cons_zero, Option.some.injEq] at hu; subst hu; exact h1
   | succ j => simp only [List.getElem?_cons_succ] at hu; have := h2 j u hu; rwa [show i + 1 + j = i + (j + 1) by omega] at this
  ·intro h
   exact ⟨h 0 v rfl, fun j u hu => by have := h (j + 1) u hu; rwa [show i + (j + 1) = i + 1 + j by omega] at this⟩
structure Rd {α : Type} (w : World) (s : Sl) (n : Nat) (enc : α → List Value) (xs : List α) : Prop where
 len : s.l = xs.length
 cap : s.l ≤ s.c
 get : ∀ i x, xs[i]? = some x → ∃ a, s.b = some a ∧ HoldsAt w (a.add (i * n)) 0 (enc x)
theorem Rd.nil {α : Type} (w : World) (n : Nat) (enc : α → List Value) : Rd w ⟨none, 0, 0⟩ n enc [] := ⟨rfl, Nat.le_refl _, fun i x h => by simp at h⟩
theorem Rd.keep {α : Type} {w w' : World} {s : Sl} {n : Nat} {enc : α → List Value} {xs : List α} (h : Rd w s n enc xs) (hb : ∀ a, s.b = some a → w'.heap[a.block]? = w.heap[a.block]?) : Rd w' s n enc xs :=
 ⟨h.len, h.cap, fun i x hx => by obtain ⟨a, ha, hh⟩ := h.get i x hx; exact ⟨a, ha, holds_keep (by simpa using hb a ha) hh⟩⟩
theorem Rd.mod {α : Type} {F : Nat → Prop} {w w' : World} {s : Sl} {n : Nat} {enc : α → List Value} {xs : List α} (h : Rd w s n enc xs) (hm : Mod F w w') (hne : ∀ x, enc x ≠ [])
  (hF : ∀ a, s.b = some a → ¬ F a.block) : Rd w' s n enc xs :=
 ⟨h.len, h.cap, fun i x hx => by
  obtain ⟨a, ha, hh⟩ := h.get i x hx
  have hlt : a.block < w.heap.size := by
   cases he : enc x with
   | nil => exact absurd he (hne x)
   | cons v r => rw [he] at hh; have := cell_lt hh.1; simpa using this
  exact ⟨a, ha, holds_keep (by simpa using hm.block _ hlt (hF a ha)) hh⟩⟩
theorem Rd.part {α : Type} {w : World} {s : Sl} {n : Nat} {enc : α → List Value} {xs : List α} (h : Rd w s n enc xs) {i j c : Nat} (hij : i ≤ j) (hj : j ≤ s.l) (hc : j ≤ c) (_ : c ≤ s.c) :
  Rd w ⟨sliceAddr s.b s.c i n, j - i, c - i⟩ n enc ((xs.drop i).take (j - i)) := by
 refine ⟨?_, ?_, fun k x hk => ?_⟩
 ·have := h.len; simp only [List.length_take, List.length_drop]; omega
 ·show j - i ≤ c - i; omega
 ·have hlt : k < j - i := by
   have := (List.getElem?_eq_some_iff.1 hk).1; simp at this; omega
  rw [List.getElem?_take_of_lt hlt, List.getElem?_drop] at hk
  obtain ⟨a, ha, hh⟩ := h.get (i + k) x hk
  refine ⟨a.add (i * n), ?_, ?_⟩
  ·show sliceAddr s.b s.c i n = _
   have : s.c ≠ i := by have := h.cap; omega
   simp [sliceAddr, this, ha]
  ·rw [add_add, ← Nat.add_mul]; exact hh
theorem cond_i {b : Bool} {A B : Prop} (h1 : b = true → A) (h2 : b = false → B) : cond b A B := by cases b <;> simp_all
theorem cond_d {p : Prop} [Decidable p] {A B : Prop} (h1 : p → A) (h2 : ¬ p → B) : cond (decide p) A B := by by_cases h : p <;> simp_all
theorem onSome_i {p : Option Addr} {K : Addr → Prop} {a : Addr} (h : p = some a) (hK : K a) : onSome p K := by subst h; exact hK
theorem ld1_i {k : CK} {w : World} {a : Addr} {K : k.T → Prop} (x : k.T) (h : w.cell? a = some (k.enc x)) (hK : K x) : ld1 k w a K := ⟨x, h, hK⟩
theorem ldN_i {l : List CK} {w : World} {a : Addr} {K : CTs l → Prop} (x : CTs l) (h : HoldsAt w a 0 (encs l x)) (hK : K x) : ldN l w a K := ⟨x, h, hK⟩
theorem loop_i {S : Type} {body : (S → World → Prop) → S → World → Prop} (I : Nat → S → World → Prop) (n : Nat) {t : S} {w : World} (h0 : I n t w)
  (step : ∀ n t w, I n t w → ∀ X : S → World → Prop, (∀ m t' w', m < n → I m t' w' → X t' w') → body X t w) :
  ∀ X : S → World → Prop, (∀ t w, body X t w → X t w) → X t w := by
 intro X hX
 induction n using Nat.strongRecOn generalizing t w with
 | ind n ih => exact hX t w (step n t w h0 X fun m t' w' hm h => ih m hm h)
theorem w64 {n : Int} (h0 : -9223372036854775808 ≤ n) (h1 : n ≤ 9223372036854775807) : IntKind.wrap .i64 n = n := by rw [IntKind.wrap_i64]; omega
theorem holds_alloc (w : World) (cs : Array Value) (t : TypeId) : HoldsAt (w.alloc (.cells cs t)) ⟨w.heap.size, 0, none⟩ 0 cs.toList := by
 rw [holds_iff]
 intro j v hv
 have : (⟨w.heap.size, 0, none⟩ : Addr).add (0 + j) = ⟨w.heap.size, j, none⟩ := by unfold Addr.add; split <;> simp_all
 rw [this, cell_of_row _ _ _ cs t (0, 0) (heap_alloc_new w _)]
 simpa using hv
theorem w64n (n : Nat) (h : n ≤ 9223372036854775807) : IntKind.wrap .i64 (n : Int) = (n : Int) := w64 (by omega) (by omega)
theorem addr_lit (g o n : Nat) : (⟨g, o, none⟩ : Addr).add n = ⟨g, o + n, none⟩ := by unfold Addr.add; split <;> simp_all
def Own (w : World) (g : Nat) (e : TypeId) (cs : List Value) : Prop := w.heap[g]? = some (.cells cs.toArray e (0, 0))
theorem Own.lt {w : World} {g : Nat} {e : TypeId} {cs : List Value} (h : Own w g e cs) : g < w.heap.size := (Array.getElem?_eq_some_iff.1 h).1
theorem Own.mod {F : Nat → Prop} {w w' : World} {g : Nat} {e : TypeId} {cs : List Value} (h : Own w g e cs) (hm : Mod F w w') (hF : ¬ F g) : Own w' g e cs := (hm.block g h.lt hF).trans h
theorem Own.cell {w : World} {g : Nat} {e : TypeId} {cs : List Value} (h : Own w g e cs) (j : Nat) : w.cell? ⟨g, j, none⟩ = cs[j]? := by
 rw [cell_of_row w g j _ e (0, 0) h]; simp
theorem Own.holds {w : World} {g : Nat} {e : TypeId} {cs : List Value} (h : Own w g e cs) {o : Nat} {vs : List Value} (hv : ∀ j v, vs[j]? = some v → cs[o + j]? = some v) : HoldsAt w ⟨g, o, none⟩ 0 vs := by
 rw [holds_iff]
 intro j v hj
 rw [addr_lit, Nat.zero_add, h.cell]
 exact hv j v hj
theorem Own.alloc (w : World) (cs : List Value) (e : TypeId) : Own (w.alloc (.cells cs.toArray e)) w.heap.size e cs := heap_alloc_new w _
theorem Own.alloc' (w : World) (cs : Array Value) (e : TypeId) : Own (w.alloc (.cells cs e)) w.heap.size e cs.toList := heap_alloc_new w _
theorem Own.setRow {w : World} {g : Nat} {e : TypeId} {cs : List Value} (h : Own w g e cs) (ds : List Value) : Own (w.setRow g ds.toArray) g e ds := setRow_heap w g _ _ e _ h
theorem storeD_i {P : Program} {t : TypeId} {g o : Nat} {v : Value} {w : World} {K : World → Prop} {e : TypeId} {cs : List Value} (h : Own w g e cs)
  (hi : (P.info? t).map (·.size) = some v.cells.size) (hfit : o + v.cells.size ≤ cs.length) (h1 : ∀ u ∈ v.cells.toList, u.oneCell' = true)
  (hK : ∀ w', Own w' g e (cs.take o ++ v.cells.toList ++ cs.drop (o + v.cells.size)) → Mod (fun k => k = g) w w' → w'.heap.size = w.heap.size → K w') : storeD P t ⟨g, o, none⟩ v w K := by
 have hst := run_storeCells_at P g o e v.cells.toList 0 cs.toArray w h (by simpa using hfit) h1
 cases hq : P.info? t with
 | none => simp [hq] at hi
 | some i =>
  have hs : v.cells.size = i.size := by simp [hq] at hi; omega
  refine ⟨_, ?_, hK _ (h.setRow _) (Mod.setRow w g _) (by simp)⟩
  simp [storeVar, sizeOf, typeInfo, hq, hs, hst]
theorem set_eq_splice {α : Type} (l : List α) (o : Nat) (v : α) (h : o < l.length) : l.take o ++ [v] ++ l.drop (o + 1) = l.set o v := by
 rw [List.set_eq_take_append_cons_drop, if_pos h]; simp
theorem storeD1_i {P : Program} {t : TypeId} {g o : Nat} {v : Value} {w : World} {K : World → Prop} {e : TypeId} {cs : List Value} (h : Own w g e cs)
  (hi : (P.info? t).map (·.size) = some 1) (hfit : o < cs.length) (hc : v.cells = #[v]) (h1 : v.oneCell' = true)
  (hK : ∀ w', Own w' g e (cs.set o v) → Mod (fun k => k = g) w w' → w'.heap.size = w.heap.size → K w') : storeD P t ⟨g, o, none⟩ v w K := by
 refine storeD_i h (by rw [hi, hc]; rfl) (by rw [hc]; exact hfit) (by rw [hc]; simpa using h1) fun w' h2 h3 h4 => hK w' ?_ h3 h4
 rw [hc] at h2
 simpa [set_eq_splice _ _ _ hfit, ← List.append_assoc] using h2
structure Vec {α : Type} (w : World) (e : TypeId) (n : Nat) (enc : α → List Value) (s : Sl) (xs : List α) : Prop where
 len : s.l = xs.length
 cap : s.l ≤ s.c
 max : s.c ≤ maxLen
 own : (s.b = none ∧ s.c = 0) ∨ ∃ g rest, s.b = some ⟨g, 0, none⟩ ∧ Own w g e (xs.flatMap enc ++ rest) ∧ (xs.flatMap enc ++ rest).length = s.c * n
theorem length_flatMap_enc {α : Type} {enc : α → List Value} {n : Nat} (henc : ∀ x, (enc x).length = n) : ∀ xs : List α, (xs.flatMap enc).length = xs.length * n
 | [] => by simp
 | x :: r => by simp only [List.flatMap_cons, List.length_append, henc, List.length_cons, length_flatMap_enc henc r]; rw [Nat.add_mul]; omega
theorem get_flatMap_enc {α : Type} {enc : α → List Value} {n : Nat} (henc : ∀ x, (enc x).length = n) : ∀ (xs : List α) (i : Nat) (x : α) (j : Nat) (v : Value) (rest : List Value), xs[i]? = some x → (enc x)[j]? = some v → (xs.flatMap enc ++ rest)[i * n + j]? = some v
 | [], i, x, j, v, rest, h, _ => by simp at h
 | y :: r, 0, x, j, v, rest, h, hv => by
  simp at h; subst h
  have : j < (enc y).length := (List.getElem?_eq_some_iff.1 hv).1
  simp only [List.flatMap_cons, Nat.zero_mul, Nat.zero_add, List.append_assoc]
  rw [List.getElem?_append_left this]; exact hv
 | y :: r, i + 1, x, j, v, rest, h, hv => by
  simp only [List.getElem?_cons_succ] at h
  simp only [List.flatMap_cons, List.append_assoc]
  rw [List.getElem?_append_right (by rw [henc, Nat.add_mul]; omega), henc, show (i + 1) * n + j - n = i * n + j by rw [Nat.add_mul]; omega]
  exact get_flatMap_enc henc r i x j v rest h hv
theorem Vec.nil {α : Type} (w : World) (e : TypeId) (n : Nat) (enc : α → List Value) : Vec w e n enc ⟨none, 0, 0⟩ [] := ⟨rfl, Nat.le_refl _, Nat.zero_le _, .inl ⟨rfl, rfl⟩⟩
theorem Vec.rd {α : Type} {w : World} {e : TypeId} {n : Nat} {enc : α → List Value} {s : Sl} {xs : List α} (h : Vec w e n enc s xs) (henc : ∀ x, (enc x).length = n) : Rd w s n enc xs := by
 refine ⟨h.len, h.cap, fun i x hx => ?_⟩
 have hlt : i < xs.length := (List.getElem?_eq_some_iff.1 hx).1
 rcases h.own with ⟨_, h2⟩ | ⟨g, rest, hb, ho, hl⟩
 ·have := h.len; have := h.cap; omega
 ·refine ⟨_, hb, ?_⟩
  rw [addr_lit]
  exact ho.holds fun j v hv => by rw [Nat.zero_add]; exact get_flatMap_enc henc xs i x j v rest hx hv
theorem Vec.mod {α : Type} {F : Nat → Prop} {w w' : World} {e : TypeId} {n : Nat} {enc : α → List Value} {s : Sl} {xs : List α} (h : Vec w e n enc s xs) (hm : Mod F w w') (hF : ∀ a, s.b = some a → ¬ F a.block) : Vec w' e n enc s xs :=
 ⟨h.len, h.cap, h.max, h.own.imp id fun ⟨g, rest, hb, ho, hl⟩ => ⟨g, rest, hb, ho.mod hm (hF _ hb), hl⟩⟩
theorem Vec.lt {α : Type} {w : World} {e : TypeId} {n : Nat} {enc : α → List Value} {s : Sl} {xs : List α} (h : Vec w e n enc s xs) {a : Addr} (ha : s.b = some a) : a.block < w.heap.size := by
 rcases h.own with ⟨h1, _⟩ | ⟨g, rest, hb, ho, hl⟩
 ·rw [h1] at ha; cases ha
 ·rw [hb] at ha; cases ha; exact ho.lt
theorem Vec.lit {α : Type} (w : World) (e : TypeId) {n : Nat} (enc : α → List Value) (henc : ∀ x, (enc x).length = n) (xs : List α) (cs : Array Value) (hc : cs.toList = xs.flatMap enc) (hm : xs.length ≤ maxLen) :
  Vec (w.alloc (.cells cs e)) e n enc ⟨some ⟨w.heap.size, 0, none⟩, xs.length, xs.length⟩ xs :=
 ⟨rfl, Nat.le_refl _, hm, .inr ⟨_, [], rfl, by rw [List.append_nil, ← hc]; exact Own.alloc' w cs e, by rw [List.append_nil]; exact length_flatMap_enc henc xs⟩⟩
theorem Vec.take {α : Type} {w : World} {e : TypeId} {n : Nat} {enc : α → List Value} {s : Sl} {xs : List α} (h : Vec w e n enc s xs) {i : Nat} (hi : i ≤ s.l) : Vec w e n enc ⟨s.b, i, s.c⟩ (xs.take i) := by
 refine ⟨by have := h.len; simp only [List.length_take]; omega, Nat.le_trans hi h.cap, h.max, h.own.imp id fun ⟨g, rest, hb, ho, hl⟩ => ⟨g, (xs.drop i).flatMap enc ++ rest, hb, ?_, ?_⟩⟩
 all_goals rw [← List.append_assoc, ← List.flatMap_append, List.take_append_drop]; assumption
theorem flatMap_set {α : Type} {enc : α → List Value} {n : Nat} (henc : ∀ x, (enc x).length = n) (rest : List Value) (x : α) : ∀ (xs : List α) (i : Nat), i < xs.length →
  (xs.flatMap enc ++ rest).take (i * n) ++ enc x ++ (xs.flatMap enc ++ rest).drop (i * n + n) = (xs.set i x).flatMap enc ++ rest
 | y :: r, 0, _ => by
  have : (enc y).length = n := henc y
  simp only [Nat.zero_mul, List.take_zero, List.nil_append, List.set_cons_zero, List.flatMap_cons, List.append_assoc, Nat.zero_add]
  rw [← this, List.drop_left]
 | y :: r, i + 1, h => by
  have hl : (enc y).length = n := henc y
  have ih := flatMap_set henc rest x r i (by simpa using h)
  simp only [List.set_cons_succ, List.flatMap_cons, List.append_assoc] at ih ⊢
  rw [← ih, show (i + 1) * n = (enc y).length + i * n by rw [Nat.add_mul, hl]; omega, List.take_length_add_append, show (enc y).length + i * n + n = (enc y).length + (i * n + n) by omega, List.drop_length_add_append, List.append_assoc]
theorem Vec.store {α : Type} {P : Program} {t : TypeId} {w : World} {e : TypeId} {n : Nat} {enc : α → List Value} {s : Sl} {xs : List α} (h : Vec w e n enc s xs) (henc : ∀ x, (enc x).length = n) {a : Addr} (ha : s.b = some a)
  {i : Nat} (hi : i < xs.length) (x : α) {v : Value} (hv : v.cells.toList = enc x) (ht : (P.info? t).map (·.size) = some n) (hone : ∀ u ∈ enc x, u.oneCell' = true) {K : World → Prop}
  (hK : ∀ w', Vec w' e n enc s (xs.set i x) → Mod (fun k => k = a.block) w w' → w'.heap.size = w.heap.size → K w') : storeD P t (a.add (i * n)) v w K := by
 rcases h.own with ⟨h1, _⟩ | ⟨g, rest, hb, ho, hl⟩
 ·rw [h1] at ha; cases ha
 ·rw [hb] at ha; cases ha
  rw [addr_lit, Nat.zero_add]
  have hvs : v.cells.size = n := by rw [← henc x, ← hv, Array.length_toList]
  have hfl := length_flatMap_enc henc xs
  have hin : i * n + n ≤ xs.length * n := by have := Nat.mul_le_mul_right n (show i + 1 ≤ xs.length from hi); rwa [Nat.add_mul, Nat.one_mul] at this
  refine storeD_i ho (by rw [ht, hvs]) (by rw [hvs, List.length_append, hfl]; omega) (by rw [hv]; exact hone) fun w' h2 h3 h4 => hK w' ⟨by rw [List.length_set]; exact h.len, h.cap, h.max, .inr ⟨g, rest, hb, ?_, ?_⟩⟩ h3 h4
  ·rw [hv, hvs, flatMap_set henc rest x xs i hi] at h2; exact h2
  ·rw [← hl, List.length_append, List.length_append, length_flatMap_enc henc, length_flatMap_enc henc, List.length_set]
structure Elem (P : Program) (t e : TypeId) (n bytes : Nat) (z : List Value) : Prop where
 under : P.underlying t = some (.slice e)
 facts : (P.info? e).map (fun i => (i.zero.map fun v => v.cells.toList, i.size, i.bytes)) = some (some z, n, bytes)
 pos : 0 < n
 zlen : z.length = n
theorem Elem.info {P : Program} {t e : TypeId} {n bytes : Nat} {z : List Value} (h : Elem P t e n bytes z) : ∃ i zv, P.info? e = some i ∧ i.zero = some zv ∧ zv.cells.toList = z ∧ i.size = n ∧ i.bytes = bytes := by
 have hm := h.facts
 cases hi : P.info? e with
 | none => simp [hi] at hm
 | some i =>
  cases hz : i.zero with
  | none => simp [hi, hz] at hm
  | some zv => simp [hi, hz] at hm; exact ⟨i, zv, rfl, hz, hm.1, hm.2.1, hm.2.2⟩
theorem firstCells_rd {α : Type} {w : World} {x : Sl} {n : Nat} {enc : α → List Value} {ys : List α} (hx : Rd w x n enc ys) (henc : ∀ x, (enc x).length = n) {a : Addr} (ha : x.b = some a) :
    ∀ j u, (ys.flatMap enc)[j]? = some u → w.cell? (a.add j) = some u := by
  intro j u hu
  have hlt : j < ys.length * n := by have := (List.getElem?_eq_some_iff.1 hu).1; rwa [length_flatMap_enc henc] at this
  have hn : 0 < n := by rcases Nat.eq_zero_or_pos n with h | h; · subst h; omega
                        · exact h
  have hi : j / n < ys.length := Nat.div_lt_of_lt_mul (by rwa [Nat.mul_comm])
  have hm : j % n < n := Nat.mod_lt _ hn
  obtain ⟨a', ha', hh⟩ := hx.get (j / n) ys[j / n] (List.getElem?_eq_getElem hi)
  rw [ha] at ha'; cases ha'
  have hlt2 : j % n < (enc ys[j / n]).length := by rw [henc]; exact hm
  have h2 := get_flatMap_enc henc ys (j / n) _ (j % n) _ [] (List.getElem?_eq_getElem hi) (List.getElem?_eq_getElem hlt2)
  rw [List.append_nil, Nat.div_add_mod', hu] at h2
  cases h2
  have := (holds_iff.1 hh) (j % n) _ (List.getElem?_eq_getElem hlt2)
  rwa [add_add, Nat.zero_add, Nat.div_add_mod'] at this
theorem append_j {α : Type} {P : Program} {t e : TypeId} {n bytes : Nat} {z : List Value} (hE : Elem P t e n bytes z) {enc : α → List Value} (henc : ∀ x, (enc x).length = n) (hone : ∀ x, ∀ u ∈ enc x, u.oneCell' = true)
  {w : World} {s x : Sl} {xs ys : List α} (hs : Vec w e n enc s xs) (hx : Rd w x n enc ys) (h63 : xs.length + ys.length ≤ 9223372036854775807) (hbytes : (xs.length + ys.length) * bytes ≤ 140737488355328) {K : Sl → World → Prop}
  (hK : ∀ r w', Vec w' e n enc r (xs ++ ys) → Mod (fun k => ∃ a, s.b = some a ∧ k = a.block) w w' → (r.b = s.b ∨ ∃ a, r.b = some a ∧ w.heap.size ≤ a.block) → (r.b = none → s.b = none) → (xs.length + ys.length ≤ s.c → r = ⟨s.b, s.l + x.l, s.c⟩) → K r w') :
  appendD P t t s (.slice x.b x.l x.c) w K := by
 obtain ⟨i, zv, hi, hz, rfl, rfl, rfl⟩ := hE.info
 have ht := hE.under
 obtain ⟨sb, sl, sc⟩ := s
 obtain ⟨xb, xl, xc⟩ := x
 have hsl : sl = xs.length := hs.len
 have hxl : xl = ys.length := hx.len
 have hscap : sl ≤ sc := hs.cap
 by_cases hy : ys = []
 ·subst hy
  have hxl0 : xl = 0 := hxl
  subst hxl0
  refine ⟨⟨sb, sl, sc⟩, w, ?_, hK _ _ (by rw [List.append_nil]; exact hs) (Mod.refl _ _) (.inl rfl) id (fun _ => rfl)⟩
  cases xb <;> cases sb <;> simp [Builtin.append_, run_underlying ht, sizeOf, typeInfo, hi, Builtin.lenOf, Builtin.firstCells, hscap, storeCells, loadCells, loadCellsFrom, Knd.enc, CK.enc]
 have hpos : 0 < ys.length := List.length_pos_iff.2 hy
 obtain ⟨ax, hax, _⟩ := hx.get 0 ys[0] (List.getElem?_eq_getElem hpos)
 have hax' : xb = some ax := hax
 subst hax'
 have hnews := firstCells_rd hx henc (a := ax) rfl
 have hl : (ys.flatMap enc).length = xl * i.size := by rw [length_flatMap_enc henc, hxl]
 have hone' : ∀ u ∈ ys.flatMap enc, u.oneCell' = true := fun u hu => by obtain ⟨y, _, hy⟩ := List.mem_flatMap.1 hu; exact hone y u hy
 have hzs : zv.cells.size = i.size := by have := hE.zlen; simpa using this
 have hm63 : xs.length + ys.length ≤ maxLen := by simp only [maxLen]; omega
 have grown : ∀ old, old < sl + xl → Vec (w.drew.alloc (.cells ((xs.flatMap enc).toArray ++ (ys.flatMap enc).toArray ++ Builtin.zeroCells zv.cells (grownCap w (sl + xl) old e - (sl + xl))) e)) e i.size enc
   ⟨some ⟨w.heap.size, 0, none⟩, sl + xl, grownCap w (sl + xl) old e⟩ (xs ++ ys) := fun old hold => by
  have hge := grownCap_ge w (sl + xl) old e
  have hcm : grownCap w (sl + xl) old e ≤ maxLen := grownCap_le_maxLen w (sl + xl) old e (by omega)
  refine ⟨by simp [hsl, hxl], hge, hcm, .inr ⟨w.heap.size, (Builtin.zeroCells zv.cells (grownCap w (sl + xl) old e - (sl + xl))).toList, rfl, ?_, ?_⟩⟩
  ·have := Own.alloc' w.drew ((xs.flatMap enc).toArray ++ (ys.flatMap enc).toArray ++ Builtin.zeroCells zv.cells (grownCap w (sl + xl) old e - (sl + xl))) e
   simpa [List.append_assoc] using this
  ·simp only [List.length_append, length_flatMap_enc henc, Array.length_toList, size_zeroCells, hzs, ← hsl, ← hxl]
   rw [← Nat.add_mul]
   congr 1
   show sl + xl + (grownCap w (sl + xl) old e - (sl + xl)) = grownCap w (sl + xl) old e
   omega
 rcases hs.own with ⟨hb, hc⟩ | ⟨g, rest, hb, ho, hlen⟩
 ·have hb' : sb = none := hb
  have hc' : sc = 0 := hc
  subst hb'; subst hc'
  have hsl0 : sl = 0 := by omega
  have hxs : xs = [] := List.eq_nil_of_length_eq_zero (by omega)
  subst hxs
  have hr := run_append_nil (P := P) w t 0 e i zv ht hi hz ax xl xc (ys.flatMap enc) hl hnews (by omega) (by omega) (by simp at hbytes; rw [hxl]; omega)
  have hg := grown 0 (by omega)
  subst hsl0
  refine ⟨(⟨some ⟨w.heap.size, 0, none⟩, xl, grownCap w xl 0 e⟩ : Sl), _, hr, ?_⟩
  simp only [Nat.zero_add, List.flatMap_nil] at hg
  have hg' : Vec (w.drew.alloc (.cells ((ys.flatMap enc).toArray ++ Builtin.zeroCells zv.cells (grownCap w xl 0 e - xl)) e)) e i.size enc ⟨some ⟨w.heap.size, 0, none⟩, xl, grownCap w xl 0 e⟩ ([] ++ ys) := by simpa using hg
  exact hK _ _ hg' ((Mod.refl _ w).drew.alloc _) (.inr ⟨_, rfl, Nat.le_refl _⟩) (fun h => by cases h) (fun h => absurd h (by show ¬ (0 + ys.length ≤ 0); omega))
 ·have hb' : sb = some ⟨g, 0, none⟩ := hb
  subst hb'
  by_cases hroom : sl + xl ≤ sc
  ·have htake : ((xs.flatMap enc ++ rest).take (sl * i.size)) = xs.flatMap enc := by
    have : (xs.flatMap enc).length = sl * i.size := by rw [length_flatMap_enc henc, hsl]
    rw [← this]; exact List.take_left
   have hlen' : (xs.flatMap enc ++ rest).length = sc * i.size := hlen
   have hfit : sl * i.size + (ys.flatMap enc).length ≤ (xs.flatMap enc ++ rest).toArray.size := by
    rw [hl, ← Nat.add_mul, List.size_toArray, hlen']; exact Nat.mul_le_mul_right _ hroom
   have hr := run_append_room (P := P) w t 0 e i ht hi g sl sc (xs.flatMap enc ++ rest).toArray ho ax xl xc (ys.flatMap enc) hl hnews hone' hroom hfit
   simp only [htake] at hr
   refine ⟨(⟨some ⟨g, 0, none⟩, sl + xl, sc⟩ : Sl), _, hr, hK ⟨some ⟨g, 0, none⟩, sl + xl, sc⟩ _ ⟨by simp [hsl, hxl], hroom, hs.max, .inr ⟨g, (xs.flatMap enc ++ rest).drop (sl * i.size + (ys.flatMap enc).length), rfl, ?_, ?_⟩⟩ ?_ (.inl rfl) (fun h => by cases h) (fun _ => rfl)⟩
   ·have := Own.setRow ho (xs.flatMap enc ++ ys.flatMap enc ++ (xs.flatMap enc ++ rest).drop (sl * i.size + (ys.flatMap enc).length))
    simpa [List.flatMap_append] using this
   ·simp only [List.size_toArray] at hfit
    rw [List.flatMap_append, List.length_append, List.length_append, List.length_drop, length_flatMap_enc henc xs, ← hsl]
    show _ = sc * i.size
    omega
   ·exact (Mod.setRow w g _).mono fun k _ hk => ⟨_, rfl, hk⟩
  ·have holds : ∀ j u, (xs.flatMap enc)[j]? = some u → w.cell? ((⟨g, 0, none⟩ : Addr).add j) = some u := firstCells_rd (hs.rd henc) henc rfl
   have hr := run_append_grow (P := P) w t 0 e i zv ht hi hz ⟨g, 0, none⟩ sl sc (xs.flatMap enc) (by rw [length_flatMap_enc henc, hsl]) holds ax xl xc (ys.flatMap enc) hl hnews (by omega) (by omega) (growslice_fits (by omega) (by rw [hsl, hxl]; exact hbytes))
   exact ⟨(⟨some ⟨w.heap.size, 0, none⟩, sl + xl, grownCap w (sl + xl) sc e⟩ : Sl), _, hr, hK _ _ (grown sc (by omega)) ((Mod.refl _ w).drew.alloc _) (.inr ⟨_, rfl, Nat.le_refl _⟩) (fun h => by cases h) (fun h => absurd h (by show ¬ (xs.length + ys.length ≤ sc); omega))⟩
theorem append_i {α : Type} {P : Program} {t e : TypeId} {n bytes : Nat} {z : List Value} (hE : Elem P t e n bytes z) {enc : α → List Value} (henc : ∀ x, (enc x).length = n) (hone : ∀ x, ∀ u ∈ enc x, u.oneCell' = true)
  {w : World} {s x : Sl} {xs ys : List α} (hs : Vec w e n enc s xs) (hx : Rd w x n enc ys) (h63 : xs.length + ys.length ≤ 9223372036854775807) (hbytes : (xs.length + ys.length) * bytes ≤ 140737488355328) {K : Sl → World → Prop}
  (hK : ∀ r w', Vec w' e n enc r (xs ++ ys) → Mod (fun k => ∃ a, s.b = some a ∧ k = a.block) w w' → (r.b = s.b ∨ ∃ a, r.b = some a ∧ w.heap.size ≤ a.block) → (r.b = none → s.b = none) → K r w') :
  appendD P t t s (.slice x.b x.l x.c) w K :=
 append_j hE henc hone hs hx h63 hbytes fun r w' h1 h2 h3 h4 _ => hK r w' h1 h2 h3 h4
theorem madeCells_flat {α : Type} (z : Array Value) (enc : α → List Value) (x : α) (hz : enc x = z.toList) (k : Nat) (hp : 0 < z.size) : (madeCells z (k * z.size)).toList = (List.replicate k x).flatMap enc := by
 apply List.ext_getElem?
 intro j
 have hl : ((List.replicate k x).flatMap enc).length = k * z.size := by
  clear hp
  induction k with
  | zero => simp
  | succ k ih => rw [List.replicate_succ, List.flatMap_cons, List.length_append, ih, hz, Array.length_toList, Nat.add_mul]; omega
 by_cases hj : j < k * z.size
 ·have hm : j % z.size < z.size := Nat.mod_lt _ hp
  have h1 : (madeCells z (k * z.size)).toList[j]? = some z[j % z.size] := by
   simp [madeCells, hj, hm]
  rw [h1]
  symm
  have hn : j / z.size < k := Nat.div_lt_of_lt_mul (by rwa [Nat.mul_comm])
  have : ∀ k j, j < k * z.size → ((List.replicate k x).flatMap enc)[j]? = some (z[j % z.size]'(Nat.mod_lt _ hp)) := by
   intro k
   induction k with
   | zero => intro j h; omega
   | succ k ih =>
    intro j h
    rw [List.replicate_succ, List.flatMap_cons, hz]
    by_cases hjz : j < z.size
    ·rw [List.getElem?_append_left (by simpa using hjz)]
     simp [Nat.mod_eq_of_lt hjz, hjz]
    ·rw [List.getElem?_append_right (by simp; omega), Array.length_toList, ih _ (by rw [Nat.add_mul] at h; omega)]
     have : (j - z.size) % z.size = j % z.size := by rw [← Nat.mod_eq_sub_mod (by omega)]
     simp only [this]
  exact this k j hj
 ·rw [List.getElem?_eq_none (by simp [madeCells]; omega), List.getElem?_eq_none (by omega)]
theorem make_i {α : Type} {P : Program} {t e : TypeId} {n bytes : Nat} {z : List Value} (hE : Elem P t e n bytes z) {enc : α → List Value} (x : α) (hx : enc x = z) (henc : ∀ x, (enc x).length = n)
  {w : World} {k k' : IntKind} {l c : Int} (h0 : 0 ≤ l) (hlc : l ≤ c) (hbytes : (bytes : Int) * c ≤ 281474976710656) (h63 : c ≤ 9223372036854775807) {K : Sl → World → Prop}
  (hK : ∀ w', Vec w' e n enc ⟨some ⟨w.heap.size, 0, none⟩, l.toNat, c.toNat⟩ (List.replicate l.toNat x) → Keep w w' → K ⟨some ⟨w.heap.size, 0, none⟩, l.toNat, c.toNat⟩ w') :
  makeSliceD P t (.int k l) (.int k' c) w K := by
 obtain ⟨i, zv, hi, hz, rfl, rfl, rfl⟩ := hE.info
 have hzs : zv.cells.size = i.size := by have := hE.zlen; simpa using this
 refine ⟨⟨some ⟨w.heap.size, 0, none⟩, l.toNat, c.toNat⟩, _, run_make (P := P) w t e i zv hE.under hi hz k k' l c h0 hlc hbytes h63, hK _ ?_ (Keep.alloc w _)⟩
 have hct : l.toNat ≤ c.toNat := by omega
 have heq : (madeCells zv.cells (c.toNat * i.size)).toList = (List.replicate l.toNat x).flatMap enc ++ (List.replicate (c.toNat - l.toNat) x).flatMap enc := by
  rw [← List.flatMap_append, List.replicate_append_replicate, show l.toNat + (c.toNat - l.toNat) = c.toNat by omega, ← hzs]
  exact madeCells_flat zv.cells enc x hx _ (by rw [hzs]; exact hE.pos)
 refine ⟨by simp, hct, by simp only [maxLen]; show c.toNat ≤ _; omega, .inr ⟨w.heap.size, (List.replicate (c.toNat - l.toNat) x).flatMap enc, rfl, ?_, ?_⟩⟩
 ·rw [← heq]; exact Own.alloc' w _ e
 ·rw [← heq, Array.length_toList, size_madeCells]
end Go.Den
