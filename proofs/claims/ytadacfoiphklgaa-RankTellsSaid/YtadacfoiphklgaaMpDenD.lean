/-
  The denotation of code, regions that draw their order among it; sound.
-/
import Derived.Test.YtadacfoiphklgaaMpDenE
namespace Go.Den
open Go

structure Ctx where
  P : Program
  n : Nat
  env : Env

/-- In which order a region is read: operations that may stand anywhere ('fl'); then all that may come next ('mn' .. 'mn' 'no'). -/
inductive Plan where
  | fin
  | no
  | fl (i : Nat) (p : Plan)
  | mn (i : Nat) (p r : Plan)
/-- Marks beside the code: a loop's live slots, and those that it writes; a join's. -/
inductive Ann where
  | n
  | s (a b : Ann)
  | c (a b : Ann)
  | b (a : Ann)
  | l (live : List (Nat × Knd)) (drop : List Nat) (a : Ann)
  | j (live : List (Nat × Knd)) (drop : List Nat) (a b : Ann)
  | r (p : Plan)
  | o (ins : List Nat)

def kindsOf (l : List (Nat × Knd)) : List Knd := l.map (·.2)
def encL : (l : List (Nat × Knd)) → KTs (kindsOf l) → Ent
  | [], _ => []
  | (i, k) :: r, t => (i, k.enc t.1) :: encL r t.2
def decL : (l : List (Nat × Knd)) → Ent → Ent → (KTs (kindsOf l) → Prop) → Prop
  | [], _, _, K => K ()
  | (i, k) :: r, cur, o, K => onV (rdT cur o i) fun v => k.dec v fun x => decL r cur o fun t => K (x, t)
def mem (l : List Nat) (i : Nat) : Bool := match l with
  | [] => false
  | j :: r => cond (Nat.beq j i) true (mem r i)
def dropE : Ent → List Nat → Ent
  | [], _ => []
  | (i, v) :: r, l => cond (mem l i) (dropE r l) ((i, v) :: dropE r l)

def keepE : Ent → List Nat → Ent
  | [], _ => []
  | (i, v) :: r, l => cond (mem l i) ((i, v) :: keepE r l) (keepE r l)

/-- the slot of an operation of the region -/
def slotOf (ops : Array Oper) (j : Nat) : Option Nat := (ops[j]?).bind (·.dst)

/-- Whether a guarded operation runs. -/
def guardD (ops : Array Oper) (g : Option (Nat × Bool)) (cur o : Ent) (yes no : Ent → Prop) : Prop := match g with
  | none => yes cur
  | some (j, want) => onV (slotOf ops j) fun s => onV (rdT cur o s) fun v => match v with
    | .bool t => match look o s with
      | none => cond t (cond want (yes ((s, .bool true) :: cur)) (no ((s, .bool true) :: cur))) (cond want (no ((s, .bool false) :: cur)) (yes ((s, .bool false) :: cur)))
      | some _ => False
    | .tuple _ => no cur
    | _ => False

def regD (C : Ctx) (ops : Array Oper) (o : Ent) (K : Ent → World → Prop) : List Oper → Ent → World → Prop
  | [], cur, w => K cur w
  | op :: r, cur, w => guardD ops op.guard cur o
    (fun cur' => opD C.P C.env cur' o op.op op.type w fun v w' => putD C.n op.dst v o cur' fun cur'' => regD C ops o K r cur'' w')
    (fun cur' => putD C.n op.dst undef o cur' fun cur'' => regD C ops o K r cur'' w)

abbrev Pend := List (List Nat × (World → Prop))
/-- does 'op' wait directly for one of these? -/
def waitsFor (op : Oper) (l : List Nat) : Bool := op.after.toList.any fun e => Region.binds .any e && mem l e.on
def pendMain (op : Oper) : Pend → Pend
  | [] => []
  | (l, C) :: r => cond (waitsFor op l) (pendMain op r) ((l, C) :: pendMain op r)
def pendFloat (i : Nat) (op : Oper) : Pend → Pend
  | [] => []
  | (l, C) :: r => cond (waitsFor op l) ((i :: l, C) :: pendFloat i op r) ((l, C) :: pendFloat i op r)
def keeps : Pend → World → Prop → Prop
  | [], _, G => G
  | (_, C) :: r, w, G => C w ∧ keeps r w G

def isLoad : Op → Bool
  | .load .. => true
  | _ => false
def isFloat (P : Program) (op : Op) : Bool := isPure P op || isLoad op
/-- An operation that may stand anywhere: its value, and what it hangs on. -/
def floatD (P : Program) (cur o : Ent) (op : Op) (w : World) (K : Value → Option (World → Prop) → Prop) : Prop :=
  match op with
  | .load t x => onV (rd cur o x) fun v => match v with
    | .pointer p => onSome p fun a => loadD P t w a fun v C => K v (some C)
    | _ => False
  | op => pureD P cur o op fun v => K v none

def pushP (i : Nat) (C : Option (World → Prop)) (pd : Pend) : Pend := match C with
  | some C => ([i], C) :: pd
  | none => pd

def depsMet (n : Nat) (op : Oper) (m : Nat) : Bool := op.after.toList.all fun e => !Region.binds .any e || (Nat.blt e.on n && Nat.testBit m e.on)
def readyB (ops : Array Oper) (m i : Nat) : Bool := match ops[i]? with
  | some op => !Nat.testBit m i && depsMet ops.size op m
  | none => false
def allLt (f : Nat → Bool) : Nat → Bool
  | 0 => true
  | n + 1 => f n && allLt f n
def freeB (ops : Array Oper) (m i : Nat) (oi : Oper) : Bool := allLt (fun j => Nat.beq j i || Nat.testBit m j || match ops[j]? with
  | some oj => oj.after.toList.any (fun e => Region.binds .any e && Nat.beq e.on i) || oi.apart ops oj
  | none => true) ops.size
def Plan.depth : Plan → Nat
  | .fin => 0
  | .no => 0
  | .fl _ p => p.depth + 1
  | .mn _ p r => cond (Nat.ble (p.depth + 1) r.depth) r.depth (p.depth + 1)
def inChain : Plan → Nat → Bool
  | .mn i _ r, j => Nat.beq i j || inChain r j
  | _, _ => false
def covered (ops : Array Oper) (m : Nat) (p : Plan) : Bool := allLt (fun j => inChain p j || !readyB ops m j) ops.size

def drawP (C : Ctx) (ops : Array Oper) (o : Ent) (K : Ent → World → Prop) : Plan → Bool → Nat → Pend → Ent → World → Prop
  | .fin, _, m, _, cur, w => cond (covered ops m .no) (K cur w) False
  | .no, head, _, _, _, _ => cond head False True
  | .fl i p, _, m, pd, cur, w => onV ops[i]? fun op => cond (readyB ops m i && freeB ops m i op) (guardD ops op.guard cur o
        (fun cur' => floatD C.P cur' o op.op w fun v Cv => putD C.n op.dst v o cur' fun cur'' => drawP C ops o K p true (Nat.lor m (Nat.shiftLeft 1 i)) (pushP i Cv (pendFloat i op pd)) cur'' w)
        (fun cur' => putD C.n op.dst undef o cur' fun cur'' => drawP C ops o K p true (Nat.lor m (Nat.shiftLeft 1 i)) (pendFloat i op pd) cur'' w)) False
  | .mn i p r, head, m, pd, cur, w => cond (!head || (readyB ops m i && covered ops m (.mn i p r))) (match r with
      | .no => onV ops[i]? fun op => guardD ops op.guard cur o
          (fun cur' => effD C.P C.env cur' o op.op op.type w fun v w' => keeps (pendMain op pd) w' (putD C.n op.dst v o cur' fun cur'' => drawP C ops o K p true (Nat.lor m (Nat.shiftLeft 1 i)) (pendMain op pd) cur'' w'))
          (fun cur' => keeps (pendMain op pd) w (putD C.n op.dst undef o cur' fun cur'' => drawP C ops o K p true (Nat.lor m (Nat.shiftLeft 1 i)) (pendMain op pd) cur'' w))
      | r => (onV ops[i]? fun op => guardD ops op.guard cur o
          (fun cur' => effD C.P C.env cur' o op.op op.type w fun v w' => keeps (pendMain op pd) w' (putD C.n op.dst v o cur' fun cur'' => drawP C ops o K p true (Nat.lor m (Nat.shiftLeft 1 i)) (pendMain op pd) cur'' w'))
          (fun cur' => keeps (pendMain op pd) w (putD C.n op.dst undef o cur' fun cur'' => drawP C ops o K p true (Nat.lor m (Nat.shiftLeft 1 i)) (pendMain op pd) cur'' w))) ∧ drawP C ops o K r false m pd cur w) False

/-- What a region reads of the outer slots. -/
def pickE : List Nat → Ent → Ent → Ent
  | [], _, _ => []
  | s :: r, cur, o => match rdT cur o s with
    | some v => (s, v) :: pickE r cur o
    | none => pickE r cur o
def freshO (n : Nat) (o : Ent) : List Oper → Bool
  | [] => true
  | op :: r => (match op.dst with
    | none => true
    | some d => Nat.blt d n && (match look o d with
      | none => true
      | some _ => false)) && freshO n o r
def depsLtB (ops : Array Oper) : Bool := allLt (fun i => match ops[i]? with
  | some op => op.after.toList.all fun e => !Region.binds .any e || Nat.blt e.on i
  | none => true) ops.size
def putE (dst : Option Nat) (v : Value) (cur : Ent) : Ent := match dst with
  | none => cur
  | some d => (d, v) :: cur
/-- Every order: what stands behind each. -/
def orderD (C : Ctx) (ops : Array Oper) (o : Ent) (K : Ent → World → Prop) : Nat → Nat → Ent → World → Prop
  | 0, _, cur, w => K cur w
  | k + 1, m, cur, w => ∀ i op, ops[i]? = some op → readyB ops m i = true → guardD ops op.guard cur o
      (fun cur' => opD C.P C.env cur' o op.op op.type w fun v w' => orderD C ops o K k (Nat.lor m (Nat.shiftLeft 1 i)) (putE op.dst v cur') w')
      (fun cur' => orderD C ops o K k (Nat.lor m (Nat.shiftLeft 1 i)) (putE op.dst undef cur') w)

/-- .. as a thing of its own: nothing looks behind it. -/
structure OrdP (C : Ctx) (ops : Array Oper) (o : Ent) (K : Ent → World → Prop) (w : World) : Prop where
  out : orderD C ops o K ops.size 0 [] w
/-- The region at a place of the code. -/
def opsAt : Code → List Nat → Array Oper
  | .region _ ops _, _ => ops
  | .seq x y, i :: r => cond (Nat.beq i 0) (opsAt x r) (opsAt y r)
  | .cond _ x y, i :: r => cond (Nat.beq i 0) (opsAt x r) (opsAt y r)
  | .block _ c, _ :: r => opsAt c r
  | .loop c, _ :: r => opsAt c r
  | _, _ => #[]

def resD (P : Program) (cur : Ent) : List ResultVar → World → (List Value → Prop) → Prop
  | [], _, K => K []
  | .tmp t :: r, w, K => onV (rdT cur [] t) fun v => resD P cur r w fun vs => K (v :: vs)
  | .cell a t :: r, w, K => onV (rdT cur [] a) fun v => match v with
    | .pointer p => onSome p fun ad => loadD P t w ad fun v _ => resD P cur r w fun vs => K (v :: vs)
    | _ => False
def oneOr (vs : List Value) : Value := match vs with
  | [v] => v
  | vs => .tuple vs.toArray
def postD (P : Program) (rs : List ResultVar) (R : Value → World → Prop) (e : Exit) (cur : Ent) (w : World) : Prop := match e with
  | .normal => resD P cur rs w fun vs => R (oneOr vs) w
  | .ret => resD P cur rs w fun vs => R (oneOr vs) w
  | _ => False

def thenD (N : Ent → World → Prop) (Q : Exit → Ent → World → Prop) : Exit → Ent → World → Prop
  | .normal, cur, w => N cur w
  | e, cur, w => Q e cur w
def blockD (id : Nat) (Q : Exit → Ent → World → Prop) : Exit → Ent → World → Prop
  | .exit i, cur, w => cond (Nat.beq i id) (Q .normal cur w) (Q (.exit i) cur w)
  | e, cur, w => Q e cur w
def condD (v : Value) (A B : Prop) : Prop := match v with
  | .bool t => cond t A B
  | _ => False

def D (C : Ctx) : Code → Ann → Ent → (Exit → Ent → World → Prop) → Ent → World → Prop
  | .skip, _, _, Q, cur, w => Q .normal cur w
  | .region _ ops draw, ann, o, Q, cur, w => cond draw (match ann with
      | .r p => cond (Nat.ble p.depth ops.size) (drawP C ops o (Q .normal) p true 0 [] cur w.drew) False
      | .o ins => cond (freshO C.n o ops.toList && freshO C.n (pickE ins cur o) ops.toList && depsLtB ops) (OrdP C ops (pickE ins cur o) (Q .normal) w.drew) False
      | _ => False) (regD C ops o (Q .normal) ops.toList cur w)
  | .seq x y, ann, o, Q, cur, w => match ann with
    | .s a b => D C x a o (thenD (D C y b o Q) Q) cur w
    | .n => D C x .n o (thenD (D C y .n o Q) Q) cur w
    | .j live drop a b => ∀ J : KTs (kindsOf live) → World → Prop, (∀ t w, D C y b o Q (encL live t ++ dropE cur drop) w → J t w) →
        D C x a (dropE cur drop ++ o) (thenD (fun cur' w' => decL live cur' (dropE cur drop ++ o) fun t => J t w') fun e cur' w' => Q e (cur' ++ dropE cur drop) w') (keepE cur drop) w
    | _ => False
  | .cond c x y, ann, o, Q, cur, w => match ann with
    | .c a b => onV (rd cur o c) fun v => condD v (D C x a o Q cur w) (D C y b o Q cur w)
    | .n => onV (rd cur o c) fun v => condD v (D C x .n o Q cur w) (D C y .n o Q cur w)
    | _ => False
  | .block id c, ann, o, Q, cur, w => match ann with
    | .b a => D C c a o (blockD id Q) cur w
    | .n => D C c .n o (blockD id Q) cur w
    | _ => False
  | .loop c, ann, o, Q, cur, w => match ann with
    | .l live drop a => ∀ X : KTs (kindsOf live) → World → Prop,
        (∀ t w, D C c a (dropE cur drop ++ o) (thenD (fun cur' w' => decL live cur' (dropE cur drop ++ o) fun t' => X t' w') fun e cur' w' => Q e (cur' ++ dropE cur drop) w') (encL live t) w → X t w) →
        decL live cur o fun t => X t w
    | _ => False
  | .exit id, _, _, Q, cur, w => Q (.exit id) cur w
  | .ret, _, _, Q, cur, w => Q .ret cur w
  | _, _, _, _, _, _ => False

end Go.Den
