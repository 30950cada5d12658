/-
  Short names.
-/
import Derived.Orders
import Derived.KernelRfl
import Derived.Tactics
import Derived.Laws.Tables
import Derived.Laws.StructEq
import Derived.Laws.MakeOwn
import Derived.Laws.Slices
import Derived.Laws.AppendOwn
import Derived.Laws.OwnMore
import Derived.Laws.CopyRow
import Derived.Below
import Derived.Lib.SmallJoins
import Derived.Lib.Overlaps
import Derived.MapKept
namespace Go.Den
open Go
theorem aB{p:Prop}(h:p:=by omega):p:=h
theorem iA{p:Prop}(h:p:=by kernel_rfl):p:=h
abbrev aD(x:Int):Value:=.int .i64 x
abbrev aH:=World
abbrev aQ(n:Int):Int:=IntKind.wrap .i64 n
abbrev WQ(α:Type):=α->World->Prop
abbrev cL:=Option Addr
theorem dL{p:Prop}(h:p:=by simp):p:=h
abbrev gS:=@List.getElem?_eq_getElem
abbrev kU:=@List.getElem?_eq_some_iff
abbrev kE:=@Int.toNat_natCast
abbrev mL:=@List.length_append
abbrev FQ:=@List.take_succ_eq_append_getElem
abbrev iG:=@Nat.zero_le
abbrev iT:=@Nat.le_refl
abbrev zH:=@List.mem_of_getElem?
abbrev vT:=@List.getElem?_set
abbrev pN:=@Nat.zero_add
abbrev mD:=@Nat.lt_of_lt_of_le
abbrev oM:=@List.mem_iff_getElem?
abbrev mG:=@List.getElem?_map
abbrev jK:=@List.mem_append
abbrev iF:=@Nat.le_trans
abbrev nE:=@List.getElem_mem
abbrev nU:=@List.length_cons
abbrev oZ:=@List.take_length
abbrev jE:=@List.mem_filter
abbrev vW:=@List.length_filter_le
abbrev pW:=@List.length_take
abbrev lL:=@List.mem_cons
abbrev oL:=@List.length_map
abbrev uG:=@List.mem_singleton
abbrev pJ:=@List.length_set
abbrev sD:=@List.append_assoc
abbrev tE:=@Bool.and_eq_true
abbrev LP:=@List.getD_eq_getElem?_getD
abbrev tD:=@List.append_nil
abbrev RV:=@Nat.mul_le_mul_right
abbrev uQ:=@Option.some.inj
abbrev IV:=@Nat.eq_of_beq_eq_true
abbrev Ce:=@List.eq_nil_of_length_eq_zero
abbrev lK:=@List.mem_map
abbrev AZ:=@List.ext_getElem?
abbrev oY:=@Int.le_refl
abbrev IU:=@List.flatMap_append
abbrev yS:=@List.map_append
abbrev EY:=@List.flatMap_cons
abbrev UR:=@List.getElem?_take_of_lt
abbrev IT:=@List.filter_append
abbrev RU:=@List.Pairwise.filter
abbrev Ez:=@List.getElem?_append_right
abbrev Ey:=@List.getElem?_append_left
abbrev KZ:=@List.filter_cons
abbrev EX:=@Nat.mul_le_mul
abbrev Ew:=@Option.isSome_iff_exists
abbrev Ev:=@List.getElem?_replicate
abbrev Cd:=@List.take_append_drop
abbrev Qc:=@List.pairwise_iff_getElem
abbrev Qb:=@List.mem_cons_of_mem
open Go.IntKind (wrap)
structure Sl where
 b:cL
 l:Nat
 c:Nat
inductive CK where
 |int (k:IntKind)
 |bool
 |str
 |ptr
 |slice
 |map
 |any
def CK.T:CK->Type
 | .int _=>Int
 | .bool=>Bool
 | .str=>ByteArray
 | .ptr=>cL
 | .slice=>Sl
 | .map=>Option Nat
 | .any=>Value
def CK.aY:(k:CK)->k.T->Value
 | .int k,(n:Int)=>.int k n
 | .bool,(b:Bool)=>.bool b
 | .str,(s:ByteArray)=>.string s
 | .ptr,(p:cL)=>.pointer p
 | .slice,(s:Sl)=>.slice s.b s.l s.c
 | .map,(r:Option Nat)=>.map r
 | .any,(v:Value)=>v
def CK.of:Value->CK
 | .int k _=>.int k
 | .bool _=>.bool
 | .string _=>.str
 | .pointer _=>.ptr
 | .slice ..=>.slice
 | .map _=>.map
 |_=>.any
def CK.XW:(k:CK)->Value->(k.T->Prop)->Prop
 | .int k,.int k' n,K=>match decEq k k' with
  | .isTrue _=>K n
  | .isFalse _=>False
 | .bool,.bool b,K=>K b
 | .str,.string s,K=>K s
 | .ptr,.pointer p,K=>K p
 | .slice,.slice b l c,K=>K ⟨b,l,c⟩
 | .map,.map r,K=>K r
 | .any,v,K=>K v
 |_,_,_=>False
def CTs:List CK->Type
 | []=>Unit
 |k::r=>k.T×CTs r
def qH:(l:List CK)->CTs l->List Value
 | [],_=>[]
 |k::r,t=>k.aY t.1::qH r t.2
def decs:(l:List CK)->List Value->(CTs l->Prop)->Prop
 | [],[],K=>K ()
 |k::r,v::vs,K=>k.XW v λx=>decs r vs λt=>K (x,t)
 |_,_,_=>False
inductive nP where
 |c (k:CK)
 |agg (l:List CK)
def nP.T:nP->Type
 | .c k=>k.T
 | .agg l=>CTs l
def nP.aY:(k:nP)->k.T->Value
 | .c k,t=>k.aY t
 | .agg l,t=>.agg (qH l t).toArray
def nP.XW:(k:nP)->Value->(k.T->Prop)->Prop
 | .c k,v,K=>k.XW v K
 | .agg l,.agg cs,K=>decs l cs.toList K
 |_,_,_=>False
def nP.of:Value->nP
 | .agg zs=>.agg (zs.toList.map CK.of)
 |v=>.c (CK.of v)
def Ep:List nP->Type
 | []=>Unit
 |k::r=>k.T×Ep r
def yU:(l:List nP)->Ep l->List Value
 | [],_=>[]
 |k::r,t=>k.aY t.1::yU r t.2
def Ff:(l:List nP)->List Value->(Ep l->Prop)->Prop
 | [],[],K=>K ()
 |k::r,v::vs,K=>k.XW v λx=>Ff r vs λt=>K (x,t)
 |_,_,_=>False
theorem CK.xY{k:CK}{v:Value}{K:k.T->Prop}(h:k.XW v K):∃x,v=k.aY x/\K x:=by
 cases k
 case int k=>
  cases v<;>simp only[CK.XW] at h
  rename_i k' n
  cases hd:decEq k k' with
  |isTrue e=>subst e;rw[hd] at h;exact⟨n,rfl,h⟩
  |isFalse e=>rw[hd] at h;exact h.elim
 all_goals first
  |(cases v<;>simp only[CK.XW] at h<;>exact⟨_,rfl,h⟩)
  |exact⟨v,rfl,by cases v<;>exact h⟩
theorem Oj:∀{l:List CK} {vs:List Value} {K:CTs l->Prop},decs l vs K->∃t,vs=qH l t/\K t
 | [],[],_,h=>⟨(),rfl,h⟩
 | [],_::_,_,h=>h.elim
 |_::_,[],_,h=>h.elim
 |k::r,v::vs,K,h=>by
  obtain⟨x,rfl,h2⟩:=CK.xY h;obtain⟨t,rfl,h3⟩:=Oj (l:=r) (vs:=vs) (K:=λt=>K (x,t)) h2;exact⟨(x,t),rfl,h3⟩
theorem nP.xY{k:nP}{v:Value}{K:k.T->Prop}(h:k.XW v K):∃x,v=k.aY x/\K x:=by
 cases k with
 |c k=>exact CK.xY h
 |agg l=>
  cases v<;>simp only[nP.XW] at h
  rename_i cs
  obtain⟨t,ht,h⟩:=Oj h;exact⟨t,by simp only[nP.aY,<-ht],h⟩
theorem wN:∀{l:List nP} {vs:List Value} {K:Ep l->Prop},Ff l vs K->∃t,vs=yU l t/\K t
 | [],[],_,h=>⟨(),rfl,h⟩
 | [],_::_,_,h=>h.elim
 |_::_,[],_,h=>h.elim
 |k::r,v::vs,K,h=>by
  obtain⟨x,rfl,h2⟩:=nP.xY h;obtain⟨t,rfl,h3⟩:=wN (l:=r) (vs:=vs) (K:=λt=>K (x,t)) h2;exact⟨(x,t),rfl,h3⟩
abbrev mE:=List (Nat×Value)
def lV:mE->Nat->Option Value
 | [],_=>none
 |(i,v)::r,t=>cond (Nat.beq i t) (some v) (lV r t)
def rdT(bP o:mE)(t:Nat):Option Value:=match lV bP t with
 |some v=>some v
 |none=>lV o t
def rd(bP o:mE):Operand->Option Value
 | .tmp t=>rdT bP o t
 | .const v=>some v
 | .global g=>some (.pointer (some ⟨g,0,none⟩))
 | .func f=>some (.func (.func f) #[] #[])
def nA{α:Type}(x:Option α)(K:α->Prop):Prop:=match x with
 |some v=>K v
 |none=>False
theorem aV{α:Type}{x:Option α}{K:α->Prop}(h:nA x K):∃v,x=some v/\K v:=by
 cases x with
 |none=>exact h.elim
 |some v=>exact⟨v,rfl,h⟩
def Eh(bP o:mE):List Operand->Option (List Value)
 | []=>some []
 |x::r=>match rd bP o x with
  |some v=>match Eh bP o r with
   |some vs=>some (v::vs)
   |none=>none
  |none=>none
structure lN(n:Nat)(bP o:mE)(a:Act):Prop where
 size:a.tmps.size=n
 bP:∀t v,lV bP t=some v->a.tmps.getD t undef=v
 o:∀t v,lV o t=some v->a.tmps.getD t undef=v
 nw:a.defers=[]
theorem lN.rd{n:Nat}{bP o:mE}{a:Act}(h:lN n bP o a){x:Operand}{v:Value}(hx:rd bP o x=some v):a.eval x=v:=by
 cases x with
 |tmp t=>
  simp only[Den.rd,rdT] at hx;cases hl:lV bP t with
  |some u=>rw[hl] at hx;cases hx;exact h.bP _ _ hl
  |none=>rw[hl] at hx;exact h.o _ _ hx
 |const c=>cases hx;rfl
 |global g=>cases hx;rfl
 |func f=>cases hx;rfl
theorem lN.Eh{n:Nat}{bP o:mE}{a:Act}(h:lN n bP o a):∀{xs:List Operand} {vs:List Value},Eh bP o xs=some vs->xs.map a.eval=vs
 | [],vs,hx=>by cases hx;rfl
 |x::r,vs,hx=>by
  simp only[Den.Eh] at hx;cases h1:Den.rd bP o x with
  |none=>simp[h1] at hx
  |some v=>
   cases h2:Den.Eh bP o r with
   |none=>simp[h1,h2] at hx
   |some us=>
    simp[h1,h2] at hx;subst hx;simp[h.rd h1,lN.Eh h h2]
def UP(n:Nat)(dst:Option Nat)(v:Value)(o bP:mE)(K:mE->Prop):Prop:=match dst with
 |none=>K bP
 |some d=>cond (Nat.blt d n) (match lV o d with
  |none=>K ((d,v)::bP)
  |some _=>False) False
theorem wK{n:Nat}{dst:Option Nat}{v:Value}{o bP:mE}{K:mE->Prop}(h:UP n dst v o bP K):
  ∃fW,K fW/\∀a,lN n bP o a->lN n fW o (a.put dst v):=by
 cases dst with
 |none=>exact⟨bP,h,λa ha=>ha⟩
 |some d=>
  simp only[UP] at h;cases hb:Nat.blt d n with
  |false=>rw[hb] at h;exact h.elim
  |true=>
   rw[hb] at h;cases hl:lV o d with
   |some u=>rw[hl] at h;exact h.elim
   |none=>
    rw[hl] at h;have hd:d<n:=by simpa using hb
    refine⟨_,h,λa ha=>⟨by simp[Act.put,ha.size],?_,?_,ha.nw⟩⟩
    ·intro t u hu
     simp only[lV] at hu;cases he:Nat.beq d t with
     |true=>
      rw[he] at hu;have:d=t:=IV he;subst this;cases hu;simp[Act.put,ha.size,hd]
     |false=>
      rw[he] at hu;have gF:d≠t:=Nat.ne_of_beq_eq_false he;have:=ha.bP t u hu;simpa [Act.put,Array.getElem?_setIfInBounds_ne gF] using this
    ·intro t u hu
     have gF:d≠t:=by rintro rfl;rw[hl] at hu;cases hu
     have:=ha.o t u hu;simpa [Act.put,Array.getElem?_setIfInBounds_ne gF] using this
def aC(p:cL)(K:Addr->Prop):Prop:=match p with
 |some a=>K a
 |none=>False
def aR(b:cL)(c l size:Nat):cL:=if c=l then b else b.map (·.add (l*size))
def nilV(v:Value)(K:Value->Prop):Prop:=match v with
 | .func (.func _) _ _=>K v
 |_=>False
def nY(op:BinOp)(k:IntKind)(x y:Int):Int:=
 let a:=BitVec.ofInt k.bits x
 let b:=BitVec.ofInt k.bits y
 match op with
 | .and=>k.wrap (a &&& b).toNat
 | .or=>k.wrap (a |||b).toNat
 | .xor=>k.wrap (a^^^b).toNat
 |_=>k.wrap (a &&& ~~~b).toNat
def yF(P:Program):List Field->Nat->Bool
 | [],_=>true
 |f::r,i=>!(f.name== "_") && Nat.beq f.offset i && (match P.underlying f.type with
  |some (.int _)=>true
  |_=>false) && yF P r (i+1)
def FE:List Value->List Value->Option Bool
 | [],[]=>some true
 | .int k a::r,.int k' b::s=>match decEq k k' with
  | .isTrue _=>match FE r s with
   |some e=>some ((a==b) && e)
   |none=>none
  | .isFalse _=>none
 |_,_=>none
def qq(P:Program)(t:TypeId)(xs ys:Array Value)(K:Bool->Prop):Prop:=
 match P.underlying t with
 |some (.struct fs)=>cond (!P.stoodInHeld t && !P.eqGuardType P.depth t && yF P fs.toList 0 && Nat.beq fs.size xs.size && Nat.beq fs.size ys.size) (nA (FE xs.toList ys.toList) K) False
 |_=>False
def Qo(P:Program)(op:BinOp)(t:TypeId)(x y:Value)(K:Value->Prop):Prop:=
 match x,y with
 | .int k a,.int k' b=>
  match op with
  | .shl=>0<=b/\K (.int k (k.wrap (a*2^(min b.toNat k.bits))))
  | .shr=>0<=b/\K (.int k (a.fdiv (2^(min b.toNat k.bits))))
  |op=>match decEq k k' with
   | .isFalse _=>False
   | .isTrue _=>match op with
    | .add=>K (.int k (k.wrap (a+b)))
    | .sub=>K (.int k (k.wrap (a-b)))
    | .mul=>K (.int k (k.wrap (a*b)))
    | .quo=>¬b=0/\K (.int k (k.wrap (a.tdiv b)))
    | .rem=>¬b=0/\K (.int k (a.tmod b))
    | .and=>K (.int k (nY .and k a b))
    | .or=>K (.int k (nY .or k a b))
    | .xor=>K (.int k (nY .xor k a b))
    | .andNot=>K (.int k (nY .andNot k a b))
    | .eql=>K (.bool (a==b))
    | .neq=>K (.bool (a !=b))
    | .lss=>K (.bool (decide (a<b)))
    | .leq=>K (.bool (decide (a<=b)))
    | .gtr=>K (.bool (decide (a>b)))
    | .geq=>K (.bool (decide (a>=b)))
    |_=>False
 | .bool a,.bool b=>match op,P.underlying t with
  | .eql,some .bool=>K (.bool (a==b))
  | .neq,some .bool=>K (.bool (!(a==b)))
  |_,_=>False
 | .string a,.string b=>match op with
  | .eql=>K (.bool (a.toList==b.toList))
  | .neq=>K (.bool (!(a.toList==b.toList)))
  |_=>False
 | .pointer a,.pointer none=>match op,P.underlying t with
  | .eql,some (.pointer _)=>K (.bool a.isNone)
  | .neq,some (.pointer _)=>K (.bool (!a.isNone))
  |_,_=>False
 | .slice a _ _,.slice none _ _=>match op,P.underlying t with
  | .eql,some (.slice _)=>K (.bool a.isNone)
  | .neq,some (.slice _)=>K (.bool (!a.isNone))
  |_,_=>False
 | .map a,.map none=>match op,P.underlying t with
  | .eql,some (.map _ _)=>K (.bool a.isNone)
  | .neq,some (.map _ _)=>K (.bool (!a.isNone))
  |_,_=>False
 | .agg xs,.agg ys=>match op with
  | .eql=>qq P t xs ys λb=>K (.bool b)
  | .neq=>qq P t xs ys λb=>K (.bool (!b))
  |_=>False
 |_,_=>False
def unD(op:UnOp)(x:Value)(K:Value->Prop):Prop:=
 match op,x with
 | .not,.bool b=>K (.bool (!b))
 | .neg,.int k n=>K (.int k (k.wrap (0-n)))
 | .xor,.int k n=>K (.int k (nY .xor k (if k.signed then-1 else k.max) n))
 |_,_=>False
def DM(P:Program)(t:TypeId)(K:Nat->Prop):Prop:=match P.info? t with
 |some i=>K i.size
 |none=>False
def BY(y:Nat)(v:Option Value)(d:Nat)(K:Nat->Prop):Prop:=match v with
 |none=>K d
 |some (.int _ i)=>(0<=i/\i<=(y:Int))/\K i.toNat
 |some _=>False
def onO(bP o:mE)(x:Option Operand)(K:Option Value->Prop):Prop:=match x with
 |none=>K none
 |some x=>nA (rd bP o x) λv=>K (some v)
def pt(P:Program)(t:TypeId)(cs:Array Value)(off:Nat)(K:Value->Prop):Prop:=match P.underlying t with
 |some (.struct _)=>DM P t λn=>K (.agg (cs.extract off (off+n)))
 |some (.array _ _)=>DM P t λn=>K (.agg (cs.extract off (off+n)))
 |some _=>match cs[off]? with
  |some v=>K v
  |none=>False
 |none=>False
def Ai(P:Program)(t:TypeId)(K:Value->Prop):Prop:=match P.info? t with
 |some i=>match i.zero with
  |some z=>K z
  |none=>False
 |none=>False
def isConst:Operand->Bool
 | .const _=>true
 |_=>false
def iu(P:Program)(t:TypeId)(x:Value)(ix:Operand)(i:Int)(K:Value->Prop):Prop:=
 match P.underlying t,x with
 |some (.array len elem),.agg cs=>cond (isConst ix) ((0<=i/\i<(len:Int))/\DM P elem λn=>pt P elem cs (i.toNat*n) K)
   ((0<=i/\i<(len:Int))/\DM P elem λm=>cond (Nat.beq m 1) (match P.underlying elem with
    |some (.int k)=>∃n:Int,cs[i.toNat]? =some (.int k n)/\K (.int k n)
    |_=>False) False)
 |some .string,.string s=>0<=i/\∃b:UInt8,s[i.toNat]? =some b/\K (.int .u8 b.toNat)
 |_,_=>False
def Dx(P:Program)(t:TypeId)(f:Nat):Option Field:=match P.underlying t with
 |some (.struct fs)=>fs[f]?
 |_=>none
def lenD(P:Program)(t:TypeId)(x:Value)(K:Value->Prop):Prop:=match P.underlying t,x with
 |some (.slice _),.slice _ n _=>K (.int .i64 (n:Int))
 |some .string,.string s=>K (.int .i64 (s.size:Int))
 |some (.array n _),_=>K (.int .i64 (n:Int))
 |_,_=>False
def isLen(P:Program)(t:TypeId):Bool:=match P.underlying t with
 |some (.slice _)=>true
 |some .string=>true
 |some (.array _ _)=>true
 |_=>false
def MK(x y:Int):Int:=if y<x then y else x
def BR(x y:Int):Int:=if y>x then y else x
def minD(mx:Bool):Value->List Value->(Value->Prop)->Prop
 |x,[],K=>K x
 | .int k x,.int _ y::r,K=>minD mx (.int k (cond mx (BR x y) (MK x y))) r K
 |_,_,_=>False
def Vr(P:Program)(bP o:mE)(op:Op)(K:Value->Prop):Prop:=
 match op with
 | .move x=>nA (rd bP o x) K
 | .assign x=>nA (rd bP o x) K
 | .pick c a b=>nA (rd bP o c) λv=>match v with
  | .bool t=>cond t (nA (rd bP o a) K) (nA (rd bP o b) K)
  |_=>False
 | .nilCheck x=>nA (rd bP o x) λv=>match v with
  | .pointer p=>aC p λa=>K (.pointer (some a))
  |v=>nilV v K
 | .binOp bop t x y _=>nA (rd bP o x) λu=>nA (rd bP o y) λv=>Qo P bop t u v K
 | .unOp uop _ x=>nA (rd bP o x) λu=>unD uop u K
 | .convert src dst x=>nA (rd bP o x) λu=>match P.underlying src,P.underlying dst,u with
  |some _,some (.int k),.int _ n=>K (.int k (k.wrap n))
  |_,_,_=>False
 | .fieldAddr s x f=>nA (rd bP o x) λu=>match u with
  | .pointer p=>aC p λa=>nA (Dx P s f) λfd=>DM P fd.type λn=>cond (Nat.beq n 0) False (K (.pointer (some (a.add fd.offset))))
  |_=>False
 | .field t x f=>nA (rd bP o x) λu=>match u with
  | .agg cs=>nA (Dx P t f) λfd=>pt P fd.type cs fd.offset K
  |_=>False
 | .indexAddr t x ix=>nA (rd bP o x) λu=>nA (rd bP o ix) λv=>match v with
  | .int _ i=>match P.underlying t,u with
   |some (.slice e),.slice b l _=>(0<=i/\i<(l:Int))/\aC b λa=>DM P e λn=>K (.pointer (some (a.add (i.toNat*n))))
   |some (.array len e),.pointer p=>(0<=i/\i<(len:Int))/\aC p λa=>DM P e λn=>K (.pointer (some (a.add (i.toNat*n))))
   |_,_=>False
  |_=>False
 | .index t x ix=>nA (rd bP o x) λu=>nA (rd bP o ix) λv=>match v with
  | .int _ i=>iu P t u ix i K
  |_=>False
 | .extract x i=>nA (rd bP o x) λu=>match u with
  | .tuple vs=>nA vs.toList[i]? K
  |_=>False
 | .slice t x lo hi none=>nA (rd bP o x) λu=>onO bP o lo λvl=>onO bP o hi λvh=>match P.underlying t,u with
  |some (.slice e),.slice b l c=>BY c vh l λh=>BY h vl 0 λl'=>DM P e λn=>K (.slice (aR b c l' n) (h-l') (c-l'))
  |_,_=>False
 | .slice t x lo (some hi) (some mx)=>nA (rd bP o x) λu=>onO bP o lo λvl=>nA (rd bP o hi) λvh=>nA (rd bP o mx) λvm=>match P.underlying t,u with
  |some (.slice e),.slice b _ c=>BY c (some vm) 0 λm=>BY m (some vh) 0 λh=>BY h vl 0 λl'=>DM P e λn=>K (.slice (aR b m l' n) (h-l') (m-l'))
  |_,_=>False
 | .build t parts=>nA (Eh bP o (parts.toList.map (·.2))) λvs=>nA (P.built t ((parts.toList.map (·.1)).zip vs)) λcells=>K (.agg cells)
 | .makeFunc fn first captured=>nA (Eh bP o first.toList) λf=>nA (Eh bP o captured.toList) λc=>K (.func fn f.toArray c.toArray)
 | .call {callee:=.builtin .len,args,argTypes}=>match args.toList,argTypes.toList with
  | [x],[t]=>nA (rd bP o x) λu=>lenD P t u K
  |_,_=>False
 | .call {callee:=.builtin .cap,args,argTypes}=>match args.toList,argTypes.toList with
  | [x],[t]=>nA (rd bP o x) λu=>match P.underlying t,u with
   |some (.slice _),.slice _ _ c=>K (.int .i64 (c:Int))
   |_,_=>False
  |_,_=>False
 | .call {callee:=.builtin .min,args,..}=>nA (Eh bP o args.toList) λvs=>match vs with
  |v::r=>minD false v r K
  | []=>False
 | .call {callee:=.builtin .max,args,..}=>nA (Eh bP o args.toList) λvs=>match vs with
  |v::r=>minD true v r K
  | []=>False
 |_=>False
def isPure(P:Program):Op->Bool
 | .move _| .assign _| .pick .. | .nilCheck _| .binOp .. | .unOp .. | .fieldAddr .. | .field .. | .indexAddr .. | .index .. | .extract .. | .build .. | .makeFunc ..=>true
 | .slice t _ _ _ none=>match P.underlying t with
  |some (.slice _)=>true
  |_=>false
 | .slice t _ _ (some _) (some _)=>match P.underlying t with
  |some (.slice _)=>true
  |_=>false
 | .convert src dst _=>match P.underlying src,P.underlying dst with
  |some (.int _),some (.int _)=>true
  |_,_=>false
 | .call {callee:=.builtin .len,argTypes,..}=>match argTypes.toList with
  | [t]=>isLen P t
  |_=>false
 | .call {callee:=.builtin .cap,..}=>true
 | .call {callee:=.builtin .min,..}=>true
 | .call {callee:=.builtin .max,..}=>true
 |_=>false
theorem yE{P:Program}{t:TypeId}{i:TypeInfo}(h:P.info? t=some i)(w:aH):(sizeOf t).run P w=.ok i.size w:=by
 simp[sizeOf,typeInfo,h]
theorem qQ{P:Program}{t:TypeId}{K:Nat->Prop}(h:DM P t K):∃n,K n/\∀w,(sizeOf t).run P w=.ok n w:=by
 unfold DM at h;cases hi:P.info? t with
 |none=>rw[hi] at h;exact h.elim
 |some i=>rw[hi] at h;exact⟨i.size,h,yE hi⟩
theorem Oe{P:Program}(d:Nat)(w:aH):∀(fs:List Field) (i:Nat) (xs ys:Array Value) (e:Bool),yF P fs i=true->FE (xs.toList.drop i) (ys.toList.drop i)=some e->
  xs.size=i+fs.length->(Op.eqFields (d+1) xs ys fs).run P w=.ok e w
 | [],i,xs,ys,e,_,he,hx=>by
  have h1:xs.toList.drop i=[]:=by simp at hx;simp;omega
  rw[h1] at he;cases hy:ys.toList.drop i with
  |nil=>rw[hy] at he;simp[FE] at he;subst he;simp[Op.eqFields]
  |cons y r=>rw[hy] at he;simp[FE] at he
 |f::fs,i,xs,ys,e,hp,he,hx=>by
  simp only[yF,tE] at hp;obtain⟨⟨⟨h1,h2⟩,h3⟩,h4⟩:=hp;have hoff:f.offset=i:=IV h2;simp only[nU] at hx;have hix:i<xs.toList.length:=by simp;omega
  have hdx:xs.toList.drop i=xs.toList[i]::xs.toList.drop (i+1):=List.drop_eq_getElem_cons hix;rw[hdx] at he;cases hdy:ys.toList.drop i with
  |nil=>rw[hdy] at he;cases xs.toList[i]<;>simp[FE] at he
  |cons y r=>
   have hiy:i<ys.toList.length:=by
    rcases Nat.lt_or_ge i ys.toList.length with h|h
    ·exact h
    ·rw[List.drop_eq_nil_of_le h] at hdy;cases hdy
   have hdy':=List.drop_eq_getElem_cons hiy;rw[hdy] at hdy';simp only[List.cons.injEq] at hdy';obtain⟨hy0,hyr⟩:=hdy';rw[hdy,hyr] at he;have hu:∃k',P.underlying f.type=some (.int k'):=by
    cases hu:P.underlying f.type with
    |none=>simp[hu] at h3
    |some dd=>cases dd<;>simp[hu] at h3;exact⟨_,rfl⟩
   obtain⟨k',hu⟩:=hu;generalize hxv:xs.toList[i]=xv at he;cases xv<;>try (simp[FE] at he;done)
   rename_i k a
   cases y<;>try (simp[FE] at he;done)
   rename_i k2 b
   simp only[FE] at he;cases hd:decEq k k2 with
   |isFalse gF=>rw[hd] at he;cases he
   |isTrue hk=>
    subst hk;rw[hd] at he;cases hr:FE (xs.toList.drop (i+1)) (ys.toList.drop (i+1)) with
    |none=>simp[hr] at he
    |some e'=>
     simp[hr] at he;subst he
     have hname:f.name≠ "_" :=by simpa using h1
     have Pp:∀w,(isAgg f.type).run P w=.ok false w:=λw=>by simp[isAgg,run_underlying hu]
     have ex:xs[i]? =some (.int k a):=by
      have:xs.toList[i]? =some (.int k a):=by rw[gS hix,hxv]
      simpa using this
     have ey:ys[i]? =some (.int k b):=by
      have:ys.toList[i]? =some (.int k b):=by rw[gS hiy,<-hy0]
      simpa using this
     have px:∀w,(part f.type xs f.offset).run P w=.ok (.int k a) w:=λw=>by simp[part,Pp,hoff,ex]
     have py:∀w,(part f.type ys f.offset).run P w=.ok (.int k b) w:=λw=>by simp[part,Pp,hoff,ey]
     have ih:=Oe d w fs (i+1) xs ys e' (by simpa using h4) hr aB;have heq:(Op.equalIn (d+1) f.type (.int k a) (.int k b)).run P w=.ok (a==b) w:=by simp[Op.equalIn,run_underlying hu]
     simp only[Op.eqFields,hname,ne_eq,not_false_eq_true,if_true,Sem.run_bind,px,py,Result.andThen_ok,heq,Sem.run_ite];cases xh:(a==b) with
     |true=>simp[ih]
     |false=>simp
theorem kq{P:Program}{t:TypeId}{xs ys:Array Value}{K:Bool->Prop}(h:qq P t xs ys K):
  ∃b,K b/\P.eqGuardType P.depth t=false/\∀w,(Op.equal t (.agg xs) (.agg ys)).run P w=.ok b w:=by
 unfold qq at h;cases hu:P.underlying t with
 |none=>rw[hu] at h;exact h.elim
 |some d=>
  cases d<;>try (rw[hu] at h;exact h.elim)
  rename_i fs
  rw[hu] at h;simp only at h;cases hc:(!P.stoodInHeld t && !P.eqGuardType P.depth t && yF P fs.toList 0 && Nat.beq fs.size xs.size && Nat.beq fs.size ys.size) with
  |false=>rw[hc] at h;exact h.elim
  |true=>
   rw[hc] at h;obtain⟨b,hb,hK⟩:=aV h;simp only[tE,Bool.not_eq_true'] at hc;obtain⟨⟨⟨⟨h1,h2⟩,h3⟩,h4⟩,h5⟩:=hc;refine⟨b,hK,h2,λw=>?_⟩;have hfo:P.fieldsOf t=fs:=by simp[Program.fieldsOf,hu]
   have hs:xs.size=0+fs.toList.length:=by have:=IV h4;simp;omega
   rw[Op.equal,show Op.maxDepth=9999+1 from rfl,run_equalIn_struct w 9999 t xs ys (by rw[hfo];exact hu) h1,hfo];exact Oe 9998 w fs.toList 0 xs ys b h3 (by simpa using hb) hs
theorem eqBool{P:Program}(d:Nat)(w:aH){t:TypeId}(hu:P.underlying t=some .bool)(a b:Bool):(Op.equalIn (d+1) t (.bool a) (.bool b)).run P w=.ok (a==b) w:=by
 simp[Op.equalIn,run_underlying hu]
theorem eqPtr{P:Program}(d:Nat)(w:aH){t e:TypeId}(hu:P.underlying t=some (.pointer e))(a:cL):(Op.equalIn (d+1) t (.pointer a) (.pointer none)).run P w=.ok a.isNone w:=by
 cases a<;>simp[Op.equalIn,run_underlying hu]
theorem eqSl{P:Program}(d:Nat)(w:aH){t e:TypeId}(hu:P.underlying t=some (.slice e))(a:cL)(l c l' c':Nat):(Op.equalIn (d+1) t (.slice a l c) (.slice none l' c')).run P w=.ok a.isNone w:=by
 cases a<;>simp[Op.equalIn,run_underlying hu]
theorem eqMap{P:Program}(d:Nat)(w:aH){t k e:TypeId}(hu:P.underlying t=some (.map k e))(a:Option Nat):(Op.equalIn (d+1) t (.map a) (.map none)).run P w=.ok a.isNone w:=by
 cases a<;>simp[Op.equalIn,run_underlying hu]
theorem VM{P:Program}(w:aH){op:BinOp}{t:TypeId}{x y:Value}{ox oy:Operand}{e:Bool}(h1:(eqGuard op t ox oy x y).run P w=.ok () w)(h2:(Op.equalIn 10000 t x y).run P w=.ok e w)
  (h3:binOp op t x y=(do pure (.bool (<-Op.equal t x y)))):(do eqGuard op t ox oy x y;binOp op t x y:Sem Value).run P w=.ok (.bool e) w:=by
 simp[h1,h3,Op.equal,Op.maxDepth,h2]
theorem VL{P:Program}(w:aH){op:BinOp}{t:TypeId}{x y:Value}{ox oy:Operand}{e:Bool}(h1:(eqGuard op t ox oy x y).run P w=.ok () w)(h2:(Op.equalIn 10000 t x y).run P w=.ok e w)
  (h3:binOp op t x y=(do pure (.bool (!(<-Op.equal t x y))))):(do eqGuard op t ox oy x y;binOp op t x y:Sem Value).run P w=.ok (.bool (!e)) w:=by
 simp[h1,h3,Op.equal,Op.maxDepth,h2]
theorem aAr{P:Program}{op:BinOp}{t:TypeId}{x y:Value}{K:Value->Prop}(h:Qo P op t x y K):
  ∃v,K v/\∀(w:aH) (ox oy:Operand),(do eqGuard op t ox oy x y;binOp op t x y:Sem Value).run P w=.ok v w:=by
 cases x<;>cases y<;>try (exact h.elim)
 case bool.bool a b=>
  simp only[Qo] at h;cases op<;>try (exact h.elim)
  all_goals
   cases hu:P.underlying t with
   |none=>simp[hu] at h
   |some d=>
    cases d<;>try (simp[hu] at h;done)
    simp only[hu] at h;refine⟨_,h,λw ox oy=>?_⟩
    first
     |exact VM w (by simp[eqGuard]) (eqBool 9999 w hu _ _) rfl
     |exact VL w (by simp[eqGuard]) (eqBool 9999 w hu _ _) rfl
 case int.int k a k' b=>
  simp only[Qo] at h;cases op
  case shl=>exact⟨_,h.2,λw ox oy=>by simp[eqGuard,binOp,Op.shift,Int.not_lt.2 h.1]⟩
  case shr=>exact⟨_,h.2,λw ox oy=>by simp[eqGuard,binOp,Op.shift,Int.not_lt.2 h.1]⟩
  all_goals
   cases hd:decEq k k' with
   |isFalse gF=>rw[hd] at h;exact h.elim
   |isTrue hk=>
    subst hk;rw[hd] at h;simp only at h
    first
     |exact⟨_,h,λw ox oy=>by simp[eqGuard,binOp,Op.intArith,Op.intBits,Op.intCmp,nY]⟩
     |exact⟨_,h.2,λw ox oy=>by simp[eqGuard,binOp,Op.intDiv,h.1]⟩
     |exact h.elim
 case string.string a b=>
  simp only[Qo] at h;cases op<;>try (exact h.elim)
  all_goals exact⟨_,h,λw ox oy=>by simp[eqGuard,binOp,Op.stringOp]⟩
 case pointer.pointer a b=>
  cases b with
  |some b=>exact h.elim
  |none=>
   simp only[Qo] at h;cases op<;>try (exact h.elim)
   all_goals
    cases hu:P.underlying t with
    |none=>simp[hu] at h
    |some d=>
     cases d<;>try (simp[hu] at h;done)
     simp only[hu] at h;refine⟨_,h,λw ox oy=>?_⟩
     first
      |exact VM w (by simp[eqGuard]) (eqPtr 9999 w hu _) rfl
      |exact VL w (by simp[eqGuard]) (eqPtr 9999 w hu _) rfl
 case slice.slice a l c b l' c'=>
  cases b with
  |some b=>exact h.elim
  |none=>
   simp only[Qo] at h;cases op<;>try (exact h.elim)
   all_goals
    cases hu:P.underlying t with
    |none=>simp[hu] at h
    |some d=>
     cases d<;>try (simp[hu] at h;done)
     simp only[hu] at h;refine⟨_,h,λw ox oy=>?_⟩
     first
      |exact VM w (by simp[eqGuard]) (eqSl 9999 w hu _ _ _ _ _) rfl
      |exact VL w (by simp[eqGuard]) (eqSl 9999 w hu _ _ _ _ _) rfl
 case map.map a b=>
  cases b with
  |some b=>exact h.elim
  |none=>
   simp only[Qo] at h;cases op<;>try (exact h.elim)
   all_goals
    cases hu:P.underlying t with
    |none=>simp[hu] at h
    |some d=>
     cases d<;>try (simp[hu] at h;done)
     simp only[hu] at h;refine⟨_,h,λw ox oy=>?_⟩
     first
      |exact VM w (by simp[eqGuard]) (eqMap 9999 w hu _) rfl
      |exact VL w (by simp[eqGuard]) (eqMap 9999 w hu _) rfl
 case agg.agg xs ys=>
  simp only[Qo] at h;cases op<;>try (exact h.elim)
  all_goals
   obtain⟨b,hb,hg,hr⟩:=kq h;refine⟨_,hb,λw ox oy=>?_⟩
   first
    |exact VM w (by simp[eqGuard,hg]) (hr w) rfl
    |exact VL w (by simp[eqGuard,hg]) (hr w) rfl
theorem unD_spec{P:Program}{op:UnOp}{x:Value}{K:Value->Prop}(h:unD op x K):∃v,K v/\∀w,(Op.unary op x).run P w=.ok v w:=by
 cases op<;>cases x<;>try (exact h.elim)
 all_goals exact⟨_,h,λw=>by simp[Op.unary,Op.intArith,Op.intBits,nY]⟩
theorem Ii{P:Program}{t:TypeId}{cs:Array Value}{off:Nat}{K:Value->Prop}(h:pt P t cs off K):
  ∃v,K v/\∀w,(part t cs off).run P w=.ok v w:=by
 unfold pt at h;cases hu:P.underlying t with
 |none=>rw[hu] at h;exact h.elim
 |some d=>
  rw[hu] at h
  by_cases hs:(∃fs,d=.struct fs)\/(∃n e,d=.array n e)
  ·have Pp:∀w,(isAgg t).run P w=.ok true w:=λw=>by
    rcases hs with⟨fs,rfl⟩|⟨n,e,rfl⟩<;>simp[isAgg,run_underlying hu]
   have h':DM P t λn=>K (.agg (cs.extract off (off+n))):=by
    rcases hs with⟨fs,rfl⟩|⟨n,e,rfl⟩<;>exact h
   obtain⟨n,hK,hn⟩:=qQ h';exact⟨_,hK,λw=>by simp[part,Pp,hn]⟩
  ·have Pp:∀w,(isAgg t).run P w=.ok false w:=λw=>by
    cases d<;>simp[isAgg,run_underlying hu]<;>simp_all
   cases hc:cs[off]? with
   |none=>cases d<;>simp[hc] at h<;>simp_all
   |some v=>
    refine⟨v,?_,λw=>by simp[part,Pp,hc]⟩;cases d<;>simp[hc] at h<;>first|exact h|simp_all
theorem yG{P:Program}{y:Nat}{v:Option Value}{d:Nat}{K:Nat->Prop}(h:BY y v d K):
  ∃m,K m/\((v=none/\m=d)\/∃u,v=some u/\m<=y/\∀w code,(Instr.sliceBound u y code).run P w=.ok m w):=by
 cases v with
 |none=>exact⟨d,h,.inl ⟨rfl,rfl⟩⟩
 |some u=>
  cases u<;>try (exact h.elim)
  rename_i k i
  obtain⟨⟨h0,h1⟩,hK⟩:=h;refine⟨_,hK,.inr ⟨_,rfl,aB,λw code=>by simp[Instr.sliceBound,asIntOf,h0,h1]⟩⟩
theorem Gz{n:Nat}{bP o:mE}{a:Act}(hv:lN n bP o a){x:Option Operand}{K:Option Value->Prop}(h:onO bP o x K):K (x.map a.eval):=by
 cases x with
 |none=>exact h
 |some x=>
  obtain⟨v,hx,hK⟩:=aV h;rw[Option.map_some,hv.rd hx];exact hK
theorem ZD{P:Program}(mx:Bool):∀{r:List Value} {x:Value} {K:Value->Prop},minD mx x r K->
  ∃v,K v/\∀w,(r.foldlM (if mx then Builtin.max2 else Builtin.min2) x).run P w=.ok v w
 | [],x,K,h=>⟨x,by cases x<;>exact h,λw=>by simp⟩
 |y::r,x,K,h=>by
  cases x<;>cases y<;>try (exact h.elim)
  rename_i k a k' b
  obtain⟨v,hK,hr⟩:=ZD mx (r:=r) (x:=.int k (cond mx (BR a b) (MK a b))) h;refine⟨v,hK,λw=>?_⟩;have:=hr w;cases mx<;>simpa [List.foldlM,Builtin.max2,Builtin.min2,MK,BR] using this
theorem Za{P:Program}{t:TypeId}{x:Value}{ix:Operand}{k:IntKind}{i:Int}{K:Value->Prop}(h:iu P t x ix i K):
  ∃v,K v/\∀w,(Instr.index t x (.int k i)).run P w=.ok v w:=by
 unfold iu at h;cases hu:P.underlying t with
 |none=>rw[hu] at h;exact h.elim
 |some d=>
  rw[hu] at h;cases d<;>try (exact h.elim)
  case array len elem=>
   cases x<;>try (exact h.elim)
   rename_i cs
   simp only at h;cases hc:isConst ix with
   |true=>
    rw[hc] at h;obtain⟨hb,h⟩:=h;obtain⟨n,hn,hs⟩:=qQ h;obtain⟨v,hK,hp⟩:=Ii hn;exact⟨v,hK,λw=>by simp[Instr.index,asIntOf,run_underlying hu,hb,hs,hp]⟩
   |false=>
    rw[hc] at h;obtain⟨hb,h⟩:=h;obtain⟨m,h,hm⟩:=qQ h;cases hm1:Nat.beq m 1 with
    |false=>rw[hm1] at h;exact h.elim
    |true=>
     rw[hm1] at h;have:m=1:=IV hm1;subst this;cases he:P.underlying elem with
     |none=>rw[he] at h;exact h.elim
     |some de=>
      rw[he] at h;cases de<;>try (exact h.elim)
      rename_i k'
      obtain⟨n,hn,hK⟩:=h;refine⟨_,hK,λw=>?_⟩;have Pp:∀w,(isAgg elem).run P w=.ok false w:=λw=>by simp[isAgg,run_underlying he]
      simp[Instr.index,asIntOf,run_underlying hu,hb,hm,part,Pp,hn]
  case string=>
   cases x<;>try (exact h.elim)
   rename_i s
   obtain⟨h0,b,hb,hK⟩:=h;exact⟨_,hK,λw=>by simp[Instr.index,asIntOf,run_underlying hu,h0,hb]⟩
theorem XG{P:Program}{t:TypeId}{f:Nat}{fd:Field}(h:Dx P t f=some fd):∃fs,P.underlying t=some (.struct fs)/\fs[f]? =some fd:=by
 unfold Dx at h;cases hu:P.underlying t with
 |none=>rw[hu] at h;cases h
 |some d=>
  rw[hu] at h;cases d<;>try (cases h;done)
  exact⟨_,rfl,h⟩
theorem oV{p:cL}{K:Addr->Prop}(h:aC p K):∃a,p=some a/\K a:=by
 cases p with
 |none=>exact h.elim
 |some a=>exact⟨a,rfl,h⟩
theorem kc{P:Program}{t:TypeId}{u:Value}{vl vh:Option Value}{K:Value->Prop}
  (h:match P.underlying t,u with
   |some (.slice e),.slice b l c=>BY c vh l λh=>BY h vl 0 λl'=>DM P e λn=>K (.slice (aR b c l' n) (h-l') (c-l'))
   |_,_=>False):∃v,K v/\∀w,(Instr.sliceAt t u vl vh none).run P w=.ok v w:=by
 cases hu:P.underlying t with
 |none=>simp[hu] at h
 |some d=>
  cases d<;>try (simp[hu] at h;done)
  rename_i e
  cases u<;>try (simp[hu] at h;done)
  rename_i b l c
  simp only[hu] at h;obtain⟨hh,h1,YE⟩:=yG (P:=P) h;obtain⟨ll,h2,RQ⟩:=yG (P:=P) h1;obtain⟨n,hK,hn⟩:=qQ h2;refine⟨_,hK,λw=>?_⟩;have hb:∀w,(Instr.sliceBounds true l c vl vh none).run P w=.ok (ll,hh,c) w:=λw=>by
   rcases YE with⟨rfl,rfl⟩|⟨uh,rfl,_,hr1⟩<;>rcases RQ with⟨rfl,rfl⟩|⟨ul,rfl,_,Po⟩<;>simp[Instr.sliceBounds, *]
  simp[Instr.sliceAt,Instr.slice,run_underlying hu,hb,hn,aR]
theorem Yr{P:Program}{t:TypeId}{u:Value}{vl:Option Value}{vh vm:Value}{K:Value->Prop}
  (h:match P.underlying t,u with
   |some (.slice e),.slice b _ c=>BY c (some vm) 0 λm=>BY m (some vh) 0 λh=>BY h vl 0 λl'=>DM P e λn=>K (.slice (aR b m l' n) (h-l') (m-l'))
   |_,_=>False):∃v,K v/\∀w,(Instr.sliceAt t u vl (some vh) (some vm)).run P w=.ok v w:=by
 cases hu:P.underlying t with
 |none=>simp[hu] at h
 |some d=>
  cases d<;>try (simp[hu] at h;done)
  rename_i e
  cases u<;>try (simp[hu] at h;done)
  rename_i b l c
  simp only[hu] at h;obtain⟨mm,h0,hb0⟩:=yG (P:=P) h;obtain⟨hh,h1,YE⟩:=yG (P:=P) h0;obtain⟨ll,h2,RQ⟩:=yG (P:=P) h1;obtain⟨n,hK,hn⟩:=qQ h2;refine⟨_,hK,λw=>?_⟩;have hb:∀w,(Instr.sliceBounds true l c vl (some vh) (some vm)).run P w=.ok (ll,hh,mm) w:=λw=>by
   rcases hb0 with⟨h3,_⟩|⟨u0,h3,_,hr0⟩
   ·cases h3
   ·cases h3
    rcases YE with⟨h4,_⟩|⟨u1,h4,_,hr1⟩
    ·cases h4
    ·cases h4
     rcases RQ with⟨rfl,rfl⟩|⟨ul,rfl,_,Po⟩<;>simp[Instr.sliceBounds, *]
  simp[Instr.sliceAt,Instr.slice,run_underlying hu,hb,hn,aR]
theorem fS{P:Program}{ρ:Operand->Value}{b:Builtin}{args:Array Operand}{argTypes:Array TypeId}{ty:TypeId}{dst pos after guard}(w:aH){v:Value}{w':aH}
  (hb:(builtin b argTypes ty (args.map λ| .const _=>true|_=>false) (args.map ρ)).run P w=.ok (.value v) w'):
  (execOp ρ {dst,op:=.call {callee:=.builtin b,args,argTypes},type:=ty,pos,after,guard}).run P w=.ok (.value v) w':=by
 unfold execOp;simp only[resolve,invoke,Sem.run_bind,Sem.run_pure,Result.andThen_ok];exact hb
theorem TN{α β γ:Type}(f:β->γ):∀(l:List (α×β)) (vs:List γ),l.map (λp=>f p.2)=vs->(l.map λp=>(p.1,f p.2))=(l.map (·.1)).zip vs
 | [],vs,h=>by simp at h;subst h;rfl
 |p::l,vs,h=>by
  subst h;simp[TN f l _ rfl]
theorem Ib{P:Program}{n:Nat}{bP o:mE}{a:Act}(hv:lN n bP o a)(op:Oper){K:Value->Prop}(h:Vr P bP o op.op K):
  ∃v,K v/\∀w,(execOp a.eval op).run P w=.ok (.value v) w:=by
 obtain⟨dst,op,ty,pos,after,guard⟩:=op;cases op<;>simp only[Vr] at h<;>try (exact h.elim)
 case move x=>
  obtain⟨v,hx,hK⟩:=aV h;exact⟨v,hK,λw=>by simp[execOp,hv.rd hx]⟩
 case assign x=>
  obtain⟨v,hx,hK⟩:=aV h;exact⟨v,hK,λw=>by simp[execOp,hv.rd hx]⟩
 case pick c x y=>
  obtain⟨vc,hc,h⟩:=aV h;cases vc<;>try (exact h.elim)
  rename_i t
  cases t with
  |true=>
   obtain⟨v,hx,hK⟩:=aV h;exact⟨v,hK,λw=>by simp[execOp,hv.rd hx,hv.rd hc,asBool]⟩
  |false=>
   obtain⟨v,hx,hK⟩:=aV h;exact⟨v,hK,λw=>by simp[execOp,hv.rd hx,hv.rd hc,asBool]⟩
 case nilCheck x=>
  obtain⟨vx,hx,h⟩:=aV h;cases vx<;>try (exact h.elim)
  case pointer p=>
   obtain⟨ad,rfl,hK⟩:=oV h;exact⟨_,hK,λw=>by simp[execOp,hv.rd hx]⟩
  case func f a b=>
   cases f<;>try (exact h.elim)
   exact⟨_,h,λw=>by simp[execOp,hv.rd hx]⟩
 case binOp bop t x y yt=>
  obtain⟨vx,hx,h⟩:=aV h;obtain⟨vy,hy,h⟩:=aV h;obtain⟨v,hK,hr⟩:=aAr h;refine⟨v,hK,λw=>?_⟩;have:=hr w x y;unfold execOp;simp only[hv.rd hx,hv.rd hy];simp only[Sem.run_bind] at this ⊢;rw[this]
  rfl
 case unOp uop t x=>
  obtain⟨vx,hx,h⟩:=aV h;obtain⟨v,hK,hr⟩:=unD_spec (P:=P) h;exact⟨v,hK,λw=>by simp[execOp,hv.rd hx,hr]⟩
 case convert src d x=>
  obtain⟨vx,hx,h⟩:=aV h;cases hs:P.underlying src with
  |none=>simp[hs] at h
  |some ds=>
   cases hd:P.underlying d with
   |none=>simp[hs,hd] at h
   |some dd=>
    cases dd<;>try (simp[hs,hd] at h;done)
    cases vx<;>try (simp[hs,hd] at h;done)
    simp only[hs,hd] at h;exact⟨_,h,λw=>by simp[execOp,hv.rd hx,convert,run_underlying hs,run_underlying hd,Conv.intToInt]⟩
 case fieldAddr s x f=>
  obtain⟨vx,hx,h⟩:=aV h;cases vx<;>try (exact h.elim)
  rename_i p
  obtain⟨ad,rfl,h⟩:=oV h;obtain⟨fd,hf,h⟩:=aV h;obtain⟨fs,hu,hfd⟩:=XG hf;obtain⟨m,h,hm⟩:=qQ h;cases hz:Nat.beq m 0 with
  |true=>rw[hz] at h;exact h.elim
  |false=>
   rw[hz] at h;have hm0:m≠0:=Nat.ne_of_beq_eq_false hz;exact⟨_,h,λw=>by simp[execOp,hv.rd hx,Instr.fieldAt,run_underlying hu,hfd,Instr.sureAddr,fieldPlace,hm,hm0]⟩
 case field t x f=>
  obtain⟨vx,hx,h⟩:=aV h;cases vx<;>try (exact h.elim)
  rename_i cs
  obtain⟨fd,hf,h⟩:=aV h;obtain⟨fs,hu,hfd⟩:=XG hf;obtain⟨v,hK,hp⟩:=Ii h;exact⟨v,hK,λw=>by simp[execOp,hv.rd hx,Instr.field,run_underlying hu,hfd,asAgg,hp]⟩
 case indexAddr t x ix=>
  obtain⟨vx,hx,h1⟩:=aV h;obtain⟨vi,hi,h2⟩:=aV h1;clear h h1;have h:=h2;clear h2;cases vi<;>try (exact h.elim)
  rename_i k i
  cases hu:P.underlying t with
  |none=>simp[hu] at h
  |some d=>
   cases d<;>try (simp[hu] at h;done)
   case slice e=>
    cases vx<;>try (simp[hu] at h;done)
    rename_i b l c
    simp only[hu] at h;obtain⟨hb,h3⟩:=h;obtain⟨ad,rfl,h4⟩:=oV h3;obtain⟨m,h5,hm⟩:=qQ h4;exact⟨_,h5,λw=>by simp[execOp,hv.rd hx,hv.rd hi,Instr.indexAt,asIntOf,run_underlying hu,hb,hm]⟩
   case array len e=>
    cases vx<;>try (simp[hu] at h;done)
    rename_i p
    simp only[hu] at h;obtain⟨hb,h3⟩:=h;obtain⟨ad,rfl,h4⟩:=oV h3;obtain⟨m,h5,hm⟩:=qQ h4;exact⟨_,h5,λw=>by simp[execOp,hv.rd hx,hv.rd hi,Instr.indexAt,asIntOf,run_underlying hu,Instr.sureAddr,hb,hm]⟩
 case index t x ix=>
  obtain⟨vx,hx,h⟩:=aV h;obtain⟨vi,hi,h⟩:=aV h;cases vi<;>try (exact h.elim)
  rename_i k i
  obtain⟨v,hK,hr⟩:=Za (k:=k) h;exact⟨v,hK,λw=>by simp[execOp,hv.rd hx,hv.rd hi,hr]⟩
 case extract x i=>
  obtain⟨vx,hx,h⟩:=aV h;cases vx<;>try (exact h.elim)
  rename_i vs
  obtain⟨v,hi,hK⟩:=aV h;have dJ:vs[i]? =some v:=by simpa using hi
  exact⟨v,hK,λw=>by simp[execOp,hv.rd hx,Instr.extract,dJ]⟩
 case slice t x lo hi mx=>
  cases mx with
  |some m=>
   cases hi with
   |none=>exact h.elim
   |some hi=>
    simp only at h;obtain⟨vx,hx,h⟩:=aV h;have h:=Gz hv h;obtain⟨vh,hh,h⟩:=aV h;obtain⟨vm,hm,h⟩:=aV h;obtain⟨v,hK,hr⟩:=Yr h;exact⟨v,hK,λw=>by simp[execOp,hv.rd hx,hv.rd hh,hv.rd hm,hr]⟩
  |none=>
   simp only at h;obtain⟨vx,hx,h⟩:=aV h;have h:=Gz hv (Gz hv h);obtain⟨v,hK,hr⟩:=kc h;exact⟨v,hK,λw=>by simp[execOp,hv.rd hx,hr]⟩
 case build t parts=>
  obtain⟨vs,Ek,h⟩:=aV h;obtain⟨cells,hc,hK⟩:=aV h;refine⟨_,hK,λw=>?_⟩;have he:(parts.map λ(i,x)=>(i,a.eval x)).toList=(parts.toList.map (·.1)).zip vs:=by
   rw[Array.toList_map];exact TN a.eval parts.toList vs (by rw[<-hv.Eh Ek];simp)
  have:=run_build (P:=P) w t (parts.map λ(i,x)=>(i,a.eval x)) cells (by rw[he];exact hc);unfold execOp;simp only[Sem.run_bind,this]
  rfl
 case makeFunc fn first captured=>
  obtain⟨fs,hf,h⟩:=aV h;obtain⟨cs,hc,hK⟩:=aV h;refine⟨_,hK,λw=>?_⟩;have e1:first.map a.eval=fs.toArray:=by
   apply Array.toList_inj.1;simpa using hv.Eh hf
  have e2:captured.map a.eval=cs.toArray:=by
   apply Array.toList_inj.1;simpa using hv.Eh hc
  simp[execOp,Instr.makeFunc,e1,e2]
 case call c=>
  obtain⟨callee,args,argTypes⟩:=c;cases callee<;>try (exact h.elim)
  rename_i b
  obtain⟨args⟩:=args;obtain⟨argTypes⟩:=argTypes;cases b<;>try (exact h.elim)
  case len=>
   match args,argTypes,h with
   | [x],[t],h=>
    obtain⟨vx,hx,h⟩:=aV h;unfold lenD at h;cases hu:P.underlying t with
    |none=>simp[hu] at h
    |some d=>
     cases d<;>try (simp[hu] at h;done)
     case string=>
      cases vx<;>try (simp[hu] at h;done)
      simp only[hu] at h;exact⟨_,h,λw=>fS w (by simp[builtin,Builtin.len_,run_underlying hu,hv.rd hx,goInt])⟩
     case slice=>
      cases vx<;>try (simp[hu] at h;done)
      simp only[hu] at h;exact⟨_,h,λw=>fS w (by simp[builtin,Builtin.len_,run_underlying hu,hv.rd hx,goInt])⟩
     case array=>
      simp only[hu] at h;exact⟨_,h,λw=>fS w (by simp[builtin,Builtin.len_,run_underlying hu,goInt])⟩
  case cap=>
   match args,argTypes,h with
   | [x],[t],h=>
    obtain⟨vx,hx,h⟩:=aV h;cases hu:P.underlying t with
    |none=>simp[hu] at h
    |some d=>
     cases d<;>try (simp[hu] at h;done)
     cases vx<;>try (simp[hu] at h;done)
     simp only[hu] at h;exact⟨_,h,λw=>fS w (by simp[builtin,Builtin.cap_,run_underlying hu,hv.rd hx,goInt])⟩
  case min=>
   obtain⟨vs,Ek,h⟩:=aV h;cases vs with
   |nil=>exact h.elim
   |cons v r=>
    obtain⟨u,hK,hr⟩:=ZD (P:=P) false h;have e:=hv.Eh Ek;refine⟨u,hK,λw=>fS w ?_⟩;have:=hr w;simp only[Bool.false_eq_true,if_false] at this;simp only[List.map_toArray] at e ⊢;simp[builtin,Builtin.min_,e,this]
  case max=>
   obtain⟨vs,Ek,h⟩:=aV h;cases vs with
   |nil=>exact h.elim
   |cons v r=>
    obtain⟨u,hK,hr⟩:=ZD (P:=P) true h;have e:=hv.Eh Ek;refine⟨u,hK,λw=>fS w ?_⟩;have:=hr w;simp only[if_true] at this;simp only[List.map_toArray] at e ⊢;simp[builtin,Builtin.max_,e,this]
abbrev Tr:=List Value->aH->(Value->aH->Prop)->Prop
def oS(P:Program)(g:FuncId)(T:Tr):Prop:=
 ∀args w K,T args w K->Calls P g args.toArray w λe w'=>∃v,e=.returned v/\K v w'
def enters(P:Program)(g:FuncId):Bool:=match P.funcs[g]? with
 |some fn=>fn.body.isSome && !(fn.name== "runtime.NumGoroutine")
 |none=>false
abbrev Env:=List (FuncId×Tr)
def Wf:Env->FuncId->Option Tr
 | [],_=>none
 |(g,T)::r,f=>cond (Nat.beq g f) (some T) (Wf r f)
def QU(P:Program):Env->Prop
 | []=>True
 |(g,T)::r=>(enters P g=true/\oS P g T)/\QU P r
def lI(P:Program)(fv:Value)(args:List Value)(w:aH)(K:WQ Value):Prop:=
 ∃g first cap,fv=.func (.func g) first cap/\enters P g=true/\Calls P g (first++args.toArray++cap) w λe w'=>∃v,e=.returned v/\K v w'
def runK(P:Program)(k:nP)(s:Sem Value)(w:aH)(K:WQ (k.T)):Prop:=∃x w',s.run P w=.ok (k.aY x) w'/\K x w'
def runU(P:Program)(s:Sem Unit)(w:aH)(K:aH->Prop):Prop:=∃w',s.run P w=.ok () w'/\K w'
def runT(P:Program)(ks:List nP)(s:Sem Value)(w:aH)(K:Ep ks->aH->Prop):Prop:=∃x w',s.run P w=.ok (.tuple (yU ks x).toArray) w'/\K x w'
def aG(w:aH)(cells:Array Value)(t:TypeId)(K:WQ Addr):Prop:=K ⟨w.heap.size,0,none⟩ (w.alloc (.cells cells t))
def rF(w:aH)(K:WQ Nat):Prop:=K w.heap.size (w.alloc (.map #[] 0))
def bY(w:aH)(a:Addr):Nat->List Value->Prop
 |_,[]=>True
 |i,v::r=>w.cell? (a.add i)=some v/\bY w a (i+1) r
def xL(k:CK)(w:aH)(a:Addr)(K:k.T->Prop):Prop:=∃x:k.T,w.cell? a=some (k.aY x)/\K x
def eY(l:List CK)(w:aH)(a:Addr)(K:CTs l->Prop):Prop:=∃x:CTs l,bY w a 0 (qH l x)/\K x
def Vw(P:Program)(t:TypeId)(w:aH)(a:Addr)(K:Value->(aH->Prop)->Prop):Prop:=
 match P.info? t with
 |some i=>match i.zero with
  |some z=>match P.underlying t with
   |some (.struct _)=>match z with
    | .agg zs=>cond (Nat.beq zs.size i.size) (eY (zs.toList.map CK.of) w a λx=>K (.agg (qH (zs.toList.map CK.of) x).toArray) λw'=>bY w' a 0 (qH (zs.toList.map CK.of) x)) False
    |_=>False
   |some (.array _ _)=>match z with
    | .agg zs=>cond (Nat.beq zs.size i.size) (eY (zs.toList.map CK.of) w a λx=>K (.agg (qH (zs.toList.map CK.of) x).toArray) λw'=>bY w' a 0 (qH (zs.toList.map CK.of) x)) False
    |_=>False
   |some _=>xL (CK.of z) w a λx=>K ((CK.of z).aY x) λw'=>w'.cell? a=some ((CK.of z).aY x)
   |none=>False
  |none=>False
 |none=>False
def aI(P:Program)(t:TypeId)(a:Addr)(v:Value)(w:aH)(K:aH->Prop):Prop:=runU P (storeVar t a v) w K
def aX(P:Program)(t u:TypeId)(s:Sl)(x:Value)(w:aH)(K:WQ Sl):Prop:=runK P (.c .slice) (Builtin.append_ #[t,u] 0 #[.slice s.b s.l s.c,x]) w K
def QP(P:Program)(t u:TypeId)(s:Sl)(x:Value)(w:aH)(K:WQ Int):Prop:=runK P (.c (.int .i64)) (Builtin.copy_ #[t,u] 0 #[.slice s.b s.l s.c,x]) w K
def BX(P:Program)(t:TypeId)(x:Value)(w:aH)(K:aH->Prop):Prop:=runT P [] (Builtin.clear_ #[t] 0 #[x]) w λ_ w'=>K w'
def qC(P:Program)(t u:TypeId)(m k:Value)(w:aH)(K:aH->Prop):Prop:=runT P [] (Builtin.delete_ #[t,u] 0 #[m,k]) w λ_ w'=>K w'
def Dw(P:Program)(t:TypeId)(m:Value)(w:aH)(K:WQ Int):Prop:=runK P (.c (.int .i64)) (Builtin.len_ #[t] 0 #[m]) w K
def jY(P:Program)(kn:nP)(t:TypeId)(m k:Value)(w:aH)(K:WQ (kn.T)):Prop:=runK P kn (Instr.lookup t m k false) w K
def GV(P:Program)(kn:nP)(t:TypeId)(m k:Value)(w:aH)(K:kn.T->WQ Bool):Prop:=runT P [kn,.c .bool] (Instr.lookup t m k true) w λx w'=>K x.1 x.2.1 w'
def fF(P:Program)(t:TypeId)(m k v:Value)(w:aH)(K:aH->Prop):Prop:=runU P (Instr.mapUpdate t m k v) w K
def HH(P:Program)(kn:nP)(t:TypeId)(m k:Value)(w:aH)(K:kn.T->WQ Int):Prop:=runT P [kn,.c (.int .i64)] (Instr.mapEntry t m k) w λx w'=>K x.1 x.2.1 w'
def uA(P:Program)(t:TypeId)(m s v:Value)(w:aH)(K:aH->Prop):Prop:=runU P (Instr.entryStore t m s v) w K
def rangeD(P:Program)(t:TypeId)(m:Value)(w:aH)(K:WQ Nat):Prop:=∃(r:Nat) (w':aH),(Instr.range t m).run P w=.ok (.pointer (some ⟨r,0,none⟩)) w'/\K r w'
def nextD(P:Program)(ty:TypeId)(it:Value)(w:aH)(K:WQ Bool):Prop:=∃(b:Bool) (r:List Value) (w':aH),(Instr.next it false ty).run P w=.ok (.tuple (.bool b::r).toArray) w'/\K b w'
def entryD(P:Program)(it:Value)(w:aH)(K:WQ Int):Prop:=∃(n:Int) (r:List Value) (w':aH),(Instr.entry it).run P w=.ok (.tuple (.int .i64 n::r).toArray) w'/\K n w'
def fM(P:Program)(t:TypeId)(l c:Value)(w:aH)(K:WQ Sl):Prop:=runK P (.c .slice) (Instr.makeSlice t l c) w K
def qt(P:Program)(kn:nP)(src dst:TypeId)(x:Value)(w:aH)(K:WQ (kn.T)):Prop:=runK P kn (convert src dst x) w K
def extD(P:Program)(kn:nP)(f:FuncId)(args:List Value)(w:aH)(K:WQ (kn.T)):Prop:=∃x w',(callFunc f args.toArray).run P w=.ok (.value (kn.aY x)) w'/\K x w'
def Hs(P:Program):List TypeId->Option (List nP)
 | []=>some []
 |t::r=>match P.info? t with
  |some i=>match i.zero with
   |some z=>match Hs P r with
    |some ks=>some (nP.of z::ks)
    |none=>none
   |none=>none
  |none=>none
def retD(P:Program)(ty:TypeId)(v:Value)(K:Value->Prop):Prop:=match P.underlying ty with
 |some (.tuple ts)=>nA (Hs P ts.toList) λks=>∃x:Ep ks,v=.tuple (yU ks x).toArray/\K (.tuple (yU ks x).toArray)
 |_=>Ai P ty λz=>∃x:(nP.of z).T,v=(nP.of z).aY x/\K ((nP.of z).aY x)
def TV(P:Program)(t:TypeId)(len:Nat)(parts:List (Nat×Value)):Option (TypeId×Array Value):=match P.underlying t with
 |some (.slice e)=>match P.info? e with
  |some i=>match i.zero with
   |some z=>cond (Nat.ble (len*i.size) 16777216) (match Instr.fill (λj=>some (j*i.size,i.size)) (madeCells z.cells (len*i.size)) parts with
    |some cells=>some (e,cells)
    |none=>none) none
   |none=>none
  |none=>none
 |_=>none
def callD(P:Program)(env:Env)(ty:TypeId)(f:FuncId)(args:List Value)(w:aH)(K:WQ Value):Prop:=match Wf env f with
 |some T=>T args w K
 |none=>Ai P ty λz=>extD P (nP.of z) f args w λx w'=>K ((nP.of z).aY x) w'
def yj(P:Program)(env:Env)(bP o:mE)(op:Op)(ty:TypeId)(w:aH)(K:WQ Value):Prop:=
 match op with
 | .load t x=>nA (rd bP o x) λv=>match v with
  | .pointer p=>aC p λa=>Vw P t w a λv _=>K v w
  |_=>False
 | .alloc e=>Ai P e λz=>aG w z.cells e λa w'=>K (.pointer (some a)) w'
 | .box e x=>nA (rd bP o x) λv=>aG w v.cells e λa w'=>K (.pointer (some a)) w'
 | .buildSlice t len parts=>nA (Eh bP o (parts.toList.map (·.2))) λvs=>nA (TV P t len ((parts.toList.map (·.1)).zip vs)) λp=>aG w p.2 p.1 λa w'=>K (.slice (some a) len len) w'
 | .store t x y=>nA (rd bP o x) λu=>nA (rd bP o y) λv=>match u with
  | .pointer p=>aC p λa=>aI P t a v w λw'=>K undef w'
  |_=>False
 | .makeMap _ none=>rF w λr w'=>K (.map (some r)) w'
 | .makeSlice t l c=>nA (rd bP o l) λu=>nA (rd bP o c) λv=>fM P t u v w λs w'=>K (.slice s.b s.l s.c) w'
 | .lookup t m k ok=>nA (rd bP o m) λu=>nA (rd bP o k) λv=>match P.underlying t with
  |some (.map _ e)=>Ai P e λz=>cond ok (GV P (nP.of z) t u v w λx b w'=>K (.tuple #[(nP.of z).aY x,.bool b]) w') (jY P (nP.of z) t u v w λx w'=>K ((nP.of z).aY x) w')
  |_=>False
 | .mapUpdate t m k x=>nA (rd bP o m) λu=>nA (rd bP o k) λv=>nA (rd bP o x) λy=>fF P t u v y w λw'=>K undef w'
 | .insert t m k x=>nA (rd bP o m) λu=>nA (rd bP o k) λv=>nA (rd bP o x) λy=>fF P t u v y w λw'=>K undef w'
 | .mapEntry t m k=>nA (rd bP o m) λu=>nA (rd bP o k) λv=>match P.underlying t with
  |some (.map _ e)=>Ai P e λz=>HH P (nP.of z) t u v w λx n w'=>K (.tuple #[(nP.of z).aY x,.int .i64 n]) w'
  |_=>False
 | .entryStore t m s x=>nA (rd bP o m) λu=>nA (rd bP o s) λv=>nA (rd bP o x) λy=>uA P t u v y w λw'=>K undef w'
 | .range t x=>nA (rd bP o x) λu=>rangeD P t u w λr w'=>K (.pointer (some ⟨r,0,none⟩)) w'
 | .next x s=>nA (rd bP o x) λu=>cond s False (∃(b:Bool) (r:List Value) (w':aH),(Instr.next u false ty).run P w=.ok (.tuple (.bool b::r).toArray) w'/\K (.tuple (.bool b::r).toArray) w')
 | .entry x=>nA (rd bP o x) λu=>∃(n:Int) (r:List Value) (w':aH),(Instr.entry u).run P w=.ok (.tuple (.int .i64 n::r).toArray) w'/\K (.tuple (.int .i64 n::r).toArray) w'
 | .convert src dst x=>nA (rd bP o x) λu=>Ai P dst λz=>qt P (nP.of z) src dst u w λx w'=>K ((nP.of z).aY x) w'
 | .call {callee:=.builtin .append,args,argTypes}=>match args.toList,argTypes.toList with
  | [s,x],[t,u]=>nA (rd bP o s) λvs=>nA (rd bP o x) λvx=>match vs with
   | .slice b l c=>aX P t u ⟨b,l,c⟩ vx w λr w'=>K (.slice r.b r.l r.c) w'
   |_=>False
  |_,_=>False
 | .call {callee:=.builtin .copy,args,argTypes}=>match args.toList,argTypes.toList with
  | [s,x],[t,u]=>nA (rd bP o s) λvs=>nA (rd bP o x) λvx=>match vs with
   | .slice b l c=>QP P t u ⟨b,l,c⟩ vx w λn w'=>K (.int .i64 n) w'
   |_=>False
  |_,_=>False
 | .call {callee:=.builtin .clear,args,argTypes}=>match args.toList,argTypes.toList with
  | [x],[t]=>nA (rd bP o x) λvx=>BX P t vx w λw'=>K (.tuple #[]) w'
  |_,_=>False
 | .call {callee:=.builtin .delete,args,argTypes}=>match args.toList,argTypes.toList with
  | [m,k],[t,u]=>nA (rd bP o m) λvm=>nA (rd bP o k) λvk=>qC P t u vm vk w λw'=>K (.tuple #[]) w'
  |_,_=>False
 | .call {callee:=.builtin .len,args,argTypes}=>match args.toList,argTypes.toList with
  | [m],[t]=>nA (rd bP o m) λvm=>Dw P t vm w λn w'=>K (.int .i64 n) w'
  |_,_=>False
 | .call {callee:=.value (.func f),args,..}=>nA (Eh bP o args.toList) λvs=>callD P env ty f vs w K
 | .call {callee:=.value x,args,..}=>nA (rd bP o x) λfv=>nA (Eh bP o args.toList) λvs=>lI P fv vs w λv w'=>retD P ty v λv'=>K v' w'
 |_=>False
def opD(P:Program)(env:Env)(bP o:mE)(op:Op)(ty:TypeId)(w:aH)(K:WQ Value):Prop:=
 cond (isPure P op) (Vr P bP o op λv=>K v w) (yj P env bP o op ty w K)
theorem tK{P:Program}{t:TypeId}{K:Value->Prop}(h:Ai P t K):∃i z,P.info? t=some i/\i.zero=some z/\K z:=by
 unfold Ai at h;cases hi:P.info? t with
 |none=>rw[hi] at h;exact h.elim
 |some i=>
  rw[hi] at h;cases hz:i.zero with
  |none=>simp[hz] at h
  |some z=>simp only[hz] at h;exact⟨i,z,rfl,hz,h⟩
theorem run_loadCells{P:Program}{a:Addr}(w:aH):∀(vs:List Value) (i:Nat) (acc:Array Value),bY w a i vs->(loadCellsFrom a i vs.length acc).run P w=.ok (acc++vs.toArray) w
 | [],i,acc,_=>by simp[loadCellsFrom]
 |v::r,i,acc,h=>by
  have:=run_loadCells (P:=P) w r (i+1) (acc.push v) h.2;simp[loadCellsFrom,h.1,this]
theorem Bj:∀(l:List CK) (t:CTs l),(qH l t).length=l.length
 | [],_=>rfl
 |_::r,t=>by simp[qH,Bj r]
theorem TP{P:Program}{t:TypeId}{w:aH}{a:Addr}{K:Value->(aH->Prop)->Prop}(h:Vw P t w a K):
  ∃v C,K v C/\C w/\∀w',C w'->(loadVar t a).run P w'=.ok v w':=by
 unfold Vw at h;cases hi:P.info? t with
 |none=>simp[hi] at h
 |some i=>
  cases hz:i.zero with
  |none=>simp[hi,hz] at h
  |some z=>
   cases hu:P.underlying t with
   |none=>simp[hi,hz,hu] at h
   |some d=>
    by_cases hs:(∃fs,d=.struct fs)\/(∃n e,d=.array n e)
    ·have Pp:∀w,(isAgg t).run P w=.ok true w:=λw=>by
      rcases hs with⟨fs,rfl⟩|⟨n,e,rfl⟩<;>simp[isAgg,run_underlying hu]
     cases z<;>try (rcases hs with⟨fs,rfl⟩|⟨n,e,rfl⟩<;>simp[hi,hz,hu] at h;done)
     rename_i zs
     have h':cond (Nat.beq zs.size i.size) (eY (zs.toList.map CK.of) w a λx=>K (.agg (qH (zs.toList.map CK.of) x).toArray) λw'=>bY w' a 0 (qH (zs.toList.map CK.of) x)) False:=by
      rcases hs with⟨fs,rfl⟩|⟨n,e,rfl⟩<;>simpa only[hi,hz,hu] using h
     cases hb:Nat.beq zs.size i.size with
     |false=>rw[hb] at h';exact h'.elim
     |true=>
      rw[hb] at h';obtain⟨x,hx,hK⟩:=h';refine⟨_,_,hK,hx,λw' hw'=>?_⟩;have fU:(qH (zs.toList.map CK.of) x).length=i.size:=by
       rw[Bj];simpa using IV hb
      have hr:=run_loadCells (P:=P) w' _ 0 #[] hw';rw[fU] at hr;simp[loadVar,Pp,yE hi,loadCells,hr]
    ·have Pp:∀w,(isAgg t).run P w=.ok false w:=λw=>by
      cases d<;>simp[isAgg,run_underlying hu]<;>simp_all
     have h':xL (CK.of z) w a λx=>K ((CK.of z).aY x) λw'=>w'.cell? a=some ((CK.of z).aY x):=by
      cases d<;>first|simpa only[hi,hz,hu] using h|simp_all
     obtain⟨x,hx,hK⟩:=h';exact⟨_,_,hK,hx,λw' hw'=>by simp[loadVar,Pp,hw']⟩
theorem Ip{P:Program}:∀{env:Env} {f:FuncId} {T:Tr},QU P env->Wf env f=some T->enters P f=true/\oS P f T
 | [],_,_,_,h=>by cases h
 |(g,T')::r,f,T,kH,h=>by
  simp only[Wf] at h;cases hb:Nat.beq g f with
  |true=>
   rw[hb] at h;have:g=f:=IV hb;subst this;cases h;exact kH.1
  |false=>rw[hb] at h;exact Ip kH.2 h
theorem Iq{P:Program}{g:FuncId}(h:enters P g=true)(args:Array Value)(w:aH):(callFunc g args).run P w=.ok (.enter g args) w:=by
 unfold enters at h;cases hf:P.funcs[g]? with
 |none=>simp[hf] at h
 |some fn=>
  simp[hf] at h;obtain⟨h1,h2⟩:=h;obtain⟨c,hc⟩:=Ew.1 h1;simp[callFunc,hf,hc,h2]
theorem upon_value{P:Program}{o:Oper}{a:Act}{w w':aH}{next:Act->aH->Prop}{Q:Exit->Act->aH->Prop}{v:Value}
  (h:(execOp a.eval o).run P w=.ok (.value v) w') (hn:next (a.put o.dst v) w'):o.wp P a w next Q:=by
 unfold Oper.wp;rw[h];exact hn
theorem upon_skip{P:Program}{o:Oper}{a:Act}{w w':aH}{next:Act->aH->Prop}{Q:Exit->Act->aH->Prop}
  (h:(execOp a.eval o).run P w=.ok .skip w') (hn:next (a.put o.dst undef) w'):o.wp P a w next Q:=by
 unfold Oper.wp;rw[h];exact hn
theorem upon_enter{P:Program}{o:Oper}{a:Act}{w w':aH}{next:Act->aH->Prop}{Q:Exit->Act->aH->Prop}{f:FuncId}{args:Array Value}
  (h:(execOp a.eval o).run P w=.ok (.enter f args) w') (hn:Calls P f args w' λe Cy=>∃v,e=.returned v/\next (a.put o.dst v) Cy):o.wp P a w next Q:=by
 unfold Oper.wp;rw[h];exact hn.mono λe Cy ⟨v,he,hv⟩=>by subst he;exact hv
theorem Jh{P:Program}(w:aH)(t:TypeId)(len:Nat)(ps:Array (Nat×Value))(e:TypeId)(cells:Array Value)(hp:TV P t len ps.toList=some (e,cells)):
  (Instr.buildSlice t len ps).run P w=.ok (.slice (some ⟨w.heap.size,0,none⟩) len len) (w.alloc (.cells cells e)):=by
 unfold TV at hp;cases hu:P.underlying t with
 |none=>simp[hu] at hp
 |some d=>
  cases d<;>try (simp[hu] at hp;done)
  rename_i e'
  cases hi:P.info? e' with
  |none=>simp[hu,hi] at hp
  |some i=>
   cases hz:i.zero with
   |none=>simp[hu,hi,hz] at hp
   |some z=>
    simp only[hu,hi,hz] at hp;cases hb:Nat.ble (len*i.size) 16777216 with
    |false=>rw[hb] at hp;cases hp
    |true=>
     rw[hb] at hp;have IN:len*i.size<=16777216:=Nat.le_of_ble_eq_true hb;cases QE:Instr.fill (λj=>some (j*i.size,i.size)) (madeCells z.cells (len*i.size)) ps.toList with
     |none=>simp[QE] at hp
     |some cs=>
      simp[QE] at hp;obtain⟨rfl,rfl⟩:=hp;have vU:¬(2^24<len*i.size):=aB;unfold Instr.buildSlice;simp only[Sem.run_bind,run_underlying hu,Result.andThen_ok,yE hi,gt_iff_lt,vU,if_false]
      by_cases h0:len*i.size=0
      ·have XU:=QE
       rw[h0] at XU;simp only[madeCells,Array.range_zero',Array.map_empty] at XU;simp only[h0,if_true,Sem.run_pure,Result.andThen_ok,Array.range_zero',Array.map_empty,XU,newRow,Sem.run_bind,run_newObj]
       rfl
      ·simp only[madeCells] at QE
       simp only[h0,if_false,zeroValue,typeInfo,Sem.run_bind,run_program,hi,hz,Sem.run_pure,Result.andThen_ok,QE,newRow,run_newObj]
       rfl
theorem aAt(A:Array TypeId)(ty:TypeId)(x:Array Value):Builtin.append_ A ty x=Builtin.append_ A 0 x:=rfl
theorem copy_ty(A:Array TypeId)(ty:TypeId)(x:Array Value):Builtin.copy_ A ty x=Builtin.copy_ A 0 x:=rfl
theorem clear_ty(A:Array TypeId)(ty:TypeId)(x:Array Value):Builtin.clear_ A ty x=Builtin.clear_ A 0 x:=rfl
theorem aAl(A:Array TypeId)(ty:TypeId)(x:Array Value):Builtin.delete_ A ty x=Builtin.delete_ A 0 x:=rfl
theorem len_ty(A:Array TypeId)(ty:TypeId)(x:Array Value):Builtin.len_ A ty x=Builtin.len_ A 0 x:=rfl
theorem Oi{P:Program}{env:Env}(LB:QU P env){n:Nat}{bP o:mE}{a:Act}(hv:lN n bP o a)(op:Oper){w:aH}{K:Value->aH->Prop}{next:Act->aH->Prop}{Q:Exit->Act->aH->Prop}
  (h:yj P env bP o op.op op.type w K) (hn:∀v w',K v w'->next (a.put op.dst v) w'):op.wp P a w next Q:=by
 obtain⟨dst,op,ty,pos,after,guard⟩:=op;cases op<;>simp only[yj] at h<;>try (exact h.elim)
 case load t x=>
  obtain⟨v,hx,h1⟩:=aV h;cases v<;>try (exact h1.elim)
  obtain⟨ad,rfl,h2⟩:=oV h1;obtain⟨v,C,hK,hC,hr⟩:=TP h2;exact upon_value (v:=v) (w':=w) (by simp[execOp,hv.rd hx,Instr.loadAt,Instr.sureAddr,hr w hC]) (hn _ _ hK)
 case alloc e=>
  obtain⟨i,z,hi,hz,hK⟩:=tK h;exact upon_value (by simp[execOp,Instr.alloc,zeroValue,typeInfo,hi,hz,newVar,newRow]) (hn _ _ hK)
 case box e x=>
  obtain⟨v,hx,hK⟩:=aV h;exact upon_value (by simp[execOp,Instr.box,hv.rd hx,newVar,newRow]) (hn _ _ hK)
 case store t x y=>
  obtain⟨u,hx,h1⟩:=aV h;obtain⟨v,hy,h2⟩:=aV h1;cases u<;>try (exact h2.elim)
  obtain⟨ad,rfl,h3⟩:=oV h2;obtain⟨w',hr,hK⟩:=h3;exact upon_skip (w':=w') (by simp[execOp,hv.rd hx,hv.rd hy,Instr.storeAt,Instr.sureAddr,hr]) (hn _ _ hK)
 case makeMap t r=>
  cases r with
  |some r=>exact h.elim
  |none=>exact upon_value (by simp[execOp,Instr.makeMap]) (hn _ _ h)
 case makeSlice t l c=>
  obtain⟨u,hx,h1⟩:=aV h;obtain⟨v,hy,h2⟩:=aV h1;obtain⟨s,w',hr,hK⟩:=h2;exact upon_value (w':=w') (by simp[execOp,hv.rd hx,hv.rd hy,hr];rfl) (hn _ _ hK)
 case mapUpdate t m k x=>
  obtain⟨u,hm,h1⟩:=aV h;obtain⟨v,hk,h2⟩:=aV h1;obtain⟨y,hx,h3⟩:=aV h2;obtain⟨w',hr,hK⟩:=h3;exact upon_skip (w':=w') (by simp[execOp,hv.rd hm,hv.rd hk,hv.rd hx,hr]) (hn _ _ hK)
 case insert t m k x=>
  obtain⟨u,hm,h1⟩:=aV h;obtain⟨v,hk,h2⟩:=aV h1;obtain⟨y,hx,h3⟩:=aV h2;obtain⟨w',hr,hK⟩:=h3;exact upon_skip (w':=w') (by simp[execOp,hv.rd hm,hv.rd hk,hv.rd hx,hr]) (hn _ _ hK)
 case entryStore t m s x=>
  obtain⟨u,hm,h1⟩:=aV h;obtain⟨v,hk,h2⟩:=aV h1;obtain⟨y,hx,h3⟩:=aV h2;obtain⟨w',hr,hK⟩:=h3;exact upon_skip (w':=w') (by simp[execOp,hv.rd hm,hv.rd hk,hv.rd hx,hr]) (hn _ _ hK)
 case range t x=>
  obtain⟨u,hx,h1⟩:=aV h;obtain⟨r,w',hr,hK⟩:=h1;exact upon_value (w':=w') (by simp[execOp,hv.rd hx,hr]) (hn _ _ hK)
 case next x s=>
  obtain⟨u,hx,h1⟩:=aV h;cases s with
  |true=>exact h1.elim
  |false=>
   obtain⟨b,r,w',hr,hK⟩:=h1;exact upon_value (w':=w') (by simp only[execOp,hv.rd hx,Sem.run_bind,hr];rfl) (hn _ _ hK)
 case entry x=>
  obtain⟨u,hx,h1⟩:=aV h;obtain⟨n,r,w',hr,hK⟩:=h1;exact upon_value (w':=w') (by simp only[execOp,hv.rd hx,Sem.run_bind,hr];rfl) (hn _ _ hK)
 case mapEntry t m k=>
  obtain⟨u,hm,h1⟩:=aV h;obtain⟨v,hk,h2⟩:=aV h1;cases hu:P.underlying t with
  |none=>simp[hu] at h2
  |some d=>
   cases d<;>try (simp[hu] at h2;done)
   simp only[hu] at h2;obtain⟨i,z,hi,hz,h3⟩:=tK h2;obtain⟨x,w',hr,hK⟩:=h3;exact upon_value (w':=w') (by simp[execOp,hv.rd hm,hv.rd hk,hr];try rfl) (hn _ _ hK)
 case lookup t m k ok=>
  obtain⟨u,hm,h1⟩:=aV h;obtain⟨v,hk,h2⟩:=aV h1;cases hu:P.underlying t with
  |none=>simp[hu] at h2
  |some d=>
   cases d<;>try (simp[hu] at h2;done)
   simp only[hu] at h2;obtain⟨i,z,hi,hz,h3⟩:=tK h2;cases ok with
   |true=>
    obtain⟨x,w',hr,hK⟩:=h3;exact upon_value (w':=w') (by simp[execOp,hv.rd hm,hv.rd hk,hr];try rfl) (hn _ _ hK)
   |false=>
    obtain⟨x,w',hr,hK⟩:=h3;exact upon_value (w':=w') (by simp[execOp,hv.rd hm,hv.rd hk,hr];try rfl) (hn _ _ hK)
 case convert src d x=>
  obtain⟨u,hx,h1⟩:=aV h;obtain⟨i,z,hi,hz,h2⟩:=tK h1;obtain⟨x,w',hr,hK⟩:=h2;exact upon_value (w':=w') (by simp[execOp,hv.rd hx,hr]) (hn _ _ hK)
 case buildSlice t len parts=>
  obtain⟨vs,Ek,h1⟩:=aV h;obtain⟨p,hp,hK⟩:=aV h1;obtain⟨e,cells⟩:=p;have he:(parts.map λ(i,x)=>(i,a.eval x)).toList=(parts.toList.map (·.1)).zip vs:=by
   rw[Array.toList_map];exact TN a.eval parts.toList vs (by rw[<-hv.Eh Ek];simp)
  have hr:=Jh w t len (parts.map λ(i,x)=>(i,a.eval x)) e cells (by rw[he];exact hp);refine upon_value (v:=.slice (some ⟨w.heap.size,0,none⟩) len len) (w':=w.alloc (.cells cells e)) ?_ (hn _ _ hK);unfold execOp;simp only[Sem.run_bind,hr]
  rfl
 case call c=>
  obtain⟨callee,args,argTypes⟩:=c;obtain⟨args⟩:=args;obtain⟨argTypes⟩:=argTypes;cases callee with
  |invoke r m=>exact h.elim
  |builtin b=>
   cases b<;>try (exact h.elim)
   case append=>
    match args,argTypes,h with
    | [s,x],[t,u],h=>
     obtain⟨vs,hs,h1⟩:=aV h;obtain⟨vx,hx,h2⟩:=aV h1;cases vs<;>try (exact h2.elim)
     obtain⟨r,w',hr,hK⟩:=h2;exact upon_value (w':=w') (fS w (by
      simp only[builtin,Sem.run_bind,List.map_toArray,List.map_cons,List.map_nil,hv.rd hs,hv.rd hx];rw[aAt,hr.trans rfl];rfl)) (hn _ _ hK)
   case copy=>
    match args,argTypes,h with
    | [s,x],[t,u],h=>
     obtain⟨vs,hs,h1⟩:=aV h;obtain⟨vx,hx,h2⟩:=aV h1;cases vs<;>try (exact h2.elim)
     obtain⟨r,w',hr,hK⟩:=h2;exact upon_value (w':=w') (fS w (by
      simp only[builtin,Sem.run_bind,List.map_toArray,List.map_cons,List.map_nil,hv.rd hs,hv.rd hx];rw[copy_ty,hr.trans rfl];rfl)) (hn _ _ hK)
   case clear=>
    match args,argTypes,h with
    | [x],[t],h=>
     obtain⟨vx,hx,h2⟩:=aV h;obtain⟨r,w',hr,hK⟩:=h2;exact upon_value (w':=w') (fS w (by
      simp only[builtin,Sem.run_bind,List.map_toArray,List.map_cons,List.map_nil,hv.rd hx];rw[clear_ty,hr.trans rfl];rfl)) (hn _ _ hK)
   case delete=>
    match args,argTypes,h with
    | [m,k],[t,u],h=>
     obtain⟨vm,hm,h1⟩:=aV h;obtain⟨vk,hk,h2⟩:=aV h1;obtain⟨r,w',hr,hK⟩:=h2;exact upon_value (w':=w') (fS w (by
      simp only[builtin,Sem.run_bind,List.map_toArray,List.map_cons,List.map_nil,hv.rd hm,hv.rd hk];rw[aAl,hr.trans rfl];rfl)) (hn _ _ hK)
   case len=>
    match args,argTypes,h with
    | [m],[t],h=>
     obtain⟨vm,hm,h2⟩:=aV h;obtain⟨r,w',hr,hK⟩:=h2;exact upon_value (w':=w') (fS w (by
      simp only[builtin,Sem.run_bind,List.map_toArray,List.map_cons,List.map_nil,hv.rd hm];rw[len_ty,hr.trans rfl];rfl)) (hn _ _ hK)
  |value x=>
   by_cases hfx:∃f,x=.func f
   ·obtain⟨f,rfl⟩:=hfx
    obtain⟨vs,Ek,h1⟩:=aV h;have e:=hv.Eh Ek;have fj:∀w,(execOp a.eval {dst:=dst,op:=.call {callee:=.value (.func f),args:=⟨args⟩,argTypes:=⟨argTypes⟩},type:=ty,pos:=pos,after:=after,guard:=guard}).run P w=(callFunc f vs.toArray).run P w:=λw=>by
     have em:(⟨args⟩:Array Operand).map a.eval=vs.toArray:=by rw[<-e];simp
     unfold execOp;simp only[resolve,em,Act.eval,Deferred.ofValue,Sem.run_bind,Sem.run_pure,Result.andThen_ok,invoke];simp
    unfold callD at h1;cases hf:Wf env f with
    |some T=>
     rw[hf] at h1;obtain⟨h2,h3⟩:=Ip LB hf;exact upon_enter ((fj w).trans (Iq h2 _ w)) ((h3 _ _ _ h1).mono λe w' ⟨v,he,hK⟩=>⟨v,he,hn _ _ hK⟩)
    |none=>
     rw[hf] at h1;obtain⟨i,z,hi,hz,h3⟩:=tK h1;obtain⟨x,w',hr,hK⟩:=h3;exact upon_value ((fj w).trans hr) (hn _ _ hK)
   ·have h':nA (rd bP o x) λfv=>nA (Eh bP o args) λvs=>lI P fv vs w λv w'=>retD P ty v λv'=>K v' w':=by
     cases x<;>first|exact h|exact absurd ⟨_,rfl⟩ hfx
    obtain⟨fv,hfv,h1⟩:=aV h';obtain⟨vs,Ek,h2⟩:=aV h1;obtain⟨g,first,cap,rfl,h3,h4⟩:=h2
    have e:=hv.Eh Ek;have em:(⟨args⟩:Array Operand).map a.eval=vs.toArray:=by rw[<-e];simp
    have fj:(execOp a.eval {dst:=dst,op:=.call {callee:=.value x,args:=⟨args⟩,argTypes:=⟨argTypes⟩},type:=ty,pos:=pos,after:=after,guard:=guard}).run P w=(callFunc g (first++vs.toArray++cap)).run P w:=by
     unfold execOp;simp only[resolve,em,hv.rd hfv,Deferred.ofValue,Sem.run_bind,Sem.run_pure,Result.andThen_ok,invoke]
    refine upon_enter (fj.trans (Iq h3 _ w)) (h4.mono λe w' ⟨v,he,hK⟩=>⟨v,he,?_⟩);have:K v w':=by
     unfold retD at hK;cases hu:P.underlying ty with
     |none=>
      rw[hu] at hK;obtain⟨i,z,hi,hz,x,rfl,hk⟩:=tK hK;exact hk
     |some d=>
      rw[hu] at hK;cases d
      case tuple ts=>
       obtain⟨ks,hks,x,rfl,hk⟩:=aV hK;exact hk
      all_goals
       obtain⟨i,z,hi,hz,x,rfl,hk⟩:=tK hK;exact hk
    exact hn _ _ this
structure Ctx where
 P:Program
 n:Nat
 env:Env
inductive LV where
 |dR
 |no
 |fl (i:Nat) (p:LV)
 |mn (i:Nat) (p r:LV)
inductive xp where
 |n
 |s (a b:xp)
 |c (a b:xp)
 |b (a:xp)
 |l (jV:List (Nat×nP)) (drop:List Nat) (a:xp)
 |j (jV:List (Nat×nP)) (drop:List Nat) (a b:xp)
 |r (p:LV)
 |o (KV:List Nat)
def OE(l:List (Nat×nP)):List nP:=l.map (·.2)
def Ln:(l:List (Nat×nP))->Ep (OE l)->mE
 | [],_=>[]
 |(i,k)::r,t=>(i,k.aY t.1)::Ln r t.2
def decL:(l:List (Nat×nP))->mE->mE->(Ep (OE l)->Prop)->Prop
 | [],_,_,K=>K ()
 |(i,k)::r,bP,o,K=>nA (rdT bP o i) λv=>k.XW v λx=>decL r bP o λt=>K (x,t)
def mem(l:List Nat)(i:Nat):Bool:=match l with
 | []=>false
 |j::r=>cond (Nat.beq j i) true (mem r i)
def jO:mE->List Nat->mE
 | [],_=>[]
 |(i,v)::r,l=>cond (mem l i) (jO r l) ((i,v)::jO r l)
def Fu:mE->List Nat->mE
 | [],_=>[]
 |(i,v)::r,l=>cond (mem l i) ((i,v)::Fu r l) (Fu r l)
def ib(dY:Array Oper)(j:Nat):Option Nat:=(dY[j]?).bind (·.dst)
def MM(dY:Array Oper)(g:Option (Nat×Bool))(bP o:mE)(yes no:mE->Prop):Prop:=match g with
 |none=>yes bP
 |some (j,want)=>nA (ib dY j) λs=>nA (rdT bP o s) λv=>match v with
  | .bool t=>match lV o s with
   |none=>cond t (cond want (yes ((s,.bool true)::bP)) (no ((s,.bool true)::bP))) (cond want (no ((s,.bool false)::bP)) (yes ((s,.bool false)::bP)))
   |some _=>False
  | .tuple _=>no bP
  |_=>False
def regD(C:Ctx)(dY:Array Oper)(o:mE)(K:WQ mE):List Oper->mE->aH->Prop
 | [],bP,w=>K bP w
 |op::r,bP,w=>MM dY op.guard bP o
  (λfW=>opD C.P C.env fW o op.op op.type w λv w'=>UP C.n op.dst v o fW λiE=>regD C dY o K r iE w')
  (λfW=>UP C.n op.dst undef o fW λiE=>regD C dY o K r iE w)
abbrev BE:=List (List Nat×(aH->Prop))
def iW(op:Oper)(l:List Nat):Bool:=op.after.toList.any λe=>Region.binds .any e && mem l e.on
def dK(op:Oper):BE->BE
 | []=>[]
 |(l,C)::r=>cond (iW op l) (dK op r) ((l,C)::dK op r)
def iJ(i:Nat)(op:Oper):BE->BE
 | []=>[]
 |(l,C)::r=>cond (iW op l) ((i::l,C)::iJ i op r) ((l,C)::iJ i op r)
def An:BE->aH->Prop->Prop
 | [],_,G=>G
 |(_,C)::r,w,G=>C w/\An r w G
def floatD(P:Program)(bP o:mE)(op:Op)(w:aH)(K:Value->Option (aH->Prop)->Prop):Prop:=
 match op with
 | .load t x=>nA (rd bP o x) λv=>match v with
  | .pointer p=>aC p λa=>Vw P t w a λv C=>K v (some C)
  |_=>False
 |op=>Vr P bP o op λv=>K v none
def pushP(i:Nat)(C:Option (aH->Prop))(pd:BE):BE:=match C with
 |some C=>([i],C)::pd
 |none=>pd
def Sa(n:Nat)(op:Oper)(m:Nat):Bool:=op.after.toList.all λe=>!Region.binds .any e ||(Nat.blt e.on n && Nat.testBit m e.on)
def rX(dY:Array Oper)(m i:Nat):Bool:=match dY[i]? with
 |some op=>!Nat.testBit m i && Sa dY.size op m
 |none=>false
def Fz(f:Nat->Bool):Nat->Bool
 |0=>true
 |n+1=>f n && Fz f n
def freeB(dY:Array Oper)(m i:Nat)(oi:Oper):Bool:=Fz (λj=>Nat.beq j i ||Nat.testBit m j ||match dY[j]? with
 |some oj=>oj.after.toList.any (λe=>Region.binds .any e && Nat.beq e.on i) ||oi.apart dY oj
 |none=>true) dY.size
def LV.depth:LV->Nat
 | .dR=>0
 | .no=>0
 | .fl _ p=>p.depth+1
 | .mn _ p r=>cond (Nat.ble (p.depth+1) r.depth) r.depth (p.depth+1)
def JL:LV->Nat->Bool
 | .mn i _ r,j=>Nat.beq i j ||JL r j
 |_,_=>false
def covered(dY:Array Oper)(m:Nat)(p:LV):Bool:=Fz (λj=>JL p j ||!rX dY m j) dY.size
def tS(C:Ctx)(dY:Array Oper)(o:mE)(K:WQ mE):LV->Bool->Nat->BE->mE->aH->Prop
 | .dR,_,m,_,bP,w=>cond (covered dY m .no) (K bP w) False
 | .no,head,_,_,_,_=>cond head False True
 | .fl i p,_,m,pd,bP,w=>nA dY[i]? λop=>cond (rX dY m i && freeB dY m i op) (MM dY op.guard bP o (λfW=>floatD C.P fW o op.op w λv Cv=>UP C.n op.dst v o fW λiE=>tS C dY o K p true (Nat.lor m (Nat.shiftLeft 1 i)) (pushP i Cv (iJ i op pd)) iE w) (λfW=>UP C.n op.dst undef o fW λiE=>tS C dY o K p true (Nat.lor m (Nat.shiftLeft 1 i)) (iJ i op pd) iE w)) False
 | .mn i p r,head,m,pd,bP,w=>cond (!head ||(rX dY m i && covered dY m (.mn i p r))) (match r with
   | .no=>nA dY[i]? λop=>MM dY op.guard bP o (λfW=>yj C.P C.env fW o op.op op.type w λv w'=>An (dK op pd) w' (UP C.n op.dst v o fW λiE=>tS C dY o K p true (Nat.lor m (Nat.shiftLeft 1 i)) (dK op pd) iE w')) (λfW=>An (dK op pd) w (UP C.n op.dst undef o fW λiE=>tS C dY o K p true (Nat.lor m (Nat.shiftLeft 1 i)) (dK op pd) iE w))
   |r=>(nA dY[i]? λop=>MM dY op.guard bP o (λfW=>yj C.P C.env fW o op.op op.type w λv w'=>An (dK op pd) w' (UP C.n op.dst v o fW λiE=>tS C dY o K p true (Nat.lor m (Nat.shiftLeft 1 i)) (dK op pd) iE w')) (λfW=>An (dK op pd) w (UP C.n op.dst undef o fW λiE=>tS C dY o K p true (Nat.lor m (Nat.shiftLeft 1 i)) (dK op pd) iE w)))/\tS C dY o K r false m pd bP w) False
def Fp:List Nat->mE->mE->mE
 | [],_,_=>[]
 |s::r,bP,o=>match rdT bP o s with
  |some v=>(s,v)::Fp r bP o
  |none=>Fp r bP o
def JH(n:Nat)(o:mE):List Oper->Bool
 | []=>true
 |op::r=>(match op.dst with
  |none=>true
  |some d=>Nat.blt d n && (match lV o d with
   |none=>true
   |some _=>false)) && JH n o r
def Dy(dY:Array Oper):Bool:=Fz (λi=>match dY[i]? with
 |some op=>op.after.toList.all λe=>!Region.binds .any e ||Nat.blt e.on i
 |none=>true) dY.size
def fa(dst:Option Nat)(v:Value)(bP:mE):mE:=match dst with
 |none=>bP
 |some d=>(d,v)::bP
def Gd(C:Ctx)(dY:Array Oper)(o:mE)(K:WQ mE):Nat->Nat->mE->aH->Prop
 |0,_,bP,w=>K bP w
 |k+1,m,bP,w=>∀i op,dY[i]? =some op->rX dY m i=true->MM dY op.guard bP o
   (λfW=>opD C.P C.env fW o op.op op.type w λv w'=>Gd C dY o K k (Nat.lor m (Nat.shiftLeft 1 i)) (fa op.dst v fW) w')
   (λfW=>Gd C dY o K k (Nat.lor m (Nat.shiftLeft 1 i)) (fa op.dst undef fW) w)
structure OrdP(C:Ctx)(dY:Array Oper)(o:mE)(K:WQ mE)(w:aH):Prop where
 out:Gd C dY o K dY.size 0 [] w
def xx(P:Program)(bP:mE):List ResultVar->aH->(List Value->Prop)->Prop
 | [],_,K=>K []
 | .tmp t::r,w,K=>nA (rdT bP [] t) λv=>xx P bP r w λvs=>K (v::vs)
 | .cell a t::r,w,K=>nA (rdT bP [] a) λv=>match v with
  | .pointer p=>aC p λad=>Vw P t w ad λv _=>xx P bP r w λvs=>K (v::vs)
  |_=>False
def Na(vs:List Value):Value:=match vs with
 | [v]=>v
 |vs=>.tuple vs.toArray
def postD(P:Program)(rs:List ResultVar)(R:WQ Value)(e:Exit)(bP:mE)(w:aH):Prop:=match e with
 | .normal=>xx P bP rs w λvs=>R (Na vs) w
 | .ret=>xx P bP rs w λvs=>R (Na vs) w
 |_=>False
def Vk(N:WQ mE)(Q:Exit->WQ mE):Exit->mE->aH->Prop
 | .normal,bP,w=>N bP w
 |e,bP,w=>Q e bP w
def Re(id:Nat)(Q:Exit->WQ mE):Exit->mE->aH->Prop
 | .exit i,bP,w=>cond (Nat.beq i id) (Q .normal bP w) (Q (.exit i) bP w)
 |e,bP,w=>Q e bP w
def condD(v:Value)(A B:Prop):Prop:=match v with
 | .bool t=>cond t A B
 |_=>False
def D(C:Ctx):Code->xp->mE->(Exit->WQ mE)->mE->aH->Prop
 | .skip,_,_,Q,bP,w=>Q .normal bP w
 | .region _ dY draw,LN,o,Q,bP,w=>cond draw (match LN with
   | .r p=>cond (Nat.ble p.depth dY.size) (tS C dY o (Q .normal) p true 0 [] bP w.drew) False
   | .o KV=>cond (JH C.n o dY.toList && JH C.n (Fp KV bP o) dY.toList && Dy dY) (OrdP C dY (Fp KV bP o) (Q .normal) w.drew) False
   |_=>False) (regD C dY o (Q .normal) dY.toList bP w)
 | .seq x y,LN,o,Q,bP,w=>match LN with
  | .s a b=>D C x a o (Vk (D C y b o Q) Q) bP w
  | .n=>D C x .n o (Vk (D C y .n o Q) Q) bP w
  | .j jV drop a b=>∀J:Ep (OE jV)->aH->Prop,(∀t w,D C y b o Q (Ln jV t++jO bP drop) w->J t w)->
    D C x a (jO bP drop++o) (Vk (λfW w'=>decL jV fW (jO bP drop++o) λt=>J t w') λe fW w'=>Q e (fW++jO bP drop) w') (Fu bP drop) w
  |_=>False
 | .cond c x y,LN,o,Q,bP,w=>match LN with
  | .c a b=>nA (rd bP o c) λv=>condD v (D C x a o Q bP w) (D C y b o Q bP w)
  | .n=>nA (rd bP o c) λv=>condD v (D C x .n o Q bP w) (D C y .n o Q bP w)
  |_=>False
 | .block id c,LN,o,Q,bP,w=>match LN with
  | .b a=>D C c a o (Re id Q) bP w
  | .n=>D C c .n o (Re id Q) bP w
  |_=>False
 | .loop c,LN,o,Q,bP,w=>match LN with
  | .l jV drop a=>∀X:Ep (OE jV)->aH->Prop,
    (∀t w,D C c a (jO bP drop++o) (Vk (λfW w'=>decL jV fW (jO bP drop++o) λt'=>X t' w') λe fW w'=>Q e (fW++jO bP drop) w') (Ln jV t) w->X t w)->
    decL jV bP o λt=>X t w
  |_=>False
 | .exit id,_,_,Q,bP,w=>Q (.exit id) bP w
 | .ret,_,_,Q,bP,w=>Q .ret bP w
 |_,_,_,_,_,_=>False
theorem kC(x y:mE)(t:Nat):lV (x++y) t=match lV x t with
  |some v=>some v
  |none=>lV y t:=by
 induction x with
 |nil=>rfl
 |cons p x ih=>
  obtain⟨i,v⟩:=p;simp only[List.cons_append,lV];cases Nat.beq i t with
  |true=>rfl
  |false=>exact ih
theorem JO(l:List Nat)(t:Nat):∀(x:mE),lV (jO x l) t=cond (mem l t) none (lV x t)
 | []=>by cases mem l t<;>rfl
 |(i,v)::r=>by
  have ih:=JO l t r;simp only[jO,lV];cases hb:Nat.beq i t with
  |true=>
   have:i=t:=IV hb;subst this;cases hm:mem l i with
   |true=>rw[hm] at ih;exact ih
   |false=>simp only[cond_false,lV,hb,cond_true]
  |false=>
   cases hm:mem l i with
   |true=>simp only[cond_true];rw[ih];rfl
   |false=>simp only[cond_false,lV,hb];rw[ih]
theorem TO(l:List Nat)(t:Nat):∀(x:mE) (v:Value),lV (Fu x l) t=some v->mem l t=true/\lV x t=some v
 | [],v,h=>by cases h
 |(i,u)::r,v,h=>by
  simp only[Fu] at h;cases hm:mem l i with
  |true=>
   rw[hm] at h;simp only[cond_true,lV] at h;cases hb:Nat.beq i t with
   |true=>
    rw[hb] at h;have:i=t:=IV hb;subst this;exact⟨hm,by simp only[lV,hb];exact h⟩
   |false=>
    rw[hb] at h;obtain⟨h1,h2⟩:=TO l t r v h;exact⟨h1,by simp only[lV,hb];exact h2⟩
  |false=>
   rw[hm] at h;obtain⟨h1,h2⟩:=TO l t r v h;refine⟨h1,?_⟩;have:Nat.beq i t=false:=by
    cases hb:Nat.beq i t with
    |false=>rfl
    |true=>
     have:i=t:=IV hb;subst this;rw[h1] at hm;cases hm
   simp only[lV,this];exact h2
theorem lN.outer{n:Nat}{bP o:mE}{a:Act}(h:lN n bP o a)(l:List Nat):∀t v,lV (jO bP l++o) t=some v->a.tmps.getD t undef=v:=by
 intro t v hv;rw[kC,JO] at hv;cases hm:mem l t with
 |true=>rw[hm] at hv;exact h.o t v hv
 |false=>
  rw[hm] at hv;cases hl:lV bP t with
  |some u=>rw[hl] at hv;simp at hv;subst hv;exact h.bP t _ hl
  |none=>rw[hl] at hv;exact h.o t v hv
theorem GS{n:Nat}{bP o:mE}{a:Act}(h:lN n bP o a){t:Nat}{v:Value}(hx:rdT bP o t=some v):a.tmps.getD t undef=v:=
 h.rd (x:=.tmp t) hx
theorem OT{n:Nat}{a:Act}:∀{l:List (Nat×nP)} {bP o:mE} {K:Ep (OE l)->Prop},lN n bP o a->decL l bP o K->
  ∃t,K t/\∀i v,lV (Ln l t) i=some v->a.tmps.getD i undef=v
 | [],_,_,_,_,h=>⟨(),h,λi v hv=>by cases hv⟩
 |(i,k)::r,bP,o,K,hv,h=>by
  obtain⟨v,hr,h1⟩:=aV h;obtain⟨x,rfl,h2⟩:=nP.xY h1;obtain⟨t,hK,ht⟩:=OT (K:=λt=>K (x,t)) hv h2;refine⟨(x,t),hK,λj u hu=>?_⟩;simp only[Ln,lV] at hu;cases hb:Nat.beq i j with
  |true=>
   rw[hb] at hu;have:i=j:=IV hb;subst this;cases hu;exact GS hv hr
  |false=>rw[hb] at hu;exact ht j u hu
theorem EB{n:Nat}{bP o:mE}{a:Act}(hv:lN n bP o a){dY:Array Oper}{op:Oper}{yes no:mE->Prop}(h:MM dY op.guard bP o yes no):
  (∃fW,lN n fW o a/\Region.wanted op (yielded dY a.tmps)=true/\yes fW)\/(∃fW,lN n fW o a/\Region.wanted op (yielded dY a.tmps)=false/\no fW):=by
 unfold MM at h;cases hg:op.guard with
 |none=>rw[hg] at h;exact .inl ⟨bP,hv,by simp[Region.wanted,hg],h⟩
 |some jw=>
  obtain⟨j,want⟩:=jw;rw[hg] at h;obtain⟨s,hs,h1⟩:=aV h;obtain⟨v,hr,h2⟩:=aV h1;cases v<;>try (exact h2.elim)
  case tuple vs=>
   have ht:=GS hv hr;have hy:yielded dY a.tmps j=none:=by
    unfold ib at hs;cases hq:a.tmps[s]? with
    |none=>simp[yielded,hs,hq]
    |some u=>simp[hq] at ht;simp[yielded,hs,hq,ht]
   exact .inr ⟨bP,hv,by simp[Region.wanted,hg,hy],h2⟩
  rename_i t
  have ht:=GS hv hr;have hy:yielded dY a.tmps j=some t:=by
   unfold ib at hs;have hsome:a.tmps[s]? =some (.bool t):=by
    cases hq:a.tmps[s]? with
    |none=>simp[hq,undef] at ht
    |some u=>simp[hq] at ht;rw[ht]
   simp[yielded,hs,hsome]
  cases YD:lV o s with
  |some u=>simp only[YD] at h2
  |none=>
  simp only[YD] at h2;have qf:lN n ((s,.bool t)::bP) o a:=by
   refine⟨hv.size,?_,hv.o,hv.nw⟩;intro i u hu;simp only[lV] at hu;cases hb:Nat.beq s i with
   |true=>
    rw[hb] at hu;have:s=i:=IV hb;subst this;cases hu;exact ht
   |false=>rw[hb] at hu;exact hv.bP i u hu
  cases t<;>cases want
  ·exact .inl ⟨_,qf,by simp[Region.wanted,hg,hy],h2⟩
  ·exact .inr ⟨_,qf,by simp[Region.wanted,hg,hy],h2⟩
  ·exact .inr ⟨_,qf,by simp[Region.wanted,hg,hy],h2⟩
  ·exact .inl ⟨_,qf,by simp[Region.wanted,hg,hy],h2⟩
theorem Wz{P:Program}{env:Env}(LB:QU P env){n:Nat}{bP o:mE}{a:Act}(hv:lN n bP o a)(op:Oper){w:aH}{K:Value->aH->Prop}{next:Act->aH->Prop}{Q:Exit->Act->aH->Prop}
  (h:opD P env bP o op.op op.type w K) (hn:∀v w',K v w'->next (a.put op.dst v) w'):op.wp P a w next Q:=by
 unfold opD at h;cases hp:isPure P op.op with
 |true=>
  rw[hp] at h;obtain⟨v,hK,hr⟩:=Ib hv op h;exact upon_value (hr w) (hn _ _ hK)
 |false=>rw[hp] at h;exact Oi LB hv op h hn
theorem TM{C:Ctx}(LB:QU C.P C.env){dY:Array Oper}{o:mE}{K:mE->aH->Prop}{Q:Exit->Act->aH->Prop}(hQ:∀bP a w,lN C.n bP o a->K bP w->Q .normal a w):
  ∀(l:List Oper) (bP:mE) (a:Act) (w:aH),lN C.n bP o a->regD C dY o K l bP w->wpList C.P dY Q l a w
 | [],bP,a,w,hv,h=>hQ bP a w hv h
 |op::r,bP,a,w,hv,h=>by
  simp only[regD] at h;unfold wpList;rcases EB hv h with⟨fW,kF,hw,h1⟩|⟨fW,kF,hw,h1⟩
  ·rw[if_pos hw]
   refine .inl (Wz LB kF op h1 λv w' h2=>?_);obtain⟨iE,h3,h4⟩:=wK h2;exact TM LB hQ r iE _ w' (h4 a kF) h3
  ·rw[if_neg (by rw[hw];simp)]
   obtain⟨iE,h3,h4⟩:=wK h1;exact TM LB hQ r iE _ w (h4 a kF) h3
def Wd(P:Program)(dY:Array Oper)(Q:Exit->WQ Act):Nat->Array Bool->BE->Act->aH->Prop
 |0,done,_,a,w=>Region.ready .any dY done=[]/\Q .normal a w
 |f+1,done,pd,a,w=>(Region.ready .any dY done=[]->Q .normal a w)/\∀j∈Region.ready .any dY done,∀oj,dY[j]? =some oj->
   wpOp P dY Q j (λa' w'=>(∀p∈dK oj pd,p.2 w')/\Wd P dY Q f (done.setIfInBounds j true) (dK oj pd) a' w') a w
theorem Wd_any{P:Program}{dY:Array Oper}{Q:Exit->Act->aH->Prop}:∀(f:Nat) (done:Array Bool) (pd:BE) (a:Act) (w:aH),Wd P dY Q f done pd a w->wpAny P .any dY Q f done a w
 |0,_,_,_,_,h=>h
 |f+1,done,pd,a,w,h=>⟨h.1,λj hj=>by
  obtain⟨_,o,ho,_⟩:=mem_ready.1 hj;exact wpOp_mono (λa' w' h'=>Wd_any f _ _ a' w' h'.2) (h.2 j hj o ho)⟩
theorem jR{op:Oper}:∀{pd:BE} {p:List Nat×(aH->Prop)},p∈dK op pd↔p∈pd/\iW op p.1=false
 | [],p=>by simp[dK]
 |(l,C)::r,p=>by
  simp only[dK];cases hw:iW op l with
  |true=>
   simp only[cond_true,lL,jR (pd:=r)]
   constructor
   ·rintro⟨h1,h2⟩;exact⟨.inr h1,h2⟩
   ·rintro⟨h1|h1,h2⟩
    ·subst h1;rw[hw] at h2;cases h2
    ·exact⟨h1,h2⟩
  |false=>
   simp only[cond_false,lL,jR (pd:=r)]
   constructor
   ·rintro(h1|⟨h1,h2⟩)
    ·subst h1;exact⟨.inl rfl,hw⟩
    ·exact⟨.inr h1,h2⟩
   ·rintro⟨h1|h1,h2⟩
    ·exact .inl h1
    ·exact .inr ⟨h1,h2⟩
theorem Wd_sub{P:Program}{dY:Array Oper}{Q:Exit->Act->aH->Prop}:∀(f:Nat) (done:Array Bool) (pd ba:BE) (a:Act) (w:aH),(∀p∈ba,p∈pd)->Wd P dY Q f done pd a w->Wd P dY Q f done ba a w
 |0,_,_,_,_,_,_,h=>h
 |f+1,done,pd,ba,a,w,hs,h=>⟨h.1,λj hj oj Kz=>wpOp_mono (λa' w' h'=>by
   have yT:∀p∈dK oj ba,p∈dK oj pd:=λp hp=>jR.2 ⟨hs p (jR.1 hp).1,(jR.1 hp).2⟩;exact⟨λp hp=>h'.1 p (yT p hp),Wd_sub f _ _ _ a' w' yT h'.2⟩) (h.2 j hj oj Kz)⟩
def vB(P:Program)(dY:Array Oper)(Cl:aH->Prop)(o:Oper)(v:Value)(a:Act):Prop:=
 (Region.wanted o (yielded dY a.tmps)=true/\∀w,Cl w->(execOp a.eval o).run P w=.ok (.value v) w)\/
 (Region.wanted o (yielded dY a.tmps)=false/\v=undef)
theorem vB.wpOp{P:Program}{dY:Array Oper}{Cl:aH->Prop}{Q:Exit->Act->aH->Prop}{i:Nat}{o:Oper}{v:Value}{a:Act}(hi:dY[i]? =some o)(hy:vB P dY Cl o v a)
  {K:Act->aH->Prop} {w:aH} (hw:Cl w) (h:K (a.put o.dst v) w):wpOp P dY Q i K a w:=by
 unfold Go.wpOp;simp only[hi];rcases hy with⟨h1,hv⟩|⟨h1,rfl⟩
 ·simp only[h1,if_true,Oper.wp,hv w hw,Oper.upon];exact .inl h
 ·simp only[h1,Bool.false_eq_true,if_false];exact h
theorem yu{P:Program}{dY:Array Oper}{Cl:aH->Prop}{Q:Exit->Act->aH->Prop}{j:Nat}{oi oj:Oper}{v:Value}(hj:dY[j]? =some oj)(hap:oi.apart dY oj=true)
  (dg:∀cs b,oi.op≠.select cs b) (hsj:∀cs b,oj.op≠.select cs b)
  (hQ:∀c a w,Q (.panic c) (a.put oi.dst v) w->Q (.panic c) a w) {K:Act->aH->Prop} {a:Act} {w:aH}
  (hy:vB P dY Cl oi v a) (h:Go.wpOp P dY Q j K (a.put oi.dst v) w):
  Go.wpOp P dY Q j (λa' w'=>vB P dY Cl oi v a'/\K (a'.put oi.dst v) w') a w:=by
 obtain⟨h1,h2,h3⟩:=Oper.apart_spec hap;have of_same:∀{a a':Act},vB P dY Cl oi v a->execOp a'.eval oi=execOp a.eval oi->Region.wanted oi (yielded dY a'.tmps)=Region.wanted oi (yielded dY a.tmps)->vB P dY Cl oi v a':=λhy he hw=>by
  unfold vB at*;rw[he,hw];exact hy
 have aN:∀(a:Act),vB P dY Cl oi v a->∀u,vB P dY Cl oi v (a.put oj.dst u):=λa hy u=>
  of_same hy (execOp_put oi dg a oj.dst u h3) (wanted_put oi a oj.dst u h3)
 have keepD:∀d,vB P dY Cl oi v {a with defers:=d::a.defers}:=λd=>of_same hy rfl rfl;unfold Go.wpOp at*;simp only[hj] at*;rw[wanted_put oj a oi.dst v h1] at h
 split
 ·rename_i hw
  simp only[hw,if_true] at h;rcases h with h|⟨hasks,hlets⟩
  case inr=>exact .inr ⟨by unfold Oper.asks at*;rw[execOp_put oj hsj a oi.dst v h1] at hasks;exact hasks,hlets⟩
  refine .inl ?_;unfold Oper.wp at*;rw[execOp_put oj hsj a oi.dst v h1] at h;generalize (execOp a.eval oj).run P w=r at*;cases r with
  |ok n w'=>
   cases n<;>simp only[Oper.upon] at h ⊢
   case value u=>exact⟨aN a hy u,by rw[<-Act.put_comm a v u h2];exact h⟩
   case skip=>exact⟨aN a hy _,by rw[<-Act.put_comm a v undef h2];exact h⟩
   case defer d=>
    refine⟨aN _ (keepD d) _,?_⟩;rw[<-Act.put_comm _ v undef h2,<-Act.put_defers];exact h
   case enter f args=>
    refine Calls.mono h λe Cy he=>?_;cases e with
    |returned u=>exact⟨aN a hy u,by rw[<-Act.put_comm a v u h2];exact he⟩
    |panicked c=>exact hQ _ _ _ he
    |outgrown=>exact he
   case row row args=>exact Rows.mono h λu Cy he=>⟨aN a hy u,by rw[<-Act.put_comm a v u h2];exact he⟩
  |halt x w'=>
   cases x<;>simp only[Oper.upon] at h ⊢
   case panic u=>exact hQ _ _ _ h
 ·rename_i hw
  simp only[hw] at h;exact⟨aN a hy _,by rw[<-Act.put_comm a v undef h2];exact h⟩
theorem FH{i:Nat}{op:Oper}:∀{pd:BE} {l:List Nat} {Cl:aH->Prop},(l,Cl)∈pd->(l,Cl)∈iJ i op pd\/(iW op l=true/\(i::l,Cl)∈iJ i op pd)
 | [],_,_,h=>by cases h
 |(l',C')::r,l,Cl,h=>by
  simp only[iJ];rcases lL.1 h with h|h
  ·obtain⟨rfl,rfl⟩:=Prod.mk.inj h
   cases hw:iW op l with
   |true=>exact .inr ⟨rfl,by simp⟩
   |false=>exact .inl dL
  ·rcases FH (i:=i) (op:=op) h with h|⟨h1,h2⟩
   ·left;cases iW op l'<;>exact Qb _ h
   ·right;refine⟨h1,?_⟩;cases iW op l'<;>exact Qb _ h2
theorem sI{i:Nat}{op:Oper}:∀{pd:BE} {p:List Nat×(aH->Prop)},p∈iJ i op pd->∃l,(l,p.2)∈pd/\((p.1=l/\iW op l=false)\/(p.1=i::l/\iW op l=true))
 | [],p,h=>by cases h
 |(l',C')::r,p,h=>by
  simp only[iJ] at h;cases hw:iW op l' with
  |true=>
   rw[hw] at h;rcases lL.1 h with h|h
   ·subst h;exact⟨l',by simp,.inr ⟨rfl,hw⟩⟩
   ·obtain⟨l,h1,h2⟩:=sI h
    exact⟨l,Qb _ h1,h2⟩
  |false=>
   rw[hw] at h;rcases lL.1 h with h|h
   ·subst h;exact⟨l',by simp,.inl ⟨rfl,hw⟩⟩
   ·obtain⟨l,h1,h2⟩:=sI h
    exact⟨l,Qb _ h1,h2⟩
theorem QX{op:Oper}{i:Nat}{l:List Nat}(h:∀e∈op.after,Region.binds .any e=true->e.on≠i):iW op (i::l)=iW op l:=by
 unfold iW;rw[Bool.eq_iff_iff,List.any_eq_true,List.any_eq_true]
 constructor
 ·rintro⟨e,he,hb⟩
  simp only[tE] at hb;refine⟨e,he,?_⟩;simp only[tE];refine⟨hb.1,?_⟩;have gF:=h e (by simpa using he) hb.1;have h2:=hb.2;simp only[mem] at h2;have:Nat.beq i e.on=false:=by
   cases hq:Nat.beq i e.on with
   |false=>rfl
   |true=>exact absurd (IV hq).symm gF
  rw[this] at h2;exact h2
 ·rintro⟨e,he,hb⟩
  simp only[tE] at hb;refine⟨e,he,?_⟩;simp only[tE];refine⟨hb.1,?_⟩;simp only[mem];cases Nat.beq i e.on with
  |true=>rfl
  |false=>exact hb.2
theorem Sj{op:Oper}{i:Nat}(h:∀e∈op.after,Region.binds .any e=true->e.on≠i):iW op [i]=false:=by
 rw[QX h];unfold iW;rw[List.any_eq_false];intro e he;simp[mem]
theorem Ns{i:Nat}{oi oj:Oper}(vU:∀e∈oj.after,Region.binds .any e=true->e.on≠i):∀(pd:BE),dK oj (iJ i oi pd)=iJ i oi (dK oj pd)
 | []=>rfl
 |(l,C)::r=>by
  have ih:=Ns (i:=i) (oi:=oi) vU r;simp only[iJ,dK];cases h1:iW oi l with
  |true=>
   simp only[cond_true,dK,QX vU];cases h2:iW oj l with
   |true=>simpa using ih
   |false=>simp[iJ,h1,ih]
  |false=>
   simp only[cond_false,dK];cases h2:iW oj l with
   |true=>simpa using ih
   |false=>simp[iJ,h1,ih]
theorem Hj{P:Program}{dY:Array Oper}{Cl:aH->Prop}{Q:Exit->Act->aH->Prop}{i:Nat}{oi:Oper}{v:Value}(hi:dY[i]? =some oi)(hsel:∀(j:Nat) (o:Oper) cs b,dY[j]? =some o->o.op≠.select cs b)
  (hQ:∀c a w,Q (.panic c) (a.put oi.dst v) w->Q (.panic c) a w):
  ∀(f:Nat) (done:Array Bool) (pd:BE) (a:Act) (w:aH),
   (∀j oj,dY[j]? =some oj->j≠i->done.getD j true=false->(∀e∈oj.after,Region.binds .any e=true->e.on≠i)->oi.apart dY oj=true)->
   i∈Region.ready .any dY done->vB P dY Cl oi v a->Cl w->(∀p∈pd,p.2 w)->
   Wd P dY Q f (done.setIfInBounds i true) (([i],Cl)::iJ i oi pd) (a.put oi.dst v) w->Wd P dY Q (f+1) done pd a w:=by
 intro f
 induction f with
 |zero=>
  intro done pd a w _ hr hy hC hp H;refine⟨λh=>(by rw[h] at hr;cases hr),λj hj oj Kz=>?_⟩
  by_cases CR:j=i
  ·subst CR
   rw[hi] at Kz;cases Kz;exact hy.wpOp hi hC ⟨λp dh=>hp p (jR.1 dh).1,H.1,H.2⟩
  ·have:=ready_mono hj CR
   rw[H.1] at this;cases this
 |succ f ih=>
  intro done pd a w hfree hr hy hC hp H;refine⟨λh=>(by rw[h] at hr;cases hr),λj hj oj Kz=>?_⟩
  by_cases CR:j=i
  ·subst CR
   rw[hi] at Kz;cases Kz;refine hy.wpOp hi hC ⟨λp dh=>hp p (jR.1 dh).1,Wd_sub _ _ _ _ _ _ ?_ H⟩;intro p dh;obtain⟨h1,h2⟩:=jR.1 dh;obtain⟨l,Cl'⟩:=p;rcases FH (i:=j) (op:=oi) h1 with h3|⟨h3,_⟩
   ·exact Qb _ h3
   ·rw[h2] at h3;cases h3
  ·obtain⟨hjun,oj',hoj',oO⟩:=mem_ready.1 hj
   rw[Kz] at hoj';cases hoj';have h1:=H.2 j (ready_mono hj CR) oj Kz;have fk:∀e∈oj.after,Region.binds .any e=true->e.on≠i:=λe he hb heq=>by
    have h1:=oO e he hb;have h0:=(mem_ready.1 hr).1;rw[heq] at h1;rcases Nat.lt_or_ge i done.size with h'|h'
    ·simp[h'] at h0 h1;rw[h0] at h1;cases h1
    ·simp[Array.getElem?_eq_none h'] at h1
   have h2:=yu Kz (hfree j oj Kz CR hjun fk) (λcs b=>hsel i oi cs b hi) (λcs b=>hsel j oj cs b Kz) hQ hy h1;have hfree':∀k ok,dY[k]? =some ok->k≠i->(done.setIfInBounds j true).getD k true=false->
     (∀e∈ok.after,Region.binds .any e=true->e.on≠i)->oi.apart dY ok=true:=λk ok hk hki De vU=>by
    refine hfree k ok hk hki ?_ vU
    by_cases hjk:j=k
    ·subst hjk;exact hjun
    ·rw[getD_set_ne true hjk] at De;exact De
   have dh:dK oj (([i],Cl)::iJ i oi pd)=([i],Cl)::iJ i oi (dK oj pd):=by
    simp only[dK,Sj fk,cond_false];rw[Ns fk]
   rw[dh] at h2;refine wpOp_mono (λa' w' h3=>?_) h2;obtain⟨Tv,hcl,hW⟩:=h3;have hCw:Cl w':=hcl ([i],Cl) dL;have hpd:∀p∈dK oj pd,p.2 w':=λp hpp=>by
    obtain⟨l,Cl'⟩:=p;rcases FH (i:=i) (op:=oi) hpp with h4|⟨_,h4⟩
    ·exact hcl _ (Qb _ h4)
    ·exact hcl (i::l,Cl') (Qb _ h4)
   refine⟨hpd,ih (done.setIfInBounds j true) (dK oj pd) a' w' hfree' (ready_mono hr (Ne.symm CR)) Tv hCw hpd ?_⟩;rw[Array.setIfInBounds_comm _ _ CR];exact hW
theorem TR:∀{pd:BE} {w:aH} {G:Prop},An pd w G->(∀p∈pd,p.2 w)/\G
 | [],_,_,h=>⟨(λp hp=>by cases hp),h⟩
 |(l,C)::r,w,G,h=>by
  obtain⟨h1,h2⟩:=h;obtain⟨h3,h4⟩:=TR h2;exact⟨λp hp=>by
   rcases lL.1 hp with hp|hp
   ·subst hp;exact h1
   ·exact h3 p hp,h4⟩
theorem Zc{P:Program}{n:Nat}{bP o:mE}{a:Act}(hv:lN n bP o a)(op:Oper){w:aH}{K:Value->Option (aH->Prop)->Prop}(h:floatD P bP o op.op w K):
  ∃v Cv,K v Cv/\match Cv with
   |some C=>C w/\∀w',C w'->(execOp a.eval op).run P w'=.ok (.value v) w'
   |none=>∀w',(execOp a.eval op).run P w'=.ok (.value v) w':=by
 have other:Vr P bP o op.op (λv=>K v none)->∃v Cv,K v Cv/\match Cv with
   |some C=>C w/\∀w',C w'->(execOp a.eval op).run P w'=.ok (.value v) w'
   |none=>∀w',(execOp a.eval op).run P w'=.ok (.value v) w':=λhp=>by
  obtain⟨v,hK,hr⟩:=Ib hv op hp;exact⟨v,none,hK,hr⟩
 obtain⟨dst,op,ty,pos,after,guard⟩:=op;cases op
 case load t x=>
  obtain⟨v,hx,h1⟩:=aV h;cases v<;>try (exact h1.elim)
  obtain⟨ad,rfl,h2⟩:=oV h1;obtain⟨v,C,hK,hC,hr⟩:=TP h2;exact⟨v,some C,hK,hC,λw' hw'=>by simp[execOp,hv.rd hx,Instr.loadAt,Instr.sureAddr,hr w' hw']⟩
 all_goals exact other h
theorem wV{f:Nat->Bool}:∀{n:Nat},Fz f n=true->∀i,i<n->f i=true
 |0,_,i,hi=>absurd hi (Nat.not_lt_zero _)
 |n+1,h,i,hi=>by
  simp only[Fz,tE] at h;rcases Nat.lt_or_ge i n with h1|h1
  ·exact wV h.2 i h1
  ·have:i=n:=aB
   subst this;exact h.1
def qK(n m:Nat):Array Bool:=(Array.range n).map λi=>Nat.testBit m i
theorem Jc{n m j:Nat}{d:Bool}:(qK n m).getD j d=if j<n then Nat.testBit m j else d:=by
 unfold qK
 by_cases h:j<n
 ·simp[h]
 ·simp[h]
theorem Jb(n:Nat):Array.replicate n false=qK n 0:=by
 apply Array.ext
 ·simp[qK]
 ·intro i h1 h2
  simp[qK]
theorem mV(m i j:Nat):Nat.testBit (Nat.lor m (Nat.shiftLeft 1 i)) j=(Nat.testBit m j ||decide (i=j)):=by
 show Nat.testBit (m |||1<<<i) j=_;rw[Nat.testBit_or,Nat.testBit_shiftLeft];congr 1
 by_cases RN:i=j
 ·subst RN;simp
 ·by_cases IN:i<=j
  ·obtain⟨k,hk⟩:∃k,j-i=k+1:=⟨j-i-1,aB⟩
   rw[hk];simp[RN,Nat.testBit_succ]
  ·simp[RN,IN]
theorem ZL(n m i:Nat):(qK n m).setIfInBounds i true=qK n (Nat.lor m (Nat.shiftLeft 1 i)):=by
 apply Array.ext_getElem?;intro j;rw[Array.getElem?_setIfInBounds]
 by_cases RN:i=j
 ·subst RN
  by_cases hn:i<n
  ·have:=mV m i i
   simp only[qK,Array.size_map,Array.size_range,hn,if_true,Array.getElem?_map,Array.getElem?_range,Option.map_some,this];simp
  ·simp[qK,hn]
 ·by_cases hn:j<n
  ·have:=mV m i j
   simp only[qK,Array.getElem?_map,Array.getElem?_range,hn,if_true,Option.map_some,this,RN,if_false];simp
  ·simp[qK,hn,RN]
theorem tL{dY:Array Oper}{m j:Nat}:j∈Region.ready .any dY (qK dY.size m)↔rX dY m j=true:=by
 rw[mem_ready];unfold rX Sa;cases ho:dY[j]? with
 |none=>
  simp
 |some o=>
  have cJ:j<dY.size:=(Array.getElem?_eq_some_iff.1 ho).1;simp only[Jc,cJ,if_true,Option.some.injEq,exists_eq_left',tE,Bool.not_eq_true',List.all_eq_true,Bool.or_eq_true]
  constructor
  ·rintro⟨h1,h2⟩
   refine⟨h1,λe he=>?_⟩;cases hb:Region.binds .any e
   ·exact .inl rfl
   ·right
    have:=h2 e (by simpa using he) hb
    split at this
    ·rename_i hl;exact⟨by simpa using hl,this⟩
    ·cases this
  ·rintro⟨h1,h2⟩
   refine⟨h1,λe he hb=>?_⟩;rcases h2 e (by simpa using he) with h|⟨h,h'⟩
   ·rw[hb] at h;cases h
   ·rw[if_pos (by simpa using h)];exact h'
theorem ko{dY:Array Oper}{m i:Nat}{oi:Oper}(h:freeB dY m i oi=true)(j:Nat)(oj:Oper)
  (hj:dY[j]? =some oj) (gF:j≠i) (De:(qK dY.size m).getD j true=false) (vU:∀e∈oj.after,Region.binds .any e=true->e.on≠i):
  oi.apart dY oj=true:=by
 have cJ:j<dY.size:=(Array.getElem?_eq_some_iff.1 hj).1;have h1:=wV h j cJ;rw[Jc,if_pos cJ] at De;simp only[hj,Bool.or_eq_true,De,Bool.false_eq_true,or_false] at h1;rcases h1 with h1|h1|h1
 ·exact absurd (IV h1) gF
 ·rw[List.any_eq_true] at h1
  obtain⟨e,he,hb⟩:=h1;simp only[tE] at hb;exact absurd (IV hb.2) (vU e (by simpa using he) hb.1)
 ·exact h1
def mainStep(C:Ctx)(dY:Array Oper)(o:mE)(K:WQ mE)(i:Nat)(p:LV)(m:Nat)(pd:BE)(bP:mE)(w:aH):Prop:=
 nA dY[i]? λop=>MM dY op.guard bP o
  (λfW=>yj C.P C.env fW o op.op op.type w λv w'=>An (dK op pd) w' (UP C.n op.dst v o fW λiE=>tS C dY o K p true (Nat.lor m (Nat.shiftLeft 1 i)) (dK op pd) iE w'))
  (λfW=>An (dK op pd) w (UP C.n op.dst undef o fW λiE=>tS C dY o K p true (Nat.lor m (Nat.shiftLeft 1 i)) (dK op pd) iE w))
theorem uo{P:Program}{dY:Array Oper}{Q:Exit->Act->aH->Prop}{f:Nat}{done:Array Bool}{l:List Nat}{pd:BE}{a:Act}{w:aH}
  (h:Wd P dY Q f done pd a w):Wd P dY Q f done ((l,λ_=>True)::pd) a w:=by
 suffices H:∀(f:Nat) (done:Array Bool) (pd ba:BE) (a:Act) (w:aH),(∀p∈ba,p∈pd\/∀w,p.2 w)->Wd P dY Q f done pd a w->Wd P dY Q f done ba a w by
  refine H f done pd _ a w (λp hp=>?_) h;rcases lL.1 hp with rfl|hp
  ·exact .inr λ_=>trivial
  ·exact .inl hp
 clear h;intro f
 induction f with
 |zero=>exactλdone pd ba a w _ h=>h
 |succ f ih=>
  intro done pd ba a w hs h;refine⟨h.1,λj hj oj Kz=>wpOp_mono (λa' w' h'=>?_) (h.2 j hj oj Kz)⟩;have yT:∀p∈dK oj ba,p∈dK oj pd\/∀w,p.2 w:=λp hp=>by
   obtain⟨h1,h2⟩:=jR.1 hp;rcases hs p h1 with h3|h3
   ·exact .inl (jR.2 ⟨h3,h2⟩)
   ·exact .inr h3
  exact⟨λp hp=>(yT p hp).elim (h'.1 p) (λh=>h w'),ih _ _ _ a' w' yT h'.2⟩
theorem drawP_mn{C:Ctx}{dY:Array Oper}{o:mE}{K:mE->aH->Prop}{i:Nat}{p r:LV}{head:Bool}{m:Nat}{pd:BE}{bP:mE}{w:aH}(h:tS C dY o K (.mn i p r) head m pd bP w):
  (!head ||(rX dY m i && covered dY m (.mn i p r)))=true/\mainStep C dY o K i p m pd bP w/\(r≠.no->tS C dY o K r false m pd bP w):=by
 have hc:(!head ||(rX dY m i && covered dY m (.mn i p r)))=true:=by
  cases hc:(!head ||(rX dY m i && covered dY m (.mn i p r))) with
  |true=>rfl
  |false=>cases r<;>simp only[tS,hc] at h<;>exact h.elim
 refine⟨hc,?_⟩;cases r<;>simp only[tS,hc,cond_true] at h
 case no=>exact⟨h,λh'=>absurd rfl h'⟩
 all_goals exact⟨h.1,λ_=>by simpa only[tS] using h.2⟩
theorem Zf{C:Ctx}(LB:QU C.P C.env){dY:Array Oper}(hns:Region.noSelect dY=true){o:mE}{K:mE->aH->Prop}{Q:Exit->Act->aH->Prop}(hQ:∀bP a w,lN C.n bP o a->K bP w->Q .normal a w)
  (hQp:∀c a w,¬Q (.panic c) a w):
  ∀(p:LV) (head:Bool) (m:Nat) (pd:BE) (bP:mE) (a:Act) (w:aH) (f:Nat),p.depth<=f->lN C.n bP o a->(∀q∈pd,q.2 w)->tS C dY o K p head m pd bP w->
   (head=true->Wd C.P dY Q f (qK dY.size m) pd a w)/\
   (∀j,JL p j=true->∀f',f=f'+1->∀oj,dY[j]? =some oj->wpOp C.P dY Q j (λa' w'=>(∀q∈dK oj pd,q.2 w')/\Wd C.P dY Q f' (qK dY.size (Nat.lor m (Nat.shiftLeft 1 j))) (dK oj pd) a' w') a w):=by
 intro p
 induction p with
 |dR=>
  intro head m pd bP a w f hd hv hp h;refine⟨λ_=>?_,λj hj=>by cases hj⟩;simp only[tS] at h;cases hc:covered dY m .no with
  |false=>rw[hc] at h;exact h.elim
  |true=>
   rw[hc] at h;have h0:Region.ready .any dY (qK dY.size m)=[]:=by
    cases hr:Region.ready .any dY (qK dY.size m) with
    |nil=>rfl
    |cons j r=>
     have hj:j∈Region.ready .any dY (qK dY.size m):=by rw[hr];simp
     have AV:=tL.1 hj;have cJ:j<dY.size:=by
      unfold rX at AV;cases ho:dY[j]? with
      |none=>rw[ho] at AV;cases AV
      |some _=>exact(Array.getElem?_eq_some_iff.1 ho).1
     have:=wV hc j cJ;simp[JL,AV] at this
   cases f with
   |zero=>exact⟨h0,hQ bP a w hv h⟩
   |succ f=>exact⟨λ_=>hQ bP a w hv h,λj hj=>by rw[h0] at hj;cases hj⟩
 |no=>intro head m pd bP a w f hd hv hp h;exact⟨λhh=>by subst hh;exact h.elim,λj hj=>by cases hj⟩
 |fl i p ih=>
  intro head m pd bP a w f hd hv hp h;refine⟨λ_=>?_,λj hj=>by cases hj⟩;simp only[LV.depth] at hd;obtain⟨f,rfl⟩:∃g,f=g+1:=⟨f-1,aB⟩;simp only[tS] at h;obtain⟨op,hio,h⟩:=aV h;cases hc:(rX dY m i && freeB dY m i op) with
  |false=>rw[hc] at h;exact h.elim
  |true=>
   rw[hc] at h;simp only[cond_true] at h;simp only[tE] at hc;have hir:=tL.2 hc.1;have hfr:=ko hc.2;have yh:∀(ba:BE) (iE:mE) (a':Act),lN C.n iE o a'->(∀q∈ba,q.2 w)->tS C dY o K p true (Nat.lor m (Nat.shiftLeft 1 i)) ba iE w->
     Wd C.P dY Q f ((qK dY.size m).setIfInBounds i true) ba a' w:=λba iE a' kF hp' h'=>by
    rw[ZL];exact(ih true _ ba iE a' w f aB kF hp' h').1 rfl
   ·rcases EB hv h with⟨fW,kF,hw,h1⟩|⟨fW,kF,hw,h1⟩
    ·obtain⟨v,Cv,h2,hr⟩:=Zc kF op h1
     obtain⟨iE,h3,h4⟩:=wK h2;cases Cv with
     |some Cl=>
      obtain⟨hC,hr⟩:=hr;refine Hj (Cl:=Cl) hio (Region.noSelect_spec hns) (λc a w hq=>absurd hq (hQp _ _ _)) f _ pd a w hfr hir (.inl ⟨hw,hr⟩) hC hp ?_;refine yh _ iE _ (h4 a kF) ?_ h3;intro p dh;rcases lL.1 dh with rfl|dh
      ·exact hC
      ·obtain⟨l,h5,_⟩:=sI dh
       exact hp (l,p.2) h5
     |none=>
      refine Hj (Cl:=λ_=>True) hio (Region.noSelect_spec hns) (λc a w hq=>absurd hq (hQp _ _ _)) f _ pd a w hfr hir (.inl ⟨hw,λw' _=>hr w'⟩) trivial hp ?_;exact uo (yh _ iE _ (h4 a kF) (λp dh=>by
       obtain⟨l,h5,_⟩:=sI dh;exact hp (l,p.2) h5) h3)
    ·obtain⟨iE,h3,h4⟩:=wK h1
     refine Hj (Cl:=λ_=>True) (v:=undef) hio (Region.noSelect_spec hns) (λc a w hq=>absurd hq (hQp _ _ _)) f _ pd a w hfr hir (.inr ⟨hw,rfl⟩) trivial hp ?_;exact uo (yh _ iE _ (h4 a kF) (λp dh=>by
      obtain⟨l,h5,_⟩:=sI dh;exact hp (l,p.2) h5) h3)
 |mn i p r ihp ihr=>
  intro head m pd bP a w f hd hv hp h;have hd1:p.depth+1<=f/\r.depth<=f:=by
   simp only[LV.depth] at hd;cases hb:Nat.ble (p.depth+1) r.depth with
   |true=>rw[hb] at hd;have:=Nat.le_of_ble_eq_true hb;simp only[cond_true] at hd;omega
   |false=>
    rw[hb] at hd;have:¬(p.depth+1<=r.depth):=λh=>by rw[Nat.ble_eq_true_of_le h] at hb;cases hb
    simp only[cond_false] at hd;omega
  obtain⟨hc,two⟩:=drawP_mn h
  ·skip
   have second:∀j,JL (.mn i p r) j=true->∀f',f=f'+1->∀oj,dY[j]? =some oj->wpOp C.P dY Q j (λa' w'=>(∀q∈dK oj pd,q.2 w')/\Wd C.P dY Q f' (qK dY.size (Nat.lor m (Nat.shiftLeft 1 j))) (dK oj pd) a' w') a w:=by
    intro j hj f' hf oj Kz;simp only[JL,Bool.or_eq_true] at hj
    by_cases CR:i=j
    ·subst CR
     obtain⟨op,El,h2⟩:=aV two.1;rw[Kz] at El;cases El;unfold wpOp;simp only[Kz];have yh:∀(iE:mE) (a':Act) (w':aH),lN C.n iE o a'->(∀q∈dK oj pd,q.2 w')->tS C dY o K p true (Nat.lor m (Nat.shiftLeft 1 i)) (dK oj pd) iE w'->
       Wd C.P dY Q f' (qK dY.size (Nat.lor m (Nat.shiftLeft 1 i))) (dK oj pd) a' w':=λiE a' w' kF hp' h'=>
      (ihp true _ _ iE a' w' f' aB kF hp' h').1 rfl
     rcases EB hv h2 with⟨fW,kF,hw,h3⟩|⟨fW,kF,hw,h3⟩
     ·rw[if_pos hw]
      refine .inl (Oi LB kF oj h3 λv w' h4=>?_);obtain⟨h5,h6⟩:=TR h4;obtain⟨iE,h7,h8⟩:=wK h6;exact⟨h5,yh iE _ w' (h8 a kF) h5 h7⟩
     ·rw[if_neg (by rw[hw];simp)]
      obtain⟨h5,h6⟩:=TR h3;obtain⟨iE,h7,h8⟩:=wK h6;exact⟨h5,yh iE _ w (h8 a kF) h5 h7⟩
    ·have hjr:JL r j=true:=hj.resolve_left λh=>CR (IV h)
     have hrn:r≠.no:=by rintro rfl;cases hjr
     exact(ihr false m pd bP a w f hd1.2 hv hp (two.2 hrn)).2 j hjr f' hf oj Kz
   refine⟨λhh=>?_,second⟩;subst hh;simp only[Bool.not_true,Bool.false_or,tE] at hc;obtain⟨f,rfl⟩:∃g,f=g+1:=⟨f-1,aB⟩;refine⟨λh0=>?_,λj hj oj Kz=>?_⟩
   ·have:=tL.2 hc.1
    rw[h0] at this;cases this
   ·have AV:=tL.1 hj
    have cJ:j<dY.size:=(Array.getElem?_eq_some_iff.1 Kz).1;have:=wV hc.2 j cJ;simp only[AV,Bool.not_true,Bool.or_false] at this;rw[ZL];exact second j this f rfl oj Kz
theorem Bf{n:Nat}{o:mE}{l:List Oper}(h:JH n o l=true):∀op∈l,∀d,op.dst=some d->d<n/\lV o d=none:=by
 induction l with
 |nil=>intro op hm;cases hm
 |cons op r ih=>
  intro op' hm d hd;simp only[JH,tE] at h;rcases lL.1 hm with he|hm
  ·subst he
   have h1:=h.1;rw[hd] at h1;simp only[tE] at h1;refine⟨by simpa using h1.1,?_⟩;cases hl:lV o d with
   |none=>rfl
   |some v=>rw[hl] at h1;simp at h1
  ·exact ih h.2 op' hm d hd
theorem lN.fa{n:Nat}{bP o:mE}{a:Act}(h:lN n bP o a){dst:Option Nat}(hd:∀d,dst=some d->d<n/\lV o d=none)(v:Value):lN n (Den.fa dst v bP) o (a.put dst v):=by
 cases dst with
 |none=>exact h
 |some d=>
  obtain⟨h1,h2⟩:=hd d rfl;have hp:UP n (some d) v o bP λc=>c=(d,v)::bP:=by
   simp only[UP];rw[show Nat.blt d n=true by simpa using h1,h2];trivial
  obtain⟨c,rfl,hc⟩:=wK hp;exact hc a h
theorem lN.outerOf{n:Nat}{o:mE}{a:Act}(hs:a.tmps.size=n)(hdf:a.defers=[])(h:∀t v,lV o t=some v->a.tmps.getD t undef=v):lN n [] o a:=⟨hs,λ_ _ h=>(by cases h),h,hdf⟩
def tJ(m:Nat):Nat->Nat
 |0=>0
 |n+1=>tJ m n+cond (Nat.testBit m n) 0 1
theorem Ax{m m':Nat}:∀{n},(∀j,j<n->Nat.testBit m' j=Nat.testBit m j)->tJ m' n=tJ m n
 |0,_=>rfl
 |n+1,h=>by simp only[tJ];rw[Ax λj hj=>h j aB,h n aB]
theorem Hr{m i:Nat}(hi:Nat.testBit m i=false):∀{n},i<n->tJ (Nat.lor m (Nat.shiftLeft 1 i)) n+1=tJ m n
 |n+1,h=>by
  simp only[tJ]
  by_cases he:i=n
  ·subst he
   rw[Ax (m:=m) λj hj=>by rw[mV];simp;omega,mV,hi];simp
  ·have:=Hr hi (n:=n) aB
   rw[mV];simp only[he,decide_false,Bool.or_false];omega
theorem Aw{m:Nat}:∀{n},tJ m n=0->∀j,j<n->Nat.testBit m j=true
 |n+1,h,j,hj=>by
  simp only[tJ] at h;cases ht:Nat.testBit m n with
  |false=>rw[ht] at h;simp at h
  |true=>
   by_cases he:j=n
   ·subst he;exact ht
   ·rw[ht] at h
    exact Aw (n:=n) (by simpa using h) j aB
theorem Ay:∀n,tJ 0 n=n
 |0=>rfl
 |n+1=>by simp[tJ,Ay n]
theorem jz{dY:Array Oper}(hd:Dy dY=true){m:Nat}:∀j,j<dY.size->Nat.testBit m j=false->∃i,rX dY m i=true:=by
 intro j
 induction j using Nat.strongRecOn with
 |ind j ih=>
  intro hj ht;have hdj:=wV hd j hj;obtain⟨op,El⟩:∃op,dY[j]? =some op:=⟨dY[j],Array.getElem?_eq_getElem hj⟩;rw[El] at hdj;cases hr:rX dY m j with
  |true=>exact⟨j,hr⟩
  |false=>
   unfold rX at hr;rw[El] at hr;simp only[ht,Bool.not_false,Bool.true_and,Sa] at hr;rw[List.all_eq_false] at hr;obtain⟨e,he,hr⟩:=hr;have cJ:=List.all_eq_true.1 hdj e he;simp only[Bool.or_eq_true,tE,not_or,not_and,Bool.not_eq_true] at hr;have hb:(!Region.binds .any e)=false:=by
    cases hb:(!Region.binds .any e) with
    |false=>rfl
    |true=>rw[hb] at hr;simp at hr
   rw[hb] at hr cJ;have GA:e.on<j:=by simpa using cJ
   have:Nat.testBit m e.on=false:=by
    cases htb:Nat.testBit m e.on with
    |false=>rfl
    |true=>
     have:Nat.blt e.on dY.size=true:=by simp;omega
     rw[this,htb] at hr;simp at hr
   exact ih e.on GA aB this
theorem XC{C:Ctx}(LB:QU C.P C.env){dY:Array Oper}{i0 o:mE}{K:mE->aH->Prop}{Q:Exit->Act->aH->Prop}(hQ:∀bP a w,lN C.n bP o a->K bP w->Q .normal a w)
  (hf:JH C.n o dY.toList=true) (XU:JH C.n i0 dY.toList=true) (hd:Dy dY=true):
  ∀(k m:Nat) (bP:mE) (a:Act) (w:aH),tJ m dY.size=k->lN C.n bP i0 a->(∀t v,lV o t=some v->a.tmps.getD t undef=v)->Gd C dY i0 K k m bP w->wpAny C.P .any dY Q k (qK dY.size m) a w
 |0,m,bP,a,w,hu,hv,ho,h=>by
  refine⟨?_,hQ bP a w ⟨hv.size,hv.bP,ho,hv.nw⟩ h⟩;rw[List.eq_nil_iff_forall_not_mem];intro j hj;have hr:=tL.1 hj;unfold rX at hr;cases El:dY[j]? with
  |none=>rw[El] at hr;cases hr
  |some op=>
   have cJ:j<dY.size:=(Array.getElem?_eq_some_iff.1 El).1;rw[El] at hr;rw[Aw hu j cJ] at hr;simp at hr
 |k+1,m,bP,a,w,hu,hv,ho,h=>by
  refine⟨λh0=>?_,λi hi=>?_⟩
  ·exfalso
   have:∃j,j<dY.size/\Nat.testBit m j=false:=by
    apply Classical.byContradiction;intro hn;have oO:∀j,j<dY.size->Nat.testBit m j=true:=λj hj=>by
     cases ht:Nat.testBit m j with
     |true=>rfl
     |false=>exact absurd ⟨j,hj,ht⟩ hn
    have:tJ m dY.size=0:=by
     clear hu h hv h0 hn;generalize dY.size=n at oO
     induction n with
     |zero=>rfl
     |succ n ih=>simp only[tJ];rw[ih λj hj=>oO j aB,oO n aB];rfl
    omega
   obtain⟨j,hj,ht⟩:=this;obtain⟨i,hi⟩:=jz hd j hj ht;have:=tL.2 hi;rw[h0] at this;cases this
  ·have hr:=tL.1 hi
   have hrr:=hr;unfold rX at hrr;cases El:dY[i]? with
   |none=>rw[El] at hrr;cases hrr
   |some op=>
    rw[El] at hrr;have cJ:i<dY.size:=(Array.getElem?_eq_some_iff.1 El).1;have ht:Nat.testBit m i=false:=by
     simp only[tE] at hrr;simpa using hrr.1
    have wh:tJ (Nat.lor m (Nat.shiftLeft 1 i)) dY.size=k:=by have:=Hr ht cJ;omega
    have fP:op∈dY.toList:=by
     have:=Array.mem_of_getElem? El;simpa using this
    have hd1:=Bf hf op fP;have hd2:=Bf XU op fP;unfold wpOp;rw[El,ZL];have next:∀(fW:mE) (v:Value) (w':aH),lN C.n fW i0 a->Gd C dY i0 K k (Nat.lor m (Nat.shiftLeft 1 i)) (fa op.dst v fW) w'->
      wpAny C.P .any dY Q k (qK dY.size (Nat.lor m (Nat.shiftLeft 1 i))) (a.put op.dst v) w':=λfW v w' kF h'=>
     XC LB hQ hf XU hd k _ _ _ w' wh (kF.fa hd2 v) (((lN.outerOf hv.size hv.nw ho).fa hd1 v).o) h'
    rcases EB hv (h i op El hr) with⟨fW,kF,hw,h1⟩|⟨fW,kF,hw,h1⟩
    ·simp only[hw,if_true]
     exact .inl (Wz LB kF op h1 λv w' h2=>next fW v w' kF h2)
    ·simp only[hw]
     exact next fW undef w kF h1
def MB:Code->Bool
 | .region _ dY _=>Region.noSelect dY
 | .seq x y=>MB x && MB y
 | .cond _ x y=>MB x && MB y
 | .block _ c=>MB c
 | .loop c=>MB c
 |_=>true
theorem D_sound{C:Ctx}(hm:C.P.follows .mixedOrders=true)(LB:QU C.P C.env):∀(c:Code) (LN:xp) (o:mE) (Q:Exit->WQ mE) (bP:mE) (w:aH) (a:Act) (Q':Exit->WQ Act),
  MB c=true->D C c LN o Q bP w->lN C.n bP o a->(∀e fW a' w',lN C.n fW o a'->Q e fW w'->Q' e a' w')->(∀ch a w,¬Q' (.panic ch) a w)->c.wp C.P Q' a w:=by
 intro c
 induction c with
 |skip=>intro LN o Q bP w a Q' _ h hv hQ _;exact wp_skip (hQ _ _ _ _ hv h)
 |region id dY draw=>
  intro LN o Q bP w a Q' hs h hv hQ hp;simp only[D] at h;cases draw with
  |false=>exact wp_region_list (TM LB (λbP a w hv h=>hQ _ _ _ _ hv h) _ _ _ _ hv h)
  |true=>
   cases LN<;>try (exact h.elim)
   case o KV=>
    simp only[cond_true] at h;cases hb:(JH C.n o dY.toList && JH C.n (Fp KV bP o) dY.toList && Dy dY) with
    |false=>rw[hb] at h;exact h.elim
    |true=>
     rw[hb] at h;simp only[tE] at hb;have hpick:∀(l:List Nat) t v,lV (Fp l bP o) t=some v->a.tmps.getD t undef=v:=by
      intro l
      induction l with
      |nil=>intro t v ht;cases ht
      |cons s r ih=>
       intro t v ht;simp only[Fp] at ht;cases hr:rdT bP o s with
       |none=>rw[hr] at ht;exact ih t v ht
       |some u=>
        rw[hr] at ht;simp only[lV] at ht;cases hbq:Nat.beq s t with
        |false=>rw[hbq] at ht;exact ih t v ht
        |true=>
         rw[hbq] at ht;have:s=t:=IV hbq;subst this;cases ht;exact GS hv hr
     refine wp_region_any hm ?_;rw[Jb];exact XC LB (λbP a w hv h=>hQ _ _ _ _ hv h) hb.1.1 hb.1.2 hb.2 dY.size 0 [] _ _ (Ay _) ⟨hv.size,λ_ _ h=>(by cases h),hpick KV,hv.nw⟩ hv.o h.out
   rename_i p
   simp only[cond_true] at h;cases hb:Nat.ble p.depth dY.size with
   |false=>rw[hb] at h;exact h.elim
   |true=>
    rw[hb] at h;refine wp_region_any hm ?_;rw[Jb];exact Wd_any _ _ [] _ _ ((Zf LB hs (λbP a w hv h=>hQ _ _ _ _ hv h) hp p true 0 [] bP a _ _ (Nat.le_of_ble_eq_true hb) hv (λp hp=>by cases hp) h).1 rfl)
 |seq x y ihx ihy=>
  intro LN o Q bP w a Q' hs h hv hQ hp;simp only[MB,tE] at hs;have plain:∀ax ay,D C x ax o (Vk (D C y ay o Q) Q) bP w->(Code.seq x y).wp C.P Q' a w:=λax ay h=>by
   refine wp_seq (ihx ax o _ bP w a _ hs.1 h hv ?_ ?_)
   ·intro e fW a' w' kF h'
    cases e with
    |normal=>exact ihy ay o Q fW w' a' Q' hs.2 h' kF hQ hp
    |exit i=>exact hQ _ _ _ _ kF h'
    |goto l=>exact hQ _ _ _ _ kF h'
    |ret=>exact hQ _ _ _ _ kF h'
    |panic ch=>exact hQ _ _ _ _ kF h'
    |outgrown=>exact hQ _ _ _ _ kF h'
   ·exactλch a w h=>hp ch a w h
  cases LN with
  |n=>exact plain _ _ h
  |s ax ay=>exact plain _ _ h
  |j jV drop ax ay=>
   simp only[D] at h;have h1:=h (λt w=>∀a,lN C.n (Ln jV t++jO bP drop) o a->y.wp C.P Q' a w) (λt w ht a' kF=>ihy ay o Q _ w a' Q' hs.2 ht kF hQ hp);have hvx:lN C.n (Fu bP drop) (jO bP drop++o) a:=⟨hv.size,λt v ht=>hv.bP t v (TO drop t bP v ht).2,hv.outer drop,hv.nw⟩;have dN:∀fW a',lN C.n fW (jO bP drop++o) a'->lN C.n (fW++jO bP drop) o a':=λfW a' kF=>by
    refine⟨kF.size,?_,?_,kF.nw⟩
    ·intro t v ht
     rw[kC] at ht;cases hl:lV fW t with
     |some u=>rw[hl] at ht;simp at ht;subst ht;exact kF.bP t _ hl
     |none=>rw[hl] at ht;simp only at ht;exact kF.o t v (by rw[kC,ht])
    ·intro t v ht
     cases hl:lV (jO bP drop) t with
     |none=>exact kF.o t v (by rw[kC,hl];exact ht)
     |some u=>
      have h2:=kF.o t u (by rw[kC,hl]);rw[JO] at hl;cases hmm:mem drop t with
      |true=>rw[hmm] at hl;cases hl
      |false=>
       rw[hmm] at hl;have e1:=hv.bP t u hl;have e2:=hv.o t v ht;rw[h2,<-e1,e2]
   refine wp_seq (ihx ax _ _ (Fu bP drop) w a _ hs.1 h1 hvx ?_ ?_)
   ·intro e fW a' w' kF h'
    cases e with
    |normal=>
     obtain⟨t,hK,ht⟩:=OT kF h';refine hK a' ⟨kF.size,?_,(dN fW a' kF).o,kF.nw⟩;intro i v hi;rw[kC] at hi;cases hl:lV (Ln jV t) i with
     |some u=>rw[hl] at hi;simp at hi;subst hi;exact ht i _ hl
     |none=>rw[hl] at hi;simp only at hi;exact kF.o i v (by rw[kC,hi])
    |exit i=>exact hQ _ _ _ _ (dN _ _ kF) h'
    |goto l=>exact hQ _ _ _ _ (dN _ _ kF) h'
    |ret=>exact hQ _ _ _ _ (dN _ _ kF) h'
    |panic ch=>exact hQ _ _ _ _ (dN _ _ kF) h'
    |outgrown=>exact hQ _ _ _ _ (dN _ _ kF) h'
   ·exactλch a w h=>hp ch a w h
  |c _ _=>exact h.elim
  |b _=>exact h.elim
  |l _ _ _=>exact h.elim
  |r _=>exact h.elim
  |o _=>exact h.elim
 |cond c x y ihx ihy=>
  intro LN o Q bP w a Q' hs h hv hQ hp;simp only[MB,tE] at hs;have plain:∀ax ay,nA (rd bP o c) (λv=>condD v (D C x ax o Q bP w) (D C y ay o Q bP w))->(Code.cond c x y).wp C.P Q' a w:=λax ay h=>by
   obtain⟨v,hx,h1⟩:=aV h;cases v<;>try (exact h1.elim)
   rename_i t
   refine wp_cond (t:=t) (hv.rd hx) ?_;cases t with
   |true=>exact ihx ax o Q bP w a Q' hs.1 h1 hv hQ hp
   |false=>exact ihy ay o Q bP w a Q' hs.2 h1 hv hQ hp
  cases LN with
  |n=>exact plain _ _ h
  |c ax ay=>exact plain _ _ h
  |s _ _=>exact h.elim
  |b _=>exact h.elim
  |l _ _ _=>exact h.elim
  |j _ _ _ _=>exact h.elim
  |r _=>exact h.elim
  |o _=>exact h.elim
 |block id c ih=>
  intro LN o Q bP w a Q' hs h hv hQ hp;have plain:∀ax,D C c ax o (Re id Q) bP w->(Code.block id c).wp C.P Q' a w:=λax h=>by
   refine wp_block (ih ax o _ bP w a _ hs h hv ?_ ?_)
   ·intro e fW a' w' kF h'
    cases e with
    |exit i=>
     simp only[Re] at h';simp only[Exit.inBlock];cases hb:Nat.beq i id with
     |true=>rw[hb] at h';rw[if_pos (IV hb)];exact hQ _ _ _ _ kF h'
     |false=>rw[hb] at h';rw[if_neg (Nat.ne_of_beq_eq_false hb)];exact hQ _ _ _ _ kF h'
    |normal=>exact hQ _ _ _ _ kF h'
    |goto l=>exact hQ _ _ _ _ kF h'
    |ret=>exact hQ _ _ _ _ kF h'
    |panic ch=>exact hQ _ _ _ _ kF h'
    |outgrown=>exact hQ _ _ _ _ kF h'
   ·exactλch a w h=>hp ch a w h
  cases LN with
  |n=>exact plain _ h
  |b ax=>exact plain _ h
  |s _ _=>exact h.elim
  |c _ _=>exact h.elim
  |l _ _ _=>exact h.elim
  |j _ _ _ _=>exact h.elim
  |r _=>exact h.elim
  |o _=>exact h.elim
 |loop c ih=>
  intro LN o Q bP w a Q' hs h hv hQ hp;cases LN with
  |l jV drop ax=>
   simp only[D] at h;have hbase:∀a',lN C.n [] (jO bP drop++o) a'->∀t v,lV o t=some v->a'.tmps.getD t undef=v:=λa' kF t v ht=>by
    cases hl:lV (jO bP drop) t with
    |none=>exact kF.o t v (by rw[kC,hl];exact ht)
    |some u=>
     have h2:=kF.o t u (by rw[kC,hl]);rw[JO] at hl;cases hmm:mem drop t with
     |true=>rw[hmm] at hl;cases hl
     |false=>
      rw[hmm] at hl;have e1:=hv.bP t u hl;have e2:=hv.o t v ht;rw[h2,<-e1,e2]
   have dN:∀fW a',lN C.n fW (jO bP drop++o) a'->lN C.n (fW++jO bP drop) o a':=λfW a' kF=>by
    refine⟨kF.size,?_,hbase a' ⟨kF.size,(λt v ht=>by cases ht),kF.o,kF.nw⟩,kF.nw⟩;intro t v ht;rw[kC] at ht;cases hl:lV fW t with
    |some u=>rw[hl] at ht;simp at ht;subst ht;exact kF.bP t _ hl
    |none=>rw[hl] at ht;simp only at ht;exact kF.o t v (by rw[kC,ht])
   let X:Ep (OE jV)->aH->Prop:=λt w=>∀a,lN C.n (Ln jV t) (jO bP drop++o) a->
    ∀(b:Frame) (k:List Item) (cs:List Frame),∃e a' w',Q' e a' w'/\Arrives C.P (lone (b.at a (.code c::.inLoop c::k)) cs w) b k cs e a' w'
   have key:=h X (λt w ht a₀ hv₀ b k cs=>by
    have hwp:=ih ax _ _ (Ln jV t) w a₀ (Exit.then (λa' w'=>∃t',lN C.n (Ln jV t') (jO bP drop++o) a'/\X t' w') Q') hs ht hv₀ (by
     intro e fW a' w' kF h';cases e with
     |normal=>
      obtain⟨t',hK,ht'⟩:=OT kF h';exact⟨t',⟨kF.size,ht',kF.o,kF.nw⟩,hK⟩
     |exit i=>exact hQ _ _ _ _ (dN _ _ kF) h'
     |goto l=>exact hQ _ _ _ _ (dN _ _ kF) h'
     |ret=>exact hQ _ _ _ _ (dN _ _ kF) h'
     |panic ch=>exact hQ _ _ _ _ (dN _ _ kF) h'
     |outgrown=>exact hQ _ _ _ _ (dN _ _ kF) h') (λch a w h=>hp ch a w h)
    obtain⟨e,a₁,w₁,hq,Vc⟩:=hwp b (.inLoop c::k) cs;cases e with
    |normal=>
     obtain⟨t',hv₁,hX⟩:=hq;obtain⟨e₂,a₂,w₂,hq₂,harr₂⟩:=hX a₁ hv₁ b k cs;exact⟨e₂,a₂,w₂,hq₂,.of_steps (Steps.trans Vc (.one step_inLoop)) harr₂⟩
    |exit id=>exact⟨_,a₁,w₁,hq,.pass (x:=.inLoop c) rfl (λ_ _=>.inl dL) Vc⟩
    |goto l=>exact⟨_,a₁,w₁,hq,.pass (x:=.inLoop c) rfl (λ_ _=>.inl dL) Vc⟩
    |ret=>exact⟨_,a₁,w₁,hq,.pass (x:=.inLoop c) rfl (λ_ _=>.inl dL) Vc⟩
    |panic ch=>exact⟨_,a₁,w₁,hq,.pass (x:=.inLoop c) rfl (λ_ _=>.inl dL) Vc⟩
    |outgrown=>exact⟨_,a₁,w₁,hq,.pass (x:=.inLoop c) rfl (λ_ _=>.inl dL) Vc⟩)
   obtain⟨t,hX,ht⟩:=OT hv key;intro b k cs;obtain⟨e,a',w',hq,Vc⟩:=hX a ⟨hv.size,ht,hv.outer drop,hv.nw⟩ b k cs;exact⟨e,a',w',hq,.of_steps (.one step_loop) Vc⟩
  |n=>exact h.elim
  |s _ _=>exact h.elim
  |c _ _=>exact h.elim
  |b _=>exact h.elim
  |j _ _ _ _=>exact h.elim
  |r _=>exact h.elim
  |o _=>exact h.elim
 |exit id=>intro LN o Q bP w a Q' _ h hv hQ _;exact wp_exit (hQ _ _ _ _ hv h)
 |ret=>intro LN o Q bP w a Q' _ h hv hQ _;exact wp_ret (hQ _ _ _ _ hv h)
 |rangeFunc _ _ _ _=>intro LN o Q bP w a Q' _ h;exact h.elim
 |scope _=>intro LN o Q bP w a Q' _ h;exact h.elim
 |label _=>intro LN o Q bP w a Q' _ h;exact h.elim
 |goto _=>intro LN o Q bP w a Q' _ h;exact h.elim
 |refuse _=>intro LN o Q bP w a Q' _ h;exact h.elim
def YT(tmps:Array Value):ResultVar->Sem Value
 | .tmp t=>pure (tmps.getD t undef)
 | .cell a t=>do loadVar t (<-asAddr (tmps.getD a undef))
theorem jy(fn:Func)(tmps:Array Value):results fn tmps=(do
 let vs <-fn.results.mapM (YT tmps)
 pure (if h:vs.size=1 then vs[0] else .tuple vs)):=rfl
theorem ZC{P:Program}{n:Nat}{bP:mE}{a:Act}(hv:lN n bP [] a):∀{rs:List ResultVar} {w:aH} {K:List Value->Prop},xx P bP rs w K->
  ∃vs,K vs/\(rs.mapM (YT a.tmps)).run P w=.ok vs w
 | [],w,K,h=>⟨[],h,by simp⟩
 | .tmp t::r,w,K,h=>by
  obtain⟨v,hr,h1⟩:=aV h;obtain⟨vs,hK,Ek⟩:=ZC hv (K:=λvs=>K (v::vs)) h1;exact⟨v::vs,hK,by simp only[List.mapM_cons,YT,Sem.run_bind,Sem.run_pure,Result.andThen_ok,GS hv hr,Ek]⟩
 | .cell c t::r,w,K,h=>by
  obtain⟨v,hr,h1⟩:=aV h;cases v<;>try (exact h1.elim)
  obtain⟨ad,rfl,h2⟩:=oV h1;obtain⟨v,Cl,h3,hC,hl⟩:=TP h2;obtain⟨vs,hK,Ek⟩:=ZC hv (K:=λvs=>K (v::vs)) h3;have ha:∀w,(asAddr (a.tmps.getD c undef)).run P w=.ok ad w:=λw=>by rw[GS hv hr];rfl
  exact⟨v::vs,hK,by simp only[List.mapM_cons,YT,Sem.run_bind,Sem.run_pure,Result.andThen_ok,ha,hl w hC,Ek]⟩
theorem Hz{P:Program}{n:Nat}{bP:mE}{a:Act}{fn:Func}(hv:lN n bP [] a){w:aH}{K:List Value->Prop}(h:xx P bP fn.results.toList w K):
  ∃vs,K vs/\(results fn a.tmps).run P w=.ok (Na vs) w:=by
 obtain⟨vs,hK,hr⟩:=ZC hv h;refine⟨vs,hK,?_⟩;rw[jy,Sem.run_bind];have e:fn.results.mapM (YT a.tmps)=List.toArray<$>fn.results.toList.mapM (YT a.tmps):=by
  rw[<-List.mapM_toArray]
 rw[e];simp only[Sem.run_map,hr,Result.andThen_ok,Sem.run_pure]
 match vs with
 | []=>simp[Na]
 | [v]=>simp[Na]
 |v::u::r=>simp[Na]
def Vx:Nat->List Value->mE
 |_,[]=>[]
 |i,v::r=>(i,v)::Vx (i+1) r
theorem Il:∀(vs:List Value) (i t:Nat) (v:Value),lV (Vx i vs) t=some v->i<=t/\vs[t-i]? =some v
 | [],_,_,_,h=>by cases h
 |u::r,i,t,v,h=>by
  simp only[Vx,lV] at h;cases hb:Nat.beq i t with
  |true=>
   rw[hb] at h;have:i=t:=IV hb;subst this;cases h;simp
  |false=>
   rw[hb] at h;obtain⟨h1,h2⟩:=Il r (i+1) t v h;have e:t-i=(t-(i+1))+1:=aB;refine⟨aB,?_⟩;rw[e];simpa using h2
theorem CK.OS{k:CK}{x:k.T}{K:k.T->Prop}(h:K x):k.XW (k.aY x) K:=by
 cases k
 case int k=>cases k<;>exact h
 all_goals first
  |exact h
  |(simp only[CK.aY];cases x<;>exact h)
theorem Iz:∀{l:List CK} {t:CTs l} {K:CTs l->Prop},K t->decs l (qH l t) K
 | [],_,_,h=>h
 |_::r,t,K,h=>CK.OS (x:=t.1) (K:=λx=>decs r (qH r t.2) λt=>K (x,t)) (Iz (l:=r) (t:=t.2) h)
theorem nP.OS{k:nP}{x:k.T}{K:k.T->Prop}(h:K x):k.XW (k.aY x) K:=by
 cases k with
 |c k=>exact CK.OS (k:=k) h
 |agg l=>exact Iz (l:=l) h
theorem gI:∀{ks:List nP} {t:Ep ks} {K:Ep ks->Prop},K t->Ff ks (yU ks t) K
 | [],_,_,h=>h
 |_::r,t,K,h=>nP.OS (x:=t.1) (K:=λx=>Ff r (yU r t.2) λt=>K (x,t)) (gI (ks:=r) (t:=t.2) h)
def retK(ks:List nP)(v:Value)(C:Ep ks->Prop):Prop:=match ks,C with
 | [k],C=>k.XW v λr=>C (r,())
 |ks,C=>match v with
  | .tuple vs=>Ff ks vs.toList C
  |_=>False
theorem sound_of{P:Program}{g:FuncId}{fn:Func}(hf:P.funcs[g]? =some fn)(bW:fn.body.isSome=true)(hm:P.follows .mixedOrders=true)(hs:MB (fn.body.getD .skip)=true)(LN:xp)(env:Env)(LB:QU P env)(ks:List nP)
  (hk:Nat.ble ks.length fn.ntmps=true) (F:Ep ks->aH->(Value->aH->Prop)->Prop)
  (hF:∀t w K,F t w K=D ⟨P,fn.ntmps,env⟩ (fn.body.getD .skip) LN [] (postD P fn.results.toList K) (Vx 0 (yU ks t)) w):
  oS P g λargs w K=>Ff ks args λt=>F t w K:=by
 intro args w K h;obtain⟨c,hb⟩:=Ew.1 bW;have hc:fn.body.getD .skip=c:=by rw[hb];rfl
 obtain⟨t,rfl,h1⟩:=wN h;rw[hF,hc] at h1;rw[hc] at hs;have fU:∀(ks:List nP) (t:Ep ks),(yU ks t).length=ks.length:=by
  intro ks
  induction ks with
  |nil=>intro t;rfl
  |cons k r ih=>intro t;simp[yU,ih]
 have IN:ks.length<=fn.ntmps:=Nat.le_of_ble_eq_true hk;refine calls_of_wp hf hb ?_;refine D_sound (C:=⟨P,fn.ntmps,env⟩) hm LB c LN [] _ _ w _ _ hs h1 ?_ ?_ ?_
 ·refine⟨?_,?_,(λt v ht=>by cases ht),rfl⟩
  ·simp[fU];omega
  ·intro i v hi
   obtain⟨_,h2⟩:=Il _ _ _ _ hi;simp only[Nat.sub_zero] at h2;have dJ:i<(yU ks t).length:=(kU.1 h2).1;simp only[Array.getD_eq_getD_getElem?];rw[Array.getElem?_append_left (by simpa using dJ)];simp[h2]
 ·intro e fW a' w' kF hq
  cases e with
  |normal=>
   obtain⟨vs,hK,hr⟩:=Hz kF hq;exact⟨kF.nw,_,hr,_,rfl,hK⟩
  |ret=>
   obtain⟨vs,hK,hr⟩:=Hz kF hq;exact⟨kF.nw,_,hr,_,rfl,hK⟩
  |exit i=>exact hq.elim
  |goto l=>exact hq.elim
  |panic ch=>exact hq.elim
  |outgrown=>exact hq.elim
 ·rintro ch a w ⟨_,v,hv,_⟩
  cases hv
structure SD(P:Program) where
 g:FuncId
 T:Tr
 e:enters P g=true
 s:oS P g T
def sdE{P:Program}:List (SD P)->Env
 | []=>[]
 |d::r=>(d.g,d.T)::sdE r
theorem sdOk{P:Program}:∀l:List (SD P),QU P (sdE l)
 | []=>trivial
 |d::r=>⟨⟨d.e,d.s⟩,sdOk r⟩
abbrev Ug(ks:List nP)(G:Ep ks->World->(Value->World->Prop)->Prop):Tr:=λargs w K=>Ff ks args λt=>G t w K
def dV{P:Program}(g:FuncId){fn:Func}(hf:P.funcs[g]? =some fn)(hm:P.follows .mixedOrders=true)(LN:xp)(l:List (SD P))(ks:List nP)(G:Ep ks->World->(Value->World->Prop)->Prop)(hb:fn.body.isSome=true:=by kernel_rfl)(hs:MB (fn.body.getD .skip)=true:=by kernel_rfl)(hk:Nat.ble ks.length fn.ntmps=true:=by kernel_rfl)(he:enters P g=true:=by kernel_rfl)
  (hF:∀t w K,G t w K=D ⟨P,fn.ntmps,sdE l⟩ (fn.body.getD .skip) LN [] (postD P fn.results.toList K) (Vx 0 (yU ks t)) w:=by intro t w K;kernel_rfl):SD P:=
 ⟨g,Ug ks G,he,sound_of hf hb hm hs LN (sdE l) (sdOk l) ks hk G hF⟩
def LV.f:Nat->Nat->LV->LV
 |_,0,p=>p
 |s,n+1,p=>.fl s (LV.f (s+1) n p)
def xp.k:Nat->xp->xp
 |0,a=>a
 |i+1,a=>.s .n (xp.k i a)
abbrev bR(w:World)(a:Addr)(K:Int->Prop):Prop:=xL (.int .i64) w a K
abbrev fD(w:World)(a:Addr)(K:Sl->Prop):Prop:=xL .slice w a K
abbrev jC(w:World)(a:Addr)(K:Option Addr->Prop):Prop:=xL .ptr w a K
abbrev OB(w:World)(a:Addr)(K:Option Nat->Prop):Prop:=xL .map w a K
abbrev TZ(w:World)(a:Addr)(K:Bool->Prop):Prop:=xL .bool w a K
abbrev bD:Sl:=⟨none,0,0⟩
abbrev vl(s:Sl):Value:=.slice s.b s.l s.c
abbrev mA{α:Type}(B:(α->World->Prop)->α->World->Prop)(t:α)(w:World):Prop:=∀X:α->World->Prop,(∀t w,B X t w->X t w)->X t w
abbrev gD(i:Int)(n:Nat):Prop:=0<=i/\i<(n:Int)
abbrev cX(p:Prop)[Decidable p](A B:Prop):Prop:=cond (decide p) A B
abbrev qu:=Int×Int×Int×Int×Unit
abbrev T_1_y:=Int×Int×Int×Int×Int×Int×Unit
abbrev CK.i:CK:=.int .i64
abbrev nP.i:nP:=.c (.int .i64)
structure aW(F:Nat->Prop)(w w':aH):Prop where
 os:w'.os=w.os
 tape:w'.tape=w.tape
 output:w'.output=w.output
 size:w.heap.size<=w'.heap.size
 block:∀k,k<w.heap.size->¬F k->w'.heap[k]? =w.heap[k]?
abbrev aM(w w':aH):Prop:=aW (λ_=>False) w w'
theorem aW.refl(F:Nat->Prop)(w:aH):aW F w w:=⟨rfl,rfl,rfl,iT _,λ_ _ _=>rfl⟩
theorem aW.mono{F G:Nat->Prop}{w w':aH}(h:aW F w w')(hs:∀k,k<w.heap.size->F k->G k):aW G w w':=
 ⟨h.os,h.tape,h.output,h.size,λk hk hn=>h.block k hk λhf=>hn (hs k hk hf)⟩
theorem aW.trans{F G:Nat->Prop}{a b c:aH}(h:aW F a b)(h':aW G b c)(hs:∀k,k<a.heap.size->G k->F k):aW F a c:=
 ⟨h'.os.trans h.os,h'.tape.trans h.tape,h'.output.trans h.output,iF h.size h'.size,
  λk hk hn=>(h'.block k (mD hk h.size) λhg=>hn (hs k hk hg)).trans (h.block k hk hn)⟩
theorem aW.tr{F:Nat->Prop}{a b c:aH}(h:aW F a b)(h':aW F b c):aW F a c:=h.trans h' λ_ _ h=>h
theorem aM.aK{F:Nat->Prop}{w w':aH}(h:aM w w'):aW F w w':=h.mono λ_ _ h=>h.elim
theorem aW.wk{F:Nat->Prop}{w w':aH}(h:aW (λ_=>False) w w'):aW F w w':=h.mono λ_ _ h=>h.elim
theorem aW.drew{F:Nat->Prop}{a w:aH}(h:aW F a w):aW F a w.drew:=⟨h.os,h.tape,h.output,h.size,h.block⟩
theorem aM.alloc(w:aH)(o:Obj):aM w (w.alloc o):=⟨rfl,rfl,rfl,by simp,λk hk _=>RowKit.Below.heap_alloc w o k hk⟩
theorem aW.alloc{F:Nat->Prop}{a w:aH}(h:aW F a w)(o:Obj):aW F a (w.alloc o):=h.trans (aM.alloc w o) λ_ _ h=>h.elim
theorem aW.setRow(w:aH)(g:Nat)(cs:Array Value):aW (λk=>k=g) w (w.setRow g cs):=⟨rfl,rfl,rfl,by simp,λk _ hk=>setRow_other w g k cs hk⟩
theorem aW.fresh{F G:Nat->Prop}{a w w':aH}(h:aW F a w)(h':aW G w w')(hs:∀k,G k->a.heap.size<=k):aW F a w':=
 h.trans h' λk hk hg=>absurd (hs k hg) aB
theorem aW.below{w w':aH}{B:Nat}(h:aW (λk=>B<=k) w w')(hB:B<=w.heap.size):RowKit.Below B w w':=
 ⟨h.os,h.tape,h.output,h.size,λk hk=>h.block k aB aB⟩
theorem Sb{w:aH}{a:Addr}{v:Value}(h:w.cell? a=some v):a.block<w.heap.size:=World.block_lt_of_cell? w a h
theorem aW.cell{F:Nat->Prop}{w w':aH}(h:aW F w w'){a:Addr}{v:Value}(hc:w.cell? a=some v)(hn:¬F a.block):w'.cell? a=some v:=
 (World.cell?_of_block (h.block _ (Sb hc) hn)).trans hc
theorem add_add(a:Addr)(m n:Nat):(a.add m).add n=a.add (m+n):=by
 unfold Addr.add
 by_cases hm:m=0<;>by_cases hn:n=0<;>simp[hm,hn,Nat.add_assoc]
@[simp] theorem add_block(a:Addr)(n:Nat):(a.add n).block=a.block:=by unfold Addr.add;split<;>rfl
theorem add_zero(a:Addr):a.add 0=a:=by simp[Addr.add]
theorem TS{w w':aH}{a:Addr}(hb:w'.heap[a.block]? =w.heap[a.block]?):∀{vs:List Value} {i:Nat},bY w a i vs->bY w' a i vs
 | [],_,_=>trivial
 |_::_,_,h=>⟨(World.cell?_of_block (w:=w) (by simpa using hb)).trans h.1,TS hb h.2⟩
theorem oH{w:aH}{a:Addr}:∀{vs:List Value} {i:Nat},bY w a i vs↔∀j v,vs[j]? =some v->w.cell? (a.add (i+j))=some v
 | [],i=>by simp[bY]
 |v::r,i=>by
  simp only[bY];rw[oH (vs:=r) (i:=i+1)]
  constructor
  ·rintro⟨h1,h2⟩ j u hu
   cases j with
   |zero=>simp only[List.getElem?_cons_zero,Option.some.injEq] at hu;subst hu;exact h1
   |succ j=>simp only[List.getElem?_cons_succ] at hu;have:=h2 j u hu;rwa[show i+1+j=i+(j+1) by omega] at this
  ·intro h
   exact⟨h 0 v rfl,λj u hu=>by have:=h (j+1) u hu;rwa[show i+(j+1)=i+1+j by omega] at this⟩
structure Rd{α:Type}(w:aH)(s:Sl)(n:Nat)(aY:α->List Value)(xs:List α):Prop where
 len:s.l=xs.length
 cap:s.l<=s.c
 get:∀i x,xs[i]? =some x->∃a,s.b=some a/\bY w (a.add (i*n)) 0 (aY x)
theorem Rd.nil{α:Type}(w:aH)(n:Nat)(aY:α->List Value):Rd w bD n aY []:=⟨rfl,iT _,λi x h=>by simp at h⟩
theorem Rd.aK{α:Type}{F:Nat->Prop}{w w':aH}{s:Sl}{n:Nat}{aY:α->List Value}{xs:List α}(h:Rd w s n aY xs)(hm:aW F w w')(gF:∀x,aY x≠[])
  (hF:∀a,s.b=some a->¬F a.block):Rd w' s n aY xs:=
 ⟨h.len,h.cap,λi x hx=>by
  obtain⟨a,ha,hh⟩:=h.get i x hx;have cJ:a.block<w.heap.size:=by
   cases he:aY x with
   |nil=>exact absurd he (gF x)
   |cons v r=>rw[he] at hh;have:=Sb hh.1;simpa using this
  exact⟨a,ha,TS (by simpa using hm.block _ cJ (hF a ha)) hh⟩⟩
theorem Rd.qe{α:Type}{w w':aH}{s:Sl}{n:Nat}{aY:α->List Value}{xs:List α}(h:Rd w s n aY xs)(hm:aW (λk=>w.heap.size<=k) w w')(gF:∀x,aY x≠[]):Rd w' s n aY xs:=
 ⟨h.len,h.cap,λi x hx=>by
  obtain⟨a,ha,hh⟩:=h.get i x hx;have cJ:a.block<w.heap.size:=by
   cases he:aY x with
   |nil=>exact absurd he (gF x)
   |cons v r=>rw[he] at hh;have:=Sb hh.1;simpa using this
  exact⟨a,ha,TS (by simpa using hm.block _ cJ aB) hh⟩⟩
theorem Rd.part{α:Type}{w:aH}{s:Sl}{n:Nat}{aY:α->List Value}{xs:List α}(h:Rd w s n aY xs){i j c:Nat}(RN:i<=j)(hj:j<=s.l)(hc:j<=c)(_:c<=s.c):
  Rd w ⟨aR s.b s.c i n,j-i,c-i⟩ n aY ((xs.drop i).take (j-i)):=by
 refine⟨?_,?_,λk x hk=>?_⟩
 ·have:=h.len;simp only[pW,List.length_drop];omega
 ·show j-i<=c-i;omega
 ·have cJ:k<j-i:=by
   have:=(kU.1 hk).1;simp at this;omega
  rw[UR cJ,List.getElem?_drop] at hk;obtain⟨a,ha,hh⟩:=h.get (i+k) x hk;refine⟨a.add (i*n),?_,?_⟩
  ·show aR s.b s.c i n=_
   have:s.c≠i:=by have:=h.cap;omega
   simp[aR,this,ha]
  ·rw[add_add,<-Nat.add_mul];exact hh
theorem aF{b:Bool}{A B:Prop}(h1:b=true->A)(h2:b=false->B):cond b A B:=by cases b<;>simp_all
theorem aJ{p:Prop}[Decidable p]{A B:Prop}(h1:p->A)(h2:¬p->B):cond (decide p) A B:=by by_cases h:p<;>simp_all
theorem aA{p:cL}{K:Addr->Prop}{a:Addr}(h:p=some a)(hK:K a):aC p K:=by subst h;exact hK
theorem aE{k:CK}{w:aH}{a:Addr}{K:k.T->Prop}(x:k.T)(h:w.cell? a=some (k.aY x))(hK:K x):xL k w a K:=⟨x,h,hK⟩
theorem bJ{l:List CK}{w:aH}{a:Addr}{K:CTs l->Prop}(x:CTs l)(h:bY w a 0 (qH l x))(hK:K x):eY l w a K:=⟨x,h,hK⟩
theorem bO{S:Type}{body:(S->aH->Prop)->S->aH->Prop}(I:Nat->WQ S)(n:Nat){t:S}{w:aH}(h0:I n t w)
  (step:∀n t w,I n t w->∀X:S->aH->Prop,(∀m t' w',m<n->I m t' w'->X t' w')->body X t w):
  ∀X:S->aH->Prop,(∀t w,body X t w->X t w)->X t w:=by
 intro X hX
 induction n using Nat.strongRecOn generalizing t w with
 |ind n ih=>exact hX t w (step n t w h0 X λm t' w' hm h=>ih m hm h)
theorem gM{n:Int}(h0:-9223372036854775808<=n)(h1:n<=9223372036854775807):aQ n=n:=by show IntKind.wrap .i64 n=n;rw[IntKind.wrap_i64];omega
theorem Bd(w:aH)(cs:Array Value)(t:TypeId):bY (w.alloc (.cells cs t)) ⟨w.heap.size,0,none⟩ 0 cs.toList:=by
 rw[oH];intro j v hv;have:(⟨w.heap.size,0,none⟩:Addr).add (0+j)=⟨w.heap.size,j,none⟩:=by unfold Addr.add;split<;>simp_all
 rw[this,cell_of_row _ _ _ cs t (0,0) (heap_alloc_new w _)];simpa using hv
theorem w64n(n:Nat)(h:n<=9223372036854775807):aQ (n:Int)=(n:Int):=gM aB aB
theorem aS(g o n:Nat):(⟨g,o,none⟩:Addr).add n=⟨g,o+n,none⟩:=by unfold Addr.add;split<;>simp_all
def cW(w:aH)(g:Nat)(e:TypeId)(cs:List Value):Prop:=w.heap[g]? =some (.cells cs.toArray e (0,0))
theorem cW.lt{w:aH}{g:Nat}{e:TypeId}{cs:List Value}(h:cW w g e cs):g<w.heap.size:=(Array.getElem?_eq_some_iff.1 h).1
theorem cW.aK{F:Nat->Prop}{w w':aH}{g:Nat}{e:TypeId}{cs:List Value}(h:cW w g e cs)(hm:aW F w w')(hF:¬F g):cW w' g e cs:=(hm.block g h.lt hF).trans h
theorem cW.cell{w:aH}{g:Nat}{e:TypeId}{cs:List Value}(h:cW w g e cs)(j:Nat):w.cell? ⟨g,j,none⟩=cs[j]?:=by
 rw[cell_of_row w g j _ e (0,0) h];simp
theorem cW.holds{w:aH}{g:Nat}{e:TypeId}{cs:List Value}(h:cW w g e cs){o:Nat}{vs:List Value}(hv:∀j v,vs[j]? =some v->cs[o+j]? =some v):bY w ⟨g,o,none⟩ 0 vs:=by
 rw[oH];intro j v hj;rw[aS,pN,h.cell];exact hv j v hj
theorem cW.iP(w:aH)(cs:Array Value)(e:TypeId):cW (w.alloc (.cells cs e)) w.heap.size e cs.toList:=heap_alloc_new w _
theorem cW.setRow{w:aH}{g:Nat}{e:TypeId}{cs:List Value}(h:cW w g e cs)(ds:List Value):cW (w.setRow g ds.toArray) g e ds:=setRow_heap w g _ _ e _ h
theorem BZ{P:Program}{t:TypeId}{g o:Nat}{v:Value}{w:aH}{K:aH->Prop}{e:TypeId}{cs:List Value}(h:cW w g e cs)
  (hi:(P.info? t).map (·.size)=some v.cells.size) (PU:o+v.cells.size<=cs.length) (h1:∀u∈v.cells.toList,u.oneCell'=true)
  (hK:∀w',cW w' g e (cs.take o++v.cells.toList++cs.drop (o+v.cells.size))->aW (λk=>k=g) w w'->w'.heap.size=w.heap.size->K w'):aI P t ⟨g,o,none⟩ v w K:=by
 have ET:=run_storeCells_at P g o e v.cells.toList 0 cs.toArray w h (by simpa using PU) h1;cases hq:P.info? t with
 |none=>simp[hq] at hi
 |some i=>
  have hs:v.cells.size=i.size:=by simp[hq] at hi;omega
  refine⟨_,?_,hK _ (h.setRow _) (aW.setRow w g _) dL⟩;simp[storeVar,sizeOf,typeInfo,hq,hs,ET]
theorem Lv{α:Type}(l:List α)(o:Nat)(v:α)(h:o<l.length):l.take o++[v]++l.drop (o+1)=l.set o v:=by
 rw[List.set_eq_take_append_cons_drop,if_pos h];simp
theorem cI{P:Program}{t:TypeId}{g o:Nat}{v:Value}{w:aH}{K:aH->Prop}{e:TypeId}{cs:List Value}(h:cW w g e cs)
  (hi:(P.info? t).map (·.size)=some 1) (PU:o<cs.length) (hc:v.cells=#[v]) (h1:v.oneCell'=true)
  (hK:∀w',cW w' g e (cs.set o v)->aW (λk=>k=g) w w'->w'.heap.size=w.heap.size->K w'):aI P t ⟨g,o,none⟩ v w K:=by
 refine BZ h (by rw[hi,hc];rfl) (by rw[hc];exact PU) (by rw[hc];simpa using h1) λw' h2 h3 h4=>hK w' ?_ h3 h4;rw[hc] at h2;simpa [Lv _ _ _ PU,<-sD] using h2
structure dQ{α:Type}(w:aH)(e:TypeId)(n:Nat)(aY:α->List Value)(s:Sl)(xs:List α):Prop where
 len:s.l=xs.length
 cap:s.l<=s.c
 max:s.c<=maxLen
 gN:(s.b=none/\s.c=0)\/∃g dE,s.b=some ⟨g,0,none⟩/\cW w g e (xs.flatMap aY++dE)/\(xs.flatMap aY++dE).length=s.c*n
theorem bI{α:Type}{aY:α->List Value}{n:Nat}(fZ:∀x,(aY x).length=n):∀xs:List α,(xs.flatMap aY).length=xs.length*n
 | []=>by simp
 |x::r=>by simp only[EY,mL,fZ,nU,bI fZ r];rw[Nat.add_mul];omega
theorem sU{α:Type}{aY:α->List Value}{n:Nat}(fZ:∀x,(aY x).length=n):∀(xs:List α) (i:Nat) (x:α) (j:Nat) (v:Value) (dE:List Value),xs[i]? =some x->(aY x)[j]? =some v->(xs.flatMap aY++dE)[i*n+j]? =some v
 | [],i,x,j,v,dE,h,_=>by simp at h
 |y::r,0,x,j,v,dE,h,hv=>by
  simp at h;subst h;have:j<(aY y).length:=(kU.1 hv).1;simp only[EY,Nat.zero_mul,pN,sD];rw[Ey this];exact hv
 |y::r,i+1,x,j,v,dE,h,hv=>by
  simp only[List.getElem?_cons_succ] at h;simp only[EY,sD];rw[Ez (by rw[fZ,Nat.add_mul];omega),fZ,show(i+1)*n+j-n=i*n+j by rw[Nat.add_mul];omega];exact sU fZ r i x j v dE h hv
theorem dQ.nil{α:Type}(w:aH)(e:TypeId)(n:Nat)(aY:α->List Value):dQ w e n aY bD []:=⟨rfl,iT _,iG _,.inl ⟨rfl,rfl⟩⟩
theorem dQ.rd{α:Type}{w:aH}{e:TypeId}{n:Nat}{aY:α->List Value}{s:Sl}{xs:List α}(h:dQ w e n aY s xs)(fZ:∀x,(aY x).length=n):Rd w s n aY xs:=by
 refine⟨h.len,h.cap,λi x hx=>?_⟩;have cJ:i<xs.length:=(kU.1 hx).1;rcases h.gN with⟨_,h2⟩|⟨g,dE,hb,ho,hl⟩
 ·have:=h.len;have:=h.cap;omega
 ·refine⟨_,hb,?_⟩
  rw[aS];exact ho.holds λj v hv=>by rw[pN];exact sU fZ xs i x j v dE hx hv
theorem dQ.aK{α:Type}{F:Nat->Prop}{w w':aH}{e:TypeId}{n:Nat}{aY:α->List Value}{s:Sl}{xs:List α}(h:dQ w e n aY s xs)(hm:aW F w w')(hF:∀a,s.b=some a->¬F a.block):dQ w' e n aY s xs:=
 ⟨h.len,h.cap,h.max,h.gN.imp id λ⟨g,dE,hb,ho,hl⟩=>⟨g,dE,hb,ho.aK hm (hF _ hb),hl⟩⟩
theorem dQ.lt{α:Type}{w:aH}{e:TypeId}{n:Nat}{aY:α->List Value}{s:Sl}{xs:List α}(h:dQ w e n aY s xs){a:Addr}(ha:s.b=some a):a.block<w.heap.size:=by
 rcases h.gN with⟨h1,_⟩|⟨g,dE,hb,ho,hl⟩
 ·rw[h1] at ha;cases ha
 ·rw[hb] at ha;cases ha;exact ho.lt
theorem dQ.lit{α:Type}(w:aH)(e:TypeId){n:Nat}(aY:α->List Value)(fZ:∀x,(aY x).length=n)(xs:List α)(cs:Array Value)(hc:cs.toList=xs.flatMap aY)(hm:xs.length<=maxLen):
  dQ (w.alloc (.cells cs e)) e n aY ⟨some ⟨w.heap.size,0,none⟩,xs.length,xs.length⟩ xs:=
 ⟨rfl,iT _,hm,.inr ⟨_,[],rfl,by rw[tD,<-hc];exact cW.iP w cs e,by rw[tD];exact bI fZ xs⟩⟩
theorem dQ.take{α:Type}{w:aH}{e:TypeId}{n:Nat}{aY:α->List Value}{s:Sl}{xs:List α}(h:dQ w e n aY s xs){i:Nat}(hi:i<=s.l):dQ w e n aY ⟨s.b,i,s.c⟩ (xs.take i):=by
 refine⟨by have:=h.len;simp only[pW];omega,iF hi h.cap,h.max,h.gN.imp id λ⟨g,dE,hb,ho,hl⟩=>⟨g,(xs.drop i).flatMap aY++dE,hb,?_,?_⟩⟩
 all_goals rw[<-sD,<-IU,Cd];assumption
theorem Bg{α:Type}{aY:α->List Value}{n:Nat}(fZ:∀x,(aY x).length=n)(dE:List Value)(x:α):∀(xs:List α) (i:Nat),i<xs.length->
  (xs.flatMap aY++dE).take (i*n)++aY x++(xs.flatMap aY++dE).drop (i*n+n)=(xs.set i x).flatMap aY++dE
 |y::r,0,_=>by
  have:(aY y).length=n:=fZ y;simp only[Nat.zero_mul,List.take_zero,List.nil_append,List.set_cons_zero,EY,sD,pN];rw[<-this,List.drop_left]
 |y::r,i+1,h=>by
  have hl:(aY y).length=n:=fZ y;have ih:=Bg fZ dE x r i (by simpa using h);simp only[List.set_cons_succ,EY,sD] at ih ⊢;rw[<-ih,show(i+1)*n=(aY y).length+i*n by rw[Nat.add_mul,hl];omega,List.take_length_add_append,show(aY y).length+i*n+n=(aY y).length+(i*n+n) by omega,List.drop_length_add_append,sD]
theorem dQ.store{α:Type}{P:Program}{t:TypeId}{w:aH}{e:TypeId}{n:Nat}{aY:α->List Value}{s:Sl}{xs:List α}(h:dQ w e n aY s xs)(fZ:∀x,(aY x).length=n){a:Addr}(ha:s.b=some a)
  {i:Nat} (hi:i<xs.length) (x:α) {v:Value} (hv:v.cells.toList=aY x) (ht:(P.info? t).map (·.size)=some n) (jW:∀u∈aY x,u.oneCell'=true) {K:aH->Prop}
  (hK:∀w',dQ w' e n aY s (xs.set i x)->aW (λk=>k=a.block) w w'->w'.heap.size=w.heap.size->K w'):aI P t (a.add (i*n)) v w K:=by
 rcases h.gN with⟨h1,_⟩|⟨g,dE,hb,ho,hl⟩
 ·rw[h1] at ha;cases ha
 ·rw[hb] at ha;cases ha
  rw[aS,pN];have Ek:v.cells.size=n:=by rw[<-fZ x,<-hv,Array.length_toList]
  have QE:=bI fZ xs;have IP:i*n+n<=xs.length*n:=by have:=RV n (show i+1<=xs.length from hi);rwa[Nat.add_mul,Nat.one_mul] at this
  refine BZ ho (by rw[ht,Ek]) (by rw[Ek,mL,QE];omega) (by rw[hv];exact jW) λw' h2 h3 h4=>hK w' ⟨by rw[pJ];exact h.len,h.cap,h.max,.inr ⟨g,dE,hb,?_,?_⟩⟩ h3 h4
  ·rw[hv,Ek,Bg fZ dE x xs i hi] at h2;exact h2
  ·rw[<-hl,mL,mL,bI fZ,bI fZ,pJ]
structure rE(P:Program)(t e:TypeId)(n bytes:Nat)(z:List Value):Prop where
 under:P.underlying t=some (.slice e)
 VG:(P.info? e).map (λi=>(i.zero.map λv=>v.cells.toList,i.size,i.bytes))=some (some z,n,bytes)
 pos:0<n
 zlen:z.length=n
theorem rE.info{P:Program}{t e:TypeId}{n bytes:Nat}{z:List Value}(h:rE P t e n bytes z):∃i zv,P.info? e=some i/\i.zero=some zv/\zv.cells.toList=z/\i.size=n/\i.bytes=bytes:=by
 have hm:=h.VG;cases hi:P.info? e with
 |none=>simp[hi] at hm
 |some i=>
  cases hz:i.zero with
  |none=>simp[hi,hz] at hm
  |some zv=>simp[hi,hz] at hm;exact⟨i,zv,rfl,hz,hm.1,hm.2.1,hm.2.2⟩
theorem pQ{α:Type}{w:aH}{x:Sl}{n:Nat}{aY:α->List Value}{ys:List α}(hx:Rd w x n aY ys)(fZ:∀x,(aY x).length=n){a:Addr}(ha:x.b=some a):
  ∀j u,(ys.flatMap aY)[j]? =some u->w.cell? (a.add j)=some u:=by
 intro j u hu;have cJ:j<ys.length*n:=by have:=(kU.1 hu).1;rwa[bI fZ] at this
 have hn:0<n:=by
  rcases Nat.eq_zero_or_pos n with h|h
  ·subst h;omega
  ·exact h
 have hi:j/n<ys.length:=Nat.div_lt_of_lt_mul (by rwa[Nat.mul_comm]);have hm:j%n<n:=Nat.mod_lt _ hn;obtain⟨a',pI,hh⟩:=hx.get (j/n) ys[j/n] (gS hi);rw[ha] at pI;cases pI;have RY:j%n<(aY ys[j/n]).length:=by rw[fZ];exact hm
 have h2:=sU fZ ys (j/n) _ (j%n) _ [] (gS hi) (gS RY);rw[tD,Nat.div_add_mod',hu] at h2;cases h2;have:=(oH.1 hh) (j%n) _ (gS RY);rwa[add_add,pN,Nat.div_add_mod'] at this
theorem Hh{α:Type}{P:Program}{t e:TypeId}{n bytes:Nat}{z:List Value}(hE:rE P t e n bytes z){aY:α->List Value}(fZ:∀x,(aY x).length=n)(jW:∀x,∀u∈aY x,u.oneCell'=true)
  {w:aH} {s x:Sl} {xs ys:List α} (hs:dQ w e n aY s xs) (hx:Rd w x n aY ys) (h63:xs.length+ys.length<=9223372036854775807) (BV:(xs.length+ys.length)*bytes<=140737488355328) {K:Sl->aH->Prop}
  (hK:∀r w',dQ w' e n aY r (xs++ys)->aW (λk=>∃a,s.b=some a/\k=a.block) w w'->(r.b=s.b\/∃a,r.b=some a/\w.heap.size<=a.block)->(r.b=none->s.b=none)->(xs.length+ys.length<=s.c->r=⟨s.b,s.l+x.l,s.c⟩)->K r w'):
  aX P t t s (.slice x.b x.l x.c) w K:=by
 obtain⟨i,zv,hi,hz,rfl,rfl,rfl⟩:=hE.info;have ht:=hE.under;obtain⟨sb,sl,sc⟩:=s;obtain⟨xb,xl,xc⟩:=x;have IM:sl=xs.length:=hs.len;have Ae:xl=ys.length:=hx.len;have hscap:sl<=sc:=hs.cap
 by_cases hy:ys=[]
 ·subst hy
  have hxl0:xl=0:=Ae;subst hxl0;refine⟨⟨sb,sl,sc⟩,w,?_,hK _ _ (by rw[tD];exact hs) (aW.refl _ _) (.inl rfl) id (λ_=>rfl)⟩;cases xb<;>cases sb<;>simp[Builtin.append_,run_underlying ht,sizeOf,typeInfo,hi,Builtin.lenOf,Builtin.firstCells,hscap,storeCells,loadCells,loadCellsFrom,nP.aY,CK.aY]
 have uR:0<ys.length:=List.length_pos_iff.2 hy;obtain⟨ax,hax,_⟩:=hx.get 0 ys[0] (gS uR);have hax':xb=some ax:=hax;subst hax';have Fx:=pQ hx fZ (a:=ax) rfl;have hl:(ys.flatMap aY).length=xl*i.size:=by rw[bI fZ,Ae]
 have QM:∀u∈ys.flatMap aY,u.oneCell'=true:=λu hu=>by obtain⟨y,_,hy⟩:=List.mem_flatMap.1 hu;exact jW y u hy
 have hzs:zv.cells.size=i.size:=by have:=hE.zlen;simpa using this
 have hm63:xs.length+ys.length<=maxLen:=by simp only[maxLen];omega
 have grown:∀old,old<sl+xl->dQ (w.drew.alloc (.cells ((xs.flatMap aY).toArray++(ys.flatMap aY).toArray++Builtin.zeroCells zv.cells (grownCap w (sl+xl) old e-(sl+xl))) e)) e i.size aY
   ⟨some ⟨w.heap.size,0,none⟩,sl+xl,grownCap w (sl+xl) old e⟩ (xs++ys):=λold hold=>by
  have kT:=grownCap_ge w (sl+xl) old e;have hcm:grownCap w (sl+xl) old e<=maxLen:=grownCap_le_maxLen w (sl+xl) old e aB;refine⟨by simp[IM,Ae],kT,hcm,.inr ⟨w.heap.size,(Builtin.zeroCells zv.cells (grownCap w (sl+xl) old e-(sl+xl))).toList,rfl,?_,?_⟩⟩
  ·have:=cW.iP w.drew ((xs.flatMap aY).toArray++(ys.flatMap aY).toArray++Builtin.zeroCells zv.cells (grownCap w (sl+xl) old e-(sl+xl))) e
   simpa [sD] using this
  ·simp only[mL,bI fZ,Array.length_toList,size_zeroCells,hzs,<-IM,<-Ae]
   rw[<-Nat.add_mul];congr 1;show sl+xl+(grownCap w (sl+xl) old e-(sl+xl))=grownCap w (sl+xl) old e;omega
 rcases hs.gN with⟨hb,hc⟩|⟨g,dE,hb,ho,fU⟩
 ·have bW:sb=none:=hb
  have Ua:sc=0:=hc;subst bW;subst Ua;have hsl0:sl=0:=aB;have hxs:xs=[]:=Ce aB;subst hxs;have hr:=run_append_nil (P:=P) w t 0 e i zv ht hi hz ax xl xc (ys.flatMap aY) hl Fx aB aB (by simp at BV;rw[Ae];omega);have hg:=grown 0 aB;subst hsl0;refine⟨(⟨some ⟨w.heap.size,0,none⟩,xl,grownCap w xl 0 e⟩:Sl),_,hr,?_⟩;simp only[pN,List.flatMap_nil] at hg;have xd:dQ (w.drew.alloc (.cells ((ys.flatMap aY).toArray++Builtin.zeroCells zv.cells (grownCap w xl 0 e-xl)) e)) e i.size aY ⟨some ⟨w.heap.size,0,none⟩,xl,grownCap w xl 0 e⟩ ([]++ys):=by simpa using hg
  exact hK _ _ xd ((aW.refl _ w).drew.alloc _) (.inr ⟨_,rfl,iT _⟩) (λh=>by cases h) (λh=>absurd h (by show¬(0+ys.length<=0);omega))
 ·have bW:sb=some ⟨g,0,none⟩:=hb
  subst bW
  by_cases DO:sl+xl<=sc
  ·have qg:((xs.flatMap aY++dE).take (sl*i.size))=xs.flatMap aY:=by
    have:(xs.flatMap aY).length=sl*i.size:=by rw[bI fZ,IM]
    rw[<-this];exact List.take_left
   have QN:(xs.flatMap aY++dE).length=sc*i.size:=fU;have PU:sl*i.size+(ys.flatMap aY).length<=(xs.flatMap aY++dE).toArray.size:=by
    rw[hl,<-Nat.add_mul,List.size_toArray,QN];exact RV _ DO
   have hr:=run_append_room (P:=P) w t 0 e i ht hi g sl sc (xs.flatMap aY++dE).toArray ho ax xl xc (ys.flatMap aY) hl Fx QM DO PU;simp only[qg] at hr;refine⟨(⟨some ⟨g,0,none⟩,sl+xl,sc⟩:Sl),_,hr,hK ⟨some ⟨g,0,none⟩,sl+xl,sc⟩ _ ⟨by simp[IM,Ae],DO,hs.max,.inr ⟨g,(xs.flatMap aY++dE).drop (sl*i.size+(ys.flatMap aY).length),rfl,?_,?_⟩⟩ ?_ (.inl rfl) (λh=>by cases h) (λ_=>rfl)⟩
   ·have:=cW.setRow ho (xs.flatMap aY++ys.flatMap aY++(xs.flatMap aY++dE).drop (sl*i.size+(ys.flatMap aY).length))
    simpa [IU] using this
   ·simp only[List.size_toArray] at PU
    rw[IU,mL,mL,List.length_drop,bI fZ xs,<-IM];show _=sc*i.size;omega
   ·exact(aW.setRow w g _).mono λk _ hk=>⟨_,rfl,hk⟩
  ·have holds:∀j u,(xs.flatMap aY)[j]? =some u->w.cell? ((⟨g,0,none⟩:Addr).add j)=some u:=pQ (hs.rd fZ) fZ rfl
   have hr:=run_append_grow (P:=P) w t 0 e i zv ht hi hz ⟨g,0,none⟩ sl sc (xs.flatMap aY) (by rw[bI fZ,IM]) holds ax xl xc (ys.flatMap aY) hl Fx aB aB (growslice_fits aB (by rw[IM,Ae];exact BV));exact⟨(⟨some ⟨w.heap.size,0,none⟩,sl+xl,grownCap w (sl+xl) sc e⟩:Sl),_,hr,hK _ _ (grown sc aB) ((aW.refl _ w).drew.alloc _) (.inr ⟨_,rfl,iT _⟩) (λh=>by cases h) (λh=>absurd h (by show¬(xs.length+ys.length<=sc);omega))⟩
theorem fN{α:Type}{P:Program}{t e:TypeId}{n bytes:Nat}{z:List Value}(hE:rE P t e n bytes z){aY:α->List Value}(fZ:∀x,(aY x).length=n)(jW:∀x,∀u∈aY x,u.oneCell'=true)
  {w:aH} {s x:Sl} {xs ys:List α} (hs:dQ w e n aY s xs) (hx:Rd w x n aY ys) (h63:xs.length+ys.length<=9223372036854775807) (BV:(xs.length+ys.length)*bytes<=140737488355328) {K:Sl->aH->Prop}
  (hK:∀r w',dQ w' e n aY r (xs++ys)->aW (λk=>∃a,s.b=some a/\k=a.block) w w'->(r.b=s.b\/∃a,r.b=some a/\w.heap.size<=a.block)->(r.b=none->s.b=none)->K r w'):
  aX P t t s (.slice x.b x.l x.c) w K:=
 Hh hE fZ jW hs hx h63 BV λr w' h1 h2 h3 h4 _=>hK r w' h1 h2 h3 h4
theorem NW{α:Type}(z:Array Value)(aY:α->List Value)(x:α)(hz:aY x=z.toList)(k:Nat)(hp:0<z.size):(madeCells z (k*z.size)).toList=(List.replicate k x).flatMap aY:=by
 apply AZ;intro j;have hl:((List.replicate k x).flatMap aY).length=k*z.size:=by
  clear hp
  induction k with
  |zero=>simp
  |succ k ih=>rw[List.replicate_succ,EY,mL,ih,hz,Array.length_toList,Nat.add_mul];omega
 by_cases hj:j<k*z.size
 ·have hm:j%z.size<z.size:=Nat.mod_lt _ hp
  have h1:(madeCells z (k*z.size)).toList[j]? =some z[j%z.size]:=by
   simp[madeCells,hj,hm]
  rw[h1]
  symm
  have:∀k j,j<k*z.size->((List.replicate k x).flatMap aY)[j]? =some (z[j%z.size]'(Nat.mod_lt _ hp)):=by
   intro k
   induction k with
   |zero=>intro j h;omega
   |succ k ih=>
    intro j h;rw[List.replicate_succ,EY,hz]
    by_cases hjz:j<z.size
    ·rw[Ey (by simpa using hjz)]
     simp[Nat.mod_eq_of_lt hjz,hjz]
    ·rw[Ez (by simp;omega),Array.length_toList,ih _ (by rw[Nat.add_mul] at h;omega)]
     have:(j-z.size)%z.size=j%z.size:=by rw[<-Nat.mod_eq_sub_mod aB]
     simp only[this]
  exact this k j hj
 ·rw[List.getElem?_eq_none (by simp[madeCells];omega),List.getElem?_eq_none aB]
theorem BU{α:Type}{P:Program}{t e:TypeId}{n bytes:Nat}{z:List Value}(hE:rE P t e n bytes z){aY:α->List Value}(x:α)(hx:aY x=z)(fZ:∀x,(aY x).length=n)
  {w:aH} {k k':IntKind} {l c:Int} (h0:0<=l) (hlc:l<=c) (BV:(bytes:Int)*c<=281474976710656) (h63:c<=9223372036854775807) {K:Sl->aH->Prop}
  (hK:∀w',dQ w' e n aY ⟨some ⟨w.heap.size,0,none⟩,l.toNat,c.toNat⟩ (List.replicate l.toNat x)->aM w w'->K ⟨some ⟨w.heap.size,0,none⟩,l.toNat,c.toNat⟩ w'):
  fM P t (.int k l) (.int k' c) w K:=by
 obtain⟨i,zv,hi,hz,rfl,rfl,rfl⟩:=hE.info;have hzs:zv.cells.size=i.size:=by have:=hE.zlen;simpa using this
 refine⟨⟨some ⟨w.heap.size,0,none⟩,l.toNat,c.toNat⟩,_,run_make (P:=P) w t e i zv hE.under hi hz k k' l c h0 hlc BV h63,hK _ ?_ (aM.alloc w _)⟩;have hct:l.toNat<=c.toNat:=aB;have heq:(madeCells zv.cells (c.toNat*i.size)).toList=(List.replicate l.toNat x).flatMap aY++(List.replicate (c.toNat-l.toNat) x).flatMap aY:=by
  rw[<-IU,List.replicate_append_replicate,show l.toNat+(c.toNat-l.toNat)=c.toNat by omega,<-hzs];exact NW zv.cells aY x hx _ (by rw[hzs];exact hE.pos)
 refine⟨by simp,hct,by simp only[maxLen];show c.toNat<=_;omega,.inr ⟨w.heap.size,(List.replicate (c.toNat-l.toNat) x).flatMap aY,rfl,?_,?_⟩⟩
 ·rw[<-heq];exact cW.iP w _ e
 ·rw[<-heq,Array.length_toList,size_madeCells]
theorem pB{P:Program}{g:FuncId}{T:Tr}(hS:oS P g T)(dm:enters P g=true){first cap:Array Value}{args:List Value}{w:aH}{K:Value->aH->Prop}(h:T (first.toList++args++cap.toList) w K):
  lI P (.func (.func g) first cap) args w K:=by
 refine⟨g,first,cap,rfl,dm,?_⟩
 have:=hS _ w K h;have e:(first.toList++args++cap.toList).toArray=first++args.toArray++cap:=by simp
 rwa[e] at this
theorem cW.read{w:aH}{g:Nat}{e:TypeId}{cs:List Value}(h:cW w g e cs){o:Nat}{vs:List Value}(hv:∀j v,vs[j]? =some v->cs[o+j]? =some v):
  ∀j v,vs[j]? =some v->w.cell? ((⟨g,o,none⟩:Addr).add j)=some v:=by
 intro j v hj;rw[aS,h.cell];exact hv j v hj
theorem MW{P:Program}{t t' e:TypeId}{n:Nat}(ht:P.underlying t=some (.slice e))(hn:(P.info? e).map (·.size)=some n){w:aH}{g o dl dc:Nat}{a:Addr}{sl sc:Nat}{eg:TypeId}{bP cs:List Value}
  (ho:cW w g eg bP) (hl:cs.length=min sl dl*n) (hr:∀j v,cs[j]? =some v->w.cell? (a.add j)=some v) (PU:o+cs.length<=bP.length) (h1:∀v∈cs,v.oneCell'=true) {K:Int->aH->Prop}
  (hK:∀w',cW w' g eg (bP.take o++cs++bP.drop (o+cs.length))->aW (λk=>k=g) w w'->w'.heap.size=w.heap.size->K (min sl dl:Nat) w'):
  QP P t t' ⟨some ⟨g,o,none⟩,dl,dc⟩ (.slice (some a) sl sc) w K:=by
 cases hq:P.info? e with
 |none=>rw[hq] at hn;cases hn
 |some i=>
  have hi:i.size=n:=by simpa [hq] using hn
  subst hi;have hf:=run_firstCells_some (P:=P) w i.size (Nat.min sl dl) a sl sc cs hl hr;have ET:=run_storeCells_at P g o eg cs 0 bP.toArray w ho (by simpa using PU) h1;refine⟨((min sl dl:Nat):Int),_,?_,hK _ (ho.setRow _) (aW.setRow w g _) dL⟩;simp only[Nat.add_zero] at ET;simp[Builtin.copy_,run_underlying ht,Builtin.lenOf,sizeOf,typeInfo,hq,hf,ET]
  rfl
theorem Ht(z:Array Value)(n:Nat):(Builtin.zeroCells z n).toList.length=n*z.size:=by simp[Builtin.zeroCells]
theorem ZI{P:Program}{t e:TypeId}{n bytes:Nat}{z:List Value}(hE:rE P t e n bytes z)(hz1:∀v∈z,v.oneCell'=true){w:aH}{g o l c:Nat}{eg:TypeId}{bP:List Value}
  (ho:cW w g eg bP) (PU:o+l*n<=bP.length) {K:aH->Prop}
  (hK:∀w' zs,zs.length=l*n->cW w' g eg (bP.take o++zs++bP.drop (o+l*n))->aW (λk=>k=g) w w'->w'.heap.size=w.heap.size->K w'):
  BX P t (.slice (some ⟨g,o,none⟩) l c) w K:=by
 obtain⟨i,zv,hi,hz,rfl,rfl,rfl⟩:=hE.info;have hzs:zv.cells.size=i.size:=by have:=hE.zlen;simpa using this
 by_cases hl:l=0
 ·subst hl
  refine⟨(),w,?_,hK w [] dL (by simpa using ho) (aW.refl _ _) rfl⟩;simp[Builtin.clear_,run_underlying hE.under,yU]
 ·have fU:(Builtin.zeroCells zv.cells l).toList.length=l*i.size:=by rw[Ht,hzs]
  have jW:∀v∈(Builtin.zeroCells zv.cells l).toList,v.oneCell'=true:=by
   intro v hv;simp only[Builtin.zeroCells,Array.toList_map,lK] at hv;obtain⟨j,_,rfl⟩:=hv;have hp:0<zv.cells.size:=by rw[hzs];exact hE.pos
   have hm:j%zv.cells.size<zv.cells.size:=Nat.mod_lt _ hp;rw[getElem!_pos zv.cells _ hm];exact hz1 _ dL
  have ET:=run_storeCells_at P g o eg (Builtin.zeroCells zv.cells l).toList 0 bP.toArray w ho (by rw[fU];simpa using PU) jW;rw[fU] at ET;refine⟨(),_,?_,hK _ (Builtin.zeroCells zv.cells l).toList fU (ho.setRow _) (aW.setRow w g _) dL⟩;simp only[Nat.add_zero] at ET;obtain⟨l',rfl⟩:∃m,l=m+1:=⟨l-1,aB⟩;simp[Builtin.clear_,run_underlying hE.under,zeroValue,typeInfo,hi,hz,ET,yU]
theorem jq{α:Type}(z:Array Value)(aY:α->List Value)(x:α)(hz:aY x=z.toList)(k:Nat)(hp:0<z.size):(Builtin.zeroCells z k).toList=(List.replicate k x).flatMap aY:=NW z aY x hz k hp
theorem Sr{α:Type}{P:Program}{t ti e:TypeId}{n bytes:Nat}{z:List Value}(hE:rE P t e n bytes z)(hti:P.underlying ti=some (.int .i64)){aY:α->List Value}(x:α)(hx:aY x=z)(fZ:∀x,(aY x).length=n)
  {w:aH} {s:Sl} {xs:List α} (hs:Rd w s n aY xs) {k:Nat} (hk:s.c<xs.length+k) (h63:xs.length+k<=9223372036854775807) (BV:(xs.length+k)*bytes<=140737488355328) {K:Sl->aH->Prop}
  (hK:∀r w',dQ w' e n aY r (xs++List.replicate k x)->aM w w'->(∃a,r.b=some a/\w.heap.size<=a.block)->K r w'):aX P t ti s (.int .i64 (k:Int)) w K:=by
 obtain⟨i,zv,hi,hz,rfl,rfl,rfl⟩:=hE.info;obtain⟨sb,sl,sc⟩:=s;have IM:sl=xs.length:=hs.len;have hsc:sc<sl+k:=by rw[IM];exact hk
 have hzs:zv.cells.size=i.size:=by have:=hE.zlen;simpa using this
 have kT:=grownCap_ge w (sl+k) sc e;have hcm:grownCap w (sl+k) sc e<=maxLen:=grownCap_le_maxLen w (sl+k) sc e (by simp only[maxLen];omega);have hold:(Builtin.firstCells i.size sl (.slice sb sl sc)).run P w.drew=.ok (xs.flatMap aY).toArray w.drew:=by
  cases sb with
  |none=>
   have hx0:xs=[]:=by
    cases xs with
    |nil=>rfl
    |cons y r=>obtain⟨a,ha,_⟩:=hs.get 0 y rfl;cases ha
   subst hx0;simp[Builtin.firstCells]
  |some a=>exact run_firstCells_some (P:=P) w.drew i.size sl a sl sc (xs.flatMap aY) (by rw[bI fZ,IM]) (λj v hj=>by simpa using pQ hs fZ (a:=a) rfl j v hj)
 have hnk:(Builtin.zeroCells zv.cells k).toList=(List.replicate k x).flatMap aY:=jq zv.cells aY x hx k (by rw[hzs];exact hE.pos);have hkw:IntKind.i64.wrap (k:Int)=(k:Int):=w64n k aB;have hkb:¬(281474976710656<(k:Int)*(i.bytes:Int)):=by
  have h1:k*i.bytes<=(xs.length+k)*i.bytes:=RV _ aB;have h2:((k*i.bytes:Nat):Int)<=140737488355328:=aB;rw[Int.natCast_mul] at h2;omega
 have h48:¬(281474976710656<Builtin.nextslicecap (sl+k) sc*i.bytes):=by have:=growslice_fits (need:=sl+k) (old:=sc) (bytes:=i.bytes) hsc (by rw[IM];exact BV);omega
 have DO:¬(sl+k<=sc):=aB;have uR:¬(k*i.size=0):=by
  have hk0:0<k:=by have:=hs.cap;simp only at this;omega
  have:=Nat.mul_pos hk0 hE.pos;omega
 have h63':¬(9223372036854775807<(sl:Int)+(k:Int)):=aB;refine⟨(⟨some ⟨w.heap.size,0,none⟩,sl+k,grownCap w (sl+k) sc e⟩:Sl),w.drew.alloc (.cells ((xs.flatMap aY).toArray++Builtin.zeroCells zv.cells k++Builtin.zeroCells zv.cells (grownCap w (sl+k) sc e-(sl+k))) e),?_,hK _ _ ⟨?_,kT,hcm,.inr ⟨w.heap.size,(Builtin.zeroCells zv.cells (grownCap w (sl+k) sc e-(sl+k))).toList,rfl,?_,?_⟩⟩ ((aW.refl _ w).drew.alloc _) ⟨_,rfl,iT _⟩⟩
 ·have PT:¬((k:Int)<0):=aB
  simp[Builtin.append_,run_underlying hE.under,run_underlying hti,sizeOf,typeInfo,zeroValue,hi,hz,asInt,asIntOf,hkw,hkb,DO,h63',h48,Question.forced,hold,PT,uR,newRow,grownCap,nP.aY,CK.aY]
 ·simp[IM]
 ·have:=cW.iP w.drew ((xs.flatMap aY).toArray++Builtin.zeroCells zv.cells k++Builtin.zeroCells zv.cells (grownCap w (sl+k) sc e-(sl+k))) e
  simpa [sD,hnk] using this
 ·rw[mL,bI fZ,Ht,hzs,mL,List.length_replicate,<-IM,<-Nat.add_mul]
  congr 1;show sl+k+(grownCap w (sl+k) sc e-(sl+k))=grownCap w (sl+k) sc e;omega
theorem oI(b:cL)(c n:Nat):aR b c 0 n=b:=by
 unfold aR
 split
 ·rfl
 ·cases b with
  |none=>rfl
  |some a=>simp[Addr.add]
theorem lJ{g c l n:Nat}(h:l<c):aR (some ⟨g,0,none⟩) c l n=some ⟨g,l*n,none⟩:=by
 unfold aR;rw[if_neg aB];simp[aS]
theorem Ob{α:Type}{aY:α->List Value}{n:Nat}(fZ:∀x,(aY x).length=n)(xs:List α)(R:List Value)(i:Nat)(hi:i<=xs.length):(xs.flatMap aY++R).take (i*n)=(xs.take i).flatMap aY:=by
 have h1:xs.flatMap aY=(xs.take i).flatMap aY++(xs.drop i).flatMap aY:=by rw[<-IU,Cd]
 have h2:((xs.take i).flatMap aY).length=i*n:=by rw[bI fZ,pW,Nat.min_eq_left hi]
 rw[h1,sD,<-h2,List.take_left]
theorem aAh{α:Type}{aY:α->List Value}{n:Nat}(fZ:∀x,(aY x).length=n)(xs:List α)(R:List Value)(i:Nat)(hi:i<=xs.length):(xs.flatMap aY++R).drop (i*n)=(xs.drop i).flatMap aY++R:=by
 have h1:xs.flatMap aY=(xs.take i).flatMap aY++(xs.drop i).flatMap aY:=by rw[<-IU,Cd]
 have h2:((xs.take i).flatMap aY).length=i*n:=by rw[bI fZ,pW,Nat.min_eq_left hi]
 conv=>lhs;rw[h1,sD,<-h2,List.drop_left]
theorem Ys{P:Program}{f:FuncId}{fn:Func}{t tR e:TypeId}{n:Nat}(hf:P.funcs[f]? =some fn)(hname:(fn.name== "runtime.NumGoroutine")=false) (hb:fn.body.isNone=true) (hn:Extern.findNext fn=none)
  (he:Extern.find fn=some (Extern.SlicesOverlaps.overlaps #[t,t] #[tR])) (ht:P.underlying t=some (.slice e)) (hz:(P.info? e).map (·.size)=some n) {w:aH} {ga gb oa ob la ca lb cb:Nat} {ea eb:TypeId} {ca' cb':List Value}
  (ha:cW w ga ea ca') (bW:cW w gb eb cb') (gF:ga≠gb) (uR:cb'.length≠0) {K:Bool->aH->Prop} (hK:K false w):
  extD P (.c .bool) f [.slice (some ⟨ga,oa,none⟩) la ca,.slice (some ⟨gb,ob,none⟩) lb cb] w K:=by
 have LG:∀w,(sizeOf e).run P w=.ok n w:=λw=>by
  cases hq:P.info? e with
  |none=>rw[hq] at hz;cases hz
  |some i=>rw[hq] at hz;cases hz;exact yE hq w
 refine⟨false,w,?_,hK⟩;have hsa:w.shape? ga=some (ea,ca'.toArray.size):=by unfold World.shape?;rw[show w.heap[ga]? =_ from ha]
 have hsb:w.shape? gb=some (eb,cb'.toArray.size):=by unfold World.shape?;rw[show w.heap[gb]? =_ from bW]
 have fz:∀o,w.frozen? ⟨ga,o,none⟩=false:=λo=>by unfold World.frozen?;rw[show w.heap[ga]? =_ from ha];simp
 rw[run_callFunc_extern hf hname hb hn he,Lib.run_overlaps_apart w t tR e ht n LG ⟨ga,oa,none⟩ ⟨gb,ob,none⟩ la ca lb cb gF ea eb _ _ hsa hsb (by simpa using uR) (fz _) (fz _)]
 rfl
end Go.Den
namespace Go.Den
open Go Go.MapKept
section
structure QS{K:Type}(P:Program)(kt:TypeId)(ek:K->Value):Prop where
 check:∀(e:Bool) (x:K) (w:aH),(Instr.checkKey e 10000 kt (ek x)).run P w=.ok () w
 find:∀(x:K) (w:aH) (l:List MapEntry) (ks:List K),l.map (·.key)=ks.map ek->
  (x∉ks/\(Instr.findKey kt (ek x) l).run P w=.ok none w)\/∃j e,ks[j]? =some x/\l[j]? =some e/\(Instr.findKey kt (ek x) l).run P w=.ok (some (j,e.val)) w
 stays:∀x:K,Instr.sameBits 10000 (ek x) (ek x)=true
theorem aAe{P:Program}{kt:TypeId}{k:IntKind}(hd:P.underlying kt=some (.int k)):QS P kt (λn:Int=>.int k n) where
 check e x w:=run_checkKey hd (by simp[IsKey]) e 9999
 find x w l ks h:=by
  have hk:∀e∈l,IsKey (.int k) e.key:=λe he=>by
   have:e.key∈ks.map (λn:Int=>Value.int k n):=h▸lK.2 ⟨e,he,rfl⟩;obtain⟨n,_,hn⟩:=lK.1 this;rw[<-hn];simp[IsKey]
  rcases findNow_spec (d:=.int k) (k:=.int k x) (by simp[IsKey]) l 0 hk with⟨h1,h2⟩|⟨j,e,h1,h2,h3⟩
  ·refine .inl ⟨λhx=>?_,run_findKey hd h1⟩
   have:(Value.int k x)∈l.map (·.key):=h▸lK.2 ⟨x,hx,rfl⟩;obtain⟨e,he,he2⟩:=lK.1 this;exact h2 e he he2
  ·rw[pN] at h1
   refine .inr ⟨j,e,?_,h2,run_findKey hd h1⟩;have:(l.map (·.key))[j]? =some (.int k x):=by rw[mG,h2];simp[h3]
   rw[h,mG] at this;cases hj:ks[j]? with
   |none=>rw[hj] at this;cases this
   |some n=>rw[hj] at this;simp at this;rw[this]
 stays x:=by simp[Instr.sameBits]
theorem Xm(kn:nP)(x:kn.T)(b:Bool):yU [kn,.c .bool] (x,b,())=[kn.aY x,.bool b]:=rfl
def wG{K V:Type}[DecidableEq K]:List (K×V)->K->Option V
 | [],_=>none
 |p::r,x=>if p.1=x then some p.2 else wG r x
theorem HG{K V:Type}[DecidableEq K]:∀{l:List (K×V)} {x:K},x∉l.map (·.1)->wG l x=none
 | [],_,_=>rfl
 |p::r,x,h=>by
  simp at h;unfold wG;rw[if_neg (λe=>h.1 e.symm),HG (by simpa using h.2)]
theorem ZE{K V:Type}[DecidableEq K]:∀{l:List (K×V)} {x:K} {v:V} {j:Nat},(l.map (·.1)).Nodup->l[j]? =some (x,v)->wG l x=some v
 | [],_,_,j,_,h=>by simp at h
 |p::r,x,v,0,_,h=>by simp at h;subst h;simp[wG]
 |p::r,x,v,j+1,hn,h=>by
  simp at h hn;unfold wG;have:p.1≠x:=λe=>hn.1 v (by rw[e];exact zH h);rw[if_neg this];exact ZE (by simpa using hn.2) h
theorem GU{K V:Type}[DecidableEq K]:∀{l:List (K×V)} {x:K},(wG l x).isSome=true↔x∈l.map (·.1)
 | [],_=>by simp[wG]
 |p::r,x=>by
  unfold wG
  by_cases h:p.1=x
  ·simp[h]
  ·rw[if_neg h,GU];simp[Ne.symm h]
def PX(es:Array MapEntry)(DT:Nat):Prop:=(∀e∈es.toList,e.born<DT)/\(es.toList.map (·.born)).Nodup
def jP{K:Type}[DecidableEq K](w:aH)(r:Nat)(ek:K->Value)(kn:nP)(f:K->Option kn.T)(n:Nat):Prop:=
 ∃(es:Array MapEntry) (DT:Nat) (l:List (K×kn.T)),w.heap[r]? =some (.map es DT)/\es.toList.map (·.key)=l.map (λp=>ek p.1)/\es.toList.map (·.val)=l.map (λp=>kn.aY p.2)/\(l.map (·.1)).Nodup/\(∀x,f x=wG l x)/\l.length=n/\PX es DT
section
variable{K:Type}[DecidableEq K]{P:Program}{w:aH}{r:Nat}{ek:K->Value}{kn:nP}{f:K->Option kn.T}{n:Nat}
theorem jP.lt(h:jP w r ek kn f n):r<w.heap.size:=by obtain⟨es,c,l,h1,_⟩:=h;exact(Array.getElem?_eq_some_iff.1 h1).1
theorem jP.aK{F:Nat->Prop}{w':aH}(h:jP w r ek kn f n)(hm:aW F w w')(hF:¬F r):jP w' r ek kn f n:=by
 have hl:=h.lt;obtain⟨es,c,l,h1,h2⟩:=h;exact⟨es,c,l,(hm.block r hl hF).trans h1,h2⟩
theorem jP.congr{g:K->Option kn.T}{m:Nat}(h:jP w r ek kn f n)(hg:∀x,g x=f x)(hm:m=n):jP w r ek kn g m:=by
 obtain⟨es,c,l,h1,h2,h3,h4,h5,h6,hB⟩:=h;exact⟨es,c,l,h1,h2,h3,h4,λx=>(hg x).trans (h5 x),h6.trans hm.symm,hB⟩
theorem jP.Lj(h:jP w r ek kn f n):∃ks:List K,ks.Nodup/\ks.length=n/\∀x,x∈ks↔(f x).isSome=true:=by
 obtain⟨es,c,l,h1,h2,h3,h4,h5,h6,hB⟩:=h;exact⟨l.map (·.1),h4,by simpa using h6,λx=>by rw[h5 x,GU]⟩
theorem jP.new(w:aH)(ek:K->Value)(kn:nP):jP (w.alloc (.map #[] 0)) w.heap.size ek kn (λ_=>none) 0:=
 ⟨#[],0,[],heap_alloc_new w _,rfl,rfl,List.nodup_nil,λ_=>rfl,rfl,by simp,List.nodup_nil⟩
theorem jP.find{kt:TypeId}(hk:QS P kt ek)(h:jP w r ek kn f n)(x:K)(w':aH):∃(es:Array MapEntry) (DT:Nat) (l:List (K×kn.T)),w.heap[r]? =some (.map es DT)/\es.toList.map (·.key)=l.map (λp=>ek p.1)/\es.toList.map (·.val)=l.map (λp=>kn.aY p.2)/\(l.map (·.1)).Nodup/\(∀x,f x=wG l x)/\l.length=n/\PX es DT/\
  ((x∉l.map (·.1)/\f x=none/\(Instr.findKey kt (ek x) es.toList).run P w'=.ok none w')\/∃j v,f x=some v/\l[j]? =some (x,v)/\j<es.size/\(es.toList[j]?).map (·.key)=some (ek x)/\(Instr.findKey kt (ek x) es.toList).run P w'=.ok (some (j,kn.aY v)) w'):=by
 obtain⟨es,c,l,h1,h2,h3,h4,h5,h6,hB⟩:=h;refine⟨es,c,l,h1,h2,h3,h4,h5,h6,hB,?_⟩;rcases hk.find x w' es.toList (l.map (·.1)) (by rw[h2,List.map_map];rfl) with⟨g1,g2⟩|⟨j,e,g1,g2,g3⟩
 ·exact .inl ⟨g1,by rw[h5,HG g1],g2⟩
 ·right
  rw[mG] at g1;cases hj:l[j]? with
  |none=>rw[hj] at g1;cases g1
  |some p=>
   rw[hj] at g1;have hp:p.1=x:=by simpa using g1
   obtain⟨y,v⟩:=p;simp only at hp;subst hp;have hv:e.val=kn.aY v:=by
    have:(es.toList.map (·.val))[j]? =some e.val:=by rw[mG,g2];rfl
    rw[h3,mG,hj] at this;simpa using this.symm
   have tF:(es.toList[j]?).map (·.key)=some (ek y):=by
    have:(es.toList.map (·.key))[j]? =some (ek y):=by rw[h2,mG,hj];rfl
    rwa[mG] at this
   refine⟨j,v,by rw[h5,ZE h4 hj],hj,by simpa using(kU.1 g2).1,tF,by rw[<-hv];exact g3⟩
theorem qO{Q:Nat->aH->Prop}(hQ:jP (w.alloc (.map #[] 0)) w.heap.size ek kn (λ_=>none) 0->aM w (w.alloc (.map #[] 0))->Q w.heap.size (w.alloc (.map #[] 0))):rF w Q:=hQ (jP.new w ek kn) (aM.alloc w _)
theorem OQ{kt et:TypeId}{t:TypeId}(ht:P.underlying t=some (.map kt et))(hk:QS P kt ek){z:kn.T}(hz:(P.info? et).map (·.zero)=some (some (kn.aY z)))(h:jP w r ek kn f n)(x:K){Q:kn.T->Bool->aH->Prop}
  (hQ:Q ((f x).getD z) (f x).isSome w):GV P kn t (.map (some r)) (ek x) w Q:=by
 obtain⟨es,c,l,h1,h2,h3,h4,h5,h6,hB,hf⟩:=h.find hk x w;have hzv:(zeroValue et).run P w=.ok (kn.aY z) w:=by
  cases hq:P.info? et with
  |none=>rw[hq] at hz;cases hz
  |some i=>rw[hq] at hz;simp at hz;simp[zeroValue,typeInfo,hq,hz]
 rcases hf with⟨_,g,pY⟩|⟨j,v,g,_,_,_,pY⟩
 ·rw[g] at hQ
  exact⟨(z,false,()),w,by simp[Instr.lookup,run_underlying ht,MapKept.run_getObj_map h1,hk.check,pY,hzv,Xm],hQ⟩
 ·rw[g] at hQ
  exact⟨(v,true,()),w,by simp[Instr.lookup,run_underlying ht,MapKept.run_getObj_map h1,hk.check,pY,Xm],hQ⟩
theorem wM{kt et:TypeId}{t:TypeId}(ht:P.underlying t=some (.map kt et))(hk:QS P kt ek){z:kn.T}(hz:(P.info? et).map (·.zero)=some (some (kn.aY z)))(h:jP w r ek kn f n)(x:K){Q:kn.T->aH->Prop}
  (hQ:Q ((f x).getD z) w):jY P kn t (.map (some r)) (ek x) w Q:=by
 obtain⟨es,c,l,h1,h2,h3,h4,h5,h6,hB,hf⟩:=h.find hk x w;have hzv:(zeroValue et).run P w=.ok (kn.aY z) w:=by
  cases hq:P.info? et with
  |none=>rw[hq] at hz;cases hz
  |some i=>rw[hq] at hz;simp at hz;simp[zeroValue,typeInfo,hq,hz]
 rcases hf with⟨_,g,pY⟩|⟨j,v,g,_,_,_,pY⟩
 ·rw[g] at hQ
  exact⟨z,w,by simp[Instr.lookup,run_underlying ht,MapKept.run_getObj_map h1,hk.check,pY,hzv],hQ⟩
 ·rw[g] at hQ
  exact⟨v,w,by simp[Instr.lookup,run_underlying ht,MapKept.run_getObj_map h1,hk.check,pY],hQ⟩
theorem Xb{kt et:TypeId}{t:TypeId}(ht:P.underlying t=some (.map kt et))(h:jP w r ek kn f n){Q:Int->aH->Prop}(hQ:Q (n:Int) w):Dw P t (.map (some r)) w Q:=by
 obtain⟨es,c,l,h1,h2,h3,h4,h5,h6,hB⟩:=h;have hs:es.size=n:=by rw[<-h6];have:=congrArg List.length h2;simpa using this
 exact⟨(n:Int),w,by simp[Builtin.len_,run_underlying ht,MapKept.run_getObj_map h1,goInt,hs,nP.aY,CK.aY],hQ⟩
theorem NV(es:Array MapEntry)(i:Nat)(k v:Value)(hk:(es.toList[i]?).map (·.key)=some k):(es.modify i λe=>{e with key:=k,val:=v}).toList.map (·.key)=es.toList.map (·.key):=by
 apply AZ;intro j;simp only[mG,Array.toList_modify,List.getElem?_modify]
 by_cases hj:i=j
 ·subst hj
  cases he:es.toList[i]? with
  |none=>rfl
  |some e=>rw[he] at hk;simp at hk;simp[hk]
 ·simp[hj]
theorem NU(es:Array MapEntry)(i:Nat)(k v:Value):(es.modify i λe=>{e with key:=k,val:=v}).toList.map (·.val)=(es.toList.map (·.val)).set i v:=by
 apply AZ;intro j;simp only[mG,Array.toList_modify,List.getElem?_modify,vT]
 by_cases hj:i=j
 ·subst hj
  by_cases cJ:i<es.toList.length
  ·have h2:i<es.size:=by simpa using cJ
   simp[h2]
  ·rw[List.getElem?_eq_none aB];simp at cJ;simp;omega
 ·simp[hj]
theorem WG{V:Type}:∀{l:List (K×V)} {j:Nat} {x:K} {v:V},(l.map (·.1)).Nodup->(l[j]?).map (·.1)=some x->∀y,wG (l.set j (x,v)) y=if y=x then some v else wG l y
 | [],j,x,v,_,h,_=>by simp at h
 |p::r,0,x,v,hn,h,y=>by
  simp at h;simp only[List.set_cons_zero,wG]
  by_cases hy:y=x
  ·simp[hy]
  ·rw[if_neg (λe=>hy e.symm),if_neg hy,h,if_neg (λe=>hy e.symm)]
 |p::r,j+1,x,v,hn,h,y=>by
  simp only[List.getElem?_cons_succ] at h;simp only[List.map_cons,List.nodup_cons] at hn;simp only[List.set_cons_succ,wG];have hx:x∈r.map (·.1):=by
   cases hj:r[j]? with
   |none=>rw[hj] at h;cases h
   |some q=>rw[hj] at h;simp at h;rw[<-h];exact lK.2 ⟨q,zH hj,rfl⟩
  have hpx:p.1≠x:=λe=>hn.1 (e▸hx);rw[WG hn.2 h y]
  by_cases hy:y=x
  ·subst hy;simp[hpx]
  ·simp[hy]
theorem EA{V:Type}:∀{l:List (K×V)} {x:K} {v:V},x∉l.map (·.1)->∀y,wG (l++[(x,v)]) y=if y=x then some v else wG l y
 | [],x,v,_,y=>by
  simp only[List.nil_append,wG]
  by_cases h:y=x
  ·simp[h]
  ·rw[if_neg (λe=>h e.symm),if_neg h]
 |p::r,x,v,hn,y=>by
  simp only[List.map_cons,lL,not_or] at hn;simp only[List.cons_append,wG];rw[EA hn.2 y]
  by_cases hy:y=x
  ·subst hy;rw[if_neg (λe=>hn.1 e.symm)];simp
  ·simp[hy]
theorem PX.push{es:Array MapEntry}{c:Nat}(h:PX es c)(k v:Value):PX (es.push {key:=k,val:=v,born:=c}) (c+1):=by
 obtain⟨h1,h2⟩:=h;refine⟨λe he=>?_,?_⟩
 ·simp only[Array.toList_push,jK,uG] at he
  rcases he with he|rfl
  ·have:=h1 e he;omega
  ·exact Nat.lt_succ_self _
 ·simp only[Array.toList_push,yS,List.map_cons,List.map_nil]
  rw[List.nodup_append];refine⟨h2,by simp,λa ha b hb=>?_⟩;simp at hb;subst hb;obtain⟨e,he,rfl⟩:=lK.1 ha;have:=h1 e he;omega
theorem Zh(es:Array MapEntry)(i:Nat)(F:MapEntry->MapEntry)(hF:∀e,(F e).born=e.born):(es.modify i F).toList.map (·.born)=es.toList.map (·.born):=by
 apply AZ;intro j;simp only[mG,Array.toList_modify,List.getElem?_modify]
 by_cases hj:i=j
 ·subst hj;cases es.toList[i]? with
  |none=>rfl
  |some e=>simp[hF]
 ·simp[hj]
theorem PX.modify{es:Array MapEntry}{c:Nat}(h:PX es c)(i:Nat)(F:MapEntry->MapEntry)(hF:∀e,(F e).born=e.born):PX (es.modify i F) c:=by
 have hb:=Zh es i F hF;refine⟨λe he=>?_,by rw[hb];exact h.2⟩;have:e.born∈es.toList.map (·.born):=hb▸lK.2 ⟨e,he,rfl⟩;obtain⟨e',vV,e1⟩:=lK.1 this;rw[<-e1];exact h.1 e' vV
theorem PX.erase{es:Array MapEntry}{c:Nat}(h:PX es c)(i:Nat):PX (es.eraseIdxIfInBounds i) c:=by
 have hs:(es.eraseIdxIfInBounds i).toList.Sublist es.toList:=by
  unfold Array.eraseIdxIfInBounds
  split
  ·simp only[Array.toList_eraseIdx];exact List.eraseIdx_sublist _ _
  ·exact List.Sublist.refl _
 exact⟨λe he=>h.1 e (hs.subset he),h.2.sublist (hs.map _)⟩
theorem PX.find{es:Array MapEntry}{c:Nat}(h:PX es c){i:Nat}{e:MapEntry}(he:es.toList[i]? =some e):es.findIdx? (λx=>(x.born:Int)==(e.born:Int))=some i:=by
 obtain⟨l⟩:=es;rw[List.findIdx?_toArray,List.findIdx?_eq_some_iff_getElem];have hi:=(kU.1 he).1;have hg:l[i]=e:=(kU.1 he).2;refine⟨hi,by rw[hg];simp,λj hj=>?_⟩;have hn:=h.2;simp only at hn;have dJ:i<l.length:=hi;have uE:j<l.length:=aB;have gF:l[j].born≠l[i].born:=λe'=>by
  have:=Qc.1 hn j i (by simp;omega) (by simpa using hi) hj;simp at this;exact this e'
 rw[hg] at gF;simp;omega
theorem kR(w:aH)(r:Nat)(o:Obj):aW (λk=>k=r) w {w with heap:=w.heap.setIfInBounds r o}:=
 ⟨rfl,rfl,rfl,by simp,λk _ hk=>by simp[Ne.symm hk]⟩
theorem VZ{kt et:TypeId}{t:TypeId}(ht:P.underlying t=some (.map kt et))(hk:QS P kt ek)(h:jP w r ek kn f n)(x:K)(v:kn.T){Q:aH->Prop}
  (hQ:∀w',jP w' r ek kn (λy=>if y=x then some v else f y) (if(f x).isSome then n else n+1)->aW (λk=>k=r) w w'->w'.heap.size=w.heap.size->Q w'):fF P t (.map (some r)) (ek x) (kn.aY v) w Q:=by
 obtain⟨es,c,l,h1,h2,h3,h4,h5,h6,hB,hf⟩:=h.find hk x w;rcases hf with⟨hx,g,pY⟩|⟨j,u,g,hj,hjs,tF,pY⟩
 ·refine⟨{w with heap:=w.heap.setIfInBounds r (.map (es.push {key:=ek x,val:=kn.aY v,born:=c}) (c+1))},by simp[Instr.mapUpdate,run_underlying ht,MapKept.run_getObj_map h1,hk.check,pY,run_setObj_map _ h1],hQ _ ?_ (kR w r _) dL⟩
  refine⟨_,_,l++[(x,v)],(heap_set h1).1,by simp[h2],by simp[h3],?_,λy=>?_,by rw[g];simp[h6],hB.push _ _⟩
  ·rw[yS,List.nodup_append]
   exact⟨h4,by simp,λa ha b hb=>by simp at hb;subst hb;exactλe=>hx (e▸ha)⟩
  ·show(if y=x then some v else f y)=_
   rw[EA hx y,h5]
 ·obtain⟨e,he⟩:∃e,es.toList[j]? =some e:=⟨_,gS (by simpa using hjs)⟩
  have hek:e.key=ek x:=by rw[he] at tF;simpa using tF
  have hea:es[j]? =some e:=by simpa using he
  refine⟨{w with heap:=w.heap.setIfInBounds r (.map (es.modify j λe=>{e with key:=ek x,val:=kn.aY v}) c)},by simp[Instr.mapUpdate,run_underlying ht,MapKept.run_getObj_map h1,hk.check,pY,run_setObj_map _ h1,Instr.keyThatStays,hea,hek,hk.stays],hQ _ ?_ (kR w r _) dL⟩;refine⟨_,_,l.set j (x,v),(heap_set h1).1,?_,?_,?_,λy=>?_,by rw[g];simp[h6],hB.modify j (λe=>{e with key:=ek x,val:=kn.aY v}) λ_=>rfl⟩
  ·rw[NV es j _ _ tF,h2]
   apply AZ;intro i;simp only[mG,vT]
   by_cases hi:j=i
   ·subst hi
    have cJ:=(kU.1 hj).1;rw[hj];simp[cJ]
   ·simp[hi]
  ·rw[NU,h3,List.map_set]
  ·have:(l.set j (x,v)).map (·.1)=l.map (·.1):=by
    apply AZ;intro i;simp only[mG,vT]
    by_cases hi:j=i
    ·subst hi
     have cJ:=(kU.1 hj).1;rw[hj];simp[cJ]
    ·simp[hi]
   rw[this];exact h4
  ·show(if y=x then some v else f y)=_
   rw[WG h4 (by rw[hj];rfl) y,h5]
theorem Yv(es:Array MapEntry)(i:Nat)(v:Value):(es.modify i λe=>{e with val:=v}).toList.map (·.key)=es.toList.map (·.key):=by
 apply AZ;intro j;simp only[mG,Array.toList_modify,List.getElem?_modify]
 by_cases hj:i=j
 ·subst hj;cases es.toList[i]?<;>simp
 ·simp[hj]
theorem Yu(es:Array MapEntry)(i:Nat)(v:Value):(es.modify i λe=>{e with val:=v}).toList.map (·.val)=(es.toList.map (·.val)).set i v:=by
 apply AZ;intro j;simp only[mG,Array.toList_modify,List.getElem?_modify,vT]
 by_cases hj:i=j
 ·subst hj
  by_cases cJ:i<es.toList.length
  ·have h2:i<es.size:=by simpa using cJ
   simp[h2]
  ·rw[List.getElem?_eq_none aB];simp at cJ;simp;omega
 ·simp[hj]
theorem Yw(es:Array MapEntry)(i:Nat)(k:Value):(es.modify i λe=>{e with key:=k}).toList.map (·.val)=es.toList.map (·.val):=by
 apply AZ;intro j;simp only[mG,Array.toList_modify,List.getElem?_modify]
 by_cases hj:i=j
 ·subst hj;cases es.toList[i]?<;>simp
 ·simp[hj]
theorem Yx(es:Array MapEntry)(i:Nat)(k:Value)(hk:(es.toList[i]?).map (·.key)=some k):(es.modify i λe=>{e with key:=k}).toList.map (·.key)=es.toList.map (·.key):=by
 apply AZ;intro j;simp only[mG,Array.toList_modify,List.getElem?_modify]
 by_cases hj:i=j
 ·subst hj
  cases he:es.toList[i]? with
  |none=>rfl
  |some e=>rw[he] at hk;simp at hk;simp[hk]
 ·simp[hj]
omit [DecidableEq K] in
theorem Bc{V:Type}{l:List (K×V)}{j:Nat}{x:K}{u:V}(v:V)(hj:l[j]? =some (x,u)):(l.set j (x,v)).map (·.1)=l.map (·.1):=by
 apply AZ;intro i;simp only[mG,vT]
 by_cases hi:j=i
 ·subst hi
  have cJ:=(kU.1 hj).1;rw[hj];simp[cJ]
 ·simp[hi]
theorem XH{t:TypeId}{es:Array MapEntry}{c:Nat}{l:List (K×kn.T)}(h1:w.heap[r]? =some (.map es c))(h2:es.toList.map (·.key)=l.map (λp=>ek p.1))(h3:es.toList.map (·.val)=l.map (λp=>kn.aY p.2))(h4:(l.map (·.1)).Nodup)(hB:PX es c)
  {j:Nat} {x:K} {u:kn.T} {e:MapEntry} (hj:l[j]? =some (x,u)) (he:es.toList[j]? =some e) (v:kn.T) {Q:aH->Prop}
  (hQ:∀w',jP w' r ek kn (λy=>if y=x then some v else wG l y) l.length->aW (λk=>k=r) w w'->w'.heap.size=w.heap.size->Q w'):uA P t (.map (some r)) (.int .i64 (e.born:Int)) (kn.aY v) w Q:=by
 have hfi:=hB.find he;refine⟨{w with heap:=w.heap.setIfInBounds r (.map (es.modify j λe=>{e with val:=kn.aY v}) c)},by simp[Instr.entryStore,MapKept.run_getObj_map h1,asInt,asIntOf,hfi,run_setObj_map _ h1],hQ _ ?_ (kR w r _) dL⟩;exact⟨_,_,l.set j (x,v),(heap_set h1).1,by have e1:=congrArg (List.map ek) (Bc v hj);rw[List.map_map,List.map_map] at e1;rw[Yv,h2];exact e1.symm,by rw[Yu,h3,List.map_set],by rw[Bc v hj];exact h4,
  λy=>by rw[WG h4 (by rw[hj];rfl) y],by simp,hB.modify j (λe=>{e with val:=kn.aY v}) λ_=>rfl⟩
theorem Rx{kt et:TypeId}{t:TypeId}(ht:P.underlying t=some (.map kt et))(hk:QS P kt ek){z:kn.T}(hz:(P.info? et).map (·.zero)=some (some (kn.aY z)))(h:jP w r ek kn f n)(x:K)(v:kn.T){Q:aH->Prop}
  (hQ:∀w',jP w' r ek kn (λy=>if y=x then some v else f y) (if(f x).isSome then n else n+1)->aW (λk=>k=r) w w'->w'.heap.size=w.heap.size->Q w'):
  HH P kn t (.map (some r)) (ek x) w λ_ sl w3=>uA P t (.map (some r)) (.int .i64 sl) (kn.aY v) w3 Q:=by
 obtain⟨es,c,l,h1,h2,h3,h4,h5,h6,hB,hf⟩:=h.find hk x w;have hzv:(zeroValue et).run P w=.ok (kn.aY z) w:=by
  cases hq:P.info? et with
  |none=>rw[hq] at hz;cases hz
  |some i=>rw[hq] at hz;simp at hz;simp[zeroValue,typeInfo,hq,hz]
 have two:∀(x:kn.T) (b:Int),yU [kn,.c (.int .i64)] (x,b,())=[kn.aY x,.int .i64 b]:=λ_ _=>rfl;have LG:es.size=l.length:=by have:=congrArg List.length h2;simpa using this
 rcases hf with⟨hx,g,pY⟩|⟨j,u,g,hj,hjs,tF,pY⟩
 ·have FZ:=(heap_set (o':=.map (es.push {key:=ek x,val:=kn.aY z,born:=c}) (c+1)) h1).1
  refine⟨(z,(c:Int),()),{w with heap:=w.heap.setIfInBounds r (.map (es.push {key:=ek x,val:=kn.aY z,born:=c}) (c+1))},by simp[Instr.mapEntry,run_underlying ht,MapKept.run_getObj_map h1,hk.check,pY,hzv,run_setObj_map _ h1,two,goInt],?_⟩;refine XH (ek:=ek) (e:={key:=ek x,val:=kn.aY z,born:=c}) (l:=l++[(x,z)]) (j:=l.length) (x:=x) (u:=z) FZ (by simp[h2]) (by simp[h3]) ?_ (hB.push _ _) dL (by simp[LG]) v λw' wo hmod hs=>?_
  ·rw[yS,List.nodup_append]
   exact⟨h4,by simp,λa ha b hb=>by simp at hb;subst hb;exactλe=>hx (e▸ha)⟩
  ·refine hQ w' (wo.congr (λy=>?_) (by rw[g];simp[h6])) ((kR w r _).tr hmod) (hs.trans dL)
   show(if y=x then some v else f y)=if y=x then some v else wG (l++[(x,z)]) y
   rw[EA hx y,h5]
   by_cases hy:y=x<;>simp[hy]
 ·obtain⟨e,he⟩:∃e,es.toList[j]? =some e:=⟨_,gS (by simpa using hjs)⟩
  have hek:e.key=ek x:=by rw[he] at tF;simpa using tF
  have hea:es[j]? =some e:=by simpa using he
  have FZ:=(heap_set (o':=.map (es.modify j λe=>{e with key:=ek x}) c) h1).1;refine⟨(u,(e.born:Int),()),{w with heap:=w.heap.setIfInBounds r (.map (es.modify j λe=>{e with key:=ek x}) c)},by simp[Instr.mapEntry,run_underlying ht,MapKept.run_getObj_map h1,hk.check,pY,run_setObj_map _ h1,Instr.keyThatStays,hea,hek,hk.stays,two,goInt],?_⟩;refine XH (ek:=ek) (es:=es.modify j λe=>{e with key:=ek x}) (e:={e with key:=ek x}) (l:=l) (j:=j) (x:=x) (u:=u) FZ (by rw[Yx es j _ tF,h2]) (by rw[Yw,h3]) h4 (hB.modify j (λe=>{e with key:=ek x}) λ_=>rfl) hj ?_ v λw' wo hmod hs=>?_
  ·simp[List.getElem?_modify,hea]
  ·refine hQ w' (wo.congr (λy=>?_) (by rw[g];simp[h6])) ((kR w r _).tr hmod) (hs.trans dL)
   show(if y=x then some v else f y)=if y=x then some v else wG l y
   rw[h5]
theorem Ik{V:Type}:∀{l:List (K×V)} {j:Nat} {x:K},(l.map (·.1)).Nodup->(l[j]?).map (·.1)=some x->∀y,wG (l.eraseIdx j) y=if y=x then none else wG l y
 | [],j,x,_,h,_=>by simp at h
 |p::r,0,x,hn,h,y=>by
  simp at h;simp only[List.map_cons,List.nodup_cons] at hn;simp only[List.eraseIdx_cons_zero,wG]
  by_cases hy:y=x
  ·subst hy;rw[if_pos rfl];exact HG (h▸hn.1)
  ·rw[if_neg hy,h,if_neg (λe=>hy e.symm)]
 |p::r,j+1,x,hn,h,y=>by
  simp only[List.getElem?_cons_succ] at h;simp only[List.map_cons,List.nodup_cons] at hn;simp only[List.eraseIdx_cons_succ,wG];have hx:x∈r.map (·.1):=by
   cases hj:r[j]? with
   |none=>rw[hj] at h;cases h
   |some q=>rw[hj] at h;simp at h;rw[<-h];exact lK.2 ⟨q,zH hj,rfl⟩
  have hpx:p.1≠x:=λe=>hn.1 (e▸hx);rw[Ik hn.2 h y]
  by_cases hy:y=x
  ·subst hy;simp[hpx]
  ·simp[hy]
theorem Hf{kt et u:TypeId}{t:TypeId}(ht:P.underlying t=some (.map kt et))(hk:QS P kt ek)(h:jP w r ek kn f n)(x:K){Q:aH->Prop}
  (hQ:∀w',jP w' r ek kn (λy=>if y=x then none else f y) (if(f x).isSome then n-1 else n)->aW (λk=>k=r) w w'->w'.heap.size=w.heap.size->Q w'):qC P t u (.map (some r)) (ek x) w Q:=by
 obtain⟨es,c,l,h1,h2,h3,h4,h5,h6,hB,hf⟩:=h.find hk x w;rcases hf with⟨hx,g,pY⟩|⟨j,v,g,hj,hjs,tF,pY⟩
 ·refine⟨(),{w with heap:=w.heap.setIfInBounds r (.map es c)},by simp[Builtin.delete_,run_underlying ht,MapKept.run_getObj_map h1,hk.check,pY,run_setObj_map _ h1,yU],hQ _ ?_ (kR w r _) dL⟩
  refine⟨_,_,l,(heap_set h1).1,h2,h3,h4,λy=>?_,by rw[g];simp[h6],hB⟩;show(if y=x then none else f y)=_
  by_cases hy:y=x
  ·subst hy;rw[if_pos rfl,HG hx]
  ·rw[if_neg hy,h5]
 ·refine⟨(),{w with heap:=w.heap.setIfInBounds r (.map (es.eraseIdxIfInBounds j) c)},by simp[Builtin.delete_,run_underlying ht,MapKept.run_getObj_map h1,hk.check,pY,run_setObj_map _ h1,yU],hQ _ ?_ (kR w r _) dL⟩
  have er:(es.eraseIdxIfInBounds j).toList=es.toList.eraseIdx j:=by
   unfold Array.eraseIdxIfInBounds;rw[dif_pos hjs];simp
  have em:∀{A B:Type} (F:A->B) (l:List A) (i:Nat),(l.eraseIdx i).map F=(l.map F).eraseIdx i:=by
   intro A B F l
   induction l with
   |nil=>intro i;simp
   |cons a l ih=>intro i;cases i with
    |zero=>simp
    |succ i=>simp[ih]
  have cJ:=(kU.1 hj).1;refine⟨_,_,l.eraseIdx j,(heap_set h1).1,by rw[er,em,em,h2],by rw[er,em,em,h3],?_,λy=>?_,by rw[g];simp[List.length_eraseIdx,cJ,h6];omega,hB.erase j⟩
  ·rw[em];exact h4.sublist (List.eraseIdx_sublist _ _)
  ·show(if y=x then none else f y)=_
   rw[Ik h4 (by rw[hj];rfl) y,h5]
end
end
end Go.Den
namespace Go.Den
open Go
section
abbrev BS:=Nat->Prop
abbrev As:=aH->BS->Prop
class bF (A:As):Prop where
 gH:∀{w:aH} {S:BS},A w S->∀k,S k->k<w.heap.size
 aK:∀{w w':aH} {S F:BS},A w S->aW F w w'->(∀k,S k->¬F k)->A w' S
structure Up(S S':BS)(w w':aH):Prop where
 m:aW S w w'
 s:∀k,S' k->S k\/w.heap.size<=k
section
variable{S S' S'' T:BS}{w w' Cy:aH}
theorem Up.refl(S:BS)(w:aH):Up S S w w:=⟨aW.refl _ _,λ_ h=>.inl h⟩
theorem Up.tr(h:Up S S' w w')(h':Up S' S'' w' Cy):Up S S'' w Cy:=
 ⟨h.m.trans h'.m λk hk hs=>(h.s k hs).resolve_right aB,λk hk=>(h'.s k hk).elim (h.s k) λhh=>.inr (iF h.m.size hh)⟩
theorem Up.sub(w:aH)(h:∀k,S' k->S k):Up S S' w w:=⟨aW.refl _ _,λk hk=>.inl (h k hk)⟩
theorem Up.aN(k:aM w w'):Up S S w w':=⟨k.wk,λ_ h=>.inl h⟩
theorem Up.new(k:aM w w')(h:∀k,S' k->S k\/w.heap.size<=k):Up S S' w w':=⟨k.wk,h⟩
theorem Up.at(m:aW S w w'):Up S S w w':=⟨m,λ_ h=>.inl h⟩
theorem Up.ft(h:Up S S' w w')(hd:∀k,S k->T k->False)(hb:∀k,T k->k<w.heap.size):∀k,S' k->T k->False:=λk hs ht=>
 (h.s k hs).elim (λh=>hd k h ht) λh=>by have:=hb k ht;omega
theorem Up.size(h:Up S S' w w'):w.heap.size<=w'.heap.size:=h.m.size
end
def aZ(A B:As):As:=λw S=>∃S1 S2,A w S1/\B w S2/\(∀k,S1 k->S2 k->False)/\∀k,S k↔S1 k\/S2 k
def Ex{α:Type}(f:α->As):As:=λw S=>∃x,f x w S
def DK:As:=λ_ S=>∀k,¬S k
def Pr(p:Prop)(A:As):As:=λw S=>p/\A w S
instance:bF DK:=⟨λh k hk=>absurd hk (h k),λh _ _=>h⟩
instance{α:Type}{f:α->As}[∀x,bF (f x)]:bF (Ex f):=⟨λ⟨x,h⟩=>bF.gH h,λ⟨x,h⟩ m hn=>⟨x,bF.aK h m hn⟩⟩
instance{p:Prop}{A:As}[bF A]:bF (Pr p A):=⟨λ⟨_,h⟩=>bF.gH h,λ⟨hp,h⟩ m hn=>⟨hp,bF.aK h m hn⟩⟩
instance{A B:As}[bF A][bF B]:bF (aZ A B):=⟨
 λ⟨S1,S2,h1,h2,_,e⟩ k hk=>((e k).1 hk).elim (bF.gH h1 k) (bF.gH h2 k),
 λ⟨S1,S2,h1,h2,d,e⟩ m hn=>⟨S1,S2,bF.aK h1 m λk hk=>hn k ((e k).2 (.inl hk)),bF.aK h2 m λk hk=>hn k ((e k).2 (.inr hk)),d,e⟩⟩
section
variable{A A' B B' C D:As}{w w':aH}{S S':BS}
theorem aZ.vR{S1 S2:BS}(h1:A w S1)(h2:B w S2)(d:∀k,S1 k->S2 k->False):aZ A B w (λk=>S1 k\/S2 k):=⟨S1,S2,h1,h2,d,λ_=>Iff.rfl⟩
theorem aZ.cm(h:aZ A B w S):aZ B A w S:=by
 obtain⟨S1,S2,h1,h2,d,e⟩:=h;exact⟨S2,S1,h2,h1,λk a b=>d k b a,λk=>(e k).trans Or.comm⟩
theorem aZ.asr(h:aZ (aZ A B) C w S):aZ A (aZ B C) w S:=by
 obtain⟨S1,S2,⟨T1,T2,a,b,d1,e1⟩,c,d,e⟩:=h;refine⟨T1,λk=>T2 k\/S2 k,a,⟨T2,S2,b,c,λk h1 h2=>d k ((e1 k).2 (.inr h1)) h2,λ_=>Iff.rfl⟩,λk h1 h2=>h2.elim (d1 k h1) (d k ((e1 k).2 (.inl h1))),λk=>?_⟩;rw[e k,e1 k,or_assoc]
theorem aZ.asl(h:aZ A (aZ B C) w S):aZ (aZ A B) C w S:=by
 obtain⟨S1,S2,a,⟨T1,T2,b,c,d1,e1⟩,d,e⟩:=h;refine⟨λk=>S1 k\/T1 k,T2,⟨S1,T1,a,b,λk h1 h2=>d k h1 ((e1 k).2 (.inl h2)),λ_=>Iff.rfl⟩,c,λk h1 h2=>h1.elim (λh1=>d k h1 ((e1 k).2 (.inr h2))) λh1=>d1 k h1 h2,λk=>?_⟩;rw[e k,e1 k,or_assoc]
theorem aZ.mono(h:aZ A B w S)(hA:∀S,A w S->A' w S)(hB:∀S,B w S->B' w S):aZ A' B' w S:=by
 obtain⟨S1,S2,h1,h2,d,e⟩:=h;exact⟨S1,S2,hA _ h1,hB _ h2,d,e⟩
theorem aZ.drop(h:aZ A B w S):∃S',A w S'/\Up S S' w w:=by
 obtain⟨S1,S2,h1,h2,d,e⟩:=h;exact⟨S1,h1,Up.sub w λk hk=>(e k).2 (.inl hk)⟩
theorem aZ.emp(h:A w S):aZ A DK w S:=⟨S,λ_=>False,h,λ_=>id,λ_ _=>id,λk=>⟨.inl,λh=>h.elim id False.elim⟩⟩
end
def Us(w:aH)(S:BS)(B:As)(R:As->As):Prop:=∃S1,B w S1/\(∀k,S1 k->S k)/\∀B' D w' AW,Up S1 AW w w'->aZ B' D w' AW->∃S',aZ (R B') D w' S'/\Up S S' w w'
section
variable{A B C:As}{w:aH}{S:BS}{R R':As->As}
theorem aZ.l[bF B](h:aZ A B w S):Us w S A λX=>aZ X B:=by
 obtain⟨S1,S2,h1,h2,d,e⟩:=h;refine⟨S1,h1,λk hk=>(e k).2 (.inl hk),λA' D w' T u hT=>?_⟩;obtain⟨T1,T2,a,b,d',e'⟩:=hT;have b2:∀k,S2 k->k<w.heap.size:=bF.gH h2;have dd:=u.ft d b2;refine⟨λk=>(T1 k\/S2 k)\/T2 k,⟨λk=>T1 k\/S2 k,T2,⟨T1,S2,a,bF.aK h2 u.m λk hk lD=>d k lD hk,λk h1 h2=>dd k ((e' k).2 (.inl h1)) h2,λ_=>Iff.rfl⟩,b,λk h1 h2=>h1.elim (λh=>d' k h h2) λh=>dd k ((e' k).2 (.inr h2)) h,λ_=>Iff.rfl⟩,⟨u.m.mono λk _ hk=>(e k).2 (.inl hk),λk hk=>?_⟩⟩;have hs:∀k,T k->S k\/w.heap.size<=k:=λk hk=>(u.s k hk).imp (λh=>(e k).2 (.inl h)) id;rcases hk with(hk|hk)|hk
 ·exact hs k ((e' k).2 (.inl hk))
 ·exact .inl ((e k).2 (.inr hk))
 ·exact hs k ((e' k).2 (.inr hk))
theorem aZ.r[bF A](h:aZ A B w S):Us w S B λX=>aZ A X:=by
 obtain⟨S1,h1,hs,dN⟩:=aZ.l h.cm;refine⟨S1,h1,hs,λB' D w' T u hT=>?_⟩;obtain⟨S',h',u'⟩:=dN B' D w' T u hT;exact⟨S',h'.mono (λ_ h=>h.cm) λ_ h=>h,u'⟩
theorem Us.c(f:Us w S B R)(g:∀T,B w T->Us w T C R'):Us w S C λX=>R (R' X):=by
 obtain⟨S1,h1,hs,dN⟩:=f;obtain⟨S2,h2,FP,GP⟩:=g S1 h1;refine⟨S2,h2,λk hk=>hs k (FP k hk),λB' D w' T u hT=>?_⟩;obtain⟨T',h',u'⟩:=GP B' D w' T u hT;exact dN _ D w' T' u' h'
theorem Us.put(f:Us w S B R):∃S1,B w S1/\(∀k,S1 k->S k)/\∀B' w' AW,Up S1 AW w w'->B' w' AW->∃S',R B' w' S'/\Up S S' w w':=by
 obtain⟨S1,h1,hs,dN⟩:=f;refine⟨S1,h1,hs,λB' w' T u hT=>?_⟩;obtain⟨S',h',u'⟩:=dN B' DK w' T u (aZ.emp hT);obtain⟨S2,h2,u2⟩:=h'.drop;exact⟨S2,h2,u'.tr u2⟩
end
def sB(g:Nat)(e:TypeId)(cs:List Value):As:=λw S=>cW w g e cs/\∀k,S k↔k=g
instance{g:Nat}{e:TypeId}{cs:List Value}:bF (sB g e cs):=⟨λ⟨h,e⟩ k hk=>by rw[(e k).1 hk];exact h.lt,λ⟨h,e⟩ m hn=>⟨h.aK m (hn g ((e g).2 rfl)),e⟩⟩
theorem sB.up{g:Nat}{e:TypeId}{cs ds:List Value}{w w':aH}{S:BS}(h:sB g e cs w S)(o:cW w' g e ds)(m:aW (λk=>k=g) w w'):sB g e ds w' S/\Up S S w w':=
 ⟨⟨o,h.2⟩,Up.at (m.mono λk _ hk=>(h.2 k).2 hk)⟩
def uJ{K:Type}[DecidableEq K](r:Nat)(ek:K->Value)(kn:nP)(f:K->Option kn.T)(n:Nat):As:=λw S=>jP w r ek kn f n/\∀k,S k↔k=r
instance{K:Type}[DecidableEq K]{r:Nat}{ek:K->Value}{kn:nP}{f:K->Option kn.T}{n:Nat}:bF (uJ r ek kn f n):=⟨λ⟨h,e⟩ k hk=>by rw[(e k).1 hk];exact h.lt,λ⟨h,e⟩ m hn=>⟨h.aK m (hn r ((e r).2 rfl)),e⟩⟩
def AX{α:Type}(n:Nat)(aY:α->List Value)(s:Sl)(xs:List α):As:=λw S=>Rd w s n aY xs/\(∀x,aY x≠[])/\(∀b,s.b=some b->b.block<w.heap.size)/\∀k,S k↔∃b,s.b=some b/\k=b.block
instance{α:Type}{n:Nat}{aY:α->List Value}{s:Sl}{xs:List α}:bF (AX n aY s xs):=⟨
 λ⟨_,_,h,e⟩ k hk=>by obtain⟨b,hb,rfl⟩:=(e k).1 hk;exact h b hb,
 λ⟨h,gF,hb,e⟩ m hn=>⟨h.aK m gF λb hb=>hn _ ((e _).2 ⟨b,hb,rfl⟩),gF,λb h=>mD (hb b h) m.size,e⟩⟩
def iU{α:Type}(e:TypeId)(n:Nat)(aY:α->List Value)(s:Sl)(xs:List α):As:=λw S=>dQ w e n aY s xs/\∀k,S k↔∃b,s.b=some b/\k=b.block
theorem dQ.Ud{α:Type}{w:aH}{e:TypeId}{n:Nat}{aY:α->List Value}{s:Sl}{xs:List α}(h:dQ w e n aY s xs){b:Addr}(hb:s.b=some b):b.block<w.heap.size:=by
 rcases h.gN with⟨h0,_⟩|⟨g,dE,h0,ho,_⟩
 ·rw[hb] at h0;cases h0
 ·rw[hb] at h0;cases h0;exact ho.lt
instance{α:Type}{e:TypeId}{n:Nat}{aY:α->List Value}{s:Sl}{xs:List α}:bF (iU e n aY s xs):=⟨
 λ⟨h,e⟩ k hk=>by obtain⟨b,hb,rfl⟩:=(e k).1 hk;exact h.Ud hb,
 λ⟨h,e⟩ m hn=>⟨h.aK m λb hb=>hn _ ((e _).2 ⟨b,hb,rfl⟩),e⟩⟩
def vZ{α:Type}(f:α->As):List α->As
 | []=>DK
 |x::r=>aZ (f x) (vZ f r)
instance vZ.loc{α:Type}{f:α->As}[h:∀x,bF (f x)]:∀{l:List α},bF (vZ f l)
 | []=>inferInstanceAs (bF DK)
 |x::r=>by
  have:=vZ.loc (f:=f) (l:=r);exact inferInstanceAs (bF (aZ (f x) (vZ f r)))
def Av{α:Type}(f:α->As)(X:As):List α->Nat->As
 | [],_=>X
 |_::r,0=>aZ X (vZ f r)
 |x::r,i+1=>aZ (f x) (Av f X r i)
theorem vZ.at{α:Type}{f:α->As}[h:∀x,bF (f x)]:∀{l:List α} {i:Nat} {x:α} {w:aH} {S:BS},vZ f l w S->l[i]? =some x->Us w S (f x) λX=>Av f X l i
 |y::r,0,x,w,S,hA,hx=>by cases hx;exact aZ.l hA
 |y::r,i+1,x,w,S,hA,hx=>Us.c (aZ.r hA) λT hT=>vZ.at (l:=r) (i:=i) hT (by simpa using hx)
theorem Av.set{α:Type}{f:α->As}{x:α}:∀{l:List α} {i:Nat} {w:aH} {S:BS},i<l.length->Av f (f x) l i w S->vZ f (l.set i x) w S
 |y::r,0,_,_,_,h=>h
 |y::r,i+1,_,_,hl,h=>aZ.mono h (λ_ h=>h) λ_ h=>Av.set (by simpa using hl) h
end
end Go.Den
