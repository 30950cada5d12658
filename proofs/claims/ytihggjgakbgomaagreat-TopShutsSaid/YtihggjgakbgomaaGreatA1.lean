/-
  Short names.
-/
import Derived.Orders
import Derived.KernelRfl
import Derived.Tactics
import Derived.Laws.Tables
import Derived.Laws.StructEq
import Derived.Laws.MakeOwn
import Derived.Laws.Slices
import Derived.Laws.AppendOwn
import Derived.Laws.OwnMore
import Derived.Laws.CopyRow
import Derived.Below
import Derived.Lib.SmallJoins
import Derived.Lib.Overlaps
import Derived.MapKept
set_option linter.defProp false
namespace Go.Den
open Go
def aB{p:Prop}(h:p:=by omega):p:=h
def iZ{p:Prop}(h:p:=by kernel_rfl):p:=h
abbrev aD(x:Int):Value:=.int .i64 x
abbrev aH:=World
abbrev aQ(n:Int):Int:=IntKind.wrap .i64 n
abbrev WQ(α:Type):=α->World->Prop
abbrev cW:=Option Addr
def dP{p:Prop}(h:p:=by simp):p:=h
abbrev ly0:=@List.length_singleton
abbrev Dg:=@List.map_cons
abbrev ly2:=@List.filter_cons_of_neg
abbrev ly3:=@List.filter_congr
abbrev ly4:=@List.drop_eq_getElem_cons
abbrev kc:=@Int.toNat_of_nonneg
abbrev ly6:=@List.take_of_length_le
abbrev ly7:=@List.getElem?_drop
abbrev jz:=@List.length_drop
abbrev ly9:=@List.mem_of_find?_eq_some
abbrev TW:=@List.length_nil
abbrev cL:=@List.getElem?_eq_getElem
abbrev eR:=@List.getElem?_eq_some_iff
abbrev dU:=@Int.toNat_natCast
abbrev fN:=@List.length_append
abbrev oH:=@List.take_succ_eq_append_getElem
abbrev cY:=@Nat.zero_le
abbrev dN:=@Nat.le_refl
abbrev kR:=@List.mem_of_getElem?
abbrev jC:=@List.getElem?_set
abbrev gK:=@Nat.zero_add
abbrev pP:=@Nat.lt_of_lt_of_le
abbrev pJ:=@List.mem_iff_getElem?
abbrev oG:=@List.getElem?_map
abbrev kK:=@List.mem_append
abbrev jB:=@Nat.le_trans
abbrev oF:=@List.getElem_mem
abbrev mH:=@List.length_cons
abbrev oV:=@List.take_length
abbrev jR:=@List.mem_filter
abbrev xG:=@List.length_filter_le
abbrev rA:=@List.length_take
abbrev jQ:=@List.mem_cons
abbrev lT:=@List.length_map
abbrev mR:=@List.mem_singleton
abbrev oE:=@List.length_set
abbrev sV:=@List.append_assoc
abbrev tG:=@Bool.and_eq_true
abbrev MJ:=@List.getD_eq_getElem?_getD
abbrev rF:=@List.append_nil
abbrev QR:=@Nat.mul_le_mul_right
abbrev uI:=@Option.some.inj
abbrev JP:=@Nat.eq_of_beq_eq_true
abbrev Mq:=@List.eq_nil_of_length_eq_zero
abbrev mQ:=@List.mem_map
abbrev yV:=@List.ext_getElem?
abbrev lR:=@Int.le_refl
abbrev HA:=@List.flatMap_append
abbrev xF:=@List.map_append
abbrev FU:=@List.flatMap_cons
abbrev WC:=@List.getElem?_take_of_lt
abbrev TV:=@List.filter_append
abbrev TU:=@List.Pairwise.filter
abbrev Gv:=@List.getElem?_append_right
abbrev Gu:=@List.getElem?_append_left
abbrev JO:=@List.filter_cons
abbrev TS:=@Nat.mul_le_mul
abbrev Mp:=@Option.isSome_iff_exists
abbrev Gt:=@List.getElem?_replicate
abbrev Mo:=@List.take_append_drop
abbrev Xg:=@List.pairwise_iff_getElem
abbrev ly61:=@List.mem_cons_self
abbrev WB:=@List.mem_cons_of_mem
abbrev cR:=List Int
abbrev gJ:=List Value
abbrev rZ:=List Bool
abbrev fL:=TypeId
abbrev YZ:=Program
open Go.IntKind (wrap)
structure Sl where
 b:cW
 l:Nat
 c:Nat
inductive CK where
 |int (k:IntKind)
 |bool
 |str
 |ptr
 |slice
 |map
 |any
def CK.T:CK->Type
 | .int _=>Int
 | .bool=>Bool
 | .str=>ByteArray
 | .ptr=>cW
 | .slice=>Sl
 | .map=>Option Nat
 | .any=>Value
def CK.aY:(k:CK)->k.T->Value
 | .int k,(n:Int)=>.int k n
 | .bool,(b:Bool)=>.bool b
 | .str,(s:ByteArray)=>.string s
 | .ptr,(p:cW)=>.pointer p
 | .slice,(s:Sl)=>.slice s.b s.l s.c
 | .map,(r:Option Nat)=>.map r
 | .any,(v:Value)=>v
def CK.of:Value->CK
 | .int k _=>.int k
 | .bool _=>.bool
 | .string _=>.str
 | .pointer _=>.ptr
 | .slice ..=>.slice
 | .map _=>.map
 |_=>.any
def CK.MG:(k:CK)->Value->(k.T->Prop)->Prop
 | .int k,.int k' n,K=>match decEq k k' with
  | .isTrue _=>K n
  | .isFalse _=>False
 | .bool,.bool b,K=>K b
 | .str,.string s,K=>K s
 | .ptr,.pointer p,K=>K p
 | .slice,.slice b l c,K=>K ⟨b,l,c⟩
 | .map,.map r,K=>K r
 | .any,v,K=>K v
 |_,_,_=>False
def CTs:List CK->Type
 | []=>Unit
 |k::r=>k.T×CTs r
def rJ:(l:List CK)->CTs l->List Value
 | [],_=>[]
 |k::r,t=>k.aY t.1::rJ r t.2
def decs:(l:List CK)->List Value->(CTs l->Prop)->Prop
 | [],[],K=>K ()
 |k::r,v::vs,K=>k.MG v λx=>decs r vs λt=>K (x,t)
 |_,_,_=>False
inductive oU where
 |c (k:CK)
 |agg (l:List CK)
def oU.T:oU->Type
 | .c k=>k.T
 | .agg l=>CTs l
def oU.aY:(k:oU)->k.T->Value
 | .c k,t=>k.aY t
 | .agg l,t=>.agg (rJ l t).toArray
def oU.MG:(k:oU)->Value->(k.T->Prop)->Prop
 | .c k,v,K=>k.MG v K
 | .agg l,.agg cs,K=>decs l cs.toList K
 |_,_,_=>False
def oU.of:Value->oU
 | .agg zs=>.agg (zs.toList.map CK.of)
 |v=>.c (CK.of v)
def Gm:List oU->Type
 | []=>Unit
 |k::r=>k.T×Gm r
def AD:(l:List oU)->Gm l->List Value
 | [],_=>[]
 |k::r,t=>k.aY t.1::AD r t.2
def Hc:(l:List oU)->List Value->(Gm l->Prop)->Prop
 | [],[],K=>K ()
 |k::r,v::vs,K=>k.MG v λx=>Hc r vs λt=>K (x,t)
 |_,_,_=>False
def CK.zI{k:CK}{v:Value}{K:k.T->Prop}(h:k.MG v K):∃x,v=k.aY x/\K x:=by
 cases k
 case int k=>
  cases v<;>simp only[CK.MG] at h
  rename_i k' n
  cases hd:decEq k k' with
  |isTrue e=>subst e;rw[hd] at h;exact⟨n,rfl,h⟩
  |isFalse e=>rw[hd] at h;exact h.elim
 all_goals first
  |(cases v<;>simp only[CK.MG] at h<;>exact⟨_,rfl,h⟩)
  |exact⟨v,rfl,by cases v<;>exact h⟩
def Qh:∀{l:List CK} {vs:List Value} {K:CTs l->Prop},decs l vs K->∃t,vs=rJ l t/\K t
 | [],[],_,h=>⟨(),rfl,h⟩
 | [],_::_,_,h=>h.elim
 |_::_,[],_,h=>h.elim
 |k::r,v::vs,K,h=>by
  obtain⟨x,rfl,h2⟩:=CK.zI h;obtain⟨t,rfl,h3⟩:=Qh (l:=r) (vs:=vs) (K:=λt=>K (x,t)) h2;exact⟨(x,t),rfl,h3⟩
def oU.zI{k:oU}{v:Value}{K:k.T->Prop}(h:k.MG v K):∃x,v=k.aY x/\K x:=by
 cases k with
 |c k=>exact CK.zI h
 |agg l=>
  cases v<;>simp only[oU.MG] at h
  rename_i cs
  obtain⟨t,ht,h⟩:=Qh h;exact⟨t,by simp only[oU.aY,<-ht],h⟩
def xT:∀{l:List oU} {vs:List Value} {K:Gm l->Prop},Hc l vs K->∃t,vs=AD l t/\K t
 | [],[],_,h=>⟨(),rfl,h⟩
 | [],_::_,_,h=>h.elim
 |_::_,[],_,h=>h.elim
 |k::r,v::vs,K,h=>by
  obtain⟨x,rfl,h2⟩:=oU.zI h;obtain⟨t,rfl,h3⟩:=xT (l:=r) (vs:=vs) (K:=λt=>K (x,t)) h2;exact⟨(x,t),rfl,h3⟩
abbrev mV:=List (Nat×Value)
def mI:mV->Nat->Option Value
 | [],_=>none
 |(i,v)::r,t=>cond (Nat.beq i t) (some v) (mI r t)
def rdT(bN o:mV)(t:Nat):Option Value:=match mI bN t with
 |some v=>some v
 |none=>mI o t
def rd(bN o:mV):Operand->Option Value
 | .tmp t=>rdT bN o t
 | .const v=>some v
 | .global g=>some (.pointer (some ⟨g,0,none⟩))
 | .func f=>some (.func (.func f) #[] #[])
def nX{α:Type}(x:Option α)(K:α->Prop):Prop:=match x with
 |some v=>K v
 |none=>False
def aV{α:Type}{x:Option α}{K:α->Prop}(h:nX x K):∃v,x=some v/\K v:=by
 cases x with
 |none=>exact h.elim
 |some v=>exact⟨v,rfl,h⟩
def Fz(bN o:mV):List Operand->Option (List Value)
 | []=>some []
 |x::r=>match rd bN o x with
  |some v=>match Fz bN o r with
   |some vs=>some (v::vs)
   |none=>none
  |none=>none
structure mA(n:Nat)(bN o:mV)(a:Act):Prop where
 size:a.tmps.size=n
 bN:∀t v,mI bN t=some v->a.tmps.getD t undef=v
 o:∀t v,mI o t=some v->a.tmps.getD t undef=v
 wc:a.defers=[]
def mA.rd{n:Nat}{bN o:mV}{a:Act}(h:mA n bN o a){x:Operand}{v:Value}(hx:rd bN o x=some v):a.eval x=v:=by
 cases x with
 |tmp t=>
  simp only[Den.rd,rdT] at hx;cases hl:mI bN t with
  |some u=>rw[hl] at hx;cases hx;exact h.bN _ _ hl
  |none=>rw[hl] at hx;exact h.o _ _ hx
 |const c=>cases hx;rfl
 |global g=>cases hx;rfl
 |func f=>cases hx;rfl
def mA.Fz{n:Nat}{bN o:mV}{a:Act}(h:mA n bN o a):∀{xs:List Operand} {vs:List Value},Fz bN o xs=some vs->xs.map a.eval=vs
 | [],vs,hx=>by cases hx;rfl
 |x::r,vs,hx=>by
  simp only[Den.Fz] at hx;cases h1:Den.rd bN o x with
  |none=>simp[h1] at hx
  |some v=>
   cases h2:Den.Fz bN o r with
   |none=>simp[h1,h2] at hx
   |some us=>simp[h1,h2] at hx;subst hx;simp[h.rd h1,mA.Fz h h2]
def WA(n:Nat)(dst:Option Nat)(v:Value)(o bN:mV)(K:mV->Prop):Prop:=match dst with
 |none=>K bN
 |some d=>cond (Nat.blt d n) (match mI o d with
  |none=>K ((d,v)::bN)
  |some _=>False) False
def xQ{n:Nat}{dst:Option Nat}{v:Value}{o bN:mV}{K:mV->Prop}(h:WA n dst v o bN K):
  ∃gD,K gD/\∀a,mA n bN o a->mA n gD o (a.put dst v):=by
 cases dst with
 |none=>exact⟨bN,h,λa ha=>ha⟩
 |some d=>
  simp only[WA] at h;cases hb:Nat.blt d n with
  |false=>rw[hb] at h;exact h.elim
  |true=>
   rw[hb] at h;cases hl:mI o d with
   |some u=>rw[hl] at h;exact h.elim
   |none=>
    rw[hl] at h;have hd:d<n:=by simpa using hb
    refine⟨_,h,λa ha=>⟨by simp[Act.put,ha.size],?_,?_,ha.wc⟩⟩
    ·intro t u hu;simp only[mI] at hu;cases he:Nat.beq d t with
     |true=>rw[he] at hu;have:d=t:=JP he;subst this;cases hu;simp[Act.put,ha.size,hd]
     |false=>rw[he] at hu;have gQ:d≠t:=Nat.ne_of_beq_eq_false he;have:=ha.bN t u hu;simpa [Act.put,Array.getElem?_setIfInBounds_ne gQ] using this
    ·intro t u hu;have gQ:d≠t:=by rintro rfl;rw[hl] at hu;cases hu
     have:=ha.o t u hu;simpa [Act.put,Array.getElem?_setIfInBounds_ne gQ] using this
def aC(p:cW)(K:Addr->Prop):Prop:=match p with
 |some a=>K a
 |none=>False
def aR(b:cW)(c l size:Nat):cW:=if c=l then b else b.map (·.add (l*size))
def nilV(v:Value)(K:Value->Prop):Prop:=match v with
 | .func (.func _) _ _=>K v
 |_=>False
def pA(op:BinOp)(k:IntKind)(x y:Int):Int:=
 let a:=BitVec.ofInt k.bits x
 let b:=BitVec.ofInt k.bits y
 match op with
 | .and=>k.wrap (a &&& b).toNat
 | .or=>k.wrap (a |||b).toNat
 | .xor=>k.wrap (a^^^b).toNat
 |_=>k.wrap (a &&& ~~~b).toNat
def zR(P:Program):List Field->Nat->Bool
 | [],_=>true
 |f::r,i=>!(f.name== "_") && Nat.beq f.offset i && (match P.underlying f.type with
  |some (.int _)=>true
  |_=>false) && zR P r (i+1)
def GC:List Value->List Value->Option Bool
 | [],[]=>some true
 | .int k a::r,.int k' b::s=>match decEq k k' with
  | .isTrue _=>match GC r s with
   |some e=>some ((a==b) && e)
   |none=>none
  | .isFalse _=>none
 |_,_=>none
def yd(P:Program)(t:TypeId)(xs ys:Array Value)(K:Bool->Prop):Prop:=
 match P.underlying t with
 |some (.struct fs)=>cond (!P.stoodInHeld t && !P.eqGuardType P.depth t && zR P fs.toList 0 && Nat.beq fs.size xs.size && Nat.beq fs.size ys.size) (nX (GC xs.toList ys.toList) K) False
 |_=>False
def Su(P:Program)(op:BinOp)(t:TypeId)(x y:Value)(K:Value->Prop):Prop:=
 match x,y with
 | .int k a,.int k' b=>
  match op with
  | .shl=>0<=b/\K (.int k (k.wrap (a*2^(min b.toNat k.bits))))
  | .shr=>0<=b/\K (.int k (a.fdiv (2^(min b.toNat k.bits))))
  |op=>match decEq k k' with
   | .isFalse _=>False
   | .isTrue _=>match op with
    | .add=>K (.int k (k.wrap (a+b)))
    | .sub=>K (.int k (k.wrap (a-b)))
    | .mul=>K (.int k (k.wrap (a*b)))
    | .quo=>¬b=0/\K (.int k (k.wrap (a.tdiv b)))
    | .rem=>¬b=0/\K (.int k (a.tmod b))
    | .and=>K (.int k (pA .and k a b))
    | .or=>K (.int k (pA .or k a b))
    | .xor=>K (.int k (pA .xor k a b))
    | .andNot=>K (.int k (pA .andNot k a b))
    | .eql=>K (.bool (a==b))
    | .neq=>K (.bool (a !=b))
    | .lss=>K (.bool (decide (a<b)))
    | .leq=>K (.bool (decide (a<=b)))
    | .gtr=>K (.bool (decide (a>b)))
    | .geq=>K (.bool (decide (a>=b)))
    |_=>False
 | .bool a,.bool b=>match op,P.underlying t with
  | .eql,some .bool=>K (.bool (a==b))
  | .neq,some .bool=>K (.bool (!(a==b)))
  |_,_=>False
 | .string a,.string b=>match op with
  | .eql=>K (.bool (a.toList==b.toList))
  | .neq=>K (.bool (!(a.toList==b.toList)))
  |_=>False
 | .pointer a,.pointer none=>match op,P.underlying t with
  | .eql,some (.pointer _)=>K (.bool a.isNone)
  | .neq,some (.pointer _)=>K (.bool (!a.isNone))
  |_,_=>False
 | .slice a _ _,.slice none _ _=>match op,P.underlying t with
  | .eql,some (.slice _)=>K (.bool a.isNone)
  | .neq,some (.slice _)=>K (.bool (!a.isNone))
  |_,_=>False
 | .map a,.map none=>match op,P.underlying t with
  | .eql,some (.map _ _)=>K (.bool a.isNone)
  | .neq,some (.map _ _)=>K (.bool (!a.isNone))
  |_,_=>False
 | .agg xs,.agg ys=>match op with
  | .eql=>yd P t xs ys λb=>K (.bool b)
  | .neq=>yd P t xs ys λb=>K (.bool (!b))
  |_=>False
 |_,_=>False
def unD(op:UnOp)(x:Value)(K:Value->Prop):Prop:=
 match op,x with
 | .not,.bool b=>K (.bool (!b))
 | .neg,.int k n=>K (.int k (k.wrap (0-n)))
 | .xor,.int k n=>K (.int k (pA .xor k (if k.signed then-1 else k.max) n))
 |_,_=>False
def EJ(P:Program)(t:TypeId)(K:Nat->Prop):Prop:=match P.info? t with
 |some i=>K i.size
 |none=>False
def DA(y:Nat)(v:Option Value)(d:Nat)(K:Nat->Prop):Prop:=match v with
 |none=>K d
 |some (.int _ i)=>(0<=i/\i<=(y:Int))/\K i.toNat
 |some _=>False
def onO(bN o:mV)(x:Option Operand)(K:Option Value->Prop):Prop:=match x with
 |none=>K none
 |some x=>nX (rd bN o x) λv=>K (some v)
def xm(P:Program)(t:TypeId)(cs:Array Value)(off:Nat)(K:Value->Prop):Prop:=match P.underlying t with
 |some (.struct _)=>EJ P t λn=>K (.agg (cs.extract off (off+n)))
 |some (.array _ _)=>EJ P t λn=>K (.agg (cs.extract off (off+n)))
 |some _=>match cs[off]? with
  |some v=>K v
  |none=>False
 |none=>False
def Bl(P:Program)(t:TypeId)(K:Value->Prop):Prop:=match P.info? t with
 |some i=>match i.zero with
  |some z=>K z
  |none=>False
 |none=>False
def isConst:Operand->Bool
 | .const _=>true
 |_=>false
def po(P:Program)(t:TypeId)(x:Value)(ix:Operand)(i:Int)(K:Value->Prop):Prop:=
 match P.underlying t,x with
 |some (.array len elem),.agg cs=>cond (isConst ix) ((0<=i/\i<(len:Int))/\EJ P elem λn=>xm P elem cs (i.toNat*n) K)
   ((0<=i/\i<(len:Int))/\EJ P elem λm=>cond (Nat.beq m 1) (match P.underlying elem with
    |some (.int k)=>∃n:Int,cs[i.toNat]? =some (.int k n)/\K (.int k n)
    |_=>False) False)
 |some .string,.string s=>0<=i/\∃b:UInt8,s[i.toNat]? =some b/\K (.int .u8 b.toNat)
 |_,_=>False
def Fm(P:Program)(t:TypeId)(f:Nat):Option Field:=match P.underlying t with
 |some (.struct fs)=>fs[f]?
 |_=>none
def lenD(P:Program)(t:TypeId)(x:Value)(K:Value->Prop):Prop:=match P.underlying t,x with
 |some (.slice _),.slice _ n _=>K (.int .i64 (n:Int))
 |some .string,.string s=>K (.int .i64 (s.size:Int))
 |some (.array n _),_=>K (.int .i64 (n:Int))
 |_,_=>False
def isLen(P:Program)(t:TypeId):Bool:=match P.underlying t with
 |some (.slice _)=>true
 |some .string=>true
 |some (.array _ _)=>true
 |_=>false
def ND(x y:Int):Int:=if y<x then y else x
def CY(x y:Int):Int:=if y>x then y else x
def minD(mx:Bool):Value->List Value->(Value->Prop)->Prop
 |x,[],K=>K x
 | .int k x,.int _ y::r,K=>minD mx (.int k (cond mx (CY x y) (ND x y))) r K
 |_,_,_=>False
def Yb(P:Program)(bN o:mV)(op:Op)(K:Value->Prop):Prop:=
 match op with
 | .move x=>nX (rd bN o x) K
 | .assign x=>nX (rd bN o x) K
 | .pick c a b=>nX (rd bN o c) λv=>match v with
  | .bool t=>cond t (nX (rd bN o a) K) (nX (rd bN o b) K)
  |_=>False
 | .nilCheck x=>nX (rd bN o x) λv=>match v with
  | .pointer p=>aC p λa=>K (.pointer (some a))
  |v=>nilV v K
 | .binOp bop t x y _=>nX (rd bN o x) λu=>nX (rd bN o y) λv=>Su P bop t u v K
 | .unOp uop _ x=>nX (rd bN o x) λu=>unD uop u K
 | .convert src dst x=>nX (rd bN o x) λu=>match P.underlying src,P.underlying dst,u with
  |some _,some (.int k),.int _ n=>K (.int k (k.wrap n))
  |_,_,_=>False
 | .fieldAddr s x f=>nX (rd bN o x) λu=>match u with
  | .pointer p=>aC p λa=>nX (Fm P s f) λfd=>EJ P fd.type λn=>cond (Nat.beq n 0) False (K (.pointer (some (a.add fd.offset))))
  |_=>False
 | .field t x f=>nX (rd bN o x) λu=>match u with
  | .agg cs=>nX (Fm P t f) λfd=>xm P fd.type cs fd.offset K
  |_=>False
 | .indexAddr t x ix=>nX (rd bN o x) λu=>nX (rd bN o ix) λv=>match v with
  | .int _ i=>match P.underlying t,u with
   |some (.slice e),.slice b l _=>(0<=i/\i<(l:Int))/\aC b λa=>EJ P e λn=>K (.pointer (some (a.add (i.toNat*n))))
   |some (.array len e),.pointer p=>(0<=i/\i<(len:Int))/\aC p λa=>EJ P e λn=>K (.pointer (some (a.add (i.toNat*n))))
   |_,_=>False
  |_=>False
 | .index t x ix=>nX (rd bN o x) λu=>nX (rd bN o ix) λv=>match v with
  | .int _ i=>po P t u ix i K
  |_=>False
 | .extract x i=>nX (rd bN o x) λu=>match u with
  | .tuple vs=>nX vs.toList[i]? K
  |_=>False
 | .slice t x lo hi none=>nX (rd bN o x) λu=>onO bN o lo λvl=>onO bN o hi λvh=>match P.underlying t,u with
  |some (.slice e),.slice b l c=>DA c vh l λh=>DA h vl 0 λl'=>EJ P e λn=>K (.slice (aR b c l' n) (h-l') (c-l'))
  |_,_=>False
 | .slice t x lo (some hi) (some mx)=>nX (rd bN o x) λu=>onO bN o lo λvl=>nX (rd bN o hi) λvh=>nX (rd bN o mx) λvm=>match P.underlying t,u with
  |some (.slice e),.slice b _ c=>DA c (some vm) 0 λm=>DA m (some vh) 0 λh=>DA h vl 0 λl'=>EJ P e λn=>K (.slice (aR b m l' n) (h-l') (m-l'))
  |_,_=>False
 | .build t parts=>nX (Fz bN o (parts.toList.map (·.2))) λvs=>nX (P.built t ((parts.toList.map (·.1)).zip vs)) λcells=>K (.agg cells)
 | .makeFunc fn first captured=>nX (Fz bN o first.toList) λf=>nX (Fz bN o captured.toList) λc=>K (.func fn f.toArray c.toArray)
 | .call {callee:=.builtin .len,args,argTypes}=>match args.toList,argTypes.toList with
  | [x],[t]=>nX (rd bN o x) λu=>lenD P t u K
  |_,_=>False
 | .call {callee:=.builtin .cap,args,argTypes}=>match args.toList,argTypes.toList with
  | [x],[t]=>nX (rd bN o x) λu=>match P.underlying t,u with
   |some (.slice _),.slice _ _ c=>K (.int .i64 (c:Int))
   |_,_=>False
  |_,_=>False
 | .call {callee:=.builtin .min,args,..}=>nX (Fz bN o args.toList) λvs=>match vs with
  |v::r=>minD false v r K
  | []=>False
 | .call {callee:=.builtin .max,args,..}=>nX (Fz bN o args.toList) λvs=>match vs with
  |v::r=>minD true v r K
  | []=>False
 |_=>False
def isPure(P:Program):Op->Bool
 | .move _| .assign _| .pick .. | .nilCheck _| .binOp .. | .unOp .. | .fieldAddr .. | .field .. | .indexAddr .. | .index .. | .extract .. | .build .. | .makeFunc ..=>true
 | .slice t _ _ _ none=>match P.underlying t with
  |some (.slice _)=>true
  |_=>false
 | .slice t _ _ (some _) (some _)=>match P.underlying t with
  |some (.slice _)=>true
  |_=>false
 | .convert src dst _=>match P.underlying src,P.underlying dst with
  |some (.int _),some (.int _)=>true
  |_,_=>false
 | .call {callee:=.builtin .len,argTypes,..}=>match argTypes.toList with
  | [t]=>isLen P t
  |_=>false
 | .call {callee:=.builtin .cap,..}=>true
 | .call {callee:=.builtin .min,..}=>true
 | .call {callee:=.builtin .max,..}=>true
 |_=>false
def zQ{P:Program}{t:TypeId}{i:TypeInfo}(h:P.info? t=some i)(w:aH):(sizeOf t).run P w=.ok i.size w:=by
 simp[sizeOf,typeInfo,h]
def rQ{P:Program}{t:TypeId}{K:Nat->Prop}(h:EJ P t K):∃n,K n/\∀w,(sizeOf t).run P w=.ok n w:=by
 unfold EJ at h;cases hi:P.info? t with
 |none=>rw[hi] at h;exact h.elim
 |some i=>rw[hi] at h;exact⟨i.size,h,zQ hi⟩
def Qc{P:Program}(d:Nat)(w:aH):∀(fs:List Field) (i:Nat) (xs ys:Array Value) (e:Bool),zR P fs i=true->GC (xs.toList.drop i) (ys.toList.drop i)=some e->
  xs.size=i+fs.length->(Op.eqFields (d+1) xs ys fs).run P w=.ok e w
 | [],i,xs,ys,e,_,he,hx=>by
  have h1:xs.toList.drop i=[]:=by simp at hx;simp;omega
  rw[h1] at he;cases hy:ys.toList.drop i with
  |nil=>rw[hy] at he;simp[GC] at he;subst he;simp[Op.eqFields]
  |cons y r=>rw[hy] at he;simp[GC] at he
 |f::fs,i,xs,ys,e,hp,he,hx=>by
  simp only[zR,tG] at hp;obtain⟨⟨⟨h1,h2⟩,h3⟩,h4⟩:=hp;have hoff:f.offset=i:=JP h2;simp only[mH] at hx;have hix:i<xs.toList.length:=by simp;omega
  have hdx:xs.toList.drop i=xs.toList[i]::xs.toList.drop (i+1):=ly4 hix;rw[hdx] at he;cases hdy:ys.toList.drop i with
  |nil=>rw[hdy] at he;cases xs.toList[i]<;>simp[GC] at he
  |cons y r=>
   have hiy:i<ys.toList.length:=by
    rcases Nat.lt_or_ge i ys.toList.length with h|h
    ·exact h
    ·rw[List.drop_eq_nil_of_le h] at hdy;cases hdy
   have hdy':=ly4 hiy;rw[hdy] at hdy';simp only[List.cons.injEq] at hdy';obtain⟨hy0,hyr⟩:=hdy';rw[hdy,hyr] at he;have hu:∃k',P.underlying f.type=some (.int k'):=by
    cases hu:P.underlying f.type with
    |none=>simp[hu] at h3
    |some dd=>cases dd<;>simp[hu] at h3;exact⟨_,rfl⟩
   obtain⟨k',hu⟩:=hu;generalize hxv:xs.toList[i]=xv at he;cases xv<;>try (simp[GC] at he;done)
   rename_i k a
   cases y<;>try (simp[GC] at he;done)
   rename_i k2 b
   simp only[GC] at he;cases hd:decEq k k2 with
   |isFalse gQ=>rw[hd] at he;cases he
   |isTrue hk=>
    subst hk;rw[hd] at he;cases hr:GC (xs.toList.drop (i+1)) (ys.toList.drop (i+1)) with
    |none=>simp[hr] at he
    |some e'=>
     simp[hr] at he;subst he
     have hname:f.name≠ "_" :=by simpa using h1
     have Wj:∀w,(isAgg f.type).run P w=.ok false w:=λw=>by simp[isAgg,run_underlying hu]
     have ex:xs[i]? =some (.int k a):=by
      have:xs.toList[i]? =some (.int k a):=by rw[cL hix,hxv]
      simpa using this
     have ey:ys[i]? =some (.int k b):=by
      have:ys.toList[i]? =some (.int k b):=by rw[cL hiy,<-hy0]
      simpa using this
     have px:∀w,(part f.type xs f.offset).run P w=.ok (.int k a) w:=λw=>by simp[part,Wj,hoff,ex]
     have py:∀w,(part f.type ys f.offset).run P w=.ok (.int k b) w:=λw=>by simp[part,Wj,hoff,ey]
     have ih:=Qc d w fs (i+1) xs ys e' (by simpa using h4) hr aB;have heq:(Op.equalIn (d+1) f.type (.int k a) (.int k b)).run P w=.ok (a==b) w:=by simp[Op.equalIn,run_underlying hu]
     simp only[Op.eqFields,hname,ne_eq,not_false_eq_true,if_true,Sem.run_bind,px,py,Result.andThen_ok,heq,Sem.run_ite];cases vu:(a==b) with
     |true=>simp[ih]
     |false=>simp
def rz{P:Program}{t:TypeId}{xs ys:Array Value}{K:Bool->Prop}(h:yd P t xs ys K):
  ∃b,K b/\P.eqGuardType P.depth t=false/\∀w,(Op.equal t (.agg xs) (.agg ys)).run P w=.ok b w:=by
 unfold yd at h;cases hu:P.underlying t with
 |none=>rw[hu] at h;exact h.elim
 |some d=>
  cases d<;>try (rw[hu] at h;exact h.elim)
  rename_i fs
  rw[hu] at h;simp only at h;cases hc:(!P.stoodInHeld t && !P.eqGuardType P.depth t && zR P fs.toList 0 && Nat.beq fs.size xs.size && Nat.beq fs.size ys.size) with
  |false=>rw[hc] at h;exact h.elim
  |true=>
   rw[hc] at h;obtain⟨b,hb,hK⟩:=aV h;simp only[tG,Bool.not_eq_true'] at hc;obtain⟨⟨⟨⟨h1,h2⟩,h3⟩,h4⟩,h5⟩:=hc;refine⟨b,hK,h2,λw=>?_⟩;have hfo:P.fieldsOf t=fs:=by simp[Program.fieldsOf,hu]
   have hs:xs.size=0+fs.toList.length:=by have:=JP h4;simp;omega
   rw[Op.equal,show Op.maxDepth=9999+1 from rfl,run_equalIn_struct w 9999 t xs ys (by rw[hfo];exact hu) h1,hfo];exact Qc 9998 w fs.toList 0 xs ys b h3 (by simpa using hb) hs
def eqBool{P:Program}(d:Nat)(w:aH){t:TypeId}(hu:P.underlying t=some .bool)(a b:Bool):(Op.equalIn (d+1) t (.bool a) (.bool b)).run P w=.ok (a==b) w:=by
 simp[Op.equalIn,run_underlying hu]
def eqPtr{P:Program}(d:Nat)(w:aH){t e:TypeId}(hu:P.underlying t=some (.pointer e))(a:cW):(Op.equalIn (d+1) t (.pointer a) (.pointer none)).run P w=.ok a.isNone w:=by
 cases a<;>simp[Op.equalIn,run_underlying hu]
def eqSl{P:Program}(d:Nat)(w:aH){t e:TypeId}(hu:P.underlying t=some (.slice e))(a:cW)(l c l' c':Nat):(Op.equalIn (d+1) t (.slice a l c) (.slice none l' c')).run P w=.ok a.isNone w:=by
 cases a<;>simp[Op.equalIn,run_underlying hu]
def eqMap{P:Program}(d:Nat)(w:aH){t k e:TypeId}(hu:P.underlying t=some (.map k e))(a:Option Nat):(Op.equalIn (d+1) t (.map a) (.map none)).run P w=.ok a.isNone w:=by
 cases a<;>simp[Op.equalIn,run_underlying hu]
def XA{P:Program}(w:aH){op:BinOp}{t:TypeId}{x y:Value}{ox oy:Operand}{e:Bool}(h1:(eqGuard op t ox oy x y).run P w=.ok () w)(h2:(Op.equalIn 10000 t x y).run P w=.ok e w)
  (h3:binOp op t x y=(do pure (.bool (<-Op.equal t x y)))):(do eqGuard op t ox oy x y;binOp op t x y:Sem Value).run P w=.ok (.bool e) w:=by
 simp[h1,h3,Op.equal,Op.maxDepth,h2]
def WZ{P:Program}(w:aH){op:BinOp}{t:TypeId}{x y:Value}{ox oy:Operand}{e:Bool}(h1:(eqGuard op t ox oy x y).run P w=.ok () w)(h2:(Op.equalIn 10000 t x y).run P w=.ok e w)
  (h3:binOp op t x y=(do pure (.bool (!(<-Op.equal t x y))))):(do eqGuard op t ox oy x y;binOp op t x y:Sem Value).run P w=.ok (.bool (!e)) w:=by
 simp[h1,h3,Op.equal,Op.maxDepth,h2]
def binD_spec{P:Program}{op:BinOp}{t:TypeId}{x y:Value}{K:Value->Prop}(h:Su P op t x y K):
  ∃v,K v/\∀(w:aH) (ox oy:Operand),(do eqGuard op t ox oy x y;binOp op t x y:Sem Value).run P w=.ok v w:=by
 cases x<;>cases y<;>try (exact h.elim)
 case bool.bool a b=>
  simp only[Su] at h;cases op<;>try (exact h.elim)
  all_goals
   cases hu:P.underlying t with
   |none=>simp[hu] at h
   |some d=>
    cases d<;>try (simp[hu] at h;done)
    simp only[hu] at h;refine⟨_,h,λw ox oy=>?_⟩
    first
     |exact XA w (by simp[eqGuard]) (eqBool 9999 w hu _ _) rfl
     |exact WZ w (by simp[eqGuard]) (eqBool 9999 w hu _ _) rfl
 case int.int k a k' b=>
  simp only[Su] at h;cases op
  case shl=>exact⟨_,h.2,λw ox oy=>by simp[eqGuard,binOp,Op.shift,Int.not_lt.2 h.1]⟩
  case shr=>exact⟨_,h.2,λw ox oy=>by simp[eqGuard,binOp,Op.shift,Int.not_lt.2 h.1]⟩
  all_goals
   cases hd:decEq k k' with
   |isFalse gQ=>rw[hd] at h;exact h.elim
   |isTrue hk=>
    subst hk;rw[hd] at h;simp only at h
    first
     |exact⟨_,h,λw ox oy=>by simp[eqGuard,binOp,Op.intArith,Op.intBits,Op.intCmp,pA]⟩
     |exact⟨_,h.2,λw ox oy=>by simp[eqGuard,binOp,Op.intDiv,h.1]⟩
     |exact h.elim
 case string.string a b=>
  simp only[Su] at h;cases op<;>try (exact h.elim)
  all_goals exact⟨_,h,λw ox oy=>by simp[eqGuard,binOp,Op.stringOp]⟩
 case pointer.pointer a b=>
  cases b with
  |some b=>exact h.elim
  |none=>
   simp only[Su] at h;cases op<;>try (exact h.elim)
   all_goals
    cases hu:P.underlying t with
    |none=>simp[hu] at h
    |some d=>
     cases d<;>try (simp[hu] at h;done)
     simp only[hu] at h;refine⟨_,h,λw ox oy=>?_⟩
     first
      |exact XA w (by simp[eqGuard]) (eqPtr 9999 w hu _) rfl
      |exact WZ w (by simp[eqGuard]) (eqPtr 9999 w hu _) rfl
 case slice.slice a l c b l' c'=>
  cases b with
  |some b=>exact h.elim
  |none=>
   simp only[Su] at h;cases op<;>try (exact h.elim)
   all_goals
    cases hu:P.underlying t with
    |none=>simp[hu] at h
    |some d=>
     cases d<;>try (simp[hu] at h;done)
     simp only[hu] at h;refine⟨_,h,λw ox oy=>?_⟩
     first
      |exact XA w (by simp[eqGuard]) (eqSl 9999 w hu _ _ _ _ _) rfl
      |exact WZ w (by simp[eqGuard]) (eqSl 9999 w hu _ _ _ _ _) rfl
 case map.map a b=>
  cases b with
  |some b=>exact h.elim
  |none=>
   simp only[Su] at h;cases op<;>try (exact h.elim)
   all_goals
    cases hu:P.underlying t with
    |none=>simp[hu] at h
    |some d=>
     cases d<;>try (simp[hu] at h;done)
     simp only[hu] at h;refine⟨_,h,λw ox oy=>?_⟩
     first
      |exact XA w (by simp[eqGuard]) (eqMap 9999 w hu _) rfl
      |exact WZ w (by simp[eqGuard]) (eqMap 9999 w hu _) rfl
 case agg.agg xs ys=>
  simp only[Su] at h;cases op<;>try (exact h.elim)
  all_goals
   obtain⟨b,hb,hg,hr⟩:=rz h;refine⟨_,hb,λw ox oy=>?_⟩
   first
    |exact XA w (by simp[eqGuard,hg]) (hr w) rfl
    |exact WZ w (by simp[eqGuard,hg]) (hr w) rfl
def unD_spec{P:Program}{op:UnOp}{x:Value}{K:Value->Prop}(h:unD op x K):∃v,K v/\∀w,(Op.unary op x).run P w=.ok v w:=by
 cases op<;>cases x<;>try (exact h.elim)
 all_goals exact⟨_,h,λw=>by simp[Op.unary,Op.intArith,Op.intBits,pA]⟩
def Kh{P:Program}{t:TypeId}{cs:Array Value}{off:Nat}{K:Value->Prop}(h:xm P t cs off K):
  ∃v,K v/\∀w,(part t cs off).run P w=.ok v w:=by
 unfold xm at h;cases hu:P.underlying t with
 |none=>rw[hu] at h;exact h.elim
 |some d=>
  rw[hu] at h
  by_cases hs:(∃fs,d=.struct fs)\/(∃n e,d=.array n e)
  ·have Wj:∀w,(isAgg t).run P w=.ok true w:=λw=>by
    rcases hs with⟨fs,rfl⟩|⟨n,e,rfl⟩<;>simp[isAgg,run_underlying hu]
   have h':EJ P t λn=>K (.agg (cs.extract off (off+n))):=by rcases hs with⟨fs,rfl⟩|⟨n,e,rfl⟩<;>exact h
   obtain⟨n,hK,hn⟩:=rQ h';exact⟨_,hK,λw=>by simp[part,Wj,hn]⟩
  ·have Wj:∀w,(isAgg t).run P w=.ok false w:=λw=>by
    cases d<;>simp[isAgg,run_underlying hu]<;>simp_all
   cases hc:cs[off]? with
   |none=>cases d<;>simp[hc] at h<;>simp_all
   |some v=>refine⟨v,?_,λw=>by simp[part,Wj,hc]⟩;cases d<;>simp[hc] at h<;>first|exact h|simp_all
def zS{P:Program}{y:Nat}{v:Option Value}{d:Nat}{K:Nat->Prop}(h:DA y v d K):
  ∃m,K m/\((v=none/\m=d)\/∃u,v=some u/\m<=y/\∀w code,(Instr.sliceBound u y code).run P w=.ok m w):=by
 cases v with
 |none=>exact⟨d,h,.inl ⟨rfl,rfl⟩⟩
 |some u=>
  cases u<;>try (exact h.elim)
  rename_i k i
  obtain⟨⟨h0,h1⟩,hK⟩:=h;refine⟨_,hK,.inr ⟨_,rfl,aB,λw code=>by simp[Instr.sliceBound,asIntOf,h0,h1]⟩⟩
def Ja{n:Nat}{bN o:mV}{a:Act}(hv:mA n bN o a){x:Option Operand}{K:Option Value->Prop}(h:onO bN o x K):K (x.map a.eval):=by
 cases x with
 |none=>exact h
 |some x=>obtain⟨v,hx,hK⟩:=aV h;rw[Option.map_some,hv.rd hx];exact hK
def Ah{P:Program}(mx:Bool):∀{r:List Value} {x:Value} {K:Value->Prop},minD mx x r K->
  ∃v,K v/\∀w,(r.foldlM (if mx then Builtin.max2 else Builtin.min2) x).run P w=.ok v w
 | [],x,K,h=>⟨x,by cases x<;>exact h,λw=>by simp⟩
 |y::r,x,K,h=>by
  cases x<;>cases y<;>try (exact h.elim)
  rename_i k a k' b
  obtain⟨v,hK,hr⟩:=Ah mx (r:=r) (x:=.int k (cond mx (CY a b) (ND a b))) h;refine⟨v,hK,λw=>?_⟩;have:=hr w;cases mx<;>simpa [List.foldlM,Builtin.max2,Builtin.min2,ND,CY] using this
def dq{P:Program}{t:TypeId}{x:Value}{ix:Operand}{k:IntKind}{i:Int}{K:Value->Prop}(h:po P t x ix i K):
  ∃v,K v/\∀w,(Instr.index t x (.int k i)).run P w=.ok v w:=by
 unfold po at h;cases hu:P.underlying t with
 |none=>rw[hu] at h;exact h.elim
 |some d=>
  rw[hu] at h;cases d<;>try (exact h.elim)
  case array len elem=>
   cases x<;>try (exact h.elim)
   rename_i cs
   simp only at h;cases hc:isConst ix with
   |true=>rw[hc] at h;obtain⟨hb,h⟩:=h;obtain⟨n,hn,hs⟩:=rQ h;obtain⟨v,hK,hp⟩:=Kh hn;exact⟨v,hK,λw=>by simp[Instr.index,asIntOf,run_underlying hu,hb,hs,hp]⟩
   |false=>
    rw[hc] at h;obtain⟨hb,h⟩:=h;obtain⟨m,h,hm⟩:=rQ h;cases uw:Nat.beq m 1 with
    |false=>rw[uw] at h;exact h.elim
    |true=>
     rw[uw] at h;have:m=1:=JP uw;subst this;cases he:P.underlying elem with
     |none=>rw[he] at h;exact h.elim
     |some de=>
      rw[he] at h;cases de<;>try (exact h.elim)
      rename_i k'
      obtain⟨n,hn,hK⟩:=h;refine⟨_,hK,λw=>?_⟩;have Wj:∀w,(isAgg elem).run P w=.ok false w:=λw=>by simp[isAgg,run_underlying he]
      simp[Instr.index,asIntOf,run_underlying hu,hb,hm,part,Wj,hn]
  case string=>
   cases x<;>try (exact h.elim)
   rename_i s
   obtain⟨h0,b,hb,hK⟩:=h;exact⟨_,hK,λw=>by simp[Instr.index,asIntOf,run_underlying hu,h0,hb]⟩
def YN{P:Program}{t:TypeId}{f:Nat}{fd:Field}(h:Fm P t f=some fd):∃fs,P.underlying t=some (.struct fs)/\fs[f]? =some fd:=by
 unfold Fm at h;cases hu:P.underlying t with
 |none=>rw[hu] at h;cases h
 |some d=>
  rw[hu] at h;cases d<;>try (cases h;done)
  exact⟨_,rfl,h⟩
def pO{p:cW}{K:Addr->Prop}(h:aC p K):∃a,p=some a/\K a:=by
 cases p with
 |none=>exact h.elim
 |some a=>exact⟨a,rfl,h⟩
def qx{P:Program}{t:TypeId}{u:Value}{vl vh:Option Value}{K:Value->Prop}
  (h:match P.underlying t,u with
   |some (.slice e),.slice b l c=>DA c vh l λh=>DA h vl 0 λl'=>EJ P e λn=>K (.slice (aR b c l' n) (h-l') (c-l'))
   |_,_=>False):∃v,K v/\∀w,(Instr.sliceAt t u vl vh none).run P w=.ok v w:=by
 cases hu:P.underlying t with
 |none=>simp[hu] at h
 |some d=>
  cases d<;>try (simp[hu] at h;done)
  rename_i e
  cases u<;>try (simp[hu] at h;done)
  rename_i b l c
  simp only[hu] at h;obtain⟨hh,h1,VR⟩:=zS (P:=P) h;obtain⟨ll,h2,QM⟩:=zS (P:=P) h1;obtain⟨n,hK,hn⟩:=rQ h2;refine⟨_,hK,λw=>?_⟩;have hb:∀w,(Instr.sliceBounds true l c vl vh none).run P w=.ok (ll,hh,c) w:=λw=>by
   rcases VR with⟨rfl,rfl⟩|⟨uh,rfl,_,uu⟩<;>rcases QM with⟨rfl,rfl⟩|⟨ul,rfl,_,Bj⟩<;>simp[Instr.sliceBounds, *]
  simp[Instr.sliceAt,Instr.slice,run_underlying hu,hb,hn,aR]
def da{P:Program}{t:TypeId}{u:Value}{vl:Option Value}{vh vm:Value}{K:Value->Prop}
  (h:match P.underlying t,u with
   |some (.slice e),.slice b _ c=>DA c (some vm) 0 λm=>DA m (some vh) 0 λh=>DA h vl 0 λl'=>EJ P e λn=>K (.slice (aR b m l' n) (h-l') (m-l'))
   |_,_=>False):∃v,K v/\∀w,(Instr.sliceAt t u vl (some vh) (some vm)).run P w=.ok v w:=by
 cases hu:P.underlying t with
 |none=>simp[hu] at h
 |some d=>
  cases d<;>try (simp[hu] at h;done)
  rename_i e
  cases u<;>try (simp[hu] at h;done)
  rename_i b l c
  simp only[hu] at h;obtain⟨mm,h0,hb0⟩:=zS (P:=P) h;obtain⟨hh,h1,VR⟩:=zS (P:=P) h0;obtain⟨ll,h2,QM⟩:=zS (P:=P) h1;obtain⟨n,hK,hn⟩:=rQ h2;refine⟨_,hK,λw=>?_⟩;have hb:∀w,(Instr.sliceBounds true l c vl (some vh) (some vm)).run P w=.ok (ll,hh,mm) w:=λw=>by
   rcases hb0 with⟨h3,_⟩|⟨u0,h3,_,hr0⟩
   ·cases h3
   ·cases h3;rcases VR with⟨h4,_⟩|⟨u1,h4,_,uu⟩
    ·cases h4
    ·cases h4;rcases QM with⟨rfl,rfl⟩|⟨ul,rfl,_,Bj⟩<;>simp[Instr.sliceBounds, *]
  simp[Instr.sliceAt,Instr.slice,run_underlying hu,hb,hn,aR]
def fZ{P:Program}{ρ:Operand->Value}{b:Builtin}{args:Array Operand}{argTypes:Array TypeId}{ty:TypeId}{dst pos after guard}(w:aH){v:Value}{w':aH}
  (hb:(builtin b argTypes ty (args.map λ| .const _=>true|_=>false) (args.map ρ)).run P w=.ok (.value v) w'):
  (execOp ρ {dst,op:=.call {callee:=.builtin b,args,argTypes},type:=ty,pos,after,guard}).run P w=.ok (.value v) w':=by
 unfold execOp;simp only[resolve,invoke,Sem.run_bind,Sem.run_pure,Result.andThen_ok];exact hb
def UT{α β γ:Type}(f:β->γ):∀(l:List (α×β)) (vs:List γ),l.map (λp=>f p.2)=vs->(l.map λp=>(p.1,f p.2))=(l.map (·.1)).zip vs
 | [],vs,h=>by simp at h;subst h;rfl
 |p::l,vs,h=>by
  subst h;simp[UT f l _ rfl]
def Ke{P:Program}{n:Nat}{bN o:mV}{a:Act}(hv:mA n bN o a)(op:Oper){K:Value->Prop}(h:Yb P bN o op.op K):
  ∃v,K v/\∀w,(execOp a.eval op).run P w=.ok (.value v) w:=by
 obtain⟨dst,op,ty,pos,after,guard⟩:=op;cases op<;>simp only[Yb] at h<;>try (exact h.elim)
 case move x=>obtain⟨v,hx,hK⟩:=aV h;exact⟨v,hK,λw=>by simp[execOp,hv.rd hx]⟩
 case assign x=>obtain⟨v,hx,hK⟩:=aV h;exact⟨v,hK,λw=>by simp[execOp,hv.rd hx]⟩
 case pick c x y=>
  obtain⟨vc,hc,h⟩:=aV h;cases vc<;>try (exact h.elim)
  rename_i t
  cases t with
  |true=>obtain⟨v,hx,hK⟩:=aV h;exact⟨v,hK,λw=>by simp[execOp,hv.rd hx,hv.rd hc,asBool]⟩
  |false=>obtain⟨v,hx,hK⟩:=aV h;exact⟨v,hK,λw=>by simp[execOp,hv.rd hx,hv.rd hc,asBool]⟩
 case nilCheck x=>
  obtain⟨vx,hx,h⟩:=aV h;cases vx<;>try (exact h.elim)
  case pointer p=>obtain⟨ad,rfl,hK⟩:=pO h;exact⟨_,hK,λw=>by simp[execOp,hv.rd hx]⟩
  case func f a b=>
   cases f<;>try (exact h.elim)
   exact⟨_,h,λw=>by simp[execOp,hv.rd hx]⟩
 case binOp bop t x y yt=>
  obtain⟨vx,hx,h⟩:=aV h;obtain⟨vy,hy,h⟩:=aV h;obtain⟨v,hK,hr⟩:=binD_spec h;refine⟨v,hK,λw=>?_⟩;have:=hr w x y;unfold execOp;simp only[hv.rd hx,hv.rd hy];simp only[Sem.run_bind] at this ⊢;rw[this]
  rfl
 case unOp uop t x=>obtain⟨vx,hx,h⟩:=aV h;obtain⟨v,hK,hr⟩:=unD_spec (P:=P) h;exact⟨v,hK,λw=>by simp[execOp,hv.rd hx,hr]⟩
 case convert src d x=>
  obtain⟨vx,hx,h⟩:=aV h;cases hs:P.underlying src with
  |none=>simp[hs] at h
  |some ds=>
   cases hd:P.underlying d with
   |none=>simp[hs,hd] at h
   |some dd=>
    cases dd<;>try (simp[hs,hd] at h;done)
    cases vx<;>try (simp[hs,hd] at h;done)
    simp only[hs,hd] at h;exact⟨_,h,λw=>by simp[execOp,hv.rd hx,convert,run_underlying hs,run_underlying hd,Conv.intToInt]⟩
 case fieldAddr s x f=>
  obtain⟨vx,hx,h⟩:=aV h;cases vx<;>try (exact h.elim)
  rename_i p
  obtain⟨ad,rfl,h⟩:=pO h;obtain⟨fd,hf,h⟩:=aV h;obtain⟨fs,hu,hfd⟩:=YN hf;obtain⟨m,h,hm⟩:=rQ h;cases hz:Nat.beq m 0 with
  |true=>rw[hz] at h;exact h.elim
  |false=>rw[hz] at h;have hm0:m≠0:=Nat.ne_of_beq_eq_false hz;exact⟨_,h,λw=>by simp[execOp,hv.rd hx,Instr.fieldAt,run_underlying hu,hfd,Instr.sureAddr,fieldPlace,hm,hm0]⟩
 case field t x f=>
  obtain⟨vx,hx,h⟩:=aV h;cases vx<;>try (exact h.elim)
  rename_i cs
  obtain⟨fd,hf,h⟩:=aV h;obtain⟨fs,hu,hfd⟩:=YN hf;obtain⟨v,hK,hp⟩:=Kh h;exact⟨v,hK,λw=>by simp[execOp,hv.rd hx,Instr.field,run_underlying hu,hfd,asAgg,hp]⟩
 case indexAddr t x ix=>
  obtain⟨vx,hx,h1⟩:=aV h;obtain⟨vi,hi,h2⟩:=aV h1;clear h h1;have h:=h2;clear h2;cases vi<;>try (exact h.elim)
  rename_i k i
  cases hu:P.underlying t with
  |none=>simp[hu] at h
  |some d=>
   cases d<;>try (simp[hu] at h;done)
   case slice e=>
    cases vx<;>try (simp[hu] at h;done)
    rename_i b l c
    simp only[hu] at h;obtain⟨hb,h3⟩:=h;obtain⟨ad,rfl,h4⟩:=pO h3;obtain⟨m,h5,hm⟩:=rQ h4;exact⟨_,h5,λw=>by simp[execOp,hv.rd hx,hv.rd hi,Instr.indexAt,asIntOf,run_underlying hu,hb,hm]⟩
   case array len e=>
    cases vx<;>try (simp[hu] at h;done)
    rename_i p
    simp only[hu] at h;obtain⟨hb,h3⟩:=h;obtain⟨ad,rfl,h4⟩:=pO h3;obtain⟨m,h5,hm⟩:=rQ h4;exact⟨_,h5,λw=>by simp[execOp,hv.rd hx,hv.rd hi,Instr.indexAt,asIntOf,run_underlying hu,Instr.sureAddr,hb,hm]⟩
 case index t x ix=>
  obtain⟨vx,hx,h⟩:=aV h;obtain⟨vi,hi,h⟩:=aV h;cases vi<;>try (exact h.elim)
  rename_i k i
  obtain⟨v,hK,hr⟩:=dq (k:=k) h;exact⟨v,hK,λw=>by simp[execOp,hv.rd hx,hv.rd hi,hr]⟩
 case extract x i=>
  obtain⟨vx,hx,h⟩:=aV h;cases vx<;>try (exact h.elim)
  rename_i vs
  obtain⟨v,hi,hK⟩:=aV h;have dL:vs[i]? =some v:=by simpa using hi
  exact⟨v,hK,λw=>by simp[execOp,hv.rd hx,Instr.extract,dL]⟩
 case slice t x lo hi mx=>
  cases mx with
  |some m=>
   cases hi with
   |none=>exact h.elim
   |some hi=>simp only at h;obtain⟨vx,hx,h⟩:=aV h;have h:=Ja hv h;obtain⟨vh,hh,h⟩:=aV h;obtain⟨vm,hm,h⟩:=aV h;obtain⟨v,hK,hr⟩:=da h;exact⟨v,hK,λw=>by simp[execOp,hv.rd hx,hv.rd hh,hv.rd hm,hr]⟩
  |none=>simp only at h;obtain⟨vx,hx,h⟩:=aV h;have h:=Ja hv (Ja hv h);obtain⟨v,hK,hr⟩:=qx h;exact⟨v,hK,λw=>by simp[execOp,hv.rd hx,hr]⟩
 case build t parts=>
  obtain⟨vs,Ge,h⟩:=aV h;obtain⟨cells,hc,hK⟩:=aV h;refine⟨_,hK,λw=>?_⟩;have he:(parts.map λ(i,x)=>(i,a.eval x)).toList=(parts.toList.map (·.1)).zip vs:=by rw[Array.toList_map];exact UT a.eval parts.toList vs (by rw[<-hv.Fz Ge];simp)
  have:=run_build (P:=P) w t (parts.map λ(i,x)=>(i,a.eval x)) cells (by rw[he];exact hc);unfold execOp;simp only[Sem.run_bind,this]
  rfl
 case makeFunc fn first captured=>
  obtain⟨fs,hf,h⟩:=aV h;obtain⟨cs,hc,hK⟩:=aV h;refine⟨_,hK,λw=>?_⟩;have e1:first.map a.eval=fs.toArray:=by apply Array.toList_inj.1;simpa using hv.Fz hf
  have e2:captured.map a.eval=cs.toArray:=by apply Array.toList_inj.1;simpa using hv.Fz hc
  simp[execOp,Instr.makeFunc,e1,e2]
 case call c=>
  obtain⟨callee,args,argTypes⟩:=c;cases callee<;>try (exact h.elim)
  rename_i b
  obtain⟨args⟩:=args;obtain⟨argTypes⟩:=argTypes;cases b<;>try (exact h.elim)
  case len=>
   match args,argTypes,h with
   | [x],[t],h=>
    obtain⟨vx,hx,h⟩:=aV h;unfold lenD at h;cases hu:P.underlying t with
    |none=>simp[hu] at h
    |some d=>
     cases d<;>try (simp[hu] at h;done)
     case string=>
      cases vx<;>try (simp[hu] at h;done)
      simp only[hu] at h;exact⟨_,h,λw=>fZ w (by simp[builtin,Builtin.len_,run_underlying hu,hv.rd hx,goInt])⟩
     case slice=>
      cases vx<;>try (simp[hu] at h;done)
      simp only[hu] at h;exact⟨_,h,λw=>fZ w (by simp[builtin,Builtin.len_,run_underlying hu,hv.rd hx,goInt])⟩
     case array=>simp only[hu] at h;exact⟨_,h,λw=>fZ w (by simp[builtin,Builtin.len_,run_underlying hu,goInt])⟩
  case cap=>
   match args,argTypes,h with
   | [x],[t],h=>
    obtain⟨vx,hx,h⟩:=aV h;cases hu:P.underlying t with
    |none=>simp[hu] at h
    |some d=>
     cases d<;>try (simp[hu] at h;done)
     cases vx<;>try (simp[hu] at h;done)
     simp only[hu] at h;exact⟨_,h,λw=>fZ w (by simp[builtin,Builtin.cap_,run_underlying hu,hv.rd hx,goInt])⟩
  case min=>
   obtain⟨vs,Ge,h⟩:=aV h;cases vs with
   |nil=>exact h.elim
   |cons v r=>obtain⟨u,hK,hr⟩:=Ah (P:=P) false h;have e:=hv.Fz Ge;refine⟨u,hK,λw=>fZ w ?_⟩;have:=hr w;simp only[Bool.false_eq_true,if_false] at this;simp only[List.map_toArray] at e ⊢;simp[builtin,Builtin.min_,e,this]
  case max=>
   obtain⟨vs,Ge,h⟩:=aV h;cases vs with
   |nil=>exact h.elim
   |cons v r=>obtain⟨u,hK,hr⟩:=Ah (P:=P) true h;have e:=hv.Fz Ge;refine⟨u,hK,λw=>fZ w ?_⟩;have:=hr w;simp only[if_true] at this;simp only[List.map_toArray] at e ⊢;simp[builtin,Builtin.max_,e,this]
abbrev Tr:=List Value->aH->(Value->aH->Prop)->Prop
def pM(P:Program)(g:FuncId)(T:Tr):Prop:=
 ∀args w K,T args w K->Calls P g args.toArray w λe w'=>∃v,e=.returned v/\K v w'
def enters(P:Program)(g:FuncId):Bool:=match P.funcs[g]? with
 |some fn=>fn.body.isSome && !(fn.name== "runtime.NumGoroutine")
 |none=>false
abbrev Env:=List (FuncId×Tr)
def Ym:Env->FuncId->Option Tr
 | [],_=>none
 |(g,T)::r,f=>cond (Nat.beq g f) (some T) (Ym r f)
def RV(P:Program):Env->Prop
 | []=>True
 |(g,T)::r=>(enters P g=true/\pM P g T)/\RV P r
def lX(P:Program)(fv:Value)(args:List Value)(w:aH)(K:WQ Value):Prop:=
 ∃g first cap,fv=.func (.func g) first cap/\enters P g=true/\Calls P g (first++args.toArray++cap) w λe w'=>∃v,e=.returned v/\K v w'
def runK(P:Program)(k:oU)(s:Sem Value)(w:aH)(K:WQ (k.T)):Prop:=∃x w',s.run P w=.ok (k.aY x) w'/\K x w'
def runU(P:Program)(s:Sem Unit)(w:aH)(K:aH->Prop):Prop:=∃w',s.run P w=.ok () w'/\K w'
def runT(P:Program)(ks:List oU)(s:Sem Value)(w:aH)(K:Gm ks->aH->Prop):Prop:=∃x w',s.run P w=.ok (.tuple (AD ks x).toArray) w'/\K x w'
def aG(w:aH)(cells:Array Value)(t:TypeId)(K:WQ Addr):Prop:=K ⟨w.heap.size,0,none⟩ (w.alloc (.cells cells t))
def sD(w:aH)(K:WQ Nat):Prop:=K w.heap.size (w.alloc (.map #[] 0))
def bQ(w:aH)(a:Addr):Nat->List Value->Prop
 |_,[]=>True
 |i,v::r=>w.cell? (a.add i)=some v/\bQ w a (i+1) r
def ZA(k:CK)(w:aH)(a:Addr)(K:k.T->Prop):Prop:=∃x:k.T,w.cell? a=some (k.aY x)/\K x
def fI(l:List CK)(w:aH)(a:Addr)(K:CTs l->Prop):Prop:=∃x:CTs l,bQ w a 0 (rJ l x)/\K x
def Ye(P:Program)(t:TypeId)(w:aH)(a:Addr)(K:Value->(aH->Prop)->Prop):Prop:=
 match P.info? t with
 |some i=>match i.zero with
  |some z=>match P.underlying t with
   |some (.struct _)=>match z with
    | .agg zs=>cond (Nat.beq zs.size i.size) (fI (zs.toList.map CK.of) w a λx=>K (.agg (rJ (zs.toList.map CK.of) x).toArray) λw'=>bQ w' a 0 (rJ (zs.toList.map CK.of) x)) False
    |_=>False
   |some (.array _ _)=>match z with
    | .agg zs=>cond (Nat.beq zs.size i.size) (fI (zs.toList.map CK.of) w a λx=>K (.agg (rJ (zs.toList.map CK.of) x).toArray) λw'=>bQ w' a 0 (rJ (zs.toList.map CK.of) x)) False
    |_=>False
   |some _=>ZA (CK.of z) w a λx=>K ((CK.of z).aY x) λw'=>w'.cell? a=some ((CK.of z).aY x)
   |none=>False
  |none=>False
 |none=>False
def aJ(P:Program)(t:TypeId)(a:Addr)(v:Value)(w:aH)(K:aH->Prop):Prop:=runU P (storeVar t a v) w K
def aX(P:Program)(t u:TypeId)(s:Sl)(x:Value)(w:aH)(K:WQ Sl):Prop:=runK P (.c .slice) (Builtin.append_ #[t,u] 0 #[.slice s.b s.l s.c,x]) w K
def RR(P:Program)(t u:TypeId)(s:Sl)(x:Value)(w:aH)(K:WQ Int):Prop:=runK P (.c (.int .i64)) (Builtin.copy_ #[t,u] 0 #[.slice s.b s.l s.c,x]) w K
def KD(P:Program)(t:TypeId)(x:Value)(w:aH)(K:aH->Prop):Prop:=runT P [] (Builtin.clear_ #[t] 0 #[x]) w λ_ w'=>K w'
def qY(P:Program)(t u:TypeId)(m k:Value)(w:aH)(K:aH->Prop):Prop:=runT P [] (Builtin.delete_ #[t,u] 0 #[m,k]) w λ_ w'=>K w'
def Fk(P:Program)(t:TypeId)(m:Value)(w:aH)(K:WQ Int):Prop:=runK P (.c (.int .i64)) (Builtin.len_ #[t] 0 #[m]) w K
def nK(P:Program)(kn:oU)(t:TypeId)(m k:Value)(w:aH)(K:WQ (kn.T)):Prop:=runK P kn (Instr.lookup t m k false) w K
def HV(P:Program)(kn:oU)(t:TypeId)(m k:Value)(w:aH)(K:kn.T->WQ Bool):Prop:=runT P [kn,.c .bool] (Instr.lookup t m k true) w λx w'=>K x.1 x.2.1 w'
def gP(P:Program)(t:TypeId)(m k v:Value)(w:aH)(K:aH->Prop):Prop:=runU P (Instr.mapUpdate t m k v) w K
def IE(P:Program)(kn:oU)(t:TypeId)(m k:Value)(w:aH)(K:kn.T->WQ Int):Prop:=runT P [kn,.c (.int .i64)] (Instr.mapEntry t m k) w λx w'=>K x.1 x.2.1 w'
def vB(P:Program)(t:TypeId)(m s v:Value)(w:aH)(K:aH->Prop):Prop:=runU P (Instr.entryStore t m s v) w K
def rangeD(P:Program)(t:TypeId)(m:Value)(w:aH)(K:WQ Nat):Prop:=∃(r:Nat) (w':aH),(Instr.range t m).run P w=.ok (.pointer (some ⟨r,0,none⟩)) w'/\K r w'
def nextD(P:Program)(ty:TypeId)(it:Value)(w:aH)(K:WQ Bool):Prop:=∃(b:Bool) (r:List Value) (w':aH),(Instr.next it false ty).run P w=.ok (.tuple (.bool b::r).toArray) w'/\K b w'
def entryD(P:Program)(it:Value)(w:aH)(K:WQ Int):Prop:=∃(n:Int) (r:List Value) (w':aH),(Instr.entry it).run P w=.ok (.tuple (.int .i64 n::r).toArray) w'/\K n w'
def fE(P:Program)(t:TypeId)(l c:Value)(w:aH)(K:WQ Sl):Prop:=runK P (.c .slice) (Instr.makeSlice t l c) w K
def yf(P:Program)(kn:oU)(src dst:TypeId)(x:Value)(w:aH)(K:WQ (kn.T)):Prop:=runK P kn (convert src dst x) w K
def extD(P:Program)(kn:oU)(f:FuncId)(args:List Value)(w:aH)(K:WQ (kn.T)):Prop:=∃x w',(callFunc f args.toArray).run P w=.ok (.value (kn.aY x)) w'/\K x w'
def Ju(P:Program):List TypeId->Option (List oU)
 | []=>some []
 |t::r=>match P.info? t with
  |some i=>match i.zero with
   |some z=>match Ju P r with
    |some ks=>some (oU.of z::ks)
    |none=>none
   |none=>none
  |none=>none
def retD(P:Program)(ty:TypeId)(v:Value)(K:Value->Prop):Prop:=match P.underlying ty with
 |some (.tuple ts)=>nX (Ju P ts.toList) λks=>∃x:Gm ks,v=.tuple (AD ks x).toArray/\K (.tuple (AD ks x).toArray)
 |_=>Bl P ty λz=>∃x:(oU.of z).T,v=(oU.of z).aY x/\K ((oU.of z).aY x)
def VE(P:Program)(t:TypeId)(len:Nat)(parts:List (Nat×Value)):Option (TypeId×Array Value):=match P.underlying t with
 |some (.slice e)=>match P.info? e with
  |some i=>match i.zero with
   |some z=>cond (Nat.ble (len*i.size) 16777216) (match Instr.fill (λj=>some (j*i.size,i.size)) (madeCells z.cells (len*i.size)) parts with
    |some cells=>some (e,cells)
    |none=>none) none
   |none=>none
  |none=>none
 |_=>none
def callD(P:Program)(env:Env)(ty:TypeId)(f:FuncId)(args:List Value)(w:aH)(K:WQ Value):Prop:=match Ym env f with
 |some T=>T args w K
 |none=>Bl P ty λz=>extD P (oU.of z) f args w λx w'=>K ((oU.of z).aY x) w'
def effD(P:Program)(env:Env)(bN o:mV)(op:Op)(ty:TypeId)(w:aH)(K:WQ Value):Prop:=
 match op with
 | .load t x=>nX (rd bN o x) λv=>match v with
  | .pointer p=>aC p λa=>Ye P t w a λv _=>K v w
  |_=>False
 | .alloc e=>Bl P e λz=>aG w z.cells e λa w'=>K (.pointer (some a)) w'
 | .box e x=>nX (rd bN o x) λv=>aG w v.cells e λa w'=>K (.pointer (some a)) w'
 | .buildSlice t len parts=>nX (Fz bN o (parts.toList.map (·.2))) λvs=>nX (VE P t len ((parts.toList.map (·.1)).zip vs)) λp=>aG w p.2 p.1 λa w'=>K (.slice (some a) len len) w'
 | .store t x y=>nX (rd bN o x) λu=>nX (rd bN o y) λv=>match u with
  | .pointer p=>aC p λa=>aJ P t a v w λw'=>K undef w'
  |_=>False
 | .makeMap _ none=>sD w λr w'=>K (.map (some r)) w'
 | .makeSlice t l c=>nX (rd bN o l) λu=>nX (rd bN o c) λv=>fE P t u v w λs w'=>K (.slice s.b s.l s.c) w'
 | .lookup t m k ok=>nX (rd bN o m) λu=>nX (rd bN o k) λv=>match P.underlying t with
  |some (.map _ e)=>Bl P e λz=>cond ok (HV P (oU.of z) t u v w λx b w'=>K (.tuple #[(oU.of z).aY x,.bool b]) w') (nK P (oU.of z) t u v w λx w'=>K ((oU.of z).aY x) w')
  |_=>False
 | .mapUpdate t m k x=>nX (rd bN o m) λu=>nX (rd bN o k) λv=>nX (rd bN o x) λy=>gP P t u v y w λw'=>K undef w'
 | .insert t m k x=>nX (rd bN o m) λu=>nX (rd bN o k) λv=>nX (rd bN o x) λy=>gP P t u v y w λw'=>K undef w'
 | .mapEntry t m k=>nX (rd bN o m) λu=>nX (rd bN o k) λv=>match P.underlying t with
  |some (.map _ e)=>Bl P e λz=>IE P (oU.of z) t u v w λx n w'=>K (.tuple #[(oU.of z).aY x,.int .i64 n]) w'
  |_=>False
 | .entryStore t m s x=>nX (rd bN o m) λu=>nX (rd bN o s) λv=>nX (rd bN o x) λy=>vB P t u v y w λw'=>K undef w'
 | .range t x=>nX (rd bN o x) λu=>rangeD P t u w λr w'=>K (.pointer (some ⟨r,0,none⟩)) w'
 | .next x s=>nX (rd bN o x) λu=>cond s False (∃(b:Bool) (r:List Value) (w':aH),(Instr.next u false ty).run P w=.ok (.tuple (.bool b::r).toArray) w'/\K (.tuple (.bool b::r).toArray) w')
 | .entry x=>nX (rd bN o x) λu=>∃(n:Int) (r:List Value) (w':aH),(Instr.entry u).run P w=.ok (.tuple (.int .i64 n::r).toArray) w'/\K (.tuple (.int .i64 n::r).toArray) w'
 | .convert src dst x=>nX (rd bN o x) λu=>Bl P dst λz=>yf P (oU.of z) src dst u w λx w'=>K ((oU.of z).aY x) w'
 | .call {callee:=.builtin .append,args,argTypes}=>match args.toList,argTypes.toList with
  | [s,x],[t,u]=>nX (rd bN o s) λvs=>nX (rd bN o x) λvx=>match vs with
   | .slice b l c=>aX P t u ⟨b,l,c⟩ vx w λr w'=>K (.slice r.b r.l r.c) w'
   |_=>False
  |_,_=>False
 | .call {callee:=.builtin .copy,args,argTypes}=>match args.toList,argTypes.toList with
  | [s,x],[t,u]=>nX (rd bN o s) λvs=>nX (rd bN o x) λvx=>match vs with
   | .slice b l c=>RR P t u ⟨b,l,c⟩ vx w λn w'=>K (.int .i64 n) w'
   |_=>False
  |_,_=>False
 | .call {callee:=.builtin .clear,args,argTypes}=>match args.toList,argTypes.toList with
  | [x],[t]=>nX (rd bN o x) λvx=>KD P t vx w λw'=>K (.tuple #[]) w'
  |_,_=>False
 | .call {callee:=.builtin .delete,args,argTypes}=>match args.toList,argTypes.toList with
  | [m,k],[t,u]=>nX (rd bN o m) λvm=>nX (rd bN o k) λvk=>qY P t u vm vk w λw'=>K (.tuple #[]) w'
  |_,_=>False
 | .call {callee:=.builtin .len,args,argTypes}=>match args.toList,argTypes.toList with
  | [m],[t]=>nX (rd bN o m) λvm=>Fk P t vm w λn w'=>K (.int .i64 n) w'
  |_,_=>False
 | .call {callee:=.value (.func f),args,..}=>nX (Fz bN o args.toList) λvs=>callD P env ty f vs w K
 | .call {callee:=.value x,args,..}=>nX (rd bN o x) λfv=>nX (Fz bN o args.toList) λvs=>lX P fv vs w λv w'=>retD P ty v λv'=>K v' w'
 |_=>False
def opD(P:Program)(env:Env)(bN o:mV)(op:Op)(ty:TypeId)(w:aH)(K:WQ Value):Prop:=
 cond (isPure P op) (Yb P bN o op λv=>K v w) (effD P env bN o op ty w K)
def uO{P:Program}{t:TypeId}{K:Value->Prop}(h:Bl P t K):∃i z,P.info? t=some i/\i.zero=some z/\K z:=by
 unfold Bl at h;cases hi:P.info? t with
 |none=>rw[hi] at h;exact h.elim
 |some i=>
  rw[hi] at h;cases hz:i.zero with
  |none=>simp[hz] at h
  |some z=>simp only[hz] at h;exact⟨i,z,rfl,hz,h⟩
def run_loadCells{P:Program}{a:Addr}(w:aH):∀(vs:List Value) (i:Nat) (acc:Array Value),bQ w a i vs->(loadCellsFrom a i vs.length acc).run P w=.ok (acc++vs.toArray) w
 | [],i,acc,_=>by simp[loadCellsFrom]
 |v::r,i,acc,h=>by
  have:=run_loadCells (P:=P) w r (i+1) (acc.push v) h.2;simp[loadCellsFrom,h.1,this]
def Cn:∀(l:List CK) (t:CTs l),(rJ l t).length=l.length
 | [],_=>rfl
 |_::r,t=>by simp[rJ,Cn r]
def UY{P:Program}{t:TypeId}{w:aH}{a:Addr}{K:Value->(aH->Prop)->Prop}(h:Ye P t w a K):
  ∃v C,K v C/\C w/\∀w',C w'->(loadVar t a).run P w'=.ok v w':=by
 unfold Ye at h;cases hi:P.info? t with
 |none=>simp[hi] at h
 |some i=>
  cases hz:i.zero with
  |none=>simp[hi,hz] at h
  |some z=>
   cases hu:P.underlying t with
   |none=>simp[hi,hz,hu] at h
   |some d=>
    by_cases hs:(∃fs,d=.struct fs)\/(∃n e,d=.array n e)
    ·have Wj:∀w,(isAgg t).run P w=.ok true w:=λw=>by
      rcases hs with⟨fs,rfl⟩|⟨n,e,rfl⟩<;>simp[isAgg,run_underlying hu]
     cases z<;>try (rcases hs with⟨fs,rfl⟩|⟨n,e,rfl⟩<;>simp[hi,hz,hu] at h;done)
     rename_i zs
     have h':cond (Nat.beq zs.size i.size) (fI (zs.toList.map CK.of) w a λx=>K (.agg (rJ (zs.toList.map CK.of) x).toArray) λw'=>bQ w' a 0 (rJ (zs.toList.map CK.of) x)) False:=by rcases hs with⟨fs,rfl⟩|⟨n,e,rfl⟩<;>simpa only[hi,hz,hu] using h
     cases hb:Nat.beq zs.size i.size with
     |false=>rw[hb] at h';exact h'.elim
     |true=>
      rw[hb] at h';obtain⟨x,hx,hK⟩:=h';refine⟨_,_,hK,hx,λw' hw'=>?_⟩;have gL:(rJ (zs.toList.map CK.of) x).length=i.size:=by rw[Cn];simpa using JP hb
      have hr:=run_loadCells (P:=P) w' _ 0 #[] hw';rw[gL] at hr;simp[loadVar,Wj,zQ hi,loadCells,hr]
    ·have Wj:∀w,(isAgg t).run P w=.ok false w:=λw=>by
      cases d<;>simp[isAgg,run_underlying hu]<;>simp_all
     have h':ZA (CK.of z) w a λx=>K ((CK.of z).aY x) λw'=>w'.cell? a=some ((CK.of z).aY x):=by cases d<;>first|simpa only[hi,hz,hu] using h|simp_all
     obtain⟨x,hx,hK⟩:=h';exact⟨_,_,hK,hx,λw' hw'=>by simp[loadVar,Wj,hw']⟩
def Km{P:Program}:∀{env:Env} {f:FuncId} {T:Tr},RV P env->Ym env f=some T->enters P f=true/\pM P f T
 | [],_,_,_,h=>by cases h
 |(g,T')::r,f,T,oS,h=>by
  simp only[Ym] at h;cases hb:Nat.beq g f with
  |true=>rw[hb] at h;have:g=f:=JP hb;subst this;cases h;exact oS.1
  |false=>rw[hb] at h;exact Km oS.2 h
def Kn{P:Program}{g:FuncId}(h:enters P g=true)(args:Array Value)(w:aH):(callFunc g args).run P w=.ok (.enter g args) w:=by
 unfold enters at h;cases hf:P.funcs[g]? with
 |none=>simp[hf] at h
 |some fn=>simp[hf] at h;obtain⟨h1,h2⟩:=h;obtain⟨c,hc⟩:=Mp.1 h1;simp[callFunc,hf,hc,h2]
def upon_value{P:Program}{o:Oper}{a:Act}{w w':aH}{next:Act->aH->Prop}{Q:Exit->Act->aH->Prop}{v:Value}
  (h:(execOp a.eval o).run P w=.ok (.value v) w') (hn:next (a.put o.dst v) w'):o.wp P a w next Q:=by
 unfold Oper.wp;rw[h];exact hn
def upon_skip{P:Program}{o:Oper}{a:Act}{w w':aH}{next:Act->aH->Prop}{Q:Exit->Act->aH->Prop}
  (h:(execOp a.eval o).run P w=.ok .skip w') (hn:next (a.put o.dst undef) w'):o.wp P a w next Q:=by
 unfold Oper.wp;rw[h];exact hn
def upon_enter{P:Program}{o:Oper}{a:Act}{w w':aH}{next:Act->aH->Prop}{Q:Exit->Act->aH->Prop}{f:FuncId}{args:Array Value}
  (h:(execOp a.eval o).run P w=.ok (.enter f args) w') (hn:Calls P f args w' λe Ob=>∃v,e=.returned v/\next (a.put o.dst v) Ob):o.wp P a w next Q:=by
 unfold Oper.wp;rw[h];exact hn.mono λe Ob ⟨v,he,hv⟩=>by subst he;exact hv
def Lb{P:Program}(w:aH)(t:TypeId)(len:Nat)(ps:Array (Nat×Value))(e:TypeId)(cells:Array Value)(hp:VE P t len ps.toList=some (e,cells)):
  (Instr.buildSlice t len ps).run P w=.ok (.slice (some ⟨w.heap.size,0,none⟩) len len) (w.alloc (.cells cells e)):=by
 unfold VE at hp;cases hu:P.underlying t with
 |none=>simp[hu] at hp
 |some d=>
  cases d<;>try (simp[hu] at hp;done)
  rename_i e'
  cases hi:P.info? e' with
  |none=>simp[hu,hi] at hp
  |some i=>
   cases hz:i.zero with
   |none=>simp[hu,hi,hz] at hp
   |some z=>
    simp only[hu,hi,hz] at hp;cases hb:Nat.ble (len*i.size) 16777216 with
    |false=>rw[hb] at hp;cases hp
    |true=>
     rw[hb] at hp;have LV:len*i.size<=16777216:=Nat.le_of_ble_eq_true hb;cases JK:Instr.fill (λj=>some (j*i.size,i.size)) (madeCells z.cells (len*i.size)) ps.toList with
     |none=>simp[JK] at hp
     |some cs=>
      simp[JK] at hp;obtain⟨rfl,rfl⟩:=hp;have qU:¬(2^24<len*i.size):=aB;unfold Instr.buildSlice;simp only[Sem.run_bind,run_underlying hu,Result.andThen_ok,zQ hi,gt_iff_lt,qU,if_false]
      by_cases h0:len*i.size=0
      ·have ZC:=JK;rw[h0] at ZC;simp only[madeCells,Array.range_zero',Array.map_empty] at ZC;simp only[h0,if_true,Sem.run_pure,Result.andThen_ok,Array.range_zero',Array.map_empty,ZC,newRow,Sem.run_bind,run_newObj]
       rfl
      ·simp only[madeCells] at JK;simp only[h0,if_false,zeroValue,typeInfo,Sem.run_bind,run_program,hi,hz,Sem.run_pure,Result.andThen_ok,JK,newRow,run_newObj]
       rfl
def append_ty(A:Array TypeId)(ty:TypeId)(x:Array Value):Builtin.append_ A ty x=Builtin.append_ A 0 x:=rfl
def copy_ty(A:Array TypeId)(ty:TypeId)(x:Array Value):Builtin.copy_ A ty x=Builtin.copy_ A 0 x:=rfl
def clear_ty(A:Array TypeId)(ty:TypeId)(x:Array Value):Builtin.clear_ A ty x=Builtin.clear_ A 0 x:=rfl
def delete_ty(A:Array TypeId)(ty:TypeId)(x:Array Value):Builtin.delete_ A ty x=Builtin.delete_ A 0 x:=rfl
def len_ty(A:Array TypeId)(ty:TypeId)(x:Array Value):Builtin.len_ A ty x=Builtin.len_ A 0 x:=rfl
def Qf{P:Program}{env:Env}(MB:RV P env){n:Nat}{bN o:mV}{a:Act}(hv:mA n bN o a)(op:Oper){w:aH}{K:Value->aH->Prop}{next:Act->aH->Prop}{Q:Exit->Act->aH->Prop}
  (h:effD P env bN o op.op op.type w K) (hn:∀v w',K v w'->next (a.put op.dst v) w'):op.wp P a w next Q:=by
 obtain⟨dst,op,ty,pos,after,guard⟩:=op;cases op<;>simp only[effD] at h<;>try (exact h.elim)
 case load t x=>
  obtain⟨v,hx,h1⟩:=aV h;cases v<;>try (exact h1.elim)
  obtain⟨ad,rfl,h2⟩:=pO h1;obtain⟨v,C,hK,hC,hr⟩:=UY h2;exact upon_value (v:=v) (w':=w) (by simp[execOp,hv.rd hx,Instr.loadAt,Instr.sureAddr,hr w hC]) (hn _ _ hK)
 case alloc e=>obtain⟨i,z,hi,hz,hK⟩:=uO h;exact upon_value (by simp[execOp,Instr.alloc,zeroValue,typeInfo,hi,hz,newVar,newRow]) (hn _ _ hK)
 case box e x=>obtain⟨v,hx,hK⟩:=aV h;exact upon_value (by simp[execOp,Instr.box,hv.rd hx,newVar,newRow]) (hn _ _ hK)
 case store t x y=>
  obtain⟨u,hx,h1⟩:=aV h;obtain⟨v,hy,h2⟩:=aV h1;cases u<;>try (exact h2.elim)
  obtain⟨ad,rfl,h3⟩:=pO h2;obtain⟨w',hr,hK⟩:=h3;exact upon_skip (w':=w') (by simp[execOp,hv.rd hx,hv.rd hy,Instr.storeAt,Instr.sureAddr,hr]) (hn _ _ hK)
 case makeMap t r=>
  cases r with
  |some r=>exact h.elim
  |none=>exact upon_value (by simp[execOp,Instr.makeMap]) (hn _ _ h)
 case makeSlice t l c=>obtain⟨u,hx,h1⟩:=aV h;obtain⟨v,hy,h2⟩:=aV h1;obtain⟨s,w',hr,hK⟩:=h2;exact upon_value (w':=w') (by simp[execOp,hv.rd hx,hv.rd hy,hr];rfl) (hn _ _ hK)
 case mapUpdate t m k x=>obtain⟨u,hm,h1⟩:=aV h;obtain⟨v,hk,h2⟩:=aV h1;obtain⟨y,hx,h3⟩:=aV h2;obtain⟨w',hr,hK⟩:=h3;exact upon_skip (w':=w') (by simp[execOp,hv.rd hm,hv.rd hk,hv.rd hx,hr]) (hn _ _ hK)
 case insert t m k x=>obtain⟨u,hm,h1⟩:=aV h;obtain⟨v,hk,h2⟩:=aV h1;obtain⟨y,hx,h3⟩:=aV h2;obtain⟨w',hr,hK⟩:=h3;exact upon_skip (w':=w') (by simp[execOp,hv.rd hm,hv.rd hk,hv.rd hx,hr]) (hn _ _ hK)
 case entryStore t m s x=>obtain⟨u,hm,h1⟩:=aV h;obtain⟨v,hk,h2⟩:=aV h1;obtain⟨y,hx,h3⟩:=aV h2;obtain⟨w',hr,hK⟩:=h3;exact upon_skip (w':=w') (by simp[execOp,hv.rd hm,hv.rd hk,hv.rd hx,hr]) (hn _ _ hK)
 case range t x=>obtain⟨u,hx,h1⟩:=aV h;obtain⟨r,w',hr,hK⟩:=h1;exact upon_value (w':=w') (by simp[execOp,hv.rd hx,hr]) (hn _ _ hK)
 case next x s=>
  obtain⟨u,hx,h1⟩:=aV h;cases s with
  |true=>exact h1.elim
  |false=>obtain⟨b,r,w',hr,hK⟩:=h1;exact upon_value (w':=w') (by simp only[execOp,hv.rd hx,Sem.run_bind,hr];rfl) (hn _ _ hK)
 case entry x=>obtain⟨u,hx,h1⟩:=aV h;obtain⟨n,r,w',hr,hK⟩:=h1;exact upon_value (w':=w') (by simp only[execOp,hv.rd hx,Sem.run_bind,hr];rfl) (hn _ _ hK)
 case mapEntry t m k=>
  obtain⟨u,hm,h1⟩:=aV h;obtain⟨v,hk,h2⟩:=aV h1;cases hu:P.underlying t with
  |none=>simp[hu] at h2
  |some d=>
   cases d<;>try (simp[hu] at h2;done)
   simp only[hu] at h2;obtain⟨i,z,hi,hz,h3⟩:=uO h2;obtain⟨x,w',hr,hK⟩:=h3;exact upon_value (w':=w') (by simp[execOp,hv.rd hm,hv.rd hk,hr];try rfl) (hn _ _ hK)
 case lookup t m k ok=>
  obtain⟨u,hm,h1⟩:=aV h;obtain⟨v,hk,h2⟩:=aV h1;cases hu:P.underlying t with
  |none=>simp[hu] at h2
  |some d=>
   cases d<;>try (simp[hu] at h2;done)
   simp only[hu] at h2;obtain⟨i,z,hi,hz,h3⟩:=uO h2;cases ok with
   |true=>obtain⟨x,w',hr,hK⟩:=h3;exact upon_value (w':=w') (by simp[execOp,hv.rd hm,hv.rd hk,hr];try rfl) (hn _ _ hK)
   |false=>obtain⟨x,w',hr,hK⟩:=h3;exact upon_value (w':=w') (by simp[execOp,hv.rd hm,hv.rd hk,hr];try rfl) (hn _ _ hK)
 case convert src d x=>obtain⟨u,hx,h1⟩:=aV h;obtain⟨i,z,hi,hz,h2⟩:=uO h1;obtain⟨x,w',hr,hK⟩:=h2;exact upon_value (w':=w') (by simp[execOp,hv.rd hx,hr]) (hn _ _ hK)
 case buildSlice t len parts=>
  obtain⟨vs,Ge,h1⟩:=aV h;obtain⟨p,hp,hK⟩:=aV h1;obtain⟨e,cells⟩:=p;have he:(parts.map λ(i,x)=>(i,a.eval x)).toList=(parts.toList.map (·.1)).zip vs:=by rw[Array.toList_map];exact UT a.eval parts.toList vs (by rw[<-hv.Fz Ge];simp)
  have hr:=Lb w t len (parts.map λ(i,x)=>(i,a.eval x)) e cells (by rw[he];exact hp);refine upon_value (v:=.slice (some ⟨w.heap.size,0,none⟩) len len) (w':=w.alloc (.cells cells e)) ?_ (hn _ _ hK);unfold execOp;simp only[Sem.run_bind,hr]
  rfl
 case call c=>
  obtain⟨callee,args,argTypes⟩:=c;obtain⟨args⟩:=args;obtain⟨argTypes⟩:=argTypes;cases callee with
  |invoke r m=>exact h.elim
  |builtin b=>
   cases b<;>try (exact h.elim)
   case append=>
    match args,argTypes,h with
    | [s,x],[t,u],h=>
     obtain⟨vs,hs,h1⟩:=aV h;obtain⟨vx,hx,h2⟩:=aV h1;cases vs<;>try (exact h2.elim)
     obtain⟨r,w',hr,hK⟩:=h2;exact upon_value (w':=w') (fZ w (by
      simp only[builtin,Sem.run_bind,List.map_toArray,Dg,List.map_nil,hv.rd hs,hv.rd hx];rw[append_ty,hr.trans rfl];rfl)) (hn _ _ hK)
   case copy=>
    match args,argTypes,h with
    | [s,x],[t,u],h=>
     obtain⟨vs,hs,h1⟩:=aV h;obtain⟨vx,hx,h2⟩:=aV h1;cases vs<;>try (exact h2.elim)
     obtain⟨r,w',hr,hK⟩:=h2;exact upon_value (w':=w') (fZ w (by
      simp only[builtin,Sem.run_bind,List.map_toArray,Dg,List.map_nil,hv.rd hs,hv.rd hx];rw[copy_ty,hr.trans rfl];rfl)) (hn _ _ hK)
   case clear=>
    match args,argTypes,h with
    | [x],[t],h=>
     obtain⟨vx,hx,h2⟩:=aV h;obtain⟨r,w',hr,hK⟩:=h2;exact upon_value (w':=w') (fZ w (by
      simp only[builtin,Sem.run_bind,List.map_toArray,Dg,List.map_nil,hv.rd hx];rw[clear_ty,hr.trans rfl];rfl)) (hn _ _ hK)
   case delete=>
    match args,argTypes,h with
    | [m,k],[t,u],h=>
     obtain⟨vm,hm,h1⟩:=aV h;obtain⟨vk,hk,h2⟩:=aV h1;obtain⟨r,w',hr,hK⟩:=h2;exact upon_value (w':=w') (fZ w (by
      simp only[builtin,Sem.run_bind,List.map_toArray,Dg,List.map_nil,hv.rd hm,hv.rd hk];rw[delete_ty,hr.trans rfl];rfl)) (hn _ _ hK)
   case len=>
    match args,argTypes,h with
    | [m],[t],h=>
     obtain⟨vm,hm,h2⟩:=aV h;obtain⟨r,w',hr,hK⟩:=h2;exact upon_value (w':=w') (fZ w (by
      simp only[builtin,Sem.run_bind,List.map_toArray,Dg,List.map_nil,hv.rd hm];rw[len_ty,hr.trans rfl];rfl)) (hn _ _ hK)
  |value x=>
   by_cases hfx:∃f,x=.func f
   ·obtain⟨f,rfl⟩:=hfx;obtain⟨vs,Ge,h1⟩:=aV h;have e:=hv.Fz Ge;have mi:∀w,(execOp a.eval {dst:=dst,op:=.call {callee:=.value (.func f),args:=⟨args⟩,argTypes:=⟨argTypes⟩},type:=ty,pos:=pos,after:=after,guard:=guard}).run P w=(callFunc f vs.toArray).run P w:=λw=>by
     have em:(⟨args⟩:Array Operand).map a.eval=vs.toArray:=by rw[<-e];simp
     unfold execOp;simp only[resolve,em,Act.eval,Deferred.ofValue,Sem.run_bind,Sem.run_pure,Result.andThen_ok,invoke];simp
    unfold callD at h1;cases hf:Ym env f with
    |some T=>rw[hf] at h1;obtain⟨h2,h3⟩:=Km MB hf;exact upon_enter ((mi w).trans (Kn h2 _ w)) ((h3 _ _ _ h1).mono λe w' ⟨v,he,hK⟩=>⟨v,he,hn _ _ hK⟩)
    |none=>rw[hf] at h1;obtain⟨i,z,hi,hz,h3⟩:=uO h1;obtain⟨x,w',hr,hK⟩:=h3;exact upon_value ((mi w).trans hr) (hn _ _ hK)
   ·have h':nX (rd bN o x) λfv=>nX (Fz bN o args) λvs=>lX P fv vs w λv w'=>retD P ty v λv'=>K v' w':=by
     cases x<;>first|exact h|exact absurd ⟨_,rfl⟩ hfx
    obtain⟨fv,hfv,h1⟩:=aV h';obtain⟨vs,Ge,h2⟩:=aV h1;obtain⟨g,first,cap,rfl,h3,h4⟩:=h2
    have e:=hv.Fz Ge;have em:(⟨args⟩:Array Operand).map a.eval=vs.toArray:=by rw[<-e];simp
    have mi:(execOp a.eval {dst:=dst,op:=.call {callee:=.value x,args:=⟨args⟩,argTypes:=⟨argTypes⟩},type:=ty,pos:=pos,after:=after,guard:=guard}).run P w=(callFunc g (first++vs.toArray++cap)).run P w:=by unfold execOp;simp only[resolve,em,hv.rd hfv,Deferred.ofValue,Sem.run_bind,Sem.run_pure,Result.andThen_ok,invoke]
    refine upon_enter (mi.trans (Kn h3 _ w)) (h4.mono λe w' ⟨v,he,hK⟩=>⟨v,he,?_⟩);have:K v w':=by
     unfold retD at hK;cases hu:P.underlying ty with
     |none=>rw[hu] at hK;obtain⟨i,z,hi,hz,x,rfl,hk⟩:=uO hK;exact hk
     |some d=>
      rw[hu] at hK;cases d
      case tuple ts=>obtain⟨ks,hks,x,rfl,hk⟩:=aV hK;exact hk
      all_goals
       obtain⟨i,z,hi,hz,x,rfl,hk⟩:=uO hK;exact hk
    exact hn _ _ this
structure Ctx where
 P:Program
 n:Nat
 env:Env
inductive MP where
 |dX
 |no
 |fl (i:Nat) (p:MP)
 |mn (i:Nat) (p r:MP)
inductive Ann where
 |n
 |s (a b:Ann)
 |c (a b:Ann)
 |b (a:Ann)
 |l (oW:List (Nat×oU)) (drop:List Nat) (a:Ann)
 |j (oW:List (Nat×oU)) (drop:List Nat) (a b:Ann)
 |r (p:MP)
 |o (LS:List Nat)
def OY(l:List (Nat×oU)):List oU:=l.map (·.2)
def Mv:(l:List (Nat×oU))->Gm (OY l)->mV
 | [],_=>[]
 |(i,k)::r,t=>(i,k.aY t.1)::Mv r t.2
def decL:(l:List (Nat×oU))->mV->mV->(Gm (OY l)->Prop)->Prop
 | [],_,_,K=>K ()
 |(i,k)::r,bN,o,K=>nX (rdT bN o i) λv=>k.MG v λx=>decL r bN o λt=>K (x,t)
def mem(l:List Nat)(i:Nat):Bool:=match l with
 | []=>false
 |j::r=>cond (Nat.beq j i) true (mem r i)
def kC:mV->List Nat->mV
 | [],_=>[]
 |(i,v)::r,l=>cond (mem l i) (kC r l) ((i,v)::kC r l)
def Hr:mV->List Nat->mV
 | [],_=>[]
 |(i,v)::r,l=>cond (mem l i) ((i,v)::Hr r l) (Hr r l)
def oh(eK:Array Oper)(j:Nat):Option Nat:=(eK[j]?).bind (·.dst)
def NF(eK:Array Oper)(g:Option (Nat×Bool))(bN o:mV)(yes no:mV->Prop):Prop:=match g with
 |none=>yes bN
 |some (j,want)=>nX (oh eK j) λs=>nX (rdT bN o s) λv=>match v with
  | .bool t=>match mI o s with
   |none=>cond t (cond want (yes ((s,.bool true)::bN)) (no ((s,.bool true)::bN))) (cond want (no ((s,.bool false)::bN)) (yes ((s,.bool false)::bN)))
   |some _=>False
  | .tuple _=>no bN
  |_=>False
def regD(C:Ctx)(eK:Array Oper)(o:mV)(K:WQ mV):List Oper->mV->aH->Prop
 | [],bN,w=>K bN w
 |op::r,bN,w=>NF eK op.guard bN o
  (λgD=>opD C.P C.env gD o op.op op.type w λv w'=>WA C.n op.dst v o gD λiQ=>regD C eK o K r iQ w')
  (λgD=>WA C.n op.dst undef o gD λiQ=>regD C eK o K r iQ w)
abbrev CN:=List (List Nat×(aH->Prop))
def jE(op:Oper)(l:List Nat):Bool:=op.after.toList.any λe=>Region.binds .any e && mem l e.on
def dO(op:Oper):CN->CN
 | []=>[]
 |(l,C)::r=>cond (jE op l) (dO op r) ((l,C)::dO op r)
def iU(i:Nat)(op:Oper):CN->CN
 | []=>[]
 |(l,C)::r=>cond (jE op l) ((i::l,C)::iU i op r) ((l,C)::iU i op r)
def Bp:CN->aH->Prop->Prop
 | [],_,G=>G
 |(_,C)::r,w,G=>C w/\Bp r w G
def floatD(P:Program)(bN o:mV)(op:Op)(w:aH)(K:Value->Option (aH->Prop)->Prop):Prop:=
 match op with
 | .load t x=>nX (rd bN o x) λv=>match v with
  | .pointer p=>aC p λa=>Ye P t w a λv C=>K v (some C)
  |_=>False
 |op=>Yb P bN o op λv=>K v none
def pushP(i:Nat)(C:Option (aH->Prop))(pd:CN):CN:=match C with
 |some C=>([i],C)::pd
 |none=>pd
def Uk(n:Nat)(op:Oper)(m:Nat):Bool:=op.after.toList.all λe=>!Region.binds .any e ||(Nat.blt e.on n && Nat.testBit m e.on)
def sX(eK:Array Oper)(m i:Nat):Bool:=match eK[i]? with
 |some op=>!Nat.testBit m i && Uk eK.size op m
 |none=>false
def Hx(f:Nat->Bool):Nat->Bool
 |0=>true
 |n+1=>f n && Hx f n
def freeB(eK:Array Oper)(m i:Nat)(oi:Oper):Bool:=Hx (λj=>Nat.beq j i ||Nat.testBit m j ||match eK[j]? with
 |some oj=>oj.after.toList.any (λe=>Region.binds .any e && Nat.beq e.on i) ||oi.apart eK oj
 |none=>true) eK.size
def MP.depth:MP->Nat
 | .dX=>0
 | .no=>0
 | .fl _ p=>p.depth+1
 | .mn _ p r=>cond (Nat.ble (p.depth+1) r.depth) r.depth (p.depth+1)
def KG:MP->Nat->Bool
 | .mn i _ r,j=>Nat.beq i j ||KG r j
 |_,_=>false
def covered(eK:Array Oper)(m:Nat)(p:MP):Bool:=Hx (λj=>KG p j ||!sX eK m j) eK.size
def uU(C:Ctx)(eK:Array Oper)(o:mV)(K:WQ mV):MP->Bool->Nat->CN->mV->aH->Prop
 | .dX,_,m,_,bN,w=>cond (covered eK m .no) (K bN w) False
 | .no,head,_,_,_,_=>cond head False True
 | .fl i p,_,m,pd,bN,w=>nX eK[i]? λop=>cond (sX eK m i && freeB eK m i op) (NF eK op.guard bN o (λgD=>floatD C.P gD o op.op w λv Cv=>WA C.n op.dst v o gD λiQ=>uU C eK o K p true (Nat.lor m (Nat.shiftLeft 1 i)) (pushP i Cv (iU i op pd)) iQ w) (λgD=>WA C.n op.dst undef o gD λiQ=>uU C eK o K p true (Nat.lor m (Nat.shiftLeft 1 i)) (iU i op pd) iQ w)) False
 | .mn i p r,head,m,pd,bN,w=>cond (!head ||(sX eK m i && covered eK m (.mn i p r))) (match r with
   | .no=>nX eK[i]? λop=>NF eK op.guard bN o (λgD=>effD C.P C.env gD o op.op op.type w λv w'=>Bp (dO op pd) w' (WA C.n op.dst v o gD λiQ=>uU C eK o K p true (Nat.lor m (Nat.shiftLeft 1 i)) (dO op pd) iQ w')) (λgD=>Bp (dO op pd) w (WA C.n op.dst undef o gD λiQ=>uU C eK o K p true (Nat.lor m (Nat.shiftLeft 1 i)) (dO op pd) iQ w))
   |r=>(nX eK[i]? λop=>NF eK op.guard bN o (λgD=>effD C.P C.env gD o op.op op.type w λv w'=>Bp (dO op pd) w' (WA C.n op.dst v o gD λiQ=>uU C eK o K p true (Nat.lor m (Nat.shiftLeft 1 i)) (dO op pd) iQ w')) (λgD=>Bp (dO op pd) w (WA C.n op.dst undef o gD λiQ=>uU C eK o K p true (Nat.lor m (Nat.shiftLeft 1 i)) (dO op pd) iQ w)))/\uU C eK o K r false m pd bN w) False
def Hp:List Nat->mV->mV->mV
 | [],_,_=>[]
 |s::r,bN,o=>match rdT bN o s with
  |some v=>(s,v)::Hp r bN o
  |none=>Hp r bN o
def KC(n:Nat)(o:mV):List Oper->Bool
 | []=>true
 |op::r=>(match op.dst with
  |none=>true
  |some d=>Nat.blt d n && (match mI o d with
   |none=>true
   |some _=>false)) && KC n o r
def Fp(eK:Array Oper):Bool:=Hx (λi=>match eK[i]? with
 |some op=>op.after.toList.all λe=>!Region.binds .any e ||Nat.blt e.on i
 |none=>true) eK.size
def lq(dst:Option Nat)(v:Value)(bN:mV):mV:=match dst with
 |none=>bN
 |some d=>(d,v)::bN
def Ib(C:Ctx)(eK:Array Oper)(o:mV)(K:WQ mV):Nat->Nat->mV->aH->Prop
 |0,_,bN,w=>K bN w
 |k+1,m,bN,w=>∀i op,eK[i]? =some op->sX eK m i=true->NF eK op.guard bN o
   (λgD=>opD C.P C.env gD o op.op op.type w λv w'=>Ib C eK o K k (Nat.lor m (Nat.shiftLeft 1 i)) (lq op.dst v gD) w')
   (λgD=>Ib C eK o K k (Nat.lor m (Nat.shiftLeft 1 i)) (lq op.dst undef gD) w)
structure OrdP(C:Ctx)(eK:Array Oper)(o:mV)(K:WQ mV)(w:aH):Prop where
 out:Ib C eK o K eK.size 0 [] w
def resD(P:Program)(bN:mV):List ResultVar->aH->(List Value->Prop)->Prop
 | [],_,K=>K []
 | .tmp t::r,w,K=>nX (rdT bN [] t) λv=>resD P bN r w λvs=>K (v::vs)
 | .cell a t::r,w,K=>nX (rdT bN [] a) λv=>match v with
  | .pointer p=>aC p λad=>Ye P t w ad λv _=>resD P bN r w λvs=>K (v::vs)
  |_=>False
def Ot(vs:List Value):Value:=match vs with
 | [v]=>v
 |vs=>.tuple vs.toArray
def postD(P:Program)(rs:List ResultVar)(R:WQ Value)(e:Exit)(bN:mV)(w:aH):Prop:=match e with
 | .normal=>resD P bN rs w λvs=>R (Ot vs) w
 | .ret=>resD P bN rs w λvs=>R (Ot vs) w
 |_=>False
def Xw(N:WQ mV)(Q:Exit->WQ mV):Exit->mV->aH->Prop
 | .normal,bN,w=>N bN w
 |e,bN,w=>Q e bN w
def Tm(id:Nat)(Q:Exit->WQ mV):Exit->mV->aH->Prop
 | .exit i,bN,w=>cond (Nat.beq i id) (Q .normal bN w) (Q (.exit i) bN w)
 |e,bN,w=>Q e bN w
def condD(v:Value)(A B:Prop):Prop:=match v with
 | .bool t=>cond t A B
 |_=>False
def D(C:Ctx):Code->Ann->mV->(Exit->WQ mV)->mV->aH->Prop
 | .skip,_,_,Q,bN,w=>Q .normal bN w
 | .region _ eK draw,MH,o,Q,bN,w=>cond draw (match MH with
   | .r p=>cond (Nat.ble p.depth eK.size) (uU C eK o (Q .normal) p true 0 [] bN w.drew) False
   | .o LS=>cond (KC C.n o eK.toList && KC C.n (Hp LS bN o) eK.toList && Fp eK) (OrdP C eK (Hp LS bN o) (Q .normal) w.drew) False
   |_=>False) (regD C eK o (Q .normal) eK.toList bN w)
 | .seq x y,MH,o,Q,bN,w=>match MH with
  | .s a b=>D C x a o (Xw (D C y b o Q) Q) bN w
  | .n=>D C x .n o (Xw (D C y .n o Q) Q) bN w
  | .j oW drop a b=>∀J:Gm (OY oW)->aH->Prop,(∀t w,D C y b o Q (Mv oW t++kC bN drop) w->J t w)->
    D C x a (kC bN drop++o) (Xw (λgD w'=>decL oW gD (kC bN drop++o) λt=>J t w') λe gD w'=>Q e (gD++kC bN drop) w') (Hr bN drop) w
  |_=>False
 | .cond c x y,MH,o,Q,bN,w=>match MH with
  | .c a b=>nX (rd bN o c) λv=>condD v (D C x a o Q bN w) (D C y b o Q bN w)
  | .n=>nX (rd bN o c) λv=>condD v (D C x .n o Q bN w) (D C y .n o Q bN w)
  |_=>False
 | .block id c,MH,o,Q,bN,w=>match MH with
  | .b a=>D C c a o (Tm id Q) bN w
  | .n=>D C c .n o (Tm id Q) bN w
  |_=>False
 | .loop c,MH,o,Q,bN,w=>match MH with
  | .l oW drop a=>∀X:Gm (OY oW)->aH->Prop,
    (∀t w,D C c a (kC bN drop++o) (Xw (λgD w'=>decL oW gD (kC bN drop++o) λt'=>X t' w') λe gD w'=>Q e (gD++kC bN drop) w') (Mv oW t) w->X t w)->
    decL oW bN o λt=>X t w
  |_=>False
 | .exit id,_,_,Q,bN,w=>Q (.exit id) bN w
 | .ret,_,_,Q,bN,w=>Q .ret bN w
 |_,_,_,_,_,_=>False
def kP(x y:mV)(t:Nat):mI (x++y) t=match mI x t with
  |some v=>some v
  |none=>mI y t:=by
 induction x with
 |nil=>rfl
 |cons p x ih=>
  obtain⟨i,v⟩:=p;simp only[List.cons_append,mI];cases Nat.beq i t with
  |true=>rfl
  |false=>exact ih
def KI(l:List Nat)(t:Nat):∀(x:mV),mI (kC x l) t=cond (mem l t) none (mI x t)
 | []=>by cases mem l t<;>rfl
 |(i,v)::r=>by
  have ih:=KI l t r;simp only[kC,mI];cases hb:Nat.beq i t with
  |true=>
   have:i=t:=JP hb;subst this;cases hm:mem l i with
   |true=>rw[hm] at ih;exact ih
   |false=>simp only[cond_false,mI,hb,cond_true]
  |false=>
   cases hm:mem l i with
   |true=>simp only[cond_true];rw[ih];rfl
   |false=>simp only[cond_false,mI,hb];rw[ih]
def UW(l:List Nat)(t:Nat):∀(x:mV) (v:Value),mI (Hr x l) t=some v->mem l t=true/\mI x t=some v
 | [],v,h=>by cases h
 |(i,u)::r,v,h=>by
  simp only[Hr] at h;cases hm:mem l i with
  |true=>
   rw[hm] at h;simp only[cond_true,mI] at h;cases hb:Nat.beq i t with
   |true=>rw[hb] at h;have:i=t:=JP hb;subst this;exact⟨hm,by simp only[mI,hb];exact h⟩
   |false=>rw[hb] at h;obtain⟨h1,h2⟩:=UW l t r v h;exact⟨h1,by simp only[mI,hb];exact h2⟩
  |false=>
   rw[hm] at h;obtain⟨h1,h2⟩:=UW l t r v h;refine⟨h1,?_⟩;have:Nat.beq i t=false:=by
    cases hb:Nat.beq i t with
    |false=>rfl
    |true=>have:i=t:=JP hb;subst this;rw[h1] at hm;cases hm
   simp only[mI,this];exact h2
def mA.outer{n:Nat}{bN o:mV}{a:Act}(h:mA n bN o a)(l:List Nat):∀t v,mI (kC bN l++o) t=some v->a.tmps.getD t undef=v:=by
 intro t v hv;rw[kP,KI] at hv;cases hm:mem l t with
 |true=>rw[hm] at hv;exact h.o t v hv
 |false=>
  rw[hm] at hv;cases hl:mI bN t with
  |some u=>rw[hl] at hv;simp at hv;subst hv;exact h.bN t _ hl
  |none=>rw[hl] at hv;exact h.o t v hv
def HT{n:Nat}{bN o:mV}{a:Act}(h:mA n bN o a){t:Nat}{v:Value}(hx:rdT bN o t=some v):a.tmps.getD t undef=v:=
 h.rd (x:=.tmp t) hx
def PO{n:Nat}{a:Act}:∀{l:List (Nat×oU)} {bN o:mV} {K:Gm (OY l)->Prop},mA n bN o a->decL l bN o K->
  ∃t,K t/\∀i v,mI (Mv l t) i=some v->a.tmps.getD i undef=v
 | [],_,_,_,_,h=>⟨(),h,λi v hv=>by cases hv⟩
 |(i,k)::r,bN,o,K,hv,h=>by
  obtain⟨v,hr,h1⟩:=aV h;obtain⟨x,rfl,h2⟩:=oU.zI h1;obtain⟨t,hK,ht⟩:=PO (K:=λt=>K (x,t)) hv h2;refine⟨(x,t),hK,λj u hu=>?_⟩;simp only[Mv,mI] at hu;cases hb:Nat.beq i j with
  |true=>rw[hb] at hu;have:i=j:=JP hb;subst this;cases hu;exact HT hv hr
  |false=>rw[hb] at hu;exact ht j u hu
def EV{n:Nat}{bN o:mV}{a:Act}(hv:mA n bN o a){eK:Array Oper}{op:Oper}{yes no:mV->Prop}(h:NF eK op.guard bN o yes no):
  (∃gD,mA n gD o a/\Region.wanted op (yielded eK a.tmps)=true/\yes gD)\/(∃gD,mA n gD o a/\Region.wanted op (yielded eK a.tmps)=false/\no gD):=by
 unfold NF at h;cases hg:op.guard with
 |none=>rw[hg] at h;exact .inl ⟨bN,hv,by simp[Region.wanted,hg],h⟩
 |some jw=>
  obtain⟨j,want⟩:=jw;rw[hg] at h;obtain⟨s,hs,h1⟩:=aV h;obtain⟨v,hr,h2⟩:=aV h1;cases v<;>try (exact h2.elim)
  case tuple vs=>
   have ht:=HT hv hr;have hy:yielded eK a.tmps j=none:=by
    unfold oh at hs;cases hq:a.tmps[s]? with
    |none=>simp[yielded,hs,hq]
    |some u=>simp[hq] at ht;simp[yielded,hs,hq,ht]
   exact .inr ⟨bN,hv,by simp[Region.wanted,hg,hy],h2⟩
  rename_i t
  have ht:=HT hv hr;have hy:yielded eK a.tmps j=some t:=by
   unfold oh at hs;have hsome:a.tmps[s]? =some (.bool t):=by
    cases hq:a.tmps[s]? with
    |none=>simp[hq,undef] at ht
    |some u=>simp[hq] at ht;rw[ht]
   simp[yielded,hs,hsome]
  cases Mj:mI o s with
  |some u=>simp only[Mj] at h2
  |none=>
  simp only[Mj] at h2;have xt:mA n ((s,.bool t)::bN) o a:=by
   refine⟨hv.size,?_,hv.o,hv.wc⟩;intro i u hu;simp only[mI] at hu;cases hb:Nat.beq s i with
   |true=>rw[hb] at hu;have:s=i:=JP hb;subst this;cases hu;exact ht
   |false=>rw[hb] at hu;exact hv.bN i u hu
  cases t<;>cases want
  ·exact .inl ⟨_,xt,by simp[Region.wanted,hg,hy],h2⟩
  ·exact .inr ⟨_,xt,by simp[Region.wanted,hg,hy],h2⟩
  ·exact .inr ⟨_,xt,by simp[Region.wanted,hg,hy],h2⟩
  ·exact .inl ⟨_,xt,by simp[Region.wanted,hg,hy],h2⟩
def Zi{P:Program}{env:Env}(MB:RV P env){n:Nat}{bN o:mV}{a:Act}(hv:mA n bN o a)(op:Oper){w:aH}{K:Value->aH->Prop}{next:Act->aH->Prop}{Q:Exit->Act->aH->Prop}
  (h:opD P env bN o op.op op.type w K) (hn:∀v w',K v w'->next (a.put op.dst v) w'):op.wp P a w next Q:=by
 unfold opD at h;cases hp:isPure P op.op with
 |true=>rw[hp] at h;obtain⟨v,hK,hr⟩:=Ke hv op h;exact upon_value (hr w) (hn _ _ hK)
 |false=>rw[hp] at h;exact Qf MB hv op h hn
def UR{C:Ctx}(MB:RV C.P C.env){eK:Array Oper}{o:mV}{K:mV->aH->Prop}{Q:Exit->Act->aH->Prop}(hQ:∀bN a w,mA C.n bN o a->K bN w->Q .normal a w):
  ∀(l:List Oper) (bN:mV) (a:Act) (w:aH),mA C.n bN o a->regD C eK o K l bN w->wpList C.P eK Q l a w
 | [],bN,a,w,hv,h=>hQ bN a w hv h
 |op::r,bN,a,w,hv,h=>by
  simp only[regD] at h;unfold wpList;rcases EV hv h with⟨gD,kI,hw,h1⟩|⟨gD,kI,hw,h1⟩
  ·rw[if_pos hw];refine .inl (Zi MB kI op h1 λv w' h2=>?_);obtain⟨iQ,h3,h4⟩:=xQ h2;exact UR MB hQ r iQ _ w' (h4 a kI) h3
  ·rw[if_neg (by rw[hw];simp)];obtain⟨iQ,h3,h4⟩:=xQ h1;exact UR MB hQ r iQ _ w (h4 a kI) h3
def Wd(P:Program)(eK:Array Oper)(Q:Exit->WQ Act):Nat->Array Bool->CN->Act->aH->Prop
 |0,done,_,a,w=>Region.ready .any eK done=[]/\Q .normal a w
 |f+1,done,pd,a,w=>(Region.ready .any eK done=[]->Q .normal a w)/\∀j∈Region.ready .any eK done,∀oj,eK[j]? =some oj->
   wpOp P eK Q j (λa' w'=>(∀p∈dO oj pd,p.2 w')/\Wd P eK Q f (done.setIfInBounds j true) (dO oj pd) a' w') a w
def Wd_any{P:Program}{eK:Array Oper}{Q:Exit->Act->aH->Prop}:∀(f:Nat) (done:Array Bool) (pd:CN) (a:Act) (w:aH),Wd P eK Q f done pd a w->wpAny P .any eK Q f done a w
 |0,_,_,_,_,h=>h
 |f+1,done,pd,a,w,h=>⟨h.1,λj hj=>by
  obtain⟨_,o,ho,_⟩:=mem_ready.1 hj;exact wpOp_mono (λa' w' h'=>Wd_any f _ _ a' w' h'.2) (h.2 j hj o ho)⟩
def kD{op:Oper}:∀{pd:CN} {p:List Nat×(aH->Prop)},p∈dO op pd↔p∈pd/\jE op p.1=false
 | [],p=>by simp[dO]
 |(l,C)::r,p=>by
  simp only[dO];cases hw:jE op l with
  |true=>
   simp only[cond_true,jQ,kD (pd:=r)]
   constructor
   ·rintro⟨h1,h2⟩;exact⟨.inr h1,h2⟩
   ·rintro⟨h1|h1,h2⟩
    ·subst h1;rw[hw] at h2;cases h2
    ·exact⟨h1,h2⟩
  |false=>
   simp only[cond_false,jQ,kD (pd:=r)]
   constructor
   ·rintro(h1|⟨h1,h2⟩)
    ·subst h1;exact⟨.inl rfl,hw⟩
    ·exact⟨.inr h1,h2⟩
   ·rintro⟨h1|h1,h2⟩
    ·exact .inl h1
    ·exact .inr ⟨h1,h2⟩
def Wd_sub{P:Program}{eK:Array Oper}{Q:Exit->Act->aH->Prop}:∀(f:Nat) (done:Array Bool) (pd iq:CN) (a:Act) (w:aH),(∀p∈iq,p∈pd)->Wd P eK Q f done pd a w->Wd P eK Q f done iq a w
 |0,_,_,_,_,_,_,h=>h
 |f+1,done,pd,iq,a,w,hs,h=>⟨h.1,λj hj oj Mi=>wpOp_mono (λa' w' h'=>by
   have ML:∀p∈dO oj iq,p∈dO oj pd:=λp hp=>kD.2 ⟨hs p (kD.1 hp).1,(kD.1 hp).2⟩;exact⟨λp hp=>h'.1 p (ML p hp),Wd_sub f _ _ _ a' w' ML h'.2⟩) (h.2 j hj oj Mi)⟩
def wH(P:Program)(eK:Array Oper)(Cl:aH->Prop)(o:Oper)(v:Value)(a:Act):Prop:=
 (Region.wanted o (yielded eK a.tmps)=true/\∀w,Cl w->(execOp a.eval o).run P w=.ok (.value v) w)\/
 (Region.wanted o (yielded eK a.tmps)=false/\v=undef)
def wH.wpOp{P:Program}{eK:Array Oper}{Cl:aH->Prop}{Q:Exit->Act->aH->Prop}{i:Nat}{o:Oper}{v:Value}{a:Act}(hi:eK[i]? =some o)(hy:wH P eK Cl o v a)
  {K:Act->aH->Prop} {w:aH} (hw:Cl w) (h:K (a.put o.dst v) w):wpOp P eK Q i K a w:=by
 unfold Go.wpOp;simp only[hi];rcases hy with⟨h1,hv⟩|⟨h1,rfl⟩
 ·simp only[h1,if_true,Oper.wp,hv w hw,Oper.upon];exact .inl h
 ·simp only[h1,Bool.false_eq_true,if_false];exact h
def wpOp_putC{P:Program}{eK:Array Oper}{Cl:aH->Prop}{Q:Exit->Act->aH->Prop}{j:Nat}{oi oj:Oper}{v:Value}(hj:eK[j]? =some oj)(hap:oi.apart eK oj=true)
  (kg:∀cs b,oi.op≠.select cs b) (hsj:∀cs b,oj.op≠.select cs b)
  (hQ:∀c a w,Q (.panic c) (a.put oi.dst v) w->Q (.panic c) a w) {K:Act->aH->Prop} {a:Act} {w:aH}
  (hy:wH P eK Cl oi v a) (h:Go.wpOp P eK Q j K (a.put oi.dst v) w):
  Go.wpOp P eK Q j (λa' w'=>wH P eK Cl oi v a'/\K (a'.put oi.dst v) w') a w:=by
 obtain⟨h1,h2,h3⟩:=Oper.apart_spec hap;have of_same:∀{a a':Act},wH P eK Cl oi v a->execOp a'.eval oi=execOp a.eval oi->Region.wanted oi (yielded eK a'.tmps)=Region.wanted oi (yielded eK a.tmps)->wH P eK Cl oi v a':=λhy he hw=>by
  unfold wH at*;rw[he,hw];exact hy
 have aO:∀(a:Act),wH P eK Cl oi v a->∀u,wH P eK Cl oi v (a.put oj.dst u):=λa hy u=>
  of_same hy (execOp_put oi kg a oj.dst u h3) (wanted_put oi a oj.dst u h3)
 have keepD:∀d,wH P eK Cl oi v {a with defers:=d::a.defers}:=λd=>of_same hy rfl rfl;unfold Go.wpOp at*;simp only[hj] at*;rw[wanted_put oj a oi.dst v h1] at h
 split
 ·rename_i hw
  simp only[hw,if_true] at h;rcases h with h|⟨hasks,hlets⟩
  case inr=>exact .inr ⟨by unfold Oper.asks at*;rw[execOp_put oj hsj a oi.dst v h1] at hasks;exact hasks,hlets⟩
  refine .inl ?_;unfold Oper.wp at*;rw[execOp_put oj hsj a oi.dst v h1] at h;generalize (execOp a.eval oj).run P w=r at*;cases r with
  |ok n w'=>
   cases n<;>simp only[Oper.upon] at h ⊢
   case value u=>exact⟨aO a hy u,by rw[<-Act.put_comm a v u h2];exact h⟩
   case skip=>exact⟨aO a hy _,by rw[<-Act.put_comm a v undef h2];exact h⟩
   case defer d=>refine⟨aO _ (keepD d) _,?_⟩;rw[<-Act.put_comm _ v undef h2,<-Act.put_defers];exact h
   case enter f args=>
    refine Calls.mono h λe Ob he=>?_;cases e with
    |returned u=>exact⟨aO a hy u,by rw[<-Act.put_comm a v u h2];exact he⟩
    |panicked c=>exact hQ _ _ _ he
    |outgrown=>exact he
   case row row args=>exact Rows.mono h λu Ob he=>⟨aO a hy u,by rw[<-Act.put_comm a v u h2];exact he⟩
  |halt x w'=>
   cases x<;>simp only[Oper.upon] at h ⊢
   case panic u=>exact hQ _ _ _ h
 ·rename_i hw
  simp only[hw] at h;exact⟨aO a hy _,by rw[<-Act.put_comm a v undef h2];exact h⟩
def GF{i:Nat}{op:Oper}:∀{pd:CN} {l:List Nat} {Cl:aH->Prop},(l,Cl)∈pd->(l,Cl)∈iU i op pd\/(jE op l=true/\(i::l,Cl)∈iU i op pd)
 | [],_,_,h=>by cases h
 |(l',C')::r,l,Cl,h=>by
  simp only[iU];rcases jQ.1 h with h|h
  ·obtain⟨rfl,rfl⟩:=Prod.mk.inj h;cases hw:jE op l with
   |true=>exact .inr ⟨rfl,by simp⟩
   |false=>exact .inl dP
  ·rcases GF (i:=i) (op:=op) h with h|⟨h1,h2⟩
   ·left;cases jE op l'<;>exact WB _ h
   ·right;refine⟨h1,?_⟩;cases jE op l'<;>exact WB _ h2
def tO{i:Nat}{op:Oper}:∀{pd:CN} {p:List Nat×(aH->Prop)},p∈iU i op pd->∃l,(l,p.2)∈pd/\((p.1=l/\jE op l=false)\/(p.1=i::l/\jE op l=true))
 | [],p,h=>by cases h
 |(l',C')::r,p,h=>by
  simp only[iU] at h;cases hw:jE op l' with
  |true=>
   rw[hw] at h;rcases jQ.1 h with h|h
   ·subst h;exact⟨l',by simp,.inr ⟨rfl,hw⟩⟩
   ·obtain⟨l,h1,h2⟩:=tO h;exact⟨l,WB _ h1,h2⟩
  |false=>
   rw[hw] at h;rcases jQ.1 h with h|h
   ·subst h;exact⟨l',by simp,.inl ⟨rfl,hw⟩⟩
   ·obtain⟨l,h1,h2⟩:=tO h;exact⟨l,WB _ h1,h2⟩
def RY{op:Oper}{i:Nat}{l:List Nat}(h:∀e∈op.after,Region.binds .any e=true->e.on≠i):jE op (i::l)=jE op l:=by
 unfold jE;rw[Bool.eq_iff_iff,List.any_eq_true,List.any_eq_true]
 constructor
 ·rintro⟨e,he,hb⟩;simp only[tG] at hb;refine⟨e,he,?_⟩;simp only[tG];refine⟨hb.1,?_⟩;have gQ:=h e (by simpa using he) hb.1;have h2:=hb.2;simp only[mem] at h2;have:Nat.beq i e.on=false:=by
   cases hq:Nat.beq i e.on with
   |false=>rfl
   |true=>exact absurd (JP hq).symm gQ
  rw[this] at h2;exact h2
 ·rintro⟨e,he,hb⟩;simp only[tG] at hb;refine⟨e,he,?_⟩;simp only[tG];refine⟨hb.1,?_⟩;simp only[mem];cases Nat.beq i e.on with
  |true=>rfl
  |false=>exact hb.2
def Uv{op:Oper}{i:Nat}(h:∀e∈op.after,Region.binds .any e=true->e.on≠i):jE op [i]=false:=by
 rw[RY h];unfold jE;rw[List.any_eq_false];intro e he;simp[mem]
def Ps{i:Nat}{oi oj:Oper}(qU:∀e∈oj.after,Region.binds .any e=true->e.on≠i):∀(pd:CN),dO oj (iU i oi pd)=iU i oi (dO oj pd)
 | []=>rfl
 |(l,C)::r=>by
  have ih:=Ps (i:=i) (oi:=oi) qU r;simp only[iU,dO];cases h1:jE oi l with
  |true=>
   simp only[cond_true,dO,RY qU];cases h2:jE oj l with
   |true=>simpa using ih
   |false=>simp[iU,h1,ih]
  |false=>
   simp only[cond_false,dO];cases h2:jE oj l with
   |true=>simpa using ih
   |false=>simp[iU,h1,ih]
def Jl{P:Program}{eK:Array Oper}{Cl:aH->Prop}{Q:Exit->Act->aH->Prop}{i:Nat}{oi:Oper}{v:Value}(hi:eK[i]? =some oi)(hsel:∀(j:Nat) (o:Oper) cs b,eK[j]? =some o->o.op≠.select cs b)
  (hQ:∀c a w,Q (.panic c) (a.put oi.dst v) w->Q (.panic c) a w):
  ∀(f:Nat) (done:Array Bool) (pd:CN) (a:Act) (w:aH),
   (∀j oj,eK[j]? =some oj->j≠i->done.getD j true=false->(∀e∈oj.after,Region.binds .any e=true->e.on≠i)->oi.apart eK oj=true)->
   i∈Region.ready .any eK done->wH P eK Cl oi v a->Cl w->(∀p∈pd,p.2 w)->
   Wd P eK Q f (done.setIfInBounds i true) (([i],Cl)::iU i oi pd) (a.put oi.dst v) w->Wd P eK Q (f+1) done pd a w:=by
 intro f
 induction f with
 |zero=>
  intro done pd a w _ hr hy hC hp H;refine⟨λh=>(by rw[h] at hr;cases hr),λj hj oj Mi=>?_⟩
  by_cases FO:j=i
  ·subst FO;rw[hi] at Mi;cases Mi;exact hy.wpOp hi hC ⟨λp kh=>hp p (kD.1 kh).1,H.1,H.2⟩
  ·have:=ready_mono hj FO;rw[H.1] at this;cases this
 |succ f ih=>
  intro done pd a w hfree hr hy hC hp H;refine⟨λh=>(by rw[h] at hr;cases hr),λj hj oj Mi=>?_⟩
  by_cases FO:j=i
  ·subst FO;rw[hi] at Mi;cases Mi;refine hy.wpOp hi hC ⟨λp kh=>hp p (kD.1 kh).1,Wd_sub _ _ _ _ _ _ ?_ H⟩;intro p kh;obtain⟨h1,h2⟩:=kD.1 kh;obtain⟨l,Cl'⟩:=p;rcases GF (i:=j) (op:=oi) h1 with h3|⟨h3,_⟩
   ·exact WB _ h3
   ·rw[h2] at h3;cases h3
  ·obtain⟨hjun,oj',hoj',rI⟩:=mem_ready.1 hj;rw[Mi] at hoj';cases hoj';have h1:=H.2 j (ready_mono hj FO) oj Mi;have mj:∀e∈oj.after,Region.binds .any e=true->e.on≠i:=λe he hb heq=>by
    have h1:=rI e he hb;have h0:=(mem_ready.1 hr).1;rw[heq] at h1;rcases Nat.lt_or_ge i done.size with h'|h'
    ·simp[h'] at h0 h1;rw[h0] at h1;cases h1
    ·simp[Array.getElem?_eq_none h'] at h1
   have h2:=wpOp_putC Mi (hfree j oj Mi FO hjun mj) (λcs b=>hsel i oi cs b hi) (λcs b=>hsel j oj cs b Mi) hQ hy h1;have hfree':∀k ok,eK[k]? =some ok->k≠i->(done.setIfInBounds j true).getD k true=false->
     (∀e∈ok.after,Region.binds .any e=true->e.on≠i)->oi.apart eK ok=true:=λk ok hk hki Er qU=>by
    refine hfree k ok hk hki ?_ qU
    by_cases hjk:j=k
    ·subst hjk;exact hjun
    ·rw[getD_set_ne true hjk] at Er;exact Er
   have kh:dO oj (([i],Cl)::iU i oi pd)=([i],Cl)::iU i oi (dO oj pd):=by simp only[dO,Uv mj,cond_false];rw[Ps mj]
   rw[kh] at h2;refine wpOp_mono (λa' w' h3=>?_) h2;obtain⟨Eo,hcl,hW⟩:=h3;have hCw:Cl w':=hcl ([i],Cl) dP;have hpd:∀p∈dO oj pd,p.2 w':=λp hpp=>by
    obtain⟨l,Cl'⟩:=p;rcases GF (i:=i) (op:=oi) hpp with h4|⟨_,h4⟩
    ·exact hcl _ (WB _ h4)
    ·exact hcl (i::l,Cl') (WB _ h4)
   refine⟨hpd,ih (done.setIfInBounds j true) (dO oj pd) a' w' hfree' (ready_mono hr (Ne.symm FO)) Eo hCw hpd ?_⟩;rw[Array.setIfInBounds_comm _ _ FO];exact hW
def VA:∀{pd:CN} {w:aH} {G:Prop},Bp pd w G->(∀p∈pd,p.2 w)/\G
 | [],_,_,h=>⟨(λp hp=>by cases hp),h⟩
 |(l,C)::r,w,G,h=>by
  obtain⟨h1,h2⟩:=h;obtain⟨h3,h4⟩:=VA h2;exact⟨λp hp=>by
   rcases jQ.1 hp with hp|hp
   ·subst hp;exact h1
   ·exact h3 p hp,h4⟩
def du{P:Program}{n:Nat}{bN o:mV}{a:Act}(hv:mA n bN o a)(op:Oper){w:aH}{K:Value->Option (aH->Prop)->Prop}(h:floatD P bN o op.op w K):
  ∃v Cv,K v Cv/\match Cv with
   |some C=>C w/\∀w',C w'->(execOp a.eval op).run P w'=.ok (.value v) w'
   |none=>∀w',(execOp a.eval op).run P w'=.ok (.value v) w':=by
 have other:Yb P bN o op.op (λv=>K v none)->∃v Cv,K v Cv/\match Cv with
   |some C=>C w/\∀w',C w'->(execOp a.eval op).run P w'=.ok (.value v) w'
   |none=>∀w',(execOp a.eval op).run P w'=.ok (.value v) w':=λhp=>by
  obtain⟨v,hK,hr⟩:=Ke hv op hp;exact⟨v,none,hK,hr⟩
 obtain⟨dst,op,ty,pos,after,guard⟩:=op;cases op
 case load t x=>
  obtain⟨v,hx,h1⟩:=aV h;cases v<;>try (exact h1.elim)
  obtain⟨ad,rfl,h2⟩:=pO h1;obtain⟨v,C,hK,hC,hr⟩:=UY h2;exact⟨v,some C,hK,hC,λw' hw'=>by simp[execOp,hv.rd hx,Instr.loadAt,Instr.sureAddr,hr w' hw']⟩
 all_goals exact other h
def yC{f:Nat->Bool}:∀{n:Nat},Hx f n=true->∀i,i<n->f i=true
 |0,_,i,hi=>absurd hi (Nat.not_lt_zero _)
 |n+1,h,i,hi=>by
  simp only[Hx,tG] at h;rcases Nat.lt_or_ge i n with h1|h1
  ·exact yC h.2 i h1
  ·have:i=n:=aB;subst this;exact h.1
def rL(n m:Nat):Array Bool:=(Array.range n).map λi=>Nat.testBit m i
def Kv{n m j:Nat}{d:Bool}:(rL n m).getD j d=if j<n then Nat.testBit m j else d:=by
 unfold rL
 by_cases h:j<n
 ·simp[h]
 ·simp[h]
def Ku(n:Nat):Array.replicate n false=rL n 0:=by
 apply Array.ext
 ·simp[rL]
 ·intro i h1 h2;simp[rL]
def nQ(m i j:Nat):Nat.testBit (Nat.lor m (Nat.shiftLeft 1 i)) j=(Nat.testBit m j ||decide (i=j)):=by
 show Nat.testBit (m |||1<<<i) j=_;rw[Nat.testBit_or,Nat.testBit_shiftLeft];congr 1
 by_cases TN:i=j
 ·subst TN;simp
 ·by_cases LV:i<=j
  ·obtain⟨k,hk⟩:∃k,j-i=k+1:=⟨j-i-1,aB⟩;rw[hk];simp[TN,Nat.testBit_succ]
  ·simp[TN,LV]
def Ao(n m i:Nat):(rL n m).setIfInBounds i true=rL n (Nat.lor m (Nat.shiftLeft 1 i)):=by
 apply Array.ext_getElem?;intro j;rw[Array.getElem?_setIfInBounds]
 by_cases TN:i=j
 ·subst TN
  by_cases hn:i<n
  ·have:=nQ m i i;simp only[rL,Array.size_map,Array.size_range,hn,if_true,Array.getElem?_map,Array.getElem?_range,Option.map_some,this];simp
  ·simp[rL,hn]
 ·by_cases hn:j<n
  ·have:=nQ m i j;simp only[rL,Array.getElem?_map,Array.getElem?_range,hn,if_true,Option.map_some,this,TN,if_false];simp
  ·simp[rL,hn,TN]
def uP{eK:Array Oper}{m j:Nat}:j∈Region.ready .any eK (rL eK.size m)↔sX eK m j=true:=by
 rw[mem_ready];unfold sX Uk;cases ho:eK[j]? with
 |none=>simp
 |some o=>
  have cD:j<eK.size:=(Array.getElem?_eq_some_iff.1 ho).1;simp only[Kv,cD,if_true,Option.some.injEq,exists_eq_left',tG,Bool.not_eq_true',List.all_eq_true,Bool.or_eq_true]
  constructor
  ·rintro⟨h1,h2⟩;refine⟨h1,λe he=>?_⟩;cases hb:Region.binds .any e
   ·exact .inl rfl
   ·right;have:=h2 e (by simpa using he) hb
    split at this
    ·rename_i hl;exact⟨by simpa using hl,this⟩
    ·cases this
  ·rintro⟨h1,h2⟩;refine⟨h1,λe he hb=>?_⟩;rcases h2 e (by simpa using he) with h|⟨h,h'⟩
   ·rw[hb] at h;cases h
   ·rw[if_pos (by simpa using h)];exact h'
def ry{eK:Array Oper}{m i:Nat}{oi:Oper}(h:freeB eK m i oi=true)(j:Nat)(oj:Oper)
  (hj:eK[j]? =some oj) (gQ:j≠i) (Er:(rL eK.size m).getD j true=false) (qU:∀e∈oj.after,Region.binds .any e=true->e.on≠i):
  oi.apart eK oj=true:=by
 have cD:j<eK.size:=(Array.getElem?_eq_some_iff.1 hj).1;have h1:=yC h j cD;rw[Kv,if_pos cD] at Er;simp only[hj,Bool.or_eq_true,Er,Bool.false_eq_true,or_false] at h1;rcases h1 with h1|h1|h1
 ·exact absurd (JP h1) gQ
 ·rw[List.any_eq_true] at h1;obtain⟨e,he,hb⟩:=h1;simp only[tG] at hb;exact absurd (JP hb.2) (qU e (by simpa using he) hb.1)
 ·exact h1
def mainStep(C:Ctx)(eK:Array Oper)(o:mV)(K:WQ mV)(i:Nat)(p:MP)(m:Nat)(pd:CN)(bN:mV)(w:aH):Prop:=
 nX eK[i]? λop=>NF eK op.guard bN o
  (λgD=>effD C.P C.env gD o op.op op.type w λv w'=>Bp (dO op pd) w' (WA C.n op.dst v o gD λiQ=>uU C eK o K p true (Nat.lor m (Nat.shiftLeft 1 i)) (dO op pd) iQ w'))
  (λgD=>Bp (dO op pd) w (WA C.n op.dst undef o gD λiQ=>uU C eK o K p true (Nat.lor m (Nat.shiftLeft 1 i)) (dO op pd) iQ w))
def aAd{P:Program}{eK:Array Oper}{Q:Exit->Act->aH->Prop}{f:Nat}{done:Array Bool}{l:List Nat}{pd:CN}{a:Act}{w:aH}
  (h:Wd P eK Q f done pd a w):Wd P eK Q f done ((l,λ_=>True)::pd) a w:=by
 suffices H:∀(f:Nat) (done:Array Bool) (pd iq:CN) (a:Act) (w:aH),(∀p∈iq,p∈pd\/∀w,p.2 w)->Wd P eK Q f done pd a w->Wd P eK Q f done iq a w by
  refine H f done pd _ a w (λp hp=>?_) h;rcases jQ.1 hp with rfl|hp
  ·exact .inr λ_=>trivial
  ·exact .inl hp
 clear h;intro f
 induction f with
 |zero=>exactλdone pd iq a w _ h=>h
 |succ f ih=>
  intro done pd iq a w hs h;refine⟨h.1,λj hj oj Mi=>wpOp_mono (λa' w' h'=>?_) (h.2 j hj oj Mi)⟩;have ML:∀p∈dO oj iq,p∈dO oj pd\/∀w,p.2 w:=λp hp=>by
   obtain⟨h1,h2⟩:=kD.1 hp;rcases hs p h1 with h3|h3
   ·exact .inl (kD.2 ⟨h3,h2⟩)
   ·exact .inr h3
  exact⟨λp hp=>(ML p hp).elim (h'.1 p) (λh=>h w'),ih _ _ _ a' w' ML h'.2⟩
def drawP_mn{C:Ctx}{eK:Array Oper}{o:mV}{K:mV->aH->Prop}{i:Nat}{p r:MP}{head:Bool}{m:Nat}{pd:CN}{bN:mV}{w:aH}(h:uU C eK o K (.mn i p r) head m pd bN w):
  (!head ||(sX eK m i && covered eK m (.mn i p r)))=true/\mainStep C eK o K i p m pd bN w/\(r≠.no->uU C eK o K r false m pd bN w):=by
 have hc:(!head ||(sX eK m i && covered eK m (.mn i p r)))=true:=by
  cases hc:(!head ||(sX eK m i && covered eK m (.mn i p r))) with
  |true=>rfl
  |false=>cases r<;>simp only[uU,hc] at h<;>exact h.elim
 refine⟨hc,?_⟩;cases r<;>simp only[uU,hc,cond_true] at h
 case no=>exact⟨h,λh'=>absurd rfl h'⟩
 all_goals exact⟨h.1,λ_=>by simpa only[uU] using h.2⟩
def dx{C:Ctx}(MB:RV C.P C.env){eK:Array Oper}(hns:Region.noSelect eK=true){o:mV}{K:mV->aH->Prop}{Q:Exit->Act->aH->Prop}(hQ:∀bN a w,mA C.n bN o a->K bN w->Q .normal a w)
  (hQp:∀c a w,¬Q (.panic c) a w):
  ∀(p:MP) (head:Bool) (m:Nat) (pd:CN) (bN:mV) (a:Act) (w:aH) (f:Nat),p.depth<=f->mA C.n bN o a->(∀q∈pd,q.2 w)->uU C eK o K p head m pd bN w->
   (head=true->Wd C.P eK Q f (rL eK.size m) pd a w)/\
   (∀j,KG p j=true->∀f',f=f'+1->∀oj,eK[j]? =some oj->wpOp C.P eK Q j (λa' w'=>(∀q∈dO oj pd,q.2 w')/\Wd C.P eK Q f' (rL eK.size (Nat.lor m (Nat.shiftLeft 1 j))) (dO oj pd) a' w') a w):=by
 intro p
 induction p with
 |dX=>
  intro head m pd bN a w f hd hv hp h;refine⟨λ_=>?_,λj hj=>by cases hj⟩;simp only[uU] at h;cases hc:covered eK m .no with
  |false=>rw[hc] at h;exact h.elim
  |true=>
   rw[hc] at h;have h0:Region.ready .any eK (rL eK.size m)=[]:=by
    cases hr:Region.ready .any eK (rL eK.size m) with
    |nil=>rfl
    |cons j r=>
     have hj:j∈Region.ready .any eK (rL eK.size m):=by rw[hr];simp
     have BX:=uP.1 hj;have cD:j<eK.size:=by
      unfold sX at BX;cases ho:eK[j]? with
      |none=>rw[ho] at BX;cases BX
      |some _=>exact(Array.getElem?_eq_some_iff.1 ho).1
     have:=yC hc j cD;simp[KG,BX] at this
   cases f with
   |zero=>exact⟨h0,hQ bN a w hv h⟩
   |succ f=>exact⟨λ_=>hQ bN a w hv h,λj hj=>by rw[h0] at hj;cases hj⟩
 |no=>intro head m pd bN a w f hd hv hp h;exact⟨λhh=>by subst hh;exact h.elim,λj hj=>by cases hj⟩
 |fl i p ih=>
  intro head m pd bN a w f hd hv hp h;refine⟨λ_=>?_,λj hj=>by cases hj⟩;simp only[MP.depth] at hd;obtain⟨f,rfl⟩:∃g,f=g+1:=⟨f-1,aB⟩;simp only[uU] at h;obtain⟨op,hio,h⟩:=aV h;cases hc:(sX eK m i && freeB eK m i op) with
  |false=>rw[hc] at h;exact h.elim
  |true=>
   rw[hc] at h;simp only[cond_true] at h;simp only[tG] at hc;have hir:=uP.2 hc.1;have hfr:=ry hc.2;have goOn:∀(iq:CN) (iQ:mV) (a':Act),mA C.n iQ o a'->(∀q∈iq,q.2 w)->uU C eK o K p true (Nat.lor m (Nat.shiftLeft 1 i)) iq iQ w->
     Wd C.P eK Q f ((rL eK.size m).setIfInBounds i true) iq a' w:=λiq iQ a' kI hp' h'=>by
    rw[Ao];exact(ih true _ iq iQ a' w f aB kI hp' h').1 rfl
   ·rcases EV hv h with⟨gD,kI,hw,h1⟩|⟨gD,kI,hw,h1⟩
    ·obtain⟨v,Cv,h2,hr⟩:=du kI op h1;obtain⟨iQ,h3,h4⟩:=xQ h2;cases Cv with
     |some Cl=>
      obtain⟨hC,hr⟩:=hr;refine Jl (Cl:=Cl) hio (Region.noSelect_spec hns) (λc a w hq=>absurd hq (hQp _ _ _)) f _ pd a w hfr hir (.inl ⟨hw,hr⟩) hC hp ?_;refine goOn _ iQ _ (h4 a kI) ?_ h3;intro p kh;rcases jQ.1 kh with rfl|kh
      ·exact hC
      ·obtain⟨l,h5,_⟩:=tO kh;exact hp (l,p.2) h5
     |none=>
      refine Jl (Cl:=λ_=>True) hio (Region.noSelect_spec hns) (λc a w hq=>absurd hq (hQp _ _ _)) f _ pd a w hfr hir (.inl ⟨hw,λw' _=>hr w'⟩) trivial hp ?_;exact aAd (goOn _ iQ _ (h4 a kI) (λp kh=>by
       obtain⟨l,h5,_⟩:=tO kh;exact hp (l,p.2) h5) h3)
    ·obtain⟨iQ,h3,h4⟩:=xQ h1;refine Jl (Cl:=λ_=>True) (v:=undef) hio (Region.noSelect_spec hns) (λc a w hq=>absurd hq (hQp _ _ _)) f _ pd a w hfr hir (.inr ⟨hw,rfl⟩) trivial hp ?_;exact aAd (goOn _ iQ _ (h4 a kI) (λp kh=>by
      obtain⟨l,h5,_⟩:=tO kh;exact hp (l,p.2) h5) h3)
 |mn i p r ihp ihr=>
  intro head m pd bN a w f hd hv hp h;have hd1:p.depth+1<=f/\r.depth<=f:=by
   simp only[MP.depth] at hd;cases hb:Nat.ble (p.depth+1) r.depth with
   |true=>rw[hb] at hd;have:=Nat.le_of_ble_eq_true hb;simp only[cond_true] at hd;omega
   |false=>
    rw[hb] at hd;have:¬(p.depth+1<=r.depth):=λh=>by rw[Nat.ble_eq_true_of_le h] at hb;cases hb
    simp only[cond_false] at hd;omega
  obtain⟨hc,two⟩:=drawP_mn h
  ·skip
   have second:∀j,KG (.mn i p r) j=true->∀f',f=f'+1->∀oj,eK[j]? =some oj->wpOp C.P eK Q j (λa' w'=>(∀q∈dO oj pd,q.2 w')/\Wd C.P eK Q f' (rL eK.size (Nat.lor m (Nat.shiftLeft 1 j))) (dO oj pd) a' w') a w:=by
    intro j hj f' hf oj Mi;simp only[KG,Bool.or_eq_true] at hj
    by_cases FO:i=j
    ·subst FO;obtain⟨op,Gf,h2⟩:=aV two.1;rw[Mi] at Gf;cases Gf;unfold wpOp;simp only[Mi];have goOn:∀(iQ:mV) (a':Act) (w':aH),mA C.n iQ o a'->(∀q∈dO oj pd,q.2 w')->uU C eK o K p true (Nat.lor m (Nat.shiftLeft 1 i)) (dO oj pd) iQ w'->
       Wd C.P eK Q f' (rL eK.size (Nat.lor m (Nat.shiftLeft 1 i))) (dO oj pd) a' w':=λiQ a' w' kI hp' h'=>
      (ihp true _ _ iQ a' w' f' aB kI hp' h').1 rfl
     rcases EV hv h2 with⟨gD,kI,hw,h3⟩|⟨gD,kI,hw,h3⟩
     ·rw[if_pos hw];refine .inl (Qf MB kI oj h3 λv w' h4=>?_);obtain⟨h5,h6⟩:=VA h4;obtain⟨iQ,h7,h8⟩:=xQ h6;exact⟨h5,goOn iQ _ w' (h8 a kI) h5 h7⟩
     ·rw[if_neg (by rw[hw];simp)];obtain⟨h5,h6⟩:=VA h3;obtain⟨iQ,h7,h8⟩:=xQ h6;exact⟨h5,goOn iQ _ w (h8 a kI) h5 h7⟩
    ·have hjr:KG r j=true:=hj.resolve_left λh=>FO (JP h);have hrn:r≠.no:=by rintro rfl;cases hjr
     exact(ihr false m pd bN a w f hd1.2 hv hp (two.2 hrn)).2 j hjr f' hf oj Mi
   refine⟨λhh=>?_,second⟩;subst hh;simp only[Bool.not_true,Bool.false_or,tG] at hc;obtain⟨f,rfl⟩:∃g,f=g+1:=⟨f-1,aB⟩;refine⟨λh0=>?_,λj hj oj Mi=>?_⟩
   ·have:=uP.2 hc.1;rw[h0] at this;cases this
   ·have BX:=uP.1 hj;have cD:j<eK.size:=(Array.getElem?_eq_some_iff.1 Mi).1;have:=yC hc.2 j cD;simp only[BX,Bool.not_true,Bool.or_false] at this;rw[Ao];exact second j this f rfl oj Mi
def Ci{n:Nat}{o:mV}{l:List Oper}(h:KC n o l=true):∀op∈l,∀d,op.dst=some d->d<n/\mI o d=none:=by
 induction l with
 |nil=>intro op hm;cases hm
 |cons op r ih=>
  intro op' hm d hd;simp only[KC,tG] at h;rcases jQ.1 hm with he|hm
  ·subst he;have h1:=h.1;rw[hd] at h1;simp only[tG] at h1;refine⟨by simpa using h1.1,?_⟩;cases hl:mI o d with
   |none=>rfl
   |some v=>rw[hl] at h1;simp at h1
  ·exact ih h.2 op' hm d hd
def mA.lq{n:Nat}{bN o:mV}{a:Act}(h:mA n bN o a){dst:Option Nat}(hd:∀d,dst=some d->d<n/\mI o d=none)(v:Value):mA n (Den.lq dst v bN) o (a.put dst v):=by
 cases dst with
 |none=>exact h
 |some d=>
  obtain⟨h1,h2⟩:=hd d rfl;have hp:WA n (some d) v o bN λc=>c=(d,v)::bN:=by simp only[WA];rw[show Nat.blt d n=true by simpa using h1,h2];trivial
  obtain⟨c,rfl,hc⟩:=xQ hp;exact hc a h
def mA.outerOf{n:Nat}{o:mV}{a:Act}(hs:a.tmps.size=n)(hdf:a.defers=[])(h:∀t v,mI o t=some v->a.tmps.getD t undef=v):mA n [] o a:=⟨hs,λ_ _ h=>(by cases h),h,hdf⟩
def uN(m:Nat):Nat->Nat
 |0=>0
 |n+1=>uN m n+cond (Nat.testBit m n) 0 1
def By{m m':Nat}:∀{n},(∀j,j<n->Nat.testBit m' j=Nat.testBit m j)->uN m' n=uN m n
 |0,_=>rfl
 |n+1,h=>by simp only[uN];rw[By λj hj=>h j aB,h n aB]
def Jt{m i:Nat}(hi:Nat.testBit m i=false):∀{n},i<n->uN (Nat.lor m (Nat.shiftLeft 1 i)) n+1=uN m n
 |n+1,h=>by
  simp only[uN]
  by_cases he:i=n
  ·subst he;rw[By (m:=m) λj hj=>by rw[nQ];simp;omega,nQ,hi];simp
  ·have:=Jt hi (n:=n) aB;rw[nQ];simp only[he,decide_false,Bool.or_false];omega
def Bx{m:Nat}:∀{n},uN m n=0->∀j,j<n->Nat.testBit m j=true
 |n+1,h,j,hj=>by
  simp only[uN] at h;cases ht:Nat.testBit m n with
  |false=>rw[ht] at h;simp at h
  |true=>
   by_cases he:j=n
   ·subst he;exact ht
   ·rw[ht] at h;exact Bx (n:=n) (by simpa using h) j aB
def Bz:∀n,uN 0 n=n
 |0=>rfl
 |n+1=>by simp[uN,Bz n]
def qw{eK:Array Oper}(hd:Fp eK=true){m:Nat}:∀j,j<eK.size->Nat.testBit m j=false->∃i,sX eK m i=true:=by
 intro j
 induction j using Nat.strongRecOn with
 |ind j ih=>
  intro hj ht;have hdj:=yC hd j hj;obtain⟨op,Gf⟩:∃op,eK[j]? =some op:=⟨eK[j],Array.getElem?_eq_getElem hj⟩;rw[Gf] at hdj;cases hr:sX eK m j with
  |true=>exact⟨j,hr⟩
  |false=>
   unfold sX at hr;rw[Gf] at hr;simp only[ht,Bool.not_false,Bool.true_and,Uk] at hr;rw[List.all_eq_false] at hr;obtain⟨e,he,hr⟩:=hr;have cD:=List.all_eq_true.1 hdj e he;simp only[Bool.or_eq_true,tG,not_or,not_and,Bool.not_eq_true] at hr;have hb:(!Region.binds .any e)=false:=by
    cases hb:(!Region.binds .any e) with
    |false=>rfl
    |true=>rw[hb] at hr;simp at hr
   rw[hb] at hr cD;have HC:e.on<j:=by simpa using cD
   have:Nat.testBit m e.on=false:=by
    cases htb:Nat.testBit m e.on with
    |false=>rfl
    |true=>
     have:Nat.blt e.on eK.size=true:=by simp;omega
     rw[this,htb] at hr;simp at hr
   exact ih e.on HC aB this
def YJ{C:Ctx}(MB:RV C.P C.env){eK:Array Oper}{i0 o:mV}{K:mV->aH->Prop}{Q:Exit->Act->aH->Prop}(hQ:∀bN a w,mA C.n bN o a->K bN w->Q .normal a w)
  (hf:KC C.n o eK.toList=true) (ZC:KC C.n i0 eK.toList=true) (hd:Fp eK=true):
  ∀(k m:Nat) (bN:mV) (a:Act) (w:aH),uN m eK.size=k->mA C.n bN i0 a->(∀t v,mI o t=some v->a.tmps.getD t undef=v)->Ib C eK i0 K k m bN w->wpAny C.P .any eK Q k (rL eK.size m) a w
 |0,m,bN,a,w,hu,hv,ho,h=>by
  refine⟨?_,hQ bN a w ⟨hv.size,hv.bN,ho,hv.wc⟩ h⟩;rw[List.eq_nil_iff_forall_not_mem];intro j hj;have hr:=uP.1 hj;unfold sX at hr;cases Gf:eK[j]? with
  |none=>rw[Gf] at hr;cases hr
  |some op=>have cD:j<eK.size:=(Array.getElem?_eq_some_iff.1 Gf).1;rw[Gf] at hr;rw[Bx hu j cD] at hr;simp at hr
 |k+1,m,bN,a,w,hu,hv,ho,h=>by
  refine⟨λh0=>?_,λi hi=>?_⟩
  ·exfalso;have:∃j,j<eK.size/\Nat.testBit m j=false:=by
    apply Classical.byContradiction;intro hn;have rI:∀j,j<eK.size->Nat.testBit m j=true:=λj hj=>by
     cases ht:Nat.testBit m j with
     |true=>rfl
     |false=>exact absurd ⟨j,hj,ht⟩ hn
    have:uN m eK.size=0:=by
     clear hu h hv h0 hn;generalize eK.size=n at rI
     induction n with
     |zero=>rfl
     |succ n ih=>simp only[uN];rw[ih λj hj=>rI j aB,rI n aB];rfl
    omega
   obtain⟨j,hj,ht⟩:=this;obtain⟨i,hi⟩:=qw hd j hj ht;have:=uP.2 hi;rw[h0] at this;cases this
  ·have hr:=uP.1 hi;have hrr:=hr;unfold sX at hrr;cases Gf:eK[i]? with
   |none=>rw[Gf] at hrr;cases hrr
   |some op=>
    rw[Gf] at hrr;have cD:i<eK.size:=(Array.getElem?_eq_some_iff.1 Gf).1;have ht:Nat.testBit m i=false:=by simp only[tG] at hrr;simpa using hrr.1
    have hu':uN (Nat.lor m (Nat.shiftLeft 1 i)) eK.size=k:=by have:=Jt ht cD;omega
    have gG:op∈eK.toList:=by have:=Array.mem_of_getElem? Gf;simpa using this
    have hd1:=Ci hf op gG;have hd2:=Ci ZC op gG;unfold wpOp;rw[Gf,Ao];have next:∀(gD:mV) (v:Value) (w':aH),mA C.n gD i0 a->Ib C eK i0 K k (Nat.lor m (Nat.shiftLeft 1 i)) (lq op.dst v gD) w'->
      wpAny C.P .any eK Q k (rL eK.size (Nat.lor m (Nat.shiftLeft 1 i))) (a.put op.dst v) w':=λgD v w' kI h'=>
     YJ MB hQ hf ZC hd k _ _ _ w' hu' (kI.lq hd2 v) (((mA.outerOf hv.size hv.wc ho).lq hd1 v).o) h'
    rcases EV hv (h i op Gf hr) with⟨gD,kI,hw,h1⟩|⟨gD,kI,hw,h1⟩
    ·simp only[hw,if_true];exact .inl (Zi MB kI op h1 λv w' h2=>next gD v w' kI h2)
    ·simp only[hw];exact next gD undef w kI h1
def MU:Code->Bool
 | .region _ eK _=>Region.noSelect eK
 | .seq x y=>MU x && MU y
 | .cond _ x y=>MU x && MU y
 | .block _ c=>MU c
 | .loop c=>MU c
 |_=>true
def D_sound{C:Ctx}(hm:C.P.follows .mixedOrders=true)(MB:RV C.P C.env):∀(c:Code) (MH:Ann) (o:mV) (Q:Exit->WQ mV) (bN:mV) (w:aH) (a:Act) (Q':Exit->WQ Act),
  MU c=true->D C c MH o Q bN w->mA C.n bN o a->(∀e gD a' w',mA C.n gD o a'->Q e gD w'->Q' e a' w')->(∀ch a w,¬Q' (.panic ch) a w)->c.wp C.P Q' a w:=by
 intro c
 induction c with
 |skip=>intro MH o Q bN w a Q' _ h hv hQ _;exact wp_skip (hQ _ _ _ _ hv h)
 |region id eK draw=>
  intro MH o Q bN w a Q' hs h hv hQ hp;simp only[D] at h;cases draw with
  |false=>exact wp_region_list (UR MB (λbN a w hv h=>hQ _ _ _ _ hv h) _ _ _ _ hv h)
  |true=>
   cases MH<;>try (exact h.elim)
   case o LS=>
    simp only[cond_true] at h;cases hb:(KC C.n o eK.toList && KC C.n (Hp LS bN o) eK.toList && Fp eK) with
    |false=>rw[hb] at h;exact h.elim
    |true=>
     rw[hb] at h;simp only[tG] at hb;have hpick:∀(l:List Nat) t v,mI (Hp l bN o) t=some v->a.tmps.getD t undef=v:=by
      intro l
      induction l with
      |nil=>intro t v ht;cases ht
      |cons s r ih=>
       intro t v ht;simp only[Hp] at ht;cases hr:rdT bN o s with
       |none=>rw[hr] at ht;exact ih t v ht
       |some u=>
        rw[hr] at ht;simp only[mI] at ht;cases hbq:Nat.beq s t with
        |false=>rw[hbq] at ht;exact ih t v ht
        |true=>rw[hbq] at ht;have:s=t:=JP hbq;subst this;cases ht;exact HT hv hr
     refine wp_region_any hm ?_;rw[Ku];exact YJ MB (λbN a w hv h=>hQ _ _ _ _ hv h) hb.1.1 hb.1.2 hb.2 eK.size 0 [] _ _ (Bz _) ⟨hv.size,λ_ _ h=>(by cases h),hpick LS,hv.wc⟩ hv.o h.out
   rename_i p
   simp only[cond_true] at h;cases hb:Nat.ble p.depth eK.size with
   |false=>rw[hb] at h;exact h.elim
   |true=>rw[hb] at h;refine wp_region_any hm ?_;rw[Ku];exact Wd_any _ _ [] _ _ ((dx MB hs (λbN a w hv h=>hQ _ _ _ _ hv h) hp p true 0 [] bN a _ _ (Nat.le_of_ble_eq_true hb) hv (λp hp=>by cases hp) h).1 rfl)
 |seq x y ihx ihy=>
  intro MH o Q bN w a Q' hs h hv hQ hp;simp only[MU,tG] at hs;have plain:∀ax ay,D C x ax o (Xw (D C y ay o Q) Q) bN w->(Code.seq x y).wp C.P Q' a w:=λax ay h=>by
   refine wp_seq (ihx ax o _ bN w a _ hs.1 h hv ?_ ?_)
   ·intro e gD a' w' kI h';cases e with
    |normal=>exact ihy ay o Q gD w' a' Q' hs.2 h' kI hQ hp
    |exit i=>exact hQ _ _ _ _ kI h'
    |goto l=>exact hQ _ _ _ _ kI h'
    |ret=>exact hQ _ _ _ _ kI h'
    |panic ch=>exact hQ _ _ _ _ kI h'
    |outgrown=>exact hQ _ _ _ _ kI h'
   ·exactλch a w h=>hp ch a w h
  cases MH with
  |n=>exact plain _ _ h
  |s ax ay=>exact plain _ _ h
  |j oW drop ax ay=>
   simp only[D] at h;have h1:=h (λt w=>∀a,mA C.n (Mv oW t++kC bN drop) o a->y.wp C.P Q' a w) (λt w ht a' kI=>ihy ay o Q _ w a' Q' hs.2 ht kI hQ hp);have hvx:mA C.n (Hr bN drop) (kC bN drop++o) a:=⟨hv.size,λt v ht=>hv.bN t v (UW drop t bN v ht).2,hv.outer drop,hv.wc⟩;have eJ:∀gD a',mA C.n gD (kC bN drop++o) a'->mA C.n (gD++kC bN drop) o a':=λgD a' kI=>by
    refine⟨kI.size,?_,?_,kI.wc⟩
    ·intro t v ht;rw[kP] at ht;cases hl:mI gD t with
     |some u=>rw[hl] at ht;simp at ht;subst ht;exact kI.bN t _ hl
     |none=>rw[hl] at ht;simp only at ht;exact kI.o t v (by rw[kP,ht])
    ·intro t v ht;cases hl:mI (kC bN drop) t with
     |none=>exact kI.o t v (by rw[kP,hl];exact ht)
     |some u=>
      have h2:=kI.o t u (by rw[kP,hl]);rw[KI] at hl;cases hmm:mem drop t with
      |true=>rw[hmm] at hl;cases hl
      |false=>rw[hmm] at hl;have e1:=hv.bN t u hl;have e2:=hv.o t v ht;rw[h2,<-e1,e2]
   refine wp_seq (ihx ax _ _ (Hr bN drop) w a _ hs.1 h1 hvx ?_ ?_)
   ·intro e gD a' w' kI h';cases e with
    |normal=>
     obtain⟨t,hK,ht⟩:=PO kI h';refine hK a' ⟨kI.size,?_,(eJ gD a' kI).o,kI.wc⟩;intro i v hi;rw[kP] at hi;cases hl:mI (Mv oW t) i with
     |some u=>rw[hl] at hi;simp at hi;subst hi;exact ht i _ hl
     |none=>rw[hl] at hi;simp only at hi;exact kI.o i v (by rw[kP,hi])
    |exit i=>exact hQ _ _ _ _ (eJ _ _ kI) h'
    |goto l=>exact hQ _ _ _ _ (eJ _ _ kI) h'
    |ret=>exact hQ _ _ _ _ (eJ _ _ kI) h'
    |panic ch=>exact hQ _ _ _ _ (eJ _ _ kI) h'
    |outgrown=>exact hQ _ _ _ _ (eJ _ _ kI) h'
   ·exactλch a w h=>hp ch a w h
  |c _ _=>exact h.elim
  |b _=>exact h.elim
  |l _ _ _=>exact h.elim
  |r _=>exact h.elim
  |o _=>exact h.elim
 |cond c x y ihx ihy=>
  intro MH o Q bN w a Q' hs h hv hQ hp;simp only[MU,tG] at hs;have plain:∀ax ay,nX (rd bN o c) (λv=>condD v (D C x ax o Q bN w) (D C y ay o Q bN w))->(Code.cond c x y).wp C.P Q' a w:=λax ay h=>by
   obtain⟨v,hx,h1⟩:=aV h;cases v<;>try (exact h1.elim)
   rename_i t
   refine wp_cond (t:=t) (hv.rd hx) ?_;cases t with
   |true=>exact ihx ax o Q bN w a Q' hs.1 h1 hv hQ hp
   |false=>exact ihy ay o Q bN w a Q' hs.2 h1 hv hQ hp
  cases MH with
  |n=>exact plain _ _ h
  |c ax ay=>exact plain _ _ h
  |s _ _=>exact h.elim
  |b _=>exact h.elim
  |l _ _ _=>exact h.elim
  |j _ _ _ _=>exact h.elim
  |r _=>exact h.elim
  |o _=>exact h.elim
 |block id c ih=>
  intro MH o Q bN w a Q' hs h hv hQ hp;have plain:∀ax,D C c ax o (Tm id Q) bN w->(Code.block id c).wp C.P Q' a w:=λax h=>by
   refine wp_block (ih ax o _ bN w a _ hs h hv ?_ ?_)
   ·intro e gD a' w' kI h';cases e with
    |exit i=>
     simp only[Tm] at h';simp only[Exit.inBlock];cases hb:Nat.beq i id with
     |true=>rw[hb] at h';rw[if_pos (JP hb)];exact hQ _ _ _ _ kI h'
     |false=>rw[hb] at h';rw[if_neg (Nat.ne_of_beq_eq_false hb)];exact hQ _ _ _ _ kI h'
    |normal=>exact hQ _ _ _ _ kI h'
    |goto l=>exact hQ _ _ _ _ kI h'
    |ret=>exact hQ _ _ _ _ kI h'
    |panic ch=>exact hQ _ _ _ _ kI h'
    |outgrown=>exact hQ _ _ _ _ kI h'
   ·exactλch a w h=>hp ch a w h
  cases MH with
  |n=>exact plain _ h
  |b ax=>exact plain _ h
  |s _ _=>exact h.elim
  |c _ _=>exact h.elim
  |l _ _ _=>exact h.elim
  |j _ _ _ _=>exact h.elim
  |r _=>exact h.elim
  |o _=>exact h.elim
 |loop c ih=>
  intro MH o Q bN w a Q' hs h hv hQ hp;cases MH with
  |l oW drop ax=>
   simp only[D] at h;have hbase:∀a',mA C.n [] (kC bN drop++o) a'->∀t v,mI o t=some v->a'.tmps.getD t undef=v:=λa' kI t v ht=>by
    cases hl:mI (kC bN drop) t with
    |none=>exact kI.o t v (by rw[kP,hl];exact ht)
    |some u=>
     have h2:=kI.o t u (by rw[kP,hl]);rw[KI] at hl;cases hmm:mem drop t with
     |true=>rw[hmm] at hl;cases hl
     |false=>rw[hmm] at hl;have e1:=hv.bN t u hl;have e2:=hv.o t v ht;rw[h2,<-e1,e2]
   have eJ:∀gD a',mA C.n gD (kC bN drop++o) a'->mA C.n (gD++kC bN drop) o a':=λgD a' kI=>by
    refine⟨kI.size,?_,hbase a' ⟨kI.size,(λt v ht=>by cases ht),kI.o,kI.wc⟩,kI.wc⟩;intro t v ht;rw[kP] at ht;cases hl:mI gD t with
    |some u=>rw[hl] at ht;simp at ht;subst ht;exact kI.bN t _ hl
    |none=>rw[hl] at ht;simp only at ht;exact kI.o t v (by rw[kP,ht])
   let X:Gm (OY oW)->aH->Prop:=λt w=>∀a,mA C.n (Mv oW t) (kC bN drop++o) a->
    ∀(b:Frame) (k:List Item) (cs:List Frame),∃e a' w',Q' e a' w'/\Arrives C.P (lone (b.at a (.code c::.inLoop c::k)) cs w) b k cs e a' w'
   have key:=h X (λt w ht a₀ hv₀ b k cs=>by
    have hwp:=ih ax _ _ (Mv oW t) w a₀ (Exit.then (λa' w'=>∃t',mA C.n (Mv oW t') (kC bN drop++o) a'/\X t' w') Q') hs ht hv₀ (by
     intro e gD a' w' kI h';cases e with
     |normal=>obtain⟨t',hK,ht'⟩:=PO kI h';exact⟨t',⟨kI.size,ht',kI.o,kI.wc⟩,hK⟩
     |exit i=>exact hQ _ _ _ _ (eJ _ _ kI) h'
     |goto l=>exact hQ _ _ _ _ (eJ _ _ kI) h'
     |ret=>exact hQ _ _ _ _ (eJ _ _ kI) h'
     |panic ch=>exact hQ _ _ _ _ (eJ _ _ kI) h'
     |outgrown=>exact hQ _ _ _ _ (eJ _ _ kI) h') (λch a w h=>hp ch a w h)
    obtain⟨e,a₁,w₁,hq,Xn⟩:=hwp b (.inLoop c::k) cs;cases e with
    |normal=>obtain⟨t',hv₁,hX⟩:=hq;obtain⟨e₂,a₂,w₂,hq₂,harr₂⟩:=hX a₁ hv₁ b k cs;exact⟨e₂,a₂,w₂,hq₂,.of_steps (Steps.trans Xn (.one step_inLoop)) harr₂⟩
    |exit id=>exact⟨_,a₁,w₁,hq,.pass (x:=.inLoop c) rfl (λ_ _=>.inl dP) Xn⟩
    |goto l=>exact⟨_,a₁,w₁,hq,.pass (x:=.inLoop c) rfl (λ_ _=>.inl dP) Xn⟩
    |ret=>exact⟨_,a₁,w₁,hq,.pass (x:=.inLoop c) rfl (λ_ _=>.inl dP) Xn⟩
    |panic ch=>exact⟨_,a₁,w₁,hq,.pass (x:=.inLoop c) rfl (λ_ _=>.inl dP) Xn⟩
    |outgrown=>exact⟨_,a₁,w₁,hq,.pass (x:=.inLoop c) rfl (λ_ _=>.inl dP) Xn⟩)
   obtain⟨t,hX,ht⟩:=PO hv key;intro b k cs;obtain⟨e,a',w',hq,Xn⟩:=hX a ⟨hv.size,ht,hv.outer drop,hv.wc⟩ b k cs;exact⟨e,a',w',hq,.of_steps (.one step_loop) Xn⟩
  |n=>exact h.elim
  |s _ _=>exact h.elim
  |c _ _=>exact h.elim
  |b _=>exact h.elim
  |j _ _ _ _=>exact h.elim
  |r _=>exact h.elim
  |o _=>exact h.elim
 |exit id=>intro MH o Q bN w a Q' _ h hv hQ _;exact wp_exit (hQ _ _ _ _ hv h)
 |ret=>intro MH o Q bN w a Q' _ h hv hQ _;exact wp_ret (hQ _ _ _ _ hv h)
 |rangeFunc _ _ _ _=>intro MH o Q bN w a Q' _ h;exact h.elim
 |scope _=>intro MH o Q bN w a Q' _ h;exact h.elim
 |label _=>intro MH o Q bN w a Q' _ h;exact h.elim
 |goto _=>intro MH o Q bN w a Q' _ h;exact h.elim
 |refuse _=>intro MH o Q bN w a Q' _ h;exact h.elim
def ZX(tmps:Array Value):ResultVar->Sem Value
 | .tmp t=>pure (tmps.getD t undef)
 | .cell a t=>do loadVar t (<-asAddr (tmps.getD a undef))
def qv(fn:Func)(tmps:Array Value):results fn tmps=(do
 let vs <-fn.results.mapM (ZX tmps)
 pure (if h:vs.size=1 then vs[0] else .tuple vs)):=rfl
def Ag{P:Program}{n:Nat}{bN:mV}{a:Act}(hv:mA n bN [] a):∀{rs:List ResultVar} {w:aH} {K:List Value->Prop},resD P bN rs w K->
  ∃vs,K vs/\(rs.mapM (ZX a.tmps)).run P w=.ok vs w
 | [],w,K,h=>⟨[],h,by simp⟩
 | .tmp t::r,w,K,h=>by
  obtain⟨v,hr,h1⟩:=aV h;obtain⟨vs,hK,Ge⟩:=Ag hv (K:=λvs=>K (v::vs)) h1;exact⟨v::vs,hK,by simp only[List.mapM_cons,ZX,Sem.run_bind,Sem.run_pure,Result.andThen_ok,HT hv hr,Ge]⟩
 | .cell c t::r,w,K,h=>by
  obtain⟨v,hr,h1⟩:=aV h;cases v<;>try (exact h1.elim)
  obtain⟨ad,rfl,h2⟩:=pO h1;obtain⟨v,Cl,h3,hC,hl⟩:=UY h2;obtain⟨vs,hK,Ge⟩:=Ag hv (K:=λvs=>K (v::vs)) h3;have ha:∀w,(asAddr (a.tmps.getD c undef)).run P w=.ok ad w:=λw=>by rw[HT hv hr];rfl
  exact⟨v::vs,hK,by simp only[List.mapM_cons,ZX,Sem.run_bind,Sem.run_pure,Result.andThen_ok,ha,hl w hC,Ge]⟩
def Ka{P:Program}{n:Nat}{bN:mV}{a:Act}{fn:Func}(hv:mA n bN [] a){w:aH}{K:List Value->Prop}(h:resD P bN fn.results.toList w K):
  ∃vs,K vs/\(results fn a.tmps).run P w=.ok (Ot vs) w:=by
 obtain⟨vs,hK,hr⟩:=Ag hv h;refine⟨vs,hK,?_⟩;rw[qv,Sem.run_bind];have e:fn.results.mapM (ZX a.tmps)=List.toArray<$>fn.results.toList.mapM (ZX a.tmps):=by rw[<-List.mapM_toArray]
 rw[e];simp only[Sem.run_map,hr,Result.andThen_ok,Sem.run_pure]
 match vs with
 | []=>simp[Ot]
 | [v]=>simp[Ot]
 |v::u::r=>simp[Ot]
def Yg:Nat->List Value->mV
 |_,[]=>[]
 |i,v::r=>(i,v)::Yg (i+1) r
def Kk:∀(vs:List Value) (i t:Nat) (v:Value),mI (Yg i vs) t=some v->i<=t/\vs[t-i]? =some v
 | [],_,_,_,h=>by cases h
 |u::r,i,t,v,h=>by
  simp only[Yg,mI] at h;cases hb:Nat.beq i t with
  |true=>rw[hb] at h;have:i=t:=JP hb;subst this;cases h;simp
  |false=>rw[hb] at h;obtain⟨h1,h2⟩:=Kk r (i+1) t v h;have e:t-i=(t-(i+1))+1:=aB;refine⟨aB,?_⟩;rw[e];simpa using h2
def CK.PN{k:CK}{x:k.T}{K:k.T->Prop}(h:K x):k.MG (k.aY x) K:=by
 cases k
 case int k=>cases k<;>exact h
 all_goals first
  |exact h
  |(simp only[CK.aY];cases x<;>exact h)
def Kt:∀{l:List CK} {t:CTs l} {K:CTs l->Prop},K t->decs l (rJ l t) K
 | [],_,_,h=>h
 |_::r,t,K,h=>CK.PN (x:=t.1) (K:=λx=>decs r (rJ r t.2) λt=>K (x,t)) (Kt (l:=r) (t:=t.2) h)
def oU.PN{k:oU}{x:k.T}{K:k.T->Prop}(h:K x):k.MG (k.aY x) K:=by
 cases k with
 |c k=>exact CK.PN (k:=k) h
 |agg l=>exact Kt (l:=l) h
def gV:∀{ks:List oU} {t:Gm ks} {K:Gm ks->Prop},K t->Hc ks (AD ks t) K
 | [],_,_,h=>h
 |_::r,t,K,h=>oU.PN (x:=t.1) (K:=λx=>Hc r (AD r t.2) λt=>K (x,t)) (gV (ks:=r) (t:=t.2) h)
def retK(ks:List oU)(v:Value)(C:Gm ks->Prop):Prop:=match ks,C with
 | [k],C=>k.MG v λr=>C (r,())
 |ks,C=>match v with
  | .tuple vs=>Hc ks vs.toList C
  |_=>False
def sound_of{P:Program}{g:FuncId}{fn:Func}(hf:P.funcs[g]? =some fn)(bW:fn.body.isSome=true)(hm:P.follows .mixedOrders=true)(hs:MU (fn.body.getD .skip)=true)(MH:Ann)(env:Env)(MB:RV P env)(ks:List oU)
  (hk:Nat.ble ks.length fn.ntmps=true) (F:Gm ks->aH->(Value->aH->Prop)->Prop)
  (hF:∀t w K,F t w K=D ⟨P,fn.ntmps,env⟩ (fn.body.getD .skip) MH [] (postD P fn.results.toList K) (Yg 0 (AD ks t)) w):
  pM P g λargs w K=>Hc ks args λt=>F t w K:=by
 intro args w K h;obtain⟨c,hb⟩:=Mp.1 bW;have hc:fn.body.getD .skip=c:=by rw[hb];rfl
 obtain⟨t,rfl,h1⟩:=xT h;rw[hF,hc] at h1;rw[hc] at hs;have gL:∀(ks:List oU) (t:Gm ks),(AD ks t).length=ks.length:=by
  intro ks
  induction ks with
  |nil=>intro t;rfl
  |cons k r ih=>intro t;simp[AD,ih]
 have LV:ks.length<=fn.ntmps:=Nat.le_of_ble_eq_true hk;refine calls_of_wp hf hb ?_;refine D_sound (C:=⟨P,fn.ntmps,env⟩) hm MB c MH [] _ _ w _ _ hs h1 ?_ ?_ ?_
 ·refine⟨?_,?_,(λt v ht=>by cases ht),rfl⟩
  ·simp[gL];omega
  ·intro i v hi;obtain⟨_,h2⟩:=Kk _ _ _ _ hi;simp only[Nat.sub_zero] at h2;have dL:i<(AD ks t).length:=(eR.1 h2).1;simp only[Array.getD_eq_getD_getElem?];rw[Array.getElem?_append_left (by simpa using dL)];simp[h2]
 ·intro e gD a' w' kI hq;cases e with
  |normal=>obtain⟨vs,hK,hr⟩:=Ka kI hq;exact⟨kI.wc,_,hr,_,rfl,hK⟩
  |ret=>obtain⟨vs,hK,hr⟩:=Ka kI hq;exact⟨kI.wc,_,hr,_,rfl,hK⟩
  |exit i=>exact hq.elim
  |goto l=>exact hq.elim
  |panic ch=>exact hq.elim
  |outgrown=>exact hq.elim
 ·rintro ch a w ⟨_,v,hv,_⟩;cases hv
structure SD(P:Program) where
 g:FuncId
 T:Tr
 e:enters P g=true
 s:pM P g T
def sdE{P:Program}:List (SD P)->Env
 | []=>[]
 |d::r=>(d.g,d.T)::sdE r
def sdOk{P:Program}:∀l:List (SD P),RV P (sdE l)
 | []=>trivial
 |d::r=>⟨⟨d.e,d.s⟩,sdOk r⟩
abbrev Wt(ks:List oU)(G:Gm ks->World->(Value->World->Prop)->Prop):Tr:=λargs w K=>Hc ks args λt=>G t w K
def dW{P:Program}(g:FuncId){fn:Func}(hf:P.funcs[g]? =some fn)(hm:P.follows .mixedOrders=true)(MH:Ann)(l:List (SD P))(ks:List oU)(G:Gm ks->World->(Value->World->Prop)->Prop)(hb:fn.body.isSome=true:=by kernel_rfl)(hs:MU (fn.body.getD .skip)=true:=by kernel_rfl)(hk:Nat.ble ks.length fn.ntmps=true:=by kernel_rfl)(he:enters P g=true:=by kernel_rfl)
  (hF:∀t w K,G t w K=D ⟨P,fn.ntmps,sdE l⟩ (fn.body.getD .skip) MH [] (postD P fn.results.toList K) (Yg 0 (AD ks t)) w:=by intro t w K;kernel_rfl):SD P:=
 ⟨g,Wt ks G,he,sound_of hf hb hm hs MH (sdE l) (sdOk l) ks hk G hF⟩
def MP.f:Nat->Nat->MP->MP
 |_,0,p=>p
 |s,n+1,p=>.fl s (MP.f (s+1) n p)
def Ann.k:Nat->Ann->Ann
 |0,a=>a
 |i+1,a=>.s .n (Ann.k i a)
abbrev bO(w:World)(a:Addr)(K:Int->Prop):Prop:=ZA (.int .i64) w a K
abbrev eV(w:World)(a:Addr)(K:Sl->Prop):Prop:=ZA .slice w a K
abbrev jJ(w:World)(a:Addr)(K:Option Addr->Prop):Prop:=ZA .ptr w a K
abbrev OU(w:World)(a:Addr)(K:Option Nat->Prop):Prop:=ZA .map w a K
abbrev TM(w:World)(a:Addr)(K:Bool->Prop):Prop:=ZA .bool w a K
abbrev bD:Sl:=⟨none,0,0⟩
abbrev vl(s:Sl):Value:=.slice s.b s.l s.c
abbrev kH{α:Type}(B:(α->World->Prop)->α->World->Prop)(t:α)(w:World):Prop:=∀X:α->World->Prop,(∀t w,B X t w->X t w)->X t w
abbrev fQ(i:Int)(n:Nat):Prop:=0<=i/\i<(n:Int)
abbrev cQ(p:Prop)[Decidable p](A B:Prop):Prop:=cond (decide p) A B
abbrev yg:=Int×Int×Int×Int×Unit
abbrev T_1_y:=Int×Int×Int×Int×Int×Int×Unit
abbrev CK.i:CK:=.int .i64
abbrev oU.i:oU:=.c (.int .i64)
abbrev aW(s:Sl):Value:=.slice s.b s.l s.c
structure aU(F:Nat->Prop)(w w':aH):Prop where
 os:w'.os=w.os
 tape:w'.tape=w.tape
 output:w'.output=w.output
 size:w.heap.size<=w'.heap.size
 block:∀k,k<w.heap.size->¬F k->w'.heap[k]? =w.heap[k]?
abbrev aL(w w':aH):Prop:=aU (λ_=>False) w w'
def aU.refl(F:Nat->Prop)(w:aH):aU F w w:=⟨rfl,rfl,rfl,dN _,λ_ _ _=>rfl⟩
def aU.mono{F G:Nat->Prop}{w w':aH}(h:aU F w w')(hs:∀k,k<w.heap.size->F k->G k):aU G w w':=
 ⟨h.os,h.tape,h.output,h.size,λk hk hn=>h.block k hk λhf=>hn (hs k hk hf)⟩
def aU.trans{F G:Nat->Prop}{a b c:aH}(h:aU F a b)(h':aU G b c)(hs:∀k,k<a.heap.size->G k->F k):aU F a c:=
 ⟨h'.os.trans h.os,h'.tape.trans h.tape,h'.output.trans h.output,jB h.size h'.size,
  λk hk hn=>(h'.block k (pP hk h.size) λhg=>hn (hs k hk hg)).trans (h.block k hk hn)⟩
def aU.tr{F:Nat->Prop}{a b c:aH}(h:aU F a b)(h':aU F b c):aU F a c:=h.trans h' λ_ _ h=>h
def aL.aK{F:Nat->Prop}{w w':aH}(h:aL w w'):aU F w w':=h.mono λ_ _ h=>h.elim
def aU.wk{F:Nat->Prop}{w w':aH}(h:aU (λ_=>False) w w'):aU F w w':=h.mono λ_ _ h=>h.elim
def aU.drew{F:Nat->Prop}{a w:aH}(h:aU F a w):aU F a w.drew:=⟨h.os,h.tape,h.output,h.size,h.block⟩
def aL.alloc(w:aH)(o:Obj):aL w (w.alloc o):=⟨rfl,rfl,rfl,by simp,λk hk _=>RowKit.Below.heap_alloc w o k hk⟩
def aU.alloc{F:Nat->Prop}{a w:aH}(h:aU F a w)(o:Obj):aU F a (w.alloc o):=h.trans (aL.alloc w o) λ_ _ h=>h.elim
def aU.setRow(w:aH)(g:Nat)(cs:Array Value):aU (λk=>k=g) w (w.setRow g cs):=⟨rfl,rfl,rfl,by simp,λk _ hk=>setRow_other w g k cs hk⟩
def aU.fresh{F G:Nat->Prop}{a w w':aH}(h:aU F a w)(h':aU G w w')(hs:∀k,G k->a.heap.size<=k):aU F a w':=
 h.trans h' λk hk hg=>absurd (hs k hg) aB
def aU.below{w w':aH}{B:Nat}(h:aU (λk=>B<=k) w w')(hB:B<=w.heap.size):RowKit.Below B w w':=
 ⟨h.os,h.tape,h.output,h.size,λk hk=>h.block k aB aB⟩
def Um{w:aH}{a:Addr}{v:Value}(h:w.cell? a=some v):a.block<w.heap.size:=World.block_lt_of_cell? w a h
def aU.cell{F:Nat->Prop}{w w':aH}(h:aU F w w'){a:Addr}{v:Value}(hc:w.cell? a=some v)(hn:¬F a.block):w'.cell? a=some v:=
 (World.cell?_of_block (h.block _ (Um hc) hn)).trans hc
def add_add(a:Addr)(m n:Nat):(a.add m).add n=a.add (m+n):=by
 unfold Addr.add
 by_cases hm:m=0<;>by_cases hn:n=0<;>simp[hm,hn,Nat.add_assoc]
@[simp] theorem add_block(a:Addr)(n:Nat):(a.add n).block=a.block:=by unfold Addr.add;split<;>rfl
def add_zero(a:Addr):a.add 0=a:=by simp[Addr.add]
def VB{w w':aH}{a:Addr}(hb:w'.heap[a.block]? =w.heap[a.block]?):∀{vs:gJ} {i:Nat},bQ w a i vs->bQ w' a i vs
 | [],_,_=>trivial
 |_::_,_,h=>⟨(World.cell?_of_block (w:=w) (by simpa using hb)).trans h.1,VB hb h.2⟩
def Cf{w:aH}{a:Addr}{m:Nat}:∀{vs:gJ} {i:Nat},bQ w (a.add m) i vs↔bQ w a (m+i) vs
 | [],_=>Iff.rfl
 |_::_,i=>by simp only[bQ,add_add];rw[Cf];rfl
def jH{w:aH}{a:Addr}:∀{vs:gJ} {i:Nat},bQ w a i vs↔∀j v,vs[j]? =some v->w.cell? (a.add (i+j))=some v
 | [],i=>by simp[bQ]
 |v::r,i=>by
  simp only[bQ];rw[jH (vs:=r) (i:=i+1)]
  constructor
  ·rintro⟨h1,h2⟩ j u hu;cases j with
   |zero=>simp only[List.getElem?_cons_zero,Option.some.injEq] at hu;subst hu;exact h1
   |succ j=>simp only[List.getElem?_cons_succ] at hu;have:=h2 j u hu;rwa[show i+1+j=i+(j+1) by omega] at this
  ·intro h;exact⟨h 0 v rfl,λj u hu=>by have:=h (j+1) u hu;rwa[show i+(j+1)=i+1+j by omega] at this⟩
structure Rd{α:Type}(w:aH)(s:Sl)(n:Nat)(aY:α->gJ)(xs:List α):Prop where
 len:s.l=xs.length
 cap:s.l<=s.c
 get:∀i x,xs[i]? =some x->∃a,s.b=some a/\bQ w (a.add (i*n)) 0 (aY x)
def Rd.nil{α:Type}(w:aH)(n:Nat)(aY:α->gJ):Rd w bD n aY []:=⟨rfl,dN _,λi x h=>by simp at h⟩
def Rd.aK{α:Type}{F:Nat->Prop}{w w':aH}{s:Sl}{n:Nat}{aY:α->gJ}{xs:List α}(h:Rd w s n aY xs)(hm:aU F w w')(gQ:∀x,aY x≠[])
  (hF:∀a,s.b=some a->¬F a.block):Rd w' s n aY xs:=
 ⟨h.len,h.cap,λi x hx=>by
  obtain⟨a,ha,hh⟩:=h.get i x hx;have cD:a.block<w.heap.size:=by
   cases he:aY x with
   |nil=>exact absurd he (gQ x)
   |cons v r=>rw[he] at hh;have:=Um hh.1;simpa using this
  exact⟨a,ha,VB (by simpa using hm.block _ cD (hF a ha)) hh⟩⟩
def Rd.xr{α:Type}{w w':aH}{s:Sl}{n:Nat}{aY:α->gJ}{xs:List α}(h:Rd w s n aY xs)(hm:aU (λk=>w.heap.size<=k) w w')(gQ:∀x,aY x≠[]):Rd w' s n aY xs:=
 ⟨h.len,h.cap,λi x hx=>by
  obtain⟨a,ha,hh⟩:=h.get i x hx;have cD:a.block<w.heap.size:=by
   cases he:aY x with
   |nil=>exact absurd he (gQ x)
   |cons v r=>rw[he] at hh;have:=Um hh.1;simpa using this
  exact⟨a,ha,VB (by simpa using hm.block _ cD aB) hh⟩⟩
def Rd.part{α:Type}{w:aH}{s:Sl}{n:Nat}{aY:α->gJ}{xs:List α}(h:Rd w s n aY xs){i j c:Nat}(TN:i<=j)(hj:j<=s.l)(hc:j<=c)(_:c<=s.c):
  Rd w ⟨aR s.b s.c i n,j-i,c-i⟩ n aY ((xs.drop i).take (j-i)):=by
 refine⟨?_,?_,λk x hk=>?_⟩
 ·have:=h.len;simp only[rA,jz];omega
 ·show j-i<=c-i;omega
 ·have cD:k<j-i:=by
   have:=(eR.1 hk).1;simp at this;omega
  rw[WC cD,ly7] at hk;obtain⟨a,ha,hh⟩:=h.get (i+k) x hk;refine⟨a.add (i*n),?_,?_⟩
  ·show aR s.b s.c i n=_;have:s.c≠i:=by have:=h.cap;omega
   simp[aR,this,ha]
  ·rw[add_add,<-Nat.add_mul];exact hh
def aF{b:Bool}{A B:Prop}(h1:b=true->A)(h2:b=false->B):cond b A B:=by cases b<;>simp_all
def aI{p:Prop}[Decidable p]{A B:Prop}(h1:p->A)(h2:¬p->B):cond (decide p) A B:=by by_cases h:p<;>simp_all
def aA{p:cW}{K:Addr->Prop}{a:Addr}(h:p=some a)(hK:K a):aC p K:=by subst h;exact hK
def aE{k:CK}{w:aH}{a:Addr}{K:k.T->Prop}(x:k.T)(h:w.cell? a=some (k.aY x))(hK:K x):ZA k w a K:=⟨x,h,hK⟩
def aZ{l:List CK}{w:aH}{a:Addr}{K:CTs l->Prop}(x:CTs l)(h:bQ w a 0 (rJ l x))(hK:K x):fI l w a K:=⟨x,h,hK⟩
def bK{S:Type}{body:(S->aH->Prop)->S->aH->Prop}(I:Nat->WQ S)(n:Nat){t:S}{w:aH}(h0:I n t w)
  (step:∀n t w,I n t w->∀X:S->aH->Prop,(∀m t' w',m<n->I m t' w'->X t' w')->body X t w):
  ∀X:S->aH->Prop,(∀t w,body X t w->X t w)->X t w:=by
 intro X hX
 induction n using Nat.strongRecOn generalizing t w with
 |ind n ih=>exact hX t w (step n t w h0 X λm t' w' hm h=>ih m hm h)
def iH{n:Int}(h0:-9223372036854775808<=n)(h1:n<=9223372036854775807):aQ n=n:=by show IntKind.wrap .i64 n=n;rw[IntKind.wrap_i64];omega
def Cg(w:aH)(cs:Array Value)(t:fL):bQ (w.alloc (.cells cs t)) ⟨w.heap.size,0,none⟩ 0 cs.toList:=by
 rw[jH];intro j v hv;have:(⟨w.heap.size,0,none⟩:Addr).add (0+j)=⟨w.heap.size,j,none⟩:=by unfold Addr.add;split<;>simp_all
 rw[this,cell_of_row _ _ _ cs t (0,0) (heap_alloc_new w _)];simpa using hv
def w64n(n:Nat)(h:n<=9223372036854775807):aQ (n:Int)=(n:Int):=iH aB aB
def aS(g o n:Nat):(⟨g,o,none⟩:Addr).add n=⟨g,o+n,none⟩:=by unfold Addr.add;split<;>simp_all
def cX(w:aH)(g:Nat)(e:fL)(cs:gJ):Prop:=w.heap[g]? =some (.cells cs.toArray e (0,0))
def cX.lt{w:aH}{g:Nat}{e:fL}{cs:gJ}(h:cX w g e cs):g<w.heap.size:=(Array.getElem?_eq_some_iff.1 h).1
def cX.aK{F:Nat->Prop}{w w':aH}{g:Nat}{e:fL}{cs:gJ}(h:cX w g e cs)(hm:aU F w w')(hF:¬F g):cX w' g e cs:=(hm.block g h.lt hF).trans h
def cX.cell{w:aH}{g:Nat}{e:fL}{cs:gJ}(h:cX w g e cs)(j:Nat):w.cell? ⟨g,j,none⟩=cs[j]?:=by
 rw[cell_of_row w g j _ e (0,0) h];simp
def cX.holds{w:aH}{g:Nat}{e:fL}{cs:gJ}(h:cX w g e cs){o:Nat}{vs:gJ}(hv:∀j v,vs[j]? =some v->cs[o+j]? =some v):bQ w ⟨g,o,none⟩ 0 vs:=by
 rw[jH];intro j v hj;rw[aS,gK,h.cell];exact hv j v hj
def cX.jA(w:aH)(cs:Array Value)(e:fL):cX (w.alloc (.cells cs e)) w.heap.size e cs.toList:=heap_alloc_new w _
def cX.setRow{w:aH}{g:Nat}{e:fL}{cs:gJ}(h:cX w g e cs)(ds:gJ):cX (w.setRow g ds.toArray) g e ds:=setRow_heap w g _ _ e _ h
def DB{P:YZ}{t:fL}{g o:Nat}{v:Value}{w:aH}{K:aH->Prop}{e:fL}{cs:gJ}(h:cX w g e cs)
  (hi:(P.info? t).map (·.size)=some v.cells.size) (QT:o+v.cells.size<=cs.length) (h1:∀u∈v.cells.toList,u.oneCell'=true)
  (hK:∀w',cX w' g e (cs.take o++v.cells.toList++cs.drop (o+v.cells.size))->aU (λk=>k=g) w w'->w'.heap.size=w.heap.size->K w'):aJ P t ⟨g,o,none⟩ v w K:=by
 have vO:=run_storeCells_at P g o e v.cells.toList 0 cs.toArray w h (by simpa using QT) h1;cases hq:P.info? t with
 |none=>simp[hq] at hi
 |some i=>
  have hs:v.cells.size=i.size:=by simp[hq] at hi;omega
  refine⟨_,?_,hK _ (h.setRow _) (aU.setRow w g _) dP⟩;simp[storeVar,sizeOf,typeInfo,hq,hs,vO]
def Nf{α:Type}(l:List α)(o:Nat)(v:α)(h:o<l.length):l.take o++[v]++l.drop (o+1)=l.set o v:=by
 rw[List.set_eq_take_append_cons_drop,if_pos h];simp
def cJ{P:YZ}{t:fL}{g o:Nat}{v:Value}{w:aH}{K:aH->Prop}{e:fL}{cs:gJ}(h:cX w g e cs)
  (hi:(P.info? t).map (·.size)=some 1) (QT:o<cs.length) (hc:v.cells=#[v]) (h1:v.oneCell'=true)
  (hK:∀w',cX w' g e (cs.set o v)->aU (λk=>k=g) w w'->w'.heap.size=w.heap.size->K w'):aJ P t ⟨g,o,none⟩ v w K:=by
 refine DB h (by rw[hi,hc];rfl) (by rw[hc];exact QT) (by rw[hc];simpa using h1) λw' h2 h3 h4=>hK w' ?_ h3 h4;rw[hc] at h2;simpa [Nf _ _ _ QT,<-sV] using h2
structure dE{α:Type}(w:aH)(e:fL)(n:Nat)(aY:α->gJ)(s:Sl)(xs:List α):Prop where
 len:s.l=xs.length
 cap:s.l<=s.c
 max:s.c<=maxLen
 gZ:(s.b=none/\s.c=0)\/∃g cO,s.b=some ⟨g,0,none⟩/\cX w g e (xs.flatMap aY++cO)/\(xs.flatMap aY++cO).length=s.c*n
def bF{α:Type}{aY:α->gJ}{n:Nat}(gI:∀x,(aY x).length=n):∀xs:List α,(xs.flatMap aY).length=xs.length*n
 | []=>by simp
 |x::r=>by simp only[FU,fN,gI,mH,bF gI r];rw[Nat.add_mul];omega
def uC{α:Type}{aY:α->gJ}{n:Nat}(gI:∀x,(aY x).length=n):∀(xs:List α) (i:Nat) (x:α) (j:Nat) (v:Value) (cO:gJ),xs[i]? =some x->(aY x)[j]? =some v->(xs.flatMap aY++cO)[i*n+j]? =some v
 | [],i,x,j,v,cO,h,_=>by simp at h
 |y::r,0,x,j,v,cO,h,hv=>by
  simp at h;subst h;have:j<(aY y).length:=(eR.1 hv).1;simp only[FU,Nat.zero_mul,gK,sV];rw[Gu this];exact hv
 |y::r,i+1,x,j,v,cO,h,hv=>by
  simp only[List.getElem?_cons_succ] at h;simp only[FU,sV];rw[Gv (by rw[gI,Nat.add_mul];omega),gI,show(i+1)*n+j-n=i*n+j by rw[Nat.add_mul];omega];exact uC gI r i x j v cO h hv
def dE.nil{α:Type}(w:aH)(e:fL)(n:Nat)(aY:α->gJ):dE w e n aY bD []:=⟨rfl,dN _,cY _,.inl ⟨rfl,rfl⟩⟩
def dE.rd{α:Type}{w:aH}{e:fL}{n:Nat}{aY:α->gJ}{s:Sl}{xs:List α}(h:dE w e n aY s xs)(gI:∀x,(aY x).length=n):Rd w s n aY xs:=by
 refine⟨h.len,h.cap,λi x hx=>?_⟩;have cD:i<xs.length:=(eR.1 hx).1;rcases h.gZ with⟨_,h2⟩|⟨g,cO,hb,ho,hl⟩
 ·have:=h.len;have:=h.cap;omega
 ·refine⟨_,hb,?_⟩;rw[aS];exact ho.holds λj v hv=>by rw[gK];exact uC gI xs i x j v cO hx hv
def dE.aK{α:Type}{F:Nat->Prop}{w w':aH}{e:fL}{n:Nat}{aY:α->gJ}{s:Sl}{xs:List α}(h:dE w e n aY s xs)(hm:aU F w w')(hF:∀a,s.b=some a->¬F a.block):dE w' e n aY s xs:=
 ⟨h.len,h.cap,h.max,h.gZ.imp id λ⟨g,cO,hb,ho,hl⟩=>⟨g,cO,hb,ho.aK hm (hF _ hb),hl⟩⟩
def dE.lt{α:Type}{w:aH}{e:fL}{n:Nat}{aY:α->gJ}{s:Sl}{xs:List α}(h:dE w e n aY s xs){a:Addr}(ha:s.b=some a):a.block<w.heap.size:=by
 rcases h.gZ with⟨h1,_⟩|⟨g,cO,hb,ho,hl⟩
 ·rw[h1] at ha;cases ha
 ·rw[hb] at ha;cases ha;exact ho.lt
def dE.lit{α:Type}(w:aH)(e:fL){n:Nat}(aY:α->gJ)(gI:∀x,(aY x).length=n)(xs:List α)(cs:Array Value)(hc:cs.toList=xs.flatMap aY)(hm:xs.length<=maxLen):
  dE (w.alloc (.cells cs e)) e n aY ⟨some ⟨w.heap.size,0,none⟩,xs.length,xs.length⟩ xs:=
 ⟨rfl,dN _,hm,.inr ⟨_,[],rfl,by rw[rF,<-hc];exact cX.jA w cs e,by rw[rF];exact bF gI xs⟩⟩
def dE.take{α:Type}{w:aH}{e:fL}{n:Nat}{aY:α->gJ}{s:Sl}{xs:List α}(h:dE w e n aY s xs){i:Nat}(hi:i<=s.l):dE w e n aY ⟨s.b,i,s.c⟩ (xs.take i):=by
 refine⟨by have:=h.len;simp only[rA];omega,jB hi h.cap,h.max,h.gZ.imp id λ⟨g,cO,hb,ho,hl⟩=>⟨g,(xs.drop i).flatMap aY++cO,hb,?_,?_⟩⟩
 all_goals rw[<-sV,<-HA,Mo];assumption
def Cj{α:Type}{aY:α->gJ}{n:Nat}(gI:∀x,(aY x).length=n)(cO:gJ)(x:α):∀(xs:List α) (i:Nat),i<xs.length->
  (xs.flatMap aY++cO).take (i*n)++aY x++(xs.flatMap aY++cO).drop (i*n+n)=(xs.set i x).flatMap aY++cO
 |y::r,0,_=>by
  have:(aY y).length=n:=gI y;simp only[Nat.zero_mul,List.take_zero,List.nil_append,List.set_cons_zero,FU,sV,gK];rw[<-this,List.drop_left]
 |y::r,i+1,h=>by
  have hl:(aY y).length=n:=gI y;have ih:=Cj gI cO x r i (by simpa using h);simp only[List.set_cons_succ,FU,sV] at ih ⊢;rw[<-ih,show(i+1)*n=(aY y).length+i*n by rw[Nat.add_mul,hl];omega,List.take_length_add_append,show(aY y).length+i*n+n=(aY y).length+(i*n+n) by omega,List.drop_length_add_append,sV]
def dE.store{α:Type}{P:YZ}{t:fL}{w:aH}{e:fL}{n:Nat}{aY:α->gJ}{s:Sl}{xs:List α}(h:dE w e n aY s xs)(gI:∀x,(aY x).length=n){a:Addr}(ha:s.b=some a)
  {i:Nat} (hi:i<xs.length) (x:α) {v:Value} (hv:v.cells.toList=aY x) (ht:(P.info? t).map (·.size)=some n) (jL:∀u∈aY x,u.oneCell'=true) {K:aH->Prop}
  (hK:∀w',dE w' e n aY s (xs.set i x)->aU (λk=>k=a.block) w w'->w'.heap.size=w.heap.size->K w'):aJ P t (a.add (i*n)) v w K:=by
 rcases h.gZ with⟨h1,_⟩|⟨g,cO,hb,ho,hl⟩
 ·rw[h1] at ha;cases ha
 ·rw[hb] at ha;cases ha;rw[aS,gK];have Ge:v.cells.size=n:=by rw[<-gI x,<-hv,Array.length_toList]
  have JK:=bF gI xs;have JJ:i*n+n<=xs.length*n:=by have:=QR n (show i+1<=xs.length from hi);rwa[Nat.add_mul,Nat.one_mul] at this
  refine DB ho (by rw[ht,Ge]) (by rw[Ge,fN,JK];omega) (by rw[hv];exact jL) λw' h2 h3 h4=>hK w' ⟨by rw[oE];exact h.len,h.cap,h.max,.inr ⟨g,cO,hb,?_,?_⟩⟩ h3 h4
  ·rw[hv,Ge,Cj gI cO x xs i hi] at h2;exact h2
  ·rw[<-hl,fN,fN,bF gI,bF gI,oE]
structure sW(P:YZ)(t e:fL)(n bytes:Nat)(z:gJ):Prop where
 under:P.underlying t=some (.slice e)
 EM:(P.info? e).map (λi=>(i.zero.map λv=>v.cells.toList,i.size,i.bytes))=some (some z,n,bytes)
 pos:0<n
 zlen:z.length=n
def sW.info{P:YZ}{t e:fL}{n bytes:Nat}{z:gJ}(h:sW P t e n bytes z):∃i zv,P.info? e=some i/\i.zero=some zv/\zv.cells.toList=z/\i.size=n/\i.bytes=bytes:=by
 have hm:=h.EM;cases hi:P.info? e with
 |none=>simp[hi] at hm
 |some i=>
  cases hz:i.zero with
  |none=>simp[hi,hz] at hm
  |some zv=>simp[hi,hz] at hm;exact⟨i,zv,rfl,hz,hm.1,hm.2.1,hm.2.2⟩
def qG{α:Type}{w:aH}{x:Sl}{n:Nat}{aY:α->gJ}{ys:List α}(hx:Rd w x n aY ys)(gI:∀x,(aY x).length=n){a:Addr}(ha:x.b=some a):
  ∀j u,(ys.flatMap aY)[j]? =some u->w.cell? (a.add j)=some u:=by
 intro j u hu;have cD:j<ys.length*n:=by have:=(eR.1 hu).1;rwa[bF gI] at this
 have hn:0<n:=by
  rcases Nat.eq_zero_or_pos n with h|h
  ·subst h;omega
  ·exact h
 have hi:j/n<ys.length:=Nat.div_lt_of_lt_mul (by rwa[Nat.mul_comm]);have hm:j%n<n:=Nat.mod_lt _ hn;obtain⟨a',mY,hh⟩:=hx.get (j/n) ys[j/n] (cL hi);rw[ha] at mY;cases mY;have WE:j%n<(aY ys[j/n]).length:=by rw[gI];exact hm
 have h2:=uC gI ys (j/n) _ (j%n) _ [] (cL hi) (cL WE);rw[rF,Nat.div_add_mod',hu] at h2;cases h2;have:=(jH.1 hh) (j%n) _ (cL WE);rwa[add_add,gK,Nat.div_add_mod'] at this
def Jj{α:Type}{P:YZ}{t e:fL}{n bytes:Nat}{z:gJ}(hE:sW P t e n bytes z){aY:α->gJ}(gI:∀x,(aY x).length=n)(jL:∀x,∀u∈aY x,u.oneCell'=true)
  {w:aH} {s x:Sl} {xs ys:List α} (hs:dE w e n aY s xs) (hx:Rd w x n aY ys) (h63:xs.length+ys.length<=9223372036854775807) (CZ:(xs.length+ys.length)*bytes<=140737488355328) {K:Sl->aH->Prop}
  (hK:∀r w',dE w' e n aY r (xs++ys)->aU (λk=>∃a,s.b=some a/\k=a.block) w w'->(r.b=s.b\/∃a,r.b=some a/\w.heap.size<=a.block)->(r.b=none->s.b=none)->(xs.length+ys.length<=s.c->r=⟨s.b,s.l+x.l,s.c⟩)->K r w'):
  aX P t t s (aW x) w K:=by
 obtain⟨i,zv,hi,hz,rfl,rfl,rfl⟩:=hE.info;have ht:=hE.under;obtain⟨sb,sl,sc⟩:=s;obtain⟨xb,xl,xc⟩:=x;have RA:sl=xs.length:=hs.len;have ZG:xl=ys.length:=hx.len;have hscap:sl<=sc:=hs.cap
 by_cases hy:ys=[]
 ·subst hy;have hxl0:xl=0:=ZG;subst hxl0;refine⟨⟨sb,sl,sc⟩,w,?_,hK _ _ (by rw[rF];exact hs) (aU.refl _ _) (.inl rfl) id (λ_=>rfl)⟩;cases xb<;>cases sb<;>simp[Builtin.append_,run_underlying ht,sizeOf,typeInfo,hi,Builtin.lenOf,Builtin.firstCells,hscap,storeCells,loadCells,loadCellsFrom,oU.aY,CK.aY]
 have uJ:0<ys.length:=List.length_pos_iff.2 hy;obtain⟨ax,hax,_⟩:=hx.get 0 ys[0] (cL uJ);have hax':xb=some ax:=hax;subst hax';have Ht:=qG hx gI (a:=ax) rfl;have hl:(ys.flatMap aY).length=xl*i.size:=by rw[bF gI,ZG]
 have RP:∀u∈ys.flatMap aY,u.oneCell'=true:=λu hu=>by obtain⟨y,_,hy⟩:=List.mem_flatMap.1 hu;exact jL y u hy
 have hzs:zv.cells.size=i.size:=by have:=hE.zlen;simpa using this
 have hm63:xs.length+ys.length<=maxLen:=by simp only[maxLen];omega
 have grown:∀old,old<sl+xl->dE (w.drew.alloc (.cells ((xs.flatMap aY).toArray++(ys.flatMap aY).toArray++Builtin.zeroCells zv.cells (grownCap w (sl+xl) old e-(sl+xl))) e)) e i.size aY
   ⟨some ⟨w.heap.size,0,none⟩,sl+xl,grownCap w (sl+xl) old e⟩ (xs++ys):=λold hold=>by
  have kF:=grownCap_ge w (sl+xl) old e;have hcm:grownCap w (sl+xl) old e<=maxLen:=grownCap_le_maxLen w (sl+xl) old e aB;refine⟨by simp[RA,ZG],kF,hcm,.inr ⟨w.heap.size,(Builtin.zeroCells zv.cells (grownCap w (sl+xl) old e-(sl+xl))).toList,rfl,?_,?_⟩⟩
  ·have:=cX.jA w.drew ((xs.flatMap aY).toArray++(ys.flatMap aY).toArray++Builtin.zeroCells zv.cells (grownCap w (sl+xl) old e-(sl+xl))) e;simpa [sV] using this
  ·simp only[fN,bF gI,Array.length_toList,size_zeroCells,hzs,<-RA,<-ZG];rw[<-Nat.add_mul];congr 1;show sl+xl+(grownCap w (sl+xl) old e-(sl+xl))=grownCap w (sl+xl) old e;omega
 rcases hs.gZ with⟨hb,hc⟩|⟨g,cO,hb,ho,gL⟩
 ·have bW:sb=none:=hb;have Lx:sc=0:=hc;subst bW;subst Lx;have hsl0:sl=0:=aB;have hxs:xs=[]:=Mq aB;subst hxs;have hr:=run_append_nil (P:=P) w t 0 e i zv ht hi hz ax xl xc (ys.flatMap aY) hl Ht aB aB (by simp at CZ;rw[ZG];omega);have hg:=grown 0 aB;subst hsl0;refine⟨(⟨some ⟨w.heap.size,0,none⟩,xl,grownCap w xl 0 e⟩:Sl),_,hr,?_⟩;simp only[gK,List.flatMap_nil] at hg;have km:dE (w.drew.alloc (.cells ((ys.flatMap aY).toArray++Builtin.zeroCells zv.cells (grownCap w xl 0 e-xl)) e)) e i.size aY ⟨some ⟨w.heap.size,0,none⟩,xl,grownCap w xl 0 e⟩ ([]++ys):=by simpa using hg
  exact hK _ _ km ((aU.refl _ w).drew.alloc _) (.inr ⟨_,rfl,dN _⟩) (λh=>by cases h) (λh=>absurd h (by show¬(0+ys.length<=0);omega))
 ·have bW:sb=some ⟨g,0,none⟩:=hb;subst bW
  by_cases HM:sl+xl<=sc
  ·have xu:((xs.flatMap aY++cO).take (sl*i.size))=xs.flatMap aY:=by
    have:(xs.flatMap aY).length=sl*i.size:=by rw[bF gI,RA]
    rw[<-this];exact List.take_left
   have RQ:(xs.flatMap aY++cO).length=sc*i.size:=gL;have QT:sl*i.size+(ys.flatMap aY).length<=(xs.flatMap aY++cO).toArray.size:=by rw[hl,<-Nat.add_mul,List.size_toArray,RQ];exact QR _ HM
   have hr:=run_append_room (P:=P) w t 0 e i ht hi g sl sc (xs.flatMap aY++cO).toArray ho ax xl xc (ys.flatMap aY) hl Ht RP HM QT;simp only[xu] at hr;refine⟨(⟨some ⟨g,0,none⟩,sl+xl,sc⟩:Sl),_,hr,hK ⟨some ⟨g,0,none⟩,sl+xl,sc⟩ _ ⟨by simp[RA,ZG],HM,hs.max,.inr ⟨g,(xs.flatMap aY++cO).drop (sl*i.size+(ys.flatMap aY).length),rfl,?_,?_⟩⟩ ?_ (.inl rfl) (λh=>by cases h) (λ_=>rfl)⟩
   ·have:=cX.setRow ho (xs.flatMap aY++ys.flatMap aY++(xs.flatMap aY++cO).drop (sl*i.size+(ys.flatMap aY).length));simpa [HA] using this
   ·simp only[List.size_toArray] at QT;rw[HA,fN,fN,jz,bF gI xs,<-RA];show _=sc*i.size;omega
   ·exact(aU.setRow w g _).mono λk _ hk=>⟨_,rfl,hk⟩
  ·have holds:∀j u,(xs.flatMap aY)[j]? =some u->w.cell? ((⟨g,0,none⟩:Addr).add j)=some u:=qG (hs.rd gI) gI rfl;have hr:=run_append_grow (P:=P) w t 0 e i zv ht hi hz ⟨g,0,none⟩ sl sc (xs.flatMap aY) (by rw[bF gI,RA]) holds ax xl xc (ys.flatMap aY) hl Ht aB aB (growslice_fits aB (by rw[RA,ZG];exact CZ));exact⟨(⟨some ⟨w.heap.size,0,none⟩,sl+xl,grownCap w (sl+xl) sc e⟩:Sl),_,hr,hK _ _ (grown sc aB) ((aU.refl _ w).drew.alloc _) (.inr ⟨_,rfl,dN _⟩) (λh=>by cases h) (λh=>absurd h (by show¬(xs.length+ys.length<=sc);omega))⟩
def fH{α:Type}{P:YZ}{t e:fL}{n bytes:Nat}{z:gJ}(hE:sW P t e n bytes z){aY:α->gJ}(gI:∀x,(aY x).length=n)(jL:∀x,∀u∈aY x,u.oneCell'=true)
  {w:aH} {s x:Sl} {xs ys:List α} (hs:dE w e n aY s xs) (hx:Rd w x n aY ys) (h63:xs.length+ys.length<=9223372036854775807) (CZ:(xs.length+ys.length)*bytes<=140737488355328) {K:Sl->aH->Prop}
  (hK:∀r w',dE w' e n aY r (xs++ys)->aU (λk=>∃a,s.b=some a/\k=a.block) w w'->(r.b=s.b\/∃a,r.b=some a/\w.heap.size<=a.block)->(r.b=none->s.b=none)->K r w'):
  aX P t t s (aW x) w K:=
 Jj hE gI jL hs hx h63 CZ λr w' h1 h2 h3 h4 _=>hK r w' h1 h2 h3 h4
def OP{α:Type}(z:Array Value)(aY:α->gJ)(x:α)(hz:aY x=z.toList)(k:Nat)(hp:0<z.size):(madeCells z (k*z.size)).toList=(List.replicate k x).flatMap aY:=by
 apply yV;intro j;have hl:((List.replicate k x).flatMap aY).length=k*z.size:=by
  clear hp
  induction k with
  |zero=>simp
  |succ k ih=>rw[List.replicate_succ,FU,fN,ih,hz,Array.length_toList,Nat.add_mul];omega
 by_cases hj:j<k*z.size
 ·have hm:j%z.size<z.size:=Nat.mod_lt _ hp;have h1:(madeCells z (k*z.size)).toList[j]? =some z[j%z.size]:=by
   simp[madeCells,hj,hm]
  rw[h1]
  symm
  have:∀k j,j<k*z.size->((List.replicate k x).flatMap aY)[j]? =some (z[j%z.size]'(Nat.mod_lt _ hp)):=by
   intro k
   induction k with
   |zero=>intro j h;omega
   |succ k ih=>
    intro j h;rw[List.replicate_succ,FU,hz]
    by_cases hjz:j<z.size
    ·rw[Gu (by simpa using hjz)];simp[Nat.mod_eq_of_lt hjz,hjz]
    ·rw[Gv (by simp;omega),Array.length_toList,ih _ (by rw[Nat.add_mul] at h;omega)];have:(j-z.size)%z.size=j%z.size:=by rw[<-Nat.mod_eq_sub_mod aB]
     simp only[this]
  exact this k j hj
 ·rw[List.getElem?_eq_none (by simp[madeCells];omega),List.getElem?_eq_none aB]
def wD{α:Type}{P:YZ}{t e:fL}{n bytes:Nat}{z:gJ}(hE:sW P t e n bytes z){aY:α->gJ}(x:α)(hx:aY x=z)(gI:∀x,(aY x).length=n)
  {w:aH} {k k':IntKind} {l c:Int} (h0:0<=l) (hlc:l<=c) (CZ:(bytes:Int)*c<=281474976710656) (h63:c<=9223372036854775807) {K:Sl->aH->Prop}
  (hK:∀w',dE w' e n aY ⟨some ⟨w.heap.size,0,none⟩,l.toNat,c.toNat⟩ (List.replicate l.toNat x)->aL w w'->K ⟨some ⟨w.heap.size,0,none⟩,l.toNat,c.toNat⟩ w'):
  fE P t (.int k l) (.int k' c) w K:=by
 obtain⟨i,zv,hi,hz,rfl,rfl,rfl⟩:=hE.info;have hzs:zv.cells.size=i.size:=by have:=hE.zlen;simpa using this
 refine⟨⟨some ⟨w.heap.size,0,none⟩,l.toNat,c.toNat⟩,_,run_make (P:=P) w t e i zv hE.under hi hz k k' l c h0 hlc CZ h63,hK _ ?_ (aL.alloc w _)⟩;have hct:l.toNat<=c.toNat:=aB;have heq:(madeCells zv.cells (c.toNat*i.size)).toList=(List.replicate l.toNat x).flatMap aY++(List.replicate (c.toNat-l.toNat) x).flatMap aY:=by rw[<-HA,List.replicate_append_replicate,show l.toNat+(c.toNat-l.toNat)=c.toNat by omega,<-hzs];exact OP zv.cells aY x hx _ (by rw[hzs];exact hE.pos)
 refine⟨by simp,hct,by simp only[maxLen];show c.toNat<=_;omega,.inr ⟨w.heap.size,(List.replicate (c.toNat-l.toNat) x).flatMap aY,rfl,?_,?_⟩⟩
 ·rw[<-heq];exact cX.jA w _ e
 ·rw[<-heq,Array.length_toList,size_madeCells]
def pU{P:YZ}{g:FuncId}{T:Tr}(hS:pM P g T)(ko:enters P g=true){first cap:Array Value}{args:gJ}{w:aH}{K:Value->aH->Prop}(h:T (first.toList++args++cap.toList) w K):
  lX P (.func (.func g) first cap) args w K:=by
 refine⟨g,first,cap,rfl,ko,?_⟩
 have:=hS _ w K h;have e:(first.toList++args++cap.toList).toArray=first++args.toArray++cap:=by simp
 rwa[e] at this
def cX.read{w:aH}{g:Nat}{e:fL}{cs:gJ}(h:cX w g e cs){o:Nat}{vs:gJ}(hv:∀j v,vs[j]? =some v->cs[o+j]? =some v):
  ∀j v,vs[j]? =some v->w.cell? ((⟨g,o,none⟩:Addr).add j)=some v:=by
 intro j v hj;rw[aS,h.cell];exact hv j v hj
def NP{P:YZ}{t t' e:fL}{n:Nat}(ht:P.underlying t=some (.slice e))(hn:(P.info? e).map (·.size)=some n){w:aH}{g o dl dc:Nat}{a:Addr}{sl sc:Nat}{eg:fL}{bN cs:gJ}
  (ho:cX w g eg bN) (hl:cs.length=min sl dl*n) (hr:∀j v,cs[j]? =some v->w.cell? (a.add j)=some v) (QT:o+cs.length<=bN.length) (h1:∀v∈cs,v.oneCell'=true) {K:Int->aH->Prop}
  (hK:∀w',cX w' g eg (bN.take o++cs++bN.drop (o+cs.length))->aU (λk=>k=g) w w'->w'.heap.size=w.heap.size->K (min sl dl:Nat) w'):
  RR P t t' ⟨some ⟨g,o,none⟩,dl,dc⟩ (.slice (some a) sl sc) w K:=by
 cases hq:P.info? e with
 |none=>rw[hq] at hn;cases hn
 |some i=>
  have hi:i.size=n:=by simpa [hq] using hn
  subst hi;have hf:=run_firstCells_some (P:=P) w i.size (Nat.min sl dl) a sl sc cs hl hr;have vO:=run_storeCells_at P g o eg cs 0 bN.toArray w ho (by simpa using QT) h1;refine⟨((min sl dl:Nat):Int),_,?_,hK _ (ho.setRow _) (aU.setRow w g _) dP⟩;simp only[Nat.add_zero] at vO;simp[Builtin.copy_,run_underlying ht,Builtin.lenOf,sizeOf,typeInfo,hq,hf,vO]
  rfl
def Jv(z:Array Value)(n:Nat):(Builtin.zeroCells z n).toList.length=n*z.size:=by simp[Builtin.zeroCells]
def Am{P:YZ}{t e:fL}{n bytes:Nat}{z:gJ}(hE:sW P t e n bytes z)(hz1:∀v∈z,v.oneCell'=true){w:aH}{g o l c:Nat}{eg:fL}{bN:gJ}
  (ho:cX w g eg bN) (QT:o+l*n<=bN.length) {K:aH->Prop}
  (hK:∀w' zs,zs.length=l*n->cX w' g eg (bN.take o++zs++bN.drop (o+l*n))->aU (λk=>k=g) w w'->w'.heap.size=w.heap.size->K w'):
  KD P t (.slice (some ⟨g,o,none⟩) l c) w K:=by
 obtain⟨i,zv,hi,hz,rfl,rfl,rfl⟩:=hE.info;have hzs:zv.cells.size=i.size:=by have:=hE.zlen;simpa using this
 by_cases hl:l=0
 ·subst hl;refine⟨(),w,?_,hK w [] dP (by simpa using ho) (aU.refl _ _) rfl⟩;simp[Builtin.clear_,run_underlying hE.under,AD]
 ·have gL:(Builtin.zeroCells zv.cells l).toList.length=l*i.size:=by rw[Jv,hzs]
  have jL:∀v∈(Builtin.zeroCells zv.cells l).toList,v.oneCell'=true:=by
   intro v hv;simp only[Builtin.zeroCells,Array.toList_map,mQ] at hv;obtain⟨j,_,rfl⟩:=hv;have hp:0<zv.cells.size:=by rw[hzs];exact hE.pos
   have hm:j%zv.cells.size<zv.cells.size:=Nat.mod_lt _ hp;rw[getElem!_pos zv.cells _ hm];exact hz1 _ dP
  have vO:=run_storeCells_at P g o eg (Builtin.zeroCells zv.cells l).toList 0 bN.toArray w ho (by rw[gL];simpa using QT) jL;rw[gL] at vO;refine⟨(),_,?_,hK _ (Builtin.zeroCells zv.cells l).toList gL (ho.setRow _) (aU.setRow w g _) dP⟩;simp only[Nat.add_zero] at vO;obtain⟨l',rfl⟩:∃m,l=m+1:=⟨l-1,aB⟩;simp[Builtin.clear_,run_underlying hE.under,zeroValue,typeInfo,hi,hz,vO,AD]
def qm{α:Type}(z:Array Value)(aY:α->gJ)(x:α)(hz:aY x=z.toList)(k:Nat)(hp:0<z.size):(Builtin.zeroCells z k).toList=(List.replicate k x).flatMap aY:=OP z aY x hz k hp
def Vb{α:Type}{P:YZ}{t ti e:fL}{n bytes:Nat}{z:gJ}(hE:sW P t e n bytes z)(hti:P.underlying ti=some (.int .i64)){aY:α->gJ}(x:α)(hx:aY x=z)(gI:∀x,(aY x).length=n)
  {w:aH} {s:Sl} {xs:List α} (hs:Rd w s n aY xs) {k:Nat} (hk:s.c<xs.length+k) (h63:xs.length+k<=9223372036854775807) (CZ:(xs.length+k)*bytes<=140737488355328) {K:Sl->aH->Prop}
  (hK:∀r w',dE w' e n aY r (xs++List.replicate k x)->aL w w'->(∃a,r.b=some a/\w.heap.size<=a.block)->K r w'):aX P t ti s (.int .i64 (k:Int)) w K:=by
 obtain⟨i,zv,hi,hz,rfl,rfl,rfl⟩:=hE.info;obtain⟨sb,sl,sc⟩:=s;have RA:sl=xs.length:=hs.len;have hsc:sc<sl+k:=by rw[RA];exact hk
 have hzs:zv.cells.size=i.size:=by have:=hE.zlen;simpa using this
 have kF:=grownCap_ge w (sl+k) sc e;have hcm:grownCap w (sl+k) sc e<=maxLen:=grownCap_le_maxLen w (sl+k) sc e (by simp only[maxLen];omega);have hold:(Builtin.firstCells i.size sl (.slice sb sl sc)).run P w.drew=.ok (xs.flatMap aY).toArray w.drew:=by
  cases sb with
  |none=>
   have Wv:xs=[]:=by
    cases xs with
    |nil=>rfl
    |cons y r=>obtain⟨a,ha,_⟩:=hs.get 0 y rfl;cases ha
   subst Wv;simp[Builtin.firstCells]
  |some a=>exact run_firstCells_some (P:=P) w.drew i.size sl a sl sc (xs.flatMap aY) (by rw[bF gI,RA]) (λj v hj=>by simpa using qG hs gI (a:=a) rfl j v hj)
 have hnk:(Builtin.zeroCells zv.cells k).toList=(List.replicate k x).flatMap aY:=qm zv.cells aY x hx k (by rw[hzs];exact hE.pos);have hkw:IntKind.i64.wrap (k:Int)=(k:Int):=w64n k aB;have hkb:¬(281474976710656<(k:Int)*(i.bytes:Int)):=by have h1:k*i.bytes<=(xs.length+k)*i.bytes:=QR _ aB;have h2:((k*i.bytes:Nat):Int)<=140737488355328:=aB;rw[Int.natCast_mul] at h2;omega
 have h48:¬(281474976710656<Builtin.nextslicecap (sl+k) sc*i.bytes):=by have:=growslice_fits (need:=sl+k) (old:=sc) (bytes:=i.bytes) hsc (by rw[RA];exact CZ);omega
 have HM:¬(sl+k<=sc):=aB;have uJ:¬(k*i.size=0):=by
  have hk0:0<k:=by have:=hs.cap;simp only at this;omega
  have:=Nat.mul_pos hk0 hE.pos;omega
 have h63':¬(9223372036854775807<(sl:Int)+(k:Int)):=aB;refine⟨(⟨some ⟨w.heap.size,0,none⟩,sl+k,grownCap w (sl+k) sc e⟩:Sl),w.drew.alloc (.cells ((xs.flatMap aY).toArray++Builtin.zeroCells zv.cells k++Builtin.zeroCells zv.cells (grownCap w (sl+k) sc e-(sl+k))) e),?_,hK _ _ ⟨?_,kF,hcm,.inr ⟨w.heap.size,(Builtin.zeroCells zv.cells (grownCap w (sl+k) sc e-(sl+k))).toList,rfl,?_,?_⟩⟩ ((aU.refl _ w).drew.alloc _) ⟨_,rfl,dN _⟩⟩
 ·have FW:¬((k:Int)<0):=aB;simp[Builtin.append_,run_underlying hE.under,run_underlying hti,sizeOf,typeInfo,zeroValue,hi,hz,asInt,asIntOf,hkw,hkb,HM,h63',h48,Question.forced,hold,FW,uJ,newRow,grownCap,oU.aY,CK.aY]
 ·simp[RA]
 ·have:=cX.jA w.drew ((xs.flatMap aY).toArray++Builtin.zeroCells zv.cells k++Builtin.zeroCells zv.cells (grownCap w (sl+k) sc e-(sl+k))) e;simpa [sV,hnk] using this
 ·rw[fN,bF gI,Jv,hzs,fN,List.length_replicate,<-RA,<-Nat.add_mul];congr 1;show sl+k+(grownCap w (sl+k) sc e-(sl+k))=grownCap w (sl+k) sc e;omega
def pF(b:cW)(c n:Nat):aR b c 0 n=b:=by
 unfold aR
 split
 ·rfl
 ·cases b with
  |none=>rfl
  |some a=>simp[Addr.add]
def lY{g c l n:Nat}(h:l<c):aR (some ⟨g,0,none⟩) c l n=some ⟨g,l*n,none⟩:=by
 unfold aR;rw[if_neg aB];simp[aS]
def Py{α:Type}{aY:α->gJ}{n:Nat}(gI:∀x,(aY x).length=n)(xs:List α)(R:gJ)(i:Nat)(hi:i<=xs.length):(xs.flatMap aY++R).take (i*n)=(xs.take i).flatMap aY:=by
 have h1:xs.flatMap aY=(xs.take i).flatMap aY++(xs.drop i).flatMap aY:=by rw[<-HA,Mo]
 have h2:((xs.take i).flatMap aY).length=i*n:=by rw[bF gI,rA,Nat.min_eq_left hi]
 rw[h1,sV,<-h2,List.take_left]
def flat_drop{α:Type}{aY:α->gJ}{n:Nat}(gI:∀x,(aY x).length=n)(xs:List α)(R:gJ)(i:Nat)(hi:i<=xs.length):(xs.flatMap aY++R).drop (i*n)=(xs.drop i).flatMap aY++R:=by
 have h1:xs.flatMap aY=(xs.take i).flatMap aY++(xs.drop i).flatMap aY:=by rw[<-HA,Mo]
 have h2:((xs.take i).flatMap aY).length=i*n:=by rw[bF gI,rA,Nat.min_eq_left hi]
 conv=>lhs;rw[h1,sV,<-h2,List.drop_left]
def db{P:YZ}{f:FuncId}{fn:Func}{t tR e:fL}{n:Nat}(hf:P.funcs[f]? =some fn)(hname:(fn.name== "runtime.NumGoroutine")=false) (hb:fn.body.isNone=true) (hn:Extern.findNext fn=none)
  (he:Extern.find fn=some (Extern.SlicesOverlaps.overlaps #[t,t] #[tR])) (ht:P.underlying t=some (.slice e)) (hz:(P.info? e).map (·.size)=some n) {w:aH} {ga gb oa ob la ca lb cb:Nat} {ea eb:fL} {ca' cb':gJ}
  (ha:cX w ga ea ca') (bW:cX w gb eb cb') (gQ:ga≠gb) (uJ:cb'.length≠0) {K:Bool->aH->Prop} (hK:K false w):
  extD P (.c .bool) f [.slice (some ⟨ga,oa,none⟩) la ca,.slice (some ⟨gb,ob,none⟩) lb cb] w K:=by
 have QK:∀w,(sizeOf e).run P w=.ok n w:=λw=>by
  cases hq:P.info? e with
  |none=>rw[hq] at hz;cases hz
  |some i=>rw[hq] at hz;cases hz;exact zQ hq w
 refine⟨false,w,?_,hK⟩;have hsa:w.shape? ga=some (ea,ca'.toArray.size):=by unfold World.shape?;rw[show w.heap[ga]? =_ from ha]
 have hsb:w.shape? gb=some (eb,cb'.toArray.size):=by unfold World.shape?;rw[show w.heap[gb]? =_ from bW]
 have fz:∀o,w.frozen? ⟨ga,o,none⟩=false:=λo=>by unfold World.frozen?;rw[show w.heap[ga]? =_ from ha];simp
 rw[run_callFunc_extern hf hname hb hn he,Lib.run_overlaps_apart w t tR e ht n QK ⟨ga,oa,none⟩ ⟨gb,ob,none⟩ la ca lb cb gQ ea eb _ _ hsa hsb (by simpa using uJ) (fz _) (fz _)]
 rfl
end Go.Den
namespace Go.Den
open Go Go.MapKept
section
structure RU{K:Type}(P:YZ)(kt:fL)(ek:K->Value):Prop where
 check:∀(e:Bool) (x:K) (w:aH),(Instr.checkKey e 10000 kt (ek x)).run P w=.ok () w
 find:∀(x:K) (w:aH) (l:List MapEntry) (ks:List K),l.map (·.key)=ks.map ek->
  (x∉ks/\(Instr.findKey kt (ek x) l).run P w=.ok none w)\/∃j e,ks[j]? =some x/\l[j]? =some e/\(Instr.findKey kt (ek x) l).run P w=.ok (some (j,e.val)) w
 stays:∀x:K,Instr.sameBits 10000 (ek x) (ek x)=true
def keyOk_int{P:YZ}{kt:fL}{k:IntKind}(hd:P.underlying kt=some (.int k)):RU P kt (λn:Int=>.int k n) where
 check e x w:=run_checkKey hd (by simp[IsKey]) e 9999
 find x w l ks h:=by
  have hk:∀e∈l,IsKey (.int k) e.key:=λe he=>by
   have:e.key∈ks.map (λn:Int=>Value.int k n):=h▸mQ.2 ⟨e,he,rfl⟩;obtain⟨n,_,hn⟩:=mQ.1 this;rw[<-hn];simp[IsKey]
  rcases findNow_spec (d:=.int k) (k:=.int k x) (by simp[IsKey]) l 0 hk with⟨h1,h2⟩|⟨j,e,h1,h2,h3⟩
  ·refine .inl ⟨λhx=>?_,run_findKey hd h1⟩;have:(Value.int k x)∈l.map (·.key):=h▸mQ.2 ⟨x,hx,rfl⟩;obtain⟨e,he,he2⟩:=mQ.1 this;exact h2 e he he2
  ·rw[gK] at h1;refine .inr ⟨j,e,?_,h2,run_findKey hd h1⟩;have:(l.map (·.key))[j]? =some (.int k x):=by rw[oG,h2];simp[h3]
   rw[h,oG] at this;cases hj:ks[j]? with
   |none=>rw[hj] at this;cases this
   |some n=>rw[hj] at this;simp at this;rw[this]
 stays x:=by simp[Instr.sameBits]
def Zu(kn:oU)(x:kn.T)(b:Bool):AD [kn,.c .bool] (x,b,())=[kn.aY x,.bool b]:=rfl
def xE{K V:Type}[DecidableEq K]:List (K×V)->K->Option V
 | [],_=>none
 |p::r,x=>if p.1=x then some p.2 else xE r x
def ID{K V:Type}[DecidableEq K]:∀{l:List (K×V)} {x:K},x∉l.map (·.1)->xE l x=none
 | [],_,_=>rfl
 |p::r,x,h=>by
  simp at h;unfold xE;rw[if_neg (λe=>h.1 e.symm),ID (by simpa using h.2)]
def Ai{K V:Type}[DecidableEq K]:∀{l:List (K×V)} {x:K} {v:V} {j:Nat},(l.map (·.1)).Nodup->l[j]? =some (x,v)->xE l x=some v
 | [],_,_,j,_,h=>by simp at h
 |p::r,x,v,0,_,h=>by simp at h;subst h;simp[xE]
 |p::r,x,v,j+1,hn,h=>by
  simp at h hn;unfold xE;have:p.1≠x:=λe=>hn.1 v (by rw[e];exact kR h);rw[if_neg this];exact Ai (by simpa using hn.2) h
def HU{K V:Type}[DecidableEq K]:∀{l:List (K×V)} {x:K},(xE l x).isSome=true↔x∈l.map (·.1)
 | [],_=>by simp[xE]
 |p::r,x=>by
  unfold xE
  by_cases h:p.1=x
  ·simp[h]
  ·rw[if_neg h,HU];simp[Ne.symm h]
def QW(es:Array MapEntry)(LN:Nat):Prop:=(∀e∈es.toList,e.born<LN)/\(es.toList.map (·.born)).Nodup
def kT{K:Type}[DecidableEq K](w:aH)(r:Nat)(ek:K->Value)(kn:oU)(f:K->Option kn.T)(n:Nat):Prop:=
 ∃(es:Array MapEntry) (LN:Nat) (l:List (K×kn.T)),w.heap[r]? =some (.map es LN)/\es.toList.map (·.key)=l.map (λp=>ek p.1)/\es.toList.map (·.val)=l.map (λp=>kn.aY p.2)/\(l.map (·.1)).Nodup/\(∀x,f x=xE l x)/\l.length=n/\QW es LN
section
variable{K:Type}[DecidableEq K]{P:YZ}{w:aH}{r:Nat}{ek:K->Value}{kn:oU}{f:K->Option kn.T}{n:Nat}
def kT.lt(h:kT w r ek kn f n):r<w.heap.size:=by obtain⟨es,c,l,h1,_⟩:=h;exact(Array.getElem?_eq_some_iff.1 h1).1
def kT.aK{F:Nat->Prop}{w':aH}(h:kT w r ek kn f n)(hm:aU F w w')(hF:¬F r):kT w' r ek kn f n:=by
 have hl:=h.lt;obtain⟨es,c,l,h1,h2⟩:=h;exact⟨es,c,l,(hm.block r hl hF).trans h1,h2⟩
def kT.congr{g:K->Option kn.T}{m:Nat}(h:kT w r ek kn f n)(hg:∀x,g x=f x)(hm:m=n):kT w r ek kn g m:=by
 obtain⟨es,c,l,h1,h2,h3,h4,h5,h6,hB⟩:=h;exact⟨es,c,l,h1,h2,h3,h4,λx=>(hg x).trans (h5 x),h6.trans hm.symm,hB⟩
def kT.Xi(h:kT w r ek kn f n):∃ks:List K,ks.Nodup/\ks.length=n/\∀x,x∈ks↔(f x).isSome=true:=by
 obtain⟨es,c,l,h1,h2,h3,h4,h5,h6,hB⟩:=h;exact⟨l.map (·.1),h4,by simpa using h6,λx=>by rw[h5 x,HU]⟩
def kT.new(w:aH)(ek:K->Value)(kn:oU):kT (w.alloc (.map #[] 0)) w.heap.size ek kn (λ_=>none) 0:=
 ⟨#[],0,[],heap_alloc_new w _,rfl,rfl,List.nodup_nil,λ_=>rfl,rfl,by simp,List.nodup_nil⟩
def kT.find{kt:fL}(hk:RU P kt ek)(h:kT w r ek kn f n)(x:K)(w':aH):∃(es:Array MapEntry) (LN:Nat) (l:List (K×kn.T)),w.heap[r]? =some (.map es LN)/\es.toList.map (·.key)=l.map (λp=>ek p.1)/\es.toList.map (·.val)=l.map (λp=>kn.aY p.2)/\(l.map (·.1)).Nodup/\(∀x,f x=xE l x)/\l.length=n/\QW es LN/\
  ((x∉l.map (·.1)/\f x=none/\(Instr.findKey kt (ek x) es.toList).run P w'=.ok none w')\/∃j v,f x=some v/\l[j]? =some (x,v)/\j<es.size/\(es.toList[j]?).map (·.key)=some (ek x)/\(Instr.findKey kt (ek x) es.toList).run P w'=.ok (some (j,kn.aY v)) w'):=by
 obtain⟨es,c,l,h1,h2,h3,h4,h5,h6,hB⟩:=h;refine⟨es,c,l,h1,h2,h3,h4,h5,h6,hB,?_⟩;rcases hk.find x w' es.toList (l.map (·.1)) (by rw[h2,List.map_map];rfl) with⟨g1,g2⟩|⟨j,e,g1,g2,g3⟩
 ·exact .inl ⟨g1,by rw[h5,ID g1],g2⟩
 ·right;rw[oG] at g1;cases hj:l[j]? with
  |none=>rw[hj] at g1;cases g1
  |some p=>
   rw[hj] at g1;have hp:p.1=x:=by simpa using g1
   obtain⟨y,v⟩:=p;simp only at hp;subst hp;have hv:e.val=kn.aY v:=by
    have:(es.toList.map (·.val))[j]? =some e.val:=by rw[oG,g2];rfl
    rw[h3,oG,hj] at this;simpa using this.symm
   have uK:(es.toList[j]?).map (·.key)=some (ek y):=by
    have:(es.toList.map (·.key))[j]? =some (ek y):=by rw[h2,oG,hj];rfl
    rwa[oG] at this
   refine⟨j,v,by rw[h5,Ai h4 hj],hj,by simpa using(eR.1 g2).1,uK,by rw[<-hv];exact g3⟩
def rN{Q:Nat->aH->Prop}(hQ:kT (w.alloc (.map #[] 0)) w.heap.size ek kn (λ_=>none) 0->aL w (w.alloc (.map #[] 0))->Q w.heap.size (w.alloc (.map #[] 0))):sD w Q:=hQ (kT.new w ek kn) (aL.alloc w _)
def PL{kt et:fL}{t:fL}(ht:P.underlying t=some (.map kt et))(hk:RU P kt ek){z:kn.T}(hz:(P.info? et).map (·.zero)=some (some (kn.aY z)))(h:kT w r ek kn f n)(x:K){Q:kn.T->Bool->aH->Prop}
  (hQ:Q ((f x).getD z) (f x).isSome w):HV P kn t (.map (some r)) (ek x) w Q:=by
 obtain⟨es,c,l,h1,h2,h3,h4,h5,h6,hB,hf⟩:=h.find hk x w;have hzv:(zeroValue et).run P w=.ok (kn.aY z) w:=by
  cases hq:P.info? et with
  |none=>rw[hq] at hz;cases hz
  |some i=>rw[hq] at hz;simp at hz;simp[zeroValue,typeInfo,hq,hz]
 rcases hf with⟨_,g,qO⟩|⟨j,v,g,_,_,_,qO⟩
 ·rw[g] at hQ;exact⟨(z,false,()),w,by simp[Instr.lookup,run_underlying ht,MapKept.run_getObj_map h1,hk.check,qO,hzv,Zu],hQ⟩
 ·rw[g] at hQ;exact⟨(v,true,()),w,by simp[Instr.lookup,run_underlying ht,MapKept.run_getObj_map h1,hk.check,qO,Zu],hQ⟩
def BZ{kt et:fL}{t:fL}(ht:P.underlying t=some (.map kt et))(hk:RU P kt ek){z:kn.T}(hz:(P.info? et).map (·.zero)=some (some (kn.aY z)))(h:kT w r ek kn f n)(x:K){Q:kn.T->aH->Prop}
  (hQ:Q ((f x).getD z) w):nK P kn t (.map (some r)) (ek x) w Q:=by
 obtain⟨es,c,l,h1,h2,h3,h4,h5,h6,hB,hf⟩:=h.find hk x w;have hzv:(zeroValue et).run P w=.ok (kn.aY z) w:=by
  cases hq:P.info? et with
  |none=>rw[hq] at hz;cases hz
  |some i=>rw[hq] at hz;simp at hz;simp[zeroValue,typeInfo,hq,hz]
 rcases hf with⟨_,g,qO⟩|⟨j,v,g,_,_,_,qO⟩
 ·rw[g] at hQ;exact⟨z,w,by simp[Instr.lookup,run_underlying ht,MapKept.run_getObj_map h1,hk.check,qO,hzv],hQ⟩
 ·rw[g] at hQ;exact⟨v,w,by simp[Instr.lookup,run_underlying ht,MapKept.run_getObj_map h1,hk.check,qO],hQ⟩
def Zk{kt et:fL}{t:fL}(ht:P.underlying t=some (.map kt et))(h:kT w r ek kn f n){Q:Int->aH->Prop}(hQ:Q (n:Int) w):Fk P t (.map (some r)) w Q:=by
 obtain⟨es,c,l,h1,h2,h3,h4,h5,h6,hB⟩:=h;have hs:es.size=n:=by rw[<-h6];have:=congrArg List.length h2;simpa using this
 exact⟨(n:Int),w,by simp[Builtin.len_,run_underlying ht,MapKept.run_getObj_map h1,goInt,hs,oU.aY,CK.aY],hQ⟩
def OO(es:Array MapEntry)(i:Nat)(k v:Value)(hk:(es.toList[i]?).map (·.key)=some k):(es.modify i λe=>{e with key:=k,val:=v}).toList.map (·.key)=es.toList.map (·.key):=by
 apply yV;intro j;simp only[oG,Array.toList_modify,List.getElem?_modify]
 by_cases hj:i=j
 ·subst hj;cases he:es.toList[i]? with
  |none=>rfl
  |some e=>rw[he] at hk;simp at hk;simp[hk]
 ·simp[hj]
def ON(es:Array MapEntry)(i:Nat)(k v:Value):(es.modify i λe=>{e with key:=k,val:=v}).toList.map (·.val)=(es.toList.map (·.val)).set i v:=by
 apply yV;intro j;simp only[oG,Array.toList_modify,List.getElem?_modify,jC]
 by_cases hj:i=j
 ·subst hj
  by_cases cD:i<es.toList.length
  ·have h2:i<es.size:=by simpa using cD
   simp[h2]
  ·rw[List.getElem?_eq_none aB];simp at cD;simp;omega
 ·simp[hj]
def XS{V:Type}:∀{l:List (K×V)} {j:Nat} {x:K} {v:V},(l.map (·.1)).Nodup->(l[j]?).map (·.1)=some x->∀y,xE (l.set j (x,v)) y=if y=x then some v else xE l y
 | [],j,x,v,_,h,_=>by simp at h
 |p::r,0,x,v,hn,h,y=>by
  simp at h;simp only[List.set_cons_zero,xE]
  by_cases hy:y=x
  ·simp[hy]
  ·rw[if_neg (λe=>hy e.symm),if_neg hy,h,if_neg (λe=>hy e.symm)]
 |p::r,j+1,x,v,hn,h,y=>by
  simp only[List.getElem?_cons_succ] at h;simp only[Dg,List.nodup_cons] at hn;simp only[List.set_cons_succ,xE];have hx:x∈r.map (·.1):=by
   cases hj:r[j]? with
   |none=>rw[hj] at h;cases h
   |some q=>rw[hj] at h;simp at h;rw[<-h];exact mQ.2 ⟨q,kR hj,rfl⟩
  have hpx:p.1≠x:=λe=>hn.1 (e▸hx);rw[XS hn.2 h y]
  by_cases hy:y=x
  ·subst hy;simp[hpx]
  ·simp[hy]
def EU{V:Type}:∀{l:List (K×V)} {x:K} {v:V},x∉l.map (·.1)->∀y,xE (l++[(x,v)]) y=if y=x then some v else xE l y
 | [],x,v,_,y=>by
  simp only[List.nil_append,xE]
  by_cases h:y=x
  ·simp[h]
  ·rw[if_neg (λe=>h e.symm),if_neg h]
 |p::r,x,v,hn,y=>by
  simp only[Dg,jQ,not_or] at hn;simp only[List.cons_append,xE];rw[EU hn.2 y]
  by_cases hy:y=x
  ·subst hy;rw[if_neg (λe=>hn.1 e.symm)];simp
  ·simp[hy]
def QW.push{es:Array MapEntry}{c:Nat}(h:QW es c)(k v:Value):QW (es.push {key:=k,val:=v,born:=c}) (c+1):=by
 obtain⟨h1,h2⟩:=h;refine⟨λe he=>?_,?_⟩
 ·simp only[Array.toList_push,kK,mR] at he;rcases he with he|rfl
  ·have:=h1 e he;omega
  ·exact Nat.lt_succ_self _
 ·simp only[Array.toList_push,xF,Dg,List.map_nil];rw[List.nodup_append];refine⟨h2,by simp,λa ha b hb=>?_⟩;simp at hb;subst hb;obtain⟨e,he,rfl⟩:=mQ.1 ha;have:=h1 e he;omega
def eh(es:Array MapEntry)(i:Nat)(F:MapEntry->MapEntry)(hF:∀e,(F e).born=e.born):(es.modify i F).toList.map (·.born)=es.toList.map (·.born):=by
 apply yV;intro j;simp only[oG,Array.toList_modify,List.getElem?_modify]
 by_cases hj:i=j
 ·subst hj;cases es.toList[i]? with
  |none=>rfl
  |some e=>simp[hF]
 ·simp[hj]
def QW.modify{es:Array MapEntry}{c:Nat}(h:QW es c)(i:Nat)(F:MapEntry->MapEntry)(hF:∀e,(F e).born=e.born):QW (es.modify i F) c:=by
 have hb:=eh es i F hF;refine⟨λe he=>?_,by rw[hb];exact h.2⟩;have:e.born∈es.toList.map (·.born):=hb▸mQ.2 ⟨e,he,rfl⟩;obtain⟨e',vI,e1⟩:=mQ.1 this;rw[<-e1];exact h.1 e' vI
def QW.erase{es:Array MapEntry}{c:Nat}(h:QW es c)(i:Nat):QW (es.eraseIdxIfInBounds i) c:=by
 have hs:(es.eraseIdxIfInBounds i).toList.Sublist es.toList:=by
  unfold Array.eraseIdxIfInBounds
  split
  ·simp only[Array.toList_eraseIdx];exact List.eraseIdx_sublist _ _
  ·exact List.Sublist.refl _
 exact⟨λe he=>h.1 e (hs.subset he),h.2.sublist (hs.map _)⟩
def QW.find{es:Array MapEntry}{c:Nat}(h:QW es c){i:Nat}{e:MapEntry}(he:es.toList[i]? =some e):es.findIdx? (λx=>(x.born:Int)==(e.born:Int))=some i:=by
 obtain⟨l⟩:=es;rw[List.findIdx?_toArray,List.findIdx?_eq_some_iff_getElem];have hi:=(eR.1 he).1;have hg:l[i]=e:=(eR.1 he).2;refine⟨hi,by rw[hg];simp,λj hj=>?_⟩;have hn:=h.2;simp only at hn;have dL:i<l.length:=hi;have rD:j<l.length:=aB;have gQ:l[j].born≠l[i].born:=λe'=>by
  have:=Xg.1 hn j i (by simp;omega) (by simpa using hi) hj;simp at this;exact this e'
 rw[hg] at gQ;simp;omega
def lK(w:aH)(r:Nat)(o:Obj):aU (λk=>k=r) w {w with heap:=w.heap.setIfInBounds r o}:=
 ⟨rfl,rfl,rfl,by simp,λk _ hk=>by simp[Ne.symm hk]⟩
def XM{kt et:fL}{t:fL}(ht:P.underlying t=some (.map kt et))(hk:RU P kt ek)(h:kT w r ek kn f n)(x:K)(v:kn.T){Q:aH->Prop}
  (hQ:∀w',kT w' r ek kn (λy=>if y=x then some v else f y) (if(f x).isSome then n else n+1)->aU (λk=>k=r) w w'->w'.heap.size=w.heap.size->Q w'):gP P t (.map (some r)) (ek x) (kn.aY v) w Q:=by
 obtain⟨es,c,l,h1,h2,h3,h4,h5,h6,hB,hf⟩:=h.find hk x w;rcases hf with⟨hx,g,qO⟩|⟨j,u,g,hj,hjs,uK,qO⟩
 ·refine⟨{w with heap:=w.heap.setIfInBounds r (.map (es.push {key:=ek x,val:=kn.aY v,born:=c}) (c+1))},by simp[Instr.mapUpdate,run_underlying ht,MapKept.run_getObj_map h1,hk.check,qO,run_setObj_map _ h1],hQ _ ?_ (lK w r _) dP⟩;refine⟨_,_,l++[(x,v)],(heap_set h1).1,by simp[h2],by simp[h3],?_,λy=>?_,by rw[g];simp[h6],hB.push _ _⟩
  ·rw[xF,List.nodup_append];exact⟨h4,by simp,λa ha b hb=>by simp at hb;subst hb;exactλe=>hx (e▸ha)⟩
  ·show(if y=x then some v else f y)=_
   rw[EU hx y,h5]
 ·obtain⟨e,he⟩:∃e,es.toList[j]? =some e:=⟨_,cL (by simpa using hjs)⟩;have hek:e.key=ek x:=by rw[he] at uK;simpa using uK
  have hea:es[j]? =some e:=by simpa using he
  refine⟨{w with heap:=w.heap.setIfInBounds r (.map (es.modify j λe=>{e with key:=ek x,val:=kn.aY v}) c)},by simp[Instr.mapUpdate,run_underlying ht,MapKept.run_getObj_map h1,hk.check,qO,run_setObj_map _ h1,Instr.keyThatStays,hea,hek,hk.stays],hQ _ ?_ (lK w r _) dP⟩;refine⟨_,_,l.set j (x,v),(heap_set h1).1,?_,?_,?_,λy=>?_,by rw[g];simp[h6],hB.modify j (λe=>{e with key:=ek x,val:=kn.aY v}) λ_=>rfl⟩
  ·rw[OO es j _ _ uK,h2];apply yV;intro i;simp only[oG,jC]
   by_cases hi:j=i
   ·subst hi;have cD:=(eR.1 hj).1;rw[hj];simp[cD]
   ·simp[hi]
  ·rw[ON,h3,List.map_set]
  ·have:(l.set j (x,v)).map (·.1)=l.map (·.1):=by
    apply yV;intro i;simp only[oG,jC]
    by_cases hi:j=i
    ·subst hi;have cD:=(eR.1 hj).1;rw[hj];simp[cD]
    ·simp[hi]
   rw[this];exact h4
  ·show(if y=x then some v else f y)=_
   rw[XS h4 (by rw[hj];rfl) y,h5]
def dh(es:Array MapEntry)(i:Nat)(v:Value):(es.modify i λe=>{e with val:=v}).toList.map (·.key)=es.toList.map (·.key):=by
 apply yV;intro j;simp only[oG,Array.toList_modify,List.getElem?_modify]
 by_cases hj:i=j
 ·subst hj;cases es.toList[i]?<;>simp
 ·simp[hj]
def dg(es:Array MapEntry)(i:Nat)(v:Value):(es.modify i λe=>{e with val:=v}).toList.map (·.val)=(es.toList.map (·.val)).set i v:=by
 apply yV;intro j;simp only[oG,Array.toList_modify,List.getElem?_modify,jC]
 by_cases hj:i=j
 ·subst hj
  by_cases cD:i<es.toList.length
  ·have h2:i<es.size:=by simpa using cD
   simp[h2]
  ·rw[List.getElem?_eq_none aB];simp at cD;simp;omega
 ·simp[hj]
def di(es:Array MapEntry)(i:Nat)(k:Value):(es.modify i λe=>{e with key:=k}).toList.map (·.val)=es.toList.map (·.val):=by
 apply yV;intro j;simp only[oG,Array.toList_modify,List.getElem?_modify]
 by_cases hj:i=j
 ·subst hj;cases es.toList[i]?<;>simp
 ·simp[hj]
def dj(es:Array MapEntry)(i:Nat)(k:Value)(hk:(es.toList[i]?).map (·.key)=some k):(es.modify i λe=>{e with key:=k}).toList.map (·.key)=es.toList.map (·.key):=by
 apply yV;intro j;simp only[oG,Array.toList_modify,List.getElem?_modify]
 by_cases hj:i=j
 ·subst hj;cases he:es.toList[i]? with
  |none=>rfl
  |some e=>rw[he] at hk;simp at hk;simp[hk]
 ·simp[hj]
omit [DecidableEq K] in
def Ce{V:Type}{l:List (K×V)}{j:Nat}{x:K}{u:V}(v:V)(hj:l[j]? =some (x,u)):(l.set j (x,v)).map (·.1)=l.map (·.1):=by
 apply yV;intro i;simp only[oG,jC]
 by_cases hi:j=i
 ·subst hi;have cD:=(eR.1 hj).1;rw[hj];simp[cD]
 ·simp[hi]
def YO{t:fL}{es:Array MapEntry}{c:Nat}{l:List (K×kn.T)}(h1:w.heap[r]? =some (.map es c))(h2:es.toList.map (·.key)=l.map (λp=>ek p.1))(h3:es.toList.map (·.val)=l.map (λp=>kn.aY p.2))(h4:(l.map (·.1)).Nodup)(hB:QW es c)
  {j:Nat} {x:K} {u:kn.T} {e:MapEntry} (hj:l[j]? =some (x,u)) (he:es.toList[j]? =some e) (v:kn.T) {Q:aH->Prop}
  (hQ:∀w',kT w' r ek kn (λy=>if y=x then some v else xE l y) l.length->aU (λk=>k=r) w w'->w'.heap.size=w.heap.size->Q w'):vB P t (.map (some r)) (.int .i64 (e.born:Int)) (kn.aY v) w Q:=by
 have hfi:=hB.find he;refine⟨{w with heap:=w.heap.setIfInBounds r (.map (es.modify j λe=>{e with val:=kn.aY v}) c)},by simp[Instr.entryStore,MapKept.run_getObj_map h1,asInt,asIntOf,hfi,run_setObj_map _ h1],hQ _ ?_ (lK w r _) dP⟩;exact⟨_,_,l.set j (x,v),(heap_set h1).1,by have e1:=congrArg (List.map ek) (Ce v hj);rw[List.map_map,List.map_map] at e1;rw[dh,h2];exact e1.symm,by rw[dg,h3,List.map_set],by rw[Ce v hj];exact h4,
  λy=>by rw[XS h4 (by rw[hj];rfl) y],by simp,hB.modify j (λe=>{e with val:=kn.aY v}) λ_=>rfl⟩
def Ui{kt et:fL}{t:fL}(ht:P.underlying t=some (.map kt et))(hk:RU P kt ek){z:kn.T}(hz:(P.info? et).map (·.zero)=some (some (kn.aY z)))(h:kT w r ek kn f n)(x:K)(v:kn.T){Q:aH->Prop}
  (hQ:∀w',kT w' r ek kn (λy=>if y=x then some v else f y) (if(f x).isSome then n else n+1)->aU (λk=>k=r) w w'->w'.heap.size=w.heap.size->Q w'):
  IE P kn t (.map (some r)) (ek x) w λ_ sl w3=>vB P t (.map (some r)) (.int .i64 sl) (kn.aY v) w3 Q:=by
 obtain⟨es,c,l,h1,h2,h3,h4,h5,h6,hB,hf⟩:=h.find hk x w;have hzv:(zeroValue et).run P w=.ok (kn.aY z) w:=by
  cases hq:P.info? et with
  |none=>rw[hq] at hz;cases hz
  |some i=>rw[hq] at hz;simp at hz;simp[zeroValue,typeInfo,hq,hz]
 have two:∀(x:kn.T) (b:Int),AD [kn,.c (.int .i64)] (x,b,())=[kn.aY x,.int .i64 b]:=λ_ _=>rfl;have QK:es.size=l.length:=by have:=congrArg List.length h2;simpa using this
 rcases hf with⟨hx,g,qO⟩|⟨j,u,g,hj,hjs,uK,qO⟩
 ·have MA:=(heap_set (o':=.map (es.push {key:=ek x,val:=kn.aY z,born:=c}) (c+1)) h1).1;refine⟨(z,(c:Int),()),{w with heap:=w.heap.setIfInBounds r (.map (es.push {key:=ek x,val:=kn.aY z,born:=c}) (c+1))},by simp[Instr.mapEntry,run_underlying ht,MapKept.run_getObj_map h1,hk.check,qO,hzv,run_setObj_map _ h1,two,goInt],?_⟩;refine YO (ek:=ek) (e:={key:=ek x,val:=kn.aY z,born:=c}) (l:=l++[(x,z)]) (j:=l.length) (x:=x) (u:=z) MA (by simp[h2]) (by simp[h3]) ?_ (hB.push _ _) dP (by simp[QK]) v λw' Wy hmod hs=>?_
  ·rw[xF,List.nodup_append];exact⟨h4,by simp,λa ha b hb=>by simp at hb;subst hb;exactλe=>hx (e▸ha)⟩
  ·refine hQ w' (Wy.congr (λy=>?_) (by rw[g];simp[h6])) ((lK w r _).tr hmod) (hs.trans dP);show(if y=x then some v else f y)=if y=x then some v else xE (l++[(x,z)]) y
   rw[EU hx y,h5]
   by_cases hy:y=x<;>simp[hy]
 ·obtain⟨e,he⟩:∃e,es.toList[j]? =some e:=⟨_,cL (by simpa using hjs)⟩;have hek:e.key=ek x:=by rw[he] at uK;simpa using uK
  have hea:es[j]? =some e:=by simpa using he
  have MA:=(heap_set (o':=.map (es.modify j λe=>{e with key:=ek x}) c) h1).1;refine⟨(u,(e.born:Int),()),{w with heap:=w.heap.setIfInBounds r (.map (es.modify j λe=>{e with key:=ek x}) c)},by simp[Instr.mapEntry,run_underlying ht,MapKept.run_getObj_map h1,hk.check,qO,run_setObj_map _ h1,Instr.keyThatStays,hea,hek,hk.stays,two,goInt],?_⟩;refine YO (ek:=ek) (es:=es.modify j λe=>{e with key:=ek x}) (e:={e with key:=ek x}) (l:=l) (j:=j) (x:=x) (u:=u) MA (by rw[dj es j _ uK,h2]) (by rw[di,h3]) h4 (hB.modify j (λe=>{e with key:=ek x}) λ_=>rfl) hj ?_ v λw' Wy hmod hs=>?_
  ·simp[List.getElem?_modify,hea]
  ·refine hQ w' (Wy.congr (λy=>?_) (by rw[g];simp[h6])) ((lK w r _).tr hmod) (hs.trans dP);show(if y=x then some v else f y)=if y=x then some v else xE l y
   rw[h5]
def Kj{V:Type}:∀{l:List (K×V)} {j:Nat} {x:K},(l.map (·.1)).Nodup->(l[j]?).map (·.1)=some x->∀y,xE (l.eraseIdx j) y=if y=x then none else xE l y
 | [],j,x,_,h,_=>by simp at h
 |p::r,0,x,hn,h,y=>by
  simp at h;simp only[Dg,List.nodup_cons] at hn;simp only[List.eraseIdx_cons_zero,xE]
  by_cases hy:y=x
  ·subst hy;rw[if_pos rfl];exact ID (h▸hn.1)
  ·rw[if_neg hy,h,if_neg (λe=>hy e.symm)]
 |p::r,j+1,x,hn,h,y=>by
  simp only[List.getElem?_cons_succ] at h;simp only[Dg,List.nodup_cons] at hn;simp only[List.eraseIdx_cons_succ,xE];have hx:x∈r.map (·.1):=by
   cases hj:r[j]? with
   |none=>rw[hj] at h;cases h
   |some q=>rw[hj] at h;simp at h;rw[<-h];exact mQ.2 ⟨q,kR hj,rfl⟩
  have hpx:p.1≠x:=λe=>hn.1 (e▸hx);rw[Kj hn.2 h y]
  by_cases hy:y=x
  ·subst hy;simp[hpx]
  ·simp[hy]
def Jh{kt et u:fL}{t:fL}(ht:P.underlying t=some (.map kt et))(hk:RU P kt ek)(h:kT w r ek kn f n)(x:K){Q:aH->Prop}
  (hQ:∀w',kT w' r ek kn (λy=>if y=x then none else f y) (if(f x).isSome then n-1 else n)->aU (λk=>k=r) w w'->w'.heap.size=w.heap.size->Q w'):qY P t u (.map (some r)) (ek x) w Q:=by
 obtain⟨es,c,l,h1,h2,h3,h4,h5,h6,hB,hf⟩:=h.find hk x w;rcases hf with⟨hx,g,qO⟩|⟨j,v,g,hj,hjs,uK,qO⟩
 ·refine⟨(),{w with heap:=w.heap.setIfInBounds r (.map es c)},by simp[Builtin.delete_,run_underlying ht,MapKept.run_getObj_map h1,hk.check,qO,run_setObj_map _ h1,AD],hQ _ ?_ (lK w r _) dP⟩;refine⟨_,_,l,(heap_set h1).1,h2,h3,h4,λy=>?_,by rw[g];simp[h6],hB⟩;show(if y=x then none else f y)=_
  by_cases hy:y=x
  ·subst hy;rw[if_pos rfl,ID hx]
  ·rw[if_neg hy,h5]
 ·refine⟨(),{w with heap:=w.heap.setIfInBounds r (.map (es.eraseIdxIfInBounds j) c)},by simp[Builtin.delete_,run_underlying ht,MapKept.run_getObj_map h1,hk.check,qO,run_setObj_map _ h1,AD],hQ _ ?_ (lK w r _) dP⟩;have er:(es.eraseIdxIfInBounds j).toList=es.toList.eraseIdx j:=by
   unfold Array.eraseIdxIfInBounds;rw[dif_pos hjs];simp
  have em:∀{A B:Type} (F:A->B) (l:List A) (i:Nat),(l.eraseIdx i).map F=(l.map F).eraseIdx i:=by
   intro A B F l
   induction l with
   |nil=>intro i;simp
   |cons a l ih=>intro i;cases i with
    |zero=>simp
    |succ i=>simp[ih]
  have cD:=(eR.1 hj).1;refine⟨_,_,l.eraseIdx j,(heap_set h1).1,by rw[er,em,em,h2],by rw[er,em,em,h3],?_,λy=>?_,by rw[g];simp[List.length_eraseIdx,cD,h6];omega,hB.erase j⟩
  ·rw[em];exact h4.sublist (List.eraseIdx_sublist _ _)
  ·show(if y=x then none else f y)=_
   rw[Kj h4 (by rw[hj];rfl) y,h5]
end
end
end Go.Den
namespace Go.Den
open Go
section
abbrev BS:=Nat->Prop
abbrev As:=aH->BS->Prop
class bJ (A:As):Prop where
 iF:∀{w:aH} {S:BS},A w S->∀k,S k->k<w.heap.size
 aK:∀{w w':aH} {S F:BS},A w S->aU F w w'->(∀k,S k->¬F k)->A w' S
structure Up(S S':BS)(w w':aH):Prop where
 m:aU S w w'
 s:∀k,S' k->S k\/w.heap.size<=k
section
variable{S S' S'' T:BS}{w w' Ob:aH}
def Up.refl(S:BS)(w:aH):Up S S w w:=⟨aU.refl _ _,λ_ h=>.inl h⟩
def Up.tr(h:Up S S' w w')(h':Up S' S'' w' Ob):Up S S'' w Ob:=
 ⟨h.m.trans h'.m λk hk hs=>(h.s k hs).resolve_right aB,λk hk=>(h'.s k hk).elim (h.s k) λhh=>.inr (jB h.m.size hh)⟩
def Up.sub(w:aH)(h:∀k,S' k->S k):Up S S' w w:=⟨aU.refl _ _,λk hk=>.inl (h k hk)⟩
def Up.aO(k:aL w w'):Up S S w w':=⟨k.wk,λ_ h=>.inl h⟩
def Up.new(k:aL w w')(h:∀k,S' k->S k\/w.heap.size<=k):Up S S' w w':=⟨k.wk,h⟩
def Up.at(m:aU S w w'):Up S S w w':=⟨m,λ_ h=>.inl h⟩
def Up.mv(h:Up S S' w w')(hd:∀k,S k->T k->False)(hb:∀k,T k->k<w.heap.size):∀k,S' k->T k->False:=λk hs ht=>
 (h.s k hs).elim (λh=>hd k h ht) λh=>by have:=hb k ht;omega
def Up.size(h:Up S S' w w'):w.heap.size<=w'.heap.size:=h.m.size
end
def bL(A B:As):As:=λw S=>∃S1 S2,A w S1/\B w S2/\(∀k,S1 k->S2 k->False)/\∀k,S k↔S1 k\/S2 k
def Ex{α:Type}(f:α->As):As:=λw S=>∃x,f x w S
def EH:As:=λ_ S=>∀k,¬S k
def Pr(p:Prop)(A:As):As:=λw S=>p/\A w S
instance:bJ EH:=⟨λh k hk=>absurd hk (h k),λh _ _=>h⟩
instance{α:Type}{f:α->As}[∀x,bJ (f x)]:bJ (Ex f):=⟨λ⟨x,h⟩=>bJ.iF h,λ⟨x,h⟩ m hn=>⟨x,bJ.aK h m hn⟩⟩
instance{p:Prop}{A:As}[bJ A]:bJ (Pr p A):=⟨λ⟨_,h⟩=>bJ.iF h,λ⟨hp,h⟩ m hn=>⟨hp,bJ.aK h m hn⟩⟩
instance{A B:As}[bJ A][bJ B]:bJ (bL A B):=⟨
 λ⟨S1,S2,h1,h2,_,e⟩ k hk=>((e k).1 hk).elim (bJ.iF h1 k) (bJ.iF h2 k),
 λ⟨S1,S2,h1,h2,d,e⟩ m hn=>⟨S1,S2,bJ.aK h1 m λk hk=>hn k ((e k).2 (.inl hk)),bJ.aK h2 m λk hk=>hn k ((e k).2 (.inr hk)),d,e⟩⟩
section
variable{A A' B B' C D:As}{w w':aH}{S S':BS}
def bL.yH{S1 S2:BS}(h1:A w S1)(h2:B w S2)(d:∀k,S1 k->S2 k->False):bL A B w (λk=>S1 k\/S2 k):=⟨S1,S2,h1,h2,d,λ_=>Iff.rfl⟩
def bL.cm(h:bL A B w S):bL B A w S:=by
 obtain⟨S1,S2,h1,h2,d,e⟩:=h;exact⟨S2,S1,h2,h1,λk a b=>d k b a,λk=>(e k).trans Or.comm⟩
def bL.asr(h:bL (bL A B) C w S):bL A (bL B C) w S:=by
 obtain⟨S1,S2,⟨T1,T2,a,b,d1,e1⟩,c,d,e⟩:=h;refine⟨T1,λk=>T2 k\/S2 k,a,⟨T2,S2,b,c,λk h1 h2=>d k ((e1 k).2 (.inr h1)) h2,λ_=>Iff.rfl⟩,λk h1 h2=>h2.elim (d1 k h1) (d k ((e1 k).2 (.inl h1))),λk=>?_⟩;rw[e k,e1 k,or_assoc]
def bL.asl(h:bL A (bL B C) w S):bL (bL A B) C w S:=by
 obtain⟨S1,S2,a,⟨T1,T2,b,c,d1,e1⟩,d,e⟩:=h;refine⟨λk=>S1 k\/T1 k,T2,⟨S1,T1,a,b,λk h1 h2=>d k h1 ((e1 k).2 (.inl h2)),λ_=>Iff.rfl⟩,c,λk h1 h2=>h1.elim (λh1=>d k h1 ((e1 k).2 (.inr h2))) λh1=>d1 k h1 h2,λk=>?_⟩;rw[e k,e1 k,or_assoc]
def bL.mono(h:bL A B w S)(hA:∀S,A w S->A' w S)(hB:∀S,B w S->B' w S):bL A' B' w S:=by
 obtain⟨S1,S2,h1,h2,d,e⟩:=h;exact⟨S1,S2,hA _ h1,hB _ h2,d,e⟩
def bL.drop(h:bL A B w S):∃S',A w S'/\Up S S' w w:=by
 obtain⟨S1,S2,h1,h2,d,e⟩:=h;exact⟨S1,h1,Up.sub w λk hk=>(e k).2 (.inl hk)⟩
def bL.emp(h:A w S):bL A EH w S:=⟨S,λ_=>False,h,λ_=>id,λ_ _=>id,λk=>⟨.inl,λh=>h.elim id False.elim⟩⟩
end
def js(w:aH)(S:BS)(B:As)(R:As->As):Prop:=∃S1,B w S1/\(∀k,S1 k->S k)/\∀B' D w' CH,Up S1 CH w w'->bL B' D w' CH->∃S',bL (R B') D w' S'/\Up S S' w w'
section
variable{A B C:As}{w:aH}{S:BS}{R R':As->As}
def bL.l[bJ B](h:bL A B w S):js w S A λX=>bL X B:=by
 obtain⟨S1,S2,h1,h2,d,e⟩:=h;refine⟨S1,h1,λk hk=>(e k).2 (.inl hk),λA' D w' T u hT=>?_⟩;obtain⟨T1,T2,a,b,d',e'⟩:=hT;have b2:∀k,S2 k->k<w.heap.size:=bJ.iF h2;have dd:=u.mv d b2;refine⟨λk=>(T1 k\/S2 k)\/T2 k,⟨λk=>T1 k\/S2 k,T2,⟨T1,S2,a,bJ.aK h2 u.m λk hk lM=>d k lM hk,λk h1 h2=>dd k ((e' k).2 (.inl h1)) h2,λ_=>Iff.rfl⟩,b,λk h1 h2=>h1.elim (λh=>d' k h h2) λh=>dd k ((e' k).2 (.inr h2)) h,λ_=>Iff.rfl⟩,⟨u.m.mono λk _ hk=>(e k).2 (.inl hk),λk hk=>?_⟩⟩;have hs:∀k,T k->S k\/w.heap.size<=k:=λk hk=>(u.s k hk).imp (λh=>(e k).2 (.inl h)) id;rcases hk with(hk|hk)|hk
 ·exact hs k ((e' k).2 (.inl hk))
 ·exact .inl ((e k).2 (.inr hk))
 ·exact hs k ((e' k).2 (.inr hk))
def bL.r[bJ A](h:bL A B w S):js w S B λX=>bL A X:=by
 obtain⟨S1,h1,hs,eJ⟩:=bL.l h.cm;refine⟨S1,h1,hs,λB' D w' T u hT=>?_⟩;obtain⟨S',h',u'⟩:=eJ B' D w' T u hT;exact⟨S',h'.mono (λ_ h=>h.cm) λ_ h=>h,u'⟩
def js.c(f:js w S B R)(g:∀T,B w T->js w T C R'):js w S C λX=>R (R' X):=by
 obtain⟨S1,h1,hs,eJ⟩:=f;obtain⟨S2,h2,LU,HP⟩:=g S1 h1;refine⟨S2,h2,λk hk=>hs k (LU k hk),λB' D w' T u hT=>?_⟩;obtain⟨T',h',u'⟩:=HP B' D w' T u hT;exact eJ _ D w' T' u' h'
def js.put(f:js w S B R):∃S1,B w S1/\(∀k,S1 k->S k)/\∀B' w' CH,Up S1 CH w w'->B' w' CH->∃S',R B' w' S'/\Up S S' w w':=by
 obtain⟨S1,h1,hs,eJ⟩:=f;refine⟨S1,h1,hs,λB' w' T u hT=>?_⟩;obtain⟨S',h',u'⟩:=eJ B' EH w' T u (bL.emp hT);obtain⟨S2,h2,u2⟩:=h'.drop;exact⟨S2,h2,u'.tr u2⟩
end
def tE(g:Nat)(e:fL)(cs:gJ):As:=λw S=>cX w g e cs/\∀k,S k↔k=g
instance{g:Nat}{e:fL}{cs:gJ}:bJ (tE g e cs):=⟨λ⟨h,e⟩ k hk=>by rw[(e k).1 hk];exact h.lt,λ⟨h,e⟩ m hn=>⟨h.aK m (hn g ((e g).2 rfl)),e⟩⟩
def tE.up{g:Nat}{e:fL}{cs ds:gJ}{w w':aH}{S:BS}(h:tE g e cs w S)(o:cX w' g e ds)(m:aU (λk=>k=g) w w'):tE g e ds w' S/\Up S S w w':=
 ⟨⟨o,h.2⟩,Up.at (m.mono λk _ hk=>(h.2 k).2 hk)⟩
def vL{K:Type}[DecidableEq K](r:Nat)(ek:K->Value)(kn:oU)(f:K->Option kn.T)(n:Nat):As:=λw S=>kT w r ek kn f n/\∀k,S k↔k=r
instance{K:Type}[DecidableEq K]{r:Nat}{ek:K->Value}{kn:oU}{f:K->Option kn.T}{n:Nat}:bJ (vL r ek kn f n):=⟨λ⟨h,e⟩ k hk=>by rw[(e k).1 hk];exact h.lt,λ⟨h,e⟩ m hn=>⟨h.aK m (hn r ((e r).2 rfl)),e⟩⟩
def EG{α:Type}(n:Nat)(aY:α->gJ)(s:Sl)(xs:List α):As:=λw S=>Rd w s n aY xs/\(∀x,aY x≠[])/\(∀b,s.b=some b->b.block<w.heap.size)/\∀k,S k↔∃b,s.b=some b/\k=b.block
instance{α:Type}{n:Nat}{aY:α->gJ}{s:Sl}{xs:List α}:bJ (EG n aY s xs):=⟨
 λ⟨_,_,h,e⟩ k hk=>by obtain⟨b,hb,rfl⟩:=(e k).1 hk;exact h b hb,
 λ⟨h,gQ,hb,e⟩ m hn=>⟨h.aK m gQ λb hb=>hn _ ((e _).2 ⟨b,hb,rfl⟩),gQ,λb h=>pP (hb b h) m.size,e⟩⟩
def pK{α:Type}(e:fL)(n:Nat)(aY:α->gJ)(s:Sl)(xs:List α):As:=λw S=>dE w e n aY s xs/\∀k,S k↔∃b,s.b=some b/\k=b.block
def dE.Wl{α:Type}{w:aH}{e:fL}{n:Nat}{aY:α->gJ}{s:Sl}{xs:List α}(h:dE w e n aY s xs){b:Addr}(hb:s.b=some b):b.block<w.heap.size:=by
 rcases h.gZ with⟨h0,_⟩|⟨g,cO,h0,ho,_⟩
 ·rw[hb] at h0;cases h0
 ·rw[hb] at h0;cases h0;exact ho.lt
instance{α:Type}{e:fL}{n:Nat}{aY:α->gJ}{s:Sl}{xs:List α}:bJ (pK e n aY s xs):=⟨
 λ⟨h,e⟩ k hk=>by obtain⟨b,hb,rfl⟩:=(e k).1 hk;exact h.Wl hb,
 λ⟨h,e⟩ m hn=>⟨h.aK m λb hb=>hn _ ((e _).2 ⟨b,hb,rfl⟩),e⟩⟩
def xA{α:Type}(f:α->As):List α->As
 | []=>EH
 |x::r=>bL (f x) (xA f r)
instance xA.loc{α:Type}{f:α->As}[h:∀x,bJ (f x)]:∀{l:List α},bJ (xA f l)
 | []=>inferInstanceAs (bJ EH)
 |x::r=>by
  have:=xA.loc (f:=f) (l:=r);exact inferInstanceAs (bJ (bL (f x) (xA f r)))
def Bw{α:Type}(f:α->As)(X:As):List α->Nat->As
 | [],_=>X
 |_::r,0=>bL X (xA f r)
 |x::r,i+1=>bL (f x) (Bw f X r i)
def xA.at{α:Type}{f:α->As}[h:∀x,bJ (f x)]:∀{l:List α} {i:Nat} {x:α} {w:aH} {S:BS},xA f l w S->l[i]? =some x->js w S (f x) λX=>Bw f X l i
 |y::r,0,x,w,S,hA,hx=>by cases hx;exact bL.l hA
 |y::r,i+1,x,w,S,hA,hx=>js.c (bL.r hA) λT hT=>xA.at (l:=r) (i:=i) hT (by simpa using hx)
def Bw.set{α:Type}{f:α->As}{x:α}:∀{l:List α} {i:Nat} {w:aH} {S:BS},i<l.length->Bw f (f x) l i w S->xA f (l.set i x) w S
 |y::r,0,_,_,_,h=>h
 |y::r,i+1,_,_,hl,h=>bL.mono h (λ_ h=>h) λ_ h=>Bw.set (by simpa using hl) h
end
end Go.Den
