/-
  Short names.
-/
import Derived.Orders
import Derived.KernelRfl
import Derived.Tactics
import Derived.Laws.Tables
import Derived.Laws.StructEq
import Derived.Laws.MakeOwn
import Derived.Laws.Slices
import Derived.Laws.AppendOwn
import Derived.Laws.OwnMore
import Derived.Laws.CopyRow
import Derived.Below
import Derived.Lib.SmallJoins
import Derived.Lib.Overlaps
import Derived.MapKept
namespace Go.Den
open Go
theorem aB{p:Prop}(h:p:=by omega):p:=h
theorem iH{p:Prop}(h:p:=by kernel_rfl):p:=h
abbrev aD(x:Int):Value:=.int .i64 x
abbrev aH:=World
abbrev aQ(n:Int):Int:=IntKind.wrap .i64 n
abbrev WQ(α:Type):=α->World->Prop
abbrev cO:=Option Addr
theorem dJ{p:Prop}(h:p:=by simp):p:=h
abbrev gU:=@List.getElem?_eq_getElem
abbrev kY:=@List.getElem?_eq_some_iff
abbrev lJ:=@Int.toNat_natCast
abbrev mH:=@List.length_append
abbrev FW:=@List.take_succ_eq_append_getElem
abbrev iF:=@Nat.zero_le
abbrev iX:=@Nat.le_refl
abbrev zN:=@List.mem_of_getElem?
abbrev wC:=@List.getElem?_set
abbrev pU:=@Nat.zero_add
abbrev nM:=@Nat.lt_of_lt_of_le
abbrev oZ:=@List.mem_iff_getElem?
abbrev mY:=@List.getElem?_map
abbrev jS:=@List.mem_append
abbrev iG:=@Nat.le_trans
abbrev oE:=@List.getElem_mem
abbrev mV:=@List.length_cons
abbrev pF:=@List.take_length
abbrev jG:=@List.mem_filter
abbrev wD:=@List.length_filter_le
abbrev qF:=@List.length_take
abbrev jL:=@List.mem_cons
abbrev lD:=@List.length_map
abbrev kZ:=@List.mem_singleton
abbrev pR:=@List.length_set
abbrev sH:=@List.append_assoc
abbrev tO:=@Bool.and_eq_true
abbrev LZ:=@List.getD_eq_getElem?_getD
abbrev sG:=@List.append_nil
abbrev QB:=@Nat.mul_le_mul_right
abbrev uZ:=@Option.some.inj
abbrev JD:=@Nat.eq_of_beq_eq_true
abbrev Ct:=@List.eq_nil_of_length_eq_zero
abbrev lN:=@List.mem_map
abbrev BH:=@List.ext_getElem?
abbrev lM:=@Int.le_refl
abbrev JC:=@List.flatMap_append
abbrev yA:=@List.map_append
abbrev FC:=@List.flatMap_cons
abbrev VE:=@List.getElem?_take_of_lt
abbrev JB:=@List.filter_append
abbrev SF:=@List.Pairwise.filter
abbrev Fq:=@List.getElem?_append_right
abbrev Fp:=@List.getElem?_append_left
abbrev FB:=@List.filter_cons
abbrev JA:=@Nat.mul_le_mul
abbrev Fo:=@Option.isSome_iff_exists
abbrev Fm:=@List.getElem?_replicate
abbrev Cs:=@List.take_append_drop
abbrev Ws:=@List.pairwise_iff_getElem
abbrev ly50:=@List.mem_cons_self
abbrev VD:=@List.mem_cons_of_mem
open Go.IntKind (wrap)
structure Sl where
 b:cO
 l:Nat
 c:Nat
inductive CK where
 |int (k:IntKind)
 |bool
 |str
 |ptr
 |slice
 |map
 |any
def CK.T:CK->Type
 | .int _=>Int
 | .bool=>Bool
 | .str=>ByteArray
 | .ptr=>cO
 | .slice=>Sl
 | .map=>Option Nat
 | .any=>Value
def CK.aX:(k:CK)->k.T->Value
 | .int k,(n:Int)=>.int k n
 | .bool,(b:Bool)=>.bool b
 | .str,(s:ByteArray)=>.string s
 | .ptr,(p:cO)=>.pointer p
 | .slice,(s:Sl)=>.slice s.b s.l s.c
 | .map,(r:Option Nat)=>.map r
 | .any,(v:Value)=>v
def CK.of:Value->CK
 | .int k _=>.int k
 | .bool _=>.bool
 | .string _=>.str
 | .pointer _=>.ptr
 | .slice ..=>.slice
 | .map _=>.map
 |_=>.any
def CK.LV:(k:CK)->Value->(k.T->Prop)->Prop
 | .int k,.int k' n,K=>match decEq k k' with
  | .isTrue _=>K n
  | .isFalse _=>False
 | .bool,.bool b,K=>K b
 | .str,.string s,K=>K s
 | .ptr,.pointer p,K=>K p
 | .slice,.slice b l c,K=>K ⟨b,l,c⟩
 | .map,.map r,K=>K r
 | .any,v,K=>K v
 |_,_,_=>False
def CTs:List CK->Type
 | []=>Unit
 |k::r=>k.T×CTs r
def qP:(l:List CK)->CTs l->List Value
 | [],_=>[]
 |k::r,t=>k.aX t.1::qP r t.2
def decs:(l:List CK)->List Value->(CTs l->Prop)->Prop
 | [],[],K=>K ()
 |k::r,v::vs,K=>k.LV v λx=>decs r vs λt=>K (x,t)
 |_,_,_=>False
inductive oH where
 |c (k:CK)
 |agg (l:List CK)
def oH.T:oH->Type
 | .c k=>k.T
 | .agg l=>CTs l
def oH.aX:(k:oH)->k.T->Value
 | .c k,t=>k.aX t
 | .agg l,t=>.agg (qP l t).toArray
def oH.LV:(k:oH)->Value->(k.T->Prop)->Prop
 | .c k,v,K=>k.LV v K
 | .agg l,.agg cs,K=>decs l cs.toList K
 |_,_,_=>False
def oH.of:Value->oH
 | .agg zs=>.agg (zs.toList.map CK.of)
 |v=>.c (CK.of v)
def Fi:List oH->Type
 | []=>Unit
 |k::r=>k.T×Fi r
def zD:(l:List oH)->Fi l->List Value
 | [],_=>[]
 |k::r,t=>k.aX t.1::zD r t.2
def Ga:(l:List oH)->List Value->(Fi l->Prop)->Prop
 | [],[],K=>K ()
 |k::r,v::vs,K=>k.LV v λx=>Ga r vs λt=>K (x,t)
 |_,_,_=>False
theorem CK.yK{k:CK}{v:Value}{K:k.T->Prop}(h:k.LV v K):∃x,v=k.aX x/\K x:=by
 cases k
 case int k=>
  cases v<;>simp only[CK.LV] at h
  rename_i k' n
  cases hd:decEq k k' with
  |isTrue e=>subst e;rw[hd] at h;exact⟨n,rfl,h⟩
  |isFalse e=>rw[hd] at h;exact h.elim
 all_goals first
  |(cases v<;>simp only[CK.LV] at h<;>exact⟨_,rfl,h⟩)
  |exact⟨v,rfl,by cases v<;>exact h⟩
theorem Pu:∀{l:List CK} {vs:List Value} {K:CTs l->Prop},decs l vs K->∃t,vs=qP l t/\K t
 | [],[],_,h=>⟨(),rfl,h⟩
 | [],_::_,_,h=>h.elim
 |_::_,[],_,h=>h.elim
 |k::r,v::vs,K,h=>by
  obtain⟨x,rfl,h2⟩:=CK.yK h;obtain⟨t,rfl,h3⟩:=Pu (l:=r) (vs:=vs) (K:=λt=>K (x,t)) h2;exact⟨(x,t),rfl,h3⟩
theorem oH.yK{k:oH}{v:Value}{K:k.T->Prop}(h:k.LV v K):∃x,v=k.aX x/\K x:=by
 cases k with
 |c k=>exact CK.yK h
 |agg l=>
  cases v<;>simp only[oH.LV] at h
  rename_i cs
  obtain⟨t,ht,h⟩:=Pu h;exact⟨t,by simp only[oH.aX,<-ht],h⟩
theorem wW:∀{l:List oH} {vs:List Value} {K:Fi l->Prop},Ga l vs K->∃t,vs=zD l t/\K t
 | [],[],_,h=>⟨(),rfl,h⟩
 | [],_::_,_,h=>h.elim
 |_::_,[],_,h=>h.elim
 |k::r,v::vs,K,h=>by
  obtain⟨x,rfl,h2⟩:=oH.yK h;obtain⟨t,rfl,h3⟩:=wW (l:=r) (vs:=vs) (K:=λt=>K (x,t)) h2;exact⟨(x,t),rfl,h3⟩
abbrev mM:=List (Nat×Value)
def mA:mM->Nat->Option Value
 | [],_=>none
 |(i,v)::r,t=>cond (Nat.beq i t) (some v) (mA r t)
def rdT(bN o:mM)(t:Nat):Option Value:=match mA bN t with
 |some v=>some v
 |none=>mA o t
def rd(bN o:mM):Operand->Option Value
 | .tmp t=>rdT bN o t
 | .const v=>some v
 | .global g=>some (.pointer (some ⟨g,0,none⟩))
 | .func f=>some (.func (.func f) #[] #[])
def nK{α:Type}(x:Option α)(K:α->Prop):Prop:=match x with
 |some v=>K v
 |none=>False
theorem aV{α:Type}{x:Option α}{K:α->Prop}(h:nK x K):∃v,x=some v/\K v:=by
 cases x with
 |none=>exact h.elim
 |some v=>exact⟨v,rfl,h⟩
def Ey(bN o:mM):List Operand->Option (List Value)
 | []=>some []
 |x::r=>match rd bN o x with
  |some v=>match Ey bN o r with
   |some vs=>some (v::vs)
   |none=>none
  |none=>none
structure lV(n:Nat)(bN o:mM)(a:Act):Prop where
 size:a.tmps.size=n
 bN:∀t v,mA bN t=some v->a.tmps.getD t undef=v
 o:∀t v,mA o t=some v->a.tmps.getD t undef=v
 se:a.defers=[]
theorem lV.rd{n:Nat}{bN o:mM}{a:Act}(h:lV n bN o a){x:Operand}{v:Value}(hx:rd bN o x=some v):a.eval x=v:=by
 cases x with
 |tmp t=>
  simp only[Den.rd,rdT] at hx;cases hl:mA bN t with
  |some u=>rw[hl] at hx;cases hx;exact h.bN _ _ hl
  |none=>rw[hl] at hx;exact h.o _ _ hx
 |const c=>cases hx;rfl
 |global g=>cases hx;rfl
 |func f=>cases hx;rfl
theorem lV.Ey{n:Nat}{bN o:mM}{a:Act}(h:lV n bN o a):∀{xs:List Operand} {vs:List Value},Ey bN o xs=some vs->xs.map a.eval=vs
 | [],vs,hx=>by cases hx;rfl
 |x::r,vs,hx=>by
  simp only[Den.Ey] at hx;cases h1:Den.rd bN o x with
  |none=>simp[h1] at hx
  |some v=>
   cases h2:Den.Ey bN o r with
   |none=>simp[h1,h2] at hx
   |some us=>
    simp[h1,h2] at hx;subst hx;simp[h.rd h1,lV.Ey h h2]
def VC(n:Nat)(dst:Option Nat)(v:Value)(o bN:mM)(K:mM->Prop):Prop:=match dst with
 |none=>K bN
 |some d=>cond (Nat.blt d n) (match mA o d with
  |none=>K ((d,v)::bN)
  |some _=>False) False
theorem wT{n:Nat}{dst:Option Nat}{v:Value}{o bN:mM}{K:mM->Prop}(h:VC n dst v o bN K):
  ∃fX,K fX/\∀a,lV n bN o a->lV n fX o (a.put dst v):=by
 cases dst with
 |none=>exact⟨bN,h,λa ha=>ha⟩
 |some d=>
  simp only[VC] at h;cases hb:Nat.blt d n with
  |false=>rw[hb] at h;exact h.elim
  |true=>
   rw[hb] at h;cases hl:mA o d with
   |some u=>rw[hl] at h;exact h.elim
   |none=>
    rw[hl] at h;have hd:d<n:=by simpa using hb
    refine⟨_,h,λa ha=>⟨by simp[Act.put,ha.size],?_,?_,ha.se⟩⟩
    ·intro t u hu
     simp only[mA] at hu;cases he:Nat.beq d t with
     |true=>
      rw[he] at hu;have:d=t:=JD he;subst this;cases hu;simp[Act.put,ha.size,hd]
     |false=>
      rw[he] at hu;have gH:d≠t:=Nat.ne_of_beq_eq_false he;have:=ha.bN t u hu;simpa [Act.put,Array.getElem?_setIfInBounds_ne gH] using this
    ·intro t u hu
     have gH:d≠t:=by rintro rfl;rw[hl] at hu;cases hu
     have:=ha.o t u hu;simpa [Act.put,Array.getElem?_setIfInBounds_ne gH] using this
def aC(p:cO)(K:Addr->Prop):Prop:=match p with
 |some a=>K a
 |none=>False
def aR(b:cO)(c l size:Nat):cO:=if c=l then b else b.map (·.add (l*size))
def nilV(v:Value)(K:Value->Prop):Prop:=match v with
 | .func (.func _) _ _=>K v
 |_=>False
def oL(op:BinOp)(k:IntKind)(x y:Int):Int:=
 let a:=BitVec.ofInt k.bits x
 let b:=BitVec.ofInt k.bits y
 match op with
 | .and=>k.wrap (a &&& b).toNat
 | .or=>k.wrap (a |||b).toNat
 | .xor=>k.wrap (a^^^b).toNat
 |_=>k.wrap (a &&& ~~~b).toNat
def yT(P:Program):List Field->Nat->Bool
 | [],_=>true
 |f::r,i=>!(f.name== "_") && Nat.beq f.offset i && (match P.underlying f.type with
  |some (.int _)=>true
  |_=>false) && yT P r (i+1)
def FI:List Value->List Value->Option Bool
 | [],[]=>some true
 | .int k a::r,.int k' b::s=>match decEq k k' with
  | .isTrue _=>match FI r s with
   |some e=>some ((a==b) && e)
   |none=>none
  | .isFalse _=>none
 |_,_=>none
def ur(P:Program)(t:TypeId)(xs ys:Array Value)(K:Bool->Prop):Prop:=
 match P.underlying t with
 |some (.struct fs)=>cond (!P.stoodInHeld t && !P.eqGuardType P.depth t && yT P fs.toList 0 && Nat.beq fs.size xs.size && Nat.beq fs.size ys.size) (nK (FI xs.toList ys.toList) K) False
 |_=>False
def Ry(P:Program)(op:BinOp)(t:TypeId)(x y:Value)(K:Value->Prop):Prop:=
 match x,y with
 | .int k a,.int k' b=>
  match op with
  | .shl=>0<=b/\K (.int k (k.wrap (a*2^(min b.toNat k.bits))))
  | .shr=>0<=b/\K (.int k (a.fdiv (2^(min b.toNat k.bits))))
  |op=>match decEq k k' with
   | .isFalse _=>False
   | .isTrue _=>match op with
    | .add=>K (.int k (k.wrap (a+b)))
    | .sub=>K (.int k (k.wrap (a-b)))
    | .mul=>K (.int k (k.wrap (a*b)))
    | .quo=>¬b=0/\K (.int k (k.wrap (a.tdiv b)))
    | .rem=>¬b=0/\K (.int k (a.tmod b))
    | .and=>K (.int k (oL .and k a b))
    | .or=>K (.int k (oL .or k a b))
    | .xor=>K (.int k (oL .xor k a b))
    | .andNot=>K (.int k (oL .andNot k a b))
    | .eql=>K (.bool (a==b))
    | .neq=>K (.bool (a !=b))
    | .lss=>K (.bool (decide (a<b)))
    | .leq=>K (.bool (decide (a<=b)))
    | .gtr=>K (.bool (decide (a>b)))
    | .geq=>K (.bool (decide (a>=b)))
    |_=>False
 | .bool a,.bool b=>match op,P.underlying t with
  | .eql,some .bool=>K (.bool (a==b))
  | .neq,some .bool=>K (.bool (!(a==b)))
  |_,_=>False
 | .string a,.string b=>match op with
  | .eql=>K (.bool (a.toList==b.toList))
  | .neq=>K (.bool (!(a.toList==b.toList)))
  |_=>False
 | .pointer a,.pointer none=>match op,P.underlying t with
  | .eql,some (.pointer _)=>K (.bool a.isNone)
  | .neq,some (.pointer _)=>K (.bool (!a.isNone))
  |_,_=>False
 | .slice a _ _,.slice none _ _=>match op,P.underlying t with
  | .eql,some (.slice _)=>K (.bool a.isNone)
  | .neq,some (.slice _)=>K (.bool (!a.isNone))
  |_,_=>False
 | .map a,.map none=>match op,P.underlying t with
  | .eql,some (.map _ _)=>K (.bool a.isNone)
  | .neq,some (.map _ _)=>K (.bool (!a.isNone))
  |_,_=>False
 | .agg xs,.agg ys=>match op with
  | .eql=>ur P t xs ys λb=>K (.bool b)
  | .neq=>ur P t xs ys λb=>K (.bool (!b))
  |_=>False
 |_,_=>False
def unD(op:UnOp)(x:Value)(K:Value->Prop):Prop:=
 match op,x with
 | .not,.bool b=>K (.bool (!b))
 | .neg,.int k n=>K (.int k (k.wrap (0-n)))
 | .xor,.int k n=>K (.int k (oL .xor k (if k.signed then-1 else k.max) n))
 |_,_=>False
def DQ(P:Program)(t:TypeId)(K:Nat->Prop):Prop:=match P.info? t with
 |some i=>K i.size
 |none=>False
def CC(y:Nat)(v:Option Value)(d:Nat)(K:Nat->Prop):Prop:=match v with
 |none=>K d
 |some (.int _ i)=>(0<=i/\i<=(y:Int))/\K i.toNat
 |some _=>False
def onO(bN o:mM)(x:Option Operand)(K:Option Value->Prop):Prop:=match x with
 |none=>K none
 |some x=>nK (rd bN o x) λv=>K (some v)
def tu(P:Program)(t:TypeId)(cs:Array Value)(off:Nat)(K:Value->Prop):Prop:=match P.underlying t with
 |some (.struct _)=>DQ P t λn=>K (.agg (cs.extract off (off+n)))
 |some (.array _ _)=>DQ P t λn=>K (.agg (cs.extract off (off+n)))
 |some _=>match cs[off]? with
  |some v=>K v
  |none=>False
 |none=>False
def Av(P:Program)(t:TypeId)(K:Value->Prop):Prop:=match P.info? t with
 |some i=>match i.zero with
  |some z=>K z
  |none=>False
 |none=>False
def isConst:Operand->Bool
 | .const _=>true
 |_=>false
def lq(P:Program)(t:TypeId)(x:Value)(ix:Operand)(i:Int)(K:Value->Prop):Prop:=
 match P.underlying t,x with
 |some (.array len elem),.agg cs=>cond (isConst ix) ((0<=i/\i<(len:Int))/\DQ P elem λn=>tu P elem cs (i.toNat*n) K)
   ((0<=i/\i<(len:Int))/\DQ P elem λm=>cond (Nat.beq m 1) (match P.underlying elem with
    |some (.int k)=>∃n:Int,cs[i.toNat]? =some (.int k n)/\K (.int k n)
    |_=>False) False)
 |some .string,.string s=>0<=i/\∃b:UInt8,s[i.toNat]? =some b/\K (.int .u8 b.toNat)
 |_,_=>False
def El(P:Program)(t:TypeId)(f:Nat):Option Field:=match P.underlying t with
 |some (.struct fs)=>fs[f]?
 |_=>none
def lenD(P:Program)(t:TypeId)(x:Value)(K:Value->Prop):Prop:=match P.underlying t,x with
 |some (.slice _),.slice _ n _=>K (.int .i64 (n:Int))
 |some .string,.string s=>K (.int .i64 (s.size:Int))
 |some (.array n _),_=>K (.int .i64 (n:Int))
 |_,_=>False
def isLen(P:Program)(t:TypeId):Bool:=match P.underlying t with
 |some (.slice _)=>true
 |some .string=>true
 |some (.array _ _)=>true
 |_=>false
def MW(x y:Int):Int:=if y<x then y else x
def BY(x y:Int):Int:=if y>x then y else x
def minD(mx:Bool):Value->List Value->(Value->Prop)->Prop
 |x,[],K=>K x
 | .int k x,.int _ y::r,K=>minD mx (.int k (cond mx (BY x y) (MW x y))) r K
 |_,_,_=>False
def Xn(P:Program)(bN o:mM)(op:Op)(K:Value->Prop):Prop:=
 match op with
 | .move x=>nK (rd bN o x) K
 | .assign x=>nK (rd bN o x) K
 | .pick c a b=>nK (rd bN o c) λv=>match v with
  | .bool t=>cond t (nK (rd bN o a) K) (nK (rd bN o b) K)
  |_=>False
 | .nilCheck x=>nK (rd bN o x) λv=>match v with
  | .pointer p=>aC p λa=>K (.pointer (some a))
  |v=>nilV v K
 | .binOp bop t x y _=>nK (rd bN o x) λu=>nK (rd bN o y) λv=>Ry P bop t u v K
 | .unOp uop _ x=>nK (rd bN o x) λu=>unD uop u K
 | .convert src dst x=>nK (rd bN o x) λu=>match P.underlying src,P.underlying dst,u with
  |some _,some (.int k),.int _ n=>K (.int k (k.wrap n))
  |_,_,_=>False
 | .fieldAddr s x f=>nK (rd bN o x) λu=>match u with
  | .pointer p=>aC p λa=>nK (El P s f) λfd=>DQ P fd.type λn=>cond (Nat.beq n 0) False (K (.pointer (some (a.add fd.offset))))
  |_=>False
 | .field t x f=>nK (rd bN o x) λu=>match u with
  | .agg cs=>nK (El P t f) λfd=>tu P fd.type cs fd.offset K
  |_=>False
 | .indexAddr t x ix=>nK (rd bN o x) λu=>nK (rd bN o ix) λv=>match v with
  | .int _ i=>match P.underlying t,u with
   |some (.slice e),.slice b l _=>(0<=i/\i<(l:Int))/\aC b λa=>DQ P e λn=>K (.pointer (some (a.add (i.toNat*n))))
   |some (.array len e),.pointer p=>(0<=i/\i<(len:Int))/\aC p λa=>DQ P e λn=>K (.pointer (some (a.add (i.toNat*n))))
   |_,_=>False
  |_=>False
 | .index t x ix=>nK (rd bN o x) λu=>nK (rd bN o ix) λv=>match v with
  | .int _ i=>lq P t u ix i K
  |_=>False
 | .extract x i=>nK (rd bN o x) λu=>match u with
  | .tuple vs=>nK vs.toList[i]? K
  |_=>False
 | .slice t x lo hi none=>nK (rd bN o x) λu=>onO bN o lo λvl=>onO bN o hi λvh=>match P.underlying t,u with
  |some (.slice e),.slice b l c=>CC c vh l λh=>CC h vl 0 λl'=>DQ P e λn=>K (.slice (aR b c l' n) (h-l') (c-l'))
  |_,_=>False
 | .slice t x lo (some hi) (some mx)=>nK (rd bN o x) λu=>onO bN o lo λvl=>nK (rd bN o hi) λvh=>nK (rd bN o mx) λvm=>match P.underlying t,u with
  |some (.slice e),.slice b _ c=>CC c (some vm) 0 λm=>CC m (some vh) 0 λh=>CC h vl 0 λl'=>DQ P e λn=>K (.slice (aR b m l' n) (h-l') (m-l'))
  |_,_=>False
 | .build t parts=>nK (Ey bN o (parts.toList.map (·.2))) λvs=>nK (P.built t ((parts.toList.map (·.1)).zip vs)) λcells=>K (.agg cells)
 | .makeFunc fn first captured=>nK (Ey bN o first.toList) λf=>nK (Ey bN o captured.toList) λc=>K (.func fn f.toArray c.toArray)
 | .call {callee:=.builtin .len,args,argTypes}=>match args.toList,argTypes.toList with
  | [x],[t]=>nK (rd bN o x) λu=>lenD P t u K
  |_,_=>False
 | .call {callee:=.builtin .cap,args,argTypes}=>match args.toList,argTypes.toList with
  | [x],[t]=>nK (rd bN o x) λu=>match P.underlying t,u with
   |some (.slice _),.slice _ _ c=>K (.int .i64 (c:Int))
   |_,_=>False
  |_,_=>False
 | .call {callee:=.builtin .min,args,..}=>nK (Ey bN o args.toList) λvs=>match vs with
  |v::r=>minD false v r K
  | []=>False
 | .call {callee:=.builtin .max,args,..}=>nK (Ey bN o args.toList) λvs=>match vs with
  |v::r=>minD true v r K
  | []=>False
 |_=>False
def isPure(P:Program):Op->Bool
 | .move _| .assign _| .pick .. | .nilCheck _| .binOp .. | .unOp .. | .fieldAddr .. | .field .. | .indexAddr .. | .index .. | .extract .. | .build .. | .makeFunc ..=>true
 | .slice t _ _ _ none=>match P.underlying t with
  |some (.slice _)=>true
  |_=>false
 | .slice t _ _ (some _) (some _)=>match P.underlying t with
  |some (.slice _)=>true
  |_=>false
 | .convert src dst _=>match P.underlying src,P.underlying dst with
  |some (.int _),some (.int _)=>true
  |_,_=>false
 | .call {callee:=.builtin .len,argTypes,..}=>match argTypes.toList with
  | [t]=>isLen P t
  |_=>false
 | .call {callee:=.builtin .cap,..}=>true
 | .call {callee:=.builtin .min,..}=>true
 | .call {callee:=.builtin .max,..}=>true
 |_=>false
theorem yS{P:Program}{t:TypeId}{i:TypeInfo}(h:P.info? t=some i)(w:aH):(sizeOf t).run P w=.ok i.size w:=by
 simp[sizeOf,typeInfo,h]
theorem qX{P:Program}{t:TypeId}{K:Nat->Prop}(h:DQ P t K):∃n,K n/\∀w,(sizeOf t).run P w=.ok n w:=by
 unfold DQ at h;cases hi:P.info? t with
 |none=>rw[hi] at h;exact h.elim
 |some i=>rw[hi] at h;exact⟨i.size,h,yS hi⟩
theorem Pn{P:Program}(d:Nat)(w:aH):∀(fs:List Field) (i:Nat) (xs ys:Array Value) (e:Bool),yT P fs i=true->FI (xs.toList.drop i) (ys.toList.drop i)=some e->
  xs.size=i+fs.length->(Op.eqFields (d+1) xs ys fs).run P w=.ok e w
 | [],i,xs,ys,e,_,he,hx=>by
  have h1:xs.toList.drop i=[]:=by simp at hx;simp;omega
  rw[h1] at he;cases hy:ys.toList.drop i with
  |nil=>rw[hy] at he;simp[FI] at he;subst he;simp[Op.eqFields]
  |cons y r=>rw[hy] at he;simp[FI] at he
 |f::fs,i,xs,ys,e,hp,he,hx=>by
  simp only[yT,tO] at hp;obtain⟨⟨⟨h1,h2⟩,h3⟩,h4⟩:=hp;have hoff:f.offset=i:=JD h2;simp only[mV] at hx;have hix:i<xs.toList.length:=by simp;omega
  have hdx:xs.toList.drop i=xs.toList[i]::xs.toList.drop (i+1):=List.drop_eq_getElem_cons hix;rw[hdx] at he;cases hdy:ys.toList.drop i with
  |nil=>rw[hdy] at he;cases xs.toList[i]<;>simp[FI] at he
  |cons y r=>
   have hiy:i<ys.toList.length:=by
    rcases Nat.lt_or_ge i ys.toList.length with h|h
    ·exact h
    ·rw[List.drop_eq_nil_of_le h] at hdy;cases hdy
   have hdy':=List.drop_eq_getElem_cons hiy;rw[hdy] at hdy';simp only[List.cons.injEq] at hdy';obtain⟨hy0,hyr⟩:=hdy';rw[hdy,hyr] at he;have hu:∃k',P.underlying f.type=some (.int k'):=by
    cases hu:P.underlying f.type with
    |none=>simp[hu] at h3
    |some dd=>cases dd<;>simp[hu] at h3;exact⟨_,rfl⟩
   obtain⟨k',hu⟩:=hu;generalize hxv:xs.toList[i]=xv at he;cases xv<;>try (simp[FI] at he;done)
   rename_i k a
   cases y<;>try (simp[FI] at he;done)
   rename_i k2 b
   simp only[FI] at he;cases hd:decEq k k2 with
   |isFalse gH=>rw[hd] at he;cases he
   |isTrue hk=>
    subst hk;rw[hd] at he;cases hr:FI (xs.toList.drop (i+1)) (ys.toList.drop (i+1)) with
    |none=>simp[hr] at he
    |some e'=>
     simp[hr] at he;subst he
     have hname:f.name≠ "_" :=by simpa using h1
     have Qz:∀w,(isAgg f.type).run P w=.ok false w:=λw=>by simp[isAgg,run_underlying hu]
     have ex:xs[i]? =some (.int k a):=by
      have:xs.toList[i]? =some (.int k a):=by rw[gU hix,hxv]
      simpa using this
     have ey:ys[i]? =some (.int k b):=by
      have:ys.toList[i]? =some (.int k b):=by rw[gU hiy,<-hy0]
      simpa using this
     have px:∀w,(part f.type xs f.offset).run P w=.ok (.int k a) w:=λw=>by simp[part,Qz,hoff,ex]
     have py:∀w,(part f.type ys f.offset).run P w=.ok (.int k b) w:=λw=>by simp[part,Qz,hoff,ey]
     have ih:=Pn d w fs (i+1) xs ys e' (by simpa using h4) hr aB;have heq:(Op.equalIn (d+1) f.type (.int k a) (.int k b)).run P w=.ok (a==b) w:=by simp[Op.equalIn,run_underlying hu]
     simp only[Op.eqFields,hname,ne_eq,not_false_eq_true,if_true,Sem.run_bind,px,py,Result.andThen_ok,heq,Sem.run_ite];cases zf:(a==b) with
     |true=>simp[ih]
     |false=>simp
theorem pj{P:Program}{t:TypeId}{xs ys:Array Value}{K:Bool->Prop}(h:ur P t xs ys K):
  ∃b,K b/\P.eqGuardType P.depth t=false/\∀w,(Op.equal t (.agg xs) (.agg ys)).run P w=.ok b w:=by
 unfold ur at h;cases hu:P.underlying t with
 |none=>rw[hu] at h;exact h.elim
 |some d=>
  cases d<;>try (rw[hu] at h;exact h.elim)
  rename_i fs
  rw[hu] at h;simp only at h;cases hc:(!P.stoodInHeld t && !P.eqGuardType P.depth t && yT P fs.toList 0 && Nat.beq fs.size xs.size && Nat.beq fs.size ys.size) with
  |false=>rw[hc] at h;exact h.elim
  |true=>
   rw[hc] at h;obtain⟨b,hb,hK⟩:=aV h;simp only[tO,Bool.not_eq_true'] at hc;obtain⟨⟨⟨⟨h1,h2⟩,h3⟩,h4⟩,h5⟩:=hc;refine⟨b,hK,h2,λw=>?_⟩;have hfo:P.fieldsOf t=fs:=by simp[Program.fieldsOf,hu]
   have hs:xs.size=0+fs.toList.length:=by have:=JD h4;simp;omega
   rw[Op.equal,show Op.maxDepth=9999+1 from rfl,run_equalIn_struct w 9999 t xs ys (by rw[hfo];exact hu) h1,hfo];exact Pn 9998 w fs.toList 0 xs ys b h3 (by simpa using hb) hs
theorem eqBool{P:Program}(d:Nat)(w:aH){t:TypeId}(hu:P.underlying t=some .bool)(a b:Bool):(Op.equalIn (d+1) t (.bool a) (.bool b)).run P w=.ok (a==b) w:=by
 simp[Op.equalIn,run_underlying hu]
theorem eqPtr{P:Program}(d:Nat)(w:aH){t e:TypeId}(hu:P.underlying t=some (.pointer e))(a:cO):(Op.equalIn (d+1) t (.pointer a) (.pointer none)).run P w=.ok a.isNone w:=by
 cases a<;>simp[Op.equalIn,run_underlying hu]
theorem eqSl{P:Program}(d:Nat)(w:aH){t e:TypeId}(hu:P.underlying t=some (.slice e))(a:cO)(l c l' c':Nat):(Op.equalIn (d+1) t (.slice a l c) (.slice none l' c')).run P w=.ok a.isNone w:=by
 cases a<;>simp[Op.equalIn,run_underlying hu]
theorem eqMap{P:Program}(d:Nat)(w:aH){t k e:TypeId}(hu:P.underlying t=some (.map k e))(a:Option Nat):(Op.equalIn (d+1) t (.map a) (.map none)).run P w=.ok a.isNone w:=by
 cases a<;>simp[Op.equalIn,run_underlying hu]
theorem WA{P:Program}(w:aH){op:BinOp}{t:TypeId}{x y:Value}{ox oy:Operand}{e:Bool}(h1:(eqGuard op t ox oy x y).run P w=.ok () w)(h2:(Op.equalIn 10000 t x y).run P w=.ok e w)
  (h3:binOp op t x y=(do pure (.bool (<-Op.equal t x y)))):(do eqGuard op t ox oy x y;binOp op t x y:Sem Value).run P w=.ok (.bool e) w:=by
 simp[h1,h3,Op.equal,Op.maxDepth,h2]
theorem VZ{P:Program}(w:aH){op:BinOp}{t:TypeId}{x y:Value}{ox oy:Operand}{e:Bool}(h1:(eqGuard op t ox oy x y).run P w=.ok () w)(h2:(Op.equalIn 10000 t x y).run P w=.ok e w)
  (h3:binOp op t x y=(do pure (.bool (!(<-Op.equal t x y))))):(do eqGuard op t ox oy x y;binOp op t x y:Sem Value).run P w=.ok (.bool (!e)) w:=by
 simp[h1,h3,Op.equal,Op.maxDepth,h2]
theorem aA6{P:Program}{op:BinOp}{t:TypeId}{x y:Value}{K:Value->Prop}(h:Ry P op t x y K):
  ∃v,K v/\∀(w:aH) (ox oy:Operand),(do eqGuard op t ox oy x y;binOp op t x y:Sem Value).run P w=.ok v w:=by
 cases x<;>cases y<;>try (exact h.elim)
 case bool.bool a b=>
  simp only[Ry] at h;cases op<;>try (exact h.elim)
  all_goals
   cases hu:P.underlying t with
   |none=>simp[hu] at h
   |some d=>
    cases d<;>try (simp[hu] at h;done)
    simp only[hu] at h;refine⟨_,h,λw ox oy=>?_⟩
    first
     |exact WA w (by simp[eqGuard]) (eqBool 9999 w hu _ _) rfl
     |exact VZ w (by simp[eqGuard]) (eqBool 9999 w hu _ _) rfl
 case int.int k a k' b=>
  simp only[Ry] at h;cases op
  case shl=>exact⟨_,h.2,λw ox oy=>by simp[eqGuard,binOp,Op.shift,Int.not_lt.2 h.1]⟩
  case shr=>exact⟨_,h.2,λw ox oy=>by simp[eqGuard,binOp,Op.shift,Int.not_lt.2 h.1]⟩
  all_goals
   cases hd:decEq k k' with
   |isFalse gH=>rw[hd] at h;exact h.elim
   |isTrue hk=>
    subst hk;rw[hd] at h;simp only at h
    first
     |exact⟨_,h,λw ox oy=>by simp[eqGuard,binOp,Op.intArith,Op.intBits,Op.intCmp,oL]⟩
     |exact⟨_,h.2,λw ox oy=>by simp[eqGuard,binOp,Op.intDiv,h.1]⟩
     |exact h.elim
 case string.string a b=>
  simp only[Ry] at h;cases op<;>try (exact h.elim)
  all_goals exact⟨_,h,λw ox oy=>by simp[eqGuard,binOp,Op.stringOp]⟩
 case pointer.pointer a b=>
  cases b with
  |some b=>exact h.elim
  |none=>
   simp only[Ry] at h;cases op<;>try (exact h.elim)
   all_goals
    cases hu:P.underlying t with
    |none=>simp[hu] at h
    |some d=>
     cases d<;>try (simp[hu] at h;done)
     simp only[hu] at h;refine⟨_,h,λw ox oy=>?_⟩
     first
      |exact WA w (by simp[eqGuard]) (eqPtr 9999 w hu _) rfl
      |exact VZ w (by simp[eqGuard]) (eqPtr 9999 w hu _) rfl
 case slice.slice a l c b l' c'=>
  cases b with
  |some b=>exact h.elim
  |none=>
   simp only[Ry] at h;cases op<;>try (exact h.elim)
   all_goals
    cases hu:P.underlying t with
    |none=>simp[hu] at h
    |some d=>
     cases d<;>try (simp[hu] at h;done)
     simp only[hu] at h;refine⟨_,h,λw ox oy=>?_⟩
     first
      |exact WA w (by simp[eqGuard]) (eqSl 9999 w hu _ _ _ _ _) rfl
      |exact VZ w (by simp[eqGuard]) (eqSl 9999 w hu _ _ _ _ _) rfl
 case map.map a b=>
  cases b with
  |some b=>exact h.elim
  |none=>
   simp only[Ry] at h;cases op<;>try (exact h.elim)
   all_goals
    cases hu:P.underlying t with
    |none=>simp[hu] at h
    |some d=>
     cases d<;>try (simp[hu] at h;done)
     simp only[hu] at h;refine⟨_,h,λw ox oy=>?_⟩
     first
      |exact WA w (by simp[eqGuard]) (eqMap 9999 w hu _) rfl
      |exact VZ w (by simp[eqGuard]) (eqMap 9999 w hu _) rfl
 case agg.agg xs ys=>
  simp only[Ry] at h;cases op<;>try (exact h.elim)
  all_goals
   obtain⟨b,hb,hg,hr⟩:=pj h;refine⟨_,hb,λw ox oy=>?_⟩
   first
    |exact WA w (by simp[eqGuard,hg]) (hr w) rfl
    |exact VZ w (by simp[eqGuard,hg]) (hr w) rfl
theorem unD_spec{P:Program}{op:UnOp}{x:Value}{K:Value->Prop}(h:unD op x K):∃v,K v/\∀w,(Op.unary op x).run P w=.ok v w:=by
 cases op<;>cases x<;>try (exact h.elim)
 all_goals exact⟨_,h,λw=>by simp[Op.unary,Op.intArith,Op.intBits,oL]⟩
theorem Jj{P:Program}{t:TypeId}{cs:Array Value}{off:Nat}{K:Value->Prop}(h:tu P t cs off K):
  ∃v,K v/\∀w,(part t cs off).run P w=.ok v w:=by
 unfold tu at h;cases hu:P.underlying t with
 |none=>rw[hu] at h;exact h.elim
 |some d=>
  rw[hu] at h
  by_cases hs:(∃fs,d=.struct fs)\/(∃n e,d=.array n e)
  ·have Qz:∀w,(isAgg t).run P w=.ok true w:=λw=>by
    rcases hs with⟨fs,rfl⟩|⟨n,e,rfl⟩<;>simp[isAgg,run_underlying hu]
   have h':DQ P t λn=>K (.agg (cs.extract off (off+n))):=by
    rcases hs with⟨fs,rfl⟩|⟨n,e,rfl⟩<;>exact h
   obtain⟨n,hK,hn⟩:=qX h';exact⟨_,hK,λw=>by simp[part,Qz,hn]⟩
  ·have Qz:∀w,(isAgg t).run P w=.ok false w:=λw=>by
    cases d<;>simp[isAgg,run_underlying hu]<;>simp_all
   cases hc:cs[off]? with
   |none=>cases d<;>simp[hc] at h<;>simp_all
   |some v=>
    refine⟨v,?_,λw=>by simp[part,Qz,hc]⟩;cases d<;>simp[hc] at h<;>first|exact h|simp_all
theorem yU{P:Program}{y:Nat}{v:Option Value}{d:Nat}{K:Nat->Prop}(h:CC y v d K):
  ∃m,K m/\((v=none/\m=d)\/∃u,v=some u/\m<=y/\∀w code,(Instr.sliceBound u y code).run P w=.ok m w):=by
 cases v with
 |none=>exact⟨d,h,.inl ⟨rfl,rfl⟩⟩
 |some u=>
  cases u<;>try (exact h.elim)
  rename_i k i
  obtain⟨⟨h0,h1⟩,hK⟩:=h;refine⟨_,hK,.inr ⟨_,rfl,aB,λw code=>by simp[Instr.sliceBound,asIntOf,h0,h1]⟩⟩
theorem Hw{n:Nat}{bN o:mM}{a:Act}(hv:lV n bN o a){x:Option Operand}{K:Option Value->Prop}(h:onO bN o x K):K (x.map a.eval):=by
 cases x with
 |none=>exact h
 |some x=>
  obtain⟨v,hx,hK⟩:=aV h;rw[Option.map_some,hv.rd hx];exact hK
theorem ZM{P:Program}(mx:Bool):∀{r:List Value} {x:Value} {K:Value->Prop},minD mx x r K->
  ∃v,K v/\∀w,(r.foldlM (if mx then Builtin.max2 else Builtin.min2) x).run P w=.ok v w
 | [],x,K,h=>⟨x,by cases x<;>exact h,λw=>by simp⟩
 |y::r,x,K,h=>by
  cases x<;>cases y<;>try (exact h.elim)
  rename_i k a k' b
  obtain⟨v,hK,hr⟩:=ZM mx (r:=r) (x:=.int k (cond mx (BY a b) (MW a b))) h;refine⟨v,hK,λw=>?_⟩;have:=hr w;cases mx<;>simpa [List.foldlM,Builtin.max2,Builtin.min2,MW,BY] using this
theorem bf{P:Program}{t:TypeId}{x:Value}{ix:Operand}{k:IntKind}{i:Int}{K:Value->Prop}(h:lq P t x ix i K):
  ∃v,K v/\∀w,(Instr.index t x (.int k i)).run P w=.ok v w:=by
 unfold lq at h;cases hu:P.underlying t with
 |none=>rw[hu] at h;exact h.elim
 |some d=>
  rw[hu] at h;cases d<;>try (exact h.elim)
  case array len elem=>
   cases x<;>try (exact h.elim)
   rename_i cs
   simp only at h;cases hc:isConst ix with
   |true=>
    rw[hc] at h;obtain⟨hb,h⟩:=h;obtain⟨n,hn,hs⟩:=qX h;obtain⟨v,hK,hp⟩:=Jj hn;exact⟨v,hK,λw=>by simp[Instr.index,asIntOf,run_underlying hu,hb,hs,hp]⟩
   |false=>
    rw[hc] at h;obtain⟨hb,h⟩:=h;obtain⟨m,h,hm⟩:=qX h;cases ra:Nat.beq m 1 with
    |false=>rw[ra] at h;exact h.elim
    |true=>
     rw[ra] at h;have:m=1:=JD ra;subst this;cases he:P.underlying elem with
     |none=>rw[he] at h;exact h.elim
     |some de=>
      rw[he] at h;cases de<;>try (exact h.elim)
      rename_i k'
      obtain⟨n,hn,hK⟩:=h;refine⟨_,hK,λw=>?_⟩;have Qz:∀w,(isAgg elem).run P w=.ok false w:=λw=>by simp[isAgg,run_underlying he]
      simp[Instr.index,asIntOf,run_underlying hu,hb,hm,part,Qz,hn]
  case string=>
   cases x<;>try (exact h.elim)
   rename_i s
   obtain⟨h0,b,hb,hK⟩:=h;exact⟨_,hK,λw=>by simp[Instr.index,asIntOf,run_underlying hu,h0,hb]⟩
theorem XR{P:Program}{t:TypeId}{f:Nat}{fd:Field}(h:El P t f=some fd):∃fs,P.underlying t=some (.struct fs)/\fs[f]? =some fd:=by
 unfold El at h;cases hu:P.underlying t with
 |none=>rw[hu] at h;cases h
 |some d=>
  rw[hu] at h;cases d<;>try (cases h;done)
  exact⟨_,rfl,h⟩
theorem pC{p:cO}{K:Addr->Prop}(h:aC p K):∃a,p=some a/\K a:=by
 cases p with
 |none=>exact h.elim
 |some a=>exact⟨a,rfl,h⟩
theorem ny{P:Program}{t:TypeId}{u:Value}{vl vh:Option Value}{K:Value->Prop}
  (h:match P.underlying t,u with
   |some (.slice e),.slice b l c=>CC c vh l λh=>CC h vl 0 λl'=>DQ P e λn=>K (.slice (aR b c l' n) (h-l') (c-l'))
   |_,_=>False):∃v,K v/\∀w,(Instr.sliceAt t u vl vh none).run P w=.ok v w:=by
 cases hu:P.underlying t with
 |none=>simp[hu] at h
 |some d=>
  cases d<;>try (simp[hu] at h;done)
  rename_i e
  cases u<;>try (simp[hu] at h;done)
  rename_i b l c
  simp only[hu] at h;obtain⟨hh,h1,Du⟩:=yU (P:=P) h;obtain⟨ll,h2,RX⟩:=yU (P:=P) h1;obtain⟨n,hK,hn⟩:=qX h2;refine⟨_,hK,λw=>?_⟩;have hb:∀w,(Instr.sliceBounds true l c vl vh none).run P w=.ok (ll,hh,c) w:=λw=>by
   rcases Du with⟨rfl,rfl⟩|⟨uh,rfl,_,yy⟩<;>rcases RX with⟨rfl,rfl⟩|⟨ul,rfl,_,Fe⟩<;>simp[Instr.sliceBounds, *]
  simp[Instr.sliceAt,Instr.slice,run_underlying hu,hb,hn,aR]
theorem al{P:Program}{t:TypeId}{u:Value}{vl:Option Value}{vh vm:Value}{K:Value->Prop}
  (h:match P.underlying t,u with
   |some (.slice e),.slice b _ c=>CC c (some vm) 0 λm=>CC m (some vh) 0 λh=>CC h vl 0 λl'=>DQ P e λn=>K (.slice (aR b m l' n) (h-l') (m-l'))
   |_,_=>False):∃v,K v/\∀w,(Instr.sliceAt t u vl (some vh) (some vm)).run P w=.ok v w:=by
 cases hu:P.underlying t with
 |none=>simp[hu] at h
 |some d=>
  cases d<;>try (simp[hu] at h;done)
  rename_i e
  cases u<;>try (simp[hu] at h;done)
  rename_i b l c
  simp only[hu] at h;obtain⟨mm,h0,hb0⟩:=yU (P:=P) h;obtain⟨hh,h1,Du⟩:=yU (P:=P) h0;obtain⟨ll,h2,RX⟩:=yU (P:=P) h1;obtain⟨n,hK,hn⟩:=qX h2;refine⟨_,hK,λw=>?_⟩;have hb:∀w,(Instr.sliceBounds true l c vl (some vh) (some vm)).run P w=.ok (ll,hh,mm) w:=λw=>by
   rcases hb0 with⟨h3,_⟩|⟨u0,h3,_,hr0⟩
   ·cases h3
   ·cases h3
    rcases Du with⟨h4,_⟩|⟨u1,h4,_,yy⟩
    ·cases h4
    ·cases h4
     rcases RX with⟨rfl,rfl⟩|⟨ul,rfl,_,Fe⟩<;>simp[Instr.sliceBounds, *]
  simp[Instr.sliceAt,Instr.slice,run_underlying hu,hb,hn,aR]
theorem fS{P:Program}{ρ:Operand->Value}{b:Builtin}{args:Array Operand}{argTypes:Array TypeId}{ty:TypeId}{dst pos after guard}(w:aH){v:Value}{w':aH}
  (hb:(builtin b argTypes ty (args.map λ| .const _=>true|_=>false) (args.map ρ)).run P w=.ok (.value v) w'):
  (execOp ρ {dst,op:=.call {callee:=.builtin b,args,argTypes},type:=ty,pos,after,guard}).run P w=.ok (.value v) w':=by
 unfold execOp;simp only[resolve,invoke,Sem.run_bind,Sem.run_pure,Result.andThen_ok];exact hb
theorem TU{α β γ:Type}(f:β->γ):∀(l:List (α×β)) (vs:List γ),l.map (λp=>f p.2)=vs->(l.map λp=>(p.1,f p.2))=(l.map (·.1)).zip vs
 | [],vs,h=>by simp at h;subst h;rfl
 |p::l,vs,h=>by
  subst h;simp[TU f l _ rfl]
theorem Jg{P:Program}{n:Nat}{bN o:mM}{a:Act}(hv:lV n bN o a)(op:Oper){K:Value->Prop}(h:Xn P bN o op.op K):
  ∃v,K v/\∀w,(execOp a.eval op).run P w=.ok (.value v) w:=by
 obtain⟨dst,op,ty,pos,after,guard⟩:=op;cases op<;>simp only[Xn] at h<;>try (exact h.elim)
 case move x=>
  obtain⟨v,hx,hK⟩:=aV h;exact⟨v,hK,λw=>by simp[execOp,hv.rd hx]⟩
 case assign x=>
  obtain⟨v,hx,hK⟩:=aV h;exact⟨v,hK,λw=>by simp[execOp,hv.rd hx]⟩
 case pick c x y=>
  obtain⟨vc,hc,h⟩:=aV h;cases vc<;>try (exact h.elim)
  rename_i t
  cases t with
  |true=>
   obtain⟨v,hx,hK⟩:=aV h;exact⟨v,hK,λw=>by simp[execOp,hv.rd hx,hv.rd hc,asBool]⟩
  |false=>
   obtain⟨v,hx,hK⟩:=aV h;exact⟨v,hK,λw=>by simp[execOp,hv.rd hx,hv.rd hc,asBool]⟩
 case nilCheck x=>
  obtain⟨vx,hx,h⟩:=aV h;cases vx<;>try (exact h.elim)
  case pointer p=>
   obtain⟨ad,rfl,hK⟩:=pC h;exact⟨_,hK,λw=>by simp[execOp,hv.rd hx]⟩
  case func f a b=>
   cases f<;>try (exact h.elim)
   exact⟨_,h,λw=>by simp[execOp,hv.rd hx]⟩
 case binOp bop t x y yt=>
  obtain⟨vx,hx,h⟩:=aV h;obtain⟨vy,hy,h⟩:=aV h;obtain⟨v,hK,hr⟩:=aA6 h;refine⟨v,hK,λw=>?_⟩;have:=hr w x y;unfold execOp;simp only[hv.rd hx,hv.rd hy];simp only[Sem.run_bind] at this ⊢;rw[this]
  rfl
 case unOp uop t x=>
  obtain⟨vx,hx,h⟩:=aV h;obtain⟨v,hK,hr⟩:=unD_spec (P:=P) h;exact⟨v,hK,λw=>by simp[execOp,hv.rd hx,hr]⟩
 case convert src d x=>
  obtain⟨vx,hx,h⟩:=aV h;cases hs:P.underlying src with
  |none=>simp[hs] at h
  |some ds=>
   cases hd:P.underlying d with
   |none=>simp[hs,hd] at h
   |some dd=>
    cases dd<;>try (simp[hs,hd] at h;done)
    cases vx<;>try (simp[hs,hd] at h;done)
    simp only[hs,hd] at h;exact⟨_,h,λw=>by simp[execOp,hv.rd hx,convert,run_underlying hs,run_underlying hd,Conv.intToInt]⟩
 case fieldAddr s x f=>
  obtain⟨vx,hx,h⟩:=aV h;cases vx<;>try (exact h.elim)
  rename_i p
  obtain⟨ad,rfl,h⟩:=pC h;obtain⟨fd,hf,h⟩:=aV h;obtain⟨fs,hu,hfd⟩:=XR hf;obtain⟨m,h,hm⟩:=qX h;cases hz:Nat.beq m 0 with
  |true=>rw[hz] at h;exact h.elim
  |false=>
   rw[hz] at h;have hm0:m≠0:=Nat.ne_of_beq_eq_false hz;exact⟨_,h,λw=>by simp[execOp,hv.rd hx,Instr.fieldAt,run_underlying hu,hfd,Instr.sureAddr,fieldPlace,hm,hm0]⟩
 case field t x f=>
  obtain⟨vx,hx,h⟩:=aV h;cases vx<;>try (exact h.elim)
  rename_i cs
  obtain⟨fd,hf,h⟩:=aV h;obtain⟨fs,hu,hfd⟩:=XR hf;obtain⟨v,hK,hp⟩:=Jj h;exact⟨v,hK,λw=>by simp[execOp,hv.rd hx,Instr.field,run_underlying hu,hfd,asAgg,hp]⟩
 case indexAddr t x ix=>
  obtain⟨vx,hx,h1⟩:=aV h;obtain⟨vi,hi,h2⟩:=aV h1;clear h h1;have h:=h2;clear h2;cases vi<;>try (exact h.elim)
  rename_i k i
  cases hu:P.underlying t with
  |none=>simp[hu] at h
  |some d=>
   cases d<;>try (simp[hu] at h;done)
   case slice e=>
    cases vx<;>try (simp[hu] at h;done)
    rename_i b l c
    simp only[hu] at h;obtain⟨hb,h3⟩:=h;obtain⟨ad,rfl,h4⟩:=pC h3;obtain⟨m,h5,hm⟩:=qX h4;exact⟨_,h5,λw=>by simp[execOp,hv.rd hx,hv.rd hi,Instr.indexAt,asIntOf,run_underlying hu,hb,hm]⟩
   case array len e=>
    cases vx<;>try (simp[hu] at h;done)
    rename_i p
    simp only[hu] at h;obtain⟨hb,h3⟩:=h;obtain⟨ad,rfl,h4⟩:=pC h3;obtain⟨m,h5,hm⟩:=qX h4;exact⟨_,h5,λw=>by simp[execOp,hv.rd hx,hv.rd hi,Instr.indexAt,asIntOf,run_underlying hu,Instr.sureAddr,hb,hm]⟩
 case index t x ix=>
  obtain⟨vx,hx,h⟩:=aV h;obtain⟨vi,hi,h⟩:=aV h;cases vi<;>try (exact h.elim)
  rename_i k i
  obtain⟨v,hK,hr⟩:=bf (k:=k) h;exact⟨v,hK,λw=>by simp[execOp,hv.rd hx,hv.rd hi,hr]⟩
 case extract x i=>
  obtain⟨vx,hx,h⟩:=aV h;cases vx<;>try (exact h.elim)
  rename_i vs
  obtain⟨v,hi,hK⟩:=aV h;have dF:vs[i]? =some v:=by simpa using hi
  exact⟨v,hK,λw=>by simp[execOp,hv.rd hx,Instr.extract,dF]⟩
 case slice t x lo hi mx=>
  cases mx with
  |some m=>
   cases hi with
   |none=>exact h.elim
   |some hi=>
    simp only at h;obtain⟨vx,hx,h⟩:=aV h;have h:=Hw hv h;obtain⟨vh,hh,h⟩:=aV h;obtain⟨vm,hm,h⟩:=aV h;obtain⟨v,hK,hr⟩:=al h;exact⟨v,hK,λw=>by simp[execOp,hv.rd hx,hv.rd hh,hv.rd hm,hr]⟩
  |none=>
   simp only at h;obtain⟨vx,hx,h⟩:=aV h;have h:=Hw hv (Hw hv h);obtain⟨v,hK,hr⟩:=ny h;exact⟨v,hK,λw=>by simp[execOp,hv.rd hx,hr]⟩
 case build t parts=>
  obtain⟨vs,Fb,h⟩:=aV h;obtain⟨cells,hc,hK⟩:=aV h;refine⟨_,hK,λw=>?_⟩;have he:(parts.map λ(i,x)=>(i,a.eval x)).toList=(parts.toList.map (·.1)).zip vs:=by
   rw[Array.toList_map];exact TU a.eval parts.toList vs (by rw[<-hv.Ey Fb];simp)
  have:=run_build (P:=P) w t (parts.map λ(i,x)=>(i,a.eval x)) cells (by rw[he];exact hc);unfold execOp;simp only[Sem.run_bind,this]
  rfl
 case makeFunc fn first captured=>
  obtain⟨fs,hf,h⟩:=aV h;obtain⟨cs,hc,hK⟩:=aV h;refine⟨_,hK,λw=>?_⟩;have e1:first.map a.eval=fs.toArray:=by
   apply Array.toList_inj.1;simpa using hv.Ey hf
  have e2:captured.map a.eval=cs.toArray:=by
   apply Array.toList_inj.1;simpa using hv.Ey hc
  simp[execOp,Instr.makeFunc,e1,e2]
 case call c=>
  obtain⟨callee,args,argTypes⟩:=c;cases callee<;>try (exact h.elim)
  rename_i b
  obtain⟨args⟩:=args;obtain⟨argTypes⟩:=argTypes;cases b<;>try (exact h.elim)
  case len=>
   match args,argTypes,h with
   | [x],[t],h=>
    obtain⟨vx,hx,h⟩:=aV h;unfold lenD at h;cases hu:P.underlying t with
    |none=>simp[hu] at h
    |some d=>
     cases d<;>try (simp[hu] at h;done)
     case string=>
      cases vx<;>try (simp[hu] at h;done)
      simp only[hu] at h;exact⟨_,h,λw=>fS w (by simp[builtin,Builtin.len_,run_underlying hu,hv.rd hx,goInt])⟩
     case slice=>
      cases vx<;>try (simp[hu] at h;done)
      simp only[hu] at h;exact⟨_,h,λw=>fS w (by simp[builtin,Builtin.len_,run_underlying hu,hv.rd hx,goInt])⟩
     case array=>
      simp only[hu] at h;exact⟨_,h,λw=>fS w (by simp[builtin,Builtin.len_,run_underlying hu,goInt])⟩
  case cap=>
   match args,argTypes,h with
   | [x],[t],h=>
    obtain⟨vx,hx,h⟩:=aV h;cases hu:P.underlying t with
    |none=>simp[hu] at h
    |some d=>
     cases d<;>try (simp[hu] at h;done)
     cases vx<;>try (simp[hu] at h;done)
     simp only[hu] at h;exact⟨_,h,λw=>fS w (by simp[builtin,Builtin.cap_,run_underlying hu,hv.rd hx,goInt])⟩
  case min=>
   obtain⟨vs,Fb,h⟩:=aV h;cases vs with
   |nil=>exact h.elim
   |cons v r=>
    obtain⟨u,hK,hr⟩:=ZM (P:=P) false h;have e:=hv.Ey Fb;refine⟨u,hK,λw=>fS w ?_⟩;have:=hr w;simp only[Bool.false_eq_true,if_false] at this;simp only[List.map_toArray] at e ⊢;simp[builtin,Builtin.min_,e,this]
  case max=>
   obtain⟨vs,Fb,h⟩:=aV h;cases vs with
   |nil=>exact h.elim
   |cons v r=>
    obtain⟨u,hK,hr⟩:=ZM (P:=P) true h;have e:=hv.Ey Fb;refine⟨u,hK,λw=>fS w ?_⟩;have:=hr w;simp only[if_true] at this;simp only[List.map_toArray] at e ⊢;simp[builtin,Builtin.max_,e,this]
abbrev Tr:=List Value->aH->(Value->aH->Prop)->Prop
def pA(P:Program)(g:FuncId)(T:Tr):Prop:=
 ∀args w K,T args w K->Calls P g args.toArray w λe w'=>∃v,e=.returned v/\K v w'
def enters(P:Program)(g:FuncId):Bool:=match P.funcs[g]? with
 |some fn=>fn.body.isSome && !(fn.name== "runtime.NumGoroutine")
 |none=>false
abbrev Env:=List (FuncId×Tr)
def Xy:Env->FuncId->Option Tr
 | [],_=>none
 |(g,T)::r,f=>cond (Nat.beq g f) (some T) (Xy r f)
def RE(P:Program):Env->Prop
 | []=>True
 |(g,T)::r=>(enters P g=true/\pA P g T)/\RE P r
def lQ(P:Program)(fv:Value)(args:List Value)(w:aH)(K:WQ Value):Prop:=
 ∃g first cap,fv=.func (.func g) first cap/\enters P g=true/\Calls P g (first++args.toArray++cap) w λe w'=>∃v,e=.returned v/\K v w'
def runK(P:Program)(k:oH)(s:Sem Value)(w:aH)(K:WQ (k.T)):Prop:=∃x w',s.run P w=.ok (k.aX x) w'/\K x w'
def runU(P:Program)(s:Sem Unit)(w:aH)(K:aH->Prop):Prop:=∃w',s.run P w=.ok () w'/\K w'
def runT(P:Program)(ks:List oH)(s:Sem Value)(w:aH)(K:Fi ks->aH->Prop):Prop:=∃x w',s.run P w=.ok (.tuple (zD ks x).toArray) w'/\K x w'
def aG(w:aH)(cells:Array Value)(t:TypeId)(K:WQ Addr):Prop:=K ⟨w.heap.size,0,none⟩ (w.alloc (.cells cells t))
def rN(w:aH)(K:WQ Nat):Prop:=K w.heap.size (w.alloc (.map #[] 0))
def bW(w:aH)(a:Addr):Nat->List Value->Prop
 |_,[]=>True
 |i,v::r=>w.cell? (a.add i)=some v/\bW w a (i+1) r
def xY(k:CK)(w:aH)(a:Addr)(K:k.T->Prop):Prop:=∃x:k.T,w.cell? a=some (k.aX x)/\K x
def fL(l:List CK)(w:aH)(a:Addr)(K:CTs l->Prop):Prop:=∃x:CTs l,bW w a 0 (qP l x)/\K x
def Xq(P:Program)(t:TypeId)(w:aH)(a:Addr)(K:Value->(aH->Prop)->Prop):Prop:=
 match P.info? t with
 |some i=>match i.zero with
  |some z=>match P.underlying t with
   |some (.struct _)=>match z with
    | .agg zs=>cond (Nat.beq zs.size i.size) (fL (zs.toList.map CK.of) w a λx=>K (.agg (qP (zs.toList.map CK.of) x).toArray) λw'=>bW w' a 0 (qP (zs.toList.map CK.of) x)) False
    |_=>False
   |some (.array _ _)=>match z with
    | .agg zs=>cond (Nat.beq zs.size i.size) (fL (zs.toList.map CK.of) w a λx=>K (.agg (qP (zs.toList.map CK.of) x).toArray) λw'=>bW w' a 0 (qP (zs.toList.map CK.of) x)) False
    |_=>False
   |some _=>xY (CK.of z) w a λx=>K ((CK.of z).aX x) λw'=>w'.cell? a=some ((CK.of z).aX x)
   |none=>False
  |none=>False
 |none=>False
def aI(P:Program)(t:TypeId)(a:Addr)(v:Value)(w:aH)(K:aH->Prop):Prop:=runU P (storeVar t a v) w K
def aW(P:Program)(t u:TypeId)(s:Sl)(x:Value)(w:aH)(K:WQ Sl):Prop:=runK P (.c .slice) (Builtin.append_ #[t,u] 0 #[.slice s.b s.l s.c,x]) w K
def RA(P:Program)(t u:TypeId)(s:Sl)(x:Value)(w:aH)(K:WQ Int):Prop:=runK P (.c (.int .i64)) (Builtin.copy_ #[t,u] 0 #[.slice s.b s.l s.c,x]) w K
def CB(P:Program)(t:TypeId)(x:Value)(w:aH)(K:aH->Prop):Prop:=runT P [] (Builtin.clear_ #[t] 0 #[x]) w λ_ w'=>K w'
def qK(P:Program)(t u:TypeId)(m k:Value)(w:aH)(K:aH->Prop):Prop:=runT P [] (Builtin.delete_ #[t,u] 0 #[m,k]) w λ_ w'=>K w'
def Ek(P:Program)(t:TypeId)(m:Value)(w:aH)(K:WQ Int):Prop:=runK P (.c (.int .i64)) (Builtin.len_ #[t] 0 #[m]) w K
def kF(P:Program)(kn:oH)(t:TypeId)(m k:Value)(w:aH)(K:WQ (kn.T)):Prop:=runK P kn (Instr.lookup t m k false) w K
def HF(P:Program)(kn:oH)(t:TypeId)(m k:Value)(w:aH)(K:kn.T->WQ Bool):Prop:=runT P [kn,.c .bool] (Instr.lookup t m k true) w λx w'=>K x.1 x.2.1 w'
def fF(P:Program)(t:TypeId)(m k v:Value)(w:aH)(K:aH->Prop):Prop:=runU P (Instr.mapUpdate t m k v) w K
def HP(P:Program)(kn:oH)(t:TypeId)(m k:Value)(w:aH)(K:kn.T->WQ Int):Prop:=runT P [kn,.c (.int .i64)] (Instr.mapEntry t m k) w λx w'=>K x.1 x.2.1 w'
def uH(P:Program)(t:TypeId)(m s v:Value)(w:aH)(K:aH->Prop):Prop:=runU P (Instr.entryStore t m s v) w K
def rangeD(P:Program)(t:TypeId)(m:Value)(w:aH)(K:WQ Nat):Prop:=∃(r:Nat) (w':aH),(Instr.range t m).run P w=.ok (.pointer (some ⟨r,0,none⟩)) w'/\K r w'
def nextD(P:Program)(ty:TypeId)(it:Value)(w:aH)(K:WQ Bool):Prop:=∃(b:Bool) (r:List Value) (w':aH),(Instr.next it false ty).run P w=.ok (.tuple (.bool b::r).toArray) w'/\K b w'
def entryD(P:Program)(it:Value)(w:aH)(K:WQ Int):Prop:=∃(n:Int) (r:List Value) (w':aH),(Instr.entry it).run P w=.ok (.tuple (.int .i64 n::r).toArray) w'/\K n w'
def fK(P:Program)(t:TypeId)(l c:Value)(w:aH)(K:WQ Sl):Prop:=runK P (.c .slice) (Instr.makeSlice t l c) w K
def uw(P:Program)(kn:oH)(src dst:TypeId)(x:Value)(w:aH)(K:WQ (kn.T)):Prop:=runK P kn (convert src dst x) w K
def extD(P:Program)(kn:oH)(f:FuncId)(args:List Value)(w:aH)(K:WQ (kn.T)):Prop:=∃x w',(callFunc f args.toArray).run P w=.ok (.value (kn.aX x)) w'/\K x w'
def Ix(P:Program):List TypeId->Option (List oH)
 | []=>some []
 |t::r=>match P.info? t with
  |some i=>match i.zero with
   |some z=>match Ix P r with
    |some ks=>some (oH.of z::ks)
    |none=>none
   |none=>none
  |none=>none
def retD(P:Program)(ty:TypeId)(v:Value)(K:Value->Prop):Prop:=match P.underlying ty with
 |some (.tuple ts)=>nK (Ix P ts.toList) λks=>∃x:Fi ks,v=.tuple (zD ks x).toArray/\K (.tuple (zD ks x).toArray)
 |_=>Av P ty λz=>∃x:(oH.of z).T,v=(oH.of z).aX x/\K ((oH.of z).aX x)
def UF(P:Program)(t:TypeId)(len:Nat)(parts:List (Nat×Value)):Option (TypeId×Array Value):=match P.underlying t with
 |some (.slice e)=>match P.info? e with
  |some i=>match i.zero with
   |some z=>cond (Nat.ble (len*i.size) 16777216) (match Instr.fill (λj=>some (j*i.size,i.size)) (madeCells z.cells (len*i.size)) parts with
    |some cells=>some (e,cells)
    |none=>none) none
   |none=>none
  |none=>none
 |_=>none
def callD(P:Program)(env:Env)(ty:TypeId)(f:FuncId)(args:List Value)(w:aH)(K:WQ Value):Prop:=match Xy env f with
 |some T=>T args w K
 |none=>Av P ty λz=>extD P (oH.of z) f args w λx w'=>K ((oH.of z).aX x) w'
def aAm(P:Program)(env:Env)(bN o:mM)(op:Op)(ty:TypeId)(w:aH)(K:WQ Value):Prop:=
 match op with
 | .load t x=>nK (rd bN o x) λv=>match v with
  | .pointer p=>aC p λa=>Xq P t w a λv _=>K v w
  |_=>False
 | .alloc e=>Av P e λz=>aG w z.cells e λa w'=>K (.pointer (some a)) w'
 | .box e x=>nK (rd bN o x) λv=>aG w v.cells e λa w'=>K (.pointer (some a)) w'
 | .buildSlice t len parts=>nK (Ey bN o (parts.toList.map (·.2))) λvs=>nK (UF P t len ((parts.toList.map (·.1)).zip vs)) λp=>aG w p.2 p.1 λa w'=>K (.slice (some a) len len) w'
 | .store t x y=>nK (rd bN o x) λu=>nK (rd bN o y) λv=>match u with
  | .pointer p=>aC p λa=>aI P t a v w λw'=>K undef w'
  |_=>False
 | .makeMap _ none=>rN w λr w'=>K (.map (some r)) w'
 | .makeSlice t l c=>nK (rd bN o l) λu=>nK (rd bN o c) λv=>fK P t u v w λs w'=>K (.slice s.b s.l s.c) w'
 | .lookup t m k ok=>nK (rd bN o m) λu=>nK (rd bN o k) λv=>match P.underlying t with
  |some (.map _ e)=>Av P e λz=>cond ok (HF P (oH.of z) t u v w λx b w'=>K (.tuple #[(oH.of z).aX x,.bool b]) w') (kF P (oH.of z) t u v w λx w'=>K ((oH.of z).aX x) w')
  |_=>False
 | .mapUpdate t m k x=>nK (rd bN o m) λu=>nK (rd bN o k) λv=>nK (rd bN o x) λy=>fF P t u v y w λw'=>K undef w'
 | .insert t m k x=>nK (rd bN o m) λu=>nK (rd bN o k) λv=>nK (rd bN o x) λy=>fF P t u v y w λw'=>K undef w'
 | .mapEntry t m k=>nK (rd bN o m) λu=>nK (rd bN o k) λv=>match P.underlying t with
  |some (.map _ e)=>Av P e λz=>HP P (oH.of z) t u v w λx n w'=>K (.tuple #[(oH.of z).aX x,.int .i64 n]) w'
  |_=>False
 | .entryStore t m s x=>nK (rd bN o m) λu=>nK (rd bN o s) λv=>nK (rd bN o x) λy=>uH P t u v y w λw'=>K undef w'
 | .range t x=>nK (rd bN o x) λu=>rangeD P t u w λr w'=>K (.pointer (some ⟨r,0,none⟩)) w'
 | .next x s=>nK (rd bN o x) λu=>cond s False (∃(b:Bool) (r:List Value) (w':aH),(Instr.next u false ty).run P w=.ok (.tuple (.bool b::r).toArray) w'/\K (.tuple (.bool b::r).toArray) w')
 | .entry x=>nK (rd bN o x) λu=>∃(n:Int) (r:List Value) (w':aH),(Instr.entry u).run P w=.ok (.tuple (.int .i64 n::r).toArray) w'/\K (.tuple (.int .i64 n::r).toArray) w'
 | .convert src dst x=>nK (rd bN o x) λu=>Av P dst λz=>uw P (oH.of z) src dst u w λx w'=>K ((oH.of z).aX x) w'
 | .call {callee:=.builtin .append,args,argTypes}=>match args.toList,argTypes.toList with
  | [s,x],[t,u]=>nK (rd bN o s) λvs=>nK (rd bN o x) λvx=>match vs with
   | .slice b l c=>aW P t u ⟨b,l,c⟩ vx w λr w'=>K (.slice r.b r.l r.c) w'
   |_=>False
  |_,_=>False
 | .call {callee:=.builtin .copy,args,argTypes}=>match args.toList,argTypes.toList with
  | [s,x],[t,u]=>nK (rd bN o s) λvs=>nK (rd bN o x) λvx=>match vs with
   | .slice b l c=>RA P t u ⟨b,l,c⟩ vx w λn w'=>K (.int .i64 n) w'
   |_=>False
  |_,_=>False
 | .call {callee:=.builtin .clear,args,argTypes}=>match args.toList,argTypes.toList with
  | [x],[t]=>nK (rd bN o x) λvx=>CB P t vx w λw'=>K (.tuple #[]) w'
  |_,_=>False
 | .call {callee:=.builtin .delete,args,argTypes}=>match args.toList,argTypes.toList with
  | [m,k],[t,u]=>nK (rd bN o m) λvm=>nK (rd bN o k) λvk=>qK P t u vm vk w λw'=>K (.tuple #[]) w'
  |_,_=>False
 | .call {callee:=.builtin .len,args,argTypes}=>match args.toList,argTypes.toList with
  | [m],[t]=>nK (rd bN o m) λvm=>Ek P t vm w λn w'=>K (.int .i64 n) w'
  |_,_=>False
 | .call {callee:=.value (.func f),args,..}=>nK (Ey bN o args.toList) λvs=>callD P env ty f vs w K
 | .call {callee:=.value x,args,..}=>nK (rd bN o x) λfv=>nK (Ey bN o args.toList) λvs=>lQ P fv vs w λv w'=>retD P ty v λv'=>K v' w'
 |_=>False
def opD(P:Program)(env:Env)(bN o:mM)(op:Op)(ty:TypeId)(w:aH)(K:WQ Value):Prop:=
 cond (isPure P op) (Xn P bN o op λv=>K v w) (aAm P env bN o op ty w K)
theorem tU{P:Program}{t:TypeId}{K:Value->Prop}(h:Av P t K):∃i z,P.info? t=some i/\i.zero=some z/\K z:=by
 unfold Av at h;cases hi:P.info? t with
 |none=>rw[hi] at h;exact h.elim
 |some i=>
  rw[hi] at h;cases hz:i.zero with
  |none=>simp[hz] at h
  |some z=>simp only[hz] at h;exact⟨i,z,rfl,hz,h⟩
theorem run_loadCells{P:Program}{a:Addr}(w:aH):∀(vs:List Value) (i:Nat) (acc:Array Value),bW w a i vs->(loadCellsFrom a i vs.length acc).run P w=.ok (acc++vs.toArray) w
 | [],i,acc,_=>by simp[loadCellsFrom]
 |v::r,i,acc,h=>by
  have:=run_loadCells (P:=P) w r (i+1) (acc.push v) h.2;simp[loadCellsFrom,h.1,this]
theorem Bx:∀(l:List CK) (t:CTs l),(qP l t).length=l.length
 | [],_=>rfl
 |_::r,t=>by simp[qP,Bx r]
theorem TW{P:Program}{t:TypeId}{w:aH}{a:Addr}{K:Value->(aH->Prop)->Prop}(h:Xq P t w a K):
  ∃v C,K v C/\C w/\∀w',C w'->(loadVar t a).run P w'=.ok v w':=by
 unfold Xq at h;cases hi:P.info? t with
 |none=>simp[hi] at h
 |some i=>
  cases hz:i.zero with
  |none=>simp[hi,hz] at h
  |some z=>
   cases hu:P.underlying t with
   |none=>simp[hi,hz,hu] at h
   |some d=>
    by_cases hs:(∃fs,d=.struct fs)\/(∃n e,d=.array n e)
    ·have Qz:∀w,(isAgg t).run P w=.ok true w:=λw=>by
      rcases hs with⟨fs,rfl⟩|⟨n,e,rfl⟩<;>simp[isAgg,run_underlying hu]
     cases z<;>try (rcases hs with⟨fs,rfl⟩|⟨n,e,rfl⟩<;>simp[hi,hz,hu] at h;done)
     rename_i zs
     have h':cond (Nat.beq zs.size i.size) (fL (zs.toList.map CK.of) w a λx=>K (.agg (qP (zs.toList.map CK.of) x).toArray) λw'=>bW w' a 0 (qP (zs.toList.map CK.of) x)) False:=by
      rcases hs with⟨fs,rfl⟩|⟨n,e,rfl⟩<;>simpa only[hi,hz,hu] using h
     cases hb:Nat.beq zs.size i.size with
     |false=>rw[hb] at h';exact h'.elim
     |true=>
      rw[hb] at h';obtain⟨x,hx,hK⟩:=h';refine⟨_,_,hK,hx,λw' hw'=>?_⟩;have fW:(qP (zs.toList.map CK.of) x).length=i.size:=by
       rw[Bx];simpa using JD hb
      have hr:=run_loadCells (P:=P) w' _ 0 #[] hw';rw[fW] at hr;simp[loadVar,Qz,yS hi,loadCells,hr]
    ·have Qz:∀w,(isAgg t).run P w=.ok false w:=λw=>by
      cases d<;>simp[isAgg,run_underlying hu]<;>simp_all
     have h':xY (CK.of z) w a λx=>K ((CK.of z).aX x) λw'=>w'.cell? a=some ((CK.of z).aX x):=by
      cases d<;>first|simpa only[hi,hz,hu] using h|simp_all
     obtain⟨x,hx,hK⟩:=h';exact⟨_,_,hK,hx,λw' hw'=>by simp[loadVar,Qz,hw']⟩
theorem Jp{P:Program}:∀{env:Env} {f:FuncId} {T:Tr},RE P env->Xy env f=some T->enters P f=true/\pA P f T
 | [],_,_,_,h=>by cases h
 |(g,T')::r,f,T,mL,h=>by
  simp only[Xy] at h;cases hb:Nat.beq g f with
  |true=>
   rw[hb] at h;have:g=f:=JD hb;subst this;cases h;exact mL.1
  |false=>rw[hb] at h;exact Jp mL.2 h
theorem Jq{P:Program}{g:FuncId}(h:enters P g=true)(args:Array Value)(w:aH):(callFunc g args).run P w=.ok (.enter g args) w:=by
 unfold enters at h;cases hf:P.funcs[g]? with
 |none=>simp[hf] at h
 |some fn=>
  simp[hf] at h;obtain⟨h1,h2⟩:=h;obtain⟨c,hc⟩:=Fo.1 h1;simp[callFunc,hf,hc,h2]
theorem upon_value{P:Program}{o:Oper}{a:Act}{w w':aH}{next:Act->aH->Prop}{Q:Exit->Act->aH->Prop}{v:Value}
  (h:(execOp a.eval o).run P w=.ok (.value v) w') (hn:next (a.put o.dst v) w'):o.wp P a w next Q:=by
 unfold Oper.wp;rw[h];exact hn
theorem upon_skip{P:Program}{o:Oper}{a:Act}{w w':aH}{next:Act->aH->Prop}{Q:Exit->Act->aH->Prop}
  (h:(execOp a.eval o).run P w=.ok .skip w') (hn:next (a.put o.dst undef) w'):o.wp P a w next Q:=by
 unfold Oper.wp;rw[h];exact hn
theorem upon_enter{P:Program}{o:Oper}{a:Act}{w w':aH}{next:Act->aH->Prop}{Q:Exit->Act->aH->Prop}{f:FuncId}{args:Array Value}
  (h:(execOp a.eval o).run P w=.ok (.enter f args) w') (hn:Calls P f args w' λe Dk=>∃v,e=.returned v/\next (a.put o.dst v) Dk):o.wp P a w next Q:=by
 unfold Oper.wp;rw[h];exact hn.mono λe Dk ⟨v,he,hv⟩=>by subst he;exact hv
theorem Ke{P:Program}(w:aH)(t:TypeId)(len:Nat)(ps:Array (Nat×Value))(e:TypeId)(cells:Array Value)(hp:UF P t len ps.toList=some (e,cells)):
  (Instr.buildSlice t len ps).run P w=.ok (.slice (some ⟨w.heap.size,0,none⟩) len len) (w.alloc (.cells cells e)):=by
 unfold UF at hp;cases hu:P.underlying t with
 |none=>simp[hu] at hp
 |some d=>
  cases d<;>try (simp[hu] at hp;done)
  rename_i e'
  cases hi:P.info? e' with
  |none=>simp[hu,hi] at hp
  |some i=>
   cases hz:i.zero with
   |none=>simp[hu,hi,hz] at hp
   |some z=>
    simp only[hu,hi,hz] at hp;cases hb:Nat.ble (len*i.size) 16777216 with
    |false=>rw[hb] at hp;cases hp
    |true=>
     rw[hb] at hp;have FX:len*i.size<=16777216:=Nat.le_of_ble_eq_true hb;cases QN:Instr.fill (λj=>some (j*i.size,i.size)) (madeCells z.cells (len*i.size)) ps.toList with
     |none=>simp[QN] at hp
     |some cs=>
      simp[QN] at hp;obtain⟨rfl,rfl⟩:=hp;have uX:¬(2^24<len*i.size):=aB;unfold Instr.buildSlice;simp only[Sem.run_bind,run_underlying hu,Result.andThen_ok,yS hi,gt_iff_lt,uX,if_false]
      by_cases h0:len*i.size=0
      ·have YI:=QN
       rw[h0] at YI;simp only[madeCells,Array.range_zero',Array.map_empty] at YI;simp only[h0,if_true,Sem.run_pure,Result.andThen_ok,Array.range_zero',Array.map_empty,YI,newRow,Sem.run_bind,run_newObj]
       rfl
      ·simp only[madeCells] at QN
       simp only[h0,if_false,zeroValue,typeInfo,Sem.run_bind,run_program,hi,hz,Sem.run_pure,Result.andThen_ok,QN,newRow,run_newObj]
       rfl
theorem aA9(A:Array TypeId)(ty:TypeId)(x:Array Value):Builtin.append_ A ty x=Builtin.append_ A 0 x:=rfl
theorem copy_ty(A:Array TypeId)(ty:TypeId)(x:Array Value):Builtin.copy_ A ty x=Builtin.copy_ A 0 x:=rfl
theorem clear_ty(A:Array TypeId)(ty:TypeId)(x:Array Value):Builtin.clear_ A ty x=Builtin.clear_ A 0 x:=rfl
theorem aA0(A:Array TypeId)(ty:TypeId)(x:Array Value):Builtin.delete_ A ty x=Builtin.delete_ A 0 x:=rfl
theorem len_ty(A:Array TypeId)(ty:TypeId)(x:Array Value):Builtin.len_ A ty x=Builtin.len_ A 0 x:=rfl
theorem Ps{P:Program}{env:Env}(LL:RE P env){n:Nat}{bN o:mM}{a:Act}(hv:lV n bN o a)(op:Oper){w:aH}{K:Value->aH->Prop}{next:Act->aH->Prop}{Q:Exit->Act->aH->Prop}
  (h:aAm P env bN o op.op op.type w K) (hn:∀v w',K v w'->next (a.put op.dst v) w'):op.wp P a w next Q:=by
 obtain⟨dst,op,ty,pos,after,guard⟩:=op;cases op<;>simp only[aAm] at h<;>try (exact h.elim)
 case load t x=>
  obtain⟨v,hx,h1⟩:=aV h;cases v<;>try (exact h1.elim)
  obtain⟨ad,rfl,h2⟩:=pC h1;obtain⟨v,C,hK,hC,hr⟩:=TW h2;exact upon_value (v:=v) (w':=w) (by simp[execOp,hv.rd hx,Instr.loadAt,Instr.sureAddr,hr w hC]) (hn _ _ hK)
 case alloc e=>
  obtain⟨i,z,hi,hz,hK⟩:=tU h;exact upon_value (by simp[execOp,Instr.alloc,zeroValue,typeInfo,hi,hz,newVar,newRow]) (hn _ _ hK)
 case box e x=>
  obtain⟨v,hx,hK⟩:=aV h;exact upon_value (by simp[execOp,Instr.box,hv.rd hx,newVar,newRow]) (hn _ _ hK)
 case store t x y=>
  obtain⟨u,hx,h1⟩:=aV h;obtain⟨v,hy,h2⟩:=aV h1;cases u<;>try (exact h2.elim)
  obtain⟨ad,rfl,h3⟩:=pC h2;obtain⟨w',hr,hK⟩:=h3;exact upon_skip (w':=w') (by simp[execOp,hv.rd hx,hv.rd hy,Instr.storeAt,Instr.sureAddr,hr]) (hn _ _ hK)
 case makeMap t r=>
  cases r with
  |some r=>exact h.elim
  |none=>exact upon_value (by simp[execOp,Instr.makeMap]) (hn _ _ h)
 case makeSlice t l c=>
  obtain⟨u,hx,h1⟩:=aV h;obtain⟨v,hy,h2⟩:=aV h1;obtain⟨s,w',hr,hK⟩:=h2;exact upon_value (w':=w') (by simp[execOp,hv.rd hx,hv.rd hy,hr];rfl) (hn _ _ hK)
 case mapUpdate t m k x=>
  obtain⟨u,hm,h1⟩:=aV h;obtain⟨v,hk,h2⟩:=aV h1;obtain⟨y,hx,h3⟩:=aV h2;obtain⟨w',hr,hK⟩:=h3;exact upon_skip (w':=w') (by simp[execOp,hv.rd hm,hv.rd hk,hv.rd hx,hr]) (hn _ _ hK)
 case insert t m k x=>
  obtain⟨u,hm,h1⟩:=aV h;obtain⟨v,hk,h2⟩:=aV h1;obtain⟨y,hx,h3⟩:=aV h2;obtain⟨w',hr,hK⟩:=h3;exact upon_skip (w':=w') (by simp[execOp,hv.rd hm,hv.rd hk,hv.rd hx,hr]) (hn _ _ hK)
 case entryStore t m s x=>
  obtain⟨u,hm,h1⟩:=aV h;obtain⟨v,hk,h2⟩:=aV h1;obtain⟨y,hx,h3⟩:=aV h2;obtain⟨w',hr,hK⟩:=h3;exact upon_skip (w':=w') (by simp[execOp,hv.rd hm,hv.rd hk,hv.rd hx,hr]) (hn _ _ hK)
 case range t x=>
  obtain⟨u,hx,h1⟩:=aV h;obtain⟨r,w',hr,hK⟩:=h1;exact upon_value (w':=w') (by simp[execOp,hv.rd hx,hr]) (hn _ _ hK)
 case next x s=>
  obtain⟨u,hx,h1⟩:=aV h;cases s with
  |true=>exact h1.elim
  |false=>
   obtain⟨b,r,w',hr,hK⟩:=h1;exact upon_value (w':=w') (by simp only[execOp,hv.rd hx,Sem.run_bind,hr];rfl) (hn _ _ hK)
 case entry x=>
  obtain⟨u,hx,h1⟩:=aV h;obtain⟨n,r,w',hr,hK⟩:=h1;exact upon_value (w':=w') (by simp only[execOp,hv.rd hx,Sem.run_bind,hr];rfl) (hn _ _ hK)
 case mapEntry t m k=>
  obtain⟨u,hm,h1⟩:=aV h;obtain⟨v,hk,h2⟩:=aV h1;cases hu:P.underlying t with
  |none=>simp[hu] at h2
  |some d=>
   cases d<;>try (simp[hu] at h2;done)
   simp only[hu] at h2;obtain⟨i,z,hi,hz,h3⟩:=tU h2;obtain⟨x,w',hr,hK⟩:=h3;exact upon_value (w':=w') (by simp[execOp,hv.rd hm,hv.rd hk,hr];try rfl) (hn _ _ hK)
 case lookup t m k ok=>
  obtain⟨u,hm,h1⟩:=aV h;obtain⟨v,hk,h2⟩:=aV h1;cases hu:P.underlying t with
  |none=>simp[hu] at h2
  |some d=>
   cases d<;>try (simp[hu] at h2;done)
   simp only[hu] at h2;obtain⟨i,z,hi,hz,h3⟩:=tU h2;cases ok with
   |true=>
    obtain⟨x,w',hr,hK⟩:=h3;exact upon_value (w':=w') (by simp[execOp,hv.rd hm,hv.rd hk,hr];try rfl) (hn _ _ hK)
   |false=>
    obtain⟨x,w',hr,hK⟩:=h3;exact upon_value (w':=w') (by simp[execOp,hv.rd hm,hv.rd hk,hr];try rfl) (hn _ _ hK)
 case convert src d x=>
  obtain⟨u,hx,h1⟩:=aV h;obtain⟨i,z,hi,hz,h2⟩:=tU h1;obtain⟨x,w',hr,hK⟩:=h2;exact upon_value (w':=w') (by simp[execOp,hv.rd hx,hr]) (hn _ _ hK)
 case buildSlice t len parts=>
  obtain⟨vs,Fb,h1⟩:=aV h;obtain⟨p,hp,hK⟩:=aV h1;obtain⟨e,cells⟩:=p;have he:(parts.map λ(i,x)=>(i,a.eval x)).toList=(parts.toList.map (·.1)).zip vs:=by
   rw[Array.toList_map];exact TU a.eval parts.toList vs (by rw[<-hv.Ey Fb];simp)
  have hr:=Ke w t len (parts.map λ(i,x)=>(i,a.eval x)) e cells (by rw[he];exact hp);refine upon_value (v:=.slice (some ⟨w.heap.size,0,none⟩) len len) (w':=w.alloc (.cells cells e)) ?_ (hn _ _ hK);unfold execOp;simp only[Sem.run_bind,hr]
  rfl
 case call c=>
  obtain⟨callee,args,argTypes⟩:=c;obtain⟨args⟩:=args;obtain⟨argTypes⟩:=argTypes;cases callee with
  |invoke r m=>exact h.elim
  |builtin b=>
   cases b<;>try (exact h.elim)
   case append=>
    match args,argTypes,h with
    | [s,x],[t,u],h=>
     obtain⟨vs,hs,h1⟩:=aV h;obtain⟨vx,hx,h2⟩:=aV h1;cases vs<;>try (exact h2.elim)
     obtain⟨r,w',hr,hK⟩:=h2;exact upon_value (w':=w') (fS w (by
      simp only[builtin,Sem.run_bind,List.map_toArray,List.map_cons,List.map_nil,hv.rd hs,hv.rd hx];rw[aA9,hr.trans rfl];rfl)) (hn _ _ hK)
   case copy=>
    match args,argTypes,h with
    | [s,x],[t,u],h=>
     obtain⟨vs,hs,h1⟩:=aV h;obtain⟨vx,hx,h2⟩:=aV h1;cases vs<;>try (exact h2.elim)
     obtain⟨r,w',hr,hK⟩:=h2;exact upon_value (w':=w') (fS w (by
      simp only[builtin,Sem.run_bind,List.map_toArray,List.map_cons,List.map_nil,hv.rd hs,hv.rd hx];rw[copy_ty,hr.trans rfl];rfl)) (hn _ _ hK)
   case clear=>
    match args,argTypes,h with
    | [x],[t],h=>
     obtain⟨vx,hx,h2⟩:=aV h;obtain⟨r,w',hr,hK⟩:=h2;exact upon_value (w':=w') (fS w (by
      simp only[builtin,Sem.run_bind,List.map_toArray,List.map_cons,List.map_nil,hv.rd hx];rw[clear_ty,hr.trans rfl];rfl)) (hn _ _ hK)
   case delete=>
    match args,argTypes,h with
    | [m,k],[t,u],h=>
     obtain⟨vm,hm,h1⟩:=aV h;obtain⟨vk,hk,h2⟩:=aV h1;obtain⟨r,w',hr,hK⟩:=h2;exact upon_value (w':=w') (fS w (by
      simp only[builtin,Sem.run_bind,List.map_toArray,List.map_cons,List.map_nil,hv.rd hm,hv.rd hk];rw[aA0,hr.trans rfl];rfl)) (hn _ _ hK)
   case len=>
    match args,argTypes,h with
    | [m],[t],h=>
     obtain⟨vm,hm,h2⟩:=aV h;obtain⟨r,w',hr,hK⟩:=h2;exact upon_value (w':=w') (fS w (by
      simp only[builtin,Sem.run_bind,List.map_toArray,List.map_cons,List.map_nil,hv.rd hm];rw[len_ty,hr.trans rfl];rfl)) (hn _ _ hK)
  |value x=>
   by_cases hfx:∃f,x=.func f
   ·obtain⟨f,rfl⟩:=hfx
    obtain⟨vs,Fb,h1⟩:=aV h;have e:=hv.Ey Fb;have jl:∀w,(execOp a.eval {dst:=dst,op:=.call {callee:=.value (.func f),args:=⟨args⟩,argTypes:=⟨argTypes⟩},type:=ty,pos:=pos,after:=after,guard:=guard}).run P w=(callFunc f vs.toArray).run P w:=λw=>by
     have em:(⟨args⟩:Array Operand).map a.eval=vs.toArray:=by rw[<-e];simp
     unfold execOp;simp only[resolve,em,Act.eval,Deferred.ofValue,Sem.run_bind,Sem.run_pure,Result.andThen_ok,invoke];simp
    unfold callD at h1;cases hf:Xy env f with
    |some T=>
     rw[hf] at h1;obtain⟨h2,h3⟩:=Jp LL hf;exact upon_enter ((jl w).trans (Jq h2 _ w)) ((h3 _ _ _ h1).mono λe w' ⟨v,he,hK⟩=>⟨v,he,hn _ _ hK⟩)
    |none=>
     rw[hf] at h1;obtain⟨i,z,hi,hz,h3⟩:=tU h1;obtain⟨x,w',hr,hK⟩:=h3;exact upon_value ((jl w).trans hr) (hn _ _ hK)
   ·have h':nK (rd bN o x) λfv=>nK (Ey bN o args) λvs=>lQ P fv vs w λv w'=>retD P ty v λv'=>K v' w':=by
     cases x<;>first|exact h|exact absurd ⟨_,rfl⟩ hfx
    obtain⟨fv,hfv,h1⟩:=aV h';obtain⟨vs,Fb,h2⟩:=aV h1;obtain⟨g,first,cap,rfl,h3,h4⟩:=h2
    have e:=hv.Ey Fb;have em:(⟨args⟩:Array Operand).map a.eval=vs.toArray:=by rw[<-e];simp
    have jl:(execOp a.eval {dst:=dst,op:=.call {callee:=.value x,args:=⟨args⟩,argTypes:=⟨argTypes⟩},type:=ty,pos:=pos,after:=after,guard:=guard}).run P w=(callFunc g (first++vs.toArray++cap)).run P w:=by
     unfold execOp;simp only[resolve,em,hv.rd hfv,Deferred.ofValue,Sem.run_bind,Sem.run_pure,Result.andThen_ok,invoke]
    refine upon_enter (jl.trans (Jq h3 _ w)) (h4.mono λe w' ⟨v,he,hK⟩=>⟨v,he,?_⟩);have:K v w':=by
     unfold retD at hK;cases hu:P.underlying ty with
     |none=>
      rw[hu] at hK;obtain⟨i,z,hi,hz,x,rfl,hk⟩:=tU hK;exact hk
     |some d=>
      rw[hu] at hK;cases d
      case tuple ts=>
       obtain⟨ks,ia,x,rfl,hk⟩:=aV hK;exact hk
      all_goals
       obtain⟨i,z,hi,hz,x,rfl,hk⟩:=tU hK;exact hk
    exact hn _ _ this
structure Ctx where
 P:Program
 n:Nat
 env:Env
inductive ME where
 |dW
 |no
 |fl (i:Nat) (p:ME)
 |mn (i:Nat) (p r:ME)
inductive zp where
 |n
 |s (a b:zp)
 |c (a b:zp)
 |b (a:zp)
 |l (lE:List (Nat×oH)) (drop:List Nat) (a:zp)
 |j (lE:List (Nat×oH)) (drop:List Nat) (a b:zp)
 |r (p:ME)
 |o (LG:List Nat)
def OT(l:List (Nat×oH)):List oH:=l.map (·.2)
def Mb:(l:List (Nat×oH))->Fi (OT l)->mM
 | [],_=>[]
 |(i,k)::r,t=>(i,k.aX t.1)::Mb r t.2
def decL:(l:List (Nat×oH))->mM->mM->(Fi (OT l)->Prop)->Prop
 | [],_,_,K=>K ()
 |(i,k)::r,bN,o,K=>nK (rdT bN o i) λv=>k.LV v λx=>decL r bN o λt=>K (x,t)
def mem(l:List Nat)(i:Nat):Bool:=match l with
 | []=>false
 |j::r=>cond (Nat.beq j i) true (mem r i)
def jR:mM->List Nat->mM
 | [],_=>[]
 |(i,v)::r,l=>cond (mem l i) (jR r l) ((i,v)::jR r l)
def Gn:mM->List Nat->mM
 | [],_=>[]
 |(i,v)::r,l=>cond (mem l i) ((i,v)::Gn r l) (Gn r l)
def ko(dX:Array Oper)(j:Nat):Option Nat:=(dX[j]?).bind (·.dst)
def MZ(dX:Array Oper)(g:Option (Nat×Bool))(bN o:mM)(yes no:mM->Prop):Prop:=match g with
 |none=>yes bN
 |some (j,want)=>nK (ko dX j) λs=>nK (rdT bN o s) λv=>match v with
  | .bool t=>match mA o s with
   |none=>cond t (cond want (yes ((s,.bool true)::bN)) (no ((s,.bool true)::bN))) (cond want (no ((s,.bool false)::bN)) (yes ((s,.bool false)::bN)))
   |some _=>False
  | .tuple _=>no bN
  |_=>False
def regD(C:Ctx)(dX:Array Oper)(o:mM)(K:WQ mM):List Oper->mM->aH->Prop
 | [],bN,w=>K bN w
 |op::r,bN,w=>MZ dX op.guard bN o
  (λfX=>opD C.P C.env fX o op.op op.type w λv w'=>VC C.n op.dst v o fX λiE=>regD C dX o K r iE w')
  (λfX=>VC C.n op.dst undef o fX λiE=>regD C dX o K r iE w)
abbrev BM:=List (List Nat×(aH->Prop))
def iV(op:Oper)(l:List Nat):Bool:=op.after.toList.any λe=>Region.binds .any e && mem l e.on
def dI(op:Oper):BM->BM
 | []=>[]
 |(l,C)::r=>cond (iV op l) (dI op r) ((l,C)::dI op r)
def iM(i:Nat)(op:Oper):BM->BM
 | []=>[]
 |(l,C)::r=>cond (iV op l) ((i::l,C)::iM i op r) ((l,C)::iM i op r)
def Ba:BM->aH->Prop->Prop
 | [],_,G=>G
 |(_,C)::r,w,G=>C w/\Ba r w G
def floatD(P:Program)(bN o:mM)(op:Op)(w:aH)(K:Value->Option (aH->Prop)->Prop):Prop:=
 match op with
 | .load t x=>nK (rd bN o x) λv=>match v with
  | .pointer p=>aC p λa=>Xq P t w a λv C=>K v (some C)
  |_=>False
 |op=>Xn P bN o op λv=>K v none
def pushP(i:Nat)(C:Option (aH->Prop))(pd:BM):BM:=match C with
 |some C=>([i],C)::pd
 |none=>pd
def Tu(n:Nat)(op:Oper)(m:Nat):Bool:=op.after.toList.all λe=>!Region.binds .any e ||(Nat.blt e.on n && Nat.testBit m e.on)
def sJ(dX:Array Oper)(m i:Nat):Bool:=match dX[i]? with
 |some op=>!Nat.testBit m i && Tu dX.size op m
 |none=>false
def Gv(f:Nat->Bool):Nat->Bool
 |0=>true
 |n+1=>f n && Gv f n
def freeB(dX:Array Oper)(m i:Nat)(oi:Oper):Bool:=Gv (λj=>Nat.beq j i ||Nat.testBit m j ||match dX[j]? with
 |some oj=>oj.after.toList.any (λe=>Region.binds .any e && Nat.beq e.on i) ||oi.apart dX oj
 |none=>true) dX.size
def ME.depth:ME->Nat
 | .dW=>0
 | .no=>0
 | .fl _ p=>p.depth+1
 | .mn _ p r=>cond (Nat.ble (p.depth+1) r.depth) r.depth (p.depth+1)
def JT:ME->Nat->Bool
 | .mn i _ r,j=>Nat.beq i j ||JT r j
 |_,_=>false
def covered(dX:Array Oper)(m:Nat)(p:ME):Bool:=Gv (λj=>JT p j ||!sJ dX m j) dX.size
def uA(C:Ctx)(dX:Array Oper)(o:mM)(K:WQ mM):ME->Bool->Nat->BM->mM->aH->Prop
 | .dW,_,m,_,bN,w=>cond (covered dX m .no) (K bN w) False
 | .no,head,_,_,_,_=>cond head False True
 | .fl i p,_,m,pd,bN,w=>nK dX[i]? λop=>cond (sJ dX m i && freeB dX m i op) (MZ dX op.guard bN o (λfX=>floatD C.P fX o op.op w λv Cv=>VC C.n op.dst v o fX λiE=>uA C dX o K p true (Nat.lor m (Nat.shiftLeft 1 i)) (pushP i Cv (iM i op pd)) iE w) (λfX=>VC C.n op.dst undef o fX λiE=>uA C dX o K p true (Nat.lor m (Nat.shiftLeft 1 i)) (iM i op pd) iE w)) False
 | .mn i p r,head,m,pd,bN,w=>cond (!head ||(sJ dX m i && covered dX m (.mn i p r))) (match r with
   | .no=>nK dX[i]? λop=>MZ dX op.guard bN o (λfX=>aAm C.P C.env fX o op.op op.type w λv w'=>Ba (dI op pd) w' (VC C.n op.dst v o fX λiE=>uA C dX o K p true (Nat.lor m (Nat.shiftLeft 1 i)) (dI op pd) iE w')) (λfX=>Ba (dI op pd) w (VC C.n op.dst undef o fX λiE=>uA C dX o K p true (Nat.lor m (Nat.shiftLeft 1 i)) (dI op pd) iE w))
   |r=>(nK dX[i]? λop=>MZ dX op.guard bN o (λfX=>aAm C.P C.env fX o op.op op.type w λv w'=>Ba (dI op pd) w' (VC C.n op.dst v o fX λiE=>uA C dX o K p true (Nat.lor m (Nat.shiftLeft 1 i)) (dI op pd) iE w')) (λfX=>Ba (dI op pd) w (VC C.n op.dst undef o fX λiE=>uA C dX o K p true (Nat.lor m (Nat.shiftLeft 1 i)) (dI op pd) iE w)))/\uA C dX o K r false m pd bN w) False
def Gj:List Nat->mM->mM->mM
 | [],_,_=>[]
 |s::r,bN,o=>match rdT bN o s with
  |some v=>(s,v)::Gj r bN o
  |none=>Gj r bN o
def JQ(n:Nat)(o:mM):List Oper->Bool
 | []=>true
 |op::r=>(match op.dst with
  |none=>true
  |some d=>Nat.blt d n && (match mA o d with
   |none=>true
   |some _=>false)) && JQ n o r
def En(dX:Array Oper):Bool:=Gv (λi=>match dX[i]? with
 |some op=>op.after.toList.all λe=>!Region.binds .any e ||Nat.blt e.on i
 |none=>true) dX.size
def ja(dst:Option Nat)(v:Value)(bN:mM):mM:=match dst with
 |none=>bN
 |some d=>(d,v)::bN
def Ha(C:Ctx)(dX:Array Oper)(o:mM)(K:WQ mM):Nat->Nat->mM->aH->Prop
 |0,_,bN,w=>K bN w
 |k+1,m,bN,w=>∀i op,dX[i]? =some op->sJ dX m i=true->MZ dX op.guard bN o
   (λfX=>opD C.P C.env fX o op.op op.type w λv w'=>Ha C dX o K k (Nat.lor m (Nat.shiftLeft 1 i)) (ja op.dst v fX) w')
   (λfX=>Ha C dX o K k (Nat.lor m (Nat.shiftLeft 1 i)) (ja op.dst undef fX) w)
structure OrdP(C:Ctx)(dX:Array Oper)(o:mM)(K:WQ mM)(w:aH):Prop where
 out:Ha C dX o K dX.size 0 [] w
def aAa(P:Program)(bN:mM):List ResultVar->aH->(List Value->Prop)->Prop
 | [],_,K=>K []
 | .tmp t::r,w,K=>nK (rdT bN [] t) λv=>aAa P bN r w λvs=>K (v::vs)
 | .cell a t::r,w,K=>nK (rdT bN [] a) λv=>match v with
  | .pointer p=>aC p λad=>Xq P t w ad λv _=>aAa P bN r w λvs=>K (v::vs)
  |_=>False
def Oc(vs:List Value):Value:=match vs with
 | [v]=>v
 |vs=>.tuple vs.toArray
def postD(P:Program)(rs:List ResultVar)(R:WQ Value)(e:Exit)(bN:mM)(w:aH):Prop:=match e with
 | .normal=>aAa P bN rs w λvs=>R (Oc vs) w
 | .ret=>aAa P bN rs w λvs=>R (Oc vs) w
 |_=>False
def Xg(N:WQ mM)(Q:Exit->WQ mM):Exit->mM->aH->Prop
 | .normal,bN,w=>N bN w
 |e,bN,w=>Q e bN w
def St(id:Nat)(Q:Exit->WQ mM):Exit->mM->aH->Prop
 | .exit i,bN,w=>cond (Nat.beq i id) (Q .normal bN w) (Q (.exit i) bN w)
 |e,bN,w=>Q e bN w
def condD(v:Value)(A B:Prop):Prop:=match v with
 | .bool t=>cond t A B
 |_=>False
def D(C:Ctx):Code->zp->mM->(Exit->WQ mM)->mM->aH->Prop
 | .skip,_,_,Q,bN,w=>Q .normal bN w
 | .region _ dX draw,LW,o,Q,bN,w=>cond draw (match LW with
   | .r p=>cond (Nat.ble p.depth dX.size) (uA C dX o (Q .normal) p true 0 [] bN w.drew) False
   | .o LG=>cond (JQ C.n o dX.toList && JQ C.n (Gj LG bN o) dX.toList && En dX) (OrdP C dX (Gj LG bN o) (Q .normal) w.drew) False
   |_=>False) (regD C dX o (Q .normal) dX.toList bN w)
 | .seq x y,LW,o,Q,bN,w=>match LW with
  | .s a b=>D C x a o (Xg (D C y b o Q) Q) bN w
  | .n=>D C x .n o (Xg (D C y .n o Q) Q) bN w
  | .j lE drop a b=>∀J:Fi (OT lE)->aH->Prop,(∀t w,D C y b o Q (Mb lE t++jR bN drop) w->J t w)->
    D C x a (jR bN drop++o) (Xg (λfX w'=>decL lE fX (jR bN drop++o) λt=>J t w') λe fX w'=>Q e (fX++jR bN drop) w') (Gn bN drop) w
  |_=>False
 | .cond c x y,LW,o,Q,bN,w=>match LW with
  | .c a b=>nK (rd bN o c) λv=>condD v (D C x a o Q bN w) (D C y b o Q bN w)
  | .n=>nK (rd bN o c) λv=>condD v (D C x .n o Q bN w) (D C y .n o Q bN w)
  |_=>False
 | .block id c,LW,o,Q,bN,w=>match LW with
  | .b a=>D C c a o (St id Q) bN w
  | .n=>D C c .n o (St id Q) bN w
  |_=>False
 | .loop c,LW,o,Q,bN,w=>match LW with
  | .l lE drop a=>∀X:Fi (OT lE)->aH->Prop,
    (∀t w,D C c a (jR bN drop++o) (Xg (λfX w'=>decL lE fX (jR bN drop++o) λt'=>X t' w') λe fX w'=>Q e (fX++jR bN drop) w') (Mb lE t) w->X t w)->
    decL lE bN o λt=>X t w
  |_=>False
 | .exit id,_,_,Q,bN,w=>Q (.exit id) bN w
 | .ret,_,_,Q,bN,w=>Q .ret bN w
 |_,_,_,_,_,_=>False
theorem kI(x y:mM)(t:Nat):mA (x++y) t=match mA x t with
  |some v=>some v
  |none=>mA y t:=by
 induction x with
 |nil=>rfl
 |cons p x ih=>
  obtain⟨i,v⟩:=p;simp only[List.cons_append,mA];cases Nat.beq i t with
  |true=>rfl
  |false=>exact ih
theorem JW(l:List Nat)(t:Nat):∀(x:mM),mA (jR x l) t=cond (mem l t) none (mA x t)
 | []=>by cases mem l t<;>rfl
 |(i,v)::r=>by
  have ih:=JW l t r;simp only[jR,mA];cases hb:Nat.beq i t with
  |true=>
   have:i=t:=JD hb;subst this;cases hm:mem l i with
   |true=>rw[hm] at ih;exact ih
   |false=>simp only[cond_false,mA,hb,cond_true]
  |false=>
   cases hm:mem l i with
   |true=>simp only[cond_true];rw[ih];rfl
   |false=>simp only[cond_false,mA,hb];rw[ih]
theorem TV(l:List Nat)(t:Nat):∀(x:mM) (v:Value),mA (Gn x l) t=some v->mem l t=true/\mA x t=some v
 | [],v,h=>by cases h
 |(i,u)::r,v,h=>by
  simp only[Gn] at h;cases hm:mem l i with
  |true=>
   rw[hm] at h;simp only[cond_true,mA] at h;cases hb:Nat.beq i t with
   |true=>
    rw[hb] at h;have:i=t:=JD hb;subst this;exact⟨hm,by simp only[mA,hb];exact h⟩
   |false=>
    rw[hb] at h;obtain⟨h1,h2⟩:=TV l t r v h;exact⟨h1,by simp only[mA,hb];exact h2⟩
  |false=>
   rw[hm] at h;obtain⟨h1,h2⟩:=TV l t r v h;refine⟨h1,?_⟩;have:Nat.beq i t=false:=by
    cases hb:Nat.beq i t with
    |false=>rfl
    |true=>
     have:i=t:=JD hb;subst this;rw[h1] at hm;cases hm
   simp only[mA,this];exact h2
theorem lV.outer{n:Nat}{bN o:mM}{a:Act}(h:lV n bN o a)(l:List Nat):∀t v,mA (jR bN l++o) t=some v->a.tmps.getD t undef=v:=by
 intro t v hv;rw[kI,JW] at hv;cases hm:mem l t with
 |true=>rw[hm] at hv;exact h.o t v hv
 |false=>
  rw[hm] at hv;cases hl:mA bN t with
  |some u=>rw[hl] at hv;simp at hv;subst hv;exact h.bN t _ hl
  |none=>rw[hl] at hv;exact h.o t v hv
theorem HC{n:Nat}{bN o:mM}{a:Act}(h:lV n bN o a){t:Nat}{v:Value}(hx:rdT bN o t=some v):a.tmps.getD t undef=v:=
 h.rd (x:=.tmp t) hx
theorem PH{n:Nat}{a:Act}:∀{l:List (Nat×oH)} {bN o:mM} {K:Fi (OT l)->Prop},lV n bN o a->decL l bN o K->
  ∃t,K t/\∀i v,mA (Mb l t) i=some v->a.tmps.getD i undef=v
 | [],_,_,_,_,h=>⟨(),h,λi v hv=>by cases hv⟩
 |(i,k)::r,bN,o,K,hv,h=>by
  obtain⟨v,hr,h1⟩:=aV h;obtain⟨x,rfl,h2⟩:=oH.yK h1;obtain⟨t,hK,ht⟩:=PH (K:=λt=>K (x,t)) hv h2;refine⟨(x,t),hK,λj u hu=>?_⟩;simp only[Mb,mA] at hu;cases hb:Nat.beq i j with
  |true=>
   rw[hb] at hu;have:i=j:=JD hb;subst this;cases hu;exact HC hv hr
  |false=>rw[hb] at hu;exact ht j u hu
theorem EF{n:Nat}{bN o:mM}{a:Act}(hv:lV n bN o a){dX:Array Oper}{op:Oper}{yes no:mM->Prop}(h:MZ dX op.guard bN o yes no):
  (∃fX,lV n fX o a/\Region.wanted op (yielded dX a.tmps)=true/\yes fX)\/(∃fX,lV n fX o a/\Region.wanted op (yielded dX a.tmps)=false/\no fX):=by
 unfold MZ at h;cases hg:op.guard with
 |none=>rw[hg] at h;exact .inl ⟨bN,hv,by simp[Region.wanted,hg],h⟩
 |some jw=>
  obtain⟨j,want⟩:=jw;rw[hg] at h;obtain⟨s,hs,h1⟩:=aV h;obtain⟨v,hr,h2⟩:=aV h1;cases v<;>try (exact h2.elim)
  case tuple vs=>
   have ht:=HC hv hr;have hy:yielded dX a.tmps j=none:=by
    unfold ko at hs;cases hq:a.tmps[s]? with
    |none=>simp[yielded,hs,hq]
    |some u=>simp[hq] at ht;simp[yielded,hs,hq,ht]
   exact .inr ⟨bN,hv,by simp[Region.wanted,hg,hy],h2⟩
  rename_i t
  have ht:=HC hv hr;have hy:yielded dX a.tmps j=some t:=by
   unfold ko at hs;have hsome:a.tmps[s]? =some (.bool t):=by
    cases hq:a.tmps[s]? with
    |none=>simp[hq,undef] at ht
    |some u=>simp[hq] at ht;rw[ht]
   simp[yielded,hs,hsome]
  cases Ds:mA o s with
  |some u=>simp only[Ds] at h2
  |none=>
  simp only[Ds] at h2;have ue:lV n ((s,.bool t)::bN) o a:=by
   refine⟨hv.size,?_,hv.o,hv.se⟩;intro i u hu;simp only[mA] at hu;cases hb:Nat.beq s i with
   |true=>
    rw[hb] at hu;have:s=i:=JD hb;subst this;cases hu;exact ht
   |false=>rw[hb] at hu;exact hv.bN i u hu
  cases t<;>cases want
  ·exact .inl ⟨_,ue,by simp[Region.wanted,hg,hy],h2⟩
  ·exact .inr ⟨_,ue,by simp[Region.wanted,hg,hy],h2⟩
  ·exact .inr ⟨_,ue,by simp[Region.wanted,hg,hy],h2⟩
  ·exact .inl ⟨_,ue,by simp[Region.wanted,hg,hy],h2⟩
theorem Yq{P:Program}{env:Env}(LL:RE P env){n:Nat}{bN o:mM}{a:Act}(hv:lV n bN o a)(op:Oper){w:aH}{K:Value->aH->Prop}{next:Act->aH->Prop}{Q:Exit->Act->aH->Prop}
  (h:opD P env bN o op.op op.type w K) (hn:∀v w',K v w'->next (a.put op.dst v) w'):op.wp P a w next Q:=by
 unfold opD at h;cases hp:isPure P op.op with
 |true=>
  rw[hp] at h;obtain⟨v,hK,hr⟩:=Jg hv op h;exact upon_value (hr w) (hn _ _ hK)
 |false=>rw[hp] at h;exact Ps LL hv op h hn
theorem TR{C:Ctx}(LL:RE C.P C.env){dX:Array Oper}{o:mM}{K:mM->aH->Prop}{Q:Exit->Act->aH->Prop}(hQ:∀bN a w,lV C.n bN o a->K bN w->Q .normal a w):
  ∀(l:List Oper) (bN:mM) (a:Act) (w:aH),lV C.n bN o a->regD C dX o K l bN w->wpList C.P dX Q l a w
 | [],bN,a,w,hv,h=>hQ bN a w hv h
 |op::r,bN,a,w,hv,h=>by
  simp only[regD] at h;unfold wpList;rcases EF hv h with⟨fX,jY,hw,h1⟩|⟨fX,jY,hw,h1⟩
  ·rw[if_pos hw]
   refine .inl (Yq LL jY op h1 λv w' h2=>?_);obtain⟨iE,h3,h4⟩:=wT h2;exact TR LL hQ r iE _ w' (h4 a jY) h3
  ·rw[if_neg (by rw[hw];simp)]
   obtain⟨iE,h3,h4⟩:=wT h1;exact TR LL hQ r iE _ w (h4 a jY) h3
def Wd(P:Program)(dX:Array Oper)(Q:Exit->WQ Act):Nat->Array Bool->BM->Act->aH->Prop
 |0,done,_,a,w=>Region.ready .any dX done=[]/\Q .normal a w
 |f+1,done,pd,a,w=>(Region.ready .any dX done=[]->Q .normal a w)/\∀j∈Region.ready .any dX done,∀oj,dX[j]? =some oj->
   wpOp P dX Q j (λa' w'=>(∀p∈dI oj pd,p.2 w')/\Wd P dX Q f (done.setIfInBounds j true) (dI oj pd) a' w') a w
theorem Wd_any{P:Program}{dX:Array Oper}{Q:Exit->Act->aH->Prop}:∀(f:Nat) (done:Array Bool) (pd:BM) (a:Act) (w:aH),Wd P dX Q f done pd a w->wpAny P .any dX Q f done a w
 |0,_,_,_,_,h=>h
 |f+1,done,pd,a,w,h=>⟨h.1,λj hj=>by
  obtain⟨_,o,ho,_⟩:=mem_ready.1 hj;exact wpOp_mono (λa' w' h'=>Wd_any f _ _ a' w' h'.2) (h.2 j hj o ho)⟩
theorem jV{op:Oper}:∀{pd:BM} {p:List Nat×(aH->Prop)},p∈dI op pd↔p∈pd/\iV op p.1=false
 | [],p=>by simp[dI]
 |(l,C)::r,p=>by
  simp only[dI];cases hw:iV op l with
  |true=>
   simp only[cond_true,jL,jV (pd:=r)]
   constructor
   ·rintro⟨h1,h2⟩;exact⟨.inr h1,h2⟩
   ·rintro⟨h1|h1,h2⟩
    ·subst h1;rw[hw] at h2;cases h2
    ·exact⟨h1,h2⟩
  |false=>
   simp only[cond_false,jL,jV (pd:=r)]
   constructor
   ·rintro(h1|⟨h1,h2⟩)
    ·subst h1;exact⟨.inl rfl,hw⟩
    ·exact⟨.inr h1,h2⟩
   ·rintro⟨h1|h1,h2⟩
    ·exact .inl h1
    ·exact .inr ⟨h1,h2⟩
theorem Wd_sub{P:Program}{dX:Array Oper}{Q:Exit->Act->aH->Prop}:∀(f:Nat) (done:Array Bool) (pd fb:BM) (a:Act) (w:aH),(∀p∈fb,p∈pd)->Wd P dX Q f done pd a w->Wd P dX Q f done fb a w
 |0,_,_,_,_,_,_,h=>h
 |f+1,done,pd,fb,a,w,hs,h=>⟨h.1,λj hj oj Lo=>wpOp_mono (λa' w' h'=>by
   have DA:∀p∈dI oj fb,p∈dI oj pd:=λp hp=>jV.2 ⟨hs p (jV.1 hp).1,(jV.1 hp).2⟩;exact⟨λp hp=>h'.1 p (DA p hp),Wd_sub f _ _ _ a' w' DA h'.2⟩) (h.2 j hj oj Lo)⟩
def vH(P:Program)(dX:Array Oper)(Cl:aH->Prop)(o:Oper)(v:Value)(a:Act):Prop:=
 (Region.wanted o (yielded dX a.tmps)=true/\∀w,Cl w->(execOp a.eval o).run P w=.ok (.value v) w)\/
 (Region.wanted o (yielded dX a.tmps)=false/\v=undef)
theorem vH.wpOp{P:Program}{dX:Array Oper}{Cl:aH->Prop}{Q:Exit->Act->aH->Prop}{i:Nat}{o:Oper}{v:Value}{a:Act}(hi:dX[i]? =some o)(hy:vH P dX Cl o v a)
  {K:Act->aH->Prop} {w:aH} (hw:Cl w) (h:K (a.put o.dst v) w):wpOp P dX Q i K a w:=by
 unfold Go.wpOp;simp only[hi];rcases hy with⟨h1,hv⟩|⟨h1,rfl⟩
 ·simp only[h1,if_true,Oper.wp,hv w hw,Oper.upon];exact .inl h
 ·simp only[h1,Bool.false_eq_true,if_false];exact h
theorem aAs{P:Program}{dX:Array Oper}{Cl:aH->Prop}{Q:Exit->Act->aH->Prop}{j:Nat}{oi oj:Oper}{v:Value}(hj:dX[j]? =some oj)(hap:oi.apart dX oj=true)
  (gy:∀cs b,oi.op≠.select cs b) (hsj:∀cs b,oj.op≠.select cs b)
  (hQ:∀c a w,Q (.panic c) (a.put oi.dst v) w->Q (.panic c) a w) {K:Act->aH->Prop} {a:Act} {w:aH}
  (hy:vH P dX Cl oi v a) (h:Go.wpOp P dX Q j K (a.put oi.dst v) w):
  Go.wpOp P dX Q j (λa' w'=>vH P dX Cl oi v a'/\K (a'.put oi.dst v) w') a w:=by
 obtain⟨h1,h2,h3⟩:=Oper.apart_spec hap;have of_same:∀{a a':Act},vH P dX Cl oi v a->execOp a'.eval oi=execOp a.eval oi->Region.wanted oi (yielded dX a'.tmps)=Region.wanted oi (yielded dX a.tmps)->vH P dX Cl oi v a':=λhy he hw=>by
  unfold vH at*;rw[he,hw];exact hy
 have aO:∀(a:Act),vH P dX Cl oi v a->∀u,vH P dX Cl oi v (a.put oj.dst u):=λa hy u=>
  of_same hy (execOp_put oi gy a oj.dst u h3) (wanted_put oi a oj.dst u h3)
 have keepD:∀d,vH P dX Cl oi v {a with defers:=d::a.defers}:=λd=>of_same hy rfl rfl;unfold Go.wpOp at*;simp only[hj] at*;rw[wanted_put oj a oi.dst v h1] at h
 split
 ·rename_i hw
  simp only[hw,if_true] at h;rcases h with h|⟨hasks,hlets⟩
  case inr=>exact .inr ⟨by unfold Oper.asks at*;rw[execOp_put oj hsj a oi.dst v h1] at hasks;exact hasks,hlets⟩
  refine .inl ?_;unfold Oper.wp at*;rw[execOp_put oj hsj a oi.dst v h1] at h;generalize (execOp a.eval oj).run P w=r at*;cases r with
  |ok n w'=>
   cases n<;>simp only[Oper.upon] at h ⊢
   case value u=>exact⟨aO a hy u,by rw[<-Act.put_comm a v u h2];exact h⟩
   case skip=>exact⟨aO a hy _,by rw[<-Act.put_comm a v undef h2];exact h⟩
   case defer d=>
    refine⟨aO _ (keepD d) _,?_⟩;rw[<-Act.put_comm _ v undef h2,<-Act.put_defers];exact h
   case enter f args=>
    refine Calls.mono h λe Dk he=>?_;cases e with
    |returned u=>exact⟨aO a hy u,by rw[<-Act.put_comm a v u h2];exact he⟩
    |panicked c=>exact hQ _ _ _ he
    |outgrown=>exact he
   case row row args=>exact Rows.mono h λu Dk he=>⟨aO a hy u,by rw[<-Act.put_comm a v u h2];exact he⟩
  |halt x w'=>
   cases x<;>simp only[Oper.upon] at h ⊢
   case panic u=>exact hQ _ _ _ h
 ·rename_i hw
  simp only[hw] at h;exact⟨aO a hy _,by rw[<-Act.put_comm a v undef h2];exact h⟩
theorem FM{i:Nat}{op:Oper}:∀{pd:BM} {l:List Nat} {Cl:aH->Prop},(l,Cl)∈pd->(l,Cl)∈iM i op pd\/(iV op l=true/\(i::l,Cl)∈iM i op pd)
 | [],_,_,h=>by cases h
 |(l',C')::r,l,Cl,h=>by
  simp only[iM];rcases jL.1 h with h|h
  ·obtain⟨rfl,rfl⟩:=Prod.mk.inj h
   cases hw:iV op l with
   |true=>exact .inr ⟨rfl,by simp⟩
   |false=>exact .inl dJ
  ·rcases FM (i:=i) (op:=op) h with h|⟨h1,h2⟩
   ·left;cases iV op l'<;>exact VD _ h
   ·right;refine⟨h1,?_⟩;cases iV op l'<;>exact VD _ h2
theorem sV{i:Nat}{op:Oper}:∀{pd:BM} {p:List Nat×(aH->Prop)},p∈iM i op pd->∃l,(l,p.2)∈pd/\((p.1=l/\iV op l=false)\/(p.1=i::l/\iV op l=true))
 | [],p,h=>by cases h
 |(l',C')::r,p,h=>by
  simp only[iM] at h;cases hw:iV op l' with
  |true=>
   rw[hw] at h;rcases jL.1 h with h|h
   ·subst h;exact⟨l',by simp,.inr ⟨rfl,hw⟩⟩
   ·obtain⟨l,h1,h2⟩:=sV h
    exact⟨l,VD _ h1,h2⟩
  |false=>
   rw[hw] at h;rcases jL.1 h with h|h
   ·subst h;exact⟨l',by simp,.inl ⟨rfl,hw⟩⟩
   ·obtain⟨l,h1,h2⟩:=sV h
    exact⟨l,VD _ h1,h2⟩
theorem RH{op:Oper}{i:Nat}{l:List Nat}(h:∀e∈op.after,Region.binds .any e=true->e.on≠i):iV op (i::l)=iV op l:=by
 unfold iV;rw[Bool.eq_iff_iff,List.any_eq_true,List.any_eq_true]
 constructor
 ·rintro⟨e,he,hb⟩
  simp only[tO] at hb;refine⟨e,he,?_⟩;simp only[tO];refine⟨hb.1,?_⟩;have gH:=h e (by simpa using he) hb.1;have h2:=hb.2;simp only[mem] at h2;have:Nat.beq i e.on=false:=by
   cases hq:Nat.beq i e.on with
   |false=>rfl
   |true=>exact absurd (JD hq).symm gH
  rw[this] at h2;exact h2
 ·rintro⟨e,he,hb⟩
  simp only[tO] at hb;refine⟨e,he,?_⟩;simp only[tO];refine⟨hb.1,?_⟩;simp only[mem];cases Nat.beq i e.on with
  |true=>rfl
  |false=>exact hb.2
theorem Ug{op:Oper}{i:Nat}(h:∀e∈op.after,Region.binds .any e=true->e.on≠i):iV op [i]=false:=by
 rw[RH h];unfold iV;rw[List.any_eq_false];intro e he;simp[mem]
theorem Ow{i:Nat}{oi oj:Oper}(uX:∀e∈oj.after,Region.binds .any e=true->e.on≠i):∀(pd:BM),dI oj (iM i oi pd)=iM i oi (dI oj pd)
 | []=>rfl
 |(l,C)::r=>by
  have ih:=Ow (i:=i) (oi:=oi) uX r;simp only[iM,dI];cases h1:iV oi l with
  |true=>
   simp only[cond_true,dI,RH uX];cases h2:iV oj l with
   |true=>simpa using ih
   |false=>simp[iM,h1,ih]
  |false=>
   simp only[cond_false,dI];cases h2:iV oj l with
   |true=>simpa using ih
   |false=>simp[iM,h1,ih]
theorem Il{P:Program}{dX:Array Oper}{Cl:aH->Prop}{Q:Exit->Act->aH->Prop}{i:Nat}{oi:Oper}{v:Value}(hi:dX[i]? =some oi)(hsel:∀(j:Nat) (o:Oper) cs b,dX[j]? =some o->o.op≠.select cs b)
  (hQ:∀c a w,Q (.panic c) (a.put oi.dst v) w->Q (.panic c) a w):
  ∀(f:Nat) (done:Array Bool) (pd:BM) (a:Act) (w:aH),
   (∀j oj,dX[j]? =some oj->j≠i->done.getD j true=false->(∀e∈oj.after,Region.binds .any e=true->e.on≠i)->oi.apart dX oj=true)->
   i∈Region.ready .any dX done->vH P dX Cl oi v a->Cl w->(∀p∈pd,p.2 w)->
   Wd P dX Q f (done.setIfInBounds i true) (([i],Cl)::iM i oi pd) (a.put oi.dst v) w->Wd P dX Q (f+1) done pd a w:=by
 intro f
 induction f with
 |zero=>
  intro done pd a w _ hr hy hC hp H;refine⟨λh=>(by rw[h] at hr;cases hr),λj hj oj Lo=>?_⟩
  by_cases CV:j=i
  ·subst CV
   rw[hi] at Lo;cases Lo;exact hy.wpOp hi hC ⟨λp gz=>hp p (jV.1 gz).1,H.1,H.2⟩
  ·have:=ready_mono hj CV
   rw[H.1] at this;cases this
 |succ f ih=>
  intro done pd a w hfree hr hy hC hp H;refine⟨λh=>(by rw[h] at hr;cases hr),λj hj oj Lo=>?_⟩
  by_cases CV:j=i
  ·subst CV
   rw[hi] at Lo;cases Lo;refine hy.wpOp hi hC ⟨λp gz=>hp p (jV.1 gz).1,Wd_sub _ _ _ _ _ _ ?_ H⟩;intro p gz;obtain⟨h1,h2⟩:=jV.1 gz;obtain⟨l,Cl'⟩:=p;rcases FM (i:=j) (op:=oi) h1 with h3|⟨h3,_⟩
   ·exact VD _ h3
   ·rw[h2] at h3;cases h3
  ·obtain⟨hjun,oj',hoj',oF⟩:=mem_ready.1 hj
   rw[Lo] at hoj';cases hoj';have h1:=H.2 j (ready_mono hj CV) oj Lo;have jm:∀e∈oj.after,Region.binds .any e=true->e.on≠i:=λe he hb heq=>by
    have h1:=oF e he hb;have h0:=(mem_ready.1 hr).1;rw[heq] at h1;rcases Nat.lt_or_ge i done.size with h'|h'
    ·simp[h'] at h0 h1;rw[h0] at h1;cases h1
    ·simp[Array.getElem?_eq_none h'] at h1
   have h2:=aAs Lo (hfree j oj Lo CV hjun jm) (λcs b=>hsel i oi cs b hi) (λcs b=>hsel j oj cs b Lo) hQ hy h1;have hfree':∀k ok,dX[k]? =some ok->k≠i->(done.setIfInBounds j true).getD k true=false->
     (∀e∈ok.after,Region.binds .any e=true->e.on≠i)->oi.apart dX ok=true:=λk ok hk hki Dr uX=>by
    refine hfree k ok hk hki ?_ uX
    by_cases hjk:j=k
    ·subst hjk;exact hjun
    ·rw[getD_set_ne true hjk] at Dr;exact Dr
   have gz:dI oj (([i],Cl)::iM i oi pd)=([i],Cl)::iM i oi (dI oj pd):=by
    simp only[dI,Ug jm,cond_false];rw[Ow jm]
   rw[gz] at h2;refine wpOp_mono (λa' w' h3=>?_) h2;obtain⟨Vm,hcl,hW⟩:=h3;have hCw:Cl w':=hcl ([i],Cl) dJ;have hpd:∀p∈dI oj pd,p.2 w':=λp hpp=>by
    obtain⟨l,Cl'⟩:=p;rcases FM (i:=i) (op:=oi) hpp with h4|⟨_,h4⟩
    ·exact hcl _ (VD _ h4)
    ·exact hcl (i::l,Cl') (VD _ h4)
   refine⟨hpd,ih (done.setIfInBounds j true) (dI oj pd) a' w' hfree' (ready_mono hr (Ne.symm CV)) Vm hCw hpd ?_⟩;rw[Array.setIfInBounds_comm _ _ CV];exact hW
theorem TZ:∀{pd:BM} {w:aH} {G:Prop},Ba pd w G->(∀p∈pd,p.2 w)/\G
 | [],_,_,h=>⟨(λp hp=>by cases hp),h⟩
 |(l,C)::r,w,G,h=>by
  obtain⟨h1,h2⟩:=h;obtain⟨h3,h4⟩:=TZ h2;exact⟨λp hp=>by
   rcases jL.1 hp with hp|hp
   ·subst hp;exact h1
   ·exact h3 p hp,h4⟩
theorem bm{P:Program}{n:Nat}{bN o:mM}{a:Act}(hv:lV n bN o a)(op:Oper){w:aH}{K:Value->Option (aH->Prop)->Prop}(h:floatD P bN o op.op w K):
  ∃v Cv,K v Cv/\match Cv with
   |some C=>C w/\∀w',C w'->(execOp a.eval op).run P w'=.ok (.value v) w'
   |none=>∀w',(execOp a.eval op).run P w'=.ok (.value v) w':=by
 have other:Xn P bN o op.op (λv=>K v none)->∃v Cv,K v Cv/\match Cv with
   |some C=>C w/\∀w',C w'->(execOp a.eval op).run P w'=.ok (.value v) w'
   |none=>∀w',(execOp a.eval op).run P w'=.ok (.value v) w':=λhp=>by
  obtain⟨v,hK,hr⟩:=Jg hv op hp;exact⟨v,none,hK,hr⟩
 obtain⟨dst,op,ty,pos,after,guard⟩:=op;cases op
 case load t x=>
  obtain⟨v,hx,h1⟩:=aV h;cases v<;>try (exact h1.elim)
  obtain⟨ad,rfl,h2⟩:=pC h1;obtain⟨v,C,hK,hC,hr⟩:=TW h2;exact⟨v,some C,hK,hC,λw' hw'=>by simp[execOp,hv.rd hx,Instr.loadAt,Instr.sureAddr,hr w' hw']⟩
 all_goals exact other h
theorem xE{f:Nat->Bool}:∀{n:Nat},Gv f n=true->∀i,i<n->f i=true
 |0,_,i,hi=>absurd hi (Nat.not_lt_zero _)
 |n+1,h,i,hi=>by
  simp only[Gv,tO] at h;rcases Nat.lt_or_ge i n with h1|h1
  ·exact xE h.2 i h1
  ·have:i=n:=aB
   subst this;exact h.1
def qT(n m:Nat):Array Bool:=(Array.range n).map λi=>Nat.testBit m i
theorem Jz{n m j:Nat}{d:Bool}:(qT n m).getD j d=if j<n then Nat.testBit m j else d:=by
 unfold qT
 by_cases h:j<n
 ·simp[h]
 ·simp[h]
theorem Jy(n:Nat):Array.replicate n false=qT n 0:=by
 apply Array.ext
 ·simp[qT]
 ·intro i h1 h2
  simp[qT]
theorem nF(m i j:Nat):Nat.testBit (Nat.lor m (Nat.shiftLeft 1 i)) j=(Nat.testBit m j ||decide (i=j)):=by
 show Nat.testBit (m |||1<<<i) j=_;rw[Nat.testBit_or,Nat.testBit_shiftLeft];congr 1
 by_cases RW:i=j
 ·subst RW;simp
 ·by_cases FX:i<=j
  ·obtain⟨k,hk⟩:∃k,j-i=k+1:=⟨j-i-1,aB⟩
   rw[hk];simp[RW,Nat.testBit_succ]
  ·simp[RW,FX]
theorem ZT(n m i:Nat):(qT n m).setIfInBounds i true=qT n (Nat.lor m (Nat.shiftLeft 1 i)):=by
 apply Array.ext_getElem?;intro j;rw[Array.getElem?_setIfInBounds]
 by_cases RW:i=j
 ·subst RW
  by_cases hn:i<n
  ·have:=nF m i i
   simp only[qT,Array.size_map,Array.size_range,hn,if_true,Array.getElem?_map,Array.getElem?_range,Option.map_some,this];simp
  ·simp[qT,hn]
 ·by_cases hn:j<n
  ·have:=nF m i j
   simp only[qT,Array.getElem?_map,Array.getElem?_range,hn,if_true,Option.map_some,this,RW,if_false];simp
  ·simp[qT,hn,RW]
theorem tV{dX:Array Oper}{m j:Nat}:j∈Region.ready .any dX (qT dX.size m)↔sJ dX m j=true:=by
 rw[mem_ready];unfold sJ Tu;cases ho:dX[j]? with
 |none=>
  simp
 |some o=>
  have cL:j<dX.size:=(Array.getElem?_eq_some_iff.1 ho).1;simp only[Jz,cL,if_true,Option.some.injEq,exists_eq_left',tO,Bool.not_eq_true',List.all_eq_true,Bool.or_eq_true]
  constructor
  ·rintro⟨h1,h2⟩
   refine⟨h1,λe he=>?_⟩;cases hb:Region.binds .any e
   ·exact .inl rfl
   ·right
    have:=h2 e (by simpa using he) hb
    split at this
    ·rename_i hl;exact⟨by simpa using hl,this⟩
    ·cases this
  ·rintro⟨h1,h2⟩
   refine⟨h1,λe he hb=>?_⟩;rcases h2 e (by simpa using he) with h|⟨h,h'⟩
   ·rw[hb] at h;cases h
   ·rw[if_pos (by simpa using h)];exact h'
theorem ph{dX:Array Oper}{m i:Nat}{oi:Oper}(h:freeB dX m i oi=true)(j:Nat)(oj:Oper)
  (hj:dX[j]? =some oj) (gH:j≠i) (Dr:(qT dX.size m).getD j true=false) (uX:∀e∈oj.after,Region.binds .any e=true->e.on≠i):
  oi.apart dX oj=true:=by
 have cL:j<dX.size:=(Array.getElem?_eq_some_iff.1 hj).1;have h1:=xE h j cL;rw[Jz,if_pos cL] at Dr;simp only[hj,Bool.or_eq_true,Dr,Bool.false_eq_true,or_false] at h1;rcases h1 with h1|h1|h1
 ·exact absurd (JD h1) gH
 ·rw[List.any_eq_true] at h1
  obtain⟨e,he,hb⟩:=h1;simp only[tO] at hb;exact absurd (JD hb.2) (uX e (by simpa using he) hb.1)
 ·exact h1
def mainStep(C:Ctx)(dX:Array Oper)(o:mM)(K:WQ mM)(i:Nat)(p:ME)(m:Nat)(pd:BM)(bN:mM)(w:aH):Prop:=
 nK dX[i]? λop=>MZ dX op.guard bN o
  (λfX=>aAm C.P C.env fX o op.op op.type w λv w'=>Ba (dI op pd) w' (VC C.n op.dst v o fX λiE=>uA C dX o K p true (Nat.lor m (Nat.shiftLeft 1 i)) (dI op pd) iE w'))
  (λfX=>Ba (dI op pd) w (VC C.n op.dst undef o fX λiE=>uA C dX o K p true (Nat.lor m (Nat.shiftLeft 1 i)) (dI op pd) iE w))
theorem ye{P:Program}{dX:Array Oper}{Q:Exit->Act->aH->Prop}{f:Nat}{done:Array Bool}{l:List Nat}{pd:BM}{a:Act}{w:aH}
  (h:Wd P dX Q f done pd a w):Wd P dX Q f done ((l,λ_=>True)::pd) a w:=by
 suffices H:∀(f:Nat) (done:Array Bool) (pd fb:BM) (a:Act) (w:aH),(∀p∈fb,p∈pd\/∀w,p.2 w)->Wd P dX Q f done pd a w->Wd P dX Q f done fb a w by
  refine H f done pd _ a w (λp hp=>?_) h;rcases jL.1 hp with rfl|hp
  ·exact .inr λ_=>trivial
  ·exact .inl hp
 clear h;intro f
 induction f with
 |zero=>exactλdone pd fb a w _ h=>h
 |succ f ih=>
  intro done pd fb a w hs h;refine⟨h.1,λj hj oj Lo=>wpOp_mono (λa' w' h'=>?_) (h.2 j hj oj Lo)⟩;have DA:∀p∈dI oj fb,p∈dI oj pd\/∀w,p.2 w:=λp hp=>by
   obtain⟨h1,h2⟩:=jV.1 hp;rcases hs p h1 with h3|h3
   ·exact .inl (jV.2 ⟨h3,h2⟩)
   ·exact .inr h3
  exact⟨λp hp=>(DA p hp).elim (h'.1 p) (λh=>h w'),ih _ _ _ a' w' DA h'.2⟩
theorem drawP_mn{C:Ctx}{dX:Array Oper}{o:mM}{K:mM->aH->Prop}{i:Nat}{p r:ME}{head:Bool}{m:Nat}{pd:BM}{bN:mM}{w:aH}(h:uA C dX o K (.mn i p r) head m pd bN w):
  (!head ||(sJ dX m i && covered dX m (.mn i p r)))=true/\mainStep C dX o K i p m pd bN w/\(r≠.no->uA C dX o K r false m pd bN w):=by
 have hc:(!head ||(sJ dX m i && covered dX m (.mn i p r)))=true:=by
  cases hc:(!head ||(sJ dX m i && covered dX m (.mn i p r))) with
  |true=>rfl
  |false=>cases r<;>simp only[uA,hc] at h<;>exact h.elim
 refine⟨hc,?_⟩;cases r<;>simp only[uA,hc,cond_true] at h
 case no=>exact⟨h,λh'=>absurd rfl h'⟩
 all_goals exact⟨h.1,λ_=>by simpa only[uA] using h.2⟩
theorem bq{C:Ctx}(LL:RE C.P C.env){dX:Array Oper}(hns:Region.noSelect dX=true){o:mM}{K:mM->aH->Prop}{Q:Exit->Act->aH->Prop}(hQ:∀bN a w,lV C.n bN o a->K bN w->Q .normal a w)
  (hQp:∀c a w,¬Q (.panic c) a w):
  ∀(p:ME) (head:Bool) (m:Nat) (pd:BM) (bN:mM) (a:Act) (w:aH) (f:Nat),p.depth<=f->lV C.n bN o a->(∀q∈pd,q.2 w)->uA C dX o K p head m pd bN w->
   (head=true->Wd C.P dX Q f (qT dX.size m) pd a w)/\
   (∀j,JT p j=true->∀f',f=f'+1->∀oj,dX[j]? =some oj->wpOp C.P dX Q j (λa' w'=>(∀q∈dI oj pd,q.2 w')/\Wd C.P dX Q f' (qT dX.size (Nat.lor m (Nat.shiftLeft 1 j))) (dI oj pd) a' w') a w):=by
 intro p
 induction p with
 |dW=>
  intro head m pd bN a w f hd hv hp h;refine⟨λ_=>?_,λj hj=>by cases hj⟩;simp only[uA] at h;cases hc:covered dX m .no with
  |false=>rw[hc] at h;exact h.elim
  |true=>
   rw[hc] at h;have h0:Region.ready .any dX (qT dX.size m)=[]:=by
    cases hr:Region.ready .any dX (qT dX.size m) with
    |nil=>rfl
    |cons j r=>
     have hj:j∈Region.ready .any dX (qT dX.size m):=by rw[hr];simp
     have CU:=tV.1 hj;have cL:j<dX.size:=by
      unfold sJ at CU;cases ho:dX[j]? with
      |none=>rw[ho] at CU;cases CU
      |some _=>exact(Array.getElem?_eq_some_iff.1 ho).1
     have:=xE hc j cL;simp[JT,CU] at this
   cases f with
   |zero=>exact⟨h0,hQ bN a w hv h⟩
   |succ f=>exact⟨λ_=>hQ bN a w hv h,λj hj=>by rw[h0] at hj;cases hj⟩
 |no=>intro head m pd bN a w f hd hv hp h;exact⟨λhh=>by subst hh;exact h.elim,λj hj=>by cases hj⟩
 |fl i p ih=>
  intro head m pd bN a w f hd hv hp h;refine⟨λ_=>?_,λj hj=>by cases hj⟩;simp only[ME.depth] at hd;obtain⟨f,rfl⟩:∃g,f=g+1:=⟨f-1,aB⟩;simp only[uA] at h;obtain⟨op,hio,h⟩:=aV h;cases hc:(sJ dX m i && freeB dX m i op) with
  |false=>rw[hc] at h;exact h.elim
  |true=>
   rw[hc] at h;simp only[cond_true] at h;simp only[tO] at hc;have hir:=tV.2 hc.1;have hfr:=ph hc.2;have aAk:∀(fb:BM) (iE:mM) (a':Act),lV C.n iE o a'->(∀q∈fb,q.2 w)->uA C dX o K p true (Nat.lor m (Nat.shiftLeft 1 i)) fb iE w->
     Wd C.P dX Q f ((qT dX.size m).setIfInBounds i true) fb a' w:=λfb iE a' jY hp' h'=>by
    rw[ZT];exact(ih true _ fb iE a' w f aB jY hp' h').1 rfl
   ·rcases EF hv h with⟨fX,jY,hw,h1⟩|⟨fX,jY,hw,h1⟩
    ·obtain⟨v,Cv,h2,hr⟩:=bm jY op h1
     obtain⟨iE,h3,h4⟩:=wT h2;cases Cv with
     |some Cl=>
      obtain⟨hC,hr⟩:=hr;refine Il (Cl:=Cl) hio (Region.noSelect_spec hns) (λc a w hq=>absurd hq (hQp _ _ _)) f _ pd a w hfr hir (.inl ⟨hw,hr⟩) hC hp ?_;refine aAk _ iE _ (h4 a jY) ?_ h3;intro p gz;rcases jL.1 gz with rfl|gz
      ·exact hC
      ·obtain⟨l,h5,_⟩:=sV gz
       exact hp (l,p.2) h5
     |none=>
      refine Il (Cl:=λ_=>True) hio (Region.noSelect_spec hns) (λc a w hq=>absurd hq (hQp _ _ _)) f _ pd a w hfr hir (.inl ⟨hw,λw' _=>hr w'⟩) trivial hp ?_;exact ye (aAk _ iE _ (h4 a jY) (λp gz=>by
       obtain⟨l,h5,_⟩:=sV gz;exact hp (l,p.2) h5) h3)
    ·obtain⟨iE,h3,h4⟩:=wT h1
     refine Il (Cl:=λ_=>True) (v:=undef) hio (Region.noSelect_spec hns) (λc a w hq=>absurd hq (hQp _ _ _)) f _ pd a w hfr hir (.inr ⟨hw,rfl⟩) trivial hp ?_;exact ye (aAk _ iE _ (h4 a jY) (λp gz=>by
      obtain⟨l,h5,_⟩:=sV gz;exact hp (l,p.2) h5) h3)
 |mn i p r ihp ihr=>
  intro head m pd bN a w f hd hv hp h;have hd1:p.depth+1<=f/\r.depth<=f:=by
   simp only[ME.depth] at hd;cases hb:Nat.ble (p.depth+1) r.depth with
   |true=>rw[hb] at hd;have:=Nat.le_of_ble_eq_true hb;simp only[cond_true] at hd;omega
   |false=>
    rw[hb] at hd;have:¬(p.depth+1<=r.depth):=λh=>by rw[Nat.ble_eq_true_of_le h] at hb;cases hb
    simp only[cond_false] at hd;omega
  obtain⟨hc,two⟩:=drawP_mn h
  ·skip
   have second:∀j,JT (.mn i p r) j=true->∀f',f=f'+1->∀oj,dX[j]? =some oj->wpOp C.P dX Q j (λa' w'=>(∀q∈dI oj pd,q.2 w')/\Wd C.P dX Q f' (qT dX.size (Nat.lor m (Nat.shiftLeft 1 j))) (dI oj pd) a' w') a w:=by
    intro j hj f' hf oj Lo;simp only[JT,Bool.or_eq_true] at hj
    by_cases CV:i=j
    ·subst CV
     obtain⟨op,Ff,h2⟩:=aV two.1;rw[Lo] at Ff;cases Ff;unfold wpOp;simp only[Lo];have aAk:∀(iE:mM) (a':Act) (w':aH),lV C.n iE o a'->(∀q∈dI oj pd,q.2 w')->uA C dX o K p true (Nat.lor m (Nat.shiftLeft 1 i)) (dI oj pd) iE w'->
       Wd C.P dX Q f' (qT dX.size (Nat.lor m (Nat.shiftLeft 1 i))) (dI oj pd) a' w':=λiE a' w' jY hp' h'=>
      (ihp true _ _ iE a' w' f' aB jY hp' h').1 rfl
     rcases EF hv h2 with⟨fX,jY,hw,h3⟩|⟨fX,jY,hw,h3⟩
     ·rw[if_pos hw]
      refine .inl (Ps LL jY oj h3 λv w' h4=>?_);obtain⟨h5,h6⟩:=TZ h4;obtain⟨iE,h7,h8⟩:=wT h6;exact⟨h5,aAk iE _ w' (h8 a jY) h5 h7⟩
     ·rw[if_neg (by rw[hw];simp)]
      obtain⟨h5,h6⟩:=TZ h3;obtain⟨iE,h7,h8⟩:=wT h6;exact⟨h5,aAk iE _ w (h8 a jY) h5 h7⟩
    ·have hjr:JT r j=true:=hj.resolve_left λh=>CV (JD h)
     have hrn:r≠.no:=by rintro rfl;cases hjr
     exact(ihr false m pd bN a w f hd1.2 hv hp (two.2 hrn)).2 j hjr f' hf oj Lo
   refine⟨λhh=>?_,second⟩;subst hh;simp only[Bool.not_true,Bool.false_or,tO] at hc;obtain⟨f,rfl⟩:∃g,f=g+1:=⟨f-1,aB⟩;refine⟨λh0=>?_,λj hj oj Lo=>?_⟩
   ·have:=tV.2 hc.1
    rw[h0] at this;cases this
   ·have CU:=tV.1 hj
    have cL:j<dX.size:=(Array.getElem?_eq_some_iff.1 Lo).1;have:=xE hc.2 j cL;simp only[CU,Bool.not_true,Bool.or_false] at this;rw[ZT];exact second j this f rfl oj Lo
theorem Bt{n:Nat}{o:mM}{l:List Oper}(h:JQ n o l=true):∀op∈l,∀d,op.dst=some d->d<n/\mA o d=none:=by
 induction l with
 |nil=>intro op hm;cases hm
 |cons op r ih=>
  intro op' hm d hd;simp only[JQ,tO] at h;rcases jL.1 hm with he|hm
  ·subst he
   have h1:=h.1;rw[hd] at h1;simp only[tO] at h1;refine⟨by simpa using h1.1,?_⟩;cases hl:mA o d with
   |none=>rfl
   |some v=>rw[hl] at h1;simp at h1
  ·exact ih h.2 op' hm d hd
theorem lV.ja{n:Nat}{bN o:mM}{a:Act}(h:lV n bN o a){dst:Option Nat}(hd:∀d,dst=some d->d<n/\mA o d=none)(v:Value):lV n (Den.ja dst v bN) o (a.put dst v):=by
 cases dst with
 |none=>exact h
 |some d=>
  obtain⟨h1,h2⟩:=hd d rfl;have hp:VC n (some d) v o bN λc=>c=(d,v)::bN:=by
   simp only[VC];rw[show Nat.blt d n=true by simpa using h1,h2];trivial
  obtain⟨c,rfl,hc⟩:=wT hp;exact hc a h
theorem lV.outerOf{n:Nat}{o:mM}{a:Act}(hs:a.tmps.size=n)(hdf:a.defers=[])(h:∀t v,mA o t=some v->a.tmps.getD t undef=v):lV n [] o a:=⟨hs,λ_ _ h=>(by cases h),h,hdf⟩
def tT(m:Nat):Nat->Nat
 |0=>0
 |n+1=>tT m n+cond (Nat.testBit m n) 0 1
theorem Bj{m m':Nat}:∀{n},(∀j,j<n->Nat.testBit m' j=Nat.testBit m j)->tT m' n=tT m n
 |0,_=>rfl
 |n+1,h=>by simp only[tT];rw[Bj λj hj=>h j aB,h n aB]
theorem Iw{m i:Nat}(hi:Nat.testBit m i=false):∀{n},i<n->tT (Nat.lor m (Nat.shiftLeft 1 i)) n+1=tT m n
 |n+1,h=>by
  simp only[tT]
  by_cases he:i=n
  ·subst he
   rw[Bj (m:=m) λj hj=>by rw[nF];simp;omega,nF,hi];simp
  ·have:=Iw hi (n:=n) aB
   rw[nF];simp only[he,decide_false,Bool.or_false];omega
theorem Bi{m:Nat}:∀{n},tT m n=0->∀j,j<n->Nat.testBit m j=true
 |n+1,h,j,hj=>by
  simp only[tT] at h;cases ht:Nat.testBit m n with
  |false=>rw[ht] at h;simp at h
  |true=>
   by_cases he:j=n
   ·subst he;exact ht
   ·rw[ht] at h
    exact Bi (n:=n) (by simpa using h) j aB
theorem Bk:∀n,tT 0 n=n
 |0=>rfl
 |n+1=>by simp[tT,Bk n]
theorem nw{dX:Array Oper}(hd:En dX=true){m:Nat}:∀j,j<dX.size->Nat.testBit m j=false->∃i,sJ dX m i=true:=by
 intro j
 induction j using Nat.strongRecOn with
 |ind j ih=>
  intro hj ht;have hdj:=xE hd j hj;obtain⟨op,Ff⟩:∃op,dX[j]? =some op:=⟨dX[j],Array.getElem?_eq_getElem hj⟩;rw[Ff] at hdj;cases hr:sJ dX m j with
  |true=>exact⟨j,hr⟩
  |false=>
   unfold sJ at hr;rw[Ff] at hr;simp only[ht,Bool.not_false,Bool.true_and,Tu] at hr;rw[List.all_eq_false] at hr;obtain⟨e,he,hr⟩:=hr;have cL:=List.all_eq_true.1 hdj e he;simp only[Bool.or_eq_true,tO,not_or,not_and,Bool.not_eq_true] at hr;have hb:(!Region.binds .any e)=false:=by
    cases hb:(!Region.binds .any e) with
    |false=>rfl
    |true=>rw[hb] at hr;simp at hr
   rw[hb] at hr cL;have GJ:e.on<j:=by simpa using cL
   have:Nat.testBit m e.on=false:=by
    cases htb:Nat.testBit m e.on with
    |false=>rfl
    |true=>
     have:Nat.blt e.on dX.size=true:=by simp;omega
     rw[this,htb] at hr;simp at hr
   exact ih e.on GJ aB this
theorem XN{C:Ctx}(LL:RE C.P C.env){dX:Array Oper}{i0 o:mM}{K:mM->aH->Prop}{Q:Exit->Act->aH->Prop}(hQ:∀bN a w,lV C.n bN o a->K bN w->Q .normal a w)
  (hf:JQ C.n o dX.toList=true) (YI:JQ C.n i0 dX.toList=true) (hd:En dX=true):
  ∀(k m:Nat) (bN:mM) (a:Act) (w:aH),tT m dX.size=k->lV C.n bN i0 a->(∀t v,mA o t=some v->a.tmps.getD t undef=v)->Ha C dX i0 K k m bN w->wpAny C.P .any dX Q k (qT dX.size m) a w
 |0,m,bN,a,w,hu,hv,ho,h=>by
  refine⟨?_,hQ bN a w ⟨hv.size,hv.bN,ho,hv.se⟩ h⟩;rw[List.eq_nil_iff_forall_not_mem];intro j hj;have hr:=tV.1 hj;unfold sJ at hr;cases Ff:dX[j]? with
  |none=>rw[Ff] at hr;cases hr
  |some op=>
   have cL:j<dX.size:=(Array.getElem?_eq_some_iff.1 Ff).1;rw[Ff] at hr;rw[Bi hu j cL] at hr;simp at hr
 |k+1,m,bN,a,w,hu,hv,ho,h=>by
  refine⟨λh0=>?_,λi hi=>?_⟩
  ·exfalso
   have:∃j,j<dX.size/\Nat.testBit m j=false:=by
    apply Classical.byContradiction;intro hn;have oF:∀j,j<dX.size->Nat.testBit m j=true:=λj hj=>by
     cases ht:Nat.testBit m j with
     |true=>rfl
     |false=>exact absurd ⟨j,hj,ht⟩ hn
    have:tT m dX.size=0:=by
     clear hu h hv h0 hn;generalize dX.size=n at oF
     induction n with
     |zero=>rfl
     |succ n ih=>simp only[tT];rw[ih λj hj=>oF j aB,oF n aB];rfl
    omega
   obtain⟨j,hj,ht⟩:=this;obtain⟨i,hi⟩:=nw hd j hj ht;have:=tV.2 hi;rw[h0] at this;cases this
  ·have hr:=tV.1 hi
   have hrr:=hr;unfold sJ at hrr;cases Ff:dX[i]? with
   |none=>rw[Ff] at hrr;cases hrr
   |some op=>
    rw[Ff] at hrr;have cL:i<dX.size:=(Array.getElem?_eq_some_iff.1 Ff).1;have ht:Nat.testBit m i=false:=by
     simp only[tO] at hrr;simpa using hrr.1
    have fj:tT (Nat.lor m (Nat.shiftLeft 1 i)) dX.size=k:=by have:=Iw ht cL;omega
    have fP:op∈dX.toList:=by
     have:=Array.mem_of_getElem? Ff;simpa using this
    have hd1:=Bt hf op fP;have hd2:=Bt YI op fP;unfold wpOp;rw[Ff,ZT];have next:∀(fX:mM) (v:Value) (w':aH),lV C.n fX i0 a->Ha C dX i0 K k (Nat.lor m (Nat.shiftLeft 1 i)) (ja op.dst v fX) w'->
      wpAny C.P .any dX Q k (qT dX.size (Nat.lor m (Nat.shiftLeft 1 i))) (a.put op.dst v) w':=λfX v w' jY h'=>
     XN LL hQ hf YI hd k _ _ _ w' fj (jY.ja hd2 v) (((lV.outerOf hv.size hv.se ho).ja hd1 v).o) h'
    rcases EF hv (h i op Ff hr) with⟨fX,jY,hw,h1⟩|⟨fX,jY,hw,h1⟩
    ·simp only[hw,if_true]
     exact .inl (Yq LL jY op h1 λv w' h2=>next fX v w' jY h2)
    ·simp only[hw]
     exact next fX undef w jY h1
def MK:Code->Bool
 | .region _ dX _=>Region.noSelect dX
 | .seq x y=>MK x && MK y
 | .cond _ x y=>MK x && MK y
 | .block _ c=>MK c
 | .loop c=>MK c
 |_=>true
theorem D_sound{C:Ctx}(hm:C.P.follows .mixedOrders=true)(LL:RE C.P C.env):∀(c:Code) (LW:zp) (o:mM) (Q:Exit->WQ mM) (bN:mM) (w:aH) (a:Act) (Q':Exit->WQ Act),
  MK c=true->D C c LW o Q bN w->lV C.n bN o a->(∀e fX a' w',lV C.n fX o a'->Q e fX w'->Q' e a' w')->(∀ch a w,¬Q' (.panic ch) a w)->c.wp C.P Q' a w:=by
 intro c
 induction c with
 |skip=>intro LW o Q bN w a Q' _ h hv hQ _;exact wp_skip (hQ _ _ _ _ hv h)
 |region id dX draw=>
  intro LW o Q bN w a Q' hs h hv hQ hp;simp only[D] at h;cases draw with
  |false=>exact wp_region_list (TR LL (λbN a w hv h=>hQ _ _ _ _ hv h) _ _ _ _ hv h)
  |true=>
   cases LW<;>try (exact h.elim)
   case o LG=>
    simp only[cond_true] at h;cases hb:(JQ C.n o dX.toList && JQ C.n (Gj LG bN o) dX.toList && En dX) with
    |false=>rw[hb] at h;exact h.elim
    |true=>
     rw[hb] at h;simp only[tO] at hb;have hpick:∀(l:List Nat) t v,mA (Gj l bN o) t=some v->a.tmps.getD t undef=v:=by
      intro l
      induction l with
      |nil=>intro t v ht;cases ht
      |cons s r ih=>
       intro t v ht;simp only[Gj] at ht;cases hr:rdT bN o s with
       |none=>rw[hr] at ht;exact ih t v ht
       |some u=>
        rw[hr] at ht;simp only[mA] at ht;cases hbq:Nat.beq s t with
        |false=>rw[hbq] at ht;exact ih t v ht
        |true=>
         rw[hbq] at ht;have:s=t:=JD hbq;subst this;cases ht;exact HC hv hr
     refine wp_region_any hm ?_;rw[Jy];exact XN LL (λbN a w hv h=>hQ _ _ _ _ hv h) hb.1.1 hb.1.2 hb.2 dX.size 0 [] _ _ (Bk _) ⟨hv.size,λ_ _ h=>(by cases h),hpick LG,hv.se⟩ hv.o h.out
   rename_i p
   simp only[cond_true] at h;cases hb:Nat.ble p.depth dX.size with
   |false=>rw[hb] at h;exact h.elim
   |true=>
    rw[hb] at h;refine wp_region_any hm ?_;rw[Jy];exact Wd_any _ _ [] _ _ ((bq LL hs (λbN a w hv h=>hQ _ _ _ _ hv h) hp p true 0 [] bN a _ _ (Nat.le_of_ble_eq_true hb) hv (λp hp=>by cases hp) h).1 rfl)
 |seq x y ihx ihy=>
  intro LW o Q bN w a Q' hs h hv hQ hp;simp only[MK,tO] at hs;have plain:∀ax ay,D C x ax o (Xg (D C y ay o Q) Q) bN w->(Code.seq x y).wp C.P Q' a w:=λax ay h=>by
   refine wp_seq (ihx ax o _ bN w a _ hs.1 h hv ?_ ?_)
   ·intro e fX a' w' jY h'
    cases e with
    |normal=>exact ihy ay o Q fX w' a' Q' hs.2 h' jY hQ hp
    |exit i=>exact hQ _ _ _ _ jY h'
    |goto l=>exact hQ _ _ _ _ jY h'
    |ret=>exact hQ _ _ _ _ jY h'
    |panic ch=>exact hQ _ _ _ _ jY h'
    |outgrown=>exact hQ _ _ _ _ jY h'
   ·exactλch a w h=>hp ch a w h
  cases LW with
  |n=>exact plain _ _ h
  |s ax ay=>exact plain _ _ h
  |j lE drop ax ay=>
   simp only[D] at h;have h1:=h (λt w=>∀a,lV C.n (Mb lE t++jR bN drop) o a->y.wp C.P Q' a w) (λt w ht a' jY=>ihy ay o Q _ w a' Q' hs.2 ht jY hQ hp);have hvx:lV C.n (Gn bN drop) (jR bN drop++o) a:=⟨hv.size,λt v ht=>hv.bN t v (TV drop t bN v ht).2,hv.outer drop,hv.se⟩;have dN:∀fX a',lV C.n fX (jR bN drop++o) a'->lV C.n (fX++jR bN drop) o a':=λfX a' jY=>by
    refine⟨jY.size,?_,?_,jY.se⟩
    ·intro t v ht
     rw[kI] at ht;cases hl:mA fX t with
     |some u=>rw[hl] at ht;simp at ht;subst ht;exact jY.bN t _ hl
     |none=>rw[hl] at ht;simp only at ht;exact jY.o t v (by rw[kI,ht])
    ·intro t v ht
     cases hl:mA (jR bN drop) t with
     |none=>exact jY.o t v (by rw[kI,hl];exact ht)
     |some u=>
      have h2:=jY.o t u (by rw[kI,hl]);rw[JW] at hl;cases hmm:mem drop t with
      |true=>rw[hmm] at hl;cases hl
      |false=>
       rw[hmm] at hl;have e1:=hv.bN t u hl;have e2:=hv.o t v ht;rw[h2,<-e1,e2]
   refine wp_seq (ihx ax _ _ (Gn bN drop) w a _ hs.1 h1 hvx ?_ ?_)
   ·intro e fX a' w' jY h'
    cases e with
    |normal=>
     obtain⟨t,hK,ht⟩:=PH jY h';refine hK a' ⟨jY.size,?_,(dN fX a' jY).o,jY.se⟩;intro i v hi;rw[kI] at hi;cases hl:mA (Mb lE t) i with
     |some u=>rw[hl] at hi;simp at hi;subst hi;exact ht i _ hl
     |none=>rw[hl] at hi;simp only at hi;exact jY.o i v (by rw[kI,hi])
    |exit i=>exact hQ _ _ _ _ (dN _ _ jY) h'
    |goto l=>exact hQ _ _ _ _ (dN _ _ jY) h'
    |ret=>exact hQ _ _ _ _ (dN _ _ jY) h'
    |panic ch=>exact hQ _ _ _ _ (dN _ _ jY) h'
    |outgrown=>exact hQ _ _ _ _ (dN _ _ jY) h'
   ·exactλch a w h=>hp ch a w h
  |c _ _=>exact h.elim
  |b _=>exact h.elim
  |l _ _ _=>exact h.elim
  |r _=>exact h.elim
  |o _=>exact h.elim
 |cond c x y ihx ihy=>
  intro LW o Q bN w a Q' hs h hv hQ hp;simp only[MK,tO] at hs;have plain:∀ax ay,nK (rd bN o c) (λv=>condD v (D C x ax o Q bN w) (D C y ay o Q bN w))->(Code.cond c x y).wp C.P Q' a w:=λax ay h=>by
   obtain⟨v,hx,h1⟩:=aV h;cases v<;>try (exact h1.elim)
   rename_i t
   refine wp_cond (t:=t) (hv.rd hx) ?_;cases t with
   |true=>exact ihx ax o Q bN w a Q' hs.1 h1 hv hQ hp
   |false=>exact ihy ay o Q bN w a Q' hs.2 h1 hv hQ hp
  cases LW with
  |n=>exact plain _ _ h
  |c ax ay=>exact plain _ _ h
  |s _ _=>exact h.elim
  |b _=>exact h.elim
  |l _ _ _=>exact h.elim
  |j _ _ _ _=>exact h.elim
  |r _=>exact h.elim
  |o _=>exact h.elim
 |block id c ih=>
  intro LW o Q bN w a Q' hs h hv hQ hp;have plain:∀ax,D C c ax o (St id Q) bN w->(Code.block id c).wp C.P Q' a w:=λax h=>by
   refine wp_block (ih ax o _ bN w a _ hs h hv ?_ ?_)
   ·intro e fX a' w' jY h'
    cases e with
    |exit i=>
     simp only[St] at h';simp only[Exit.inBlock];cases hb:Nat.beq i id with
     |true=>rw[hb] at h';rw[if_pos (JD hb)];exact hQ _ _ _ _ jY h'
     |false=>rw[hb] at h';rw[if_neg (Nat.ne_of_beq_eq_false hb)];exact hQ _ _ _ _ jY h'
    |normal=>exact hQ _ _ _ _ jY h'
    |goto l=>exact hQ _ _ _ _ jY h'
    |ret=>exact hQ _ _ _ _ jY h'
    |panic ch=>exact hQ _ _ _ _ jY h'
    |outgrown=>exact hQ _ _ _ _ jY h'
   ·exactλch a w h=>hp ch a w h
  cases LW with
  |n=>exact plain _ h
  |b ax=>exact plain _ h
  |s _ _=>exact h.elim
  |c _ _=>exact h.elim
  |l _ _ _=>exact h.elim
  |j _ _ _ _=>exact h.elim
  |r _=>exact h.elim
  |o _=>exact h.elim
 |loop c ih=>
  intro LW o Q bN w a Q' hs h hv hQ hp;cases LW with
  |l lE drop ax=>
   simp only[D] at h;have hbase:∀a',lV C.n [] (jR bN drop++o) a'->∀t v,mA o t=some v->a'.tmps.getD t undef=v:=λa' jY t v ht=>by
    cases hl:mA (jR bN drop) t with
    |none=>exact jY.o t v (by rw[kI,hl];exact ht)
    |some u=>
     have h2:=jY.o t u (by rw[kI,hl]);rw[JW] at hl;cases hmm:mem drop t with
     |true=>rw[hmm] at hl;cases hl
     |false=>
      rw[hmm] at hl;have e1:=hv.bN t u hl;have e2:=hv.o t v ht;rw[h2,<-e1,e2]
   have dN:∀fX a',lV C.n fX (jR bN drop++o) a'->lV C.n (fX++jR bN drop) o a':=λfX a' jY=>by
    refine⟨jY.size,?_,hbase a' ⟨jY.size,(λt v ht=>by cases ht),jY.o,jY.se⟩,jY.se⟩;intro t v ht;rw[kI] at ht;cases hl:mA fX t with
    |some u=>rw[hl] at ht;simp at ht;subst ht;exact jY.bN t _ hl
    |none=>rw[hl] at ht;simp only at ht;exact jY.o t v (by rw[kI,ht])
   let X:Fi (OT lE)->aH->Prop:=λt w=>∀a,lV C.n (Mb lE t) (jR bN drop++o) a->
    ∀(b:Frame) (k:List Item) (cs:List Frame),∃e a' w',Q' e a' w'/\Arrives C.P (lone (b.at a (.code c::.inLoop c::k)) cs w) b k cs e a' w'
   have key:=h X (λt w ht a₀ hv₀ b k cs=>by
    have hwp:=ih ax _ _ (Mb lE t) w a₀ (Exit.then (λa' w'=>∃t',lV C.n (Mb lE t') (jR bN drop++o) a'/\X t' w') Q') hs ht hv₀ (by
     intro e fX a' w' jY h';cases e with
     |normal=>
      obtain⟨t',hK,ht'⟩:=PH jY h';exact⟨t',⟨jY.size,ht',jY.o,jY.se⟩,hK⟩
     |exit i=>exact hQ _ _ _ _ (dN _ _ jY) h'
     |goto l=>exact hQ _ _ _ _ (dN _ _ jY) h'
     |ret=>exact hQ _ _ _ _ (dN _ _ jY) h'
     |panic ch=>exact hQ _ _ _ _ (dN _ _ jY) h'
     |outgrown=>exact hQ _ _ _ _ (dN _ _ jY) h') (λch a w h=>hp ch a w h)
    obtain⟨e,a₁,w₁,hq,Wz⟩:=hwp b (.inLoop c::k) cs;cases e with
    |normal=>
     obtain⟨t',hv₁,hX⟩:=hq;obtain⟨e₂,a₂,w₂,hq₂,harr₂⟩:=hX a₁ hv₁ b k cs;exact⟨e₂,a₂,w₂,hq₂,.of_steps (Steps.trans Wz (.one step_inLoop)) harr₂⟩
    |exit id=>exact⟨_,a₁,w₁,hq,.pass (x:=.inLoop c) rfl (λ_ _=>.inl dJ) Wz⟩
    |goto l=>exact⟨_,a₁,w₁,hq,.pass (x:=.inLoop c) rfl (λ_ _=>.inl dJ) Wz⟩
    |ret=>exact⟨_,a₁,w₁,hq,.pass (x:=.inLoop c) rfl (λ_ _=>.inl dJ) Wz⟩
    |panic ch=>exact⟨_,a₁,w₁,hq,.pass (x:=.inLoop c) rfl (λ_ _=>.inl dJ) Wz⟩
    |outgrown=>exact⟨_,a₁,w₁,hq,.pass (x:=.inLoop c) rfl (λ_ _=>.inl dJ) Wz⟩)
   obtain⟨t,hX,ht⟩:=PH hv key;intro b k cs;obtain⟨e,a',w',hq,Wz⟩:=hX a ⟨hv.size,ht,hv.outer drop,hv.se⟩ b k cs;exact⟨e,a',w',hq,.of_steps (.one step_loop) Wz⟩
  |n=>exact h.elim
  |s _ _=>exact h.elim
  |c _ _=>exact h.elim
  |b _=>exact h.elim
  |j _ _ _ _=>exact h.elim
  |r _=>exact h.elim
  |o _=>exact h.elim
 |exit id=>intro LW o Q bN w a Q' _ h hv hQ _;exact wp_exit (hQ _ _ _ _ hv h)
 |ret=>intro LW o Q bN w a Q' _ h hv hQ _;exact wp_ret (hQ _ _ _ _ hv h)
 |rangeFunc _ _ _ _=>intro LW o Q bN w a Q' _ h;exact h.elim
 |scope _=>intro LW o Q bN w a Q' _ h;exact h.elim
 |label _=>intro LW o Q bN w a Q' _ h;exact h.elim
 |goto _=>intro LW o Q bN w a Q' _ h;exact h.elim
 |refuse _=>intro LW o Q bN w a Q' _ h;exact h.elim
def ZC(tmps:Array Value):ResultVar->Sem Value
 | .tmp t=>pure (tmps.getD t undef)
 | .cell a t=>do loadVar t (<-asAddr (tmps.getD a undef))
theorem nu(fn:Func)(tmps:Array Value):results fn tmps=(do
 let vs <-fn.results.mapM (ZC tmps)
 pure (if h:vs.size=1 then vs[0] else .tuple vs)):=rfl
theorem ZL{P:Program}{n:Nat}{bN:mM}{a:Act}(hv:lV n bN [] a):∀{rs:List ResultVar} {w:aH} {K:List Value->Prop},aAa P bN rs w K->
  ∃vs,K vs/\(rs.mapM (ZC a.tmps)).run P w=.ok vs w
 | [],w,K,h=>⟨[],h,by simp⟩
 | .tmp t::r,w,K,h=>by
  obtain⟨v,hr,h1⟩:=aV h;obtain⟨vs,hK,Fb⟩:=ZL hv (K:=λvs=>K (v::vs)) h1;exact⟨v::vs,hK,by simp only[List.mapM_cons,ZC,Sem.run_bind,Sem.run_pure,Result.andThen_ok,HC hv hr,Fb]⟩
 | .cell c t::r,w,K,h=>by
  obtain⟨v,hr,h1⟩:=aV h;cases v<;>try (exact h1.elim)
  obtain⟨ad,rfl,h2⟩:=pC h1;obtain⟨v,Cl,h3,hC,hl⟩:=TW h2;obtain⟨vs,hK,Fb⟩:=ZL hv (K:=λvs=>K (v::vs)) h3;have ha:∀w,(asAddr (a.tmps.getD c undef)).run P w=.ok ad w:=λw=>by rw[HC hv hr];rfl
  exact⟨v::vs,hK,by simp only[List.mapM_cons,ZC,Sem.run_bind,Sem.run_pure,Result.andThen_ok,ha,hl w hC,Fb]⟩
theorem Jd{P:Program}{n:Nat}{bN:mM}{a:Act}{fn:Func}(hv:lV n bN [] a){w:aH}{K:List Value->Prop}(h:aAa P bN fn.results.toList w K):
  ∃vs,K vs/\(results fn a.tmps).run P w=.ok (Oc vs) w:=by
 obtain⟨vs,hK,hr⟩:=ZL hv h;refine⟨vs,hK,?_⟩;rw[nu,Sem.run_bind];have e:fn.results.mapM (ZC a.tmps)=List.toArray<$>fn.results.toList.mapM (ZC a.tmps):=by
  rw[<-List.mapM_toArray]
 rw[e];simp only[Sem.run_map,hr,Result.andThen_ok,Sem.run_pure]
 match vs with
 | []=>simp[Oc]
 | [v]=>simp[Oc]
 |v::u::r=>simp[Oc]
def Xr:Nat->List Value->mM
 |_,[]=>[]
 |i,v::r=>(i,v)::Xr (i+1) r
theorem Jm:∀(vs:List Value) (i t:Nat) (v:Value),mA (Xr i vs) t=some v->i<=t/\vs[t-i]? =some v
 | [],_,_,_,h=>by cases h
 |u::r,i,t,v,h=>by
  simp only[Xr,mA] at h;cases hb:Nat.beq i t with
  |true=>
   rw[hb] at h;have:i=t:=JD hb;subst this;cases h;simp
  |false=>
   rw[hb] at h;obtain⟨h1,h2⟩:=Jm r (i+1) t v h;have e:t-i=(t-(i+1))+1:=aB;refine⟨aB,?_⟩;rw[e];simpa using h2
theorem CK.PG{k:CK}{x:k.T}{K:k.T->Prop}(h:K x):k.LV (k.aX x) K:=by
 cases k
 case int k=>cases k<;>exact h
 all_goals first
  |exact h
  |(simp only[CK.aX];cases x<;>exact h)
theorem Jx:∀{l:List CK} {t:CTs l} {K:CTs l->Prop},K t->decs l (qP l t) K
 | [],_,_,h=>h
 |_::r,t,K,h=>CK.PG (x:=t.1) (K:=λx=>decs r (qP r t.2) λt=>K (x,t)) (Jx (l:=r) (t:=t.2) h)
theorem oH.PG{k:oH}{x:k.T}{K:k.T->Prop}(h:K x):k.LV (k.aX x) K:=by
 cases k with
 |c k=>exact CK.PG (k:=k) h
 |agg l=>exact Jx (l:=l) h
theorem gJ:∀{ks:List oH} {t:Fi ks} {K:Fi ks->Prop},K t->Ga ks (zD ks t) K
 | [],_,_,h=>h
 |_::r,t,K,h=>oH.PG (x:=t.1) (K:=λx=>Ga r (zD r t.2) λt=>K (x,t)) (gJ (ks:=r) (t:=t.2) h)
def retK(ks:List oH)(v:Value)(C:Fi ks->Prop):Prop:=match ks,C with
 | [k],C=>k.LV v λr=>C (r,())
 |ks,C=>match v with
  | .tuple vs=>Ga ks vs.toList C
  |_=>False
theorem sound_of{P:Program}{g:FuncId}{fn:Func}(hf:P.funcs[g]? =some fn)(bY:fn.body.isSome=true)(hm:P.follows .mixedOrders=true)(hs:MK (fn.body.getD .skip)=true)(LW:zp)(env:Env)(LL:RE P env)(ks:List oH)
  (hk:Nat.ble ks.length fn.ntmps=true) (F:Fi ks->aH->(Value->aH->Prop)->Prop)
  (hF:∀t w K,F t w K=D ⟨P,fn.ntmps,env⟩ (fn.body.getD .skip) LW [] (postD P fn.results.toList K) (Xr 0 (zD ks t)) w):
  pA P g λargs w K=>Ga ks args λt=>F t w K:=by
 intro args w K h;obtain⟨c,hb⟩:=Fo.1 bY;have hc:fn.body.getD .skip=c:=by rw[hb];rfl
 obtain⟨t,rfl,h1⟩:=wW h;rw[hF,hc] at h1;rw[hc] at hs;have fW:∀(ks:List oH) (t:Fi ks),(zD ks t).length=ks.length:=by
  intro ks
  induction ks with
  |nil=>intro t;rfl
  |cons k r ih=>intro t;simp[zD,ih]
 have FX:ks.length<=fn.ntmps:=Nat.le_of_ble_eq_true hk;refine calls_of_wp hf hb ?_;refine D_sound (C:=⟨P,fn.ntmps,env⟩) hm LL c LW [] _ _ w _ _ hs h1 ?_ ?_ ?_
 ·refine⟨?_,?_,(λt v ht=>by cases ht),rfl⟩
  ·simp[fW];omega
  ·intro i v hi
   obtain⟨_,h2⟩:=Jm _ _ _ _ hi;simp only[Nat.sub_zero] at h2;have dF:i<(zD ks t).length:=(kY.1 h2).1;simp only[Array.getD_eq_getD_getElem?];rw[Array.getElem?_append_left (by simpa using dF)];simp[h2]
 ·intro e fX a' w' jY hq
  cases e with
  |normal=>
   obtain⟨vs,hK,hr⟩:=Jd jY hq;exact⟨jY.se,_,hr,_,rfl,hK⟩
  |ret=>
   obtain⟨vs,hK,hr⟩:=Jd jY hq;exact⟨jY.se,_,hr,_,rfl,hK⟩
  |exit i=>exact hq.elim
  |goto l=>exact hq.elim
  |panic ch=>exact hq.elim
  |outgrown=>exact hq.elim
 ·rintro ch a w ⟨_,v,hv,_⟩
  cases hv
structure SD(P:Program) where
 g:FuncId
 T:Tr
 e:enters P g=true
 s:pA P g T
def sdE{P:Program}:List (SD P)->Env
 | []=>[]
 |d::r=>(d.g,d.T)::sdE r
theorem sdOk{P:Program}:∀l:List (SD P),RE P (sdE l)
 | []=>trivial
 |d::r=>⟨⟨d.e,d.s⟩,sdOk r⟩
abbrev We(ks:List oH)(G:Fi ks->World->(Value->World->Prop)->Prop):Tr:=λargs w K=>Ga ks args λt=>G t w K
def dU{P:Program}(g:FuncId){fn:Func}(hf:P.funcs[g]? =some fn)(hm:P.follows .mixedOrders=true)(LW:zp)(l:List (SD P))(ks:List oH)(G:Fi ks->World->(Value->World->Prop)->Prop)(hb:fn.body.isSome=true:=by kernel_rfl)(hs:MK (fn.body.getD .skip)=true:=by kernel_rfl)(hk:Nat.ble ks.length fn.ntmps=true:=by kernel_rfl)(he:enters P g=true:=by kernel_rfl)
  (hF:∀t w K,G t w K=D ⟨P,fn.ntmps,sdE l⟩ (fn.body.getD .skip) LW [] (postD P fn.results.toList K) (Xr 0 (zD ks t)) w:=by intro t w K;kernel_rfl):SD P:=
 ⟨g,We ks G,he,sound_of hf hb hm hs LW (sdE l) (sdOk l) ks hk G hF⟩
def ME.f:Nat->Nat->ME->ME
 |_,0,p=>p
 |s,n+1,p=>.fl s (ME.f (s+1) n p)
def zp.k:Nat->zp->zp
 |0,a=>a
 |i+1,a=>.s .n (zp.k i a)
abbrev bR(w:World)(a:Addr)(K:Int->Prop):Prop:=xY (.int .i64) w a K
abbrev fE(w:World)(a:Addr)(K:Sl->Prop):Prop:=xY .slice w a K
abbrev jC(w:World)(a:Addr)(K:Option Addr->Prop):Prop:=xY .ptr w a K
abbrev OO(w:World)(a:Addr)(K:Option Nat->Prop):Prop:=xY .map w a K
abbrev UJ(w:World)(a:Addr)(K:Bool->Prop):Prop:=xY .bool w a K
abbrev bD:Sl:=⟨none,0,0⟩
abbrev vl(s:Sl):Value:=.slice s.b s.l s.c
abbrev mI{α:Type}(B:(α->World->Prop)->α->World->Prop)(t:α)(w:World):Prop:=∀X:α->World->Prop,(∀t w,B X t w->X t w)->X t w
abbrev gG(i:Int)(n:Nat):Prop:=0<=i/\i<(n:Int)
abbrev dE(p:Prop)[Decidable p](A B:Prop):Prop:=cond (decide p) A B
abbrev uz:=Int×Int×Int×Int×Unit
abbrev T_1_y:=Int×Int×Int×Int×Int×Int×Unit
abbrev CK.i:CK:=.int .i64
abbrev oH.i:oH:=.c (.int .i64)
structure aY(F:Nat->Prop)(w w':aH):Prop where
 os:w'.os=w.os
 tape:w'.tape=w.tape
 output:w'.output=w.output
 size:w.heap.size<=w'.heap.size
 block:∀k,k<w.heap.size->¬F k->w'.heap[k]? =w.heap[k]?
abbrev aN(w w':aH):Prop:=aY (λ_=>False) w w'
theorem aY.refl(F:Nat->Prop)(w:aH):aY F w w:=⟨rfl,rfl,rfl,iX _,λ_ _ _=>rfl⟩
theorem aY.mono{F G:Nat->Prop}{w w':aH}(h:aY F w w')(hs:∀k,k<w.heap.size->F k->G k):aY G w w':=
 ⟨h.os,h.tape,h.output,h.size,λk hk hn=>h.block k hk λhf=>hn (hs k hk hf)⟩
theorem aY.trans{F G:Nat->Prop}{a b c:aH}(h:aY F a b)(h':aY G b c)(hs:∀k,k<a.heap.size->G k->F k):aY F a c:=
 ⟨h'.os.trans h.os,h'.tape.trans h.tape,h'.output.trans h.output,iG h.size h'.size,
  λk hk hn=>(h'.block k (nM hk h.size) λhg=>hn (hs k hk hg)).trans (h.block k hk hn)⟩
theorem aY.tr{F:Nat->Prop}{a b c:aH}(h:aY F a b)(h':aY F b c):aY F a c:=h.trans h' λ_ _ h=>h
theorem aN.aL{F:Nat->Prop}{w w':aH}(h:aN w w'):aY F w w':=h.mono λ_ _ h=>h.elim
theorem aY.wk{F:Nat->Prop}{w w':aH}(h:aY (λ_=>False) w w'):aY F w w':=h.mono λ_ _ h=>h.elim
theorem aY.drew{F:Nat->Prop}{a w:aH}(h:aY F a w):aY F a w.drew:=⟨h.os,h.tape,h.output,h.size,h.block⟩
theorem aN.alloc(w:aH)(o:Obj):aN w (w.alloc o):=⟨rfl,rfl,rfl,by simp,λk hk _=>RowKit.Below.heap_alloc w o k hk⟩
theorem aY.alloc{F:Nat->Prop}{a w:aH}(h:aY F a w)(o:Obj):aY F a (w.alloc o):=h.trans (aN.alloc w o) λ_ _ h=>h.elim
theorem aY.setRow(w:aH)(g:Nat)(cs:Array Value):aY (λk=>k=g) w (w.setRow g cs):=⟨rfl,rfl,rfl,by simp,λk _ hk=>setRow_other w g k cs hk⟩
theorem aY.fresh{F G:Nat->Prop}{a w w':aH}(h:aY F a w)(h':aY G w w')(hs:∀k,G k->a.heap.size<=k):aY F a w':=
 h.trans h' λk hk hg=>absurd (hs k hg) aB
theorem aY.below{w w':aH}{B:Nat}(h:aY (λk=>B<=k) w w')(hB:B<=w.heap.size):RowKit.Below B w w':=
 ⟨h.os,h.tape,h.output,h.size,λk hk=>h.block k aB aB⟩
theorem Tv{w:aH}{a:Addr}{v:Value}(h:w.cell? a=some v):a.block<w.heap.size:=World.block_lt_of_cell? w a h
theorem aY.cell{F:Nat->Prop}{w w':aH}(h:aY F w w'){a:Addr}{v:Value}(hc:w.cell? a=some v)(hn:¬F a.block):w'.cell? a=some v:=
 (World.cell?_of_block (h.block _ (Tv hc) hn)).trans hc
theorem add_add(a:Addr)(m n:Nat):(a.add m).add n=a.add (m+n):=by
 unfold Addr.add
 by_cases hm:m=0<;>by_cases hn:n=0<;>simp[hm,hn,Nat.add_assoc]
@[simp] theorem add_block(a:Addr)(n:Nat):(a.add n).block=a.block:=by unfold Addr.add;split<;>rfl
theorem add_zero(a:Addr):a.add 0=a:=by simp[Addr.add]
theorem UB{w w':aH}{a:Addr}(hb:w'.heap[a.block]? =w.heap[a.block]?):∀{vs:List Value} {i:Nat},bW w a i vs->bW w' a i vs
 | [],_,_=>trivial
 |_::_,_,h=>⟨(World.cell?_of_block (w:=w) (by simpa using hb)).trans h.1,UB hb h.2⟩
theorem oS{w:aH}{a:Addr}:∀{vs:List Value} {i:Nat},bW w a i vs↔∀j v,vs[j]? =some v->w.cell? (a.add (i+j))=some v
 | [],i=>by simp[bW]
 |v::r,i=>by
  simp only[bW];rw[oS (vs:=r) (i:=i+1)]
  constructor
  ·rintro⟨h1,h2⟩ j u hu
   cases j with
   |zero=>simp only[List.getElem?_cons_zero,Option.some.injEq] at hu;subst hu;exact h1
   |succ j=>simp only[List.getElem?_cons_succ] at hu;have:=h2 j u hu;rwa[show i+1+j=i+(j+1) by omega] at this
  ·intro h
   exact⟨h 0 v rfl,λj u hu=>by have:=h (j+1) u hu;rwa[show i+(j+1)=i+1+j by omega] at this⟩
structure Rd{α:Type}(w:aH)(s:Sl)(n:Nat)(aX:α->List Value)(xs:List α):Prop where
 len:s.l=xs.length
 cap:s.l<=s.c
 get:∀i x,xs[i]? =some x->∃a,s.b=some a/\bW w (a.add (i*n)) 0 (aX x)
theorem Rd.nil{α:Type}(w:aH)(n:Nat)(aX:α->List Value):Rd w bD n aX []:=⟨rfl,iX _,λi x h=>by simp at h⟩
theorem Rd.aL{α:Type}{F:Nat->Prop}{w w':aH}{s:Sl}{n:Nat}{aX:α->List Value}{xs:List α}(h:Rd w s n aX xs)(hm:aY F w w')(gH:∀x,aX x≠[])
  (hF:∀a,s.b=some a->¬F a.block):Rd w' s n aX xs:=
 ⟨h.len,h.cap,λi x hx=>by
  obtain⟨a,ha,hh⟩:=h.get i x hx;have cL:a.block<w.heap.size:=by
   cases he:aX x with
   |nil=>exact absurd he (gH x)
   |cons v r=>rw[he] at hh;have:=Tv hh.1;simpa using this
  exact⟨a,ha,UB (by simpa using hm.block _ cL (hF a ha)) hh⟩⟩
theorem Rd.ud{α:Type}{w w':aH}{s:Sl}{n:Nat}{aX:α->List Value}{xs:List α}(h:Rd w s n aX xs)(hm:aY (λk=>w.heap.size<=k) w w')(gH:∀x,aX x≠[]):Rd w' s n aX xs:=
 ⟨h.len,h.cap,λi x hx=>by
  obtain⟨a,ha,hh⟩:=h.get i x hx;have cL:a.block<w.heap.size:=by
   cases he:aX x with
   |nil=>exact absurd he (gH x)
   |cons v r=>rw[he] at hh;have:=Tv hh.1;simpa using this
  exact⟨a,ha,UB (by simpa using hm.block _ cL aB) hh⟩⟩
theorem Rd.part{α:Type}{w:aH}{s:Sl}{n:Nat}{aX:α->List Value}{xs:List α}(h:Rd w s n aX xs){i j c:Nat}(RW:i<=j)(hj:j<=s.l)(hc:j<=c)(_:c<=s.c):
  Rd w ⟨aR s.b s.c i n,j-i,c-i⟩ n aX ((xs.drop i).take (j-i)):=by
 refine⟨?_,?_,λk x hk=>?_⟩
 ·have:=h.len;simp only[qF,List.length_drop];omega
 ·show j-i<=c-i;omega
 ·have cL:k<j-i:=by
   have:=(kY.1 hk).1;simp at this;omega
  rw[VE cL,List.getElem?_drop] at hk;obtain⟨a,ha,hh⟩:=h.get (i+k) x hk;refine⟨a.add (i*n),?_,?_⟩
  ·show aR s.b s.c i n=_
   have:s.c≠i:=by have:=h.cap;omega
   simp[aR,this,ha]
  ·rw[add_add,<-Nat.add_mul];exact hh
theorem aF{b:Bool}{A B:Prop}(h1:b=true->A)(h2:b=false->B):cond b A B:=by cases b<;>simp_all
theorem aJ{p:Prop}[Decidable p]{A B:Prop}(h1:p->A)(h2:¬p->B):cond (decide p) A B:=by by_cases h:p<;>simp_all
theorem aA{p:cO}{K:Addr->Prop}{a:Addr}(h:p=some a)(hK:K a):aC p K:=by subst h;exact hK
theorem aE{k:CK}{w:aH}{a:Addr}{K:k.T->Prop}(x:k.T)(h:w.cell? a=some (k.aX x))(hK:K x):xY k w a K:=⟨x,h,hK⟩
theorem bJ{l:List CK}{w:aH}{a:Addr}{K:CTs l->Prop}(x:CTs l)(h:bW w a 0 (qP l x))(hK:K x):fL l w a K:=⟨x,h,hK⟩
theorem bK{S:Type}{body:(S->aH->Prop)->S->aH->Prop}(I:Nat->WQ S)(n:Nat){t:S}{w:aH}(h0:I n t w)
  (step:∀n t w,I n t w->∀X:S->aH->Prop,(∀m t' w',m<n->I m t' w'->X t' w')->body X t w):
  ∀X:S->aH->Prop,(∀t w,body X t w->X t w)->X t w:=by
 intro X hX
 induction n using Nat.strongRecOn generalizing t w with
 |ind n ih=>exact hX t w (step n t w h0 X λm t' w' hm h=>ih m hm h)
theorem gV{n:Int}(h0:-9223372036854775808<=n)(h1:n<=9223372036854775807):aQ n=n:=by show IntKind.wrap .i64 n=n;rw[IntKind.wrap_i64];omega
theorem Bq(w:aH)(cs:Array Value)(t:TypeId):bW (w.alloc (.cells cs t)) ⟨w.heap.size,0,none⟩ 0 cs.toList:=by
 rw[oS];intro j v hv;have:(⟨w.heap.size,0,none⟩:Addr).add (0+j)=⟨w.heap.size,j,none⟩:=by unfold Addr.add;split<;>simp_all
 rw[this,cell_of_row _ _ _ cs t (0,0) (heap_alloc_new w _)];simpa using hv
theorem w64n(n:Nat)(h:n<=9223372036854775807):aQ (n:Int)=(n:Int):=gV aB aB
theorem aS(g o n:Nat):(⟨g,o,none⟩:Addr).add n=⟨g,o+n,none⟩:=by unfold Addr.add;split<;>simp_all
def cW(w:aH)(g:Nat)(e:TypeId)(cs:List Value):Prop:=w.heap[g]? =some (.cells cs.toArray e (0,0))
theorem cW.lt{w:aH}{g:Nat}{e:TypeId}{cs:List Value}(h:cW w g e cs):g<w.heap.size:=(Array.getElem?_eq_some_iff.1 h).1
theorem cW.aL{F:Nat->Prop}{w w':aH}{g:Nat}{e:TypeId}{cs:List Value}(h:cW w g e cs)(hm:aY F w w')(hF:¬F g):cW w' g e cs:=(hm.block g h.lt hF).trans h
theorem cW.cell{w:aH}{g:Nat}{e:TypeId}{cs:List Value}(h:cW w g e cs)(j:Nat):w.cell? ⟨g,j,none⟩=cs[j]?:=by
 rw[cell_of_row w g j _ e (0,0) h];simp
theorem cW.holds{w:aH}{g:Nat}{e:TypeId}{cs:List Value}(h:cW w g e cs){o:Nat}{vs:List Value}(hv:∀j v,vs[j]? =some v->cs[o+j]? =some v):bW w ⟨g,o,none⟩ 0 vs:=by
 rw[oS];intro j v hj;rw[aS,pU,h.cell];exact hv j v hj
theorem cW.iS(w:aH)(cs:Array Value)(e:TypeId):cW (w.alloc (.cells cs e)) w.heap.size e cs.toList:=heap_alloc_new w _
theorem cW.setRow{w:aH}{g:Nat}{e:TypeId}{cs:List Value}(h:cW w g e cs)(ds:List Value):cW (w.setRow g ds.toArray) g e ds:=setRow_heap w g _ _ e _ h
theorem CD{P:Program}{t:TypeId}{g o:Nat}{v:Value}{w:aH}{K:aH->Prop}{e:TypeId}{cs:List Value}(h:cW w g e cs)
  (hi:(P.info? t).map (·.size)=some v.cells.size) (QD:o+v.cells.size<=cs.length) (h1:∀u∈v.cells.toList,u.oneCell'=true)
  (hK:∀w',cW w' g e (cs.take o++v.cells.toList++cs.drop (o+v.cells.size))->aY (λk=>k=g) w w'->w'.heap.size=w.heap.size->K w'):aI P t ⟨g,o,none⟩ v w K:=by
 have BB:=run_storeCells_at P g o e v.cells.toList 0 cs.toArray w h (by simpa using QD) h1;cases hq:P.info? t with
 |none=>simp[hq] at hi
 |some i=>
  have hs:v.cells.size=i.size:=by simp[hq] at hi;omega
  refine⟨_,?_,hK _ (h.setRow _) (aY.setRow w g _) dJ⟩;simp[storeVar,sizeOf,typeInfo,hq,hs,BB]
theorem Mp{α:Type}(l:List α)(o:Nat)(v:α)(h:o<l.length):l.take o++[v]++l.drop (o+1)=l.set o v:=by
 rw[List.set_eq_take_append_cons_drop,if_pos h];simp
theorem cI{P:Program}{t:TypeId}{g o:Nat}{v:Value}{w:aH}{K:aH->Prop}{e:TypeId}{cs:List Value}(h:cW w g e cs)
  (hi:(P.info? t).map (·.size)=some 1) (QD:o<cs.length) (hc:v.cells=#[v]) (h1:v.oneCell'=true)
  (hK:∀w',cW w' g e (cs.set o v)->aY (λk=>k=g) w w'->w'.heap.size=w.heap.size->K w'):aI P t ⟨g,o,none⟩ v w K:=by
 refine CD h (by rw[hi,hc];rfl) (by rw[hc];exact QD) (by rw[hc];simpa using h1) λw' h2 h3 h4=>hK w' ?_ h3 h4;rw[hc] at h2;simpa [Mp _ _ _ QD,<-sH] using h2
structure dP{α:Type}(w:aH)(e:TypeId)(n:Nat)(aX:α->List Value)(s:Sl)(xs:List α):Prop where
 len:s.l=xs.length
 cap:s.l<=s.c
 max:s.c<=maxLen
 gN:(s.b=none/\s.c=0)\/∃g cR,s.b=some ⟨g,0,none⟩/\cW w g e (xs.flatMap aX++cR)/\(xs.flatMap aX++cR).length=s.c*n
theorem bI{α:Type}{aX:α->List Value}{n:Nat}(gA:∀x,(aX x).length=n):∀xs:List α,(xs.flatMap aX).length=xs.length*n
 | []=>by simp
 |x::r=>by simp only[FC,mH,gA,mV,bI gA r];rw[Nat.add_mul];omega
theorem tH{α:Type}{aX:α->List Value}{n:Nat}(gA:∀x,(aX x).length=n):∀(xs:List α) (i:Nat) (x:α) (j:Nat) (v:Value) (cR:List Value),xs[i]? =some x->(aX x)[j]? =some v->(xs.flatMap aX++cR)[i*n+j]? =some v
 | [],i,x,j,v,cR,h,_=>by simp at h
 |y::r,0,x,j,v,cR,h,hv=>by
  simp at h;subst h;have:j<(aX y).length:=(kY.1 hv).1;simp only[FC,Nat.zero_mul,pU,sH];rw[Fp this];exact hv
 |y::r,i+1,x,j,v,cR,h,hv=>by
  simp only[List.getElem?_cons_succ] at h;simp only[FC,sH];rw[Fq (by rw[gA,Nat.add_mul];omega),gA,show(i+1)*n+j-n=i*n+j by rw[Nat.add_mul];omega];exact tH gA r i x j v cR h hv
theorem dP.nil{α:Type}(w:aH)(e:TypeId)(n:Nat)(aX:α->List Value):dP w e n aX bD []:=⟨rfl,iX _,iF _,.inl ⟨rfl,rfl⟩⟩
theorem dP.rd{α:Type}{w:aH}{e:TypeId}{n:Nat}{aX:α->List Value}{s:Sl}{xs:List α}(h:dP w e n aX s xs)(gA:∀x,(aX x).length=n):Rd w s n aX xs:=by
 refine⟨h.len,h.cap,λi x hx=>?_⟩;have cL:i<xs.length:=(kY.1 hx).1;rcases h.gN with⟨_,h2⟩|⟨g,cR,hb,ho,hl⟩
 ·have:=h.len;have:=h.cap;omega
 ·refine⟨_,hb,?_⟩
  rw[aS];exact ho.holds λj v hv=>by rw[pU];exact tH gA xs i x j v cR hx hv
theorem dP.aL{α:Type}{F:Nat->Prop}{w w':aH}{e:TypeId}{n:Nat}{aX:α->List Value}{s:Sl}{xs:List α}(h:dP w e n aX s xs)(hm:aY F w w')(hF:∀a,s.b=some a->¬F a.block):dP w' e n aX s xs:=
 ⟨h.len,h.cap,h.max,h.gN.imp id λ⟨g,cR,hb,ho,hl⟩=>⟨g,cR,hb,ho.aL hm (hF _ hb),hl⟩⟩
theorem dP.lt{α:Type}{w:aH}{e:TypeId}{n:Nat}{aX:α->List Value}{s:Sl}{xs:List α}(h:dP w e n aX s xs){a:Addr}(ha:s.b=some a):a.block<w.heap.size:=by
 rcases h.gN with⟨h1,_⟩|⟨g,cR,hb,ho,hl⟩
 ·rw[h1] at ha;cases ha
 ·rw[hb] at ha;cases ha;exact ho.lt
theorem dP.lit{α:Type}(w:aH)(e:TypeId){n:Nat}(aX:α->List Value)(gA:∀x,(aX x).length=n)(xs:List α)(cs:Array Value)(hc:cs.toList=xs.flatMap aX)(hm:xs.length<=maxLen):
  dP (w.alloc (.cells cs e)) e n aX ⟨some ⟨w.heap.size,0,none⟩,xs.length,xs.length⟩ xs:=
 ⟨rfl,iX _,hm,.inr ⟨_,[],rfl,by rw[sG,<-hc];exact cW.iS w cs e,by rw[sG];exact bI gA xs⟩⟩
theorem dP.take{α:Type}{w:aH}{e:TypeId}{n:Nat}{aX:α->List Value}{s:Sl}{xs:List α}(h:dP w e n aX s xs){i:Nat}(hi:i<=s.l):dP w e n aX ⟨s.b,i,s.c⟩ (xs.take i):=by
 refine⟨by have:=h.len;simp only[qF];omega,iG hi h.cap,h.max,h.gN.imp id λ⟨g,cR,hb,ho,hl⟩=>⟨g,(xs.drop i).flatMap aX++cR,hb,?_,?_⟩⟩
 all_goals rw[<-sH,<-JC,Cs];assumption
theorem Bu{α:Type}{aX:α->List Value}{n:Nat}(gA:∀x,(aX x).length=n)(cR:List Value)(x:α):∀(xs:List α) (i:Nat),i<xs.length->
  (xs.flatMap aX++cR).take (i*n)++aX x++(xs.flatMap aX++cR).drop (i*n+n)=(xs.set i x).flatMap aX++cR
 |y::r,0,_=>by
  have:(aX y).length=n:=gA y;simp only[Nat.zero_mul,List.take_zero,List.nil_append,List.set_cons_zero,FC,sH,pU];rw[<-this,List.drop_left]
 |y::r,i+1,h=>by
  have hl:(aX y).length=n:=gA y;have ih:=Bu gA cR x r i (by simpa using h);simp only[List.set_cons_succ,FC,sH] at ih ⊢;rw[<-ih,show(i+1)*n=(aX y).length+i*n by rw[Nat.add_mul,hl];omega,List.take_length_add_append,show(aX y).length+i*n+n=(aX y).length+(i*n+n) by omega,List.drop_length_add_append,sH]
theorem dP.store{α:Type}{P:Program}{t:TypeId}{w:aH}{e:TypeId}{n:Nat}{aX:α->List Value}{s:Sl}{xs:List α}(h:dP w e n aX s xs)(gA:∀x,(aX x).length=n){a:Addr}(ha:s.b=some a)
  {i:Nat} (hi:i<xs.length) (x:α) {v:Value} (hv:v.cells.toList=aX x) (ht:(P.info? t).map (·.size)=some n) (jA:∀u∈aX x,u.oneCell'=true) {K:aH->Prop}
  (hK:∀w',dP w' e n aX s (xs.set i x)->aY (λk=>k=a.block) w w'->w'.heap.size=w.heap.size->K w'):aI P t (a.add (i*n)) v w K:=by
 rcases h.gN with⟨h1,_⟩|⟨g,cR,hb,ho,hl⟩
 ·rw[h1] at ha;cases ha
 ·rw[hb] at ha;cases ha
  rw[aS,pU];have Fb:v.cells.size=n:=by rw[<-gA x,<-hv,Array.length_toList]
  have QN:=bI gA xs;have IW:i*n+n<=xs.length*n:=by have:=QB n (show i+1<=xs.length from hi);rwa[Nat.add_mul,Nat.one_mul] at this
  refine CD ho (by rw[ht,Fb]) (by rw[Fb,mH,QN];omega) (by rw[hv];exact jA) λw' h2 h3 h4=>hK w' ⟨by rw[pR];exact h.len,h.cap,h.max,.inr ⟨g,cR,hb,?_,?_⟩⟩ h3 h4
  ·rw[hv,Fb,Bu gA cR x xs i hi] at h2;exact h2
  ·rw[<-hl,mH,mH,bI gA,bI gA,pR]
structure sI(P:Program)(t e:TypeId)(n bytes:Nat)(z:List Value):Prop where
 under:P.underlying t=some (.slice e)
 QY:(P.info? e).map (λi=>(i.zero.map λv=>v.cells.toList,i.size,i.bytes))=some (some z,n,bytes)
 pos:0<n
 zlen:z.length=n
theorem sI.info{P:Program}{t e:TypeId}{n bytes:Nat}{z:List Value}(h:sI P t e n bytes z):∃i zv,P.info? e=some i/\i.zero=some zv/\zv.cells.toList=z/\i.size=n/\i.bytes=bytes:=by
 have hm:=h.QY;cases hi:P.info? e with
 |none=>simp[hi] at hm
 |some i=>
  cases hz:i.zero with
  |none=>simp[hi,hz] at hm
  |some zv=>simp[hi,hz] at hm;exact⟨i,zv,rfl,hz,hm.1,hm.2.1,hm.2.2⟩
theorem pX{α:Type}{w:aH}{x:Sl}{n:Nat}{aX:α->List Value}{ys:List α}(hx:Rd w x n aX ys)(gA:∀x,(aX x).length=n){a:Addr}(ha:x.b=some a):
  ∀j u,(ys.flatMap aX)[j]? =some u->w.cell? (a.add j)=some u:=by
 intro j u hu;have cL:j<ys.length*n:=by have:=(kY.1 hu).1;rwa[bI gA] at this
 have hn:0<n:=by
  rcases Nat.eq_zero_or_pos n with h|h
  ·subst h;omega
  ·exact h
 have hi:j/n<ys.length:=Nat.div_lt_of_lt_mul (by rwa[Nat.mul_comm]);have hm:j%n<n:=Nat.mod_lt _ hn;obtain⟨a',pE,hh⟩:=hx.get (j/n) ys[j/n] (gU hi);rw[ha] at pE;cases pE;have Fx:j%n<(aX ys[j/n]).length:=by rw[gA];exact hm
 have h2:=tH gA ys (j/n) _ (j%n) _ [] (gU hi) (gU Fx);rw[sG,Nat.div_add_mod',hu] at h2;cases h2;have:=(oS.1 hh) (j%n) _ (gU Fx);rwa[add_add,pU,Nat.div_add_mod'] at this
theorem Ii{α:Type}{P:Program}{t e:TypeId}{n bytes:Nat}{z:List Value}(hE:sI P t e n bytes z){aX:α->List Value}(gA:∀x,(aX x).length=n)(jA:∀x,∀u∈aX x,u.oneCell'=true)
  {w:aH} {s x:Sl} {xs ys:List α} (hs:dP w e n aX s xs) (hx:Rd w x n aX ys) (h63:xs.length+ys.length<=9223372036854775807) (CA:(xs.length+ys.length)*bytes<=140737488355328) {K:Sl->aH->Prop}
  (hK:∀r w',dP w' e n aX r (xs++ys)->aY (λk=>∃a,s.b=some a/\k=a.block) w w'->(r.b=s.b\/∃a,r.b=some a/\w.heap.size<=a.block)->(r.b=none->s.b=none)->(xs.length+ys.length<=s.c->r=⟨s.b,s.l+x.l,s.c⟩)->K r w'):
  aW P t t s (.slice x.b x.l x.c) w K:=by
 obtain⟨i,zv,hi,hz,rfl,rfl,rfl⟩:=hE.info;have ht:=hE.under;obtain⟨sb,sl,sc⟩:=s;obtain⟨xb,xl,xc⟩:=x;have KU:sl=xs.length:=hs.len;have Cj:xl=ys.length:=hx.len;have hscap:sl<=sc:=hs.cap
 by_cases hy:ys=[]
 ·subst hy
  have hxl0:xl=0:=Cj;subst hxl0;refine⟨⟨sb,sl,sc⟩,w,?_,hK _ _ (by rw[sG];exact hs) (aY.refl _ _) (.inl rfl) id (λ_=>rfl)⟩;cases xb<;>cases sb<;>simp[Builtin.append_,run_underlying ht,sizeOf,typeInfo,hi,Builtin.lenOf,Builtin.firstCells,hscap,storeCells,loadCells,loadCellsFrom,oH.aX,CK.aX]
 have uN:0<ys.length:=List.length_pos_iff.2 hy;obtain⟨ax,hax,_⟩:=hx.get 0 ys[0] (gU uN);have hax':xb=some ax:=hax;subst hax';have Gs:=pX hx gA (a:=ax) rfl;have hl:(ys.flatMap aX).length=xl*i.size:=by rw[bI gA,Cj]
 have QV:∀u∈ys.flatMap aX,u.oneCell'=true:=λu hu=>by obtain⟨y,_,hy⟩:=List.mem_flatMap.1 hu;exact jA y u hy
 have hzs:zv.cells.size=i.size:=by have:=hE.zlen;simpa using this
 have hm63:xs.length+ys.length<=maxLen:=by simp only[maxLen];omega
 have grown:∀old,old<sl+xl->dP (w.drew.alloc (.cells ((xs.flatMap aX).toArray++(ys.flatMap aX).toArray++Builtin.zeroCells zv.cells (grownCap w (sl+xl) old e-(sl+xl))) e)) e i.size aX
   ⟨some ⟨w.heap.size,0,none⟩,sl+xl,grownCap w (sl+xl) old e⟩ (xs++ys):=λold hold=>by
  have lK:=grownCap_ge w (sl+xl) old e;have hcm:grownCap w (sl+xl) old e<=maxLen:=grownCap_le_maxLen w (sl+xl) old e aB;refine⟨by simp[KU,Cj],lK,hcm,.inr ⟨w.heap.size,(Builtin.zeroCells zv.cells (grownCap w (sl+xl) old e-(sl+xl))).toList,rfl,?_,?_⟩⟩
  ·have:=cW.iS w.drew ((xs.flatMap aX).toArray++(ys.flatMap aX).toArray++Builtin.zeroCells zv.cells (grownCap w (sl+xl) old e-(sl+xl))) e
   simpa [sH] using this
  ·simp only[mH,bI gA,Array.length_toList,size_zeroCells,hzs,<-KU,<-Cj]
   rw[<-Nat.add_mul];congr 1;show sl+xl+(grownCap w (sl+xl) old e-(sl+xl))=grownCap w (sl+xl) old e;omega
 rcases hs.gN with⟨hb,hc⟩|⟨g,cR,hb,ho,fW⟩
 ·have bY:sb=none:=hb
  have Vv:sc=0:=hc;subst bY;subst Vv;have hsl0:sl=0:=aB;have hxs:xs=[]:=Ct aB;subst hxs;have hr:=run_append_nil (P:=P) w t 0 e i zv ht hi hz ax xl xc (ys.flatMap aX) hl Gs aB aB (by simp at CA;rw[Cj];omega);have hg:=grown 0 aB;subst hsl0;refine⟨(⟨some ⟨w.heap.size,0,none⟩,xl,grownCap w xl 0 e⟩:Sl),_,hr,?_⟩;simp only[pU,List.flatMap_nil] at hg;have ib:dP (w.drew.alloc (.cells ((ys.flatMap aX).toArray++Builtin.zeroCells zv.cells (grownCap w xl 0 e-xl)) e)) e i.size aX ⟨some ⟨w.heap.size,0,none⟩,xl,grownCap w xl 0 e⟩ ([]++ys):=by simpa using hg
  exact hK _ _ ib ((aY.refl _ w).drew.alloc _) (.inr ⟨_,rfl,iX _⟩) (λh=>by cases h) (λh=>absurd h (by show¬(0+ys.length<=0);omega))
 ·have bY:sb=some ⟨g,0,none⟩:=hb
  subst bY
  by_cases DS:sl+xl<=sc
  ·have uf:((xs.flatMap aX++cR).take (sl*i.size))=xs.flatMap aX:=by
    have:(xs.flatMap aX).length=sl*i.size:=by rw[bI gA,KU]
    rw[<-this];exact List.take_left
   have QW:(xs.flatMap aX++cR).length=sc*i.size:=fW;have QD:sl*i.size+(ys.flatMap aX).length<=(xs.flatMap aX++cR).toArray.size:=by
    rw[hl,<-Nat.add_mul,List.size_toArray,QW];exact QB _ DS
   have hr:=run_append_room (P:=P) w t 0 e i ht hi g sl sc (xs.flatMap aX++cR).toArray ho ax xl xc (ys.flatMap aX) hl Gs QV DS QD;simp only[uf] at hr;refine⟨(⟨some ⟨g,0,none⟩,sl+xl,sc⟩:Sl),_,hr,hK ⟨some ⟨g,0,none⟩,sl+xl,sc⟩ _ ⟨by simp[KU,Cj],DS,hs.max,.inr ⟨g,(xs.flatMap aX++cR).drop (sl*i.size+(ys.flatMap aX).length),rfl,?_,?_⟩⟩ ?_ (.inl rfl) (λh=>by cases h) (λ_=>rfl)⟩
   ·have:=cW.setRow ho (xs.flatMap aX++ys.flatMap aX++(xs.flatMap aX++cR).drop (sl*i.size+(ys.flatMap aX).length))
    simpa [JC] using this
   ·simp only[List.size_toArray] at QD
    rw[JC,mH,mH,List.length_drop,bI gA xs,<-KU];show _=sc*i.size;omega
   ·exact(aY.setRow w g _).mono λk _ hk=>⟨_,rfl,hk⟩
  ·have holds:∀j u,(xs.flatMap aX)[j]? =some u->w.cell? ((⟨g,0,none⟩:Addr).add j)=some u:=pX (hs.rd gA) gA rfl
   have hr:=run_append_grow (P:=P) w t 0 e i zv ht hi hz ⟨g,0,none⟩ sl sc (xs.flatMap aX) (by rw[bI gA,KU]) holds ax xl xc (ys.flatMap aX) hl Gs aB aB (growslice_fits aB (by rw[KU,Cj];exact CA));exact⟨(⟨some ⟨w.heap.size,0,none⟩,sl+xl,grownCap w (sl+xl) sc e⟩:Sl),_,hr,hK _ _ (grown sc aB) ((aY.refl _ w).drew.alloc _) (.inr ⟨_,rfl,iX _⟩) (λh=>by cases h) (λh=>absurd h (by show¬(xs.length+ys.length<=sc);omega))⟩
theorem fO{α:Type}{P:Program}{t e:TypeId}{n bytes:Nat}{z:List Value}(hE:sI P t e n bytes z){aX:α->List Value}(gA:∀x,(aX x).length=n)(jA:∀x,∀u∈aX x,u.oneCell'=true)
  {w:aH} {s x:Sl} {xs ys:List α} (hs:dP w e n aX s xs) (hx:Rd w x n aX ys) (h63:xs.length+ys.length<=9223372036854775807) (CA:(xs.length+ys.length)*bytes<=140737488355328) {K:Sl->aH->Prop}
  (hK:∀r w',dP w' e n aX r (xs++ys)->aY (λk=>∃a,s.b=some a/\k=a.block) w w'->(r.b=s.b\/∃a,r.b=some a/\w.heap.size<=a.block)->(r.b=none->s.b=none)->K r w'):
  aW P t t s (.slice x.b x.l x.c) w K:=
 Ii hE gA jA hs hx h63 CA λr w' h1 h2 h3 h4 _=>hK r w' h1 h2 h3 h4
theorem OI{α:Type}(z:Array Value)(aX:α->List Value)(x:α)(hz:aX x=z.toList)(k:Nat)(hp:0<z.size):(madeCells z (k*z.size)).toList=(List.replicate k x).flatMap aX:=by
 apply BH;intro j;have hl:((List.replicate k x).flatMap aX).length=k*z.size:=by
  clear hp
  induction k with
  |zero=>simp
  |succ k ih=>rw[List.replicate_succ,FC,mH,ih,hz,Array.length_toList,Nat.add_mul];omega
 by_cases hj:j<k*z.size
 ·have hm:j%z.size<z.size:=Nat.mod_lt _ hp
  have h1:(madeCells z (k*z.size)).toList[j]? =some z[j%z.size]:=by
   simp[madeCells,hj,hm]
  rw[h1]
  symm
  have:∀k j,j<k*z.size->((List.replicate k x).flatMap aX)[j]? =some (z[j%z.size]'(Nat.mod_lt _ hp)):=by
   intro k
   induction k with
   |zero=>intro j h;omega
   |succ k ih=>
    intro j h;rw[List.replicate_succ,FC,hz]
    by_cases hjz:j<z.size
    ·rw[Fp (by simpa using hjz)]
     simp[Nat.mod_eq_of_lt hjz,hjz]
    ·rw[Fq (by simp;omega),Array.length_toList,ih _ (by rw[Nat.add_mul] at h;omega)]
     have:(j-z.size)%z.size=j%z.size:=by rw[<-Nat.mod_eq_sub_mod aB]
     simp only[this]
  exact this k j hj
 ·rw[List.getElem?_eq_none (by simp[madeCells];omega),List.getElem?_eq_none aB]
theorem BZ{α:Type}{P:Program}{t e:TypeId}{n bytes:Nat}{z:List Value}(hE:sI P t e n bytes z){aX:α->List Value}(x:α)(hx:aX x=z)(gA:∀x,(aX x).length=n)
  {w:aH} {k k':IntKind} {l c:Int} (h0:0<=l) (hlc:l<=c) (CA:(bytes:Int)*c<=281474976710656) (h63:c<=9223372036854775807) {K:Sl->aH->Prop}
  (hK:∀w',dP w' e n aX ⟨some ⟨w.heap.size,0,none⟩,l.toNat,c.toNat⟩ (List.replicate l.toNat x)->aN w w'->K ⟨some ⟨w.heap.size,0,none⟩,l.toNat,c.toNat⟩ w'):
  fK P t (.int k l) (.int k' c) w K:=by
 obtain⟨i,zv,hi,hz,rfl,rfl,rfl⟩:=hE.info;have hzs:zv.cells.size=i.size:=by have:=hE.zlen;simpa using this
 refine⟨⟨some ⟨w.heap.size,0,none⟩,l.toNat,c.toNat⟩,_,run_make (P:=P) w t e i zv hE.under hi hz k k' l c h0 hlc CA h63,hK _ ?_ (aN.alloc w _)⟩;have hct:l.toNat<=c.toNat:=aB;have heq:(madeCells zv.cells (c.toNat*i.size)).toList=(List.replicate l.toNat x).flatMap aX++(List.replicate (c.toNat-l.toNat) x).flatMap aX:=by
  rw[<-JC,List.replicate_append_replicate,show l.toNat+(c.toNat-l.toNat)=c.toNat by omega,<-hzs];exact OI zv.cells aX x hx _ (by rw[hzs];exact hE.pos)
 refine⟨by simp,hct,by simp only[maxLen];show c.toNat<=_;omega,.inr ⟨w.heap.size,(List.replicate (c.toNat-l.toNat) x).flatMap aX,rfl,?_,?_⟩⟩
 ·rw[<-heq];exact cW.iS w _ e
 ·rw[<-heq,Array.length_toList,size_madeCells]
theorem pI{P:Program}{g:FuncId}{T:Tr}(hS:pA P g T)(ic:enters P g=true){first cap:Array Value}{args:List Value}{w:aH}{K:Value->aH->Prop}(h:T (first.toList++args++cap.toList) w K):
  lQ P (.func (.func g) first cap) args w K:=by
 refine⟨g,first,cap,rfl,ic,?_⟩
 have:=hS _ w K h;have e:(first.toList++args++cap.toList).toArray=first++args.toArray++cap:=by simp
 rwa[e] at this
theorem cW.read{w:aH}{g:Nat}{e:TypeId}{cs:List Value}(h:cW w g e cs){o:Nat}{vs:List Value}(hv:∀j v,vs[j]? =some v->cs[o+j]? =some v):
  ∀j v,vs[j]? =some v->w.cell? ((⟨g,o,none⟩:Addr).add j)=some v:=by
 intro j v hj;rw[aS,h.cell];exact hv j v hj
theorem NH{P:Program}{t t' e:TypeId}{n:Nat}(ht:P.underlying t=some (.slice e))(hn:(P.info? e).map (·.size)=some n){w:aH}{g o dl dc:Nat}{a:Addr}{sl sc:Nat}{eg:TypeId}{bN cs:List Value}
  (ho:cW w g eg bN) (hl:cs.length=min sl dl*n) (hr:∀j v,cs[j]? =some v->w.cell? (a.add j)=some v) (QD:o+cs.length<=bN.length) (h1:∀v∈cs,v.oneCell'=true) {K:Int->aH->Prop}
  (hK:∀w',cW w' g eg (bN.take o++cs++bN.drop (o+cs.length))->aY (λk=>k=g) w w'->w'.heap.size=w.heap.size->K (min sl dl:Nat) w'):
  RA P t t' ⟨some ⟨g,o,none⟩,dl,dc⟩ (.slice (some a) sl sc) w K:=by
 cases hq:P.info? e with
 |none=>rw[hq] at hn;cases hn
 |some i=>
  have hi:i.size=n:=by simpa [hq] using hn
  subst hi;have hf:=run_firstCells_some (P:=P) w i.size (Nat.min sl dl) a sl sc cs hl hr;have BB:=run_storeCells_at P g o eg cs 0 bN.toArray w ho (by simpa using QD) h1;refine⟨((min sl dl:Nat):Int),_,?_,hK _ (ho.setRow _) (aY.setRow w g _) dJ⟩;simp only[Nat.add_zero] at BB;simp[Builtin.copy_,run_underlying ht,Builtin.lenOf,sizeOf,typeInfo,hq,hf,BB]
  rfl
theorem Iy(z:Array Value)(n:Nat):(Builtin.zeroCells z n).toList.length=n*z.size:=by simp[Builtin.zeroCells]
theorem ZR{P:Program}{t e:TypeId}{n bytes:Nat}{z:List Value}(hE:sI P t e n bytes z)(hz1:∀v∈z,v.oneCell'=true){w:aH}{g o l c:Nat}{eg:TypeId}{bN:List Value}
  (ho:cW w g eg bN) (QD:o+l*n<=bN.length) {K:aH->Prop}
  (hK:∀w' zs,zs.length=l*n->cW w' g eg (bN.take o++zs++bN.drop (o+l*n))->aY (λk=>k=g) w w'->w'.heap.size=w.heap.size->K w'):
  CB P t (.slice (some ⟨g,o,none⟩) l c) w K:=by
 obtain⟨i,zv,hi,hz,rfl,rfl,rfl⟩:=hE.info;have hzs:zv.cells.size=i.size:=by have:=hE.zlen;simpa using this
 by_cases hl:l=0
 ·subst hl
  refine⟨(),w,?_,hK w [] dJ (by simpa using ho) (aY.refl _ _) rfl⟩;simp[Builtin.clear_,run_underlying hE.under,zD]
 ·have fW:(Builtin.zeroCells zv.cells l).toList.length=l*i.size:=by rw[Iy,hzs]
  have jA:∀v∈(Builtin.zeroCells zv.cells l).toList,v.oneCell'=true:=by
   intro v hv;simp only[Builtin.zeroCells,Array.toList_map,lN] at hv;obtain⟨j,_,rfl⟩:=hv;have hp:0<zv.cells.size:=by rw[hzs];exact hE.pos
   have hm:j%zv.cells.size<zv.cells.size:=Nat.mod_lt _ hp;rw[getElem!_pos zv.cells _ hm];exact hz1 _ dJ
  have BB:=run_storeCells_at P g o eg (Builtin.zeroCells zv.cells l).toList 0 bN.toArray w ho (by rw[fW];simpa using QD) jA;rw[fW] at BB;refine⟨(),_,?_,hK _ (Builtin.zeroCells zv.cells l).toList fW (ho.setRow _) (aY.setRow w g _) dJ⟩;simp only[Nat.add_zero] at BB;obtain⟨l',rfl⟩:∃m,l=m+1:=⟨l-1,aB⟩;simp[Builtin.clear_,run_underlying hE.under,zeroValue,typeInfo,hi,hz,BB,zD]
theorem mz{α:Type}(z:Array Value)(aX:α->List Value)(x:α)(hz:aX x=z.toList)(k:Nat)(hp:0<z.size):(Builtin.zeroCells z k).toList=(List.replicate k x).flatMap aX:=OI z aX x hz k hp
theorem Um{α:Type}{P:Program}{t ti e:TypeId}{n bytes:Nat}{z:List Value}(hE:sI P t e n bytes z)(hti:P.underlying ti=some (.int .i64)){aX:α->List Value}(x:α)(hx:aX x=z)(gA:∀x,(aX x).length=n)
  {w:aH} {s:Sl} {xs:List α} (hs:Rd w s n aX xs) {k:Nat} (hk:s.c<xs.length+k) (h63:xs.length+k<=9223372036854775807) (CA:(xs.length+k)*bytes<=140737488355328) {K:Sl->aH->Prop}
  (hK:∀r w',dP w' e n aX r (xs++List.replicate k x)->aN w w'->(∃a,r.b=some a/\w.heap.size<=a.block)->K r w'):aW P t ti s (.int .i64 (k:Int)) w K:=by
 obtain⟨i,zv,hi,hz,rfl,rfl,rfl⟩:=hE.info;obtain⟨sb,sl,sc⟩:=s;have KU:sl=xs.length:=hs.len;have hsc:sc<sl+k:=by rw[KU];exact hk
 have hzs:zv.cells.size=i.size:=by have:=hE.zlen;simpa using this
 have lK:=grownCap_ge w (sl+k) sc e;have hcm:grownCap w (sl+k) sc e<=maxLen:=grownCap_le_maxLen w (sl+k) sc e (by simp only[maxLen];omega);have hold:(Builtin.firstCells i.size sl (.slice sb sl sc)).run P w.drew=.ok (xs.flatMap aX).toArray w.drew:=by
  cases sb with
  |none=>
   have hx0:xs=[]:=by
    cases xs with
    |nil=>rfl
    |cons y r=>obtain⟨a,ha,_⟩:=hs.get 0 y rfl;cases ha
   subst hx0;simp[Builtin.firstCells]
  |some a=>exact run_firstCells_some (P:=P) w.drew i.size sl a sl sc (xs.flatMap aX) (by rw[bI gA,KU]) (λj v hj=>by simpa using pX hs gA (a:=a) rfl j v hj)
 have hnk:(Builtin.zeroCells zv.cells k).toList=(List.replicate k x).flatMap aX:=mz zv.cells aX x hx k (by rw[hzs];exact hE.pos);have hkw:IntKind.i64.wrap (k:Int)=(k:Int):=w64n k aB;have hkb:¬(281474976710656<(k:Int)*(i.bytes:Int)):=by
  have h1:k*i.bytes<=(xs.length+k)*i.bytes:=QB _ aB;have h2:((k*i.bytes:Nat):Int)<=140737488355328:=aB;rw[Int.natCast_mul] at h2;omega
 have h48:¬(281474976710656<Builtin.nextslicecap (sl+k) sc*i.bytes):=by have:=growslice_fits (need:=sl+k) (old:=sc) (bytes:=i.bytes) hsc (by rw[KU];exact CA);omega
 have DS:¬(sl+k<=sc):=aB;have uN:¬(k*i.size=0):=by
  have hk0:0<k:=by have:=hs.cap;simp only at this;omega
  have:=Nat.mul_pos hk0 hE.pos;omega
 have h63':¬(9223372036854775807<(sl:Int)+(k:Int)):=aB;refine⟨(⟨some ⟨w.heap.size,0,none⟩,sl+k,grownCap w (sl+k) sc e⟩:Sl),w.drew.alloc (.cells ((xs.flatMap aX).toArray++Builtin.zeroCells zv.cells k++Builtin.zeroCells zv.cells (grownCap w (sl+k) sc e-(sl+k))) e),?_,hK _ _ ⟨?_,lK,hcm,.inr ⟨w.heap.size,(Builtin.zeroCells zv.cells (grownCap w (sl+k) sc e-(sl+k))).toList,rfl,?_,?_⟩⟩ ((aY.refl _ w).drew.alloc _) ⟨_,rfl,iX _⟩⟩
 ·have QC:¬((k:Int)<0):=aB
  simp[Builtin.append_,run_underlying hE.under,run_underlying hti,sizeOf,typeInfo,zeroValue,hi,hz,asInt,asIntOf,hkw,hkb,DS,h63',h48,Question.forced,hold,QC,uN,newRow,grownCap,oH.aX,CK.aX]
 ·simp[KU]
 ·have:=cW.iS w.drew ((xs.flatMap aX).toArray++Builtin.zeroCells zv.cells k++Builtin.zeroCells zv.cells (grownCap w (sl+k) sc e-(sl+k))) e
  simpa [sH,hnk] using this
 ·rw[mH,bI gA,Iy,hzs,mH,List.length_replicate,<-KU,<-Nat.add_mul]
  congr 1;show sl+k+(grownCap w (sl+k) sc e-(sl+k))=grownCap w (sl+k) sc e;omega
theorem oV(b:cO)(c n:Nat):aR b c 0 n=b:=by
 unfold aR
 split
 ·rfl
 ·cases b with
  |none=>rfl
  |some a=>simp[Addr.add]
theorem lR{g c l n:Nat}(h:l<c):aR (some ⟨g,0,none⟩) c l n=some ⟨g,l*n,none⟩:=by
 unfold aR;rw[if_neg aB];simp[aS]
theorem Pf{α:Type}{aX:α->List Value}{n:Nat}(gA:∀x,(aX x).length=n)(xs:List α)(R:List Value)(i:Nat)(hi:i<=xs.length):(xs.flatMap aX++R).take (i*n)=(xs.take i).flatMap aX:=by
 have h1:xs.flatMap aX=(xs.take i).flatMap aX++(xs.drop i).flatMap aX:=by rw[<-JC,Cs]
 have h2:((xs.take i).flatMap aX).length=i*n:=by rw[bI gA,qF,Nat.min_eq_left hi]
 rw[h1,sH,<-h2,List.take_left]
theorem aAW{α:Type}{aX:α->List Value}{n:Nat}(gA:∀x,(aX x).length=n)(xs:List α)(R:List Value)(i:Nat)(hi:i<=xs.length):(xs.flatMap aX++R).drop (i*n)=(xs.drop i).flatMap aX++R:=by
 have h1:xs.flatMap aX=(xs.take i).flatMap aX++(xs.drop i).flatMap aX:=by rw[<-JC,Cs]
 have h2:((xs.take i).flatMap aX).length=i*n:=by rw[bI gA,qF,Nat.min_eq_left hi]
 conv=>lhs;rw[h1,sH,<-h2,List.drop_left]
theorem an{P:Program}{f:FuncId}{fn:Func}{t tR e:TypeId}{n:Nat}(hf:P.funcs[f]? =some fn)(hname:(fn.name== "runtime.NumGoroutine")=false) (hb:fn.body.isNone=true) (hn:Extern.findNext fn=none)
  (he:Extern.find fn=some (Extern.SlicesOverlaps.overlaps #[t,t] #[tR])) (ht:P.underlying t=some (.slice e)) (hz:(P.info? e).map (·.size)=some n) {w:aH} {ga gb oa ob la ca lb cb:Nat} {ea eb:TypeId} {ca' cb':List Value}
  (ha:cW w ga ea ca') (bY:cW w gb eb cb') (gH:ga≠gb) (uN:cb'.length≠0) {K:Bool->aH->Prop} (hK:K false w):
  extD P (.c .bool) f [.slice (some ⟨ga,oa,none⟩) la ca,.slice (some ⟨gb,ob,none⟩) lb cb] w K:=by
 have LP:∀w,(sizeOf e).run P w=.ok n w:=λw=>by
  cases hq:P.info? e with
  |none=>rw[hq] at hz;cases hz
  |some i=>rw[hq] at hz;cases hz;exact yS hq w
 refine⟨false,w,?_,hK⟩;have hsa:w.shape? ga=some (ea,ca'.toArray.size):=by unfold World.shape?;rw[show w.heap[ga]? =_ from ha]
 have hsb:w.shape? gb=some (eb,cb'.toArray.size):=by unfold World.shape?;rw[show w.heap[gb]? =_ from bY]
 have fz:∀o,w.frozen? ⟨ga,o,none⟩=false:=λo=>by unfold World.frozen?;rw[show w.heap[ga]? =_ from ha];simp
 rw[run_callFunc_extern hf hname hb hn he,Lib.run_overlaps_apart w t tR e ht n LP ⟨ga,oa,none⟩ ⟨gb,ob,none⟩ la ca lb cb gH ea eb _ _ hsa hsb (by simpa using uN) (fz _) (fz _)]
 rfl
end Go.Den
namespace Go.Den
open Go Go.MapKept
section
structure RD{K:Type}(P:Program)(kt:TypeId)(ek:K->Value):Prop where
 check:∀(e:Bool) (x:K) (w:aH),(Instr.checkKey e 10000 kt (ek x)).run P w=.ok () w
 find:∀(x:K) (w:aH) (l:List MapEntry) (ks:List K),l.map (·.key)=ks.map ek->
  (x∉ks/\(Instr.findKey kt (ek x) l).run P w=.ok none w)\/∃j e,ks[j]? =some x/\l[j]? =some e/\(Instr.findKey kt (ek x) l).run P w=.ok (some (j,e.val)) w
 stays:∀x:K,Instr.sameBits 10000 (ek x) (ek x)=true
theorem aAT{P:Program}{kt:TypeId}{k:IntKind}(hd:P.underlying kt=some (.int k)):RD P kt (λn:Int=>.int k n) where
 check e x w:=run_checkKey hd (by simp[IsKey]) e 9999
 find x w l ks h:=by
  have hk:∀e∈l,IsKey (.int k) e.key:=λe he=>by
   have:e.key∈ks.map (λn:Int=>Value.int k n):=h▸lN.2 ⟨e,he,rfl⟩;obtain⟨n,_,hn⟩:=lN.1 this;rw[<-hn];simp[IsKey]
  rcases findNow_spec (d:=.int k) (k:=.int k x) (by simp[IsKey]) l 0 hk with⟨h1,h2⟩|⟨j,e,h1,h2,h3⟩
  ·refine .inl ⟨λhx=>?_,run_findKey hd h1⟩
   have:(Value.int k x)∈l.map (·.key):=h▸lN.2 ⟨x,hx,rfl⟩;obtain⟨e,he,he2⟩:=lN.1 this;exact h2 e he he2
  ·rw[pU] at h1
   refine .inr ⟨j,e,?_,h2,run_findKey hd h1⟩;have:(l.map (·.key))[j]? =some (.int k x):=by rw[mY,h2];simp[h3]
   rw[h,mY] at this;cases hj:ks[j]? with
   |none=>rw[hj] at this;cases this
   |some n=>rw[hj] at this;simp at this;rw[this]
 stays x:=by simp[Instr.sameBits]
theorem Zc(kn:oH)(x:kn.T)(b:Bool):zD [kn,.c .bool] (x,b,())=[kn.aX x,.bool b]:=rfl
def wM{K V:Type}[DecidableEq K]:List (K×V)->K->Option V
 | [],_=>none
 |p::r,x=>if p.1=x then some p.2 else wM r x
theorem HO{K V:Type}[DecidableEq K]:∀{l:List (K×V)} {x:K},x∉l.map (·.1)->wM l x=none
 | [],_,_=>rfl
 |p::r,x,h=>by
  simp at h;unfold wM;rw[if_neg (λe=>h.1 e.symm),HO (by simpa using h.2)]
theorem ZN{K V:Type}[DecidableEq K]:∀{l:List (K×V)} {x:K} {v:V} {j:Nat},(l.map (·.1)).Nodup->l[j]? =some (x,v)->wM l x=some v
 | [],_,_,j,_,h=>by simp at h
 |p::r,x,v,0,_,h=>by simp at h;subst h;simp[wM]
 |p::r,x,v,j+1,hn,h=>by
  simp at h hn;unfold wM;have:p.1≠x:=λe=>hn.1 v (by rw[e];exact zN h);rw[if_neg this];exact ZN (by simpa using hn.2) h
theorem HD{K V:Type}[DecidableEq K]:∀{l:List (K×V)} {x:K},(wM l x).isSome=true↔x∈l.map (·.1)
 | [],_=>by simp[wM]
 |p::r,x=>by
  unfold wM
  by_cases h:p.1=x
  ·simp[h]
  ·rw[if_neg h,HD];simp[Ne.symm h]
def QH(es:Array MapEntry)(DW:Nat):Prop:=(∀e∈es.toList,e.born<DW)/\(es.toList.map (·.born)).Nodup
def jT{K:Type}[DecidableEq K](w:aH)(r:Nat)(ek:K->Value)(kn:oH)(f:K->Option kn.T)(n:Nat):Prop:=
 ∃(es:Array MapEntry) (DW:Nat) (l:List (K×kn.T)),w.heap[r]? =some (.map es DW)/\es.toList.map (·.key)=l.map (λp=>ek p.1)/\es.toList.map (·.val)=l.map (λp=>kn.aX p.2)/\(l.map (·.1)).Nodup/\(∀x,f x=wM l x)/\l.length=n/\QH es DW
section
variable{K:Type}[DecidableEq K]{P:Program}{w:aH}{r:Nat}{ek:K->Value}{kn:oH}{f:K->Option kn.T}{n:Nat}
theorem jT.lt(h:jT w r ek kn f n):r<w.heap.size:=by obtain⟨es,c,l,h1,_⟩:=h;exact(Array.getElem?_eq_some_iff.1 h1).1
theorem jT.aL{F:Nat->Prop}{w':aH}(h:jT w r ek kn f n)(hm:aY F w w')(hF:¬F r):jT w' r ek kn f n:=by
 have hl:=h.lt;obtain⟨es,c,l,h1,h2⟩:=h;exact⟨es,c,l,(hm.block r hl hF).trans h1,h2⟩
theorem jT.congr{g:K->Option kn.T}{m:Nat}(h:jT w r ek kn f n)(hg:∀x,g x=f x)(hm:m=n):jT w r ek kn g m:=by
 obtain⟨es,c,l,h1,h2,h3,h4,h5,h6,hB⟩:=h;exact⟨es,c,l,h1,h2,h3,h4,λx=>(hg x).trans (h5 x),h6.trans hm.symm,hB⟩
theorem jT.Ly(h:jT w r ek kn f n):∃ks:List K,ks.Nodup/\ks.length=n/\∀x,x∈ks↔(f x).isSome=true:=by
 obtain⟨es,c,l,h1,h2,h3,h4,h5,h6,hB⟩:=h;exact⟨l.map (·.1),h4,by simpa using h6,λx=>by rw[h5 x,HD]⟩
theorem jT.new(w:aH)(ek:K->Value)(kn:oH):jT (w.alloc (.map #[] 0)) w.heap.size ek kn (λ_=>none) 0:=
 ⟨#[],0,[],heap_alloc_new w _,rfl,rfl,List.nodup_nil,λ_=>rfl,rfl,by simp,List.nodup_nil⟩
theorem jT.find{kt:TypeId}(hk:RD P kt ek)(h:jT w r ek kn f n)(x:K)(w':aH):∃(es:Array MapEntry) (DW:Nat) (l:List (K×kn.T)),w.heap[r]? =some (.map es DW)/\es.toList.map (·.key)=l.map (λp=>ek p.1)/\es.toList.map (·.val)=l.map (λp=>kn.aX p.2)/\(l.map (·.1)).Nodup/\(∀x,f x=wM l x)/\l.length=n/\QH es DW/\
  ((x∉l.map (·.1)/\f x=none/\(Instr.findKey kt (ek x) es.toList).run P w'=.ok none w')\/∃j v,f x=some v/\l[j]? =some (x,v)/\j<es.size/\(es.toList[j]?).map (·.key)=some (ek x)/\(Instr.findKey kt (ek x) es.toList).run P w'=.ok (some (j,kn.aX v)) w'):=by
 obtain⟨es,c,l,h1,h2,h3,h4,h5,h6,hB⟩:=h;refine⟨es,c,l,h1,h2,h3,h4,h5,h6,hB,?_⟩;rcases hk.find x w' es.toList (l.map (·.1)) (by rw[h2,List.map_map];rfl) with⟨g1,g2⟩|⟨j,e,g1,g2,g3⟩
 ·exact .inl ⟨g1,by rw[h5,HO g1],g2⟩
 ·right
  rw[mY] at g1;cases hj:l[j]? with
  |none=>rw[hj] at g1;cases g1
  |some p=>
   rw[hj] at g1;have hp:p.1=x:=by simpa using g1
   obtain⟨y,v⟩:=p;simp only at hp;subst hp;have hv:e.val=kn.aX v:=by
    have:(es.toList.map (·.val))[j]? =some e.val:=by rw[mY,g2];rfl
    rw[h3,mY,hj] at this;simpa using this.symm
   have tP:(es.toList[j]?).map (·.key)=some (ek y):=by
    have:(es.toList.map (·.key))[j]? =some (ek y):=by rw[h2,mY,hj];rfl
    rwa[mY] at this
   refine⟨j,v,by rw[h5,ZN h4 hj],hj,by simpa using(kY.1 g2).1,tP,by rw[<-hv];exact g3⟩
theorem qV{Q:Nat->aH->Prop}(hQ:jT (w.alloc (.map #[] 0)) w.heap.size ek kn (λ_=>none) 0->aN w (w.alloc (.map #[] 0))->Q w.heap.size (w.alloc (.map #[] 0))):rN w Q:=hQ (jT.new w ek kn) (aN.alloc w _)
theorem PE{kt et:TypeId}{t:TypeId}(ht:P.underlying t=some (.map kt et))(hk:RD P kt ek){z:kn.T}(hz:(P.info? et).map (·.zero)=some (some (kn.aX z)))(h:jT w r ek kn f n)(x:K){Q:kn.T->Bool->aH->Prop}
  (hQ:Q ((f x).getD z) (f x).isSome w):HF P kn t (.map (some r)) (ek x) w Q:=by
 obtain⟨es,c,l,h1,h2,h3,h4,h5,h6,hB,hf⟩:=h.find hk x w;have hzv:(zeroValue et).run P w=.ok (kn.aX z) w:=by
  cases hq:P.info? et with
  |none=>rw[hq] at hz;cases hz
  |some i=>rw[hq] at hz;simp at hz;simp[zeroValue,typeInfo,hq,hz]
 rcases hf with⟨_,g,qH⟩|⟨j,v,g,_,_,_,qH⟩
 ·rw[g] at hQ
  exact⟨(z,false,()),w,by simp[Instr.lookup,run_underlying ht,MapKept.run_getObj_map h1,hk.check,qH,hzv,Zc],hQ⟩
 ·rw[g] at hQ
  exact⟨(v,true,()),w,by simp[Instr.lookup,run_underlying ht,MapKept.run_getObj_map h1,hk.check,qH,Zc],hQ⟩
theorem wV{kt et:TypeId}{t:TypeId}(ht:P.underlying t=some (.map kt et))(hk:RD P kt ek){z:kn.T}(hz:(P.info? et).map (·.zero)=some (some (kn.aX z)))(h:jT w r ek kn f n)(x:K){Q:kn.T->aH->Prop}
  (hQ:Q ((f x).getD z) w):kF P kn t (.map (some r)) (ek x) w Q:=by
 obtain⟨es,c,l,h1,h2,h3,h4,h5,h6,hB,hf⟩:=h.find hk x w;have hzv:(zeroValue et).run P w=.ok (kn.aX z) w:=by
  cases hq:P.info? et with
  |none=>rw[hq] at hz;cases hz
  |some i=>rw[hq] at hz;simp at hz;simp[zeroValue,typeInfo,hq,hz]
 rcases hf with⟨_,g,qH⟩|⟨j,v,g,_,_,_,qH⟩
 ·rw[g] at hQ
  exact⟨z,w,by simp[Instr.lookup,run_underlying ht,MapKept.run_getObj_map h1,hk.check,qH,hzv],hQ⟩
 ·rw[g] at hQ
  exact⟨v,w,by simp[Instr.lookup,run_underlying ht,MapKept.run_getObj_map h1,hk.check,qH],hQ⟩
theorem Ys{kt et:TypeId}{t:TypeId}(ht:P.underlying t=some (.map kt et))(h:jT w r ek kn f n){Q:Int->aH->Prop}(hQ:Q (n:Int) w):Ek P t (.map (some r)) w Q:=by
 obtain⟨es,c,l,h1,h2,h3,h4,h5,h6,hB⟩:=h;have hs:es.size=n:=by rw[<-h6];have:=congrArg List.length h2;simpa using this
 exact⟨(n:Int),w,by simp[Builtin.len_,run_underlying ht,MapKept.run_getObj_map h1,goInt,hs,oH.aX,CK.aX],hQ⟩
theorem OH(es:Array MapEntry)(i:Nat)(k v:Value)(hk:(es.toList[i]?).map (·.key)=some k):(es.modify i λe=>{e with key:=k,val:=v}).toList.map (·.key)=es.toList.map (·.key):=by
 apply BH;intro j;simp only[mY,Array.toList_modify,List.getElem?_modify]
 by_cases hj:i=j
 ·subst hj
  cases he:es.toList[i]? with
  |none=>rfl
  |some e=>rw[he] at hk;simp at hk;simp[hk]
 ·simp[hj]
theorem OG(es:Array MapEntry)(i:Nat)(k v:Value):(es.modify i λe=>{e with key:=k,val:=v}).toList.map (·.val)=(es.toList.map (·.val)).set i v:=by
 apply BH;intro j;simp only[mY,Array.toList_modify,List.getElem?_modify,wC]
 by_cases hj:i=j
 ·subst hj
  by_cases cL:i<es.toList.length
  ·have h2:i<es.size:=by simpa using cL
   simp[h2]
  ·rw[List.getElem?_eq_none aB];simp at cL;simp;omega
 ·simp[hj]
theorem WU{V:Type}:∀{l:List (K×V)} {j:Nat} {x:K} {v:V},(l.map (·.1)).Nodup->(l[j]?).map (·.1)=some x->∀y,wM (l.set j (x,v)) y=if y=x then some v else wM l y
 | [],j,x,v,_,h,_=>by simp at h
 |p::r,0,x,v,hn,h,y=>by
  simp at h;simp only[List.set_cons_zero,wM]
  by_cases hy:y=x
  ·simp[hy]
  ·rw[if_neg (λe=>hy e.symm),if_neg hy,h,if_neg (λe=>hy e.symm)]
 |p::r,j+1,x,v,hn,h,y=>by
  simp only[List.getElem?_cons_succ] at h;simp only[List.map_cons,List.nodup_cons] at hn;simp only[List.set_cons_succ,wM];have hx:x∈r.map (·.1):=by
   cases hj:r[j]? with
   |none=>rw[hj] at h;cases h
   |some q=>rw[hj] at h;simp at h;rw[<-h];exact lN.2 ⟨q,zN hj,rfl⟩
  have hpx:p.1≠x:=λe=>hn.1 (e▸hx);rw[WU hn.2 h y]
  by_cases hy:y=x
  ·subst hy;simp[hpx]
  ·simp[hy]
theorem EE{V:Type}:∀{l:List (K×V)} {x:K} {v:V},x∉l.map (·.1)->∀y,wM (l++[(x,v)]) y=if y=x then some v else wM l y
 | [],x,v,_,y=>by
  simp only[List.nil_append,wM]
  by_cases h:y=x
  ·simp[h]
  ·rw[if_neg (λe=>h e.symm),if_neg h]
 |p::r,x,v,hn,y=>by
  simp only[List.map_cons,jL,not_or] at hn;simp only[List.cons_append,wM];rw[EE hn.2 y]
  by_cases hy:y=x
  ·subst hy;rw[if_neg (λe=>hn.1 e.symm)];simp
  ·simp[hy]
theorem QH.push{es:Array MapEntry}{c:Nat}(h:QH es c)(k v:Value):QH (es.push {key:=k,val:=v,born:=c}) (c+1):=by
 obtain⟨h1,h2⟩:=h;refine⟨λe he=>?_,?_⟩
 ·simp only[Array.toList_push,jS,kZ] at he
  rcases he with he|rfl
  ·have:=h1 e he;omega
  ·exact Nat.lt_succ_self _
 ·simp only[Array.toList_push,yA,List.map_cons,List.map_nil]
  rw[List.nodup_append];refine⟨h2,by simp,λa ha b hb=>?_⟩;simp at hb;subst hb;obtain⟨e,he,rfl⟩:=lN.1 ha;have:=h1 e he;omega
theorem bu(es:Array MapEntry)(i:Nat)(F:MapEntry->MapEntry)(hF:∀e,(F e).born=e.born):(es.modify i F).toList.map (·.born)=es.toList.map (·.born):=by
 apply BH;intro j;simp only[mY,Array.toList_modify,List.getElem?_modify]
 by_cases hj:i=j
 ·subst hj;cases es.toList[i]? with
  |none=>rfl
  |some e=>simp[hF]
 ·simp[hj]
theorem QH.modify{es:Array MapEntry}{c:Nat}(h:QH es c)(i:Nat)(F:MapEntry->MapEntry)(hF:∀e,(F e).born=e.born):QH (es.modify i F) c:=by
 have hb:=bu es i F hF;refine⟨λe he=>?_,by rw[hb];exact h.2⟩;have:e.born∈es.toList.map (·.born):=hb▸lN.2 ⟨e,he,rfl⟩;obtain⟨e',uM,e1⟩:=lN.1 this;rw[<-e1];exact h.1 e' uM
theorem QH.erase{es:Array MapEntry}{c:Nat}(h:QH es c)(i:Nat):QH (es.eraseIdxIfInBounds i) c:=by
 have hs:(es.eraseIdxIfInBounds i).toList.Sublist es.toList:=by
  unfold Array.eraseIdxIfInBounds
  split
  ·simp only[Array.toList_eraseIdx];exact List.eraseIdx_sublist _ _
  ·exact List.Sublist.refl _
 exact⟨λe he=>h.1 e (hs.subset he),h.2.sublist (hs.map _)⟩
theorem QH.find{es:Array MapEntry}{c:Nat}(h:QH es c){i:Nat}{e:MapEntry}(he:es.toList[i]? =some e):es.findIdx? (λx=>(x.born:Int)==(e.born:Int))=some i:=by
 obtain⟨l⟩:=es;rw[List.findIdx?_toArray,List.findIdx?_eq_some_iff_getElem];have hi:=(kY.1 he).1;have hg:l[i]=e:=(kY.1 he).2;refine⟨hi,by rw[hg];simp,λj hj=>?_⟩;have hn:=h.2;simp only at hn;have dF:i<l.length:=hi;have wG:j<l.length:=aB;have gH:l[j].born≠l[i].born:=λe'=>by
  have:=Ws.1 hn j i (by simp;omega) (by simpa using hi) hj;simp at this;exact this e'
 rw[hg] at gH;simp;omega
theorem kV(w:aH)(r:Nat)(o:Obj):aY (λk=>k=r) w {w with heap:=w.heap.setIfInBounds r o}:=
 ⟨rfl,rfl,rfl,by simp,λk _ hk=>by simp[Ne.symm hk]⟩
theorem WM{kt et:TypeId}{t:TypeId}(ht:P.underlying t=some (.map kt et))(hk:RD P kt ek)(h:jT w r ek kn f n)(x:K)(v:kn.T){Q:aH->Prop}
  (hQ:∀w',jT w' r ek kn (λy=>if y=x then some v else f y) (if(f x).isSome then n else n+1)->aY (λk=>k=r) w w'->w'.heap.size=w.heap.size->Q w'):fF P t (.map (some r)) (ek x) (kn.aX v) w Q:=by
 obtain⟨es,c,l,h1,h2,h3,h4,h5,h6,hB,hf⟩:=h.find hk x w;rcases hf with⟨hx,g,qH⟩|⟨j,u,g,hj,hjs,tP,qH⟩
 ·refine⟨{w with heap:=w.heap.setIfInBounds r (.map (es.push {key:=ek x,val:=kn.aX v,born:=c}) (c+1))},by simp[Instr.mapUpdate,run_underlying ht,MapKept.run_getObj_map h1,hk.check,qH,run_setObj_map _ h1],hQ _ ?_ (kV w r _) dJ⟩
  refine⟨_,_,l++[(x,v)],(heap_set h1).1,by simp[h2],by simp[h3],?_,λy=>?_,by rw[g];simp[h6],hB.push _ _⟩
  ·rw[yA,List.nodup_append]
   exact⟨h4,by simp,λa ha b hb=>by simp at hb;subst hb;exactλe=>hx (e▸ha)⟩
  ·show(if y=x then some v else f y)=_
   rw[EE hx y,h5]
 ·obtain⟨e,he⟩:∃e,es.toList[j]? =some e:=⟨_,gU (by simpa using hjs)⟩
  have hek:e.key=ek x:=by rw[he] at tP;simpa using tP
  have hea:es[j]? =some e:=by simpa using he
  refine⟨{w with heap:=w.heap.setIfInBounds r (.map (es.modify j λe=>{e with key:=ek x,val:=kn.aX v}) c)},by simp[Instr.mapUpdate,run_underlying ht,MapKept.run_getObj_map h1,hk.check,qH,run_setObj_map _ h1,Instr.keyThatStays,hea,hek,hk.stays],hQ _ ?_ (kV w r _) dJ⟩;refine⟨_,_,l.set j (x,v),(heap_set h1).1,?_,?_,?_,λy=>?_,by rw[g];simp[h6],hB.modify j (λe=>{e with key:=ek x,val:=kn.aX v}) λ_=>rfl⟩
  ·rw[OH es j _ _ tP,h2]
   apply BH;intro i;simp only[mY,wC]
   by_cases hi:j=i
   ·subst hi
    have cL:=(kY.1 hj).1;rw[hj];simp[cL]
   ·simp[hi]
  ·rw[OG,h3,List.map_set]
  ·have:(l.set j (x,v)).map (·.1)=l.map (·.1):=by
    apply BH;intro i;simp only[mY,wC]
    by_cases hi:j=i
    ·subst hi
     have cL:=(kY.1 hj).1;rw[hj];simp[cL]
    ·simp[hi]
   rw[this];exact h4
  ·show(if y=x then some v else f y)=_
   rw[WU h4 (by rw[hj];rfl) y,h5]
theorem av(es:Array MapEntry)(i:Nat)(v:Value):(es.modify i λe=>{e with val:=v}).toList.map (·.key)=es.toList.map (·.key):=by
 apply BH;intro j;simp only[mY,Array.toList_modify,List.getElem?_modify]
 by_cases hj:i=j
 ·subst hj;cases es.toList[i]?<;>simp
 ·simp[hj]
theorem au(es:Array MapEntry)(i:Nat)(v:Value):(es.modify i λe=>{e with val:=v}).toList.map (·.val)=(es.toList.map (·.val)).set i v:=by
 apply BH;intro j;simp only[mY,Array.toList_modify,List.getElem?_modify,wC]
 by_cases hj:i=j
 ·subst hj
  by_cases cL:i<es.toList.length
  ·have h2:i<es.size:=by simpa using cL
   simp[h2]
  ·rw[List.getElem?_eq_none aB];simp at cL;simp;omega
 ·simp[hj]
theorem aw(es:Array MapEntry)(i:Nat)(k:Value):(es.modify i λe=>{e with key:=k}).toList.map (·.val)=es.toList.map (·.val):=by
 apply BH;intro j;simp only[mY,Array.toList_modify,List.getElem?_modify]
 by_cases hj:i=j
 ·subst hj;cases es.toList[i]?<;>simp
 ·simp[hj]
theorem az(es:Array MapEntry)(i:Nat)(k:Value)(hk:(es.toList[i]?).map (·.key)=some k):(es.modify i λe=>{e with key:=k}).toList.map (·.key)=es.toList.map (·.key):=by
 apply BH;intro j;simp only[mY,Array.toList_modify,List.getElem?_modify]
 by_cases hj:i=j
 ·subst hj
  cases he:es.toList[i]? with
  |none=>rfl
  |some e=>rw[he] at hk;simp at hk;simp[hk]
 ·simp[hj]
omit [DecidableEq K] in
theorem Bp{V:Type}{l:List (K×V)}{j:Nat}{x:K}{u:V}(v:V)(hj:l[j]? =some (x,u)):(l.set j (x,v)).map (·.1)=l.map (·.1):=by
 apply BH;intro i;simp only[mY,wC]
 by_cases hi:j=i
 ·subst hi
  have cL:=(kY.1 hj).1;rw[hj];simp[cL]
 ·simp[hi]
theorem XS{t:TypeId}{es:Array MapEntry}{c:Nat}{l:List (K×kn.T)}(h1:w.heap[r]? =some (.map es c))(h2:es.toList.map (·.key)=l.map (λp=>ek p.1))(h3:es.toList.map (·.val)=l.map (λp=>kn.aX p.2))(h4:(l.map (·.1)).Nodup)(hB:QH es c)
  {j:Nat} {x:K} {u:kn.T} {e:MapEntry} (hj:l[j]? =some (x,u)) (he:es.toList[j]? =some e) (v:kn.T) {Q:aH->Prop}
  (hQ:∀w',jT w' r ek kn (λy=>if y=x then some v else wM l y) l.length->aY (λk=>k=r) w w'->w'.heap.size=w.heap.size->Q w'):uH P t (.map (some r)) (.int .i64 (e.born:Int)) (kn.aX v) w Q:=by
 have hfi:=hB.find he;refine⟨{w with heap:=w.heap.setIfInBounds r (.map (es.modify j λe=>{e with val:=kn.aX v}) c)},by simp[Instr.entryStore,MapKept.run_getObj_map h1,asInt,asIntOf,hfi,run_setObj_map _ h1],hQ _ ?_ (kV w r _) dJ⟩;exact⟨_,_,l.set j (x,v),(heap_set h1).1,by have e1:=congrArg (List.map ek) (Bp v hj);rw[List.map_map,List.map_map] at e1;rw[av,h2];exact e1.symm,by rw[au,h3,List.map_set],by rw[Bp v hj];exact h4,
  λy=>by rw[WU h4 (by rw[hj];rfl) y],by simp,hB.modify j (λe=>{e with val:=kn.aX v}) λ_=>rfl⟩
theorem Ts{kt et:TypeId}{t:TypeId}(ht:P.underlying t=some (.map kt et))(hk:RD P kt ek){z:kn.T}(hz:(P.info? et).map (·.zero)=some (some (kn.aX z)))(h:jT w r ek kn f n)(x:K)(v:kn.T){Q:aH->Prop}
  (hQ:∀w',jT w' r ek kn (λy=>if y=x then some v else f y) (if(f x).isSome then n else n+1)->aY (λk=>k=r) w w'->w'.heap.size=w.heap.size->Q w'):
  HP P kn t (.map (some r)) (ek x) w λ_ sl w3=>uH P t (.map (some r)) (.int .i64 sl) (kn.aX v) w3 Q:=by
 obtain⟨es,c,l,h1,h2,h3,h4,h5,h6,hB,hf⟩:=h.find hk x w;have hzv:(zeroValue et).run P w=.ok (kn.aX z) w:=by
  cases hq:P.info? et with
  |none=>rw[hq] at hz;cases hz
  |some i=>rw[hq] at hz;simp at hz;simp[zeroValue,typeInfo,hq,hz]
 have two:∀(x:kn.T) (b:Int),zD [kn,.c (.int .i64)] (x,b,())=[kn.aX x,.int .i64 b]:=λ_ _=>rfl;have LP:es.size=l.length:=by have:=congrArg List.length h2;simpa using this
 rcases hf with⟨hx,g,qH⟩|⟨j,u,g,hj,hjs,tP,qH⟩
 ·have GH:=(heap_set (o':=.map (es.push {key:=ek x,val:=kn.aX z,born:=c}) (c+1)) h1).1
  refine⟨(z,(c:Int),()),{w with heap:=w.heap.setIfInBounds r (.map (es.push {key:=ek x,val:=kn.aX z,born:=c}) (c+1))},by simp[Instr.mapEntry,run_underlying ht,MapKept.run_getObj_map h1,hk.check,qH,hzv,run_setObj_map _ h1,two,goInt],?_⟩;refine XS (ek:=ek) (e:={key:=ek x,val:=kn.aX z,born:=c}) (l:=l++[(x,z)]) (j:=l.length) (x:=x) (u:=z) GH (by simp[h2]) (by simp[h3]) ?_ (hB.push _ _) dJ (by simp[LP]) v λw' za hmod hs=>?_
  ·rw[yA,List.nodup_append]
   exact⟨h4,by simp,λa ha b hb=>by simp at hb;subst hb;exactλe=>hx (e▸ha)⟩
  ·refine hQ w' (za.congr (λy=>?_) (by rw[g];simp[h6])) ((kV w r _).tr hmod) (hs.trans dJ)
   show(if y=x then some v else f y)=if y=x then some v else wM (l++[(x,z)]) y
   rw[EE hx y,h5]
   by_cases hy:y=x<;>simp[hy]
 ·obtain⟨e,he⟩:∃e,es.toList[j]? =some e:=⟨_,gU (by simpa using hjs)⟩
  have hek:e.key=ek x:=by rw[he] at tP;simpa using tP
  have hea:es[j]? =some e:=by simpa using he
  have GH:=(heap_set (o':=.map (es.modify j λe=>{e with key:=ek x}) c) h1).1;refine⟨(u,(e.born:Int),()),{w with heap:=w.heap.setIfInBounds r (.map (es.modify j λe=>{e with key:=ek x}) c)},by simp[Instr.mapEntry,run_underlying ht,MapKept.run_getObj_map h1,hk.check,qH,run_setObj_map _ h1,Instr.keyThatStays,hea,hek,hk.stays,two,goInt],?_⟩;refine XS (ek:=ek) (es:=es.modify j λe=>{e with key:=ek x}) (e:={e with key:=ek x}) (l:=l) (j:=j) (x:=x) (u:=u) GH (by rw[az es j _ tP,h2]) (by rw[aw,h3]) h4 (hB.modify j (λe=>{e with key:=ek x}) λ_=>rfl) hj ?_ v λw' za hmod hs=>?_
  ·simp[List.getElem?_modify,hea]
  ·refine hQ w' (za.congr (λy=>?_) (by rw[g];simp[h6])) ((kV w r _).tr hmod) (hs.trans dJ)
   show(if y=x then some v else f y)=if y=x then some v else wM l y
   rw[h5]
theorem Jl{V:Type}:∀{l:List (K×V)} {j:Nat} {x:K},(l.map (·.1)).Nodup->(l[j]?).map (·.1)=some x->∀y,wM (l.eraseIdx j) y=if y=x then none else wM l y
 | [],j,x,_,h,_=>by simp at h
 |p::r,0,x,hn,h,y=>by
  simp at h;simp only[List.map_cons,List.nodup_cons] at hn;simp only[List.eraseIdx_cons_zero,wM]
  by_cases hy:y=x
  ·subst hy;rw[if_pos rfl];exact HO (h▸hn.1)
  ·rw[if_neg hy,h,if_neg (λe=>hy e.symm)]
 |p::r,j+1,x,hn,h,y=>by
  simp only[List.getElem?_cons_succ] at h;simp only[List.map_cons,List.nodup_cons] at hn;simp only[List.eraseIdx_cons_succ,wM];have hx:x∈r.map (·.1):=by
   cases hj:r[j]? with
   |none=>rw[hj] at h;cases h
   |some q=>rw[hj] at h;simp at h;rw[<-h];exact lN.2 ⟨q,zN hj,rfl⟩
  have hpx:p.1≠x:=λe=>hn.1 (e▸hx);rw[Jl hn.2 h y]
  by_cases hy:y=x
  ·subst hy;simp[hpx]
  ·simp[hy]
theorem Ig{kt et u:TypeId}{t:TypeId}(ht:P.underlying t=some (.map kt et))(hk:RD P kt ek)(h:jT w r ek kn f n)(x:K){Q:aH->Prop}
  (hQ:∀w',jT w' r ek kn (λy=>if y=x then none else f y) (if(f x).isSome then n-1 else n)->aY (λk=>k=r) w w'->w'.heap.size=w.heap.size->Q w'):qK P t u (.map (some r)) (ek x) w Q:=by
 obtain⟨es,c,l,h1,h2,h3,h4,h5,h6,hB,hf⟩:=h.find hk x w;rcases hf with⟨hx,g,qH⟩|⟨j,v,g,hj,hjs,tP,qH⟩
 ·refine⟨(),{w with heap:=w.heap.setIfInBounds r (.map es c)},by simp[Builtin.delete_,run_underlying ht,MapKept.run_getObj_map h1,hk.check,qH,run_setObj_map _ h1,zD],hQ _ ?_ (kV w r _) dJ⟩
  refine⟨_,_,l,(heap_set h1).1,h2,h3,h4,λy=>?_,by rw[g];simp[h6],hB⟩;show(if y=x then none else f y)=_
  by_cases hy:y=x
  ·subst hy;rw[if_pos rfl,HO hx]
  ·rw[if_neg hy,h5]
 ·refine⟨(),{w with heap:=w.heap.setIfInBounds r (.map (es.eraseIdxIfInBounds j) c)},by simp[Builtin.delete_,run_underlying ht,MapKept.run_getObj_map h1,hk.check,qH,run_setObj_map _ h1,zD],hQ _ ?_ (kV w r _) dJ⟩
  have er:(es.eraseIdxIfInBounds j).toList=es.toList.eraseIdx j:=by
   unfold Array.eraseIdxIfInBounds;rw[dif_pos hjs];simp
  have em:∀{A B:Type} (F:A->B) (l:List A) (i:Nat),(l.eraseIdx i).map F=(l.map F).eraseIdx i:=by
   intro A B F l
   induction l with
   |nil=>intro i;simp
   |cons a l ih=>intro i;cases i with
    |zero=>simp
    |succ i=>simp[ih]
  have cL:=(kY.1 hj).1;refine⟨_,_,l.eraseIdx j,(heap_set h1).1,by rw[er,em,em,h2],by rw[er,em,em,h3],?_,λy=>?_,by rw[g];simp[List.length_eraseIdx,cL,h6];omega,hB.erase j⟩
  ·rw[em];exact h4.sublist (List.eraseIdx_sublist _ _)
  ·show(if y=x then none else f y)=_
   rw[Jl h4 (by rw[hj];rfl) y,h5]
end
end
end Go.Den
namespace Go.Den
open Go
section
abbrev BS:=Nat->Prop
abbrev As:=aH->BS->Prop
class bF (A:As):Prop where
 gI:∀{w:aH} {S:BS},A w S->∀k,S k->k<w.heap.size
 aL:∀{w w':aH} {S F:BS},A w S->aY F w w'->(∀k,S k->¬F k)->A w' S
structure Up(S S':BS)(w w':aH):Prop where
 m:aY S w w'
 s:∀k,S' k->S k\/w.heap.size<=k
section
variable{S S' S'' T:BS}{w w' Dk:aH}
theorem Up.refl(S:BS)(w:aH):Up S S w w:=⟨aY.refl _ _,λ_ h=>.inl h⟩
theorem Up.tr(h:Up S S' w w')(h':Up S' S'' w' Dk):Up S S'' w Dk:=
 ⟨h.m.trans h'.m λk hk hs=>(h.s k hs).resolve_right aB,λk hk=>(h'.s k hk).elim (h.s k) λhh=>.inr (iG h.m.size hh)⟩
theorem Up.sub(w:aH)(h:∀k,S' k->S k):Up S S' w w:=⟨aY.refl _ _,λk hk=>.inl (h k hk)⟩
theorem Up.aO(k:aN w w'):Up S S w w':=⟨k.wk,λ_ h=>.inl h⟩
theorem Up.new(k:aN w w')(h:∀k,S' k->S k\/w.heap.size<=k):Up S S' w w':=⟨k.wk,h⟩
theorem Up.at(m:aY S w w'):Up S S w w':=⟨m,λ_ h=>.inl h⟩
theorem Up.jv(h:Up S S' w w')(hd:∀k,S k->T k->False)(hb:∀k,T k->k<w.heap.size):∀k,S' k->T k->False:=λk hs ht=>
 (h.s k hs).elim (λh=>hd k h ht) λh=>by have:=hb k ht;omega
theorem Up.size(h:Up S S' w w'):w.heap.size<=w'.heap.size:=h.m.size
end
def aZ(A B:As):As:=λw S=>∃S1 S2,A w S1/\B w S2/\(∀k,S1 k->S2 k->False)/\∀k,S k↔S1 k\/S2 k
def Ex{α:Type}(f:α->As):As:=λw S=>∃x,f x w S
def DO:As:=λ_ S=>∀k,¬S k
def Pr(p:Prop)(A:As):As:=λw S=>p/\A w S
instance:bF DO:=⟨λh k hk=>absurd hk (h k),λh _ _=>h⟩
instance{α:Type}{f:α->As}[∀x,bF (f x)]:bF (Ex f):=⟨λ⟨x,h⟩=>bF.gI h,λ⟨x,h⟩ m hn=>⟨x,bF.aL h m hn⟩⟩
instance{p:Prop}{A:As}[bF A]:bF (Pr p A):=⟨λ⟨_,h⟩=>bF.gI h,λ⟨hp,h⟩ m hn=>⟨hp,bF.aL h m hn⟩⟩
instance{A B:As}[bF A][bF B]:bF (aZ A B):=⟨
 λ⟨S1,S2,h1,h2,_,e⟩ k hk=>((e k).1 hk).elim (bF.gI h1 k) (bF.gI h2 k),
 λ⟨S1,S2,h1,h2,d,e⟩ m hn=>⟨S1,S2,bF.aL h1 m λk hk=>hn k ((e k).2 (.inl hk)),bF.aL h2 m λk hk=>hn k ((e k).2 (.inr hk)),d,e⟩⟩
section
variable{A A' B B' C D:As}{w w':aH}{S S':BS}
theorem aZ.vZ{S1 S2:BS}(h1:A w S1)(h2:B w S2)(d:∀k,S1 k->S2 k->False):aZ A B w (λk=>S1 k\/S2 k):=⟨S1,S2,h1,h2,d,λ_=>Iff.rfl⟩
theorem aZ.cm(h:aZ A B w S):aZ B A w S:=by
 obtain⟨S1,S2,h1,h2,d,e⟩:=h;exact⟨S2,S1,h2,h1,λk a b=>d k b a,λk=>(e k).trans Or.comm⟩
theorem aZ.asr(h:aZ (aZ A B) C w S):aZ A (aZ B C) w S:=by
 obtain⟨S1,S2,⟨T1,T2,a,b,d1,e1⟩,c,d,e⟩:=h;refine⟨T1,λk=>T2 k\/S2 k,a,⟨T2,S2,b,c,λk h1 h2=>d k ((e1 k).2 (.inr h1)) h2,λ_=>Iff.rfl⟩,λk h1 h2=>h2.elim (d1 k h1) (d k ((e1 k).2 (.inl h1))),λk=>?_⟩;rw[e k,e1 k,or_assoc]
theorem aZ.asl(h:aZ A (aZ B C) w S):aZ (aZ A B) C w S:=by
 obtain⟨S1,S2,a,⟨T1,T2,b,c,d1,e1⟩,d,e⟩:=h;refine⟨λk=>S1 k\/T1 k,T2,⟨S1,T1,a,b,λk h1 h2=>d k h1 ((e1 k).2 (.inl h2)),λ_=>Iff.rfl⟩,c,λk h1 h2=>h1.elim (λh1=>d k h1 ((e1 k).2 (.inr h2))) λh1=>d1 k h1 h2,λk=>?_⟩;rw[e k,e1 k,or_assoc]
theorem aZ.mono(h:aZ A B w S)(hA:∀S,A w S->A' w S)(hB:∀S,B w S->B' w S):aZ A' B' w S:=by
 obtain⟨S1,S2,h1,h2,d,e⟩:=h;exact⟨S1,S2,hA _ h1,hB _ h2,d,e⟩
theorem aZ.drop(h:aZ A B w S):∃S',A w S'/\Up S S' w w:=by
 obtain⟨S1,S2,h1,h2,d,e⟩:=h;exact⟨S1,h1,Up.sub w λk hk=>(e k).2 (.inl hk)⟩
theorem aZ.emp(h:A w S):aZ A DO w S:=⟨S,λ_=>False,h,λ_=>id,λ_ _=>id,λk=>⟨.inl,λh=>h.elim id False.elim⟩⟩
end
def Wp(w:aH)(S:BS)(B:As)(R:As->As):Prop:=∃S1,B w S1/\(∀k,S1 k->S k)/\∀B' D w' BC,Up S1 BC w w'->aZ B' D w' BC->∃S',aZ (R B') D w' S'/\Up S S' w w'
section
variable{A B C:As}{w:aH}{S:BS}{R R':As->As}
theorem aZ.l[bF B](h:aZ A B w S):Wp w S A λX=>aZ X B:=by
 obtain⟨S1,S2,h1,h2,d,e⟩:=h;refine⟨S1,h1,λk hk=>(e k).2 (.inl hk),λA' D w' T u hT=>?_⟩;obtain⟨T1,T2,a,b,d',e'⟩:=hT;have b2:∀k,S2 k->k<w.heap.size:=bF.gI h2;have dd:=u.jv d b2;refine⟨λk=>(T1 k\/S2 k)\/T2 k,⟨λk=>T1 k\/S2 k,T2,⟨T1,S2,a,bF.aL h2 u.m λk hk lT=>d k lT hk,λk h1 h2=>dd k ((e' k).2 (.inl h1)) h2,λ_=>Iff.rfl⟩,b,λk h1 h2=>h1.elim (λh=>d' k h h2) λh=>dd k ((e' k).2 (.inr h2)) h,λ_=>Iff.rfl⟩,⟨u.m.mono λk _ hk=>(e k).2 (.inl hk),λk hk=>?_⟩⟩;have hs:∀k,T k->S k\/w.heap.size<=k:=λk hk=>(u.s k hk).imp (λh=>(e k).2 (.inl h)) id;rcases hk with(hk|hk)|hk
 ·exact hs k ((e' k).2 (.inl hk))
 ·exact .inl ((e k).2 (.inr hk))
 ·exact hs k ((e' k).2 (.inr hk))
theorem aZ.r[bF A](h:aZ A B w S):Wp w S B λX=>aZ A X:=by
 obtain⟨S1,h1,hs,dN⟩:=aZ.l h.cm;refine⟨S1,h1,hs,λB' D w' T u hT=>?_⟩;obtain⟨S',h',u'⟩:=dN B' D w' T u hT;exact⟨S',h'.mono (λ_ h=>h.cm) λ_ h=>h,u'⟩
theorem Wp.c(f:Wp w S B R)(g:∀T,B w T->Wp w T C R'):Wp w S C λX=>R (R' X):=by
 obtain⟨S1,h1,hs,dN⟩:=f;obtain⟨S2,h2,IT,GZ⟩:=g S1 h1;refine⟨S2,h2,λk hk=>hs k (IT k hk),λB' D w' T u hT=>?_⟩;obtain⟨T',h',u'⟩:=GZ B' D w' T u hT;exact dN _ D w' T' u' h'
theorem Wp.put(f:Wp w S B R):∃S1,B w S1/\(∀k,S1 k->S k)/\∀B' w' BC,Up S1 BC w w'->B' w' BC->∃S',R B' w' S'/\Up S S' w w':=by
 obtain⟨S1,h1,hs,dN⟩:=f;refine⟨S1,h1,hs,λB' w' T u hT=>?_⟩;obtain⟨S',h',u'⟩:=dN B' DO w' T u (aZ.emp hT);obtain⟨S2,h2,u2⟩:=h'.drop;exact⟨S2,h2,u'.tr u2⟩
end
def sM(g:Nat)(e:TypeId)(cs:List Value):As:=λw S=>cW w g e cs/\∀k,S k↔k=g
instance{g:Nat}{e:TypeId}{cs:List Value}:bF (sM g e cs):=⟨λ⟨h,e⟩ k hk=>by rw[(e k).1 hk];exact h.lt,λ⟨h,e⟩ m hn=>⟨h.aL m (hn g ((e g).2 rfl)),e⟩⟩
theorem sM.up{g:Nat}{e:TypeId}{cs ds:List Value}{w w':aH}{S:BS}(h:sM g e cs w S)(o:cW w' g e ds)(m:aY (λk=>k=g) w w'):sM g e ds w' S/\Up S S w w':=
 ⟨⟨o,h.2⟩,Up.at (m.mono λk _ hk=>(h.2 k).2 hk)⟩
def uQ{K:Type}[DecidableEq K](r:Nat)(ek:K->Value)(kn:oH)(f:K->Option kn.T)(n:Nat):As:=λw S=>jT w r ek kn f n/\∀k,S k↔k=r
instance{K:Type}[DecidableEq K]{r:Nat}{ek:K->Value}{kn:oH}{f:K->Option kn.T}{n:Nat}:bF (uQ r ek kn f n):=⟨λ⟨h,e⟩ k hk=>by rw[(e k).1 hk];exact h.lt,λ⟨h,e⟩ m hn=>⟨h.aL m (hn r ((e r).2 rfl)),e⟩⟩
def CX{α:Type}(n:Nat)(aX:α->List Value)(s:Sl)(xs:List α):As:=λw S=>Rd w s n aX xs/\(∀x,aX x≠[])/\(∀b,s.b=some b->b.block<w.heap.size)/\∀k,S k↔∃b,s.b=some b/\k=b.block
instance{α:Type}{n:Nat}{aX:α->List Value}{s:Sl}{xs:List α}:bF (CX n aX s xs):=⟨
 λ⟨_,_,h,e⟩ k hk=>by obtain⟨b,hb,rfl⟩:=(e k).1 hk;exact h b hb,
 λ⟨h,gH,hb,e⟩ m hn=>⟨h.aL m gH λb hb=>hn _ ((e _).2 ⟨b,hb,rfl⟩),gH,λb h=>nM (hb b h) m.size,e⟩⟩
def jB{α:Type}(e:TypeId)(n:Nat)(aX:α->List Value)(s:Sl)(xs:List α):As:=λw S=>dP w e n aX s xs/\∀k,S k↔∃b,s.b=some b/\k=b.block
theorem dP.Vy{α:Type}{w:aH}{e:TypeId}{n:Nat}{aX:α->List Value}{s:Sl}{xs:List α}(h:dP w e n aX s xs){b:Addr}(hb:s.b=some b):b.block<w.heap.size:=by
 rcases h.gN with⟨h0,_⟩|⟨g,cR,h0,ho,_⟩
 ·rw[hb] at h0;cases h0
 ·rw[hb] at h0;cases h0;exact ho.lt
instance{α:Type}{e:TypeId}{n:Nat}{aX:α->List Value}{s:Sl}{xs:List α}:bF (jB e n aX s xs):=⟨
 λ⟨h,e⟩ k hk=>by obtain⟨b,hb,rfl⟩:=(e k).1 hk;exact h.Vy hb,
 λ⟨h,e⟩ m hn=>⟨h.aL m λb hb=>hn _ ((e _).2 ⟨b,hb,rfl⟩),e⟩⟩
def wI{α:Type}(f:α->As):List α->As
 | []=>DO
 |x::r=>aZ (f x) (wI f r)
instance wI.loc{α:Type}{f:α->As}[h:∀x,bF (f x)]:∀{l:List α},bF (wI f l)
 | []=>inferInstanceAs (bF DO)
 |x::r=>by
  have:=wI.loc (f:=f) (l:=r);exact inferInstanceAs (bF (aZ (f x) (wI f r)))
def Bh{α:Type}(f:α->As)(X:As):List α->Nat->As
 | [],_=>X
 |_::r,0=>aZ X (wI f r)
 |x::r,i+1=>aZ (f x) (Bh f X r i)
theorem wI.at{α:Type}{f:α->As}[h:∀x,bF (f x)]:∀{l:List α} {i:Nat} {x:α} {w:aH} {S:BS},wI f l w S->l[i]? =some x->Wp w S (f x) λX=>Bh f X l i
 |y::r,0,x,w,S,hA,hx=>by cases hx;exact aZ.l hA
 |y::r,i+1,x,w,S,hA,hx=>Wp.c (aZ.r hA) λT hT=>wI.at (l:=r) (i:=i) hT (by simpa using hx)
theorem Bh.set{α:Type}{f:α->As}{x:α}:∀{l:List α} {i:Nat} {w:aH} {S:BS},i<l.length->Bh f (f x) l i w S->wI f (l.set i x) w S
 |y::r,0,_,_,_,h=>h
 |y::r,i+1,_,_,hl,h=>aZ.mono h (λ_ h=>h) λ_ h=>Bh.set (by simpa using hl) h
end
end Go.Den
