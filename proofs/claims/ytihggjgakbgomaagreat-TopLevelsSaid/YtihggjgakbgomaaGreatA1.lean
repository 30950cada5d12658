/-
  Short names.
-/
import Derived.Orders
import Derived.KernelRfl
import Derived.Tactics
import Derived.Laws.Tables
import Derived.Laws.StructEq
import Derived.Laws.MakeOwn
import Derived.Laws.Slices
import Derived.Laws.AppendOwn
import Derived.Laws.OwnMore
import Derived.Laws.CopyRow
import Derived.Below
import Derived.Lib.SmallJoins
import Derived.Lib.Overlaps
import Derived.MapKept
namespace Go.Den
open Go
theorem aB{p:Prop}(h:p:=by omega):p:=h
theorem iT{p:Prop}(h:p:=by kernel_rfl):p:=h
abbrev aD(x:Int):Value:=.int .i64 x
abbrev aH:=World
abbrev aQ(n:Int):Int:=IntKind.wrap .i64 n
abbrev WQ(α:Type):=α->World->Prop
abbrev cR:=Option Addr
theorem dN{p:Prop}(h:p:=by simp):p:=h
abbrev ly0:=@List.length_singleton
abbrev Dt:=@List.map_cons
abbrev ly2:=@List.filter_cons_of_neg
abbrev ly3:=@List.filter_congr
abbrev ly4:=@List.drop_eq_getElem_cons
abbrev iw:=@Int.toNat_of_nonneg
abbrev ly6:=@List.take_of_length_le
abbrev ly7:=@List.getElem?_drop
abbrev iv:=@List.length_drop
abbrev ly9:=@List.mem_of_find?_eq_some
abbrev RZ:=@List.length_nil
abbrev cM:=@List.getElem?_eq_getElem
abbrev eQ:=@List.getElem?_eq_some_iff
abbrev dW:=@Int.toNat_natCast
abbrev fJ:=@List.length_append
abbrev mM:=@List.take_succ_eq_append_getElem
abbrev dE:=@Nat.zero_le
abbrev dL:=@Nat.le_refl
abbrev lD:=@List.mem_of_getElem?
abbrev jA:=@List.getElem?_set
abbrev gI:=@Nat.zero_add
abbrev pG:=@Nat.lt_of_lt_of_le
abbrev pC:=@List.mem_iff_getElem?
abbrev oM:=@List.getElem?_map
abbrev kE:=@List.mem_append
abbrev iR:=@Nat.le_trans
abbrev mX:=@List.getElem_mem
abbrev mE:=@List.length_cons
abbrev oI:=@List.take_length
abbrev jI:=@List.mem_filter
abbrev zL:=@List.length_filter_le
abbrev sM:=@List.length_take
abbrev jO:=@List.mem_cons
abbrev oH:=@List.length_map
abbrev oG:=@List.mem_singleton
abbrev nN:=@List.length_set
abbrev sL:=@List.append_assoc
abbrev sV:=@Bool.and_eq_true
abbrev LR:=@List.getD_eq_getElem?_getD
abbrev uA:=@List.append_nil
abbrev PU:=@Nat.mul_le_mul_right
abbrev tZ:=@Option.some.inj
abbrev IY:=@Nat.eq_of_beq_eq_true
abbrev Lu:=@List.eq_nil_of_length_eq_zero
abbrev mD:=@List.mem_map
abbrev yG:=@List.ext_getElem?
abbrev lK:=@Int.le_refl
abbrev GK:=@List.flatMap_append
abbrev wQ:=@List.map_append
abbrev FE:=@List.flatMap_cons
abbrev VJ:=@List.getElem?_take_of_lt
abbrev VH:=@List.filter_append
abbrev RY:=@List.Pairwise.filter
abbrev Fx:=@List.getElem?_append_right
abbrev Fw:=@List.getElem?_append_left
abbrev IX:=@List.filter_cons
abbrev RX:=@Nat.mul_le_mul
abbrev Lt:=@Option.isSome_iff_exists
abbrev Fv:=@List.getElem?_replicate
abbrev Ls:=@List.take_append_drop
abbrev Vw:=@List.pairwise_iff_getElem
abbrev ly61:=@List.mem_cons_self
abbrev VG:=@List.mem_cons_of_mem
open Go.IntKind (wrap)
structure Sl where
 b:cR
 l:Nat
 c:Nat
inductive CK where
 |int (k:IntKind)
 |bool
 |str
 |ptr
 |slice
 |map
 |any
def CK.T:CK->Type
 | .int _=>Int
 | .bool=>Bool
 | .str=>ByteArray
 | .ptr=>cR
 | .slice=>Sl
 | .map=>Option Nat
 | .any=>Value
def CK.aY:(k:CK)->k.T->Value
 | .int k,(n:Int)=>.int k n
 | .bool,(b:Bool)=>.bool b
 | .str,(s:ByteArray)=>.string s
 | .ptr,(p:cR)=>.pointer p
 | .slice,(s:Sl)=>.slice s.b s.l s.c
 | .map,(r:Option Nat)=>.map r
 | .any,(v:Value)=>v
def CK.of:Value->CK
 | .int k _=>.int k
 | .bool _=>.bool
 | .string _=>.str
 | .pointer _=>.ptr
 | .slice ..=>.slice
 | .map _=>.map
 |_=>.any
def CK.LO:(k:CK)->Value->(k.T->Prop)->Prop
 | .int k,.int k' n,K=>match decEq k k' with
  | .isTrue _=>K n
  | .isFalse _=>False
 | .bool,.bool b,K=>K b
 | .str,.string s,K=>K s
 | .ptr,.pointer p,K=>K p
 | .slice,.slice b l c,K=>K ⟨b,l,c⟩
 | .map,.map r,K=>K r
 | .any,v,K=>K v
 |_,_,_=>False
def CTs:List CK->Type
 | []=>Unit
 |k::r=>k.T×CTs r
def qT:(l:List CK)->CTs l->List Value
 | [],_=>[]
 |k::r,t=>k.aY t.1::qT r t.2
def decs:(l:List CK)->List Value->(CTs l->Prop)->Prop
 | [],[],K=>K ()
 |k::r,v::vs,K=>k.LO v λx=>decs r vs λt=>K (x,t)
 |_,_,_=>False
inductive oL where
 |c (k:CK)
 |agg (l:List CK)
def oL.T:oL->Type
 | .c k=>k.T
 | .agg l=>CTs l
def oL.aY:(k:oL)->k.T->Value
 | .c k,t=>k.aY t
 | .agg l,t=>.agg (qT l t).toArray
def oL.LO:(k:oL)->Value->(k.T->Prop)->Prop
 | .c k,v,K=>k.LO v K
 | .agg l,.agg cs,K=>decs l cs.toList K
 |_,_,_=>False
def oL.of:Value->oL
 | .agg zs=>.agg (zs.toList.map CK.of)
 |v=>.c (CK.of v)
def Fq:List oL->Type
 | []=>Unit
 |k::r=>k.T×Fq r
def AA:(l:List oL)->Fq l->List Value
 | [],_=>[]
 |k::r,t=>k.aY t.1::AA r t.2
def Gd:(l:List oL)->List Value->(Fq l->Prop)->Prop
 | [],[],K=>K ()
 |k::r,v::vs,K=>k.LO v λx=>Gd r vs λt=>K (x,t)
 |_,_,_=>False
theorem CK.yS{k:CK}{v:Value}{K:k.T->Prop}(h:k.LO v K):∃x,v=k.aY x/\K x:=by
 cases k
 case int k=>
  cases v<;>simp only[CK.LO] at h
  rename_i k' n
  cases hd:decEq k k' with
  |isTrue e=>subst e;rw[hd] at h;exact⟨n,rfl,h⟩
  |isFalse e=>rw[hd] at h;exact h.elim
 all_goals first
  |(cases v<;>simp only[CK.LO] at h<;>exact⟨_,rfl,h⟩)
  |exact⟨v,rfl,by cases v<;>exact h⟩
theorem Pf:∀{l:List CK} {vs:List Value} {K:CTs l->Prop},decs l vs K->∃t,vs=qT l t/\K t
 | [],[],_,h=>⟨(),rfl,h⟩
 | [],_::_,_,h=>h.elim
 |_::_,[],_,h=>h.elim
 |k::r,v::vs,K,h=>by
  obtain⟨x,rfl,h2⟩:=CK.yS h;obtain⟨t,rfl,h3⟩:=Pf (l:=r) (vs:=vs) (K:=λt=>K (x,t)) h2;exact⟨(x,t),rfl,h3⟩
theorem oL.yS{k:oL}{v:Value}{K:k.T->Prop}(h:k.LO v K):∃x,v=k.aY x/\K x:=by
 cases k with
 |c k=>exact CK.yS h
 |agg l=>
  cases v<;>simp only[oL.LO] at h
  rename_i cs
  obtain⟨t,ht,h⟩:=Pf h;exact⟨t,by simp only[oL.aY,<-ht],h⟩
theorem xC:∀{l:List oL} {vs:List Value} {K:Fq l->Prop},Gd l vs K->∃t,vs=AA l t/\K t
 | [],[],_,h=>⟨(),rfl,h⟩
 | [],_::_,_,h=>h.elim
 |_::_,[],_,h=>h.elim
 |k::r,v::vs,K,h=>by
  obtain⟨x,rfl,h2⟩:=oL.yS h;obtain⟨t,rfl,h3⟩:=xC (l:=r) (vs:=vs) (K:=λt=>K (x,t)) h2;exact⟨(x,t),rfl,h3⟩
abbrev mI:=List (Nat×Value)
def lV:mI->Nat->Option Value
 | [],_=>none
 |(i,v)::r,t=>cond (Nat.beq i t) (some v) (lV r t)
def rdT(bI o:mI)(t:Nat):Option Value:=match lV bI t with
 |some v=>some v
 |none=>lV o t
def rd(bI o:mI):Operand->Option Value
 | .tmp t=>rdT bI o t
 | .const v=>some v
 | .global g=>some (.pointer (some ⟨g,0,none⟩))
 | .func f=>some (.func (.func f) #[] #[])
def nL{α:Type}(x:Option α)(K:α->Prop):Prop:=match x with
 |some v=>K v
 |none=>False
theorem aV{α:Type}{x:Option α}{K:α->Prop}(h:nL x K):∃v,x=some v/\K v:=by
 cases x with
 |none=>exact h.elim
 |some v=>exact⟨v,rfl,h⟩
def Fg(bI o:mI):List Operand->Option (List Value)
 | []=>some []
 |x::r=>match rd bI o x with
  |some v=>match Fg bI o r with
   |some vs=>some (v::vs)
   |none=>none
  |none=>none
structure lL(n:Nat)(bI o:mI)(a:Act):Prop where
 size:a.tmps.size=n
 bI:∀t v,lV bI t=some v->a.tmps.getD t undef=v
 o:∀t v,lV o t=some v->a.tmps.getD t undef=v
 ur:a.defers=[]
theorem lL.rd{n:Nat}{bI o:mI}{a:Act}(h:lL n bI o a){x:Operand}{v:Value}(hx:rd bI o x=some v):a.eval x=v:=by
 cases x with
 |tmp t=>
  simp only[Den.rd,rdT] at hx;cases hl:lV bI t with
  |some u=>rw[hl] at hx;cases hx;exact h.bI _ _ hl
  |none=>rw[hl] at hx;exact h.o _ _ hx
 |const c=>cases hx;rfl
 |global g=>cases hx;rfl
 |func f=>cases hx;rfl
theorem lL.Fg{n:Nat}{bI o:mI}{a:Act}(h:lL n bI o a):∀{xs:List Operand} {vs:List Value},Fg bI o xs=some vs->xs.map a.eval=vs
 | [],vs,hx=>by cases hx;rfl
 |x::r,vs,hx=>by
  simp only[Den.Fg] at hx;cases h1:Den.rd bI o x with
  |none=>simp[h1] at hx
  |some v=>
   cases h2:Den.Fg bI o r with
   |none=>simp[h1,h2] at hx
   |some us=>simp[h1,h2] at hx;subst hx;simp[h.rd h1,lL.Fg h h2]
def VF(n:Nat)(dst:Option Nat)(v:Value)(o bI:mI)(K:mI->Prop):Prop:=match dst with
 |none=>K bI
 |some d=>cond (Nat.blt d n) (match lV o d with
  |none=>K ((d,v)::bI)
  |some _=>False) False
theorem wZ{n:Nat}{dst:Option Nat}{v:Value}{o bI:mI}{K:mI->Prop}(h:VF n dst v o bI K):
  ∃fZ,K fZ/\∀a,lL n bI o a->lL n fZ o (a.put dst v):=by
 cases dst with
 |none=>exact⟨bI,h,λa ha=>ha⟩
 |some d=>
  simp only[VF] at h;cases hb:Nat.blt d n with
  |false=>rw[hb] at h;exact h.elim
  |true=>
   rw[hb] at h;cases hl:lV o d with
   |some u=>rw[hl] at h;exact h.elim
   |none=>
    rw[hl] at h;have hd:d<n:=by simpa using hb
    refine⟨_,h,λa ha=>⟨by simp[Act.put,ha.size],?_,?_,ha.ur⟩⟩
    ·intro t u hu;simp only[lV] at hu;cases he:Nat.beq d t with
     |true=>rw[he] at hu;have:d=t:=IY he;subst this;cases hu;simp[Act.put,ha.size,hd]
     |false=>rw[he] at hu;have gK:d≠t:=Nat.ne_of_beq_eq_false he;have:=ha.bI t u hu;simpa [Act.put,Array.getElem?_setIfInBounds_ne gK] using this
    ·intro t u hu;have gK:d≠t:=by rintro rfl;rw[hl] at hu;cases hu
     have:=ha.o t u hu;simpa [Act.put,Array.getElem?_setIfInBounds_ne gK] using this
def aC(p:cR)(K:Addr->Prop):Prop:=match p with
 |some a=>K a
 |none=>False
def aR(b:cR)(c l size:Nat):cR:=if c=l then b else b.map (·.add (l*size))
def nilV(v:Value)(K:Value->Prop):Prop:=match v with
 | .func (.func _) _ _=>K v
 |_=>False
def oQ(op:BinOp)(k:IntKind)(x y:Int):Int:=
 let a:=BitVec.ofInt k.bits x
 let b:=BitVec.ofInt k.bits y
 match op with
 | .and=>k.wrap (a &&& b).toNat
 | .or=>k.wrap (a |||b).toNat
 | .xor=>k.wrap (a^^^b).toNat
 |_=>k.wrap (a &&& ~~~b).toNat
def zC(P:Program):List Field->Nat->Bool
 | [],_=>true
 |f::r,i=>!(f.name== "_") && Nat.beq f.offset i && (match P.underlying f.type with
  |some (.int _)=>true
  |_=>false) && zC P r (i+1)
def FK:List Value->List Value->Option Bool
 | [],[]=>some true
 | .int k a::r,.int k' b::s=>match decEq k k' with
  | .isTrue _=>match FK r s with
   |some e=>some ((a==b) && e)
   |none=>none
  | .isFalse _=>none
 |_,_=>none
def xm(P:Program)(t:TypeId)(xs ys:Array Value)(K:Bool->Prop):Prop:=
 match P.underlying t with
 |some (.struct fs)=>cond (!P.stoodInHeld t && !P.eqGuardType P.depth t && zC P fs.toList 0 && Nat.beq fs.size xs.size && Nat.beq fs.size ys.size) (nL (FK xs.toList ys.toList) K) False
 |_=>False
def Rs(P:Program)(op:BinOp)(t:TypeId)(x y:Value)(K:Value->Prop):Prop:=
 match x,y with
 | .int k a,.int k' b=>
  match op with
  | .shl=>0<=b/\K (.int k (k.wrap (a*2^(min b.toNat k.bits))))
  | .shr=>0<=b/\K (.int k (a.fdiv (2^(min b.toNat k.bits))))
  |op=>match decEq k k' with
   | .isFalse _=>False
   | .isTrue _=>match op with
    | .add=>K (.int k (k.wrap (a+b)))
    | .sub=>K (.int k (k.wrap (a-b)))
    | .mul=>K (.int k (k.wrap (a*b)))
    | .quo=>¬b=0/\K (.int k (k.wrap (a.tdiv b)))
    | .rem=>¬b=0/\K (.int k (a.tmod b))
    | .and=>K (.int k (oQ .and k a b))
    | .or=>K (.int k (oQ .or k a b))
    | .xor=>K (.int k (oQ .xor k a b))
    | .andNot=>K (.int k (oQ .andNot k a b))
    | .eql=>K (.bool (a==b))
    | .neq=>K (.bool (a !=b))
    | .lss=>K (.bool (decide (a<b)))
    | .leq=>K (.bool (decide (a<=b)))
    | .gtr=>K (.bool (decide (a>b)))
    | .geq=>K (.bool (decide (a>=b)))
    |_=>False
 | .bool a,.bool b=>match op,P.underlying t with
  | .eql,some .bool=>K (.bool (a==b))
  | .neq,some .bool=>K (.bool (!(a==b)))
  |_,_=>False
 | .string a,.string b=>match op with
  | .eql=>K (.bool (a.toList==b.toList))
  | .neq=>K (.bool (!(a.toList==b.toList)))
  |_=>False
 | .pointer a,.pointer none=>match op,P.underlying t with
  | .eql,some (.pointer _)=>K (.bool a.isNone)
  | .neq,some (.pointer _)=>K (.bool (!a.isNone))
  |_,_=>False
 | .slice a _ _,.slice none _ _=>match op,P.underlying t with
  | .eql,some (.slice _)=>K (.bool a.isNone)
  | .neq,some (.slice _)=>K (.bool (!a.isNone))
  |_,_=>False
 | .map a,.map none=>match op,P.underlying t with
  | .eql,some (.map _ _)=>K (.bool a.isNone)
  | .neq,some (.map _ _)=>K (.bool (!a.isNone))
  |_,_=>False
 | .agg xs,.agg ys=>match op with
  | .eql=>xm P t xs ys λb=>K (.bool b)
  | .neq=>xm P t xs ys λb=>K (.bool (!b))
  |_=>False
 |_,_=>False
def unD(op:UnOp)(x:Value)(K:Value->Prop):Prop:=
 match op,x with
 | .not,.bool b=>K (.bool (!b))
 | .neg,.int k n=>K (.int k (k.wrap (0-n)))
 | .xor,.int k n=>K (.int k (oQ .xor k (if k.signed then-1 else k.max) n))
 |_,_=>False
def DT(P:Program)(t:TypeId)(K:Nat->Prop):Prop:=match P.info? t with
 |some i=>K i.size
 |none=>False
def CG(y:Nat)(v:Option Value)(d:Nat)(K:Nat->Prop):Prop:=match v with
 |none=>K d
 |some (.int _ i)=>(0<=i/\i<=(y:Int))/\K i.toNat
 |some _=>False
def onO(bI o:mI)(x:Option Operand)(K:Option Value->Prop):Prop:=match x with
 |none=>K none
 |some x=>nL (rd bI o x) λv=>K (some v)
def wc(P:Program)(t:TypeId)(cs:Array Value)(off:Nat)(K:Value->Prop):Prop:=match P.underlying t with
 |some (.struct _)=>DT P t λn=>K (.agg (cs.extract off (off+n)))
 |some (.array _ _)=>DT P t λn=>K (.agg (cs.extract off (off+n)))
 |some _=>match cs[off]? with
  |some v=>K v
  |none=>False
 |none=>False
def Ao(P:Program)(t:TypeId)(K:Value->Prop):Prop:=match P.info? t with
 |some i=>match i.zero with
  |some z=>K z
  |none=>False
 |none=>False
def isConst:Operand->Bool
 | .const _=>true
 |_=>false
def nj(P:Program)(t:TypeId)(x:Value)(ix:Operand)(i:Int)(K:Value->Prop):Prop:=
 match P.underlying t,x with
 |some (.array len elem),.agg cs=>cond (isConst ix) ((0<=i/\i<(len:Int))/\DT P elem λn=>wc P elem cs (i.toNat*n) K)
   ((0<=i/\i<(len:Int))/\DT P elem λm=>cond (Nat.beq m 1) (match P.underlying elem with
    |some (.int k)=>∃n:Int,cs[i.toNat]? =some (.int k n)/\K (.int k n)
    |_=>False) False)
 |some .string,.string s=>0<=i/\∃b:UInt8,s[i.toNat]? =some b/\K (.int .u8 b.toNat)
 |_,_=>False
def Et(P:Program)(t:TypeId)(f:Nat):Option Field:=match P.underlying t with
 |some (.struct fs)=>fs[f]?
 |_=>none
def lenD(P:Program)(t:TypeId)(x:Value)(K:Value->Prop):Prop:=match P.underlying t,x with
 |some (.slice _),.slice _ n _=>K (.int .i64 (n:Int))
 |some .string,.string s=>K (.int .i64 (s.size:Int))
 |some (.array n _),_=>K (.int .i64 (n:Int))
 |_,_=>False
def isLen(P:Program)(t:TypeId):Bool:=match P.underlying t with
 |some (.slice _)=>true
 |some .string=>true
 |some (.array _ _)=>true
 |_=>false
def MM(x y:Int):Int:=if y<x then y else x
def CE(x y:Int):Int:=if y>x then y else x
def minD(mx:Bool):Value->List Value->(Value->Prop)->Prop
 |x,[],K=>K x
 | .int k x,.int _ y::r,K=>minD mx (.int k (cond mx (CE x y) (MM x y))) r K
 |_,_,_=>False
def Wu(P:Program)(bI o:mI)(op:Op)(K:Value->Prop):Prop:=
 match op with
 | .move x=>nL (rd bI o x) K
 | .assign x=>nL (rd bI o x) K
 | .pick c a b=>nL (rd bI o c) λv=>match v with
  | .bool t=>cond t (nL (rd bI o a) K) (nL (rd bI o b) K)
  |_=>False
 | .nilCheck x=>nL (rd bI o x) λv=>match v with
  | .pointer p=>aC p λa=>K (.pointer (some a))
  |v=>nilV v K
 | .binOp bop t x y _=>nL (rd bI o x) λu=>nL (rd bI o y) λv=>Rs P bop t u v K
 | .unOp uop _ x=>nL (rd bI o x) λu=>unD uop u K
 | .convert src dst x=>nL (rd bI o x) λu=>match P.underlying src,P.underlying dst,u with
  |some _,some (.int k),.int _ n=>K (.int k (k.wrap n))
  |_,_,_=>False
 | .fieldAddr s x f=>nL (rd bI o x) λu=>match u with
  | .pointer p=>aC p λa=>nL (Et P s f) λfd=>DT P fd.type λn=>cond (Nat.beq n 0) False (K (.pointer (some (a.add fd.offset))))
  |_=>False
 | .field t x f=>nL (rd bI o x) λu=>match u with
  | .agg cs=>nL (Et P t f) λfd=>wc P fd.type cs fd.offset K
  |_=>False
 | .indexAddr t x ix=>nL (rd bI o x) λu=>nL (rd bI o ix) λv=>match v with
  | .int _ i=>match P.underlying t,u with
   |some (.slice e),.slice b l _=>(0<=i/\i<(l:Int))/\aC b λa=>DT P e λn=>K (.pointer (some (a.add (i.toNat*n))))
   |some (.array len e),.pointer p=>(0<=i/\i<(len:Int))/\aC p λa=>DT P e λn=>K (.pointer (some (a.add (i.toNat*n))))
   |_,_=>False
  |_=>False
 | .index t x ix=>nL (rd bI o x) λu=>nL (rd bI o ix) λv=>match v with
  | .int _ i=>nj P t u ix i K
  |_=>False
 | .extract x i=>nL (rd bI o x) λu=>match u with
  | .tuple vs=>nL vs.toList[i]? K
  |_=>False
 | .slice t x lo hi none=>nL (rd bI o x) λu=>onO bI o lo λvl=>onO bI o hi λvh=>match P.underlying t,u with
  |some (.slice e),.slice b l c=>CG c vh l λh=>CG h vl 0 λl'=>DT P e λn=>K (.slice (aR b c l' n) (h-l') (c-l'))
  |_,_=>False
 | .slice t x lo (some hi) (some mx)=>nL (rd bI o x) λu=>onO bI o lo λvl=>nL (rd bI o hi) λvh=>nL (rd bI o mx) λvm=>match P.underlying t,u with
  |some (.slice e),.slice b _ c=>CG c (some vm) 0 λm=>CG m (some vh) 0 λh=>CG h vl 0 λl'=>DT P e λn=>K (.slice (aR b m l' n) (h-l') (m-l'))
  |_,_=>False
 | .build t parts=>nL (Fg bI o (parts.toList.map (·.2))) λvs=>nL (P.built t ((parts.toList.map (·.1)).zip vs)) λcells=>K (.agg cells)
 | .makeFunc fn first captured=>nL (Fg bI o first.toList) λf=>nL (Fg bI o captured.toList) λc=>K (.func fn f.toArray c.toArray)
 | .call {callee:=.builtin .len,args,argTypes}=>match args.toList,argTypes.toList with
  | [x],[t]=>nL (rd bI o x) λu=>lenD P t u K
  |_,_=>False
 | .call {callee:=.builtin .cap,args,argTypes}=>match args.toList,argTypes.toList with
  | [x],[t]=>nL (rd bI o x) λu=>match P.underlying t,u with
   |some (.slice _),.slice _ _ c=>K (.int .i64 (c:Int))
   |_,_=>False
  |_,_=>False
 | .call {callee:=.builtin .min,args,..}=>nL (Fg bI o args.toList) λvs=>match vs with
  |v::r=>minD false v r K
  | []=>False
 | .call {callee:=.builtin .max,args,..}=>nL (Fg bI o args.toList) λvs=>match vs with
  |v::r=>minD true v r K
  | []=>False
 |_=>False
def isPure(P:Program):Op->Bool
 | .move _| .assign _| .pick .. | .nilCheck _| .binOp .. | .unOp .. | .fieldAddr .. | .field .. | .indexAddr .. | .index .. | .extract .. | .build .. | .makeFunc ..=>true
 | .slice t _ _ _ none=>match P.underlying t with
  |some (.slice _)=>true
  |_=>false
 | .slice t _ _ (some _) (some _)=>match P.underlying t with
  |some (.slice _)=>true
  |_=>false
 | .convert src dst _=>match P.underlying src,P.underlying dst with
  |some (.int _),some (.int _)=>true
  |_,_=>false
 | .call {callee:=.builtin .len,argTypes,..}=>match argTypes.toList with
  | [t]=>isLen P t
  |_=>false
 | .call {callee:=.builtin .cap,..}=>true
 | .call {callee:=.builtin .min,..}=>true
 | .call {callee:=.builtin .max,..}=>true
 |_=>false
theorem yZ{P:Program}{t:TypeId}{i:TypeInfo}(h:P.info? t=some i)(w:aH):(sizeOf t).run P w=.ok i.size w:=by
 simp[sizeOf,typeInfo,h]
theorem rE{P:Program}{t:TypeId}{K:Nat->Prop}(h:DT P t K):∃n,K n/\∀w,(sizeOf t).run P w=.ok n w:=by
 unfold DT at h;cases hi:P.info? t with
 |none=>rw[hi] at h;exact h.elim
 |some i=>rw[hi] at h;exact⟨i.size,h,yZ hi⟩
theorem Pa{P:Program}(d:Nat)(w:aH):∀(fs:List Field) (i:Nat) (xs ys:Array Value) (e:Bool),zC P fs i=true->FK (xs.toList.drop i) (ys.toList.drop i)=some e->
  xs.size=i+fs.length->(Op.eqFields (d+1) xs ys fs).run P w=.ok e w
 | [],i,xs,ys,e,_,he,hx=>by
  have h1:xs.toList.drop i=[]:=by simp at hx;simp;omega
  rw[h1] at he;cases hy:ys.toList.drop i with
  |nil=>rw[hy] at he;simp[FK] at he;subst he;simp[Op.eqFields]
  |cons y r=>rw[hy] at he;simp[FK] at he
 |f::fs,i,xs,ys,e,hp,he,hx=>by
  simp only[zC,sV] at hp;obtain⟨⟨⟨h1,h2⟩,h3⟩,h4⟩:=hp;have hoff:f.offset=i:=IY h2;simp only[mE] at hx;have hix:i<xs.toList.length:=by simp;omega
  have hdx:xs.toList.drop i=xs.toList[i]::xs.toList.drop (i+1):=ly4 hix;rw[hdx] at he;cases hdy:ys.toList.drop i with
  |nil=>rw[hdy] at he;cases xs.toList[i]<;>simp[FK] at he
  |cons y r=>
   have hiy:i<ys.toList.length:=by
    rcases Nat.lt_or_ge i ys.toList.length with h|h
    ·exact h
    ·rw[List.drop_eq_nil_of_le h] at hdy;cases hdy
   have hdy':=ly4 hiy;rw[hdy] at hdy';simp only[List.cons.injEq] at hdy';obtain⟨hy0,hyr⟩:=hdy';rw[hdy,hyr] at he;have hu:∃k',P.underlying f.type=some (.int k'):=by
    cases hu:P.underlying f.type with
    |none=>simp[hu] at h3
    |some dd=>cases dd<;>simp[hu] at h3;exact⟨_,rfl⟩
   obtain⟨k',hu⟩:=hu;generalize hxv:xs.toList[i]=xv at he;cases xv<;>try (simp[FK] at he;done)
   rename_i k a
   cases y<;>try (simp[FK] at he;done)
   rename_i k2 b
   simp only[FK] at he;cases hd:decEq k k2 with
   |isFalse gK=>rw[hd] at he;cases he
   |isTrue hk=>
    subst hk;rw[hd] at he;cases hr:FK (xs.toList.drop (i+1)) (ys.toList.drop (i+1)) with
    |none=>simp[hr] at he
    |some e'=>
     simp[hr] at he;subst he
     have hname:f.name≠ "_" :=by simpa using h1
     have Vg:∀w,(isAgg f.type).run P w=.ok false w:=λw=>by simp[isAgg,run_underlying hu]
     have ex:xs[i]? =some (.int k a):=by
      have:xs.toList[i]? =some (.int k a):=by rw[cM hix,hxv]
      simpa using this
     have ey:ys[i]? =some (.int k b):=by
      have:ys.toList[i]? =some (.int k b):=by rw[cM hiy,<-hy0]
      simpa using this
     have px:∀w,(part f.type xs f.offset).run P w=.ok (.int k a) w:=λw=>by simp[part,Vg,hoff,ex]
     have py:∀w,(part f.type ys f.offset).run P w=.ok (.int k b) w:=λw=>by simp[part,Vg,hoff,ey]
     have ih:=Pa d w fs (i+1) xs ys e' (by simpa using h4) hr aB;have heq:(Op.equalIn (d+1) f.type (.int k a) (.int k b)).run P w=.ok (a==b) w:=by simp[Op.equalIn,run_underlying hu]
     simp only[Op.eqFields,hname,ne_eq,not_false_eq_true,if_true,Sem.run_bind,px,py,Result.andThen_ok,heq,Sem.run_ite];cases uk:(a==b) with
     |true=>simp[ih]
     |false=>simp
theorem qt{P:Program}{t:TypeId}{xs ys:Array Value}{K:Bool->Prop}(h:xm P t xs ys K):
  ∃b,K b/\P.eqGuardType P.depth t=false/\∀w,(Op.equal t (.agg xs) (.agg ys)).run P w=.ok b w:=by
 unfold xm at h;cases hu:P.underlying t with
 |none=>rw[hu] at h;exact h.elim
 |some d=>
  cases d<;>try (rw[hu] at h;exact h.elim)
  rename_i fs
  rw[hu] at h;simp only at h;cases hc:(!P.stoodInHeld t && !P.eqGuardType P.depth t && zC P fs.toList 0 && Nat.beq fs.size xs.size && Nat.beq fs.size ys.size) with
  |false=>rw[hc] at h;exact h.elim
  |true=>
   rw[hc] at h;obtain⟨b,hb,hK⟩:=aV h;simp only[sV,Bool.not_eq_true'] at hc;obtain⟨⟨⟨⟨h1,h2⟩,h3⟩,h4⟩,h5⟩:=hc;refine⟨b,hK,h2,λw=>?_⟩;have hfo:P.fieldsOf t=fs:=by simp[Program.fieldsOf,hu]
   have hs:xs.size=0+fs.toList.length:=by have:=IY h4;simp;omega
   rw[Op.equal,show Op.maxDepth=9999+1 from rfl,run_equalIn_struct w 9999 t xs ys (by rw[hfo];exact hu) h1,hfo];exact Pa 9998 w fs.toList 0 xs ys b h3 (by simpa using hb) hs
theorem eqBool{P:Program}(d:Nat)(w:aH){t:TypeId}(hu:P.underlying t=some .bool)(a b:Bool):(Op.equalIn (d+1) t (.bool a) (.bool b)).run P w=.ok (a==b) w:=by
 simp[Op.equalIn,run_underlying hu]
theorem eqPtr{P:Program}(d:Nat)(w:aH){t e:TypeId}(hu:P.underlying t=some (.pointer e))(a:cR):(Op.equalIn (d+1) t (.pointer a) (.pointer none)).run P w=.ok a.isNone w:=by
 cases a<;>simp[Op.equalIn,run_underlying hu]
theorem eqSl{P:Program}(d:Nat)(w:aH){t e:TypeId}(hu:P.underlying t=some (.slice e))(a:cR)(l c l' c':Nat):(Op.equalIn (d+1) t (.slice a l c) (.slice none l' c')).run P w=.ok a.isNone w:=by
 cases a<;>simp[Op.equalIn,run_underlying hu]
theorem eqMap{P:Program}(d:Nat)(w:aH){t k e:TypeId}(hu:P.underlying t=some (.map k e))(a:Option Nat):(Op.equalIn (d+1) t (.map a) (.map none)).run P w=.ok a.isNone w:=by
 cases a<;>simp[Op.equalIn,run_underlying hu]
theorem WE{P:Program}(w:aH){op:BinOp}{t:TypeId}{x y:Value}{ox oy:Operand}{e:Bool}(h1:(eqGuard op t ox oy x y).run P w=.ok () w)(h2:(Op.equalIn 10000 t x y).run P w=.ok e w)
  (h3:binOp op t x y=(do pure (.bool (<-Op.equal t x y)))):(do eqGuard op t ox oy x y;binOp op t x y:Sem Value).run P w=.ok (.bool e) w:=by
 simp[h1,h3,Op.equal,Op.maxDepth,h2]
theorem WD{P:Program}(w:aH){op:BinOp}{t:TypeId}{x y:Value}{ox oy:Operand}{e:Bool}(h1:(eqGuard op t ox oy x y).run P w=.ok () w)(h2:(Op.equalIn 10000 t x y).run P w=.ok e w)
  (h3:binOp op t x y=(do pure (.bool (!(<-Op.equal t x y))))):(do eqGuard op t ox oy x y;binOp op t x y:Sem Value).run P w=.ok (.bool (!e)) w:=by
 simp[h1,h3,Op.equal,Op.maxDepth,h2]
theorem binD_spec{P:Program}{op:BinOp}{t:TypeId}{x y:Value}{K:Value->Prop}(h:Rs P op t x y K):
  ∃v,K v/\∀(w:aH) (ox oy:Operand),(do eqGuard op t ox oy x y;binOp op t x y:Sem Value).run P w=.ok v w:=by
 cases x<;>cases y<;>try (exact h.elim)
 case bool.bool a b=>
  simp only[Rs] at h;cases op<;>try (exact h.elim)
  all_goals
   cases hu:P.underlying t with
   |none=>simp[hu] at h
   |some d=>
    cases d<;>try (simp[hu] at h;done)
    simp only[hu] at h;refine⟨_,h,λw ox oy=>?_⟩
    first
     |exact WE w (by simp[eqGuard]) (eqBool 9999 w hu _ _) rfl
     |exact WD w (by simp[eqGuard]) (eqBool 9999 w hu _ _) rfl
 case int.int k a k' b=>
  simp only[Rs] at h;cases op
  case shl=>exact⟨_,h.2,λw ox oy=>by simp[eqGuard,binOp,Op.shift,Int.not_lt.2 h.1]⟩
  case shr=>exact⟨_,h.2,λw ox oy=>by simp[eqGuard,binOp,Op.shift,Int.not_lt.2 h.1]⟩
  all_goals
   cases hd:decEq k k' with
   |isFalse gK=>rw[hd] at h;exact h.elim
   |isTrue hk=>
    subst hk;rw[hd] at h;simp only at h
    first
     |exact⟨_,h,λw ox oy=>by simp[eqGuard,binOp,Op.intArith,Op.intBits,Op.intCmp,oQ]⟩
     |exact⟨_,h.2,λw ox oy=>by simp[eqGuard,binOp,Op.intDiv,h.1]⟩
     |exact h.elim
 case string.string a b=>
  simp only[Rs] at h;cases op<;>try (exact h.elim)
  all_goals exact⟨_,h,λw ox oy=>by simp[eqGuard,binOp,Op.stringOp]⟩
 case pointer.pointer a b=>
  cases b with
  |some b=>exact h.elim
  |none=>
   simp only[Rs] at h;cases op<;>try (exact h.elim)
   all_goals
    cases hu:P.underlying t with
    |none=>simp[hu] at h
    |some d=>
     cases d<;>try (simp[hu] at h;done)
     simp only[hu] at h;refine⟨_,h,λw ox oy=>?_⟩
     first
      |exact WE w (by simp[eqGuard]) (eqPtr 9999 w hu _) rfl
      |exact WD w (by simp[eqGuard]) (eqPtr 9999 w hu _) rfl
 case slice.slice a l c b l' c'=>
  cases b with
  |some b=>exact h.elim
  |none=>
   simp only[Rs] at h;cases op<;>try (exact h.elim)
   all_goals
    cases hu:P.underlying t with
    |none=>simp[hu] at h
    |some d=>
     cases d<;>try (simp[hu] at h;done)
     simp only[hu] at h;refine⟨_,h,λw ox oy=>?_⟩
     first
      |exact WE w (by simp[eqGuard]) (eqSl 9999 w hu _ _ _ _ _) rfl
      |exact WD w (by simp[eqGuard]) (eqSl 9999 w hu _ _ _ _ _) rfl
 case map.map a b=>
  cases b with
  |some b=>exact h.elim
  |none=>
   simp only[Rs] at h;cases op<;>try (exact h.elim)
   all_goals
    cases hu:P.underlying t with
    |none=>simp[hu] at h
    |some d=>
     cases d<;>try (simp[hu] at h;done)
     simp only[hu] at h;refine⟨_,h,λw ox oy=>?_⟩
     first
      |exact WE w (by simp[eqGuard]) (eqMap 9999 w hu _) rfl
      |exact WD w (by simp[eqGuard]) (eqMap 9999 w hu _) rfl
 case agg.agg xs ys=>
  simp only[Rs] at h;cases op<;>try (exact h.elim)
  all_goals
   obtain⟨b,hb,hg,hr⟩:=qt h;refine⟨_,hb,λw ox oy=>?_⟩
   first
    |exact WE w (by simp[eqGuard,hg]) (hr w) rfl
    |exact WD w (by simp[eqGuard,hg]) (hr w) rfl
theorem unD_spec{P:Program}{op:UnOp}{x:Value}{K:Value->Prop}(h:unD op x K):∃v,K v/\∀w,(Op.unary op x).run P w=.ok v w:=by
 cases op<;>cases x<;>try (exact h.elim)
 all_goals exact⟨_,h,λw=>by simp[Op.unary,Op.intArith,Op.intBits,oQ]⟩
theorem Ji{P:Program}{t:TypeId}{cs:Array Value}{off:Nat}{K:Value->Prop}(h:wc P t cs off K):
  ∃v,K v/\∀w,(part t cs off).run P w=.ok v w:=by
 unfold wc at h;cases hu:P.underlying t with
 |none=>rw[hu] at h;exact h.elim
 |some d=>
  rw[hu] at h
  by_cases hs:(∃fs,d=.struct fs)\/(∃n e,d=.array n e)
  ·have Vg:∀w,(isAgg t).run P w=.ok true w:=λw=>by
    rcases hs with⟨fs,rfl⟩|⟨n,e,rfl⟩<;>simp[isAgg,run_underlying hu]
   have h':DT P t λn=>K (.agg (cs.extract off (off+n))):=by rcases hs with⟨fs,rfl⟩|⟨n,e,rfl⟩<;>exact h
   obtain⟨n,hK,hn⟩:=rE h';exact⟨_,hK,λw=>by simp[part,Vg,hn]⟩
  ·have Vg:∀w,(isAgg t).run P w=.ok false w:=λw=>by
    cases d<;>simp[isAgg,run_underlying hu]<;>simp_all
   cases hc:cs[off]? with
   |none=>cases d<;>simp[hc] at h<;>simp_all
   |some v=>refine⟨v,?_,λw=>by simp[part,Vg,hc]⟩;cases d<;>simp[hc] at h<;>first|exact h|simp_all
theorem zD{P:Program}{y:Nat}{v:Option Value}{d:Nat}{K:Nat->Prop}(h:CG y v d K):
  ∃m,K m/\((v=none/\m=d)\/∃u,v=some u/\m<=y/\∀w code,(Instr.sliceBound u y code).run P w=.ok m w):=by
 cases v with
 |none=>exact⟨d,h,.inl ⟨rfl,rfl⟩⟩
 |some u=>
  cases u<;>try (exact h.elim)
  rename_i k i
  obtain⟨⟨h0,h1⟩,hK⟩:=h;refine⟨_,hK,.inr ⟨_,rfl,aB,λw code=>by simp[Instr.sliceBound,asIntOf,h0,h1]⟩⟩
theorem Hu{n:Nat}{bI o:mI}{a:Act}(hv:lL n bI o a){x:Option Operand}{K:Option Value->Prop}(h:onO bI o x K):K (x.map a.eval):=by
 cases x with
 |none=>exact h
 |some x=>obtain⟨v,hx,hK⟩:=aV h;rw[Option.map_some,hv.rd hx];exact hK
theorem ZL{P:Program}(mx:Bool):∀{r:List Value} {x:Value} {K:Value->Prop},minD mx x r K->
  ∃v,K v/\∀w,(r.foldlM (if mx then Builtin.max2 else Builtin.min2) x).run P w=.ok v w
 | [],x,K,h=>⟨x,by cases x<;>exact h,λw=>by simp⟩
 |y::r,x,K,h=>by
  cases x<;>cases y<;>try (exact h.elim)
  rename_i k a k' b
  obtain⟨v,hK,hr⟩:=ZL mx (r:=r) (x:=.int k (cond mx (CE a b) (MM a b))) h;refine⟨v,hK,λw=>?_⟩;have:=hr w;cases mx<;>simpa [List.foldlM,Builtin.max2,Builtin.min2,MM,CE] using this
theorem aq{P:Program}{t:TypeId}{x:Value}{ix:Operand}{k:IntKind}{i:Int}{K:Value->Prop}(h:nj P t x ix i K):
  ∃v,K v/\∀w,(Instr.index t x (.int k i)).run P w=.ok v w:=by
 unfold nj at h;cases hu:P.underlying t with
 |none=>rw[hu] at h;exact h.elim
 |some d=>
  rw[hu] at h;cases d<;>try (exact h.elim)
  case array len elem=>
   cases x<;>try (exact h.elim)
   rename_i cs
   simp only at h;cases hc:isConst ix with
   |true=>rw[hc] at h;obtain⟨hb,h⟩:=h;obtain⟨n,hn,hs⟩:=rE h;obtain⟨v,hK,hp⟩:=Ji hn;exact⟨v,hK,λw=>by simp[Instr.index,asIntOf,run_underlying hu,hb,hs,hp]⟩
   |false=>
    rw[hc] at h;obtain⟨hb,h⟩:=h;obtain⟨m,h,hm⟩:=rE h;cases ua:Nat.beq m 1 with
    |false=>rw[ua] at h;exact h.elim
    |true=>
     rw[ua] at h;have:m=1:=IY ua;subst this;cases he:P.underlying elem with
     |none=>rw[he] at h;exact h.elim
     |some de=>
      rw[he] at h;cases de<;>try (exact h.elim)
      rename_i k'
      obtain⟨n,hn,hK⟩:=h;refine⟨_,hK,λw=>?_⟩;have Vg:∀w,(isAgg elem).run P w=.ok false w:=λw=>by simp[isAgg,run_underlying he]
      simp[Instr.index,asIntOf,run_underlying hu,hb,hm,part,Vg,hn]
  case string=>
   cases x<;>try (exact h.elim)
   rename_i s
   obtain⟨h0,b,hb,hK⟩:=h;exact⟨_,hK,λw=>by simp[Instr.index,asIntOf,run_underlying hu,h0,hb]⟩
theorem XU{P:Program}{t:TypeId}{f:Nat}{fd:Field}(h:Et P t f=some fd):∃fs,P.underlying t=some (.struct fs)/\fs[f]? =some fd:=by
 unfold Et at h;cases hu:P.underlying t with
 |none=>rw[hu] at h;cases h
 |some d=>
  rw[hu] at h;cases d<;>try (cases h;done)
  exact⟨_,rfl,h⟩
theorem pF{p:cR}{K:Addr->Prop}(h:aC p K):∃a,p=some a/\K a:=by
 cases p with
 |none=>exact h.elim
 |some a=>exact⟨a,rfl,h⟩
theorem qh{P:Program}{t:TypeId}{u:Value}{vl vh:Option Value}{K:Value->Prop}
  (h:match P.underlying t,u with
   |some (.slice e),.slice b l c=>CG c vh l λh=>CG h vl 0 λl'=>DT P e λn=>K (.slice (aR b c l' n) (h-l') (c-l'))
   |_,_=>False):∃v,K v/\∀w,(Instr.sliceAt t u vl vh none).run P w=.ok v w:=by
 cases hu:P.underlying t with
 |none=>simp[hu] at h
 |some d=>
  cases d<;>try (simp[hu] at h;done)
  rename_i e
  cases u<;>try (simp[hu] at h;done)
  rename_i b l c
  simp only[hu] at h;obtain⟨hh,h1,UP⟩:=zD (P:=P) h;obtain⟨ll,h2,PQ⟩:=zD (P:=P) h1;obtain⟨n,hK,hn⟩:=rE h2;refine⟨_,hK,λw=>?_⟩;have hb:∀w,(Instr.sliceBounds true l c vl vh none).run P w=.ok (ll,hh,c) w:=λw=>by
   rcases UP with⟨rfl,rfl⟩|⟨uh,rfl,_,hr1⟩<;>rcases PQ with⟨rfl,rfl⟩|⟨ul,rfl,_,YI⟩<;>simp[Instr.sliceBounds, *]
  simp[Instr.sliceAt,Instr.slice,run_underlying hu,hb,hn,aR]
theorem Zy{P:Program}{t:TypeId}{u:Value}{vl:Option Value}{vh vm:Value}{K:Value->Prop}
  (h:match P.underlying t,u with
   |some (.slice e),.slice b _ c=>CG c (some vm) 0 λm=>CG m (some vh) 0 λh=>CG h vl 0 λl'=>DT P e λn=>K (.slice (aR b m l' n) (h-l') (m-l'))
   |_,_=>False):∃v,K v/\∀w,(Instr.sliceAt t u vl (some vh) (some vm)).run P w=.ok v w:=by
 cases hu:P.underlying t with
 |none=>simp[hu] at h
 |some d=>
  cases d<;>try (simp[hu] at h;done)
  rename_i e
  cases u<;>try (simp[hu] at h;done)
  rename_i b l c
  simp only[hu] at h;obtain⟨mm,h0,hb0⟩:=zD (P:=P) h;obtain⟨hh,h1,UP⟩:=zD (P:=P) h0;obtain⟨ll,h2,PQ⟩:=zD (P:=P) h1;obtain⟨n,hK,hn⟩:=rE h2;refine⟨_,hK,λw=>?_⟩;have hb:∀w,(Instr.sliceBounds true l c vl (some vh) (some vm)).run P w=.ok (ll,hh,mm) w:=λw=>by
   rcases hb0 with⟨h3,_⟩|⟨u0,h3,_,hr0⟩
   ·cases h3
   ·cases h3;rcases UP with⟨h4,_⟩|⟨u1,h4,_,hr1⟩
    ·cases h4
    ·cases h4;rcases PQ with⟨rfl,rfl⟩|⟨ul,rfl,_,YI⟩<;>simp[Instr.sliceBounds, *]
  simp[Instr.sliceAt,Instr.slice,run_underlying hu,hb,hn,aR]
theorem fV{P:Program}{ρ:Operand->Value}{b:Builtin}{args:Array Operand}{argTypes:Array TypeId}{ty:TypeId}{dst pos after guard}(w:aH){v:Value}{w':aH}
  (hb:(builtin b argTypes ty (args.map λ| .const _=>true|_=>false) (args.map ρ)).run P w=.ok (.value v) w'):
  (execOp ρ {dst,op:=.call {callee:=.builtin b,args,argTypes},type:=ty,pos,after,guard}).run P w=.ok (.value v) w':=by
 unfold execOp;simp only[resolve,invoke,Sem.run_bind,Sem.run_pure,Result.andThen_ok];exact hb
theorem TU{α β γ:Type}(f:β->γ):∀(l:List (α×β)) (vs:List γ),l.map (λp=>f p.2)=vs->(l.map λp=>(p.1,f p.2))=(l.map (·.1)).zip vs
 | [],vs,h=>by simp at h;subst h;rfl
 |p::l,vs,h=>by
  subst h;simp[TU f l _ rfl]
theorem Jg{P:Program}{n:Nat}{bI o:mI}{a:Act}(hv:lL n bI o a)(op:Oper){K:Value->Prop}(h:Wu P bI o op.op K):
  ∃v,K v/\∀w,(execOp a.eval op).run P w=.ok (.value v) w:=by
 obtain⟨dst,op,ty,pos,after,guard⟩:=op;cases op<;>simp only[Wu] at h<;>try (exact h.elim)
 case move x=>obtain⟨v,hx,hK⟩:=aV h;exact⟨v,hK,λw=>by simp[execOp,hv.rd hx]⟩
 case assign x=>obtain⟨v,hx,hK⟩:=aV h;exact⟨v,hK,λw=>by simp[execOp,hv.rd hx]⟩
 case pick c x y=>
  obtain⟨vc,hc,h⟩:=aV h;cases vc<;>try (exact h.elim)
  rename_i t
  cases t with
  |true=>obtain⟨v,hx,hK⟩:=aV h;exact⟨v,hK,λw=>by simp[execOp,hv.rd hx,hv.rd hc,asBool]⟩
  |false=>obtain⟨v,hx,hK⟩:=aV h;exact⟨v,hK,λw=>by simp[execOp,hv.rd hx,hv.rd hc,asBool]⟩
 case nilCheck x=>
  obtain⟨vx,hx,h⟩:=aV h;cases vx<;>try (exact h.elim)
  case pointer p=>obtain⟨ad,rfl,hK⟩:=pF h;exact⟨_,hK,λw=>by simp[execOp,hv.rd hx]⟩
  case func f a b=>
   cases f<;>try (exact h.elim)
   exact⟨_,h,λw=>by simp[execOp,hv.rd hx]⟩
 case binOp bop t x y yt=>
  obtain⟨vx,hx,h⟩:=aV h;obtain⟨vy,hy,h⟩:=aV h;obtain⟨v,hK,hr⟩:=binD_spec h;refine⟨v,hK,λw=>?_⟩;have:=hr w x y;unfold execOp;simp only[hv.rd hx,hv.rd hy];simp only[Sem.run_bind] at this ⊢;rw[this]
  rfl
 case unOp uop t x=>obtain⟨vx,hx,h⟩:=aV h;obtain⟨v,hK,hr⟩:=unD_spec (P:=P) h;exact⟨v,hK,λw=>by simp[execOp,hv.rd hx,hr]⟩
 case convert src d x=>
  obtain⟨vx,hx,h⟩:=aV h;cases hs:P.underlying src with
  |none=>simp[hs] at h
  |some ds=>
   cases hd:P.underlying d with
   |none=>simp[hs,hd] at h
   |some dd=>
    cases dd<;>try (simp[hs,hd] at h;done)
    cases vx<;>try (simp[hs,hd] at h;done)
    simp only[hs,hd] at h;exact⟨_,h,λw=>by simp[execOp,hv.rd hx,convert,run_underlying hs,run_underlying hd,Conv.intToInt]⟩
 case fieldAddr s x f=>
  obtain⟨vx,hx,h⟩:=aV h;cases vx<;>try (exact h.elim)
  rename_i p
  obtain⟨ad,rfl,h⟩:=pF h;obtain⟨fd,hf,h⟩:=aV h;obtain⟨fs,hu,hfd⟩:=XU hf;obtain⟨m,h,hm⟩:=rE h;cases hz:Nat.beq m 0 with
  |true=>rw[hz] at h;exact h.elim
  |false=>rw[hz] at h;have hm0:m≠0:=Nat.ne_of_beq_eq_false hz;exact⟨_,h,λw=>by simp[execOp,hv.rd hx,Instr.fieldAt,run_underlying hu,hfd,Instr.sureAddr,fieldPlace,hm,hm0]⟩
 case field t x f=>
  obtain⟨vx,hx,h⟩:=aV h;cases vx<;>try (exact h.elim)
  rename_i cs
  obtain⟨fd,hf,h⟩:=aV h;obtain⟨fs,hu,hfd⟩:=XU hf;obtain⟨v,hK,hp⟩:=Ji h;exact⟨v,hK,λw=>by simp[execOp,hv.rd hx,Instr.field,run_underlying hu,hfd,asAgg,hp]⟩
 case indexAddr t x ix=>
  obtain⟨vx,hx,h1⟩:=aV h;obtain⟨vi,hi,h2⟩:=aV h1;clear h h1;have h:=h2;clear h2;cases vi<;>try (exact h.elim)
  rename_i k i
  cases hu:P.underlying t with
  |none=>simp[hu] at h
  |some d=>
   cases d<;>try (simp[hu] at h;done)
   case slice e=>
    cases vx<;>try (simp[hu] at h;done)
    rename_i b l c
    simp only[hu] at h;obtain⟨hb,h3⟩:=h;obtain⟨ad,rfl,h4⟩:=pF h3;obtain⟨m,h5,hm⟩:=rE h4;exact⟨_,h5,λw=>by simp[execOp,hv.rd hx,hv.rd hi,Instr.indexAt,asIntOf,run_underlying hu,hb,hm]⟩
   case array len e=>
    cases vx<;>try (simp[hu] at h;done)
    rename_i p
    simp only[hu] at h;obtain⟨hb,h3⟩:=h;obtain⟨ad,rfl,h4⟩:=pF h3;obtain⟨m,h5,hm⟩:=rE h4;exact⟨_,h5,λw=>by simp[execOp,hv.rd hx,hv.rd hi,Instr.indexAt,asIntOf,run_underlying hu,Instr.sureAddr,hb,hm]⟩
 case index t x ix=>
  obtain⟨vx,hx,h⟩:=aV h;obtain⟨vi,hi,h⟩:=aV h;cases vi<;>try (exact h.elim)
  rename_i k i
  obtain⟨v,hK,hr⟩:=aq (k:=k) h;exact⟨v,hK,λw=>by simp[execOp,hv.rd hx,hv.rd hi,hr]⟩
 case extract x i=>
  obtain⟨vx,hx,h⟩:=aV h;cases vx<;>try (exact h.elim)
  rename_i vs
  obtain⟨v,hi,hK⟩:=aV h;have dJ:vs[i]? =some v:=by simpa using hi
  exact⟨v,hK,λw=>by simp[execOp,hv.rd hx,Instr.extract,dJ]⟩
 case slice t x lo hi mx=>
  cases mx with
  |some m=>
   cases hi with
   |none=>exact h.elim
   |some hi=>simp only at h;obtain⟨vx,hx,h⟩:=aV h;have h:=Hu hv h;obtain⟨vh,hh,h⟩:=aV h;obtain⟨vm,hm,h⟩:=aV h;obtain⟨v,hK,hr⟩:=Zy h;exact⟨v,hK,λw=>by simp[execOp,hv.rd hx,hv.rd hh,hv.rd hm,hr]⟩
  |none=>simp only at h;obtain⟨vx,hx,h⟩:=aV h;have h:=Hu hv (Hu hv h);obtain⟨v,hK,hr⟩:=qh h;exact⟨v,hK,λw=>by simp[execOp,hv.rd hx,hr]⟩
 case build t parts=>
  obtain⟨vs,Fk,h⟩:=aV h;obtain⟨cells,hc,hK⟩:=aV h;refine⟨_,hK,λw=>?_⟩;have he:(parts.map λ(i,x)=>(i,a.eval x)).toList=(parts.toList.map (·.1)).zip vs:=by rw[Array.toList_map];exact TU a.eval parts.toList vs (by rw[<-hv.Fg Fk];simp)
  have:=run_build (P:=P) w t (parts.map λ(i,x)=>(i,a.eval x)) cells (by rw[he];exact hc);unfold execOp;simp only[Sem.run_bind,this]
  rfl
 case makeFunc fn first captured=>
  obtain⟨fs,hf,h⟩:=aV h;obtain⟨cs,hc,hK⟩:=aV h;refine⟨_,hK,λw=>?_⟩;have e1:first.map a.eval=fs.toArray:=by apply Array.toList_inj.1;simpa using hv.Fg hf
  have e2:captured.map a.eval=cs.toArray:=by apply Array.toList_inj.1;simpa using hv.Fg hc
  simp[execOp,Instr.makeFunc,e1,e2]
 case call c=>
  obtain⟨callee,args,argTypes⟩:=c;cases callee<;>try (exact h.elim)
  rename_i b
  obtain⟨args⟩:=args;obtain⟨argTypes⟩:=argTypes;cases b<;>try (exact h.elim)
  case len=>
   match args,argTypes,h with
   | [x],[t],h=>
    obtain⟨vx,hx,h⟩:=aV h;unfold lenD at h;cases hu:P.underlying t with
    |none=>simp[hu] at h
    |some d=>
     cases d<;>try (simp[hu] at h;done)
     case string=>
      cases vx<;>try (simp[hu] at h;done)
      simp only[hu] at h;exact⟨_,h,λw=>fV w (by simp[builtin,Builtin.len_,run_underlying hu,hv.rd hx,goInt])⟩
     case slice=>
      cases vx<;>try (simp[hu] at h;done)
      simp only[hu] at h;exact⟨_,h,λw=>fV w (by simp[builtin,Builtin.len_,run_underlying hu,hv.rd hx,goInt])⟩
     case array=>simp only[hu] at h;exact⟨_,h,λw=>fV w (by simp[builtin,Builtin.len_,run_underlying hu,goInt])⟩
  case cap=>
   match args,argTypes,h with
   | [x],[t],h=>
    obtain⟨vx,hx,h⟩:=aV h;cases hu:P.underlying t with
    |none=>simp[hu] at h
    |some d=>
     cases d<;>try (simp[hu] at h;done)
     cases vx<;>try (simp[hu] at h;done)
     simp only[hu] at h;exact⟨_,h,λw=>fV w (by simp[builtin,Builtin.cap_,run_underlying hu,hv.rd hx,goInt])⟩
  case min=>
   obtain⟨vs,Fk,h⟩:=aV h;cases vs with
   |nil=>exact h.elim
   |cons v r=>obtain⟨u,hK,hr⟩:=ZL (P:=P) false h;have e:=hv.Fg Fk;refine⟨u,hK,λw=>fV w ?_⟩;have:=hr w;simp only[Bool.false_eq_true,if_false] at this;simp only[List.map_toArray] at e ⊢;simp[builtin,Builtin.min_,e,this]
  case max=>
   obtain⟨vs,Fk,h⟩:=aV h;cases vs with
   |nil=>exact h.elim
   |cons v r=>obtain⟨u,hK,hr⟩:=ZL (P:=P) true h;have e:=hv.Fg Fk;refine⟨u,hK,λw=>fV w ?_⟩;have:=hr w;simp only[if_true] at this;simp only[List.map_toArray] at e ⊢;simp[builtin,Builtin.max_,e,this]
abbrev Tr:=List Value->aH->(Value->aH->Prop)->Prop
def pD(P:Program)(g:FuncId)(T:Tr):Prop:=
 ∀args w K,T args w K->Calls P g args.toArray w λe w'=>∃v,e=.returned v/\K v w'
def enters(P:Program)(g:FuncId):Bool:=match P.funcs[g]? with
 |some fn=>fn.body.isSome && !(fn.name== "runtime.NumGoroutine")
 |none=>false
abbrev Env:=List (FuncId×Tr)
def Xh:Env->FuncId->Option Tr
 | [],_=>none
 |(g,T)::r,f=>cond (Nat.beq g f) (some T) (Xh r f)
def QX(P:Program):Env->Prop
 | []=>True
 |(g,T)::r=>(enters P g=true/\pD P g T)/\QX P r
def lI(P:Program)(fv:Value)(args:List Value)(w:aH)(K:WQ Value):Prop:=
 ∃g first cap,fv=.func (.func g) first cap/\enters P g=true/\Calls P g (first++args.toArray++cap) w λe w'=>∃v,e=.returned v/\K v w'
def runK(P:Program)(k:oL)(s:Sem Value)(w:aH)(K:WQ (k.T)):Prop:=∃x w',s.run P w=.ok (k.aY x) w'/\K x w'
def runU(P:Program)(s:Sem Unit)(w:aH)(K:aH->Prop):Prop:=∃w',s.run P w=.ok () w'/\K w'
def runT(P:Program)(ks:List oL)(s:Sem Value)(w:aH)(K:Fq ks->aH->Prop):Prop:=∃x w',s.run P w=.ok (.tuple (AA ks x).toArray) w'/\K x w'
def aG(w:aH)(cells:Array Value)(t:TypeId)(K:WQ Addr):Prop:=K ⟨w.heap.size,0,none⟩ (w.alloc (.cells cells t))
def rT(w:aH)(K:WQ Nat):Prop:=K w.heap.size (w.alloc (.map #[] 0))
def bQ(w:aH)(a:Addr):Nat->List Value->Prop
 |_,[]=>True
 |i,v::r=>w.cell? (a.add i)=some v/\bQ w a (i+1) r
def Aj(k:CK)(w:aH)(a:Addr)(K:k.T->Prop):Prop:=∃x:k.T,w.cell? a=some (k.aY x)/\K x
def eV(l:List CK)(w:aH)(a:Addr)(K:CTs l->Prop):Prop:=∃x:CTs l,bQ w a 0 (qT l x)/\K x
def Wy(P:Program)(t:TypeId)(w:aH)(a:Addr)(K:Value->(aH->Prop)->Prop):Prop:=
 match P.info? t with
 |some i=>match i.zero with
  |some z=>match P.underlying t with
   |some (.struct _)=>match z with
    | .agg zs=>cond (Nat.beq zs.size i.size) (eV (zs.toList.map CK.of) w a λx=>K (.agg (qT (zs.toList.map CK.of) x).toArray) λw'=>bQ w' a 0 (qT (zs.toList.map CK.of) x)) False
    |_=>False
   |some (.array _ _)=>match z with
    | .agg zs=>cond (Nat.beq zs.size i.size) (eV (zs.toList.map CK.of) w a λx=>K (.agg (qT (zs.toList.map CK.of) x).toArray) λw'=>bQ w' a 0 (qT (zs.toList.map CK.of) x)) False
    |_=>False
   |some _=>Aj (CK.of z) w a λx=>K ((CK.of z).aY x) λw'=>w'.cell? a=some ((CK.of z).aY x)
   |none=>False
  |none=>False
 |none=>False
def aI(P:Program)(t:TypeId)(a:Addr)(v:Value)(w:aH)(K:aH->Prop):Prop:=runU P (storeVar t a v) w K
def aW(P:Program)(t u:TypeId)(s:Sl)(x:Value)(w:aH)(K:WQ Sl):Prop:=runK P (.c .slice) (Builtin.append_ #[t,u] 0 #[.slice s.b s.l s.c,x]) w K
def QS(P:Program)(t u:TypeId)(s:Sl)(x:Value)(w:aH)(K:WQ Int):Prop:=runK P (.c (.int .i64)) (Builtin.copy_ #[t,u] 0 #[.slice s.b s.l s.c,x]) w K
def TM(P:Program)(t:TypeId)(x:Value)(w:aH)(K:aH->Prop):Prop:=runT P [] (Builtin.clear_ #[t] 0 #[x]) w λ_ w'=>K w'
def qK(P:Program)(t u:TypeId)(m k:Value)(w:aH)(K:aH->Prop):Prop:=runT P [] (Builtin.delete_ #[t,u] 0 #[m,k]) w λ_ w'=>K w'
def Er(P:Program)(t:TypeId)(m:Value)(w:aH)(K:WQ Int):Prop:=runK P (.c (.int .i64)) (Builtin.len_ #[t] 0 #[m]) w K
def nA(P:Program)(kn:oL)(t:TypeId)(m k:Value)(w:aH)(K:WQ (kn.T)):Prop:=runK P kn (Instr.lookup t m k false) w K
def HF(P:Program)(kn:oL)(t:TypeId)(m k:Value)(w:aH)(K:kn.T->WQ Bool):Prop:=runT P [kn,.c .bool] (Instr.lookup t m k true) w λx w'=>K x.1 x.2.1 w'
def gJ(P:Program)(t:TypeId)(m k v:Value)(w:aH)(K:aH->Prop):Prop:=runU P (Instr.mapUpdate t m k v) w K
def HQ(P:Program)(kn:oL)(t:TypeId)(m k:Value)(w:aH)(K:kn.T->WQ Int):Prop:=runT P [kn,.c (.int .i64)] (Instr.mapEntry t m k) w λx w'=>K x.1 x.2.1 w'
def uV(P:Program)(t:TypeId)(m s v:Value)(w:aH)(K:aH->Prop):Prop:=runU P (Instr.entryStore t m s v) w K
def rangeD(P:Program)(t:TypeId)(m:Value)(w:aH)(K:WQ Nat):Prop:=∃(r:Nat) (w':aH),(Instr.range t m).run P w=.ok (.pointer (some ⟨r,0,none⟩)) w'/\K r w'
def nextD(P:Program)(ty:TypeId)(it:Value)(w:aH)(K:WQ Bool):Prop:=∃(b:Bool) (r:List Value) (w':aH),(Instr.next it false ty).run P w=.ok (.tuple (.bool b::r).toArray) w'/\K b w'
def entryD(P:Program)(it:Value)(w:aH)(K:WQ Int):Prop:=∃(n:Int) (r:List Value) (w':aH),(Instr.entry it).run P w=.ok (.tuple (.int .i64 n::r).toArray) w'/\K n w'
def fE(P:Program)(t:TypeId)(l c:Value)(w:aH)(K:WQ Sl):Prop:=runK P (.c .slice) (Instr.makeSlice t l c) w K
def xo(P:Program)(kn:oL)(src dst:TypeId)(x:Value)(w:aH)(K:WQ (kn.T)):Prop:=runK P kn (convert src dst x) w K
def extD(P:Program)(kn:oL)(f:FuncId)(args:List Value)(w:aH)(K:WQ (kn.T)):Prop:=∃x w',(callFunc f args.toArray).run P w=.ok (.value (kn.aY x)) w'/\K x w'
def Iw(P:Program):List TypeId->Option (List oL)
 | []=>some []
 |t::r=>match P.info? t with
  |some i=>match i.zero with
   |some z=>match Iw P r with
    |some ks=>some (oL.of z::ks)
    |none=>none
   |none=>none
  |none=>none
def retD(P:Program)(ty:TypeId)(v:Value)(K:Value->Prop):Prop:=match P.underlying ty with
 |some (.tuple ts)=>nL (Iw P ts.toList) λks=>∃x:Fq ks,v=.tuple (AA ks x).toArray/\K (.tuple (AA ks x).toArray)
 |_=>Ao P ty λz=>∃x:(oL.of z).T,v=(oL.of z).aY x/\K ((oL.of z).aY x)
def UG(P:Program)(t:TypeId)(len:Nat)(parts:List (Nat×Value)):Option (TypeId×Array Value):=match P.underlying t with
 |some (.slice e)=>match P.info? e with
  |some i=>match i.zero with
   |some z=>cond (Nat.ble (len*i.size) 16777216) (match Instr.fill (λj=>some (j*i.size,i.size)) (madeCells z.cells (len*i.size)) parts with
    |some cells=>some (e,cells)
    |none=>none) none
   |none=>none
  |none=>none
 |_=>none
def callD(P:Program)(env:Env)(ty:TypeId)(f:FuncId)(args:List Value)(w:aH)(K:WQ Value):Prop:=match Xh env f with
 |some T=>T args w K
 |none=>Ao P ty λz=>extD P (oL.of z) f args w λx w'=>K ((oL.of z).aY x) w'
def effD(P:Program)(env:Env)(bI o:mI)(op:Op)(ty:TypeId)(w:aH)(K:WQ Value):Prop:=
 match op with
 | .load t x=>nL (rd bI o x) λv=>match v with
  | .pointer p=>aC p λa=>Wy P t w a λv _=>K v w
  |_=>False
 | .alloc e=>Ao P e λz=>aG w z.cells e λa w'=>K (.pointer (some a)) w'
 | .box e x=>nL (rd bI o x) λv=>aG w v.cells e λa w'=>K (.pointer (some a)) w'
 | .buildSlice t len parts=>nL (Fg bI o (parts.toList.map (·.2))) λvs=>nL (UG P t len ((parts.toList.map (·.1)).zip vs)) λp=>aG w p.2 p.1 λa w'=>K (.slice (some a) len len) w'
 | .store t x y=>nL (rd bI o x) λu=>nL (rd bI o y) λv=>match u with
  | .pointer p=>aC p λa=>aI P t a v w λw'=>K undef w'
  |_=>False
 | .makeMap _ none=>rT w λr w'=>K (.map (some r)) w'
 | .makeSlice t l c=>nL (rd bI o l) λu=>nL (rd bI o c) λv=>fE P t u v w λs w'=>K (.slice s.b s.l s.c) w'
 | .lookup t m k ok=>nL (rd bI o m) λu=>nL (rd bI o k) λv=>match P.underlying t with
  |some (.map _ e)=>Ao P e λz=>cond ok (HF P (oL.of z) t u v w λx b w'=>K (.tuple #[(oL.of z).aY x,.bool b]) w') (nA P (oL.of z) t u v w λx w'=>K ((oL.of z).aY x) w')
  |_=>False
 | .mapUpdate t m k x=>nL (rd bI o m) λu=>nL (rd bI o k) λv=>nL (rd bI o x) λy=>gJ P t u v y w λw'=>K undef w'
 | .insert t m k x=>nL (rd bI o m) λu=>nL (rd bI o k) λv=>nL (rd bI o x) λy=>gJ P t u v y w λw'=>K undef w'
 | .mapEntry t m k=>nL (rd bI o m) λu=>nL (rd bI o k) λv=>match P.underlying t with
  |some (.map _ e)=>Ao P e λz=>HQ P (oL.of z) t u v w λx n w'=>K (.tuple #[(oL.of z).aY x,.int .i64 n]) w'
  |_=>False
 | .entryStore t m s x=>nL (rd bI o m) λu=>nL (rd bI o s) λv=>nL (rd bI o x) λy=>uV P t u v y w λw'=>K undef w'
 | .range t x=>nL (rd bI o x) λu=>rangeD P t u w λr w'=>K (.pointer (some ⟨r,0,none⟩)) w'
 | .next x s=>nL (rd bI o x) λu=>cond s False (∃(b:Bool) (r:List Value) (w':aH),(Instr.next u false ty).run P w=.ok (.tuple (.bool b::r).toArray) w'/\K (.tuple (.bool b::r).toArray) w')
 | .entry x=>nL (rd bI o x) λu=>∃(n:Int) (r:List Value) (w':aH),(Instr.entry u).run P w=.ok (.tuple (.int .i64 n::r).toArray) w'/\K (.tuple (.int .i64 n::r).toArray) w'
 | .convert src dst x=>nL (rd bI o x) λu=>Ao P dst λz=>xo P (oL.of z) src dst u w λx w'=>K ((oL.of z).aY x) w'
 | .call {callee:=.builtin .append,args,argTypes}=>match args.toList,argTypes.toList with
  | [s,x],[t,u]=>nL (rd bI o s) λvs=>nL (rd bI o x) λvx=>match vs with
   | .slice b l c=>aW P t u ⟨b,l,c⟩ vx w λr w'=>K (.slice r.b r.l r.c) w'
   |_=>False
  |_,_=>False
 | .call {callee:=.builtin .copy,args,argTypes}=>match args.toList,argTypes.toList with
  | [s,x],[t,u]=>nL (rd bI o s) λvs=>nL (rd bI o x) λvx=>match vs with
   | .slice b l c=>QS P t u ⟨b,l,c⟩ vx w λn w'=>K (.int .i64 n) w'
   |_=>False
  |_,_=>False
 | .call {callee:=.builtin .clear,args,argTypes}=>match args.toList,argTypes.toList with
  | [x],[t]=>nL (rd bI o x) λvx=>TM P t vx w λw'=>K (.tuple #[]) w'
  |_,_=>False
 | .call {callee:=.builtin .delete,args,argTypes}=>match args.toList,argTypes.toList with
  | [m,k],[t,u]=>nL (rd bI o m) λvm=>nL (rd bI o k) λvk=>qK P t u vm vk w λw'=>K (.tuple #[]) w'
  |_,_=>False
 | .call {callee:=.builtin .len,args,argTypes}=>match args.toList,argTypes.toList with
  | [m],[t]=>nL (rd bI o m) λvm=>Er P t vm w λn w'=>K (.int .i64 n) w'
  |_,_=>False
 | .call {callee:=.value (.func f),args,..}=>nL (Fg bI o args.toList) λvs=>callD P env ty f vs w K
 | .call {callee:=.value x,args,..}=>nL (rd bI o x) λfv=>nL (Fg bI o args.toList) λvs=>lI P fv vs w λv w'=>retD P ty v λv'=>K v' w'
 |_=>False
def opD(P:Program)(env:Env)(bI o:mI)(op:Op)(ty:TypeId)(w:aH)(K:WQ Value):Prop:=
 cond (isPure P op) (Wu P bI o op λv=>K v w) (effD P env bI o op ty w K)
theorem uG{P:Program}{t:TypeId}{K:Value->Prop}(h:Ao P t K):∃i z,P.info? t=some i/\i.zero=some z/\K z:=by
 unfold Ao at h;cases hi:P.info? t with
 |none=>rw[hi] at h;exact h.elim
 |some i=>
  rw[hi] at h;cases hz:i.zero with
  |none=>simp[hz] at h
  |some z=>simp only[hz] at h;exact⟨i,z,rfl,hz,h⟩
theorem run_loadCells{P:Program}{a:Addr}(w:aH):∀(vs:List Value) (i:Nat) (acc:Array Value),bQ w a i vs->(loadCellsFrom a i vs.length acc).run P w=.ok (acc++vs.toArray) w
 | [],i,acc,_=>by simp[loadCellsFrom]
 |v::r,i,acc,h=>by
  have:=run_loadCells (P:=P) w r (i+1) (acc.push v) h.2;simp[loadCellsFrom,h.1,this]
theorem Bq:∀(l:List CK) (t:CTs l),(qT l t).length=l.length
 | [],_=>rfl
 |_::r,t=>by simp[qT,Bq r]
theorem TW{P:Program}{t:TypeId}{w:aH}{a:Addr}{K:Value->(aH->Prop)->Prop}(h:Wy P t w a K):
  ∃v C,K v C/\C w/\∀w',C w'->(loadVar t a).run P w'=.ok v w':=by
 unfold Wy at h;cases hi:P.info? t with
 |none=>simp[hi] at h
 |some i=>
  cases hz:i.zero with
  |none=>simp[hi,hz] at h
  |some z=>
   cases hu:P.underlying t with
   |none=>simp[hi,hz,hu] at h
   |some d=>
    by_cases hs:(∃fs,d=.struct fs)\/(∃n e,d=.array n e)
    ·have Vg:∀w,(isAgg t).run P w=.ok true w:=λw=>by
      rcases hs with⟨fs,rfl⟩|⟨n,e,rfl⟩<;>simp[isAgg,run_underlying hu]
     cases z<;>try (rcases hs with⟨fs,rfl⟩|⟨n,e,rfl⟩<;>simp[hi,hz,hu] at h;done)
     rename_i zs
     have h':cond (Nat.beq zs.size i.size) (eV (zs.toList.map CK.of) w a λx=>K (.agg (qT (zs.toList.map CK.of) x).toArray) λw'=>bQ w' a 0 (qT (zs.toList.map CK.of) x)) False:=by rcases hs with⟨fs,rfl⟩|⟨n,e,rfl⟩<;>simpa only[hi,hz,hu] using h
     cases hb:Nat.beq zs.size i.size with
     |false=>rw[hb] at h';exact h'.elim
     |true=>
      rw[hb] at h';obtain⟨x,hx,hK⟩:=h';refine⟨_,_,hK,hx,λw' hw'=>?_⟩;have gD:(qT (zs.toList.map CK.of) x).length=i.size:=by rw[Bq];simpa using IY hb
      have hr:=run_loadCells (P:=P) w' _ 0 #[] hw';rw[gD] at hr;simp[loadVar,Vg,yZ hi,loadCells,hr]
    ·have Vg:∀w,(isAgg t).run P w=.ok false w:=λw=>by
      cases d<;>simp[isAgg,run_underlying hu]<;>simp_all
     have h':Aj (CK.of z) w a λx=>K ((CK.of z).aY x) λw'=>w'.cell? a=some ((CK.of z).aY x):=by cases d<;>first|simpa only[hi,hz,hu] using h|simp_all
     obtain⟨x,hx,hK⟩:=h';exact⟨_,_,hK,hx,λw' hw'=>by simp[loadVar,Vg,hw']⟩
theorem Jo{P:Program}:∀{env:Env} {f:FuncId} {T:Tr},QX P env->Xh env f=some T->enters P f=true/\pD P f T
 | [],_,_,_,h=>by cases h
 |(g,T')::r,f,T,oJ,h=>by
  simp only[Xh] at h;cases hb:Nat.beq g f with
  |true=>rw[hb] at h;have:g=f:=IY hb;subst this;cases h;exact oJ.1
  |false=>rw[hb] at h;exact Jo oJ.2 h
theorem Jp{P:Program}{g:FuncId}(h:enters P g=true)(args:Array Value)(w:aH):(callFunc g args).run P w=.ok (.enter g args) w:=by
 unfold enters at h;cases hf:P.funcs[g]? with
 |none=>simp[hf] at h
 |some fn=>simp[hf] at h;obtain⟨h1,h2⟩:=h;obtain⟨c,hc⟩:=Lt.1 h1;simp[callFunc,hf,hc,h2]
theorem upon_value{P:Program}{o:Oper}{a:Act}{w w':aH}{next:Act->aH->Prop}{Q:Exit->Act->aH->Prop}{v:Value}
  (h:(execOp a.eval o).run P w=.ok (.value v) w') (hn:next (a.put o.dst v) w'):o.wp P a w next Q:=by
 unfold Oper.wp;rw[h];exact hn
theorem upon_skip{P:Program}{o:Oper}{a:Act}{w w':aH}{next:Act->aH->Prop}{Q:Exit->Act->aH->Prop}
  (h:(execOp a.eval o).run P w=.ok .skip w') (hn:next (a.put o.dst undef) w'):o.wp P a w next Q:=by
 unfold Oper.wp;rw[h];exact hn
theorem upon_enter{P:Program}{o:Oper}{a:Act}{w w':aH}{next:Act->aH->Prop}{Q:Exit->Act->aH->Prop}{f:FuncId}{args:Array Value}
  (h:(execOp a.eval o).run P w=.ok (.enter f args) w') (hn:Calls P f args w' λe Nc=>∃v,e=.returned v/\next (a.put o.dst v) Nc):o.wp P a w next Q:=by
 unfold Oper.wp;rw[h];exact hn.mono λe Nc ⟨v,he,hv⟩=>by subst he;exact hv
theorem Kf{P:Program}(w:aH)(t:TypeId)(len:Nat)(ps:Array (Nat×Value))(e:TypeId)(cells:Array Value)(hp:UG P t len ps.toList=some (e,cells)):
  (Instr.buildSlice t len ps).run P w=.ok (.slice (some ⟨w.heap.size,0,none⟩) len len) (w.alloc (.cells cells e)):=by
 unfold UG at hp;cases hu:P.underlying t with
 |none=>simp[hu] at hp
 |some d=>
  cases d<;>try (simp[hu] at hp;done)
  rename_i e'
  cases hi:P.info? e' with
  |none=>simp[hu,hi] at hp
  |some i=>
   cases hz:i.zero with
   |none=>simp[hu,hi,hz] at hp
   |some z=>
    simp only[hu,hi,hz] at hp;cases hb:Nat.ble (len*i.size) 16777216 with
    |false=>rw[hb] at hp;cases hp
    |true=>
     rw[hb] at hp;have LK:len*i.size<=16777216:=Nat.le_of_ble_eq_true hb;cases IV:Instr.fill (λj=>some (j*i.size,i.size)) (madeCells z.cells (len*i.size)) ps.toList with
     |none=>simp[IV] at hp
     |some cs=>
      simp[IV] at hp;obtain⟨rfl,rfl⟩:=hp;have pA:¬(2^24<len*i.size):=aB;unfold Instr.buildSlice;simp only[Sem.run_bind,run_underlying hu,Result.andThen_ok,yZ hi,gt_iff_lt,pA,if_false]
      by_cases h0:len*i.size=0
      ·have QE:=IV;rw[h0] at QE;simp only[madeCells,Array.range_zero',Array.map_empty] at QE;simp only[h0,if_true,Sem.run_pure,Result.andThen_ok,Array.range_zero',Array.map_empty,QE,newRow,Sem.run_bind,run_newObj]
       rfl
      ·simp only[madeCells] at IV;simp only[h0,if_false,zeroValue,typeInfo,Sem.run_bind,run_program,hi,hz,Sem.run_pure,Result.andThen_ok,IV,newRow,run_newObj]
       rfl
theorem append_ty(A:Array TypeId)(ty:TypeId)(x:Array Value):Builtin.append_ A ty x=Builtin.append_ A 0 x:=rfl
theorem copy_ty(A:Array TypeId)(ty:TypeId)(x:Array Value):Builtin.copy_ A ty x=Builtin.copy_ A 0 x:=rfl
theorem clear_ty(A:Array TypeId)(ty:TypeId)(x:Array Value):Builtin.clear_ A ty x=Builtin.clear_ A 0 x:=rfl
theorem delete_ty(A:Array TypeId)(ty:TypeId)(x:Array Value):Builtin.delete_ A ty x=Builtin.delete_ A 0 x:=rfl
theorem len_ty(A:Array TypeId)(ty:TypeId)(x:Array Value):Builtin.len_ A ty x=Builtin.len_ A 0 x:=rfl
theorem Pd{P:Program}{env:Env}(LI:QX P env){n:Nat}{bI o:mI}{a:Act}(hv:lL n bI o a)(op:Oper){w:aH}{K:Value->aH->Prop}{next:Act->aH->Prop}{Q:Exit->Act->aH->Prop}
  (h:effD P env bI o op.op op.type w K) (hn:∀v w',K v w'->next (a.put op.dst v) w'):op.wp P a w next Q:=by
 obtain⟨dst,op,ty,pos,after,guard⟩:=op;cases op<;>simp only[effD] at h<;>try (exact h.elim)
 case load t x=>
  obtain⟨v,hx,h1⟩:=aV h;cases v<;>try (exact h1.elim)
  obtain⟨ad,rfl,h2⟩:=pF h1;obtain⟨v,C,hK,hC,hr⟩:=TW h2;exact upon_value (v:=v) (w':=w) (by simp[execOp,hv.rd hx,Instr.loadAt,Instr.sureAddr,hr w hC]) (hn _ _ hK)
 case alloc e=>obtain⟨i,z,hi,hz,hK⟩:=uG h;exact upon_value (by simp[execOp,Instr.alloc,zeroValue,typeInfo,hi,hz,newVar,newRow]) (hn _ _ hK)
 case box e x=>obtain⟨v,hx,hK⟩:=aV h;exact upon_value (by simp[execOp,Instr.box,hv.rd hx,newVar,newRow]) (hn _ _ hK)
 case store t x y=>
  obtain⟨u,hx,h1⟩:=aV h;obtain⟨v,hy,h2⟩:=aV h1;cases u<;>try (exact h2.elim)
  obtain⟨ad,rfl,h3⟩:=pF h2;obtain⟨w',hr,hK⟩:=h3;exact upon_skip (w':=w') (by simp[execOp,hv.rd hx,hv.rd hy,Instr.storeAt,Instr.sureAddr,hr]) (hn _ _ hK)
 case makeMap t r=>
  cases r with
  |some r=>exact h.elim
  |none=>exact upon_value (by simp[execOp,Instr.makeMap]) (hn _ _ h)
 case makeSlice t l c=>obtain⟨u,hx,h1⟩:=aV h;obtain⟨v,hy,h2⟩:=aV h1;obtain⟨s,w',hr,hK⟩:=h2;exact upon_value (w':=w') (by simp[execOp,hv.rd hx,hv.rd hy,hr];rfl) (hn _ _ hK)
 case mapUpdate t m k x=>obtain⟨u,hm,h1⟩:=aV h;obtain⟨v,hk,h2⟩:=aV h1;obtain⟨y,hx,h3⟩:=aV h2;obtain⟨w',hr,hK⟩:=h3;exact upon_skip (w':=w') (by simp[execOp,hv.rd hm,hv.rd hk,hv.rd hx,hr]) (hn _ _ hK)
 case insert t m k x=>obtain⟨u,hm,h1⟩:=aV h;obtain⟨v,hk,h2⟩:=aV h1;obtain⟨y,hx,h3⟩:=aV h2;obtain⟨w',hr,hK⟩:=h3;exact upon_skip (w':=w') (by simp[execOp,hv.rd hm,hv.rd hk,hv.rd hx,hr]) (hn _ _ hK)
 case entryStore t m s x=>obtain⟨u,hm,h1⟩:=aV h;obtain⟨v,hk,h2⟩:=aV h1;obtain⟨y,hx,h3⟩:=aV h2;obtain⟨w',hr,hK⟩:=h3;exact upon_skip (w':=w') (by simp[execOp,hv.rd hm,hv.rd hk,hv.rd hx,hr]) (hn _ _ hK)
 case range t x=>obtain⟨u,hx,h1⟩:=aV h;obtain⟨r,w',hr,hK⟩:=h1;exact upon_value (w':=w') (by simp[execOp,hv.rd hx,hr]) (hn _ _ hK)
 case next x s=>
  obtain⟨u,hx,h1⟩:=aV h;cases s with
  |true=>exact h1.elim
  |false=>obtain⟨b,r,w',hr,hK⟩:=h1;exact upon_value (w':=w') (by simp only[execOp,hv.rd hx,Sem.run_bind,hr];rfl) (hn _ _ hK)
 case entry x=>obtain⟨u,hx,h1⟩:=aV h;obtain⟨n,r,w',hr,hK⟩:=h1;exact upon_value (w':=w') (by simp only[execOp,hv.rd hx,Sem.run_bind,hr];rfl) (hn _ _ hK)
 case mapEntry t m k=>
  obtain⟨u,hm,h1⟩:=aV h;obtain⟨v,hk,h2⟩:=aV h1;cases hu:P.underlying t with
  |none=>simp[hu] at h2
  |some d=>
   cases d<;>try (simp[hu] at h2;done)
   simp only[hu] at h2;obtain⟨i,z,hi,hz,h3⟩:=uG h2;obtain⟨x,w',hr,hK⟩:=h3;exact upon_value (w':=w') (by simp[execOp,hv.rd hm,hv.rd hk,hr];try rfl) (hn _ _ hK)
 case lookup t m k ok=>
  obtain⟨u,hm,h1⟩:=aV h;obtain⟨v,hk,h2⟩:=aV h1;cases hu:P.underlying t with
  |none=>simp[hu] at h2
  |some d=>
   cases d<;>try (simp[hu] at h2;done)
   simp only[hu] at h2;obtain⟨i,z,hi,hz,h3⟩:=uG h2;cases ok with
   |true=>obtain⟨x,w',hr,hK⟩:=h3;exact upon_value (w':=w') (by simp[execOp,hv.rd hm,hv.rd hk,hr];try rfl) (hn _ _ hK)
   |false=>obtain⟨x,w',hr,hK⟩:=h3;exact upon_value (w':=w') (by simp[execOp,hv.rd hm,hv.rd hk,hr];try rfl) (hn _ _ hK)
 case convert src d x=>obtain⟨u,hx,h1⟩:=aV h;obtain⟨i,z,hi,hz,h2⟩:=uG h1;obtain⟨x,w',hr,hK⟩:=h2;exact upon_value (w':=w') (by simp[execOp,hv.rd hx,hr]) (hn _ _ hK)
 case buildSlice t len parts=>
  obtain⟨vs,Fk,h1⟩:=aV h;obtain⟨p,hp,hK⟩:=aV h1;obtain⟨e,cells⟩:=p;have he:(parts.map λ(i,x)=>(i,a.eval x)).toList=(parts.toList.map (·.1)).zip vs:=by rw[Array.toList_map];exact TU a.eval parts.toList vs (by rw[<-hv.Fg Fk];simp)
  have hr:=Kf w t len (parts.map λ(i,x)=>(i,a.eval x)) e cells (by rw[he];exact hp);refine upon_value (v:=.slice (some ⟨w.heap.size,0,none⟩) len len) (w':=w.alloc (.cells cells e)) ?_ (hn _ _ hK);unfold execOp;simp only[Sem.run_bind,hr]
  rfl
 case call c=>
  obtain⟨callee,args,argTypes⟩:=c;obtain⟨args⟩:=args;obtain⟨argTypes⟩:=argTypes;cases callee with
  |invoke r m=>exact h.elim
  |builtin b=>
   cases b<;>try (exact h.elim)
   case append=>
    match args,argTypes,h with
    | [s,x],[t,u],h=>
     obtain⟨vs,hs,h1⟩:=aV h;obtain⟨vx,hx,h2⟩:=aV h1;cases vs<;>try (exact h2.elim)
     obtain⟨r,w',hr,hK⟩:=h2;exact upon_value (w':=w') (fV w (by
      simp only[builtin,Sem.run_bind,List.map_toArray,Dt,List.map_nil,hv.rd hs,hv.rd hx];rw[append_ty,hr.trans rfl];rfl)) (hn _ _ hK)
   case copy=>
    match args,argTypes,h with
    | [s,x],[t,u],h=>
     obtain⟨vs,hs,h1⟩:=aV h;obtain⟨vx,hx,h2⟩:=aV h1;cases vs<;>try (exact h2.elim)
     obtain⟨r,w',hr,hK⟩:=h2;exact upon_value (w':=w') (fV w (by
      simp only[builtin,Sem.run_bind,List.map_toArray,Dt,List.map_nil,hv.rd hs,hv.rd hx];rw[copy_ty,hr.trans rfl];rfl)) (hn _ _ hK)
   case clear=>
    match args,argTypes,h with
    | [x],[t],h=>
     obtain⟨vx,hx,h2⟩:=aV h;obtain⟨r,w',hr,hK⟩:=h2;exact upon_value (w':=w') (fV w (by
      simp only[builtin,Sem.run_bind,List.map_toArray,Dt,List.map_nil,hv.rd hx];rw[clear_ty,hr.trans rfl];rfl)) (hn _ _ hK)
   case delete=>
    match args,argTypes,h with
    | [m,k],[t,u],h=>
     obtain⟨vm,hm,h1⟩:=aV h;obtain⟨vk,hk,h2⟩:=aV h1;obtain⟨r,w',hr,hK⟩:=h2;exact upon_value (w':=w') (fV w (by
      simp only[builtin,Sem.run_bind,List.map_toArray,Dt,List.map_nil,hv.rd hm,hv.rd hk];rw[delete_ty,hr.trans rfl];rfl)) (hn _ _ hK)
   case len=>
    match args,argTypes,h with
    | [m],[t],h=>
     obtain⟨vm,hm,h2⟩:=aV h;obtain⟨r,w',hr,hK⟩:=h2;exact upon_value (w':=w') (fV w (by
      simp only[builtin,Sem.run_bind,List.map_toArray,Dt,List.map_nil,hv.rd hm];rw[len_ty,hr.trans rfl];rfl)) (hn _ _ hK)
  |value x=>
   by_cases hfx:∃f,x=.func f
   ·obtain⟨f,rfl⟩:=hfx;obtain⟨vs,Fk,h1⟩:=aV h;have e:=hv.Fg Fk;have kr:∀w,(execOp a.eval {dst:=dst,op:=.call {callee:=.value (.func f),args:=⟨args⟩,argTypes:=⟨argTypes⟩},type:=ty,pos:=pos,after:=after,guard:=guard}).run P w=(callFunc f vs.toArray).run P w:=λw=>by
     have em:(⟨args⟩:Array Operand).map a.eval=vs.toArray:=by rw[<-e];simp
     unfold execOp;simp only[resolve,em,Act.eval,Deferred.ofValue,Sem.run_bind,Sem.run_pure,Result.andThen_ok,invoke];simp
    unfold callD at h1;cases hf:Xh env f with
    |some T=>rw[hf] at h1;obtain⟨h2,h3⟩:=Jo LI hf;exact upon_enter ((kr w).trans (Jp h2 _ w)) ((h3 _ _ _ h1).mono λe w' ⟨v,he,hK⟩=>⟨v,he,hn _ _ hK⟩)
    |none=>rw[hf] at h1;obtain⟨i,z,hi,hz,h3⟩:=uG h1;obtain⟨x,w',hr,hK⟩:=h3;exact upon_value ((kr w).trans hr) (hn _ _ hK)
   ·have h':nL (rd bI o x) λfv=>nL (Fg bI o args) λvs=>lI P fv vs w λv w'=>retD P ty v λv'=>K v' w':=by
     cases x<;>first|exact h|exact absurd ⟨_,rfl⟩ hfx
    obtain⟨fv,hfv,h1⟩:=aV h';obtain⟨vs,Fk,h2⟩:=aV h1;obtain⟨g,first,cap,rfl,h3,h4⟩:=h2
    have e:=hv.Fg Fk;have em:(⟨args⟩:Array Operand).map a.eval=vs.toArray:=by rw[<-e];simp
    have kr:(execOp a.eval {dst:=dst,op:=.call {callee:=.value x,args:=⟨args⟩,argTypes:=⟨argTypes⟩},type:=ty,pos:=pos,after:=after,guard:=guard}).run P w=(callFunc g (first++vs.toArray++cap)).run P w:=by unfold execOp;simp only[resolve,em,hv.rd hfv,Deferred.ofValue,Sem.run_bind,Sem.run_pure,Result.andThen_ok,invoke]
    refine upon_enter (kr.trans (Jp h3 _ w)) (h4.mono λe w' ⟨v,he,hK⟩=>⟨v,he,?_⟩);have:K v w':=by
     unfold retD at hK;cases hu:P.underlying ty with
     |none=>rw[hu] at hK;obtain⟨i,z,hi,hz,x,rfl,hk⟩:=uG hK;exact hk
     |some d=>
      rw[hu] at hK;cases d
      case tuple ts=>obtain⟨ks,hks,x,rfl,hk⟩:=aV hK;exact hk
      all_goals
       obtain⟨i,z,hi,hz,x,rfl,hk⟩:=uG hK;exact hk
    exact hn _ _ this
structure Ctx where
 P:Program
 n:Nat
 env:Env
inductive LX where
 |dQ
 |no
 |fl (i:Nat) (p:LX)
 |mn (i:Nat) (p r:LX)
inductive Ann where
 |n
 |s (a b:Ann)
 |c (a b:Ann)
 |b (a:Ann)
 |l (pQ:List (Nat×oL)) (drop:List Nat) (a:Ann)
 |j (pQ:List (Nat×oL)) (drop:List Nat) (a b:Ann)
 |r (p:LX)
 |o (LB:List Nat)
def OJ(l:List (Nat×oL)):List oL:=l.map (·.2)
def Lz:(l:List (Nat×oL))->Fq (OJ l)->mI
 | [],_=>[]
 |(i,k)::r,t=>(i,k.aY t.1)::Lz r t.2
def decL:(l:List (Nat×oL))->mI->mI->(Fq (OJ l)->Prop)->Prop
 | [],_,_,K=>K ()
 |(i,k)::r,bI,o,K=>nL (rdT bI o i) λv=>k.LO v λx=>decL r bI o λt=>K (x,t)
def mem(l:List Nat)(i:Nat):Bool:=match l with
 | []=>false
 |j::r=>cond (Nat.beq j i) true (mem r i)
def jT:mI->List Nat->mI
 | [],_=>[]
 |(i,v)::r,l=>cond (mem l i) (jT r l) ((i,v)::jT r l)
def Gu:mI->List Nat->mI
 | [],_=>[]
 |(i,v)::r,l=>cond (mem l i) ((i,v)::Gu r l) (Gu r l)
def mu(dY:Array Oper)(j:Nat):Option Nat:=(dY[j]?).bind (·.dst)
def MN(dY:Array Oper)(g:Option (Nat×Bool))(bI o:mI)(yes no:mI->Prop):Prop:=match g with
 |none=>yes bI
 |some (j,want)=>nL (mu dY j) λs=>nL (rdT bI o s) λv=>match v with
  | .bool t=>match lV o s with
   |none=>cond t (cond want (yes ((s,.bool true)::bI)) (no ((s,.bool true)::bI))) (cond want (no ((s,.bool false)::bI)) (yes ((s,.bool false)::bI)))
   |some _=>False
  | .tuple _=>no bI
  |_=>False
def regD(C:Ctx)(dY:Array Oper)(o:mI)(K:WQ mI):List Oper->mI->aH->Prop
 | [],bI,w=>K bI w
 |op::r,bI,w=>MN dY op.guard bI o
  (λfZ=>opD C.P C.env fZ o op.op op.type w λv w'=>VF C.n op.dst v o fZ λiH=>regD C dY o K r iH w')
  (λfZ=>VF C.n op.dst undef o fZ λiH=>regD C dY o K r iH w)
abbrev BR:=List (List Nat×(aH->Prop))
def iV(op:Oper)(l:List Nat):Bool:=op.after.toList.any λe=>Region.binds .any e && mem l e.on
def dI(op:Oper):BR->BR
 | []=>[]
 |(l,C)::r=>cond (iV op l) (dI op r) ((l,C)::dI op r)
def iJ(i:Nat)(op:Oper):BR->BR
 | []=>[]
 |(l,C)::r=>cond (iV op l) ((i::l,C)::iJ i op r) ((l,C)::iJ i op r)
def Ar:BR->aH->Prop->Prop
 | [],_,G=>G
 |(_,C)::r,w,G=>C w/\Ar r w G
def floatD(P:Program)(bI o:mI)(op:Op)(w:aH)(K:Value->Option (aH->Prop)->Prop):Prop:=
 match op with
 | .load t x=>nL (rd bI o x) λv=>match v with
  | .pointer p=>aC p λa=>Wy P t w a λv C=>K v (some C)
  |_=>False
 |op=>Wu P bI o op λv=>K v none
def pushP(i:Nat)(C:Option (aH->Prop))(pd:BR):BR:=match C with
 |some C=>([i],C)::pd
 |none=>pd
def Ti(n:Nat)(op:Oper)(m:Nat):Bool:=op.after.toList.all λe=>!Region.binds .any e ||(Nat.blt e.on n && Nat.testBit m e.on)
def sN(dY:Array Oper)(m i:Nat):Bool:=match dY[i]? with
 |some op=>!Nat.testBit m i && Ti dY.size op m
 |none=>false
def Ha(f:Nat->Bool):Nat->Bool
 |0=>true
 |n+1=>f n && Ha f n
def freeB(dY:Array Oper)(m i:Nat)(oi:Oper):Bool:=Ha (λj=>Nat.beq j i ||Nat.testBit m j ||match dY[j]? with
 |some oj=>oj.after.toList.any (λe=>Region.binds .any e && Nat.beq e.on i) ||oi.apart dY oj
 |none=>true) dY.size
def LX.depth:LX->Nat
 | .dQ=>0
 | .no=>0
 | .fl _ p=>p.depth+1
 | .mn _ p r=>cond (Nat.ble (p.depth+1) r.depth) r.depth (p.depth+1)
def JP:LX->Nat->Bool
 | .mn i _ r,j=>Nat.beq i j ||JP r j
 |_,_=>false
def covered(dY:Array Oper)(m:Nat)(p:LX):Bool:=Ha (λj=>JP p j ||!sN dY m j) dY.size
def uM(C:Ctx)(dY:Array Oper)(o:mI)(K:WQ mI):LX->Bool->Nat->BR->mI->aH->Prop
 | .dQ,_,m,_,bI,w=>cond (covered dY m .no) (K bI w) False
 | .no,head,_,_,_,_=>cond head False True
 | .fl i p,_,m,pd,bI,w=>nL dY[i]? λop=>cond (sN dY m i && freeB dY m i op) (MN dY op.guard bI o (λfZ=>floatD C.P fZ o op.op w λv Cv=>VF C.n op.dst v o fZ λiH=>uM C dY o K p true (Nat.lor m (Nat.shiftLeft 1 i)) (pushP i Cv (iJ i op pd)) iH w) (λfZ=>VF C.n op.dst undef o fZ λiH=>uM C dY o K p true (Nat.lor m (Nat.shiftLeft 1 i)) (iJ i op pd) iH w)) False
 | .mn i p r,head,m,pd,bI,w=>cond (!head ||(sN dY m i && covered dY m (.mn i p r))) (match r with
   | .no=>nL dY[i]? λop=>MN dY op.guard bI o (λfZ=>effD C.P C.env fZ o op.op op.type w λv w'=>Ar (dI op pd) w' (VF C.n op.dst v o fZ λiH=>uM C dY o K p true (Nat.lor m (Nat.shiftLeft 1 i)) (dI op pd) iH w')) (λfZ=>Ar (dI op pd) w (VF C.n op.dst undef o fZ λiH=>uM C dY o K p true (Nat.lor m (Nat.shiftLeft 1 i)) (dI op pd) iH w))
   |r=>(nL dY[i]? λop=>MN dY op.guard bI o (λfZ=>effD C.P C.env fZ o op.op op.type w λv w'=>Ar (dI op pd) w' (VF C.n op.dst v o fZ λiH=>uM C dY o K p true (Nat.lor m (Nat.shiftLeft 1 i)) (dI op pd) iH w')) (λfZ=>Ar (dI op pd) w (VF C.n op.dst undef o fZ λiH=>uM C dY o K p true (Nat.lor m (Nat.shiftLeft 1 i)) (dI op pd) iH w)))/\uM C dY o K r false m pd bI w) False
def Gs:List Nat->mI->mI->mI
 | [],_,_=>[]
 |s::r,bI,o=>match rdT bI o s with
  |some v=>(s,v)::Gs r bI o
  |none=>Gs r bI o
def JK(n:Nat)(o:mI):List Oper->Bool
 | []=>true
 |op::r=>(match op.dst with
  |none=>true
  |some d=>Nat.blt d n && (match lV o d with
   |none=>true
   |some _=>false)) && JK n o r
def Ev(dY:Array Oper):Bool:=Ha (λi=>match dY[i]? with
 |some op=>op.after.toList.all λe=>!Region.binds .any e ||Nat.blt e.on i
 |none=>true) dY.size
def jx(dst:Option Nat)(v:Value)(bI:mI):mI:=match dst with
 |none=>bI
 |some d=>(d,v)::bI
def He(C:Ctx)(dY:Array Oper)(o:mI)(K:WQ mI):Nat->Nat->mI->aH->Prop
 |0,_,bI,w=>K bI w
 |k+1,m,bI,w=>∀i op,dY[i]? =some op->sN dY m i=true->MN dY op.guard bI o
   (λfZ=>opD C.P C.env fZ o op.op op.type w λv w'=>He C dY o K k (Nat.lor m (Nat.shiftLeft 1 i)) (jx op.dst v fZ) w')
   (λfZ=>He C dY o K k (Nat.lor m (Nat.shiftLeft 1 i)) (jx op.dst undef fZ) w)
structure OrdP(C:Ctx)(dY:Array Oper)(o:mI)(K:WQ mI)(w:aH):Prop where
 out:He C dY o K dY.size 0 [] w
def resD(P:Program)(bI:mI):List ResultVar->aH->(List Value->Prop)->Prop
 | [],_,K=>K []
 | .tmp t::r,w,K=>nL (rdT bI [] t) λv=>resD P bI r w λvs=>K (v::vs)
 | .cell a t::r,w,K=>nL (rdT bI [] a) λv=>match v with
  | .pointer p=>aC p λad=>Wy P t w ad λv _=>resD P bI r w λvs=>K (v::vs)
  |_=>False
def Nr(vs:List Value):Value:=match vs with
 | [v]=>v
 |vs=>.tuple vs.toArray
def postD(P:Program)(rs:List ResultVar)(R:WQ Value)(e:Exit)(bI:mI)(w:aH):Prop:=match e with
 | .normal=>resD P bI rs w λvs=>R (Nr vs) w
 | .ret=>resD P bI rs w λvs=>R (Nr vs) w
 |_=>False
def Wo(N:WQ mI)(Q:Exit->WQ mI):Exit->mI->aH->Prop
 | .normal,bI,w=>N bI w
 |e,bI,w=>Q e bI w
def Sj(id:Nat)(Q:Exit->WQ mI):Exit->mI->aH->Prop
 | .exit i,bI,w=>cond (Nat.beq i id) (Q .normal bI w) (Q (.exit i) bI w)
 |e,bI,w=>Q e bI w
def condD(v:Value)(A B:Prop):Prop:=match v with
 | .bool t=>cond t A B
 |_=>False
def D(C:Ctx):Code->Ann->mI->(Exit->WQ mI)->mI->aH->Prop
 | .skip,_,_,Q,bI,w=>Q .normal bI w
 | .region _ dY draw,LP,o,Q,bI,w=>cond draw (match LP with
   | .r p=>cond (Nat.ble p.depth dY.size) (uM C dY o (Q .normal) p true 0 [] bI w.drew) False
   | .o LB=>cond (JK C.n o dY.toList && JK C.n (Gs LB bI o) dY.toList && Ev dY) (OrdP C dY (Gs LB bI o) (Q .normal) w.drew) False
   |_=>False) (regD C dY o (Q .normal) dY.toList bI w)
 | .seq x y,LP,o,Q,bI,w=>match LP with
  | .s a b=>D C x a o (Wo (D C y b o Q) Q) bI w
  | .n=>D C x .n o (Wo (D C y .n o Q) Q) bI w
  | .j pQ drop a b=>∀J:Fq (OJ pQ)->aH->Prop,(∀t w,D C y b o Q (Lz pQ t++jT bI drop) w->J t w)->
    D C x a (jT bI drop++o) (Wo (λfZ w'=>decL pQ fZ (jT bI drop++o) λt=>J t w') λe fZ w'=>Q e (fZ++jT bI drop) w') (Gu bI drop) w
  |_=>False
 | .cond c x y,LP,o,Q,bI,w=>match LP with
  | .c a b=>nL (rd bI o c) λv=>condD v (D C x a o Q bI w) (D C y b o Q bI w)
  | .n=>nL (rd bI o c) λv=>condD v (D C x .n o Q bI w) (D C y .n o Q bI w)
  |_=>False
 | .block id c,LP,o,Q,bI,w=>match LP with
  | .b a=>D C c a o (Sj id Q) bI w
  | .n=>D C c .n o (Sj id Q) bI w
  |_=>False
 | .loop c,LP,o,Q,bI,w=>match LP with
  | .l pQ drop a=>∀X:Fq (OJ pQ)->aH->Prop,
    (∀t w,D C c a (jT bI drop++o) (Wo (λfZ w'=>decL pQ fZ (jT bI drop++o) λt'=>X t' w') λe fZ w'=>Q e (fZ++jT bI drop) w') (Lz pQ t) w->X t w)->
    decL pQ bI o λt=>X t w
  |_=>False
 | .exit id,_,_,Q,bI,w=>Q (.exit id) bI w
 | .ret,_,_,Q,bI,w=>Q .ret bI w
 |_,_,_,_,_,_=>False
theorem kJ(x y:mI)(t:Nat):lV (x++y) t=match lV x t with
  |some v=>some v
  |none=>lV y t:=by
 induction x with
 |nil=>rfl
 |cons p x ih=>
  obtain⟨i,v⟩:=p;simp only[List.cons_append,lV];cases Nat.beq i t with
  |true=>rfl
  |false=>exact ih
theorem JR(l:List Nat)(t:Nat):∀(x:mI),lV (jT x l) t=cond (mem l t) none (lV x t)
 | []=>by cases mem l t<;>rfl
 |(i,v)::r=>by
  have ih:=JR l t r;simp only[jT,lV];cases hb:Nat.beq i t with
  |true=>
   have:i=t:=IY hb;subst this;cases hm:mem l i with
   |true=>rw[hm] at ih;exact ih
   |false=>simp only[cond_false,lV,hb,cond_true]
  |false=>
   cases hm:mem l i with
   |true=>simp only[cond_true];rw[ih];rfl
   |false=>simp only[cond_false,lV,hb];rw[ih]
theorem TV(l:List Nat)(t:Nat):∀(x:mI) (v:Value),lV (Gu x l) t=some v->mem l t=true/\lV x t=some v
 | [],v,h=>by cases h
 |(i,u)::r,v,h=>by
  simp only[Gu] at h;cases hm:mem l i with
  |true=>
   rw[hm] at h;simp only[cond_true,lV] at h;cases hb:Nat.beq i t with
   |true=>rw[hb] at h;have:i=t:=IY hb;subst this;exact⟨hm,by simp only[lV,hb];exact h⟩
   |false=>rw[hb] at h;obtain⟨h1,h2⟩:=TV l t r v h;exact⟨h1,by simp only[lV,hb];exact h2⟩
  |false=>
   rw[hm] at h;obtain⟨h1,h2⟩:=TV l t r v h;refine⟨h1,?_⟩;have:Nat.beq i t=false:=by
    cases hb:Nat.beq i t with
    |false=>rfl
    |true=>have:i=t:=IY hb;subst this;rw[h1] at hm;cases hm
   simp only[lV,this];exact h2
theorem lL.outer{n:Nat}{bI o:mI}{a:Act}(h:lL n bI o a)(l:List Nat):∀t v,lV (jT bI l++o) t=some v->a.tmps.getD t undef=v:=by
 intro t v hv;rw[kJ,JR] at hv;cases hm:mem l t with
 |true=>rw[hm] at hv;exact h.o t v hv
 |false=>
  rw[hm] at hv;cases hl:lV bI t with
  |some u=>rw[hl] at hv;simp at hv;subst hv;exact h.bI t _ hl
  |none=>rw[hl] at hv;exact h.o t v hv
theorem HD{n:Nat}{bI o:mI}{a:Act}(h:lL n bI o a){t:Nat}{v:Value}(hx:rdT bI o t=some v):a.tmps.getD t undef=v:=
 h.rd (x:=.tmp t) hx
theorem OX{n:Nat}{a:Act}:∀{l:List (Nat×oL)} {bI o:mI} {K:Fq (OJ l)->Prop},lL n bI o a->decL l bI o K->
  ∃t,K t/\∀i v,lV (Lz l t) i=some v->a.tmps.getD i undef=v
 | [],_,_,_,_,h=>⟨(),h,λi v hv=>by cases hv⟩
 |(i,k)::r,bI,o,K,hv,h=>by
  obtain⟨v,hr,h1⟩:=aV h;obtain⟨x,rfl,h2⟩:=oL.yS h1;obtain⟨t,hK,ht⟩:=OX (K:=λt=>K (x,t)) hv h2;refine⟨(x,t),hK,λj u hu=>?_⟩;simp only[Lz,lV] at hu;cases hb:Nat.beq i j with
  |true=>rw[hb] at hu;have:i=j:=IY hb;subst this;cases hu;exact HD hv hr
  |false=>rw[hb] at hu;exact ht j u hu
theorem EH{n:Nat}{bI o:mI}{a:Act}(hv:lL n bI o a){dY:Array Oper}{op:Oper}{yes no:mI->Prop}(h:MN dY op.guard bI o yes no):
  (∃fZ,lL n fZ o a/\Region.wanted op (yielded dY a.tmps)=true/\yes fZ)\/(∃fZ,lL n fZ o a/\Region.wanted op (yielded dY a.tmps)=false/\no fZ):=by
 unfold MN at h;cases hg:op.guard with
 |none=>rw[hg] at h;exact .inl ⟨bI,hv,by simp[Region.wanted,hg],h⟩
 |some jw=>
  obtain⟨j,want⟩:=jw;rw[hg] at h;obtain⟨s,hs,h1⟩:=aV h;obtain⟨v,hr,h2⟩:=aV h1;cases v<;>try (exact h2.elim)
  case tuple vs=>
   have ht:=HD hv hr;have hy:yielded dY a.tmps j=none:=by
    unfold mu at hs;cases hq:a.tmps[s]? with
    |none=>simp[yielded,hs,hq]
    |some u=>simp[hq] at ht;simp[yielded,hs,hq,ht]
   exact .inr ⟨bI,hv,by simp[Region.wanted,hg,hy],h2⟩
  rename_i t
  have ht:=HD hv hr;have hy:yielded dY a.tmps j=some t:=by
   unfold mu at hs;have hsome:a.tmps[s]? =some (.bool t):=by
    cases hq:a.tmps[s]? with
    |none=>simp[hq,undef] at ht
    |some u=>simp[hq] at ht;rw[ht]
   simp[yielded,hs,hsome]
  cases Ll:lV o s with
  |some u=>simp only[Ll] at h2
  |none=>
  simp only[Ll] at h2;have wo:lL n ((s,.bool t)::bI) o a:=by
   refine⟨hv.size,?_,hv.o,hv.ur⟩;intro i u hu;simp only[lV] at hu;cases hb:Nat.beq s i with
   |true=>rw[hb] at hu;have:s=i:=IY hb;subst this;cases hu;exact ht
   |false=>rw[hb] at hu;exact hv.bI i u hu
  cases t<;>cases want
  ·exact .inl ⟨_,wo,by simp[Region.wanted,hg,hy],h2⟩
  ·exact .inr ⟨_,wo,by simp[Region.wanted,hg,hy],h2⟩
  ·exact .inr ⟨_,wo,by simp[Region.wanted,hg,hy],h2⟩
  ·exact .inl ⟨_,wo,by simp[Region.wanted,hg,hy],h2⟩
theorem Yd{P:Program}{env:Env}(LI:QX P env){n:Nat}{bI o:mI}{a:Act}(hv:lL n bI o a)(op:Oper){w:aH}{K:Value->aH->Prop}{next:Act->aH->Prop}{Q:Exit->Act->aH->Prop}
  (h:opD P env bI o op.op op.type w K) (hn:∀v w',K v w'->next (a.put op.dst v) w'):op.wp P a w next Q:=by
 unfold opD at h;cases hp:isPure P op.op with
 |true=>rw[hp] at h;obtain⟨v,hK,hr⟩:=Jg hv op h;exact upon_value (hr w) (hn _ _ hK)
 |false=>rw[hp] at h;exact Pd LI hv op h hn
theorem TR{C:Ctx}(LI:QX C.P C.env){dY:Array Oper}{o:mI}{K:mI->aH->Prop}{Q:Exit->Act->aH->Prop}(hQ:∀bI a w,lL C.n bI o a->K bI w->Q .normal a w):
  ∀(l:List Oper) (bI:mI) (a:Act) (w:aH),lL C.n bI o a->regD C dY o K l bI w->wpList C.P dY Q l a w
 | [],bI,a,w,hv,h=>hQ bI a w hv h
 |op::r,bI,a,w,hv,h=>by
  simp only[regD] at h;unfold wpList;rcases EH hv h with⟨fZ,jZ,hw,h1⟩|⟨fZ,jZ,hw,h1⟩
  ·rw[if_pos hw];refine .inl (Yd LI jZ op h1 λv w' h2=>?_);obtain⟨iH,h3,h4⟩:=wZ h2;exact TR LI hQ r iH _ w' (h4 a jZ) h3
  ·rw[if_neg (by rw[hw];simp)];obtain⟨iH,h3,h4⟩:=wZ h1;exact TR LI hQ r iH _ w (h4 a jZ) h3
def Wd(P:Program)(dY:Array Oper)(Q:Exit->WQ Act):Nat->Array Bool->BR->Act->aH->Prop
 |0,done,_,a,w=>Region.ready .any dY done=[]/\Q .normal a w
 |f+1,done,pd,a,w=>(Region.ready .any dY done=[]->Q .normal a w)/\∀j∈Region.ready .any dY done,∀oj,dY[j]? =some oj->
   wpOp P dY Q j (λa' w'=>(∀p∈dI oj pd,p.2 w')/\Wd P dY Q f (done.setIfInBounds j true) (dI oj pd) a' w') a w
theorem Wd_any{P:Program}{dY:Array Oper}{Q:Exit->Act->aH->Prop}:∀(f:Nat) (done:Array Bool) (pd:BR) (a:Act) (w:aH),Wd P dY Q f done pd a w->wpAny P .any dY Q f done a w
 |0,_,_,_,_,h=>h
 |f+1,done,pd,a,w,h=>⟨h.1,λj hj=>by
  obtain⟨_,o,ho,_⟩:=mem_ready.1 hj;exact wpOp_mono (λa' w' h'=>Wd_any f _ _ a' w' h'.2) (h.2 j hj o ho)⟩
theorem jW{op:Oper}:∀{pd:BR} {p:List Nat×(aH->Prop)},p∈dI op pd↔p∈pd/\iV op p.1=false
 | [],p=>by simp[dI]
 |(l,C)::r,p=>by
  simp only[dI];cases hw:iV op l with
  |true=>
   simp only[cond_true,jO,jW (pd:=r)]
   constructor
   ·rintro⟨h1,h2⟩;exact⟨.inr h1,h2⟩
   ·rintro⟨h1|h1,h2⟩
    ·subst h1;rw[hw] at h2;cases h2
    ·exact⟨h1,h2⟩
  |false=>
   simp only[cond_false,jO,jW (pd:=r)]
   constructor
   ·rintro(h1|⟨h1,h2⟩)
    ·subst h1;exact⟨.inl rfl,hw⟩
    ·exact⟨.inr h1,h2⟩
   ·rintro⟨h1|h1,h2⟩
    ·exact .inl h1
    ·exact .inr ⟨h1,h2⟩
theorem Wd_sub{P:Program}{dY:Array Oper}{Q:Exit->Act->aH->Prop}:∀(f:Nat) (done:Array Bool) (pd fg:BR) (a:Act) (w:aH),(∀p∈fg,p∈pd)->Wd P dY Q f done pd a w->Wd P dY Q f done fg a w
 |0,_,_,_,_,_,_,h=>h
 |f+1,done,pd,fg,a,w,hs,h=>⟨h.1,λj hj oj Lk=>wpOp_mono (λa' w' h'=>by
   have LU:∀p∈dI oj fg,p∈dI oj pd:=λp hp=>jW.2 ⟨hs p (jW.1 hp).1,(jW.1 hp).2⟩;exact⟨λp hp=>h'.1 p (LU p hp),Wd_sub f _ _ _ a' w' LU h'.2⟩) (h.2 j hj oj Lk)⟩
def vQ(P:Program)(dY:Array Oper)(Cl:aH->Prop)(o:Oper)(v:Value)(a:Act):Prop:=
 (Region.wanted o (yielded dY a.tmps)=true/\∀w,Cl w->(execOp a.eval o).run P w=.ok (.value v) w)\/
 (Region.wanted o (yielded dY a.tmps)=false/\v=undef)
theorem vQ.wpOp{P:Program}{dY:Array Oper}{Cl:aH->Prop}{Q:Exit->Act->aH->Prop}{i:Nat}{o:Oper}{v:Value}{a:Act}(hi:dY[i]? =some o)(hy:vQ P dY Cl o v a)
  {K:Act->aH->Prop} {w:aH} (hw:Cl w) (h:K (a.put o.dst v) w):wpOp P dY Q i K a w:=by
 unfold Go.wpOp;simp only[hi];rcases hy with⟨h1,hv⟩|⟨h1,rfl⟩
 ·simp only[h1,if_true,Oper.wp,hv w hw,Oper.upon];exact .inl h
 ·simp only[h1,Bool.false_eq_true,if_false];exact h
theorem wpOp_putC{P:Program}{dY:Array Oper}{Cl:aH->Prop}{Q:Exit->Act->aH->Prop}{j:Nat}{oi oj:Oper}{v:Value}(hj:dY[j]? =some oj)(hap:oi.apart dY oj=true)
  (jb:∀cs b,oi.op≠.select cs b) (hsj:∀cs b,oj.op≠.select cs b)
  (hQ:∀c a w,Q (.panic c) (a.put oi.dst v) w->Q (.panic c) a w) {K:Act->aH->Prop} {a:Act} {w:aH}
  (hy:vQ P dY Cl oi v a) (h:Go.wpOp P dY Q j K (a.put oi.dst v) w):
  Go.wpOp P dY Q j (λa' w'=>vQ P dY Cl oi v a'/\K (a'.put oi.dst v) w') a w:=by
 obtain⟨h1,h2,h3⟩:=Oper.apart_spec hap;have of_same:∀{a a':Act},vQ P dY Cl oi v a->execOp a'.eval oi=execOp a.eval oi->Region.wanted oi (yielded dY a'.tmps)=Region.wanted oi (yielded dY a.tmps)->vQ P dY Cl oi v a':=λhy he hw=>by
  unfold vQ at*;rw[he,hw];exact hy
 have aO:∀(a:Act),vQ P dY Cl oi v a->∀u,vQ P dY Cl oi v (a.put oj.dst u):=λa hy u=>
  of_same hy (execOp_put oi jb a oj.dst u h3) (wanted_put oi a oj.dst u h3)
 have keepD:∀d,vQ P dY Cl oi v {a with defers:=d::a.defers}:=λd=>of_same hy rfl rfl;unfold Go.wpOp at*;simp only[hj] at*;rw[wanted_put oj a oi.dst v h1] at h
 split
 ·rename_i hw
  simp only[hw,if_true] at h;rcases h with h|⟨hasks,hlets⟩
  case inr=>exact .inr ⟨by unfold Oper.asks at*;rw[execOp_put oj hsj a oi.dst v h1] at hasks;exact hasks,hlets⟩
  refine .inl ?_;unfold Oper.wp at*;rw[execOp_put oj hsj a oi.dst v h1] at h;generalize (execOp a.eval oj).run P w=r at*;cases r with
  |ok n w'=>
   cases n<;>simp only[Oper.upon] at h ⊢
   case value u=>exact⟨aO a hy u,by rw[<-Act.put_comm a v u h2];exact h⟩
   case skip=>exact⟨aO a hy _,by rw[<-Act.put_comm a v undef h2];exact h⟩
   case defer d=>refine⟨aO _ (keepD d) _,?_⟩;rw[<-Act.put_comm _ v undef h2,<-Act.put_defers];exact h
   case enter f args=>
    refine Calls.mono h λe Nc he=>?_;cases e with
    |returned u=>exact⟨aO a hy u,by rw[<-Act.put_comm a v u h2];exact he⟩
    |panicked c=>exact hQ _ _ _ he
    |outgrown=>exact he
   case row row args=>exact Rows.mono h λu Nc he=>⟨aO a hy u,by rw[<-Act.put_comm a v u h2];exact he⟩
  |halt x w'=>
   cases x<;>simp only[Oper.upon] at h ⊢
   case panic u=>exact hQ _ _ _ h
 ·rename_i hw
  simp only[hw] at h;exact⟨aO a hy _,by rw[<-Act.put_comm a v undef h2];exact h⟩
theorem FN{i:Nat}{op:Oper}:∀{pd:BR} {l:List Nat} {Cl:aH->Prop},(l,Cl)∈pd->(l,Cl)∈iJ i op pd\/(iV op l=true/\(i::l,Cl)∈iJ i op pd)
 | [],_,_,h=>by cases h
 |(l',C')::r,l,Cl,h=>by
  simp only[iJ];rcases jO.1 h with h|h
  ·obtain⟨rfl,rfl⟩:=Prod.mk.inj h;cases hw:iV op l with
   |true=>exact .inr ⟨rfl,by simp⟩
   |false=>exact .inl dN
  ·rcases FN (i:=i) (op:=op) h with h|⟨h1,h2⟩
   ·left;cases iV op l'<;>exact VG _ h
   ·right;refine⟨h1,?_⟩;cases iV op l'<;>exact VG _ h2
theorem tC{i:Nat}{op:Oper}:∀{pd:BR} {p:List Nat×(aH->Prop)},p∈iJ i op pd->∃l,(l,p.2)∈pd/\((p.1=l/\iV op l=false)\/(p.1=i::l/\iV op l=true))
 | [],p,h=>by cases h
 |(l',C')::r,p,h=>by
  simp only[iJ] at h;cases hw:iV op l' with
  |true=>
   rw[hw] at h;rcases jO.1 h with h|h
   ·subst h;exact⟨l',by simp,.inr ⟨rfl,hw⟩⟩
   ·obtain⟨l,h1,h2⟩:=tC h;exact⟨l,VG _ h1,h2⟩
  |false=>
   rw[hw] at h;rcases jO.1 h with h|h
   ·subst h;exact⟨l',by simp,.inl ⟨rfl,hw⟩⟩
   ·obtain⟨l,h1,h2⟩:=tC h;exact⟨l,VG _ h1,h2⟩
theorem RA{op:Oper}{i:Nat}{l:List Nat}(h:∀e∈op.after,Region.binds .any e=true->e.on≠i):iV op (i::l)=iV op l:=by
 unfold iV;rw[Bool.eq_iff_iff,List.any_eq_true,List.any_eq_true]
 constructor
 ·rintro⟨e,he,hb⟩;simp only[sV] at hb;refine⟨e,he,?_⟩;simp only[sV];refine⟨hb.1,?_⟩;have gK:=h e (by simpa using he) hb.1;have h2:=hb.2;simp only[mem] at h2;have:Nat.beq i e.on=false:=by
   cases hq:Nat.beq i e.on with
   |false=>rfl
   |true=>exact absurd (IY hq).symm gK
  rw[this] at h2;exact h2
 ·rintro⟨e,he,hb⟩;simp only[sV] at hb;refine⟨e,he,?_⟩;simp only[sV];refine⟨hb.1,?_⟩;simp only[mem];cases Nat.beq i e.on with
  |true=>rfl
  |false=>exact hb.2
theorem Ts{op:Oper}{i:Nat}(h:∀e∈op.after,Region.binds .any e=true->e.on≠i):iV op [i]=false:=by
 rw[RA h];unfold iV;rw[List.any_eq_false];intro e he;simp[mem]
theorem On{i:Nat}{oi oj:Oper}(pA:∀e∈oj.after,Region.binds .any e=true->e.on≠i):∀(pd:BR),dI oj (iJ i oi pd)=iJ i oi (dI oj pd)
 | []=>rfl
 |(l,C)::r=>by
  have ih:=On (i:=i) (oi:=oi) pA r;simp only[iJ,dI];cases h1:iV oi l with
  |true=>
   simp only[cond_true,dI,RA pA];cases h2:iV oj l with
   |true=>simpa using ih
   |false=>simp[iJ,h1,ih]
  |false=>
   simp only[cond_false,dI];cases h2:iV oj l with
   |true=>simpa using ih
   |false=>simp[iJ,h1,ih]
theorem Ij{P:Program}{dY:Array Oper}{Cl:aH->Prop}{Q:Exit->Act->aH->Prop}{i:Nat}{oi:Oper}{v:Value}(hi:dY[i]? =some oi)(hsel:∀(j:Nat) (o:Oper) cs b,dY[j]? =some o->o.op≠.select cs b)
  (hQ:∀c a w,Q (.panic c) (a.put oi.dst v) w->Q (.panic c) a w):
  ∀(f:Nat) (done:Array Bool) (pd:BR) (a:Act) (w:aH),
   (∀j oj,dY[j]? =some oj->j≠i->done.getD j true=false->(∀e∈oj.after,Region.binds .any e=true->e.on≠i)->oi.apart dY oj=true)->
   i∈Region.ready .any dY done->vQ P dY Cl oi v a->Cl w->(∀p∈pd,p.2 w)->
   Wd P dY Q f (done.setIfInBounds i true) (([i],Cl)::iJ i oi pd) (a.put oi.dst v) w->Wd P dY Q (f+1) done pd a w:=by
 intro f
 induction f with
 |zero=>
  intro done pd a w _ hr hy hC hp H;refine⟨λh=>(by rw[h] at hr;cases hr),λj hj oj Lk=>?_⟩
  by_cases EZ:j=i
  ·subst EZ;rw[hi] at Lk;cases Lk;exact hy.wpOp hi hC ⟨λp jc=>hp p (jW.1 jc).1,H.1,H.2⟩
  ·have:=ready_mono hj EZ;rw[H.1] at this;cases this
 |succ f ih=>
  intro done pd a w hfree hr hy hC hp H;refine⟨λh=>(by rw[h] at hr;cases hr),λj hj oj Lk=>?_⟩
  by_cases EZ:j=i
  ·subst EZ;rw[hi] at Lk;cases Lk;refine hy.wpOp hi hC ⟨λp jc=>hp p (jW.1 jc).1,Wd_sub _ _ _ _ _ _ ?_ H⟩;intro p jc;obtain⟨h1,h2⟩:=jW.1 jc;obtain⟨l,Cl'⟩:=p;rcases FN (i:=j) (op:=oi) h1 with h3|⟨h3,_⟩
   ·exact VG _ h3
   ·rw[h2] at h3;cases h3
  ·obtain⟨hjun,oj',hoj',qS⟩:=mem_ready.1 hj;rw[Lk] at hoj';cases hoj';have h1:=H.2 j (ready_mono hj EZ) oj Lk;have ku:∀e∈oj.after,Region.binds .any e=true->e.on≠i:=λe he hb heq=>by
    have h1:=qS e he hb;have h0:=(mem_ready.1 hr).1;rw[heq] at h1;rcases Nat.lt_or_ge i done.size with h'|h'
    ·simp[h'] at h0 h1;rw[h0] at h1;cases h1
    ·simp[Array.getElem?_eq_none h'] at h1
   have h2:=wpOp_putC Lk (hfree j oj Lk EZ hjun ku) (λcs b=>hsel i oi cs b hi) (λcs b=>hsel j oj cs b Lk) hQ hy h1;have hfree':∀k ok,dY[k]? =some ok->k≠i->(done.setIfInBounds j true).getD k true=false->
     (∀e∈ok.after,Region.binds .any e=true->e.on≠i)->oi.apart dY ok=true:=λk ok hk hki Dy pA=>by
    refine hfree k ok hk hki ?_ pA
    by_cases hjk:j=k
    ·subst hjk;exact hjun
    ·rw[getD_set_ne true hjk] at Dy;exact Dy
   have jc:dI oj (([i],Cl)::iJ i oi pd)=([i],Cl)::iJ i oi (dI oj pd):=by simp only[dI,Ts ku,cond_false];rw[On ku]
   rw[jc] at h2;refine wpOp_mono (λa' w' h3=>?_) h2;obtain⟨Dw,hcl,hW⟩:=h3;have hCw:Cl w':=hcl ([i],Cl) dN;have hpd:∀p∈dI oj pd,p.2 w':=λp hpp=>by
    obtain⟨l,Cl'⟩:=p;rcases FN (i:=i) (op:=oi) hpp with h4|⟨_,h4⟩
    ·exact hcl _ (VG _ h4)
    ·exact hcl (i::l,Cl') (VG _ h4)
   refine⟨hpd,ih (done.setIfInBounds j true) (dI oj pd) a' w' hfree' (ready_mono hr (Ne.symm EZ)) Dw hCw hpd ?_⟩;rw[Array.setIfInBounds_comm _ _ EZ];exact hW
theorem TZ:∀{pd:BR} {w:aH} {G:Prop},Ar pd w G->(∀p∈pd,p.2 w)/\G
 | [],_,_,h=>⟨(λp hp=>by cases hp),h⟩
 |(l,C)::r,w,G,h=>by
  obtain⟨h1,h2⟩:=h;obtain⟨h3,h4⟩:=TZ h2;exact⟨λp hp=>by
   rcases jO.1 hp with hp|hp
   ·subst hp;exact h1
   ·exact h3 p hp,h4⟩
theorem av{P:Program}{n:Nat}{bI o:mI}{a:Act}(hv:lL n bI o a)(op:Oper){w:aH}{K:Value->Option (aH->Prop)->Prop}(h:floatD P bI o op.op w K):
  ∃v Cv,K v Cv/\match Cv with
   |some C=>C w/\∀w',C w'->(execOp a.eval op).run P w'=.ok (.value v) w'
   |none=>∀w',(execOp a.eval op).run P w'=.ok (.value v) w':=by
 have other:Wu P bI o op.op (λv=>K v none)->∃v Cv,K v Cv/\match Cv with
   |some C=>C w/\∀w',C w'->(execOp a.eval op).run P w'=.ok (.value v) w'
   |none=>∀w',(execOp a.eval op).run P w'=.ok (.value v) w':=λhp=>by
  obtain⟨v,hK,hr⟩:=Jg hv op hp;exact⟨v,none,hK,hr⟩
 obtain⟨dst,op,ty,pos,after,guard⟩:=op;cases op
 case load t x=>
  obtain⟨v,hx,h1⟩:=aV h;cases v<;>try (exact h1.elim)
  obtain⟨ad,rfl,h2⟩:=pF h1;obtain⟨v,C,hK,hC,hr⟩:=TW h2;exact⟨v,some C,hK,hC,λw' hw'=>by simp[execOp,hv.rd hx,Instr.loadAt,Instr.sureAddr,hr w' hw']⟩
 all_goals exact other h
theorem xL{f:Nat->Bool}:∀{n:Nat},Ha f n=true->∀i,i<n->f i=true
 |0,_,i,hi=>absurd hi (Nat.not_lt_zero _)
 |n+1,h,i,hi=>by
  simp only[Ha,sV] at h;rcases Nat.lt_or_ge i n with h1|h1
  ·exact xL h.2 i h1
  ·have:i=n:=aB;subst this;exact h.1
def qX(n m:Nat):Array Bool:=(Array.range n).map λi=>Nat.testBit m i
theorem Jy{n m j:Nat}{d:Bool}:(qX n m).getD j d=if j<n then Nat.testBit m j else d:=by
 unfold qX
 by_cases h:j<n
 ·simp[h]
 ·simp[h]
theorem Jx(n:Nat):Array.replicate n false=qX n 0:=by
 apply Array.ext
 ·simp[qX]
 ·intro i h1 h2;simp[qX]
theorem nI(m i j:Nat):Nat.testBit (Nat.lor m (Nat.shiftLeft 1 i)) j=(Nat.testBit m j ||decide (i=j)):=by
 show Nat.testBit (m |||1<<<i) j=_;rw[Nat.testBit_or,Nat.testBit_shiftLeft];congr 1
 by_cases RT:i=j
 ·subst RT;simp
 ·by_cases LK:i<=j
  ·obtain⟨k,hk⟩:∃k,j-i=k+1:=⟨j-i-1,aB⟩;rw[hk];simp[RT,Nat.testBit_succ]
  ·simp[RT,LK]
theorem ZS(n m i:Nat):(qX n m).setIfInBounds i true=qX n (Nat.lor m (Nat.shiftLeft 1 i)):=by
 apply Array.ext_getElem?;intro j;rw[Array.getElem?_setIfInBounds]
 by_cases RT:i=j
 ·subst RT
  by_cases hn:i<n
  ·have:=nI m i i;simp only[qX,Array.size_map,Array.size_range,hn,if_true,Array.getElem?_map,Array.getElem?_range,Option.map_some,this];simp
  ·simp[qX,hn]
 ·by_cases hn:j<n
  ·have:=nI m i j;simp only[qX,Array.getElem?_map,Array.getElem?_range,hn,if_true,Option.map_some,this,RT,if_false];simp
  ·simp[qX,hn,RT]
theorem uH{dY:Array Oper}{m j:Nat}:j∈Region.ready .any dY (qX dY.size m)↔sN dY m j=true:=by
 rw[mem_ready];unfold sN Ti;cases ho:dY[j]? with
 |none=>simp
 |some o=>
  have cC:j<dY.size:=(Array.getElem?_eq_some_iff.1 ho).1;simp only[Jy,cC,if_true,Option.some.injEq,exists_eq_left',sV,Bool.not_eq_true',List.all_eq_true,Bool.or_eq_true]
  constructor
  ·rintro⟨h1,h2⟩;refine⟨h1,λe he=>?_⟩;cases hb:Region.binds .any e
   ·exact .inl rfl
   ·right;have:=h2 e (by simpa using he) hb
    split at this
    ·rename_i hl;exact⟨by simpa using hl,this⟩
    ·cases this
  ·rintro⟨h1,h2⟩;refine⟨h1,λe he hb=>?_⟩;rcases h2 e (by simpa using he) with h|⟨h,h'⟩
   ·rw[hb] at h;cases h
   ·rw[if_pos (by simpa using h)];exact h'
theorem qs{dY:Array Oper}{m i:Nat}{oi:Oper}(h:freeB dY m i oi=true)(j:Nat)(oj:Oper)
  (hj:dY[j]? =some oj) (gK:j≠i) (Dy:(qX dY.size m).getD j true=false) (pA:∀e∈oj.after,Region.binds .any e=true->e.on≠i):
  oi.apart dY oj=true:=by
 have cC:j<dY.size:=(Array.getElem?_eq_some_iff.1 hj).1;have h1:=xL h j cC;rw[Jy,if_pos cC] at Dy;simp only[hj,Bool.or_eq_true,Dy,Bool.false_eq_true,or_false] at h1;rcases h1 with h1|h1|h1
 ·exact absurd (IY h1) gK
 ·rw[List.any_eq_true] at h1;obtain⟨e,he,hb⟩:=h1;simp only[sV] at hb;exact absurd (IY hb.2) (pA e (by simpa using he) hb.1)
 ·exact h1
def mainStep(C:Ctx)(dY:Array Oper)(o:mI)(K:WQ mI)(i:Nat)(p:LX)(m:Nat)(pd:BR)(bI:mI)(w:aH):Prop:=
 nL dY[i]? λop=>MN dY op.guard bI o
  (λfZ=>effD C.P C.env fZ o op.op op.type w λv w'=>Ar (dI op pd) w' (VF C.n op.dst v o fZ λiH=>uM C dY o K p true (Nat.lor m (Nat.shiftLeft 1 i)) (dI op pd) iH w'))
  (λfZ=>Ar (dI op pd) w (VF C.n op.dst undef o fZ λiH=>uM C dY o K p true (Nat.lor m (Nat.shiftLeft 1 i)) (dI op pd) iH w))
theorem zh{P:Program}{dY:Array Oper}{Q:Exit->Act->aH->Prop}{f:Nat}{done:Array Bool}{l:List Nat}{pd:BR}{a:Act}{w:aH}
  (h:Wd P dY Q f done pd a w):Wd P dY Q f done ((l,λ_=>True)::pd) a w:=by
 suffices H:∀(f:Nat) (done:Array Bool) (pd fg:BR) (a:Act) (w:aH),(∀p∈fg,p∈pd\/∀w,p.2 w)->Wd P dY Q f done pd a w->Wd P dY Q f done fg a w by
  refine H f done pd _ a w (λp hp=>?_) h;rcases jO.1 hp with rfl|hp
  ·exact .inr λ_=>trivial
  ·exact .inl hp
 clear h;intro f
 induction f with
 |zero=>exactλdone pd fg a w _ h=>h
 |succ f ih=>
  intro done pd fg a w hs h;refine⟨h.1,λj hj oj Lk=>wpOp_mono (λa' w' h'=>?_) (h.2 j hj oj Lk)⟩;have LU:∀p∈dI oj fg,p∈dI oj pd\/∀w,p.2 w:=λp hp=>by
   obtain⟨h1,h2⟩:=jW.1 hp;rcases hs p h1 with h3|h3
   ·exact .inl (jW.2 ⟨h3,h2⟩)
   ·exact .inr h3
  exact⟨λp hp=>(LU p hp).elim (h'.1 p) (λh=>h w'),ih _ _ _ a' w' LU h'.2⟩
theorem drawP_mn{C:Ctx}{dY:Array Oper}{o:mI}{K:mI->aH->Prop}{i:Nat}{p r:LX}{head:Bool}{m:Nat}{pd:BR}{bI:mI}{w:aH}(h:uM C dY o K (.mn i p r) head m pd bI w):
  (!head ||(sN dY m i && covered dY m (.mn i p r)))=true/\mainStep C dY o K i p m pd bI w/\(r≠.no->uM C dY o K r false m pd bI w):=by
 have hc:(!head ||(sN dY m i && covered dY m (.mn i p r)))=true:=by
  cases hc:(!head ||(sN dY m i && covered dY m (.mn i p r))) with
  |true=>rfl
  |false=>cases r<;>simp only[uM,hc] at h<;>exact h.elim
 refine⟨hc,?_⟩;cases r<;>simp only[uM,hc,cond_true] at h
 case no=>exact⟨h,λh'=>absurd rfl h'⟩
 all_goals exact⟨h.1,λ_=>by simpa only[uM] using h.2⟩
theorem az{C:Ctx}(LI:QX C.P C.env){dY:Array Oper}(hns:Region.noSelect dY=true){o:mI}{K:mI->aH->Prop}{Q:Exit->Act->aH->Prop}(hQ:∀bI a w,lL C.n bI o a->K bI w->Q .normal a w)
  (hQp:∀c a w,¬Q (.panic c) a w):
  ∀(p:LX) (head:Bool) (m:Nat) (pd:BR) (bI:mI) (a:Act) (w:aH) (f:Nat),p.depth<=f->lL C.n bI o a->(∀q∈pd,q.2 w)->uM C dY o K p head m pd bI w->
   (head=true->Wd C.P dY Q f (qX dY.size m) pd a w)/\
   (∀j,JP p j=true->∀f',f=f'+1->∀oj,dY[j]? =some oj->wpOp C.P dY Q j (λa' w'=>(∀q∈dI oj pd,q.2 w')/\Wd C.P dY Q f' (qX dY.size (Nat.lor m (Nat.shiftLeft 1 j))) (dI oj pd) a' w') a w):=by
 intro p
 induction p with
 |dQ=>
  intro head m pd bI a w f hd hv hp h;refine⟨λ_=>?_,λj hj=>by cases hj⟩;simp only[uM] at h;cases hc:covered dY m .no with
  |false=>rw[hc] at h;exact h.elim
  |true=>
   rw[hc] at h;have h0:Region.ready .any dY (qX dY.size m)=[]:=by
    cases hr:Region.ready .any dY (qX dY.size m) with
    |nil=>rfl
    |cons j r=>
     have hj:j∈Region.ready .any dY (qX dY.size m):=by rw[hr];simp
     have BC:=uH.1 hj;have cC:j<dY.size:=by
      unfold sN at BC;cases ho:dY[j]? with
      |none=>rw[ho] at BC;cases BC
      |some _=>exact(Array.getElem?_eq_some_iff.1 ho).1
     have:=xL hc j cC;simp[JP,BC] at this
   cases f with
   |zero=>exact⟨h0,hQ bI a w hv h⟩
   |succ f=>exact⟨λ_=>hQ bI a w hv h,λj hj=>by rw[h0] at hj;cases hj⟩
 |no=>intro head m pd bI a w f hd hv hp h;exact⟨λhh=>by subst hh;exact h.elim,λj hj=>by cases hj⟩
 |fl i p ih=>
  intro head m pd bI a w f hd hv hp h;refine⟨λ_=>?_,λj hj=>by cases hj⟩;simp only[LX.depth] at hd;obtain⟨f,rfl⟩:∃g,f=g+1:=⟨f-1,aB⟩;simp only[uM] at h;obtain⟨op,hio,h⟩:=aV h;cases hc:(sN dY m i && freeB dY m i op) with
  |false=>rw[hc] at h;exact h.elim
  |true=>
   rw[hc] at h;simp only[cond_true] at h;simp only[sV] at hc;have hir:=uH.2 hc.1;have hfr:=qs hc.2;have goOn:∀(fg:BR) (iH:mI) (a':Act),lL C.n iH o a'->(∀q∈fg,q.2 w)->uM C dY o K p true (Nat.lor m (Nat.shiftLeft 1 i)) fg iH w->
     Wd C.P dY Q f ((qX dY.size m).setIfInBounds i true) fg a' w:=λfg iH a' jZ hp' h'=>by
    rw[ZS];exact(ih true _ fg iH a' w f aB jZ hp' h').1 rfl
   ·rcases EH hv h with⟨fZ,jZ,hw,h1⟩|⟨fZ,jZ,hw,h1⟩
    ·obtain⟨v,Cv,h2,hr⟩:=av jZ op h1;obtain⟨iH,h3,h4⟩:=wZ h2;cases Cv with
     |some Cl=>
      obtain⟨hC,hr⟩:=hr;refine Ij (Cl:=Cl) hio (Region.noSelect_spec hns) (λc a w hq=>absurd hq (hQp _ _ _)) f _ pd a w hfr hir (.inl ⟨hw,hr⟩) hC hp ?_;refine goOn _ iH _ (h4 a jZ) ?_ h3;intro p jc;rcases jO.1 jc with rfl|jc
      ·exact hC
      ·obtain⟨l,h5,_⟩:=tC jc;exact hp (l,p.2) h5
     |none=>
      refine Ij (Cl:=λ_=>True) hio (Region.noSelect_spec hns) (λc a w hq=>absurd hq (hQp _ _ _)) f _ pd a w hfr hir (.inl ⟨hw,λw' _=>hr w'⟩) trivial hp ?_;exact zh (goOn _ iH _ (h4 a jZ) (λp jc=>by
       obtain⟨l,h5,_⟩:=tC jc;exact hp (l,p.2) h5) h3)
    ·obtain⟨iH,h3,h4⟩:=wZ h1;refine Ij (Cl:=λ_=>True) (v:=undef) hio (Region.noSelect_spec hns) (λc a w hq=>absurd hq (hQp _ _ _)) f _ pd a w hfr hir (.inr ⟨hw,rfl⟩) trivial hp ?_;exact zh (goOn _ iH _ (h4 a jZ) (λp jc=>by
      obtain⟨l,h5,_⟩:=tC jc;exact hp (l,p.2) h5) h3)
 |mn i p r ihp ihr=>
  intro head m pd bI a w f hd hv hp h;have gd:p.depth+1<=f/\r.depth<=f:=by
   simp only[LX.depth] at hd;cases hb:Nat.ble (p.depth+1) r.depth with
   |true=>rw[hb] at hd;have:=Nat.le_of_ble_eq_true hb;simp only[cond_true] at hd;omega
   |false=>
    rw[hb] at hd;have:¬(p.depth+1<=r.depth):=λh=>by rw[Nat.ble_eq_true_of_le h] at hb;cases hb
    simp only[cond_false] at hd;omega
  obtain⟨hc,two⟩:=drawP_mn h
  ·skip
   have second:∀j,JP (.mn i p r) j=true->∀f',f=f'+1->∀oj,dY[j]? =some oj->wpOp C.P dY Q j (λa' w'=>(∀q∈dI oj pd,q.2 w')/\Wd C.P dY Q f' (qX dY.size (Nat.lor m (Nat.shiftLeft 1 j))) (dI oj pd) a' w') a w:=by
    intro j hj f' hf oj Lk;simp only[JP,Bool.or_eq_true] at hj
    by_cases EZ:i=j
    ·subst EZ;obtain⟨op,Fl,h2⟩:=aV two.1;rw[Lk] at Fl;cases Fl;unfold wpOp;simp only[Lk];have goOn:∀(iH:mI) (a':Act) (w':aH),lL C.n iH o a'->(∀q∈dI oj pd,q.2 w')->uM C dY o K p true (Nat.lor m (Nat.shiftLeft 1 i)) (dI oj pd) iH w'->
       Wd C.P dY Q f' (qX dY.size (Nat.lor m (Nat.shiftLeft 1 i))) (dI oj pd) a' w':=λiH a' w' jZ hp' h'=>
      (ihp true _ _ iH a' w' f' aB jZ hp' h').1 rfl
     rcases EH hv h2 with⟨fZ,jZ,hw,h3⟩|⟨fZ,jZ,hw,h3⟩
     ·rw[if_pos hw];refine .inl (Pd LI jZ oj h3 λv w' h4=>?_);obtain⟨h5,h6⟩:=TZ h4;obtain⟨iH,h7,h8⟩:=wZ h6;exact⟨h5,goOn iH _ w' (h8 a jZ) h5 h7⟩
     ·rw[if_neg (by rw[hw];simp)];obtain⟨h5,h6⟩:=TZ h3;obtain⟨iH,h7,h8⟩:=wZ h6;exact⟨h5,goOn iH _ w (h8 a jZ) h5 h7⟩
    ·have hjr:JP r j=true:=hj.resolve_left λh=>EZ (IY h);have hrn:r≠.no:=by rintro rfl;cases hjr
     exact(ihr false m pd bI a w f gd.2 hv hp (two.2 hrn)).2 j hjr f' hf oj Lk
   refine⟨λhh=>?_,second⟩;subst hh;simp only[Bool.not_true,Bool.false_or,sV] at hc;obtain⟨f,rfl⟩:∃g,f=g+1:=⟨f-1,aB⟩;refine⟨λh0=>?_,λj hj oj Lk=>?_⟩
   ·have:=uH.2 hc.1;rw[h0] at this;cases this
   ·have BC:=uH.1 hj;have cC:j<dY.size:=(Array.getElem?_eq_some_iff.1 Lk).1;have:=xL hc.2 j cC;simp only[BC,Bool.not_true,Bool.or_false] at this;rw[ZS];exact second j this f rfl oj Lk
theorem Bm{n:Nat}{o:mI}{l:List Oper}(h:JK n o l=true):∀op∈l,∀d,op.dst=some d->d<n/\lV o d=none:=by
 induction l with
 |nil=>intro op hm;cases hm
 |cons op r ih=>
  intro op' hm d hd;simp only[JK,sV] at h;rcases jO.1 hm with he|hm
  ·subst he;have h1:=h.1;rw[hd] at h1;simp only[sV] at h1;refine⟨by simpa using h1.1,?_⟩;cases hl:lV o d with
   |none=>rfl
   |some v=>rw[hl] at h1;simp at h1
  ·exact ih h.2 op' hm d hd
theorem lL.jx{n:Nat}{bI o:mI}{a:Act}(h:lL n bI o a){dst:Option Nat}(hd:∀d,dst=some d->d<n/\lV o d=none)(v:Value):lL n (Den.jx dst v bI) o (a.put dst v):=by
 cases dst with
 |none=>exact h
 |some d=>
  obtain⟨h1,h2⟩:=hd d rfl;have hp:VF n (some d) v o bI λc=>c=(d,v)::bI:=by simp only[VF];rw[show Nat.blt d n=true by simpa using h1,h2];trivial
  obtain⟨c,rfl,hc⟩:=wZ hp;exact hc a h
theorem lL.outerOf{n:Nat}{o:mI}{a:Act}(hs:a.tmps.size=n)(hdf:a.defers=[])(h:∀t v,lV o t=some v->a.tmps.getD t undef=v):lL n [] o a:=⟨hs,λ_ _ h=>(by cases h),h,hdf⟩
def uF(m:Nat):Nat->Nat
 |0=>0
 |n+1=>uF m n+cond (Nat.testBit m n) 0 1
theorem Bb{m m':Nat}:∀{n},(∀j,j<n->Nat.testBit m' j=Nat.testBit m j)->uF m' n=uF m n
 |0,_=>rfl
 |n+1,h=>by simp only[uF];rw[Bb λj hj=>h j aB,h n aB]
theorem Iu{m i:Nat}(hi:Nat.testBit m i=false):∀{n},i<n->uF (Nat.lor m (Nat.shiftLeft 1 i)) n+1=uF m n
 |n+1,h=>by
  simp only[uF]
  by_cases he:i=n
  ·subst he;rw[Bb (m:=m) λj hj=>by rw[nI];simp;omega,nI,hi];simp
  ·have:=Iu hi (n:=n) aB;rw[nI];simp only[he,decide_false,Bool.or_false];omega
theorem Ba{m:Nat}:∀{n},uF m n=0->∀j,j<n->Nat.testBit m j=true
 |n+1,h,j,hj=>by
  simp only[uF] at h;cases ht:Nat.testBit m n with
  |false=>rw[ht] at h;simp at h
  |true=>
   by_cases he:j=n
   ·subst he;exact ht
   ·rw[ht] at h;exact Ba (n:=n) (by simpa using h) j aB
theorem Bc:∀n,uF 0 n=n
 |0=>rfl
 |n+1=>by simp[uF,Bc n]
theorem qg{dY:Array Oper}(hd:Ev dY=true){m:Nat}:∀j,j<dY.size->Nat.testBit m j=false->∃i,sN dY m i=true:=by
 intro j
 induction j using Nat.strongRecOn with
 |ind j ih=>
  intro hj ht;have hdj:=xL hd j hj;obtain⟨op,Fl⟩:∃op,dY[j]? =some op:=⟨dY[j],Array.getElem?_eq_getElem hj⟩;rw[Fl] at hdj;cases hr:sN dY m j with
  |true=>exact⟨j,hr⟩
  |false=>
   unfold sN at hr;rw[Fl] at hr;simp only[ht,Bool.not_false,Bool.true_and,Ti] at hr;rw[List.all_eq_false] at hr;obtain⟨e,he,hr⟩:=hr;have cC:=List.all_eq_true.1 hdj e he;simp only[Bool.or_eq_true,sV,not_or,not_and,Bool.not_eq_true] at hr;have hb:(!Region.binds .any e)=false:=by
    cases hb:(!Region.binds .any e) with
    |false=>rfl
    |true=>rw[hb] at hr;simp at hr
   rw[hb] at hr cC;have GM:e.on<j:=by simpa using cC
   have:Nat.testBit m e.on=false:=by
    cases htb:Nat.testBit m e.on with
    |false=>rfl
    |true=>
     have:Nat.blt e.on dY.size=true:=by simp;omega
     rw[this,htb] at hr;simp at hr
   exact ih e.on GM aB this
theorem XQ{C:Ctx}(LI:QX C.P C.env){dY:Array Oper}{i0 o:mI}{K:mI->aH->Prop}{Q:Exit->Act->aH->Prop}(hQ:∀bI a w,lL C.n bI o a->K bI w->Q .normal a w)
  (hf:JK C.n o dY.toList=true) (QE:JK C.n i0 dY.toList=true) (hd:Ev dY=true):
  ∀(k m:Nat) (bI:mI) (a:Act) (w:aH),uF m dY.size=k->lL C.n bI i0 a->(∀t v,lV o t=some v->a.tmps.getD t undef=v)->He C dY i0 K k m bI w->wpAny C.P .any dY Q k (qX dY.size m) a w
 |0,m,bI,a,w,hu,hv,ho,h=>by
  refine⟨?_,hQ bI a w ⟨hv.size,hv.bI,ho,hv.ur⟩ h⟩;rw[List.eq_nil_iff_forall_not_mem];intro j hj;have hr:=uH.1 hj;unfold sN at hr;cases Fl:dY[j]? with
  |none=>rw[Fl] at hr;cases hr
  |some op=>have cC:j<dY.size:=(Array.getElem?_eq_some_iff.1 Fl).1;rw[Fl] at hr;rw[Ba hu j cC] at hr;simp at hr
 |k+1,m,bI,a,w,hu,hv,ho,h=>by
  refine⟨λh0=>?_,λi hi=>?_⟩
  ·exfalso;have:∃j,j<dY.size/\Nat.testBit m j=false:=by
    apply Classical.byContradiction;intro hn;have qS:∀j,j<dY.size->Nat.testBit m j=true:=λj hj=>by
     cases ht:Nat.testBit m j with
     |true=>rfl
     |false=>exact absurd ⟨j,hj,ht⟩ hn
    have:uF m dY.size=0:=by
     clear hu h hv h0 hn;generalize dY.size=n at qS
     induction n with
     |zero=>rfl
     |succ n ih=>simp only[uF];rw[ih λj hj=>qS j aB,qS n aB];rfl
    omega
   obtain⟨j,hj,ht⟩:=this;obtain⟨i,hi⟩:=qg hd j hj ht;have:=uH.2 hi;rw[h0] at this;cases this
  ·have hr:=uH.1 hi;have hrr:=hr;unfold sN at hrr;cases Fl:dY[i]? with
   |none=>rw[Fl] at hrr;cases hrr
   |some op=>
    rw[Fl] at hrr;have cC:i<dY.size:=(Array.getElem?_eq_some_iff.1 Fl).1;have ht:Nat.testBit m i=false:=by simp only[sV] at hrr;simpa using hrr.1
    have hu':uF (Nat.lor m (Nat.shiftLeft 1 i)) dY.size=k:=by have:=Iu ht cC;omega
    have gF:op∈dY.toList:=by have:=Array.mem_of_getElem? Fl;simpa using this
    have gd:=Bm hf op gF;have hd2:=Bm QE op gF;unfold wpOp;rw[Fl,ZS];have next:∀(fZ:mI) (v:Value) (w':aH),lL C.n fZ i0 a->He C dY i0 K k (Nat.lor m (Nat.shiftLeft 1 i)) (jx op.dst v fZ) w'->
      wpAny C.P .any dY Q k (qX dY.size (Nat.lor m (Nat.shiftLeft 1 i))) (a.put op.dst v) w':=λfZ v w' jZ h'=>
     XQ LI hQ hf QE hd k _ _ _ w' hu' (jZ.jx hd2 v) (((lL.outerOf hv.size hv.ur ho).jx gd v).o) h'
    rcases EH hv (h i op Fl hr) with⟨fZ,jZ,hw,h1⟩|⟨fZ,jZ,hw,h1⟩
    ·simp only[hw,if_true];exact .inl (Yd LI jZ op h1 λv w' h2=>next fZ v w' jZ h2)
    ·simp only[hw];exact next fZ undef w jZ h1
def MC:Code->Bool
 | .region _ dY _=>Region.noSelect dY
 | .seq x y=>MC x && MC y
 | .cond _ x y=>MC x && MC y
 | .block _ c=>MC c
 | .loop c=>MC c
 |_=>true
theorem D_sound{C:Ctx}(hm:C.P.follows .mixedOrders=true)(LI:QX C.P C.env):∀(c:Code) (LP:Ann) (o:mI) (Q:Exit->WQ mI) (bI:mI) (w:aH) (a:Act) (Q':Exit->WQ Act),
  MC c=true->D C c LP o Q bI w->lL C.n bI o a->(∀e fZ a' w',lL C.n fZ o a'->Q e fZ w'->Q' e a' w')->(∀ch a w,¬Q' (.panic ch) a w)->c.wp C.P Q' a w:=by
 intro c
 induction c with
 |skip=>intro LP o Q bI w a Q' _ h hv hQ _;exact wp_skip (hQ _ _ _ _ hv h)
 |region id dY draw=>
  intro LP o Q bI w a Q' hs h hv hQ hp;simp only[D] at h;cases draw with
  |false=>exact wp_region_list (TR LI (λbI a w hv h=>hQ _ _ _ _ hv h) _ _ _ _ hv h)
  |true=>
   cases LP<;>try (exact h.elim)
   case o LB=>
    simp only[cond_true] at h;cases hb:(JK C.n o dY.toList && JK C.n (Gs LB bI o) dY.toList && Ev dY) with
    |false=>rw[hb] at h;exact h.elim
    |true=>
     rw[hb] at h;simp only[sV] at hb;have hpick:∀(l:List Nat) t v,lV (Gs l bI o) t=some v->a.tmps.getD t undef=v:=by
      intro l
      induction l with
      |nil=>intro t v ht;cases ht
      |cons s r ih=>
       intro t v ht;simp only[Gs] at ht;cases hr:rdT bI o s with
       |none=>rw[hr] at ht;exact ih t v ht
       |some u=>
        rw[hr] at ht;simp only[lV] at ht;cases hbq:Nat.beq s t with
        |false=>rw[hbq] at ht;exact ih t v ht
        |true=>rw[hbq] at ht;have:s=t:=IY hbq;subst this;cases ht;exact HD hv hr
     refine wp_region_any hm ?_;rw[Jx];exact XQ LI (λbI a w hv h=>hQ _ _ _ _ hv h) hb.1.1 hb.1.2 hb.2 dY.size 0 [] _ _ (Bc _) ⟨hv.size,λ_ _ h=>(by cases h),hpick LB,hv.ur⟩ hv.o h.out
   rename_i p
   simp only[cond_true] at h;cases hb:Nat.ble p.depth dY.size with
   |false=>rw[hb] at h;exact h.elim
   |true=>rw[hb] at h;refine wp_region_any hm ?_;rw[Jx];exact Wd_any _ _ [] _ _ ((az LI hs (λbI a w hv h=>hQ _ _ _ _ hv h) hp p true 0 [] bI a _ _ (Nat.le_of_ble_eq_true hb) hv (λp hp=>by cases hp) h).1 rfl)
 |seq x y ihx ihy=>
  intro LP o Q bI w a Q' hs h hv hQ hp;simp only[MC,sV] at hs;have plain:∀ax ay,D C x ax o (Wo (D C y ay o Q) Q) bI w->(Code.seq x y).wp C.P Q' a w:=λax ay h=>by
   refine wp_seq (ihx ax o _ bI w a _ hs.1 h hv ?_ ?_)
   ·intro e fZ a' w' jZ h';cases e with
    |normal=>exact ihy ay o Q fZ w' a' Q' hs.2 h' jZ hQ hp
    |exit i=>exact hQ _ _ _ _ jZ h'
    |goto l=>exact hQ _ _ _ _ jZ h'
    |ret=>exact hQ _ _ _ _ jZ h'
    |panic ch=>exact hQ _ _ _ _ jZ h'
    |outgrown=>exact hQ _ _ _ _ jZ h'
   ·exactλch a w h=>hp ch a w h
  cases LP with
  |n=>exact plain _ _ h
  |s ax ay=>exact plain _ _ h
  |j pQ drop ax ay=>
   simp only[D] at h;have h1:=h (λt w=>∀a,lL C.n (Lz pQ t++jT bI drop) o a->y.wp C.P Q' a w) (λt w ht a' jZ=>ihy ay o Q _ w a' Q' hs.2 ht jZ hQ hp);have hvx:lL C.n (Gu bI drop) (jT bI drop++o) a:=⟨hv.size,λt v ht=>hv.bI t v (TV drop t bI v ht).2,hv.outer drop,hv.ur⟩;have eO:∀fZ a',lL C.n fZ (jT bI drop++o) a'->lL C.n (fZ++jT bI drop) o a':=λfZ a' jZ=>by
    refine⟨jZ.size,?_,?_,jZ.ur⟩
    ·intro t v ht;rw[kJ] at ht;cases hl:lV fZ t with
     |some u=>rw[hl] at ht;simp at ht;subst ht;exact jZ.bI t _ hl
     |none=>rw[hl] at ht;simp only at ht;exact jZ.o t v (by rw[kJ,ht])
    ·intro t v ht;cases hl:lV (jT bI drop) t with
     |none=>exact jZ.o t v (by rw[kJ,hl];exact ht)
     |some u=>
      have h2:=jZ.o t u (by rw[kJ,hl]);rw[JR] at hl;cases hmm:mem drop t with
      |true=>rw[hmm] at hl;cases hl
      |false=>rw[hmm] at hl;have e1:=hv.bI t u hl;have e2:=hv.o t v ht;rw[h2,<-e1,e2]
   refine wp_seq (ihx ax _ _ (Gu bI drop) w a _ hs.1 h1 hvx ?_ ?_)
   ·intro e fZ a' w' jZ h';cases e with
    |normal=>
     obtain⟨t,hK,ht⟩:=OX jZ h';refine hK a' ⟨jZ.size,?_,(eO fZ a' jZ).o,jZ.ur⟩;intro i v hi;rw[kJ] at hi;cases hl:lV (Lz pQ t) i with
     |some u=>rw[hl] at hi;simp at hi;subst hi;exact ht i _ hl
     |none=>rw[hl] at hi;simp only at hi;exact jZ.o i v (by rw[kJ,hi])
    |exit i=>exact hQ _ _ _ _ (eO _ _ jZ) h'
    |goto l=>exact hQ _ _ _ _ (eO _ _ jZ) h'
    |ret=>exact hQ _ _ _ _ (eO _ _ jZ) h'
    |panic ch=>exact hQ _ _ _ _ (eO _ _ jZ) h'
    |outgrown=>exact hQ _ _ _ _ (eO _ _ jZ) h'
   ·exactλch a w h=>hp ch a w h
  |c _ _=>exact h.elim
  |b _=>exact h.elim
  |l _ _ _=>exact h.elim
  |r _=>exact h.elim
  |o _=>exact h.elim
 |cond c x y ihx ihy=>
  intro LP o Q bI w a Q' hs h hv hQ hp;simp only[MC,sV] at hs;have plain:∀ax ay,nL (rd bI o c) (λv=>condD v (D C x ax o Q bI w) (D C y ay o Q bI w))->(Code.cond c x y).wp C.P Q' a w:=λax ay h=>by
   obtain⟨v,hx,h1⟩:=aV h;cases v<;>try (exact h1.elim)
   rename_i t
   refine wp_cond (t:=t) (hv.rd hx) ?_;cases t with
   |true=>exact ihx ax o Q bI w a Q' hs.1 h1 hv hQ hp
   |false=>exact ihy ay o Q bI w a Q' hs.2 h1 hv hQ hp
  cases LP with
  |n=>exact plain _ _ h
  |c ax ay=>exact plain _ _ h
  |s _ _=>exact h.elim
  |b _=>exact h.elim
  |l _ _ _=>exact h.elim
  |j _ _ _ _=>exact h.elim
  |r _=>exact h.elim
  |o _=>exact h.elim
 |block id c ih=>
  intro LP o Q bI w a Q' hs h hv hQ hp;have plain:∀ax,D C c ax o (Sj id Q) bI w->(Code.block id c).wp C.P Q' a w:=λax h=>by
   refine wp_block (ih ax o _ bI w a _ hs h hv ?_ ?_)
   ·intro e fZ a' w' jZ h';cases e with
    |exit i=>
     simp only[Sj] at h';simp only[Exit.inBlock];cases hb:Nat.beq i id with
     |true=>rw[hb] at h';rw[if_pos (IY hb)];exact hQ _ _ _ _ jZ h'
     |false=>rw[hb] at h';rw[if_neg (Nat.ne_of_beq_eq_false hb)];exact hQ _ _ _ _ jZ h'
    |normal=>exact hQ _ _ _ _ jZ h'
    |goto l=>exact hQ _ _ _ _ jZ h'
    |ret=>exact hQ _ _ _ _ jZ h'
    |panic ch=>exact hQ _ _ _ _ jZ h'
    |outgrown=>exact hQ _ _ _ _ jZ h'
   ·exactλch a w h=>hp ch a w h
  cases LP with
  |n=>exact plain _ h
  |b ax=>exact plain _ h
  |s _ _=>exact h.elim
  |c _ _=>exact h.elim
  |l _ _ _=>exact h.elim
  |j _ _ _ _=>exact h.elim
  |r _=>exact h.elim
  |o _=>exact h.elim
 |loop c ih=>
  intro LP o Q bI w a Q' hs h hv hQ hp;cases LP with
  |l pQ drop ax=>
   simp only[D] at h;have hbase:∀a',lL C.n [] (jT bI drop++o) a'->∀t v,lV o t=some v->a'.tmps.getD t undef=v:=λa' jZ t v ht=>by
    cases hl:lV (jT bI drop) t with
    |none=>exact jZ.o t v (by rw[kJ,hl];exact ht)
    |some u=>
     have h2:=jZ.o t u (by rw[kJ,hl]);rw[JR] at hl;cases hmm:mem drop t with
     |true=>rw[hmm] at hl;cases hl
     |false=>rw[hmm] at hl;have e1:=hv.bI t u hl;have e2:=hv.o t v ht;rw[h2,<-e1,e2]
   have eO:∀fZ a',lL C.n fZ (jT bI drop++o) a'->lL C.n (fZ++jT bI drop) o a':=λfZ a' jZ=>by
    refine⟨jZ.size,?_,hbase a' ⟨jZ.size,(λt v ht=>by cases ht),jZ.o,jZ.ur⟩,jZ.ur⟩;intro t v ht;rw[kJ] at ht;cases hl:lV fZ t with
    |some u=>rw[hl] at ht;simp at ht;subst ht;exact jZ.bI t _ hl
    |none=>rw[hl] at ht;simp only at ht;exact jZ.o t v (by rw[kJ,ht])
   let X:Fq (OJ pQ)->aH->Prop:=λt w=>∀a,lL C.n (Lz pQ t) (jT bI drop++o) a->
    ∀(b:Frame) (k:List Item) (cs:List Frame),∃e a' w',Q' e a' w'/\Arrives C.P (lone (b.at a (.code c::.inLoop c::k)) cs w) b k cs e a' w'
   have key:=h X (λt w ht a₀ hv₀ b k cs=>by
    have hwp:=ih ax _ _ (Lz pQ t) w a₀ (Exit.then (λa' w'=>∃t',lL C.n (Lz pQ t') (jT bI drop++o) a'/\X t' w') Q') hs ht hv₀ (by
     intro e fZ a' w' jZ h';cases e with
     |normal=>obtain⟨t',hK,ht'⟩:=OX jZ h';exact⟨t',⟨jZ.size,ht',jZ.o,jZ.ur⟩,hK⟩
     |exit i=>exact hQ _ _ _ _ (eO _ _ jZ) h'
     |goto l=>exact hQ _ _ _ _ (eO _ _ jZ) h'
     |ret=>exact hQ _ _ _ _ (eO _ _ jZ) h'
     |panic ch=>exact hQ _ _ _ _ (eO _ _ jZ) h'
     |outgrown=>exact hQ _ _ _ _ (eO _ _ jZ) h') (λch a w h=>hp ch a w h)
    obtain⟨e,a₁,w₁,hq,We⟩:=hwp b (.inLoop c::k) cs;cases e with
    |normal=>obtain⟨t',hv₁,hX⟩:=hq;obtain⟨e₂,a₂,w₂,hq₂,harr₂⟩:=hX a₁ hv₁ b k cs;exact⟨e₂,a₂,w₂,hq₂,.of_steps (Steps.trans We (.one step_inLoop)) harr₂⟩
    |exit id=>exact⟨_,a₁,w₁,hq,.pass (x:=.inLoop c) rfl (λ_ _=>.inl dN) We⟩
    |goto l=>exact⟨_,a₁,w₁,hq,.pass (x:=.inLoop c) rfl (λ_ _=>.inl dN) We⟩
    |ret=>exact⟨_,a₁,w₁,hq,.pass (x:=.inLoop c) rfl (λ_ _=>.inl dN) We⟩
    |panic ch=>exact⟨_,a₁,w₁,hq,.pass (x:=.inLoop c) rfl (λ_ _=>.inl dN) We⟩
    |outgrown=>exact⟨_,a₁,w₁,hq,.pass (x:=.inLoop c) rfl (λ_ _=>.inl dN) We⟩)
   obtain⟨t,hX,ht⟩:=OX hv key;intro b k cs;obtain⟨e,a',w',hq,We⟩:=hX a ⟨hv.size,ht,hv.outer drop,hv.ur⟩ b k cs;exact⟨e,a',w',hq,.of_steps (.one step_loop) We⟩
  |n=>exact h.elim
  |s _ _=>exact h.elim
  |c _ _=>exact h.elim
  |b _=>exact h.elim
  |j _ _ _ _=>exact h.elim
  |r _=>exact h.elim
  |o _=>exact h.elim
 |exit id=>intro LP o Q bI w a Q' _ h hv hQ _;exact wp_exit (hQ _ _ _ _ hv h)
 |ret=>intro LP o Q bI w a Q' _ h hv hQ _;exact wp_ret (hQ _ _ _ _ hv h)
 |rangeFunc _ _ _ _=>intro LP o Q bI w a Q' _ h;exact h.elim
 |scope _=>intro LP o Q bI w a Q' _ h;exact h.elim
 |label _=>intro LP o Q bI w a Q' _ h;exact h.elim
 |goto _=>intro LP o Q bI w a Q' _ h;exact h.elim
 |refuse _=>intro LP o Q bI w a Q' _ h;exact h.elim
def ZB(tmps:Array Value):ResultVar->Sem Value
 | .tmp t=>pure (tmps.getD t undef)
 | .cell a t=>do loadVar t (<-asAddr (tmps.getD a undef))
theorem qf(fn:Func)(tmps:Array Value):results fn tmps=(do
 let vs <-fn.results.mapM (ZB tmps)
 pure (if h:vs.size=1 then vs[0] else .tuple vs)):=rfl
theorem ZK{P:Program}{n:Nat}{bI:mI}{a:Act}(hv:lL n bI [] a):∀{rs:List ResultVar} {w:aH} {K:List Value->Prop},resD P bI rs w K->
  ∃vs,K vs/\(rs.mapM (ZB a.tmps)).run P w=.ok vs w
 | [],w,K,h=>⟨[],h,by simp⟩
 | .tmp t::r,w,K,h=>by
  obtain⟨v,hr,h1⟩:=aV h;obtain⟨vs,hK,Fk⟩:=ZK hv (K:=λvs=>K (v::vs)) h1;exact⟨v::vs,hK,by simp only[List.mapM_cons,ZB,Sem.run_bind,Sem.run_pure,Result.andThen_ok,HD hv hr,Fk]⟩
 | .cell c t::r,w,K,h=>by
  obtain⟨v,hr,h1⟩:=aV h;cases v<;>try (exact h1.elim)
  obtain⟨ad,rfl,h2⟩:=pF h1;obtain⟨v,Cl,h3,hC,hl⟩:=TW h2;obtain⟨vs,hK,Fk⟩:=ZK hv (K:=λvs=>K (v::vs)) h3;have ha:∀w,(asAddr (a.tmps.getD c undef)).run P w=.ok ad w:=λw=>by rw[HD hv hr];rfl
  exact⟨v::vs,hK,by simp only[List.mapM_cons,ZB,Sem.run_bind,Sem.run_pure,Result.andThen_ok,ha,hl w hC,Fk]⟩
theorem Jd{P:Program}{n:Nat}{bI:mI}{a:Act}{fn:Func}(hv:lL n bI [] a){w:aH}{K:List Value->Prop}(h:resD P bI fn.results.toList w K):
  ∃vs,K vs/\(results fn a.tmps).run P w=.ok (Nr vs) w:=by
 obtain⟨vs,hK,hr⟩:=ZK hv h;refine⟨vs,hK,?_⟩;rw[qf,Sem.run_bind];have e:fn.results.mapM (ZB a.tmps)=List.toArray<$>fn.results.toList.mapM (ZB a.tmps):=by rw[<-List.mapM_toArray]
 rw[e];simp only[Sem.run_map,hr,Result.andThen_ok,Sem.run_pure]
 match vs with
 | []=>simp[Nr]
 | [v]=>simp[Nr]
 |v::u::r=>simp[Nr]
def Xa:Nat->List Value->mI
 |_,[]=>[]
 |i,v::r=>(i,v)::Xa (i+1) r
theorem Jm:∀(vs:List Value) (i t:Nat) (v:Value),lV (Xa i vs) t=some v->i<=t/\vs[t-i]? =some v
 | [],_,_,_,h=>by cases h
 |u::r,i,t,v,h=>by
  simp only[Xa,lV] at h;cases hb:Nat.beq i t with
  |true=>rw[hb] at h;have:i=t:=IY hb;subst this;cases h;simp
  |false=>rw[hb] at h;obtain⟨h1,h2⟩:=Jm r (i+1) t v h;have e:t-i=(t-(i+1))+1:=aB;refine⟨aB,?_⟩;rw[e];simpa using h2
theorem CK.OW{k:CK}{x:k.T}{K:k.T->Prop}(h:K x):k.LO (k.aY x) K:=by
 cases k
 case int k=>cases k<;>exact h
 all_goals first
  |exact h
  |(simp only[CK.aY];cases x<;>exact h)
theorem Jv:∀{l:List CK} {t:CTs l} {K:CTs l->Prop},K t->decs l (qT l t) K
 | [],_,_,h=>h
 |_::r,t,K,h=>CK.OW (x:=t.1) (K:=λx=>decs r (qT r t.2) λt=>K (x,t)) (Jv (l:=r) (t:=t.2) h)
theorem oL.OW{k:oL}{x:k.T}{K:k.T->Prop}(h:K x):k.LO (k.aY x) K:=by
 cases k with
 |c k=>exact CK.OW (k:=k) h
 |agg l=>exact Jv (l:=l) h
theorem gN:∀{ks:List oL} {t:Fq ks} {K:Fq ks->Prop},K t->Gd ks (AA ks t) K
 | [],_,_,h=>h
 |_::r,t,K,h=>oL.OW (x:=t.1) (K:=λx=>Gd r (AA r t.2) λt=>K (x,t)) (gN (ks:=r) (t:=t.2) h)
def retK(ks:List oL)(v:Value)(C:Fq ks->Prop):Prop:=match ks,C with
 | [k],C=>k.LO v λr=>C (r,())
 |ks,C=>match v with
  | .tuple vs=>Gd ks vs.toList C
  |_=>False
theorem sound_of{P:Program}{g:FuncId}{fn:Func}(hf:P.funcs[g]? =some fn)(bR:fn.body.isSome=true)(hm:P.follows .mixedOrders=true)(hs:MC (fn.body.getD .skip)=true)(LP:Ann)(env:Env)(LI:QX P env)(ks:List oL)
  (hk:Nat.ble ks.length fn.ntmps=true) (F:Fq ks->aH->(Value->aH->Prop)->Prop)
  (hF:∀t w K,F t w K=D ⟨P,fn.ntmps,env⟩ (fn.body.getD .skip) LP [] (postD P fn.results.toList K) (Xa 0 (AA ks t)) w):
  pD P g λargs w K=>Gd ks args λt=>F t w K:=by
 intro args w K h;obtain⟨c,hb⟩:=Lt.1 bR;have hc:fn.body.getD .skip=c:=by rw[hb];rfl
 obtain⟨t,rfl,h1⟩:=xC h;rw[hF,hc] at h1;rw[hc] at hs;have gD:∀(ks:List oL) (t:Fq ks),(AA ks t).length=ks.length:=by
  intro ks
  induction ks with
  |nil=>intro t;rfl
  |cons k r ih=>intro t;simp[AA,ih]
 have LK:ks.length<=fn.ntmps:=Nat.le_of_ble_eq_true hk;refine calls_of_wp hf hb ?_;refine D_sound (C:=⟨P,fn.ntmps,env⟩) hm LI c LP [] _ _ w _ _ hs h1 ?_ ?_ ?_
 ·refine⟨?_,?_,(λt v ht=>by cases ht),rfl⟩
  ·simp[gD];omega
  ·intro i v hi;obtain⟨_,h2⟩:=Jm _ _ _ _ hi;simp only[Nat.sub_zero] at h2;have dJ:i<(AA ks t).length:=(eQ.1 h2).1;simp only[Array.getD_eq_getD_getElem?];rw[Array.getElem?_append_left (by simpa using dJ)];simp[h2]
 ·intro e fZ a' w' jZ hq;cases e with
  |normal=>obtain⟨vs,hK,hr⟩:=Jd jZ hq;exact⟨jZ.ur,_,hr,_,rfl,hK⟩
  |ret=>obtain⟨vs,hK,hr⟩:=Jd jZ hq;exact⟨jZ.ur,_,hr,_,rfl,hK⟩
  |exit i=>exact hq.elim
  |goto l=>exact hq.elim
  |panic ch=>exact hq.elim
  |outgrown=>exact hq.elim
 ·rintro ch a w ⟨_,v,hv,_⟩;cases hv
structure SD(P:Program) where
 g:FuncId
 T:Tr
 e:enters P g=true
 s:pD P g T
def sdE{P:Program}:List (SD P)->Env
 | []=>[]
 |d::r=>(d.g,d.T)::sdE r
theorem sdOk{P:Program}:∀l:List (SD P),QX P (sdE l)
 | []=>trivial
 |d::r=>⟨⟨d.e,d.s⟩,sdOk r⟩
abbrev Vn(ks:List oL)(G:Fq ks->World->(Value->World->Prop)->Prop):Tr:=λargs w K=>Gd ks args λt=>G t w K
def dP{P:Program}(g:FuncId){fn:Func}(hf:P.funcs[g]? =some fn)(hm:P.follows .mixedOrders=true)(LP:Ann)(l:List (SD P))(ks:List oL)(G:Fq ks->World->(Value->World->Prop)->Prop)(hb:fn.body.isSome=true:=by kernel_rfl)(hs:MC (fn.body.getD .skip)=true:=by kernel_rfl)(hk:Nat.ble ks.length fn.ntmps=true:=by kernel_rfl)(he:enters P g=true:=by kernel_rfl)
  (hF:∀t w K,G t w K=D ⟨P,fn.ntmps,sdE l⟩ (fn.body.getD .skip) LP [] (postD P fn.results.toList K) (Xa 0 (AA ks t)) w:=by intro t w K;kernel_rfl):SD P:=
 ⟨g,Vn ks G,he,sound_of hf hb hm hs LP (sdE l) (sdOk l) ks hk G hF⟩
def LX.f:Nat->Nat->LX->LX
 |_,0,p=>p
 |s,n+1,p=>.fl s (LX.f (s+1) n p)
def Ann.k:Nat->Ann->Ann
 |0,a=>a
 |i+1,a=>.s .n (Ann.k i a)
abbrev bN(w:World)(a:Addr)(K:Int->Prop):Prop:=Aj (.int .i64) w a K
abbrev eJ(w:World)(a:Addr)(K:Sl->Prop):Prop:=Aj .slice w a K
abbrev jC(w:World)(a:Addr)(K:Option Addr->Prop):Prop:=Aj .ptr w a K
abbrev OD(w:World)(a:Addr)(K:Option Nat->Prop):Prop:=Aj .map w a K
abbrev OE(w:World)(a:Addr)(K:Bool->Prop):Prop:=Aj .bool w a K
abbrev aZ:Sl:=⟨none,0,0⟩
abbrev vl(s:Sl):Value:=.slice s.b s.l s.c
abbrev jY{α:Type}(B:(α->World->Prop)->α->World->Prop)(t:α)(w:World):Prop:=∀X:α->World->Prop,(∀t w,B X t w->X t w)->X t w
abbrev fI(i:Int)(n:Nat):Prop:=0<=i/\i<(n:Int)
abbrev cL(p:Prop)[Decidable p](A B:Prop):Prop:=cond (decide p) A B
abbrev xp:=Int×Int×Int×Int×Unit
abbrev T_1_y:=Int×Int×Int×Int×Int×Int×Unit
abbrev CK.i:CK:=.int .i64
abbrev oL.i:oL:=.c (.int .i64)
structure aU(F:Nat->Prop)(w w':aH):Prop where
 os:w'.os=w.os
 tape:w'.tape=w.tape
 output:w'.output=w.output
 size:w.heap.size<=w'.heap.size
 block:∀k,k<w.heap.size->¬F k->w'.heap[k]? =w.heap[k]?
abbrev aL(w w':aH):Prop:=aU (λ_=>False) w w'
theorem aU.refl(F:Nat->Prop)(w:aH):aU F w w:=⟨rfl,rfl,rfl,dL _,λ_ _ _=>rfl⟩
theorem aU.mono{F G:Nat->Prop}{w w':aH}(h:aU F w w')(hs:∀k,k<w.heap.size->F k->G k):aU G w w':=
 ⟨h.os,h.tape,h.output,h.size,λk hk hn=>h.block k hk λhf=>hn (hs k hk hf)⟩
theorem aU.trans{F G:Nat->Prop}{a b c:aH}(h:aU F a b)(h':aU G b c)(hs:∀k,k<a.heap.size->G k->F k):aU F a c:=
 ⟨h'.os.trans h.os,h'.tape.trans h.tape,h'.output.trans h.output,iR h.size h'.size,
  λk hk hn=>(h'.block k (pG hk h.size) λhg=>hn (hs k hk hg)).trans (h.block k hk hn)⟩
theorem aU.tr{F:Nat->Prop}{a b c:aH}(h:aU F a b)(h':aU F b c):aU F a c:=h.trans h' λ_ _ h=>h
theorem aL.aK{F:Nat->Prop}{w w':aH}(h:aL w w'):aU F w w':=h.mono λ_ _ h=>h.elim
theorem aU.wk{F:Nat->Prop}{w w':aH}(h:aU (λ_=>False) w w'):aU F w w':=h.mono λ_ _ h=>h.elim
theorem aU.drew{F:Nat->Prop}{a w:aH}(h:aU F a w):aU F a w.drew:=⟨h.os,h.tape,h.output,h.size,h.block⟩
theorem aL.alloc(w:aH)(o:Obj):aL w (w.alloc o):=⟨rfl,rfl,rfl,by simp,λk hk _=>RowKit.Below.heap_alloc w o k hk⟩
theorem aU.alloc{F:Nat->Prop}{a w:aH}(h:aU F a w)(o:Obj):aU F a (w.alloc o):=h.trans (aL.alloc w o) λ_ _ h=>h.elim
theorem aU.setRow(w:aH)(g:Nat)(cs:Array Value):aU (λk=>k=g) w (w.setRow g cs):=⟨rfl,rfl,rfl,by simp,λk _ hk=>setRow_other w g k cs hk⟩
theorem aU.fresh{F G:Nat->Prop}{a w w':aH}(h:aU F a w)(h':aU G w w')(hs:∀k,G k->a.heap.size<=k):aU F a w':=
 h.trans h' λk hk hg=>absurd (hs k hg) aB
theorem aU.below{w w':aH}{B:Nat}(h:aU (λk=>B<=k) w w')(hB:B<=w.heap.size):RowKit.Below B w w':=
 ⟨h.os,h.tape,h.output,h.size,λk hk=>h.block k aB aB⟩
theorem Tk{w:aH}{a:Addr}{v:Value}(h:w.cell? a=some v):a.block<w.heap.size:=World.block_lt_of_cell? w a h
theorem aU.cell{F:Nat->Prop}{w w':aH}(h:aU F w w'){a:Addr}{v:Value}(hc:w.cell? a=some v)(hn:¬F a.block):w'.cell? a=some v:=
 (World.cell?_of_block (h.block _ (Tk hc) hn)).trans hc
theorem add_add(a:Addr)(m n:Nat):(a.add m).add n=a.add (m+n):=by
 unfold Addr.add
 by_cases hm:m=0<;>by_cases hn:n=0<;>simp[hm,hn,Nat.add_assoc]
@[simp] theorem add_block(a:Addr)(n:Nat):(a.add n).block=a.block:=by unfold Addr.add;split<;>rfl
theorem add_zero(a:Addr):a.add 0=a:=by simp[Addr.add]
theorem UB{w w':aH}{a:Addr}(hb:w'.heap[a.block]? =w.heap[a.block]?):∀{vs:List Value} {i:Nat},bQ w a i vs->bQ w' a i vs
 | [],_,_=>trivial
 |_::_,_,h=>⟨(World.cell?_of_block (w:=w) (by simpa using hb)).trans h.1,UB hb h.2⟩
theorem Bj{w:aH}{a:Addr}{m:Nat}:∀{vs:List Value} {i:Nat},bQ w (a.add m) i vs↔bQ w a (m+i) vs
 | [],_=>Iff.rfl
 |_::_,i=>by simp only[bQ,add_add];rw[Bj];rfl
theorem iB{w:aH}{a:Addr}:∀{vs:List Value} {i:Nat},bQ w a i vs↔∀j v,vs[j]? =some v->w.cell? (a.add (i+j))=some v
 | [],i=>by simp[bQ]
 |v::r,i=>by
  simp only[bQ];rw[iB (vs:=r) (i:=i+1)]
  constructor
  ·rintro⟨h1,h2⟩ j u hu;cases j with
   |zero=>simp only[List.getElem?_cons_zero,Option.some.injEq] at hu;subst hu;exact h1
   |succ j=>simp only[List.getElem?_cons_succ] at hu;have:=h2 j u hu;rwa[show i+1+j=i+(j+1) by omega] at this
  ·intro h;exact⟨h 0 v rfl,λj u hu=>by have:=h (j+1) u hu;rwa[show i+(j+1)=i+1+j by omega] at this⟩
structure Rd{α:Type}(w:aH)(s:Sl)(n:Nat)(aY:α->List Value)(xs:List α):Prop where
 len:s.l=xs.length
 cap:s.l<=s.c
 get:∀i x,xs[i]? =some x->∃a,s.b=some a/\bQ w (a.add (i*n)) 0 (aY x)
theorem Rd.nil{α:Type}(w:aH)(n:Nat)(aY:α->List Value):Rd w aZ n aY []:=⟨rfl,dL _,λi x h=>by simp at h⟩
theorem Rd.aK{α:Type}{F:Nat->Prop}{w w':aH}{s:Sl}{n:Nat}{aY:α->List Value}{xs:List α}(h:Rd w s n aY xs)(hm:aU F w w')(gK:∀x,aY x≠[])
  (hF:∀a,s.b=some a->¬F a.block):Rd w' s n aY xs:=
 ⟨h.len,h.cap,λi x hx=>by
  obtain⟨a,ha,hh⟩:=h.get i x hx;have cC:a.block<w.heap.size:=by
   cases he:aY x with
   |nil=>exact absurd he (gK x)
   |cons v r=>rw[he] at hh;have:=Tk hh.1;simpa using this
  exact⟨a,ha,UB (by simpa using hm.block _ cC (hF a ha)) hh⟩⟩
theorem Rd.wj{α:Type}{w w':aH}{s:Sl}{n:Nat}{aY:α->List Value}{xs:List α}(h:Rd w s n aY xs)(hm:aU (λk=>w.heap.size<=k) w w')(gK:∀x,aY x≠[]):Rd w' s n aY xs:=
 ⟨h.len,h.cap,λi x hx=>by
  obtain⟨a,ha,hh⟩:=h.get i x hx;have cC:a.block<w.heap.size:=by
   cases he:aY x with
   |nil=>exact absurd he (gK x)
   |cons v r=>rw[he] at hh;have:=Tk hh.1;simpa using this
  exact⟨a,ha,UB (by simpa using hm.block _ cC aB) hh⟩⟩
theorem Rd.part{α:Type}{w:aH}{s:Sl}{n:Nat}{aY:α->List Value}{xs:List α}(h:Rd w s n aY xs){i j c:Nat}(RT:i<=j)(hj:j<=s.l)(hc:j<=c)(_:c<=s.c):
  Rd w ⟨aR s.b s.c i n,j-i,c-i⟩ n aY ((xs.drop i).take (j-i)):=by
 refine⟨?_,?_,λk x hk=>?_⟩
 ·have:=h.len;simp only[sM,iv];omega
 ·show j-i<=c-i;omega
 ·have cC:k<j-i:=by
   have:=(eQ.1 hk).1;simp at this;omega
  rw[VJ cC,ly7] at hk;obtain⟨a,ha,hh⟩:=h.get (i+k) x hk;refine⟨a.add (i*n),?_,?_⟩
  ·show aR s.b s.c i n=_;have:s.c≠i:=by have:=h.cap;omega
   simp[aR,this,ha]
  ·rw[add_add,<-Nat.add_mul];exact hh
theorem aF{b:Bool}{A B:Prop}(h1:b=true->A)(h2:b=false->B):cond b A B:=by cases b<;>simp_all
theorem aJ{p:Prop}[Decidable p]{A B:Prop}(h1:p->A)(h2:¬p->B):cond (decide p) A B:=by by_cases h:p<;>simp_all
theorem aA{p:cR}{K:Addr->Prop}{a:Addr}(h:p=some a)(hK:K a):aC p K:=by subst h;exact hK
theorem aE{k:CK}{w:aH}{a:Addr}{K:k.T->Prop}(x:k.T)(h:w.cell? a=some (k.aY x))(hK:K x):Aj k w a K:=⟨x,h,hK⟩
theorem aX{l:List CK}{w:aH}{a:Addr}{K:CTs l->Prop}(x:CTs l)(h:bQ w a 0 (qT l x))(hK:K x):eV l w a K:=⟨x,h,hK⟩
theorem bL{S:Type}{body:(S->aH->Prop)->S->aH->Prop}(I:Nat->WQ S)(n:Nat){t:S}{w:aH}(h0:I n t w)
  (step:∀n t w,I n t w->∀X:S->aH->Prop,(∀m t' w',m<n->I m t' w'->X t' w')->body X t w):
  ∀X:S->aH->Prop,(∀t w,body X t w->X t w)->X t w:=by
 intro X hX
 induction n using Nat.strongRecOn generalizing t w with
 |ind n ih=>exact hX t w (step n t w h0 X λm t' w' hm h=>ih m hm h)
theorem gZ{n:Int}(h0:-9223372036854775808<=n)(h1:n<=9223372036854775807):aQ n=n:=by show IntKind.wrap .i64 n=n;rw[IntKind.wrap_i64];omega
theorem Bk(w:aH)(cs:Array Value)(t:TypeId):bQ (w.alloc (.cells cs t)) ⟨w.heap.size,0,none⟩ 0 cs.toList:=by
 rw[iB];intro j v hv;have:(⟨w.heap.size,0,none⟩:Addr).add (0+j)=⟨w.heap.size,j,none⟩:=by unfold Addr.add;split<;>simp_all
 rw[this,cell_of_row _ _ _ cs t (0,0) (heap_alloc_new w _)];simpa using hv
theorem w64n(n:Nat)(h:n<=9223372036854775807):aQ (n:Int)=(n:Int):=gZ aB aB
theorem aS(g o n:Nat):(⟨g,o,none⟩:Addr).add n=⟨g,o+n,none⟩:=by unfold Addr.add;split<;>simp_all
def cU(w:aH)(g:Nat)(e:TypeId)(cs:List Value):Prop:=w.heap[g]? =some (.cells cs.toArray e (0,0))
theorem cU.lt{w:aH}{g:Nat}{e:TypeId}{cs:List Value}(h:cU w g e cs):g<w.heap.size:=(Array.getElem?_eq_some_iff.1 h).1
theorem cU.aK{F:Nat->Prop}{w w':aH}{g:Nat}{e:TypeId}{cs:List Value}(h:cU w g e cs)(hm:aU F w w')(hF:¬F g):cU w' g e cs:=(hm.block g h.lt hF).trans h
theorem cU.cell{w:aH}{g:Nat}{e:TypeId}{cs:List Value}(h:cU w g e cs)(j:Nat):w.cell? ⟨g,j,none⟩=cs[j]?:=by
 rw[cell_of_row w g j _ e (0,0) h];simp
theorem cU.holds{w:aH}{g:Nat}{e:TypeId}{cs:List Value}(h:cU w g e cs){o:Nat}{vs:List Value}(hv:∀j v,vs[j]? =some v->cs[o+j]? =some v):bQ w ⟨g,o,none⟩ 0 vs:=by
 rw[iB];intro j v hj;rw[aS,gI,h.cell];exact hv j v hj
theorem cU.iP(w:aH)(cs:Array Value)(e:TypeId):cU (w.alloc (.cells cs e)) w.heap.size e cs.toList:=heap_alloc_new w _
theorem cU.setRow{w:aH}{g:Nat}{e:TypeId}{cs:List Value}(h:cU w g e cs)(ds:List Value):cU (w.setRow g ds.toArray) g e ds:=setRow_heap w g _ _ e _ h
theorem CH{P:Program}{t:TypeId}{g o:Nat}{v:Value}{w:aH}{K:aH->Prop}{e:TypeId}{cs:List Value}(h:cU w g e cs)
  (hi:(P.info? t).map (·.size)=some v.cells.size) (PW:o+v.cells.size<=cs.length) (h1:∀u∈v.cells.toList,u.oneCell'=true)
  (hK:∀w',cU w' g e (cs.take o++v.cells.toList++cs.drop (o+v.cells.size))->aU (λk=>k=g) w w'->w'.heap.size=w.heap.size->K w'):aI P t ⟨g,o,none⟩ v w K:=by
 have vE:=run_storeCells_at P g o e v.cells.toList 0 cs.toArray w h (by simpa using PW) h1;cases hq:P.info? t with
 |none=>simp[hq] at hi
 |some i=>
  have hs:v.cells.size=i.size:=by simp[hq] at hi;omega
  refine⟨_,?_,hK _ (h.setRow _) (aU.setRow w g _) dN⟩;simp[storeVar,sizeOf,typeInfo,hq,hs,vE]
theorem Mi{α:Type}(l:List α)(o:Nat)(v:α)(h:o<l.length):l.take o++[v]++l.drop (o+1)=l.set o v:=by
 rw[List.set_eq_take_append_cons_drop,if_pos h];simp
theorem cH{P:Program}{t:TypeId}{g o:Nat}{v:Value}{w:aH}{K:aH->Prop}{e:TypeId}{cs:List Value}(h:cU w g e cs)
  (hi:(P.info? t).map (·.size)=some 1) (PW:o<cs.length) (hc:v.cells=#[v]) (h1:v.oneCell'=true)
  (hK:∀w',cU w' g e (cs.set o v)->aU (λk=>k=g) w w'->w'.heap.size=w.heap.size->K w'):aI P t ⟨g,o,none⟩ v w K:=by
 refine CH h (by rw[hi,hc];rfl) (by rw[hc];exact PW) (by rw[hc];simpa using h1) λw' h2 h3 h4=>hK w' ?_ h3 h4;rw[hc] at h2;simpa [Mi _ _ _ PW,<-sL] using h2
structure dD{α:Type}(w:aH)(e:TypeId)(n:Nat)(aY:α->List Value)(s:Sl)(xs:List α):Prop where
 len:s.l=xs.length
 cap:s.l<=s.c
 max:s.c<=maxLen
 gR:(s.b=none/\s.c=0)\/∃g cJ,s.b=some ⟨g,0,none⟩/\cU w g e (xs.flatMap aY++cJ)/\(xs.flatMap aY++cJ).length=s.c*n
theorem bF{α:Type}{aY:α->List Value}{n:Nat}(gE:∀x,(aY x).length=n):∀xs:List α,(xs.flatMap aY).length=xs.length*n
 | []=>by simp
 |x::r=>by simp only[FE,fJ,gE,mE,bF gE r];rw[Nat.add_mul];omega
theorem tS{α:Type}{aY:α->List Value}{n:Nat}(gE:∀x,(aY x).length=n):∀(xs:List α) (i:Nat) (x:α) (j:Nat) (v:Value) (cJ:List Value),xs[i]? =some x->(aY x)[j]? =some v->(xs.flatMap aY++cJ)[i*n+j]? =some v
 | [],i,x,j,v,cJ,h,_=>by simp at h
 |y::r,0,x,j,v,cJ,h,hv=>by
  simp at h;subst h;have:j<(aY y).length:=(eQ.1 hv).1;simp only[FE,Nat.zero_mul,gI,sL];rw[Fw this];exact hv
 |y::r,i+1,x,j,v,cJ,h,hv=>by
  simp only[List.getElem?_cons_succ] at h;simp only[FE,sL];rw[Fx (by rw[gE,Nat.add_mul];omega),gE,show(i+1)*n+j-n=i*n+j by rw[Nat.add_mul];omega];exact tS gE r i x j v cJ h hv
theorem dD.nil{α:Type}(w:aH)(e:TypeId)(n:Nat)(aY:α->List Value):dD w e n aY aZ []:=⟨rfl,dL _,dE _,.inl ⟨rfl,rfl⟩⟩
theorem dD.rd{α:Type}{w:aH}{e:TypeId}{n:Nat}{aY:α->List Value}{s:Sl}{xs:List α}(h:dD w e n aY s xs)(gE:∀x,(aY x).length=n):Rd w s n aY xs:=by
 refine⟨h.len,h.cap,λi x hx=>?_⟩;have cC:i<xs.length:=(eQ.1 hx).1;rcases h.gR with⟨_,h2⟩|⟨g,cJ,hb,ho,hl⟩
 ·have:=h.len;have:=h.cap;omega
 ·refine⟨_,hb,?_⟩;rw[aS];exact ho.holds λj v hv=>by rw[gI];exact tS gE xs i x j v cJ hx hv
theorem dD.aK{α:Type}{F:Nat->Prop}{w w':aH}{e:TypeId}{n:Nat}{aY:α->List Value}{s:Sl}{xs:List α}(h:dD w e n aY s xs)(hm:aU F w w')(hF:∀a,s.b=some a->¬F a.block):dD w' e n aY s xs:=
 ⟨h.len,h.cap,h.max,h.gR.imp id λ⟨g,cJ,hb,ho,hl⟩=>⟨g,cJ,hb,ho.aK hm (hF _ hb),hl⟩⟩
theorem dD.lt{α:Type}{w:aH}{e:TypeId}{n:Nat}{aY:α->List Value}{s:Sl}{xs:List α}(h:dD w e n aY s xs){a:Addr}(ha:s.b=some a):a.block<w.heap.size:=by
 rcases h.gR with⟨h1,_⟩|⟨g,cJ,hb,ho,hl⟩
 ·rw[h1] at ha;cases ha
 ·rw[hb] at ha;cases ha;exact ho.lt
theorem dD.lit{α:Type}(w:aH)(e:TypeId){n:Nat}(aY:α->List Value)(gE:∀x,(aY x).length=n)(xs:List α)(cs:Array Value)(hc:cs.toList=xs.flatMap aY)(hm:xs.length<=maxLen):
  dD (w.alloc (.cells cs e)) e n aY ⟨some ⟨w.heap.size,0,none⟩,xs.length,xs.length⟩ xs:=
 ⟨rfl,dL _,hm,.inr ⟨_,[],rfl,by rw[uA,<-hc];exact cU.iP w cs e,by rw[uA];exact bF gE xs⟩⟩
theorem dD.take{α:Type}{w:aH}{e:TypeId}{n:Nat}{aY:α->List Value}{s:Sl}{xs:List α}(h:dD w e n aY s xs){i:Nat}(hi:i<=s.l):dD w e n aY ⟨s.b,i,s.c⟩ (xs.take i):=by
 refine⟨by have:=h.len;simp only[sM];omega,iR hi h.cap,h.max,h.gR.imp id λ⟨g,cJ,hb,ho,hl⟩=>⟨g,(xs.drop i).flatMap aY++cJ,hb,?_,?_⟩⟩
 all_goals rw[<-sL,<-GK,Ls];assumption
theorem Bn{α:Type}{aY:α->List Value}{n:Nat}(gE:∀x,(aY x).length=n)(cJ:List Value)(x:α):∀(xs:List α) (i:Nat),i<xs.length->
  (xs.flatMap aY++cJ).take (i*n)++aY x++(xs.flatMap aY++cJ).drop (i*n+n)=(xs.set i x).flatMap aY++cJ
 |y::r,0,_=>by
  have:(aY y).length=n:=gE y;simp only[Nat.zero_mul,List.take_zero,List.nil_append,List.set_cons_zero,FE,sL,gI];rw[<-this,List.drop_left]
 |y::r,i+1,h=>by
  have hl:(aY y).length=n:=gE y;have ih:=Bn gE cJ x r i (by simpa using h);simp only[List.set_cons_succ,FE,sL] at ih ⊢;rw[<-ih,show(i+1)*n=(aY y).length+i*n by rw[Nat.add_mul,hl];omega,List.take_length_add_append,show(aY y).length+i*n+n=(aY y).length+(i*n+n) by omega,List.drop_length_add_append,sL]
theorem dD.store{α:Type}{P:Program}{t:TypeId}{w:aH}{e:TypeId}{n:Nat}{aY:α->List Value}{s:Sl}{xs:List α}(h:dD w e n aY s xs)(gE:∀x,(aY x).length=n){a:Addr}(ha:s.b=some a)
  {i:Nat} (hi:i<xs.length) (x:α) {v:Value} (hv:v.cells.toList=aY x) (ht:(P.info? t).map (·.size)=some n) (jB:∀u∈aY x,u.oneCell'=true) {K:aH->Prop}
  (hK:∀w',dD w' e n aY s (xs.set i x)->aU (λk=>k=a.block) w w'->w'.heap.size=w.heap.size->K w'):aI P t (a.add (i*n)) v w K:=by
 rcases h.gR with⟨h1,_⟩|⟨g,cJ,hb,ho,hl⟩
 ·rw[h1] at ha;cases ha
 ·rw[hb] at ha;cases ha;rw[aS,gI];have Fk:v.cells.size=n:=by rw[<-gE x,<-hv,Array.length_toList]
  have IV:=bF gE xs;have IU:i*n+n<=xs.length*n:=by have:=PU n (show i+1<=xs.length from hi);rwa[Nat.add_mul,Nat.one_mul] at this
  refine CH ho (by rw[ht,Fk]) (by rw[Fk,fJ,IV];omega) (by rw[hv];exact jB) λw' h2 h3 h4=>hK w' ⟨by rw[nN];exact h.len,h.cap,h.max,.inr ⟨g,cJ,hb,?_,?_⟩⟩ h3 h4
  ·rw[hv,Fk,Bn gE cJ x xs i hi] at h2;exact h2
  ·rw[<-hl,fJ,fJ,bF gE,bF gE,nN]
structure sY(P:Program)(t e:TypeId)(n bytes:Nat)(z:List Value):Prop where
 under:P.underlying t=some (.slice e)
 KT:(P.info? e).map (λi=>(i.zero.map λv=>v.cells.toList,i.size,i.bytes))=some (some z,n,bytes)
 pos:0<n
 zlen:z.length=n
theorem sY.info{P:Program}{t e:TypeId}{n bytes:Nat}{z:List Value}(h:sY P t e n bytes z):∃i zv,P.info? e=some i/\i.zero=some zv/\zv.cells.toList=z/\i.size=n/\i.bytes=bytes:=by
 have hm:=h.KT;cases hi:P.info? e with
 |none=>simp[hi] at hm
 |some i=>
  cases hz:i.zero with
  |none=>simp[hi,hz] at hm
  |some zv=>simp[hi,hz] at hm;exact⟨i,zv,rfl,hz,hm.1,hm.2.1,hm.2.2⟩
theorem pV{α:Type}{w:aH}{x:Sl}{n:Nat}{aY:α->List Value}{ys:List α}(hx:Rd w x n aY ys)(gE:∀x,(aY x).length=n){a:Addr}(ha:x.b=some a):
  ∀j u,(ys.flatMap aY)[j]? =some u->w.cell? (a.add j)=some u:=by
 intro j u hu;have cC:j<ys.length*n:=by have:=(eQ.1 hu).1;rwa[bF gE] at this
 have hn:0<n:=by
  rcases Nat.eq_zero_or_pos n with h|h
  ·subst h;omega
  ·exact h
 have hi:j/n<ys.length:=Nat.div_lt_of_lt_mul (by rwa[Nat.mul_comm]);have hm:j%n<n:=Nat.mod_lt _ hn;obtain⟨a',mU,hh⟩:=hx.get (j/n) ys[j/n] (cM hi);rw[ha] at mU;cases mU;have SF:j%n<(aY ys[j/n]).length:=by rw[gE];exact hm
 have h2:=tS gE ys (j/n) _ (j%n) _ [] (cM hi) (cM SF);rw[uA,Nat.div_add_mod',hu] at h2;cases h2;have:=(iB.1 hh) (j%n) _ (cM SF);rwa[add_add,gI,Nat.div_add_mod'] at this
theorem Ih{α:Type}{P:Program}{t e:TypeId}{n bytes:Nat}{z:List Value}(hE:sY P t e n bytes z){aY:α->List Value}(gE:∀x,(aY x).length=n)(jB:∀x,∀u∈aY x,u.oneCell'=true)
  {w:aH} {s x:Sl} {xs ys:List α} (hs:dD w e n aY s xs) (hx:Rd w x n aY ys) (h63:xs.length+ys.length<=9223372036854775807) (CF:(xs.length+ys.length)*bytes<=140737488355328) {K:Sl->aH->Prop}
  (hK:∀r w',dD w' e n aY r (xs++ys)->aU (λk=>∃a,s.b=some a/\k=a.block) w w'->(r.b=s.b\/∃a,r.b=some a/\w.heap.size<=a.block)->(r.b=none->s.b=none)->(xs.length+ys.length<=s.c->r=⟨s.b,s.l+x.l,s.c⟩)->K r w'):
  aW P t t s (.slice x.b x.l x.c) w K:=by
 obtain⟨i,zv,hi,hz,rfl,rfl,rfl⟩:=hE.info;have ht:=hE.under;obtain⟨sb,sl,sc⟩:=s;obtain⟨xb,xl,xc⟩:=x;have QC:sl=xs.length:=hs.len;have Ak:xl=ys.length:=hx.len;have hscap:sl<=sc:=hs.cap
 by_cases hy:ys=[]
 ·subst hy;have hxl0:xl=0:=Ak;subst hxl0;refine⟨⟨sb,sl,sc⟩,w,?_,hK _ _ (by rw[uA];exact hs) (aU.refl _ _) (.inl rfl) id (λ_=>rfl)⟩;cases xb<;>cases sb<;>simp[Builtin.append_,run_underlying ht,sizeOf,typeInfo,hi,Builtin.lenOf,Builtin.firstCells,hscap,storeCells,loadCells,loadCellsFrom,oL.aY,CK.aY]
 have uB:0<ys.length:=List.length_pos_iff.2 hy;obtain⟨ax,hax,_⟩:=hx.get 0 ys[0] (cM uB);have hax':xb=some ax:=hax;subst hax';have Gw:=pV hx gE (a:=ax) rfl;have hl:(ys.flatMap aY).length=xl*i.size:=by rw[bF gE,Ak]
 have QQ:∀u∈ys.flatMap aY,u.oneCell'=true:=λu hu=>by obtain⟨y,_,hy⟩:=List.mem_flatMap.1 hu;exact jB y u hy
 have hzs:zv.cells.size=i.size:=by have:=hE.zlen;simpa using this
 have hm63:xs.length+ys.length<=maxLen:=by simp only[maxLen];omega
 have grown:∀old,old<sl+xl->dD (w.drew.alloc (.cells ((xs.flatMap aY).toArray++(ys.flatMap aY).toArray++Builtin.zeroCells zv.cells (grownCap w (sl+xl) old e-(sl+xl))) e)) e i.size aY
   ⟨some ⟨w.heap.size,0,none⟩,sl+xl,grownCap w (sl+xl) old e⟩ (xs++ys):=λold hold=>by
  have kC:=grownCap_ge w (sl+xl) old e;have hcm:grownCap w (sl+xl) old e<=maxLen:=grownCap_le_maxLen w (sl+xl) old e aB;refine⟨by simp[QC,Ak],kC,hcm,.inr ⟨w.heap.size,(Builtin.zeroCells zv.cells (grownCap w (sl+xl) old e-(sl+xl))).toList,rfl,?_,?_⟩⟩
  ·have:=cU.iP w.drew ((xs.flatMap aY).toArray++(ys.flatMap aY).toArray++Builtin.zeroCells zv.cells (grownCap w (sl+xl) old e-(sl+xl))) e;simpa [sL] using this
  ·simp only[fJ,bF gE,Array.length_toList,size_zeroCells,hzs,<-QC,<-Ak];rw[<-Nat.add_mul];congr 1;show sl+xl+(grownCap w (sl+xl) old e-(sl+xl))=grownCap w (sl+xl) old e;omega
 rcases hs.gR with⟨hb,hc⟩|⟨g,cJ,hb,ho,gD⟩
 ·have bR:sb=none:=hb;have Dz:sc=0:=hc;subst bR;subst Dz;have hsl0:sl=0:=aB;have hxs:xs=[]:=Lu aB;subst hxs;have hr:=run_append_nil (P:=P) w t 0 e i zv ht hi hz ax xl xc (ys.flatMap aY) hl Gw aB aB (by simp at CF;rw[Ak];omega);have hg:=grown 0 aB;subst hsl0;refine⟨(⟨some ⟨w.heap.size,0,none⟩,xl,grownCap w xl 0 e⟩:Sl),_,hr,?_⟩;simp only[gI,List.flatMap_nil] at hg;have ji:dD (w.drew.alloc (.cells ((ys.flatMap aY).toArray++Builtin.zeroCells zv.cells (grownCap w xl 0 e-xl)) e)) e i.size aY ⟨some ⟨w.heap.size,0,none⟩,xl,grownCap w xl 0 e⟩ ([]++ys):=by simpa using hg
  exact hK _ _ ji ((aU.refl _ w).drew.alloc _) (.inr ⟨_,rfl,dL _⟩) (λh=>by cases h) (λh=>absurd h (by show¬(0+ys.length<=0);omega))
 ·have bR:sb=some ⟨g,0,none⟩:=hb;subst bR
  by_cases GZ:sl+xl<=sc
  ·have wu:((xs.flatMap aY++cJ).take (sl*i.size))=xs.flatMap aY:=by
    have:(xs.flatMap aY).length=sl*i.size:=by rw[bF gE,QC]
    rw[<-this];exact List.take_left
   have QR:(xs.flatMap aY++cJ).length=sc*i.size:=gD;have PW:sl*i.size+(ys.flatMap aY).length<=(xs.flatMap aY++cJ).toArray.size:=by rw[hl,<-Nat.add_mul,List.size_toArray,QR];exact PU _ GZ
   have hr:=run_append_room (P:=P) w t 0 e i ht hi g sl sc (xs.flatMap aY++cJ).toArray ho ax xl xc (ys.flatMap aY) hl Gw QQ GZ PW;simp only[wu] at hr;refine⟨(⟨some ⟨g,0,none⟩,sl+xl,sc⟩:Sl),_,hr,hK ⟨some ⟨g,0,none⟩,sl+xl,sc⟩ _ ⟨by simp[QC,Ak],GZ,hs.max,.inr ⟨g,(xs.flatMap aY++cJ).drop (sl*i.size+(ys.flatMap aY).length),rfl,?_,?_⟩⟩ ?_ (.inl rfl) (λh=>by cases h) (λ_=>rfl)⟩
   ·have:=cU.setRow ho (xs.flatMap aY++ys.flatMap aY++(xs.flatMap aY++cJ).drop (sl*i.size+(ys.flatMap aY).length));simpa [GK] using this
   ·simp only[List.size_toArray] at PW;rw[GK,fJ,fJ,iv,bF gE xs,<-QC];show _=sc*i.size;omega
   ·exact(aU.setRow w g _).mono λk _ hk=>⟨_,rfl,hk⟩
  ·have holds:∀j u,(xs.flatMap aY)[j]? =some u->w.cell? ((⟨g,0,none⟩:Addr).add j)=some u:=pV (hs.rd gE) gE rfl;have hr:=run_append_grow (P:=P) w t 0 e i zv ht hi hz ⟨g,0,none⟩ sl sc (xs.flatMap aY) (by rw[bF gE,QC]) holds ax xl xc (ys.flatMap aY) hl Gw aB aB (growslice_fits aB (by rw[QC,Ak];exact CF));exact⟨(⟨some ⟨w.heap.size,0,none⟩,sl+xl,grownCap w (sl+xl) sc e⟩:Sl),_,hr,hK _ _ (grown sc aB) ((aU.refl _ w).drew.alloc _) (.inr ⟨_,rfl,dL _⟩) (λh=>by cases h) (λh=>absurd h (by show¬(xs.length+ys.length<=sc);omega))⟩
theorem fH{α:Type}{P:Program}{t e:TypeId}{n bytes:Nat}{z:List Value}(hE:sY P t e n bytes z){aY:α->List Value}(gE:∀x,(aY x).length=n)(jB:∀x,∀u∈aY x,u.oneCell'=true)
  {w:aH} {s x:Sl} {xs ys:List α} (hs:dD w e n aY s xs) (hx:Rd w x n aY ys) (h63:xs.length+ys.length<=9223372036854775807) (CF:(xs.length+ys.length)*bytes<=140737488355328) {K:Sl->aH->Prop}
  (hK:∀r w',dD w' e n aY r (xs++ys)->aU (λk=>∃a,s.b=some a/\k=a.block) w w'->(r.b=s.b\/∃a,r.b=some a/\w.heap.size<=a.block)->(r.b=none->s.b=none)->K r w'):
  aW P t t s (.slice x.b x.l x.c) w K:=
 Ih hE gE jB hs hx h63 CF λr w' h1 h2 h3 h4 _=>hK r w' h1 h2 h3 h4
theorem NX{α:Type}(z:Array Value)(aY:α->List Value)(x:α)(hz:aY x=z.toList)(k:Nat)(hp:0<z.size):(madeCells z (k*z.size)).toList=(List.replicate k x).flatMap aY:=by
 apply yG;intro j;have hl:((List.replicate k x).flatMap aY).length=k*z.size:=by
  clear hp
  induction k with
  |zero=>simp
  |succ k ih=>rw[List.replicate_succ,FE,fJ,ih,hz,Array.length_toList,Nat.add_mul];omega
 by_cases hj:j<k*z.size
 ·have hm:j%z.size<z.size:=Nat.mod_lt _ hp;have h1:(madeCells z (k*z.size)).toList[j]? =some z[j%z.size]:=by
   simp[madeCells,hj,hm]
  rw[h1]
  symm
  have:∀k j,j<k*z.size->((List.replicate k x).flatMap aY)[j]? =some (z[j%z.size]'(Nat.mod_lt _ hp)):=by
   intro k
   induction k with
   |zero=>intro j h;omega
   |succ k ih=>
    intro j h;rw[List.replicate_succ,FE,hz]
    by_cases hjz:j<z.size
    ·rw[Fw (by simpa using hjz)];simp[Nat.mod_eq_of_lt hjz,hjz]
    ·rw[Fx (by simp;omega),Array.length_toList,ih _ (by rw[Nat.add_mul] at h;omega)];have:(j-z.size)%z.size=j%z.size:=by rw[<-Nat.mod_eq_sub_mod aB]
     simp only[this]
  exact this k j hj
 ·rw[List.getElem?_eq_none (by simp[madeCells];omega),List.getElem?_eq_none aB]
theorem wW{α:Type}{P:Program}{t e:TypeId}{n bytes:Nat}{z:List Value}(hE:sY P t e n bytes z){aY:α->List Value}(x:α)(hx:aY x=z)(gE:∀x,(aY x).length=n)
  {w:aH} {k k':IntKind} {l c:Int} (h0:0<=l) (hlc:l<=c) (CF:(bytes:Int)*c<=281474976710656) (h63:c<=9223372036854775807) {K:Sl->aH->Prop}
  (hK:∀w',dD w' e n aY ⟨some ⟨w.heap.size,0,none⟩,l.toNat,c.toNat⟩ (List.replicate l.toNat x)->aL w w'->K ⟨some ⟨w.heap.size,0,none⟩,l.toNat,c.toNat⟩ w'):
  fE P t (.int k l) (.int k' c) w K:=by
 obtain⟨i,zv,hi,hz,rfl,rfl,rfl⟩:=hE.info;have hzs:zv.cells.size=i.size:=by have:=hE.zlen;simpa using this
 refine⟨⟨some ⟨w.heap.size,0,none⟩,l.toNat,c.toNat⟩,_,run_make (P:=P) w t e i zv hE.under hi hz k k' l c h0 hlc CF h63,hK _ ?_ (aL.alloc w _)⟩;have hct:l.toNat<=c.toNat:=aB;have heq:(madeCells zv.cells (c.toNat*i.size)).toList=(List.replicate l.toNat x).flatMap aY++(List.replicate (c.toNat-l.toNat) x).flatMap aY:=by rw[<-GK,List.replicate_append_replicate,show l.toNat+(c.toNat-l.toNat)=c.toNat by omega,<-hzs];exact NX zv.cells aY x hx _ (by rw[hzs];exact hE.pos)
 refine⟨by simp,hct,by simp only[maxLen];show c.toNat<=_;omega,.inr ⟨w.heap.size,(List.replicate (c.toNat-l.toNat) x).flatMap aY,rfl,?_,?_⟩⟩
 ·rw[<-heq];exact cU.iP w _ e
 ·rw[<-heq,Array.length_toList,size_madeCells]
theorem pI{P:Program}{g:FuncId}{T:Tr}(hS:pD P g T)(jj:enters P g=true){first cap:Array Value}{args:List Value}{w:aH}{K:Value->aH->Prop}(h:T (first.toList++args++cap.toList) w K):
  lI P (.func (.func g) first cap) args w K:=by
 refine⟨g,first,cap,rfl,jj,?_⟩
 have:=hS _ w K h;have e:(first.toList++args++cap.toList).toArray=first++args.toArray++cap:=by simp
 rwa[e] at this
theorem cU.read{w:aH}{g:Nat}{e:TypeId}{cs:List Value}(h:cU w g e cs){o:Nat}{vs:List Value}(hv:∀j v,vs[j]? =some v->cs[o+j]? =some v):
  ∀j v,vs[j]? =some v->w.cell? ((⟨g,o,none⟩:Addr).add j)=some v:=by
 intro j v hj;rw[aS,h.cell];exact hv j v hj
theorem MW{P:Program}{t t' e:TypeId}{n:Nat}(ht:P.underlying t=some (.slice e))(hn:(P.info? e).map (·.size)=some n){w:aH}{g o dl dc:Nat}{a:Addr}{sl sc:Nat}{eg:TypeId}{bI cs:List Value}
  (ho:cU w g eg bI) (hl:cs.length=min sl dl*n) (hr:∀j v,cs[j]? =some v->w.cell? (a.add j)=some v) (PW:o+cs.length<=bI.length) (h1:∀v∈cs,v.oneCell'=true) {K:Int->aH->Prop}
  (hK:∀w',cU w' g eg (bI.take o++cs++bI.drop (o+cs.length))->aU (λk=>k=g) w w'->w'.heap.size=w.heap.size->K (min sl dl:Nat) w'):
  QS P t t' ⟨some ⟨g,o,none⟩,dl,dc⟩ (.slice (some a) sl sc) w K:=by
 cases hq:P.info? e with
 |none=>rw[hq] at hn;cases hn
 |some i=>
  have hi:i.size=n:=by simpa [hq] using hn
  subst hi;have hf:=run_firstCells_some (P:=P) w i.size (Nat.min sl dl) a sl sc cs hl hr;have vE:=run_storeCells_at P g o eg cs 0 bI.toArray w ho (by simpa using PW) h1;refine⟨((min sl dl:Nat):Int),_,?_,hK _ (ho.setRow _) (aU.setRow w g _) dN⟩;simp only[Nat.add_zero] at vE;simp[Builtin.copy_,run_underlying ht,Builtin.lenOf,sizeOf,typeInfo,hq,hf,vE]
  rfl
theorem Ix(z:Array Value)(n:Nat):(Builtin.zeroCells z n).toList.length=n*z.size:=by simp[Builtin.zeroCells]
theorem ZQ{P:Program}{t e:TypeId}{n bytes:Nat}{z:List Value}(hE:sY P t e n bytes z)(hz1:∀v∈z,v.oneCell'=true){w:aH}{g o l c:Nat}{eg:TypeId}{bI:List Value}
  (ho:cU w g eg bI) (PW:o+l*n<=bI.length) {K:aH->Prop}
  (hK:∀w' zs,zs.length=l*n->cU w' g eg (bI.take o++zs++bI.drop (o+l*n))->aU (λk=>k=g) w w'->w'.heap.size=w.heap.size->K w'):
  TM P t (.slice (some ⟨g,o,none⟩) l c) w K:=by
 obtain⟨i,zv,hi,hz,rfl,rfl,rfl⟩:=hE.info;have hzs:zv.cells.size=i.size:=by have:=hE.zlen;simpa using this
 by_cases hl:l=0
 ·subst hl;refine⟨(),w,?_,hK w [] dN (by simpa using ho) (aU.refl _ _) rfl⟩;simp[Builtin.clear_,run_underlying hE.under,AA]
 ·have gD:(Builtin.zeroCells zv.cells l).toList.length=l*i.size:=by rw[Ix,hzs]
  have jB:∀v∈(Builtin.zeroCells zv.cells l).toList,v.oneCell'=true:=by
   intro v hv;simp only[Builtin.zeroCells,Array.toList_map,mD] at hv;obtain⟨j,_,rfl⟩:=hv;have hp:0<zv.cells.size:=by rw[hzs];exact hE.pos
   have hm:j%zv.cells.size<zv.cells.size:=Nat.mod_lt _ hp;rw[getElem!_pos zv.cells _ hm];exact hz1 _ dN
  have vE:=run_storeCells_at P g o eg (Builtin.zeroCells zv.cells l).toList 0 bI.toArray w ho (by rw[gD];simpa using PW) jB;rw[gD] at vE;refine⟨(),_,?_,hK _ (Builtin.zeroCells zv.cells l).toList gD (ho.setRow _) (aU.setRow w g _) dN⟩;simp only[Nat.add_zero] at vE;obtain⟨l',rfl⟩:∃m,l=m+1:=⟨l-1,aB⟩;simp[Builtin.clear_,run_underlying hE.under,zeroValue,typeInfo,hi,hz,vE,AA]
theorem pt{α:Type}(z:Array Value)(aY:α->List Value)(x:α)(hz:aY x=z.toList)(k:Nat)(hp:0<z.size):(Builtin.zeroCells z k).toList=(List.replicate k x).flatMap aY:=NX z aY x hz k hp
theorem Tz{α:Type}{P:Program}{t ti e:TypeId}{n bytes:Nat}{z:List Value}(hE:sY P t e n bytes z)(hti:P.underlying ti=some (.int .i64)){aY:α->List Value}(x:α)(hx:aY x=z)(gE:∀x,(aY x).length=n)
  {w:aH} {s:Sl} {xs:List α} (hs:Rd w s n aY xs) {k:Nat} (hk:s.c<xs.length+k) (h63:xs.length+k<=9223372036854775807) (CF:(xs.length+k)*bytes<=140737488355328) {K:Sl->aH->Prop}
  (hK:∀r w',dD w' e n aY r (xs++List.replicate k x)->aL w w'->(∃a,r.b=some a/\w.heap.size<=a.block)->K r w'):aW P t ti s (.int .i64 (k:Int)) w K:=by
 obtain⟨i,zv,hi,hz,rfl,rfl,rfl⟩:=hE.info;obtain⟨sb,sl,sc⟩:=s;have QC:sl=xs.length:=hs.len;have hsc:sc<sl+k:=by rw[QC];exact hk
 have hzs:zv.cells.size=i.size:=by have:=hE.zlen;simpa using this
 have kC:=grownCap_ge w (sl+k) sc e;have hcm:grownCap w (sl+k) sc e<=maxLen:=grownCap_le_maxLen w (sl+k) sc e (by simp only[maxLen];omega);have hold:(Builtin.firstCells i.size sl (.slice sb sl sc)).run P w.drew=.ok (xs.flatMap aY).toArray w.drew:=by
  cases sb with
  |none=>
   have Lj:xs=[]:=by
    cases xs with
    |nil=>rfl
    |cons y r=>obtain⟨a,ha,_⟩:=hs.get 0 y rfl;cases ha
   subst Lj;simp[Builtin.firstCells]
  |some a=>exact run_firstCells_some (P:=P) w.drew i.size sl a sl sc (xs.flatMap aY) (by rw[bF gE,QC]) (λj v hj=>by simpa using pV hs gE (a:=a) rfl j v hj)
 have hnk:(Builtin.zeroCells zv.cells k).toList=(List.replicate k x).flatMap aY:=pt zv.cells aY x hx k (by rw[hzs];exact hE.pos);have hkw:IntKind.i64.wrap (k:Int)=(k:Int):=w64n k aB;have hkb:¬(281474976710656<(k:Int)*(i.bytes:Int)):=by have h1:k*i.bytes<=(xs.length+k)*i.bytes:=PU _ aB;have h2:((k*i.bytes:Nat):Int)<=140737488355328:=aB;rw[Int.natCast_mul] at h2;omega
 have h48:¬(281474976710656<Builtin.nextslicecap (sl+k) sc*i.bytes):=by have:=growslice_fits (need:=sl+k) (old:=sc) (bytes:=i.bytes) hsc (by rw[QC];exact CF);omega
 have GZ:¬(sl+k<=sc):=aB;have uB:¬(k*i.size=0):=by
  have hk0:0<k:=by have:=hs.cap;simp only at this;omega
  have:=Nat.mul_pos hk0 hE.pos;omega
 have h63':¬(9223372036854775807<(sl:Int)+(k:Int)):=aB;refine⟨(⟨some ⟨w.heap.size,0,none⟩,sl+k,grownCap w (sl+k) sc e⟩:Sl),w.drew.alloc (.cells ((xs.flatMap aY).toArray++Builtin.zeroCells zv.cells k++Builtin.zeroCells zv.cells (grownCap w (sl+k) sc e-(sl+k))) e),?_,hK _ _ ⟨?_,kC,hcm,.inr ⟨w.heap.size,(Builtin.zeroCells zv.cells (grownCap w (sl+k) sc e-(sl+k))).toList,rfl,?_,?_⟩⟩ ((aU.refl _ w).drew.alloc _) ⟨_,rfl,dL _⟩⟩
 ·have DE:¬((k:Int)<0):=aB;simp[Builtin.append_,run_underlying hE.under,run_underlying hti,sizeOf,typeInfo,zeroValue,hi,hz,asInt,asIntOf,hkw,hkb,GZ,h63',h48,Question.forced,hold,DE,uB,newRow,grownCap,oL.aY,CK.aY]
 ·simp[QC]
 ·have:=cU.iP w.drew ((xs.flatMap aY).toArray++Builtin.zeroCells zv.cells k++Builtin.zeroCells zv.cells (grownCap w (sl+k) sc e-(sl+k))) e;simpa [sL,hnk] using this
 ·rw[fJ,bF gE,Ix,hzs,fJ,List.length_replicate,<-QC,<-Nat.add_mul];congr 1;show sl+k+(grownCap w (sl+k) sc e-(sl+k))=grownCap w (sl+k) sc e;omega
theorem oX(b:cR)(c n:Nat):aR b c 0 n=b:=by
 unfold aR
 split
 ·rfl
 ·cases b with
  |none=>rfl
  |some a=>simp[Addr.add]
theorem lJ{g c l n:Nat}(h:l<c):aR (some ⟨g,0,none⟩) c l n=some ⟨g,l*n,none⟩:=by
 unfold aR;rw[if_neg aB];simp[aS]
theorem Ow{α:Type}{aY:α->List Value}{n:Nat}(gE:∀x,(aY x).length=n)(xs:List α)(R:List Value)(i:Nat)(hi:i<=xs.length):(xs.flatMap aY++R).take (i*n)=(xs.take i).flatMap aY:=by
 have h1:xs.flatMap aY=(xs.take i).flatMap aY++(xs.drop i).flatMap aY:=by rw[<-GK,Ls]
 have h2:((xs.take i).flatMap aY).length=i*n:=by rw[bF gE,sM,Nat.min_eq_left hi]
 rw[h1,sL,<-h2,List.take_left]
theorem flat_drop{α:Type}{aY:α->List Value}{n:Nat}(gE:∀x,(aY x).length=n)(xs:List α)(R:List Value)(i:Nat)(hi:i<=xs.length):(xs.flatMap aY++R).drop (i*n)=(xs.drop i).flatMap aY++R:=by
 have h1:xs.flatMap aY=(xs.take i).flatMap aY++(xs.drop i).flatMap aY:=by rw[<-GK,Ls]
 have h2:((xs.take i).flatMap aY).length=i*n:=by rw[bF gE,sM,Nat.min_eq_left hi]
 conv=>lhs;rw[h1,sL,<-h2,List.drop_left]
theorem Zz{P:Program}{f:FuncId}{fn:Func}{t tR e:TypeId}{n:Nat}(hf:P.funcs[f]? =some fn)(hname:(fn.name== "runtime.NumGoroutine")=false) (hb:fn.body.isNone=true) (hn:Extern.findNext fn=none)
  (he:Extern.find fn=some (Extern.SlicesOverlaps.overlaps #[t,t] #[tR])) (ht:P.underlying t=some (.slice e)) (hz:(P.info? e).map (·.size)=some n) {w:aH} {ga gb oa ob la ca lb cb:Nat} {ea eb:TypeId} {ca' cb':List Value}
  (ha:cU w ga ea ca') (bR:cU w gb eb cb') (gK:ga≠gb) (uB:cb'.length≠0) {K:Bool->aH->Prop} (hK:K false w):
  extD P (.c .bool) f [.slice (some ⟨ga,oa,none⟩) la ca,.slice (some ⟨gb,ob,none⟩) lb cb] w K:=by
 have PN:∀w,(sizeOf e).run P w=.ok n w:=λw=>by
  cases hq:P.info? e with
  |none=>rw[hq] at hz;cases hz
  |some i=>rw[hq] at hz;cases hz;exact yZ hq w
 refine⟨false,w,?_,hK⟩;have hsa:w.shape? ga=some (ea,ca'.toArray.size):=by unfold World.shape?;rw[show w.heap[ga]? =_ from ha]
 have hsb:w.shape? gb=some (eb,cb'.toArray.size):=by unfold World.shape?;rw[show w.heap[gb]? =_ from bR]
 have fz:∀o,w.frozen? ⟨ga,o,none⟩=false:=λo=>by unfold World.frozen?;rw[show w.heap[ga]? =_ from ha];simp
 rw[run_callFunc_extern hf hname hb hn he,Lib.run_overlaps_apart w t tR e ht n PN ⟨ga,oa,none⟩ ⟨gb,ob,none⟩ la ca lb cb gK ea eb _ _ hsa hsb (by simpa using uB) (fz _) (fz _)]
 rfl
end Go.Den
namespace Go.Den
open Go Go.MapKept
section
structure QW{K:Type}(P:Program)(kt:TypeId)(ek:K->Value):Prop where
 check:∀(e:Bool) (x:K) (w:aH),(Instr.checkKey e 10000 kt (ek x)).run P w=.ok () w
 find:∀(x:K) (w:aH) (l:List MapEntry) (ks:List K),l.map (·.key)=ks.map ek->
  (x∉ks/\(Instr.findKey kt (ek x) l).run P w=.ok none w)\/∃j e,ks[j]? =some x/\l[j]? =some e/\(Instr.findKey kt (ek x) l).run P w=.ok (some (j,e.val)) w
 stays:∀x:K,Instr.sameBits 10000 (ek x) (ek x)=true
theorem keyOk_int{P:Program}{kt:TypeId}{k:IntKind}(hd:P.underlying kt=some (.int k)):QW P kt (λn:Int=>.int k n) where
 check e x w:=run_checkKey hd (by simp[IsKey]) e 9999
 find x w l ks h:=by
  have hk:∀e∈l,IsKey (.int k) e.key:=λe he=>by
   have:e.key∈ks.map (λn:Int=>Value.int k n):=h▸mD.2 ⟨e,he,rfl⟩;obtain⟨n,_,hn⟩:=mD.1 this;rw[<-hn];simp[IsKey]
  rcases findNow_spec (d:=.int k) (k:=.int k x) (by simp[IsKey]) l 0 hk with⟨h1,h2⟩|⟨j,e,h1,h2,h3⟩
  ·refine .inl ⟨λhx=>?_,run_findKey hd h1⟩;have:(Value.int k x)∈l.map (·.key):=h▸mD.2 ⟨x,hx,rfl⟩;obtain⟨e,he,he2⟩:=mD.1 this;exact h2 e he he2
  ·rw[gI] at h1;refine .inr ⟨j,e,?_,h2,run_findKey hd h1⟩;have:(l.map (·.key))[j]? =some (.int k x):=by rw[oM,h2];simp[h3]
   rw[h,oM] at this;cases hj:ks[j]? with
   |none=>rw[hj] at this;cases this
   |some n=>rw[hj] at this;simp at this;rw[this]
 stays x:=by simp[Instr.sameBits]
theorem Yo(kn:oL)(x:kn.T)(b:Bool):AA [kn,.c .bool] (x,b,())=[kn.aY x,.bool b]:=rfl
def wP{K V:Type}[DecidableEq K]:List (K×V)->K->Option V
 | [],_=>none
 |p::r,x=>if p.1=x then some p.2 else wP r x
theorem HP{K V:Type}[DecidableEq K]:∀{l:List (K×V)} {x:K},x∉l.map (·.1)->wP l x=none
 | [],_,_=>rfl
 |p::r,x,h=>by
  simp at h;unfold wP;rw[if_neg (λe=>h.1 e.symm),HP (by simpa using h.2)]
theorem ZM{K V:Type}[DecidableEq K]:∀{l:List (K×V)} {x:K} {v:V} {j:Nat},(l.map (·.1)).Nodup->l[j]? =some (x,v)->wP l x=some v
 | [],_,_,j,_,h=>by simp at h
 |p::r,x,v,0,_,h=>by simp at h;subst h;simp[wP]
 |p::r,x,v,j+1,hn,h=>by
  simp at h hn;unfold wP;have:p.1≠x:=λe=>hn.1 v (by rw[e];exact lD h);rw[if_neg this];exact ZM (by simpa using hn.2) h
theorem HE{K V:Type}[DecidableEq K]:∀{l:List (K×V)} {x:K},(wP l x).isSome=true↔x∈l.map (·.1)
 | [],_=>by simp[wP]
 |p::r,x=>by
  unfold wP
  by_cases h:p.1=x
  ·simp[h]
  ·rw[if_neg h,HE];simp[Ne.symm h]
def PY(es:Array MapEntry)(KV:Nat):Prop:=(∀e∈es.toList,e.born<KV)/\(es.toList.map (·.born)).Nodup
def kV{K:Type}[DecidableEq K](w:aH)(r:Nat)(ek:K->Value)(kn:oL)(f:K->Option kn.T)(n:Nat):Prop:=
 ∃(es:Array MapEntry) (KV:Nat) (l:List (K×kn.T)),w.heap[r]? =some (.map es KV)/\es.toList.map (·.key)=l.map (λp=>ek p.1)/\es.toList.map (·.val)=l.map (λp=>kn.aY p.2)/\(l.map (·.1)).Nodup/\(∀x,f x=wP l x)/\l.length=n/\PY es KV
section
variable{K:Type}[DecidableEq K]{P:Program}{w:aH}{r:Nat}{ek:K->Value}{kn:oL}{f:K->Option kn.T}{n:Nat}
theorem kV.lt(h:kV w r ek kn f n):r<w.heap.size:=by obtain⟨es,c,l,h1,_⟩:=h;exact(Array.getElem?_eq_some_iff.1 h1).1
theorem kV.aK{F:Nat->Prop}{w':aH}(h:kV w r ek kn f n)(hm:aU F w w')(hF:¬F r):kV w' r ek kn f n:=by
 have hl:=h.lt;obtain⟨es,c,l,h1,h2⟩:=h;exact⟨es,c,l,(hm.block r hl hF).trans h1,h2⟩
theorem kV.congr{g:K->Option kn.T}{m:Nat}(h:kV w r ek kn f n)(hg:∀x,g x=f x)(hm:m=n):kV w r ek kn g m:=by
 obtain⟨es,c,l,h1,h2,h3,h4,h5,h6,hB⟩:=h;exact⟨es,c,l,h1,h2,h3,h4,λx=>(hg x).trans (h5 x),h6.trans hm.symm,hB⟩
theorem kV.Vy(h:kV w r ek kn f n):∃ks:List K,ks.Nodup/\ks.length=n/\∀x,x∈ks↔(f x).isSome=true:=by
 obtain⟨es,c,l,h1,h2,h3,h4,h5,h6,hB⟩:=h;exact⟨l.map (·.1),h4,by simpa using h6,λx=>by rw[h5 x,HE]⟩
theorem kV.new(w:aH)(ek:K->Value)(kn:oL):kV (w.alloc (.map #[] 0)) w.heap.size ek kn (λ_=>none) 0:=
 ⟨#[],0,[],heap_alloc_new w _,rfl,rfl,List.nodup_nil,λ_=>rfl,rfl,by simp,List.nodup_nil⟩
theorem kV.find{kt:TypeId}(hk:QW P kt ek)(h:kV w r ek kn f n)(x:K)(w':aH):∃(es:Array MapEntry) (KV:Nat) (l:List (K×kn.T)),w.heap[r]? =some (.map es KV)/\es.toList.map (·.key)=l.map (λp=>ek p.1)/\es.toList.map (·.val)=l.map (λp=>kn.aY p.2)/\(l.map (·.1)).Nodup/\(∀x,f x=wP l x)/\l.length=n/\PY es KV/\
  ((x∉l.map (·.1)/\f x=none/\(Instr.findKey kt (ek x) es.toList).run P w'=.ok none w')\/∃j v,f x=some v/\l[j]? =some (x,v)/\j<es.size/\(es.toList[j]?).map (·.key)=some (ek x)/\(Instr.findKey kt (ek x) es.toList).run P w'=.ok (some (j,kn.aY v)) w'):=by
 obtain⟨es,c,l,h1,h2,h3,h4,h5,h6,hB⟩:=h;refine⟨es,c,l,h1,h2,h3,h4,h5,h6,hB,?_⟩;rcases hk.find x w' es.toList (l.map (·.1)) (by rw[h2,List.map_map];rfl) with⟨g1,g2⟩|⟨j,e,g1,g2,g3⟩
 ·exact .inl ⟨g1,by rw[h5,HP g1],g2⟩
 ·right;rw[oM] at g1;cases hj:l[j]? with
  |none=>rw[hj] at g1;cases g1
  |some p=>
   rw[hj] at g1;have hp:p.1=x:=by simpa using g1
   obtain⟨y,v⟩:=p;simp only at hp;subst hp;have hv:e.val=kn.aY v:=by
    have:(es.toList.map (·.val))[j]? =some e.val:=by rw[oM,g2];rfl
    rw[h3,oM,hj] at this;simpa using this.symm
   have uC:(es.toList[j]?).map (·.key)=some (ek y):=by
    have:(es.toList.map (·.key))[j]? =some (ek y):=by rw[h2,oM,hj];rfl
    rwa[oM] at this
   refine⟨j,v,by rw[h5,ZM h4 hj],hj,by simpa using(eQ.1 g2).1,uC,by rw[<-hv];exact g3⟩
theorem rA{Q:Nat->aH->Prop}(hQ:kV (w.alloc (.map #[] 0)) w.heap.size ek kn (λ_=>none) 0->aL w (w.alloc (.map #[] 0))->Q w.heap.size (w.alloc (.map #[] 0))):rT w Q:=hQ (kV.new w ek kn) (aL.alloc w _)
theorem OU{kt et:TypeId}{t:TypeId}(ht:P.underlying t=some (.map kt et))(hk:QW P kt ek){z:kn.T}(hz:(P.info? et).map (·.zero)=some (some (kn.aY z)))(h:kV w r ek kn f n)(x:K){Q:kn.T->Bool->aH->Prop}
  (hQ:Q ((f x).getD z) (f x).isSome w):HF P kn t (.map (some r)) (ek x) w Q:=by
 obtain⟨es,c,l,h1,h2,h3,h4,h5,h6,hB,hf⟩:=h.find hk x w;have hzv:(zeroValue et).run P w=.ok (kn.aY z) w:=by
  cases hq:P.info? et with
  |none=>rw[hq] at hz;cases hz
  |some i=>rw[hq] at hz;simp at hz;simp[zeroValue,typeInfo,hq,hz]
 rcases hf with⟨_,g,qE⟩|⟨j,v,g,_,_,_,qE⟩
 ·rw[g] at hQ;exact⟨(z,false,()),w,by simp[Instr.lookup,run_underlying ht,MapKept.run_getObj_map h1,hk.check,qE,hzv,Yo],hQ⟩
 ·rw[g] at hQ;exact⟨(v,true,()),w,by simp[Instr.lookup,run_underlying ht,MapKept.run_getObj_map h1,hk.check,qE,Yo],hQ⟩
theorem BG{kt et:TypeId}{t:TypeId}(ht:P.underlying t=some (.map kt et))(hk:QW P kt ek){z:kn.T}(hz:(P.info? et).map (·.zero)=some (some (kn.aY z)))(h:kV w r ek kn f n)(x:K){Q:kn.T->aH->Prop}
  (hQ:Q ((f x).getD z) w):nA P kn t (.map (some r)) (ek x) w Q:=by
 obtain⟨es,c,l,h1,h2,h3,h4,h5,h6,hB,hf⟩:=h.find hk x w;have hzv:(zeroValue et).run P w=.ok (kn.aY z) w:=by
  cases hq:P.info? et with
  |none=>rw[hq] at hz;cases hz
  |some i=>rw[hq] at hz;simp at hz;simp[zeroValue,typeInfo,hq,hz]
 rcases hf with⟨_,g,qE⟩|⟨j,v,g,_,_,_,qE⟩
 ·rw[g] at hQ;exact⟨z,w,by simp[Instr.lookup,run_underlying ht,MapKept.run_getObj_map h1,hk.check,qE,hzv],hQ⟩
 ·rw[g] at hQ;exact⟨v,w,by simp[Instr.lookup,run_underlying ht,MapKept.run_getObj_map h1,hk.check,qE],hQ⟩
theorem Yf{kt et:TypeId}{t:TypeId}(ht:P.underlying t=some (.map kt et))(h:kV w r ek kn f n){Q:Int->aH->Prop}(hQ:Q (n:Int) w):Er P t (.map (some r)) w Q:=by
 obtain⟨es,c,l,h1,h2,h3,h4,h5,h6,hB⟩:=h;have hs:es.size=n:=by rw[<-h6];have:=congrArg List.length h2;simpa using this
 exact⟨(n:Int),w,by simp[Builtin.len_,run_underlying ht,MapKept.run_getObj_map h1,goInt,hs,oL.aY,CK.aY],hQ⟩
theorem NW(es:Array MapEntry)(i:Nat)(k v:Value)(hk:(es.toList[i]?).map (·.key)=some k):(es.modify i λe=>{e with key:=k,val:=v}).toList.map (·.key)=es.toList.map (·.key):=by
 apply yG;intro j;simp only[oM,Array.toList_modify,List.getElem?_modify]
 by_cases hj:i=j
 ·subst hj;cases he:es.toList[i]? with
  |none=>rfl
  |some e=>rw[he] at hk;simp at hk;simp[hk]
 ·simp[hj]
theorem NV(es:Array MapEntry)(i:Nat)(k v:Value):(es.modify i λe=>{e with key:=k,val:=v}).toList.map (·.val)=(es.toList.map (·.val)).set i v:=by
 apply yG;intro j;simp only[oM,Array.toList_modify,List.getElem?_modify,jA]
 by_cases hj:i=j
 ·subst hj
  by_cases cC:i<es.toList.length
  ·have h2:i<es.size:=by simpa using cC
   simp[h2]
  ·rw[List.getElem?_eq_none aB];simp at cC;simp;omega
 ·simp[hj]
theorem XA{V:Type}:∀{l:List (K×V)} {j:Nat} {x:K} {v:V},(l.map (·.1)).Nodup->(l[j]?).map (·.1)=some x->∀y,wP (l.set j (x,v)) y=if y=x then some v else wP l y
 | [],j,x,v,_,h,_=>by simp at h
 |p::r,0,x,v,hn,h,y=>by
  simp at h;simp only[List.set_cons_zero,wP]
  by_cases hy:y=x
  ·simp[hy]
  ·rw[if_neg (λe=>hy e.symm),if_neg hy,h,if_neg (λe=>hy e.symm)]
 |p::r,j+1,x,v,hn,h,y=>by
  simp only[List.getElem?_cons_succ] at h;simp only[Dt,List.nodup_cons] at hn;simp only[List.set_cons_succ,wP];have hx:x∈r.map (·.1):=by
   cases hj:r[j]? with
   |none=>rw[hj] at h;cases h
   |some q=>rw[hj] at h;simp at h;rw[<-h];exact mD.2 ⟨q,lD hj,rfl⟩
  have hpx:p.1≠x:=λe=>hn.1 (e▸hx);rw[XA hn.2 h y]
  by_cases hy:y=x
  ·subst hy;simp[hpx]
  ·simp[hy]
theorem EG{V:Type}:∀{l:List (K×V)} {x:K} {v:V},x∉l.map (·.1)->∀y,wP (l++[(x,v)]) y=if y=x then some v else wP l y
 | [],x,v,_,y=>by
  simp only[List.nil_append,wP]
  by_cases h:y=x
  ·simp[h]
  ·rw[if_neg (λe=>h e.symm),if_neg h]
 |p::r,x,v,hn,y=>by
  simp only[Dt,jO,not_or] at hn;simp only[List.cons_append,wP];rw[EG hn.2 y]
  by_cases hy:y=x
  ·subst hy;rw[if_neg (λe=>hn.1 e.symm)];simp
  ·simp[hy]
theorem PY.push{es:Array MapEntry}{c:Nat}(h:PY es c)(k v:Value):PY (es.push {key:=k,val:=v,born:=c}) (c+1):=by
 obtain⟨h1,h2⟩:=h;refine⟨λe he=>?_,?_⟩
 ·simp only[Array.toList_push,kE,oG] at he;rcases he with he|rfl
  ·have:=h1 e he;omega
  ·exact Nat.lt_succ_self _
 ·simp only[Array.toList_push,wQ,Dt,List.map_nil];rw[List.nodup_append];refine⟨h2,by simp,λa ha b hb=>?_⟩;simp at hb;subst hb;obtain⟨e,he,rfl⟩:=mD.1 ha;have:=h1 e he;omega
theorem bm(es:Array MapEntry)(i:Nat)(F:MapEntry->MapEntry)(hF:∀e,(F e).born=e.born):(es.modify i F).toList.map (·.born)=es.toList.map (·.born):=by
 apply yG;intro j;simp only[oM,Array.toList_modify,List.getElem?_modify]
 by_cases hj:i=j
 ·subst hj;cases es.toList[i]? with
  |none=>rfl
  |some e=>simp[hF]
 ·simp[hj]
theorem PY.modify{es:Array MapEntry}{c:Nat}(h:PY es c)(i:Nat)(F:MapEntry->MapEntry)(hF:∀e,(F e).born=e.born):PY (es.modify i F) c:=by
 have hb:=bm es i F hF;refine⟨λe he=>?_,by rw[hb];exact h.2⟩;have:e.born∈es.toList.map (·.born):=hb▸mD.2 ⟨e,he,rfl⟩;obtain⟨e',uK,e1⟩:=mD.1 this;rw[<-e1];exact h.1 e' uK
theorem PY.erase{es:Array MapEntry}{c:Nat}(h:PY es c)(i:Nat):PY (es.eraseIdxIfInBounds i) c:=by
 have hs:(es.eraseIdxIfInBounds i).toList.Sublist es.toList:=by
  unfold Array.eraseIdxIfInBounds
  split
  ·simp only[Array.toList_eraseIdx];exact List.eraseIdx_sublist _ _
  ·exact List.Sublist.refl _
 exact⟨λe he=>h.1 e (hs.subset he),h.2.sublist (hs.map _)⟩
theorem PY.find{es:Array MapEntry}{c:Nat}(h:PY es c){i:Nat}{e:MapEntry}(he:es.toList[i]? =some e):es.findIdx? (λx=>(x.born:Int)==(e.born:Int))=some i:=by
 obtain⟨l⟩:=es;rw[List.findIdx?_toArray,List.findIdx?_eq_some_iff_getElem];have hi:=(eQ.1 he).1;have hg:l[i]=e:=(eQ.1 he).2;refine⟨hi,by rw[hg];simp,λj hj=>?_⟩;have hn:=h.2;simp only at hn;have dJ:i<l.length:=hi;have qP:j<l.length:=aB;have gK:l[j].born≠l[i].born:=λe'=>by
  have:=Vw.1 hn j i (by simp;omega) (by simpa using hi) hj;simp at this;exact this e'
 rw[hg] at gK;simp;omega
theorem lZ(w:aH)(r:Nat)(o:Obj):aU (λk=>k=r) w {w with heap:=w.heap.setIfInBounds r o}:=
 ⟨rfl,rfl,rfl,by simp,λk _ hk=>by simp[Ne.symm hk]⟩
theorem WT{kt et:TypeId}{t:TypeId}(ht:P.underlying t=some (.map kt et))(hk:QW P kt ek)(h:kV w r ek kn f n)(x:K)(v:kn.T){Q:aH->Prop}
  (hQ:∀w',kV w' r ek kn (λy=>if y=x then some v else f y) (if(f x).isSome then n else n+1)->aU (λk=>k=r) w w'->w'.heap.size=w.heap.size->Q w'):gJ P t (.map (some r)) (ek x) (kn.aY v) w Q:=by
 obtain⟨es,c,l,h1,h2,h3,h4,h5,h6,hB,hf⟩:=h.find hk x w;rcases hf with⟨hx,g,qE⟩|⟨j,u,g,hj,hjs,uC,qE⟩
 ·refine⟨{w with heap:=w.heap.setIfInBounds r (.map (es.push {key:=ek x,val:=kn.aY v,born:=c}) (c+1))},by simp[Instr.mapUpdate,run_underlying ht,MapKept.run_getObj_map h1,hk.check,qE,run_setObj_map _ h1],hQ _ ?_ (lZ w r _) dN⟩;refine⟨_,_,l++[(x,v)],(heap_set h1).1,by simp[h2],by simp[h3],?_,λy=>?_,by rw[g];simp[h6],hB.push _ _⟩
  ·rw[wQ,List.nodup_append];exact⟨h4,by simp,λa ha b hb=>by simp at hb;subst hb;exactλe=>hx (e▸ha)⟩
  ·show(if y=x then some v else f y)=_
   rw[EG hx y,h5]
 ·obtain⟨e,he⟩:∃e,es.toList[j]? =some e:=⟨_,cM (by simpa using hjs)⟩;have hek:e.key=ek x:=by rw[he] at uC;simpa using uC
  have hea:es[j]? =some e:=by simpa using he
  refine⟨{w with heap:=w.heap.setIfInBounds r (.map (es.modify j λe=>{e with key:=ek x,val:=kn.aY v}) c)},by simp[Instr.mapUpdate,run_underlying ht,MapKept.run_getObj_map h1,hk.check,qE,run_setObj_map _ h1,Instr.keyThatStays,hea,hek,hk.stays],hQ _ ?_ (lZ w r _) dN⟩;refine⟨_,_,l.set j (x,v),(heap_set h1).1,?_,?_,?_,λy=>?_,by rw[g];simp[h6],hB.modify j (λe=>{e with key:=ek x,val:=kn.aY v}) λ_=>rfl⟩
  ·rw[NW es j _ _ uC,h2];apply yG;intro i;simp only[oM,jA]
   by_cases hi:j=i
   ·subst hi;have cC:=(eQ.1 hj).1;rw[hj];simp[cC]
   ·simp[hi]
  ·rw[NV,h3,List.map_set]
  ·have:(l.set j (x,v)).map (·.1)=l.map (·.1):=by
    apply yG;intro i;simp only[oM,jA]
    by_cases hi:j=i
    ·subst hi;have cC:=(eQ.1 hj).1;rw[hj];simp[cC]
    ·simp[hi]
   rw[this];exact h4
  ·show(if y=x then some v else f y)=_
   rw[XA h4 (by rw[hj];rfl) y,h5]
theorem ah(es:Array MapEntry)(i:Nat)(v:Value):(es.modify i λe=>{e with val:=v}).toList.map (·.key)=es.toList.map (·.key):=by
 apply yG;intro j;simp only[oM,Array.toList_modify,List.getElem?_modify]
 by_cases hj:i=j
 ·subst hj;cases es.toList[i]?<;>simp
 ·simp[hj]
theorem af(es:Array MapEntry)(i:Nat)(v:Value):(es.modify i λe=>{e with val:=v}).toList.map (·.val)=(es.toList.map (·.val)).set i v:=by
 apply yG;intro j;simp only[oM,Array.toList_modify,List.getElem?_modify,jA]
 by_cases hj:i=j
 ·subst hj
  by_cases cC:i<es.toList.length
  ·have h2:i<es.size:=by simpa using cC
   simp[h2]
  ·rw[List.getElem?_eq_none aB];simp at cC;simp;omega
 ·simp[hj]
theorem ai(es:Array MapEntry)(i:Nat)(k:Value):(es.modify i λe=>{e with key:=k}).toList.map (·.val)=es.toList.map (·.val):=by
 apply yG;intro j;simp only[oM,Array.toList_modify,List.getElem?_modify]
 by_cases hj:i=j
 ·subst hj;cases es.toList[i]?<;>simp
 ·simp[hj]
theorem aj(es:Array MapEntry)(i:Nat)(k:Value)(hk:(es.toList[i]?).map (·.key)=some k):(es.modify i λe=>{e with key:=k}).toList.map (·.key)=es.toList.map (·.key):=by
 apply yG;intro j;simp only[oM,Array.toList_modify,List.getElem?_modify]
 by_cases hj:i=j
 ·subst hj;cases he:es.toList[i]? with
  |none=>rfl
  |some e=>rw[he] at hk;simp at hk;simp[hk]
 ·simp[hj]
omit [DecidableEq K] in
theorem Bi{V:Type}{l:List (K×V)}{j:Nat}{x:K}{u:V}(v:V)(hj:l[j]? =some (x,u)):(l.set j (x,v)).map (·.1)=l.map (·.1):=by
 apply yG;intro i;simp only[oM,jA]
 by_cases hi:j=i
 ·subst hi;have cC:=(eQ.1 hj).1;rw[hj];simp[cC]
 ·simp[hi]
theorem XV{t:TypeId}{es:Array MapEntry}{c:Nat}{l:List (K×kn.T)}(h1:w.heap[r]? =some (.map es c))(h2:es.toList.map (·.key)=l.map (λp=>ek p.1))(h3:es.toList.map (·.val)=l.map (λp=>kn.aY p.2))(h4:(l.map (·.1)).Nodup)(hB:PY es c)
  {j:Nat} {x:K} {u:kn.T} {e:MapEntry} (hj:l[j]? =some (x,u)) (he:es.toList[j]? =some e) (v:kn.T) {Q:aH->Prop}
  (hQ:∀w',kV w' r ek kn (λy=>if y=x then some v else wP l y) l.length->aU (λk=>k=r) w w'->w'.heap.size=w.heap.size->Q w'):uV P t (.map (some r)) (.int .i64 (e.born:Int)) (kn.aY v) w Q:=by
 have hfi:=hB.find he;refine⟨{w with heap:=w.heap.setIfInBounds r (.map (es.modify j λe=>{e with val:=kn.aY v}) c)},by simp[Instr.entryStore,MapKept.run_getObj_map h1,asInt,asIntOf,hfi,run_setObj_map _ h1],hQ _ ?_ (lZ w r _) dN⟩;exact⟨_,_,l.set j (x,v),(heap_set h1).1,by have e1:=congrArg (List.map ek) (Bi v hj);rw[List.map_map,List.map_map] at e1;rw[ah,h2];exact e1.symm,by rw[af,h3,List.map_set],by rw[Bi v hj];exact h4,
  λy=>by rw[XA h4 (by rw[hj];rfl) y],by simp,hB.modify j (λe=>{e with val:=kn.aY v}) λ_=>rfl⟩
theorem Th{kt et:TypeId}{t:TypeId}(ht:P.underlying t=some (.map kt et))(hk:QW P kt ek){z:kn.T}(hz:(P.info? et).map (·.zero)=some (some (kn.aY z)))(h:kV w r ek kn f n)(x:K)(v:kn.T){Q:aH->Prop}
  (hQ:∀w',kV w' r ek kn (λy=>if y=x then some v else f y) (if(f x).isSome then n else n+1)->aU (λk=>k=r) w w'->w'.heap.size=w.heap.size->Q w'):
  HQ P kn t (.map (some r)) (ek x) w λ_ sl w3=>uV P t (.map (some r)) (.int .i64 sl) (kn.aY v) w3 Q:=by
 obtain⟨es,c,l,h1,h2,h3,h4,h5,h6,hB,hf⟩:=h.find hk x w;have hzv:(zeroValue et).run P w=.ok (kn.aY z) w:=by
  cases hq:P.info? et with
  |none=>rw[hq] at hz;cases hz
  |some i=>rw[hq] at hz;simp at hz;simp[zeroValue,typeInfo,hq,hz]
 have two:∀(x:kn.T) (b:Int),AA [kn,.c (.int .i64)] (x,b,())=[kn.aY x,.int .i64 b]:=λ_ _=>rfl;have PN:es.size=l.length:=by have:=congrArg List.length h2;simpa using this
 rcases hf with⟨hx,g,qE⟩|⟨j,u,g,hj,hjs,uC,qE⟩
 ·have LH:=(heap_set (o':=.map (es.push {key:=ek x,val:=kn.aY z,born:=c}) (c+1)) h1).1;refine⟨(z,(c:Int),()),{w with heap:=w.heap.setIfInBounds r (.map (es.push {key:=ek x,val:=kn.aY z,born:=c}) (c+1))},by simp[Instr.mapEntry,run_underlying ht,MapKept.run_getObj_map h1,hk.check,qE,hzv,run_setObj_map _ h1,two,goInt],?_⟩;refine XV (ek:=ek) (e:={key:=ek x,val:=kn.aY z,born:=c}) (l:=l++[(x,z)]) (j:=l.length) (x:=x) (u:=z) LH (by simp[h2]) (by simp[h3]) ?_ (hB.push _ _) dN (by simp[PN]) v λw' je hmod hs=>?_
  ·rw[wQ,List.nodup_append];exact⟨h4,by simp,λa ha b hb=>by simp at hb;subst hb;exactλe=>hx (e▸ha)⟩
  ·refine hQ w' (je.congr (λy=>?_) (by rw[g];simp[h6])) ((lZ w r _).tr hmod) (hs.trans dN);show(if y=x then some v else f y)=if y=x then some v else wP (l++[(x,z)]) y
   rw[EG hx y,h5]
   by_cases hy:y=x<;>simp[hy]
 ·obtain⟨e,he⟩:∃e,es.toList[j]? =some e:=⟨_,cM (by simpa using hjs)⟩;have hek:e.key=ek x:=by rw[he] at uC;simpa using uC
  have hea:es[j]? =some e:=by simpa using he
  have LH:=(heap_set (o':=.map (es.modify j λe=>{e with key:=ek x}) c) h1).1;refine⟨(u,(e.born:Int),()),{w with heap:=w.heap.setIfInBounds r (.map (es.modify j λe=>{e with key:=ek x}) c)},by simp[Instr.mapEntry,run_underlying ht,MapKept.run_getObj_map h1,hk.check,qE,run_setObj_map _ h1,Instr.keyThatStays,hea,hek,hk.stays,two,goInt],?_⟩;refine XV (ek:=ek) (es:=es.modify j λe=>{e with key:=ek x}) (e:={e with key:=ek x}) (l:=l) (j:=j) (x:=x) (u:=u) LH (by rw[aj es j _ uC,h2]) (by rw[ai,h3]) h4 (hB.modify j (λe=>{e with key:=ek x}) λ_=>rfl) hj ?_ v λw' je hmod hs=>?_
  ·simp[List.getElem?_modify,hea]
  ·refine hQ w' (je.congr (λy=>?_) (by rw[g];simp[h6])) ((lZ w r _).tr hmod) (hs.trans dN);show(if y=x then some v else f y)=if y=x then some v else wP l y
   rw[h5]
theorem Jk{V:Type}:∀{l:List (K×V)} {j:Nat} {x:K},(l.map (·.1)).Nodup->(l[j]?).map (·.1)=some x->∀y,wP (l.eraseIdx j) y=if y=x then none else wP l y
 | [],j,x,_,h,_=>by simp at h
 |p::r,0,x,hn,h,y=>by
  simp at h;simp only[Dt,List.nodup_cons] at hn;simp only[List.eraseIdx_cons_zero,wP]
  by_cases hy:y=x
  ·subst hy;rw[if_pos rfl];exact HP (h▸hn.1)
  ·rw[if_neg hy,h,if_neg (λe=>hy e.symm)]
 |p::r,j+1,x,hn,h,y=>by
  simp only[List.getElem?_cons_succ] at h;simp only[Dt,List.nodup_cons] at hn;simp only[List.eraseIdx_cons_succ,wP];have hx:x∈r.map (·.1):=by
   cases hj:r[j]? with
   |none=>rw[hj] at h;cases h
   |some q=>rw[hj] at h;simp at h;rw[<-h];exact mD.2 ⟨q,lD hj,rfl⟩
  have hpx:p.1≠x:=λe=>hn.1 (e▸hx);rw[Jk hn.2 h y]
  by_cases hy:y=x
  ·subst hy;simp[hpx]
  ·simp[hy]
theorem Ic{kt et u:TypeId}{t:TypeId}(ht:P.underlying t=some (.map kt et))(hk:QW P kt ek)(h:kV w r ek kn f n)(x:K){Q:aH->Prop}
  (hQ:∀w',kV w' r ek kn (λy=>if y=x then none else f y) (if(f x).isSome then n-1 else n)->aU (λk=>k=r) w w'->w'.heap.size=w.heap.size->Q w'):qK P t u (.map (some r)) (ek x) w Q:=by
 obtain⟨es,c,l,h1,h2,h3,h4,h5,h6,hB,hf⟩:=h.find hk x w;rcases hf with⟨hx,g,qE⟩|⟨j,v,g,hj,hjs,uC,qE⟩
 ·refine⟨(),{w with heap:=w.heap.setIfInBounds r (.map es c)},by simp[Builtin.delete_,run_underlying ht,MapKept.run_getObj_map h1,hk.check,qE,run_setObj_map _ h1,AA],hQ _ ?_ (lZ w r _) dN⟩;refine⟨_,_,l,(heap_set h1).1,h2,h3,h4,λy=>?_,by rw[g];simp[h6],hB⟩;show(if y=x then none else f y)=_
  by_cases hy:y=x
  ·subst hy;rw[if_pos rfl,HP hx]
  ·rw[if_neg hy,h5]
 ·refine⟨(),{w with heap:=w.heap.setIfInBounds r (.map (es.eraseIdxIfInBounds j) c)},by simp[Builtin.delete_,run_underlying ht,MapKept.run_getObj_map h1,hk.check,qE,run_setObj_map _ h1,AA],hQ _ ?_ (lZ w r _) dN⟩;have er:(es.eraseIdxIfInBounds j).toList=es.toList.eraseIdx j:=by
   unfold Array.eraseIdxIfInBounds;rw[dif_pos hjs];simp
  have em:∀{A B:Type} (F:A->B) (l:List A) (i:Nat),(l.eraseIdx i).map F=(l.map F).eraseIdx i:=by
   intro A B F l
   induction l with
   |nil=>intro i;simp
   |cons a l ih=>intro i;cases i with
    |zero=>simp
    |succ i=>simp[ih]
  have cC:=(eQ.1 hj).1;refine⟨_,_,l.eraseIdx j,(heap_set h1).1,by rw[er,em,em,h2],by rw[er,em,em,h3],?_,λy=>?_,by rw[g];simp[List.length_eraseIdx,cC,h6];omega,hB.erase j⟩
  ·rw[em];exact h4.sublist (List.eraseIdx_sublist _ _)
  ·show(if y=x then none else f y)=_
   rw[Jk h4 (by rw[hj];rfl) y,h5]
end
end
end Go.Den
namespace Go.Den
open Go
section
abbrev BS:=Nat->Prop
abbrev As:=aH->BS->Prop
class bG (A:As):Prop where
 gX:∀{w:aH} {S:BS},A w S->∀k,S k->k<w.heap.size
 aK:∀{w w':aH} {S F:BS},A w S->aU F w w'->(∀k,S k->¬F k)->A w' S
structure Up(S S':BS)(w w':aH):Prop where
 m:aU S w w'
 s:∀k,S' k->S k\/w.heap.size<=k
section
variable{S S' S'' T:BS}{w w' Nc:aH}
theorem Up.refl(S:BS)(w:aH):Up S S w w:=⟨aU.refl _ _,λ_ h=>.inl h⟩
theorem Up.tr(h:Up S S' w w')(h':Up S' S'' w' Nc):Up S S'' w Nc:=
 ⟨h.m.trans h'.m λk hk hs=>(h.s k hs).resolve_right aB,λk hk=>(h'.s k hk).elim (h.s k) λhh=>.inr (iR h.m.size hh)⟩
theorem Up.sub(w:aH)(h:∀k,S' k->S k):Up S S' w w:=⟨aU.refl _ _,λk hk=>.inl (h k hk)⟩
theorem Up.aO(k:aL w w'):Up S S w w':=⟨k.wk,λ_ h=>.inl h⟩
theorem Up.new(k:aL w w')(h:∀k,S' k->S k\/w.heap.size<=k):Up S S' w w':=⟨k.wk,h⟩
theorem Up.at(m:aU S w w'):Up S S w w':=⟨m,λ_ h=>.inl h⟩
theorem Up.lq(h:Up S S' w w')(hd:∀k,S k->T k->False)(hb:∀k,T k->k<w.heap.size):∀k,S' k->T k->False:=λk hs ht=>
 (h.s k hs).elim (λh=>hd k h ht) λh=>by have:=hb k ht;omega
theorem Up.size(h:Up S S' w w'):w.heap.size<=w'.heap.size:=h.m.size
end
def bJ(A B:As):As:=λw S=>∃S1 S2,A w S1/\B w S2/\(∀k,S1 k->S2 k->False)/\∀k,S k↔S1 k\/S2 k
def Ex{α:Type}(f:α->As):As:=λw S=>∃x,f x w S
def DR:As:=λ_ S=>∀k,¬S k
def Pr(p:Prop)(A:As):As:=λw S=>p/\A w S
instance:bG DR:=⟨λh k hk=>absurd hk (h k),λh _ _=>h⟩
instance{α:Type}{f:α->As}[∀x,bG (f x)]:bG (Ex f):=⟨λ⟨x,h⟩=>bG.gX h,λ⟨x,h⟩ m hn=>⟨x,bG.aK h m hn⟩⟩
instance{p:Prop}{A:As}[bG A]:bG (Pr p A):=⟨λ⟨_,h⟩=>bG.gX h,λ⟨hp,h⟩ m hn=>⟨hp,bG.aK h m hn⟩⟩
instance{A B:As}[bG A][bG B]:bG (bJ A B):=⟨
 λ⟨S1,S2,h1,h2,_,e⟩ k hk=>((e k).1 hk).elim (bG.gX h1 k) (bG.gX h2 k),
 λ⟨S1,S2,h1,h2,d,e⟩ m hn=>⟨S1,S2,bG.aK h1 m λk hk=>hn k ((e k).2 (.inl hk)),bG.aK h2 m λk hk=>hn k ((e k).2 (.inr hk)),d,e⟩⟩
section
variable{A A' B B' C D:As}{w w':aH}{S S':BS}
theorem bJ.xR{S1 S2:BS}(h1:A w S1)(h2:B w S2)(d:∀k,S1 k->S2 k->False):bJ A B w (λk=>S1 k\/S2 k):=⟨S1,S2,h1,h2,d,λ_=>Iff.rfl⟩
theorem bJ.cm(h:bJ A B w S):bJ B A w S:=by
 obtain⟨S1,S2,h1,h2,d,e⟩:=h;exact⟨S2,S1,h2,h1,λk a b=>d k b a,λk=>(e k).trans Or.comm⟩
theorem bJ.asr(h:bJ (bJ A B) C w S):bJ A (bJ B C) w S:=by
 obtain⟨S1,S2,⟨T1,T2,a,b,d1,e1⟩,c,d,e⟩:=h;refine⟨T1,λk=>T2 k\/S2 k,a,⟨T2,S2,b,c,λk h1 h2=>d k ((e1 k).2 (.inr h1)) h2,λ_=>Iff.rfl⟩,λk h1 h2=>h2.elim (d1 k h1) (d k ((e1 k).2 (.inl h1))),λk=>?_⟩;rw[e k,e1 k,or_assoc]
theorem bJ.asl(h:bJ A (bJ B C) w S):bJ (bJ A B) C w S:=by
 obtain⟨S1,S2,a,⟨T1,T2,b,c,d1,e1⟩,d,e⟩:=h;refine⟨λk=>S1 k\/T1 k,T2,⟨S1,T1,a,b,λk h1 h2=>d k h1 ((e1 k).2 (.inl h2)),λ_=>Iff.rfl⟩,c,λk h1 h2=>h1.elim (λh1=>d k h1 ((e1 k).2 (.inr h2))) λh1=>d1 k h1 h2,λk=>?_⟩;rw[e k,e1 k,or_assoc]
theorem bJ.mono(h:bJ A B w S)(hA:∀S,A w S->A' w S)(hB:∀S,B w S->B' w S):bJ A' B' w S:=by
 obtain⟨S1,S2,h1,h2,d,e⟩:=h;exact⟨S1,S2,hA _ h1,hB _ h2,d,e⟩
theorem bJ.drop(h:bJ A B w S):∃S',A w S'/\Up S S' w w:=by
 obtain⟨S1,S2,h1,h2,d,e⟩:=h;exact⟨S1,h1,Up.sub w λk hk=>(e k).2 (.inl hk)⟩
theorem bJ.emp(h:A w S):bJ A DR w S:=⟨S,λ_=>False,h,λ_=>id,λ_ _=>id,λk=>⟨.inl,λh=>h.elim id False.elim⟩⟩
end
def ig(w:aH)(S:BS)(B:As)(R:As->As):Prop:=∃S1,B w S1/\(∀k,S1 k->S k)/\∀B' D w' DC,Up S1 DC w w'->bJ B' D w' DC->∃S',bJ (R B') D w' S'/\Up S S' w w'
section
variable{A B C:As}{w:aH}{S:BS}{R R':As->As}
theorem bJ.l[bG B](h:bJ A B w S):ig w S A λX=>bJ X B:=by
 obtain⟨S1,S2,h1,h2,d,e⟩:=h;refine⟨S1,h1,λk hk=>(e k).2 (.inl hk),λA' D w' T u hT=>?_⟩;obtain⟨T1,T2,a,b,d',e'⟩:=hT;have b2:∀k,S2 k->k<w.heap.size:=bG.gX h2;have dd:=u.lq d b2;refine⟨λk=>(T1 k\/S2 k)\/T2 k,⟨λk=>T1 k\/S2 k,T2,⟨T1,S2,a,bG.aK h2 u.m λk hk lT=>d k lT hk,λk h1 h2=>dd k ((e' k).2 (.inl h1)) h2,λ_=>Iff.rfl⟩,b,λk h1 h2=>h1.elim (λh=>d' k h h2) λh=>dd k ((e' k).2 (.inr h2)) h,λ_=>Iff.rfl⟩,⟨u.m.mono λk _ hk=>(e k).2 (.inl hk),λk hk=>?_⟩⟩;have hs:∀k,T k->S k\/w.heap.size<=k:=λk hk=>(u.s k hk).imp (λh=>(e k).2 (.inl h)) id;rcases hk with(hk|hk)|hk
 ·exact hs k ((e' k).2 (.inl hk))
 ·exact .inl ((e k).2 (.inr hk))
 ·exact hs k ((e' k).2 (.inr hk))
theorem bJ.r[bG A](h:bJ A B w S):ig w S B λX=>bJ A X:=by
 obtain⟨S1,h1,hs,eO⟩:=bJ.l h.cm;refine⟨S1,h1,hs,λB' D w' T u hT=>?_⟩;obtain⟨S',h',u'⟩:=eO B' D w' T u hT;exact⟨S',h'.mono (λ_ h=>h.cm) λ_ h=>h,u'⟩
theorem ig.c(f:ig w S B R)(g:∀T,B w T->ig w T C R'):ig w S C λX=>R (R' X):=by
 obtain⟨S1,h1,hs,eO⟩:=f;obtain⟨S2,h2,LJ,MG⟩:=g S1 h1;refine⟨S2,h2,λk hk=>hs k (LJ k hk),λB' D w' T u hT=>?_⟩;obtain⟨T',h',u'⟩:=MG B' D w' T u hT;exact eO _ D w' T' u' h'
theorem ig.put(f:ig w S B R):∃S1,B w S1/\(∀k,S1 k->S k)/\∀B' w' DC,Up S1 DC w w'->B' w' DC->∃S',R B' w' S'/\Up S S' w w':=by
 obtain⟨S1,h1,hs,eO⟩:=f;refine⟨S1,h1,hs,λB' w' T u hT=>?_⟩;obtain⟨S',h',u'⟩:=eO B' DR w' T u (bJ.emp hT);obtain⟨S2,h2,u2⟩:=h'.drop;exact⟨S2,h2,u'.tr u2⟩
end
def uL(g:Nat)(e:TypeId)(cs:List Value):As:=λw S=>cU w g e cs/\∀k,S k↔k=g
instance{g:Nat}{e:TypeId}{cs:List Value}:bG (uL g e cs):=⟨λ⟨h,e⟩ k hk=>by rw[(e k).1 hk];exact h.lt,λ⟨h,e⟩ m hn=>⟨h.aK m (hn g ((e g).2 rfl)),e⟩⟩
theorem uL.up{g:Nat}{e:TypeId}{cs ds:List Value}{w w':aH}{S:BS}(h:uL g e cs w S)(o:cU w' g e ds)(m:aU (λk=>k=g) w w'):uL g e ds w' S/\Up S S w w':=
 ⟨⟨o,h.2⟩,Up.at (m.mono λk _ hk=>(h.2 k).2 hk)⟩
def wL{K:Type}[DecidableEq K](r:Nat)(ek:K->Value)(kn:oL)(f:K->Option kn.T)(n:Nat):As:=λw S=>kV w r ek kn f n/\∀k,S k↔k=r
instance{K:Type}[DecidableEq K]{r:Nat}{ek:K->Value}{kn:oL}{f:K->Option kn.T}{n:Nat}:bG (wL r ek kn f n):=⟨λ⟨h,e⟩ k hk=>by rw[(e k).1 hk];exact h.lt,λ⟨h,e⟩ m hn=>⟨h.aK m (hn r ((e r).2 rfl)),e⟩⟩
def DQ{α:Type}(n:Nat)(aY:α->List Value)(s:Sl)(xs:List α):As:=λw S=>Rd w s n aY xs/\(∀x,aY x≠[])/\(∀b,s.b=some b->b.block<w.heap.size)/\∀k,S k↔∃b,s.b=some b/\k=b.block
instance{α:Type}{n:Nat}{aY:α->List Value}{s:Sl}{xs:List α}:bG (DQ n aY s xs):=⟨
 λ⟨_,_,h,e⟩ k hk=>by obtain⟨b,hb,rfl⟩:=(e k).1 hk;exact h b hb,
 λ⟨h,gK,hb,e⟩ m hn=>⟨h.aK m gK λb hb=>hn _ ((e _).2 ⟨b,hb,rfl⟩),gK,λb h=>pG (hb b h) m.size,e⟩⟩
def rS{α:Type}(e:TypeId)(n:Nat)(aY:α->List Value)(s:Sl)(xs:List α):As:=λw S=>dD w e n aY s xs/\∀k,S k↔∃b,s.b=some b/\k=b.block
theorem dD.Vh{α:Type}{w:aH}{e:TypeId}{n:Nat}{aY:α->List Value}{s:Sl}{xs:List α}(h:dD w e n aY s xs){b:Addr}(hb:s.b=some b):b.block<w.heap.size:=by
 rcases h.gR with⟨h0,_⟩|⟨g,cJ,h0,ho,_⟩
 ·rw[hb] at h0;cases h0
 ·rw[hb] at h0;cases h0;exact ho.lt
instance{α:Type}{e:TypeId}{n:Nat}{aY:α->List Value}{s:Sl}{xs:List α}:bG (rS e n aY s xs):=⟨
 λ⟨h,e⟩ k hk=>by obtain⟨b,hb,rfl⟩:=(e k).1 hk;exact h.Vh hb,
 λ⟨h,e⟩ m hn=>⟨h.aK m λb hb=>hn _ ((e _).2 ⟨b,hb,rfl⟩),e⟩⟩
def wM{α:Type}(f:α->As):List α->As
 | []=>DR
 |x::r=>bJ (f x) (wM f r)
instance wM.loc{α:Type}{f:α->As}[h:∀x,bG (f x)]:∀{l:List α},bG (wM f l)
 | []=>inferInstanceAs (bG DR)
 |x::r=>by
  have:=wM.loc (f:=f) (l:=r);exact inferInstanceAs (bG (bJ (f x) (wM f r)))
def Az{α:Type}(f:α->As)(X:As):List α->Nat->As
 | [],_=>X
 |_::r,0=>bJ X (wM f r)
 |x::r,i+1=>bJ (f x) (Az f X r i)
theorem wM.at{α:Type}{f:α->As}[h:∀x,bG (f x)]:∀{l:List α} {i:Nat} {x:α} {w:aH} {S:BS},wM f l w S->l[i]? =some x->ig w S (f x) λX=>Az f X l i
 |y::r,0,x,w,S,hA,hx=>by cases hx;exact bJ.l hA
 |y::r,i+1,x,w,S,hA,hx=>ig.c (bJ.r hA) λT hT=>wM.at (l:=r) (i:=i) hT (by simpa using hx)
theorem Az.set{α:Type}{f:α->As}{x:α}:∀{l:List α} {i:Nat} {w:aH} {S:BS},i<l.length->Az f (f x) l i w S->wM f (l.set i x) w S
 |y::r,0,_,_,_,h=>h
 |y::r,i+1,_,_,hl,h=>bJ.mono h (λ_ h=>h) λ_ h=>Az.set (by simpa using hl) h
end
end Go.Den
