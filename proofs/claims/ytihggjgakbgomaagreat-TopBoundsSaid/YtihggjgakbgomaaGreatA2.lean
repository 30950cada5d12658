import Derived.ArgAppend
import Derived.WalkKit
import Derived.ProofKit
import Derived.OpenShut
import Derived.JoinedOf
import Derived.Handed
import Derived.WideKeyArgs
import Derived.ChangeSlices
import Derived.Laws.IdiomArrays
import Derived.Laws.BytesArg
import Derived.LaidEql
import Derived.Test.YtihggjgakbgomaaGreatA1
namespace Go.Den
open Go
section
structure nw{α:Type}(w:aH)(e:TypeId)(n:Nat)(aY:α->List Value)(s:Sl)(xs:List α):Prop where
 len:s.l=xs.length
 cap:s.l<=s.c
 max:s.c<=maxLen
 gN:s.c=0\/∃g pre dE,s.b=some ⟨g,pre.length,none⟩/\cW w g e (pre++(xs.flatMap aY++dE))/\(xs.flatMap aY++dE).length=s.c*n
section
variable{α:Type}{w w':aH}{e:TypeId}{n:Nat}{aY:α->List Value}{s:Sl}{xs:List α}
theorem dP.veo(h:dP w e n aY s xs):nw w e n aY s xs:=⟨h.len,h.cap,h.max,by
 rcases h.gN with⟨_,h⟩|⟨g,dE,h1,h2,h3⟩
 ·exact .inl h
 ·exact .inr ⟨g,[],dE,h1,h2,h3⟩⟩
theorem nw.rd(h:nw w e n aY s xs)(fZ:∀x,(aY x).length=n):Rd w s n aY xs:=by
 refine⟨h.len,h.cap,λi x hx=>?_⟩;have cJ:i<xs.length:=(kU.1 hx).1;rcases h.gN with h2|⟨g,pre,dE,hb,ho,hl⟩
 ·have:=h.len;have:=h.cap;omega
 ·refine⟨_,hb,?_⟩
  rw[aS];refine ho.holds λj v hv=>?_;rw[Ew aB,show pre.length+i*n+j-pre.length=i*n+j by omega];exact sS fZ xs i x j v dE hx hv
theorem nw.aK{F:BS}(h:nw w e n aY s xs)(hm:aW F w w')(hF:∀a,s.c≠0->s.b=some a->¬F a.block):nw w' e n aY s xs:=
 ⟨h.len,h.cap,h.max,by
  by_cases hc:s.c=0
  ·exact .inl hc
  ·exact .inr<|(h.gN.resolve_left hc).imp λg ⟨pre,dE,hb,ho,hl⟩=>⟨pre,dE,hb,ho.aK hm (hF _ hc hb),hl⟩⟩
theorem nw.Uc(h:nw w e n aY s xs){b:Addr}(hc:s.c≠0)(hb:s.b=some b):b.block<w.heap.size:=by
 obtain⟨g,pre,dE,h0,ho,_⟩:=h.gN.resolve_left hc;rw[hb] at h0;cases h0;exact ho.lt
theorem nw.tail{x:α}(h:nw w e n aY s (x::xs))(fZ:∀x,(aY x).length=n):nw w e n aY ⟨aR s.b s.c 1 n,s.l-1,s.c-1⟩ xs:=by
 have hl:=h.len;have hc:=h.cap;simp only[nQ] at hl;refine⟨by show s.l-1=_;omega,by show s.l-1<=s.c-1;omega,by have:=h.max;show s.c-1<=_;omega,?_⟩
 by_cases h1:s.c=1
 ·exact .inl (by show s.c-1=0;omega)
 ·obtain⟨g,pre,dE,hb,ho,hl⟩:=h.gN.resolve_left aB
  refine .inr ⟨g,pre++aY x,dE,?_,?_,?_⟩
  ·show aR s.b s.c 1 n=_
   unfold aR;rw[if_neg h1,hb];simp[aS,fZ]
  ·simpa [sB] using ho
  ·simp only[EV,mJ,fZ] at hl ⊢
   show _=(s.c-1)*n;rw[Nat.sub_mul,Nat.one_mul];omega
theorem append_o{P:Program}{t:TypeId}{bytes:Nat}{z:List Value}(hE:rC P t e n bytes z)(fZ:∀x,(aY x).length=n)(jW:∀x,∀u∈aY x,u.oneCell'=true)
  {x:Sl} {ys:List α} (hs:nw w e n aY s xs) (hx:Rd w x n aY ys) (h63:xs.length+ys.length<=9223372036854775807) (BR:(xs.length+ys.length)*bytes<=140737488355328) {K:Sl->aH->Prop}
  (hK:∀r w',nw w' e n aY r (xs++ys)->aW (λk=>s.c≠0/\∃a,s.b=some a/\k=a.block) w w'->(r.c≠0->(s.c≠0/\r.b=s.b)\/∃a,r.b=some a/\w.heap.size<=a.block)->K r w'):
  aX P t t s (.slice x.b x.l x.c) w K:=by
 obtain⟨i,zv,hi,hz,rfl,rfl,rfl⟩:=hE.info;have ht:=hE.under;have AS:=hs.rd fZ;obtain⟨sb,sl,sc⟩:=s;obtain⟨xb,xl,xc⟩:=x;have IK:sl=xs.length:=hs.len;have Ac:xl=ys.length:=hx.len;have hscap:sl<=sc:=hs.cap
 by_cases hy:ys=[]
 ·subst hy
  have hxl0:xl=0:=Ac;subst hxl0;refine⟨⟨sb,sl,sc⟩,w,?_,hK _ _ (by rw[tB];exact hs) (aW.refl _ _) (λh=>.inl ⟨h,rfl⟩)⟩;cases xb<;>cases sb<;>simp[Builtin.append_,run_underlying ht,sizeOf,typeInfo,hi,Builtin.lenOf,Builtin.firstCells,hscap,storeCells,loadCells,loadCellsFrom,nO.aY,CK.aY]
 have uP:0<ys.length:=List.length_pos_iff.2 hy;obtain⟨ax,hax,_⟩:=hx.get 0 ys[0] (gS uP);have hax':xb=some ax:=hax;subst hax';have Fv:=pP hx fZ (a:=ax) rfl;have hl:(ys.flatMap aY).length=xl*i.size:=by rw[bI fZ,Ac]
 have QK:∀u∈ys.flatMap aY,u.oneCell'=true:=λu hu=>by obtain⟨y,_,hy⟩:=List.mem_flatMap.1 hu;exact jW y u hy
 have hzs:zv.cells.size=i.size:=by have:=hE.zlen;simpa using this
 have hm63:xs.length+ys.length<=maxLen:=by simp only[maxLen];omega
 have grown:∀old,old<sl+xl->dP (w.drew.alloc (.cells ((xs.flatMap aY).toArray++(ys.flatMap aY).toArray++Builtin.zeroCells zv.cells (grownCap w (sl+xl) old e-(sl+xl))) e)) e i.size aY
   ⟨some ⟨w.heap.size,0,none⟩,sl+xl,grownCap w (sl+xl) old e⟩ (xs++ys):=λold hold=>by
  have kT:=grownCap_ge w (sl+xl) old e;have hcm:grownCap w (sl+xl) old e<=maxLen:=grownCap_le_maxLen w (sl+xl) old e aB;refine⟨by simp[IK,Ac],kT,hcm,.inr ⟨w.heap.size,(Builtin.zeroCells zv.cells (grownCap w (sl+xl) old e-(sl+xl))).toList,rfl,?_,?_⟩⟩
  ·have:=cW.iP w.drew ((xs.flatMap aY).toArray++(ys.flatMap aY).toArray++Builtin.zeroCells zv.cells (grownCap w (sl+xl) old e-(sl+xl))) e
   simpa [sB] using this
  ·simp only[mJ,bI fZ,Array.length_toList,size_zeroCells,hzs,<-IK,<-Ac]
   rw[<-Nat.add_mul];congr 1;show sl+xl+(grownCap w (sl+xl) old e-(sl+xl))=grownCap w (sl+xl) old e;omega
 by_cases DM:sl+xl<=sc
 ·obtain⟨g,pre,dE,hb,ho,fU⟩:=hs.gN.resolve_left (by show¬sc=0;omega)
  have bW:sb=some ⟨g,pre.length,none⟩:=hb;subst bW;have QL:(xs.flatMap aY++dE).length=sc*i.size:=fU;have hxl2:(xs.flatMap aY).length=sl*i.size:=by rw[bI fZ,IK]
  have PS:sl*i.size+(ys.flatMap aY).length<=sc*i.size:=by rw[hl,<-Nat.add_mul];exact RT _ DM
  have hyl:(ys.flatMap aY).length<=dE.length:=by rw[mJ,hxl2] at QL;omega
  have tO:∀j,j<(ys.flatMap aY).length->(w.cell? ⟨g,pre.length+sl*i.size+j,none⟩).isSome=true:=λj hj=>by
   rw[ho.cell];simp only[kU,Eu];exact⟨_,by simp only[mJ] at QL ⊢;omega,rfl⟩
  have hfz:∀j,j<(ys.flatMap aY).length->w.frozen? ⟨g,pre.length+sl*i.size+j,none⟩=false:=λj _=>by
   have ho':w.heap[g]? =some (.cells (pre++(xs.flatMap aY++dE)).toArray e (0,0)):=ho;unfold World.frozen?;rw[ho'];simp
  have hr:=run_append_room_cells (P:=P) w t 0 e i ht hi g pre.length sl sc ax xl xc (ys.flatMap aY) hl Fv QK DM tO hfz;have EP:=run_storeCells_at P g (pre.length+sl*i.size) e (ys.flatMap aY) 0 (pre++(xs.flatMap aY++dE)).toArray w ho (by simp only[List.size_toArray,mJ] at QL ⊢;omega) QK;have hst2:=run_storeCells_cells (P:=P) g (pre.length+sl*i.size) (ys.flatMap aY) 0 w (by simpa using tO) (by simpa using hfz) QK;simp only[Nat.add_zero] at EP hst2;rw[EP] at hst2;have hw:w.setCells g (pre.length+sl*i.size) (ys.flatMap aY)=w.setRow g (((pre++(xs.flatMap aY++dE)).toArray.toList.take (pre.length+sl*i.size)++ys.flatMap aY++(pre++(xs.flatMap aY++dE)).toArray.toList.drop (pre.length+sl*i.size+(ys.flatMap aY).length))).toArray:=by
   injection hst2 with _ h2;exact h2.symm
  rw[hw] at hr;refine⟨(⟨some ⟨g,pre.length,none⟩,sl+xl,sc⟩:Sl),_,hr,hK ⟨some ⟨g,pre.length,none⟩,sl+xl,sc⟩ _ ⟨by simp[IK,Ac],DM,hs.max,.inr ⟨g,pre,dE.drop (ys.flatMap aY).length,rfl,?_,?_⟩⟩ ?_ (λh=>.inl ⟨h,rfl⟩)⟩
  ·have:=cW.setRow ho (pre++((xs++ys).flatMap aY++dE.drop (ys.flatMap aY).length))
   have e1:(pre++(xs.flatMap aY++dE)).toArray.toList.take (pre.length+sl*i.size)=pre++xs.flatMap aY:=by
    show(pre++(xs.flatMap aY++dE)).take _=_;rw[List.take_length_add_append,<-hxl2,List.take_left]
   have e2:(pre++(xs.flatMap aY++dE)).toArray.toList.drop (pre.length+sl*i.size+(ys.flatMap aY).length)=dE.drop (ys.flatMap aY).length:=by
    show(pre++(xs.flatMap aY++dE)).drop _=_;rw[Nat.add_assoc,List.drop_length_add_append,<-hxl2,List.drop_length_add_append]
   rw[e1,e2];simpa [IS,sB] using this
  ·show _=sc*i.size
   rw[mJ] at QL;rw[IS,mJ,mJ,List.length_drop];omega
  ·exact(aW.setRow w g _).mono λk _ hk=>⟨by show sc≠0;omega,_,rfl,hk⟩
 ·cases sb with
  |none=>
   have hx0:xs=[]:=by
    cases xs with
    |nil=>rfl
    |cons y r=>obtain⟨a,ha,_⟩:=AS.get 0 y rfl;cases ha
   subst hx0;have hs0:sl=0:=IK;have hc0:sc=0:=by
    rcases hs.gN with h|⟨g,pre,dE,hb,_⟩
    ·exact h
    ·cases hb
   subst hs0;subst hc0;have hr:=run_append_nil (P:=P) w t 0 e i zv ht hi hz ax xl xc (ys.flatMap aY) hl Fv aB aB (by simp at BR;rw[Ac];omega);have hg:=grown 0 aB;simp only[pM,List.flatMap_nil] at hg;have wu:dP (w.drew.alloc (.cells ((ys.flatMap aY).toArray++Builtin.zeroCells zv.cells (grownCap w xl 0 e-xl)) e)) e i.size aY ⟨some ⟨w.heap.size,0,none⟩,xl,grownCap w xl 0 e⟩ ([]++ys):=by simpa using hg
   exact⟨(⟨some ⟨w.heap.size,0,none⟩,xl,grownCap w xl 0 e⟩:Sl),_,hr,hK _ _ wu.veo ((aW.refl _ w).drew.alloc _) λ_=>.inr ⟨_,rfl,iT _⟩⟩
  |some b=>
   have holds:∀j u,(xs.flatMap aY)[j]? =some u->w.cell? (b.add j)=some u:=pP AS fZ rfl;have hr:=run_append_grow (P:=P) w t 0 e i zv ht hi hz b sl sc (xs.flatMap aY) (by rw[bI fZ,IK]) holds ax xl xc (ys.flatMap aY) hl Fv aB aB (growslice_fits aB (by rw[IK,Ac];exact BR));exact⟨(⟨some ⟨w.heap.size,0,none⟩,sl+xl,grownCap w (sl+xl) sc e⟩:Sl),_,hr,hK _ _ (grown sc aB).veo ((aW.refl _ w).drew.alloc _) λ_=>.inr ⟨_,rfl,iT _⟩⟩
end
def Qo{α:Type}(e:TypeId)(n:Nat)(aY:α->List Value)(s:Sl)(xs:List α):As:=λw S=>nw w e n aY s xs/\∀k,S k↔s.c≠0/\∃b,s.b=some b/\k=b.block
instance{α:Type}{e:TypeId}{n:Nat}{aY:α->List Value}{s:Sl}{xs:List α}:bF (Qo e n aY s xs):=⟨
 λ⟨h,e⟩ k hk=>by obtain⟨hc,b,hb,rfl⟩:=(e k).1 hk;exact h.Uc hc hb,
 λ⟨h,e⟩ m hn=>⟨h.aK m λb hc hb=>hn _ ((e _).2 ⟨hc,b,hb,rfl⟩),e⟩⟩
end
section
structure bQ where
 f:Int
 t:Int
 w:Int
 m:Int
 deriving DecidableEq
abbrev dZ(a:bQ):List Value:=[.int .i64 a.f,.int .i64 a.t,.int .i64 a.w,.int .i64 a.m]
abbrev nM(a:bQ):Int×Int×Int×Int×Unit:=(a.f,a.t,a.w,a.m,())
theorem VQ(a:bQ):dZ a≠[]:=by simp[dZ]
section
variable{α:Type}
theorem JZ{r:α->α->Prop}(hirr:∀a,¬r a a)(dF:∀a b,r a b->¬r b a):∀{l m:List α},l.Pairwise r->m.Pairwise r->(∀x,x∈l↔x∈m)->l=m
 | [],[],_,_,_=>rfl
 | [],b::m,_,_,h=>absurd ((h b).2 dK) dK
 |a::l,[],_,_,h=>absurd ((h a).1 dK) dK
 |a::l,b::m,hl,hm,h=>by
  rw[List.pairwise_cons] at hl hm;have xe:a=b:=by
   rcases lL.1 ((h a).1 dK) with e|e
   ·exact e
   ·rcases lL.1 ((h b).2 dK) with e'|e'
    ·exact e'.symm
    ·exact absurd (hm.1 a e) (dF _ _ (hl.1 b e'))
  subst xe;congr 1;refine JZ hirr dF hl.2 hm.2 λx=>⟨λhx=>?_,λhx=>?_⟩
  ·rcases lL.1 ((h x).1 (by simp[hx])) with e|e
   ·subst e;exact absurd (hl.1 x hx) (hirr x)
   ·exact e
  ·rcases lL.1 ((h x).2 (by simp[hx])) with e|e
   ·subst e;exact absurd (hm.1 x hx) (hirr x)
   ·exact e
theorem XD{p:α->Bool}:∀{l:List α} {i:Nat},(∀x∈l.take i,p x=true)->(∀x∈l.drop i,p x=false)->l.filter p=l.take i/\l.filter (λx=>!p x)=l.drop i
 |l,0,_,h2=>by
  simp only[List.drop_zero] at h2;exact⟨by simp only[List.take_zero];exact List.filter_eq_nil_iff.2 λx hx=>by rw[h2 x hx];simp,by simp only[List.drop_zero];exact List.filter_eq_self.2 λx hx=>by rw[h2 x hx];rfl⟩
 | [],i+1,_,_=>by simp
 |a::l,i+1,h1,h2=>by
  simp only[List.take_succ_cons,List.drop_succ_cons] at h1 h2 ⊢;obtain⟨e1,e2⟩:=XD (l:=l) (i:=i) (λx hx=>h1 x (by simp[hx])) h2;have ha:=h1 a dK;simp[KX,ha,e1,e2]
variable(k:α->Int)
def FN(l:List α):Prop:=l.Pairwise λx y=>k x<k y
def DL(l:List α)(a:α):List α:=l.filter (λx=>decide (k x<k a))++a::l.filter (λx=>decide (k a<k x))
structure zB(l:List α)(v:Int)(i:Nat):Prop where
 le:i<=l.length
 lo:∀p x,p<i->l[p]? =some x->k x<v
 hi:∀p x,i<=p->l[p]? =some x->v<=k x
variable{k}
theorem FN.get{l:List α}(h:FN k l){p q:Nat}{x y:α}(hpq:p<q)(hx:l[p]? =some x)(hy:l[q]? =some y):k x<k y:=by
 have:=Qb.1 h;have hp:=(kU.1 hx);have hq:=(kU.1 hy);obtain⟨hp1,Ku⟩:=hp;obtain⟨hq1,hq2⟩:=hq;have:=this p q hp1 hq1 hpq;rwa[Ku,hq2] at this
theorem zB.take{l:List α}{v:Int}{i:Nat}(h:zB k l v i):l.take i=l.filter (λx=>decide (k x<v))/\l.drop i=l.filter (λx=>decide (v<=k x)):=by
 have:=XD (l:=l) (i:=i) (p:=λx=>decide (k x<v)) (λx hx=>by
  obtain⟨p,hp⟩:=oL.1 hx;have cJ:p<i:=by have:=(kU.1 hp).1;simp at this;omega
  rw[UP cJ] at hp;simpa using h.lo p x cJ hp) (λx hx=>by
  obtain⟨p,hp⟩:=oL.1 hx;rw[List.getElem?_drop] at hp;have:=h.hi (i+p) x aB hp;simp;omega)
 refine⟨this.1.symm,?_⟩;rw[<-this.2];apply List.filter_congr;intro x _
 by_cases h:k x<v<;>simp[h]<;>omega
theorem zB.qA{l:List α}(hs:FN k l){v:Int}{i:Nat}(h:zB k l v i){x:α}(hx:x∈l)(hk:k x=v):l[i]? =some x:=by
 obtain⟨p,hp⟩:=oL.1 hx;have h1:i<=p:=by
  apply Nat.le_of_not_lt;intro cJ;have:=h.lo p x cJ hp;omega
 rcases Nat.eq_or_lt_of_le h1 with e|cJ
 ·rw[e];exact hp
 ·have hi:i<l.length:=by have:=(kU.1 hp).1;omega
  have h2:=h.hi i l[i] (iT _) (gS hi);have h3:=hs.get cJ (gS hi) hp;omega
theorem zB.ins_new{l:List α}{a:α}{i:Nat}(h:zB k l (k a) i)(hn:∀x∈l,k x≠k a):l.take i++[a]++l.drop i=DL k l a:=by
 obtain⟨e1,e2⟩:=h.take;unfold DL;rw[e1,e2];simp only[sB,List.cons_append,List.nil_append];congr 2;apply List.filter_congr;intro x hx;have:=hn x hx
 by_cases h1:k a<=k x<;>by_cases h2:k a<k x<;>simp[h1,h2]<;>omega
theorem zB.ins_at{l:List α}(hs:FN k l){a:α}{i:Nat}(h:zB k l (k a) i){x:α}(hx:x∈l)(hk:k x=k a):l.set i a=DL k l a:=by
 obtain⟨e1,e2⟩:=h.take;have hf:=h.qA hs hx hk;have hi:i<l.length:=(kU.1 hf).1;unfold DL;rw[List.set_eq_take_append_cons_drop,if_pos hi,e1];congr 2;have h3:l.drop i=x::l.drop (i+1):=by
  rw[List.drop_eq_getElem_cons hi];congr 1;exact(kU.1 hf).2
 have h4:zB k l (k a+1) (i+1):=by
  refine⟨hi,λp y hp hy=>?_,λp y hp hy=>?_⟩
  ·rcases Nat.eq_or_lt_of_le (show p<=i by omega) with e|cJ
   ·subst e;rw[hf] at hy;cases hy;omega
   ·have:=h.lo p y cJ hy;omega
  ·have:=hs.get (show i<p by omega) hf hy;omega
 rw[h4.take.2];apply List.filter_congr;intro y _
 by_cases h1:k a<k y<;>simp[h1]<;>omega
theorem FN.filter{l:List α}(h:FN k l)(p:α->Bool):FN k (l.filter p):=RS p h
theorem FN.KT{l:List α}(h:FN k l)(a:α):FN k (DL k l a):=by
 unfold DL FN;rw[List.pairwise_append];refine⟨h.filter _,?_,?_⟩
 ·rw[List.pairwise_cons]
  exact⟨λx hx=>by simpa using(jE.1 hx).2,h.filter _⟩
 ·intro x hx y hy
  have h1:k x<k a:=by simpa using(jE.1 hx).2
  rcases lL.1 hy with e|hy
  ·subst e;exact h1
  ·have h2:k a<k y:=by simpa using(jE.1 hy).2
   omega
theorem Nw{l:List α}{a x:α}:x∈DL k l a↔x=a\/(x∈l/\k x≠k a):=by
 unfold DL;simp only[jK,lL,jE,decide_eq_true_eq]
 constructor
 ·rintro(⟨h1,h2⟩|rfl|⟨h1,h2⟩)
  ·exact .inr ⟨h1,aB⟩
  ·exact .inl rfl
  ·exact .inr ⟨h1,aB⟩
 ·rintro(rfl|⟨h1,h2⟩)
  ·exact .inr (.inl rfl)
  ·by_cases h:k x<k a
   ·exact .inl ⟨h1,h⟩
   ·exact .inr (.inr ⟨h1,aB⟩)
theorem zB.Un{l:List α}(hs:FN k l){v:Int}{i:Nat}(h:zB k l v i){x:α}(hx:x∈l)(hk:k x=v):l.take i++l.drop (i+1)=l.filter (λy=>decide (k y≠v)):=by
 have hf:=h.qA hs hx hk;have hi:i<l.length:=(kU.1 hf).1;have hsp:l.take i++x::l.drop (i+1)=l:=by
  rw[<-Cb i l];congr 1
  ·simp
  ·rw[Cb,List.drop_eq_getElem_cons hi];congr 1;exact(kU.1 hf).2.symm
 have h1:(l.take i).filter (λy=>decide (k y≠v))=l.take i:=List.filter_eq_self.2 λy hy=>by
  obtain⟨p,hp⟩:=oL.1 hy;have cJ:p<i:=by have:=(kU.1 hp).1;simp at this;omega
  rw[UP cJ] at hp;have:=h.lo p y cJ hp;simp;omega
 have h2:(l.drop (i+1)).filter (λy=>decide (k y≠v))=l.drop (i+1):=List.filter_eq_self.2 λy hy=>by
  obtain⟨p,hp⟩:=oL.1 hy;rw[List.getElem?_drop] at hp;have:=hs.get (show i<i+1+p by omega) hf hp;simp;omega
 conv=>rhs;rw[<-hsp,IQ,KX,h1,h2]
 simp[hk]
end
def MA(x y:bQ):Bool:=decide (x.f<y.f) ||(decide (x.f=y.f) && decide (x.t<y.t))
def BD(l:List bQ):Prop:=l.Pairwise λx y=>MA x y=true
theorem lP{x y:bQ}:MA x y=true↔x.f<y.f\/(x.f=y.f/\x.t<y.t):=by simp[MA]
def ET(n:Nat)(a:bQ):Prop:=0<=a.f/\a.f<n/\0<=a.t/\a.t<n/\a.f≠a.t/\1<=a.w/\a.w<=1099511627776/\(a.m=-1\/(0<=a.m/\a.m<n/\a.m≠a.f/\a.m≠a.t))
instance(n:Nat)(a:bQ):Decidable (ET n a):=by unfold ET;infer_instance
structure rP(n:Nat)(l:List bQ):Prop where
 rN:BD l
 vQ:∀a∈l,ET n a
def LO(l:List bQ)(a:bQ):List bQ:=l.filter (λx=>MA x a)++a::l.filter (λx=>MA a x)
def jJ(l:List bQ)(f t:Int):Option bQ:=l.find? λx=>decide (x.f=f) && decide (x.t=t)
def uN(n:Nat)(l:List bQ)(a:bQ):List bQ×Bool:=
 if ET n a then(match jJ l a.f a.t with
  |some x=>if x.w<=a.w then(l,false) else(LO l a,true)
  |none=>(LO l a,true)) else(l,false)
def CV(l:List bQ)(v:Int):List bQ:=l.filter λx=>decide (x.f≠v) && decide (x.t≠v)
def dY(l:List bQ)(v:Int):List bQ:=l.filter λx=>decide (x.f=v)
def nJ(l:List bQ)(v:Int):List bQ:=l.filter λx=>decide (x.t=v)
theorem BD.out{l:List bQ}(h:BD l)(v:Int):FN bQ.t (dY l v):=by
 unfold dY FN;refine List.Pairwise.imp_of_mem (λ{x y} hx hy hxy=>?_) (RS _ h);have h1:=(jE.1 hx).2;have h2:=(jE.1 hy).2;simp at h1 h2;rcases lP.1 hxy with h|⟨_,h⟩
 ·omega
 ·exact h
theorem BD.LK{l:List bQ}(h:BD l)(v:Int):FN bQ.f (nJ l v):=by
 unfold nJ FN;refine List.Pairwise.imp_of_mem (λ{x y} hx hy hxy=>?_) (RS _ h);have h1:=(jE.1 hx).2;have h2:=(jE.1 hy).2;simp at h1 h2;rcases lP.1 hxy with h|⟨_,h⟩<;>omega
theorem lY{l:List bQ}{a x:bQ}:x∈LO l a↔x=a\/(x∈l/\¬(x.f=a.f/\x.t=a.t)):=by
 unfold LO;simp only[jK,lL,jE,lP]
 constructor
 ·rintro(⟨h1,h2⟩|rfl|⟨h1,h2⟩)
  ·exact .inr ⟨h1,aB⟩
  ·exact .inl rfl
  ·exact .inr ⟨h1,aB⟩
 ·rintro(rfl|⟨h1,h2⟩)
  ·exact .inr (.inl rfl)
  ·rcases Int.lt_trichotomy x.f a.f with h|h|h
   ·exact .inl ⟨h1,.inl h⟩
   ·rcases Int.lt_trichotomy x.t a.t with h'|h'|h'
    ·exact .inl ⟨h1,.inr ⟨h,h'⟩⟩
    ·exact absurd ⟨h,h'⟩ h2
    ·exact .inr (.inr ⟨h1,.inr ⟨h.symm,h'⟩⟩)
   ·exact .inr (.inr ⟨h1,.inl h⟩)
theorem Yx{x y z:bQ}(h1:MA x y=true)(h2:MA y z=true):MA x z=true:=by
 rw[lP] at*;omega
theorem BD.KT{l:List bQ}(h:BD l)(a:bQ):BD (LO l a):=by
 unfold LO BD;rw[List.pairwise_append];refine⟨RS _ h,?_,?_⟩
 ·rw[List.pairwise_cons]
  exact⟨λx hx=>(jE.1 hx).2,RS _ h⟩
 ·intro x hx y hy
  have h1:=(jE.1 hx).2;rcases lL.1 hy with e|hy
  ·subst e;exact h1
  ·exact Yx h1 (jE.1 hy).2
theorem rP.KT{n:Nat}{l:List bQ}(h:rP n l){a:bQ}(ha:ET n a):rP n (LO l a):=
 ⟨h.rN.KT a,λx hx=>by rcases lY.1 hx with rfl|⟨h1,_⟩;exact ha;exact h.vQ x h1⟩
theorem rP.filter{n:Nat}{l:List bQ}(h:rP n l)(p:bQ->Bool):rP n (l.filter p):=⟨RS _ h.rN,λx hx=>h.vQ x (jE.1 hx).1⟩
theorem rP.cut{n:Nat}{l:List bQ}(h:rP n l)(v:Int):rP n (CV l v):=h.filter _
theorem rP.nil(n:Nat):rP n []:=⟨List.Pairwise.nil,by simp⟩
theorem BD.ext{l m:List bQ}(h:BD l)(h':BD m)(he:∀x,x∈l↔x∈m):l=m:=
 JZ (λa h=>by rw[lP] at h;omega) (λa b h1 h2=>by rw[lP] at h1 h2;omega) h h' he
theorem FN.ext{k:bQ->Int}{l m:List bQ}(h:FN k l)(h':FN k m)(he:∀x,x∈l↔x∈m):l=m:=
 JZ (λa h=>aB) (λa b h1 h2=>aB) h h' he
theorem eJ{l:List bQ}{v:Int}{x:bQ}:x∈dY l v↔x∈l/\x.f=v:=by simp[dY]
theorem iB{l:List bQ}{v:Int}{x:bQ}:x∈nJ l v↔x∈l/\x.t=v:=by simp[nJ]
theorem pL{l:List bQ}{v:Int}{x:bQ}:x∈CV l v↔x∈l/\x.f≠v/\x.t≠v:=by simp[CV]
theorem Wx{l:List bQ}(h:BD l)(a:bQ)(v:Int):dY (LO l a) v=if v=a.f then DL bQ.t (dY l v) a else dY l v:=by
 split
 ·rename_i hv
  subst hv;refine((h.KT a).out _).ext ((h.out _).KT a) λx=>?_;simp only[eJ,lY,Nw]
  constructor
  ·rintro⟨rfl|⟨h1,h2⟩,h3⟩
   ·exact .inl rfl
   ·exact .inr ⟨⟨h1,h3⟩,λh=>h2 ⟨h3,h⟩⟩
  ·rintro(rfl|⟨⟨h1,h2⟩,h3⟩)
   ·exact⟨.inl rfl,rfl⟩
   ·exact⟨.inr ⟨h1,λh=>h3 h.2⟩,h2⟩
 ·rename_i hv
  refine((h.KT a).out _).ext (h.out _) λx=>?_;simp only[eJ,lY]
  constructor
  ·rintro⟨rfl|⟨h1,h2⟩,h3⟩
   ·exact absurd h3.symm hv
   ·exact⟨h1,h3⟩
  ·rintro⟨h1,h2⟩
   exact⟨.inr ⟨h1,λh=>hv (by rw[<-h2,h.1])⟩,h2⟩
theorem th{l:List bQ}(h:BD l)(a:bQ)(v:Int):nJ (LO l a) v=if v=a.t then DL bQ.f (nJ l v) a else nJ l v:=by
 split
 ·rename_i hv
  subst hv;refine((h.KT a).LK _).ext ((h.LK _).KT a) λx=>?_;simp only[iB,lY,Nw]
  constructor
  ·rintro⟨rfl|⟨h1,h2⟩,h3⟩
   ·exact .inl rfl
   ·exact .inr ⟨⟨h1,h3⟩,λh=>h2 ⟨h,h3⟩⟩
  ·rintro(rfl|⟨⟨h1,h2⟩,h3⟩)
   ·exact⟨.inl rfl,rfl⟩
   ·exact⟨.inr ⟨h1,λh=>h3 h.1⟩,h2⟩
 ·rename_i hv
  refine((h.KT a).LK _).ext (h.LK _) λx=>?_;simp only[iB,lY]
  constructor
  ·rintro⟨rfl|⟨h1,h2⟩,h3⟩
   ·exact absurd h3.symm hv
   ·exact⟨h1,h3⟩
  ·rintro⟨h1,h2⟩
   exact⟨.inr ⟨h1,λh=>hv (by rw[<-h2,h.2])⟩,h2⟩
theorem qQ{l:List bQ}{f t:Int}{x:bQ}(h:jJ l f t=some x):x∈l/\x.f=f/\x.t=t:=by
 have h1:=List.find?_some h;simp at h1;exact⟨List.mem_of_find?_eq_some h,h1.1,h1.2⟩
theorem TR{l:List bQ}{f t:Int}(h:jJ l f t=none):∀x∈l,¬(x.f=f/\x.t=t):=by
 intro x hx hk;have:=List.find?_eq_none.1 h x hx;simp[hk] at this
theorem xV{l:List bQ}(hs:BD l){x:bQ}(hx:x∈l):jJ l x.f x.t=some x:=by
 cases h:jJ l x.f x.t with
 |none=>exact absurd ⟨rfl,rfl⟩ (TR h x hx)
 |some y=>
  obtain⟨h1,h2,h3⟩:=qQ h;congr 1;have hp:=Qb.1 hs;obtain⟨p,hp1,Ku⟩:=List.mem_iff_getElem.1 h1;obtain⟨q,hq1,hq2⟩:=List.mem_iff_getElem.1 hx;rcases Nat.lt_trichotomy p q with cJ|heq|cJ
  ·have:=hp p q hp1 hq1 cJ;rw[Ku,hq2,lP] at this;omega
  ·subst heq;rw[<-Ku,<-hq2]
  ·have:=hp q p hq1 hp1 cJ;rw[Ku,hq2,lP] at this;omega
theorem VL{n:Nat}{l:List bQ}(h:rP n l)(a:bQ):rP n (uN n l a).1:=by
 unfold uN
 split
 ·rename_i ha
  split
  ·split
   ·exact h
   ·exact h.KT ha
  ·exact h.KT ha
 ·exact h
theorem ZE{n:Nat}{l:List bQ}(h:rP n l):(List.range n).flatMap (λv:Nat=>dY l (v:Int))=l:=by
 refine BD.ext ?_ h.rN λx=>?_
 ·unfold BD
  rw[List.pairwise_flatMap];refine⟨λv _=>?_,?_⟩
  ·exact RS _ h.rN
  ·have:(List.range n).Pairwise (·<·):=List.pairwise_lt_range
   refine List.Pairwise.imp (λ{u v} huv x hx y hy=>?_) this;rw[eJ] at hx hy;rw[lP];omega
 ·simp only[List.mem_flatMap,List.mem_range,eJ]
  constructor
  ·rintro⟨v,_,h1,_⟩;exact h1
  ·intro hx
   have:=h.vQ x hx;unfold ET at this;exact⟨x.f.toNat,aB,hx,aB⟩
theorem ri{k:bQ->Int}{l:List bQ}(h:FN k l){n:Nat}(hk:∀x∈l,0<=k x/\k x<n):l.length<=n:=by
 have key:∀(i:Nat) (x:bQ),l[i]? =some x->(i:Int)<=k x:=by
  intro i
  induction i with
  |zero=>intro x hx;exact(hk x (zF hx)).1
  |succ i ih=>
   intro x hx;have hi:i<l.length:=by have:=(kU.1 hx).1;omega
   have h1:=ih _ (gS hi);have h2:=h.get (Nat.lt_succ_self i) (gS hi) hx;omega
 rcases Nat.eq_zero_or_pos l.length with h0|h0
 ·omega
 ·have hi:l.length-1<l.length:=aB
  have h1:=key _ _ (gS hi);have h2:=(hk _ (nC hi)).2;omega
theorem rP.uY{n:Nat}{l:List bQ}(h:rP n l)(v:Int):(dY l v).length<=n:=ri (h.rN.out v) λx hx=>by
 have:=h.vQ x (eJ.1 hx).1;exact⟨this.2.2.1,this.2.2.2.1⟩
theorem rP.FA{n:Nat}{l:List bQ}(h:rP n l)(v:Int):(nJ l v).length<=n:=ri (h.rN.LK v) λx hx=>by
 have:=h.vQ x (iB.1 hx).1;exact⟨this.1,this.2.1⟩
def gP(n:Nat)(l:List bQ)(xs:List bQ):List bQ:=xs.foldl (λl a=>(uN n l a).1) l
theorem HD{n:Nat}:∀(xs:List bQ) {l:List bQ},rP n l->rP n (gP n l xs)
 | [],_,h=>h
 |a::xs,_,h=>HD xs (VL h a)
theorem NF(n:Nat)(l xs:List bQ)(a:bQ):gP n l (xs++[a])=(uN n (gP n l xs) a).1:=by simp[gP]
theorem NG{n:Nat}:∀{xs p:List bQ},rP n (p++xs)->gP n p xs=p++xs
 | [],p,_=>by simp[gP]
 |a::xs,p,h=>by
  have hsp:BD (p++a::xs):=h.rN;unfold BD at hsp;rw[List.pairwise_append] at hsp;have cJ:∀x∈p,MA x a=true:=λx hx=>hsp.2.2 x hx a dK;have vS:jJ p a.f a.t=none:=by
   cases hf:jJ p a.f a.t with
   |none=>rfl
   |some x=>
    obtain⟨h1,h2,h3⟩:=qQ hf;have:=cJ x h1;rw[lP] at this;omega
  have he:(uN n p a).1=p++[a]:=by
   unfold uN;rw[if_pos (h.vQ a dK),vS];unfold LO;have e1:p.filter (λx=>MA x a)=p:=List.filter_eq_self.2 cJ;have e2:p.filter (λx=>MA a x)=[]:=List.filter_eq_nil_iff.2 λx hx hn=>by
    have:=cJ x hx;rw[lP] at this hn;omega
   rw[e1,e2]
  have h':rP n ((p++[a])++xs):=by simpa using h
  have:=NG (xs:=xs) (p:=p++[a]) h';show gP n (uN n p a).1 xs=_;rw[he,this];simp
structure LowL(l:List bQ)(f t:Int)(i:Nat):Prop where
 le:i<=l.length
 lo:∀p x,p<i->l[p]? =some x->x.f<f\/(x.f=f/\x.t<t)
 hi:∀p x,i<=p->l[p]? =some x->¬(x.f<f\/(x.f=f/\x.t<t))
theorem WI{α β:Type}(f:α->List β)(n:Nat):∀l:List α,(∀x∈l,(f x).length<=n)->(l.flatMap f).length<=l.length*n
 | [],_=>by simp
 |x::l,h=>by
  have:=WI f n l λy hy=>h y (by simp[hy]);have:=h x dK;simp only[EV,mJ,nQ,Nat.add_mul];omega
theorem rP.len{n:Nat}{l:List bQ}(h:rP n l)(hn:n<=512):l.length<=262144:=by
 have h1:=WI (λv:Nat=>dY l (v:Int)) n (List.range n) λv _=>h.uY v;rw[ZE h,List.length_range] at h1;have h2:n*n<=512*512:=EU hn hn;omega
end
section
structure It where
 id:Int
 key:Int
 deriving DecidableEq
def pW(x y:It):Bool:=decide (x.key<y.key) ||(decide (x.key=y.key) && decide (x.id<y.id))
theorem jZ{x y:It}:pW x y=true↔x.key<y.key\/(x.key=y.key/\x.id<y.id):=by simp[pW]
theorem itlt_tri(x y:It):pW x y=true\/x=y\/pW y x=true:=by
 obtain⟨a,b⟩:=x;obtain⟨c,d⟩:=y;simp only[jZ,It.mk.injEq];omega
abbrev BB(q:List It):Prop:=q.Pairwise λx y=>pW x y=true
def ya(q:List It)(x:It):List It:=q.filter (λy=>pW y x)++x::q.filter (λy=>pW x y)
theorem xU{q:List It}{x y:It}:y∈ya q x↔y=x\/y∈q:=by
 unfold ya;simp only[jK,lL,jE]
 constructor
 ·rintro(⟨h,_⟩|rfl|⟨h,_⟩)<;>simp_all
 ·rintro(rfl|h)
  ·simp
  ·rcases itlt_tri y x with h1|rfl|h1<;>simp_all
theorem BB.KT{q:List It}(h:BB q)(x:It):BB (ya q x):=by
 unfold ya BB;rw[List.pairwise_append];refine⟨RS _ h,?_,λa ha b hb=>?_⟩
 ·rw[List.pairwise_cons]
  exact⟨λb hb=>(jE.1 hb).2,RS _ h⟩
 ·have h1:=jZ.1 (jE.1 ha).2
  rcases lL.1 hb with rfl|hb
  ·exact jZ.2 h1
  ·have h2:=jZ.1 (jE.1 hb).2
   rw[jZ];omega
def By(q:List It):Prop:=∀x∈q,∀y∈q,x.id=y.id->x=y
def Ey(q:List It)(v:Int):Option Int:=(q.find? λy=>decide (y.id=v)).map (·.key)
theorem ZD{q:List It}{v k:Int}(h:Ey q v=some k):⟨v,k⟩∈q:=by
 unfold Ey at h;cases hf:q.find? (λy=>decide (y.id=v)) with
 |none=>rw[hf] at h;cases h
 |some y=>
  rw[hf] at h;have h1:=List.mem_of_find?_eq_some hf;have h2:=List.find?_some hf;obtain⟨a,b⟩:=y;simp at h h2;subst h h2;exact h1
theorem aAb{q:List It}{v:Int}(h:Ey q v=none):∀x∈q,x.id≠v:=by
 intro x hx;unfold Ey at h;simp only[Option.map_eq_none_iff,List.find?_eq_none] at h;simpa using h x hx
theorem Xf{q:List It}(h:By q){x:It}(hx:x∈q):Ey q x.id=some x.key:=by
 cases hk:Ey q x.id with
 |none=>exact absurd rfl (aAb hk x hx)
 |some k=>have:=h _ (ZD hk) x hx rfl;rw[<-this]
def Cd(q:List It)(v k:Int):Bool:=match Ey q v with
 |some k0=>decide (k0<=k)
 |none=>false
def nK(q:List It)(v k:Int):List It×Bool:=if Cd q v k then(q,false) else(ya (q.filter λy=>decide (y.id≠v)) ⟨v,k⟩,true)
theorem WA{q:List It}{v k:Int}{y:It}(h:y∈(nK q v k).1):y∈q\/y=⟨v,k⟩:=by
 unfold nK at h
 split at h
 ·exact .inl h
 ·rcases xU.1 h with rfl|h
  ·exact .inr rfl
  ·exact .inl (jE.1 h).1
theorem OM{q:List It}(h1:By q){v k:Int}{x:It}(hx:x∈q):∃y∈(nK q v k).1,y.id=x.id/\y.key<=x.key:=by
 unfold nK
 split
 ·exact⟨x,hx,rfl,oX _⟩
 ·rename_i hl
  by_cases e:x.id=v
  ·refine⟨⟨v,k⟩,xU.2 (.inl rfl),e.symm,?_⟩
   have:=Xf h1 hx;unfold Cd at hl;rw[<-e,this] at hl;simp at hl;show k<=x.key;omega
  ·exact⟨x,xU.2 (.inr (jE.2 ⟨hx,by simpa using e⟩)),rfl,oX _⟩
theorem WB{q:List It}{v k:Int}:∃y∈(nK q v k).1,y.id=v/\y.key<=k:=by
 unfold nK
 split
 ·rename_i hl
  unfold Cd at hl;cases hk:Ey q v with
  |none=>rw[hk] at hl;cases hl
  |some k0=>rw[hk] at hl;exact⟨⟨v,k0⟩,ZD hk,rfl,by simpa using hl⟩
 ·exact⟨⟨v,k⟩,xU.2 (.inl rfl),rfl,oX _⟩
theorem CA{q:List It}(h:BB q)(v k:Int):BB (nK q v k).1:=by
 unfold nK
 split
 ·exact h
 ·exact BB.KT (RS _ h) _
theorem CB{q:List It}(h:By q)(v k:Int):By (nK q v k).1:=by
 unfold nK
 split
 ·exact h
 ·intro x hx y hy e
  rcases xU.1 hx with rfl|hx<;>rcases xU.1 hy with rfl|hy
  ·rfl
  ·have:=(jE.1 hy).2;simp at this;exact absurd e.symm this
  ·have:=(jE.1 hx).2;simp at this;exact absurd e this
  ·exact h x (jE.1 hx).1 y (jE.1 hy).1 e
inductive fY(L:List bQ)(c a:Int):Int->Int->Prop where
 |nil:fY L c a a 0
 |gW {v d:Int} (e:bQ) (h:fY L c a v d) (he:e∈L) (hf:e.f=v) (ht:e.t≠c):fY L c a e.t (d+e.w)
def wF(s:List It)(v:Int):Bool:=s.any λx=>decide (x.id=v)
theorem WH{s:List It}{v:Int}:wF s v=true↔∃x∈s,x.id=v:=by simp[wF]
def pY(c:Int)(s:List It)(d:Int)(q:List It)(l:List bQ):List It:=l.foldl (λq a=>if a.t=c\/wF s a.t=true then q else(nK q a.t (d+a.w)).1) q
def GD(L:List bQ)(c:Int)(z:List It×List It):List It×List It:=match z.1 with
 | []=>([],z.2)
 |x::q=>(pY c (z.2++[x]) x.key q (dY L x.id),z.2++[x])
def jU(L:List bQ)(c a:Int):Nat->List It×List It
 |0=>([⟨a,0⟩],[])
 |n+1=>GD L c (jU L c a n)
theorem Yo(c:Int)(s:List It)(d:Int)(q:List It)(l:List bQ)(a:bQ):pY c s d q (l++[a])=if a.t=c\/wF s a.t=true then pY c s d q l else(nK (pY c s d q l) a.t (d+a.w)).1:=by simp[pY]
theorem Yp(c:Int)(s:List It)(d:Int)(q:List It)(l:List bQ)(a:bQ):pY c s d q (a::l)=pY c s d (if a.t=c\/wF s a.t=true then q else(nK q a.t (d+a.w)).1) l:=rfl
theorem OL{c:Int}{s:List It}{d:Int}:∀{l:List bQ} {q:List It},BB q->By q->BB (pY c s d q l)/\By (pY c s d q l)/\
  (∀y∈pY c s d q l,y∈q\/∃e∈l,e.t≠c/\wF s e.t=false/\y=⟨e.t,d+e.w⟩)/\(∀x∈q,∃y∈pY c s d q l,y.id=x.id/\y.key<=x.key)/\
  (∀e∈l,e.t≠c->wF s e.t=false->∃y∈pY c s d q l,y.id=e.t/\y.key<=d+e.w)
 | [],q,h1,h2=>⟨h1,h2,λy hy=>.inl hy,λx hx=>⟨x,hx,rfl,oX _⟩,by simp⟩
 |a::l,q,h1,h2=>by
  rw[Yp]
  by_cases hc:a.t=c\/wF s a.t=true
  ·rw[if_pos hc]
   obtain⟨g1,g2,g3,g4,g5⟩:=OL (c:=c) (s:=s) (d:=d) (l:=l) h1 h2;refine⟨g1,g2,λy hy=>(g3 y hy).imp id λ⟨e,he,r⟩=>⟨e,by simp[he],r⟩,g4,λe he n1 n2=>?_⟩;rcases lL.1 he with rfl|he
   ·rcases hc with hc|hc
    ·exact absurd hc n1
    ·rw[hc] at n2;cases n2
   ·exact g5 e he n1 n2
  ·rw[if_neg hc]
   obtain⟨g1,g2,g3,g4,g5⟩:=OL (c:=c) (s:=s) (d:=d) (l:=l) (CA h1 a.t (d+a.w)) (CB h2 a.t (d+a.w));have bu:a.t≠c:=λe=>hc (.inl e);have RM:wF s a.t=false:=by cases h:wF s a.t with
    |false=>rfl
    |true=>exact absurd (.inr h) hc
   refine⟨g1,g2,λy hy=>?_,λx hx=>?_,λe he n1 n2=>?_⟩
   ·rcases g3 y hy with hq|⟨e,he,r⟩
    ·rcases WA hq with hq|rfl
     ·exact .inl hq
     ·exact .inr ⟨a,by simp,bu,RM,rfl⟩
    ·exact .inr ⟨e,by simp[he],r⟩
   ·obtain⟨y,hy,e1,e2⟩:=OM h2 (v:=a.t) (k:=d+a.w) hx
    obtain⟨z,hz,e3,e4⟩:=g4 y hy;exact⟨z,hz,e3.trans e1,Int.le_trans e4 e2⟩
   ·rcases lL.1 he with rfl|he
    ·obtain⟨y,hy,e1,e2⟩:=WB (q:=q) (v:=e.t) (k:=d+e.w)
     obtain⟨z,hz,e3,e4⟩:=g4 y hy;exact⟨z,hz,e3.trans e1,Int.le_trans e4 e2⟩
    ·exact g5 e he n1 n2
structure Fg(m:Nat)(L:List bQ)(c a:Int)(q s:List It):Prop where
 rN:BB q
 one:By q
 De:(s.map (·.id)).Nodup
 rX:∀x∈q,wF s x.id=false
 Eo:∀x∈s++q,fY L c a x.id x.key
 src:⟨a,0⟩∈s++q
 clo:∀x∈s,∀e∈L,e.f=x.id->e.t≠c->∃y∈s++q,y.id=e.t/\y.key<=x.key+e.w
 mono:∀x∈s,∀y∈q,x.key<=y.key
 qE:∀x∈s,∀d,fY L c a x.id d->x.key<=d
 gH:∀x∈s++q,0<=x.key/\x.key<=s.length*1099511627776/\0<=x.id/\x.id<m
theorem Fg.reach{m:Nat}{L:List bQ}{c a:Int}{q s:List It}(h:Fg m L c a q s)(hL:rP m L){v d:Int}(hw:fY L c a v d):(∃x∈s,x.id=v/\x.key<=d)\/∃y∈q,y.key<=d:=by
 induction hw with
 |nil=>
  rcases jK.1 h.src with hs|hq
  ·exact .inl ⟨_,hs,rfl,oX _⟩
  ·exact .inr ⟨_,hq,oX _⟩
 |gW e _ he hf ht ih=>
  rcases ih with⟨x,hx,hv,hd⟩|⟨y,hy,hd⟩
  ·obtain⟨y,hy,e1,e2⟩:=h.clo x hx e he (hf.trans hv.symm) ht
   rcases jK.1 hy with hs|hq
   ·exact .inl ⟨y,hs,e1,aB⟩
   ·exact .inr ⟨y,hq,aB⟩
  ·have:=(hL.vQ e he).2.2.2.2.2.1
   exact .inr ⟨y,hy,aB⟩
theorem Fg.step{m:Nat}{L:List bQ}{c a:Int}{q s:List It}(h:Fg m L c a q s)(hL:rP m L):Fg m L c a (GD L c (q,s)).1 (GD L c (q,s)).2:=by
 cases q with
 |nil=>exact h
 |cons x q=>
  have hq:=List.pairwise_cons.1 h.rN;have jW:By q:=λy hy z hz=>h.one y (by simp[hy]) z (by simp[hz]);obtain⟨g1,g2,g3,g4,g5⟩:=OL (c:=c) (s:=s++[x]) (d:=x.key) (l:=dY L x.id) hq.2 jW;show Fg m L c a (pY c (s++[x]) x.key q (dY L x.id)) (s++[x]);generalize pY c (s++[x]) x.key q (dY L x.id)=p at*;have hxs:wF s x.id=false:=h.rX x dK;have hxw:=h.Eo x dK;have hxb:=h.gH x dK;have inS:∀v,wF (s++[x]) v=false↔wF s v=false/\x.id≠v:=λv=>by simp[wF]
  have qE:∀d,fY L c a x.id d->x.key<=d:=λd hw=>by
   rcases h.reach hL hw with⟨y,hy,hv,_⟩|⟨y,hy,hd⟩
   ·have:wF s x.id=true:=WH.2 ⟨y,hy,hv⟩
    rw[hxs] at this;cases this
   ·rcases lL.1 hy with rfl|hy
    ·exact hd
    ·have:=jZ.1 (hq.1 y hy);omega
  have hold:∀y∈s++(x::q),∃z∈s++[x]++p,z.id=y.id/\z.key<=y.key:=λy hy=>by
   rcases jK.1 hy with hy|hy
   ·exact⟨y,by simp[hy],rfl,oX _⟩
   ·rcases lL.1 hy with rfl|hy
    ·exact⟨y,by simp,rfl,oX _⟩
    ·obtain⟨z,hz,r⟩:=g4 y hy
     exact⟨z,by simp[hz],r⟩
  refine⟨g1,g2,?_,?_,?_,?_,?_,?_,?_,?_⟩
  ·rw[yQ,List.nodup_append]
   refine⟨h.De,by simp,λu hu v hv=>?_⟩;simp at hv;subst hv;obtain⟨y,hy,rfl⟩:=lK.1 hu;intro e;have:wF s x.id=true:=WH.2 ⟨y,hy,e⟩;rw[hxs] at this;cases this
  ·intro y hy
   rcases g3 y hy with da|⟨e,_,_,h2,rfl⟩
   ·refine(inS _).2 ⟨h.rX y (by simp[da]),λe=>?_⟩
    have:=h.one x dK y (by simp[da]) e;subst this;have:=jZ.1 (hq.1 x da);omega
   ·exact h2
  ·intro y hy
   rcases jK.1 hy with hy|hy
   ·exact h.Eo y (by rcases jK.1 hy with hy|hy<;>simp_all)
   ·rcases g3 y hy with da|⟨e,he,h1,_,rfl⟩
    ·exact h.Eo y (by simp[da])
    ·obtain⟨heL,hef⟩:=eJ.1 he
     exact fY.gW e hxw heL hef h1
  ·rcases jK.1 h.src with hs|hs
   ·simp[hs]
   ·rcases lL.1 hs with hs|hs
    ·simp[hs]
    ·--the first one is the source itself till it is eE
     obtain⟨z,hz,e1,e2⟩:=g4 _ hs;have:=qE 0;have hk:=jZ.1 (hq.1 _ hs);have:=hxb.1;simp only at hk e1 e2;have hzb:0<=z.key:=by
      rcases g3 z hz with hzq|⟨e,he,_,_,rfl⟩
      ·exact(h.gH z (by simp[hzq])).1
      ·have:=(hL.vQ e (eJ.1 he).1).2.2.2.2.2.1;show 0<=x.key+e.w;omega
     have:z=⟨a,0⟩:=by obtain⟨i,k⟩:=z;simp only at*;subst e1;congr 1;omega
     rw[<-this];simp[hz]
  ·intro y hy e he hf ht
   rcases jK.1 hy with hy|hy
   ·obtain⟨z,hz,e1,e2⟩:=h.clo y hy e he hf ht
    obtain⟨u,hu,e3,e4⟩:=hold z hz;exact⟨u,hu,e3.trans e1,Int.le_trans e4 e2⟩
   ·simp at hy
    subst hy;cases IM:wF (s++[y]) e.t with
    |false=>
     obtain⟨z,hz,r⟩:=g5 e (eJ.2 ⟨he,hf⟩) ht IM;exact⟨z,by simp[hz],r⟩
    |true=>
     obtain⟨z,hz,hzt⟩:=WH.1 IM;refine⟨z,by simp only[jK];exact .inl (by simpa using hz),hzt,?_⟩;have hw:=fY.gW e hxw he hf ht;rcases jK.1 hz with hz|hz
     ·exact h.qE z hz _ (hzt▸hw)
     ·simp at hz;subst hz
      exact qE _ (hzt▸hw)
  ·intro y hy z hz
   have hxz:x.key<=z.key:=by
    rcases g3 z hz with hzq|⟨e,he,_,_,rfl⟩
    ·have:=jZ.1 (hq.1 z hzq);omega
    ·have:=(hL.vQ e (eJ.1 he).1).2.2.2.2.2.1;show x.key<=x.key+e.w;omega
   rcases jK.1 hy with hy|hy
   ·exact Int.le_trans (h.mono y hy x dK) hxz
   ·simp at hy;subst hy;exact hxz
  ·intro y hy
   rcases jK.1 hy with hy|hy
   ·exact h.qE y hy
   ·simp at hy;subst hy;exact qE
  ·have len:(s++[x]).length=s.length+1:=by simp
   intro y hy;rw[len];have old:∀y∈s++(x::q),0<=y.key/\y.key<=((s.length+1:Nat):Int)*1099511627776/\0<=y.id/\y.id<m:=λy hy=>by
    obtain⟨b1,b2,b3⟩:=h.gH y hy;exact⟨b1,aB,b3⟩
   rcases jK.1 hy with hy|hy
   ·exact old y (by rcases jK.1 hy with hy|hy<;>simp_all)
   ·rcases g3 y hy with da|⟨e,he,_,_,rfl⟩
    ·exact old y (by simp[da])
    ·have hm:=hL.vQ e (eJ.1 he).1
     obtain⟨_,_,m1,m2,_,m3,m4,_⟩:=hm;refine⟨?_,?_,m1,m2⟩
     ·show 0<=x.key+e.w;omega
     ·show x.key+e.w<=_;omega
theorem wZ{m:Nat}{L:List bQ}(hL:rP m L)(c:Int){a:Int}(ha:0<=a)(pH:a<m):∀n,Fg m L c a (jU L c a n).1 (jU L c a n).2
 |0=>by
  refine⟨List.pairwise_singleton _ _,?_,List.nodup_nil,by simp[jU,wF],?_,by simp[jU],by simp[jU],by simp[jU],by simp[jU],?_⟩
  ·intro x hx y hy _;simp[jU] at hx hy;rw[hx,hy]
  ·intro x hx;simp[jU] at hx;subst hx;exact fY.nil
  ·intro x hx;simp[jU] at hx;subst hx;exact⟨oX _,by simp[jU],ha,pH⟩
 |n+1=>(wZ hL c ha pH n).step hL
theorem Dp(L:List bQ)(c a:Int):∀n,(jU L c a n).2.length=n\/((jU L c a n).1=[]/\(jU L c a n).2.length<=n)
 |0=>.inl rfl
 |n+1=>by
  have ih:=Dp L c a n;show(GD L c (jU L c a n)).2.length=n+1\/((GD L c (jU L c a n)).1=[]/\_);cases hz:jU L c a n with
  |mk q s=>
   rw[hz] at ih;cases q with
   |nil=>
    right;refine⟨rfl,?_⟩;show(jU L c a (n+1)).2.length<=n+1;have e:(jU L c a (n+1)).2=s:=by show(GD L c (jU L c a n)).2=s;rw[hz];rfl
    rw[e];rcases ih with h|h
    ·simp only at h;omega
    ·have:=h.2;simp only at this;omega
   |cons x q=>
    left;rcases ih with h|⟨h,_⟩
    ·simp[GD] at h ⊢;omega
    ·cases h
theorem wJ:∀{m:Nat} {l:List Int},l.Nodup->(∀x∈l,0<=x/\x<m)->l.length<=m
 |0,l,_,hb=>by
  cases l with
  |nil=>simp
  |cons x l=>have:=hb x dK;omega
 |m+1,l,h,hb=>by
  have one:∀(l:List Int),l.Nodup->l.length<=(l.filter λx=>decide (x≠(m:Int))).length+1:=by
   intro l
   induction l with
   |nil=>intro _;simp
   |cons x l ih=>
    intro hn;rw[List.nodup_cons] at hn
    by_cases e:x=(m:Int)
    ·have:l.filter (λx=>decide (x≠(m:Int)))=l:=List.filter_eq_self.2 λy hy=>by
      simp only[ne_eq,decide_eq_true_eq];rintro rfl;exact hn.1 (e▸hy)
     simp only[KX];rw[this];simp[e]
    ·have:=ih hn.2
     simp only[KX,nQ];rw[if_pos (by simpa using e)];simp only[nQ];omega
  have ih:=wJ (m:=m) (l:=l.filter λx=>decide (x≠(m:Int))) (RS _ h) λx hx=>by
   have h1:=hb x (jE.1 hx).1;have h2:x≠(m:Int):=by simpa using(jE.1 hx).2
   omega
  have:=one l h;omega
theorem Fg.len{m:Nat}{L:List bQ}{c a:Int}{q s:List It}(h:Fg m L c a q s):s.length<=m:=by
 have:=wJ h.De λv hv=>by obtain⟨x,hx,rfl⟩:=lK.1 hv;exact(h.gH x (by simp[hx])).2.2
 simpa using this
theorem Fg.len_q{m:Nat}{L:List bQ}{c a:Int}{x:It}{q s:List It}(h:Fg m L c a (x::q) s):s.length<m:=by
 have hn:((s.map (·.id))++[x.id]).Nodup:=by
  rw[List.nodup_append];refine⟨h.De,by simp,λu hu v hv=>?_⟩;simp at hv;subst hv;obtain⟨y,hy,rfl⟩:=lK.1 hu;intro e;have:=h.rX x dK;rw[WH.2 ⟨y,hy,e⟩] at this;cases this
 have:=wJ (m:=m) hn λv hv=>by
  rcases jK.1 hv with hv|hv
  ·obtain⟨y,hy,rfl⟩:=lK.1 hv;exact(h.gH y (by simp[hy])).2.2
  ·simp at hv;subst hv;exact(h.gH x dK).2.2
 simp at this;omega
section
variable{m:Nat}{L:List bQ}(hL:rP m L)(c:Int){a:Int}(ha:0<=a)(pH:a<m)
include hL ha pH
theorem Gp{n:Nat}(hn:m<=n):(jU L c a n).1=[]:=by
 have hi:=wZ hL c ha pH n;cases hz:jU L c a n with
 |mk q s=>
  rw[hz] at hi;cases q with
  |nil=>rfl
  |cons x q=>
   have h1:=hi.len_q;rcases Dp L c a n with h|⟨h,_⟩
   ·rw[hz] at h;simp only at h h1;omega
   ·rw[hz] at h;cases h
omit hL ha pH in
theorem Wr(n:Nat):∀k,(jU L c a n).2=((jU L c a (n+k)).2).take n
 |0=>by
  rcases Dp L c a n with h|⟨_,h⟩
  ·rw[Nat.add_zero,List.take_of_length_le aB]
  ·rw[Nat.add_zero,List.take_of_length_le h]
 |k+1=>by
  rw[Wr n k];show _=(GD L c (jU L c a (n+k))).2.take n;have hl:=Dp L c a (n+k);cases hz:jU L c a (n+k) with
  |mk q s=>
   rw[hz] at hl;cases q with
   |nil=>rfl
   |cons x q=>
    rcases hl with h|⟨h,_⟩
    ·simp only[GD] at h ⊢
     rw[List.take_append_of_le_length aB]
    ·cases h
omit hL ha pH in
def eE(m:Nat)(L:List bQ)(c a:Int):List It:=(jU L c a m).2
theorem run_eq(n:Nat):(jU L c a n).2=(eE m L c a).take n:=by
 unfold eE;rcases Nat.le_total n m with h|h
 ·obtain⟨k,rfl⟩:∃k,m=n+k:=⟨m-n,aB⟩
  exact Wr c n k
 ·obtain⟨k,rfl⟩:∃k,n=m+k:=⟨n-m,aB⟩
  rw[List.take_of_length_le (by have:=(wZ hL c ha pH m).len;omega)];clear h
  induction k with
  |zero=>rfl
  |succ k ih=>
   show(GD L c (jU L c a (m+k))).2=_;have hk:=Gp hL c ha pH (n:=m+k) aB;cases hz:jU L c a (m+k) with
   |mk q s=>rw[hz] at ih hk;simp only at hk;subst hk;exact ih
theorem pF{v d:Int}:(⟨v,d⟩:It)∈eE m L c a↔fY L c a v d/\∀d',fY L c a v d'->d<=d':=by
 have hi:=wZ hL c ha pH m;have hd:=Gp hL c ha pH (iT m);rw[hd] at hi
 constructor
 ·intro h
  exact⟨hi.Eo _ (jK.2 (.inl h)),hi.qE _ h⟩
 ·rintro⟨h1,h2⟩
  rcases hi.reach hL h1 with⟨x,hx,rfl,hk⟩|⟨y,hy,_⟩
  ·have:=hi.Eo x (by simpa using hx)
   have:=h2 _ this;have:(⟨x.id,d⟩:It)=x:=by obtain⟨i,k⟩:=x;simp only at*;congr 1;omega
   rw[this];exact hx
  ·cases hy
theorem QY{v d:Int}(h:fY L c a v d):∃k,k<=d/\(⟨v,k⟩:It)∈eE m L c a:=by
 have hi:=wZ hL c ha pH m;have hd:=Gp hL c ha pH (iT m);rw[hd] at hi;rcases hi.reach hL h with⟨x,hx,rfl,hk⟩|⟨y,hy,_⟩
 ·exact⟨x.key,hk,hx⟩
 ·cases hy
theorem Yk{x y:It}(hx:x∈eE m L c a)(hy:y∈eE m L c a)(e:x.id=y.id):x=y:=by
 have h1:=(pF hL c ha pH (v:=x.id) (d:=x.key)).1 hx;have h2:=(pF hL c ha pH (v:=y.id) (d:=y.key)).1 hy;obtain⟨i,k⟩:=x;obtain⟨j,l⟩:=y;simp only at e h1 h2;subst e;have:=h1.2 _ h2.1;have:=h2.2 _ h1.1;congr 1;omega
theorem ND:(eE m L c a).length<=m:=(wZ hL c ha pH m).len
theorem Ym{x:It}(hx:x∈eE m L c a):0<=x.key/\x.key<=m*1099511627776/\0<=x.id/\x.id<m:=by
 have hi:=wZ hL c ha pH m;have h1:=hi.gH x (by simp only[jK];exact .inl hx);have h2:=hi.len;refine⟨h1.1,?_,h1.2.2⟩;have:((jU L c a m).2.length:Int)*1099511627776<=(m:Int)*1099511627776:=aB;omega
end
end
theorem fY.mono{L M:List bQ}{c c' a v d:Int}(hs:∀e∈L,e.t≠c->e∈M/\e.t≠c')(h:fY L c a v d):fY M c' a v d:=by
 induction h with
 |nil=>exact .nil
 |gW e _ he hf ht ih=>exact .gW e ih (hs e he ht).1 hf (hs e he ht).2
theorem fY.trans{L:List bQ}{c a v w d d':Int}(h:fY L c a v d)(h':fY L c v w d'):fY L c a w (d+d'):=by
 induction h' with
 |nil=>rw[Int.add_zero];exact h
 |gW e _ he hf ht ih=>rw[<-Int.add_assoc];exact .gW e ih he hf ht
theorem fY.ends{L:List bQ}{c a v d:Int}(h:fY L c a v d):v=a\/v≠c:=by
 cases h with
 |nil=>exact .inl rfl
 |gW e _ _ _ ht=>exact .inr ht
theorem walk_cut{m:Nat}{L:List bQ}(hL:rP m L){c a v d:Int}(hac:a≠c):fY (CV L c) (-1) a v d↔fY L c a v d:=by
 constructor
 ·refine fY.mono λe he _=>?_
  have:=pL.1 he;exact⟨this.1,this.2.2⟩
 ·intro h
  induction h with
  |nil=>exact .nil
  |gW e h he hf ht ih=>
   have hfc:e.f≠c:=by rw[hf];rcases h.ends with rfl|h<;>assumption
   exact .gW e ih (pL.2 ⟨he,hfc,ht⟩) hf (by have:=(hL.vQ e he).2.2.1;omega)
theorem fY.pos{m:Nat}{L:List bQ}(hL:rP m L){c a v d:Int}(h:fY L c a v d):0<=d:=by
 induction h with
 |nil=>exact oX _
 |gW e _ he _ _ ih=>have:=(hL.vQ e he).2.2.2.2.2.1;omega
def met(ds:List Int):Nat:=(ds.filter λd=>decide (0<=d)).length
theorem ig(ds:List Int):met ds<=ds.length:=vU _ _
theorem su:∀{ds:List Int} {i:Nat} {x d:Int},ds[i]? =some x->0<=d->met (ds.set i d)=met ds+(if x<0 then 1 else 0)
 | [],i,x,d,h,_=>by simp at h
 |y::ds,0,x,d,h,hd=>by
  simp at h;subst h;simp only[List.set_cons_zero,met,KX]
  by_cases h0:y<0
  ·have e1:decide (0<=y)=false:=by simp;omega
   have e2:decide (0<=d)=true:=by simpa using hd
   rw[e1,e2,if_pos h0];simp
  ·have e1:decide (0<=y)=true:=by simp;omega
   have e2:decide (0<=d)=true:=by simpa using hd
   rw[e1,e2,if_neg h0];simp
 |y::ds,i+1,x,d,h,hd=>by
  simp at h;have ih:=su (i:=i) h hd;simp only[List.set_cons_succ,met,KX];simp only[met] at ih
  split
  ·simp only[nQ,ih];omega
  ·exact ih
structure BF(m:Nat)(L:List bQ)(a:Int)(ds:List Int):Prop where
 len:ds.length=m
 src:ds[a.toNat]? =some 0
 Eo:∀(v:Nat) (d:Int),ds[v]? =some d->d=-1\/(0<=d/\fY L (-1) a (v:Int) d/\d<=met ds*1099511627776)
section
def yg(s:List It)(to eO fI:Int):Bool:=(s.take fI.toNat).any λx=>decide (x.id=to) && decide (x.key<=eO)
theorem Xi{s:List It}{to eO fI:Int}:yg s to eO fI=true↔∃(i:Nat) (d:Int),(i:Int)<fI/\s[i]? =some ⟨to,d⟩/\d<=eO:=by
 unfold yg;rw[List.any_eq_true]
 constructor
 ·rintro⟨x,hx,hp⟩
  obtain⟨i,hi⟩:=oL.1 hx;have cJ:=(kU.1 hi).1;rw[pV] at cJ;rw[UP aB] at hi;obtain⟨a,b⟩:=x;simp at hp;exact⟨i,b,aB,by rw[hi,hp.1],hp.2⟩
 ·rintro⟨i,d,h1,h2,h3⟩
  refine⟨⟨to,d⟩,oL.2 ⟨i,?_⟩,by simpa using h3⟩;rw[UP aB];exact h2
def PO(n:Nat)(L:List bQ)(a to c eO fI:Int):Bool:=decide (0<=a/\a<n) && (decide (0<=to/\to<n) && (decide (a≠c) && yg (eE n L c a) to eO fI))
def VB(s:List It)(to fI:Int)(k:Nat):Bool:=(match s[k]? with|some x=>decide (x.id=to)|none=>false) ||decide (fI=(k:Int)+1)
def Ra(s:List It)(to eO:Int):Nat->Bool
 |0=>false
 |k+1=>match s[k]? with|some x=>decide (x.id=to) && decide (x.key<=eO)|none=>false
theorem NI(s:List It)(to eO:Int)(k:Nat):Ra s to eO (k+1)=match s[k]? with|some x=>decide (x.id=to) && decide (x.key<=eO)|none=>false:=rfl
theorem aAe{s:List It}{to eO fI:Int}(h1:By s)(hd:s.Nodup)(hs:1<=fI){m:Nat}(hm:m<=s.length)(EP:∀j,j+1<m->VB s to fI j=false)
  (hend:(m=s.length/\∀j,j<m->VB s to fI j=false)\/∃j,m=j+1/\VB s to fI j=true):Ra s to eO m=yg s to eO fI:=by
 have no:∀j,VB s to fI j=false->∀x,s[j]? =some x->x.id≠to/\fI≠(j:Int)+1:=λj hj x hx=>by
  unfold VB at hj;rw[hx] at hj;simpa using hj
 rw[Bool.eq_iff_iff,Xi];rcases hend with⟨rfl,vS⟩|⟨j,rfl,hj⟩
 ·constructor
  ·intro hf
   cases hl:s.length with
   |zero=>rw[hl] at hf;cases hf
   |succ k=>
    rw[hl] at hf;rw[NI] at hf;have hx:=gS (show k<s.length by omega);rw[hx] at hf;have:=(no k (vS k aB) _ hx).1;simp[this] at hf
  ·rintro⟨i,d,_,hi,_⟩
   have cJ:=(kU.1 hi).1;exact absurd rfl (no i (vS i cJ) _ hi).1
 ·have hx:=gS (show j<s.length by omega)
  have kT:(j:Int)<fI:=by
   rcases Int.lt_or_le (j:Int) fI with h|h
   ·exact h
   ·obtain⟨i,hi⟩:∃i:Nat,fI=(i:Int)+1:=⟨(fI-1).toNat,aB⟩
    have cJ:i<s.length:=aB;exact absurd hi (no i (EP i aB) _ (gS cJ)).2
  rw[NI,hx];generalize s[j]=x at hx
  constructor
  ·intro hf
   simp at hf;exact⟨j,x.key,kT,by rw[hx,<-hf.1],hf.2⟩
  ·rintro⟨i,d,hi,df,hdm⟩
   have RL:i=j:=by
    rcases Nat.lt_trichotomy i j with h|h|h
    ·exact absurd rfl (no i (EP i aB) _ df).1
    ·exact h
    ·--then it dF not stopped at j but by its count
     unfold VB at hj;rw[hx] at hj;simp at hj;rcases hj with hj|hj
     ·have he:=h1 x (zF hx) _ (zF df) hj
      have dI:=(kU.1 df).1;have hn:=Qb.1 hd j i aB dI h;have e1:s[j]'(aB)=x:=(kU.1 hx).2;have e2:s[i]=⟨to,d⟩:=(kU.1 df).2;rw[e1,e2] at hn;exact absurd he hn
     ·omega
   subst RL;rw[df] at hx;cases hx;simpa using hdm
section
variable{m:Nat}{L:List bQ}(hL:rP m L)(c:Int){a:Int}(ha:0<=a)(pH:a<m)
include hL ha pH
theorem Lt:(eE m L c a).Nodup:=by
 have h:=(wZ hL c ha pH m).De;unfold eE;exact List.Pairwise.imp (λ{x y} h e=>h (by rw[e])) (List.pairwise_map.1 h)
theorem Yn:By (eE m L c a):=λ_ hx _ hy e=>Yk hL c ha pH hx hy e
end
theorem qx{n:Nat}{L:List bQ}{a to c:Int}(ha:0<=a/\a<n)(ht:0<=to/\to<n)(hac:a≠c)(k s:Int):PO n L a to c k s=true↔∃(i:Nat) (d:Int),(i:Int)<s/\(eE n L c a)[i]? =some ⟨to,d⟩/\d<=k:=by
 rw[<-Xi];unfold PO;rw[decide_eq_true ha,decide_eq_true ht,decide_eq_true hac];rfl
theorem wit_self(n:Nat)(L:List bQ)(a to k s:Int):PO n L a to a k s=false:=by
 unfold PO;simp
theorem wit_walk{n:Nat}{L:List bQ}(hL:rP n L){a to c k s:Int}(ha:0<=a/\a<n)(ht:0<=to/\to<n)(h:PO n L a to c k s=true):∃d,d<=k/\fY L c a to d/\∀d',fY L c a to d'->d<=d':=by
 have hac:a≠c:=λe=>by subst e;rw[wit_self] at h;cases h
 obtain⟨i,d,_,h2,h3⟩:=(qx ha ht hac k s).1 h;exact⟨d,h3,(pF hL c ha.1 ha.2).1 (zF h2)⟩
end
section
def GH(n:Nat)(L:List bQ)(v:Int)(a b:bQ):Bool:=!decide (a.f=b.t) && !PO n L a.f b.t v (a.w+b.w) 30
def mG(n:Nat)(L:List bQ)(v:Int)(a:bQ)(bs:List bQ):List bQ:=(bs.filter (GH n L v a)).map λb=>⟨a.f,b.t,a.w+b.w,v⟩
def fV(n:Nat)(L:List bQ)(v:Int):List bQ:=(nJ L v).flatMap λa=>mG n L v a (dY L v)
def EX(n:Nat)(L:List bQ)(v:Int):Int:=(fV n L v).length-(nJ L v).length-(dY L v).length
def cB(gs:List Bool)(v:Nat):Bool:=gs.getD v false
def tU(n:Nat)(L:List bQ)(gs:List Bool)(z:Int×Int)(v:Nat):Int×Int:=
 if cB gs v then z else if z.1<0 then((v:Int),EX n L v) else if EX n L v<z.2 then((v:Int),EX n L v) else z
def lQ(n:Nat)(L:List bQ)(gs:List Bool)(k:Nat):Int×Int:=(List.range k).foldl (tU n L gs) (-1,0)
def kQ(n:Nat)(L:List bQ)(gs:List Bool):Int:=(lQ n L gs n).1
theorem NW(n:Nat)(L:List bQ)(gs:List Bool)(k:Nat):lQ n L gs (k+1)=tU n L gs (lQ n L gs k) k:=by
 unfold lQ;rw[List.range_succ,List.foldl_append];rfl
theorem Yj(n:Nat)(L:List bQ)(v:Int)(a:bQ)(bs:List bQ)(b:bQ):mG n L v a (bs++[b])=mG n L v a bs++(if GH n L v a b then [⟨a.f,b.t,a.w+b.w,v⟩] else []):=by
 unfold mG;rw[IQ,yQ];congr 1;simp only[KX,List.filter_nil]
 split<;>simp
theorem Hw(n:Nat)(L:List bQ)(v:Int)(a:bQ)(bs:List bQ):(mG n L v a bs).length<=bs.length:=by
 unfold mG;rw[oK];exact vU _ _
theorem Nm(n:Nat)(L:List bQ)(v:Int)(as_:List bQ):(as_.flatMap λa=>mG n L v a (dY L v)).length<=as_.length*(dY L v).length:=by
 induction as_ with
 |nil=>simp
 |cons a r ih=>
  have:=Hw n L v a (dY L v);simp only[EV,mJ,nQ];rw[Nat.add_mul];omega
theorem tQ{n:Nat}{L:List bQ}{v:Int}{x:bQ}:x∈fV n L v↔∃a∈nJ L v,∃b∈dY L v,GH n L v a b=true/\x=⟨a.f,b.t,a.w+b.w,v⟩:=by
 unfold fV;rw[List.mem_flatMap]
 constructor
 ·rintro⟨a,ha,hx⟩
  unfold mG at hx;obtain⟨b,hb,rfl⟩:=lK.1 hx;obtain⟨h1,h2⟩:=jE.1 hb;exact⟨a,ha,b,h1,h2,rfl⟩
 ·rintro⟨a,ha,b,hb,h,rfl⟩
  refine⟨a,ha,?_⟩;unfold mG;exact lK.2 ⟨b,jE.2 ⟨hb,h⟩,rfl⟩
theorem Nn{n:Nat}{L:List bQ}(hL:rP n L)(hn:n<=512)(v:Int):(fV n L v).length<=262144:=by
 have h1:=Nm n L v (nJ L v);have h2:=hL.FA v;have h3:=hL.uY v;have:(nJ L v).length*(dY L v).length<=512*512:=EU aB aB;unfold fV;omega
structure FirstOk(n:Nat)(L:List bQ)(gs:List Bool)(k:Nat)(z:Int×Int):Prop where
 none:z.1<0->z.1=-1/\∀v,v<k->cB gs v=true
 some:0<=z.1->z.1<k/\cB gs z.1.toNat=false/\z.2=EX n L z.1/\∀v,v<k->cB gs v=false->z.2<=EX n L v/\(EX n L v=z.2->z.1<=v)
theorem Xk(n:Nat)(L:List bQ)(gs:List Bool):∀k,FirstOk n L gs k (lQ n L gs k)
 |0=>⟨λ_=>⟨rfl,λv hv=>aB⟩,λh=>absurd h (by show¬((0:Int)<=-1);decide)⟩
 |k+1=>by
  have ih:=Xk n L gs k;rw[NW];generalize lQ n L gs k=z at*;unfold tU
  by_cases hg:cB gs k=true
  ·rw[if_pos hg]
   refine⟨λh=>⟨(ih.none h).1,λv hv=>?_⟩,λh=>?_⟩
   ·by_cases e:v=k
    ·rw[e];exact hg
    ·exact(ih.none h).2 v aB
   ·obtain⟨h1,h2,h3,h4⟩:=ih.some h
    refine⟨aB,h2,h3,λv hv bt=>?_⟩
    by_cases e:v=k
    ·rw[e,hg] at bt;cases bt
    ·exact h4 v aB bt
  ·rw[if_neg hg]
   have wu:cB gs k=false:=by simpa using hg
   by_cases h0:z.1<0
   ·rw[if_pos h0]
    refine⟨λh=>by simp only at h;omega,λ_=>⟨by simp only;omega,by simpa using wu,rfl,λv hv bt=>?_⟩⟩
    by_cases e:v=k
    ·subst e;exact⟨oX _,λ_=>oX _⟩
    ·rw[(ih.none h0).2 v aB] at bt;cases bt
   ·rw[if_neg h0]
    obtain⟨h1,h2,h3,h4⟩:=ih.some aB
    by_cases hw:EX n L k<z.2
    ·rw[if_pos hw]
     refine⟨λh=>by simp only at h;omega,λ_=>⟨by simp only;omega,by simpa using wu,rfl,λv hv bt=>?_⟩⟩
     by_cases e:v=k
     ·subst e;exact⟨oX _,λ_=>oX _⟩
     ·have:=(h4 v aB bt).1
      simp only;exact⟨aB,λe'=>aB⟩
    ·rw[if_neg hw]
     refine⟨λh=>absurd h h0,λ_=>⟨aB,h2,h3,λv hv bt=>?_⟩⟩
     by_cases e:v=k
     ·subst e;exact⟨aB,λ_=>aB⟩
     ·exact h4 v aB bt
theorem find_le{l:List bQ}{f t:Int}{x:bQ}(hs:BD l)(hx:x∈l)(hf:x.f=f)(ht:x.t=t):jJ l f t=some x:=by subst hf;subst ht;exact xV hs hx
theorem zj{m:Nat}{l:List bQ}(h:rP m l){a:bQ}(ha:ET m a):(∃y∈(uN m l a).1,y.f=a.f/\y.t=a.t/\y.w<=a.w)/\∀x∈l,∃y∈(uN m l a).1,y.f=x.f/\y.t=x.t/\y.w<=x.w:=by
 unfold uN;rw[if_pos ha];have KT:(∃y∈LO l a,y.f=a.f/\y.t=a.t/\y.w<=a.w):=⟨a,lY.2 (.inl rfl),rfl,rfl,oX _⟩;have old:∀x∈l,¬(x.f=a.f/\x.t=a.t)->∃y∈LO l a,y.f=x.f/\y.t=x.t/\y.w<=x.w:=λx hx hn=>⟨x,lY.2 (.inr ⟨hx,hn⟩),rfl,rfl,oX _⟩;cases hf:jJ l a.f a.t with
 |none=>exact⟨KT,λx hx=>old x hx (TR hf x hx)⟩
 |some z=>
  obtain⟨hz,z1,z2⟩:=qQ hf;simp only
  split
  ·exact⟨⟨z,hz,z1,z2,by assumption⟩,λx hx=>⟨x,hx,rfl,rfl,oX _⟩⟩
  ·refine⟨KT,λx hx=>?_⟩
   by_cases e:x.f=a.f/\x.t=a.t
   ·have:x=z:=by have:=find_le h.rN hx e.1 e.2;rw[hf] at this;exact(uO this).symm
    subst this;exact⟨a,lY.2 (.inl rfl),e.1.symm,e.2.symm,aB⟩
   ·exact old x hx e
theorem WY{m:Nat}:∀(xs:List bQ) {l:List bQ},rP m l->(∀a∈xs,ET m a)->∀x,x∈l\/x∈xs->∃y∈gP m l xs,y.f=x.f/\y.t=x.t/\y.w<=x.w
 | [],l,h,_,x,hx=>by
  rcases hx with hx|hx
  ·exact⟨x,hx,rfl,rfl,oX _⟩
  ·cases hx
 |a::xs,l,h,hm,x,hx=>by
  have hp:=zj h (hm a dK);have ih:=WY xs (VL h a) λb hb=>hm b (by simp[hb]);have step:(∃y∈(uN m l a).1,y.f=x.f/\y.t=x.t/\y.w<=x.w)\/x∈xs:=by
   rcases hx with hx|hx
   ·exact .inl (hp.2 x hx)
   ·rcases lL.1 hx with rfl|hx
    ·exact .inl hp.1
    ·exact .inr hx
  rcases step with⟨y,hy,e1,e2,e3⟩|hx
  ·obtain⟨z,hz,e4,e5,e6⟩:=ih y (.inl hy)
   exact⟨z,hz,e4.trans e1,e5.trans e2,Int.le_trans e6 e3⟩
  ·exact ih x (.inr hx)
theorem put_sub{m:Nat}{l:List bQ}{a x:bQ}(h:x∈(uN m l a).1):x∈l\/x=a:=by
 unfold uN at h
 split at h
 ·split at h
  ·split at h
   ·exact .inl h
   ·rcases lY.1 h with rfl|⟨h,_⟩
    ·exact .inr rfl
    ·exact .inl h
  ·rcases lY.1 h with rfl|⟨h,_⟩
   ·exact .inr rfl
   ·exact .inl h
 ·exact .inl h
theorem pC{m:Nat}:∀(xs:List bQ) {l:List bQ} {x:bQ},x∈gP m l xs->x∈l\/x∈xs
 | [],_,_,h=>.inl h
 |a::xs,l,x,h=>by
  rcases pC xs (l:=(uN m l a).1) h with h|h
  ·rcases put_sub h with h|rfl
   ·exact .inl h
   ·exact .inr dK
  ·exact .inr (by simp[h])
section
variable{n:Nat}{L:List bQ}(hL:rP n L){v:Int}(hw:∀e∈L,e.w<=549755813888)
include hL hw
theorem OK(hv0:0<=v)(db:v<n):∀x∈fV n L v,ET n x/\x.m=v/\x.f≠v/\x.t≠v:=by
 intro x hx;obtain⟨a,ha,b,hb,hn,rfl⟩:=tQ.1 hx;obtain⟨ha,Ua⟩:=iB.1 ha;obtain⟨hb,hbf⟩:=eJ.1 hb;obtain⟨a0,a1,a2,a3,a4,a5,a6,_⟩:=hL.vQ a ha;obtain⟨b0,b1,b2,b3,b4,b5,b6,_⟩:=hL.vQ b hb;have gF:a.f≠b.t:=by unfold GH at hn;simp at hn;exact hn.1
 have h1:=hw a ha;have h2:=hw b hb;have e1:a.f≠v:=aB;have e2:b.t≠v:=aB;exact⟨⟨a0,a1,b2,b3,gF,by show 1<=a.w+b.w;omega,by show a.w+b.w<=_;omega,.inr ⟨hv0,db,λe=>e1 e.symm,λe=>e2 e.symm⟩⟩,rfl,e1,e2⟩
theorem Xg(hv0:0<=v)(db:v<n){a b d:Int}(ha:a≠v)(h:fY L (-1) a b d):
  (b≠v->∃d',d'<=d/\fY (gP n (CV L v) (fV n L v)) (-1) a b d')/\(b=v->∃e∈nJ L v,∃d',fY (gP n (CV L v) (fV n L v)) (-1) a e.f d'/\d'+e.w<=d):=by
 have uF:=OK hL hw hv0 db;have hO:rP n (gP n (CV L v) (fV n L v)):=HD _ (hL.cut v);have light:=WY (fV n L v) (hL.cut v) λx hx=>(uF x hx).1;generalize gP n (CV L v) (fV n L v)=O at*;have arc:∀x,x∈CV L v\/x∈fV n L v->∀d,fY O (-1) a x.f d->∃d',d'<=d+x.w/\fY O (-1) a x.t d':=λx hx d hd=>by
  obtain⟨y,hy,e1,e2,e3⟩:=light x hx;have:=fY.gW y hd hy e1 (by have:=(hO.vQ y hy).2.2.1;omega);rw[e2] at this;exact⟨d+y.w,aB,this⟩
 have along:∀{p q d2:Int},fY (CV L v) (-1) p q d2->∀d1,fY O (-1) a p d1->∃d',d'<=d1+d2/\fY O (-1) a q d':=by
  intro p q d2 hpq
  induction hpq with
  |nil=>intro d1 h1;exact⟨d1,aB,h1⟩
  |gW e _ he hf _ ih=>
   intro d1 h1;obtain⟨d',hd',hw'⟩:=ih d1 h1;rw[<-hf] at hw';obtain⟨d'',h2,h3⟩:=arc e (.inl he) d' hw';exact⟨d'',aB,h3⟩
 induction h with
 |nil=>exact⟨λ_=>⟨0,oX _,.nil⟩,λe=>absurd e ha⟩
 | @gW x d e h he hf ht ih=>
  have heft:=(hL.vQ e he).2.2.2.2.1;refine⟨λhbv=>?_,λhbv=>?_⟩
  ·by_cases hfv:e.f=v
   ·--iH the number itself
    obtain⟨e1,he1,d1,Tv,hd1⟩:=ih.2 (hf.symm.trans hfv);obtain⟨he1L,he1t⟩:=iB.1 he1
    by_cases qh:e1.f=e.t
    ·rw[qh] at Tv
     have:=(hL.vQ e he).2.2.2.2.2.1;have:=(hL.vQ e1 he1L).2.2.2.2.2.1;exact⟨d1,aB,Tv⟩
    ·have hout:e∈dY L v:=eJ.2 ⟨he,hfv⟩
     obtain⟨b0,b1,b2,b3,_⟩:=hL.vQ e he;obtain⟨c0,c1,c2,c3,c4,_⟩:=hL.vQ e1 he1L;cases hwit:PO n L e1.f e.t v (e1.w+e.w) 30 with
     |true=>
      obtain⟨d2,hd2,hw2,_⟩:=wit_walk hL ⟨c0,c1⟩ ⟨b2,b3⟩ hwit;have hw3:=(walk_cut hL aB).2 hw2;obtain⟨d',h1,h2⟩:=along hw3 d1 Tv;exact⟨d',aB,h2⟩
     |false=>
      have Fw:GH n L v e1 e=true:=by unfold GH;rw[hwit];simp[qh]
      obtain⟨d',h1,h2⟩:=arc ⟨e1.f,e.t,e1.w+e.w,v⟩ (.inr (tQ.2 ⟨e1,he1,e,hout,Fw,rfl⟩)) d1 Tv;refine⟨d',?_,h2⟩;have:d'<=d1+(e1.w+e.w):=h1;omega
   ·obtain⟨d1,hd1,Tv⟩:=ih.1 (λe'=>hfv (hf.trans e'))
    rw[<-hf] at Tv;obtain⟨d',h1,h2⟩:=arc e (.inl (pL.2 ⟨he,hfv,hbv⟩)) d1 Tv;exact⟨d',aB,h2⟩
  ·have hfv:e.f≠v:=aB
   obtain⟨d1,hd1,Tv⟩:=ih.1 (λe'=>hfv (hf.trans e'));rw[<-hf] at Tv;exact⟨e,iB.2 ⟨he,hbv⟩,d1,Tv,aB⟩
end
end
structure Bld where
 left:List bQ
 all:List bQ
 gone:List Bool
 jA:List Int
def pB(n:Nat)(k:Nat)(z:Bld):Bld:=
 ⟨CV (gP n z.left (fV n z.left (kQ n z.left z.gone))) (kQ n z.left z.gone),gP n z.all (fV n z.left (kQ n z.left z.gone)),z.gone.set (kQ n z.left z.gone).toNat true,z.jA.set (kQ n z.left z.gone).toNat (k:Int)⟩
def cZ(n:Nat)(L:List bQ):Nat->Bld
 |0=>⟨L,L,List.replicate n false,List.replicate n 0⟩
 |k+1=>pB n k (cZ n L k)
def uU(gs:List Bool):Nat:=(gs.filter λb=>b).length
theorem Nz:∀{gs:List Bool} {i:Nat},gs[i]? =some false->uU (gs.set i true)=uU gs+1
 | [],i,h=>by simp at h
 |b::gs,0,h=>by simp at h;subst h;simp[uU]
 |b::gs,i+1,h=>by
  simp at h;have ih:=Nz (i:=i) h;simp only[List.set_cons_succ,uU,KX] at ih ⊢
  split
  ·simp only[nQ];omega
  ·exact ih
theorem kh{gs:List Bool}(h:uU gs<gs.length):∃v,v<gs.length/\cB gs v=false:=by
 induction gs with
 |nil=>simp at h
 |cons b gs ih=>
  cases b with
  |false=>exact⟨0,by simp,rfl⟩
  |true=>
   have:uU gs<gs.length:=by simp[uU] at h ⊢;omega
   obtain⟨v,h1,h2⟩:=ih this;exact⟨v+1,by simpa using h1,by unfold cB at h2 ⊢;simpa using h2⟩
theorem JN{gs:List Bool}{i:Nat}(hi:i<gs.length)(v:Nat):cB (gs.set i true) v=(decide (v=i) ||cB gs v):=by
 unfold cB;simp only[LN,vR]
 by_cases e:v=i
 ·subst e;simp[hi]
 ·rw[if_neg (λh=>e h.symm)];simp[e]
theorem XC{l:List bQ}{p:bQ->Bool}{f t:Int}(hp:∀x∈l,x.f=f->x.t=t->p x=true):jJ (l.filter p) f t=jJ l f t:=by
 unfold jJ
 induction l with
 |nil=>rfl
 |cons a l ih=>
  have ih':=ih λx hx=>hp x (by simp[hx]);simp only[KX]
  by_cases hpa:p a=true
  ·rw[if_pos hpa]
   simp only[List.find?_cons]
   split
   ·rfl
   ·exact ih'
  ·rw[if_neg hpa,ih']
   simp only[List.find?_cons];have:(decide (a.f=f) && decide (a.t=t))=false:=by
    by_cases e1:a.f=f<;>by_cases e2:a.t=t<;>simp[e1,e2]
    exact hpa (hp a dK e1 e2)
   rw[this]
theorem Ob{n:Nat}{l:List bQ}(h:rP n l)(a:bQ)(f t:Int):jJ (uN n l a).1 f t=
  if ET n a/\f=a.f/\t=a.t/\(match jJ l f t with|some x=>decide (x.w<=a.w)|none=>false)=false then some a else jJ l f t:=by
 have KT:∀f t,jJ (LO l a) f t=if f=a.f/\t=a.t then some a else jJ l f t:=λf t=>by
  have hs:=h.rN.KT a
  by_cases e:f=a.f/\t=a.t
  ·rw[if_pos e,e.1,e.2]
   exact xV hs (lY.2 (.inl rfl))
  ·rw[if_neg e]
   cases hx:jJ l f t with
   |none=>
    have hn:=TR hx;cases hy:jJ (LO l a) f t with
    |none=>rfl
    |some y=>
     obtain⟨hm,h1,h2⟩:=qQ hy;rcases lY.1 hm with rfl|⟨hm,_⟩
     ·exact absurd ⟨h1.symm,h2.symm⟩ e
     ·exact absurd ⟨h1,h2⟩ (hn y hm)
   |some x=>
    obtain⟨hm,h1,h2⟩:=qQ hx;have wh:x∈LO l a:=lY.2 (.inr ⟨hm,λe'=>e ⟨h1.symm.trans e'.1,h2.symm.trans e'.2⟩⟩);have:=xV hs wh;rwa[h1,h2] at this
 unfold uN
 by_cases hm:ET n a
 ·rw[if_pos hm]
  cases hf:jJ l a.f a.t with
  |none=>
   simp only;rw[KT]
   by_cases e:f=a.f/\t=a.t
   ·rw[if_pos e,if_pos ⟨hm,e.1,e.2,by rw[e.1,e.2,hf]⟩]
   ·rw[if_neg e,if_neg (λe'=>e ⟨e'.2.1,e'.2.2.1⟩)]
  |some x=>
   simp only
   by_cases hw:x.w<=a.w
   ·rw[if_pos hw]
    rw[if_neg];rintro⟨_,e1,e2,e3⟩;rw[e1,e2,hf] at e3;simp at e3;omega
   ·rw[if_neg hw,KT]
    by_cases e:f=a.f/\t=a.t
    ·rw[if_pos e,if_pos ⟨hm,e.1,e.2,by rw[e.1,e.2,hf];simpa using hw⟩]
    ·rw[if_neg e,if_neg (λe'=>e ⟨e'.2.1,e'.2.2.1⟩)]
 ·rw[if_neg hm,if_neg (λe=>hm e.1)]
theorem vM{n:Nat}:∀(xs:List bQ) {l m:List bQ},rP n l->rP n m->∀f t,jJ l f t=jJ m f t->jJ (gP n l xs) f t=jJ (gP n m xs) f t
 | [],_,_,_,_,_,_,h=>h
 |a::xs,l,m,hl,hm,f,t,h=>by
  show jJ (gP n (uN n l a).1 xs) f t=jJ (gP n (uN n m a).1 xs) f t;refine vM xs (VL hl a) (VL hm a) f t ?_;rw[Ob hl,Ob hm,h]
structure Lq(n:Nat)(k:Nat)(z:Bld):Prop where
 Eg:rP n z.left
 oka:rP n z.all
 gl:z.gone.length=n
 rl:z.jA.length=n
 YE:uU z.gone=k
 wl:∀e∈z.left,e.w<=549755813888
 wa:∀e∈z.all,e.w<=549755813888
 lg:∀e∈z.left,cB z.gone e.f.toNat=false/\cB z.gone e.t.toNat=false
 same:∀f t:Int,0<=f->0<=t->cB z.gone f.toNat=false->cB z.gone t.toNat=false->jJ z.all f t=jJ z.left f t
 rk:∀v:Nat,v<n->cB z.gone v=true->0<=z.jA.getD v 0/\z.jA.getD v 0<k
 inj:∀v w:Nat,v<n->w<n->cB z.gone v=true->cB z.gone w=true->z.jA.getD v 0=z.jA.getD w 0->v=w
theorem AK{n k:Nat}{z:Bld}(h:Lq n k z)(hk:k<n):0<=kQ n z.left z.gone/\kQ n z.left z.gone<n/\cB z.gone (kQ n z.left z.gone).toNat=false:=by
 have hf:=Xk n z.left z.gone n;obtain⟨v,h1,h2⟩:=kh (gs:=z.gone) (by rw[h.YE,h.gl];exact hk);have:0<=(lQ n z.left z.gone n).1:=by
  rcases Int.lt_or_le (lQ n z.left z.gone n).1 0 with h'|h'
  ·have:=(hf.none h').2 v (by rw[<-h.gl];exact h1)
   rw[h2] at this;cases this
  ·exact h'
 obtain⟨a,b,_⟩:=hf.some this;exact⟨this,a,b⟩
theorem MS{l:List Int}{i:Nat}(hi:i<l.length)(x:Int)(v:Nat):(l.set i x).getD v 0=if v=i then x else l.getD v 0:=by
 simp only[LN,vR]
 by_cases e:v=i
 ·subst e;simp[hi]
 ·rw[if_neg (λh=>e h.symm),if_neg e]
theorem aAn{n:Nat}{L:List bQ}(hL:rP n L)(hw:∀e∈L,e.w<=40):Lq n 0 (cZ n L 0):=by
 have g0:∀v,cB (List.replicate n false) v=false:=λv=>by unfold cB;rw[LN,Et];split<;>rfl
 refine⟨hL,hL,by simp[cZ],by simp[cZ],?_,λe he=>by have:=hw e he;omega,λe he=>by have:=hw e he;omega,λe _=>⟨g0 _,g0 _⟩,λ_ _ _ _ _ _=>rfl,λv _ hv=>?_,λv w _ _ hv=>?_⟩
 ·show uU (List.replicate n false)=0
  unfold uU;rw[List.filter_eq_nil_iff.2 λb hb=>by rw[(List.mem_replicate.1 hb).2];simp];rfl
 ·rw[show(cZ n L 0).gone=List.replicate n false from rfl,g0] at hv;cases hv
 ·rw[show(cZ n L 0).gone=List.replicate n false from rfl,g0] at hv;cases hv
theorem bld_step{n k:Nat}{z:Bld}(h:Lq n k z)(hk:k<n)(sw:∀x∈fV n z.left (kQ n z.left z.gone),x.w<=549755813888):Lq n (k+1) (pB n k z):=by
 obtain⟨v0,v1,vg⟩:=AK h hk;unfold pB;generalize kQ n z.left z.gone=v at*;have cJ:v.toNat<z.gone.length:=by rw[h.gl];omega
 have fm:v.toNat<z.jA.length:=by rw[h.rl];omega
 have Lk:=JN cJ;have okp:=HD (n:=n) (fV n z.left v) h.Eg;have sg:∀x∈fV n z.left v,cB z.gone x.f.toNat=false/\cB z.gone x.t.toNat=false:=λx hx=>by
  obtain⟨a,ha,b,hb,_,rfl⟩:=tQ.1 hx;exact⟨(h.lg a (iB.1 ha).1).1,(h.lg b (eJ.1 hb).1).2⟩
 refine⟨okp.cut v,HD _ h.oka,by simp[h.gl],by simp[h.rl],?_,λe he=>?_,λe he=>?_,λe he=>?_,λf t hf0 ht0 hf ht=>?_,λu hu hg=>?_,λu w hu hw hgu hgw e=>?_⟩
 ·have cV:z.gone[v.toNat]? =some false:=by
   unfold cB at vg;rw[LN,gS cJ] at vg;rw[gS cJ];simpa using vg
  show uU (z.gone.set v.toNat true)=k+1;rw[Nz cV,h.YE]
 ·rcases pC _ (pL.1 he).1 with h'|h'
  ·exact h.wl e h'
  ·exact sw e h'
 ·rcases pC _ he with h'|h'
  ·exact h.wa e h'
  ·exact sw e h'
 ·obtain⟨he,ne1,ne2⟩:=pL.1 he
  have hm:=okp.vQ e he;have hg:cB z.gone e.f.toNat=false/\cB z.gone e.t.toNat=false:=by
   rcases pC _ he with h'|h'
   ·exact h.lg e h'
   ·exact sg e h'
  show cB (z.gone.set v.toNat true) _=false/\cB (z.gone.set v.toNat true) _=false;rw[Lk,Lk,hg.1,hg.2];have:=hm.1;have:=hm.2.2.1
  constructor<;>simp<;>omega
 ·replace hf:cB (z.gone.set v.toNat true) f.toNat=false:=hf
  replace ht:cB (z.gone.set v.toNat true) t.toNat=false:=ht
  rw[Lk] at hf ht;simp at hf ht;show jJ (gP n z.all _) f t=jJ (CV (gP n z.left _) v) f t;have e1:=vM (fV n z.left v) h.oka h.Eg f t (h.same f t hf0 ht0 hf.2 ht.2);have e2:jJ (CV (gP n z.left (fV n z.left v)) v) f t=jJ (gP n z.left (fV n z.left v)) f t:=XC λx _ e3 e4=>by
   simp only[tC,decide_eq_true_eq];exact⟨λe=>hf.1 (by rw[<-e3,e]),λe=>ht.1 (by rw[<-e4,e])⟩
  rw[e1,e2]
 ·replace hg:cB (z.gone.set v.toNat true) u=true:=hg
  show 0<=(z.jA.set v.toNat (k:Int)).getD u 0/\(z.jA.set v.toNat (k:Int)).getD u 0<((k+1:Nat):Int);rw[Lk] at hg;rw[MS fm]
  by_cases e:u=v.toNat
  ·rw[if_pos e];omega
  ·rw[if_neg e]
   simp[e] at hg;have:=h.rk u hu hg;omega
 ·replace hgu:cB (z.gone.set v.toNat true) u=true:=hgu
  replace hgw:cB (z.gone.set v.toNat true) w=true:=hgw
  replace e:(z.jA.set v.toNat (k:Int)).getD u 0=(z.jA.set v.toNat (k:Int)).getD w 0:=e
  rw[Lk] at hgu hgw;rw[MS fm,MS fm] at e
  by_cases e1:u=v.toNat<;>by_cases e2:w=v.toNat
  ·rw[e1,e2]
  ·rw[if_pos e1,if_neg e2] at e
   simp[e2] at hgw;have:=h.rk w hw hgw;omega
  ·rw[if_neg e1,if_pos e2] at e
   simp[e1] at hgu;have:=h.rk u hu hgu;omega
  ·rw[if_neg e1,if_neg e2] at e
   simp[e1] at hgu;simp[e2] at hgw;exact h.inj u w hu hw hgu hgw e
theorem VS{n:Nat}{z:Bld}(h:Lq n n z)(v:Nat)(hv:v<n):cB z.gone v=true:=by
 cases hg:cB z.gone v with
 |true=>rfl
 |false=>
  have key:∀(gs:List Bool) (v:Nat),v<gs.length->cB gs v=false->uU gs<gs.length:=by
   intro gs
   induction gs with
   |nil=>intro v hv;simp at hv
   |cons b gs ih=>
    intro v hv hg;have IL:uU gs<=gs.length:=vU _ _;cases b with
    |false=>simp[uU] at IL ⊢;omega
    |true=>
     cases v with
     |zero=>simp[cB] at hg
     |succ v=>
      have:=ih v (by simpa using hv) (by unfold cB at hg ⊢;simpa using hg);simp[uU] at this ⊢;omega
  have:=key z.gone v (by rw[h.gl];exact hv) hg;rw[h.YE,h.gl] at this;omega
section
theorem Hb{n k:Nat}{z:Bld}(h:Lq n k z){y:bQ}(hy:y∈z.left):y∈z.all:=by
 obtain⟨g1,g2⟩:=h.lg y hy;have hm:=h.Eg.vQ y hy;have e:=h.same y.f y.t hm.1 hm.2.2.1 g1 g2;rw[xV h.Eg.rN hy] at e;exact(qQ e).1
theorem ud{n:Nat}{L:List bQ}(hL:rP n L){v:Int}{xs:List bQ}(hx:∀x∈xs,x.f≠v/\x.t≠v):∀y∈gP n (CV L v) xs,y∈CV (gP n L xs) v:=by
 intro y hy;have kH:=HD (n:=n) xs (hL.cut v);have gF:y.f≠v/\y.t≠v:=by
  rcases pC _ hy with h|h
  ·exact(pL.1 h).2
  ·exact hx y h
 have e1:jJ (CV L v) y.f y.t=jJ L y.f y.t:=XC λx _ e3 e4=>by
  simp only[tC,decide_eq_true_eq];exact⟨λe=>gF.1 (by rw[<-e3,e]),λe=>gF.2 (by rw[<-e4,e])⟩
 have e2:=vM xs (hL.cut v) hL y.f y.t e1;rw[xV kH.rN hy] at e2;exact pL.2 ⟨(qQ e2.symm).1,gF⟩
theorem jo{L:List bQ}{a b d c:Int}(h:fY L (-1) a b d)(hac:a≠c):(b≠c/\fY L c a b d)\/∃d1 d2,fY L (-1) a c d1/\fY L (-1) c b d2/\d1+d2=d:=by
 induction h with
 |nil=>exact .inl ⟨hac,.nil⟩
 | @gW x d e h he hf ht ih=>
  by_cases hc:e.t=c
  ·refine .inr ⟨d+e.w,0,?_,?_,aB⟩
   ·have:=fY.gW e h he hf ht
    rwa[hc] at this
   ·rw[hc];exact .nil
  ·rcases ih with⟨_,h1⟩|⟨d1,d2,h1,h2,h3⟩
   ·exact .inl ⟨hc,.gW e h1 he hf hc⟩
   ·exact .inr ⟨d1,d2+e.w,h1,.gW e h2 he hf ht,aB⟩
theorem fY.one_le{m:Nat}{L:List bQ}(hL:rP m L){c a v d:Int}(h:fY L c a v d)(gF:a≠v):1<=d:=by
 cases h with
 |nil=>exact absurd rfl gF
 |gW e h he _ _=>have:=(hL.vQ e he).2.2.2.2.2.1;have:=h.pos hL;omega
def below(s:List It)(d:Int):Nat:=(s.filter λx=>decide (x.key<d)).length
theorem below_lt{s:List It}{x:It}(hx:x∈s){d:Int}(h:x.key<d):below s x.key+1<=below s d:=by
 induction s with
 |nil=>cases hx
 |cons y s ih=>
  have mono:∀s:List It,below s x.key<=below s d:=λs=>by
   induction s with
   |nil=>exact iT _
   |cons z s ih=>
    unfold below at ih ⊢;simp only[KX]
    by_cases h1:z.key<x.key
    ·have h2:z.key<d:=aB
     simp[h1,h2];exact ih
    ·by_cases h2:z.key<d
     ·simp[h1,h2];omega
     ·simp[h1,h2];exact ih
  rcases lL.1 hx with rfl|hx
  ·have:=mono s
   unfold below at this ⊢;simp only[KX];simp[h];omega
  ·have:=ih hx
   unfold below at this ⊢;simp only[KX]
   by_cases h1:y.key<x.key
   ·have h2:y.key<d:=aB
    simp[h1,h2];exact this
   ·by_cases h2:y.key<d
    ·simp[h1,h2];omega
    ·simp[h1,h2];exact this
section
variable{m:Nat}{L:List bQ}(hL:rP m L){W:Int}(hW:∀e∈L,e.w<=W)(hW0:0<=W){a:Int}(ha:0<=a)(pH:a<m)
include hL hW hW0 ha pH
theorem QZ:∀(k:Nat) {v d:Int},d.toNat<=k->(⟨v,d⟩:It)∈eE m L (-1) a->d<=(below (eE m L (-1) a) d:Int)*W
 |k,v,d,hk,h=>by
  obtain⟨hw,fk⟩:=(pF hL (-1) ha pH).1 h;cases hw with
  |nil=>exact Int.mul_nonneg aB hW0
  | @gW x d0 e h0 he hf ht=>
   have hew:=(hL.vQ e he).2.2.2.2.2.1;have hd0:=h0.pos hL;have hs:(⟨x,d0⟩:It)∈eE m L (-1) a:=(pF hL (-1) ha pH).2 ⟨h0,λd' hd'=>by have:=fk (d'+e.w) (.gW e hd' he hf ht);omega⟩;obtain⟨k',rfl⟩:∃k',k=k'+1:=⟨k-1,aB⟩;have ih:=QZ k' aB hs;have hb:=below_lt hs (d:=d0+e.w) (by show d0<d0+e.w;omega);have bW:(below (eE m L (-1) a) d0:Int)+1<=(below (eE m L (-1) a) (d0+e.w):Int):=by
    have:below (eE m L (-1) a) d0+1<=below (eE m L (-1) a) (d0+e.w):=hb;omega
   have h1:=Int.mul_le_mul_of_nonneg_right bW hW0;rw[Int.add_mul,Int.one_mul] at h1;have:=hW e he;omega
theorem jt{b d:Int}(h:fY L (-1) a b d):∃d',d'<=d/\fY L (-1) a b d'/\d'<=(m:Int)*W:=by
 obtain⟨k,hk,hs⟩:=QY hL (-1) ha pH h;refine⟨k,hk,((pF hL (-1) ha pH).1 hs).1,?_⟩;have h1:=QZ hL hW hW0 ha pH k.toNat (iT _) hs;have h2:below (eE m L (-1) a) k<=m:=iF (vU _ _) (ND hL (-1) ha pH);have h3:=Int.mul_le_mul_of_nonneg_right (show(below (eE m L (-1) a) k:Int)<=(m:Int) by omega) hW0;omega
end
theorem Bc:∀gs:List Bool,((List.range gs.length).filter λv=>cB gs v).length=uU gs
 | []=>rfl
 |b::gs=>by
  have ih:=Bc gs;rw[nQ,List.range_succ_eq_map,KX,List.filter_map];have e:((λv=>cB (b::gs) v) ∘ Nat.succ)=λv=>cB gs v:=by funext v;simp[cB]
  rw[e];cases b with
  |true=>
   have:cB (true::gs) 0=true:=by simp[cB]
   rw[this];simp[uU] at ih ⊢;exact ih
  |false=>
   have:cB (false::gs) 0=false:=by simp[cB]
   rw[this];simp[uU] at ih ⊢;exact ih
theorem Yl{m:Nat}{L:List bQ}(hL:rP m L){c a:Int}(ha:0<=a)(pH:a<m){gs:List Bool}(hg:gs.length=m)(hx:∀x∈eE m L c a,cB gs x.id.toNat=false):
  (eE m L c a).length+uU gs<=m:=by
 have bp:=(wZ hL c ha pH m).De;have IM:∀x∈eE m L c a,0<=x.id/\x.id<m:=λx hx=>(Ym hL c ha pH hx).2.2;have key:=wJ (m:=m) (l:=(eE m L c a).map (·.id)++((List.range gs.length).filter λv=>cB gs v).map λv:Nat=>(v:Int)) ?_ ?_
 ·rw[mJ,oK,oK,Bc] at key;exact key
 ·rw[List.nodup_append]
  refine⟨bp,?_,?_⟩
  ·rw[List.Nodup,List.pairwise_map]
   exact List.Pairwise.imp (λ{x y:Nat} (h:x<y) (e:(x:Int)=(y:Int))=>aB) (RS _ (List.pairwise_lt_range (n:=gs.length)))
  ·intro x Db y hy e
   obtain⟨x',Bt,rfl⟩:=lK.1 Db;obtain⟨y',Tu,rfl⟩:=lK.1 hy;have h1:=hx x' Bt;have h2:=(jE.1 Tu).2;rw[e,kE,h2] at h1;cases h1
 ·intro x Db
  rcases jK.1 Db with h|h
  ·obtain⟨x',Bt,rfl⟩:=lK.1 h
   exact IM x' Bt
  ·obtain⟨y',Tu,rfl⟩:=lK.1 h
   have:=List.mem_range.1 (jE.1 Tu).1;omega
theorem wit_few{n:Nat}{L:List bQ}(hL:rP n L){a to c k:Int}{s:Nat}(ha:0<=a/\a<n)(ht:0<=to/\to<n)(hac:a≠c){d:Int}(hw:fY L c a to d)(hd:d<=k)(hs:(eE n L c a).length<=s):PO n L a to c k s=true:=by
 obtain⟨e,he,hm⟩:=QY hL c ha.1 ha.2 hw;obtain⟨i,hi⟩:=oL.1 hm;have h2:=(kU.1 hi).1;exact(qx ha ht hac k s).2 ⟨i,e,aB,hi,aB⟩
structure BRat(n:Nat)(L:List bQ)(k:Nat)(z:Bld):Prop where
 abs:k<=21->∀e∈z.left,e.w<=40*2^k
 rat:∀e∈z.left,∀d,fY L (-1) e.f e.t d->e.w<=83886080*d
 aN:∀a b d:Int,fY L (-1) a b d->0<=a->0<=b->cB z.gone a.toNat=false->cB z.gone b.toNat=false->∃d',d'<=d/\fY z.left (-1) a b d'
 dL:∀e∈z.left,fY L (-1) e.f e.t e.w
theorem zh{n:Nat}{L:List bQ}(hL:rP n L)(hw:∀e∈L,e.w<=40):BRat n L 0 (cZ n L 0):=by
 refine⟨λ_ e he=>by have:=hw e he;omega,λe he d hd=>?_,λa b d h _ _ _ _=>⟨d,oX _,h⟩,λe he=>?_⟩
 ·have hm:=hL.vQ e he
  have h1:=hd.one_le hL (λe'=>hm.2.2.2.2.1 e');have:=hw e he;omega
 ·have:=fY.gW (a:=e.f) e (.nil (L:=L) (c:=-1)) he rfl (by have:=(hL.vQ e he).2.2.1;omega)
  rwa[Int.zero_add] at this
theorem pow21{k:Nat}(h:k<=21):(40*2^k:Int)<=83886080:=by
 have:(2^k:Nat)<=2^21:=Nat.pow_le_pow_right (by decide) h;have e:((2^k:Nat):Int)=(2^k:Int):=by simp
 omega
theorem rat_step{n k:Nat}{L:List bQ}{z:Bld}(hL:rP n L)(hw:∀e∈L,e.w<=40)(hn:n<=51)(h:Lq n k z)(r:BRat n L k z)(hk:k<n):
  (∀x∈fV n z.left (kQ n z.left z.gone),x.w<=549755813888)/\BRat n L (k+1) (pB n k z):=by
 obtain⟨v0,v1,vg⟩:=AK h hk;have uF:=OK h.Eg (v:=kQ n z.left z.gone) h.wl v0 v1;unfold pB;generalize kQ n z.left z.gone=v at*;have cJ:v.toNat<z.gone.length:=by rw[h.gl];omega
 have Lk:=JN cJ;have hback:∀{a b d:Int},fY z.left (-1) a b d->fY L (-1) a b d:=λ{a b d} hh=>by
  induction hh with
  |nil=>exact .nil
  |gW y _ hy hf _ ih=>rw[<-hf] at ih;exact ih.trans (r.dL y hy)
 have sabs:k+1<=21->∀x∈fV n z.left v,x.w<=40*2^(k+1):=λQB x hx=>by
  obtain⟨p,hp,q,hq,_,rfl⟩:=tQ.1 hx;have h1:=r.abs aB p (iB.1 hp).1;have h2:=r.abs aB q (eJ.1 hq).1;show p.w+q.w<=_;omega
 have sback:∀x∈fV n z.left v,fY L (-1) x.f x.t x.w:=λx hx=>by
  obtain⟨p,hp,q,hq,_,rfl⟩:=tQ.1 hx;obtain⟨hpL,hpt⟩:=iB.1 hp;obtain⟨hqL,hqf⟩:=eJ.1 hq;have w1:=r.dL p hpL;have w2:=r.dL q hqL;rw[hpt] at w1;rw[hqf] at w2;exact w1.trans w2
 have srat:∀x∈fV n z.left v,∀d,fY L (-1) x.f x.t d->x.w<=83886080*d:=λx hx d hd=>by
  have hxm:=(uF x hx).1;have hd1:=hd.one_le hL (λe'=>hxm.2.2.2.2.1 e')
  by_cases QB:k+1<=21
  ·have h1:=sabs QB x hx
   have h2:=pow21 QB;omega
  ·obtain⟨p,hp,q,hq,Fw,rfl⟩:=tQ.1 hx
   obtain⟨hpL,hpt⟩:=iB.1 hp;obtain⟨hqL,hqf⟩:=eJ.1 hq;have mp:=h.Eg.vQ p hpL;have mq:=h.Eg.vQ q hqL;have gp:=(h.lg p hpL).1;have gq:=(h.lg q hqL).2;show p.w+q.w<=83886080*d;obtain⟨d',hd',wl⟩:=r.aN p.f q.t d hd mp.1 mq.2.2.1 gp gq;rcases Int.lt_or_le (p.w+q.w) d' with FY|IL
   ·omega
   ·have hpv:p.f≠v:=by have:=mp.2.2.2.2.1;omega
    rcases jo wl hpv with⟨_,hc⟩|⟨d1,d2,h1,h2,h3⟩
    ·have few:=Yl h.Eg (c:=v) mp.1 mp.2.1 h.gl λy hy=>by
      have hwy:=((pF h.Eg v mp.1 mp.2.1).1 (show(⟨y.id,y.key⟩:It)∈_ from hy)).1;generalize y.key=dk at hwy;generalize y.id=iy at hwy ⊢;cases hwy with
      |nil=>exact gp
      |gW e _ he _ _=>exact(h.lg e he).2
     rw[h.YE] at few;have hwit:=wit_few (s:=30) h.Eg ⟨mp.1,mp.2.1⟩ ⟨mq.2.2.1,mq.2.2.2.1⟩ hpv hc IL aB;unfold GH at Fw;have hwit':PO n z.left p.f q.t v (p.w+q.w) 30=true:=hwit;rw[hwit'] at Fw;simp at Fw
    ·have r1:=r.rat p hpL d1 (by rw[hpt];exact hback h1)
     have r2:=r.rat q hqL d2 (by rw[hqf];exact hback h2);omega
 refine⟨λx hx=>?_,λQB e he=>?_,λe he d hd=>?_,λa b d hd a0 b0 ag bg=>?_,λe he=>?_⟩
 ·have hxm:=(uF x hx).1
  obtain⟨d',_,hd',hb⟩:=jt hL hw (by decide) hxm.1 hxm.2.1 (sback x hx);have:=srat x hx d' hd';omega
 ·rcases pC _ (pL.1 he).1 with h'|h'
  ·have:=r.abs aB e h'
   have:=(h.Eg.vQ e h').2.2.2.2.2.1;omega
  ·exact sabs QB e h'
 ·rcases pC _ (pL.1 he).1 with h'|h'
  ·exact r.rat e h' d hd
  ·exact srat e h' d hd
 ·replace ag:cB (z.gone.set v.toNat true) a.toNat=false:=ag
  replace bg:cB (z.gone.set v.toNat true) b.toNat=false:=bg
  rw[Lk] at ag bg;simp at ag bg;obtain⟨d1,h1,w1⟩:=r.aN a b d hd a0 b0 ag.2 bg.2;obtain⟨d2,h2,w2⟩:=(Xg h.Eg h.wl v0 v1 (λe=>ag.1 (by rw[e])) w1).1 (λe=>bg.1 (by rw[e]));exact⟨d2,aB,w2.mono λe he gF=>⟨ud h.Eg (λx hx=>⟨(uF x hx).2.2.1,(uF x hx).2.2.2⟩) e he,gF⟩⟩
 ·rcases pC _ (pL.1 he).1 with h'|h'
  ·exact r.dL e h'
  ·exact sback e h'
theorem Xq{n:Nat}{L:List bQ}(hL:rP n L)(hw:∀e∈L,e.w<=40)(hn:n<=51):∀k,k<=n->Lq n k (cZ n L k)/\BRat n L k (cZ n L k)
 |0,_=>⟨aAn hL hw,zh hL hw⟩
 |k+1,h=>by
  obtain⟨h1,h2⟩:=Xq hL hw hn k aB;obtain⟨h3,h4⟩:=rat_step hL hw hn h1 h2 aB;exact⟨bld_step h1 aB h3,h4⟩
theorem xA{n:Nat}{L:List bQ}(hL:rP n L)(hw:∀e∈L,e.w<=40)(hn:n<=51)(k:Nat)(h:k<=n):Lq n k (cZ n L k):=(Xq hL hw hn k h).1
end
section
theorem put_keep{n:Nat}{l:List bQ}(h:rP n l){a y:bQ}(hy:y∈l)(gF:¬(y.f=a.f/\y.t=a.t)):y∈(uN n l a).1:=by
 unfold uN
 split
 ·split
  ·split
   ·exact hy
   ·exact lY.2 (.inr ⟨hy,gF⟩)
  ·exact lY.2 (.inr ⟨hy,gF⟩)
 ·exact hy
theorem Az{n:Nat}:∀(xs:List bQ) {l:List bQ},rP n l->∀y∈l,(∀a∈xs,¬(y.f=a.f/\y.t=a.t))->y∈gP n l xs
 | [],_,_,_,hy,_=>hy
 |a::xs,_,h,y,hy,hn=>Az xs (VL h a) y (put_keep h hy (hn a dK)) λb hb=>hn b (by simp[hb])
structure BOwn(n:Nat)(L:List bQ)(k:Nat)(z:Bld):Prop where
 gN:∀y∈z.all,y.m<0->y∈L
 light:∀e∈L,∃y∈z.all,y.f=e.f/\y.t=e.t/\y.w<=e.w
 half:∀e∈z.all,0<=e.m->cB z.gone e.m.toNat=true/\(∃a∈z.all,∃b∈z.all,a.f=e.f/\a.t=e.m/\b.f=e.m/\b.t=e.t/\a.w+b.w=e.w)/\
  (cB z.gone e.f.toNat=true->z.jA.getD e.m.toNat 0<z.jA.getD e.f.toNat 0)/\(cB z.gone e.t.toNat=true->z.jA.getD e.m.toNat 0<z.jA.getD e.t.toNat 0)
section
variable{n k:Nat}{L:List bQ}{z:Bld}
theorem Nj(h:Lq n k z)(hk:k<n){y:bQ}(hy:y∈z.all)
  (hg:cB z.gone y.f.toNat=true\/cB z.gone y.t.toNat=true\/y.f=kQ n z.left z.gone\/y.t=kQ n z.left z.gone):y∈(pB n k z).all:=by
 obtain⟨v0,v1,vg⟩:=AK h hk;unfold pB;generalize kQ n z.left z.gone=v at*;have hm:=OK h.Eg (v:=v) h.wl v0 v1;refine Az _ h.oka y hy λa ha=>?_;obtain⟨p,hp,q,hq,_,rfl⟩:=tQ.1 ha;have g1:=(h.lg p (iB.1 hp).1).1;have g2:=(h.lg q (eJ.1 hq).1).2;obtain⟨_,_,n1,n2⟩:=hm _ ha;rintro⟨e1,e2⟩;have e1':y.f=p.f:=e1;have e2':y.t=q.t:=e2;rcases hg with hg|hg|hg|hg
 ·rw[e1',g1] at hg;cases hg
 ·rw[e2',g2] at hg;cases hg
 ·exact n1 (show p.f=v by omega)
 ·exact n2 (show q.t=v by omega)
end
def cD(rs:List Int)(v:Int):Int:=if 0<=v/\v<rs.length then rs.getD v.toNat 0 else-1
def upL(A:List bQ)(rs:List Int)(v:Int):List bQ:=(dY A v).filter λe=>decide (cD rs v<cD rs e.t)
def DP(A:List bQ)(rs:List Int)(v:Int):List bQ:=(nJ A v).filter λe=>decide (cD rs v<cD rs e.f)
inductive cu(A:List bQ)(rs:List Int)(a:Int):Int->Int->Prop where
 |nil:cu A rs a a 0
 |gW {v d:Int} (e:bQ) (h:cu A rs a v d) (he:e∈A) (hf:e.f=v) (hr:cD rs e.f<cD rs e.t):cu A rs a e.t (d+e.w)
inductive GP(A:List bQ)(rs:List Int):Int->Int->Int->Prop where
 |nil (v:Int):GP A rs v v 0
 |gW {u v d:Int} (e:bQ) (h:GP A rs u v d) (he:e∈A) (hf:e.f=v) (hr:cD rs e.t<cD rs e.f):GP A rs u e.t (d+e.w)
theorem cu.cons{A:List bQ}{rs:List Int}{x w d:Int}(e:bQ)(he:e∈A)(hr:cD rs e.f<cD rs e.t)(ht:e.t=x)(h:cu A rs x w d):cu A rs e.f w (e.w+d):=by
 induction h with
 |nil=>rw[Int.add_zero,<-ht];have:=cu.gW (a:=e.f) e .nil he rfl hr;rwa[Int.zero_add] at this
 |gW e' _ vT XT bm ih=>rw[<-Int.add_assoc];exact .gW e' ih vT XT bm
def UD(A:List bQ)(rs:List Int)(a b d:Int):Prop:=∃m d1 d2,cu A rs a m d1/\GP A rs m b d2/\d1+d2<=d
theorem fY.kO{n:Nat}{L:List bQ}(hL:rP n L){a:Int}:∀{b d:Int},fY L (-1) a b d->b≠a->∃e∈L,e.f=a/\e.t≠a/\∃d',fY L (-1) e.t b d'/\e.w+d'<=d:=by
 intro b d h
 induction h with
 |nil=>intro hb;exact absurd rfl hb
 | @gW x d e h he hf ht ih=>
  intro hb
  by_cases hx:x=a
  ·have:=h.pos hL
   exact⟨e,he,hf.trans hx,hb,0,.nil,aB⟩
  ·obtain⟨e1,h1,h2,h3,d',h4,h5⟩:=ih hx
   exact⟨e1,h1,h2,h3,d'+e.w,.gW e h4 he hf ht,aB⟩
section
variable{n:Nat}{L:List bQ}(hL:rP n L)(hw:∀e∈L,e.w<=40)(hn:n<=51)
include hL hw hn
theorem HH:∀j k,k+j<=n->∀x:Nat,x<n->
  (cB (cZ n L k).gone x=true->cB (cZ n L (k+j)).gone x=true/\(cZ n L (k+j)).jA.getD x 0=(cZ n L k).jA.getD x 0)/\
  (cB (cZ n L k).gone x=false->cB (cZ n L (k+j)).gone x=true->(k:Int)<=(cZ n L (k+j)).jA.getD x 0)
 |0,k,_,x,_=>⟨λh=>⟨h,rfl⟩,λh h'=>by rw[Nat.add_zero,h] at h';cases h'⟩
 |j+1,k,hk,x,hx=>by
  obtain⟨h1,h2⟩:=HH j k aB x hx;have hi:=xA hL hw hn (k+j) aB;obtain⟨v0,v1,vg⟩:=AK hi aB;show(_->cB (pB n (k+j) (cZ n L (k+j))).gone x=true/\(pB n (k+j) (cZ n L (k+j))).jA.getD x 0=_)/\(_->cB (pB n (k+j) (cZ n L (k+j))).gone x=true->_<=(pB n (k+j) (cZ n L (k+j))).jA.getD x 0);unfold pB;generalize kQ n (cZ n L (k+j)).left (cZ n L (k+j)).gone=v at*;have cJ:v.toNat<(cZ n L (k+j)).gone.length:=by rw[hi.gl];omega
  have fm:v.toNat<(cZ n L (k+j)).jA.length:=by rw[hi.rl];omega
  simp only[JN cJ,MS fm];refine⟨λhg=>?_,λhg wu=>?_⟩
  ·obtain⟨g1,g2⟩:=h1 hg
   have:x≠v.toNat:=λe=>by rw[e,vg] at g1;cases g1
   exact⟨by rw[g1];simp,by rw[if_neg this,g2]⟩
  ·by_cases e:x=v.toNat
   ·rw[if_pos e];omega
   ·rw[if_neg e]
    simp[e] at wu;exact h2 hg wu
theorem Om:∀j k,k+j<=n->∀y∈(cZ n L k).all,(cB (cZ n L k).gone y.f.toNat=true\/cB (cZ n L k).gone y.t.toNat=true)->y∈(cZ n L (k+j)).all
 |0,_,_,_,hy,_=>hy
 |j+1,k,hk,y,hy,hg=>by
  have ih:=Om j k aB y hy hg;have hi:=xA hL hw hn (k+j) aB;have hm:=hi.oka.vQ y ih;refine Nj hi aB ih ?_;rcases hg with hg|hg
  ·exact .inl ((HH hL hw hn j k aB y.f.toNat (by have:=hm.1;have:=hm.2.1;omega)).1 hg).1
  ·exact .inr (.inl ((HH hL hw hn j k aB y.t.toNat (by have:=hm.2.2.1;have:=hm.2.2.2.1;omega)).1 hg).1)
theorem MQ{x:Int}(h0:0<=x)(h1:x<n):cD (cZ n L n).jA x=(cZ n L n).jA.getD x.toNat 0:=by
 unfold cD;rw[(xA hL hw hn n (iT n)).rl,if_pos ⟨h0,h1⟩]
theorem ug:∀j k,k+j=n->∀{a b d:Int},fY (cZ n L k).left (-1) a b d->0<=a->a<n->cB (cZ n L k).gone a.toNat=false->cB (cZ n L k).gone b.toNat=false->0<=b->b<n->UD (cZ n L n).all (cZ n L n).jA a b d
 |0,k,hk,a,b,d,_,a0,a1,ag,_,_,_=>by
  have lD:k=n:=aB;subst lD;rw[VS (xA hL hw hn k (iT k)) a.toNat aB] at ag;cases ag
 |j+1,k,hk,a,b,d,hwk,a0,a1,ag,bg,b0,b1=>by
  have hi:=xA hL hw hn k aB;obtain⟨v0,v1,vg⟩:=AK hi aB;have hw':=hi.wl;have uF:=OK hi.Eg (v:=kQ n (cZ n L k).left (cZ n L k).gone) hw' v0 v1;have ih:=λ{a b d:Int}=>ug j (k+1) aB (a:=a) (b:=b) (d:=d);have EP:cZ n L (k+1)=pB n k (cZ n L k):=rfl;have hleft:(cZ n L (k+1)).left=CV (gP n (cZ n L k).left (fV n (cZ n L k).left (kQ n (cZ n L k).left (cZ n L k).gone))) (kQ n (cZ n L k).left (cZ n L k).gone):=rfl;have ql:(cZ n L (k+1)).gone=(cZ n L k).gone.set (kQ n (cZ n L k).left (cZ n L k).gone).toNat true:=rfl;have hrank:(cZ n L (k+1)).jA=(cZ n L k).jA.set (kQ n (cZ n L k).left (cZ n L k).gone).toNat (k:Int):=rfl;have aN:=λy hy hg=>Nj hi aB (y:=y) hy hg;rw[<-EP] at aN;generalize kQ n (cZ n L k).left (cZ n L k).gone=v at*;have cJ:v.toNat<(cZ n L k).gone.length:=by rw[hi.gl];omega
  have fm:v.toNat<(cZ n L k).jA.length:=by rw[hi.rl];omega
  have Lk:=JN cJ;have hvg:cB (cZ n L (k+1)).gone v.toNat=true:=by rw[ql,Lk];simp
  have hvr:cD (cZ n L n).jA v=(k:Int):=by
   rw[MQ hL hw hn v0 v1];have:=((HH hL hw hn j (k+1) aB v.toNat aB).1 hvg).2;rw[show k+1+j=n by omega] at this;rw[this,hrank,MS fm,if_pos rfl]
  have gu:∀x:Int,0<=x->x≠v->cB (cZ n L k).gone x.toNat=false->cB (cZ n L (k+1)).gone x.toNat=false:=λx h0 hx hg=>by
   rw[ql,Lk,hg];simp;omega
  have higher:∀x:Int,0<=x->x<n->x≠v->cB (cZ n L k).gone x.toNat=false->(k:Int)<cD (cZ n L n).jA x:=λx h0 h1 hx hg=>by
   rw[MQ hL hw hn h0 h1];have:=(HH hL hw hn j (k+1) aB x.toNat aB).2 (gu x h0 hx hg);rw[show k+1+j=n by omega] at this;have:=this (VS (xA hL hw hn n (iT n)) x.toNat aB);omega
  have away:∀{a b d:Int},fY (cZ n L k).left (-1) a b d->0<=a->a<n->a≠v->b≠v->cB (cZ n L k).gone a.toNat=false->cB (cZ n L k).gone b.toNat=false->0<=b->b<n->UD (cZ n L n).all (cZ n L n).jA a b d:=λ{a b d} hwk a0 a1 ha hb ag bg b0 b1=>by
   obtain⟨d',hd',hw2⟩:=(Xg hi.Eg hw' v0 v1 ha hwk).1 hb;have hw3:fY (cZ n L (k+1)).left (-1) a b d':=hw2.mono λe he gF=>by
    rw[hleft];exact⟨ud hi.Eg (λx hx=>⟨(uF x hx).2.2.1,(uF x hx).2.2.2⟩) e he,gF⟩
   obtain⟨m,d1,d2,h1,h2,h3⟩:=ih hw3 a0 a1 (gu a a0 ha ag) (gu b b0 hb bg) b0 b1;exact⟨m,d1,d2,h1,h2,aB⟩
  have kO:∀y∈(cZ n L k).left,(y.f=v\/y.t=v)->y∈(cZ n L n).all:=λy hy hv=>by
   have h1:=aN y (Hb hi hy) (by rcases hv with h|h;exact .inr (.inr (.inl h));exact .inr (.inr (.inr h)));have:=Om hL hw hn j (k+1) aB y h1 (by rcases hv with h|h;exact .inl (by rw[h];exact hvg);exact .inr (by rw[h];exact hvg));rwa[show k+1+j=n by omega] at this
  by_cases hav:a=v
  ·by_cases hbv:b=v
   ·refine⟨a,0,0,.nil,?_,by have:=hwk.pos hi.Eg;omega⟩
    rw[hbv,<-hav];exact .nil a
   ·obtain⟨e,he,hef,het,d',hw2,hd'⟩:=hwk.kO hi.Eg (by rw[hav];exact hbv)
    have hm:=hi.Eg.vQ e he;have hg:=hi.lg e he;have hetv:e.t≠v:=λe'=>het (e'.trans hav.symm);obtain⟨m,d1,d2,h1,h2,h3⟩:=away hw2 hm.2.2.1 hm.2.2.2.1 hetv hbv hg.2 bg b0 b1;have na:cu (cZ n L n).all (cZ n L n).jA e.f m (e.w+d1):=h1.cons e (kO e he (.inl (hef.trans hav))) (by rw[hef,hav,hvr];exact higher e.t hm.2.2.1 hm.2.2.2.1 hetv hg.2) rfl;rw[hef] at na;exact⟨m,e.w+d1,d2,na,h2,aB⟩
  ·by_cases hbv:b=v
   ·cases hwk with
    |nil=>exact absurd hbv hav
    | @gW x d0 e h he hf ht=>
     have hm:=hi.Eg.vQ e he;have hg:=hi.lg e he;have hxv:e.f≠v:=by have:=hm.2.2.2.2.1;omega
     rw[<-hf] at h;obtain⟨m,d1,d2,h1,h2,h3⟩:=away h a0 a1 hav hxv ag hg.1 hm.1 hm.2.1;refine⟨m,d1,d2+e.w,h1,.gW e h2 (kO e he (.inr hbv)) rfl (by rw[hbv,hvr];exact higher e.f hm.1 hm.2.1 hxv hg.1),aB⟩
   ·exact away hwk a0 a1 hav hbv ag bg b0 b1
theorem Hg:∀k,k<=n->∀y∈(cZ n L k).all,fY L (-1) y.f y.t y.w
 |0,_,y,hy=>by
  have Tu:y∈L:=hy;have:=fY.gW (a:=y.f) y (.nil (L:=L) (c:=-1)) Tu rfl (by have:=(hL.vQ y Tu).2.2.1;omega);rwa[Int.zero_add] at this
 |k+1,hk,y,hy=>by
  have hi:=xA hL hw hn k aB;have ih:=Hg k aB;rcases pC _ (show y∈gP n _ _ from hy) with h|h
  ·exact ih y h
  ·obtain⟨p,hp,q,hq,_,rfl⟩:=tQ.1 h
   obtain⟨hpL,hpt⟩:=iB.1 hp;obtain⟨hqL,hqf⟩:=eJ.1 hq;have w1:=ih p (Hb hi hpL);have w2:=ih q (Hb hi hqL);rw[hpt] at w1;rw[hqf] at w2;exact w1.trans w2
theorem up_back{a b d:Int}(h:cu (cZ n L n).all (cZ n L n).jA a b d):fY L (-1) a b d:=by
 induction h with
 |nil=>exact .nil
 |gW e _ he hf _ ih=>rw[<-hf] at ih;exact ih.trans (Hg hL hw hn n (iT n) e he)
theorem aAi{a b d:Int}(h:GP (cZ n L n).all (cZ n L n).jA a b d):fY L (-1) a b d:=by
 induction h with
 |nil=>exact .nil
 |gW e _ he hf _ ih=>rw[<-hf] at ih;exact ih.trans (Hg hL hw hn n (iT n) e he)
theorem ud_iff{a b:Int}(a0:0<=a)(a1:a<n)(b0:0<=b)(b1:b<n):
  (∀d,fY L (-1) a b d->UD (cZ n L n).all (cZ n L n).jA a b d)/\∀m d1 d2,cu (cZ n L n).all (cZ n L n).jA a m d1->GP (cZ n L n).all (cZ n L n).jA m b d2->fY L (-1) a b (d1+d2):=by
 have g0:∀v,cB (List.replicate n false) v=false:=λv=>by unfold cB;rw[LN,Et];split<;>rfl
 exact⟨λd hd=>ug hL hw hn n 0 aB hd a0 a1 (g0 _) (g0 _) b0 b1,λm d1 d2 h1 h2=>(up_back hL hw hn h1).trans (aAi hL hw hn h2)⟩
end
end
section
structure RelSt(n:Nat)(P:Int->Int->Prop)(ok:bQ->Prop)(ds:List Int):Prop where
 len:ds.length=n
 val:∀(w:Nat) (d:Int),ds[w]? =some d->d=-1\/(0<=d/\P (w:Int) d/\d<=met ds*1099511627776)
 rel:∀e,ok e->∀x y,ds[e.f.toNat]? =some x->ds[e.t.toNat]? =some y->0<=x->0<=y/\y<=x+e.w
section
variable{n:Nat}{P:Int->Int->Prop}{ok:bQ->Prop}{ds:List Int}
end
section
variable{n:Nat}{A:List bQ}{rs:List Int}{a:Int}
end
theorem Dr{n:Nat}{L:List bQ}(hL:rP n L)(hw:∀e∈L,e.w<=40)(hn:n<=51){x y:Int}(x0:0<=x)(x1:x<n)(y0:0<=y)(y1:y<n)(gF:x≠y):cD (cZ n L n).jA x≠cD (cZ n L n).jA y:=by
 have hi:=xA hL hw hn n (iT n);rw[MQ hL hw hn x0 x1,MQ hL hw hn y0 y1];intro e;have:=hi.inj x.toNat y.toNat aB aB (VS hi _ aB) (VS hi _ aB) e;omega
theorem Gt{n:Nat}{L:List bQ}(hL:rP n L)(hw:∀e∈L,e.w<=40)(hn:n<=51){x:Int}(x0:0<=x)(x1:x<n):0<=cD (cZ n L n).jA x/\cD (cZ n L n).jA x<n:=by
 have hi:=xA hL hw hn n (iT n);rw[MQ hL hw hn x0 x1];exact hi.rk x.toNat aB (VS hi _ aB)
end
section
inductive GW(src:Int->Prop)(nx:Int->List bQ)(en:bQ->Int):Int->Int->Prop where
 |nil {v:Int} (h:src v):GW src nx en v 0
 |gW {v d:Int} (e:bQ) (h:GW src nx en v d) (he:e∈nx v):GW src nx en (en e) (d+e.w)
def iC(P:Int->Prop)(d:Int):Prop:=(d=-1/\∀k,¬P k)\/(0<=d/\P d/\∀k,P k->d<=k)
theorem iC.congr{P P':Int->Prop}{x:Int}(h:iC P x)(hp:∀k,P k↔P' k):iC P' x:=by
 rcases h with⟨h1,h2⟩|⟨h1,h2,h3⟩
 ·exact .inl ⟨h1,λk hk=>h2 k ((hp k).2 hk)⟩
 ·exact .inr ⟨h1,(hp _).1 h2,λk hk=>h3 k ((hp k).2 hk)⟩
def Ga(n:Nat)(P:Int->Int->Prop)(ds:List Int):Prop:=ds.length=n/\∀(v:Nat) (d:Int),ds[v]? =some d->iC (P (v:Int)) d
abbrev BW:Int:=1099511627776
structure Qq(n:Nat)(src:Int->Prop)(nx:Int->List bQ)(en:bQ->Int):Prop where
 src:∀v,src v->0<=v/\v<n
 arc:∀v,∀e∈nx v,0<=en e/\en e<n/\1<=e.w/\e.w<=BW
theorem GW.mw{n:Nat}{src:Int->Prop}{nx:Int->List bQ}{en:bQ->Int}(hN:Qq n src nx en){v d:Int}(h:GW src nx en v d):0<=v/\v<n/\0<=d:=by
 induction h with
 |nil h=>have:=hN.src _ h;omega
 |gW e _ he ih=>have:=hN.arc _ e he;omega
def YX(src:Int->Prop)(nx:Int->List bQ)(en:bQ->Int)(ds:List Int)(v d u:Int):Prop:=
 (u=-1/\src v/\d=0)\/(0<=u/\∃e c,ds[u.toNat]? =some c/\0<=c/\e∈nx u/\en e=v/\c+e.w=d)
structure tG(n:Nat)(src:Int->Prop)(nx:Int->List bQ)(en:bQ->Int)(ok:Int->bQ->Prop)(ds bs:List Int)(q:List It)(kn:Int->Option Int):Prop where
 dl:ds.length=n
 bl:bs.length=n
 Bz:∀(v:Nat) (d:Int),ds[v]? =some d->d=-1\/(0<=d/\GW src nx en (v:Int) d/\(∀k,GW src nx en (v:Int) k->d<=k)/\d+BW<=met ds*BW/\∃u,bs[v]? =some u/\YX src nx en ds (v:Int) d u)
 qi:∀y∈q,0<=y.id/\y.id<n/\ds[y.id.toNat]? =some (-1)/\GW src nx en y.id y.key/\y.key<=met ds*BW/\∃u,kn y.id=some u/\YX src nx en ds y.id y.key u
 fr:∀(v:Nat) (d:Int) (e:bQ),ds[v]? =some d->0<=d->e∈nx (v:Int)->ok (v:Int) e->(∃c,ds[(en e).toNat]? =some c/\0<=c)\/∃y∈q,y.id=en e/\y.key<=d+e.w
 sr:∀v,src v->(∃d,ds[v.toNat]? =some d/\0<=d)\/∃y∈q,y.id=v/\y.key<=0
theorem tG.mono{n:Nat}{src:Int->Prop}{nx:Int->List bQ}{en:bQ->Int}{ok Pj:Int->bQ->Prop}{ds bs:List Int}{q:List It}{kn:Int->Option Int}(h:tG n src nx en ok ds bs q kn)(hm:∀v e,e∈nx v->Pj v e->ok v e):tG n src nx en Pj ds bs q kn:=
 ⟨h.dl,h.bl,h.Bz,h.qi,λv d e hd h0 he kH=>h.fr v d e hd h0 he (hm _ e he kH),h.sr⟩
section
variable{n:Nat}{src:Int->Prop}{nx:Int->List bQ}{en:bQ->Int}{ok:Int->bQ->Prop}{ds bs:List Int}{q:List It}{kn:Int->Option Int}
theorem tG.le(h:tG n src nx en ok ds bs q kn){v:Nat}{d:Int}(hd:ds[v]? =some d)(h0:0<=d):∀k,GW src nx en (v:Int) k->d<=k:=by
 rcases h.Bz v d hd with h1|⟨_,_,h1,_⟩
 ·omega
 ·exact h1
theorem tG.gw(h:tG n src nx en ok ds bs q kn){v:Nat}{d:Int}(hd:ds[v]? =some d)(h0:0<=d):GW src nx en (v:Int) d:=by
 rcases h.Bz v d hd with h1|⟨_,h1,_⟩
 ·omega
 ·exact h1
theorem tG.reach(h:tG n src nx en (λ_ _=>True) ds bs q kn)(hN:Qq n src nx en){v d:Int}(hw:GW src nx en v d):(∃c,ds[v.toNat]? =some c/\0<=c/\c<=d)\/∃y∈q,y.key<=d:=by
 induction hw with
 |nil hs=>
  rcases h.sr _ hs with⟨c,h1,h2⟩|⟨y,hy,_,hk⟩
  ·have hr:=hN.src _ hs
   exact .inl ⟨c,h1,h2,h.le h1 h2 0 (by rw[show((Int.toNat _:Nat):Int)=_ from Int.toNat_of_nonneg hr.1];exact .nil hs)⟩
  ·exact .inr ⟨y,hy,hk⟩
 | @gW v d e hw he ih=>
  have hr:=hw.mw hN;have ha:=hN.arc _ e he;have ev:(v.toNat:Int)=v:=Int.toNat_of_nonneg hr.1;have ee:(((en e).toNat:Nat):Int)=en e:=Int.toNat_of_nonneg ha.1;rcases ih with⟨c,h1,h2,h3⟩|⟨y,hy,hk⟩
  ·rcases h.fr v.toNat c e h1 h2 (by rw[ev];exact he) trivial with⟨c',h4,h5⟩|⟨y,hy,_,hk⟩
   ·refine .inl ⟨c',h4,h5,h.le h4 h5 _ ?_⟩
    rw[ee];exact .gW e hw he
   ·exact .inr ⟨y,hy,aB⟩
  ·exact .inr ⟨y,hy,aB⟩
theorem YX.set{v d u:Int}(h:YX src nx en ds v d u){i:Nat}{x:Int}(hi:ds[i]? =some (-1)):YX src nx en (ds.set i x) v d u:=by
 rcases h with h|⟨h0,e,c,h1,h2,h3⟩
 ·exact .inl h
 ·refine .inr ⟨h0,e,c,?_,h2,h3⟩
  rw[vR]
  by_cases ee:i=u.toNat
  ·rw[<-ee,hi] at h1;cases h1;omega
  ·rw[if_neg ee];exact h1
theorem tG.pop{x:It}(h:tG n src nx en (λ_ _=>True) ds bs (x::q) kn)(hN:Qq n src nx en)(hs:BB (x::q))(h1:By (x::q)){u:Int}(hu:kn x.id=some u):
  tG n src nx en (λv _=>v≠x.id) (ds.set x.id.toNat x.key) (bs.set x.id.toNat u) q kn/\met (ds.set x.id.toNat x.key)=met ds+1:=by
 obtain⟨i0,i1,hx,gx,kb,u',we,bk⟩:=h.qi x dK;rw[hu] at we;cases we;have ex:(x.id.toNat:Int)=x.id:=Int.toNat_of_nonneg i0;have k0:0<=x.key:=(gx.mw hN).2.2;have hm:met (ds.set x.id.toNat x.key)=met ds+1:=by rw[su hx k0,if_pos aB]
 have cJ:x.id.toNat<ds.length:=by rw[h.dl];omega
 have gF:∀y∈q,y.id≠x.id:=λy hy e=>by
  have:=h1 y (by simp[hy]) x dK e;subst this;have:=(List.pairwise_cons.1 hs).1 y hy;rw[jZ] at this;omega
 have old:∀{v:Nat} {d:Int},ds[v]? =some d->0<=d->(ds.set x.id.toNat x.key)[v]? =some d:=λ{v d} hd h0=>by
  rw[vR]
  by_cases e:x.id.toNat=v
  ·rw[<-e,hx] at hd;cases hd;omega
  ·rw[if_neg e];exact hd
 have self:(ds.set x.id.toNat x.key)[x.id.toNat]? =some x.key:=by rw[vR,if_pos rfl,if_pos cJ]
 refine⟨⟨by rw[pI];exact h.dl,by rw[pI];exact h.bl,λv d hd=>?_,λy hy=>?_,λv d e hd h0 he kH=>?_,λv hv=>?_⟩,hm⟩
 ·rw[hm]
  by_cases e:x.id.toNat=v
  ·subst e
   rw[self] at hd;cases hd;refine .inr ⟨k0,by rw[ex];exact gx,λk hk=>?_,?_,u,?_,by rw[ex];exact bk.set hx⟩
   ·rw[ex] at hk
    rcases h.reach hN hk with⟨c,g1,g2,_⟩|⟨y,hy,hyk⟩
    ·rw[hx] at g1;cases g1;omega
    ·rcases lL.1 hy with rfl|hy
     ·exact hyk
     ·have:=(List.pairwise_cons.1 hs).1 y hy
      rw[jZ] at this;omega
   ·simp only[BW] at*;omega
   ·rw[vR,if_pos rfl,if_pos (by rw[h.bl];omega)]
  ·rw[vR,if_neg e] at hd
   rcases h.Bz v d hd with h2|⟨h2,h3,h4,h5,w,h6,h7⟩
   ·exact .inl h2
   ·refine .inr ⟨h2,h3,h4,by simp only[BW] at*;omega,w,?_,h7.set hx⟩
    rw[vR,if_neg e];exact h6
 ·obtain⟨a0,a1,a2,a3,a4,w,a5,a6⟩:=h.qi y (by simp[hy])
  refine⟨a0,a1,?_,a3,by rw[hm];simp only[BW] at*;omega,w,a5,a6.set hx⟩;rw[vR,if_neg (λe=>gF y hy aB)];exact a2
 ·have hvx:v≠x.id.toNat:=λe=>kH aB
  rw[vR,if_neg (λe=>hvx e.symm)] at hd;rcases h.fr v d e hd h0 he trivial with⟨c,g1,g2⟩|⟨y,hy,g1,g2⟩
  ·exact .inl ⟨c,old g1 g2,g2⟩
  ·rcases lL.1 hy with rfl|hy
   ·exact .inl ⟨_,by rw[<-g1];exact self,k0⟩
   ·exact .inr ⟨y,hy,g1,g2⟩
 ·rcases h.sr v hv with⟨d,g1,g2⟩|⟨y,hy,g1,g2⟩
  ·exact .inl ⟨d,old g1 g2,g2⟩
  ·rcases lL.1 hy with rfl|hy
   ·exact .inl ⟨_,by rw[<-g1];exact self,k0⟩
   ·exact .inr ⟨y,hy,g1,g2⟩
theorem tG.skip(h:tG n src nx en ok ds bs q kn){v:Int}{e:bQ}{c:Int}(hc:ds[(en e).toNat]? =some c)(h0:0<=c):tG n src nx en (λv' e'=>ok v' e'\/(v'=v/\e'=e)) ds bs q kn:=
 ⟨h.dl,h.bl,h.Bz,h.qi,λv' d e' hd hd0 he kH=>by
  rcases kH with kH|⟨_,rfl⟩
  ·exact h.fr v' d e' hd hd0 he kH
  ·exact .inl ⟨c,hc,h0⟩,h.sr⟩
def XQ(kn:Int->Option Int)(b:Bool)(t v:Int):Int->Option Int:=if b thenλy=>if y=t then some v else kn y else kn
theorem tG.push(h:tG n src nx en ok ds bs q kn)(hN:Qq n src nx en)(h1:By q){v:Nat}{d:Int}{e:bQ}(hd:ds[v]? =some d)(h0:0<=d)(he:e∈nx (v:Int))(hc:ds[(en e).toNat]? =some (-1)):
  tG n src nx en (λv' e'=>ok v' e'\/(v'=(v:Int)/\e'=e)) ds bs (nK q (en e) (d+e.w)).1 (XQ kn (nK q (en e) (d+e.w)).2 (en e) (v:Int)):=by
 have ha:=hN.arc _ e he;have aN:=λ{x:It} hx=>OM h1 (v:=en e) (k:=d+e.w) (x:=x) hx;have qE:=WB (q:=q) (v:=en e) (k:=d+e.w);refine⟨h.dl,h.bl,h.Bz,λy hy=>?_,λv' d' e' hd' hd0 vT kH=>?_,λv' kF=>?_⟩
 ·have jW:=CB h1 (en e) (d+e.w)
  have fP:y∈q\/y=⟨en e,d+e.w⟩:=WA hy;unfold nK at hy jW ⊢
  by_cases hl:Cd q (en e) (d+e.w)=true
  ·rw[if_pos hl] at hy ⊢
   exact h.qi y hy
  ·rw[if_neg hl] at hy jW ⊢
   have Qe:(⟨en e,d+e.w⟩:It)∈ya (q.filter λy=>decide (y.id≠en e)) ⟨en e,d+e.w⟩:=xU.2 (.inl rfl)
   by_cases hid:y.id=en e
   ·have:=jW y hy _ Qe hid
    subst this;have hb:d+BW<=met ds*BW:=by
     rcases h.Bz v d hd with h2|⟨_,_,_,h2,_⟩
     ·omega
     ·exact h2
    refine⟨ha.1,ha.2.1,hc,.gW e (h.gw hd h0) he,by simp only[BW] at*;omega,(v:Int),?_,.inr ⟨aB,e,d,?_,h0,he,rfl,rfl⟩⟩
    ·simp[XQ]
    ·rw[kE];exact hd
   ·have da:y∈q:=fP.resolve_right λe'=>hid (by rw[e'])
    obtain⟨a0,a1,a2,a3,a4,w,a5,a6⟩:=h.qi y da;refine⟨a0,a1,a2,a3,a4,w,?_,a6⟩;simp only[XQ,if_true];rw[if_neg hid];exact a5
 ·rcases kH with kH|⟨hv,rfl⟩
  ·rcases h.fr v' d' e' hd' hd0 vT kH with g|⟨y,hy,g1,g2⟩
   ·exact .inl g
   ·obtain⟨y',Tu,e1,e2⟩:=aN hy
    exact .inr ⟨y',Tu,e1.trans g1,aB⟩
  ·have:v'=v:=aB
   subst this;rw[hd] at hd';cases hd';exact .inr qE
 ·rcases h.sr v' kF with g|⟨y,hy,g1,g2⟩
  ·exact .inl g
  ·obtain⟨y',Tu,e1,e2⟩:=aN hy
   exact .inr ⟨y',Tu,e1.trans g1,aB⟩
structure Grown(n:Nat)(src:Int->Prop)(nx:Int->List bQ)(en:bQ->Int)(ds bs:List Int):Prop where
 rX:Ga n (GW src nx en) ds
 bl:bs.length=n
 dL:∀(v:Nat) (d:Int),ds[v]? =some d->0<=d->∃u,bs[v]? =some u/\YX src nx en ds (v:Int) d u
 gH:∀(v:Nat) (d:Int),ds[v]? =some d->-1<=d/\d<=n*BW
theorem tG.done(h:tG n src nx en (λ_ _=>True) ds bs [] kn)(hN:Qq n src nx en):Grown n src nx en ds bs:=by
 refine⟨⟨h.dl,λv d hd=>?_⟩,h.bl,λv d hd h0=>?_,λv d hd=>?_⟩
 ·rcases h.Bz v d hd with h1|⟨h1,h2,h3,_⟩
  ·refine .inl ⟨h1,λk hk=>?_⟩
   rcases h.reach hN hk with⟨c,g1,g2,_⟩|⟨y,hy,_⟩
   ·rw[kE,hd] at g1;cases g1;omega
   ·cases hy
  ·exact .inr ⟨h1,h2,h3⟩
 ·rcases h.Bz v d hd with h1|⟨_,_,_,_,h1⟩
  ·omega
  ·exact h1
 ·have hm:=ig ds
  rw[h.dl] at hm;rcases h.Bz v d hd with h1|⟨h0,_,_,h1,_⟩
  ·simp only[BW];omega
  ·simp only[BW] at*;omega
theorem tG.start(hN:Qq n src nx en){q:List It}{kn:Int->Option Int}(hq:∀y∈q,y.key=0/\src y.id/\kn y.id=some (-1))(hs:∀v,src v->∃y∈q,y.id=v):
  tG n src nx en (λ_ _=>True) (List.replicate n (-1)) (List.replicate n (-1)) q kn:=by
 have rep:∀{v:Nat} {d:Int},(List.replicate n (-1:Int))[v]? =some d->d=-1:=λ{v d} h=>by
  rw[Et] at h
  split at h
  ·exact(uO h).symm
  ·cases h
 refine⟨by simp,by simp,λv d hd=>.inl (rep hd),λy hy=>?_,λv d e hd h0=>by have:=rep hd;omega,λv hv=>?_⟩
 ·obtain⟨h1,h2,h3⟩:=hq y hy
  have hr:=hN.src _ h2;refine⟨hr.1,hr.2,?_,by rw[h1];exact .nil h2,by rw[h1];simp only[BW];omega,-1,h3,.inl ⟨rfl,h2,h1⟩⟩;rw[Et,if_pos aB]
 ·obtain⟨y,hy,e⟩:=hs v hv
  exact .inr ⟨y,hy,e,by rw[(hq y hy).1];exact oX _⟩
end
def uR(n:Nat)(fs:List Int)(v:Int):Prop:=v∈fs/\0<=v/\v<n
end
section
section
variable{n:Nat}{L:List bQ}(hL:rP n L)(hw:∀e∈L,e.w<=40)(hn:n<=30)
include hL hw hn
end
inductive Wg(A:List bQ):Int->Int->List Int->Prop where
 |gN {e:bQ} (he:e∈A) (hm:e.m<0):Wg A e.f e.t [e.f,e.t]
 |cut {e:bQ} {x y:List Int} (he:e∈A) (hm:0<=e.m) (hx:Wg A e.f e.m x) (hy:Wg A e.m e.t y):Wg A e.f e.t (x++y.tail)
inductive Along(L:List bQ):List Int->Int->Prop where
 |one (v:Int):Along L [v] 0
 |cons {e:bQ} {f t:Int} {l:List Int} {d:Int} (he:e∈L) (hf:e.f=f) (ht:e.t=t) (h:Along L (t::l) d):Along L (f::t::l) (e.w+d)
inductive Thru(L:List bQ):List Int->Int->Prop where
 |one (v:Int):Thru L [v] 0
 |cons {a b:Int} {l:List Int} {c d:Int} (gF:a≠b) (h:fY L (-1) a b c) (h':Thru L (b::l) d):Thru L (a::b::l) (c+d)
structure UnpOk(n:Nat)(L A:List bQ)(R:List Int):Prop where
 Eg:rP n L
 ok:rP n A
 gN:∀y∈A,y.m<0->y∈L
 half:∀e∈A,0<=e.m->e.m<n/\(∃a∈A,∃b∈A,a.f=e.f/\a.t=e.m/\b.f=e.m/\b.t=e.t/\a.w+b.w=e.w)/\cD R e.m<cD R e.f/\cD R e.m<cD R e.t
 mw:∀x:Int,0<=x->x<n->0<=cD R x
 via:∀e∈A,0<=e.m->∀d,fY L (-1) e.f e.t d->∃d1 d2,fY L (-1) e.f e.m d1/\fY L (-1) e.m e.t d2/\d1+d2<=d
 dL:∀y∈A,fY L (-1) y.f y.t y.w
section
variable{n:Nat}{L A:List bQ}{R:List Int}(H:UnpOk n L A R)
include H
end
open Classical in
inductive PendW(A:List bQ):List (Int×Int)->List Int->Nat->Prop where
 |nil:PendW A [] [] 0
 |cons {f t:Int} {x l:List Int} {k:Nat} {r:List (Int×Int)} (hx:Wg A f t x) (h:PendW A r l k):PendW A ((f,t)::r) (x.tail++l) (2*x.length-3+k)
end
section
section
variable{us ds:List Int}{k:Nat}{at_ rX x y:Int}
end
theorem GP.cons{A:List bQ}{R:List Int}{x w d:Int}(e:bQ)(he:e∈A)(hr:cD R e.t<cD R e.f)(ht:e.t=x)(h:GP A R x w d):GP A R e.f w (e.w+d):=by
 induction h with
 |nil=>rw[Int.add_zero,<-ht];have:=GP.gW e (.nil e.f) he rfl hr;rwa[Int.zero_add] at this
 |gW e' _ vT XT bm ih=>rw[<-Int.add_assoc];exact .gW e' ih vT XT bm
theorem uc{n:Nat}{A:List bQ}{R:List Int}{ts:List Int}{v d:Int}:GW (uR n ts) (DP A R) (λe=>e.f) v d↔∃t,uR n ts t/\GP A R v t d:=by
 constructor
 ·intro h
  induction h with
  |nil hs=>exact⟨_,hs,.nil _⟩
  | @gW v d e _ he ih=>
   obtain⟨t,ht,hd⟩:=ih;have hm:=jE.1 he;obtain⟨h1,h2⟩:=iB.1 hm.1;refine⟨t,ht,?_⟩;have:=GP.cons e h1 (by rw[h2];simpa using hm.2) h2 hd;rw[Int.add_comm];exact this
 ·rintro⟨t,ht,h⟩
  have key:∀{u b d':Int},GP A R u b d'->∀d0,GW (uR n ts) (DP A R) (λe=>e.f) b d0->GW (uR n ts) (DP A R) (λe=>e.f) u (d0+d'):=λ{u b d'} hd=>by
   induction hd with
   |nil=>intro d0 h0;rw[Int.add_zero];exact h0
   |gW e _ he hf hr ih=>
    intro d0 h0;have:=GW.gW (en:=λe=>e.f) e h0 (jE.2 ⟨iB.2 ⟨he,rfl⟩,by simpa using hr⟩);have this:GW (uR n ts) (DP A R) (λe=>e.f) e.f (d0+e.w):=this;have e2:e.f=_:=hf;rw[e2] at this;have:=ih _ this;rw[Int.add_assoc,Int.add_comm e.w] at this;exact this
  have:=key h 0 (.nil ht);rwa[Int.zero_add] at this
end
section
structure CInv(n:Nat)(src:Int->Prop)(nx:Int->List bQ)(en:bQ->Int)(ds:List Int):Prop where
 len:ds.length=n
 srcs:∀v,src v->ds[v.toNat]? =some 0
 val:∀(v:Nat) (d:Int),ds[v]? =some d->d=-1\/(0<=d/\GW src nx en (v:Int) d/\d+BW<=met ds*BW)
section
variable{n:Nat}{src:Int->Prop}{nx:Int->List bQ}{en:bQ->Int}{ds:List Int}
end
end
section
theorem Yy{P P':Int->Prop}{x:Int}(h:iC P x)(h1:∀d,P d->∃d',d'<=d/\P' d')(h2:∀d,P' d->∃d',d'<=d/\P d'):iC P' x:=by
 rcases h with⟨e,hn⟩|⟨h0,hx,hm⟩
 ·refine .inl ⟨e,λk hk=>?_⟩
  obtain⟨d',_,hd⟩:=h2 k hk;exact hn d' hd
 ·obtain⟨d',IL,hd⟩:=h1 x hx
  obtain⟨d2,hle2,hd2⟩:=h2 d' hd;have:=hm d2 hd2;have e:d'=x:=aB;rw[e] at hd;refine .inr ⟨h0,hd,λk hk=>?_⟩;obtain⟨d3,hle3,hd3⟩:=h2 k hk;have:=hm d3 hd3;omega
theorem iC.or{P P':Int->Prop}{b d:Int}(h:iC P b)(h':iC P' d):iC (λk=>P k\/P' k) (if 0<=d/\(b<0\/d<b) then d else b):=by
 rcases h with⟨e,hn⟩|⟨h0,hx,hm⟩<;>rcases h' with⟨e',hn'⟩|⟨xi,Bt,wh⟩
 ·rw[if_neg aB];exact .inl ⟨e,λk hk=>hk.elim (hn k) (hn' k)⟩
 ·rw[if_pos aB];exact .inr ⟨xi,.inr Bt,λk hk=>hk.elim (λh=>absurd h (hn k)) (wh k)⟩
 ·rw[if_neg aB];exact .inr ⟨h0,.inl hx,λk hk=>hk.elim (hm k) λh=>absurd h (hn' k)⟩
 ·by_cases cJ:d<b
  ·rw[if_pos ⟨xi,.inr cJ⟩]
   exact .inr ⟨xi,.inr Bt,λk hk=>hk.elim (λh=>by have:=hm k h;omega) (wh k)⟩
  ·rw[if_neg aB]
   exact .inr ⟨h0,.inl hx,λk hk=>hk.elim (hm k) λh=>by have:=wh k h;omega⟩
section
variable{n:Nat}{L:List bQ}(hL:rP n L)(hw:∀e∈L,e.w<=40)(hn:n<=51){a:Int}(a0:0<=a)(a1:a<n)
include hL hw hn a0 a1
end
end
section
structure Gr where
 N:List (Int×Int)
 E:List (Int×Int×Int)
 B:List (Int×Int)
def Gr.m(G:Gr):Nat:=G.E.length
def Gr.n(G:Gr):Nat:=G.N.length
def Gr.ed(G:Gr)(i:Int):Int×Int×Int:=G.E.getD i.toNat (0,0,0)
abbrev Gr.fr(G:Gr)(i:Int):Int:=(G.ed i).1
abbrev Gr.to(G:Gr)(i:Int):Int:=(G.ed i).2.1
abbrev Gr.wt(G:Gr)(i:Int):Int:=(G.ed i).2.2
abbrev Gr.qD(G:Gr)(i:Int):Prop:=0<=i/\i<G.m
abbrev Gr.XR(G:Gr)(i:Int):Prop:=0<=i/\i<G.n
abbrev IU(a b:Int×Int):Prop:=a.1<b.1\/(a.1=b.1/\a.2<b.2)
structure zG(G:Gr):Prop where
 n1:1<=G.n/\G.n<=256
 m1:1<=G.m/\G.m<=51
 nd:∀p∈G.N,(0<=p.1/\p.1<=4095)/\0<=p.2/\p.2<=4095
 ed:∀e∈G.E,(0<=e.1/\e.1<G.n)/\(0<=e.2.1/\e.2.1<G.n)/\1<=e.2.2/\e.2.2<=40
 bl:G.B.length<=1024
 bd:∀b∈G.B,G.qD b.1/\G.qD b.2/\G.to b.1=G.fr b.2
 bs:G.B.Pairwise IU
def nU(k:Nat):List Int:=(List.range k).map λi:Nat=>(i:Int)
theorem CD{k:Nat}{x:Int}:x∈nU k↔0<=x/\x<k:=by
 unfold nU;simp only[lK,List.mem_range]
 constructor
 ·rintro⟨i,hi,rfl⟩;omega
 ·rintro⟨h0,h1⟩;exact⟨x.toNat,aB,aB⟩
theorem vA(k:Nat):(nU k).length=k:=by simp[nU]
theorem HG(k:Nat):nU (k+1)=nU k++[(k:Int)]:=by simp[nU,List.range_succ]
theorem Rt(k:Nat):(nU k).Pairwise λx y=>x<y:=by
 unfold nU;rw[List.pairwise_map];exact List.Pairwise.imp (λ{a b:Nat} (h:a<b)=>aB) List.pairwise_lt_range
def Gr.FQ(G:Gr)(a b:Int):Bool:=decide (G.qD a) && (decide (G.qD b) && (decide (G.to a=G.fr b) && !decide ((a,b)∈G.B)))
theorem Gr.iI{G:Gr}{a b:Int}:G.FQ a b=true↔G.qD a/\G.qD b/\G.to a=G.fr b/\(a,b)∉G.B:=by
 unfold Gr.FQ;simp[tC]
def Gr.kJ(G:Gr)(a:Int):List Int:=(nU G.m).filter λb=>G.FQ a b
def Gr.nW(G:Gr)(b:Int):List Int:=(nU G.m).filter λa=>G.FQ a b
def Gr.Tt(G:Gr)(v:Int):List Int:=(nU G.m).filter λe=>decide (G.to e=v)
def Gr.Ut(G:Gr)(v:Int):List Int:=(nU G.m).filter λe=>decide (G.fr e=v)
theorem Gr.CC{G:Gr}{a b:Int}:b∈G.kJ a↔G.FQ a b=true:=by
 unfold Gr.kJ;rw[jE,CD];exact⟨λh=>h.2,λh=>⟨(G.iI.1 h).2.1,h⟩⟩
theorem Gr.WE{G:Gr}{a b:Int}:a∈G.nW b↔G.FQ a b=true:=by
 unfold Gr.nW;rw[jE,CD];exact⟨λh=>h.2,λh=>⟨(G.iI.1 h).1,h⟩⟩
theorem Gr.sx{G:Gr}{e v:Int}:e∈G.Tt v↔G.qD e/\G.to e=v:=by
 unfold Gr.Tt;rw[jE,CD];simp
theorem Gr.MR(G:Gr)(a:Int):(G.kJ a).length<=G.m:=by
 have:=vU (λb=>G.FQ a b) (nU G.m);rw[vA] at this;exact this
theorem Gr.Wv(G:Gr)(a:Int):(G.nW a).length<=G.m:=by
 have:=vU (λb=>G.FQ b a) (nU G.m);rw[vA] at this;exact this
theorem Gr.tf(G:Gr)(a:Int):(G.Tt a).length<=G.m:=by
 have:=vU (λe=>decide (G.to e=a)) (nU G.m);rw[vA] at this;exact this
theorem Gr.get_ed{G:Gr}{i:Int}(h:G.qD i):G.E[i.toNat]? =some (G.ed i):=by
 have:i.toNat<G.E.length:=by have:=h.2;unfold Gr.m at this;omega
 unfold Gr.ed;rw[LN,gS this];rfl
theorem Gr.TE{G:Gr}{i:Int}(h:G.qD i):G.ed i∈G.E:=zF (G.get_ed h)
theorem zG.w1{G:Gr}(h:zG G){i:Int}(hi:G.qD i):1<=G.wt i/\G.wt i<=40:=(h.ed _ (G.TE hi)).2.2
def Gr.IY(G:Gr):List bQ:=(nU G.m).flatMap λa=>(G.kJ a).map λb=>⟨a,b,G.wt b,-1⟩
def Gr.LJ(G:Gr):List bQ:=G.IY.filter λe=>!(e.f==e.t)
theorem Gr.mem_arcs{G:Gr}{e:bQ}:e∈G.IY↔G.FQ e.f e.t=true/\e.w=G.wt e.t/\e.m=-1:=by
 unfold Gr.IY;simp only[List.mem_flatMap,lK,CD]
 constructor
 ·rintro⟨a,_,b,hb,rfl⟩;exact⟨G.CC.1 hb,rfl,rfl⟩
 ·rintro⟨h1,h2,h3⟩
  refine⟨e.f,(G.iI.1 h1).1,e.t,G.CC.2 h1,?_⟩;cases e;simp_all
theorem Gr.Rs{G:Gr}{e:bQ}:e∈G.LJ↔(G.FQ e.f e.t=true/\e.w=G.wt e.t/\e.m=-1)/\e.f≠e.t:=by
 unfold Gr.LJ;rw[jE,G.mem_arcs];simp
theorem Gr.arcs_srt(G:Gr):BD G.IY:=by
 unfold BD Gr.IY;rw[List.pairwise_flatMap];refine⟨λa _=>?_,List.Pairwise.imp (λ{a b} h x hx y hy=>?_) (Rt G.m)⟩
 ·rw[List.pairwise_map]
  have h:(G.kJ a).Pairwise λx y:Int=>x<y:=RS _ (Rt G.m);refine List.Pairwise.imp (λ{x y:Int} (h:x<y)=>?_) h;rw[lP];exact .inr ⟨rfl,h⟩
 ·obtain⟨_,_,rfl⟩:=lK.1 hx
  obtain⟨_,_,rfl⟩:=lK.1 hy;exact lP.2 (.inl h)
theorem zG.VN{G:Gr}(h:zG G):∀e∈G.LJ,ET G.m e/\e.w<=40/\e.m=-1:=λe he=>by
 obtain⟨⟨h1,h2,h3⟩,h4⟩:=G.Rs.1 he;obtain⟨t1,t2,_,_⟩:=G.iI.1 h1;have hw:=h.w1 t2;exact⟨⟨t1.1,t1.2,t2.1,t2.2,h4,aB,aB,.inl h3⟩,aB,h3⟩
theorem zG.TA{G:Gr}(h:zG G):rP G.m G.LJ:=⟨RS _ G.arcs_srt,λe he=>(h.VN e he).1⟩
theorem Gr.arcs_len(G:Gr)(hm:G.m<=51):G.IY.length<=2601:=by
 have:=WI (λa=>(G.kJ a).map λb=>(⟨a,b,G.wt b,-1⟩:bQ)) 51 (nU G.m) λa _=>by rw[oK];have:=G.MR a;omega
 rw[vA] at this;unfold Gr.IY;omega
def qH(c:List Bool)(e:Int):Bool:=c.getD e.toNat false
def Gr.src(G:Gr)(v e:Int):Prop:=G.qD e/\G.to e=v
def Gr.nx(G:Gr)(c:List Bool)(b:Int):List bQ:=if qH c b=true then [] else(G.nW b).map λa=>⟨a,b,G.wt b,-1⟩
theorem Gr.JE{G:Gr}{c:List Bool}{b:Int}{e:bQ}:e∈G.nx c b↔qH c b=false/\G.FQ e.f b=true/\e=⟨e.f,b,G.wt b,-1⟩:=by
 unfold Gr.nx
 split
 ·rename_i h;simp[h]
 ·rename_i h
  rw[lK]
  constructor
  ·rintro⟨a,ha,rfl⟩;exact⟨by simpa using h,G.WE.1 ha,rfl⟩
  ·rintro⟨_,h2,h3⟩;exact⟨e.f,G.WE.2 h2,h3.symm⟩
abbrev Gr.gw(G:Gr)(c:List Bool)(v:Int):Int->Int->Prop:=GW (G.src v) (G.nx c) (λe=>e.f)
theorem zG.nxOk{G:Gr}(h:zG G)(c:List Bool)(v:Int):Qq G.m (G.src v) (G.nx c) (λe=>e.f):=by
 refine⟨λe he=>he.1,λb e he=>?_⟩;obtain⟨_,h2,h3⟩:=G.JE.1 he;obtain⟨t1,t2,_⟩:=G.iI.1 h2;have hw:=h.w1 t2;have:e.w=G.wt b:=by rw[h3]
 exact⟨t1.1,t1.2,aB,by rw[this];simp only[BW];omega⟩
theorem Gr.tn{G:Gr}{c:List Bool}{v a b d:Int}(h:G.gw c v b d)(ht:G.FQ a b=true)(hs:qH c b=false):G.gw c v a (d+G.wt b):=
 GW.gW (en:=λe=>e.f) (⟨a,b,G.wt b,-1⟩:bQ) h (G.JE.2 ⟨hs,ht,rfl⟩)
theorem Gr.gw_inv{G:Gr}{c:List Bool}{v a d:Int}(h:G.gw c v a d):(d=0/\G.src v a)\/∃b d',G.gw c v b d'/\G.FQ a b=true/\qH c b=false/\d=d'+G.wt b:=by
 cases h with
 |nil h=>exact .inl ⟨rfl,h⟩
 | @gW b d' e h he=>
  obtain⟨h1,h2,h3⟩:=G.JE.1 he;have hw:e.w=G.wt b:=by rw[h3]
  exact .inr ⟨b,d',h,h2,h1,by rw[hw]⟩
theorem Gr.gw_open{G:Gr}{c:List Bool}{v a d:Int}(h:G.gw c v a d):G.gw [] v a d:=by
 induction h with
 |nil h=>exact .nil h
 |gW e h he ih=>
  obtain⟨h1,h2,h3⟩:=G.JE.1 he;exact .gW e ih (G.JE.2 ⟨rfl,h2,h3⟩)
theorem zG.ir{G:Gr}(h:zG G){c:List Bool}{v a d:Int}(hw:G.gw c v a d):G.qD a/\0<=d:=by
 have:=hw.mw (h.nxOk c v);exact⟨⟨this.1,this.2.1⟩,this.2.2⟩
theorem zG.walk_gw{G:Gr}{v a b d:Int}(h:fY G.LJ (-1) a b d):∀d0,G.gw [] v b d0->G.gw [] v a (d0+d):=by
 induction h with
 |nil=>intro d0 h0;rw[Int.add_zero];exact h0
 | @gW x d e _ he hf _ ih=>
  intro d0 h0;obtain⟨⟨h1,h2,_⟩,_⟩:=G.Rs.1 he;have h3:=G.tn h0 h1 rfl;rw[hf,<-h2] at h3;have:=ih _ h3;rwa[show d0+(d+e.w)=d0+e.w+d by omega]
theorem zG.gw_walk{G:Gr}(hG:zG G){v a d:Int}(h:G.gw [] v a d):∃d' t,d'<=d/\G.src v t/\fY G.LJ (-1) a t d':=by
 induction h with
 | @nil a h=>exact⟨0,a,oX _,h,.nil⟩
 | @gW b d e h he ih=>
  obtain⟨_,h2,h3⟩:=G.JE.1 he;have hwe:e.w=G.wt b:=by rw[h3]
  have hte:e.t=b:=by rw[h3]
  have hme:e.m=-1:=by rw[h3]
  obtain⟨d',t,IL,ht,hw⟩:=ih;have hwt:=hG.w1 (G.iI.1 h2).2.1;show∃d' t,d'<=d+e.w/\G.src v t/\fY G.LJ (-1) e.f t d'
  by_cases xe:e.f=b
  ·rw[xe];exact⟨d',t,aB,ht,hw⟩
  ·have hnet:e∈G.LJ:=G.Rs.2 ⟨⟨by rw[hte];exact h2,by rw[hte];exact hwe,hme⟩,by rw[hte];exact xe⟩
   have h1:=fY.gW (a:=e.f) e (.nil (L:=G.LJ) (c:=-1)) hnet rfl (by have:=(G.iI.1 h2).2.1.1;omega);rw[Int.zero_add,hte] at h1;exact⟨e.w+d',t,aB,ht,h1.trans hw⟩
def vW(ds:List Int)(e:Int):Int:=ds.getD e.toNat (-1)
abbrev Gr.rX(G:Gr)(c:List Bool)(v:Int)(ds:List Int):Prop:=Ga G.m (G.gw c v) ds
theorem Rv{n:Nat}{P:Int->Int->Prop}{ds:List Int}(h:Ga n P ds){e:Int}(he:0<=e/\e<n):ds[e.toNat]? =some (vW ds e):=by
 have:e.toNat<ds.length:=by have:=h.1;omega
 unfold vW;rw[LN,gS this];rfl
theorem Oc{n:Nat}{P:Int->Int->Prop}{ds:List Int}(h:Ga n P ds){e:Int}(he:0<=e/\e<n):iC (P e) (vW ds e):=by
 have:=h.2 e.toNat _ (Rv h he);rwa[Int.toNat_of_nonneg he.1] at this
def Gr.JD(G:Gr)(c:List Bool)(ds:List Int)(e n:Int):Bool:=!qH c n && (decide (0<=vW ds n) && decide (vW ds n+G.wt n=vW ds e))
def Gr.Ai(G:Gr)(c:List Bool)(ds:List Int)(e:Int):Option Int:=(G.kJ e).find? (G.JD c ds e)
inductive Gr.LV(G:Gr)(c:List Bool)(ds:List Int):Int->List Int->Prop where
 |nil {e:Int} (h:vW ds e=0):LV G c ds e []
 |cons {e n:Int} {l:List Int} (h:0<vW ds e) (hs:G.Ai c ds e=some n) (hl:LV G c ds n l):LV G c ds e (n::l)
theorem Gr.OI{G:Gr}{c:List Bool}{ds:List Int}{e n:Int}(h:G.Ai c ds e=some n):G.FQ e n=true/\qH c n=false/\0<=vW ds n/\vW ds n+G.wt n=vW ds e:=by
 have h1:=List.find?_some h;have h2:=List.mem_of_find?_eq_some h;unfold Gr.JD at h1;simp[tC] at h1;exact⟨G.CC.1 h2,h1.1,h1.2.1,h1.2.2⟩
theorem zG.dsv_gw{G:Gr}(_:zG G){c:List Bool}{v:Int}{ds:List Int}(hd:G.rX c v ds){e:Int}(he:G.qD e)(h:0<=vW ds e):G.gw c v e (vW ds e):=by
 rcases Oc hd he with⟨h1,_⟩|⟨_,h1,_⟩
 ·omega
 ·exact h1
section
variable{G:Gr}(hG:zG G){c:List Bool}{v:Int}{ds:List Int}(hd:G.rX c v ds)
include hG hd
theorem zG.Rb{e d:Int}(h:G.gw c v e d):0<=vW ds e/\vW ds e<=d:=by
 rcases Oc hd (hG.ir h).1 with⟨_,h1⟩|⟨h0,_,h1⟩
 ·exact absurd h (h1 d)
 ·exact⟨h0,h1 d h⟩
theorem zG.step_ex{e:Int}(he:G.qD e)(h:0<vW ds e):∃n,G.Ai c ds e=some n:=by
 rcases G.gw_inv (hG.dsv_gw hd he aB) with⟨h0,_⟩|⟨b,d',h1,h2,h3,h4⟩
 ·omega
 ·obtain⟨g0,g1⟩:=hG.Rb hd h1
  have g2:=hG.dsv_gw hd (hG.ir h1).1 g0;have g3:=(hG.Rb hd (G.tn g2 h2 h3)).2;cases hf:G.Ai c ds e with
  |some n=>exact⟨n,rfl⟩
  |none=>
   unfold Gr.Ai at hf;have:=List.find?_eq_none.1 hf b (G.CC.2 h2);unfold Gr.JD at this;simp[h3,g0] at this;omega
theorem zG.sy:∀(k:Nat) {e:Int},G.qD e->0<=vW ds e->vW ds e<=k->∃l,G.LV c ds e l
 |k,e,he,h0,hk=>by
  rcases Int.lt_or_le 0 (vW ds e) with hp|hp
  ·obtain⟨n,hn⟩:=hG.step_ex hd he hp
   obtain⟨s1,_,s3,s4⟩:=G.OI hn;have hw:=hG.w1 (G.iI.1 s1).2.1;obtain⟨k',rfl⟩:∃k',k=k'+1:=⟨k-1,aB⟩;obtain⟨l,hl⟩:=zG.sy k' (G.iI.1 s1).2.1 s3 aB;exact⟨n::l,.cons hp hn hl⟩
  ·exact⟨[],.nil aB⟩
end
def Gr.oW(G:Gr)(l:List Int):Int:=(l.map G.wt).sum
theorem Gr.Nh(G:Gr)(x:Int)(l:List Int):G.oW (x::l)=G.wt x+G.oW l:=by simp[Gr.oW]
def Gr.BE(G:Gr):Int->List Int->Bool
 |_,[]=>true
 |e,x::l=>G.FQ e x && G.BE x l
theorem Gr.LV.VE{G:Gr}(hG:zG G){c:List Bool}{ds:List Int}{e:Int}{l:List Int}(h:G.LV c ds e l):G.oW l=vW ds e/\G.BE e l=true/\(∀x∈l,G.qD x/\qH c x=false)/\(l.length:Int)<=vW ds e/\vW ds (l.getLast?.getD e)=0:=by
 induction h with
 |nil h=>exact⟨by rw[h];rfl,rfl,by simp,by rw[h];simp,h⟩
 | @cons e n l h hs hl ih=>
  obtain⟨s1,s2,s3,s4⟩:=G.OI hs;obtain⟨i1,i2,i3,i4,i5⟩:=ih;have hn:=(G.iI.1 s1).2.1;have hw:=hG.w1 hn;refine⟨by rw[G.Nh,i1];omega,by simp[Gr.BE,s1,i2],λx hx=>?_,by simp only[nQ];omega,?_⟩
  ·rcases lL.1 hx with rfl|hx
   ·exact⟨hn,s2⟩
   ·exact i3 x hx
  ·rw[List.getLast?_cons];exact i5
theorem Gr.LV.falls{G:Gr}(hG:zG G){c:List Bool}{ds:List Int}{e:Int}{l:List Int}(h:G.LV c ds e l):l.Pairwise (λa b=>vW ds b<vW ds a)/\∀x∈l,vW ds x<vW ds e:=by
 induction h with
 |nil h=>exact⟨List.Pairwise.nil,by simp⟩
 | @cons e n l h hs hl ih=>
  obtain⟨s1,s2,s3,s4⟩:=G.OI hs;have hw:=hG.w1 (G.iI.1 s1).2.1;refine⟨List.pairwise_cons.2 ⟨ih.2,ih.1⟩,λx hx=>?_⟩;rcases lL.1 hx with rfl|hx
  ·omega
  ·have:=ih.2 x hx;omega
theorem Gr.LV.len{G:Gr}(hG:zG G){c:List Bool}{ds:List Int}{e:Int}{l:List Int}(h:G.LV c ds e l):l.length<=G.m:=by
 have h1:=(h.falls hG).1;have h2:=(h.VE hG).2.2.1;refine wJ (List.Pairwise.imp (λ{a b} (h:vW ds b<vW ds a)=>λe=>?_) h1) λx hx=>(h2 x hx).1;rw[e] at h;omega
section
variable{G:Gr}(hG:zG G){c:List Bool}{v:Int}
include hG
end
inductive Gr.ME(G:Gr)(v e:Int)(c:List Bool):List Int->Int->Bool->Bool->Prop where
 |no (h:∀d,G.XR v->¬G.gw c v e d):ME G v e c [] 0 false false
 |near {d0:List Int} {l:List Int} (hv:G.XR v) (he:G.qD e) (h0:G.rX [] v d0) (h:G.LV [] d0 e l) (hs:∀x∈l,qH c x=false):ME G v e c l (G.oW l) true false
 |rX {d0 d1:List Int} {l0 l:List Int} (hv:G.XR v) (he:G.qD e) (h0:G.rX [] v d0) (h1:G.rX c v d1) (hl:G.LV [] d0 e l0) (hs:∃x∈l0,qH c x=true) (h:G.LV c d1 e l):ME G v e c l (G.oW l) true true
theorem cu.front{A:List bQ}{rs:List Int}{a b d:Int}(h:cu A rs a b d):(b=a/\d=0)\/∃e∈A,e.f=a/\cD rs e.f<cD rs e.t/\∃d',cu A rs e.t b d'/\d=e.w+d':=by
 induction h with
 |nil=>exact .inl ⟨rfl,rfl⟩
 | @gW v d e _ he hf hr ih=>
  rcases ih with⟨h1,h2⟩|⟨e1,g1,g2,g3,d',g4,g5⟩
  ·exact .inr ⟨e,he,by rw[hf,h1],hr,0,.nil,aB⟩
  ·exact .inr ⟨e1,g1,g2,g3,d'+e.w,.gW e g4 he hf hr,aB⟩
def UPD(A:List bQ)(R:List Int)(Dn:Int->Int->Prop)(v d:Int):Prop:=∃k d1 d2,cu A R v k d1/\Dn k d2/\d=d1+d2
theorem upd_iff{A:List bQ}{R:List Int}{Dn:Int->Int->Prop}{v d:Int}:UPD A R Dn v d↔Dn v d\/∃e∈upL A R v,∃d',UPD A R Dn e.t d'/\d=e.w+d':=by
 constructor
 ·rintro⟨k,d1,d2,h1,h2,h3⟩
  rcases h1.front with⟨g1,g2⟩|⟨e,g1,g2,g3,d',g4,g5⟩
  ·rw[g1] at h2;exact .inl (by rw[h3,g2,Int.zero_add];exact h2)
  ·refine .inr ⟨e,?_,d'+d2,⟨k,d',d2,g4,h2,rfl⟩,aB⟩
   unfold upL;rw[jE,eJ];exact⟨⟨g1,g2⟩,by rw[<-g2];simpa using g3⟩
 ·rintro(h|⟨e,he,d',⟨k,d1,d2,h1,h2,h3⟩,h4⟩)
  ·exact⟨v,0,d,.nil,h,aB⟩
  ·unfold upL at he
   rw[jE,eJ] at he;obtain⟨⟨g1,g2⟩,g3⟩:=he;have g3':cD R v<cD R e.t:=by simpa using g3
   have:=cu.cons e g1 (by rw[g2];exact g3') rfl h1;rw[g2] at this;exact⟨k,e.w+d1,d2,this,h2,aB⟩
theorem iC.plus{P:Int->Prop}{y w:Int}(h:iC P y)(hw:0<=w):iC (λd=>∃d',P d'/\d=w+d') (if y<0 then-1 else y+w):=by
 rcases h with⟨e,hn⟩|⟨h0,hx,hm⟩
 ·rw[if_pos aB];exact .inl ⟨rfl,λk ⟨d',hd,_⟩=>hn d' hd⟩
 ·rw[if_neg aB]
  exact .inr ⟨aB,⟨y,hx,aB⟩,λk ⟨d',hd,e⟩=>by have:=hm d' hd;omega⟩
theorem iC.lower{P P':Int->Prop}{x y w:Int}(h:iC P x)(h':iC P' y)(hw:0<=w):iC (λd=>P d\/∃d',P' d'/\d=w+d') (if 0<=y/\(x<0\/y+w<x) then y+w else x):=by
 have:=h.or (h'.plus hw);have e:(if 0<=(if y<0 then-1 else y+w)/\(x<0\/(if y<0 then-1 else y+w)<x) then(if y<0 then-1 else y+w) else x)=(if 0<=y/\(x<0\/y+w<x) then y+w else x):=by
  by_cases h1:y<0
  ·rw[if_pos h1,if_neg aB,if_neg aB]
  ·rw[if_neg h1]
   by_cases h2:x<0\/y+w<x
   ·rw[if_pos ⟨aB,h2⟩,if_pos ⟨aB,h2⟩]
   ·rw[if_neg (λh=>h2 h.2),if_neg (λh=>h2 h.2)]
 rwa[e] at this
theorem zi{n:Nat}{L:List bQ}(hL:rP n L)(hw:∀e∈L,e.w<=40)(hn:n<=51){r:Nat}(hr:r<n):∃v:Nat,v<n/\cD (cZ n L n).jA (v:Int)=(r:Int):=by
 have mw:∀v:Nat,v<n->0<=cD (cZ n L n).jA (v:Int)/\cD (cZ n L n).jA (v:Int)<n:=λv hv=>Gt hL hw hn aB aB;have inj:∀v w:Nat,v<n->w<n->cD (cZ n L n).jA (v:Int)=cD (cZ n L n).jA (w:Int)->v=w:=λv w hv hw' e=>by
  rcases Nat.lt_trichotomy v w with h|h|h
  ·exact absurd e (Dr hL hw hn aB aB aB aB aB)
  ·exact h
  ·exact absurd e (Dr hL hw hn aB aB aB aB aB)
 generalize cD (cZ n L n).jA=f at*;have nd:(((List.range n).map λv:Nat=>f (v:Int))).Nodup:=by
  rw[List.Nodup,List.pairwise_map];refine List.Pairwise.imp_of_mem (λ{a b} ha hb (h:a<b) e=>?_) List.pairwise_lt_range;have:=inj a b (List.mem_range.1 ha) (List.mem_range.1 hb) e;omega
 rcases Classical.em (∃v:Nat,v<n/\f (v:Int)=(r:Int)) with h|h
 ·exact h
 ·exfalso
  have key:=wJ (m:=n) (l:=(r:Int)::(List.range n).map λv:Nat=>f (v:Int)) ?_ ?_
  ·simp at key
   omega
  ·rw[List.nodup_cons]
   refine⟨λhm=>?_,nd⟩;obtain⟨v,hv,e⟩:=lK.1 hm;exact h ⟨v,List.mem_range.1 hv,e⟩
  ·intro x hx
   rcases lL.1 hx with rfl|hx
   ·omega
   ·obtain⟨v,hv,rfl⟩:=lK.1 hx
    exact mw v (List.mem_range.1 hv)
theorem zG.kc{G:Gr}(hG:zG G){v:Int}{ds:List Int}
  (h:Ga G.m (UPD (cZ G.m G.LJ G.m).all (cZ G.m G.LJ G.m).jA (GW (uR G.m (G.Tt v)) (DP (cZ G.m G.LJ G.m).all (cZ G.m G.LJ G.m).jA) (λe=>e.f))) ds):G.rX [] v ds:=by
 have hL:=hG.TA;have hw:∀e∈G.LJ,e.w<=40:=λe he=>(hG.VN e he).2.1;have hn:=hG.m1.2;have insrc:∀t,uR G.m (G.Tt v) t↔G.src v t:=λt=>by
  unfold uR;rw[G.sx];exact⟨λh=>h.1,λh=>⟨h,h.1.1,h.1.2⟩⟩
 refine⟨h.1,λa d hd=>?_⟩;have ha:a<G.m:=by have:=(kU.1 hd).1;rw[h.1] at this;exact this
 refine Yy (h.2 a d hd) (λd ⟨k,d1,d2,h1,h2,h3⟩=>?_) (λd hg=>?_)
 ·obtain⟨t,ht,h4⟩:=uc.1 h2
  have hwk:=(ud_iff hL hw hn (a:=(a:Int)) (b:=t) aB aB ht.2.1 ht.2.2).2 k d1 d2 h1 h4;have:=zG.walk_gw hwk 0 (.nil ((insrc t).1 ht));rw[Int.zero_add] at this;exact⟨d,oX _,by rw[h3];exact this⟩
 ·obtain⟨d',t,IL,ht,hwk⟩:=hG.gw_walk hg
  obtain⟨m,d1,d2,h1,h2,h3⟩:=(ud_iff hL hw hn (a:=(a:Int)) (b:=t) aB aB ht.1.1 ht.1.2).1 d' hwk;exact⟨d1+d2,aB,m,d1,d2,h1,uc.2 ⟨t,(insrc t).2 ht,h2⟩,rfl⟩
structure Lo(m:Nat)(A:List bQ)(R:List Int)(Dn:Int->Int->Prop)(i:Nat)(ds:List Int):Prop where
 len:ds.length=m
 up:∀(v:Nat) (x:Int),ds[v]? =some x->(m:Int)-i<=cD R (v:Int)->iC (UPD A R Dn (v:Int)) x
 dn:∀(v:Nat) (x:Int),ds[v]? =some x->cD R (v:Int)<(m:Int)-i->iC (Dn (v:Int)) x
 gH:∀(v:Nat) (x:Int),ds[v]? =some x->-1<=x/\x<=(m+i)*BW
theorem Lo.start{m:Nat}{A:List bQ}{R ds:List Int}{Dn:Int->Int->Prop}(h:Ga m Dn ds)(hr:∀v:Int,0<=v->v<m->cD R v<m)(hb:∀(v:Nat) (x:Int),ds[v]? =some x->-1<=x/\x<=m*BW):Lo m A R Dn 0 ds:=by
 refine⟨h.1,λv x hx hk=>?_,λv x hx _=>h.2 v x hx,λv x hx=>by have:=hb v x hx;simpa using this⟩;have hv:=(kU.1 hx).1;rw[h.1] at hv;have:=hr (v:Int) aB aB;omega
theorem Lo.step{m i:Nat}{A:List bQ}{R ds:List Int}{Dn:Int->Int->Prop}(h:Lo m A R Dn i ds)(gF:∀v w:Nat,v<m->w<m->v≠w->cD R (v:Int)≠cD R (w:Int)){v:Nat}(hv:v<m)(hr:cD R (v:Int)=(m:Int)-1-i){x:Int}
  (hx:iC (UPD A R Dn (v:Int)) x) (hb:-1<=x/\x<=(m+(i+1:Nat))*BW):Lo m A R Dn (i+1) (ds.set v x):=by
 have get:∀{u:Nat} {y:Int},(ds.set v x)[u]? =some y->(u=v/\y=x)\/(u≠v/\u<m/\ds[u]? =some y):=λ{u y} hu=>by
  rw[vR] at hu
  by_cases e:v=u
  ·rw[if_pos e,if_pos (by rw[h.len];omega)] at hu;cases hu;exact .inl ⟨e.symm,rfl⟩
  ·rw[if_neg e] at hu
   exact .inr ⟨λe'=>e e'.symm,by have:=(kU.1 hu).1;rw[h.len] at this;exact this,hu⟩
 refine⟨by rw[pI];exact h.len,λu y hu hk=>?_,λu y hu hk=>?_,λu y hu=>?_⟩
 ·rcases get hu with⟨rfl,rfl⟩|⟨Ez,hum,hu⟩
  ·exact hx
  ·have:=gF u v hum hv Ez
   exact h.up u y hu aB
 ·rcases get hu with⟨rfl,rfl⟩|⟨_,_,hu⟩
  ·omega
  ·exact h.dn u y hu aB
 ·rcases get hu with⟨rfl,rfl⟩|⟨_,_,hu⟩
  ·exact hb
  ·have:=h.gH u y hu
   simp only[BW] at*;omega
theorem Lo.done{m:Nat}{A:List bQ}{R ds:List Int}{Dn:Int->Int->Prop}(h:Lo m A R Dn m ds)(hr:∀v:Int,0<=v->v<m->0<=cD R v):Ga m (UPD A R Dn) ds:=
 ⟨h.len,λv x hx=>h.up v x hx (by
  have hv:=(kU.1 hx).1;rw[h.len] at hv;have:=hr (v:Int) aB aB;omega)⟩
end
def ck(key:Int->Int)(k:Nat)(v:Nat):List Int:=(nU k).filter λe=>decide (key e=(v:Int))
def cK(key:Int->Int)(k:Nat)(v:Nat):Nat:=(ck key k v).length
theorem Xj(key:Int->Int)(k v:Nat):ck key (k+1) v=ck key k v++if key (k:Int)=(v:Int) then [(k:Int)] else []:=by
 unfold ck;rw[HG,IQ];congr 1
 by_cases h:key (k:Int)=(v:Int)<;>simp[h]
theorem VR(key:Int->Int)(k v:Nat):cK key (k+1) v=cK key k v+if key (k:Int)=(v:Int) then 1 else 0:=by
 unfold cK;rw[Xj,mJ]
 split<;>rfl
theorem cK_zero(key:Int->Int)(v:Nat):cK key 0 v=0:=rfl
theorem cK_le(key:Int->Int){k m:Nat}(h:k<=m)(v:Nat):cK key k v<=cK key m v:=by
 induction h with
 |refl=>exact iT _
 |step _ ih=>rw[VR];omega
theorem ja(key:Int->Int)(k v:Nat):cK key k v<=k:=by
 have:=vU (λe=>decide (key e=(v:Int))) (nU k);rw[vA] at this;exact this
def pU(c:Nat->Nat):Nat->Nat
 |0=>0
 |v+1=>pU c v+c v
theorem VM(c:Nat->Nat){v u:Nat}(h:v<u):pU c v+c v<=pU c u:=by
 induction h with
 |refl=>exact iT _
 |step _ ih=>show _<=pU c _+c _;omega
theorem preK_add(c:Nat->Nat)(a:Int)(n:Nat):pU (λv=>c v+if a=(v:Int) then 1 else 0) n=pU c n+if 0<=a/\a<n then 1 else 0:=by
 induction n with
 |zero=>
  have:¬(0<=a/\a<((0:Nat):Int)):=aB;rw[if_neg this];rfl
 |succ n ih=>
  show pU _ n+(c n+_)=pU c n+c n+_;rw[ih]
  by_cases h1:a=(n:Int)
  ·rw[if_neg aB,if_pos h1,if_pos aB];omega
  ·by_cases h2:0<=a/\a<n
   ·rw[if_pos h2,if_neg h1,if_pos aB];omega
   ·rw[if_neg h2,if_neg h1,if_neg aB];omega
theorem WC{key:Int->Int}{n:Nat}:∀{m:Nat},(∀i:Nat,i<m->0<=key (i:Int)/\key (i:Int)<n)->pU (cK key m) n=m
 |0,_=>by
  have:∀n,pU (cK key 0) n=0:=λn=>by
   induction n with
   |zero=>rfl
   |succ n ih=>show pU _ n+cK key 0 n=0;rw[ih];rfl
  exact this n
 |m+1,h=>by
  have e:cK key (m+1)=λv=>cK key m v+if key (m:Int)=(v:Int) then 1 else 0:=by funext v;exact VR key m v
  rw[e,preK_add,WC (m:=m) λi hi=>h i aB,if_pos (h m aB)]
structure VG(key:Int->Int)(n k:Nat)(fs:List Int):Prop where
 len:fs.length=n+1
 zero:fs[0]? =some 0
 val:∀v,v<n->fs[v+1]? =some (cK key k v:Int)
theorem VG.start(key:Int->Int)(n:Nat):VG key n 0 (List.replicate (n+1) 0):=
 ⟨by simp,by simp,λv hv=>by rw[Et,if_pos aB];rfl⟩
theorem VG.step{key:Int->Int}{n k:Nat}{fs:List Int}(h:VG key n k fs){v0:Nat}(hv:v0<n)(hk:key (k:Int)=(v0:Int)):VG key n (k+1) (fs.set (v0+1) ((cK key k v0:Int)+1)):=by
 refine⟨by rw[pI];exact h.len,by rw[vR,if_neg aB];exact h.zero,λv kF=>?_⟩;rw[vR,VR]
 by_cases e:v0=v
 ·subst e
  rw[if_pos rfl,if_pos (by rw[h.len];omega),if_pos hk];simp
 ·rw[if_neg aB,if_neg aB,h.val v kF];simp
structure Fz(c:Nat->Nat)(n j:Nat)(fs:List Int):Prop where
 len:fs.length=n+1
 lo:∀i,i<=j->fs[i]? =some (pU c i:Int)
 hi:∀v,v<n->j<=v->fs[v+1]? =some (c v:Int)
theorem VG.rows2{key:Int->Int}{n m:Nat}{fs:List Int}(h:VG key n m fs):Fz (cK key m) n 0 fs:=
 ⟨h.len,λi hi=>by
  have:i=0:=aB;subst this;exact h.zero,λv hv _=>h.val v hv⟩
theorem Fz.step{c:Nat->Nat}{n j:Nat}{fs:List Int}(h:Fz c n j fs)(hj:j<n):Fz c n (j+1) (fs.set (j+1) ((c j:Int)+(pU c j:Int))):=by
 refine⟨by rw[pI];exact h.len,λi hi=>?_,λv hv hjv=>?_⟩
 ·rw[vR]
  by_cases e:j+1=i
  ·subst e
   rw[if_pos rfl,if_pos (by rw[h.len];omega)];show some _=some ((pU c j+c j:Nat):Int);congr 1;omega
  ·rw[if_neg e];exact h.lo i aB
 ·rw[vR,if_neg aB];exact h.hi v hv aB
structure Fy(key:Int->Int)(n m k:Nat)(nx row:List Int):Prop where
 nl:nx.length=n+1
 nv:∀v,v<n->nx[v]? =some ((pU (cK key m) v+cK key k v:Nat):Int)
 rl:row.length=m
 rv:∀v,v<n->∀j x,(ck key k v)[j]? =some x->row[pU (cK key m) v+j]? =some x
theorem Fz.rows3{key:Int->Int}{n m:Nat}{fs:List Int}(h:Fz (cK key m) n n fs):Fy key n m 0 fs (List.replicate m 0):=
 ⟨h.len,λv hv=>by rw[h.lo v aB,cK_zero];rfl,by simp,λv _ j x hj=>by simp[ck,nU] at hj⟩
theorem Fy.step{key:Int->Int}{n m k:Nat}{nx row:List Int}(h:Fy key n m k nx row)(hkm:k<m)(tD:∀i:Nat,i<m->0<=key (i:Int)/\key (i:Int)<n){v0:Nat}(hv:v0<n)(hk:key (k:Int)=(v0:Int)):
  pU (cK key m) v0+cK key k v0<m/\Fy key n m (k+1) (nx.set v0 (((pU (cK key m) v0+cK key k v0:Nat):Int)+1)) (row.set (pU (cK key m) v0+cK key k v0) (k:Int)):=by
 have oM:=WC tD;have hc:cK key k v0+1<=cK key m v0:=by
  have:=cK_le key (show k+1<=m by omega) v0;rw[VR,if_pos hk] at this;exact this
 have hp:pU (cK key m) v0+cK key k v0<m:=by
  have:=VM (cK key m) hv;omega
 refine⟨hp,by rw[pI];exact h.nl,λv kF=>?_,by rw[pI];exact h.rl,λv kF j x hj=>?_⟩
 ·rw[vR,VR]
  by_cases e:v0=v
  ·subst e
   rw[if_pos rfl,if_pos (by rw[h.nl];omega),if_pos hk];congr 1
  ·rw[if_neg e,if_neg aB,h.nv v kF];rfl
 ·rw[Xj] at hj
  rw[vR];have XS:=(kU.1 hj).1;rw[mJ] at XS
  by_cases cJ:j<(ck key k v).length
  ·rw[Ev cJ] at hj
   have gF:pU (cK key m) v0+cK key k v0≠pU (cK key m) v+j:=λe=>by
    have h1:=cK_le key (show k<=m by omega) v;have FY:j<cK key k v:=cJ;rcases Nat.lt_trichotomy v v0 with h2|h2|h2
    ·have:=VM (cK key m) h2;omega
    ·subst h2;omega
    ·have:=VM (cK key m) h2;omega
   rw[if_neg gF];exact h.rv v kF j x hj
  ·by_cases e:key (k:Int)=(v:Int)
   ·rw[if_pos e] at XS hj
    have uC:j=(ck key k v).length:=by simp at XS;omega
    subst uC;rw[Ew (iT _)] at hj;simp at hj;subst hj;have:v0=v:=aB;subst this;rw[show(ck key k v0).length=cK key k v0 from rfl,if_pos rfl,if_pos (by rw[h.rl];exact hp)]
   ·rw[if_neg e] at XS
    simp at XS;omega
theorem Fy.done{key:Int->Int}{n m:Nat}{nx row:List Int}(h:Fy key n m m nx row)(tD:∀i:Nat,i<m->0<=key (i:Int)/\key (i:Int)<n){v:Nat}(hv:v<n):
  pU (cK key m) v+cK key m v<=m/\(row.drop (pU (cK key m) v)).take (cK key m v)=ck key m v:=by
 have oM:=WC tD;have:=VM (cK key m) hv;refine⟨aB,AX λj=>?_⟩;rw[List.getElem?_take]
 by_cases hj:j<cK key m v
 ·rw[if_pos hj,List.getElem?_drop]
  have uC:j<(ck key m v).length:=hj;rw[gS uC];exact h.rv v hv j _ (gS uC)
 ·rw[if_neg hj,List.getElem?_eq_none]
  show cK key m v<=j;omega
end Go.Den
namespace Go.Den
open Go Go.ChangeShapes Go.WideShapes Go.ChangeAt Go.RowKit
section
abbrev Nc(W w:aH):Prop:=aW (λk=>W.heap.size<=k) W w
theorem Nc.below{W w:aH}(h:Nc W w):Below W.heap.size W w:=aW.below h (iT _)
section
variable{H:Type}{aY:TypeId×Value->H}{P:Program}
theorem QW(hl:laidOutB P=true){W W':aH}{uL:Nat->Bool}:∀{ts:List TypeId} {vs:List Value} {ds:List (DataW H)} {ps:List MemPlace},
  (∀t∈ts,P.readableRec t=true/\t<P.types.size)->DataW.TrodAll aY P W 0 (λ_=>true) true ts vs ds ps->(∀p∈ps,W.sameAt W' p)->(∀p∈ps,uL p.block=true)->DataW.TrodAll aY P W' 0 uL true ts vs ds ps
 | [],[],[],_,_,h,_,_=>h
 |t::ts,v::vs,d::ds,ps,ht,h,hs,hp=>by
  obtain⟨p,q,h1,h2,rfl⟩:=h;refine⟨p,q,WideElems.Trod_stays hl (ht t dK).1 (ht t dK).2 h1 (λx hx=>hs x (by simp[hx])) (λx hx=>hp x (by simp[hx])),?_,rfl⟩;exact QW hl (λu hu=>ht u (by simp[hu])) h2 (λx hx=>hs x (by simp[hx])) (λx hx=>hp x (by simp[hx]))
 | [],_::_,_,_,_,h,_,_=>h.elim
 | [],[],_::_,_,_,h,_,_=>h.elim
 |_::_,[],_,_,_,h,_,_=>h.elim
 |_::_,_::_,[],_,_,h,_,_=>h.elim
theorem NQ{W:aH}{nE:Nat}{sp:Nat->Bool}{hd:Bool}:∀{ts:List TypeId} {vs:List Value} {ds:List (DataW H)} {ps:List MemPlace},DataW.TrodAll aY P W nE sp hd ts vs ds ps->ds.length=ts.length/\vs.length=ts.length
 | [],[],[],_,_=>⟨rfl,rfl⟩
 |_::_,_::_,_::_,_,h=>by obtain⟨_,_,_,h2,_⟩:=h;have:=NQ h2;simp[this.1,this.2]
 | [],_::_,_,_,h=>h.elim
 | [],[],_::_,_,h=>h.elim
 |_::_,[],_,_,h=>h.elim
 |_::_,_::_,[],_,h=>h.elim
theorem law_post{fn:Func}{s:ChangeSpec}{apart fresh handsOn again:Bool}{W W':aH}{args:Array Value}{ds gs:List (DataW H)}{before:List MemPlace}{tb:TypeId}
  (hW:DataW.Whole aY P fn.params.toList s.vars apart W args.toList ds gs before) (hv:s.vars=[])
  (hfn:∀ds:List (DataW H),ds.length=fn.params.size->s.fn H ds={results:=[.lit (.bool true)],args:=ds})
  (hrt:fn.resultTypes=#[tb]) (htb:P.underlying tb=some .bool) (hl:laidOutB P=true) (hread:∀t∈fn.params.toList,P.readableRec t=true/\t<P.types.size) (hS:Nc W W'):
  s.post aY P fn apart fresh handsOn again W args (.bool true) W':=by
 have cJ:=hW.lt;obtain⟨p,q,hA,hV,rfl,hz,hn⟩:=hW;have hW0:DataW.Whole aY P fn.params.toList s.vars apart W args.toList ds gs (p++q):=⟨p,q,hA,hV,rfl,hz,hn⟩;have hV':DataW.TrodVars aY P W (λ_=>true) [] gs q:=by rw[<-hv];exact hV
 obtain⟨rfl,rfl⟩:=trodVars_none hV';have hds:(ds++[]).length=fn.params.size:=by rw[tB,(NQ hA).1];simp
 have hF:=hfn (ds++[]) hds;have hb:=hS.below;have qh:∀x∈p,W.sameAt W' x:=λx hx=>hb.same (cJ x (by simp[hx]));have hargs:∀sp:Nat->Bool,(∀x∈p,sp x.block=true)->DataW.TrodAll aY P W' 0 sp true fn.params.toList args.toList ds p:=λsp hsp=>QW hl hread hA qh hsp;have fi:∀(b:Nat) (sp:Nat->Bool) (hd:Bool),DataW.TrodAll aY P W' b sp hd fn.resultTypes.toList ((Value.bool true).resultList fn.resultTypes.size) [.lit (.bool true)] []:=by
  intro b sp hd;rw[hrt];exact trodAll_mk1 (shut_bool htb true)
 refine⟨ds,[],p++[],[],p,[],hW0,?_,?_,?_,?_,?_⟩
 ·rw[hF];exact fi _ _ _
 ·rw[hF];simp only[tB];exact hargs _ (λx hx=>by simpa using cJ x (by simp[hx]))
 ·rw[hF,hv];exact rfl
 ·exact hb.frame _
 ·intro _
  refine⟨ok_one hrt rfl (okWide_bool_mk htb true),[.lit (.bool true)]++ds,[],[]++p++[],⟨[]++p,[],trodAll_append (hargs _ λ_ _=>rfl) (fi _ _ _),?_,rfl,?_,?_⟩,?_⟩
  ·rw[hv];exact rfl
  ·intro b off hp
   simp only[List.nil_append,tB] at hp;have h1:=cJ (.cell b off) (by simp[hp]);rw[hb.frozen (p:=⟨b,off,none⟩) h1];exact hz b off (by simpa using hp)
  ·intro ha
   simpa using hn ha
  ·intro x hx _
   simpa using hx
end
theorem law_lifted{C:Checked}{os:Os}{f:FuncId}{fn:Func}{s:ChangeSpec}{conds:List PathCond}{apart fresh handsOn again:Bool}{tb:TypeId}{H:Type}{aY:TypeId×Value->H}
  (gN:ownKnob C.prog.godebug=none) (started:os.Started) (noInit:C.prog.inits.idxOf? f=none) (hfn:C.prog.funcs[f]? =some fn)
  (witness:∃(w:aH) (tape:Tape) (i:Input),w.os=os/\(w.forCall tape i).Shaped C.prog/\i.vars=[]/\Input.okWide C.prog (w.forCall tape i) .any w.heap.size f i/\
   s.pre6 aY C.prog fn conds apart (w.forCall tape i).memory i.args/\Assume.holds {} C.prog (lone (Frame.enter C.prog f i.args .normal) [] (w.forCall tape i)))
  (hv:s.vars=[]) (hs:∀ds:List (DataW H),ds.length=fn.params.size->s.fn H ds={results:=[.lit (.bool true)],args:=ds})
  (hrt:fn.resultTypes=#[tb]) (htb:C.prog.underlying tb=some .bool) (hl:laidOutB C.prog=true) (hread:∀t∈fn.params.toList,C.prog.readableRec t=true/\t<C.prog.types.size)
  (contract:∀(W:aH) (nE:Nat) (args:Array Value) (ds:List (DataW H)) (ps:List MemPlace),
   (∀(j:Nat) t v,fn.params[j]? =some t->args[j]? =some v->Value.okWide C.prog W .any nE t v)->
   DataW.TrodAll aY C.prog W 0 (λ_=>true) true fn.params.toList args.toList ds ps->
   Calls C.prog f args W λe W'=>e=.returned (.bool true)/\Nc W W'):
  ReturnsInHanded {} C os f .any (s.pre6 aY C.prog fn conds apart) (s.post aY C.prog fn apart fresh handsOn again):=by
 refine returnsInHanded_of_change gN started noInit hfn witness ?_;intro W nE args ds gs before Qd hW _ _;obtain⟨p,q,hA,_⟩:=id hW;exact(contract W nE args ds p Qd hA).mono λe W' ⟨he,hS⟩=>⟨_,he,law_post hW hv hs hrt htb hl hread hS⟩
section
variable{H:Type}{aY:TypeId×Value->H}{P:Program}{W:aH}
end
end
end Go.Den
namespace Go.Den
open Go
open Go.IntKind (wrap)
def poly:BitVec 32:=2197175160#32
def oz(c:BitVec 32):BitVec 32:=(c>>>1)^^^(if c.getLsbD 0 then poly else 0#32)
def QF:Nat->BitVec 32->BitVec 32
 |0,c=>c
 |n+1,c=>QF n (oz c)
def gy(c:BitVec 32)(b:BitVec 8):BitVec 32:=QF 8 (c^^^b.setWidth 32)
def DQ(c:BitVec 32)(l:List (BitVec 8)):BitVec 32:=l.foldl gy c
def xQ(l:List (BitVec 8)):BitVec 32:= ~~~ DQ (BitVec.allOnes 32) l
theorem Sp(c:BitVec 32)(l m:List (BitVec 8)):DQ c (l++m)=DQ (DQ c l) m:=List.foldl_append ..
theorem ku(c:BitVec 32)(l:List (BitVec 8))(b:BitVec 8):DQ c (l++[b])=gy (DQ c l) b:=by simp[DQ]
theorem Ax:∀(n:Nat) (c:BitVec 32),QF (n+1) c=oz (QF n c)
 |0,_=>rfl
 |n+1,c=>by rw[QF,Ax n];rfl
def parN:Nat->(Nat->Bool)->Bool
 |0,_=>false
 |n+1,f=>xor (parN n f) (f n)
def par{w:Nat}(x:BitVec w):Bool:=parN w x.getLsbD
theorem aAo(c d:BitVec 32):nX .and .u32 (c.toNat:Int) (d.toNat:Int)=((c &&& d).toNat:Int):=by
 show wrap .u32 ((BitVec.ofInt 32 (c.toNat:Int) &&& BitVec.ofInt 32 (d.toNat:Int)).toNat:Int)=_;have hc:BitVec.ofInt 32 (c.toNat:Int)=c:=by simp
 have hd:BitVec.ofInt 32 (d.toNat:Int)=d:=by simp
 rw[hc,hd,IntKind.wrap_u32];have h:(c &&& d).toNat<4294967296:=(c &&& d).isLt;omega
theorem ZI(c d:BitVec 32):nX .xor .u32 (c.toNat:Int) (d.toNat:Int)=((c^^^d).toNat:Int):=by
 show wrap .u32 ((BitVec.ofInt 32 (c.toNat:Int)^^^BitVec.ofInt 32 (d.toNat:Int)).toNat:Int)=_;have hc:BitVec.ofInt 32 (c.toNat:Int)=c:=by simp
 have hd:BitVec.ofInt 32 (d.toNat:Int)=d:=by simp
 rw[hc,hd,IntKind.wrap_u32];have h:(c^^^d).toNat<4294967296:=(c^^^d).isLt;omega
theorem zd(c:BitVec 32):Int.fdiv (c.toNat:Int) (2^(min (Int.toNat (1:Int)) (IntKind.bits .u32)))=((c>>>1).toNat:Int):=by
 rw[BitVec.toNat_ushiftRight,Nat.shiftRight_eq_div_pow];show Int.fdiv (c.toNat:Int) 2=((c.toNat/2:Nat):Int);rw[Int.fdiv_eq_ediv_of_nonneg _ aB];omega
theorem and_one(c:BitVec 32):((c &&& 1#32).toNat:Int)=if c.getLsbD 0 then 1 else 0:=by
 rw[BitVec.toNat_and];simp only[BitVec.getLsbD,Nat.testBit_zero];have:c.toNat &&& (1#32).toNat=c.toNat%2:=Nat.and_one_is_mod _;rw[this];rcases Nat.mod_two_eq_zero_or_one c.toNat with h|h<;>simp[h]
theorem Yf(c:BitVec 32):oz c=if c.getLsbD 0 then(c>>>1)^^^poly else c>>>1:=by unfold oz;split<;>simp
def Edge(zs:List It)(k j:Nat):Prop:=∀x y,zs[k]? =some x->zs[j]? =some y->pW y x=false
def HOk(zs:List It):Prop:=∀j,0<j->Edge zs ((j-1)/2) j
structure UpI(zs:List It)(i:Nat):Prop where
 dE:∀j,0<j->j≠i->Edge zs ((j-1)/2) j
 iH:∀j,0<j->(j-1)/2=i->0<i->Edge zs ((i-1)/2) j
structure Wk(zs:List It)(i:Nat):Prop where
 dE:∀j,0<j->(j-1)/2≠i->Edge zs ((j-1)/2) j
 iH:∀j,0<j->(j-1)/2=i->0<i->Edge zs ((i-1)/2) j
theorem le_trans'{x y z:It}(h:pW y x=false)(h':pW z y=false):pW z x=false:=by
 have h1:¬pW y x=true:=by rw[h];simp
 have h2:¬pW z y=true:=by rw[h'];simp
 have:¬pW z x=true:=by rw[jZ] at*;omega
 simpa using this
theorem pz{x y:It}(h:pW x y=true):pW y x=false:=by
 have:¬pW y x=true:=by rw[jZ] at*;omega
 simpa using this
theorem GU(x:It):pW x x=false:=by
 have:¬pW x x=true:=by rw[jZ];omega
 simpa using this
theorem BO{zs:List It}{i p:Nat}(hi:i<zs.length)(hp:p<zs.length)(x y:It)(j:Nat):((zs.set i y).set p x)[j]? =if j=p then some x else if j=i then some y else zs[j]?:=by
 rw[vR,vR]
 by_cases h1:j=p
 ·subst h1;simp[hp]
 ·rw[if_neg (λe=>h1 e.symm),if_neg h1]
  by_cases h2:j=i
  ·subst h2;simp[hi]
  ·rw[if_neg (λe=>h2 e.symm),if_neg h2]
theorem Qv{zs:List It}{i p:Nat}{x y:It}(hx:zs[i]? =some x)(hy:zs[p]? =some y)(u:It):u∈(zs.set i y).set p x↔u∈zs:=by
 have hi:=(kU.1 hx).1;have hp:=(kU.1 hy).1;rw[oL,oL]
 constructor
 ·rintro⟨j,hj⟩
  rw[BO hi hp] at hj
  split at hj
  ·exact⟨i,hx.trans hj⟩
  ·split at hj
   ·exact⟨p,hy.trans hj⟩
   ·exact⟨j,hj⟩
 ·rintro⟨j,hj⟩
  by_cases h1:j=p
  ·subst h1
   by_cases h2:j=i
   ·subst h2;exact⟨j,by rw[BO hi hp,if_pos rfl,<-hx,hj]⟩
   ·exact⟨i,by rw[BO hi hp,if_neg (λe=>h2 e.symm),if_pos rfl,<-hy,hj]⟩
  ·by_cases h2:j=i
   ·subst h2;exact⟨p,by rw[BO hi hp,if_pos rfl,<-hx,hj]⟩
   ·exact⟨j,by rw[BO hi hp,if_neg h1,if_neg h2,hj]⟩
theorem up_step{zs:List It}{i:Nat}{x y:It}(h:UpI zs i)(hi0:0<i)(hx:zs[i]? =some x)(hy:zs[(i-1)/2]? =some y)(cJ:pW x y=true):UpI ((zs.set i y).set ((i-1)/2) x) ((i-1)/2):=by
 have hi:=(kU.1 hx).1;have hp:=(kU.1 hy).1;have hpi:(i-1)/2<i:=aB;have hxy:=pz cJ;generalize Ui:(i-1)/2=p at*;refine⟨λj hj hjp u v hu hv=>?_,λj hj hjp hp0 u v hu hv=>?_⟩
 ·rw[BO hi hp] at hu hv
  rw[if_neg hjp] at hv
  by_cases CP:j=i
  ·subst CP
   rw[if_pos rfl] at hv;rw[if_pos Ui] at hu;cases hv;cases hu;exact hxy
  ·rw[if_neg CP] at hv
   by_cases h1:(j-1)/2=p
   ·rw[if_pos h1] at hu
    cases hu;exact le_trans' hxy (h.dE j hj CP y v (by rw[h1];exact hy) hv)
   ·rw[if_neg h1] at hu
    by_cases h2:(j-1)/2=i
    ·rw[if_pos h2] at hu
     cases hu;exact h.iH j hj h2 hi0 y v (by rw[Ui];exact hy) hv
    ·rw[if_neg h2] at hu
     exact h.dE j hj CP u v hu hv
 ·rw[BO hi hp] at hu hv
  rw[if_neg aB,if_neg aB] at hu;have na:pW y u=false:=h.dE p hp0 aB u y hu hy;rw[if_neg aB] at hv
  by_cases CP:j=i
  ·rw[if_pos CP] at hv;cases hv;exact na
  ·rw[if_neg CP] at hv
   exact le_trans' na (h.dE j hj CP y v (by rw[hjp];exact hy) hv)
theorem up_end{zs:List It}{i:Nat}{x:It}(h:UpI zs i)(hx:zs[i]? =some x)(he:i=0\/∃y,zs[(i-1)/2]? =some y/\pW x y=false):HOk zs:=by
 intro j hj
 by_cases CP:j=i
 ·subst CP
  rcases he with rfl|⟨y,hy,hn⟩
  ·omega
  ·intro u v hu hv
   rw[hy] at hu;rw[hx] at hv;cases hu;cases hv;exact hn
 ·exact h.dE j hj CP
theorem aAh{zs:List It}{i k:Nat}{x y:It}(h:Wk zs i)(hk0:0<k)(hki:(k-1)/2=i)(hx:zs[i]? =some x)(hy:zs[k]? =some y)(cJ:pW y x=true)
  (fk:∀s,0<s->(s-1)/2=i->∀v,zs[s]? =some v->pW v y=false):Wk ((zs.set i y).set k x) k:=by
 have hi:=(kU.1 hx).1;have hk:=(kU.1 hy).1;have hyx:=pz cJ;refine⟨λj hj hjk u v hu hv=>?_,λj hj hjk hk0' u v hu hv=>?_⟩
 ·rw[BO hi hk] at hu hv
  rw[if_neg hjk] at hu
  by_cases h1:j=k
  ·subst h1
   rw[if_pos rfl] at hv;rw[if_pos hki] at hu;cases hu;cases hv;exact hyx
  ·rw[if_neg h1] at hv
   by_cases h2:j=i
   ·subst h2
    rw[if_pos rfl] at hv;cases hv;rw[if_neg aB] at hu;exact h.iH k hk0 hki aB u y hu hy
   ·rw[if_neg h2] at hv
    by_cases h3:(j-1)/2=i
    ·rw[if_pos h3] at hu
     cases hu;exact fk j hj h3 v hv
    ·rw[if_neg h3] at hu
     exact h.dE j hj h3 u v hu hv
 ·rw[BO hi hk] at hu hv
  rw[hki,if_neg aB,if_pos rfl] at hu;cases hu;rw[if_neg aB,if_neg aB] at hv;exact h.dE j hj aB y v (by rw[hjk];exact hy) hv
theorem Xm{zs:List It}{i:Nat}{x:It}(h:Wk zs i)(hx:zs[i]? =some x)(fk:∀s,0<s->(s-1)/2=i->∀v,zs[s]? =some v->pW v x=false):HOk zs:=by
 intro j hj
 by_cases h1:(j-1)/2=i
 ·intro u v hu hv
  rw[h1,hx] at hu;cases hu;exact fk j hj h1 v hv
 ·exact h.dE j hj h1
theorem HOk.min{zs:List It}(h:HOk zs){r:It}(hr:zs[0]? =some r):∀(j:Nat) (u:It),zs[j]? =some u->pW u r=false:=by
 intro j
 induction j using Nat.strongRecOn with
 |ind j ih=>
  intro u hu
  by_cases hj:j=0
  ·subst hj;rw[hr] at hu;cases hu;exact GU _
  ·have cJ:=(kU.1 hu).1
   have hp:(j-1)/2<zs.length:=aB;exact le_trans' (ih ((j-1)/2) aB _ (gS hp)) (h j aB _ u (gS hp) hu)
structure FD(f:Int->Option Int)(zs:List It)(i:Nat):Prop where
 at_:∀(j:Nat) (z:It),j≠i->zs[j]? =some z->f z.id=some (j:Int)
 dom:∀v k,f v=some k->∃z∈zs,z.id=v
structure tV(f:Int->Option Int)(zs:List It):Prop where
 at_:∀(j:Nat) z,zs[j]? =some z->f z.id=some (j:Int)
 dom:∀v k,f v=some k->∃z∈zs,z.id=v
theorem tV.one{f:Int->Option Int}{zs:List It}(h:tV f zs):By zs:=by
 intro x hx y hy e;obtain⟨i,hi⟩:=oL.1 hx;obtain⟨j,hj⟩:=oL.1 hy;have h1:=h.at_ i x hi;have h2:=h.at_ j y hj;rw[e,h2] at h1;have:j=i:=by have:=uO h1;omega
 subst this;rw[hi] at hj;exact uO hj
theorem FD.swap{f:Int->Option Int}{zs:List It}{i p:Nat}(h:FD f zs i){x y:It}(hx:zs[i]? =some x)(hy:zs[p]? =some y)(hip:i≠p):FD (λv=>if v=y.id then some (i:Int) else f v) ((zs.set i y).set p x) p:=by
 have hi:=(kU.1 hx).1;have hp:=(kU.1 hy).1;refine⟨λj z hj hz=>?_,λv k hv=>?_⟩
 ·rw[BO hi hp,if_neg hj] at hz
  by_cases h1:j=i
  ·rw[if_pos h1] at hz;cases hz;simp[h1]
  ·rw[if_neg h1] at hz
   have h2:=h.at_ j z h1 hz;have:z.id≠y.id:=λe=>by
    have h3:=h.at_ p y (Ne.symm hip) hy;rw[<-e,h2] at h3;have:=uO h3;omega
   simp[this,h2]
 ·replace hv:(if v=_ then _ else f v)=some k:=hv
  by_cases h1:v=y.id
  ·exact⟨y,(Qv hx hy y).2 (zF hy),h1.symm⟩
  ·rw[if_neg h1] at hv
   obtain⟨z,hz,e⟩:=h.dom v k hv;exact⟨z,(Qv hx hy z).2 hz,e⟩
theorem FD.done{f:Int->Option Int}{zs:List It}{i:Nat}(h:FD f zs i){x:It}(hx:zs[i]? =some x)(bp:∀(j:Nat) (z:It),j≠i->zs[j]? =some z->z.id≠x.id):tV (λv=>if v=x.id then some (i:Int) else f v) zs:=by
 refine⟨λj z hz=>?_,λv k hv=>?_⟩
 ·by_cases h1:j=i
  ·subst h1;rw[hx] at hz;cases hz;simp
  ·have:=h.at_ j z h1 hz
   simp[bp j z h1 hz,this]
 ·replace hv:(if v=_ then _ else f v)=some k:=hv
  by_cases h1:v=x.id
  ·exact⟨x,zF hx,h1.symm⟩
  ·rw[if_neg h1] at hv;exact h.dom v k hv
def QT(zs:List It):Prop:=∀(i j:Nat) (x y:It),zs[i]? =some x->zs[j]? =some y->x.id=y.id->i=j
theorem tV.apart{f:Int->Option Int}{zs:List It}(h:tV f zs):QT zs:=by
 intro i j x y hi hj e;have h1:=h.at_ i x hi;have h2:=h.at_ j y hj;rw[e,h2] at h1;have:=uO h1;omega
theorem QT.swap{zs:List It}(h:QT zs){i p:Nat}{x y:It}(hx:zs[i]? =some x)(hy:zs[p]? =some y):QT ((zs.set i y).set p x):=by
 have hi:=(kU.1 hx).1;have hp:=(kU.1 hy).1;have dL:∀(j:Nat) (u:It),((zs.set i y).set p x)[j]? =some u->∃j',zs[j']? =some u/\((j=p/\j'=i)\/(j≠p/\j=i/\j'=p)\/(j≠p/\j≠i/\j'=j)):=by
  intro j u hu;rw[BO hi hp] at hu
  by_cases h1:j=p
  ·rw[if_pos h1] at hu;exact⟨i,hx.trans hu,.inl ⟨h1,rfl⟩⟩
  ·rw[if_neg h1] at hu
   by_cases h2:j=i
   ·rw[if_pos h2] at hu;exact⟨p,hy.trans hu,.inr (.inl ⟨h1,h2,rfl⟩)⟩
   ·rw[if_neg h2] at hu;exact⟨j,hu,.inr (.inr ⟨h1,h2,rfl⟩)⟩
 intro a b u v hu hv e;obtain⟨a',ha,hac⟩:=dL a u hu;obtain⟨b',hb,hbc⟩:=dL b v hv;have:=h a' b' u v ha hb e;omega
def GA(n:Int):Int:=if n<0 then-n else n
def yi(ax ay bx mL:Int):Int:=
 if(ax=0/\ay=0)\/(bx=0/\mL=0) then 0
 else if ax*bx+ay*mL>0/\4*GA (ax*mL-ay*bx)<=ax*bx+ay*mL then 1
 else if ax*bx+ay*mL<0/\4*GA (ax*mL-ay*bx)<=-(ax*bx+ay*mL) then 5
 else if ax*mL-ay*bx>0/\ax*bx+ay*mL>0/\ax*mL-ay*bx<=ax*bx+ay*mL then 2
 else if ax*mL-ay*bx>0/\ax*bx+ay*mL<0/\ax*mL-ay*bx<=-(ax*bx+ay*mL) then 4
 else if ax*mL-ay*bx>0 then 3
 else if ax*bx+ay*mL>0/\-(ax*mL-ay*bx)<=ax*bx+ay*mL then 6
 else if ax*bx+ay*mL<0/\-(ax*mL-ay*bx)<=-(ax*bx+ay*mL) then 8
 else 7
theorem sq_pos{x y:Int}(h:¬(x=0/\y=0)):x*x+y*y≠0:=λe=>by
 have h1:0<=x*x:=by
  rcases Int.le_total 0 x with h|h
  ·exact Int.mul_nonneg h h
  ·exact Int.mul_nonneg_of_nonpos_of_nonpos h h
 have h2:0<=y*y:=by
  rcases Int.le_total 0 y with h|h
  ·exact Int.mul_nonneg h h
  ·exact Int.mul_nonneg_of_nonpos_of_nonpos h h
 have h3:x*x=0:=aB;have h4:y*y=0:=aB;exact h ⟨(Int.mul_eq_zero.1 h3).elim id id,(Int.mul_eq_zero.1 h4).elim id id⟩
theorem aAk{ax ay bx mL:Int}(h1:ax*mL-ay*bx=0)(h2:ax*bx+ay*mL=0):(ax=0/\ay=0)\/(bx=0/\mL=0):=by
 rcases Classical.em (bx=0/\mL=0) with h|h
 ·exact .inr h
 have hs:=sq_pos h;have e1:ax*mL=ay*bx:=aB;have e2:ax*bx=-(ay*mL):=aB;have f1:ax*(bx*bx+mL*mL)=0:=by
  rw[Int.mul_add,<-Int.mul_assoc,<-Int.mul_assoc,e1,e2,Int.neg_mul,Int.mul_assoc,Int.mul_assoc,Int.mul_comm mL bx];omega
 have f2:ay*(bx*bx+mL*mL)=0:=by
  rw[Int.mul_add,<-Int.mul_assoc,<-Int.mul_assoc,<-e1,show ay*mL=-(ax*bx) by omega,Int.neg_mul,Int.mul_assoc,Int.mul_assoc,Int.mul_comm mL bx];omega
 exact .inl ⟨(Int.mul_eq_zero.1 f1).resolve_right hs,(Int.mul_eq_zero.1 f2).resolve_right hs⟩
theorem Dt{x y:Int}(h:-4095<=x/\x<=4095)(h':-4095<=y/\y<=4095):-16769025<=x*y/\x*y<=16769025:=by
 have h1:x.natAbs<=4095:=aB;have h2:y.natAbs<=4095:=aB;have h3:(x*y).natAbs<=4095*4095:=by rw[Int.natAbs_mul];exact EU h1 h2
 omega
def Qm(c d:Int):Int:=
 if d>0/\4*GA c<=d then 1 else if d<0/\4*GA c<=-d then 5 else if c>0/\d>0/\c<=d then 2 else if c>0/\d<0/\c<=-d then 4 else if c>0 then 3
 else if d>0/\-c<=d then 6 else if d<0/\-c<=-d then 8 else 7
theorem clsP_eq{ax ay bx mL:Int}(h:¬((ax=0/\ay=0)\/(bx=0/\mL=0))):yi ax ay bx mL=Qm (ax*mL-ay*bx) (ax*bx+ay*mL):=by
 unfold yi Qm;rw[if_neg h]
def Gr.nd(G:Gr)(i:Int):Int×Int:=G.N.getD i.toNat (0,0)
def Gr.bend(G:Gr)(a b:Int):Int:=yi ((G.nd (G.to a)).1-(G.nd (G.fr a)).1) ((G.nd (G.to a)).2-(G.nd (G.fr a)).2) ((G.nd (G.to b)).1-(G.nd (G.fr b)).1) ((G.nd (G.to b)).2-(G.nd (G.fr b)).2)
theorem Gr.get_nd{G:Gr}{i:Int}(h:G.XR i):G.N[i.toNat]? =some (G.nd i):=by
 have:i.toNat<G.N.length:=by have:=h.2;unfold Gr.n at this;omega
 unfold Gr.nd;rw[LN,gS this];rfl
theorem zG.Qy{G:Gr}(ok:zG G){i:Int}(h:G.XR i):(0<=(G.nd i).1/\(G.nd i).1<=4095)/\0<=(G.nd i).2/\(G.nd i).2<=4095:=ok.nd _ (zF (G.get_nd h))
structure QR where
 cls:Int
 jB:Int
 rX:Int
 left:Int
def Gr.vZ(G:Gr):Int->List Int->Int×Int×Int
 |_,[]=>(9,-1,0)
 |a,e::l=>if(G.kJ a).length≠1 then(G.bend a e,e,0) else((G.vZ e l).1,(G.vZ e l).2.1,G.wt e+(G.vZ e l).2.2)
def Gr.eY(G:Gr)(a:Int)(l:List Int):QR:=⟨(G.vZ a l).1,(G.vZ a l).2.1,(G.vZ a l).2.2,G.oW l⟩
structure lO where
 kind:Int
 pos:Int
 LA:Int
 cH:List Int
 lX:Int
 eY:QR
abbrev MC:QR:=⟨0,0,0,0⟩
def mKind(k:Int):lO:=⟨k,0,0,[],0,MC⟩
def YS(l:List Int)(w:Int):lO:=⟨5,0,0,l,w,MC⟩
def pw(h:QR):lO:=⟨7,0,0,[],0,h⟩
def ij(p:Int):lO:=⟨9,p,0,[],0,MC⟩
abbrev DT:=mKind 4
abbrev WG:=mKind 6
abbrev Gz:=mKind 8
structure LH where
 pos:Int
 node:Int
 jI:List Int
 dF:Bool
 iH:Bool
def pJ(G:Gr)(p:LH):LH×List lO:=if G.to p.pos=p.node then({p with iH:=true},[Gz]) else(p,[pw (G.eY p.pos p.jI)])
def fu(G:Gr)(p:LH)(l:List Int)(w:Int)(f:Bool):LH×List lO:=
 if f then((pJ G {p with jI:=l,dF:=true}).1,YS l w::(pJ G {p with jI:=l,dF:=true}).2) else({p with jI:=l,dF:=false},[WG])
def Lr(G:Gr)(c:List Bool)(p:LH)(z:LH×List lO):Prop:=∃l w f r,G.ME p.node p.pos c l w f r/\z=fu G p l w f
def fy(G:Gr)(c:List Bool)(p:LH)(pos:Int)(z:LH×List lO):Prop:=
 if p.iH=true then z=(p,[]) else if¬G.qD pos then z=(p,[ij pos]) else if p.dF=true/\pos=p.pos then z=pJ G p
 else if p.dF=true/\p.jI.head? =some pos then z=pJ G {p with pos:=pos,jI:=p.jI.tail} else Lr G c {p with pos:=pos} z
def Lp(G:Gr)(c:List Bool)(p:LH)(CS open_:List Int)(z:LH×List lO):Prop:=
 if p.iH=true then z=(p,[]) else if p.dF=true then(if∃e∈p.jI,e∈CS then Lr G c p z else z=(p,[]))
 else if open_=[] then z=(p,[]) else∃z',Lr G c p z'/\z=(z'.1,if z'.1.dF=true then z'.2 else [])
structure UB(G:Gr)(p:LH):Prop where
 pos:G.qD p.pos
 node:G.XR p.node
 wE:∀x∈p.jI,G.qD x
 len:p.jI.length<=51
 Eo:p.dF=true->G.BE p.pos p.jI=true
 none:p.dF=false->p.jI=[]
theorem Gr.ME.VE{G:Gr}(ok:zG G){v e:Int}{c:List Bool}{l:List Int}{w:Int}{f r:Bool}(h:G.ME v e c l w f r):(∀x∈l,G.qD x)/\l.length<=51/\(f=true->G.BE e l=true/\w=G.oW l)/\(f=false->l=[]/\w=0):=by
 have hm:=ok.m1.2;cases h with
 |no=>exact⟨by simp,by simp,λh=>(by cases h),λ_=>⟨rfl,rfl⟩⟩
 |near _ _ _ hl _=>
  have:=hl.len ok;have hf:=hl.VE ok;exact⟨λx hx=>(hf.2.2.1 x hx).1,aB,λ_=>⟨hf.2.1,rfl⟩,λh=>by cases h⟩
 |rX _ _ _ _ _ _ hl=>
  have:=hl.len ok;have hf:=hl.VE ok;exact⟨λx hx=>(hf.2.2.1 x hx).1,aB,λ_=>⟨hf.2.1,rfl⟩,λh=>by cases h⟩
theorem UB.pJ{G:Gr}{p:LH}(h:UB G p):UB G (pJ G p).1:=by
 unfold Den.pJ
 split
 ·exact⟨h.pos,h.node,h.wE,h.len,h.Eo,h.none⟩
 ·exact h
theorem ask_ok{G:Gr}(ok:zG G){p:LH}(hp:G.qD p.pos)(hn:G.XR p.node){l:List Int}{w:Int}{f r:Bool}{c:List Bool}(ha:G.ME p.node p.pos c l w f r):UB G (fu G p l w f).1/\(f=true->UB G {p with jI:=l,dF:=true}):=by
 obtain⟨h1,h2,h3,h4⟩:=ha.VE ok;have hs:f=true->UB G {p with jI:=l,dF:=true}:=λhf=>⟨hp,hn,h1,h2,λ_=>(h3 hf).1,λh=>by cases h⟩;refine⟨?_,hs⟩;unfold fu
 split
 ·rename_i hf;exact(hs hf).pJ
 ·rename_i hf
  have XT:f=false:=by simpa using hf
  exact⟨hp,hn,h1,h2,λh=>(by cases h),λ_=>(h4 XT).1⟩
theorem UB.move{G:Gr}{p:LH}(h:UB G p){x:Int}(hx:G.qD x)(hh:p.dF=true/\p.jI.head? =some x):UB G {p with pos:=x,jI:=p.jI.tail}:=by
 have hw:=h.Eo hh.1;cases hp:p.jI with
 |nil=>rw[hp] at hh;cases hh.2
 |cons y l=>
  have hy:y=x:=by have:=hh.2;rw[hp] at this;simpa using this
  subst hy;rw[hp] at hw;have h2:=h.wE;have h3:=h.len;rw[hp] at h2 h3;simp only[Gr.BE,tC] at hw;exact⟨hx,h.node,λz hz=>h2 z (by simp at hz;simp[hz]),by simp at h3 ⊢;omega,λ_=>hw.2,λh4=>by have h5:p.dF=false:=h4;rw[hh.1] at h5;cases h5⟩
abbrev dA:=BitVec 8
def be:Nat->Nat->List dA
 |0,_=>[]
 |s+1,x=>BitVec.ofNat 8 (x/256^s)::be s x
def de(n:Nat)(l:List dA):Nat:=l.foldl (λn c=>n*256+c.toNat) n
theorem qL(s x:Nat):(be s x).length=s:=by
 induction s with
 |zero=>rfl
 |succ s ih=>simp[be,ih]
theorem de_be(s:Nat):∀(n x:Nat),x<256^s->de n (be s x)=n*256^s+x:=by
 induction s with
 |zero=>intro n x h;simp at h;simp[be,de,h]
 |succ s ih=>
  intro n x h;have e:de n (be (s+1) x)=de (n*256+(BitVec.ofNat 8 (x/256^s)).toNat) (be s x):=rfl;have hp:0<256^s:=Nat.pow_pos aB;have cJ:x/256^s<256:=by
   rw[Nat.div_lt_iff_lt_mul hp,Nat.mul_comm,<-Nat.pow_succ];exact h
  have hb:be s x=be s (x%256^s):=by
   have key:∀j,j<=s->be j x=be j (x%256^s):=by
    intro j
    induction j with
    |zero=>intro _;rfl
    |succ j ihj=>
     intro hj;simp only[be];rw[ihj aB];congr 1;apply BitVec.eq_of_toNat_eq;simp only[BitVec.toNat_ofNat];have hs:(256:Nat)^s=256^j*256^(s-j):=by rw[<-Nat.pow_add];congr 1;omega
     have h2:x%256^s/256^j=x/256^j%256^(s-j):=by
      rw[hs,Nat.mod_mul_right_div_self]
     rw[h2,show(2:Nat)^8=256 from rfl];have h3:(256:Nat) ∣ 256^(s-j):=by
      rw[show s-j=(s-j-1)+1 by omega,Nat.pow_succ];exact Nat.dvd_mul_left _ _
     rw[Nat.mod_mod_of_dvd _ h3]
   exact key s (iT _)
  rw[e,hb,ih _ _ (Nat.mod_lt _ hp),BitVec.toNat_ofNat,Nat.mod_eq_of_lt (by simpa using cJ)];have:=Nat.div_add_mod x (256^s);rw[Nat.pow_succ]
  calc (n*256+x/256^s)*256^s+x%256^s=n*(256^s*256)+(256^s*(x/256^s)+x%256^s):=by rw[Nat.add_mul,Nat.mul_assoc,Nat.mul_comm 256 (256^s),Nat.mul_comm (x/256^s),Nat.add_assoc]
   _=n*(256^s*256)+x:=by rw[this]
def uD(m:lO):List dA:=
 be 1 m.kind.toNat++
 if m.kind=1 then be 2 m.pos.toNat++be 2 m.LA.toNat
 else if m.kind=2\/m.kind=9 then be 2 m.pos.toNat
 else if m.kind=5 then be 5 m.lX.toNat++be 2 m.cH.length++m.cH.flatMap (λe=>be 2 e.toNat)
 else if m.kind=7 then be 1 m.eY.cls.toNat++be 2 (m.eY.jB+1).toNat++be 5 m.eY.rX.toNat++be 5 m.eY.left.toNat
 else []
def u16(x:Int):Prop:=0<=x/\x<65536
def u32(x:Int):Prop:=0<=x/\x<4294967296
def u40(x:Int):Prop:=0<=x/\x<1099511627776
structure uM(m:lO):Prop where
 kind:1<=m.kind/\m.kind<=9
 pos:if m.kind=1\/m.kind=2\/m.kind=9 then u16 m.pos else m.pos=0
 LA:if m.kind=1 then u16 m.LA else m.LA=0
 cH:if m.kind=5 then m.cH.length<=512/\∀e∈m.cH,u16 e else m.cH=[]
 lX:if m.kind=5 then u40 m.lX else m.lX=0
 eY:if m.kind=7 then(0<=m.eY.cls/\m.eY.cls<256)/\u16 (m.eY.jB+1)/\u40 m.eY.rX/\u40 m.eY.left else m.eY=⟨0,0,0,0⟩
structure gA where
 aP:Int
 kind:Int
 seq:Int
 LG:Int
 code:Int
 body:List dA
structure WfG(g:gA):Prop where
 kind:g.kind=1\/g.kind=2\/g.kind=3
 aP:u32 g.aP
 seq:if g.kind=1 then u32 g.seq else g.seq=0
 LG:if g.kind=3 then g.LG=0 else u32 g.LG
 code:if g.kind=3 then 0<=g.code/\g.code<256 else g.code=0
 body:if g.kind=1 then g.body.length<=1900 else g.body=[]
def mQ(g:gA):List dA:=
 be 4 g.aP.toNat++if g.kind=1 then be 4 g.seq.toNat++be 4 g.LG.toNat++g.body else if g.kind=2 then be 4 g.LG.toNat else be 1 g.code.toNat
def fQ(kind:Int)(b:List dA):List dA:=be 1 77++be 1 3++be 1 kind.toNat++be 2 b.length++b
def wH(kind:Int)(b:List dA):List dA:=fQ kind b++be 4 (xQ (fQ kind b)).toNat
def An(g:gA):List dA:=wH g.kind (mQ g)
section
def Vh(w:aH)(S:BS)(B:As)(R:As->As):Prop:=∃S1,B w S1/\(∀k,S1 k->S k)/\∀B' D M w' AU,aW M w w'->(∀k,M k->S1 k\/¬S k)->(∀k,AU k->S1 k\/¬S k)->aZ B' D w' AU->∃S',aZ (R B') D w' S'/\∀k,S' k->(S k/\¬S1 k)\/AU k
section
variable{A B C L:As}{w:aH}{S:BS}{R R':As->As}
theorem aZ.lG[bF B](h:aZ A B w S):Vh w S A λX=>aZ X B:=by
 obtain⟨S1,S2,h1,h2,d,e⟩:=h;refine⟨S1,h1,λk hk=>(e k).2 (.inl hk),λA' D M w' T m hM hT' hT=>?_⟩;obtain⟨T1,T2,a,b,d',e'⟩:=hT;have n2:∀k,S1 k\/¬S k->¬S2 k:=λk hk h=>hk.elim (λh1=>d k h1 h) λhn=>hn ((e k).2 (.inr h));have dd:∀k,T k->¬S2 k:=λk hk=>n2 k (hT' k hk);refine⟨λk=>(T1 k\/S2 k)\/T2 k,⟨λk=>T1 k\/S2 k,T2,⟨T1,S2,a,bF.aK h2 m λk hk lD=>n2 k (hM k lD) hk,λk h1 h2=>dd k ((e' k).2 (.inl h1)) h2,λ_=>Iff.rfl⟩,b,λk h1 h2=>h1.elim (λh=>d' k h h2) λh=>dd k ((e' k).2 (.inr h2)) h,λ_=>Iff.rfl⟩,λk hk=>?_⟩;rcases hk with(hk|hk)|hk
 ·exact .inr ((e' k).2 (.inl hk))
 ·exact .inl ⟨(e k).2 (.inr hk),λh=>d k h hk⟩
 ·exact .inr ((e' k).2 (.inr hk))
theorem aZ.rG[bF A](h:aZ A B w S):Vh w S B λX=>aZ A X:=by
 obtain⟨S1,h1,hs,dL⟩:=aZ.lG h.cm;refine⟨S1,h1,hs,λB' D M w' T m hM hT' hT=>?_⟩;obtain⟨S',h',u'⟩:=dL B' D M w' T m hM hT' hT;exact⟨S',h'.mono (λ_ h=>h.cm) λ_ h=>h,u'⟩
theorem Vh.c(f:Vh w S B R)(g:∀T,B w T->Vh w T C R'):Vh w S C λX=>R (R' X):=by
 obtain⟨S1,h1,hs,dL⟩:=f;obtain⟨S2,h2,FM,GN⟩:=g S1 h1;refine⟨S2,h2,λk hk=>hs k (FM k hk),λB' D M w' T m hM hT' hT=>?_⟩;obtain⟨T',h',u'⟩:=GN B' D M w' T m (λk hk=>(hM k hk).imp id λh h1=>h (hs k h1)) (λk hk=>(hT' k hk).imp id λh h1=>h (hs k h1)) hT;obtain⟨T2,h3,u3⟩:=dL _ D M w' T' m (λk hk=>(hM k hk).imp (FM k) id) (λk hk=>(u' k hk).elim (λh=>.inl h.1) λh=>(hT' k h).imp (FM k) id) h';refine⟨T2,h3,λk hk=>?_⟩;rcases u3 k hk with h|h
 ·exact .inl ⟨h.1,λh2=>h.2 (FM k h2)⟩
 ·rcases u' k h with h|h
  ·exact .inl ⟨hs k h.1,h.2⟩
  ·exact .inr h
end
theorem vX.atG{α:Type}{f:α->As}[h:∀x,bF (f x)]:∀{l:List α} {i:Nat} {x:α} {w:aH} {S:BS},vX f l w S->l[i]? =some x->Vh w S (f x) λX=>Ar f X l i
 |y::r,0,x,w,S,hA,hx=>by cases hx;exact aZ.lG hA
 |y::r,i+1,x,w,S,hA,hx=>Vh.c (aZ.rG hA) λT hT=>vX.atG (l:=r) (i:=i) hT (by simpa using hx)
end
end Go.Den
namespace Go.Den
open Go Go.MapKept
section
def yN(a:Nat):Value:=.pointer (some ⟨a,0,none⟩)
def yW(w:aH)(k:Nat):Prop:=∃cs e,w.heap[k]? =some (.cells cs e (0,0))
theorem cW.Qz{w:aH}{g:Nat}{e:TypeId}{cs:List Value}(h:cW w g e cs):yW w g:=⟨_,_,h⟩
structure yk(P:Program)(kt:TypeId):Prop where
 ex:∃te n,P.underlying kt=some (.pointer te)/\(P.info? te).map (·.size)=some n/\n≠0
theorem zn(x:Nat):Instr.sameBits 10000 (yN x) (yN x)=true:=by simp[Instr.sameBits,yN]
section
variable{P:Program}{kt:TypeId}
theorem ON(hp:yk P kt)(e:Bool)(x:Nat)(w:aH):(Instr.checkKey e 10000 kt (yN x)).run P w=.ok () w:=by
 obtain⟨te,n,h1,_⟩:=hp.ex;unfold Instr.checkKey;simp[run_underlying h1,yN]
theorem qn(hp:yk P kt)(w:aH)(x:Nat)(hx:yW w x)(l:List MapEntry)(ks:List Nat)(hks:∀k∈ks,yW w k)(h:l.map (·.key)=ks.map yN):
  (x∉ks/\(Instr.findKey kt (yN x) l).run P w=.ok none w)\/∃j e,ks[j]? =some x/\l[j]? =some e/\(Instr.findKey kt (yN x) l).run P w=.ok (some (j,e.val)) w:=by
 obtain⟨te,n,hd,hte,hn⟩:=hp.ex;have LD:∀w,(sizeOf te).run P w=.ok n w:=λw=>by
  cases hq:P.info? te with
  |none=>rw[hq] at hte;cases hte
  |some i=>rw[hq] at hte;simp at hte;rw[yC hq w,hte]
 have heq:∀q,yW w q->(Op.equal kt (yN x) (yN q)).run P w=.ok (decide (x=q)) w:=λq hq=>by
  unfold Op.equal Op.maxDepth Op.equalIn yN;simp only[Sem.run_bind,run_underlying hd,LD,Result.andThen_ok]
  by_cases hxq:x=q
  ·subst hxq
   simp[hn,run_sameAddr_same]
  ·obtain⟨c1,e1,g1⟩:=hx
   obtain⟨c2,e2,g2⟩:=hq;have gF:(⟨x,0,none⟩:Addr)≠⟨q,0,none⟩:=λh=>hxq (by injection h);simp[hn,run_sameAddr_other w gF g1 g2,hxq]
 have ask:∀(l:List MapEntry) (ks:List Nat) (i:Nat),(∀k∈ks,yW w k)->l.map (·.key)=ks.map yN->
   (x∉ks/\(Instr.findAsking kt (yN x) l i).run P w=.ok none w)\/∃j e,ks[j]? =some x/\l[j]? =some e/\(Instr.findAsking kt (yN x) l i).run P w=.ok (some (i+j,e.val)) w:=by
  intro l
  induction l with
  |nil=>intro ks i _ h;cases ks with
   |nil=>exact .inl ⟨by simp,by simp[Instr.findAsking]⟩
   |cons=>simp at h
  |cons en l ih=>
   intro ks i hc h;cases ks with
   |nil=>simp at h
   |cons q ks=>
    simp only[List.map_cons,List.cons.injEq] at h;have h0:=heq q (hc q dK);rw[<-h.1] at h0
    by_cases hq:x=q
    ·refine .inr ⟨0,en,by simp[hq],rfl,?_⟩
     rw[hq] at h0;simp[Instr.findAsking,h0,hq]
    ·have pX:(Instr.findAsking kt (yN x) (en::l) i).run P w=(Instr.findAsking kt (yN x) l (i+1)).run P w:=by
      simp[Instr.findAsking,h0,hq]
     rcases ih ks (i+1) (λk hk=>hc k (by simp[hk])) h.2 with⟨h1,h2⟩|⟨j,e',h1,h2,h3⟩
     ·exact .inl ⟨by simp[hq,h1],by rw[pX];exact h2⟩
     ·exact .inr ⟨j+1,e',by simpa using h1,by simpa using h2,by rw[pX,h3,show i+1+j=i+(j+1) by omega]⟩
 have key:(Instr.findKey kt (yN x) l).run P w=(Instr.findAsking kt (yN x) l 0).run P w:=by
  unfold Instr.findKey;cases l with
  |nil=>simp[run_underlying hd,Instr.findNow,Instr.findAsking]
  |cons en l=>
   have:Instr.findNow (.pointer te) (yN x) (en::l) 0=none:=by simp[Instr.findNow,Instr.sameNow,yN]
   simp[run_underlying hd,this]
 rw[key];simpa using ask l ks 0 hks h
end
section
variable{P:Program}{w:aH}{r:Nat}{kn:nO}{f:Nat->Option kn.T}{n:Nat}
theorem jP.qn{kt:TypeId}(hp:yk P kt)(h:jP w r yN kn f n)(x:Nat)(w':aH)(hc:∀k,(f k).isSome=true->yW w' k)(hx:yW w' x):∃(es:Array MapEntry) (DR:Nat) (l:List (Nat×kn.T)),w.heap[r]? =some (.map es DR)/\es.toList.map (·.key)=l.map (λp=>yN p.1)/\es.toList.map (·.val)=l.map (λp=>kn.aY p.2)/\(l.map (·.1)).Nodup/\(∀x,f x=wD l x)/\l.length=n/\PV es DR/\
  ((x∉l.map (·.1)/\f x=none/\(Instr.findKey kt (yN x) es.toList).run P w'=.ok none w')\/∃j v,f x=some v/\l[j]? =some (x,v)/\j<es.size/\(es.toList[j]?).map (·.key)=some (yN x)/\(Instr.findKey kt (yN x) es.toList).run P w'=.ok (some (j,kn.aY v)) w'):=by
 obtain⟨es,c,l,h1,h2,h3,h4,h5,h6,hB⟩:=h;refine⟨es,c,l,h1,h2,h3,h4,h5,h6,hB,?_⟩;rcases Go.Den.qn hp w' x hx es.toList (l.map (·.1)) (λk hk=>hc k (by rw[h5,GR];exact hk)) (by rw[h2,List.map_map];rfl) with⟨g1,g2⟩|⟨j,e,g1,g2,g3⟩
 ·exact .inl ⟨g1,by rw[h5,HE g1],g2⟩
 ·right
  rw[mF] at g1;cases hj:l[j]? with
  |none=>rw[hj] at g1;cases g1
  |some p=>
   rw[hj] at g1;have hp:p.1=x:=by simpa using g1
   obtain⟨y,v⟩:=p;simp only at hp;subst hp;have hv:e.val=kn.aY v:=by
    have:(es.toList.map (·.val))[j]? =some e.val:=by rw[mF,g2];rfl
    rw[h3,mF,hj] at this;simpa using this.symm
   have tD:(es.toList[j]?).map (·.key)=some (yN y):=by
    have:(es.toList.map (·.key))[j]? =some (yN y):=by rw[h2,mF,hj];rfl
    rwa[mF] at this
   refine⟨j,v,by rw[h5,ZC h4 hj],hj,by simpa using(kU.1 g2).1,tD,by rw[<-hv];exact g3⟩
theorem zr{kt et:TypeId}{t:TypeId}(ht:P.underlying t=some (.map kt et))(hp:yk P kt){z:kn.T}(hz:(P.info? et).map (·.zero)=some (some (kn.aY z)))(h:jP w r yN kn f n)(x:Nat)(hc:∀k,(f k).isSome=true->yW w k)(hx:yW w x){Q:kn.T->aH->Prop}
  (hQ:Q ((f x).getD z) w):jY P kn t (.map (some r)) (yN x) w Q:=by
 obtain⟨es,c,l,h1,h2,h3,h4,h5,h6,hB,hf⟩:=h.qn hp x w hc hx;have hzv:(zeroValue et).run P w=.ok (kn.aY z) w:=by
  cases hq:P.info? et with
  |none=>rw[hq] at hz;cases hz
  |some i=>rw[hq] at hz;simp at hz;simp[zeroValue,typeInfo,hq,hz]
 rcases hf with⟨_,g,pX⟩|⟨j,v,g,_,_,_,pX⟩
 ·rw[g] at hQ
  exact⟨z,w,by simp[Instr.lookup,run_underlying ht,MapKept.run_getObj_map h1,ON hp,pX,hzv],hQ⟩
 ·rw[g] at hQ
  exact⟨v,w,by simp[Instr.lookup,run_underlying ht,MapKept.run_getObj_map h1,ON hp,pX],hQ⟩
theorem update_p{kt et:TypeId}{t:TypeId}(ht:P.underlying t=some (.map kt et))(hp:yk P kt)(h:jP w r yN kn f n)(x:Nat)(v:kn.T)(hc:∀k,(f k).isSome=true->yW w k)(hx:yW w x){Q:aH->Prop}
  (hQ:∀w',jP w' r yN kn (λy=>if y=x then some v else f y) (if(f x).isSome then n else n+1)->aW (λk=>k=r) w w'->w'.heap.size=w.heap.size->Q w'):fE P t (.map (some r)) (yN x) (kn.aY v) w Q:=by
 obtain⟨es,c,l,h1,h2,h3,h4,h5,h6,hB,hf⟩:=h.qn hp x w hc hx;rcases hf with⟨Db,g,pX⟩|⟨j,u,g,hj,hjs,tD,pX⟩
 ·refine⟨{w with heap:=w.heap.setIfInBounds r (.map (es.push {key:=yN x,val:=kn.aY v,born:=c}) (c+1))},by simp[Instr.mapUpdate,run_underlying ht,MapKept.run_getObj_map h1,ON hp,pX,run_setObj_map _ h1],hQ _ ?_ (kR w r _) dK⟩
  refine⟨_,_,l++[(x,v)],(heap_set h1).1,by simp[h2],by simp[h3],?_,λy=>?_,by rw[g];simp[h6],hB.push _ _⟩
  ·rw[yQ,List.nodup_append]
   exact⟨h4,by simp,λa ha b hb=>by simp at hb;subst hb;exactλe=>Db (e▸ha)⟩
  ·show(if y=x then some v else f y)=_
   rw[DX Db y,h5]
 ·obtain⟨e,he⟩:∃e,es.toList[j]? =some e:=⟨_,gS (by simpa using hjs)⟩
  have hek:e.key=yN x:=by rw[he] at tD;simpa using tD
  have hea:es[j]? =some e:=by simpa using he
  refine⟨{w with heap:=w.heap.setIfInBounds r (.map (es.modify j λe=>{e with key:=yN x,val:=kn.aY v}) c)},by simp[Instr.mapUpdate,run_underlying ht,MapKept.run_getObj_map h1,ON hp,pX,run_setObj_map _ h1,Instr.keyThatStays,hea,hek,zn],hQ _ ?_ (kR w r _) dK⟩;refine⟨_,_,l.set j (x,v),(heap_set h1).1,?_,?_,?_,λy=>?_,by rw[g];simp[h6],hB.modify j (λe=>{e with key:=yN x,val:=kn.aY v}) λ_=>rfl⟩
  ·rw[NT es j _ _ tD,h2]
   apply AX;intro i;simp only[mF,vR]
   by_cases hi:j=i
   ·subst hi
    have cJ:=(kU.1 hj).1;rw[hj];simp[cJ]
   ·simp[hi]
  ·rw[NS,h3,List.map_set]
  ·have:(l.set j (x,v)).map (·.1)=l.map (·.1):=by
    apply AX;intro i;simp only[mF,vR]
    by_cases hi:j=i
    ·subst hi
     have cJ:=(kU.1 hj).1;rw[hj];simp[cJ]
    ·simp[hi]
   rw[this];exact h4
  ·show(if y=x then some v else f y)=_
   rw[WD h4 (by rw[hj];rfl) y,h5]
theorem aAl{K:Type}[DecidableEq K]{ek:K->Value}{f:K->Option kn.T}{t k e:TypeId}(ht:P.underlying t=some (.map k e))(h:jP w r ek kn f n){Q:aH->Prop}
  (hQ:∀w',jP w' r ek kn (λ_=>none) 0->aW (λk=>k=r) w w'->w'.heap.size=w.heap.size->Q w'):BU P t (.map (some r)) w Q:=by
 obtain⟨es,c,l,h1,_⟩:=h;refine⟨(),{w with heap:=w.heap.setIfInBounds r (.map #[] c)},?_,hQ _ ⟨#[],c,[],(heap_set h1).1,rfl,rfl,List.nodup_nil,λ_=>rfl,rfl,by simp,List.nodup_nil⟩ (kR w r _) dK⟩;simp[Builtin.clear_,run_underlying ht,MapKept.run_getObj_map h1,run_setObj_map _ h1,yS]
end
end
end Go.Den
namespace Go.Den
open Go
section
set_option linter.unusedSectionVars false
def gE{ι:Type}(A:ι->As):As:=λw S=>∃gN:Nat->Option ι,(∀i,A i w (λk=>gN k=some i))/\∀k,S k↔∃i,gN k=some i
instance gE.loc{ι:Type}{A:ι->As}[h:∀i,bF (A i)]:bF (gE A):=⟨
 λ⟨gN,ha,e⟩ k hk=>by obtain⟨i,hi⟩:=(e k).1 hk;exact(h i).gH (ha i) k hi,
 λ⟨gN,ha,e⟩ m hn=>⟨gN,λi=>(h i).aK (ha i) m λk hk=>hn k ((e k).2 ⟨i,hk⟩),e⟩⟩
theorem As.ext{A:As}{w:aH}{S T:BS}(h:A w S)(e:∀k,S k↔T k):A w T:=by
 have:S=T:=funext λk=>propext (e k);rwa[<-this]
section
variable{ι:Type}[DecidableEq ι]{A:ι->As}{w:aH}{S:BS}
abbrev EO(A:ι->As)(i:ι)(X:As):ι->As:=λj=>if j=i then X else A j
omit [DecidableEq ι] in
theorem gE.get(h:gE A w S)(i:ι):∃S1,A i w S1/\∀k,S1 k->S k:=by
 obtain⟨gN,ha,e⟩:=h;exact⟨_,ha i,λk hk=>(e k).2 ⟨i,hk⟩⟩
theorem gE.at2[hl:∀i,bF (A i)](h:gE A w S){i j:ι}(RL:i≠j):∃S1,aZ (A i) (A j) w S1/\(∀k,S1 k->S k)/\∀B C D w' T,Up S1 T w w'->aZ (aZ B C) D w' T->∃S',aZ (gE (EO (EO A i B) j C)) D w' S'/\Up S S' w w':=by
 have hb:=bF.gH h;obtain⟨gN,ha,e⟩:=h;refine⟨λk=>gN k=some i\/gN k=some j,aZ.vP (ha i) (ha j) λk h1 h2=>RL (uO (h1.symm.trans h2)),λk hk=>(e k).2 (hk.elim (λh=>⟨_,h⟩) λh=>⟨_,h⟩),λB C D w' T u hT=>?_⟩;obtain⟨TX,TD,⟨TB,TC,hB,hC,dBC,eBC⟩,hD,dXD,eXD⟩:=hT;have hs:∀k,T k->(gN k=some i\/gN k=some j)\/w.heap.size<=k:=u.s;have IM:∀k,gN k≠none->k<w.heap.size:=λk hk=>by
  cases ho:gN k with
  |none=>exact absurd ho hk
  |some x=>exact hb k ((e k).2 ⟨x,ho⟩)
 let qF:Nat->Option ι:=λk=>@ite _ (TB k) (Classical.propDecidable _) (some i) (@ite _ (TC k) (Classical.propDecidable _) (some j) (if gN k=some i\/gN k=some j then none else gN k))
 have oB:∀k,TB k->qF k=some i:=λk hk=>by simp only[qF];rw[if_pos hk]
 have oC:∀k,TC k->qF k=some j:=λk hk=>by simp only[qF];rw[if_neg λh=>dBC k h hk,if_pos hk]
 have oN:∀k,¬TB k->¬TC k->qF k=if gN k=some i\/gN k=some j then none else gN k:=λk h1 h2=>by simp only[qF];rw[if_neg h1,if_neg h2]
 have inv:∀k x,qF k=some x->(x=i/\TB k)\/(x=j/\TC k)\/(x≠i/\x≠j/\gN k=some x/\¬TB k/\¬TC k):=λk x hx=>by
  by_cases h1:TB k
  ·rw[oB k h1] at hx;cases hx;exact .inl ⟨rfl,h1⟩
  ·by_cases h2:TC k
   ·rw[oC k h2] at hx;cases hx;exact .inr (.inl ⟨rfl,h2⟩)
   ·rw[oN k h1 h2] at hx
    split at hx
    ·cases hx
    ·rename_i hn
     exact .inr (.inr ⟨λe=>hn (.inl (e▸hx)),λe=>hn (.inr (e▸hx)),hx,h1,h2⟩)
 have old:∀k x,gN k=some x->x≠i->x≠j->¬T k:=λk x hx h1 h2 hT=>by
  rcases hs k hT with(h|h)|h
  ·exact h1 (uO (hx.symm.trans h))
  ·exact h2 (uO (hx.symm.trans h))
  ·have:=IM k (by rw[hx];simp);omega
 have TT:∀k,TB k\/TC k->T k:=λk hk=>(eXD k).2 (.inl ((eBC k).2 hk));refine⟨λk=>(∃x,qF k=some x)\/TD k,⟨λk=>∃x,qF k=some x,TD,⟨qF,λx=>?_,λ_=>Iff.rfl⟩,hD,λk ⟨x,hx⟩ hd=>?_,λ_=>Iff.rfl⟩,u.m.mono λk _ hk=>(e k).2 (hk.elim (λh=>⟨_,h⟩) λh=>⟨_,h⟩),λk hk=>?_⟩
 ·by_cases hj:x=j
  ·subst hj
   simp only[EO,if_pos];exact As.ext hC λk=>⟨oC k,λhx=>by
    rcases inv k _ hx with⟨h,_⟩|⟨_,h⟩|⟨_,h,_⟩
    ·exact absurd h.symm RL
    ·exact h
    ·exact absurd rfl h⟩
  ·by_cases hi:x=i
   ·subst hi
    simp only[EO,if_neg hj,if_pos];exact As.ext hB λk=>⟨oB k,λhx=>by
     rcases inv k _ hx with⟨_,h⟩|⟨h,_⟩|⟨h,_⟩
     ·exact h
     ·exact absurd h RL
     ·exact absurd rfl h⟩
   ·simp only[EO,if_neg hj,if_neg hi]
    have h0:=(hl x).aK (ha x) u.m λk hk lD=>by
     rcases lD with h|h
     ·exact hi (uO (hk.symm.trans h))
     ·exact hj (uO (hk.symm.trans h))
    refine As.ext h0 λk=>⟨λhx=>?_,λhx=>?_⟩
    ·have hT:=old k x hx hi hj
     rw[oN k (λh=>hT (TT k (.inl h))) (λh=>hT (TT k (.inr h))),if_neg,hx];rintro(h|h)
     ·exact hi (uO (hx.symm.trans h))
     ·exact hj (uO (hx.symm.trans h))
    ·rcases inv k x hx with⟨h,_⟩|⟨h,_⟩|⟨_,_,h,_⟩
     ·exact absurd h hi
     ·exact absurd h hj
     ·exact h
 ·rcases inv k x hx with⟨_,h⟩|⟨_,h⟩|⟨h1,h2,h3,_⟩
  ·exact dXD k ((eBC k).2 (.inl h)) hd
  ·exact dXD k ((eBC k).2 (.inr h)) hd
  ·exact old k x h3 h1 h2 ((eXD k).2 (.inr hd))
 ·have toS:T k->S k\/w.heap.size<=k:=λhT=>(hs k hT).imp (λh=>(e k).2 (h.elim (λh=>⟨_,h⟩) λh=>⟨_,h⟩)) id
  rcases hk with⟨x,hx⟩|hk
  ·rcases inv k x hx with⟨_,h⟩|⟨_,h⟩|⟨_,_,h,_⟩
   ·exact toS (TT k (.inl h))
   ·exact toS (TT k (.inr h))
   ·exact .inl ((e k).2 ⟨x,h⟩)
  ·exact toS ((eXD k).2 (.inr hk))
theorem gE.at2X[hl:∀i,bF (A i)](h:gE A w S){i j:ι}(RL:i≠j):∃S1,aZ (A i) (A j) w S1/\(∀k,S1 k->S k)/\∀B C M w' T,aW M w w'->(∀k,M k->S1 k\/¬S k)->(∀k,T k->S1 k\/¬S k)->aZ B C w' T->∃S',gE (EO (EO A i B) j C) w' S'/\∀k,S' k↔(S k/\¬S1 k)\/T k:=by
 obtain⟨gN,ha,e⟩:=h;refine⟨λk=>gN k=some i\/gN k=some j,aZ.vP (ha i) (ha j) λk h1 h2=>RL (uO (h1.symm.trans h2)),λk hk=>(e k).2 (hk.elim (λh=>⟨_,h⟩) λh=>⟨_,h⟩),λB C M w' T m hM hT' hT=>?_⟩;obtain⟨TB,TC,hB,hC,dBC,eBC⟩:=hT
 let qF:Nat->Option ι:=λk=>@ite _ (TB k) (Classical.propDecidable _) (some i) (@ite _ (TC k) (Classical.propDecidable _) (some j) (if gN k=some i\/gN k=some j then none else gN k))
 have oB:∀k,TB k->qF k=some i:=λk hk=>by simp only[qF];rw[if_pos hk]
 have oC:∀k,TC k->qF k=some j:=λk hk=>by simp only[qF];rw[if_neg λh=>dBC k h hk,if_pos hk]
 have oN:∀k,¬TB k->¬TC k->qF k=if gN k=some i\/gN k=some j then none else gN k:=λk h1 h2=>by simp only[qF];rw[if_neg h1,if_neg h2]
 have inv:∀k x,qF k=some x->(x=i/\TB k)\/(x=j/\TC k)\/(x≠i/\x≠j/\gN k=some x/\¬TB k/\¬TC k):=λk x hx=>by
  by_cases h1:TB k
  ·rw[oB k h1] at hx;cases hx;exact .inl ⟨rfl,h1⟩
  ·by_cases h2:TC k
   ·rw[oC k h2] at hx;cases hx;exact .inr (.inl ⟨rfl,h2⟩)
   ·rw[oN k h1 h2] at hx
    split at hx
    ·cases hx
    ·rename_i hn
     exact .inr (.inr ⟨λe=>hn (.inl (e▸hx)),λe=>hn (.inr (e▸hx)),hx,h1,h2⟩)
 have old:∀k x,gN k=some x->x≠i->x≠j->¬((gN k=some i\/gN k=some j)\/¬S k):=λk x hx h1 h2 hT=>by
  rcases hT with(h|h)|h
  ·exact h1 (uO (hx.symm.trans h))
  ·exact h2 (uO (hx.symm.trans h))
  ·exact h ((e k).2 ⟨x,hx⟩)
 have TT:∀k,TB k\/TC k->T k:=λk hk=>(eBC k).2 hk;refine⟨λk=>∃x,qF k=some x,⟨qF,λx=>?_,λ_=>Iff.rfl⟩,λk=>⟨?_,?_⟩⟩
 ·by_cases hj:x=j
  ·subst hj
   simp only[EO,if_pos];exact As.ext hC λk=>⟨oC k,λhx=>by
    rcases inv k _ hx with⟨h,_⟩|⟨_,h⟩|⟨_,h,_⟩
    ·exact absurd h.symm RL
    ·exact h
    ·exact absurd rfl h⟩
  ·by_cases hi:x=i
   ·subst hi
    simp only[EO,if_neg hj,if_pos];exact As.ext hB λk=>⟨oB k,λhx=>by
     rcases inv k _ hx with⟨_,h⟩|⟨h,_⟩|⟨h,_⟩
     ·exact h
     ·exact absurd h RL
     ·exact absurd rfl h⟩
   ·simp only[EO,if_neg hj,if_neg hi]
    have h0:=(hl x).aK (ha x) m λk hk lD=>old k x hk hi hj (hM k lD);refine As.ext h0 λk=>⟨λhx=>?_,λhx=>?_⟩
    ·have hT:¬T k:=λht=>old k x hx hi hj (hT' k ht)
     rw[oN k (λh=>hT (TT k (.inl h))) (λh=>hT (TT k (.inr h))),if_neg,hx];rintro(h|h)
     ·exact hi (uO (hx.symm.trans h))
     ·exact hj (uO (hx.symm.trans h))
    ·rcases inv k x hx with⟨h,_⟩|⟨h,_⟩|⟨_,_,h,_⟩
     ·exact absurd h hi
     ·exact absurd h hj
     ·exact h
 ·rintro⟨x,hx⟩
  rcases inv k x hx with⟨_,h⟩|⟨_,h⟩|⟨h1,h2,h,_⟩
  ·exact .inr (TT k (.inl h))
  ·exact .inr (TT k (.inr h))
  ·exact .inl ⟨(e k).2 ⟨x,h⟩,λh'=>h'.elim (λh'=>h1 (uO (h.symm.trans h'))) λh'=>h2 (uO (h.symm.trans h'))⟩
 ·rintro(⟨h,hn⟩|h)
  ·obtain⟨x,hx⟩:=(e k).1 h
   by_cases h1:TB k
   ·exact⟨i,oB k h1⟩
   ·by_cases h2:TC k
    ·exact⟨j,oC k h2⟩
    ·exact⟨x,by rw[oN k h1 h2,if_neg hn];exact hx⟩
  ·rcases(eBC k).1 h with h|h
   ·exact⟨i,oB k h⟩
   ·exact⟨j,oC k h⟩
theorem gE.at[hl:∀i,bF (A i)](h:gE A w S)(i:ι):Ur w S (A i) λX=>gE (EO A i X):=by
 have hb:=bF.gH h;obtain⟨gN,ha,e⟩:=h;refine⟨λk=>gN k=some i,ha i,λk hk=>(e k).2 ⟨_,hk⟩,λB D w' T u hT=>?_⟩;obtain⟨TB,TD,hB,hD,dBD,eBD⟩:=hT;have IM:∀k x,gN k=some x->k<w.heap.size:=λk x hk=>hb k ((e k).2 ⟨x,hk⟩)
 let qF:Nat->Option ι:=λk=>@ite _ (TB k) (Classical.propDecidable _) (some i) (if gN k=some i then none else gN k)
 have oB:∀k,TB k->qF k=some i:=λk hk=>by simp only[qF];rw[if_pos hk]
 have oN:∀k,¬TB k->qF k=if gN k=some i then none else gN k:=λk h1=>by simp only[qF];rw[if_neg h1]
 have inv:∀k x,qF k=some x->(x=i/\TB k)\/(x≠i/\gN k=some x/\¬TB k):=λk x hx=>by
  by_cases h1:TB k
  ·rw[oB k h1] at hx;cases hx;exact .inl ⟨rfl,h1⟩
  ·rw[oN k h1] at hx
   split at hx
   ·cases hx
   ·rename_i hn
    exact .inr ⟨λe=>hn (e▸hx),hx,h1⟩
 have old:∀k x,gN k=some x->x≠i->¬T k:=λk x hx h1 hT=>by
  rcases u.s k hT with h|h
  ·exact h1 (uO (hx.symm.trans h))
  ·have:=IM k x hx;omega
 refine⟨λk=>(∃x,qF k=some x)\/TD k,⟨λk=>∃x,qF k=some x,TD,⟨qF,λx=>?_,λ_=>Iff.rfl⟩,hD,λk ⟨x,hx⟩ hd=>?_,λ_=>Iff.rfl⟩,u.m.mono λk _ hk=>(e k).2 ⟨_,hk⟩,λk hk=>?_⟩
 ·by_cases hi:x=i
  ·subst hi
   simp only[EO,if_pos];exact As.ext hB λk=>⟨oB k,λhx=>by
    rcases inv k _ hx with⟨_,h⟩|⟨h,_⟩
    ·exact h
    ·exact absurd rfl h⟩
  ·simp only[EO,if_neg hi]
   have h0:=(hl x).aK (ha x) u.m λk hk lD=>hi (uO (hk.symm.trans lD));refine As.ext h0 λk=>⟨λhx=>?_,λhx=>?_⟩
   ·have hT:=old k x hx hi
    rw[oN k (λh=>hT ((eBD k).2 (.inl h))),if_neg,hx]
    exactλh=>hi (uO (hx.symm.trans h))
   ·rcases inv k x hx with⟨h,_⟩|⟨_,h,_⟩
    ·exact absurd h hi
    ·exact h
 ·rcases inv k x hx with⟨_,h⟩|⟨h1,h3,_⟩
  ·exact dBD k h hd
  ·exact old k x h3 h1 ((eBD k).2 (.inr hd))
 ·have toS:T k->S k\/w.heap.size<=k:=λhT=>(u.s k hT).imp (λh=>(e k).2 ⟨_,h⟩) id
  rcases hk with⟨x,hx⟩|hk
  ·rcases inv k x hx with⟨_,h⟩|⟨_,h,_⟩
   ·exact toS ((eBD k).2 (.inl h))
   ·exact .inl ((e k).2 ⟨x,h⟩)
  ·exact toS ((eBD k).2 (.inr hk))
theorem gE.nil(w:aH):gE (λ_:ι=>DI) w (λ_=>False):=⟨λ_=>none,λi k hk=>(by cases hk),λk=>⟨False.elim,λ⟨i,hi⟩=>by cases hi⟩⟩
theorem gE.put{T:BS}{i:ι}{X:As}(h:gE A w S)(hi:A i=DI)(hX:X w T)(hd:∀k,S k->T k->False):gE (EO A i X) w (λk=>S k\/T k):=by
 obtain⟨gN,ha,e⟩:=h;have h0:∀k,gN k≠some i:=λk hk=>by have:=ha i;rw[hi] at this;exact this k hk
 let qF:Nat->Option ι:=λk=>@ite _ (T k) (Classical.propDecidable _) (some i) (gN k)
 have oT:∀k,T k->qF k=some i:=λk hk=>by simp only[qF];rw[if_pos hk]
 have oN:∀k,¬T k->qF k=gN k:=λk hk=>by simp only[qF];rw[if_neg hk]
 refine⟨qF,λx=>?_,λk=>⟨?_,?_⟩⟩
 ·by_cases hx:x=i
  ·subst hx
   simp only[EO,if_pos];exact As.ext hX λk=>⟨oT k,λh=>Classical.byContradiction λhn=>h0 k ((oN k hn).symm.trans h)⟩
  ·simp only[EO,if_neg hx]
   refine As.ext (ha x) λk=>⟨λh=>?_,λh=>?_⟩
   ·rw[oN k λhT=>hd k ((e k).2 ⟨x,h⟩) hT];exact h
   ·by_cases hT:T k
    ·rw[oT k hT] at h;exact absurd (uO h).symm hx
    ·rw[oN k hT] at h;exact h
 ·rintro(h|h)
  ·obtain⟨x,hx⟩:=(e k).1 h
   exact⟨x,by rw[oN k λhT=>hd k h hT];exact hx⟩
  ·exact⟨i,oT k h⟩
 ·rintro⟨x,hx⟩
  by_cases hT:T k
  ·exact .inr hT
  ·exact .inl ((e k).2 ⟨x,by rw[<-oN k hT];exact hx⟩)
theorem gE.swap[hl:∀i,bF (A i)]{T:BS}(h:gE A w S)(i:ι){X:As}(hX:X w T)(hd:∀k,S k->T k->False):∃S',gE (EO A i X) w S'/\∀k,S' k->S k\/T k:=by
 obtain⟨gN,ha,e⟩:=h;have h0:gE (EO A i DI) w (λk=>∃j,(if gN k=some i then none else gN k)=some j):=by
  refine⟨λk=>if gN k=some i then none else gN k,λj=>?_,λk=>Iff.rfl⟩
  by_cases hj:j=i
  ·subst hj
   simp only[EO,if_pos];intro k hk
   split at hk
   ·cases hk
   ·exact absurd hk (by assumption)
  ·simp only[EO,if_neg hj]
   refine As.ext (ha j) λk=>⟨λh=>?_,λh=>?_⟩
   ·rw[if_neg (λh'=>hj (uO (h.symm.trans h'))),h]
   ·split at h
    ·cases h
    ·exact h
 have yR:∀k,(∃j,(if gN k=some i then none else gN k)=some j)->S k:=λk ⟨j,hj⟩=>by
  split at hj
  ·cases hj
  ·exact(e k).2 ⟨j,hj⟩
 have h1:=gE.put h0 (i:=i) (by simp[EO]) hX λk h1 h2=>hd k (yR k h1) h2;have e1:EO (EO A i DI) i X=EO A i X:=by
  funext j
  by_cases hj:j=i<;>simp[EO,hj]
 rw[e1] at h1;exact⟨_,h1,λk hk=>hk.imp (yR k) id⟩
end
end
end Go.Den
