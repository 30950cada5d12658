import Derived.ArgAppend
import Derived.WalkKit
import Derived.ProofKit
import Derived.OpenShut
import Derived.JoinedOf
import Derived.Handed
import Derived.WideKeyArgs
import Derived.ChangeSlices
import Derived.Laws.IdiomArrays
import Derived.Laws.BytesArg
import Derived.LaidEql
import Derived.Test.YtihggjgakbgomaaGreatA1
set_option linter.defProp false
namespace Go.Den
open Go
section
structure we{α:Type}(w:aH)(e:fL)(n:Nat)(aY:α->gJ)(s:Sl)(xs:List α):Prop where
 len:s.l=xs.length
 cap:s.l<=s.c
 max:s.c<=maxLen
 gZ:s.c=0\/∃g pre cO,s.b=some ⟨g,pre.length,none⟩/\cX w g e (pre++(xs.flatMap aY++cO))/\(xs.flatMap aY++cO).length=s.c*n
section
variable{α:Type}{w w':aH}{e:fL}{n:Nat}{aY:α->gJ}{s:Sl}{xs:List α}
def dE.veo(h:dE w e n aY s xs):we w e n aY s xs:=⟨h.len,h.cap,h.max,by
 rcases h.gZ with⟨_,h⟩|⟨g,cO,h1,h2,h3⟩
 ·exact .inl h
 ·exact .inr ⟨g,[],cO,h1,h2,h3⟩⟩
def we.rd(h:we w e n aY s xs)(gI:∀x,(aY x).length=n):Rd w s n aY xs:=by
 refine⟨h.len,h.cap,λi x hx=>?_⟩;have cD:i<xs.length:=(eR.1 hx).1;rcases h.gZ with h2|⟨g,pre,cO,hb,ho,hl⟩
 ·have:=h.len;have:=h.cap;omega
 ·refine⟨_,hb,?_⟩;rw[aS];refine ho.holds λj v hv=>?_;rw[Gv aB,show pre.length+i*n+j-pre.length=i*n+j by omega];exact uC gI xs i x j v cO hx hv
def we.aK{F:BS}(h:we w e n aY s xs)(hm:aU F w w')(hF:∀a,s.c≠0->s.b=some a->¬F a.block):we w' e n aY s xs:=
 ⟨h.len,h.cap,h.max,by
  by_cases hc:s.c=0
  ·exact .inl hc
  ·exact .inr<|(h.gZ.resolve_left hc).imp λg ⟨pre,cO,hb,ho,hl⟩=>⟨pre,cO,hb,ho.aK hm (hF _ hc hb),hl⟩⟩
def we.Wl(h:we w e n aY s xs){b:Addr}(hc:s.c≠0)(hb:s.b=some b):b.block<w.heap.size:=by
 obtain⟨g,pre,cO,h0,ho,_⟩:=h.gZ.resolve_left hc;rw[hb] at h0;cases h0;exact ho.lt
def we.tail{x:α}(h:we w e n aY s (x::xs))(gI:∀x,(aY x).length=n):we w e n aY ⟨aR s.b s.c 1 n,s.l-1,s.c-1⟩ xs:=by
 have hl:=h.len;have hc:=h.cap;simp only[mH] at hl;refine⟨by show s.l-1=_;omega,by show s.l-1<=s.c-1;omega,by have:=h.max;show s.c-1<=_;omega,?_⟩
 by_cases h1:s.c=1
 ·exact .inl (by show s.c-1=0;omega)
 ·obtain⟨g,pre,cO,hb,ho,hl⟩:=h.gZ.resolve_left aB;refine .inr ⟨g,pre++aY x,cO,?_,?_,?_⟩
  ·show aR s.b s.c 1 n=_;unfold aR;rw[if_neg h1,hb];simp[aS,gI]
  ·simpa [sV] using ho
  ·simp only[FU,fN,gI] at hl ⊢;show _=(s.c-1)*n;rw[Nat.sub_mul,Nat.one_mul];omega
def append_o{P:YZ}{t:fL}{bytes:Nat}{z:gJ}(hE:sW P t e n bytes z)(gI:∀x,(aY x).length=n)(jL:∀x,∀u∈aY x,u.oneCell'=true)
  {x:Sl} {ys:List α} (hs:we w e n aY s xs) (hx:Rd w x n aY ys) (h63:xs.length+ys.length<=9223372036854775807) (CZ:(xs.length+ys.length)*bytes<=140737488355328) {K:Sl->aH->Prop}
  (hK:∀r w',we w' e n aY r (xs++ys)->aU (λk=>s.c≠0/\∃a,s.b=some a/\k=a.block) w w'->(r.c≠0->(s.c≠0/\r.b=s.b)\/∃a,r.b=some a/\w.heap.size<=a.block)->K r w'):
  aX P t t s (aW x) w K:=by
 obtain⟨i,zv,hi,hz,rfl,rfl,rfl⟩:=hE.info;have ht:=hE.under;have BX:=hs.rd gI;obtain⟨sb,sl,sc⟩:=s;obtain⟨xb,xl,xc⟩:=x;have RA:sl=xs.length:=hs.len;have ZG:xl=ys.length:=hx.len;have hscap:sl<=sc:=hs.cap
 by_cases hy:ys=[]
 ·subst hy;have hxl0:xl=0:=ZG;subst hxl0;refine⟨⟨sb,sl,sc⟩,w,?_,hK _ _ (by rw[rF];exact hs) (aU.refl _ _) (λh=>.inl ⟨h,rfl⟩)⟩;cases xb<;>cases sb<;>simp[Builtin.append_,run_underlying ht,sizeOf,typeInfo,hi,Builtin.lenOf,Builtin.firstCells,hscap,storeCells,loadCells,loadCellsFrom,oU.aY,CK.aY]
 have uJ:0<ys.length:=List.length_pos_iff.2 hy;obtain⟨ax,hax,_⟩:=hx.get 0 ys[0] (cL uJ);have hax':xb=some ax:=hax;subst hax';have Ht:=qG hx gI (a:=ax) rfl;have hl:(ys.flatMap aY).length=xl*i.size:=by rw[bF gI,ZG]
 have RP:∀u∈ys.flatMap aY,u.oneCell'=true:=λu hu=>by obtain⟨y,_,hy⟩:=List.mem_flatMap.1 hu;exact jL y u hy
 have hzs:zv.cells.size=i.size:=by have:=hE.zlen;simpa using this
 have hm63:xs.length+ys.length<=maxLen:=by simp only[maxLen];omega
 have grown:∀old,old<sl+xl->dE (w.drew.alloc (.cells ((xs.flatMap aY).toArray++(ys.flatMap aY).toArray++Builtin.zeroCells zv.cells (grownCap w (sl+xl) old e-(sl+xl))) e)) e i.size aY
   ⟨some ⟨w.heap.size,0,none⟩,sl+xl,grownCap w (sl+xl) old e⟩ (xs++ys):=λold hold=>by
  have kF:=grownCap_ge w (sl+xl) old e;have hcm:grownCap w (sl+xl) old e<=maxLen:=grownCap_le_maxLen w (sl+xl) old e aB;refine⟨by simp[RA,ZG],kF,hcm,.inr ⟨w.heap.size,(Builtin.zeroCells zv.cells (grownCap w (sl+xl) old e-(sl+xl))).toList,rfl,?_,?_⟩⟩
  ·have:=cX.jA w.drew ((xs.flatMap aY).toArray++(ys.flatMap aY).toArray++Builtin.zeroCells zv.cells (grownCap w (sl+xl) old e-(sl+xl))) e;simpa [sV] using this
  ·simp only[fN,bF gI,Array.length_toList,size_zeroCells,hzs,<-RA,<-ZG];rw[<-Nat.add_mul];congr 1;show sl+xl+(grownCap w (sl+xl) old e-(sl+xl))=grownCap w (sl+xl) old e;omega
 by_cases HM:sl+xl<=sc
 ·obtain⟨g,pre,cO,hb,ho,gL⟩:=hs.gZ.resolve_left (by show¬sc=0;omega);have bW:sb=some ⟨g,pre.length,none⟩:=hb;subst bW;have RQ:(xs.flatMap aY++cO).length=sc*i.size:=gL;have hxl2:(xs.flatMap aY).length=sl*i.size:=by rw[bF gI,RA]
  have QT:sl*i.size+(ys.flatMap aY).length<=sc*i.size:=by rw[hl,<-Nat.add_mul];exact QR _ HM
  have hyl:(ys.flatMap aY).length<=cO.length:=by rw[fN,hxl2] at RQ;omega
  have AI:∀j,j<(ys.flatMap aY).length->(w.cell? ⟨g,pre.length+sl*i.size+j,none⟩).isSome=true:=λj hj=>by
   rw[ho.cell];simp only[eR,Mp];exact⟨_,by simp only[fN] at RQ ⊢;omega,rfl⟩
  have hfz:∀j,j<(ys.flatMap aY).length->w.frozen? ⟨g,pre.length+sl*i.size+j,none⟩=false:=λj _=>by
   have ho':w.heap[g]? =some (.cells (pre++(xs.flatMap aY++cO)).toArray e (0,0)):=ho;unfold World.frozen?;rw[ho'];simp
  have hr:=run_append_room_cells (P:=P) w t 0 e i ht hi g pre.length sl sc ax xl xc (ys.flatMap aY) hl Ht RP HM AI hfz;have vO:=run_storeCells_at P g (pre.length+sl*i.size) e (ys.flatMap aY) 0 (pre++(xs.flatMap aY++cO)).toArray w ho (by simp only[List.size_toArray,fN] at RQ ⊢;omega) RP;have hst2:=run_storeCells_cells (P:=P) g (pre.length+sl*i.size) (ys.flatMap aY) 0 w (by simpa using AI) (by simpa using hfz) RP;simp only[Nat.add_zero] at vO hst2;rw[vO] at hst2;have hw:w.setCells g (pre.length+sl*i.size) (ys.flatMap aY)=w.setRow g (((pre++(xs.flatMap aY++cO)).toArray.toList.take (pre.length+sl*i.size)++ys.flatMap aY++(pre++(xs.flatMap aY++cO)).toArray.toList.drop (pre.length+sl*i.size+(ys.flatMap aY).length))).toArray:=by injection hst2 with _ h2;exact h2.symm
  rw[hw] at hr;refine⟨(⟨some ⟨g,pre.length,none⟩,sl+xl,sc⟩:Sl),_,hr,hK ⟨some ⟨g,pre.length,none⟩,sl+xl,sc⟩ _ ⟨by simp[RA,ZG],HM,hs.max,.inr ⟨g,pre,cO.drop (ys.flatMap aY).length,rfl,?_,?_⟩⟩ ?_ (λh=>.inl ⟨h,rfl⟩)⟩
  ·have:=cX.setRow ho (pre++((xs++ys).flatMap aY++cO.drop (ys.flatMap aY).length));have e1:(pre++(xs.flatMap aY++cO)).toArray.toList.take (pre.length+sl*i.size)=pre++xs.flatMap aY:=by
    show(pre++(xs.flatMap aY++cO)).take _=_;rw[List.take_length_add_append,<-hxl2,List.take_left]
   have e2:(pre++(xs.flatMap aY++cO)).toArray.toList.drop (pre.length+sl*i.size+(ys.flatMap aY).length)=cO.drop (ys.flatMap aY).length:=by show(pre++(xs.flatMap aY++cO)).drop _=_;rw[Nat.add_assoc,List.drop_length_add_append,<-hxl2,List.drop_length_add_append]
   rw[e1,e2];simpa [HA,sV] using this
  ·show _=sc*i.size;rw[fN] at RQ;rw[HA,fN,fN,jz];omega
  ·exact(aU.setRow w g _).mono λk _ hk=>⟨by show sc≠0;omega,_,rfl,hk⟩
 ·cases sb with
  |none=>
   have Wv:xs=[]:=by
    cases xs with
    |nil=>rfl
    |cons y r=>obtain⟨a,ha,_⟩:=BX.get 0 y rfl;cases ha
   subst Wv;have hs0:sl=0:=RA;have hc0:sc=0:=by
    rcases hs.gZ with h|⟨g,pre,cO,hb,_⟩
    ·exact h
    ·cases hb
   subst hs0;subst hc0;have hr:=run_append_nil (P:=P) w t 0 e i zv ht hi hz ax xl xc (ys.flatMap aY) hl Ht aB aB (by simp at CZ;rw[ZG];omega);have hg:=grown 0 aB;simp only[gK,List.flatMap_nil] at hg;have km:dE (w.drew.alloc (.cells ((ys.flatMap aY).toArray++Builtin.zeroCells zv.cells (grownCap w xl 0 e-xl)) e)) e i.size aY ⟨some ⟨w.heap.size,0,none⟩,xl,grownCap w xl 0 e⟩ ([]++ys):=by simpa using hg
   exact⟨(⟨some ⟨w.heap.size,0,none⟩,xl,grownCap w xl 0 e⟩:Sl),_,hr,hK _ _ km.veo ((aU.refl _ w).drew.alloc _) λ_=>.inr ⟨_,rfl,dN _⟩⟩
  |some b=>have holds:∀j u,(xs.flatMap aY)[j]? =some u->w.cell? (b.add j)=some u:=qG BX gI rfl;have hr:=run_append_grow (P:=P) w t 0 e i zv ht hi hz b sl sc (xs.flatMap aY) (by rw[bF gI,RA]) holds ax xl xc (ys.flatMap aY) hl Ht aB aB (growslice_fits aB (by rw[RA,ZG];exact CZ));exact⟨(⟨some ⟨w.heap.size,0,none⟩,sl+xl,grownCap w (sl+xl) sc e⟩:Sl),_,hr,hK _ _ (grown sc aB).veo ((aU.refl _ w).drew.alloc _) λ_=>.inr ⟨_,rfl,dN _⟩⟩
end
def Sw{α:Type}(e:fL)(n:Nat)(aY:α->gJ)(s:Sl)(xs:List α):As:=λw S=>we w e n aY s xs/\∀k,S k↔s.c≠0/\∃b,s.b=some b/\k=b.block
instance{α:Type}{e:fL}{n:Nat}{aY:α->gJ}{s:Sl}{xs:List α}:bJ (Sw e n aY s xs):=⟨
 λ⟨h,e⟩ k hk=>by obtain⟨hc,b,hb,rfl⟩:=(e k).1 hk;exact h.Wl hc hb,
 λ⟨h,e⟩ m hn=>⟨h.aK m λb hc hb=>hn _ ((e _).2 ⟨hc,b,hb,rfl⟩),e⟩⟩
end
section
structure bP where
 f:Int
 t:Int
 w:Int
 m:Int
 deriving DecidableEq
abbrev dY(a:bP):gJ:=[.int .i64 a.f,.int .i64 a.t,.int .i64 a.w,.int .i64 a.m]
abbrev nY(a:bP):Int×Int×Int×Int×Unit:=(a.f,a.t,a.w,a.m,())
def XG(a:bP):dY a≠[]:=by simp[dY]
section
variable{α:Type}
def LA{r:α->α->Prop}(hirr:∀a,¬r a a)(dI:∀a b,r a b->¬r b a):∀{l m:List α},l.Pairwise r->m.Pairwise r->(∀x,x∈l↔x∈m)->l=m
 | [],[],_,_,_=>rfl
 | [],b::m,_,_,h=>absurd ((h b).2 dP) dP
 |a::l,[],_,_,h=>absurd ((h a).1 dP) dP
 |a::l,b::m,hl,hm,h=>by
  rw[List.pairwise_cons] at hl hm;have vu:a=b:=by
   rcases jQ.1 ((h a).1 dP) with e|e
   ·exact e
   ·rcases jQ.1 ((h b).2 dP) with e'|e'
    ·exact e'.symm
    ·exact absurd (hm.1 a e) (dI _ _ (hl.1 b e'))
  subst vu;congr 1;refine LA hirr dI hl.2 hm.2 λx=>⟨λhx=>?_,λhx=>?_⟩
  ·rcases jQ.1 ((h x).1 (by simp[hx])) with e|e
   ·subst e;exact absurd (hl.1 x hx) (hirr x)
   ·exact e
  ·rcases jQ.1 ((h x).2 (by simp[hx])) with e|e
   ·subst e;exact absurd (hm.1 x hx) (hirr x)
   ·exact e
def YM{p:α->Bool}:∀{l:List α} {i:Nat},(∀x∈l.take i,p x=true)->(∀x∈l.drop i,p x=false)->l.filter p=l.take i/\l.filter (λx=>!p x)=l.drop i
 |l,0,_,h2=>by
  simp only[List.drop_zero] at h2;exact⟨by simp only[List.take_zero];exact List.filter_eq_nil_iff.2 λx hx=>by rw[h2 x hx];simp,by simp only[List.drop_zero];exact List.filter_eq_self.2 λx hx=>by rw[h2 x hx];rfl⟩
 | [],i+1,_,_=>by simp
 |a::l,i+1,h1,h2=>by
  simp only[List.take_succ_cons,List.drop_succ_cons] at h1 h2 ⊢;obtain⟨e1,e2⟩:=YM (l:=l) (i:=i) (λx hx=>h1 x (by simp[hx])) h2;have ha:=h1 a dP;simp[JO,ha,e1,e2]
variable(k:α->Int)
def ZK(l:List α):Prop:=l.Pairwise λx y=>k x<k y
def EK(l:List α)(a:α):List α:=l.filter (λx=>decide (k x<k a))++a::l.filter (λx=>decide (k a<k x))
structure AK(l:List α)(v:Int)(i:Nat):Prop where
 le:i<=l.length
 lo:∀p x,p<i->l[p]? =some x->k x<v
 hi:∀p x,i<=p->l[p]? =some x->v<=k x
variable{k}
def ZK.get{l:List α}(h:ZK k l){p q:Nat}{x y:α}(hpq:p<q)(hx:l[p]? =some x)(hy:l[q]? =some y):k x<k y:=by
 have:=Xg.1 h;have hp:=(eR.1 hx);have hq:=(eR.1 hy);obtain⟨uv,Dk⟩:=hp;obtain⟨hq1,hq2⟩:=hq;have:=this p q uv hq1 hpq;rwa[Dk,hq2] at this
def AK.take{l:List α}{v:Int}{i:Nat}(h:AK k l v i):l.take i=l.filter (λx=>decide (k x<v))/\l.drop i=l.filter (λx=>decide (v<=k x)):=by
 have:=YM (l:=l) (i:=i) (p:=λx=>decide (k x<v)) (λx hx=>by
  obtain⟨p,hp⟩:=pJ.1 hx;have cD:p<i:=by have:=(eR.1 hp).1;simp at this;omega
  rw[WC cD] at hp;simpa using h.lo p x cD hp) (λx hx=>by
  obtain⟨p,hp⟩:=pJ.1 hx;rw[ly7] at hp;have:=h.hi (i+p) x aB hp;simp;omega)
 refine⟨this.1.symm,?_⟩;rw[<-this.2];apply ly3;intro x _
 by_cases h:k x<v<;>simp[h]<;>omega
def AK.qW{l:List α}(hs:ZK k l){v:Int}{i:Nat}(h:AK k l v i){x:α}(hx:x∈l)(hk:k x=v):l[i]? =some x:=by
 obtain⟨p,hp⟩:=pJ.1 hx;have h1:i<=p:=by apply Nat.le_of_not_lt;intro cD;have:=h.lo p x cD hp;omega
 rcases Nat.eq_or_lt_of_le h1 with e|cD
 ·rw[e];exact hp
 ·have hi:i<l.length:=by have:=(eR.1 hp).1;omega
  have h2:=h.hi i l[i] (dN _) (cL hi);have h3:=hs.get cD (cL hi) hp;omega
def AK.ins_new{l:List α}{a:α}{i:Nat}(h:AK k l (k a) i)(hn:∀x∈l,k x≠k a):l.take i++[a]++l.drop i=EK k l a:=by
 obtain⟨e1,e2⟩:=h.take;unfold EK;rw[e1,e2];simp only[sV,List.cons_append,List.nil_append];congr 2;apply ly3;intro x hx;have:=hn x hx
 by_cases h1:k a<=k x<;>by_cases h2:k a<k x<;>simp[h1,h2]<;>omega
def AK.ins_at{l:List α}(hs:ZK k l){a:α}{i:Nat}(h:AK k l (k a) i){x:α}(hx:x∈l)(hk:k x=k a):l.set i a=EK k l a:=by
 obtain⟨e1,e2⟩:=h.take;have hf:=h.qW hs hx hk;have hi:i<l.length:=(eR.1 hf).1;unfold EK;rw[List.set_eq_take_append_cons_drop,if_pos hi,e1];congr 2;have h3:l.drop i=x::l.drop (i+1):=by rw[ly4 hi];congr 1;exact(eR.1 hf).2
 have h4:AK k l (k a+1) (i+1):=by
  refine⟨hi,λp y hp hy=>?_,λp y hp hy=>?_⟩
  ·rcases Nat.eq_or_lt_of_le (show p<=i by omega) with e|cD
   ·subst e;rw[hf] at hy;cases hy;omega
   ·have:=h.lo p y cD hy;omega
  ·have:=hs.get (show i<p by omega) hf hy;omega
 rw[h4.take.2];apply ly3;intro y _
 by_cases h1:k a<k y<;>simp[h1]<;>omega
def ZK.filter{l:List α}(h:ZK k l)(p:α->Bool):ZK k (l.filter p):=TU p h
def ZK.LS{l:List α}(h:ZK k l)(a:α):ZK k (EK k l a):=by
 unfold EK ZK;rw[List.pairwise_append];refine⟨h.filter _,?_,?_⟩
 ·rw[List.pairwise_cons];exact⟨λx hx=>by simpa using(jR.1 hx).2,h.filter _⟩
 ·intro x hx y hy;have h1:k x<k a:=by simpa using(jR.1 hx).2
  rcases jQ.1 hy with e|hy
  ·subst e;exact h1
  ·have h2:k a<k y:=by simpa using(jR.1 hy).2
   omega
def Pu{l:List α}{a x:α}:x∈EK k l a↔x=a\/(x∈l/\k x≠k a):=by
 unfold EK;simp only[kK,jQ,jR,decide_eq_true_eq]
 constructor
 ·rintro(⟨h1,h2⟩|rfl|⟨h1,h2⟩)
  ·exact .inr ⟨h1,aB⟩
  ·exact .inl rfl
  ·exact .inr ⟨h1,aB⟩
 ·rintro(rfl|⟨h1,h2⟩)
  ·exact .inr (.inl rfl)
  ·by_cases h:k x<k a
   ·exact .inl ⟨h1,h⟩
   ·exact .inr (.inr ⟨h1,aB⟩)
def AK.jm{l:List α}(hs:ZK k l){v:Int}{i:Nat}(h:AK k l v i){x:α}(hx:x∈l)(hk:k x=v):l.take i++l.drop (i+1)=l.filter (λy=>decide (k y≠v)):=by
 have hf:=h.qW hs hx hk;have hi:i<l.length:=(eR.1 hf).1;have hsp:l.take i++x::l.drop (i+1)=l:=by
  rw[<-Mo i l];congr 1
  ·simp
  ·rw[Mo,ly4 hi];congr 1;exact(eR.1 hf).2.symm
 have h1:(l.take i).filter (λy=>decide (k y≠v))=l.take i:=List.filter_eq_self.2 λy hy=>by
  obtain⟨p,hp⟩:=pJ.1 hy;have cD:p<i:=by have:=(eR.1 hp).1;simp at this;omega
  rw[WC cD] at hp;have:=h.lo p y cD hp;simp;omega
 have h2:(l.drop (i+1)).filter (λy=>decide (k y≠v))=l.drop (i+1):=List.filter_eq_self.2 λy hy=>by
  obtain⟨p,hp⟩:=pJ.1 hy;rw[ly7] at hp;have:=hs.get (show i<i+1+p by omega) hf hp;simp;omega
 conv=>rhs;rw[<-hsp,TV,JO,h1,h2]
 simp[hk]
end
def MV(x y:bP):Bool:=decide (x.f<y.f) ||(decide (x.f=y.f) && decide (x.t<y.t))
def CO(l:List bP):Prop:=l.Pairwise λx y=>MV x y=true
def mC{x y:bP}:MV x y=true↔x.f<y.f\/(x.f=y.f/\x.t<y.t):=by simp[MV]
def FT(n:Nat)(a:bP):Prop:=0<=a.f/\a.f<n/\0<=a.t/\a.t<n/\a.f≠a.t/\1<=a.w/\a.w<=1099511627776/\(a.m=-1\/(0<=a.m/\a.m<n/\a.m≠a.f/\a.m≠a.t))
instance(n:Nat)(a:bP):Decidable (FT n a):=by unfold FT;infer_instance
structure sL(n:Nat)(l:List bP):Prop where
 sY:CO l
 vQ:∀a∈l,FT n a
def MK(l:List bP)(a:bP):List bP:=l.filter (λx=>MV x a)++a::l.filter (λx=>MV a x)
def jT(l:List bP)(f t:Int):Option bP:=l.find? λx=>decide (x.f=f) && decide (x.t=t)
def vR(n:Nat)(l:List bP)(a:bP):List bP×Bool:=
 if FT n a then(match jT l a.f a.t with
  |some x=>if x.w<=a.w then(l,false) else(MK l a,true)
  |none=>(MK l a,true)) else(l,false)
def DU(l:List bP)(v:Int):List bP:=l.filter λx=>decide (x.f≠v) && decide (x.t≠v)
def eN(l:List bP)(v:Int):List bP:=l.filter λx=>decide (x.f=v)
def oL(l:List bP)(v:Int):List bP:=l.filter λx=>decide (x.t=v)
def CO.out{l:List bP}(h:CO l)(v:Int):ZK bP.t (eN l v):=by
 unfold eN ZK;refine List.Pairwise.imp_of_mem (λ{x y} hx hy hxy=>?_) (TU _ h);have h1:=(jR.1 hx).2;have h2:=(jR.1 hy).2;simp at h1 h2;rcases mC.1 hxy with h|⟨_,h⟩
 ·omega
 ·exact h
def CO.MF{l:List bP}(h:CO l)(v:Int):ZK bP.f (oL l v):=by
 unfold oL ZK;refine List.Pairwise.imp_of_mem (λ{x y} hx hy hxy=>?_) (TU _ h);have h1:=(jR.1 hx).2;have h2:=(jR.1 hy).2;simp at h1 h2;rcases mC.1 hxy with h|⟨_,h⟩<;>omega
def mM{l:List bP}{a x:bP}:x∈MK l a↔x=a\/(x∈l/\¬(x.f=a.f/\x.t=a.t)):=by
 unfold MK;simp only[kK,jQ,jR,mC]
 constructor
 ·rintro(⟨h1,h2⟩|rfl|⟨h1,h2⟩)
  ·exact .inr ⟨h1,aB⟩
  ·exact .inl rfl
  ·exact .inr ⟨h1,aB⟩
 ·rintro(rfl|⟨h1,h2⟩)
  ·exact .inr (.inl rfl)
  ·rcases Int.lt_trichotomy x.f a.f with h|h|h
   ·exact .inl ⟨h1,.inl h⟩
   ·rcases Int.lt_trichotomy x.t a.t with h'|h'|h'
    ·exact .inl ⟨h1,.inr ⟨h,h'⟩⟩
    ·exact absurd ⟨h,h'⟩ h2
    ·exact .inr (.inr ⟨h1,.inr ⟨h.symm,h'⟩⟩)
   ·exact .inr (.inr ⟨h1,.inl h⟩)
def dm{x y z:bP}(h1:MV x y=true)(h2:MV y z=true):MV x z=true:=by
 rw[mC] at*;omega
def CO.LS{l:List bP}(h:CO l)(a:bP):CO (MK l a):=by
 unfold MK CO;rw[List.pairwise_append];refine⟨TU _ h,?_,?_⟩
 ·rw[List.pairwise_cons];exact⟨λx hx=>(jR.1 hx).2,TU _ h⟩
 ·intro x hx y hy;have h1:=(jR.1 hx).2;rcases jQ.1 hy with e|hy
  ·subst e;exact h1
  ·exact dm h1 (jR.1 hy).2
def sL.LS{n:Nat}{l:List bP}(h:sL n l){a:bP}(ha:FT n a):sL n (MK l a):=
 ⟨h.sY.LS a,λx hx=>by rcases mM.1 hx with rfl|⟨h1,_⟩;exact ha;exact h.vQ x h1⟩
def sL.filter{n:Nat}{l:List bP}(h:sL n l)(p:bP->Bool):sL n (l.filter p):=⟨TU _ h.sY,λx hx=>h.vQ x (jR.1 hx).1⟩
def sL.cut{n:Nat}{l:List bP}(h:sL n l)(v:Int):sL n (DU l v):=h.filter _
def sL.nil(n:Nat):sL n []:=⟨List.Pairwise.nil,by simp⟩
def CO.ext{l m:List bP}(h:CO l)(h':CO m)(he:∀x,x∈l↔x∈m):l=m:=
 LA (λa h=>by rw[mC] at h;omega) (λa b h1 h2=>by rw[mC] at h1 h2;omega) h h' he
def ZK.ext{k:bP->Int}{l m:List bP}(h:ZK k l)(h':ZK k m)(he:∀x,x∈l↔x∈m):l=m:=
 LA (λa h=>aB) (λa b h1 h2=>aB) h h' he
def fD{l:List bP}{v:Int}{x:bP}:x∈eN l v↔x∈l/\x.f=v:=by simp[eN]
def iO{l:List bP}{v:Int}{x:bP}:x∈oL l v↔x∈l/\x.t=v:=by simp[oL]
def qD{l:List bP}{v:Int}{x:bP}:x∈DU l v↔x∈l/\x.f≠v/\x.t≠v:=by simp[DU]
def Zh{l:List bP}(h:CO l)(a:bP)(v:Int):eN (MK l a) v=if v=a.f then EK bP.t (eN l v) a else eN l v:=by
 split
 ·rename_i hv
  subst hv;refine((h.LS a).out _).ext ((h.out _).LS a) λx=>?_;simp only[fD,mM,Pu]
  constructor
  ·rintro⟨rfl|⟨h1,h2⟩,h3⟩
   ·exact .inl rfl
   ·exact .inr ⟨⟨h1,h3⟩,λh=>h2 ⟨h3,h⟩⟩
  ·rintro(rfl|⟨⟨h1,h2⟩,h3⟩)
   ·exact⟨.inl rfl,rfl⟩
   ·exact⟨.inr ⟨h1,λh=>h3 h.2⟩,h2⟩
 ·rename_i hv
  refine((h.LS a).out _).ext (h.out _) λx=>?_;simp only[fD,mM]
  constructor
  ·rintro⟨rfl|⟨h1,h2⟩,h3⟩
   ·exact absurd h3.symm hv
   ·exact⟨h1,h3⟩
  ·rintro⟨h1,h2⟩;exact⟨.inr ⟨h1,λh=>hv (by rw[<-h2,h.1])⟩,h2⟩
def zf{l:List bP}(h:CO l)(a:bP)(v:Int):oL (MK l a) v=if v=a.t then EK bP.f (oL l v) a else oL l v:=by
 split
 ·rename_i hv
  subst hv;refine((h.LS a).MF _).ext ((h.MF _).LS a) λx=>?_;simp only[iO,mM,Pu]
  constructor
  ·rintro⟨rfl|⟨h1,h2⟩,h3⟩
   ·exact .inl rfl
   ·exact .inr ⟨⟨h1,h3⟩,λh=>h2 ⟨h,h3⟩⟩
  ·rintro(rfl|⟨⟨h1,h2⟩,h3⟩)
   ·exact⟨.inl rfl,rfl⟩
   ·exact⟨.inr ⟨h1,λh=>h3 h.1⟩,h2⟩
 ·rename_i hv
  refine((h.LS a).MF _).ext (h.MF _) λx=>?_;simp only[iO,mM]
  constructor
  ·rintro⟨rfl|⟨h1,h2⟩,h3⟩
   ·exact absurd h3.symm hv
   ·exact⟨h1,h3⟩
  ·rintro⟨h1,h2⟩;exact⟨.inr ⟨h1,λh=>hv (by rw[<-h2,h.2])⟩,h2⟩
def rS{l:List bP}{f t:Int}{x:bP}(h:jT l f t=some x):x∈l/\x.f=f/\x.t=t:=by
 have h1:=List.find?_some h;simp at h1;exact⟨ly9 h,h1.1,h1.2⟩
def VC{l:List bP}{f t:Int}(h:jT l f t=none):∀x∈l,¬(x.f=f/\x.t=t):=by
 intro x hx hk;have:=List.find?_eq_none.1 h x hx;simp[hk] at this
def zH{l:List bP}(hs:CO l){x:bP}(hx:x∈l):jT l x.f x.t=some x:=by
 cases h:jT l x.f x.t with
 |none=>exact absurd ⟨rfl,rfl⟩ (VC h x hx)
 |some y=>
  obtain⟨h1,h2,h3⟩:=rS h;congr 1;have hp:=Xg.1 hs;obtain⟨p,uv,Dk⟩:=List.mem_iff_getElem.1 h1;obtain⟨q,hq1,hq2⟩:=List.mem_iff_getElem.1 hx;rcases Nat.lt_trichotomy p q with cD|heq|cD
  ·have:=hp p q uv hq1 cD;rw[Dk,hq2,mC] at this;omega
  ·subst heq;rw[<-Dk,<-hq2]
  ·have:=hp q p hq1 uv cD;rw[Dk,hq2,mC] at this;omega
def XB{n:Nat}{l:List bP}(h:sL n l)(a:bP):sL n (vR n l a).1:=by
 unfold vR
 split
 ·rename_i ha
  split
  ·split
   ·exact h
   ·exact h.LS ha
  ·exact h.LS ha
 ·exact h
def Ak{n:Nat}{l:List bP}(h:sL n l):(List.range n).flatMap (λv:Nat=>eN l (v:Int))=l:=by
 refine CO.ext ?_ h.sY λx=>?_
 ·unfold CO;rw[List.pairwise_flatMap];refine⟨λv _=>?_,?_⟩
  ·exact TU _ h.sY
  ·have:(List.range n).Pairwise (·<·):=List.pairwise_lt_range;refine List.Pairwise.imp (λ{u v} huv x hx y hy=>?_) this;rw[fD] at hx hy;rw[mC];omega
 ·simp only[List.mem_flatMap,List.mem_range,fD]
  constructor
  ·rintro⟨v,_,h1,_⟩;exact h1
  ·intro hx;have:=h.vQ x hx;unfold FT at this;exact⟨x.f.toNat,aB,hx,aB⟩
def yp{k:bP->Int}{l:List bP}(h:ZK k l){n:Nat}(hk:∀x∈l,0<=k x/\k x<n):l.length<=n:=by
 have key:∀(i:Nat) (x:bP),l[i]? =some x->(i:Int)<=k x:=by
  intro i
  induction i with
  |zero=>intro x hx;exact(hk x (kR hx)).1
  |succ i ih=>
   intro x hx;have hi:i<l.length:=by have:=(eR.1 hx).1;omega
   have h1:=ih _ (cL hi);have h2:=h.get (Nat.lt_succ_self i) (cL hi) hx;omega
 rcases Nat.eq_zero_or_pos l.length with h0|h0
 ·omega
 ·have hi:l.length-1<l.length:=aB;have h1:=key _ _ (cL hi);have h2:=(hk _ (oF hi)).2;omega
def sL.wF{n:Nat}{l:List bP}(h:sL n l)(v:Int):(eN l v).length<=n:=yp (h.sY.out v) λx hx=>by
 have:=h.vQ x (fD.1 hx).1;exact⟨this.2.2.1,this.2.2.2.1⟩
def sL.GB{n:Nat}{l:List bP}(h:sL n l)(v:Int):(oL l v).length<=n:=yp (h.sY.MF v) λx hx=>by
 have:=h.vQ x (iO.1 hx).1;exact⟨this.1,this.2.1⟩
def iC(n:Nat)(l:List bP)(xs:List bP):List bP:=xs.foldl (λl a=>(vR n l a).1) l
def IB{n:Nat}:∀(xs:List bP) {l:List bP},sL n l->sL n (iC n l xs)
 | [],_,h=>h
 |a::xs,_,h=>IB xs (XB h a)
def OA(n:Nat)(l xs:List bP)(a:bP):iC n l (xs++[a])=(vR n (iC n l xs) a).1:=by simp[iC]
def OB{n:Nat}:∀{xs p:List bP},sL n (p++xs)->iC n p xs=p++xs
 | [],p,_=>by simp[iC]
 |a::xs,p,h=>by
  have hsp:CO (p++a::xs):=h.sY;unfold CO at hsp;rw[List.pairwise_append] at hsp;have cD:∀x∈p,MV x a=true:=λx hx=>hsp.2.2 x hx a dP;have qU:jT p a.f a.t=none:=by
   cases hf:jT p a.f a.t with
   |none=>rfl
   |some x=>obtain⟨h1,h2,h3⟩:=rS hf;have:=cD x h1;rw[mC] at this;omega
  have he:(vR n p a).1=p++[a]:=by
   unfold vR;rw[if_pos (h.vQ a dP),qU];unfold MK;have e1:p.filter (λx=>MV x a)=p:=List.filter_eq_self.2 cD;have e2:p.filter (λx=>MV a x)=[]:=List.filter_eq_nil_iff.2 λx hx hn=>by
    have:=cD x hx;rw[mC] at this hn;omega
   rw[e1,e2]
  have h':sL n ((p++[a])++xs):=by simpa using h
  have:=OB (xs:=xs) (p:=p++[a]) h';show iC n (vR n p a).1 xs=_;rw[he,this];simp
structure LowL(l:List bP)(f t:Int)(i:Nat):Prop where
 le:i<=l.length
 lo:∀p x,p<i->l[p]? =some x->x.f<f\/(x.f=f/\x.t<t)
 hi:∀p x,i<=p->l[p]? =some x->¬(x.f<f\/(x.f=f/\x.t<t))
def NO{α β:Type}(f:α->List β)(n:Nat):∀l:List α,(∀x∈l,(f x).length<=n)->(l.flatMap f).length<=l.length*n
 | [],_=>by simp
 |x::l,h=>by
  have:=NO f n l λy hy=>h y (by simp[hy]);have:=h x dP;simp only[FU,fN,mH,Nat.add_mul];omega
def sL.len{n:Nat}{l:List bP}(h:sL n l)(hn:n<=512):l.length<=262144:=by
 have h1:=NO (λv:Nat=>eN l (v:Int)) n (List.range n) λv _=>h.wF v;rw[Ak h,List.length_range] at h1;have h2:n*n<=512*512:=TS hn hn;omega
end
section
structure It where
 id:Int
 key:Int
 deriving DecidableEq
def qN(x y:It):Bool:=decide (x.key<y.key) ||(decide (x.key=y.key) && decide (x.id<y.id))
theorem kO{x y:It}:qN x y=true↔x.key<y.key\/(x.key=y.key/\x.id<y.id):=by simp[qN]
theorem itlt_tri(x y:It):qN x y=true\/x=y\/qN y x=true:=by
 obtain⟨a,b⟩:=x;obtain⟨c,d⟩:=y;simp only[kO,It.mk.injEq];omega
abbrev CM(q:List It):Prop:=q.Pairwise λx y=>qN x y=true
def insQ(q:List It)(x:It):List It:=q.filter (λy=>qN y x)++x::q.filter (λy=>qN x y)
theorem zG{q:List It}{x y:It}:y∈insQ q x↔y=x\/y∈q:=by
 unfold insQ;simp only[kK,jQ,jR]
 constructor
 ·rintro(⟨h,_⟩|rfl|⟨h,_⟩)<;>simp_all
 ·rintro(rfl|h)
  ·simp
  ·rcases itlt_tri y x with h1|rfl|h1<;>simp_all
theorem CM.LS{q:List It}(h:CM q)(x:It):CM (insQ q x):=by
 unfold insQ CM;rw[List.pairwise_append];refine⟨TU _ h,?_,λa ha b hb=>?_⟩
 ·rw[List.pairwise_cons];exact⟨λb hb=>(jR.1 hb).2,TU _ h⟩
 ·have h1:=kO.1 (jR.1 ha).2;rcases jQ.1 hb with rfl|hb
  ·exact kO.2 h1
  ·have h2:=kO.1 (jR.1 hb).2;rw[kO];omega
def Dp(q:List It):Prop:=∀x∈q,∀y∈q,x.id=y.id->x=y
def Gx(q:List It)(v:Int):Option Int:=(q.find? λy=>decide (y.id=v)).map (·.key)
theorem Aj{q:List It}{v k:Int}(h:Gx q v=some k):⟨v,k⟩∈q:=by
 unfold Gx at h;cases hf:q.find? (λy=>decide (y.id=v)) with
 |none=>rw[hf] at h;cases h
 |some y=>rw[hf] at h;have h1:=ly9 hf;have h2:=List.find?_some hf;obtain⟨a,b⟩:=y;simp at h h2;subst h h2;exact h1
theorem keyQ_none{q:List It}{v:Int}(h:Gx q v=none):∀x∈q,x.id≠v:=by
 intro x hx;unfold Gx at h;simp only[Option.map_eq_none_iff,List.find?_eq_none] at h;simpa using h x hx
theorem Zo{q:List It}(h:Dp q){x:It}(hx:x∈q):Gx q x.id=some x.key:=by
 cases hk:Gx q x.id with
 |none=>exact absurd rfl (keyQ_none hk x hx)
 |some k=>have:=h _ (Aj hk) x hx rfl;rw[<-this]
def Du(q:List It)(v k:Int):Bool:=match Gx q v with
 |some k0=>decide (k0<=k)
 |none=>false
def oM(q:List It)(v k:Int):List It×Bool:=if Du q v k then(q,false) else(insQ (q.filter λy=>decide (y.id≠v)) ⟨v,k⟩,true)
theorem XP{q:List It}{v k:Int}{y:It}(h:y∈(oM q v k).1):y∈q\/y=⟨v,k⟩:=by
 unfold oM at h
 split at h
 ·exact .inl h
 ·rcases zG.1 h with rfl|h
  ·exact .inr rfl
  ·exact .inl (jR.1 h).1
theorem PJ{q:List It}(h1:Dp q){v k:Int}{x:It}(hx:x∈q):∃y∈(oM q v k).1,y.id=x.id/\y.key<=x.key:=by
 unfold oM
 split
 ·exact⟨x,hx,rfl,lR _⟩
 ·rename_i hl
  by_cases e:x.id=v
  ·refine⟨⟨v,k⟩,zG.2 (.inl rfl),e.symm,?_⟩;have:=Zo h1 hx;unfold Du at hl;rw[<-e,this] at hl;simp at hl;show k<=x.key;omega
  ·exact⟨x,zG.2 (.inr (jR.2 ⟨hx,by simpa using e⟩)),rfl,lR _⟩
theorem XQ{q:List It}{v k:Int}:∃y∈(oM q v k).1,y.id=v/\y.key<=k:=by
 unfold oM
 split
 ·rename_i hl
  unfold Du at hl;cases hk:Gx q v with
  |none=>rw[hk] at hl;cases hl
  |some k0=>rw[hk] at hl;exact⟨⟨v,k0⟩,Aj hk,rfl,by simpa using hl⟩
 ·exact⟨⟨v,k⟩,zG.2 (.inl rfl),rfl,lR _⟩
theorem DE{q:List It}(h:CM q)(v k:Int):CM (oM q v k).1:=by
 unfold oM
 split
 ·exact h
 ·exact CM.LS (TU _ h) _
theorem DF{q:List It}(h:Dp q)(v k:Int):Dp (oM q v k).1:=by
 unfold oM
 split
 ·exact h
 ·intro x hx y hy e;rcases zG.1 hx with rfl|hx<;>rcases zG.1 hy with rfl|hy
  ·rfl
  ·have:=(jR.1 hy).2;simp at this;exact absurd e.symm this
  ·have:=(jR.1 hx).2;simp at this;exact absurd e this
  ·exact h x (jR.1 hx).1 y (jR.1 hy).1 e
inductive gH(L:List bP)(c a:Int):Int->Int->Prop where
 |nil:gH L c a a 0
 |iB {v d:Int} (e:bP) (h:gH L c a v d) (he:e∈L) (hf:e.f=v) (ht:e.t≠c):gH L c a e.t (d+e.w)
def xH(s:List It)(v:Int):Bool:=s.any λx=>decide (x.id=v)
theorem XV{s:List It}{v:Int}:xH s v=true↔∃x∈s,x.id=v:=by simp[xH]
def qQ(c:Int)(s:List It)(d:Int)(q:List It)(l:List bP):List It:=l.foldl (λq a=>if a.t=c\/xH s a.t=true then q else(oM q a.t (d+a.w)).1) q
def HH(L:List bP)(c:Int)(z:List It×List It):List It×List It:=match z.1 with
 | []=>([],z.2)
 |x::q=>(qQ c (z.2++[x]) x.key q (eN L x.id),z.2++[x])
def kJ(L:List bP)(c a:Int):Nat->List It×List It
 |0=>([⟨a,0⟩],[])
 |n+1=>HH L c (kJ L c a n)
theorem cu(c:Int)(s:List It)(d:Int)(q:List It)(l:List bP)(a:bP):qQ c s d q (l++[a])=if a.t=c\/xH s a.t=true then qQ c s d q l else(oM (qQ c s d q l) a.t (d+a.w)).1:=by simp[qQ]
theorem cz(c:Int)(s:List It)(d:Int)(q:List It)(l:List bP)(a:bP):qQ c s d q (a::l)=qQ c s d (if a.t=c\/xH s a.t=true then q else(oM q a.t (d+a.w)).1) l:=rfl
theorem PI{c:Int}{s:List It}{d:Int}:∀{l:List bP} {q:List It},CM q->Dp q->CM (qQ c s d q l)/\Dp (qQ c s d q l)/\
  (∀y∈qQ c s d q l,y∈q\/∃e∈l,e.t≠c/\xH s e.t=false/\y=⟨e.t,d+e.w⟩)/\(∀x∈q,∃y∈qQ c s d q l,y.id=x.id/\y.key<=x.key)/\
  (∀e∈l,e.t≠c->xH s e.t=false->∃y∈qQ c s d q l,y.id=e.t/\y.key<=d+e.w)
 | [],q,h1,h2=>⟨h1,h2,λy hy=>.inl hy,λx hx=>⟨x,hx,rfl,lR _⟩,by simp⟩
 |a::l,q,h1,h2=>by
  rw[cz]
  by_cases hc:a.t=c\/xH s a.t=true
  ·rw[if_pos hc];obtain⟨g1,g2,g3,g4,g5⟩:=PI (c:=c) (s:=s) (d:=d) (l:=l) h1 h2;refine⟨g1,g2,λy hy=>(g3 y hy).imp id λ⟨e,he,r⟩=>⟨e,by simp[he],r⟩,g4,λe he n1 n2=>?_⟩;rcases jQ.1 he with rfl|he
   ·rcases hc with hc|hc
    ·exact absurd hc n1
    ·rw[hc] at n2;cases n2
   ·exact g5 e he n1 n2
  ·rw[if_neg hc];obtain⟨g1,g2,g3,g4,g5⟩:=PI (c:=c) (s:=s) (d:=d) (l:=l) (DE h1 a.t (d+a.w)) (DF h2 a.t (d+a.w));have jf:a.t≠c:=λe=>hc (.inl e);have QL:xH s a.t=false:=by cases h:xH s a.t with
    |false=>rfl
    |true=>exact absurd (.inr h) hc
   refine⟨g1,g2,λy hy=>?_,λx hx=>?_,λe he n1 n2=>?_⟩
   ·rcases g3 y hy with hq|⟨e,he,r⟩
    ·rcases XP hq with hq|rfl
     ·exact .inl hq
     ·exact .inr ⟨a,by simp,jf,QL,rfl⟩
    ·exact .inr ⟨e,by simp[he],r⟩
   ·obtain⟨y,hy,e1,e2⟩:=PJ h2 (v:=a.t) (k:=d+a.w) hx;obtain⟨z,hz,e3,e4⟩:=g4 y hy;exact⟨z,hz,e3.trans e1,Int.le_trans e4 e2⟩
   ·rcases jQ.1 he with rfl|he
    ·obtain⟨y,hy,e1,e2⟩:=XQ (q:=q) (v:=e.t) (k:=d+e.w);obtain⟨z,hz,e3,e4⟩:=g4 y hy;exact⟨z,hz,e3.trans e1,Int.le_trans e4 e2⟩
    ·exact g5 e he n1 n2
structure Hg(m:Nat)(L:List bP)(c a:Int)(q s:List It):Prop where
 sY:CM q
 one:Dp q
 Et:(s.map (·.id)).Nodup
 pL:∀x∈q,xH s x.id=false
 Gn:∀x∈s++q,gH L c a x.id x.key
 src:⟨a,0⟩∈s++q
 clo:∀x∈s,∀e∈L,e.f=x.id->e.t≠c->∃y∈s++q,y.id=e.t/\y.key<=x.key+e.w
 mono:∀x∈s,∀y∈q,x.key<=y.key
 qT:∀x∈s,∀d,gH L c a x.id d->x.key<=d
 iF:∀x∈s++q,0<=x.key/\x.key<=s.length*1099511627776/\0<=x.id/\x.id<m
theorem Hg.reach{m:Nat}{L:List bP}{c a:Int}{q s:List It}(h:Hg m L c a q s)(hL:sL m L){v d:Int}(hw:gH L c a v d):(∃x∈s,x.id=v/\x.key<=d)\/∃y∈q,y.key<=d:=by
 induction hw with
 |nil=>
  rcases kK.1 h.src with hs|hq
  ·exact .inl ⟨_,hs,rfl,lR _⟩
  ·exact .inr ⟨_,hq,lR _⟩
 |iB e _ he hf ht ih=>
  rcases ih with⟨x,hx,hv,hd⟩|⟨y,hy,hd⟩
  ·obtain⟨y,hy,e1,e2⟩:=h.clo x hx e he (hf.trans hv.symm) ht;rcases kK.1 hy with hs|hq
   ·exact .inl ⟨y,hs,e1,aB⟩
   ·exact .inr ⟨y,hq,aB⟩
  ·have:=(hL.vQ e he).2.2.2.2.2.1;exact .inr ⟨y,hy,aB⟩
theorem Hg.step{m:Nat}{L:List bP}{c a:Int}{q s:List It}(h:Hg m L c a q s)(hL:sL m L):Hg m L c a (HH L c (q,s)).1 (HH L c (q,s)).2:=by
 cases q with
 |nil=>exact h
 |cons x q=>
  have hq:=List.pairwise_cons.1 h.sY;have jL:Dp q:=λy hy z hz=>h.one y (by simp[hy]) z (by simp[hz]);obtain⟨g1,g2,g3,g4,g5⟩:=PI (c:=c) (s:=s++[x]) (d:=x.key) (l:=eN L x.id) hq.2 jL;show Hg m L c a (qQ c (s++[x]) x.key q (eN L x.id)) (s++[x]);generalize qQ c (s++[x]) x.key q (eN L x.id)=p at*;have hxs:xH s x.id=false:=h.pL x dP;have hxw:=h.Gn x dP;have hxb:=h.iF x dP;have inS:∀v,xH (s++[x]) v=false↔xH s v=false/\x.id≠v:=λv=>by simp[xH]
  have qT:∀d,gH L c a x.id d->x.key<=d:=λd hw=>by
   rcases h.reach hL hw with⟨y,hy,hv,_⟩|⟨y,hy,hd⟩
   ·have:xH s x.id=true:=XV.2 ⟨y,hy,hv⟩;rw[hxs] at this;cases this
   ·rcases jQ.1 hy with rfl|hy
    ·exact hd
    ·have:=kO.1 (hq.1 y hy);omega
  have hold:∀y∈s++(x::q),∃z∈s++[x]++p,z.id=y.id/\z.key<=y.key:=λy hy=>by
   rcases kK.1 hy with hy|hy
   ·exact⟨y,by simp[hy],rfl,lR _⟩
   ·rcases jQ.1 hy with rfl|hy
    ·exact⟨y,by simp,rfl,lR _⟩
    ·obtain⟨z,hz,r⟩:=g4 y hy;exact⟨z,by simp[hz],r⟩
  refine⟨g1,g2,?_,?_,?_,?_,?_,?_,?_,?_⟩
  ·rw[xF,List.nodup_append];refine⟨h.Et,by simp,λu hu v hv=>?_⟩;simp at hv;subst hv;obtain⟨y,hy,rfl⟩:=mQ.1 hu;intro e;have:xH s x.id=true:=XV.2 ⟨y,hy,e⟩;rw[hxs] at this;cases this
  ·intro y hy;rcases g3 y hy with ke|⟨e,_,_,h2,rfl⟩
   ·refine(inS _).2 ⟨h.pL y (by simp[ke]),λe=>?_⟩;have:=h.one x dP y (by simp[ke]) e;subst this;have:=kO.1 (hq.1 x ke);omega
   ·exact h2
  ·intro y hy;rcases kK.1 hy with hy|hy
   ·exact h.Gn y (by rcases kK.1 hy with hy|hy<;>simp_all)
   ·rcases g3 y hy with ke|⟨e,he,h1,_,rfl⟩
    ·exact h.Gn y (by simp[ke])
    ·obtain⟨heL,hef⟩:=fD.1 he;exact gH.iB e hxw heL hef h1
  ·rcases kK.1 h.src with hs|hs
   ·simp[hs]
   ·rcases jQ.1 hs with hs|hs
    ·simp[hs]
    ·--the first one is the source itself till it is eX
     obtain⟨z,hz,e1,e2⟩:=g4 _ hs;have:=qT 0;have hk:=kO.1 (hq.1 _ hs);have:=hxb.1;simp only at hk e1 e2;have hzb:0<=z.key:=by
      rcases g3 z hz with hzq|⟨e,he,_,_,rfl⟩
      ·exact(h.iF z (by simp[hzq])).1
      ·have:=(hL.vQ e (fD.1 he).1).2.2.2.2.2.1;show 0<=x.key+e.w;omega
     have:z=⟨a,0⟩:=by obtain⟨i,k⟩:=z;simp only at*;subst e1;congr 1;omega
     rw[<-this];simp[hz]
  ·intro y hy e he hf ht;rcases kK.1 hy with hy|hy
   ·obtain⟨z,hz,e1,e2⟩:=h.clo y hy e he hf ht;obtain⟨u,hu,e3,e4⟩:=hold z hz;exact⟨u,hu,e3.trans e1,Int.le_trans e4 e2⟩
   ·simp at hy;subst hy;cases JJ:xH (s++[y]) e.t with
    |false=>obtain⟨z,hz,r⟩:=g5 e (fD.2 ⟨he,hf⟩) ht JJ;exact⟨z,by simp[hz],r⟩
    |true=>
     obtain⟨z,hz,hzt⟩:=XV.1 JJ;refine⟨z,by simp only[kK];exact .inl (by simpa using hz),hzt,?_⟩;have hw:=gH.iB e hxw he hf ht;rcases kK.1 hz with hz|hz
     ·exact h.qT z hz _ (hzt▸hw)
     ·simp at hz;subst hz;exact qT _ (hzt▸hw)
  ·intro y hy z hz;have hxz:x.key<=z.key:=by
    rcases g3 z hz with hzq|⟨e,he,_,_,rfl⟩
    ·have:=kO.1 (hq.1 z hzq);omega
    ·have:=(hL.vQ e (fD.1 he).1).2.2.2.2.2.1;show x.key<=x.key+e.w;omega
   rcases kK.1 hy with hy|hy
   ·exact Int.le_trans (h.mono y hy x dP) hxz
   ·simp at hy;subst hy;exact hxz
  ·intro y hy;rcases kK.1 hy with hy|hy
   ·exact h.qT y hy
   ·simp at hy;subst hy;exact qT
  ·have len:(s++[x]).length=s.length+1:=by simp
   intro y hy;rw[len];have old:∀y∈s++(x::q),0<=y.key/\y.key<=((s.length+1:Nat):Int)*1099511627776/\0<=y.id/\y.id<m:=λy hy=>by
    obtain⟨b1,b2,b3⟩:=h.iF y hy;exact⟨b1,aB,b3⟩
   rcases kK.1 hy with hy|hy
   ·exact old y (by rcases kK.1 hy with hy|hy<;>simp_all)
   ·rcases g3 y hy with ke|⟨e,he,_,_,rfl⟩
    ·exact old y (by simp[ke])
    ·have hm:=hL.vQ e (fD.1 he).1;obtain⟨_,_,m1,m2,_,m3,m4,_⟩:=hm;refine⟨?_,?_,m1,m2⟩
     ·show 0<=x.key+e.w;omega
     ·show x.key+e.w<=_;omega
theorem yK{m:Nat}{L:List bP}(hL:sL m L)(c:Int){a:Int}(ha:0<=a)(mY:a<m):∀n,Hg m L c a (kJ L c a n).1 (kJ L c a n).2
 |0=>by
  refine⟨List.pairwise_singleton _ _,?_,List.nodup_nil,by simp[kJ,xH],?_,by simp[kJ],by simp[kJ],by simp[kJ],by simp[kJ],?_⟩
  ·intro x hx y hy _;simp[kJ] at hx hy;rw[hx,hy]
  ·intro x hx;simp[kJ] at hx;subst hx;exact gH.nil
  ·intro x hx;simp[kJ] at hx;subst hx;exact⟨lR _,by simp[kJ],ha,mY⟩
 |n+1=>(yK hL c ha mY n).step hL
theorem Fg(L:List bP)(c a:Int):∀n,(kJ L c a n).2.length=n\/((kJ L c a n).1=[]/\(kJ L c a n).2.length<=n)
 |0=>.inl rfl
 |n+1=>by
  have ih:=Fg L c a n;show(HH L c (kJ L c a n)).2.length=n+1\/((HH L c (kJ L c a n)).1=[]/\_);cases hz:kJ L c a n with
  |mk q s=>
   rw[hz] at ih;cases q with
   |nil=>
    right;refine⟨rfl,?_⟩;show(kJ L c a (n+1)).2.length<=n+1;have e:(kJ L c a (n+1)).2=s:=by show(HH L c (kJ L c a n)).2=s;rw[hz];rfl
    rw[e];rcases ih with h|h
    ·simp only at h;omega
    ·have:=h.2;simp only at this;omega
   |cons x q=>
    left;rcases ih with h|⟨h,_⟩
    ·simp[HH] at h ⊢;omega
    ·cases h
theorem xR:∀{m:Nat} {l:cR},l.Nodup->(∀x∈l,0<=x/\x<m)->l.length<=m
 |0,l,_,hb=>by
  cases l with
  |nil=>simp
  |cons x l=>have:=hb x dP;omega
 |m+1,l,h,hb=>by
  have one:∀(l:cR),l.Nodup->l.length<=(l.filter λx=>decide (x≠(m:Int))).length+1:=by
   intro l
   induction l with
   |nil=>intro _;simp
   |cons x l ih=>
    intro hn;rw[List.nodup_cons] at hn
    by_cases e:x=(m:Int)
    ·have:l.filter (λx=>decide (x≠(m:Int)))=l:=List.filter_eq_self.2 λy hy=>by
      simp only[ne_eq,decide_eq_true_eq];rintro rfl;exact hn.1 (e▸hy)
     simp only[JO];rw[this];simp[e]
    ·have:=ih hn.2;simp only[JO,mH];rw[if_pos (by simpa using e)];simp only[mH];omega
  have ih:=xR (m:=m) (l:=l.filter λx=>decide (x≠(m:Int))) (TU _ h) λx hx=>by
   have h1:=hb x (jR.1 hx).1;have h2:x≠(m:Int):=by simpa using(jR.1 hx).2
   omega
  have:=one l h;omega
theorem Hg.len{m:Nat}{L:List bP}{c a:Int}{q s:List It}(h:Hg m L c a q s):s.length<=m:=by
 have:=xR h.Et λv hv=>by obtain⟨x,hx,rfl⟩:=mQ.1 hv;exact(h.iF x (by simp[hx])).2.2
 simpa using this
theorem Hg.len_q{m:Nat}{L:List bP}{c a:Int}{x:It}{q s:List It}(h:Hg m L c a (x::q) s):s.length<m:=by
 have hn:((s.map (·.id))++[x.id]).Nodup:=by rw[List.nodup_append];refine⟨h.Et,by simp,λu hu v hv=>?_⟩;simp at hv;subst hv;obtain⟨y,hy,rfl⟩:=mQ.1 hu;intro e;have:=h.pL x dP;rw[XV.2 ⟨y,hy,e⟩] at this;cases this
 have:=xR (m:=m) hn λv hv=>by
  rcases kK.1 hv with hv|hv
  ·obtain⟨y,hy,rfl⟩:=mQ.1 hv;exact(h.iF y (by simp[hy])).2.2
  ·simp at hv;subst hv;exact(h.iF x dP).2.2
 simp at this;omega
section
variable{m:Nat}{L:List bP}(hL:sL m L)(c:Int){a:Int}(ha:0<=a)(mY:a<m)
include hL ha mY
theorem Is{n:Nat}(hn:m<=n):(kJ L c a n).1=[]:=by
 have hi:=yK hL c ha mY n;cases hz:kJ L c a n with
 |mk q s=>
  rw[hz] at hi;cases q with
  |nil=>rfl
  |cons x q=>
   have h1:=hi.len_q;rcases Fg L c a n with h|⟨h,_⟩
   ·rw[hz] at h;simp only at h h1;omega
   ·rw[hz] at h;cases h
omit hL ha mY in
theorem Za(n:Nat):∀k,(kJ L c a n).2=((kJ L c a (n+k)).2).take n
 |0=>by
  rcases Fg L c a n with h|⟨_,h⟩
  ·rw[Nat.add_zero,ly6 aB]
  ·rw[Nat.add_zero,ly6 h]
 |k+1=>by
  rw[Za n k];show _=(HH L c (kJ L c a (n+k))).2.take n;have hl:=Fg L c a (n+k);cases hz:kJ L c a (n+k) with
  |mk q s=>
   rw[hz] at hl;cases q with
   |nil=>rfl
   |cons x q=>
    rcases hl with h|⟨h,_⟩
    ·simp only[HH] at h ⊢;rw[List.take_append_of_le_length aB]
    ·cases h
omit hL ha mY in
def eX(m:Nat)(L:List bP)(c a:Int):List It:=(kJ L c a m).2
theorem run_eq(n:Nat):(kJ L c a n).2=(eX m L c a).take n:=by
 unfold eX;rcases Nat.le_total n m with h|h
 ·obtain⟨k,rfl⟩:∃k,m=n+k:=⟨m-n,aB⟩;exact Za c n k
 ·obtain⟨k,rfl⟩:∃k,n=m+k:=⟨n-m,aB⟩;rw[ly6 (by have:=(yK hL c ha mY m).len;omega)];clear h
  induction k with
  |zero=>rfl
  |succ k ih=>
   show(HH L c (kJ L c a (m+k))).2=_;have hk:=Is hL c ha mY (n:=m+k) aB;cases hz:kJ L c a (m+k) with
   |mk q s=>rw[hz] at ih hk;simp only at hk;subst hk;exact ih
theorem pZ{v d:Int}:(⟨v,d⟩:It)∈eX m L c a↔gH L c a v d/\∀d',gH L c a v d'->d<=d':=by
 have hi:=yK hL c ha mY m;have hd:=Is hL c ha mY (dN m);rw[hd] at hi
 constructor
 ·intro h;exact⟨hi.Gn _ (kK.2 (.inl h)),hi.qT _ h⟩
 ·rintro⟨h1,h2⟩;rcases hi.reach hL h1 with⟨x,hx,rfl,hk⟩|⟨y,hy,_⟩
  ·have:=hi.Gn x (by simpa using hx);have:=h2 _ this;have:(⟨x.id,d⟩:It)=x:=by obtain⟨i,k⟩:=x;simp only at*;congr 1;omega
   rw[this];exact hx
  ·cases hy
theorem SJ{v d:Int}(h:gH L c a v d):∃k,k<=d/\(⟨v,k⟩:It)∈eX m L c a:=by
 have hi:=yK hL c ha mY m;have hd:=Is hL c ha mY (dN m);rw[hd] at hi;rcases hi.reach hL h with⟨x,hx,rfl,hk⟩|⟨y,hy,_⟩
 ·exact⟨x.key,hk,hx⟩
 ·cases hy
theorem cg{x y:It}(hx:x∈eX m L c a)(hy:y∈eX m L c a)(e:x.id=y.id):x=y:=by
 have h1:=(pZ hL c ha mY (v:=x.id) (d:=x.key)).1 hx;have h2:=(pZ hL c ha mY (v:=y.id) (d:=y.key)).1 hy;obtain⟨i,k⟩:=x;obtain⟨j,l⟩:=y;simp only at e h1 h2;subst e;have:=h1.2 _ h2.1;have:=h2.2 _ h1.1;congr 1;omega
theorem NZ:(eX m L c a).length<=m:=(yK hL c ha mY m).len
theorem ck{x:It}(hx:x∈eX m L c a):0<=x.key/\x.key<=m*1099511627776/\0<=x.id/\x.id<m:=by
 have hi:=yK hL c ha mY m;have h1:=hi.iF x (by simp only[kK];exact .inl hx);have h2:=hi.len;refine⟨h1.1,?_,h1.2.2⟩;have:((kJ L c a m).2.length:Int)*1099511627776<=(m:Int)*1099511627776:=aB;omega
end
end
def gH.mono{L M:List bP}{c c' a v d:Int}(hs:∀e∈L,e.t≠c->e∈M/\e.t≠c')(h:gH L c a v d):gH M c' a v d:=by
 induction h with
 |nil=>exact .nil
 |iB e _ he hf ht ih=>exact .iB e ih (hs e he ht).1 hf (hs e he ht).2
def gH.trans{L:List bP}{c a v w d d':Int}(h:gH L c a v d)(h':gH L c v w d'):gH L c a w (d+d'):=by
 induction h' with
 |nil=>rw[Int.add_zero];exact h
 |iB e _ he hf ht ih=>rw[<-Int.add_assoc];exact .iB e ih he hf ht
def gH.ends{L:List bP}{c a v d:Int}(h:gH L c a v d):v=a\/v≠c:=by
 cases h with
 |nil=>exact .inl rfl
 |iB e _ _ _ ht=>exact .inr ht
def walk_cut{m:Nat}{L:List bP}(hL:sL m L){c a v d:Int}(hac:a≠c):gH (DU L c) (-1) a v d↔gH L c a v d:=by
 constructor
 ·refine gH.mono λe he _=>?_;have:=qD.1 he;exact⟨this.1,this.2.2⟩
 ·intro h
  induction h with
  |nil=>exact .nil
  |iB e h he hf ht ih=>
   have hfc:e.f≠c:=by rw[hf];rcases h.ends with rfl|h<;>assumption
   exact .iB e ih (qD.2 ⟨he,hfc,ht⟩) hf (by have:=(hL.vQ e he).2.2.1;omega)
def gH.pos{m:Nat}{L:List bP}(hL:sL m L){c a v d:Int}(h:gH L c a v d):0<=d:=by
 induction h with
 |nil=>exact lR _
 |iB e _ he _ _ ih=>have:=(hL.vQ e he).2.2.2.2.2.1;omega
def met(ds:cR):Nat:=(ds.filter λd=>decide (0<=d)).length
def bulk(d:Int):Nat:=if d<0 then 1152921504606846976 else d.toNat
def total(ds:cR):Nat:=(ds.map bulk).sum
def ZY(ds:cR):met ds<=ds.length:=xG _ _
def Ub:∀{ds:cR} {i:Nat} {x d:Int},ds[i]? =some x->0<=d->met (ds.set i d)=met ds+(if x<0 then 1 else 0)
 | [],i,x,d,h,_=>by simp at h
 |y::ds,0,x,d,h,hd=>by
  simp at h;subst h;simp only[List.set_cons_zero,met,JO]
  by_cases h0:y<0
  ·have e1:decide (0<=y)=false:=by simp;omega
   have e2:decide (0<=d)=true:=by simpa using hd
   rw[e1,e2,if_pos h0];simp
  ·have e1:decide (0<=y)=true:=by simp;omega
   have e2:decide (0<=d)=true:=by simpa using hd
   rw[e1,e2,if_neg h0];simp
 |y::ds,i+1,x,d,h,hd=>by
  simp at h;have ih:=Ub (i:=i) h hd;simp only[List.set_cons_succ,met,JO];simp only[met] at ih
  split
  ·simp only[mH,ih];omega
  ·exact ih
def Pf:∀{ds:cR} {i:Nat} {x d:Int},ds[i]? =some x->total (ds.set i d)+bulk x=total ds+bulk d
 | [],i,x,d,h=>by simp at h
 |y::ds,0,x,d,h=>by simp at h;subst h;simp[total];omega
 |y::ds,i+1,x,d,h=>by
  simp at h;have ih:=Pf (i:=i) (d:=d) h;simp only[List.set_cons_succ,total,Dg,List.sum_cons] at ih ⊢;omega
structure BF(m:Nat)(L:List bP)(a:Int)(ds:cR):Prop where
 len:ds.length=m
 src:ds[a.toNat]? =some 0
 Gn:∀(v:Nat) (d:Int),ds[v]? =some d->d=-1\/(0<=d/\gH L (-1) a (v:Int) d/\d<=met ds*1099511627776)
section
def fndB(s:List It)(to fF fR:Int):Bool:=(s.take fR.toNat).any λx=>decide (x.id=to) && decide (x.key<=fF)
def Zq{s:List It}{to fF fR:Int}:fndB s to fF fR=true↔∃(i:Nat) (d:Int),(i:Int)<fR/\s[i]? =some ⟨to,d⟩/\d<=fF:=by
 unfold fndB;rw[List.any_eq_true]
 constructor
 ·rintro⟨x,hx,hp⟩;obtain⟨i,hi⟩:=pJ.1 hx;have cD:=(eR.1 hi).1;rw[rA] at cD;rw[WC aB] at hi;obtain⟨a,b⟩:=x;simp at hp;exact⟨i,b,aB,by rw[hi,hp.1],hp.2⟩
 ·rintro⟨i,d,h1,h2,h3⟩;refine⟨⟨to,d⟩,pJ.2 ⟨i,?_⟩,by simpa using h3⟩;rw[WC aB];exact h2
def QO(n:Nat)(L:List bP)(a to c fF fR:Int):Bool:=decide (0<=a/\a<n) && (decide (0<=to/\to<n) && (decide (a≠c) && fndB (eX n L c a) to fF fR))
def WM(s:List It)(to fR:Int)(k:Nat):Bool:=(match s[k]? with|some x=>decide (x.id=to)|none=>false) ||decide (fR=(k:Int)+1)
def Tj(s:List It)(to fF:Int):Nat->Bool
 |0=>false
 |k+1=>match s[k]? with|some x=>decide (x.id=to) && decide (x.key<=fF)|none=>false
def OD(s:List It)(to fF:Int)(k:Nat):Tj s to fF (k+1)=match s[k]? with|some x=>decide (x.id=to) && decide (x.key<=fF)|none=>false:=rfl
def found_end{s:List It}{to fF fR:Int}(h1:Dp s)(hd:s.Nodup)(hs:1<=fR){m:Nat}(hm:m<=s.length)(vO:∀j,j+1<m->WM s to fR j=false)
  (hend:(m=s.length/\∀j,j<m->WM s to fR j=false)\/∃j,m=j+1/\WM s to fR j=true):Tj s to fF m=fndB s to fF fR:=by
 have no:∀j,WM s to fR j=false->∀x,s[j]? =some x->x.id≠to/\fR≠(j:Int)+1:=λj hj x hx=>by
  unfold WM at hj;rw[hx] at hj;simpa using hj
 rw[Bool.eq_iff_iff,Zq];rcases hend with⟨rfl,qU⟩|⟨j,rfl,hj⟩
 ·constructor
  ·intro hf;cases hl:s.length with
   |zero=>rw[hl] at hf;cases hf
   |succ k=>rw[hl] at hf;rw[OD] at hf;have hx:=cL (show k<s.length by omega);rw[hx] at hf;have:=(no k (qU k aB) _ hx).1;simp[this] at hf
  ·rintro⟨i,d,_,hi,_⟩;have cD:=(eR.1 hi).1;exact absurd rfl (no i (qU i cD) _ hi).1
 ·have hx:=cL (show j<s.length by omega);have kF:(j:Int)<fR:=by
   rcases Int.lt_or_le (j:Int) fR with h|h
   ·exact h
   ·obtain⟨i,hi⟩:∃i:Nat,fR=(i:Int)+1:=⟨(fR-1).toNat,aB⟩;have cD:i<s.length:=aB;exact absurd hi (no i (vO i aB) _ (cL cD)).2
  rw[OD,hx];generalize s[j]=x at hx
  constructor
  ·intro hf;simp at hf;exact⟨j,x.key,kF,by rw[hx,<-hf.1],hf.2⟩
  ·rintro⟨i,d,hi,kg,hdm⟩;have TN:i=j:=by
    rcases Nat.lt_trichotomy i j with h|h|h
    ·exact absurd rfl (no i (vO i aB) _ kg).1
    ·exact h
    ·--then it dI not stopped at j but by its count
     unfold WM at hj;rw[hx] at hj;simp at hj;rcases hj with hj|hj
     ·have he:=h1 x (kR hx) _ (kR kg) hj;have dL:=(eR.1 kg).1;have hn:=Xg.1 hd j i aB dL h;have e1:s[j]'(aB)=x:=(eR.1 hx).2;have e2:s[i]=⟨to,d⟩:=(eR.1 kg).2;rw[e1,e2] at hn;exact absurd he hn
     ·omega
   subst TN;rw[kg] at hx;cases hx;simpa using hdm
section
variable{m:Nat}{L:List bP}(hL:sL m L)(c:Int){a:Int}(ha:0<=a)(mY:a<m)
include hL ha mY
theorem Nd:(eX m L c a).Nodup:=by
 have h:=(yK hL c ha mY m).Et;unfold eX;exact List.Pairwise.imp (λ{x y} h e=>h (by rw[e])) (List.pairwise_map.1 h)
theorem cr:Dp (eX m L c a):=λ_ hx _ hy e=>cg hL c ha mY hx hy e
end
def yk{n:Nat}{L:List bP}{a to c:Int}(ha:0<=a/\a<n)(ht:0<=to/\to<n)(hac:a≠c)(k s:Int):QO n L a to c k s=true↔∃(i:Nat) (d:Int),(i:Int)<s/\(eX n L c a)[i]? =some ⟨to,d⟩/\d<=k:=by
 rw[<-Zq];unfold QO;rw[decide_eq_true ha,decide_eq_true ht,decide_eq_true hac];rfl
def wit_self(n:Nat)(L:List bP)(a to k s:Int):QO n L a to a k s=false:=by
 unfold QO;simp
def wit_walk{n:Nat}{L:List bP}(hL:sL n L){a to c k s:Int}(ha:0<=a/\a<n)(ht:0<=to/\to<n)(h:QO n L a to c k s=true):∃d,d<=k/\gH L c a to d/\∀d',gH L c a to d'->d<=d':=by
 have hac:a≠c:=λe=>by subst e;rw[wit_self] at h;cases h
 obtain⟨i,d,_,h2,h3⟩:=(yk ha ht hac k s).1 h;exact⟨d,h3,(pZ hL c ha.1 ha.2).1 (kR h2)⟩
end
section
def HJ(n:Nat)(L:List bP)(v:Int)(a b:bP):Bool:=!decide (a.f=b.t) && !QO n L a.f b.t v (a.w+b.w) 30
def mZ(n:Nat)(L:List bP)(v:Int)(a:bP)(bs:List bP):List bP:=(bs.filter (HJ n L v a)).map λb=>⟨a.f,b.t,a.w+b.w,v⟩
def gC(n:Nat)(L:List bP)(v:Int):List bP:=(oL L v).flatMap λa=>mZ n L v a (eN L v)
def FY(n:Nat)(L:List bP)(v:Int):Int:=(gC n L v).length-(oL L v).length-(eN L v).length
def bY(gs:rZ)(v:Nat):Bool:=gs.getD v false
def uY(n:Nat)(L:List bP)(gs:rZ)(z:Int×Int)(v:Nat):Int×Int:=
 if bY gs v then z else if z.1<0 then((v:Int),FY n L v) else if FY n L v<z.2 then((v:Int),FY n L v) else z
def mD(n:Nat)(L:List bP)(gs:rZ)(k:Nat):Int×Int:=(List.range k).foldl (uY n L gs) (-1,0)
def lJ(n:Nat)(L:List bP)(gs:rZ):Int:=(mD n L gs n).1
def OR(n:Nat)(L:List bP)(gs:rZ)(k:Nat):mD n L gs (k+1)=uY n L gs (mD n L gs k) k:=by
 unfold mD;rw[List.range_succ,List.foldl_append];rfl
def bz(n:Nat)(L:List bP)(v:Int)(a:bP)(bs:List bP)(b:bP):mZ n L v a (bs++[b])=mZ n L v a bs++(if HJ n L v a b then [⟨a.f,b.t,a.w+b.w,v⟩] else []):=by
 unfold mZ;rw[TV,xF];congr 1;simp only[JO,List.filter_nil]
 split<;>simp
def Jz(n:Nat)(L:List bP)(v:Int)(a:bP)(bs:List bP):(mZ n L v a bs).length<=bs.length:=by
 unfold mZ;rw[lT];exact xG _ _
def Pj(n:Nat)(L:List bP)(v:Int)(as_:List bP):(as_.flatMap λa=>mZ n L v a (eN L v)).length<=as_.length*(eN L v).length:=by
 induction as_ with
 |nil=>simp
 |cons a r ih=>have:=Jz n L v a (eN L v);simp only[FU,fN,mH];rw[Nat.add_mul];omega
def uV{n:Nat}{L:List bP}{v:Int}{x:bP}:x∈gC n L v↔∃a∈oL L v,∃b∈eN L v,HJ n L v a b=true/\x=⟨a.f,b.t,a.w+b.w,v⟩:=by
 unfold gC;rw[List.mem_flatMap]
 constructor
 ·rintro⟨a,ha,hx⟩;unfold mZ at hx;obtain⟨b,hb,rfl⟩:=mQ.1 hx;obtain⟨h1,h2⟩:=jR.1 hb;exact⟨a,ha,b,h1,h2,rfl⟩
 ·rintro⟨a,ha,b,hb,h,rfl⟩;refine⟨a,ha,?_⟩;unfold mZ;exact mQ.2 ⟨b,jR.2 ⟨hb,h⟩,rfl⟩
def Pm{n:Nat}{L:List bP}(hL:sL n L)(hn:n<=512)(v:Int):(gC n L v).length<=262144:=by
 have h1:=Pj n L v (oL L v);have h2:=hL.GB v;have h3:=hL.wF v;have:(oL L v).length*(eN L v).length<=512*512:=TS aB aB;unfold gC;omega
structure FirstOk(n:Nat)(L:List bP)(gs:rZ)(k:Nat)(z:Int×Int):Prop where
 none:z.1<0->z.1=-1/\∀v,v<k->bY gs v=true
 some:0<=z.1->z.1<k/\bY gs z.1.toNat=false/\z.2=FY n L z.1/\∀v,v<k->bY gs v=false->z.2<=FY n L v/\(FY n L v=z.2->z.1<=v)
def Zs(n:Nat)(L:List bP)(gs:rZ):∀k,FirstOk n L gs k (mD n L gs k)
 |0=>⟨λ_=>⟨rfl,λv hv=>aB⟩,λh=>absurd h (by show¬((0:Int)<=-1);decide)⟩
 |k+1=>by
  have ih:=Zs n L gs k;rw[OR];generalize mD n L gs k=z at*;unfold uY
  by_cases hg:bY gs k=true
  ·rw[if_pos hg];refine⟨λh=>⟨(ih.none h).1,λv hv=>?_⟩,λh=>?_⟩
   ·by_cases e:v=k
    ·rw[e];exact hg
    ·exact(ih.none h).2 v aB
   ·obtain⟨h1,h2,h3,h4⟩:=ih.some h;refine⟨aB,h2,h3,λv hv je=>?_⟩
    by_cases e:v=k
    ·rw[e,hg] at je;cases je
    ·exact h4 v aB je
  ·rw[if_neg hg];have km:bY gs k=false:=by simpa using hg
   by_cases h0:z.1<0
   ·rw[if_pos h0];refine⟨λh=>by simp only at h;omega,λ_=>⟨by simp only;omega,by simpa using km,rfl,λv hv je=>?_⟩⟩
    by_cases e:v=k
    ·subst e;exact⟨lR _,λ_=>lR _⟩
    ·rw[(ih.none h0).2 v aB] at je;cases je
   ·rw[if_neg h0];obtain⟨h1,h2,h3,h4⟩:=ih.some aB
    by_cases hw:FY n L k<z.2
    ·rw[if_pos hw];refine⟨λh=>by simp only at h;omega,λ_=>⟨by simp only;omega,by simpa using km,rfl,λv hv je=>?_⟩⟩
     by_cases e:v=k
     ·subst e;exact⟨lR _,λ_=>lR _⟩
     ·have:=(h4 v aB je).1;simp only;exact⟨aB,λe'=>aB⟩
    ·rw[if_neg hw];refine⟨λh=>absurd h h0,λ_=>⟨aB,h2,h3,λv hv je=>?_⟩⟩
     by_cases e:v=k
     ·subst e;exact⟨aB,λ_=>aB⟩
     ·exact h4 v aB je
def find_le{l:List bP}{f t:Int}{x:bP}(hs:CO l)(hx:x∈l)(hf:x.f=f)(ht:x.t=t):jT l f t=some x:=by subst hf;subst ht;exact zH hs hx
def put_light{m:Nat}{l:List bP}(h:sL m l){a:bP}(ha:FT m a):(∃y∈(vR m l a).1,y.f=a.f/\y.t=a.t/\y.w<=a.w)/\∀x∈l,∃y∈(vR m l a).1,y.f=x.f/\y.t=x.t/\y.w<=x.w:=by
 unfold vR;rw[if_pos ha];have LS:(∃y∈MK l a,y.f=a.f/\y.t=a.t/\y.w<=a.w):=⟨a,mM.2 (.inl rfl),rfl,rfl,lR _⟩;have old:∀x∈l,¬(x.f=a.f/\x.t=a.t)->∃y∈MK l a,y.f=x.f/\y.t=x.t/\y.w<=x.w:=λx hx hn=>⟨x,mM.2 (.inr ⟨hx,hn⟩),rfl,rfl,lR _⟩;cases hf:jT l a.f a.t with
 |none=>exact⟨LS,λx hx=>old x hx (VC hf x hx)⟩
 |some z=>
  obtain⟨hz,z1,z2⟩:=rS hf;simp only
  split
  ·exact⟨⟨z,hz,z1,z2,by assumption⟩,λx hx=>⟨x,hx,rfl,rfl,lR _⟩⟩
  ·refine⟨LS,λx hx=>?_⟩
   by_cases e:x.f=a.f/\x.t=a.t
   ·have:x=z:=by have:=find_le h.sY hx e.1 e.2;rw[hf] at this;exact(uI this).symm
    subst this;exact⟨a,mM.2 (.inl rfl),e.1.symm,e.2.symm,aB⟩
   ·exact old x hx e
def YH{m:Nat}:∀(xs:List bP) {l:List bP},sL m l->(∀a∈xs,FT m a)->∀x,x∈l\/x∈xs->∃y∈iC m l xs,y.f=x.f/\y.t=x.t/\y.w<=x.w
 | [],l,h,_,x,hx=>by
  rcases hx with hx|hx
  ·exact⟨x,hx,rfl,rfl,lR _⟩
  ·cases hx
 |a::xs,l,h,hm,x,hx=>by
  have hp:=put_light h (hm a dP);have ih:=YH xs (XB h a) λb hb=>hm b (by simp[hb]);have step:(∃y∈(vR m l a).1,y.f=x.f/\y.t=x.t/\y.w<=x.w)\/x∈xs:=by
   rcases hx with hx|hx
   ·exact .inl (hp.2 x hx)
   ·rcases jQ.1 hx with rfl|hx
    ·exact .inl hp.1
    ·exact .inr hx
  rcases step with⟨y,hy,e1,e2,e3⟩|hx
  ·obtain⟨z,hz,e4,e5,e6⟩:=ih y (.inl hy);exact⟨z,hz,e4.trans e1,e5.trans e2,Int.le_trans e6 e3⟩
  ·exact ih x (.inr hx)
def put_sub{m:Nat}{l:List bP}{a x:bP}(h:x∈(vR m l a).1):x∈l\/x=a:=by
 unfold vR at h
 split at h
 ·split at h
  ·split at h
   ·exact .inl h
   ·rcases mM.1 h with rfl|⟨h,_⟩
    ·exact .inr rfl
    ·exact .inl h
  ·rcases mM.1 h with rfl|⟨h,_⟩
   ·exact .inr rfl
   ·exact .inl h
 ·exact .inl h
def pW{m:Nat}:∀(xs:List bP) {l:List bP} {x:bP},x∈iC m l xs->x∈l\/x∈xs
 | [],_,_,h=>.inl h
 |a::xs,l,x,h=>by
  rcases pW xs (l:=(vR m l a).1) h with h|h
  ·rcases put_sub h with h|rfl
   ·exact .inl h
   ·exact .inr dP
  ·exact .inr (by simp[h])
section
variable{n:Nat}{L:List bP}(hL:sL n L){v:Int}(hw:∀e∈L,e.w<=549755813888)
include hL hw
theorem PH(hv0:0<=v)(Ep:v<n):∀x∈gC n L v,FT n x/\x.m=v/\x.f≠v/\x.t≠v:=by
 intro x hx;obtain⟨a,ha,b,hb,hn,rfl⟩:=uV.1 hx;obtain⟨ha,Gi⟩:=iO.1 ha;obtain⟨hb,hbf⟩:=fD.1 hb;obtain⟨a0,a1,a2,a3,a4,a5,a6,_⟩:=hL.vQ a ha;obtain⟨b0,b1,b2,b3,b4,b5,b6,_⟩:=hL.vQ b hb;have gQ:a.f≠b.t:=by unfold HJ at hn;simp at hn;exact hn.1
 have h1:=hw a ha;have h2:=hw b hb;have e1:a.f≠v:=aB;have e2:b.t≠v:=aB;exact⟨⟨a0,a1,b2,b3,gQ,by show 1<=a.w+b.w;omega,by show a.w+b.w<=_;omega,.inr ⟨hv0,Ep,λe=>e1 e.symm,λe=>e2 e.symm⟩⟩,rfl,e1,e2⟩
theorem Zp(hv0:0<=v)(Ep:v<n){a b d:Int}(ha:a≠v)(h:gH L (-1) a b d):
  (b≠v->∃d',d'<=d/\gH (iC n (DU L v) (gC n L v)) (-1) a b d')/\(b=v->∃e∈oL L v,∃d',gH (iC n (DU L v) (gC n L v)) (-1) a e.f d'/\d'+e.w<=d):=by
 have tH:=PH hL hw hv0 Ep;have hO:sL n (iC n (DU L v) (gC n L v)):=IB _ (hL.cut v);have light:=YH (gC n L v) (hL.cut v) λx hx=>(tH x hx).1;generalize iC n (DU L v) (gC n L v)=O at*;have arc:∀x,x∈DU L v\/x∈gC n L v->∀d,gH O (-1) a x.f d->∃d',d'<=d+x.w/\gH O (-1) a x.t d':=λx hx d hd=>by
  obtain⟨y,hy,e1,e2,e3⟩:=light x hx;have:=gH.iB y hd hy e1 (by have:=(hO.vQ y hy).2.2.1;omega);rw[e2] at this;exact⟨d+y.w,aB,this⟩
 have along:∀{p q d2:Int},gH (DU L v) (-1) p q d2->∀d1,gH O (-1) a p d1->∃d',d'<=d1+d2/\gH O (-1) a q d':=by
  intro p q d2 hpq
  induction hpq with
  |nil=>intro d1 h1;exact⟨d1,aB,h1⟩
  |iB e _ he hf _ ih=>intro d1 h1;obtain⟨d',hd',hw'⟩:=ih d1 h1;rw[<-hf] at hw';obtain⟨d'',h2,h3⟩:=arc e (.inl he) d' hw';exact⟨d'',aB,h3⟩
 induction h with
 |nil=>exact⟨λ_=>⟨0,lR _,.nil⟩,λe=>absurd e ha⟩
 | @iB x d e h he hf ht ih=>
  have heft:=(hL.vQ e he).2.2.2.2.1;refine⟨λhbv=>?_,λhbv=>?_⟩
  ·by_cases hfv:e.f=v
   ·--iA the number itself
    obtain⟨e1,he1,d1,Vy,hd1⟩:=ih.2 (hf.symm.trans hfv);obtain⟨he1L,he1t⟩:=iO.1 he1
    by_cases xz:e1.f=e.t
    ·rw[xz] at Vy;have:=(hL.vQ e he).2.2.2.2.2.1;have:=(hL.vQ e1 he1L).2.2.2.2.2.1;exact⟨d1,aB,Vy⟩
    ·have hout:e∈eN L v:=fD.2 ⟨he,hfv⟩;obtain⟨b0,b1,b2,b3,_⟩:=hL.vQ e he;obtain⟨c0,c1,c2,c3,c4,_⟩:=hL.vQ e1 he1L;cases hwit:QO n L e1.f e.t v (e1.w+e.w) 30 with
     |true=>obtain⟨d2,hd2,hw2,_⟩:=wit_walk hL ⟨c0,c1⟩ ⟨b2,b3⟩ hwit;have hw3:=(walk_cut hL aB).2 hw2;obtain⟨d',h1,h2⟩:=along hw3 d1 Vy;exact⟨d',aB,h2⟩
     |false=>
      have Hu:HJ n L v e1 e=true:=by unfold HJ;rw[hwit];simp[xz]
      obtain⟨d',h1,h2⟩:=arc ⟨e1.f,e.t,e1.w+e.w,v⟩ (.inr (uV.2 ⟨e1,he1,e,hout,Hu,rfl⟩)) d1 Vy;refine⟨d',?_,h2⟩;have:d'<=d1+(e1.w+e.w):=h1;omega
   ·obtain⟨d1,hd1,Vy⟩:=ih.1 (λe'=>hfv (hf.trans e'));rw[<-hf] at Vy;obtain⟨d',h1,h2⟩:=arc e (.inl (qD.2 ⟨he,hfv,hbv⟩)) d1 Vy;exact⟨d',aB,h2⟩
  ·have hfv:e.f≠v:=aB;obtain⟨d1,hd1,Vy⟩:=ih.1 (λe'=>hfv (hf.trans e'));rw[<-hf] at Vy;exact⟨e,iO.2 ⟨he,hbv⟩,d1,Vy,aB⟩
end
end
structure Bld where
 left:List bP
 all:List bP
 gone:rZ
 jK:cR
def pV(n:Nat)(k:Nat)(z:Bld):Bld:=
 ⟨DU (iC n z.left (gC n z.left (lJ n z.left z.gone))) (lJ n z.left z.gone),iC n z.all (gC n z.left (lJ n z.left z.gone)),z.gone.set (lJ n z.left z.gone).toNat true,z.jK.set (lJ n z.left z.gone).toNat (k:Int)⟩
def cZ(n:Nat)(L:List bP):Nat->Bld
 |0=>⟨L,L,List.replicate n false,List.replicate n 0⟩
 |k+1=>pV n k (cZ n L k)
def vW(gs:rZ):Nat:=(gs.filter λb=>b).length
def Px:∀{gs:rZ} {i:Nat},gs[i]? =some false->vW (gs.set i true)=vW gs+1
 | [],i,h=>by simp at h
 |b::gs,0,h=>by simp at h;subst h;simp[vW]
 |b::gs,i+1,h=>by
  simp at h;have ih:=Px (i:=i) h;simp only[List.set_cons_succ,vW,JO] at ih ⊢
  split
  ·simp only[mH];omega
  ·exact ih
def rj{gs:rZ}(h:vW gs<gs.length):∃v,v<gs.length/\bY gs v=false:=by
 induction gs with
 |nil=>simp at h
 |cons b gs ih=>
  cases b with
  |false=>exact⟨0,by simp,rfl⟩
  |true=>
   have:vW gs<gs.length:=by simp[vW] at h ⊢;omega
   obtain⟨v,h1,h2⟩:=ih this;exact⟨v+1,by simpa using h1,by unfold bY at h2 ⊢;simpa using h2⟩
def KJ{gs:rZ}{i:Nat}(hi:i<gs.length)(v:Nat):bY (gs.set i true) v=(decide (v=i) ||bY gs v):=by
 unfold bY;simp only[MJ,jC]
 by_cases e:v=i
 ·subst e;simp[hi]
 ·rw[if_neg (λh=>e h.symm)];simp[e]
def YL{l:List bP}{p:bP->Bool}{f t:Int}(hp:∀x∈l,x.f=f->x.t=t->p x=true):jT (l.filter p) f t=jT l f t:=by
 unfold jT
 induction l with
 |nil=>rfl
 |cons a l ih=>
  have ih':=ih λx hx=>hp x (by simp[hx]);simp only[JO]
  by_cases hpa:p a=true
  ·rw[if_pos hpa];simp only[List.find?_cons]
   split
   ·rfl
   ·exact ih'
  ·rw[if_neg hpa,ih'];simp only[List.find?_cons];have:(decide (a.f=f) && decide (a.t=t))=false:=by
    by_cases e1:a.f=f<;>by_cases e2:a.t=t<;>simp[e1,e2]
    exact hpa (hp a dP e1 e2)
   rw[this]
def Qa{n:Nat}{l:List bP}(h:sL n l)(a:bP)(f t:Int):jT (vR n l a).1 f t=
  if FT n a/\f=a.f/\t=a.t/\(match jT l f t with|some x=>decide (x.w<=a.w)|none=>false)=false then some a else jT l f t:=by
 have LS:∀f t,jT (MK l a) f t=if f=a.f/\t=a.t then some a else jT l f t:=λf t=>by
  have hs:=h.sY.LS a
  by_cases e:f=a.f/\t=a.t
  ·rw[if_pos e,e.1,e.2];exact zH hs (mM.2 (.inl rfl))
  ·rw[if_neg e];cases hx:jT l f t with
   |none=>
    have hn:=VC hx;cases hy:jT (MK l a) f t with
    |none=>rfl
    |some y=>
     obtain⟨hm,h1,h2⟩:=rS hy;rcases mM.1 hm with rfl|⟨hm,_⟩
     ·exact absurd ⟨h1.symm,h2.symm⟩ e
     ·exact absurd ⟨h1,h2⟩ (hn y hm)
   |some x=>obtain⟨hm,h1,h2⟩:=rS hx;have Wy:x∈MK l a:=mM.2 (.inr ⟨hm,λe'=>e ⟨h1.symm.trans e'.1,h2.symm.trans e'.2⟩⟩);have:=zH hs Wy;rwa[h1,h2] at this
 unfold vR
 by_cases hm:FT n a
 ·rw[if_pos hm];cases hf:jT l a.f a.t with
  |none=>
   simp only;rw[LS]
   by_cases e:f=a.f/\t=a.t
   ·rw[if_pos e,if_pos ⟨hm,e.1,e.2,by rw[e.1,e.2,hf]⟩]
   ·rw[if_neg e,if_neg (λe'=>e ⟨e'.2.1,e'.2.2.1⟩)]
  |some x=>
   simp only
   by_cases hw:x.w<=a.w
   ·rw[if_pos hw];rw[if_neg];rintro⟨_,e1,e2,e3⟩;rw[e1,e2,hf] at e3;simp at e3;omega
   ·rw[if_neg hw,LS]
    by_cases e:f=a.f/\t=a.t
    ·rw[if_pos e,if_pos ⟨hm,e.1,e.2,by rw[e.1,e.2,hf];simpa using hw⟩]
    ·rw[if_neg e,if_neg (λe'=>e ⟨e'.2.1,e'.2.2.1⟩)]
 ·rw[if_neg hm,if_neg (λe=>hm e.1)]
def wW{n:Nat}:∀(xs:List bP) {l m:List bP},sL n l->sL n m->∀f t,jT l f t=jT m f t->jT (iC n l xs) f t=jT (iC n m xs) f t
 | [],_,_,_,_,_,_,h=>h
 |a::xs,l,m,hl,hm,f,t,h=>by
  show jT (iC n (vR n l a).1 xs) f t=jT (iC n (vR n m a).1 xs) f t;refine wW xs (XB hl a) (XB hm a) f t ?_;rw[Qa hl,Qa hm,h]
structure Na(n:Nat)(k:Nat)(z:Bld):Prop where
 Gb:sL n z.left
 oka:sL n z.all
 gl:z.gone.length=n
 rl:z.jK.length=n
 Eu:vW z.gone=k
 wl:∀e∈z.left,e.w<=549755813888
 wa:∀e∈z.all,e.w<=549755813888
 lg:∀e∈z.left,bY z.gone e.f.toNat=false/\bY z.gone e.t.toNat=false
 same:∀f t:Int,0<=f->0<=t->bY z.gone f.toNat=false->bY z.gone t.toNat=false->jT z.all f t=jT z.left f t
 rk:∀v:Nat,v<n->bY z.gone v=true->0<=z.jK.getD v 0/\z.jK.getD v 0<k
 inj:∀v w:Nat,v<n->w<n->bY z.gone v=true->bY z.gone w=true->z.jK.getD v 0=z.jK.getD w 0->v=w
def CA{n k:Nat}{z:Bld}(h:Na n k z)(hk:k<n):0<=lJ n z.left z.gone/\lJ n z.left z.gone<n/\bY z.gone (lJ n z.left z.gone).toNat=false:=by
 have hf:=Zs n z.left z.gone n;obtain⟨v,h1,h2⟩:=rj (gs:=z.gone) (by rw[h.Eu,h.gl];exact hk);have:0<=(mD n z.left z.gone n).1:=by
  rcases Int.lt_or_le (mD n z.left z.gone n).1 0 with h'|h'
  ·have:=(hf.none h').2 v (by rw[<-h.gl];exact h1);rw[h2] at this;cases this
  ·exact h'
 obtain⟨a,b,_⟩:=hf.some this;exact⟨this,a,b⟩
def NN{l:cR}{i:Nat}(hi:i<l.length)(x:Int)(v:Nat):(l.set i x).getD v 0=if v=i then x else l.getD v 0:=by
 simp only[MJ,jC]
 by_cases e:v=i
 ·subst e;simp[hi]
 ·rw[if_neg (λh=>e h.symm),if_neg e]
def bld_start{n:Nat}{L:List bP}(hL:sL n L)(hw:∀e∈L,e.w<=40):Na n 0 (cZ n L 0):=by
 have g0:∀v,bY (List.replicate n false) v=false:=λv=>by unfold bY;rw[MJ,Gt];split<;>rfl
 refine⟨hL,hL,by simp[cZ],by simp[cZ],?_,λe he=>by have:=hw e he;omega,λe he=>by have:=hw e he;omega,λe _=>⟨g0 _,g0 _⟩,λ_ _ _ _ _ _=>rfl,λv _ hv=>?_,λv w _ _ hv=>?_⟩
 ·show vW (List.replicate n false)=0;unfold vW;rw[List.filter_eq_nil_iff.2 λb hb=>by rw[(List.mem_replicate.1 hb).2];simp];rfl
 ·rw[show(cZ n L 0).gone=List.replicate n false from rfl,g0] at hv;cases hv
 ·rw[show(cZ n L 0).gone=List.replicate n false from rfl,g0] at hv;cases hv
def bld_step{n k:Nat}{z:Bld}(h:Na n k z)(hk:k<n)(sw:∀x∈gC n z.left (lJ n z.left z.gone),x.w<=549755813888):Na n (k+1) (pV n k z):=by
 obtain⟨v0,v1,vg⟩:=CA h hk;unfold pV;generalize lJ n z.left z.gone=v at*;have cD:v.toNat<z.gone.length:=by rw[h.gl];omega
 have mo:v.toNat<z.jK.length:=by rw[h.rl];omega
 have Mt:=KJ cD;have okp:=IB (n:=n) (gC n z.left v) h.Gb;have sg:∀x∈gC n z.left v,bY z.gone x.f.toNat=false/\bY z.gone x.t.toNat=false:=λx hx=>by
  obtain⟨a,ha,b,hb,_,rfl⟩:=uV.1 hx;exact⟨(h.lg a (iO.1 ha).1).1,(h.lg b (fD.1 hb).1).2⟩
 refine⟨okp.cut v,IB _ h.oka,by simp[h.gl],by simp[h.rl],?_,λe he=>?_,λe he=>?_,λe he=>?_,λf t hf0 ht0 hf ht=>?_,λu hu hg=>?_,λu w hu hw hgu hgw e=>?_⟩
 ·have cI:z.gone[v.toNat]? =some false:=by
   unfold bY at vg;rw[MJ,cL cD] at vg;rw[cL cD];simpa using vg
  show vW (z.gone.set v.toNat true)=k+1;rw[Px cI,h.Eu]
 ·rcases pW _ (qD.1 he).1 with h'|h'
  ·exact h.wl e h'
  ·exact sw e h'
 ·rcases pW _ he with h'|h'
  ·exact h.wa e h'
  ·exact sw e h'
 ·obtain⟨he,ne1,ne2⟩:=qD.1 he;have hm:=okp.vQ e he;have hg:bY z.gone e.f.toNat=false/\bY z.gone e.t.toNat=false:=by
   rcases pW _ he with h'|h'
   ·exact h.lg e h'
   ·exact sg e h'
  show bY (z.gone.set v.toNat true) _=false/\bY (z.gone.set v.toNat true) _=false;rw[Mt,Mt,hg.1,hg.2];have:=hm.1;have:=hm.2.2.1
  constructor<;>simp<;>omega
 ·replace hf:bY (z.gone.set v.toNat true) f.toNat=false:=hf
  replace ht:bY (z.gone.set v.toNat true) t.toNat=false:=ht
  rw[Mt] at hf ht;simp at hf ht;show jT (iC n z.all _) f t=jT (DU (iC n z.left _) v) f t;have e1:=wW (gC n z.left v) h.oka h.Gb f t (h.same f t hf0 ht0 hf.2 ht.2);have e2:jT (DU (iC n z.left (gC n z.left v)) v) f t=jT (iC n z.left (gC n z.left v)) f t:=YL λx _ e3 e4=>by
   simp only[tG,decide_eq_true_eq];exact⟨λe=>hf.1 (by rw[<-e3,e]),λe=>ht.1 (by rw[<-e4,e])⟩
  rw[e1,e2]
 ·replace hg:bY (z.gone.set v.toNat true) u=true:=hg
  show 0<=(z.jK.set v.toNat (k:Int)).getD u 0/\(z.jK.set v.toNat (k:Int)).getD u 0<((k+1:Nat):Int);rw[Mt] at hg;rw[NN mo]
  by_cases e:u=v.toNat
  ·rw[if_pos e];omega
  ·rw[if_neg e];simp[e] at hg;have:=h.rk u hu hg;omega
 ·replace hgu:bY (z.gone.set v.toNat true) u=true:=hgu
  replace hgw:bY (z.gone.set v.toNat true) w=true:=hgw
  replace e:(z.jK.set v.toNat (k:Int)).getD u 0=(z.jK.set v.toNat (k:Int)).getD w 0:=e
  rw[Mt] at hgu hgw;rw[NN mo,NN mo] at e
  by_cases e1:u=v.toNat<;>by_cases e2:w=v.toNat
  ·rw[e1,e2]
  ·rw[if_pos e1,if_neg e2] at e;simp[e2] at hgw;have:=h.rk w hw hgw;omega
  ·rw[if_neg e1,if_pos e2] at e;simp[e1] at hgu;have:=h.rk u hu hgu;omega
  ·rw[if_neg e1,if_neg e2] at e;simp[e1] at hgu;simp[e2] at hgw;exact h.inj u w hu hw hgu hgw e
def XI{n:Nat}{z:Bld}(h:Na n n z)(v:Nat)(hv:v<n):bY z.gone v=true:=by
 cases hg:bY z.gone v with
 |true=>rfl
 |false=>
  have key:∀(gs:rZ) (v:Nat),v<gs.length->bY gs v=false->vW gs<gs.length:=by
   intro gs
   induction gs with
   |nil=>intro v hv;simp at hv
   |cons b gs ih=>
    intro v hv hg;have LV:vW gs<=gs.length:=xG _ _;cases b with
    |false=>simp[vW] at LV ⊢;omega
    |true=>
     cases v with
     |zero=>simp[bY] at hg
     |succ v=>have:=ih v (by simpa using hv) (by unfold bY at hg ⊢;simpa using hg);simp[vW] at this ⊢;omega
  have:=key z.gone v (by rw[h.gl];exact hv) hg;rw[h.Eu,h.gl] at this;omega
section
def Jf{n k:Nat}{z:Bld}(h:Na n k z){y:bP}(hy:y∈z.left):y∈z.all:=by
 obtain⟨g1,g2⟩:=h.lg y hy;have hm:=h.Gb.vQ y hy;have e:=h.same y.f y.t hm.1 hm.2.2.1 g1 g2;rw[zH h.Gb.sY hy] at e;exact(rS e).1
def zt{n:Nat}{L:List bP}(hL:sL n L){v:Int}{xs:List bP}(hx:∀x∈xs,x.f≠v/\x.t≠v):∀y∈iC n (DU L v) xs,y∈DU (iC n L xs) v:=by
 intro y hy;have oS:=IB (n:=n) xs (hL.cut v);have gQ:y.f≠v/\y.t≠v:=by
  rcases pW _ hy with h|h
  ·exact(qD.1 h).2
  ·exact hx y h
 have e1:jT (DU L v) y.f y.t=jT L y.f y.t:=YL λx _ e3 e4=>by
  simp only[tG,decide_eq_true_eq];exact⟨λe=>gQ.1 (by rw[<-e3,e]),λe=>gQ.2 (by rw[<-e4,e])⟩
 have e2:=wW xs (hL.cut v) hL y.f y.t e1;rw[zH oS.sY hy] at e2;exact qD.2 ⟨(rS e2.symm).1,gQ⟩
def qn{L:List bP}{a b d c:Int}(h:gH L (-1) a b d)(hac:a≠c):(b≠c/\gH L c a b d)\/∃d1 d2,gH L (-1) a c d1/\gH L (-1) c b d2/\d1+d2=d:=by
 induction h with
 |nil=>exact .inl ⟨hac,.nil⟩
 | @iB x d e h he hf ht ih=>
  by_cases hc:e.t=c
  ·refine .inr ⟨d+e.w,0,?_,?_,aB⟩
   ·have:=gH.iB e h he hf ht;rwa[hc] at this
   ·rw[hc];exact .nil
  ·rcases ih with⟨_,h1⟩|⟨d1,d2,h1,h2,h3⟩
   ·exact .inl ⟨hc,.iB e h1 he hf hc⟩
   ·exact .inr ⟨d1,d2+e.w,h1,.iB e h2 he hf ht,aB⟩
def gH.one_le{m:Nat}{L:List bP}(hL:sL m L){c a v d:Int}(h:gH L c a v d)(gQ:a≠v):1<=d:=by
 cases h with
 |nil=>exact absurd rfl gQ
 |iB e h he _ _=>have:=(hL.vQ e he).2.2.2.2.2.1;have:=h.pos hL;omega
def below(s:List It)(d:Int):Nat:=(s.filter λx=>decide (x.key<d)).length
def below_lt{s:List It}{x:It}(hx:x∈s){d:Int}(h:x.key<d):below s x.key+1<=below s d:=by
 induction s with
 |nil=>cases hx
 |cons y s ih=>
  have mono:∀s:List It,below s x.key<=below s d:=λs=>by
   induction s with
   |nil=>exact dN _
   |cons z s ih=>
    unfold below at ih ⊢;simp only[JO]
    by_cases h1:z.key<x.key
    ·have h2:z.key<d:=aB;simp[h1,h2];exact ih
    ·by_cases h2:z.key<d
     ·simp[h1,h2];omega
     ·simp[h1,h2];exact ih
  rcases jQ.1 hx with rfl|hx
  ·have:=mono s;unfold below at this ⊢;simp only[JO];simp[h];omega
  ·have:=ih hx;unfold below at this ⊢;simp only[JO]
   by_cases h1:y.key<x.key
   ·have h2:y.key<d:=aB;simp[h1,h2];exact this
   ·by_cases h2:y.key<d
    ·simp[h1,h2];omega
    ·simp[h1,h2];exact this
section
variable{m:Nat}{L:List bP}(hL:sL m L){W:Int}(hW:∀e∈L,e.w<=W)(hW0:0<=W){a:Int}(ha:0<=a)(mY:a<m)
include hL hW hW0 ha mY
theorem SK:∀(k:Nat) {v d:Int},d.toNat<=k->(⟨v,d⟩:It)∈eX m L (-1) a->d<=(below (eX m L (-1) a) d:Int)*W
 |k,v,d,hk,h=>by
  obtain⟨hw,ml⟩:=(pZ hL (-1) ha mY).1 h;cases hw with
  |nil=>exact Int.mul_nonneg aB hW0
  | @iB x d0 e h0 he hf ht=>
   have hew:=(hL.vQ e he).2.2.2.2.2.1;have hd0:=h0.pos hL;have hs:(⟨x,d0⟩:It)∈eX m L (-1) a:=(pZ hL (-1) ha mY).2 ⟨h0,λd' hd'=>by have:=ml (d'+e.w) (.iB e hd' he hf ht);omega⟩;obtain⟨k',rfl⟩:∃k',k=k'+1:=⟨k-1,aB⟩;have ih:=SK k' aB hs;have hb:=below_lt hs (d:=d0+e.w) (by show d0<d0+e.w;omega);have bW:(below (eX m L (-1) a) d0:Int)+1<=(below (eX m L (-1) a) (d0+e.w):Int):=by have:below (eX m L (-1) a) d0+1<=below (eX m L (-1) a) (d0+e.w):=hb;omega
   have h1:=Int.mul_le_mul_of_nonneg_right bW hW0;rw[Int.add_mul,Int.one_mul] at h1;have:=hW e he;omega
theorem qs{b d:Int}(h:gH L (-1) a b d):∃d',d'<=d/\gH L (-1) a b d'/\d'<=(m:Int)*W:=by
 obtain⟨k,hk,hs⟩:=SJ hL (-1) ha mY h;refine⟨k,hk,((pZ hL (-1) ha mY).1 hs).1,?_⟩;have h1:=SK hL hW hW0 ha mY k.toNat (dN _) hs;have h2:below (eX m L (-1) a) k<=m:=jB (xG _ _) (NZ hL (-1) ha mY);have h3:=Int.mul_le_mul_of_nonneg_right (show(below (eX m L (-1) a) k:Int)<=(m:Int) by omega) hW0;omega
end
def Ch:∀gs:rZ,((List.range gs.length).filter λv=>bY gs v).length=vW gs
 | []=>rfl
 |b::gs=>by
  have ih:=Ch gs;rw[mH,List.range_succ_eq_map,JO,List.filter_map];have e:((λv=>bY (b::gs) v) ∘ Nat.succ)=λv=>bY gs v:=by funext v;simp[bY]
  rw[e];cases b with
  |true=>
   have:bY (true::gs) 0=true:=by simp[bY]
   rw[this];simp[vW] at ih ⊢;exact ih
  |false=>
   have:bY (false::gs) 0=false:=by simp[bY]
   rw[this];simp[vW] at ih ⊢;exact ih
def cj{m:Nat}{L:List bP}(hL:sL m L){c a:Int}(ha:0<=a)(mY:a<m){gs:rZ}(hg:gs.length=m)(hx:∀x∈eX m L c a,bY gs x.id.toNat=false):
  (eX m L c a).length+vW gs<=m:=by
 have hnd:=(yK hL c ha mY m).Et;have JJ:∀x∈eX m L c a,0<=x.id/\x.id<m:=λx hx=>(ck hL c ha mY hx).2.2;have key:=xR (m:=m) (l:=(eX m L c a).map (·.id)++((List.range gs.length).filter λv=>bY gs v).map λv:Nat=>(v:Int)) ?_ ?_
 ·rw[fN,lT,lT,Ch] at key;exact key
 ·rw[List.nodup_append];refine⟨hnd,?_,?_⟩
  ·rw[List.Nodup,List.pairwise_map];exact List.Pairwise.imp (λ{x y:Nat} (h:x<y) (e:(x:Int)=(y:Int))=>aB) (TU _ (List.pairwise_lt_range (n:=gs.length)))
  ·intro x DS y hy e;obtain⟨x',QZ,rfl⟩:=mQ.1 DS;obtain⟨y',Eo,rfl⟩:=mQ.1 hy;have h1:=hx x' QZ;have h2:=(jR.1 Eo).2;rw[e,dU,h2] at h1;cases h1
 ·intro x DS;rcases kK.1 DS with h|h
  ·obtain⟨x',QZ,rfl⟩:=mQ.1 h;exact JJ x' QZ
  ·obtain⟨y',Eo,rfl⟩:=mQ.1 h;have:=List.mem_range.1 (jR.1 Eo).1;omega
def wit_few{n:Nat}{L:List bP}(hL:sL n L){a to c k:Int}{s:Nat}(ha:0<=a/\a<n)(ht:0<=to/\to<n)(hac:a≠c){d:Int}(hw:gH L c a to d)(hd:d<=k)(hs:(eX n L c a).length<=s):QO n L a to c k s=true:=by
 obtain⟨e,he,hm⟩:=SJ hL c ha.1 ha.2 hw;obtain⟨i,hi⟩:=pJ.1 hm;have h2:=(eR.1 hi).1;exact(yk ha ht hac k s).2 ⟨i,e,aB,hi,aB⟩
structure BRat(n:Nat)(L:List bP)(k:Nat)(z:Bld):Prop where
 abs:k<=21->∀e∈z.left,e.w<=40*2^k
 rat:∀e∈z.left,∀d,gH L (-1) e.f e.t d->e.w<=83886080*d
 aO:∀a b d:Int,gH L (-1) a b d->0<=a->0<=b->bY z.gone a.toNat=false->bY z.gone b.toNat=false->∃d',d'<=d/\gH z.left (-1) a b d'
 eJ:∀e∈z.left,gH L (-1) e.f e.t e.w
def rat_start{n:Nat}{L:List bP}(hL:sL n L)(hw:∀e∈L,e.w<=40):BRat n L 0 (cZ n L 0):=by
 refine⟨λ_ e he=>by have:=hw e he;omega,λe he d hd=>?_,λa b d h _ _ _ _=>⟨d,lR _,h⟩,λe he=>?_⟩
 ·have hm:=hL.vQ e he;have h1:=hd.one_le hL (λe'=>hm.2.2.2.2.1 e');have:=hw e he;omega
 ·have:=gH.iB (a:=e.f) e (.nil (L:=L) (c:=-1)) he rfl (by have:=(hL.vQ e he).2.2.1;omega);rwa[Int.zero_add] at this
def pow21{k:Nat}(h:k<=21):(40*2^k:Int)<=83886080:=by
 have:(2^k:Nat)<=2^21:=Nat.pow_le_pow_right (by decide) h;have e:((2^k:Nat):Int)=(2^k:Int):=by simp
 omega
def rat_step{n k:Nat}{L:List bP}{z:Bld}(hL:sL n L)(hw:∀e∈L,e.w<=40)(hn:n<=51)(h:Na n k z)(r:BRat n L k z)(hk:k<n):
  (∀x∈gC n z.left (lJ n z.left z.gone),x.w<=549755813888)/\BRat n L (k+1) (pV n k z):=by
 obtain⟨v0,v1,vg⟩:=CA h hk;have tH:=PH h.Gb (v:=lJ n z.left z.gone) h.wl v0 v1;unfold pV;generalize lJ n z.left z.gone=v at*;have cD:v.toNat<z.gone.length:=by rw[h.gl];omega
 have Mt:=KJ cD;have hback:∀{a b d:Int},gH z.left (-1) a b d->gH L (-1) a b d:=λ{a b d} hh=>by
  induction hh with
  |nil=>exact .nil
  |iB y _ hy hf _ ih=>rw[<-hf] at ih;exact ih.trans (r.eJ y hy)
 have sabs:k+1<=21->∀x∈gC n z.left v,x.w<=40*2^(k+1):=λRB x hx=>by
  obtain⟨p,hp,q,hq,_,rfl⟩:=uV.1 hx;have h1:=r.abs aB p (iO.1 hp).1;have h2:=r.abs aB q (fD.1 hq).1;show p.w+q.w<=_;omega
 have sback:∀x∈gC n z.left v,gH L (-1) x.f x.t x.w:=λx hx=>by
  obtain⟨p,hp,q,hq,_,rfl⟩:=uV.1 hx;obtain⟨hpL,hpt⟩:=iO.1 hp;obtain⟨hqL,hqf⟩:=fD.1 hq;have w1:=r.eJ p hpL;have w2:=r.eJ q hqL;rw[hpt] at w1;rw[hqf] at w2;exact w1.trans w2
 have srat:∀x∈gC n z.left v,∀d,gH L (-1) x.f x.t d->x.w<=83886080*d:=λx hx d hd=>by
  have hxm:=(tH x hx).1;have hd1:=hd.one_le hL (λe'=>hxm.2.2.2.2.1 e')
  by_cases RB:k+1<=21
  ·have h1:=sabs RB x hx;have h2:=pow21 RB;omega
  ·obtain⟨p,hp,q,hq,Hu,rfl⟩:=uV.1 hx;obtain⟨hpL,hpt⟩:=iO.1 hp;obtain⟨hqL,hqf⟩:=fD.1 hq;have mp:=h.Gb.vQ p hpL;have mq:=h.Gb.vQ q hqL;have gp:=(h.lg p hpL).1;have gq:=(h.lg q hqL).2;show p.w+q.w<=83886080*d;obtain⟨d',hd',wl⟩:=r.aO p.f q.t d hd mp.1 mq.2.2.1 gp gq;rcases Int.lt_or_le (p.w+q.w) d' with HC|LV
   ·omega
   ·have hpv:p.f≠v:=by have:=mp.2.2.2.2.1;omega
    rcases qn wl hpv with⟨_,hc⟩|⟨d1,d2,h1,h2,h3⟩
    ·have few:=cj h.Gb (c:=v) mp.1 mp.2.1 h.gl λy hy=>by
      have hwy:=((pZ h.Gb v mp.1 mp.2.1).1 (show(⟨y.id,y.key⟩:It)∈_ from hy)).1;generalize y.key=dk at hwy;generalize y.id=iy at hwy ⊢;cases hwy with
      |nil=>exact gp
      |iB e _ he _ _=>exact(h.lg e he).2
     rw[h.Eu] at few;have hwit:=wit_few (s:=30) h.Gb ⟨mp.1,mp.2.1⟩ ⟨mq.2.2.1,mq.2.2.2.1⟩ hpv hc LV aB;unfold HJ at Hu;have hwit':QO n z.left p.f q.t v (p.w+q.w) 30=true:=hwit;rw[hwit'] at Hu;simp at Hu
    ·have r1:=r.rat p hpL d1 (by rw[hpt];exact hback h1);have r2:=r.rat q hqL d2 (by rw[hqf];exact hback h2);omega
 refine⟨λx hx=>?_,λRB e he=>?_,λe he d hd=>?_,λa b d hd a0 b0 ag bg=>?_,λe he=>?_⟩
 ·have hxm:=(tH x hx).1;obtain⟨d',_,hd',hb⟩:=qs hL hw (by decide) hxm.1 hxm.2.1 (sback x hx);have:=srat x hx d' hd';omega
 ·rcases pW _ (qD.1 he).1 with h'|h'
  ·have:=r.abs aB e h';have:=(h.Gb.vQ e h').2.2.2.2.2.1;omega
  ·exact sabs RB e h'
 ·rcases pW _ (qD.1 he).1 with h'|h'
  ·exact r.rat e h' d hd
  ·exact srat e h' d hd
 ·replace ag:bY (z.gone.set v.toNat true) a.toNat=false:=ag
  replace bg:bY (z.gone.set v.toNat true) b.toNat=false:=bg
  rw[Mt] at ag bg;simp at ag bg;obtain⟨d1,h1,w1⟩:=r.aO a b d hd a0 b0 ag.2 bg.2;obtain⟨d2,h2,w2⟩:=(Zp h.Gb h.wl v0 v1 (λe=>ag.1 (by rw[e])) w1).1 (λe=>bg.1 (by rw[e]));exact⟨d2,aB,w2.mono λe he gQ=>⟨zt h.Gb (λx hx=>⟨(tH x hx).2.2.1,(tH x hx).2.2.2⟩) e he,gQ⟩⟩
 ·rcases pW _ (qD.1 he).1 with h'|h'
  ·exact r.eJ e h'
  ·exact sback e h'
def ae{n:Nat}{L:List bP}(hL:sL n L)(hw:∀e∈L,e.w<=40)(hn:n<=51):∀k,k<=n->Na n k (cZ n L k)/\BRat n L k (cZ n L k)
 |0,_=>⟨bld_start hL hw,rat_start hL hw⟩
 |k+1,h=>by
  obtain⟨h1,h2⟩:=ae hL hw hn k aB;obtain⟨h3,h4⟩:=rat_step hL hw hn h1 h2 aB;exact⟨bld_step h1 aB h3,h4⟩
def yM{n:Nat}{L:List bP}(hL:sL n L)(hw:∀e∈L,e.w<=40)(hn:n<=51)(k:Nat)(h:k<=n):Na n k (cZ n L k):=(ae hL hw hn k h).1
end
section
def put_keep{n:Nat}{l:List bP}(h:sL n l){a y:bP}(hy:y∈l)(gQ:¬(y.f=a.f/\y.t=a.t)):y∈(vR n l a).1:=by
 unfold vR
 split
 ·split
  ·split
   ·exact hy
   ·exact mM.2 (.inr ⟨hy,gQ⟩)
  ·exact mM.2 (.inr ⟨hy,gQ⟩)
 ·exact hy
def Cd{n:Nat}:∀(xs:List bP) {l:List bP},sL n l->∀y∈l,(∀a∈xs,¬(y.f=a.f/\y.t=a.t))->y∈iC n l xs
 | [],_,_,_,hy,_=>hy
 |a::xs,_,h,y,hy,hn=>Cd xs (XB h a) y (put_keep h hy (hn a dP)) λb hb=>hn b (by simp[hb])
structure BOwn(n:Nat)(L:List bP)(k:Nat)(z:Bld):Prop where
 gZ:∀y∈z.all,y.m<0->y∈L
 light:∀e∈L,∃y∈z.all,y.f=e.f/\y.t=e.t/\y.w<=e.w
 half:∀e∈z.all,0<=e.m->bY z.gone e.m.toNat=true/\(∃a∈z.all,∃b∈z.all,a.f=e.f/\a.t=e.m/\b.f=e.m/\b.t=e.t/\a.w+b.w=e.w)/\
  (bY z.gone e.f.toNat=true->z.jK.getD e.m.toNat 0<z.jK.getD e.f.toNat 0)/\(bY z.gone e.t.toNat=true->z.jK.getD e.m.toNat 0<z.jK.getD e.t.toNat 0)
section
variable{n k:Nat}{L:List bP}{z:Bld}
def Pg(h:Na n k z)(hk:k<n){y:bP}(hy:y∈z.all)
  (hg:bY z.gone y.f.toNat=true\/bY z.gone y.t.toNat=true\/y.f=lJ n z.left z.gone\/y.t=lJ n z.left z.gone):y∈(pV n k z).all:=by
 obtain⟨v0,v1,vg⟩:=CA h hk;unfold pV;generalize lJ n z.left z.gone=v at*;have hm:=PH h.Gb (v:=v) h.wl v0 v1;refine Cd _ h.oka y hy λa ha=>?_;obtain⟨p,hp,q,hq,_,rfl⟩:=uV.1 ha;have g1:=(h.lg p (iO.1 hp).1).1;have g2:=(h.lg q (fD.1 hq).1).2;obtain⟨_,_,n1,n2⟩:=hm _ ha;rintro⟨e1,e2⟩;have e1':y.f=p.f:=e1;have e2':y.t=q.t:=e2;rcases hg with hg|hg|hg|hg
 ·rw[e1',g1] at hg;cases hg
 ·rw[e2',g2] at hg;cases hg
 ·exact n1 (show p.f=v by omega)
 ·exact n2 (show q.t=v by omega)
end
def cC(rs:cR)(v:Int):Int:=if 0<=v/\v<rs.length then rs.getD v.toNat 0 else-1
def upL(A:List bP)(rs:cR)(v:Int):List bP:=(eN A v).filter λe=>decide (cC rs v<cC rs e.t)
def EO(A:List bP)(rs:cR)(v:Int):List bP:=(oL A v).filter λe=>decide (cC rs v<cC rs e.f)
inductive jo(A:List bP)(rs:cR)(a:Int):Int->Int->Prop where
 |nil:jo A rs a a 0
 |iB {v d:Int} (e:bP) (h:jo A rs a v d) (he:e∈A) (hf:e.f=v) (hr:cC rs e.f<cC rs e.t):jo A rs a e.t (d+e.w)
inductive HR(A:List bP)(rs:cR):Int->Int->Int->Prop where
 |nil (v:Int):HR A rs v v 0
 |iB {u v d:Int} (e:bP) (h:HR A rs u v d) (he:e∈A) (hf:e.f=v) (hr:cC rs e.t<cC rs e.f):HR A rs u e.t (d+e.w)
def jo.cons{A:List bP}{rs:cR}{x w d:Int}(e:bP)(he:e∈A)(hr:cC rs e.f<cC rs e.t)(ht:e.t=x)(h:jo A rs x w d):jo A rs e.f w (e.w+d):=by
 induction h with
 |nil=>rw[Int.add_zero,<-ht];have:=jo.iB (a:=e.f) e .nil he rfl hr;rwa[Int.zero_add] at this
 |iB e' _ vI ZC Wb ih=>rw[<-Int.add_assoc];exact .iB e' ih vI ZC Wb
def UD(A:List bP)(rs:cR)(a b d:Int):Prop:=∃m d1 d2,jo A rs a m d1/\HR A rs m b d2/\d1+d2<=d
def gH.lH{n:Nat}{L:List bP}(hL:sL n L){a:Int}:∀{b d:Int},gH L (-1) a b d->b≠a->∃e∈L,e.f=a/\e.t≠a/\∃d',gH L (-1) e.t b d'/\e.w+d'<=d:=by
 intro b d h
 induction h with
 |nil=>intro hb;exact absurd rfl hb
 | @iB x d e h he hf ht ih=>
  intro hb
  by_cases hx:x=a
  ·have:=h.pos hL;exact⟨e,he,hf.trans hx,hb,0,.nil,aB⟩
  ·obtain⟨e1,h1,h2,h3,d',h4,h5⟩:=ih hx;exact⟨e1,h1,h2,h3,d'+e.w,.iB e h4 he hf ht,aB⟩
section
variable{n:Nat}{L:List bP}(hL:sL n L)(hw:∀e∈L,e.w<=40)(hn:n<=51)
include hL hw hn
theorem IF:∀j k,k+j<=n->∀x:Nat,x<n->
  (bY (cZ n L k).gone x=true->bY (cZ n L (k+j)).gone x=true/\(cZ n L (k+j)).jK.getD x 0=(cZ n L k).jK.getD x 0)/\
  (bY (cZ n L k).gone x=false->bY (cZ n L (k+j)).gone x=true->(k:Int)<=(cZ n L (k+j)).jK.getD x 0)
 |0,k,_,x,_=>⟨λh=>⟨h,rfl⟩,λh h'=>by rw[Nat.add_zero,h] at h';cases h'⟩
 |j+1,k,hk,x,hx=>by
  obtain⟨h1,h2⟩:=IF j k aB x hx;have hi:=yM hL hw hn (k+j) aB;obtain⟨v0,v1,vg⟩:=CA hi aB;show(_->bY (pV n (k+j) (cZ n L (k+j))).gone x=true/\(pV n (k+j) (cZ n L (k+j))).jK.getD x 0=_)/\(_->bY (pV n (k+j) (cZ n L (k+j))).gone x=true->_<=(pV n (k+j) (cZ n L (k+j))).jK.getD x 0);unfold pV;generalize lJ n (cZ n L (k+j)).left (cZ n L (k+j)).gone=v at*;have cD:v.toNat<(cZ n L (k+j)).gone.length:=by rw[hi.gl];omega
  have mo:v.toNat<(cZ n L (k+j)).jK.length:=by rw[hi.rl];omega
  simp only[KJ cD,NN mo];refine⟨λhg=>?_,λhg km=>?_⟩
  ·obtain⟨g1,g2⟩:=h1 hg;have:x≠v.toNat:=λe=>by rw[e,vg] at g1;cases g1
   exact⟨by rw[g1];simp,by rw[if_neg this,g2]⟩
  ·by_cases e:x=v.toNat
   ·rw[if_pos e];omega
   ·rw[if_neg e];simp[e] at km;exact h2 hg km
theorem Qm:∀j k,k+j<=n->∀y∈(cZ n L k).all,(bY (cZ n L k).gone y.f.toNat=true\/bY (cZ n L k).gone y.t.toNat=true)->y∈(cZ n L (k+j)).all
 |0,_,_,_,hy,_=>hy
 |j+1,k,hk,y,hy,hg=>by
  have ih:=Qm j k aB y hy hg;have hi:=yM hL hw hn (k+j) aB;have hm:=hi.oka.vQ y ih;refine Pg hi aB ih ?_;rcases hg with hg|hg
  ·exact .inl ((IF hL hw hn j k aB y.f.toNat (by have:=hm.1;have:=hm.2.1;omega)).1 hg).1
  ·exact .inr (.inl ((IF hL hw hn j k aB y.t.toNat (by have:=hm.2.2.1;have:=hm.2.2.2.1;omega)).1 hg).1)
theorem NM{x:Int}(h0:0<=x)(h1:x<n):cC (cZ n L n).jK x=(cZ n L n).jK.getD x.toNat 0:=by
 unfold cC;rw[(yM hL hw hn n (dN n)).rl,if_pos ⟨h0,h1⟩]
theorem aAa:∀j k,k+j=n->∀{a b d:Int},gH (cZ n L k).left (-1) a b d->0<=a->a<n->bY (cZ n L k).gone a.toNat=false->bY (cZ n L k).gone b.toNat=false->0<=b->b<n->UD (cZ n L n).all (cZ n L n).jK a b d
 |0,k,hk,a,b,d,_,a0,a1,ag,_,_,_=>by
  have lM:k=n:=aB;subst lM;rw[XI (yM hL hw hn k (dN k)) a.toNat aB] at ag;cases ag
 |j+1,k,hk,a,b,d,hwk,a0,a1,ag,bg,b0,b1=>by
  have hi:=yM hL hw hn k aB;obtain⟨v0,v1,vg⟩:=CA hi aB;have hw':=hi.wl;have tH:=PH hi.Gb (v:=lJ n (cZ n L k).left (cZ n L k).gone) hw' v0 v1;have ih:=λ{a b d:Int}=>aAa j (k+1) aB (a:=a) (b:=b) (d:=d);have vO:cZ n L (k+1)=pV n k (cZ n L k):=rfl;have hleft:(cZ n L (k+1)).left=DU (iC n (cZ n L k).left (gC n (cZ n L k).left (lJ n (cZ n L k).left (cZ n L k).gone))) (lJ n (cZ n L k).left (cZ n L k).gone):=rfl;have yb:(cZ n L (k+1)).gone=(cZ n L k).gone.set (lJ n (cZ n L k).left (cZ n L k).gone).toNat true:=rfl;have hrank:(cZ n L (k+1)).jK=(cZ n L k).jK.set (lJ n (cZ n L k).left (cZ n L k).gone).toNat (k:Int):=rfl;have aO:=λy hy hg=>Pg hi aB (y:=y) hy hg;rw[<-vO] at aO;generalize lJ n (cZ n L k).left (cZ n L k).gone=v at*;have cD:v.toNat<(cZ n L k).gone.length:=by rw[hi.gl];omega
  have mo:v.toNat<(cZ n L k).jK.length:=by rw[hi.rl];omega
  have Mt:=KJ cD;have hvg:bY (cZ n L (k+1)).gone v.toNat=true:=by rw[yb,Mt];simp
  have hvr:cC (cZ n L n).jK v=(k:Int):=by rw[NM hL hw hn v0 v1];have:=((IF hL hw hn j (k+1) aB v.toNat aB).1 hvg).2;rw[show k+1+j=n by omega] at this;rw[this,hrank,NN mo,if_pos rfl]
  have nz:∀x:Int,0<=x->x≠v->bY (cZ n L k).gone x.toNat=false->bY (cZ n L (k+1)).gone x.toNat=false:=λx h0 hx hg=>by
   rw[yb,Mt,hg];simp;omega
  have higher:∀x:Int,0<=x->x<n->x≠v->bY (cZ n L k).gone x.toNat=false->(k:Int)<cC (cZ n L n).jK x:=λx h0 h1 hx hg=>by
   rw[NM hL hw hn h0 h1];have:=(IF hL hw hn j (k+1) aB x.toNat aB).2 (nz x h0 hx hg);rw[show k+1+j=n by omega] at this;have:=this (XI (yM hL hw hn n (dN n)) x.toNat aB);omega
  have away:∀{a b d:Int},gH (cZ n L k).left (-1) a b d->0<=a->a<n->a≠v->b≠v->bY (cZ n L k).gone a.toNat=false->bY (cZ n L k).gone b.toNat=false->0<=b->b<n->UD (cZ n L n).all (cZ n L n).jK a b d:=λ{a b d} hwk a0 a1 ha hb ag bg b0 b1=>by
   obtain⟨d',hd',hw2⟩:=(Zp hi.Gb hw' v0 v1 ha hwk).1 hb;have hw3:gH (cZ n L (k+1)).left (-1) a b d':=hw2.mono λe he gQ=>by
    rw[hleft];exact⟨zt hi.Gb (λx hx=>⟨(tH x hx).2.2.1,(tH x hx).2.2.2⟩) e he,gQ⟩
   obtain⟨m,d1,d2,h1,h2,h3⟩:=ih hw3 a0 a1 (nz a a0 ha ag) (nz b b0 hb bg) b0 b1;exact⟨m,d1,d2,h1,h2,aB⟩
  have lH:∀y∈(cZ n L k).left,(y.f=v\/y.t=v)->y∈(cZ n L n).all:=λy hy hv=>by
   have h1:=aO y (Jf hi hy) (by rcases hv with h|h;exact .inr (.inr (.inl h));exact .inr (.inr (.inr h)));have:=Qm hL hw hn j (k+1) aB y h1 (by rcases hv with h|h;exact .inl (by rw[h];exact hvg);exact .inr (by rw[h];exact hvg));rwa[show k+1+j=n by omega] at this
  by_cases hav:a=v
  ·by_cases hbv:b=v
   ·refine⟨a,0,0,.nil,?_,by have:=hwk.pos hi.Gb;omega⟩;rw[hbv,<-hav];exact .nil a
   ·obtain⟨e,he,hef,het,d',hw2,hd'⟩:=hwk.lH hi.Gb (by rw[hav];exact hbv);have hm:=hi.Gb.vQ e he;have hg:=hi.lg e he;have hetv:e.t≠v:=λe'=>het (e'.trans hav.symm);obtain⟨m,d1,d2,h1,h2,h3⟩:=away hw2 hm.2.2.1 hm.2.2.2.1 hetv hbv hg.2 bg b0 b1;have Vz:jo (cZ n L n).all (cZ n L n).jK e.f m (e.w+d1):=h1.cons e (lH e he (.inl (hef.trans hav))) (by rw[hef,hav,hvr];exact higher e.t hm.2.2.1 hm.2.2.2.1 hetv hg.2) rfl;rw[hef] at Vz;exact⟨m,e.w+d1,d2,Vz,h2,aB⟩
  ·by_cases hbv:b=v
   ·cases hwk with
    |nil=>exact absurd hbv hav
    | @iB x d0 e h he hf ht=>
     have hm:=hi.Gb.vQ e he;have hg:=hi.lg e he;have hxv:e.f≠v:=by have:=hm.2.2.2.2.1;omega
     rw[<-hf] at h;obtain⟨m,d1,d2,h1,h2,h3⟩:=away h a0 a1 hav hxv ag hg.1 hm.1 hm.2.1;refine⟨m,d1,d2+e.w,h1,.iB e h2 (lH e he (.inr hbv)) rfl (by rw[hbv,hvr];exact higher e.f hm.1 hm.2.1 hxv hg.1),aB⟩
   ·exact away hwk a0 a1 hav hbv ag bg b0 b1
theorem Jk:∀k,k<=n->∀y∈(cZ n L k).all,gH L (-1) y.f y.t y.w
 |0,_,y,hy=>by
  have Eo:y∈L:=hy;have:=gH.iB (a:=y.f) y (.nil (L:=L) (c:=-1)) Eo rfl (by have:=(hL.vQ y Eo).2.2.1;omega);rwa[Int.zero_add] at this
 |k+1,hk,y,hy=>by
  have hi:=yM hL hw hn k aB;have ih:=Jk k aB;rcases pW _ (show y∈iC n _ _ from hy) with h|h
  ·exact ih y h
  ·obtain⟨p,hp,q,hq,_,rfl⟩:=uV.1 h;obtain⟨hpL,hpt⟩:=iO.1 hp;obtain⟨hqL,hqf⟩:=fD.1 hq;have w1:=ih p (Jf hi hpL);have w2:=ih q (Jf hi hqL);rw[hpt] at w1;rw[hqf] at w2;exact w1.trans w2
theorem up_back{a b d:Int}(h:jo (cZ n L n).all (cZ n L n).jK a b d):gH L (-1) a b d:=by
 induction h with
 |nil=>exact .nil
 |iB e _ he hf _ ih=>rw[<-hf] at ih;exact ih.trans (Jk hL hw hn n (dN n) e he)
theorem down_back{a b d:Int}(h:HR (cZ n L n).all (cZ n L n).jK a b d):gH L (-1) a b d:=by
 induction h with
 |nil=>exact .nil
 |iB e _ he hf _ ih=>rw[<-hf] at ih;exact ih.trans (Jk hL hw hn n (dN n) e he)
theorem ud_iff{a b:Int}(a0:0<=a)(a1:a<n)(b0:0<=b)(b1:b<n):
  (∀d,gH L (-1) a b d->UD (cZ n L n).all (cZ n L n).jK a b d)/\∀m d1 d2,jo (cZ n L n).all (cZ n L n).jK a m d1->HR (cZ n L n).all (cZ n L n).jK m b d2->gH L (-1) a b (d1+d2):=by
 have g0:∀v,bY (List.replicate n false) v=false:=λv=>by unfold bY;rw[MJ,Gt];split<;>rfl
 exact⟨λd hd=>aAa hL hw hn n 0 aB hd a0 a1 (g0 _) (g0 _) b0 b1,λm d1 d2 h1 h2=>(up_back hL hw hn h1).trans (down_back hL hw hn h2)⟩
end
end
section
structure RelSt(n:Nat)(P:Int->Int->Prop)(ok:bP->Prop)(ds:cR):Prop where
 len:ds.length=n
 val:∀(w:Nat) (d:Int),ds[w]? =some d->d=-1\/(0<=d/\P (w:Int) d/\d<=met ds*1099511627776)
 rel:∀e,ok e->∀x y,ds[e.f.toNat]? =some x->ds[e.t.toNat]? =some y->0<=x->0<=y/\y<=x+e.w
section
variable{n:Nat}{P:Int->Int->Prop}{ok:bP->Prop}{ds:cR}
end
section
variable{n:Nat}{A:List bP}{rs:cR}{a:Int}
end
def Fh{n:Nat}{L:List bP}(hL:sL n L)(hw:∀e∈L,e.w<=40)(hn:n<=51){x y:Int}(x0:0<=x)(x1:x<n)(y0:0<=y)(y1:y<n)(gQ:x≠y):cC (cZ n L n).jK x≠cC (cZ n L n).jK y:=by
 have hi:=yM hL hw hn n (dN n);rw[NM hL hw hn x0 x1,NM hL hw hn y0 y1];intro e;have:=hi.inj x.toNat y.toNat aB aB (XI hi _ aB) (XI hi _ aB) e;omega
def Ix{n:Nat}{L:List bP}(hL:sL n L)(hw:∀e∈L,e.w<=40)(hn:n<=51){x:Int}(x0:0<=x)(x1:x<n):0<=cC (cZ n L n).jK x/\cC (cZ n L n).jK x<n:=by
 have hi:=yM hL hw hn n (dN n);rw[NM hL hw hn x0 x1];exact hi.rk x.toNat aB (XI hi _ aB)
end
section
inductive GW(src:Int->Prop)(nx:Int->List bP)(en:bP->Int):Int->Int->Prop where
 |nil {v:Int} (h:src v):GW src nx en v 0
 |iB {v d:Int} (e:bP) (h:GW src nx en v d) (he:e∈nx v):GW src nx en (en e) (d+e.w)
def gU(P:Int->Prop)(d:Int):Prop:=(d=-1/\∀k,¬P k)\/(0<=d/\P d/\∀k,P k->d<=k)
def gU.one{P:Int->Prop}{x y:Int}(hx:gU P x)(hy:gU P y):x=y:=by
 rcases hx with⟨h1,h2⟩|⟨h1,h2,h3⟩<;>rcases hy with⟨g1,g2⟩|⟨g1,g2,g3⟩
 ·rw[h1,g1]
 ·exact absurd g2 (h2 _)
 ·exact absurd h2 (g2 _)
 ·have:=h3 _ g2;have:=g3 _ h2;omega
def gU.congr{P P':Int->Prop}{x:Int}(h:gU P x)(hp:∀k,P k↔P' k):gU P' x:=by
 rcases h with⟨h1,h2⟩|⟨h1,h2,h3⟩
 ·exact .inl ⟨h1,λk hk=>h2 k ((hp k).2 hk)⟩
 ·exact .inr ⟨h1,(hp _).1 h2,λk hk=>h3 k ((hp k).2 hk)⟩
def MZ(n:Nat)(P:Int->Int->Prop)(ds:cR):Prop:=ds.length=n/\∀(v:Nat) (d:Int),ds[v]? =some d->gU (P (v:Int)) d
def MZ.one{n:Nat}{P:Int->Int->Prop}{ds es:cR}(h:MZ n P ds)(h':MZ n P es):ds=es:=by
 apply yV;intro v
 by_cases hv:v<n
 ·have h1:=cL (show v<ds.length by rw[h.1];exact hv);have h2:=cL (show v<es.length by rw[h'.1];exact hv);rw[h1,h2,(h.2 v _ h1).one (h'.2 v _ h2)]
 ·rw[List.getElem?_eq_none (by rw[h.1];omega),List.getElem?_eq_none (by rw[h'.1];omega)]
abbrev BW:Int:=1099511627776
structure Hk(n:Nat)(src:Int->Prop)(nx:Int->List bP)(en:bP->Int):Prop where
 src:∀v,src v->0<=v/\v<n
 arc:∀v,∀e∈nx v,0<=en e/\en e<n/\1<=e.w/\e.w<=BW
def GW.jv{n:Nat}{src:Int->Prop}{nx:Int->List bP}{en:bP->Int}(hN:Hk n src nx en){v d:Int}(h:GW src nx en v d):0<=v/\v<n/\0<=d:=by
 induction h with
 |nil h=>have:=hN.src _ h;omega
 |iB e _ he ih=>have:=hN.arc _ e he;omega
def Ad(src:Int->Prop)(nx:Int->List bP)(en:bP->Int)(ds:cR)(v d u:Int):Prop:=
 (u=-1/\src v/\d=0)\/(0<=u/\∃e c,ds[u.toNat]? =some c/\0<=c/\e∈nx u/\en e=v/\c+e.w=d)
structure uM(n:Nat)(src:Int->Prop)(nx:Int->List bP)(en:bP->Int)(ok:Int->bP->Prop)(ds bs:cR)(q:List It)(kn:Int->Option Int):Prop where
 dl:ds.length=n
 bl:bs.length=n
 Dq:∀(v:Nat) (d:Int),ds[v]? =some d->d=-1\/(0<=d/\GW src nx en (v:Int) d/\(∀k,GW src nx en (v:Int) k->d<=k)/\d+BW<=met ds*BW/\∃u,bs[v]? =some u/\Ad src nx en ds (v:Int) d u)
 qi:∀y∈q,0<=y.id/\y.id<n/\ds[y.id.toNat]? =some (-1)/\GW src nx en y.id y.key/\y.key<=met ds*BW/\∃u,kn y.id=some u/\Ad src nx en ds y.id y.key u
 fr:∀(v:Nat) (d:Int) (e:bP),ds[v]? =some d->0<=d->e∈nx (v:Int)->ok (v:Int) e->(∃c,ds[(en e).toNat]? =some c/\0<=c)\/∃y∈q,y.id=en e/\y.key<=d+e.w
 sr:∀v,src v->(∃d,ds[v.toNat]? =some d/\0<=d)\/∃y∈q,y.id=v/\y.key<=0
def uM.mono{n:Nat}{src:Int->Prop}{nx:Int->List bP}{en:bP->Int}{ok Rl:Int->bP->Prop}{ds bs:cR}{q:List It}{kn:Int->Option Int}(h:uM n src nx en ok ds bs q kn)(hm:∀v e,e∈nx v->Rl v e->ok v e):uM n src nx en Rl ds bs q kn:=
 ⟨h.dl,h.bl,h.Dq,h.qi,λv d e hd h0 he oS=>h.fr v d e hd h0 he (hm _ e he oS),h.sr⟩
section
variable{n:Nat}{src:Int->Prop}{nx:Int->List bP}{en:bP->Int}{ok:Int->bP->Prop}{ds bs:cR}{q:List It}{kn:Int->Option Int}
def uM.le(h:uM n src nx en ok ds bs q kn){v:Nat}{d:Int}(hd:ds[v]? =some d)(h0:0<=d):∀k,GW src nx en (v:Int) k->d<=k:=by
 rcases h.Dq v d hd with h1|⟨_,_,h1,_⟩
 ·omega
 ·exact h1
def uM.gw(h:uM n src nx en ok ds bs q kn){v:Nat}{d:Int}(hd:ds[v]? =some d)(h0:0<=d):GW src nx en (v:Int) d:=by
 rcases h.Dq v d hd with h1|⟨_,h1,_⟩
 ·omega
 ·exact h1
def uM.reach(h:uM n src nx en (λ_ _=>True) ds bs q kn)(hN:Hk n src nx en){v d:Int}(hw:GW src nx en v d):(∃c,ds[v.toNat]? =some c/\0<=c/\c<=d)\/∃y∈q,y.key<=d:=by
 induction hw with
 |nil hs=>
  rcases h.sr _ hs with⟨c,h1,h2⟩|⟨y,hy,_,hk⟩
  ·have hr:=hN.src _ hs;exact .inl ⟨c,h1,h2,h.le h1 h2 0 (by rw[show((Int.toNat _:Nat):Int)=_ from kc hr.1];exact .nil hs)⟩
  ·exact .inr ⟨y,hy,hk⟩
 | @iB v d e hw he ih=>
  have hr:=hw.jv hN;have ha:=hN.arc _ e he;have ev:(v.toNat:Int)=v:=kc hr.1;have ee:(((en e).toNat:Nat):Int)=en e:=kc ha.1;rcases ih with⟨c,h1,h2,h3⟩|⟨y,hy,hk⟩
  ·rcases h.fr v.toNat c e h1 h2 (by rw[ev];exact he) trivial with⟨c',h4,h5⟩|⟨y,hy,_,hk⟩
   ·refine .inl ⟨c',h4,h5,h.le h4 h5 _ ?_⟩;rw[ee];exact .iB e hw he
   ·exact .inr ⟨y,hy,aB⟩
  ·exact .inr ⟨y,hy,aB⟩
def Ad.set{v d u:Int}(h:Ad src nx en ds v d u){i:Nat}{x:Int}(hi:ds[i]? =some (-1)):Ad src nx en (ds.set i x) v d u:=by
 rcases h with h|⟨h0,e,c,h1,h2,h3⟩
 ·exact .inl h
 ·refine .inr ⟨h0,e,c,?_,h2,h3⟩;rw[jC]
  by_cases ee:i=u.toNat
  ·rw[<-ee,hi] at h1;cases h1;omega
  ·rw[if_neg ee];exact h1
def uM.pop{x:It}(h:uM n src nx en (λ_ _=>True) ds bs (x::q) kn)(hN:Hk n src nx en)(hs:CM (x::q))(h1:Dp (x::q)){u:Int}(hu:kn x.id=some u):
  uM n src nx en (λv _=>v≠x.id) (ds.set x.id.toNat x.key) (bs.set x.id.toNat u) q kn/\met (ds.set x.id.toNat x.key)=met ds+1:=by
 obtain⟨i0,i1,hx,gx,kb,u',hu',bk⟩:=h.qi x dP;rw[hu] at hu';cases hu';have ex:(x.id.toNat:Int)=x.id:=kc i0;have k0:0<=x.key:=(gx.jv hN).2.2;have hm:met (ds.set x.id.toNat x.key)=met ds+1:=by rw[Ub hx k0,if_pos aB]
 have cD:x.id.toNat<ds.length:=by rw[h.dl];omega
 have gQ:∀y∈q,y.id≠x.id:=λy hy e=>by
  have:=h1 y (by simp[hy]) x dP e;subst this;have:=(List.pairwise_cons.1 hs).1 y hy;rw[kO] at this;omega
 have old:∀{v:Nat} {d:Int},ds[v]? =some d->0<=d->(ds.set x.id.toNat x.key)[v]? =some d:=λ{v d} hd h0=>by
  rw[jC]
  by_cases e:x.id.toNat=v
  ·rw[<-e,hx] at hd;cases hd;omega
  ·rw[if_neg e];exact hd
 have self:(ds.set x.id.toNat x.key)[x.id.toNat]? =some x.key:=by rw[jC,if_pos rfl,if_pos cD]
 refine⟨⟨by rw[oE];exact h.dl,by rw[oE];exact h.bl,λv d hd=>?_,λy hy=>?_,λv d e hd h0 he oS=>?_,λv hv=>?_⟩,hm⟩
 ·rw[hm]
  by_cases e:x.id.toNat=v
  ·subst e;rw[self] at hd;cases hd;refine .inr ⟨k0,by rw[ex];exact gx,λk hk=>?_,?_,u,?_,by rw[ex];exact bk.set hx⟩
   ·rw[ex] at hk;rcases h.reach hN hk with⟨c,g1,g2,_⟩|⟨y,hy,hyk⟩
    ·rw[hx] at g1;cases g1;omega
    ·rcases jQ.1 hy with rfl|hy
     ·exact hyk
     ·have:=(List.pairwise_cons.1 hs).1 y hy;rw[kO] at this;omega
   ·simp only[BW] at*;omega
   ·rw[jC,if_pos rfl,if_pos (by rw[h.bl];omega)]
  ·rw[jC,if_neg e] at hd;rcases h.Dq v d hd with h2|⟨h2,h3,h4,h5,w,h6,h7⟩
   ·exact .inl h2
   ·refine .inr ⟨h2,h3,h4,by simp only[BW] at*;omega,w,?_,h7.set hx⟩;rw[jC,if_neg e];exact h6
 ·obtain⟨a0,a1,a2,a3,a4,w,a5,a6⟩:=h.qi y (by simp[hy]);refine⟨a0,a1,?_,a3,by rw[hm];simp only[BW] at*;omega,w,a5,a6.set hx⟩;rw[jC,if_neg (λe=>gQ y hy aB)];exact a2
 ·have hvx:v≠x.id.toNat:=λe=>oS aB;rw[jC,if_neg (λe=>hvx e.symm)] at hd;rcases h.fr v d e hd h0 he trivial with⟨c,g1,g2⟩|⟨y,hy,g1,g2⟩
  ·exact .inl ⟨c,old g1 g2,g2⟩
  ·rcases jQ.1 hy with rfl|hy
   ·exact .inl ⟨_,by rw[<-g1];exact self,k0⟩
   ·exact .inr ⟨y,hy,g1,g2⟩
 ·rcases h.sr v hv with⟨d,g1,g2⟩|⟨y,hy,g1,g2⟩
  ·exact .inl ⟨d,old g1 g2,g2⟩
  ·rcases jQ.1 hy with rfl|hy
   ·exact .inl ⟨_,by rw[<-g1];exact self,k0⟩
   ·exact .inr ⟨y,hy,g1,g2⟩
def uM.skip(h:uM n src nx en ok ds bs q kn){v:Int}{e:bP}{c:Int}(hc:ds[(en e).toNat]? =some c)(h0:0<=c):uM n src nx en (λv' e'=>ok v' e'\/(v'=v/\e'=e)) ds bs q kn:=
 ⟨h.dl,h.bl,h.Dq,h.qi,λv' d e' hd hd0 he oS=>by
  rcases oS with oS|⟨_,rfl⟩
  ·exact h.fr v' d e' hd hd0 he oS
  ·exact .inl ⟨c,hc,h0⟩,h.sr⟩
def knP(kn:Int->Option Int)(b:Bool)(t v:Int):Int->Option Int:=if b thenλy=>if y=t then some v else kn y else kn
def uM.push(h:uM n src nx en ok ds bs q kn)(hN:Hk n src nx en)(h1:Dp q){v:Nat}{d:Int}{e:bP}(hd:ds[v]? =some d)(h0:0<=d)(he:e∈nx (v:Int))(hc:ds[(en e).toNat]? =some (-1)):
  uM n src nx en (λv' e'=>ok v' e'\/(v'=(v:Int)/\e'=e)) ds bs (oM q (en e) (d+e.w)).1 (knP kn (oM q (en e) (d+e.w)).2 (en e) (v:Int)):=by
 have ha:=hN.arc _ e he;have aO:=λ{x:It} hx=>PJ h1 (v:=en e) (k:=d+e.w) (x:=x) hx;have qT:=XQ (q:=q) (v:=en e) (k:=d+e.w);refine⟨h.dl,h.bl,h.Dq,λy hy=>?_,λv' d' e' hd' hd0 vI oS=>?_,λv' kI=>?_⟩
 ·have jL:=DF h1 (en e) (d+e.w);have gG:y∈q\/y=⟨en e,d+e.w⟩:=XP hy;unfold oM at hy jL ⊢
  by_cases hl:Du q (en e) (d+e.w)=true
  ·rw[if_pos hl] at hy ⊢;exact h.qi y hy
  ·rw[if_neg hl] at hy jL ⊢;have Sf:(⟨en e,d+e.w⟩:It)∈insQ (q.filter λy=>decide (y.id≠en e)) ⟨en e,d+e.w⟩:=zG.2 (.inl rfl)
   by_cases hid:y.id=en e
   ·have:=jL y hy _ Sf hid;subst this;have hb:d+BW<=met ds*BW:=by
     rcases h.Dq v d hd with h2|⟨_,_,_,h2,_⟩
     ·omega
     ·exact h2
    refine⟨ha.1,ha.2.1,hc,.iB e (h.gw hd h0) he,by simp only[BW] at*;omega,(v:Int),?_,.inr ⟨aB,e,d,?_,h0,he,rfl,rfl⟩⟩
    ·simp[knP]
    ·rw[dU];exact hd
   ·have ke:y∈q:=gG.resolve_right λe'=>hid (by rw[e']);obtain⟨a0,a1,a2,a3,a4,w,a5,a6⟩:=h.qi y ke;refine⟨a0,a1,a2,a3,a4,w,?_,a6⟩;simp only[knP,if_true];rw[if_neg hid];exact a5
 ·rcases oS with oS|⟨hv,rfl⟩
  ·rcases h.fr v' d' e' hd' hd0 vI oS with g|⟨y,hy,g1,g2⟩
   ·exact .inl g
   ·obtain⟨y',Eo,e1,e2⟩:=aO hy;exact .inr ⟨y',Eo,e1.trans g1,aB⟩
  ·have:v'=v:=aB;subst this;rw[hd] at hd';cases hd';exact .inr qT
 ·rcases h.sr v' kI with g|⟨y,hy,g1,g2⟩
  ·exact .inl g
  ·obtain⟨y',Eo,e1,e2⟩:=aO hy;exact .inr ⟨y',Eo,e1.trans g1,aB⟩
structure Grown(n:Nat)(src:Int->Prop)(nx:Int->List bP)(en:bP->Int)(ds bs:cR):Prop where
 pL:MZ n (GW src nx en) ds
 bl:bs.length=n
 eJ:∀(v:Nat) (d:Int),ds[v]? =some d->0<=d->∃u,bs[v]? =some u/\Ad src nx en ds (v:Int) d u
 iF:∀(v:Nat) (d:Int),ds[v]? =some d->-1<=d/\d<=n*BW
def uM.done(h:uM n src nx en (λ_ _=>True) ds bs [] kn)(hN:Hk n src nx en):Grown n src nx en ds bs:=by
 refine⟨⟨h.dl,λv d hd=>?_⟩,h.bl,λv d hd h0=>?_,λv d hd=>?_⟩
 ·rcases h.Dq v d hd with h1|⟨h1,h2,h3,_⟩
  ·refine .inl ⟨h1,λk hk=>?_⟩;rcases h.reach hN hk with⟨c,g1,g2,_⟩|⟨y,hy,_⟩
   ·rw[dU,hd] at g1;cases g1;omega
   ·cases hy
  ·exact .inr ⟨h1,h2,h3⟩
 ·rcases h.Dq v d hd with h1|⟨_,_,_,_,h1⟩
  ·omega
  ·exact h1
 ·have hm:=ZY ds;rw[h.dl] at hm;rcases h.Dq v d hd with h1|⟨h0,_,_,h1,_⟩
  ·simp only[BW];omega
  ·simp only[BW] at*;omega
def uM.start(hN:Hk n src nx en){q:List It}{kn:Int->Option Int}(hq:∀y∈q,y.key=0/\src y.id/\kn y.id=some (-1))(hs:∀v,src v->∃y∈q,y.id=v):
  uM n src nx en (λ_ _=>True) (List.replicate n (-1)) (List.replicate n (-1)) q kn:=by
 have rep:∀{v:Nat} {d:Int},(List.replicate n (-1:Int))[v]? =some d->d=-1:=λ{v d} h=>by
  rw[Gt] at h
  split at h
  ·exact(uI h).symm
  ·cases h
 refine⟨by simp,by simp,λv d hd=>.inl (rep hd),λy hy=>?_,λv d e hd h0=>by have:=rep hd;omega,λv hv=>?_⟩
 ·obtain⟨h1,h2,h3⟩:=hq y hy;have hr:=hN.src _ h2;refine⟨hr.1,hr.2,?_,by rw[h1];exact .nil h2,by rw[h1];simp only[BW];omega,-1,h3,.inl ⟨rfl,h2,h1⟩⟩;rw[Gt,if_pos aB]
 ·obtain⟨y,hy,e⟩:=hs v hv;exact .inr ⟨y,hy,e,by rw[(hq y hy).1];exact lR _⟩
end
def vV(n:Nat)(fs:cR)(v:Int):Prop:=v∈fs/\0<=v/\v<n
end
section
section
variable{n:Nat}{L:List bP}(hL:sL n L)(hw:∀e∈L,e.w<=40)(hn:n<=30)
include hL hw hn
end
inductive Yp(A:List bP):Int->Int->cR->Prop where
 |gZ {e:bP} (he:e∈A) (hm:e.m<0):Yp A e.f e.t [e.f,e.t]
 |cut {e:bP} {x y:cR} (he:e∈A) (hm:0<=e.m) (hx:Yp A e.f e.m x) (hy:Yp A e.m e.t y):Yp A e.f e.t (x++y.tail)
inductive Along(L:List bP):cR->Int->Prop where
 |one (v:Int):Along L [v] 0
 |cons {e:bP} {f t:Int} {l:cR} {d:Int} (he:e∈L) (hf:e.f=f) (ht:e.t=t) (h:Along L (t::l) d):Along L (f::t::l) (e.w+d)
inductive Thru(L:List bP):cR->Int->Prop where
 |one (v:Int):Thru L [v] 0
 |cons {a b:Int} {l:cR} {c d:Int} (gQ:a≠b) (h:gH L (-1) a b c) (h':Thru L (b::l) d):Thru L (a::b::l) (c+d)
structure UnpOk(n:Nat)(L A:List bP)(R:cR):Prop where
 Gb:sL n L
 ok:sL n A
 gZ:∀y∈A,y.m<0->y∈L
 half:∀e∈A,0<=e.m->e.m<n/\(∃a∈A,∃b∈A,a.f=e.f/\a.t=e.m/\b.f=e.m/\b.t=e.t/\a.w+b.w=e.w)/\cC R e.m<cC R e.f/\cC R e.m<cC R e.t
 jv:∀x:Int,0<=x->x<n->0<=cC R x
 via:∀e∈A,0<=e.m->∀d,gH L (-1) e.f e.t d->∃d1 d2,gH L (-1) e.f e.m d1/\gH L (-1) e.m e.t d2/\d1+d2<=d
 eJ:∀y∈A,gH L (-1) y.f y.t y.w
section
variable{n:Nat}{L A:List bP}{R:cR}(H:UnpOk n L A R)
include H
end
open Classical in
inductive PendW(A:List bP):List (Int×Int)->cR->Nat->Prop where
 |nil:PendW A [] [] 0
 |cons {f t:Int} {x l:cR} {k:Nat} {r:List (Int×Int)} (hx:Yp A f t x) (h:PendW A r l k):PendW A ((f,t)::r) (x.tail++l) (2*x.length-3+k)
end
section
section
variable{us ds:cR}{k:Nat}{at_ pL x y:Int}
end
def HR.cons{A:List bP}{R:cR}{x w d:Int}(e:bP)(he:e∈A)(hr:cC R e.t<cC R e.f)(ht:e.t=x)(h:HR A R x w d):HR A R e.f w (e.w+d):=by
 induction h with
 |nil=>rw[Int.add_zero,<-ht];have:=HR.iB e (.nil e.f) he rfl hr;rwa[Int.zero_add] at this
 |iB e' _ vI ZC Wb ih=>rw[<-Int.add_assoc];exact .iB e' ih vI ZC Wb
def zr{n:Nat}{A:List bP}{R:cR}{ts:cR}{v d:Int}:GW (vV n ts) (EO A R) (λe=>e.f) v d↔∃t,vV n ts t/\HR A R v t d:=by
 constructor
 ·intro h
  induction h with
  |nil hs=>exact⟨_,hs,.nil _⟩
  | @iB v d e _ he ih=>obtain⟨t,ht,hd⟩:=ih;have hm:=jR.1 he;obtain⟨h1,h2⟩:=iO.1 hm.1;refine⟨t,ht,?_⟩;have:=HR.cons e h1 (by rw[h2];simpa using hm.2) h2 hd;rw[Int.add_comm];exact this
 ·rintro⟨t,ht,h⟩;have key:∀{u b d':Int},HR A R u b d'->∀d0,GW (vV n ts) (EO A R) (λe=>e.f) b d0->GW (vV n ts) (EO A R) (λe=>e.f) u (d0+d'):=λ{u b d'} hd=>by
   induction hd with
   |nil=>intro d0 h0;rw[Int.add_zero];exact h0
   |iB e _ he hf hr ih=>intro d0 h0;have:=GW.iB (en:=λe=>e.f) e h0 (jR.2 ⟨iO.2 ⟨he,rfl⟩,by simpa using hr⟩);have this:GW (vV n ts) (EO A R) (λe=>e.f) e.f (d0+e.w):=this;have e2:e.f=_:=hf;rw[e2] at this;have:=ih _ this;rw[Int.add_assoc,Int.add_comm e.w] at this;exact this
  have:=key h 0 (.nil ht);rwa[Int.zero_add] at this
end
section
structure Xv(n:Nat)(src:Int->Prop)(nx:Int->List bP)(en:bP->Int)(ds:cR):Prop where
 len:ds.length=n
 srcs:∀v,src v->ds[v.toNat]? =some 0
 val:∀(v:Nat) (d:Int),ds[v]? =some d->d=-1\/(0<=d/\GW src nx en (v:Int) d/\d+BW<=met ds*BW)
section
variable{n:Nat}{src:Int->Prop}{nx:Int->List bP}{en:bP->Int}{ds:cR}
def Xv.lower(h:Xv n src nx en ds)(hN:Hk n src nx en)(hn:n<=512){v:Nat}{x y:Int}{e:bP}(hx:ds[v]? =some x)(Wv:0<=x)(he:e∈nx (v:Int))(hy:ds[(en e).toNat]? =some y)(cD:y<0\/x+e.w<y):
  Xv n src nx en (ds.set (en e).toNat (x+e.w))/\total (ds.set (en e).toNat (x+e.w))<total ds:=by
 obtain⟨m1,m2,m3,m4⟩:=hN.arc _ e he;have hmet:=Ub (d:=x+e.w) hy aB;obtain⟨gx,bx⟩:GW src nx en (v:Int) x/\x+BW<=met ds*BW:=by
  rcases h.val _ _ hx with h1|⟨_,h2,h3⟩
  ·omega
  ·exact⟨h2,h3⟩
 have htl:(en e).toNat<ds.length:=by rw[h.len];omega
 have et:(((en e).toNat:Nat):Int)=en e:=kc m1;have hw:GW src nx en (en e) (x+e.w):=.iB e gx he;have Sf:x+e.w+BW<=met (ds.set (en e).toNat (x+e.w))*BW:=by
  rw[hmet];rcases cD with cD|cD
  ·rw[if_pos cD];simp only[BW] at*;omega
  ·rcases h.val _ _ hy with Eo|⟨_,_,Eo⟩
   ·rw[Eo,if_pos aB];simp only[BW] at*;omega
   ·rw[if_neg aB];simp only[BW] at*;omega
 refine⟨⟨by rw[oE];exact h.len,λu hu=>?_,λu d hd=>?_⟩,?_⟩
 ·rw[jC]
  by_cases Gi:(en e).toNat=u.toNat
  ·have:=h.srcs u hu;rw[<-Gi,hy] at this;cases this;omega
  ·rw[if_neg Gi];exact h.srcs u hu
 ·rw[jC] at hd
  by_cases Gi:(en e).toNat=u
  ·rw[if_pos Gi,if_pos htl] at hd;cases hd;subst Gi;exact .inr ⟨aB,by rw[et];exact hw,Sf⟩
  ·rw[if_neg Gi] at hd;refine(h.val u d hd).imp id λ⟨g1,g2,g3⟩=>⟨g1,g2,?_⟩;have:met ds<=met (ds.set (en e).toNat (x+e.w)):=by rw[hmet];omega
   simp only[BW] at*;omega
 ·have ht:=Pf (d:=x+e.w) hy;have ki:=ZY (ds.set (en e).toNat (x+e.w));rw[oE,h.len] at ki;have hb:bulk (x+e.w)<bulk y:=by
   unfold bulk;rw[if_neg aB];simp only[BW] at*
   split<;>omega
  omega
def Xv.done(h:Xv n src nx en ds)(hN:Hk n src nx en)(hr:∀(v:Nat) (x y:Int) (e:bP),ds[v]? =some x->0<=x->e∈nx (v:Int)->ds[(en e).toNat]? =some y->0<=y/\y<=x+e.w):MZ n (GW src nx en) ds:=by
 have reach:∀{v d:Int},GW src nx en v d->∃c,ds[v.toNat]? =some c/\0<=c/\c<=d:=λ{v d} hw=>by
  induction hw with
  |nil hs=>exact⟨0,h.srcs _ hs,lR _,lR _⟩
  | @iB v d e hw he ih=>obtain⟨c,h1,h2,h3⟩:=ih;have hv:=hw.jv hN;have ev:(v.toNat:Int)=v:=kc hv.1;obtain⟨m1,m2,_⟩:=hN.arc _ e he;have hy:=cL (show(en e).toNat<ds.length by rw[h.len];omega);have:=hr v.toNat c _ e h1 h2 (by rw[ev];exact he) hy;exact⟨_,hy,this.1,aB⟩
 refine⟨h.len,λv d hd=>?_⟩;rcases h.val v d hd with h1|⟨h1,h2,_⟩
 ·refine .inl ⟨h1,λk hk=>?_⟩;obtain⟨c,g1,g2,_⟩:=reach hk;rw[dU,hd] at g1;cases g1;omega
 ·refine .inr ⟨h1,h2,λk hk=>?_⟩;obtain⟨c,g1,_,g3⟩:=reach hk;rw[dU,hd] at g1;cases g1;exact g3
end
end
section
def dp{P P':Int->Prop}{x:Int}(h:gU P x)(h1:∀d,P d->∃d',d'<=d/\P' d')(h2:∀d,P' d->∃d',d'<=d/\P d'):gU P' x:=by
 rcases h with⟨e,hn⟩|⟨h0,hx,hm⟩
 ·refine .inl ⟨e,λk hk=>?_⟩;obtain⟨d',_,hd⟩:=h2 k hk;exact hn d' hd
 ·obtain⟨d',LV,hd⟩:=h1 x hx;obtain⟨d2,hle2,hd2⟩:=h2 d' hd;have:=hm d2 hd2;have e:d'=x:=aB;rw[e] at hd;refine .inr ⟨h0,hd,λk hk=>?_⟩;obtain⟨d3,hle3,hd3⟩:=h2 k hk;have:=hm d3 hd3;omega
def gU.or{P P':Int->Prop}{b d:Int}(h:gU P b)(h':gU P' d):gU (λk=>P k\/P' k) (if 0<=d/\(b<0\/d<b) then d else b):=by
 rcases h with⟨e,hn⟩|⟨h0,hx,hm⟩<;>rcases h' with⟨e',hn'⟩|⟨vw,QZ,Wy⟩
 ·rw[if_neg aB];exact .inl ⟨e,λk hk=>hk.elim (hn k) (hn' k)⟩
 ·rw[if_pos aB];exact .inr ⟨vw,.inr QZ,λk hk=>hk.elim (λh=>absurd h (hn k)) (Wy k)⟩
 ·rw[if_neg aB];exact .inr ⟨h0,.inl hx,λk hk=>hk.elim (hm k) λh=>absurd h (hn' k)⟩
 ·by_cases cD:d<b
  ·rw[if_pos ⟨vw,.inr cD⟩];exact .inr ⟨vw,.inr QZ,λk hk=>hk.elim (λh=>by have:=hm k h;omega) (Wy k)⟩
  ·rw[if_neg aB];exact .inr ⟨h0,.inl hx,λk hk=>hk.elim (hm k) λh=>by have:=Wy k h;omega⟩
section
variable{n:Nat}{L:List bP}(hL:sL n L)(hw:∀e∈L,e.w<=40)(hn:n<=51){a:Int}(a0:0<=a)(a1:a<n)
include hL hw hn a0 a1
end
end
section
structure Gr where
 N:List (Int×Int)
 E:List (Int×Int×Int)
 B:List (Int×Int)
def Gr.m(G:Gr):Nat:=G.E.length
def Gr.n(G:Gr):Nat:=G.N.length
def Gr.ed(G:Gr)(i:Int):Int×Int×Int:=G.E.getD i.toNat (0,0,0)
abbrev Gr.fr(G:Gr)(i:Int):Int:=(G.ed i).1
abbrev Gr.to(G:Gr)(i:Int):Int:=(G.ed i).2.1
abbrev Gr.wt(G:Gr)(i:Int):Int:=(G.ed i).2.2
abbrev Gr.mO(G:Gr)(i:Int):Prop:=0<=i/\i<G.m
abbrev Gr.GR(G:Gr)(i:Int):Prop:=0<=i/\i<G.n
abbrev JQ(a b:Int×Int):Prop:=a.1<b.1\/(a.1=b.1/\a.2<b.2)
structure sM(G:Gr):Prop where
 n1:1<=G.n/\G.n<=256
 m1:1<=G.m/\G.m<=51
 nd:∀p∈G.N,(0<=p.1/\p.1<=4095)/\0<=p.2/\p.2<=4095
 ed:∀e∈G.E,(0<=e.1/\e.1<G.n)/\(0<=e.2.1/\e.2.1<G.n)/\1<=e.2.2/\e.2.2<=40
 bl:G.B.length<=1024
 bd:∀b∈G.B,G.mO b.1/\G.mO b.2/\G.to b.1=G.fr b.2
 bs:G.B.Pairwise JQ
def kS(k:Nat):cR:=(List.range k).map λi:Nat=>(i:Int)
def DG{k:Nat}{x:Int}:x∈kS k↔0<=x/\x<k:=by
 unfold kS;simp only[mQ,List.mem_range]
 constructor
 ·rintro⟨i,hi,rfl⟩;omega
 ·rintro⟨h0,h1⟩;exact⟨x.toNat,aB,aB⟩
def rO(k:Nat):(kS k).length=k:=by simp[kS]
def xS(k:Nat):kS (k+1)=kS k++[(k:Int)]:=by simp[kS,List.range_succ]
def Ue(k:Nat):(kS k).Pairwise λx y=>x<y:=by
 unfold kS;rw[List.pairwise_map];exact List.Pairwise.imp (λ{a b:Nat} (h:a<b)=>aB) List.pairwise_lt_range
def Gr.sS(G:Gr)(a b:Int):Bool:=decide (G.mO a) && (decide (G.mO b) && (decide (G.to a=G.fr b) && !decide ((a,b)∈G.B)))
def Gr.fS{G:Gr}{a b:Int}:G.sS a b=true↔G.mO a/\G.mO b/\G.to a=G.fr b/\(a,b)∉G.B:=by
 unfold Gr.sS;simp[tG]
def Gr.gR(G:Gr)(a:Int):cR:=(kS G.m).filter λb=>G.sS a b
def Gr.oZ(G:Gr)(b:Int):cR:=(kS G.m).filter λa=>G.sS a b
def Gr.Vx(G:Gr)(v:Int):cR:=(kS G.m).filter λe=>decide (G.to e=v)
def Gr.Xf(G:Gr)(v:Int):cR:=(kS G.m).filter λe=>decide (G.fr e=v)
def Gr.tM{G:Gr}{a b:Int}:b∈G.gR a↔G.sS a b=true:=by
 unfold Gr.gR;rw[jR,DG];exact⟨λh=>h.2,λh=>⟨(G.fS.1 h).2.1,h⟩⟩
def Gr.XT{G:Gr}{a b:Int}:a∈G.oZ b↔G.sS a b=true:=by
 unfold Gr.oZ;rw[jR,DG];exact⟨λh=>h.2,λh=>⟨(G.fS.1 h).1,h⟩⟩
def Gr.zc{G:Gr}{e v:Int}:e∈G.Vx v↔G.mO e/\G.to e=v:=by
 unfold Gr.Vx;rw[jR,DG];simp
def Gr.zF(G:Gr)(a:Int):(G.gR a).length<=G.m:=by
 have:=xG (λb=>G.sS a b) (kS G.m);rw[rO] at this;exact this
def Gr.Ze(G:Gr)(a:Int):(G.oZ a).length<=G.m:=by
 have:=xG (λb=>G.sS b a) (kS G.m);rw[rO] at this;exact this
def Gr.ze(G:Gr)(a:Int):(G.Vx a).length<=G.m:=by
 have:=xG (λe=>decide (G.to e=a)) (kS G.m);rw[rO] at this;exact this
def Gr.get_ed{G:Gr}{i:Int}(h:G.mO i):G.E[i.toNat]? =some (G.ed i):=by
 have:i.toNat<G.E.length:=by have:=h.2;unfold Gr.m at this;omega
 unfold Gr.ed;rw[MJ,cL this];rfl
def Gr.UK{G:Gr}{i:Int}(h:G.mO i):G.ed i∈G.E:=kR (G.get_ed h)
def sM.w1{G:Gr}(h:sM G){i:Int}(hi:G.mO i):1<=G.wt i/\G.wt i<=40:=(h.ed _ (G.UK hi)).2.2
def Gr.AQ(G:Gr):List bP:=(kS G.m).flatMap λa=>(G.gR a).map λb=>⟨a,b,G.wt b,-1⟩
def Gr.ME(G:Gr):List bP:=G.AQ.filter λe=>!(e.f==e.t)
def Gr.Jd{G:Gr}{e:bP}:e∈G.AQ↔G.sS e.f e.t=true/\e.w=G.wt e.t/\e.m=-1:=by
 unfold Gr.AQ;simp only[List.mem_flatMap,mQ,DG]
 constructor
 ·rintro⟨a,_,b,hb,rfl⟩;exact⟨G.tM.1 hb,rfl,rfl⟩
 ·rintro⟨h1,h2,h3⟩;refine⟨e.f,(G.fS.1 h1).1,e.t,G.tM.2 h1,?_⟩;cases e;simp_all
def Gr.Uc{G:Gr}{e:bP}:e∈G.ME↔(G.sS e.f e.t=true/\e.w=G.wt e.t/\e.m=-1)/\e.f≠e.t:=by
 unfold Gr.ME;rw[jR,G.Jd];simp
def Gr.arcs_srt(G:Gr):CO G.AQ:=by
 unfold CO Gr.AQ;rw[List.pairwise_flatMap];refine⟨λa _=>?_,List.Pairwise.imp (λ{a b} h x hx y hy=>?_) (Ue G.m)⟩
 ·rw[List.pairwise_map];have h:(G.gR a).Pairwise λx y:Int=>x<y:=TU _ (Ue G.m);refine List.Pairwise.imp (λ{x y:Int} (h:x<y)=>?_) h;rw[mC];exact .inr ⟨rfl,h⟩
 ·obtain⟨_,_,rfl⟩:=mQ.1 hx;obtain⟨_,_,rfl⟩:=mQ.1 hy;exact mC.2 (.inl h)
def sM.XD{G:Gr}(h:sM G):∀e∈G.ME,FT G.m e/\e.w<=40/\e.m=-1:=λe he=>by
 obtain⟨⟨h1,h2,h3⟩,h4⟩:=G.Uc.1 he;obtain⟨t1,t2,_,_⟩:=G.fS.1 h1;have hw:=h.w1 t2;exact⟨⟨t1.1,t1.2,t2.1,t2.2,h4,aB,aB,.inl h3⟩,aB,h3⟩
def sM.UH{G:Gr}(h:sM G):sL G.m G.ME:=⟨TU _ G.arcs_srt,λe he=>(h.XD e he).1⟩
def Gr.ah(G:Gr)(hm:G.m<=51):G.AQ.length<=2601:=by
 have:=NO (λa=>(G.gR a).map λb=>(⟨a,b,G.wt b,-1⟩:bP)) 51 (kS G.m) λa _=>by rw[lT];have:=G.zF a;omega
 rw[rO] at this;unfold Gr.AQ;omega
def kV(c:rZ)(e:Int):Bool:=c.getD e.toNat false
def Yx(e:Int):kV [] e=false:=rfl
def Gr.src(G:Gr)(v e:Int):Prop:=G.mO e/\G.to e=v
def Gr.nx(G:Gr)(c:rZ)(b:Int):List bP:=if kV c b=true then [] else(G.oZ b).map λa=>⟨a,b,G.wt b,-1⟩
def Gr.CX{G:Gr}{c:rZ}{b:Int}{e:bP}:e∈G.nx c b↔kV c b=false/\G.sS e.f b=true/\e=⟨e.f,b,G.wt b,-1⟩:=by
 unfold Gr.nx
 split
 ·rename_i h;simp[h]
 ·rename_i h
  rw[mQ]
  constructor
  ·rintro⟨a,ha,rfl⟩;exact⟨by simpa using h,G.XT.1 ha,rfl⟩
  ·rintro⟨_,h2,h3⟩;exact⟨e.f,G.XT.2 h2,h3.symm⟩
abbrev Gr.gw(G:Gr)(c:rZ)(v:Int):Int->Int->Prop:=GW (G.src v) (G.nx c) (λe=>e.f)
def sM.nxOk{G:Gr}(h:sM G)(c:rZ)(v:Int):Hk G.m (G.src v) (G.nx c) (λe=>e.f):=by
 refine⟨λe he=>he.1,λb e he=>?_⟩;obtain⟨_,h2,h3⟩:=G.CX.1 he;obtain⟨t1,t2,_⟩:=G.fS.1 h2;have hw:=h.w1 t2;have:e.w=G.wt b:=by rw[h3]
 exact⟨t1.1,t1.2,aB,by rw[this];simp only[BW];omega⟩
def Gr.XE{G:Gr}{c:rZ}{v a b d:Int}(h:G.gw c v b d)(ht:G.sS a b=true)(hs:kV c b=false):G.gw c v a (d+G.wt b):=
 GW.iB (en:=λe=>e.f) (⟨a,b,G.wt b,-1⟩:bP) h (G.CX.2 ⟨hs,ht,rfl⟩)
def Gr.gw_inv{G:Gr}{c:rZ}{v a d:Int}(h:G.gw c v a d):(d=0/\G.src v a)\/∃b d',G.gw c v b d'/\G.sS a b=true/\kV c b=false/\d=d'+G.wt b:=by
 cases h with
 |nil h=>exact .inl ⟨rfl,h⟩
 | @iB b d' e h he=>
  obtain⟨h1,h2,h3⟩:=G.CX.1 he;have hw:e.w=G.wt b:=by rw[h3]
  exact .inr ⟨b,d',h,h2,h1,by rw[hw]⟩
def Gr.Uf{G:Gr}{c:rZ}{v a d:Int}(h:G.gw c v a d):G.gw [] v a d:=by
 induction h with
 |nil h=>exact .nil h
 |iB e h he ih=>obtain⟨h1,h2,h3⟩:=G.CX.1 he;exact .iB e ih (G.CX.2 ⟨rfl,h2,h3⟩)
def sM.Ih{G:Gr}(h:sM G){c:rZ}{v a d:Int}(hw:G.gw c v a d):G.mO a/\0<=d:=by
 have:=hw.jv (h.nxOk c v);exact⟨⟨this.1,this.2.1⟩,this.2.2⟩
def sM.walk_gw{G:Gr}{v a b d:Int}(h:gH G.ME (-1) a b d):∀d0,G.gw [] v b d0->G.gw [] v a (d0+d):=by
 induction h with
 |nil=>intro d0 h0;rw[Int.add_zero];exact h0
 | @iB x d e _ he hf _ ih=>intro d0 h0;obtain⟨⟨h1,h2,_⟩,_⟩:=G.Uc.1 he;have h3:=G.XE h0 h1 rfl;rw[hf,<-h2] at h3;have:=ih _ h3;rwa[show d0+(d+e.w)=d0+e.w+d by omega]
def sM.gw_walk{G:Gr}(hG:sM G){v a d:Int}(h:G.gw [] v a d):∃d' t,d'<=d/\G.src v t/\gH G.ME (-1) a t d':=by
 induction h with
 | @nil a h=>exact⟨0,a,lR _,h,.nil⟩
 | @iB b d e h he ih=>
  obtain⟨_,h2,h3⟩:=G.CX.1 he;have hwe:e.w=G.wt b:=by rw[h3]
  have hte:e.t=b:=by rw[h3]
  have hme:e.m=-1:=by rw[h3]
  obtain⟨d',t,LV,ht,hw⟩:=ih;have hwt:=hG.w1 (G.fS.1 h2).2.1;show∃d' t,d'<=d+e.w/\G.src v t/\gH G.ME (-1) e.f t d'
  by_cases vu:e.f=b
  ·rw[vu];exact⟨d',t,aB,ht,hw⟩
  ·have hnet:e∈G.ME:=G.Uc.2 ⟨⟨by rw[hte];exact h2,by rw[hte];exact hwe,hme⟩,by rw[hte];exact vu⟩;have h1:=gH.iB (a:=e.f) e (.nil (L:=G.ME) (c:=-1)) hnet rfl (by have:=(G.fS.1 h2).2.1.1;omega);rw[Int.zero_add,hte] at h1;exact⟨e.w+d',t,aB,ht,h1.trans hw⟩
def kU(ds:cR)(e:Int):Int:=ds.getD e.toNat (-1)
abbrev Gr.pL(G:Gr)(c:rZ)(v:Int)(ds:cR):Prop:=MZ G.m (G.gw c v) ds
def ES{n:Nat}{P:Int->Int->Prop}{ds:cR}(h:MZ n P ds){e:Int}(he:0<=e/\e<n):ds[e.toNat]? =some (kU ds e):=by
 have:e.toNat<ds.length:=by have:=h.1;omega
 unfold kU;rw[MJ,cL this];rfl
def Qb{n:Nat}{P:Int->Int->Prop}{ds:cR}(h:MZ n P ds){e:Int}(he:0<=e/\e<n):gU (P e) (kU ds e):=by
 have:=h.2 e.toNat _ (ES h he);rwa[kc he.1] at this
def Gr.qR(G:Gr)(c:rZ)(ds:cR)(e n:Int):Bool:=!kV c n && (decide (0<=kU ds n) && decide (kU ds n+G.wt n=kU ds e))
def Gr.RG(G:Gr)(c:rZ)(ds:cR)(e:Int):Option Int:=(G.gR e).find? (G.qR c ds e)
inductive Gr.vT(G:Gr)(c:rZ)(ds:cR):Int->cR->Prop where
 |nil {e:Int} (h:kU ds e=0):vT G c ds e []
 |cons {e n:Int} {l:cR} (h:0<kU ds e) (hs:G.RG c ds e=some n) (hl:vT G c ds n l):vT G c ds e (n::l)
def Gr.vT.uniq{G:Gr}{c:rZ}{ds:cR}{e:Int}{l l':cR}(h:G.vT c ds e l):G.vT c ds e l'->l=l':=by
 induction h generalizing l' with
 |nil h=>intro h';cases h' with
  |nil=>rfl
  |cons h1=>omega
 |cons h hs _ ih=>intro h';cases h' with
  |nil h1=>omega
  |cons _ GO hl'=>rw[hs] at GO;cases GO;rw[ih hl']
def Gr.xP{G:Gr}{c:rZ}{ds:cR}{e n:Int}(h:G.RG c ds e=some n):G.sS e n=true/\kV c n=false/\0<=kU ds n/\kU ds n+G.wt n=kU ds e:=by
 have h1:=List.find?_some h;have h2:=ly9 h;unfold Gr.qR at h1;simp[tG] at h1;exact⟨G.tM.1 h2,h1.1,h1.2.1,h1.2.2⟩
def sM.NG{G:Gr}(_:sM G){c:rZ}{v:Int}{ds:cR}(hd:G.pL c v ds){e:Int}(he:G.mO e)(h:0<=kU ds e):G.gw c v e (kU ds e):=by
 rcases Qb hd he with⟨h1,_⟩|⟨_,h1,_⟩
 ·omega
 ·exact h1
section
variable{G:Gr}(hG:sM G){c:rZ}{v:Int}{ds:cR}(hd:G.pL c v ds)
include hG hd
theorem sM.xO{e d:Int}(h:G.gw c v e d):0<=kU ds e/\kU ds e<=d:=by
 rcases Qb hd (hG.Ih h).1 with⟨_,h1⟩|⟨h0,_,h1⟩
 ·exact absurd h (h1 d)
 ·exact⟨h0,h1 d h⟩
theorem sM.step_ex{e:Int}(he:G.mO e)(h:0<kU ds e):∃n,G.RG c ds e=some n:=by
 rcases G.gw_inv (hG.NG hd he aB) with⟨h0,_⟩|⟨b,d',h1,h2,h3,h4⟩
 ·omega
 ·obtain⟨g0,g1⟩:=hG.xO hd h1;have g2:=hG.NG hd (hG.Ih h1).1 g0;have g3:=(hG.xO hd (G.XE g2 h2 h3)).2;cases hf:G.RG c ds e with
  |some n=>exact⟨n,rfl⟩
  |none=>unfold Gr.RG at hf;have:=List.find?_eq_none.1 hf b (G.tM.2 h2);unfold Gr.qR at this;simp[h3,g0] at this;omega
theorem sM.Ud:∀(k:Nat) {e:Int},G.mO e->0<=kU ds e->kU ds e<=k->∃l,G.vT c ds e l
 |k,e,he,h0,hk=>by
  rcases Int.lt_or_le 0 (kU ds e) with hp|hp
  ·obtain⟨n,hn⟩:=hG.step_ex hd he hp;obtain⟨s1,_,s3,s4⟩:=G.xP hn;have hw:=hG.w1 (G.fS.1 s1).2.1;obtain⟨k',rfl⟩:∃k',k=k'+1:=⟨k-1,aB⟩;obtain⟨l,hl⟩:=sM.Ud k' (G.fS.1 s1).2.1 s3 aB;exact⟨n::l,.cons hp hn hl⟩
  ·exact⟨[],.nil aB⟩
end
def Gr.oP(G:Gr)(l:cR):Int:=(l.map G.wt).sum
def Gr.Ae(G:Gr)(x:Int)(l:cR):G.oP (x::l)=G.wt x+G.oP l:=by simp[Gr.oP]
def Gr.CQ(G:Gr):Int->cR->Bool
 |_,[]=>true
 |e,x::l=>G.sS e x && G.CQ x l
def Gr.vT.EM{G:Gr}(hG:sM G){c:rZ}{ds:cR}{e:Int}{l:cR}(h:G.vT c ds e l):G.oP l=kU ds e/\G.CQ e l=true/\(∀x∈l,G.mO x/\kV c x=false)/\(l.length:Int)<=kU ds e/\kU ds (l.getLast?.getD e)=0:=by
 induction h with
 |nil h=>exact⟨by rw[h];rfl,rfl,by simp,by rw[h];simp,h⟩
 | @cons e n l h hs hl ih=>
  obtain⟨s1,s2,s3,s4⟩:=G.xP hs;obtain⟨i1,i2,i3,i4,i5⟩:=ih;have hn:=(G.fS.1 s1).2.1;have hw:=hG.w1 hn;refine⟨by rw[G.Ae,i1];omega,by simp[Gr.CQ,s1,i2],λx hx=>?_,by simp only[mH];omega,?_⟩
  ·rcases jQ.1 hx with rfl|hx
   ·exact⟨hn,s2⟩
   ·exact i3 x hx
  ·rw[List.getLast?_cons];exact i5
def Gr.vT.falls{G:Gr}(hG:sM G){c:rZ}{ds:cR}{e:Int}{l:cR}(h:G.vT c ds e l):l.Pairwise (λa b=>kU ds b<kU ds a)/\∀x∈l,kU ds x<kU ds e:=by
 induction h with
 |nil h=>exact⟨List.Pairwise.nil,by simp⟩
 | @cons e n l h hs hl ih=>
  obtain⟨s1,s2,s3,s4⟩:=G.xP hs;have hw:=hG.w1 (G.fS.1 s1).2.1;refine⟨List.pairwise_cons.2 ⟨ih.2,ih.1⟩,λx hx=>?_⟩;rcases jQ.1 hx with rfl|hx
  ·omega
  ·have:=ih.2 x hx;omega
def Gr.vT.len{G:Gr}(hG:sM G){c:rZ}{ds:cR}{e:Int}{l:cR}(h:G.vT c ds e l):l.length<=G.m:=by
 have h1:=(h.falls hG).1;have h2:=(h.EM hG).2.2.1;refine xR (List.Pairwise.imp (λ{a b} (h:kU ds b<kU ds a)=>λe=>?_) h1) λx hx=>(h2 x hx).1;rw[e] at h;omega
section
variable{G:Gr}(hG:sM G){c:rZ}{v:Int}
include hG
theorem sM.Io{ds:cR}(hd:G.pL c v ds){e:Int}(he:G.mO e)(h:kU ds e=0):G.src v e:=by
 rcases G.gw_inv (hG.NG hd he aB) with⟨_,h1⟩|⟨b,d',h1,h2,_,h4⟩
 ·exact h1
 ·have:=hG.w1 (G.fS.1 h2).2.1;have:=(hG.Ih h1).2;omega
theorem sM.Fl{c':rZ}{ds:cR}(hd:G.pL c' v ds){e:Int}(he:G.mO e){l:cR}(h:G.vT c' ds e l)(hs:∀x∈l,kV c x=false):G.gw c v e (G.oP l):=by
 induction h with
 |nil h=>exact .nil (hG.Io hd he h)
 | @cons e n l _ vO _ ih=>obtain⟨s1,_⟩:=G.xP vO;have:=G.XE (ih (G.fS.1 s1).2.1 λx hx=>hs x (by simp[hx])) s1 (hs n dP);rw[G.Ae,Int.add_comm];exact this
omit hG in
theorem Zt{p q:Int->Bool}{n:Int}:∀{l:cR},l.find? p=some n->q n=true->(∀x∈l,q x=true->p x=true)->l.find? q=some n
 | [],h,_,_=>by cases h
 |x::l,h,hq,hi=>by
  rw[List.find?_cons] at h ⊢;cases hp:p x with
  |true=>rw[hp] at h;cases h;rw[hq]
  |false=>
   rw[hp] at h;cases hqx:q x with
   |true=>rw[hi x dP hqx] at hp;cases hp
   |false=>exact Zt h hq λy hy=>hi y (by simp[hy])
theorem sM.lway_same{d0 d1:cR}(h0:G.pL [] v d0)(h1:G.pL c v d1){e:Int}(he:G.mO e){l:cR}(h:G.vT [] d0 e l)(hs:∀x∈l,kV c x=false):G.vT c d1 e l/\kU d1 e=kU d0 e:=by
 induction h with
 | @nil e h=>obtain⟨g0,g1⟩:=hG.xO h1 (.nil (hG.Io h0 he h));have:kU d1 e=0:=aB;exact⟨.nil this,aB⟩
 | @cons e n l hp vO hl ih=>
  obtain⟨s1,_,s3,s4⟩:=G.xP vO;have hn:=(G.fS.1 s1).2.1;obtain⟨i1,i2⟩:=ih hn λx hx=>hs x (by simp[hx]);have hsn:=hs n dP;have hgn:=hG.NG h1 hn aB;obtain⟨g0,g1⟩:=hG.xO h1 (G.XE hgn s1 hsn);have g2:=(hG.xO h0 (G.Uf (hG.NG h1 he g0))).2;have heq:kU d1 e=kU d0 e:=aB;refine⟨.cons aB (Zt vO ?_ λx hx hqx=>?_) i1,heq⟩
  ·unfold Gr.qR;simp[hsn];omega
  ·unfold Gr.qR at hqx ⊢;simp at hqx;have htx:=G.tM.1 hx;have hgx:=hG.NG h1 (G.fS.1 htx).2.1 hqx.2.1;obtain⟨g3,g4⟩:=hG.xO h0 (G.Uf hgx);have g5:=(hG.xO h0 (G.XE (hG.NG h0 (G.fS.1 htx).2.1 g3) htx (Yx x))).2;simp[Yx,g3];omega
end
inductive Gr.LP(G:Gr)(v e:Int)(c:rZ):cR->Int->Bool->Bool->Prop where
 |no (h:∀d,G.GR v->¬G.gw c v e d):LP G v e c [] 0 false false
 |near {d0:cR} {l:cR} (hv:G.GR v) (he:G.mO e) (h0:G.pL [] v d0) (h:G.vT [] d0 e l) (hs:∀x∈l,kV c x=false):LP G v e c l (G.oP l) true false
 |pL {d0 d1:cR} {l0 l:cR} (hv:G.GR v) (he:G.mO e) (h0:G.pL [] v d0) (h1:G.pL c v d1) (hl:G.vT [] d0 e l0) (hs:∃x∈l0,kV c x=true) (h:G.vT c d1 e l):LP G v e c l (G.oP l) true true
def jo.front{A:List bP}{rs:cR}{a b d:Int}(h:jo A rs a b d):(b=a/\d=0)\/∃e∈A,e.f=a/\cC rs e.f<cC rs e.t/\∃d',jo A rs e.t b d'/\d=e.w+d':=by
 induction h with
 |nil=>exact .inl ⟨rfl,rfl⟩
 | @iB v d e _ he hf hr ih=>
  rcases ih with⟨h1,h2⟩|⟨e1,g1,g2,g3,d',g4,g5⟩
  ·exact .inr ⟨e,he,by rw[hf,h1],hr,0,.nil,aB⟩
  ·exact .inr ⟨e1,g1,g2,g3,d'+e.w,.iB e g4 he hf hr,aB⟩
def UPD(A:List bP)(R:cR)(Dn:Int->Int->Prop)(v d:Int):Prop:=∃k d1 d2,jo A R v k d1/\Dn k d2/\d=d1+d2
def upd_iff{A:List bP}{R:cR}{Dn:Int->Int->Prop}{v d:Int}:UPD A R Dn v d↔Dn v d\/∃e∈upL A R v,∃d',UPD A R Dn e.t d'/\d=e.w+d':=by
 constructor
 ·rintro⟨k,d1,d2,h1,h2,h3⟩;rcases h1.front with⟨g1,g2⟩|⟨e,g1,g2,g3,d',g4,g5⟩
  ·rw[g1] at h2;exact .inl (by rw[h3,g2,Int.zero_add];exact h2)
  ·refine .inr ⟨e,?_,d'+d2,⟨k,d',d2,g4,h2,rfl⟩,aB⟩;unfold upL;rw[jR,fD];exact⟨⟨g1,g2⟩,by rw[<-g2];simpa using g3⟩
 ·rintro(h|⟨e,he,d',⟨k,d1,d2,h1,h2,h3⟩,h4⟩)
  ·exact⟨v,0,d,.nil,h,aB⟩
  ·unfold upL at he;rw[jR,fD] at he;obtain⟨⟨g1,g2⟩,g3⟩:=he;have g3':cC R v<cC R e.t:=by simpa using g3
   have:=jo.cons e g1 (by rw[g2];exact g3') rfl h1;rw[g2] at this;exact⟨k,e.w+d1,d2,this,h2,aB⟩
def gU.plus{P:Int->Prop}{y w:Int}(h:gU P y)(hw:0<=w):gU (λd=>∃d',P d'/\d=w+d') (if y<0 then-1 else y+w):=by
 rcases h with⟨e,hn⟩|⟨h0,hx,hm⟩
 ·rw[if_pos aB];exact .inl ⟨rfl,λk ⟨d',hd,_⟩=>hn d' hd⟩
 ·rw[if_neg aB];exact .inr ⟨aB,⟨y,hx,aB⟩,λk ⟨d',hd,e⟩=>by have:=hm d' hd;omega⟩
def gU.lower{P P':Int->Prop}{x y w:Int}(h:gU P x)(h':gU P' y)(hw:0<=w):gU (λd=>P d\/∃d',P' d'/\d=w+d') (if 0<=y/\(x<0\/y+w<x) then y+w else x):=by
 have:=h.or (h'.plus hw);have e:(if 0<=(if y<0 then-1 else y+w)/\(x<0\/(if y<0 then-1 else y+w)<x) then(if y<0 then-1 else y+w) else x)=(if 0<=y/\(x<0\/y+w<x) then y+w else x):=by
  by_cases h1:y<0
  ·rw[if_pos h1,if_neg aB,if_neg aB]
  ·rw[if_neg h1]
   by_cases h2:x<0\/y+w<x
   ·rw[if_pos ⟨aB,h2⟩,if_pos ⟨aB,h2⟩]
   ·rw[if_neg (λh=>h2 h.2),if_neg (λh=>h2 h.2)]
 rwa[e] at this
def rank_onto{n:Nat}{L:List bP}(hL:sL n L)(hw:∀e∈L,e.w<=40)(hn:n<=51){r:Nat}(hr:r<n):∃v:Nat,v<n/\cC (cZ n L n).jK (v:Int)=(r:Int):=by
 have jv:∀v:Nat,v<n->0<=cC (cZ n L n).jK (v:Int)/\cC (cZ n L n).jK (v:Int)<n:=λv hv=>Ix hL hw hn aB aB;have inj:∀v w:Nat,v<n->w<n->cC (cZ n L n).jK (v:Int)=cC (cZ n L n).jK (w:Int)->v=w:=λv w hv hw' e=>by
  rcases Nat.lt_trichotomy v w with h|h|h
  ·exact absurd e (Fh hL hw hn aB aB aB aB aB)
  ·exact h
  ·exact absurd e (Fh hL hw hn aB aB aB aB aB)
 generalize cC (cZ n L n).jK=f at*;have nd:(((List.range n).map λv:Nat=>f (v:Int))).Nodup:=by rw[List.Nodup,List.pairwise_map];refine List.Pairwise.imp_of_mem (λ{a b} ha hb (h:a<b) e=>?_) List.pairwise_lt_range;have:=inj a b (List.mem_range.1 ha) (List.mem_range.1 hb) e;omega
 rcases Classical.em (∃v:Nat,v<n/\f (v:Int)=(r:Int)) with h|h
 ·exact h
 ·exfalso;have key:=xR (m:=n) (l:=(r:Int)::(List.range n).map λv:Nat=>f (v:Int)) ?_ ?_
  ·simp at key;omega
  ·rw[List.nodup_cons];refine⟨λhm=>?_,nd⟩;obtain⟨v,hv,e⟩:=mQ.1 hm;exact h ⟨v,List.mem_range.1 hv,e⟩
  ·intro x hx;rcases jQ.1 hx with rfl|hx
   ·omega
   ·obtain⟨v,hv,rfl⟩:=mQ.1 hx;exact jv v (List.mem_range.1 hv)
def sM.qz{G:Gr}(hG:sM G){v:Int}{ds:cR}
  (h:MZ G.m (UPD (cZ G.m G.ME G.m).all (cZ G.m G.ME G.m).jK (GW (vV G.m (G.Vx v)) (EO (cZ G.m G.ME G.m).all (cZ G.m G.ME G.m).jK) (λe=>e.f))) ds):G.pL [] v ds:=by
 have hL:=hG.UH;have hw:∀e∈G.ME,e.w<=40:=λe he=>(hG.XD e he).2.1;have hn:=hG.m1.2;have insrc:∀t,vV G.m (G.Vx v) t↔G.src v t:=λt=>by
  unfold vV;rw[G.zc];exact⟨λh=>h.1,λh=>⟨h,h.1.1,h.1.2⟩⟩
 refine⟨h.1,λa d hd=>?_⟩;have ha:a<G.m:=by have:=(eR.1 hd).1;rw[h.1] at this;exact this
 refine dp (h.2 a d hd) (λd ⟨k,d1,d2,h1,h2,h3⟩=>?_) (λd hg=>?_)
 ·obtain⟨t,ht,h4⟩:=zr.1 h2;have hwk:=(ud_iff hL hw hn (a:=(a:Int)) (b:=t) aB aB ht.2.1 ht.2.2).2 k d1 d2 h1 h4;have:=sM.walk_gw hwk 0 (.nil ((insrc t).1 ht));rw[Int.zero_add] at this;exact⟨d,lR _,by rw[h3];exact this⟩
 ·obtain⟨d',t,LV,ht,hwk⟩:=hG.gw_walk hg;obtain⟨m,d1,d2,h1,h2,h3⟩:=(ud_iff hL hw hn (a:=(a:Int)) (b:=t) aB aB ht.1.1 ht.1.2).1 d' hwk;exact⟨d1+d2,aB,m,d1,d2,h1,zr.2 ⟨t,(insrc t).2 ht,h2⟩,rfl⟩
structure Mz(m:Nat)(A:List bP)(R:cR)(Dn:Int->Int->Prop)(i:Nat)(ds:cR):Prop where
 len:ds.length=m
 up:∀(v:Nat) (x:Int),ds[v]? =some x->(m:Int)-i<=cC R (v:Int)->gU (UPD A R Dn (v:Int)) x
 dn:∀(v:Nat) (x:Int),ds[v]? =some x->cC R (v:Int)<(m:Int)-i->gU (Dn (v:Int)) x
 iF:∀(v:Nat) (x:Int),ds[v]? =some x->-1<=x/\x<=(m+i)*BW
def Mz.start{m:Nat}{A:List bP}{R ds:cR}{Dn:Int->Int->Prop}(h:MZ m Dn ds)(hr:∀v:Int,0<=v->v<m->cC R v<m)(hb:∀(v:Nat) (x:Int),ds[v]? =some x->-1<=x/\x<=m*BW):Mz m A R Dn 0 ds:=by
 refine⟨h.1,λv x hx hk=>?_,λv x hx _=>h.2 v x hx,λv x hx=>by have:=hb v x hx;simpa using this⟩;have hv:=(eR.1 hx).1;rw[h.1] at hv;have:=hr (v:Int) aB aB;omega
def Mz.step{m i:Nat}{A:List bP}{R ds:cR}{Dn:Int->Int->Prop}(h:Mz m A R Dn i ds)(gQ:∀v w:Nat,v<m->w<m->v≠w->cC R (v:Int)≠cC R (w:Int)){v:Nat}(hv:v<m)(hr:cC R (v:Int)=(m:Int)-1-i){x:Int}
  (hx:gU (UPD A R Dn (v:Int)) x) (hb:-1<=x/\x<=(m+(i+1:Nat))*BW):Mz m A R Dn (i+1) (ds.set v x):=by
 have get:∀{u:Nat} {y:Int},(ds.set v x)[u]? =some y->(u=v/\y=x)\/(u≠v/\u<m/\ds[u]? =some y):=λ{u y} hu=>by
  rw[jC] at hu
  by_cases e:v=u
  ·rw[if_pos e,if_pos (by rw[h.len];omega)] at hu;cases hu;exact .inl ⟨e.symm,rfl⟩
  ·rw[if_neg e] at hu;exact .inr ⟨λe'=>e e'.symm,by have:=(eR.1 hu).1;rw[h.len] at this;exact this,hu⟩
 refine⟨by rw[oE];exact h.len,λu y hu hk=>?_,λu y hu hk=>?_,λu y hu=>?_⟩
 ·rcases get hu with⟨rfl,rfl⟩|⟨ZO,hum,hu⟩
  ·exact hx
  ·have:=gQ u v hum hv ZO;exact h.up u y hu aB
 ·rcases get hu with⟨rfl,rfl⟩|⟨_,_,hu⟩
  ·omega
  ·exact h.dn u y hu aB
 ·rcases get hu with⟨rfl,rfl⟩|⟨_,_,hu⟩
  ·exact hb
  ·have:=h.iF u y hu;simp only[BW] at*;omega
def Mz.done{m:Nat}{A:List bP}{R ds:cR}{Dn:Int->Int->Prop}(h:Mz m A R Dn m ds)(hr:∀v:Int,0<=v->v<m->0<=cC R v):MZ m (UPD A R Dn) ds:=
 ⟨h.len,λv x hx=>h.up v x hx (by
  have hv:=(eR.1 hx).1;rw[h.len] at hv;have:=hr (v:Int) aB aB;omega)⟩
end
def jj(key:Int->Int)(k:Nat)(v:Nat):cR:=(kS k).filter λe=>decide (key e=(v:Int))
def cK(key:Int->Int)(k:Nat)(v:Nat):Nat:=(jj key k v).length
def Zr(key:Int->Int)(k v:Nat):jj key (k+1) v=jj key k v++if key (k:Int)=(v:Int) then [(k:Int)] else []:=by
 unfold jj;rw[xS,TV];congr 1
 by_cases h:key (k:Int)=(v:Int)<;>simp[h]
def XH(key:Int->Int)(k v:Nat):cK key (k+1) v=cK key k v+if key (k:Int)=(v:Int) then 1 else 0:=by
 unfold cK;rw[Zr,fN]
 split<;>rfl
def cK_zero(key:Int->Int)(v:Nat):cK key 0 v=0:=rfl
def cK_le(key:Int->Int){k m:Nat}(h:k<=m)(v:Nat):cK key k v<=cK key m v:=by
 induction h with
 |refl=>exact dN _
 |step _ ih=>rw[XH];omega
def pz(key:Int->Int)(k v:Nat):cK key k v<=k:=by
 have:=xG (λe=>decide (key e=(v:Int))) (kS k);rw[rO] at this;exact this
def qL(c:Nat->Nat):Nat->Nat
 |0=>0
 |v+1=>qL c v+c v
def XC(c:Nat->Nat){v u:Nat}(h:v<u):qL c v+c v<=qL c u:=by
 induction h with
 |refl=>exact dN _
 |step _ ih=>show _<=qL c _+c _;omega
def preK_add(c:Nat->Nat)(a:Int)(n:Nat):qL (λv=>c v+if a=(v:Int) then 1 else 0) n=qL c n+if 0<=a/\a<n then 1 else 0:=by
 induction n with
 |zero=>have:¬(0<=a/\a<((0:Nat):Int)):=aB;rw[if_neg this];rfl
 |succ n ih=>
  show qL _ n+(c n+_)=qL c n+c n+_;rw[ih]
  by_cases h1:a=(n:Int)
  ·rw[if_neg aB,if_pos h1,if_pos aB];omega
  ·by_cases h2:0<=a/\a<n
   ·rw[if_pos h2,if_neg h1,if_pos aB];omega
   ·rw[if_neg h2,if_neg h1,if_neg aB];omega
def XR{key:Int->Int}{n:Nat}:∀{m:Nat},(∀i:Nat,i<m->0<=key (i:Int)/\key (i:Int)<n)->qL (cK key m) n=m
 |0,_=>by
  have:∀n,qL (cK key 0) n=0:=λn=>by
   induction n with
   |zero=>rfl
   |succ n ih=>show qL _ n+cK key 0 n=0;rw[ih];rfl
  exact this n
 |m+1,h=>by
  have e:cK key (m+1)=λv=>cK key m v+if key (m:Int)=(v:Int) then 1 else 0:=by funext v;exact XH key m v
  rw[e,preK_add,XR (m:=m) λi hi=>h i aB,if_pos (h m aB)]
structure WY(key:Int->Int)(n k:Nat)(fs:cR):Prop where
 len:fs.length=n+1
 zero:fs[0]? =some 0
 val:∀v,v<n->fs[v+1]? =some (cK key k v:Int)
def WY.start(key:Int->Int)(n:Nat):WY key n 0 (List.replicate (n+1) 0):=
 ⟨by simp,by simp,λv hv=>by rw[Gt,if_pos aB];rfl⟩
def WY.step{key:Int->Int}{n k:Nat}{fs:cR}(h:WY key n k fs){v0:Nat}(hv:v0<n)(hk:key (k:Int)=(v0:Int)):WY key n (k+1) (fs.set (v0+1) ((cK key k v0:Int)+1)):=by
 refine⟨by rw[oE];exact h.len,by rw[jC,if_neg aB];exact h.zero,λv kI=>?_⟩;rw[jC,XH]
 by_cases e:v0=v
 ·subst e;rw[if_pos rfl,if_pos (by rw[h.len];omega),if_pos hk];simp
 ·rw[if_neg aB,if_neg aB,h.val v kI];simp
structure Hz(c:Nat->Nat)(n j:Nat)(fs:cR):Prop where
 len:fs.length=n+1
 lo:∀i,i<=j->fs[i]? =some (qL c i:Int)
 hi:∀v,v<n->j<=v->fs[v+1]? =some (c v:Int)
def WY.rows2{key:Int->Int}{n m:Nat}{fs:cR}(h:WY key n m fs):Hz (cK key m) n 0 fs:=
 ⟨h.len,λi hi=>by
  have:i=0:=aB;subst this;exact h.zero,λv hv _=>h.val v hv⟩
def Hz.step{c:Nat->Nat}{n j:Nat}{fs:cR}(h:Hz c n j fs)(hj:j<n):Hz c n (j+1) (fs.set (j+1) ((c j:Int)+(qL c j:Int))):=by
 refine⟨by rw[oE];exact h.len,λi hi=>?_,λv hv hjv=>?_⟩
 ·rw[jC]
  by_cases e:j+1=i
  ·subst e;rw[if_pos rfl,if_pos (by rw[h.len];omega)];show some _=some ((qL c j+c j:Nat):Int);congr 1;omega
  ·rw[if_neg e];exact h.lo i aB
 ·rw[jC,if_neg aB];exact h.hi v hv aB
structure Hy(key:Int->Int)(n m k:Nat)(nx row:cR):Prop where
 nl:nx.length=n+1
 nv:∀v,v<n->nx[v]? =some ((qL (cK key m) v+cK key k v:Nat):Int)
 rl:row.length=m
 rv:∀v,v<n->∀j x,(jj key k v)[j]? =some x->row[qL (cK key m) v+j]? =some x
def Hz.rows3{key:Int->Int}{n m:Nat}{fs:cR}(h:Hz (cK key m) n n fs):Hy key n m 0 fs (List.replicate m 0):=
 ⟨h.len,λv hv=>by rw[h.lo v aB,cK_zero];rfl,by simp,λv _ j x hj=>by simp[jj,kS] at hj⟩
def Hy.step{key:Int->Int}{n m k:Nat}{nx row:cR}(h:Hy key n m k nx row)(hkm:k<m)(uK:∀i:Nat,i<m->0<=key (i:Int)/\key (i:Int)<n){v0:Nat}(hv:v0<n)(hk:key (k:Int)=(v0:Int)):
  qL (cK key m) v0+cK key k v0<m/\Hy key n m (k+1) (nx.set v0 (((qL (cK key m) v0+cK key k v0:Nat):Int)+1)) (row.set (qL (cK key m) v0+cK key k v0) (k:Int)):=by
 have rI:=XR uK;have hc:cK key k v0+1<=cK key m v0:=by have:=cK_le key (show k+1<=m by omega) v0;rw[XH,if_pos hk] at this;exact this
 have hp:qL (cK key m) v0+cK key k v0<m:=by have:=XC (cK key m) hv;omega
 refine⟨hp,by rw[oE];exact h.nl,λv kI=>?_,by rw[oE];exact h.rl,λv kI j x hj=>?_⟩
 ·rw[jC,XH]
  by_cases e:v0=v
  ·subst e;rw[if_pos rfl,if_pos (by rw[h.nl];omega),if_pos hk];congr 1
  ·rw[if_neg e,if_neg aB,h.nv v kI];rfl
 ·rw[Zr] at hj;rw[jC];have ZH:=(eR.1 hj).1;rw[fN] at ZH
  by_cases cD:j<(jj key k v).length
  ·rw[Gu cD] at hj;have gQ:qL (cK key m) v0+cK key k v0≠qL (cK key m) v+j:=λe=>by
    have h1:=cK_le key (show k<=m by omega) v;have HC:j<cK key k v:=cD;rcases Nat.lt_trichotomy v v0 with h2|h2|h2
    ·have:=XC (cK key m) h2;omega
    ·subst h2;omega
    ·have:=XC (cK key m) h2;omega
   rw[if_neg gQ];exact h.rv v kI j x hj
  ·by_cases e:key (k:Int)=(v:Int)
   ·rw[if_pos e] at ZH hj;have rD:j=(jj key k v).length:=by simp at ZH;omega
    subst rD;rw[Gv (dN _)] at hj;simp at hj;subst hj;have:v0=v:=aB;subst this;rw[show(jj key k v0).length=cK key k v0 from rfl,if_pos rfl,if_pos (by rw[h.rl];exact hp)]
   ·rw[if_neg e] at ZH;simp at ZH;omega
def Hy.done{key:Int->Int}{n m:Nat}{nx row:cR}(h:Hy key n m m nx row)(uK:∀i:Nat,i<m->0<=key (i:Int)/\key (i:Int)<n){v:Nat}(hv:v<n):
  qL (cK key m) v+cK key m v<=m/\(row.drop (qL (cK key m) v)).take (cK key m v)=jj key m v:=by
 have rI:=XR uK;have:=XC (cK key m) hv;refine⟨aB,yV λj=>?_⟩;rw[List.getElem?_take]
 by_cases hj:j<cK key m v
 ·rw[if_pos hj,ly7];have rD:j<(jj key m v).length:=hj;rw[cL rD];exact h.rv v hv j _ (cL rD)
 ·rw[if_neg hj,List.getElem?_eq_none];show cK key m v<=j;omega
end Go.Den
namespace Go.Den
open Go Go.ChangeShapes Go.WideShapes Go.ChangeAt Go.RowKit
section
abbrev Oz(W w:aH):Prop:=aU (λk=>W.heap.size<=k) W w
def Oz.below{W w:aH}(h:Oz W w):Below W.heap.size W w:=aU.below h (dN _)
section
variable{H:Type}{aY:fL×Value->H}{P:YZ}
def RZ(hl:laidOutB P=true){W W':aH}{vN:Nat->Bool}:∀{ts:List fL} {vs:gJ} {ds:List (DataW H)} {ps:List MemPlace},
  (∀t∈ts,P.readableRec t=true/\t<P.types.size)->DataW.TrodAll aY P W 0 (λ_=>true) true ts vs ds ps->(∀p∈ps,W.sameAt W' p)->(∀p∈ps,vN p.block=true)->DataW.TrodAll aY P W' 0 vN true ts vs ds ps
 | [],[],[],_,_,h,_,_=>h
 |t::ts,v::vs,d::ds,ps,ht,h,hs,hp=>by
  obtain⟨p,q,h1,h2,rfl⟩:=h;refine⟨p,q,WideElems.Trod_stays hl (ht t dP).1 (ht t dP).2 h1 (λx hx=>hs x (by simp[hx])) (λx hx=>hp x (by simp[hx])),?_,rfl⟩;exact RZ hl (λu hu=>ht u (by simp[hu])) h2 (λx hx=>hs x (by simp[hx])) (λx hx=>hp x (by simp[hx]))
 | [],_::_,_,_,_,h,_,_=>h.elim
 | [],[],_::_,_,_,h,_,_=>h.elim
 |_::_,[],_,_,_,h,_,_=>h.elim
 |_::_,_::_,[],_,_,h,_,_=>h.elim
def OL{W:aH}{oI:Nat}{sp:Nat->Bool}{hd:Bool}:∀{ts:List fL} {vs:gJ} {ds:List (DataW H)} {ps:List MemPlace},DataW.TrodAll aY P W oI sp hd ts vs ds ps->ds.length=ts.length/\vs.length=ts.length
 | [],[],[],_,_=>⟨rfl,rfl⟩
 |_::_,_::_,_::_,_,h=>by obtain⟨_,_,_,h2,_⟩:=h;have:=OL h2;simp[this.1,this.2]
 | [],_::_,_,_,h=>h.elim
 | [],[],_::_,_,h=>h.elim
 |_::_,[],_,_,h=>h.elim
 |_::_,_::_,[],_,h=>h.elim
def law_post{fn:Func}{s:ChangeSpec}{apart fresh handsOn again:Bool}{W W':aH}{args:Array Value}{ds gs:List (DataW H)}{before:List MemPlace}{tb:fL}
  (hW:DataW.Whole aY P fn.params.toList s.vars apart W args.toList ds gs before) (hv:s.vars=[])
  (hfn:∀ds:List (DataW H),ds.length=fn.params.size->s.fn H ds={results:=[.lit (.bool true)],args:=ds})
  (hrt:fn.resultTypes=#[tb]) (htb:P.underlying tb=some .bool) (hl:laidOutB P=true) (hread:∀t∈fn.params.toList,P.readableRec t=true/\t<P.types.size) (hS:Oz W W'):
  s.post aY P fn apart fresh handsOn again W args (.bool true) W':=by
 have cD:=hW.lt;obtain⟨p,q,hA,hV,rfl,hz,hn⟩:=hW;have hW0:DataW.Whole aY P fn.params.toList s.vars apart W args.toList ds gs (p++q):=⟨p,q,hA,hV,rfl,hz,hn⟩;have hV':DataW.TrodVars aY P W (λ_=>true) [] gs q:=by rw[<-hv];exact hV
 obtain⟨rfl,rfl⟩:=trodVars_none hV';have JL:(ds++[]).length=fn.params.size:=by rw[rF,(OL hA).1];simp
 have hF:=hfn (ds++[]) JL;have hb:=hS.below;have xz:∀x∈p,W.sameAt W' x:=λx hx=>hb.same (cD x (by simp[hx]));have hargs:∀sp:Nat->Bool,(∀x∈p,sp x.block=true)->DataW.TrodAll aY P W' 0 sp true fn.params.toList args.toList ds p:=λsp hsp=>RZ hl hread hA xz hsp;have mi:∀(b:Nat) (sp:Nat->Bool) (hd:Bool),DataW.TrodAll aY P W' b sp hd fn.resultTypes.toList ((Value.bool true).resultList fn.resultTypes.size) [.lit (.bool true)] []:=by intro b sp hd;rw[hrt];exact trodAll_mk1 (shut_bool htb true)
 refine⟨ds,[],p++[],[],p,[],hW0,?_,?_,?_,?_,?_⟩
 ·rw[hF];exact mi _ _ _
 ·rw[hF];simp only[rF];exact hargs _ (λx hx=>by simpa using cD x (by simp[hx]))
 ·rw[hF,hv];exact rfl
 ·exact hb.frame _
 ·intro _;refine⟨ok_one hrt rfl (okWide_bool_mk htb true),[.lit (.bool true)]++ds,[],[]++p++[],⟨[]++p,[],trodAll_append (hargs _ λ_ _=>rfl) (mi _ _ _),?_,rfl,?_,?_⟩,?_⟩
  ·rw[hv];exact rfl
  ·intro b off hp;simp only[List.nil_append,rF] at hp;have h1:=cD (.cell b off) (by simp[hp]);rw[hb.frozen (p:=⟨b,off,none⟩) h1];exact hz b off (by simpa using hp)
  ·intro ha;simpa using hn ha
  ·intro x hx _;simpa using hx
end
def law_lifted{C:Checked}{os:Os}{f:FuncId}{fn:Func}{s:ChangeSpec}{conds:List PathCond}{apart fresh handsOn again:Bool}{tb:fL}{H:Type}{aY:fL×Value->H}
  (gZ:ownKnob C.prog.godebug=none) (started:os.Started) (noInit:C.prog.inits.idxOf? f=none) (hfn:C.prog.funcs[f]? =some fn)
  (witness:∃(w:aH) (tape:Tape) (i:Input),w.os=os/\(w.forCall tape i).Shaped C.prog/\i.vars=[]/\Input.okWide C.prog (w.forCall tape i) .any w.heap.size f i/\
   s.pre6 aY C.prog fn conds apart (w.forCall tape i).memory i.args/\Assume.holds {} C.prog (lone (Frame.enter C.prog f i.args .normal) [] (w.forCall tape i)))
  (hv:s.vars=[]) (hs:∀ds:List (DataW H),ds.length=fn.params.size->s.fn H ds={results:=[.lit (.bool true)],args:=ds})
  (hrt:fn.resultTypes=#[tb]) (htb:C.prog.underlying tb=some .bool) (hl:laidOutB C.prog=true) (hread:∀t∈fn.params.toList,C.prog.readableRec t=true/\t<C.prog.types.size)
  (contract:∀(W:aH) (oI:Nat) (args:Array Value) (ds:List (DataW H)) (ps:List MemPlace),
   (∀(j:Nat) t v,fn.params[j]? =some t->args[j]? =some v->Value.okWide C.prog W .any oI t v)->
   DataW.TrodAll aY C.prog W 0 (λ_=>true) true fn.params.toList args.toList ds ps->
   Calls C.prog f args W λe W'=>e=.returned (.bool true)/\Oz W W'):
  ReturnsInHanded {} C os f .any (s.pre6 aY C.prog fn conds apart) (s.post aY C.prog fn apart fresh handsOn again):=by
 refine returnsInHanded_of_change gZ started noInit hfn witness ?_;intro W oI args ds gs before Se hW _ _;obtain⟨p,q,hA,_⟩:=id hW;exact(contract W oI args ds p Se hA).mono λe W' ⟨he,hS⟩=>⟨_,he,law_post hW hv hs hrt htb hl hread hS⟩
section
variable{H:Type}{aY:fL×Value->H}{P:YZ}{W:aH}
end
end
end Go.Den
namespace Go.Den
open Go
open Go.IntKind (wrap)
def poly:BitVec 32:=2197175160#32
def xf(c:BitVec 32):BitVec 32:=(c>>>1)^^^(if c.getLsbD 0 then poly else 0#32)
def RF:Nat->BitVec 32->BitVec 32
 |0,c=>c
 |n+1,c=>RF n (xf c)
def oe(c:BitVec 32)(b:BitVec 8):BitVec 32:=RF 8 (c^^^b.setWidth 32)
def EP(c:BitVec 32)(l:List (BitVec 8)):BitVec 32:=l.foldl oe c
def yX(l:List (BitVec 8)):BitVec 32:= ~~~ EP (BitVec.allOnes 32) l
def Va(c:BitVec 32)(l m:List (BitVec 8)):EP c (l++m)=EP (EP c l) m:=List.foldl_append ..
def sk(c:BitVec 32)(l:List (BitVec 8))(b:BitVec 8):EP c (l++[b])=oe (EP c l) b:=by simp[EP]
def Ca:∀(n:Nat) (c:BitVec 32),RF (n+1) c=xf (RF n c)
 |0,_=>rfl
 |n+1,c=>by rw[RF,Ca n];rfl
def parN:Nat->(Nat->Bool)->Bool
 |0,_=>false
 |n+1,f=>xor (parN n f) (f n)
def par{w:Nat}(x:BitVec w):Bool:=parN w x.getLsbD
def bitsV_and(c d:BitVec 32):pA .and .u32 (c.toNat:Int) (d.toNat:Int)=((c &&& d).toNat:Int):=by
 show wrap .u32 ((BitVec.ofInt 32 (c.toNat:Int) &&& BitVec.ofInt 32 (d.toNat:Int)).toNat:Int)=_;have hc:BitVec.ofInt 32 (c.toNat:Int)=c:=by simp
 have hd:BitVec.ofInt 32 (d.toNat:Int)=d:=by simp
 rw[hc,hd,IntKind.wrap_u32];have h:(c &&& d).toNat<4294967296:=(c &&& d).isLt;omega
def An(c d:BitVec 32):pA .xor .u32 (c.toNat:Int) (d.toNat:Int)=((c^^^d).toNat:Int):=by
 show wrap .u32 ((BitVec.ofInt 32 (c.toNat:Int)^^^BitVec.ofInt 32 (d.toNat:Int)).toNat:Int)=_;have hc:BitVec.ofInt 32 (c.toNat:Int)=c:=by simp
 have hd:BitVec.ofInt 32 (d.toNat:Int)=d:=by simp
 rw[hc,hd,IntKind.wrap_u32];have h:(c^^^d).toNat<4294967296:=(c^^^d).isLt;omega
def shift_one(c:BitVec 32):Int.fdiv (c.toNat:Int) (2^(min (Int.toNat (1:Int)) (IntKind.bits .u32)))=((c>>>1).toNat:Int):=by
 rw[BitVec.toNat_ushiftRight,Nat.shiftRight_eq_div_pow];show Int.fdiv (c.toNat:Int) 2=((c.toNat/2:Nat):Int);rw[Int.fdiv_eq_ediv_of_nonneg _ aB];omega
def and_one(c:BitVec 32):((c &&& 1#32).toNat:Int)=if c.getLsbD 0 then 1 else 0:=by
 rw[BitVec.toNat_and];simp only[BitVec.getLsbD,Nat.testBit_zero];have:c.toNat &&& (1#32).toNat=c.toNat%2:=Nat.and_one_is_mod _;rw[this];rcases Nat.mod_two_eq_zero_or_one c.toNat with h|h<;>simp[h]
def bq(c:BitVec 32):xf c=if c.getLsbD 0 then(c>>>1)^^^poly else c>>>1:=by unfold xf;split<;>simp
def Edge(zs:List It)(k j:Nat):Prop:=∀x y,zs[k]? =some x->zs[j]? =some y->qN y x=false
def HOk(zs:List It):Prop:=∀j,0<j->Edge zs ((j-1)/2) j
structure UpI(zs:List It)(i:Nat):Prop where
 cO:∀j,0<j->j≠i->Edge zs ((j-1)/2) j
 iA:∀j,0<j->(j-1)/2=i->0<i->Edge zs ((i-1)/2) j
structure Ys(zs:List It)(i:Nat):Prop where
 cO:∀j,0<j->(j-1)/2≠i->Edge zs ((j-1)/2) j
 iA:∀j,0<j->(j-1)/2=i->0<i->Edge zs ((i-1)/2) j
def le_trans'{x y z:It}(h:qN y x=false)(h':qN z y=false):qN z x=false:=by
 have h1:¬qN y x=true:=by rw[h];simp
 have h2:¬qN z y=true:=by rw[h'];simp
 have:¬qN z x=true:=by rw[kO] at*;omega
 simpa using this
def xo{x y:It}(h:qN x y=true):qN y x=false:=by
 have:¬qN y x=true:=by rw[kO] at*;omega
 simpa using this
def HW(x:It):qN x x=false:=by
 have:¬qN x x=true:=by rw[kO];omega
 simpa using this
def CW{zs:List It}{i p:Nat}(hi:i<zs.length)(hp:p<zs.length)(x y:It)(j:Nat):((zs.set i y).set p x)[j]? =if j=p then some x else if j=i then some y else zs[j]?:=by
 rw[jC,jC]
 by_cases h1:j=p
 ·subst h1;simp[hp]
 ·rw[if_neg (λe=>h1 e.symm),if_neg h1]
  by_cases h2:j=i
  ·subst h2;simp[hi]
  ·rw[if_neg (λe=>h2 e.symm),if_neg h2]
def Tf{zs:List It}{i p:Nat}{x y:It}(hx:zs[i]? =some x)(hy:zs[p]? =some y)(u:It):u∈(zs.set i y).set p x↔u∈zs:=by
 have hi:=(eR.1 hx).1;have hp:=(eR.1 hy).1;rw[pJ,pJ]
 constructor
 ·rintro⟨j,hj⟩;rw[CW hi hp] at hj
  split at hj
  ·exact⟨i,hx.trans hj⟩
  ·split at hj
   ·exact⟨p,hy.trans hj⟩
   ·exact⟨j,hj⟩
 ·rintro⟨j,hj⟩
  by_cases h1:j=p
  ·subst h1
   by_cases h2:j=i
   ·subst h2;exact⟨j,by rw[CW hi hp,if_pos rfl,<-hx,hj]⟩
   ·exact⟨i,by rw[CW hi hp,if_neg (λe=>h2 e.symm),if_pos rfl,<-hy,hj]⟩
  ·by_cases h2:j=i
   ·subst h2;exact⟨p,by rw[CW hi hp,if_pos rfl,<-hx,hj]⟩
   ·exact⟨j,by rw[CW hi hp,if_neg h1,if_neg h2,hj]⟩
def up_step{zs:List It}{i:Nat}{x y:It}(h:UpI zs i)(hi0:0<i)(hx:zs[i]? =some x)(hy:zs[(i-1)/2]? =some y)(cD:qN x y=true):UpI ((zs.set i y).set ((i-1)/2) x) ((i-1)/2):=by
 have hi:=(eR.1 hx).1;have hp:=(eR.1 hy).1;have hpi:(i-1)/2<i:=aB;have hxy:=xo cD;generalize Rm:(i-1)/2=p at*;refine⟨λj hj hjp u v hu hv=>?_,λj hj hjp hp0 u v hu hv=>?_⟩
 ·rw[CW hi hp] at hu hv;rw[if_neg hjp] at hv
  by_cases FO:j=i
  ·subst FO;rw[if_pos rfl] at hv;rw[if_pos Rm] at hu;cases hv;cases hu;exact hxy
  ·rw[if_neg FO] at hv
   by_cases h1:(j-1)/2=p
   ·rw[if_pos h1] at hu;cases hu;exact le_trans' hxy (h.cO j hj FO y v (by rw[h1];exact hy) hv)
   ·rw[if_neg h1] at hu
    by_cases h2:(j-1)/2=i
    ·rw[if_pos h2] at hu;cases hu;exact h.iA j hj h2 hi0 y v (by rw[Rm];exact hy) hv
    ·rw[if_neg h2] at hu;exact h.cO j hj FO u v hu hv
 ·rw[CW hi hp] at hu hv;rw[if_neg aB,if_neg aB] at hu;have Vz:qN y u=false:=h.cO p hp0 aB u y hu hy;rw[if_neg aB] at hv
  by_cases FO:j=i
  ·rw[if_pos FO] at hv;cases hv;exact Vz
  ·rw[if_neg FO] at hv;exact le_trans' Vz (h.cO j hj FO y v (by rw[hjp];exact hy) hv)
def up_end{zs:List It}{i:Nat}{x:It}(h:UpI zs i)(hx:zs[i]? =some x)(he:i=0\/∃y,zs[(i-1)/2]? =some y/\qN x y=false):HOk zs:=by
 intro j hj
 by_cases FO:j=i
 ·subst FO;rcases he with rfl|⟨y,hy,hn⟩
  ·omega
  ·intro u v hu hv;rw[hy] at hu;rw[hx] at hv;cases hu;cases hv;exact hn
 ·exact h.cO j hj FO
def down_step{zs:List It}{i k:Nat}{x y:It}(h:Ys zs i)(hk0:0<k)(hki:(k-1)/2=i)(hx:zs[i]? =some x)(hy:zs[k]? =some y)(cD:qN y x=true)
  (ml:∀s,0<s->(s-1)/2=i->∀v,zs[s]? =some v->qN v y=false):Ys ((zs.set i y).set k x) k:=by
 have hi:=(eR.1 hx).1;have hk:=(eR.1 hy).1;have hyx:=xo cD;refine⟨λj hj hjk u v hu hv=>?_,λj hj hjk hk0' u v hu hv=>?_⟩
 ·rw[CW hi hk] at hu hv;rw[if_neg hjk] at hu
  by_cases h1:j=k
  ·subst h1;rw[if_pos rfl] at hv;rw[if_pos hki] at hu;cases hu;cases hv;exact hyx
  ·rw[if_neg h1] at hv
   by_cases h2:j=i
   ·subst h2;rw[if_pos rfl] at hv;cases hv;rw[if_neg aB] at hu;exact h.iA k hk0 hki aB u y hu hy
   ·rw[if_neg h2] at hv
    by_cases h3:(j-1)/2=i
    ·rw[if_pos h3] at hu;cases hu;exact ml j hj h3 v hv
    ·rw[if_neg h3] at hu;exact h.cO j hj h3 u v hu hv
 ·rw[CW hi hk] at hu hv;rw[hki,if_neg aB,if_pos rfl] at hu;cases hu;rw[if_neg aB,if_neg aB] at hv;exact h.cO j hj aB y v (by rw[hjk];exact hy) hv
def Zw{zs:List It}{i:Nat}{x:It}(h:Ys zs i)(hx:zs[i]? =some x)(ml:∀s,0<s->(s-1)/2=i->∀v,zs[s]? =some v->qN v x=false):HOk zs:=by
 intro j hj
 by_cases h1:(j-1)/2=i
 ·intro u v hu hv;rw[h1,hx] at hu;cases hu;exact ml j hj h1 v hv
 ·exact h.cO j hj h1
def HOk.min{zs:List It}(h:HOk zs){r:It}(hr:zs[0]? =some r):∀(j:Nat) (u:It),zs[j]? =some u->qN u r=false:=by
 intro j
 induction j using Nat.strongRecOn with
 |ind j ih=>
  intro u hu
  by_cases hj:j=0
  ·subst hj;rw[hr] at hu;cases hu;exact HW _
  ·have cD:=(eR.1 hu).1;have hp:(j-1)/2<zs.length:=aB;exact le_trans' (ih ((j-1)/2) aB _ (cL hp)) (h j aB _ u (cL hp) hu)
structure GD(f:Int->Option Int)(zs:List It)(i:Nat):Prop where
 at_:∀(j:Nat) (z:It),j≠i->zs[j]? =some z->f z.id=some (j:Int)
 dom:∀v k,f v=some k->∃z∈zs,z.id=v
structure uZ(f:Int->Option Int)(zs:List It):Prop where
 at_:∀(j:Nat) z,zs[j]? =some z->f z.id=some (j:Int)
 dom:∀v k,f v=some k->∃z∈zs,z.id=v
def uZ.one{f:Int->Option Int}{zs:List It}(h:uZ f zs):Dp zs:=by
 intro x hx y hy e;obtain⟨i,hi⟩:=pJ.1 hx;obtain⟨j,hj⟩:=pJ.1 hy;have h1:=h.at_ i x hi;have h2:=h.at_ j y hj;rw[e,h2] at h1;have:j=i:=by have:=uI h1;omega
 subst this;rw[hi] at hj;exact uI hj
def GD.swap{f:Int->Option Int}{zs:List It}{i p:Nat}(h:GD f zs i){x y:It}(hx:zs[i]? =some x)(hy:zs[p]? =some y)(hip:i≠p):GD (λv=>if v=y.id then some (i:Int) else f v) ((zs.set i y).set p x) p:=by
 have hi:=(eR.1 hx).1;have hp:=(eR.1 hy).1;refine⟨λj z hj hz=>?_,λv k hv=>?_⟩
 ·rw[CW hi hp,if_neg hj] at hz
  by_cases h1:j=i
  ·rw[if_pos h1] at hz;cases hz;simp[h1]
  ·rw[if_neg h1] at hz;have h2:=h.at_ j z h1 hz;have:z.id≠y.id:=λe=>by
    have h3:=h.at_ p y (Ne.symm hip) hy;rw[<-e,h2] at h3;have:=uI h3;omega
   simp[this,h2]
 ·replace hv:(if v=_ then _ else f v)=some k:=hv
  by_cases h1:v=y.id
  ·exact⟨y,(Tf hx hy y).2 (kR hy),h1.symm⟩
  ·rw[if_neg h1] at hv;obtain⟨z,hz,e⟩:=h.dom v k hv;exact⟨z,(Tf hx hy z).2 hz,e⟩
def GD.done{f:Int->Option Int}{zs:List It}{i:Nat}(h:GD f zs i){x:It}(hx:zs[i]? =some x)(hnd:∀(j:Nat) (z:It),j≠i->zs[j]? =some z->z.id≠x.id):uZ (λv=>if v=x.id then some (i:Int) else f v) zs:=by
 refine⟨λj z hz=>?_,λv k hv=>?_⟩
 ·by_cases h1:j=i
  ·subst h1;rw[hx] at hz;cases hz;simp
  ·have:=h.at_ j z h1 hz;simp[hnd j z h1 hz,this]
 ·replace hv:(if v=_ then _ else f v)=some k:=hv
  by_cases h1:v=x.id
  ·exact⟨x,kR hx,h1.symm⟩
  ·rw[if_neg h1] at hv;exact h.dom v k hv
def RW(zs:List It):Prop:=∀(i j:Nat) (x y:It),zs[i]? =some x->zs[j]? =some y->x.id=y.id->i=j
def uZ.apart{f:Int->Option Int}{zs:List It}(h:uZ f zs):RW zs:=by
 intro i j x y hi hj e;have h1:=h.at_ i x hi;have h2:=h.at_ j y hj;rw[e,h2] at h1;have:=uI h1;omega
def RW.swap{zs:List It}(h:RW zs){i p:Nat}{x y:It}(hx:zs[i]? =some x)(hy:zs[p]? =some y):RW ((zs.set i y).set p x):=by
 have hi:=(eR.1 hx).1;have hp:=(eR.1 hy).1;have eJ:∀(j:Nat) (u:It),((zs.set i y).set p x)[j]? =some u->∃j',zs[j']? =some u/\((j=p/\j'=i)\/(j≠p/\j=i/\j'=p)\/(j≠p/\j≠i/\j'=j)):=by
  intro j u hu;rw[CW hi hp] at hu
  by_cases h1:j=p
  ·rw[if_pos h1] at hu;exact⟨i,hx.trans hu,.inl ⟨h1,rfl⟩⟩
  ·rw[if_neg h1] at hu
   by_cases h2:j=i
   ·rw[if_pos h2] at hu;exact⟨p,hy.trans hu,.inr (.inl ⟨h1,h2,rfl⟩)⟩
   ·rw[if_neg h2] at hu;exact⟨j,hu,.inr (.inr ⟨h1,h2,rfl⟩)⟩
 intro a b u v hu hv e;obtain⟨a',ha,hac⟩:=eJ a u hu;obtain⟨b',hb,hbc⟩:=eJ b v hv;have:=h a' b' u v ha hb e;omega
def HE(n:Int):Int:=if n<0 then-n else n
def Ss(ax ay bx mP:Int):Int:=
 if(ax=0/\ay=0)\/(bx=0/\mP=0) then 0
 else if ax*bx+ay*mP>0/\4*HE (ax*mP-ay*bx)<=ax*bx+ay*mP then 1
 else if ax*bx+ay*mP<0/\4*HE (ax*mP-ay*bx)<=-(ax*bx+ay*mP) then 5
 else if ax*mP-ay*bx>0/\ax*bx+ay*mP>0/\ax*mP-ay*bx<=ax*bx+ay*mP then 2
 else if ax*mP-ay*bx>0/\ax*bx+ay*mP<0/\ax*mP-ay*bx<=-(ax*bx+ay*mP) then 4
 else if ax*mP-ay*bx>0 then 3
 else if ax*bx+ay*mP>0/\-(ax*mP-ay*bx)<=ax*bx+ay*mP then 6
 else if ax*bx+ay*mP<0/\-(ax*mP-ay*bx)<=-(ax*bx+ay*mP) then 8
 else 7
def sq_pos{x y:Int}(h:¬(x=0/\y=0)):x*x+y*y≠0:=λe=>by
 have h1:0<=x*x:=by
  rcases Int.le_total 0 x with h|h
  ·exact Int.mul_nonneg h h
  ·exact Int.mul_nonneg_of_nonpos_of_nonpos h h
 have h2:0<=y*y:=by
  rcases Int.le_total 0 y with h|h
  ·exact Int.mul_nonneg h h
  ·exact Int.mul_nonneg_of_nonpos_of_nonpos h h
 have h3:x*x=0:=aB;have h4:y*y=0:=aB;exact h ⟨(Int.mul_eq_zero.1 h3).elim id id,(Int.mul_eq_zero.1 h4).elim id id⟩
def cross_dot{ax ay bx mP:Int}(h1:ax*mP-ay*bx=0)(h2:ax*bx+ay*mP=0):(ax=0/\ay=0)\/(bx=0/\mP=0):=by
 rcases Classical.em (bx=0/\mP=0) with h|h
 ·exact .inr h
 have hs:=sq_pos h;have e1:ax*mP=ay*bx:=aB;have e2:ax*bx=-(ay*mP):=aB;have f1:ax*(bx*bx+mP*mP)=0:=by rw[Int.mul_add,<-Int.mul_assoc,<-Int.mul_assoc,e1,e2,Int.neg_mul,Int.mul_assoc,Int.mul_assoc,Int.mul_comm mP bx];omega
 have f2:ay*(bx*bx+mP*mP)=0:=by rw[Int.mul_add,<-Int.mul_assoc,<-Int.mul_assoc,<-e1,show ay*mP=-(ax*bx) by omega,Int.neg_mul,Int.mul_assoc,Int.mul_assoc,Int.mul_comm mP bx];omega
 exact .inl ⟨(Int.mul_eq_zero.1 f1).resolve_right hs,(Int.mul_eq_zero.1 f2).resolve_right hs⟩
def Fj{x y:Int}(h:-4095<=x/\x<=4095)(h':-4095<=y/\y<=4095):-16769025<=x*y/\x*y<=16769025:=by
 have h1:x.natAbs<=4095:=aB;have h2:y.natAbs<=4095:=aB;have h3:(x*y).natAbs<=4095*4095:=by rw[Int.natAbs_mul];exact TS h1 h2
 omega
def St(c d:Int):Int:=
 if d>0/\4*HE c<=d then 1 else if d<0/\4*HE c<=-d then 5 else if c>0/\d>0/\c<=d then 2 else if c>0/\d<0/\c<=-d then 4 else if c>0 then 3
 else if d>0/\-c<=d then 6 else if d<0/\-c<=-d then 8 else 7
def clsP_eq{ax ay bx mP:Int}(h:¬((ax=0/\ay=0)\/(bx=0/\mP=0))):Ss ax ay bx mP=St (ax*mP-ay*bx) (ax*bx+ay*mP):=by
 unfold Ss St;rw[if_neg h]
def Gr.nd(G:Gr)(i:Int):Int×Int:=G.N.getD i.toNat (0,0)
def Gr.Sv(G:Gr)(a b:Int):Int:=Ss ((G.nd (G.to a)).1-(G.nd (G.fr a)).1) ((G.nd (G.to a)).2-(G.nd (G.fr a)).2) ((G.nd (G.to b)).1-(G.nd (G.fr b)).1) ((G.nd (G.to b)).2-(G.nd (G.fr b)).2)
def Gr.get_nd{G:Gr}{i:Int}(h:G.GR i):G.N[i.toNat]? =some (G.nd i):=by
 have:i.toNat<G.N.length:=by have:=h.2;unfold Gr.n at this;omega
 unfold Gr.nd;rw[MJ,cL this];rfl
def sM.Tg{G:Gr}(ok:sM G){i:Int}(h:G.GR i):(0<=(G.nd i).1/\(G.nd i).1<=4095)/\0<=(G.nd i).2/\(G.nd i).2<=4095:=ok.nd _ (kR (G.get_nd h))
structure MY where
 cls:Int
 kL:Int
 pL:Int
 left:Int
def Gr.kM(G:Gr):Int->cR->Int×Int×Int
 |_,[]=>(9,-1,0)
 |a,e::l=>if(G.gR a).length≠1 then(G.Sv a e,e,0) else((G.kM e l).1,(G.kM e l).2.1,G.wt e+(G.kM e l).2.2)
def Gr.eZ(G:Gr)(a:Int)(l:cR):MY:=⟨(G.kM a l).1,(G.kM a l).2.1,(G.kM a l).2.2,G.oP l⟩
structure gT where
 kind:Int
 pos:Int
 JV:Int
 cF:cR
 lI:Int
 eZ:MY
abbrev WV:MY:=⟨0,0,0,0⟩
def RL(k:Int):gT:=⟨k,0,0,[],0,WV⟩
def pS(l:cR)(w:Int):gT:=⟨5,0,0,l,w,WV⟩
def LJ(h:MY):gT:=⟨7,0,0,[],0,h⟩
def ph(p:Int):gT:=⟨9,p,0,[],0,WV⟩
abbrev jD:=RL 4
abbrev wI:=RL 6
abbrev XU:=RL 8
structure zZ where
 pos:Int
 node:Int
 jZ:cR
 dI:Bool
 iA:Bool
def kX(G:Gr)(p:zZ):zZ×List gT:=if G.to p.pos=p.node then({p with iA:=true},[XU]) else(p,[LJ (G.eZ p.pos p.jZ)])
def QV(G:Gr)(p:zZ)(l:cR)(w:Int)(f:Bool):zZ×List gT:=
 if f then((kX G {p with jZ:=l,dI:=true}).1,pS l w::(kX G {p with jZ:=l,dI:=true}).2) else({p with jZ:=l,dI:=false},[wI])
def DX(G:Gr)(c:rZ)(p:zZ)(z:zZ×List gT):Prop:=∃l w f r,G.LP p.node p.pos c l w f r/\z=QV G p l w f
def nj(G:Gr)(c:rZ)(p:zZ)(pos:Int)(z:zZ×List gT):Prop:=
 if p.iA=true then z=(p,[]) else if¬G.mO pos then z=(p,[ph pos]) else if p.dI=true/\pos=p.pos then z=kX G p
 else if p.dI=true/\p.jZ.head? =some pos then z=kX G {p with pos:=pos,jZ:=p.jZ.tail} else DX G c {p with pos:=pos} z
def nk(G:Gr)(c:rZ)(p:zZ)(oQ open_:cR)(z:zZ×List gT):Prop:=
 if p.iA=true then z=(p,[]) else if p.dI=true then(if∃e∈p.jZ,e∈oQ then DX G c p z else z=(p,[]))
 else if open_=[] then z=(p,[]) else∃z',DX G c p z'/\z=(z'.1,if z'.1.dI=true then z'.2 else [])
structure VL(G:Gr)(p:zZ):Prop where
 pos:G.mO p.pos
 node:G.GR p.node
 wE:∀x∈p.jZ,G.mO x
 len:p.jZ.length<=51
 Gn:p.dI=true->G.CQ p.pos p.jZ=true
 none:p.dI=false->p.jZ=[]
def Gr.LP.EM{G:Gr}(ok:sM G){v e:Int}{c:rZ}{l:cR}{w:Int}{f r:Bool}(h:G.LP v e c l w f r):(∀x∈l,G.mO x)/\l.length<=51/\(f=true->G.CQ e l=true/\w=G.oP l)/\(f=false->l=[]/\w=0):=by
 have hm:=ok.m1.2;cases h with
 |no=>exact⟨by simp,by simp,λh=>(by cases h),λ_=>⟨rfl,rfl⟩⟩
 |near _ _ _ hl _=>have:=hl.len ok;have hf:=hl.EM ok;exact⟨λx hx=>(hf.2.2.1 x hx).1,aB,λ_=>⟨hf.2.1,rfl⟩,λh=>by cases h⟩
 |pL _ _ _ _ _ _ hl=>have:=hl.len ok;have hf:=hl.EM ok;exact⟨λx hx=>(hf.2.2.1 x hx).1,aB,λ_=>⟨hf.2.1,rfl⟩,λh=>by cases h⟩
def VL.kX{G:Gr}{p:zZ}(h:VL G p):VL G (kX G p).1:=by
 unfold Den.kX
 split
 ·exact⟨h.pos,h.node,h.wE,h.len,h.Gn,h.none⟩
 ·exact h
def ask_ok{G:Gr}(ok:sM G){p:zZ}(hp:G.mO p.pos)(hn:G.GR p.node){l:cR}{w:Int}{f r:Bool}{c:rZ}(ha:G.LP p.node p.pos c l w f r):VL G (QV G p l w f).1/\(f=true->VL G {p with jZ:=l,dI:=true}):=by
 obtain⟨h1,h2,h3,h4⟩:=ha.EM ok;have hs:f=true->VL G {p with jZ:=l,dI:=true}:=λhf=>⟨hp,hn,h1,h2,λ_=>(h3 hf).1,λh=>by cases h⟩;refine⟨?_,hs⟩;unfold QV
 split
 ·rename_i hf;exact(hs hf).kX
 ·rename_i hf
  have ZC:f=false:=by simpa using hf
  exact⟨hp,hn,h1,h2,λh=>(by cases h),λ_=>(h4 ZC).1⟩
def VL.move{G:Gr}{p:zZ}(h:VL G p){x:Int}(hx:G.mO x)(hh:p.dI=true/\p.jZ.head? =some x):VL G {p with pos:=x,jZ:=p.jZ.tail}:=by
 have hw:=h.Gn hh.1;cases hp:p.jZ with
 |nil=>rw[hp] at hh;cases hh.2
 |cons y l=>
  have hy:y=x:=by have:=hh.2;rw[hp] at this;simpa using this
  subst hy;rw[hp] at hw;have h2:=h.wE;have h3:=h.len;rw[hp] at h2 h3;simp only[Gr.CQ,tG] at hw;exact⟨hx,h.node,λz hz=>h2 z (by simp at hz;simp[hz]),by simp at h3 ⊢;omega,λ_=>hw.2,λh4=>by have h5:p.dI=false:=h4;rw[hh.1] at h5;cases h5⟩
abbrev cH:=BitVec 8
def be:Nat->Nat->List cH
 |0,_=>[]
 |s+1,x=>BitVec.ofNat 8 (x/256^s)::be s x
def de(n:Nat)(l:List cH):Nat:=l.foldl (λn c=>n*256+c.toNat) n
def pT(s x:Nat):(be s x).length=s:=by
 induction s with
 |zero=>rfl
 |succ s ih=>simp[be,ih]
def de_be(s:Nat):∀(n x:Nat),x<256^s->de n (be s x)=n*256^s+x:=by
 induction s with
 |zero=>intro n x h;simp at h;simp[be,de,h]
 |succ s ih=>
  intro n x h;have e:de n (be (s+1) x)=de (n*256+(BitVec.ofNat 8 (x/256^s)).toNat) (be s x):=rfl;have hp:0<256^s:=Nat.pow_pos aB;have cD:x/256^s<256:=by rw[Nat.div_lt_iff_lt_mul hp,Nat.mul_comm,<-Nat.pow_succ];exact h
  have hb:be s x=be s (x%256^s):=by
   have key:∀j,j<=s->be j x=be j (x%256^s):=by
    intro j
    induction j with
    |zero=>intro _;rfl
    |succ j ihj=>
     intro hj;simp only[be];rw[ihj aB];congr 1;apply BitVec.eq_of_toNat_eq;simp only[BitVec.toNat_ofNat];have hs:(256:Nat)^s=256^j*256^(s-j):=by rw[<-Nat.pow_add];congr 1;omega
     have h2:x%256^s/256^j=x/256^j%256^(s-j):=by rw[hs,Nat.mod_mul_right_div_self]
     rw[h2,show(2:Nat)^8=256 from rfl];have h3:(256:Nat) ∣ 256^(s-j):=by rw[show s-j=(s-j-1)+1 by omega,Nat.pow_succ];exact Nat.dvd_mul_left _ _
     rw[Nat.mod_mod_of_dvd _ h3]
   exact key s (dN _)
  rw[e,hb,ih _ _ (Nat.mod_lt _ hp),BitVec.toNat_ofNat,Nat.mod_eq_of_lt (by simpa using cD)];have:=Nat.div_add_mod x (256^s);rw[Nat.pow_succ]
  calc (n*256+x/256^s)*256^s+x%256^s=n*(256^s*256)+(256^s*(x/256^s)+x%256^s):=by rw[Nat.add_mul,Nat.mul_assoc,Nat.mul_comm 256 (256^s),Nat.mul_comm (x/256^s),Nat.add_assoc]
   _=n*(256^s*256)+x:=by rw[this]
def lF(m:gT):List cH:=
 be 1 m.kind.toNat++
 if m.kind=1 then be 2 m.pos.toNat++be 2 m.JV.toNat
 else if m.kind=2\/m.kind=9 then be 2 m.pos.toNat
 else if m.kind=5 then be 5 m.lI.toNat++be 2 m.cF.length++m.cF.flatMap (λe=>be 2 e.toNat)
 else if m.kind=7 then be 1 m.eZ.cls.toNat++be 2 (m.eZ.kL+1).toNat++be 5 m.eZ.pL.toNat++be 5 m.eZ.left.toNat
 else []
def u16(x:Int):Prop:=0<=x/\x<65536
def u32(x:Int):Prop:=0<=x/\x<4294967296
def u40(x:Int):Prop:=0<=x/\x<1099511627776
structure tC(m:gT):Prop where
 kind:1<=m.kind/\m.kind<=9
 pos:if m.kind=1\/m.kind=2\/m.kind=9 then u16 m.pos else m.pos=0
 JV:if m.kind=1 then u16 m.JV else m.JV=0
 cF:if m.kind=5 then m.cF.length<=512/\∀e∈m.cF,u16 e else m.cF=[]
 lI:if m.kind=5 then u40 m.lI else m.lI=0
 eZ:if m.kind=7 then(0<=m.eZ.cls/\m.eZ.cls<256)/\u16 (m.eZ.kL+1)/\u40 m.eZ.pL/\u40 m.eZ.left else m.eZ=⟨0,0,0,0⟩
structure fK where
 aM:Int
 kind:Int
 seq:Int
 LH:Int
 code:Int
 body:List cH
structure Wo(g:fK):Prop where
 kind:g.kind=1\/g.kind=2\/g.kind=3
 aM:u32 g.aM
 seq:if g.kind=1 then u32 g.seq else g.seq=0
 LH:if g.kind=3 then g.LH=0 else u32 g.LH
 code:if g.kind=3 then 0<=g.code/\g.code<256 else g.code=0
 body:if g.kind=1 then g.body.length<=1900 else g.body=[]
def nL(g:fK):List cH:=
 be 4 g.aM.toNat++if g.kind=1 then be 4 g.seq.toNat++be 4 g.LH.toNat++g.body else if g.kind=2 then be 4 g.LH.toNat else be 1 g.code.toNat
def fW(kind:Int)(b:List cH):List cH:=be 1 77++be 1 3++be 1 kind.toNat++be 2 b.length++b
def xM(kind:Int)(b:List cH):List cH:=fW kind b++be 4 (yX (fW kind b)).toNat
def LL(g:fK):List cH:=xM g.kind (nL g)
section
def Xt(w:aH)(S:BS)(B:As)(R:As->As):Prop:=∃S1,B w S1/\(∀k,S1 k->S k)/\∀B' D M w' CH,aU M w w'->(∀k,M k->S1 k\/¬S k)->(∀k,CH k->S1 k\/¬S k)->bL B' D w' CH->∃S',bL (R B') D w' S'/\∀k,S' k->(S k/\¬S1 k)\/CH k
section
variable{A B C L:As}{w:aH}{S:BS}{R R':As->As}
def bL.lG[bJ B](h:bL A B w S):Xt w S A λX=>bL X B:=by
 obtain⟨S1,S2,h1,h2,d,e⟩:=h;refine⟨S1,h1,λk hk=>(e k).2 (.inl hk),λA' D M w' T m hM hT' hT=>?_⟩;obtain⟨T1,T2,a,b,d',e'⟩:=hT;have n2:∀k,S1 k\/¬S k->¬S2 k:=λk hk h=>hk.elim (λh1=>d k h1 h) λhn=>hn ((e k).2 (.inr h));have dd:∀k,T k->¬S2 k:=λk hk=>n2 k (hT' k hk);refine⟨λk=>(T1 k\/S2 k)\/T2 k,⟨λk=>T1 k\/S2 k,T2,⟨T1,S2,a,bJ.aK h2 m λk hk lM=>n2 k (hM k lM) hk,λk h1 h2=>dd k ((e' k).2 (.inl h1)) h2,λ_=>Iff.rfl⟩,b,λk h1 h2=>h1.elim (λh=>d' k h h2) λh=>dd k ((e' k).2 (.inr h2)) h,λ_=>Iff.rfl⟩,λk hk=>?_⟩;rcases hk with(hk|hk)|hk
 ·exact .inr ((e' k).2 (.inl hk))
 ·exact .inl ⟨(e k).2 (.inr hk),λh=>d k h hk⟩
 ·exact .inr ((e' k).2 (.inr hk))
def bL.rG[bJ A](h:bL A B w S):Xt w S B λX=>bL A X:=by
 obtain⟨S1,h1,hs,eJ⟩:=bL.lG h.cm;refine⟨S1,h1,hs,λB' D M w' T m hM hT' hT=>?_⟩;obtain⟨S',h',u'⟩:=eJ B' D M w' T m hM hT' hT;exact⟨S',h'.mono (λ_ h=>h.cm) λ_ h=>h,u'⟩
def Xt.c(f:Xt w S B R)(g:∀T,B w T->Xt w T C R'):Xt w S C λX=>R (R' X):=by
 obtain⟨S1,h1,hs,eJ⟩:=f;obtain⟨S2,h2,LU,HP⟩:=g S1 h1;refine⟨S2,h2,λk hk=>hs k (LU k hk),λB' D M w' T m hM hT' hT=>?_⟩;obtain⟨T',h',u'⟩:=HP B' D M w' T m (λk hk=>(hM k hk).imp id λh h1=>h (hs k h1)) (λk hk=>(hT' k hk).imp id λh h1=>h (hs k h1)) hT;obtain⟨T2,h3,u3⟩:=eJ _ D M w' T' m (λk hk=>(hM k hk).imp (LU k) id) (λk hk=>(u' k hk).elim (λh=>.inl h.1) λh=>(hT' k h).imp (LU k) id) h';refine⟨T2,h3,λk hk=>?_⟩;rcases u3 k hk with h|h
 ·exact .inl ⟨h.1,λh2=>h.2 (LU k h2)⟩
 ·rcases u' k h with h|h
  ·exact .inl ⟨hs k h.1,h.2⟩
  ·exact .inr h
end
def xA.atG{α:Type}{f:α->As}[h:∀x,bJ (f x)]:∀{l:List α} {i:Nat} {x:α} {w:aH} {S:BS},xA f l w S->l[i]? =some x->Xt w S (f x) λX=>Bw f X l i
 |y::r,0,x,w,S,hA,hx=>by cases hx;exact bL.lG hA
 |y::r,i+1,x,w,S,hA,hx=>Xt.c (bL.rG hA) λT hT=>xA.atG (l:=r) (i:=i) hT (by simpa using hx)
end
end Go.Den
namespace Go.Den
open Go Go.MapKept
section
def AA(a:Nat):Value:=.pointer (some ⟨a,0,none⟩)
def AE(w:aH)(k:Nat):Prop:=∃cs e,w.heap[k]? =some (.cells cs e (0,0))
def cX.Ti{w:aH}{g:Nat}{e:fL}{cs:gJ}(h:cX w g e cs):AE w g:=⟨_,_,h⟩
structure PtrK(P:YZ)(kt:fL):Prop where
 ex:∃te n,P.underlying kt=some (.pointer te)/\(P.info? te).map (·.size)=some n/\n≠0
def ptr_stays(x:Nat):Instr.sameBits 10000 (AA x) (AA x)=true:=by simp[Instr.sameBits,AA]
section
variable{P:YZ}{kt:fL}
def PK(hp:PtrK P kt)(e:Bool)(x:Nat)(w:aH):(Instr.checkKey e 10000 kt (AA x)).run P w=.ok () w:=by
 obtain⟨te,n,h1,_⟩:=hp.ex;unfold Instr.checkKey;simp[run_underlying h1,AA]
def yc(hp:PtrK P kt)(w:aH)(x:Nat)(hx:AE w x)(l:List MapEntry)(ks:List Nat)(hks:∀k∈ks,AE w k)(h:l.map (·.key)=ks.map AA):
  (x∉ks/\(Instr.findKey kt (AA x) l).run P w=.ok none w)\/∃j e,ks[j]? =some x/\l[j]? =some e/\(Instr.findKey kt (AA x) l).run P w=.ok (some (j,e.val)) w:=by
 obtain⟨te,n,hd,hte,hn⟩:=hp.ex;have QK:∀w,(sizeOf te).run P w=.ok n w:=λw=>by
  cases hq:P.info? te with
  |none=>rw[hq] at hte;cases hte
  |some i=>rw[hq] at hte;simp at hte;rw[zQ hq w,hte]
 have heq:∀q,AE w q->(Op.equal kt (AA x) (AA q)).run P w=.ok (decide (x=q)) w:=λq hq=>by
  unfold Op.equal Op.maxDepth Op.equalIn AA;simp only[Sem.run_bind,run_underlying hd,QK,Result.andThen_ok]
  by_cases hxq:x=q
  ·subst hxq;simp[hn,run_sameAddr_same]
  ·obtain⟨c1,e1,g1⟩:=hx;obtain⟨c2,e2,g2⟩:=hq;have gQ:(⟨x,0,none⟩:Addr)≠⟨q,0,none⟩:=λh=>hxq (by injection h);simp[hn,run_sameAddr_other w gQ g1 g2,hxq]
 have ask:∀(l:List MapEntry) (ks:List Nat) (i:Nat),(∀k∈ks,AE w k)->l.map (·.key)=ks.map AA->
   (x∉ks/\(Instr.findAsking kt (AA x) l i).run P w=.ok none w)\/∃j e,ks[j]? =some x/\l[j]? =some e/\(Instr.findAsking kt (AA x) l i).run P w=.ok (some (i+j,e.val)) w:=by
  intro l
  induction l with
  |nil=>intro ks i _ h;cases ks with
   |nil=>exact .inl ⟨by simp,by simp[Instr.findAsking]⟩
   |cons=>simp at h
  |cons en l ih=>
   intro ks i hc h;cases ks with
   |nil=>simp at h
   |cons q ks=>
    simp only[Dg,List.cons.injEq] at h;have h0:=heq q (hc q dP);rw[<-h.1] at h0
    by_cases hq:x=q
    ·refine .inr ⟨0,en,by simp[hq],rfl,?_⟩;rw[hq] at h0;simp[Instr.findAsking,h0,hq]
    ·have qO:(Instr.findAsking kt (AA x) (en::l) i).run P w=(Instr.findAsking kt (AA x) l (i+1)).run P w:=by
      simp[Instr.findAsking,h0,hq]
     rcases ih ks (i+1) (λk hk=>hc k (by simp[hk])) h.2 with⟨h1,h2⟩|⟨j,e',h1,h2,h3⟩
     ·exact .inl ⟨by simp[hq,h1],by rw[qO];exact h2⟩
     ·exact .inr ⟨j+1,e',by simpa using h1,by simpa using h2,by rw[qO,h3,show i+1+j=i+(j+1) by omega]⟩
 have key:(Instr.findKey kt (AA x) l).run P w=(Instr.findAsking kt (AA x) l 0).run P w:=by
  unfold Instr.findKey;cases l with
  |nil=>simp[run_underlying hd,Instr.findNow,Instr.findAsking]
  |cons en l=>
   have:Instr.findNow (.pointer te) (AA x) (en::l) 0=none:=by simp[Instr.findNow,Instr.sameNow,AA]
   simp[run_underlying hd,this]
 rw[key];simpa using ask l ks 0 hks h
end
section
variable{P:YZ}{w:aH}{r:Nat}{kn:oU}{f:Nat->Option kn.T}{n:Nat}
def kT.yc{kt:fL}(hp:PtrK P kt)(h:kT w r AA kn f n)(x:Nat)(w':aH)(hc:∀k,(f k).isSome=true->AE w' k)(hx:AE w' x):∃(es:Array MapEntry) (LN:Nat) (l:List (Nat×kn.T)),w.heap[r]? =some (.map es LN)/\es.toList.map (·.key)=l.map (λp=>AA p.1)/\es.toList.map (·.val)=l.map (λp=>kn.aY p.2)/\(l.map (·.1)).Nodup/\(∀x,f x=xE l x)/\l.length=n/\QW es LN/\
  ((x∉l.map (·.1)/\f x=none/\(Instr.findKey kt (AA x) es.toList).run P w'=.ok none w')\/∃j v,f x=some v/\l[j]? =some (x,v)/\j<es.size/\(es.toList[j]?).map (·.key)=some (AA x)/\(Instr.findKey kt (AA x) es.toList).run P w'=.ok (some (j,kn.aY v)) w'):=by
 obtain⟨es,c,l,h1,h2,h3,h4,h5,h6,hB⟩:=h;refine⟨es,c,l,h1,h2,h3,h4,h5,h6,hB,?_⟩;rcases Go.Den.yc hp w' x hx es.toList (l.map (·.1)) (λk hk=>hc k (by rw[h5,HU];exact hk)) (by rw[h2,List.map_map];rfl) with⟨g1,g2⟩|⟨j,e,g1,g2,g3⟩
 ·exact .inl ⟨g1,by rw[h5,ID g1],g2⟩
 ·right;rw[oG] at g1;cases hj:l[j]? with
  |none=>rw[hj] at g1;cases g1
  |some p=>
   rw[hj] at g1;have hp:p.1=x:=by simpa using g1
   obtain⟨y,v⟩:=p;simp only at hp;subst hp;have hv:e.val=kn.aY v:=by
    have:(es.toList.map (·.val))[j]? =some e.val:=by rw[oG,g2];rfl
    rw[h3,oG,hj] at this;simpa using this.symm
   have uK:(es.toList[j]?).map (·.key)=some (AA y):=by
    have:(es.toList.map (·.key))[j]? =some (AA y):=by rw[h2,oG,hj];rfl
    rwa[oG] at this
   refine⟨j,v,by rw[h5,Ai h4 hj],hj,by simpa using(eR.1 g2).1,uK,by rw[<-hv];exact g3⟩
def lookup1_p{kt et:fL}{t:fL}(ht:P.underlying t=some (.map kt et))(hp:PtrK P kt){z:kn.T}(hz:(P.info? et).map (·.zero)=some (some (kn.aY z)))(h:kT w r AA kn f n)(x:Nat)(hc:∀k,(f k).isSome=true->AE w k)(hx:AE w x){Q:kn.T->aH->Prop}
  (hQ:Q ((f x).getD z) w):nK P kn t (.map (some r)) (AA x) w Q:=by
 obtain⟨es,c,l,h1,h2,h3,h4,h5,h6,hB,hf⟩:=h.yc hp x w hc hx;have hzv:(zeroValue et).run P w=.ok (kn.aY z) w:=by
  cases hq:P.info? et with
  |none=>rw[hq] at hz;cases hz
  |some i=>rw[hq] at hz;simp at hz;simp[zeroValue,typeInfo,hq,hz]
 rcases hf with⟨_,g,qO⟩|⟨j,v,g,_,_,_,qO⟩
 ·rw[g] at hQ;exact⟨z,w,by simp[Instr.lookup,run_underlying ht,MapKept.run_getObj_map h1,PK hp,qO,hzv],hQ⟩
 ·rw[g] at hQ;exact⟨v,w,by simp[Instr.lookup,run_underlying ht,MapKept.run_getObj_map h1,PK hp,qO],hQ⟩
def update_p{kt et:fL}{t:fL}(ht:P.underlying t=some (.map kt et))(hp:PtrK P kt)(h:kT w r AA kn f n)(x:Nat)(v:kn.T)(hc:∀k,(f k).isSome=true->AE w k)(hx:AE w x){Q:aH->Prop}
  (hQ:∀w',kT w' r AA kn (λy=>if y=x then some v else f y) (if(f x).isSome then n else n+1)->aU (λk=>k=r) w w'->w'.heap.size=w.heap.size->Q w'):gP P t (.map (some r)) (AA x) (kn.aY v) w Q:=by
 obtain⟨es,c,l,h1,h2,h3,h4,h5,h6,hB,hf⟩:=h.yc hp x w hc hx;rcases hf with⟨DS,g,qO⟩|⟨j,u,g,hj,hjs,uK,qO⟩
 ·refine⟨{w with heap:=w.heap.setIfInBounds r (.map (es.push {key:=AA x,val:=kn.aY v,born:=c}) (c+1))},by simp[Instr.mapUpdate,run_underlying ht,MapKept.run_getObj_map h1,PK hp,qO,run_setObj_map _ h1],hQ _ ?_ (lK w r _) dP⟩;refine⟨_,_,l++[(x,v)],(heap_set h1).1,by simp[h2],by simp[h3],?_,λy=>?_,by rw[g];simp[h6],hB.push _ _⟩
  ·rw[xF,List.nodup_append];exact⟨h4,by simp,λa ha b hb=>by simp at hb;subst hb;exactλe=>DS (e▸ha)⟩
  ·show(if y=x then some v else f y)=_
   rw[EU DS y,h5]
 ·obtain⟨e,he⟩:∃e,es.toList[j]? =some e:=⟨_,cL (by simpa using hjs)⟩;have hek:e.key=AA x:=by rw[he] at uK;simpa using uK
  have hea:es[j]? =some e:=by simpa using he
  refine⟨{w with heap:=w.heap.setIfInBounds r (.map (es.modify j λe=>{e with key:=AA x,val:=kn.aY v}) c)},by simp[Instr.mapUpdate,run_underlying ht,MapKept.run_getObj_map h1,PK hp,qO,run_setObj_map _ h1,Instr.keyThatStays,hea,hek,ptr_stays],hQ _ ?_ (lK w r _) dP⟩;refine⟨_,_,l.set j (x,v),(heap_set h1).1,?_,?_,?_,λy=>?_,by rw[g];simp[h6],hB.modify j (λe=>{e with key:=AA x,val:=kn.aY v}) λ_=>rfl⟩
  ·rw[OO es j _ _ uK,h2];apply yV;intro i;simp only[oG,jC]
   by_cases hi:j=i
   ·subst hi;have cD:=(eR.1 hj).1;rw[hj];simp[cD]
   ·simp[hi]
  ·rw[ON,h3,List.map_set]
  ·have:(l.set j (x,v)).map (·.1)=l.map (·.1):=by
    apply yV;intro i;simp only[oG,jC]
    by_cases hi:j=i
    ·subst hi;have cD:=(eR.1 hj).1;rw[hj];simp[cD]
    ·simp[hi]
   rw[this];exact h4
  ·show(if y=x then some v else f y)=_
   rw[XS h4 (by rw[hj];rfl) y,h5]
def clear_map{K:Type}[DecidableEq K]{ek:K->Value}{f:K->Option kn.T}{t k e:fL}(ht:P.underlying t=some (.map k e))(h:kT w r ek kn f n){Q:aH->Prop}
  (hQ:∀w',kT w' r ek kn (λ_=>none) 0->aU (λk=>k=r) w w'->w'.heap.size=w.heap.size->Q w'):KD P t (.map (some r)) w Q:=by
 obtain⟨es,c,l,h1,_⟩:=h;refine⟨(),{w with heap:=w.heap.setIfInBounds r (.map #[] c)},?_,hQ _ ⟨#[],c,[],(heap_set h1).1,rfl,rfl,List.nodup_nil,λ_=>rfl,rfl,by simp,List.nodup_nil⟩ (lK w r _) dP⟩;simp[Builtin.clear_,run_underlying ht,MapKept.run_getObj_map h1,run_setObj_map _ h1,AD]
end
end
end Go.Den
namespace Go.Den
open Go
section
set_option linter.unusedSectionVars false
def gS{ι:Type}(A:ι->As):As:=λw S=>∃gZ:Nat->Option ι,(∀i,A i w (λk=>gZ k=some i))/\∀k,S k↔∃i,gZ k=some i
instance gS.loc{ι:Type}{A:ι->As}[h:∀i,bJ (A i)]:bJ (gS A):=⟨
 λ⟨gZ,ha,e⟩ k hk=>by obtain⟨i,hi⟩:=(e k).1 hk;exact(h i).iF (ha i) k hi,
 λ⟨gZ,ha,e⟩ m hn=>⟨gZ,λi=>(h i).aK (ha i) m λk hk=>hn k ((e k).2 ⟨i,hk⟩),e⟩⟩
def As.ext{A:As}{w:aH}{S T:BS}(h:A w S)(e:∀k,S k↔T k):A w T:=by
 have:S=T:=funext λk=>propext (e k);rwa[<-this]
section
variable{ι:Type}[DecidableEq ι]{A:ι->As}{w:aH}{S:BS}
abbrev FN(A:ι->As)(i:ι)(X:As):ι->As:=λj=>if j=i then X else A j
omit [DecidableEq ι] in
def gS.get(h:gS A w S)(i:ι):∃S1,A i w S1/\∀k,S1 k->S k:=by
 obtain⟨gZ,ha,e⟩:=h;exact⟨_,ha i,λk hk=>(e k).2 ⟨i,hk⟩⟩
def gS.at2[hl:∀i,bJ (A i)](h:gS A w S){i j:ι}(TN:i≠j):∃S1,bL (A i) (A j) w S1/\(∀k,S1 k->S k)/\∀B C D w' T,Up S1 T w w'->bL (bL B C) D w' T->∃S',bL (gS (FN (FN A i B) j C)) D w' S'/\Up S S' w w':=by
 have hb:=bJ.iF h;obtain⟨gZ,ha,e⟩:=h;refine⟨λk=>gZ k=some i\/gZ k=some j,bL.yH (ha i) (ha j) λk h1 h2=>TN (uI (h1.symm.trans h2)),λk hk=>(e k).2 (hk.elim (λh=>⟨_,h⟩) λh=>⟨_,h⟩),λB C D w' T u hT=>?_⟩;obtain⟨TX,TD,⟨TB,TC,hB,hC,dBC,eBC⟩,hD,dXD,eXD⟩:=hT;have hs:∀k,T k->(gZ k=some i\/gZ k=some j)\/w.heap.size<=k:=u.s;have JJ:∀k,gZ k≠none->k<w.heap.size:=λk hk=>by
  cases ho:gZ k with
  |none=>exact absurd ho hk
  |some x=>exact hb k ((e k).2 ⟨x,ho⟩)
 let rE:Nat->Option ι:=λk=>@ite _ (TB k) (Classical.propDecidable _) (some i) (@ite _ (TC k) (Classical.propDecidable _) (some j) (if gZ k=some i\/gZ k=some j then none else gZ k))
 have oB:∀k,TB k->rE k=some i:=λk hk=>by simp only[rE];rw[if_pos hk]
 have oC:∀k,TC k->rE k=some j:=λk hk=>by simp only[rE];rw[if_neg λh=>dBC k h hk,if_pos hk]
 have oN:∀k,¬TB k->¬TC k->rE k=if gZ k=some i\/gZ k=some j then none else gZ k:=λk h1 h2=>by simp only[rE];rw[if_neg h1,if_neg h2]
 have inv:∀k x,rE k=some x->(x=i/\TB k)\/(x=j/\TC k)\/(x≠i/\x≠j/\gZ k=some x/\¬TB k/\¬TC k):=λk x hx=>by
  by_cases h1:TB k
  ·rw[oB k h1] at hx;cases hx;exact .inl ⟨rfl,h1⟩
  ·by_cases h2:TC k
   ·rw[oC k h2] at hx;cases hx;exact .inr (.inl ⟨rfl,h2⟩)
   ·rw[oN k h1 h2] at hx
    split at hx
    ·cases hx
    ·rename_i hn
     exact .inr (.inr ⟨λe=>hn (.inl (e▸hx)),λe=>hn (.inr (e▸hx)),hx,h1,h2⟩)
 have old:∀k x,gZ k=some x->x≠i->x≠j->¬T k:=λk x hx h1 h2 hT=>by
  rcases hs k hT with(h|h)|h
  ·exact h1 (uI (hx.symm.trans h))
  ·exact h2 (uI (hx.symm.trans h))
  ·have:=JJ k (by rw[hx];simp);omega
 have TT:∀k,TB k\/TC k->T k:=λk hk=>(eXD k).2 (.inl ((eBC k).2 hk));refine⟨λk=>(∃x,rE k=some x)\/TD k,⟨λk=>∃x,rE k=some x,TD,⟨rE,λx=>?_,λ_=>Iff.rfl⟩,hD,λk ⟨x,hx⟩ hd=>?_,λ_=>Iff.rfl⟩,u.m.mono λk _ hk=>(e k).2 (hk.elim (λh=>⟨_,h⟩) λh=>⟨_,h⟩),λk hk=>?_⟩
 ·by_cases hj:x=j
  ·subst hj;simp only[FN,if_pos];exact As.ext hC λk=>⟨oC k,λhx=>by
    rcases inv k _ hx with⟨h,_⟩|⟨_,h⟩|⟨_,h,_⟩
    ·exact absurd h.symm TN
    ·exact h
    ·exact absurd rfl h⟩
  ·by_cases hi:x=i
   ·subst hi;simp only[FN,if_neg hj,if_pos];exact As.ext hB λk=>⟨oB k,λhx=>by
     rcases inv k _ hx with⟨_,h⟩|⟨h,_⟩|⟨h,_⟩
     ·exact h
     ·exact absurd h TN
     ·exact absurd rfl h⟩
   ·simp only[FN,if_neg hj,if_neg hi];have h0:=(hl x).aK (ha x) u.m λk hk lM=>by
     rcases lM with h|h
     ·exact hi (uI (hk.symm.trans h))
     ·exact hj (uI (hk.symm.trans h))
    refine As.ext h0 λk=>⟨λhx=>?_,λhx=>?_⟩
    ·have hT:=old k x hx hi hj;rw[oN k (λh=>hT (TT k (.inl h))) (λh=>hT (TT k (.inr h))),if_neg,hx];rintro(h|h)
     ·exact hi (uI (hx.symm.trans h))
     ·exact hj (uI (hx.symm.trans h))
    ·rcases inv k x hx with⟨h,_⟩|⟨h,_⟩|⟨_,_,h,_⟩
     ·exact absurd h hi
     ·exact absurd h hj
     ·exact h
 ·rcases inv k x hx with⟨_,h⟩|⟨_,h⟩|⟨h1,h2,h3,_⟩
  ·exact dXD k ((eBC k).2 (.inl h)) hd
  ·exact dXD k ((eBC k).2 (.inr h)) hd
  ·exact old k x h3 h1 h2 ((eXD k).2 (.inr hd))
 ·have toS:T k->S k\/w.heap.size<=k:=λhT=>(hs k hT).imp (λh=>(e k).2 (h.elim (λh=>⟨_,h⟩) λh=>⟨_,h⟩)) id;rcases hk with⟨x,hx⟩|hk
  ·rcases inv k x hx with⟨_,h⟩|⟨_,h⟩|⟨_,_,h,_⟩
   ·exact toS (TT k (.inl h))
   ·exact toS (TT k (.inr h))
   ·exact .inl ((e k).2 ⟨x,h⟩)
  ·exact toS ((eXD k).2 (.inr hk))
def gS.at2X[hl:∀i,bJ (A i)](h:gS A w S){i j:ι}(TN:i≠j):∃S1,bL (A i) (A j) w S1/\(∀k,S1 k->S k)/\∀B C M w' T,aU M w w'->(∀k,M k->S1 k\/¬S k)->(∀k,T k->S1 k\/¬S k)->bL B C w' T->∃S',gS (FN (FN A i B) j C) w' S'/\∀k,S' k↔(S k/\¬S1 k)\/T k:=by
 obtain⟨gZ,ha,e⟩:=h;refine⟨λk=>gZ k=some i\/gZ k=some j,bL.yH (ha i) (ha j) λk h1 h2=>TN (uI (h1.symm.trans h2)),λk hk=>(e k).2 (hk.elim (λh=>⟨_,h⟩) λh=>⟨_,h⟩),λB C M w' T m hM hT' hT=>?_⟩;obtain⟨TB,TC,hB,hC,dBC,eBC⟩:=hT
 let rE:Nat->Option ι:=λk=>@ite _ (TB k) (Classical.propDecidable _) (some i) (@ite _ (TC k) (Classical.propDecidable _) (some j) (if gZ k=some i\/gZ k=some j then none else gZ k))
 have oB:∀k,TB k->rE k=some i:=λk hk=>by simp only[rE];rw[if_pos hk]
 have oC:∀k,TC k->rE k=some j:=λk hk=>by simp only[rE];rw[if_neg λh=>dBC k h hk,if_pos hk]
 have oN:∀k,¬TB k->¬TC k->rE k=if gZ k=some i\/gZ k=some j then none else gZ k:=λk h1 h2=>by simp only[rE];rw[if_neg h1,if_neg h2]
 have inv:∀k x,rE k=some x->(x=i/\TB k)\/(x=j/\TC k)\/(x≠i/\x≠j/\gZ k=some x/\¬TB k/\¬TC k):=λk x hx=>by
  by_cases h1:TB k
  ·rw[oB k h1] at hx;cases hx;exact .inl ⟨rfl,h1⟩
  ·by_cases h2:TC k
   ·rw[oC k h2] at hx;cases hx;exact .inr (.inl ⟨rfl,h2⟩)
   ·rw[oN k h1 h2] at hx
    split at hx
    ·cases hx
    ·rename_i hn
     exact .inr (.inr ⟨λe=>hn (.inl (e▸hx)),λe=>hn (.inr (e▸hx)),hx,h1,h2⟩)
 have old:∀k x,gZ k=some x->x≠i->x≠j->¬((gZ k=some i\/gZ k=some j)\/¬S k):=λk x hx h1 h2 hT=>by
  rcases hT with(h|h)|h
  ·exact h1 (uI (hx.symm.trans h))
  ·exact h2 (uI (hx.symm.trans h))
  ·exact h ((e k).2 ⟨x,hx⟩)
 have TT:∀k,TB k\/TC k->T k:=λk hk=>(eBC k).2 hk;refine⟨λk=>∃x,rE k=some x,⟨rE,λx=>?_,λ_=>Iff.rfl⟩,λk=>⟨?_,?_⟩⟩
 ·by_cases hj:x=j
  ·subst hj;simp only[FN,if_pos];exact As.ext hC λk=>⟨oC k,λhx=>by
    rcases inv k _ hx with⟨h,_⟩|⟨_,h⟩|⟨_,h,_⟩
    ·exact absurd h.symm TN
    ·exact h
    ·exact absurd rfl h⟩
  ·by_cases hi:x=i
   ·subst hi;simp only[FN,if_neg hj,if_pos];exact As.ext hB λk=>⟨oB k,λhx=>by
     rcases inv k _ hx with⟨_,h⟩|⟨h,_⟩|⟨h,_⟩
     ·exact h
     ·exact absurd h TN
     ·exact absurd rfl h⟩
   ·simp only[FN,if_neg hj,if_neg hi];have h0:=(hl x).aK (ha x) m λk hk lM=>old k x hk hi hj (hM k lM);refine As.ext h0 λk=>⟨λhx=>?_,λhx=>?_⟩
    ·have hT:¬T k:=λht=>old k x hx hi hj (hT' k ht);rw[oN k (λh=>hT (TT k (.inl h))) (λh=>hT (TT k (.inr h))),if_neg,hx];rintro(h|h)
     ·exact hi (uI (hx.symm.trans h))
     ·exact hj (uI (hx.symm.trans h))
    ·rcases inv k x hx with⟨h,_⟩|⟨h,_⟩|⟨_,_,h,_⟩
     ·exact absurd h hi
     ·exact absurd h hj
     ·exact h
 ·rintro⟨x,hx⟩;rcases inv k x hx with⟨_,h⟩|⟨_,h⟩|⟨h1,h2,h,_⟩
  ·exact .inr (TT k (.inl h))
  ·exact .inr (TT k (.inr h))
  ·exact .inl ⟨(e k).2 ⟨x,h⟩,λh'=>h'.elim (λh'=>h1 (uI (h.symm.trans h'))) λh'=>h2 (uI (h.symm.trans h'))⟩
 ·rintro(⟨h,hn⟩|h)
  ·obtain⟨x,hx⟩:=(e k).1 h
   by_cases h1:TB k
   ·exact⟨i,oB k h1⟩
   ·by_cases h2:TC k
    ·exact⟨j,oC k h2⟩
    ·exact⟨x,by rw[oN k h1 h2,if_neg hn];exact hx⟩
  ·rcases(eBC k).1 h with h|h
   ·exact⟨i,oB k h⟩
   ·exact⟨j,oC k h⟩
def gS.at[hl:∀i,bJ (A i)](h:gS A w S)(i:ι):js w S (A i) λX=>gS (FN A i X):=by
 have hb:=bJ.iF h;obtain⟨gZ,ha,e⟩:=h;refine⟨λk=>gZ k=some i,ha i,λk hk=>(e k).2 ⟨_,hk⟩,λB D w' T u hT=>?_⟩;obtain⟨TB,TD,hB,hD,dBD,eBD⟩:=hT;have JJ:∀k x,gZ k=some x->k<w.heap.size:=λk x hk=>hb k ((e k).2 ⟨x,hk⟩)
 let rE:Nat->Option ι:=λk=>@ite _ (TB k) (Classical.propDecidable _) (some i) (if gZ k=some i then none else gZ k)
 have oB:∀k,TB k->rE k=some i:=λk hk=>by simp only[rE];rw[if_pos hk]
 have oN:∀k,¬TB k->rE k=if gZ k=some i then none else gZ k:=λk h1=>by simp only[rE];rw[if_neg h1]
 have inv:∀k x,rE k=some x->(x=i/\TB k)\/(x≠i/\gZ k=some x/\¬TB k):=λk x hx=>by
  by_cases h1:TB k
  ·rw[oB k h1] at hx;cases hx;exact .inl ⟨rfl,h1⟩
  ·rw[oN k h1] at hx
   split at hx
   ·cases hx
   ·rename_i hn
    exact .inr ⟨λe=>hn (e▸hx),hx,h1⟩
 have old:∀k x,gZ k=some x->x≠i->¬T k:=λk x hx h1 hT=>by
  rcases u.s k hT with h|h
  ·exact h1 (uI (hx.symm.trans h))
  ·have:=JJ k x hx;omega
 refine⟨λk=>(∃x,rE k=some x)\/TD k,⟨λk=>∃x,rE k=some x,TD,⟨rE,λx=>?_,λ_=>Iff.rfl⟩,hD,λk ⟨x,hx⟩ hd=>?_,λ_=>Iff.rfl⟩,u.m.mono λk _ hk=>(e k).2 ⟨_,hk⟩,λk hk=>?_⟩
 ·by_cases hi:x=i
  ·subst hi;simp only[FN,if_pos];exact As.ext hB λk=>⟨oB k,λhx=>by
    rcases inv k _ hx with⟨_,h⟩|⟨h,_⟩
    ·exact h
    ·exact absurd rfl h⟩
  ·simp only[FN,if_neg hi];have h0:=(hl x).aK (ha x) u.m λk hk lM=>hi (uI (hk.symm.trans lM));refine As.ext h0 λk=>⟨λhx=>?_,λhx=>?_⟩
   ·have hT:=old k x hx hi;rw[oN k (λh=>hT ((eBD k).2 (.inl h))),if_neg,hx]
    exactλh=>hi (uI (hx.symm.trans h))
   ·rcases inv k x hx with⟨h,_⟩|⟨_,h,_⟩
    ·exact absurd h hi
    ·exact h
 ·rcases inv k x hx with⟨_,h⟩|⟨h1,h3,_⟩
  ·exact dBD k h hd
  ·exact old k x h3 h1 ((eBD k).2 (.inr hd))
 ·have toS:T k->S k\/w.heap.size<=k:=λhT=>(u.s k hT).imp (λh=>(e k).2 ⟨_,h⟩) id;rcases hk with⟨x,hx⟩|hk
  ·rcases inv k x hx with⟨_,h⟩|⟨_,h,_⟩
   ·exact toS ((eBD k).2 (.inl h))
   ·exact .inl ((e k).2 ⟨x,h⟩)
  ·exact toS ((eBD k).2 (.inr hk))
def gS.nil(w:aH):gS (λ_:ι=>EH) w (λ_=>False):=⟨λ_=>none,λi k hk=>(by cases hk),λk=>⟨False.elim,λ⟨i,hi⟩=>by cases hi⟩⟩
def gS.put{T:BS}{i:ι}{X:As}(h:gS A w S)(hi:A i=EH)(hX:X w T)(hd:∀k,S k->T k->False):gS (FN A i X) w (λk=>S k\/T k):=by
 obtain⟨gZ,ha,e⟩:=h;have h0:∀k,gZ k≠some i:=λk hk=>by have:=ha i;rw[hi] at this;exact this k hk
 let rE:Nat->Option ι:=λk=>@ite _ (T k) (Classical.propDecidable _) (some i) (gZ k)
 have oT:∀k,T k->rE k=some i:=λk hk=>by simp only[rE];rw[if_pos hk]
 have oN:∀k,¬T k->rE k=gZ k:=λk hk=>by simp only[rE];rw[if_neg hk]
 refine⟨rE,λx=>?_,λk=>⟨?_,?_⟩⟩
 ·by_cases hx:x=i
  ·subst hx;simp only[FN,if_pos];exact As.ext hX λk=>⟨oT k,λh=>Classical.byContradiction λhn=>h0 k ((oN k hn).symm.trans h)⟩
  ·simp only[FN,if_neg hx];refine As.ext (ha x) λk=>⟨λh=>?_,λh=>?_⟩
   ·rw[oN k λhT=>hd k ((e k).2 ⟨x,h⟩) hT];exact h
   ·by_cases hT:T k
    ·rw[oT k hT] at h;exact absurd (uI h).symm hx
    ·rw[oN k hT] at h;exact h
 ·rintro(h|h)
  ·obtain⟨x,hx⟩:=(e k).1 h;exact⟨x,by rw[oN k λhT=>hd k h hT];exact hx⟩
  ·exact⟨i,oT k h⟩
 ·rintro⟨x,hx⟩
  by_cases hT:T k
  ·exact .inr hT
  ·exact .inl ((e k).2 ⟨x,by rw[<-oN k hT];exact hx⟩)
def gS.swap[hl:∀i,bJ (A i)]{T:BS}(h:gS A w S)(i:ι){X:As}(hX:X w T)(hd:∀k,S k->T k->False):∃S',gS (FN A i X) w S'/\∀k,S' k->S k\/T k:=by
 obtain⟨gZ,ha,e⟩:=h;have h0:gS (FN A i EH) w (λk=>∃j,(if gZ k=some i then none else gZ k)=some j):=by
  refine⟨λk=>if gZ k=some i then none else gZ k,λj=>?_,λk=>Iff.rfl⟩
  by_cases hj:j=i
  ·subst hj;simp only[FN,if_pos];intro k hk
   split at hk
   ·cases hk
   ·exact absurd hk (by assumption)
  ·simp only[FN,if_neg hj];refine As.ext (ha j) λk=>⟨λh=>?_,λh=>?_⟩
   ·rw[if_neg (λh'=>hj (uI (h.symm.trans h'))),h]
   ·split at h
    ·cases h
    ·exact h
 have ML:∀k,(∃j,(if gZ k=some i then none else gZ k)=some j)->S k:=λk ⟨j,hj⟩=>by
  split at hj
  ·cases hj
  ·exact(e k).2 ⟨j,hj⟩
 have h1:=gS.put h0 (i:=i) (by simp[FN]) hX λk h1 h2=>hd k (ML k h1) h2;have e1:FN (FN A i EH) i X=FN A i X:=by
  funext j
  by_cases hj:j=i<;>simp[FN,hj]
 rw[e1] at h1;exact⟨_,h1,λk hk=>hk.imp (ML k) id⟩
end
end
end Go.Den
