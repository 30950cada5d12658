import Derived.ArgAppend
import Derived.WalkKit
import Derived.ProofKit
import Derived.OpenShut
import Derived.JoinedOf
import Derived.Handed
import Derived.WideKeyArgs
import Derived.ChangeSlices
import Derived.Laws.IdiomArrays
import Derived.Laws.BytesArg
import Derived.LaidEql
import Derived.Test.YtihggjgakbgomaaGreatA1
namespace Go.Den
open Go
section
structure uu{α:Type}(w:aH)(e:TypeId)(n:Nat)(aY:α->List Value)(s:Sl)(xs:List α):Prop where
 len:s.l=xs.length
 cap:s.l<=s.c
 max:s.c<=maxLen
 gR:s.c=0\/∃g pre cJ,s.b=some ⟨g,pre.length,none⟩/\cU w g e (pre++(xs.flatMap aY++cJ))/\(xs.flatMap aY++cJ).length=s.c*n
section
variable{α:Type}{w w':aH}{e:TypeId}{n:Nat}{aY:α->List Value}{s:Sl}{xs:List α}
theorem dD.veo(h:dD w e n aY s xs):uu w e n aY s xs:=⟨h.len,h.cap,h.max,by
 rcases h.gR with⟨_,h⟩|⟨g,cJ,h1,h2,h3⟩
 ·exact .inl h
 ·exact .inr ⟨g,[],cJ,h1,h2,h3⟩⟩
theorem uu.rd(h:uu w e n aY s xs)(gE:∀x,(aY x).length=n):Rd w s n aY xs:=by
 refine⟨h.len,h.cap,λi x hx=>?_⟩;have cC:i<xs.length:=(eQ.1 hx).1;rcases h.gR with h2|⟨g,pre,cJ,hb,ho,hl⟩
 ·have:=h.len;have:=h.cap;omega
 ·refine⟨_,hb,?_⟩;rw[aS];refine ho.holds λj v hv=>?_;rw[Fx aB,show pre.length+i*n+j-pre.length=i*n+j by omega];exact tS gE xs i x j v cJ hx hv
theorem uu.aK{F:BS}(h:uu w e n aY s xs)(hm:aU F w w')(hF:∀a,s.c≠0->s.b=some a->¬F a.block):uu w' e n aY s xs:=
 ⟨h.len,h.cap,h.max,by
  by_cases hc:s.c=0
  ·exact .inl hc
  ·exact .inr<|(h.gR.resolve_left hc).imp λg ⟨pre,cJ,hb,ho,hl⟩=>⟨pre,cJ,hb,ho.aK hm (hF _ hc hb),hl⟩⟩
theorem uu.Vh(h:uu w e n aY s xs){b:Addr}(hc:s.c≠0)(hb:s.b=some b):b.block<w.heap.size:=by
 obtain⟨g,pre,cJ,h0,ho,_⟩:=h.gR.resolve_left hc;rw[hb] at h0;cases h0;exact ho.lt
theorem uu.tail{x:α}(h:uu w e n aY s (x::xs))(gE:∀x,(aY x).length=n):uu w e n aY ⟨aR s.b s.c 1 n,s.l-1,s.c-1⟩ xs:=by
 have hl:=h.len;have hc:=h.cap;simp only[mE] at hl;refine⟨by show s.l-1=_;omega,by show s.l-1<=s.c-1;omega,by have:=h.max;show s.c-1<=_;omega,?_⟩
 by_cases h1:s.c=1
 ·exact .inl (by show s.c-1=0;omega)
 ·obtain⟨g,pre,cJ,hb,ho,hl⟩:=h.gR.resolve_left aB;refine .inr ⟨g,pre++aY x,cJ,?_,?_,?_⟩
  ·show aR s.b s.c 1 n=_;unfold aR;rw[if_neg h1,hb];simp[aS,gE]
  ·simpa [sL] using ho
  ·simp only[FE,fJ,gE] at hl ⊢;show _=(s.c-1)*n;rw[Nat.sub_mul,Nat.one_mul];omega
theorem append_o{P:Program}{t:TypeId}{bytes:Nat}{z:List Value}(hE:sY P t e n bytes z)(gE:∀x,(aY x).length=n)(jB:∀x,∀u∈aY x,u.oneCell'=true)
  {x:Sl} {ys:List α} (hs:uu w e n aY s xs) (hx:Rd w x n aY ys) (h63:xs.length+ys.length<=9223372036854775807) (CF:(xs.length+ys.length)*bytes<=140737488355328) {K:Sl->aH->Prop}
  (hK:∀r w',uu w' e n aY r (xs++ys)->aU (λk=>s.c≠0/\∃a,s.b=some a/\k=a.block) w w'->(r.c≠0->(s.c≠0/\r.b=s.b)\/∃a,r.b=some a/\w.heap.size<=a.block)->K r w'):
  aW P t t s (.slice x.b x.l x.c) w K:=by
 obtain⟨i,zv,hi,hz,rfl,rfl,rfl⟩:=hE.info;have ht:=hE.under;have BC:=hs.rd gE;obtain⟨sb,sl,sc⟩:=s;obtain⟨xb,xl,xc⟩:=x;have QC:sl=xs.length:=hs.len;have Ak:xl=ys.length:=hx.len;have hscap:sl<=sc:=hs.cap
 by_cases hy:ys=[]
 ·subst hy;have hxl0:xl=0:=Ak;subst hxl0;refine⟨⟨sb,sl,sc⟩,w,?_,hK _ _ (by rw[uA];exact hs) (aU.refl _ _) (λh=>.inl ⟨h,rfl⟩)⟩;cases xb<;>cases sb<;>simp[Builtin.append_,run_underlying ht,sizeOf,typeInfo,hi,Builtin.lenOf,Builtin.firstCells,hscap,storeCells,loadCells,loadCellsFrom,oL.aY,CK.aY]
 have uB:0<ys.length:=List.length_pos_iff.2 hy;obtain⟨ax,hax,_⟩:=hx.get 0 ys[0] (cM uB);have hax':xb=some ax:=hax;subst hax';have Gw:=pV hx gE (a:=ax) rfl;have hl:(ys.flatMap aY).length=xl*i.size:=by rw[bF gE,Ak]
 have QQ:∀u∈ys.flatMap aY,u.oneCell'=true:=λu hu=>by obtain⟨y,_,hy⟩:=List.mem_flatMap.1 hu;exact jB y u hy
 have hzs:zv.cells.size=i.size:=by have:=hE.zlen;simpa using this
 have hm63:xs.length+ys.length<=maxLen:=by simp only[maxLen];omega
 have grown:∀old,old<sl+xl->dD (w.drew.alloc (.cells ((xs.flatMap aY).toArray++(ys.flatMap aY).toArray++Builtin.zeroCells zv.cells (grownCap w (sl+xl) old e-(sl+xl))) e)) e i.size aY
   ⟨some ⟨w.heap.size,0,none⟩,sl+xl,grownCap w (sl+xl) old e⟩ (xs++ys):=λold hold=>by
  have kC:=grownCap_ge w (sl+xl) old e;have hcm:grownCap w (sl+xl) old e<=maxLen:=grownCap_le_maxLen w (sl+xl) old e aB;refine⟨by simp[QC,Ak],kC,hcm,.inr ⟨w.heap.size,(Builtin.zeroCells zv.cells (grownCap w (sl+xl) old e-(sl+xl))).toList,rfl,?_,?_⟩⟩
  ·have:=cU.iP w.drew ((xs.flatMap aY).toArray++(ys.flatMap aY).toArray++Builtin.zeroCells zv.cells (grownCap w (sl+xl) old e-(sl+xl))) e;simpa [sL] using this
  ·simp only[fJ,bF gE,Array.length_toList,size_zeroCells,hzs,<-QC,<-Ak];rw[<-Nat.add_mul];congr 1;show sl+xl+(grownCap w (sl+xl) old e-(sl+xl))=grownCap w (sl+xl) old e;omega
 by_cases GZ:sl+xl<=sc
 ·obtain⟨g,pre,cJ,hb,ho,gD⟩:=hs.gR.resolve_left (by show¬sc=0;omega);have bR:sb=some ⟨g,pre.length,none⟩:=hb;subst bR;have QR:(xs.flatMap aY++cJ).length=sc*i.size:=gD;have hxl2:(xs.flatMap aY).length=sl*i.size:=by rw[bF gE,QC]
  have PW:sl*i.size+(ys.flatMap aY).length<=sc*i.size:=by rw[hl,<-Nat.add_mul];exact PU _ GZ
  have hyl:(ys.flatMap aY).length<=cJ.length:=by rw[fJ,hxl2] at QR;omega
  have wO:∀j,j<(ys.flatMap aY).length->(w.cell? ⟨g,pre.length+sl*i.size+j,none⟩).isSome=true:=λj hj=>by
   rw[ho.cell];simp only[eQ,Lt];exact⟨_,by simp only[fJ] at QR ⊢;omega,rfl⟩
  have hfz:∀j,j<(ys.flatMap aY).length->w.frozen? ⟨g,pre.length+sl*i.size+j,none⟩=false:=λj _=>by
   have ho':w.heap[g]? =some (.cells (pre++(xs.flatMap aY++cJ)).toArray e (0,0)):=ho;unfold World.frozen?;rw[ho'];simp
  have hr:=run_append_room_cells (P:=P) w t 0 e i ht hi g pre.length sl sc ax xl xc (ys.flatMap aY) hl Gw QQ GZ wO hfz;have vE:=run_storeCells_at P g (pre.length+sl*i.size) e (ys.flatMap aY) 0 (pre++(xs.flatMap aY++cJ)).toArray w ho (by simp only[List.size_toArray,fJ] at QR ⊢;omega) QQ;have hst2:=run_storeCells_cells (P:=P) g (pre.length+sl*i.size) (ys.flatMap aY) 0 w (by simpa using wO) (by simpa using hfz) QQ;simp only[Nat.add_zero] at vE hst2;rw[vE] at hst2;have hw:w.setCells g (pre.length+sl*i.size) (ys.flatMap aY)=w.setRow g (((pre++(xs.flatMap aY++cJ)).toArray.toList.take (pre.length+sl*i.size)++ys.flatMap aY++(pre++(xs.flatMap aY++cJ)).toArray.toList.drop (pre.length+sl*i.size+(ys.flatMap aY).length))).toArray:=by injection hst2 with _ h2;exact h2.symm
  rw[hw] at hr;refine⟨(⟨some ⟨g,pre.length,none⟩,sl+xl,sc⟩:Sl),_,hr,hK ⟨some ⟨g,pre.length,none⟩,sl+xl,sc⟩ _ ⟨by simp[QC,Ak],GZ,hs.max,.inr ⟨g,pre,cJ.drop (ys.flatMap aY).length,rfl,?_,?_⟩⟩ ?_ (λh=>.inl ⟨h,rfl⟩)⟩
  ·have:=cU.setRow ho (pre++((xs++ys).flatMap aY++cJ.drop (ys.flatMap aY).length));have e1:(pre++(xs.flatMap aY++cJ)).toArray.toList.take (pre.length+sl*i.size)=pre++xs.flatMap aY:=by
    show(pre++(xs.flatMap aY++cJ)).take _=_;rw[List.take_length_add_append,<-hxl2,List.take_left]
   have e2:(pre++(xs.flatMap aY++cJ)).toArray.toList.drop (pre.length+sl*i.size+(ys.flatMap aY).length)=cJ.drop (ys.flatMap aY).length:=by show(pre++(xs.flatMap aY++cJ)).drop _=_;rw[Nat.add_assoc,List.drop_length_add_append,<-hxl2,List.drop_length_add_append]
   rw[e1,e2];simpa [GK,sL] using this
  ·show _=sc*i.size;rw[fJ] at QR;rw[GK,fJ,fJ,iv];omega
  ·exact(aU.setRow w g _).mono λk _ hk=>⟨by show sc≠0;omega,_,rfl,hk⟩
 ·cases sb with
  |none=>
   have Lj:xs=[]:=by
    cases xs with
    |nil=>rfl
    |cons y r=>obtain⟨a,ha,_⟩:=BC.get 0 y rfl;cases ha
   subst Lj;have hs0:sl=0:=QC;have hc0:sc=0:=by
    rcases hs.gR with h|⟨g,pre,cJ,hb,_⟩
    ·exact h
    ·cases hb
   subst hs0;subst hc0;have hr:=run_append_nil (P:=P) w t 0 e i zv ht hi hz ax xl xc (ys.flatMap aY) hl Gw aB aB (by simp at CF;rw[Ak];omega);have hg:=grown 0 aB;simp only[gI,List.flatMap_nil] at hg;have ji:dD (w.drew.alloc (.cells ((ys.flatMap aY).toArray++Builtin.zeroCells zv.cells (grownCap w xl 0 e-xl)) e)) e i.size aY ⟨some ⟨w.heap.size,0,none⟩,xl,grownCap w xl 0 e⟩ ([]++ys):=by simpa using hg
   exact⟨(⟨some ⟨w.heap.size,0,none⟩,xl,grownCap w xl 0 e⟩:Sl),_,hr,hK _ _ ji.veo ((aU.refl _ w).drew.alloc _) λ_=>.inr ⟨_,rfl,dL _⟩⟩
  |some b=>have holds:∀j u,(xs.flatMap aY)[j]? =some u->w.cell? (b.add j)=some u:=pV BC gE rfl;have hr:=run_append_grow (P:=P) w t 0 e i zv ht hi hz b sl sc (xs.flatMap aY) (by rw[bF gE,QC]) holds ax xl xc (ys.flatMap aY) hl Gw aB aB (growslice_fits aB (by rw[QC,Ak];exact CF));exact⟨(⟨some ⟨w.heap.size,0,none⟩,sl+xl,grownCap w (sl+xl) sc e⟩:Sl),_,hr,hK _ _ (grown sc aB).veo ((aU.refl _ w).drew.alloc _) λ_=>.inr ⟨_,rfl,dL _⟩⟩
end
def Rv{α:Type}(e:TypeId)(n:Nat)(aY:α->List Value)(s:Sl)(xs:List α):As:=λw S=>uu w e n aY s xs/\∀k,S k↔s.c≠0/\∃b,s.b=some b/\k=b.block
instance{α:Type}{e:TypeId}{n:Nat}{aY:α->List Value}{s:Sl}{xs:List α}:bG (Rv e n aY s xs):=⟨
 λ⟨h,e⟩ k hk=>by obtain⟨hc,b,hb,rfl⟩:=(e k).1 hk;exact h.Vh hc hb,
 λ⟨h,e⟩ m hn=>⟨h.aK m λb hc hb=>hn _ ((e _).2 ⟨hc,b,hb,rfl⟩),e⟩⟩
end
section
structure bO where
 f:Int
 t:Int
 w:Int
 m:Int
 deriving DecidableEq
abbrev dU(a:bO):List Value:=[.int .i64 a.f,.int .i64 a.t,.int .i64 a.w,.int .i64 a.m]
abbrev nM(a:bO):Int×Int×Int×Int×Unit:=(a.f,a.t,a.w,a.m,())
theorem WL(a:bO):dU a≠[]:=by simp[dU]
section
variable{α:Type}
theorem KF{r:α->α->Prop}(hirr:∀a,¬r a a)(dK:∀a b,r a b->¬r b a):∀{l m:List α},l.Pairwise r->m.Pairwise r->(∀x,x∈l↔x∈m)->l=m
 | [],[],_,_,_=>rfl
 | [],b::m,_,_,h=>absurd ((h b).2 dN) dN
 |a::l,[],_,_,h=>absurd ((h a).1 dN) dN
 |a::l,b::m,hl,hm,h=>by
  rw[List.pairwise_cons] at hl hm;have uk:a=b:=by
   rcases jO.1 ((h a).1 dN) with e|e
   ·exact e
   ·rcases jO.1 ((h b).2 dN) with e'|e'
    ·exact e'.symm
    ·exact absurd (hm.1 a e) (dK _ _ (hl.1 b e'))
  subst uk;congr 1;refine KF hirr dK hl.2 hm.2 λx=>⟨λhx=>?_,λhx=>?_⟩
  ·rcases jO.1 ((h x).1 (by simp[hx])) with e|e
   ·subst e;exact absurd (hl.1 x hx) (hirr x)
   ·exact e
  ·rcases jO.1 ((h x).2 (by simp[hx])) with e|e
   ·subst e;exact absurd (hm.1 x hx) (hirr x)
   ·exact e
theorem XT{p:α->Bool}:∀{l:List α} {i:Nat},(∀x∈l.take i,p x=true)->(∀x∈l.drop i,p x=false)->l.filter p=l.take i/\l.filter (λx=>!p x)=l.drop i
 |l,0,_,h2=>by
  simp only[List.drop_zero] at h2;exact⟨by simp only[List.take_zero];exact List.filter_eq_nil_iff.2 λx hx=>by rw[h2 x hx];simp,by simp only[List.drop_zero];exact List.filter_eq_self.2 λx hx=>by rw[h2 x hx];rfl⟩
 | [],i+1,_,_=>by simp
 |a::l,i+1,h1,h2=>by
  simp only[List.take_succ_cons,List.drop_succ_cons] at h1 h2 ⊢;obtain⟨e1,e2⟩:=XT (l:=l) (i:=i) (λx hx=>h1 x (by simp[hx])) h2;have ha:=h1 a dN;simp[IX,ha,e1,e2]
variable(k:α->Int)
def YO(l:List α):Prop:=l.Pairwise λx y=>k x<k y
def DV(l:List α)(a:α):List α:=l.filter (λx=>decide (k x<k a))++a::l.filter (λx=>decide (k a<k x))
structure zS(l:List α)(v:Int)(i:Nat):Prop where
 le:i<=l.length
 lo:∀p x,p<i->l[p]? =some x->k x<v
 hi:∀p x,i<=p->l[p]? =some x->v<=k x
variable{k}
theorem YO.get{l:List α}(h:YO k l){p q:Nat}{x y:α}(hpq:p<q)(hx:l[p]? =some x)(hy:l[q]? =some y):k x<k y:=by
 have:=Vw.1 h;have hp:=(eQ.1 hx);have hq:=(eQ.1 hy);obtain⟨tz,Cj⟩:=hp;obtain⟨hq1,hq2⟩:=hq;have:=this p q tz hq1 hpq;rwa[Cj,hq2] at this
theorem zS.take{l:List α}{v:Int}{i:Nat}(h:zS k l v i):l.take i=l.filter (λx=>decide (k x<v))/\l.drop i=l.filter (λx=>decide (v<=k x)):=by
 have:=XT (l:=l) (i:=i) (p:=λx=>decide (k x<v)) (λx hx=>by
  obtain⟨p,hp⟩:=pC.1 hx;have cC:p<i:=by have:=(eQ.1 hp).1;simp at this;omega
  rw[VJ cC] at hp;simpa using h.lo p x cC hp) (λx hx=>by
  obtain⟨p,hp⟩:=pC.1 hx;rw[ly7] at hp;have:=h.hi (i+p) x aB hp;simp;omega)
 refine⟨this.1.symm,?_⟩;rw[<-this.2];apply ly3;intro x _
 by_cases h:k x<v<;>simp[h]<;>omega
theorem zS.qI{l:List α}(hs:YO k l){v:Int}{i:Nat}(h:zS k l v i){x:α}(hx:x∈l)(hk:k x=v):l[i]? =some x:=by
 obtain⟨p,hp⟩:=pC.1 hx;have h1:i<=p:=by apply Nat.le_of_not_lt;intro cC;have:=h.lo p x cC hp;omega
 rcases Nat.eq_or_lt_of_le h1 with e|cC
 ·rw[e];exact hp
 ·have hi:i<l.length:=by have:=(eQ.1 hp).1;omega
  have h2:=h.hi i l[i] (dL _) (cM hi);have h3:=hs.get cC (cM hi) hp;omega
theorem zS.ins_new{l:List α}{a:α}{i:Nat}(h:zS k l (k a) i)(hn:∀x∈l,k x≠k a):l.take i++[a]++l.drop i=DV k l a:=by
 obtain⟨e1,e2⟩:=h.take;unfold DV;rw[e1,e2];simp only[sL,List.cons_append,List.nil_append];congr 2;apply ly3;intro x hx;have:=hn x hx
 by_cases h1:k a<=k x<;>by_cases h2:k a<k x<;>simp[h1,h2]<;>omega
theorem zS.ins_at{l:List α}(hs:YO k l){a:α}{i:Nat}(h:zS k l (k a) i){x:α}(hx:x∈l)(hk:k x=k a):l.set i a=DV k l a:=by
 obtain⟨e1,e2⟩:=h.take;have hf:=h.qI hs hx hk;have hi:i<l.length:=(eQ.1 hf).1;unfold DV;rw[List.set_eq_take_append_cons_drop,if_pos hi,e1];congr 2;have h3:l.drop i=x::l.drop (i+1):=by rw[ly4 hi];congr 1;exact(eQ.1 hf).2
 have h4:zS k l (k a+1) (i+1):=by
  refine⟨hi,λp y hp hy=>?_,λp y hp hy=>?_⟩
  ·rcases Nat.eq_or_lt_of_le (show p<=i by omega) with e|cC
   ·subst e;rw[hf] at hy;cases hy;omega
   ·have:=h.lo p y cC hy;omega
  ·have:=hs.get (show i<p by omega) hf hy;omega
 rw[h4.take.2];apply ly3;intro y _
 by_cases h1:k a<k y<;>simp[h1]<;>omega
theorem YO.filter{l:List α}(h:YO k l)(p:α->Bool):YO k (l.filter p):=RY p h
theorem YO.LB{l:List α}(h:YO k l)(a:α):YO k (DV k l a):=by
 unfold DV YO;rw[List.pairwise_append];refine⟨h.filter _,?_,?_⟩
 ·rw[List.pairwise_cons];exact⟨λx hx=>by simpa using(jI.1 hx).2,h.filter _⟩
 ·intro x hx y hy;have h1:k x<k a:=by simpa using(jI.1 hx).2
  rcases jO.1 hy with e|hy
  ·subst e;exact h1
  ·have h2:k a<k y:=by simpa using(jI.1 hy).2
   omega
theorem Oq{l:List α}{a x:α}:x∈DV k l a↔x=a\/(x∈l/\k x≠k a):=by
 unfold DV;simp only[kE,jO,jI,decide_eq_true_eq]
 constructor
 ·rintro(⟨h1,h2⟩|rfl|⟨h1,h2⟩)
  ·exact .inr ⟨h1,aB⟩
  ·exact .inl rfl
  ·exact .inr ⟨h1,aB⟩
 ·rintro(rfl|⟨h1,h2⟩)
  ·exact .inr (.inl rfl)
  ·by_cases h:k x<k a
   ·exact .inl ⟨h1,h⟩
   ·exact .inr (.inr ⟨h1,aB⟩)
theorem zS.gz{l:List α}(hs:YO k l){v:Int}{i:Nat}(h:zS k l v i){x:α}(hx:x∈l)(hk:k x=v):l.take i++l.drop (i+1)=l.filter (λy=>decide (k y≠v)):=by
 have hf:=h.qI hs hx hk;have hi:i<l.length:=(eQ.1 hf).1;have hsp:l.take i++x::l.drop (i+1)=l:=by
  rw[<-Ls i l];congr 1
  ·simp
  ·rw[Ls,ly4 hi];congr 1;exact(eQ.1 hf).2.symm
 have h1:(l.take i).filter (λy=>decide (k y≠v))=l.take i:=List.filter_eq_self.2 λy hy=>by
  obtain⟨p,hp⟩:=pC.1 hy;have cC:p<i:=by have:=(eQ.1 hp).1;simp at this;omega
  rw[VJ cC] at hp;have:=h.lo p y cC hp;simp;omega
 have h2:(l.drop (i+1)).filter (λy=>decide (k y≠v))=l.drop (i+1):=List.filter_eq_self.2 λy hy=>by
  obtain⟨p,hp⟩:=pC.1 hy;rw[ly7] at hp;have:=hs.get (show i<i+1+p by omega) hf hp;simp;omega
 conv=>rhs;rw[<-hsp,VH,IX,h1,h2]
 simp[hk]
end
def ME(x y:bO):Bool:=decide (x.f<y.f) ||(decide (x.f=y.f) && decide (x.t<y.t))
def BU(l:List bO):Prop:=l.Pairwise λx y=>ME x y=true
theorem lN{x y:bO}:ME x y=true↔x.f<y.f\/(x.f=y.f/\x.t<y.t):=by simp[ME]
def FD(n:Nat)(a:bO):Prop:=0<=a.f/\a.f<n/\0<=a.t/\a.t<n/\a.f≠a.t/\1<=a.w/\a.w<=1099511627776/\(a.m=-1\/(0<=a.m/\a.m<n/\a.m≠a.f/\a.m≠a.t))
instance(n:Nat)(a:bO):Decidable (FD n a):=by unfold FD;infer_instance
structure sD(n:Nat)(l:List bO):Prop where
 sO:BU l
 vF:∀a∈l,FD n a
def LS(l:List bO)(a:bO):List bO:=l.filter (λx=>ME x a)++a::l.filter (λx=>ME a x)
def jM(l:List bO)(f t:Int):Option bO:=l.find? λx=>decide (x.f=f) && decide (x.t=t)
def vG(n:Nat)(l:List bO)(a:bO):List bO×Bool:=
 if FD n a then(match jM l a.f a.t with
  |some x=>if x.w<=a.w then(l,false) else(LS l a,true)
  |none=>(LS l a,true)) else(l,false)
def DF(l:List bO)(v:Int):List bO:=l.filter λx=>decide (x.f≠v) && decide (x.t≠v)
def eC(l:List bO)(v:Int):List bO:=l.filter λx=>decide (x.f=v)
def nX(l:List bO)(v:Int):List bO:=l.filter λx=>decide (x.t=v)
theorem BU.out{l:List bO}(h:BU l)(v:Int):YO bO.t (eC l v):=by
 unfold eC YO;refine List.Pairwise.imp_of_mem (λ{x y} hx hy hxy=>?_) (RY _ h);have h1:=(jI.1 hx).2;have h2:=(jI.1 hy).2;simp at h1 h2;rcases lN.1 hxy with h|⟨_,h⟩
 ·omega
 ·exact h
theorem BU.LN{l:List bO}(h:BU l)(v:Int):YO bO.f (nX l v):=by
 unfold nX YO;refine List.Pairwise.imp_of_mem (λ{x y} hx hy hxy=>?_) (RY _ h);have h1:=(jI.1 hx).2;have h2:=(jI.1 hy).2;simp at h1 h2;rcases lN.1 hxy with h|⟨_,h⟩<;>omega
theorem lY{l:List bO}{a x:bO}:x∈LS l a↔x=a\/(x∈l/\¬(x.f=a.f/\x.t=a.t)):=by
 unfold LS;simp only[kE,jO,jI,lN]
 constructor
 ·rintro(⟨h1,h2⟩|rfl|⟨h1,h2⟩)
  ·exact .inr ⟨h1,aB⟩
  ·exact .inl rfl
  ·exact .inr ⟨h1,aB⟩
 ·rintro(rfl|⟨h1,h2⟩)
  ·exact .inr (.inl rfl)
  ·rcases Int.lt_trichotomy x.f a.f with h|h|h
   ·exact .inl ⟨h1,.inl h⟩
   ·rcases Int.lt_trichotomy x.t a.t with h'|h'|h'
    ·exact .inl ⟨h1,.inr ⟨h,h'⟩⟩
    ·exact absurd ⟨h,h'⟩ h2
    ·exact .inr (.inr ⟨h1,.inr ⟨h.symm,h'⟩⟩)
   ·exact .inr (.inr ⟨h1,.inl h⟩)
theorem al{x y z:bO}(h1:ME x y=true)(h2:ME y z=true):ME x z=true:=by
 rw[lN] at*;omega
theorem BU.LB{l:List bO}(h:BU l)(a:bO):BU (LS l a):=by
 unfold LS BU;rw[List.pairwise_append];refine⟨RY _ h,?_,?_⟩
 ·rw[List.pairwise_cons];exact⟨λx hx=>(jI.1 hx).2,RY _ h⟩
 ·intro x hx y hy;have h1:=(jI.1 hx).2;rcases jO.1 hy with e|hy
  ·subst e;exact h1
  ·exact al h1 (jI.1 hy).2
theorem sD.LB{n:Nat}{l:List bO}(h:sD n l){a:bO}(ha:FD n a):sD n (LS l a):=
 ⟨h.sO.LB a,λx hx=>by rcases lY.1 hx with rfl|⟨h1,_⟩;exact ha;exact h.vF x h1⟩
theorem sD.filter{n:Nat}{l:List bO}(h:sD n l)(p:bO->Bool):sD n (l.filter p):=⟨RY _ h.sO,λx hx=>h.vF x (jI.1 hx).1⟩
theorem sD.cut{n:Nat}{l:List bO}(h:sD n l)(v:Int):sD n (DF l v):=h.filter _
theorem sD.nil(n:Nat):sD n []:=⟨List.Pairwise.nil,by simp⟩
theorem BU.ext{l m:List bO}(h:BU l)(h':BU m)(he:∀x,x∈l↔x∈m):l=m:=
 KF (λa h=>by rw[lN] at h;omega) (λa b h1 h2=>by rw[lN] at h1 h2;omega) h h' he
theorem YO.ext{k:bO->Int}{l m:List bO}(h:YO k l)(h':YO k m)(he:∀x,x∈l↔x∈m):l=m:=
 KF (λa h=>aB) (λa b h1 h2=>aB) h h' he
theorem eL{l:List bO}{v:Int}{x:bO}:x∈eC l v↔x∈l/\x.f=v:=by simp[eC]
theorem iF{l:List bO}{v:Int}{x:bO}:x∈nX l v↔x∈l/\x.t=v:=by simp[nX]
theorem pT{l:List bO}{v:Int}{x:bO}:x∈DF l v↔x∈l/\x.f≠v/\x.t≠v:=by simp[DF]
theorem Yc{l:List bO}(h:BU l)(a:bO)(v:Int):eC (LS l a) v=if v=a.f then DV bO.t (eC l v) a else eC l v:=by
 split
 ·rename_i hv
  subst hv;refine((h.LB a).out _).ext ((h.out _).LB a) λx=>?_;simp only[eL,lY,Oq]
  constructor
  ·rintro⟨rfl|⟨h1,h2⟩,h3⟩
   ·exact .inl rfl
   ·exact .inr ⟨⟨h1,h3⟩,λh=>h2 ⟨h3,h⟩⟩
  ·rintro(rfl|⟨⟨h1,h2⟩,h3⟩)
   ·exact⟨.inl rfl,rfl⟩
   ·exact⟨.inr ⟨h1,λh=>h3 h.2⟩,h2⟩
 ·rename_i hv
  refine((h.LB a).out _).ext (h.out _) λx=>?_;simp only[eL,lY]
  constructor
  ·rintro⟨rfl|⟨h1,h2⟩,h3⟩
   ·exact absurd h3.symm hv
   ·exact⟨h1,h3⟩
  ·rintro⟨h1,h2⟩;exact⟨.inr ⟨h1,λh=>hv (by rw[<-h2,h.1])⟩,h2⟩
theorem yn{l:List bO}(h:BU l)(a:bO)(v:Int):nX (LS l a) v=if v=a.t then DV bO.f (nX l v) a else nX l v:=by
 split
 ·rename_i hv
  subst hv;refine((h.LB a).LN _).ext ((h.LN _).LB a) λx=>?_;simp only[iF,lY,Oq]
  constructor
  ·rintro⟨rfl|⟨h1,h2⟩,h3⟩
   ·exact .inl rfl
   ·exact .inr ⟨⟨h1,h3⟩,λh=>h2 ⟨h,h3⟩⟩
  ·rintro(rfl|⟨⟨h1,h2⟩,h3⟩)
   ·exact⟨.inl rfl,rfl⟩
   ·exact⟨.inr ⟨h1,λh=>h3 h.1⟩,h2⟩
 ·rename_i hv
  refine((h.LB a).LN _).ext (h.LN _) λx=>?_;simp only[iF,lY]
  constructor
  ·rintro⟨rfl|⟨h1,h2⟩,h3⟩
   ·exact absurd h3.symm hv
   ·exact⟨h1,h3⟩
  ·rintro⟨h1,h2⟩;exact⟨.inr ⟨h1,λh=>hv (by rw[<-h2,h.2])⟩,h2⟩
theorem rI{l:List bO}{f t:Int}{x:bO}(h:jM l f t=some x):x∈l/\x.f=f/\x.t=t:=by
 have h1:=List.find?_some h;simp at h1;exact⟨ly9 h,h1.1,h1.2⟩
theorem UE{l:List bO}{f t:Int}(h:jM l f t=none):∀x∈l,¬(x.f=f/\x.t=t):=by
 intro x hx hk;have:=List.find?_eq_none.1 h x hx;simp[hk] at this
theorem yR{l:List bO}(hs:BU l){x:bO}(hx:x∈l):jM l x.f x.t=some x:=by
 cases h:jM l x.f x.t with
 |none=>exact absurd ⟨rfl,rfl⟩ (UE h x hx)
 |some y=>
  obtain⟨h1,h2,h3⟩:=rI h;congr 1;have hp:=Vw.1 hs;obtain⟨p,tz,Cj⟩:=List.mem_iff_getElem.1 h1;obtain⟨q,hq1,hq2⟩:=List.mem_iff_getElem.1 hx;rcases Nat.lt_trichotomy p q with cC|heq|cC
  ·have:=hp p q tz hq1 cC;rw[Cj,hq2,lN] at this;omega
  ·subst heq;rw[<-Cj,<-hq2]
  ·have:=hp q p hq1 tz cC;rw[Cj,hq2,lN] at this;omega
theorem WG{n:Nat}{l:List bO}(h:sD n l)(a:bO):sD n (vG n l a).1:=by
 unfold vG
 split
 ·rename_i ha
  split
  ·split
   ·exact h
   ·exact h.LB ha
  ·exact h.LB ha
 ·exact h
theorem ZO{n:Nat}{l:List bO}(h:sD n l):(List.range n).flatMap (λv:Nat=>eC l (v:Int))=l:=by
 refine BU.ext ?_ h.sO λx=>?_
 ·unfold BU;rw[List.pairwise_flatMap];refine⟨λv _=>?_,?_⟩
  ·exact RY _ h.sO
  ·have:(List.range n).Pairwise (·<·):=List.pairwise_lt_range;refine List.Pairwise.imp (λ{u v} huv x hx y hy=>?_) this;rw[eL] at hx hy;rw[lN];omega
 ·simp only[List.mem_flatMap,List.mem_range,eL]
  constructor
  ·rintro⟨v,_,h1,_⟩;exact h1
  ·intro hx;have:=h.vF x hx;unfold FD at this;exact⟨x.f.toNat,aB,hx,aB⟩
theorem xz{k:bO->Int}{l:List bO}(h:YO k l){n:Nat}(hk:∀x∈l,0<=k x/\k x<n):l.length<=n:=by
 have key:∀(i:Nat) (x:bO),l[i]? =some x->(i:Int)<=k x:=by
  intro i
  induction i with
  |zero=>intro x hx;exact(hk x (lD hx)).1
  |succ i ih=>
   intro x hx;have hi:i<l.length:=by have:=(eQ.1 hx).1;omega
   have h1:=ih _ (cM hi);have h2:=h.get (Nat.lt_succ_self i) (cM hi) hx;omega
 rcases Nat.eq_zero_or_pos l.length with h0|h0
 ·omega
 ·have hi:l.length-1<l.length:=aB;have h1:=key _ _ (cM hi);have h2:=(hk _ (mX hi)).2;omega
theorem sD.vP{n:Nat}{l:List bO}(h:sD n l)(v:Int):(eC l v).length<=n:=xz (h.sO.out v) λx hx=>by
 have:=h.vF x (eL.1 hx).1;exact⟨this.2.2.1,this.2.2.2.1⟩
theorem sD.FJ{n:Nat}{l:List bO}(h:sD n l)(v:Int):(nX l v).length<=n:=xz (h.sO.LN v) λx hx=>by
 have:=h.vF x (iF.1 hx).1;exact⟨this.1,this.2.1⟩
def gW(n:Nat)(l:List bO)(xs:List bO):List bO:=xs.foldl (λl a=>(vG n l a).1) l
theorem HN{n:Nat}:∀(xs:List bO) {l:List bO},sD n l->sD n (gW n l xs)
 | [],_,h=>h
 |a::xs,_,h=>HN xs (WG h a)
theorem NH(n:Nat)(l xs:List bO)(a:bO):gW n l (xs++[a])=(vG n (gW n l xs) a).1:=by simp[gW]
theorem NI{n:Nat}:∀{xs p:List bO},sD n (p++xs)->gW n p xs=p++xs
 | [],p,_=>by simp[gW]
 |a::xs,p,h=>by
  have hsp:BU (p++a::xs):=h.sO;unfold BU at hsp;rw[List.pairwise_append] at hsp;have cC:∀x∈p,ME x a=true:=λx hx=>hsp.2.2 x hx a dN;have pA:jM p a.f a.t=none:=by
   cases hf:jM p a.f a.t with
   |none=>rfl
   |some x=>obtain⟨h1,h2,h3⟩:=rI hf;have:=cC x h1;rw[lN] at this;omega
  have he:(vG n p a).1=p++[a]:=by
   unfold vG;rw[if_pos (h.vF a dN),pA];unfold LS;have e1:p.filter (λx=>ME x a)=p:=List.filter_eq_self.2 cC;have e2:p.filter (λx=>ME a x)=[]:=List.filter_eq_nil_iff.2 λx hx hn=>by
    have:=cC x hx;rw[lN] at this hn;omega
   rw[e1,e2]
  have h':sD n ((p++[a])++xs):=by simpa using h
  have:=NI (xs:=xs) (p:=p++[a]) h';show gW n (vG n p a).1 xs=_;rw[he,this];simp
structure LowL(l:List bO)(f t:Int)(i:Nat):Prop where
 le:i<=l.length
 lo:∀p x,p<i->l[p]? =some x->x.f<f\/(x.f=f/\x.t<t)
 hi:∀p x,i<=p->l[p]? =some x->¬(x.f<f\/(x.f=f/\x.t<t))
theorem MV{α β:Type}(f:α->List β)(n:Nat):∀l:List α,(∀x∈l,(f x).length<=n)->(l.flatMap f).length<=l.length*n
 | [],_=>by simp
 |x::l,h=>by
  have:=MV f n l λy hy=>h y (by simp[hy]);have:=h x dN;simp only[FE,fJ,mE,Nat.add_mul];omega
theorem sD.len{n:Nat}{l:List bO}(h:sD n l)(hn:n<=512):l.length<=262144:=by
 have h1:=MV (λv:Nat=>eC l (v:Int)) n (List.range n) λv _=>h.vP v;rw[ZO h,List.length_range] at h1;have h2:n*n<=512*512:=RX hn hn;omega
end
section
structure It where
 id:Int
 key:Int
 deriving DecidableEq
def qD(x y:It):Bool:=decide (x.key<y.key) ||(decide (x.key=y.key) && decide (x.id<y.id))
theorem kI{x y:It}:qD x y=true↔x.key<y.key\/(x.key=y.key/\x.id<y.id):=by simp[qD]
theorem itlt_tri(x y:It):qD x y=true\/x=y\/qD y x=true:=by
 obtain⟨a,b⟩:=x;obtain⟨c,d⟩:=y;simp only[kI,It.mk.injEq];omega
abbrev BQ(q:List It):Prop:=q.Pairwise λx y=>qD x y=true
def insQ(q:List It)(x:It):List It:=q.filter (λy=>qD y x)++x::q.filter (λy=>qD x y)
theorem yQ{q:List It}{x y:It}:y∈insQ q x↔y=x\/y∈q:=by
 unfold insQ;simp only[kE,jO,jI]
 constructor
 ·rintro(⟨h,_⟩|rfl|⟨h,_⟩)<;>simp_all
 ·rintro(rfl|h)
  ·simp
  ·rcases itlt_tri y x with h1|rfl|h1<;>simp_all
theorem BQ.LB{q:List It}(h:BQ q)(x:It):BQ (insQ q x):=by
 unfold insQ BQ;rw[List.pairwise_append];refine⟨RY _ h,?_,λa ha b hb=>?_⟩
 ·rw[List.pairwise_cons];exact⟨λb hb=>(jI.1 hb).2,RY _ h⟩
 ·have h1:=kI.1 (jI.1 ha).2;rcases jO.1 hb with rfl|hb
  ·exact kI.2 h1
  ·have h2:=kI.1 (jI.1 hb).2;rw[kI];omega
def Cn(q:List It):Prop:=∀x∈q,∀y∈q,x.id=y.id->x=y
def Fy(q:List It)(v:Int):Option Int:=(q.find? λy=>decide (y.id=v)).map (·.key)
theorem ZN{q:List It}{v k:Int}(h:Fy q v=some k):⟨v,k⟩∈q:=by
 unfold Fy at h;cases hf:q.find? (λy=>decide (y.id=v)) with
 |none=>rw[hf] at h;cases h
 |some y=>rw[hf] at h;have h1:=ly9 hf;have h2:=List.find?_some hf;obtain⟨a,b⟩:=y;simp at h h2;subst h h2;exact h1
theorem keyQ_none{q:List It}{v:Int}(h:Fy q v=none):∀x∈q,x.id≠v:=by
 intro x hx;unfold Fy at h;simp only[Option.map_eq_none_iff,List.find?_eq_none] at h;simpa using h x hx
theorem Yi{q:List It}(h:Cn q){x:It}(hx:x∈q):Fy q x.id=some x.key:=by
 cases hk:Fy q x.id with
 |none=>exact absurd rfl (keyQ_none hk x hx)
 |some k=>have:=h _ (ZN hk) x hx rfl;rw[<-this]
def Cs(q:List It)(v k:Int):Bool:=match Fy q v with
 |some k0=>decide (k0<=k)
 |none=>false
def nY(q:List It)(v k:Int):List It×Bool:=if Cs q v k then(q,false) else(insQ (q.filter λy=>decide (y.id≠v)) ⟨v,k⟩,true)
theorem WX{q:List It}{v k:Int}{y:It}(h:y∈(nY q v k).1):y∈q\/y=⟨v,k⟩:=by
 unfold nY at h
 split at h
 ·exact .inl h
 ·rcases yQ.1 h with rfl|h
  ·exact .inr rfl
  ·exact .inl (jI.1 h).1
theorem OS{q:List It}(h1:Cn q){v k:Int}{x:It}(hx:x∈q):∃y∈(nY q v k).1,y.id=x.id/\y.key<=x.key:=by
 unfold nY
 split
 ·exact⟨x,hx,rfl,lK _⟩
 ·rename_i hl
  by_cases e:x.id=v
  ·refine⟨⟨v,k⟩,yQ.2 (.inl rfl),e.symm,?_⟩;have:=Yi h1 hx;unfold Cs at hl;rw[<-e,this] at hl;simp at hl;show k<=x.key;omega
  ·exact⟨x,yQ.2 (.inr (jI.2 ⟨hx,by simpa using e⟩)),rfl,lK _⟩
theorem WY{q:List It}{v k:Int}:∃y∈(nY q v k).1,y.id=v/\y.key<=k:=by
 unfold nY
 split
 ·rename_i hl
  unfold Cs at hl;cases hk:Fy q v with
  |none=>rw[hk] at hl;cases hl
  |some k0=>rw[hk] at hl;exact⟨⟨v,k0⟩,ZN hk,rfl,by simpa using hl⟩
 ·exact⟨⟨v,k⟩,yQ.2 (.inl rfl),rfl,lK _⟩
theorem CL{q:List It}(h:BQ q)(v k:Int):BQ (nY q v k).1:=by
 unfold nY
 split
 ·exact h
 ·exact BQ.LB (RY _ h) _
theorem CM{q:List It}(h:Cn q)(v k:Int):Cn (nY q v k).1:=by
 unfold nY
 split
 ·exact h
 ·intro x hx y hy e;rcases yQ.1 hx with rfl|hx<;>rcases yQ.1 hy with rfl|hy
  ·rfl
  ·have:=(jI.1 hy).2;simp at this;exact absurd e.symm this
  ·have:=(jI.1 hx).2;simp at this;exact absurd e this
  ·exact h x (jI.1 hx).1 y (jI.1 hy).1 e
inductive gB(L:List bO)(c a:Int):Int->Int->Prop where
 |nil:gB L c a a 0
 |gU {v d:Int} (e:bO) (h:gB L c a v d) (he:e∈L) (hf:e.f=v) (ht:e.t≠c):gB L c a e.t (d+e.w)
def wR(s:List It)(v:Int):Bool:=s.any λx=>decide (x.id=v)
theorem XC{s:List It}{v:Int}:wR s v=true↔∃x∈s,x.id=v:=by simp[wR]
def qF(c:Int)(s:List It)(d:Int)(q:List It)(l:List bO):List It:=l.foldl (λq a=>if a.t=c\/wR s a.t=true then q else(nY q a.t (d+a.w)).1) q
def GS(L:List bO)(c:Int)(z:List It×List It):List It×List It:=match z.1 with
 | []=>([],z.2)
 |x::q=>(qF c (z.2++[x]) x.key q (eC L x.id),z.2++[x])
def kD(L:List bO)(c a:Int):Nat->List It×List It
 |0=>([⟨a,0⟩],[])
 |n+1=>GS L c (kD L c a n)
theorem Zw(c:Int)(s:List It)(d:Int)(q:List It)(l:List bO)(a:bO):qF c s d q (l++[a])=if a.t=c\/wR s a.t=true then qF c s d q l else(nY (qF c s d q l) a.t (d+a.w)).1:=by simp[qF]
theorem Zx(c:Int)(s:List It)(d:Int)(q:List It)(l:List bO)(a:bO):qF c s d q (a::l)=qF c s d (if a.t=c\/wR s a.t=true then q else(nY q a.t (d+a.w)).1) l:=rfl
theorem OR{c:Int}{s:List It}{d:Int}:∀{l:List bO} {q:List It},BQ q->Cn q->BQ (qF c s d q l)/\Cn (qF c s d q l)/\
  (∀y∈qF c s d q l,y∈q\/∃e∈l,e.t≠c/\wR s e.t=false/\y=⟨e.t,d+e.w⟩)/\(∀x∈q,∃y∈qF c s d q l,y.id=x.id/\y.key<=x.key)/\
  (∀e∈l,e.t≠c->wR s e.t=false->∃y∈qF c s d q l,y.id=e.t/\y.key<=d+e.w)
 | [],q,h1,h2=>⟨h1,h2,λy hy=>.inl hy,λx hx=>⟨x,hx,rfl,lK _⟩,by simp⟩
 |a::l,q,h1,h2=>by
  rw[Zx]
  by_cases hc:a.t=c\/wR s a.t=true
  ·rw[if_pos hc];obtain⟨g1,g2,g3,g4,g5⟩:=OR (c:=c) (s:=s) (d:=d) (l:=l) h1 h2;refine⟨g1,g2,λy hy=>(g3 y hy).imp id λ⟨e,he,r⟩=>⟨e,by simp[he],r⟩,g4,λe he n1 n2=>?_⟩;rcases jO.1 he with rfl|he
   ·rcases hc with hc|hc
    ·exact absurd hc n1
    ·rw[hc] at n2;cases n2
   ·exact g5 e he n1 n2
  ·rw[if_neg hc];obtain⟨g1,g2,g3,g4,g5⟩:=OR (c:=c) (s:=s) (d:=d) (l:=l) (CL h1 a.t (d+a.w)) (CM h2 a.t (d+a.w));have gf:a.t≠c:=λe=>hc (.inl e);have PO:wR s a.t=false:=by cases h:wR s a.t with
    |false=>rfl
    |true=>exact absurd (.inr h) hc
   refine⟨g1,g2,λy hy=>?_,λx hx=>?_,λe he n1 n2=>?_⟩
   ·rcases g3 y hy with hq|⟨e,he,r⟩
    ·rcases WX hq with hq|rfl
     ·exact .inl hq
     ·exact .inr ⟨a,by simp,gf,PO,rfl⟩
    ·exact .inr ⟨e,by simp[he],r⟩
   ·obtain⟨y,hy,e1,e2⟩:=OS h2 (v:=a.t) (k:=d+a.w) hx;obtain⟨z,hz,e3,e4⟩:=g4 y hy;exact⟨z,hz,e3.trans e1,Int.le_trans e4 e2⟩
   ·rcases jO.1 he with rfl|he
    ·obtain⟨y,hy,e1,e2⟩:=WY (q:=q) (v:=e.t) (k:=d+e.w);obtain⟨z,hz,e3,e4⟩:=g4 y hy;exact⟨z,hz,e3.trans e1,Int.le_trans e4 e2⟩
    ·exact g5 e he n1 n2
structure Gh(m:Nat)(L:List bO)(c a:Int)(q s:List It):Prop where
 sO:BQ q
 one:Cn q
 Eb:(s.map (·.id)).Nodup
 oK:∀x∈q,wR s x.id=false
 Fs:∀x∈s++q,gB L c a x.id x.key
 src:⟨a,0⟩∈s++q
 clo:∀x∈s,∀e∈L,e.f=x.id->e.t≠c->∃y∈s++q,y.id=e.t/\y.key<=x.key+e.w
 mono:∀x∈s,∀y∈q,x.key<=y.key
 qM:∀x∈s,∀d,gB L c a x.id d->x.key<=d
 gX:∀x∈s++q,0<=x.key/\x.key<=s.length*1099511627776/\0<=x.id/\x.id<m
theorem Gh.reach{m:Nat}{L:List bO}{c a:Int}{q s:List It}(h:Gh m L c a q s)(hL:sD m L){v d:Int}(hw:gB L c a v d):(∃x∈s,x.id=v/\x.key<=d)\/∃y∈q,y.key<=d:=by
 induction hw with
 |nil=>
  rcases kE.1 h.src with hs|hq
  ·exact .inl ⟨_,hs,rfl,lK _⟩
  ·exact .inr ⟨_,hq,lK _⟩
 |gU e _ he hf ht ih=>
  rcases ih with⟨x,hx,hv,hd⟩|⟨y,hy,hd⟩
  ·obtain⟨y,hy,e1,e2⟩:=h.clo x hx e he (hf.trans hv.symm) ht;rcases kE.1 hy with hs|hq
   ·exact .inl ⟨y,hs,e1,aB⟩
   ·exact .inr ⟨y,hq,aB⟩
  ·have:=(hL.vF e he).2.2.2.2.2.1;exact .inr ⟨y,hy,aB⟩
theorem Gh.step{m:Nat}{L:List bO}{c a:Int}{q s:List It}(h:Gh m L c a q s)(hL:sD m L):Gh m L c a (GS L c (q,s)).1 (GS L c (q,s)).2:=by
 cases q with
 |nil=>exact h
 |cons x q=>
  have hq:=List.pairwise_cons.1 h.sO;have jB:Cn q:=λy hy z hz=>h.one y (by simp[hy]) z (by simp[hz]);obtain⟨g1,g2,g3,g4,g5⟩:=OR (c:=c) (s:=s++[x]) (d:=x.key) (l:=eC L x.id) hq.2 jB;show Gh m L c a (qF c (s++[x]) x.key q (eC L x.id)) (s++[x]);generalize qF c (s++[x]) x.key q (eC L x.id)=p at*;have hxs:wR s x.id=false:=h.oK x dN;have hxw:=h.Fs x dN;have hxb:=h.gX x dN;have inS:∀v,wR (s++[x]) v=false↔wR s v=false/\x.id≠v:=λv=>by simp[wR]
  have qM:∀d,gB L c a x.id d->x.key<=d:=λd hw=>by
   rcases h.reach hL hw with⟨y,hy,hv,_⟩|⟨y,hy,hd⟩
   ·have:wR s x.id=true:=XC.2 ⟨y,hy,hv⟩;rw[hxs] at this;cases this
   ·rcases jO.1 hy with rfl|hy
    ·exact hd
    ·have:=kI.1 (hq.1 y hy);omega
  have hold:∀y∈s++(x::q),∃z∈s++[x]++p,z.id=y.id/\z.key<=y.key:=λy hy=>by
   rcases kE.1 hy with hy|hy
   ·exact⟨y,by simp[hy],rfl,lK _⟩
   ·rcases jO.1 hy with rfl|hy
    ·exact⟨y,by simp,rfl,lK _⟩
    ·obtain⟨z,hz,r⟩:=g4 y hy;exact⟨z,by simp[hz],r⟩
  refine⟨g1,g2,?_,?_,?_,?_,?_,?_,?_,?_⟩
  ·rw[wQ,List.nodup_append];refine⟨h.Eb,by simp,λu hu v hv=>?_⟩;simp at hv;subst hv;obtain⟨y,hy,rfl⟩:=mD.1 hu;intro e;have:wR s x.id=true:=XC.2 ⟨y,hy,e⟩;rw[hxs] at this;cases this
  ·intro y hy;rcases g3 y hy with ja|⟨e,_,_,h2,rfl⟩
   ·refine(inS _).2 ⟨h.oK y (by simp[ja]),λe=>?_⟩;have:=h.one x dN y (by simp[ja]) e;subst this;have:=kI.1 (hq.1 x ja);omega
   ·exact h2
  ·intro y hy;rcases kE.1 hy with hy|hy
   ·exact h.Fs y (by rcases kE.1 hy with hy|hy<;>simp_all)
   ·rcases g3 y hy with ja|⟨e,he,h1,_,rfl⟩
    ·exact h.Fs y (by simp[ja])
    ·obtain⟨heL,hef⟩:=eL.1 he;exact gB.gU e hxw heL hef h1
  ·rcases kE.1 h.src with hs|hs
   ·simp[hs]
   ·rcases jO.1 hs with hs|hs
    ·simp[hs]
    ·--the first one is the source itself till it is eK
     obtain⟨z,hz,e1,e2⟩:=g4 _ hs;have:=qM 0;have hk:=kI.1 (hq.1 _ hs);have:=hxb.1;simp only at hk e1 e2;have hzb:0<=z.key:=by
      rcases g3 z hz with hzq|⟨e,he,_,_,rfl⟩
      ·exact(h.gX z (by simp[hzq])).1
      ·have:=(hL.vF e (eL.1 he).1).2.2.2.2.2.1;show 0<=x.key+e.w;omega
     have:z=⟨a,0⟩:=by obtain⟨i,k⟩:=z;simp only at*;subst e1;congr 1;omega
     rw[<-this];simp[hz]
  ·intro y hy e he hf ht;rcases kE.1 hy with hy|hy
   ·obtain⟨z,hz,e1,e2⟩:=h.clo y hy e he hf ht;obtain⟨u,hu,e3,e4⟩:=hold z hz;exact⟨u,hu,e3.trans e1,Int.le_trans e4 e2⟩
   ·simp at hy;subst hy;cases IU:wR (s++[y]) e.t with
    |false=>obtain⟨z,hz,r⟩:=g5 e (eL.2 ⟨he,hf⟩) ht IU;exact⟨z,by simp[hz],r⟩
    |true=>
     obtain⟨z,hz,hzt⟩:=XC.1 IU;refine⟨z,by simp only[kE];exact .inl (by simpa using hz),hzt,?_⟩;have hw:=gB.gU e hxw he hf ht;rcases kE.1 hz with hz|hz
     ·exact h.qM z hz _ (hzt▸hw)
     ·simp at hz;subst hz;exact qM _ (hzt▸hw)
  ·intro y hy z hz;have hxz:x.key<=z.key:=by
    rcases g3 z hz with hzq|⟨e,he,_,_,rfl⟩
    ·have:=kI.1 (hq.1 z hzq);omega
    ·have:=(hL.vF e (eL.1 he).1).2.2.2.2.2.1;show x.key<=x.key+e.w;omega
   rcases kE.1 hy with hy|hy
   ·exact Int.le_trans (h.mono y hy x dN) hxz
   ·simp at hy;subst hy;exact hxz
  ·intro y hy;rcases kE.1 hy with hy|hy
   ·exact h.qM y hy
   ·simp at hy;subst hy;exact qM
  ·have len:(s++[x]).length=s.length+1:=by simp
   intro y hy;rw[len];have old:∀y∈s++(x::q),0<=y.key/\y.key<=((s.length+1:Nat):Int)*1099511627776/\0<=y.id/\y.id<m:=λy hy=>by
    obtain⟨b1,b2,b3⟩:=h.gX y hy;exact⟨b1,aB,b3⟩
   rcases kE.1 hy with hy|hy
   ·exact old y (by rcases kE.1 hy with hy|hy<;>simp_all)
   ·rcases g3 y hy with ja|⟨e,he,_,_,rfl⟩
    ·exact old y (by simp[ja])
    ·have hm:=hL.vF e (eL.1 he).1;obtain⟨_,_,m1,m2,_,m3,m4,_⟩:=hm;refine⟨?_,?_,m1,m2⟩
     ·show 0<=x.key+e.w;omega
     ·show x.key+e.w<=_;omega
theorem xV{m:Nat}{L:List bO}(hL:sD m L)(c:Int){a:Int}(ha:0<=a)(mU:a<m):∀n,Gh m L c a (kD L c a n).1 (kD L c a n).2
 |0=>by
  refine⟨List.pairwise_singleton _ _,?_,List.nodup_nil,by simp[kD,wR],?_,by simp[kD],by simp[kD],by simp[kD],by simp[kD],?_⟩
  ·intro x hx y hy _;simp[kD] at hx hy;rw[hx,hy]
  ·intro x hx;simp[kD] at hx;subst hx;exact gB.nil
  ·intro x hx;simp[kD] at hx;subst hx;exact⟨lK _,by simp[kD],ha,mU⟩
 |n+1=>(xV hL c ha mU n).step hL
theorem Em(L:List bO)(c a:Int):∀n,(kD L c a n).2.length=n\/((kD L c a n).1=[]/\(kD L c a n).2.length<=n)
 |0=>.inl rfl
 |n+1=>by
  have ih:=Em L c a n;show(GS L c (kD L c a n)).2.length=n+1\/((GS L c (kD L c a n)).1=[]/\_);cases hz:kD L c a n with
  |mk q s=>
   rw[hz] at ih;cases q with
   |nil=>
    right;refine⟨rfl,?_⟩;show(kD L c a (n+1)).2.length<=n+1;have e:(kD L c a (n+1)).2=s:=by show(GS L c (kD L c a n)).2=s;rw[hz];rfl
    rw[e];rcases ih with h|h
    ·simp only at h;omega
    ·have:=h.2;simp only at this;omega
   |cons x q=>
    left;rcases ih with h|⟨h,_⟩
    ·simp[GS] at h ⊢;omega
    ·cases h
theorem xA:∀{m:Nat} {l:List Int},l.Nodup->(∀x∈l,0<=x/\x<m)->l.length<=m
 |0,l,_,hb=>by
  cases l with
  |nil=>simp
  |cons x l=>have:=hb x dN;omega
 |m+1,l,h,hb=>by
  have one:∀(l:List Int),l.Nodup->l.length<=(l.filter λx=>decide (x≠(m:Int))).length+1:=by
   intro l
   induction l with
   |nil=>intro _;simp
   |cons x l ih=>
    intro hn;rw[List.nodup_cons] at hn
    by_cases e:x=(m:Int)
    ·have:l.filter (λx=>decide (x≠(m:Int)))=l:=List.filter_eq_self.2 λy hy=>by
      simp only[ne_eq,decide_eq_true_eq];rintro rfl;exact hn.1 (e▸hy)
     simp only[IX];rw[this];simp[e]
    ·have:=ih hn.2;simp only[IX,mE];rw[if_pos (by simpa using e)];simp only[mE];omega
  have ih:=xA (m:=m) (l:=l.filter λx=>decide (x≠(m:Int))) (RY _ h) λx hx=>by
   have h1:=hb x (jI.1 hx).1;have h2:x≠(m:Int):=by simpa using(jI.1 hx).2
   omega
  have:=one l h;omega
theorem Gh.len{m:Nat}{L:List bO}{c a:Int}{q s:List It}(h:Gh m L c a q s):s.length<=m:=by
 have:=xA h.Eb λv hv=>by obtain⟨x,hx,rfl⟩:=mD.1 hv;exact(h.gX x (by simp[hx])).2.2
 simpa using this
theorem Gh.len_q{m:Nat}{L:List bO}{c a:Int}{x:It}{q s:List It}(h:Gh m L c a (x::q) s):s.length<m:=by
 have hn:((s.map (·.id))++[x.id]).Nodup:=by rw[List.nodup_append];refine⟨h.Eb,by simp,λu hu v hv=>?_⟩;simp at hv;subst hv;obtain⟨y,hy,rfl⟩:=mD.1 hu;intro e;have:=h.oK x dN;rw[XC.2 ⟨y,hy,e⟩] at this;cases this
 have:=xA (m:=m) hn λv hv=>by
  rcases kE.1 hv with hv|hv
  ·obtain⟨y,hy,rfl⟩:=mD.1 hv;exact(h.gX y (by simp[hy])).2.2
  ·simp at hv;subst hv;exact(h.gX x dN).2.2
 simp at this;omega
section
variable{m:Nat}{L:List bO}(hL:sD m L)(c:Int){a:Int}(ha:0<=a)(mU:a<m)
include hL ha mU
theorem Ho{n:Nat}(hn:m<=n):(kD L c a n).1=[]:=by
 have hi:=xV hL c ha mU n;cases hz:kD L c a n with
 |mk q s=>
  rw[hz] at hi;cases q with
  |nil=>rfl
  |cons x q=>
   have h1:=hi.len_q;rcases Em L c a n with h|⟨h,_⟩
   ·rw[hz] at h;simp only at h h1;omega
   ·rw[hz] at h;cases h
omit hL ha mU in
theorem Xv(n:Nat):∀k,(kD L c a n).2=((kD L c a (n+k)).2).take n
 |0=>by
  rcases Em L c a n with h|⟨_,h⟩
  ·rw[Nat.add_zero,ly6 aB]
  ·rw[Nat.add_zero,ly6 h]
 |k+1=>by
  rw[Xv n k];show _=(GS L c (kD L c a (n+k))).2.take n;have hl:=Em L c a (n+k);cases hz:kD L c a (n+k) with
  |mk q s=>
   rw[hz] at hl;cases q with
   |nil=>rfl
   |cons x q=>
    rcases hl with h|⟨h,_⟩
    ·simp only[GS] at h ⊢;rw[List.take_append_of_le_length aB]
    ·cases h
omit hL ha mU in
def eK(m:Nat)(L:List bO)(c a:Int):List It:=(kD L c a m).2
theorem run_eq(n:Nat):(kD L c a n).2=(eK m L c a).take n:=by
 unfold eK;rcases Nat.le_total n m with h|h
 ·obtain⟨k,rfl⟩:∃k,m=n+k:=⟨m-n,aB⟩;exact Xv c n k
 ·obtain⟨k,rfl⟩:∃k,n=m+k:=⟨n-m,aB⟩;rw[ly6 (by have:=(xV hL c ha mU m).len;omega)];clear h
  induction k with
  |zero=>rfl
  |succ k ih=>
   show(GS L c (kD L c a (m+k))).2=_;have hk:=Ho hL c ha mU (n:=m+k) aB;cases hz:kD L c a (m+k) with
   |mk q s=>rw[hz] at ih hk;simp only at hk;subst hk;exact ih
theorem pN{v d:Int}:(⟨v,d⟩:It)∈eK m L c a↔gB L c a v d/\∀d',gB L c a v d'->d<=d':=by
 have hi:=xV hL c ha mU m;have hd:=Ho hL c ha mU (dL m);rw[hd] at hi
 constructor
 ·intro h;exact⟨hi.Fs _ (kE.2 (.inl h)),hi.qM _ h⟩
 ·rintro⟨h1,h2⟩;rcases hi.reach hL h1 with⟨x,hx,rfl,hk⟩|⟨y,hy,_⟩
  ·have:=hi.Fs x (by simpa using hx);have:=h2 _ this;have:(⟨x.id,d⟩:It)=x:=by obtain⟨i,k⟩:=x;simp only at*;congr 1;omega
   rw[this];exact hx
  ·cases hy
theorem RD{v d:Int}(h:gB L c a v d):∃k,k<=d/\(⟨v,k⟩:It)∈eK m L c a:=by
 have hi:=xV hL c ha mU m;have hd:=Ho hL c ha mU (dL m);rw[hd] at hi;rcases hi.reach hL h with⟨x,hx,rfl,hk⟩|⟨y,hy,_⟩
 ·exact⟨x.key,hk,hx⟩
 ·cases hy
theorem Zs{x y:It}(hx:x∈eK m L c a)(hy:y∈eK m L c a)(e:x.id=y.id):x=y:=by
 have h1:=(pN hL c ha mU (v:=x.id) (d:=x.key)).1 hx;have h2:=(pN hL c ha mU (v:=y.id) (d:=y.key)).1 hy;obtain⟨i,k⟩:=x;obtain⟨j,l⟩:=y;simp only at e h1 h2;subst e;have:=h1.2 _ h2.1;have:=h2.2 _ h1.1;congr 1;omega
theorem NG:(eK m L c a).length<=m:=(xV hL c ha mU m).len
theorem Zu{x:It}(hx:x∈eK m L c a):0<=x.key/\x.key<=m*1099511627776/\0<=x.id/\x.id<m:=by
 have hi:=xV hL c ha mU m;have h1:=hi.gX x (by simp only[kE];exact .inl hx);have h2:=hi.len;refine⟨h1.1,?_,h1.2.2⟩;have:((kD L c a m).2.length:Int)*1099511627776<=(m:Int)*1099511627776:=aB;omega
end
end
theorem gB.mono{L M:List bO}{c c' a v d:Int}(hs:∀e∈L,e.t≠c->e∈M/\e.t≠c')(h:gB L c a v d):gB M c' a v d:=by
 induction h with
 |nil=>exact .nil
 |gU e _ he hf ht ih=>exact .gU e ih (hs e he ht).1 hf (hs e he ht).2
theorem gB.trans{L:List bO}{c a v w d d':Int}(h:gB L c a v d)(h':gB L c v w d'):gB L c a w (d+d'):=by
 induction h' with
 |nil=>rw[Int.add_zero];exact h
 |gU e _ he hf ht ih=>rw[<-Int.add_assoc];exact .gU e ih he hf ht
theorem gB.ends{L:List bO}{c a v d:Int}(h:gB L c a v d):v=a\/v≠c:=by
 cases h with
 |nil=>exact .inl rfl
 |gU e _ _ _ ht=>exact .inr ht
theorem walk_cut{m:Nat}{L:List bO}(hL:sD m L){c a v d:Int}(hac:a≠c):gB (DF L c) (-1) a v d↔gB L c a v d:=by
 constructor
 ·refine gB.mono λe he _=>?_;have:=pT.1 he;exact⟨this.1,this.2.2⟩
 ·intro h
  induction h with
  |nil=>exact .nil
  |gU e h he hf ht ih=>
   have hfc:e.f≠c:=by rw[hf];rcases h.ends with rfl|h<;>assumption
   exact .gU e ih (pT.2 ⟨he,hfc,ht⟩) hf (by have:=(hL.vF e he).2.2.1;omega)
theorem gB.pos{m:Nat}{L:List bO}(hL:sD m L){c a v d:Int}(h:gB L c a v d):0<=d:=by
 induction h with
 |nil=>exact lK _
 |gU e _ he _ _ ih=>have:=(hL.vF e he).2.2.2.2.2.1;omega
def met(ds:List Int):Nat:=(ds.filter λd=>decide (0<=d)).length
def bulk(d:Int):Nat:=if d<0 then 1152921504606846976 else d.toNat
def total(ds:List Int):Nat:=(ds.map bulk).sum
theorem ZC(ds:List Int):met ds<=ds.length:=zL _ _
theorem Ta:∀{ds:List Int} {i:Nat} {x d:Int},ds[i]? =some x->0<=d->met (ds.set i d)=met ds+(if x<0 then 1 else 0)
 | [],i,x,d,h,_=>by simp at h
 |y::ds,0,x,d,h,hd=>by
  simp at h;subst h;simp only[List.set_cons_zero,met,IX]
  by_cases h0:y<0
  ·have e1:decide (0<=y)=false:=by simp;omega
   have e2:decide (0<=d)=true:=by simpa using hd
   rw[e1,e2,if_pos h0];simp
  ·have e1:decide (0<=y)=true:=by simp;omega
   have e2:decide (0<=d)=true:=by simpa using hd
   rw[e1,e2,if_neg h0];simp
 |y::ds,i+1,x,d,h,hd=>by
  simp at h;have ih:=Ta (i:=i) h hd;simp only[List.set_cons_succ,met,IX];simp only[met] at ih
  split
  ·simp only[mE,ih];omega
  ·exact ih
theorem Oc:∀{ds:List Int} {i:Nat} {x d:Int},ds[i]? =some x->total (ds.set i d)+bulk x=total ds+bulk d
 | [],i,x,d,h=>by simp at h
 |y::ds,0,x,d,h=>by simp at h;subst h;simp[total];omega
 |y::ds,i+1,x,d,h=>by
  simp at h;have ih:=Oc (i:=i) (d:=d) h;simp only[List.set_cons_succ,total,Dt,List.sum_cons] at ih ⊢;omega
structure BF(m:Nat)(L:List bO)(a:Int)(ds:List Int):Prop where
 len:ds.length=m
 src:ds[a.toNat]? =some 0
 Fs:∀(v:Nat) (d:Int),ds[v]? =some d->d=-1\/(0<=d/\gB L (-1) a (v:Int) d/\d<=met ds*1099511627776)
section
def fndB(s:List It)(to fD fM:Int):Bool:=(s.take fM.toNat).any λx=>decide (x.id=to) && decide (x.key<=fD)
theorem Yk{s:List It}{to fD fM:Int}:fndB s to fD fM=true↔∃(i:Nat) (d:Int),(i:Int)<fM/\s[i]? =some ⟨to,d⟩/\d<=fD:=by
 unfold fndB;rw[List.any_eq_true]
 constructor
 ·rintro⟨x,hx,hp⟩;obtain⟨i,hi⟩:=pC.1 hx;have cC:=(eQ.1 hi).1;rw[sM] at cC;rw[VJ aB] at hi;obtain⟨a,b⟩:=x;simp at hp;exact⟨i,b,aB,by rw[hi,hp.1],hp.2⟩
 ·rintro⟨i,d,h1,h2,h3⟩;refine⟨⟨to,d⟩,pC.2 ⟨i,?_⟩,by simpa using h3⟩;rw[VJ aB];exact h2
def PR(n:Nat)(L:List bO)(a to c fD fM:Int):Bool:=decide (0<=a/\a<n) && (decide (0<=to/\to<n) && (decide (a≠c) && fndB (eK n L c a) to fD fM))
def VP(s:List It)(to fM:Int)(k:Nat):Bool:=(match s[k]? with|some x=>decide (x.id=to)|none=>false) ||decide (fM=(k:Int)+1)
def Sg(s:List It)(to fD:Int):Nat->Bool
 |0=>false
 |k+1=>match s[k]? with|some x=>decide (x.id=to) && decide (x.key<=fD)|none=>false
theorem NK(s:List It)(to fD:Int)(k:Nat):Sg s to fD (k+1)=match s[k]? with|some x=>decide (x.id=to) && decide (x.key<=fD)|none=>false:=rfl
theorem found_end{s:List It}{to fD fM:Int}(h1:Cn s)(hd:s.Nodup)(hs:1<=fM){m:Nat}(hm:m<=s.length)(vE:∀j,j+1<m->VP s to fM j=false)
  (hend:(m=s.length/\∀j,j<m->VP s to fM j=false)\/∃j,m=j+1/\VP s to fM j=true):Sg s to fD m=fndB s to fD fM:=by
 have no:∀j,VP s to fM j=false->∀x,s[j]? =some x->x.id≠to/\fM≠(j:Int)+1:=λj hj x hx=>by
  unfold VP at hj;rw[hx] at hj;simpa using hj
 rw[Bool.eq_iff_iff,Yk];rcases hend with⟨rfl,pA⟩|⟨j,rfl,hj⟩
 ·constructor
  ·intro hf;cases hl:s.length with
   |zero=>rw[hl] at hf;cases hf
   |succ k=>rw[hl] at hf;rw[NK] at hf;have hx:=cM (show k<s.length by omega);rw[hx] at hf;have:=(no k (pA k aB) _ hx).1;simp[this] at hf
  ·rintro⟨i,d,_,hi,_⟩;have cC:=(eQ.1 hi).1;exact absurd rfl (no i (pA i cC) _ hi).1
 ·have hx:=cM (show j<s.length by omega);have kC:(j:Int)<fM:=by
   rcases Int.lt_or_le (j:Int) fM with h|h
   ·exact h
   ·obtain⟨i,hi⟩:∃i:Nat,fM=(i:Int)+1:=⟨(fM-1).toNat,aB⟩;have cC:i<s.length:=aB;exact absurd hi (no i (vE i aB) _ (cM cC)).2
  rw[NK,hx];generalize s[j]=x at hx
  constructor
  ·intro hf;simp at hf;exact⟨j,x.key,kC,by rw[hx,<-hf.1],hf.2⟩
  ·rintro⟨i,d,hi,jb,hdm⟩;have RT:i=j:=by
    rcases Nat.lt_trichotomy i j with h|h|h
    ·exact absurd rfl (no i (vE i aB) _ jb).1
    ·exact h
    ·--then it dK not stopped at j but by its count
     unfold VP at hj;rw[hx] at hj;simp at hj;rcases hj with hj|hj
     ·have he:=h1 x (lD hx) _ (lD jb) hj;have dJ:=(eQ.1 jb).1;have hn:=Vw.1 hd j i aB dJ h;have e1:s[j]'(aB)=x:=(eQ.1 hx).2;have e2:s[i]=⟨to,d⟩:=(eQ.1 jb).2;rw[e1,e2] at hn;exact absurd he hn
     ·omega
   subst RT;rw[jb] at hx;cases hx;simpa using hdm
section
variable{m:Nat}{L:List bO}(hL:sD m L)(c:Int){a:Int}(ha:0<=a)(mU:a<m)
include hL ha mU
theorem Mh:(eK m L c a).Nodup:=by
 have h:=(xV hL c ha mU m).Eb;unfold eK;exact List.Pairwise.imp (λ{x y} h e=>h (by rw[e])) (List.pairwise_map.1 h)
theorem Zv:Cn (eK m L c a):=λ_ hx _ hy e=>Zs hL c ha mU hx hy e
end
theorem xu{n:Nat}{L:List bO}{a to c:Int}(ha:0<=a/\a<n)(ht:0<=to/\to<n)(hac:a≠c)(k s:Int):PR n L a to c k s=true↔∃(i:Nat) (d:Int),(i:Int)<s/\(eK n L c a)[i]? =some ⟨to,d⟩/\d<=k:=by
 rw[<-Yk];unfold PR;rw[decide_eq_true ha,decide_eq_true ht,decide_eq_true hac];rfl
theorem wit_self(n:Nat)(L:List bO)(a to k s:Int):PR n L a to a k s=false:=by
 unfold PR;simp
theorem wit_walk{n:Nat}{L:List bO}(hL:sD n L){a to c k s:Int}(ha:0<=a/\a<n)(ht:0<=to/\to<n)(h:PR n L a to c k s=true):∃d,d<=k/\gB L c a to d/\∀d',gB L c a to d'->d<=d':=by
 have hac:a≠c:=λe=>by subst e;rw[wit_self] at h;cases h
 obtain⟨i,d,_,h2,h3⟩:=(xu ha ht hac k s).1 h;exact⟨d,h3,(pN hL c ha.1 ha.2).1 (lD h2)⟩
end
section
def GV(n:Nat)(L:List bO)(v:Int)(a b:bO):Bool:=!decide (a.f=b.t) && !PR n L a.f b.t v (a.w+b.w) 30
def mN(n:Nat)(L:List bO)(v:Int)(a:bO)(bs:List bO):List bO:=(bs.filter (GV n L v a)).map λb=>⟨a.f,b.t,a.w+b.w,v⟩
def fX(n:Nat)(L:List bO)(v:Int):List bO:=(nX L v).flatMap λa=>mN n L v a (eC L v)
def FG(n:Nat)(L:List bO)(v:Int):Int:=(fX n L v).length-(nX L v).length-(eC L v).length
def bW(gs:List Bool)(v:Nat):Bool:=gs.getD v false
def uQ(n:Nat)(L:List bO)(gs:List Bool)(z:Int×Int)(v:Nat):Int×Int:=
 if bW gs v then z else if z.1<0 then((v:Int),FG n L v) else if FG n L v<z.2 then((v:Int),FG n L v) else z
def lO(n:Nat)(L:List bO)(gs:List Bool)(k:Nat):Int×Int:=(List.range k).foldl (uQ n L gs) (-1,0)
def kT(n:Nat)(L:List bO)(gs:List Bool):Int:=(lO n L gs n).1
theorem NZ(n:Nat)(L:List bO)(gs:List Bool)(k:Nat):lO n L gs (k+1)=uQ n L gs (lO n L gs k) k:=by
 unfold lO;rw[List.range_succ,List.foldl_append];rfl
theorem Zr(n:Nat)(L:List bO)(v:Int)(a:bO)(bs:List bO)(b:bO):mN n L v a (bs++[b])=mN n L v a bs++(if GV n L v a b then [⟨a.f,b.t,a.w+b.w,v⟩] else []):=by
 unfold mN;rw[VH,wQ];congr 1;simp only[IX,List.filter_nil]
 split<;>simp
theorem Jc(n:Nat)(L:List bO)(v:Int)(a:bO)(bs:List bO):(mN n L v a bs).length<=bs.length:=by
 unfold mN;rw[oH];exact zL _ _
theorem Og(n:Nat)(L:List bO)(v:Int)(as_:List bO):(as_.flatMap λa=>mN n L v a (eC L v)).length<=as_.length*(eC L v).length:=by
 induction as_ with
 |nil=>simp
 |cons a r ih=>have:=Jc n L v a (eC L v);simp only[FE,fJ,mE];rw[Nat.add_mul];omega
theorem uN{n:Nat}{L:List bO}{v:Int}{x:bO}:x∈fX n L v↔∃a∈nX L v,∃b∈eC L v,GV n L v a b=true/\x=⟨a.f,b.t,a.w+b.w,v⟩:=by
 unfold fX;rw[List.mem_flatMap]
 constructor
 ·rintro⟨a,ha,hx⟩;unfold mN at hx;obtain⟨b,hb,rfl⟩:=mD.1 hx;obtain⟨h1,h2⟩:=jI.1 hb;exact⟨a,ha,b,h1,h2,rfl⟩
 ·rintro⟨a,ha,b,hb,h,rfl⟩;refine⟨a,ha,?_⟩;unfold mN;exact mD.2 ⟨b,jI.2 ⟨hb,h⟩,rfl⟩
theorem Oh{n:Nat}{L:List bO}(hL:sD n L)(hn:n<=512)(v:Int):(fX n L v).length<=262144:=by
 have h1:=Og n L v (nX L v);have h2:=hL.FJ v;have h3:=hL.vP v;have:(nX L v).length*(eC L v).length<=512*512:=RX aB aB;unfold fX;omega
structure FirstOk(n:Nat)(L:List bO)(gs:List Bool)(k:Nat)(z:Int×Int):Prop where
 none:z.1<0->z.1=-1/\∀v,v<k->bW gs v=true
 some:0<=z.1->z.1<k/\bW gs z.1.toNat=false/\z.2=FG n L z.1/\∀v,v<k->bW gs v=false->z.2<=FG n L v/\(FG n L v=z.2->z.1<=v)
theorem Ym(n:Nat)(L:List bO)(gs:List Bool):∀k,FirstOk n L gs k (lO n L gs k)
 |0=>⟨λ_=>⟨rfl,λv hv=>aB⟩,λh=>absurd h (by show¬((0:Int)<=-1);decide)⟩
 |k+1=>by
  have ih:=Ym n L gs k;rw[NZ];generalize lO n L gs k=z at*;unfold uQ
  by_cases hg:bW gs k=true
  ·rw[if_pos hg];refine⟨λh=>⟨(ih.none h).1,λv hv=>?_⟩,λh=>?_⟩
   ·by_cases e:v=k
    ·rw[e];exact hg
    ·exact(ih.none h).2 v aB
   ·obtain⟨h1,h2,h3,h4⟩:=ih.some h;refine⟨aB,h2,h3,λv hv fy=>?_⟩
    by_cases e:v=k
    ·rw[e,hg] at fy;cases fy
    ·exact h4 v aB fy
  ·rw[if_neg hg];have ji:bW gs k=false:=by simpa using hg
   by_cases h0:z.1<0
   ·rw[if_pos h0];refine⟨λh=>by simp only at h;omega,λ_=>⟨by simp only;omega,by simpa using ji,rfl,λv hv fy=>?_⟩⟩
    by_cases e:v=k
    ·subst e;exact⟨lK _,λ_=>lK _⟩
    ·rw[(ih.none h0).2 v aB] at fy;cases fy
   ·rw[if_neg h0];obtain⟨h1,h2,h3,h4⟩:=ih.some aB
    by_cases hw:FG n L k<z.2
    ·rw[if_pos hw];refine⟨λh=>by simp only at h;omega,λ_=>⟨by simp only;omega,by simpa using ji,rfl,λv hv fy=>?_⟩⟩
     by_cases e:v=k
     ·subst e;exact⟨lK _,λ_=>lK _⟩
     ·have:=(h4 v aB fy).1;simp only;exact⟨aB,λe'=>aB⟩
    ·rw[if_neg hw];refine⟨λh=>absurd h h0,λ_=>⟨aB,h2,h3,λv hv fy=>?_⟩⟩
     by_cases e:v=k
     ·subst e;exact⟨aB,λ_=>aB⟩
     ·exact h4 v aB fy
theorem find_le{l:List bO}{f t:Int}{x:bO}(hs:BU l)(hx:x∈l)(hf:x.f=f)(ht:x.t=t):jM l f t=some x:=by subst hf;subst ht;exact yR hs hx
theorem put_light{m:Nat}{l:List bO}(h:sD m l){a:bO}(ha:FD m a):(∃y∈(vG m l a).1,y.f=a.f/\y.t=a.t/\y.w<=a.w)/\∀x∈l,∃y∈(vG m l a).1,y.f=x.f/\y.t=x.t/\y.w<=x.w:=by
 unfold vG;rw[if_pos ha];have LB:(∃y∈LS l a,y.f=a.f/\y.t=a.t/\y.w<=a.w):=⟨a,lY.2 (.inl rfl),rfl,rfl,lK _⟩;have old:∀x∈l,¬(x.f=a.f/\x.t=a.t)->∃y∈LS l a,y.f=x.f/\y.t=x.t/\y.w<=x.w:=λx hx hn=>⟨x,lY.2 (.inr ⟨hx,hn⟩),rfl,rfl,lK _⟩;cases hf:jM l a.f a.t with
 |none=>exact⟨LB,λx hx=>old x hx (UE hf x hx)⟩
 |some z=>
  obtain⟨hz,z1,z2⟩:=rI hf;simp only
  split
  ·exact⟨⟨z,hz,z1,z2,by assumption⟩,λx hx=>⟨x,hx,rfl,rfl,lK _⟩⟩
  ·refine⟨LB,λx hx=>?_⟩
   by_cases e:x.f=a.f/\x.t=a.t
   ·have:x=z:=by have:=find_le h.sO hx e.1 e.2;rw[hf] at this;exact(tZ this).symm
    subst this;exact⟨a,lY.2 (.inl rfl),e.1.symm,e.2.symm,aB⟩
   ·exact old x hx e
theorem XO{m:Nat}:∀(xs:List bO) {l:List bO},sD m l->(∀a∈xs,FD m a)->∀x,x∈l\/x∈xs->∃y∈gW m l xs,y.f=x.f/\y.t=x.t/\y.w<=x.w
 | [],l,h,_,x,hx=>by
  rcases hx with hx|hx
  ·exact⟨x,hx,rfl,rfl,lK _⟩
  ·cases hx
 |a::xs,l,h,hm,x,hx=>by
  have hp:=put_light h (hm a dN);have ih:=XO xs (WG h a) λb hb=>hm b (by simp[hb]);have step:(∃y∈(vG m l a).1,y.f=x.f/\y.t=x.t/\y.w<=x.w)\/x∈xs:=by
   rcases hx with hx|hx
   ·exact .inl (hp.2 x hx)
   ·rcases jO.1 hx with rfl|hx
    ·exact .inl hp.1
    ·exact .inr hx
  rcases step with⟨y,hy,e1,e2,e3⟩|hx
  ·obtain⟨z,hz,e4,e5,e6⟩:=ih y (.inl hy);exact⟨z,hz,e4.trans e1,e5.trans e2,Int.le_trans e6 e3⟩
  ·exact ih x (.inr hx)
theorem put_sub{m:Nat}{l:List bO}{a x:bO}(h:x∈(vG m l a).1):x∈l\/x=a:=by
 unfold vG at h
 split at h
 ·split at h
  ·split at h
   ·exact .inl h
   ·rcases lY.1 h with rfl|⟨h,_⟩
    ·exact .inr rfl
    ·exact .inl h
  ·rcases lY.1 h with rfl|⟨h,_⟩
   ·exact .inr rfl
   ·exact .inl h
 ·exact .inl h
theorem pK{m:Nat}:∀(xs:List bO) {l:List bO} {x:bO},x∈gW m l xs->x∈l\/x∈xs
 | [],_,_,h=>.inl h
 |a::xs,l,x,h=>by
  rcases pK xs (l:=(vG m l a).1) h with h|h
  ·rcases put_sub h with h|rfl
   ·exact .inl h
   ·exact .inr dN
  ·exact .inr (by simp[h])
section
variable{n:Nat}{L:List bO}(hL:sD n L){v:Int}(hw:∀e∈L,e.w<=549755813888)
include hL hw
theorem OQ(hv0:0<=v)(Dx:v<n):∀x∈fX n L v,FD n x/\x.m=v/\x.f≠v/\x.t≠v:=by
 intro x hx;obtain⟨a,ha,b,hb,hn,rfl⟩:=uN.1 hx;obtain⟨ha,Fo⟩:=iF.1 ha;obtain⟨hb,hbf⟩:=eL.1 hb;obtain⟨a0,a1,a2,a3,a4,a5,a6,_⟩:=hL.vF a ha;obtain⟨b0,b1,b2,b3,b4,b5,b6,_⟩:=hL.vF b hb;have gK:a.f≠b.t:=by unfold GV at hn;simp at hn;exact hn.1
 have h1:=hw a ha;have h2:=hw b hb;have e1:a.f≠v:=aB;have e2:b.t≠v:=aB;exact⟨⟨a0,a1,b2,b3,gK,by show 1<=a.w+b.w;omega,by show a.w+b.w<=_;omega,.inr ⟨hv0,Dx,λe=>e1 e.symm,λe=>e2 e.symm⟩⟩,rfl,e1,e2⟩
theorem Yj(hv0:0<=v)(Dx:v<n){a b d:Int}(ha:a≠v)(h:gB L (-1) a b d):
  (b≠v->∃d',d'<=d/\gB (gW n (DF L v) (fX n L v)) (-1) a b d')/\(b=v->∃e∈nX L v,∃d',gB (gW n (DF L v) (fX n L v)) (-1) a e.f d'/\d'+e.w<=d):=by
 have sW:=OQ hL hw hv0 Dx;have hO:sD n (gW n (DF L v) (fX n L v)):=HN _ (hL.cut v);have light:=XO (fX n L v) (hL.cut v) λx hx=>(sW x hx).1;generalize gW n (DF L v) (fX n L v)=O at*;have arc:∀x,x∈DF L v\/x∈fX n L v->∀d,gB O (-1) a x.f d->∃d',d'<=d+x.w/\gB O (-1) a x.t d':=λx hx d hd=>by
  obtain⟨y,hy,e1,e2,e3⟩:=light x hx;have:=gB.gU y hd hy e1 (by have:=(hO.vF y hy).2.2.1;omega);rw[e2] at this;exact⟨d+y.w,aB,this⟩
 have along:∀{p q d2:Int},gB (DF L v) (-1) p q d2->∀d1,gB O (-1) a p d1->∃d',d'<=d1+d2/\gB O (-1) a q d':=by
  intro p q d2 hpq
  induction hpq with
  |nil=>intro d1 h1;exact⟨d1,aB,h1⟩
  |gU e _ he hf _ ih=>intro d1 h1;obtain⟨d',hd',hw'⟩:=ih d1 h1;rw[<-hf] at hw';obtain⟨d'',h2,h3⟩:=arc e (.inl he) d' hw';exact⟨d'',aB,h3⟩
 induction h with
 |nil=>exact⟨λ_=>⟨0,lK _,.nil⟩,λe=>absurd e ha⟩
 | @gU x d e h he hf ht ih=>
  have heft:=(hL.vF e he).2.2.2.2.1;refine⟨λhbv=>?_,λhbv=>?_⟩
  ·by_cases hfv:e.f=v
   ·--iI the number itself
    obtain⟨e1,he1,d1,Uy,gd⟩:=ih.2 (hf.symm.trans hfv);obtain⟨he1L,he1t⟩:=iF.1 he1
    by_cases xf:e1.f=e.t
    ·rw[xf] at Uy;have:=(hL.vF e he).2.2.2.2.2.1;have:=(hL.vF e1 he1L).2.2.2.2.2.1;exact⟨d1,aB,Uy⟩
    ·have hout:e∈eC L v:=eL.2 ⟨he,hfv⟩;obtain⟨b0,b1,b2,b3,_⟩:=hL.vF e he;obtain⟨c0,c1,c2,c3,c4,_⟩:=hL.vF e1 he1L;cases hwit:PR n L e1.f e.t v (e1.w+e.w) 30 with
     |true=>obtain⟨d2,hd2,hw2,_⟩:=wit_walk hL ⟨c0,c1⟩ ⟨b2,b3⟩ hwit;have hw3:=(walk_cut hL aB).2 hw2;obtain⟨d',h1,h2⟩:=along hw3 d1 Uy;exact⟨d',aB,h2⟩
     |false=>
      have Gx:GV n L v e1 e=true:=by unfold GV;rw[hwit];simp[xf]
      obtain⟨d',h1,h2⟩:=arc ⟨e1.f,e.t,e1.w+e.w,v⟩ (.inr (uN.2 ⟨e1,he1,e,hout,Gx,rfl⟩)) d1 Uy;refine⟨d',?_,h2⟩;have:d'<=d1+(e1.w+e.w):=h1;omega
   ·obtain⟨d1,gd,Uy⟩:=ih.1 (λe'=>hfv (hf.trans e'));rw[<-hf] at Uy;obtain⟨d',h1,h2⟩:=arc e (.inl (pT.2 ⟨he,hfv,hbv⟩)) d1 Uy;exact⟨d',aB,h2⟩
  ·have hfv:e.f≠v:=aB;obtain⟨d1,gd,Uy⟩:=ih.1 (λe'=>hfv (hf.trans e'));rw[<-hf] at Uy;exact⟨e,iF.2 ⟨he,hbv⟩,d1,Uy,aB⟩
end
end
structure Bld where
 left:List bO
 all:List bO
 gone:List Bool
 iZ:List Int
def pJ(n:Nat)(k:Nat)(z:Bld):Bld:=
 ⟨DF (gW n z.left (fX n z.left (kT n z.left z.gone))) (kT n z.left z.gone),gW n z.all (fX n z.left (kT n z.left z.gone)),z.gone.set (kT n z.left z.gone).toNat true,z.iZ.set (kT n z.left z.gone).toNat (k:Int)⟩
def cW(n:Nat)(L:List bO):Nat->Bld
 |0=>⟨L,L,List.replicate n false,List.replicate n 0⟩
 |k+1=>pJ n k (cW n L k)
def vK(gs:List Bool):Nat:=(gs.filter λb=>b).length
theorem Ov:∀{gs:List Bool} {i:Nat},gs[i]? =some false->vK (gs.set i true)=vK gs+1
 | [],i,h=>by simp at h
 |b::gs,0,h=>by simp at h;subst h;simp[vK]
 |b::gs,i+1,h=>by
  simp at h;have ih:=Ov (i:=i) h;simp only[List.set_cons_succ,vK,IX] at ih ⊢
  split
  ·simp only[mE];omega
  ·exact ih
theorem qo{gs:List Bool}(h:vK gs<gs.length):∃v,v<gs.length/\bW gs v=false:=by
 induction gs with
 |nil=>simp at h
 |cons b gs ih=>
  cases b with
  |false=>exact⟨0,by simp,rfl⟩
  |true=>
   have:vK gs<gs.length:=by simp[vK] at h ⊢;omega
   obtain⟨v,h1,h2⟩:=ih this;exact⟨v+1,by simpa using h1,by unfold bW at h2 ⊢;simpa using h2⟩
theorem JS{gs:List Bool}{i:Nat}(hi:i<gs.length)(v:Nat):bW (gs.set i true) v=(decide (v=i) ||bW gs v):=by
 unfold bW;simp only[LR,jA]
 by_cases e:v=i
 ·subst e;simp[hi]
 ·rw[if_neg (λh=>e h.symm)];simp[e]
theorem XS{l:List bO}{p:bO->Bool}{f t:Int}(hp:∀x∈l,x.f=f->x.t=t->p x=true):jM (l.filter p) f t=jM l f t:=by
 unfold jM
 induction l with
 |nil=>rfl
 |cons a l ih=>
  have ih':=ih λx hx=>hp x (by simp[hx]);simp only[IX]
  by_cases hpa:p a=true
  ·rw[if_pos hpa];simp only[List.find?_cons]
   split
   ·rfl
   ·exact ih'
  ·rw[if_neg hpa,ih'];simp only[List.find?_cons];have:(decide (a.f=f) && decide (a.t=t))=false:=by
    by_cases e1:a.f=f<;>by_cases e2:a.t=t<;>simp[e1,e2]
    exact hpa (hp a dN e1 e2)
   rw[this]
theorem Oy{n:Nat}{l:List bO}(h:sD n l)(a:bO)(f t:Int):jM (vG n l a).1 f t=
  if FD n a/\f=a.f/\t=a.t/\(match jM l f t with|some x=>decide (x.w<=a.w)|none=>false)=false then some a else jM l f t:=by
 have LB:∀f t,jM (LS l a) f t=if f=a.f/\t=a.t then some a else jM l f t:=λf t=>by
  have hs:=h.sO.LB a
  by_cases e:f=a.f/\t=a.t
  ·rw[if_pos e,e.1,e.2];exact yR hs (lY.2 (.inl rfl))
  ·rw[if_neg e];cases hx:jM l f t with
   |none=>
    have hn:=UE hx;cases hy:jM (LS l a) f t with
    |none=>rfl
    |some y=>
     obtain⟨hm,h1,h2⟩:=rI hy;rcases lY.1 hm with rfl|⟨hm,_⟩
     ·exact absurd ⟨h1.symm,h2.symm⟩ e
     ·exact absurd ⟨h1,h2⟩ (hn y hm)
   |some x=>obtain⟨hm,h1,h2⟩:=rI hx;have je:x∈LS l a:=lY.2 (.inr ⟨hm,λe'=>e ⟨h1.symm.trans e'.1,h2.symm.trans e'.2⟩⟩);have:=yR hs je;rwa[h1,h2] at this
 unfold vG
 by_cases hm:FD n a
 ·rw[if_pos hm];cases hf:jM l a.f a.t with
  |none=>
   simp only;rw[LB]
   by_cases e:f=a.f/\t=a.t
   ·rw[if_pos e,if_pos ⟨hm,e.1,e.2,by rw[e.1,e.2,hf]⟩]
   ·rw[if_neg e,if_neg (λe'=>e ⟨e'.2.1,e'.2.2.1⟩)]
  |some x=>
   simp only
   by_cases hw:x.w<=a.w
   ·rw[if_pos hw];rw[if_neg];rintro⟨_,e1,e2,e3⟩;rw[e1,e2,hf] at e3;simp at e3;omega
   ·rw[if_neg hw,LB]
    by_cases e:f=a.f/\t=a.t
    ·rw[if_pos e,if_pos ⟨hm,e.1,e.2,by rw[e.1,e.2,hf];simpa using hw⟩]
    ·rw[if_neg e,if_neg (λe'=>e ⟨e'.2.1,e'.2.2.1⟩)]
 ·rw[if_neg hm,if_neg (λe=>hm e.1)]
theorem wI{n:Nat}:∀(xs:List bO) {l m:List bO},sD n l->sD n m->∀f t,jM l f t=jM m f t->jM (gW n l xs) f t=jM (gW n m xs) f t
 | [],_,_,_,_,_,_,h=>h
 |a::xs,l,m,hl,hm,f,t,h=>by
  show jM (gW n (vG n l a).1 xs) f t=jM (gW n (vG n m a).1 xs) f t;refine wI xs (WG hl a) (WG hm a) f t ?_;rw[Oy hl,Oy hm,h]
structure Me(n:Nat)(k:Nat)(z:Bld):Prop where
 Fi:sD n z.left
 oka:sD n z.all
 gl:z.gone.length=n
 rl:z.iZ.length=n
 Ec:vK z.gone=k
 wl:∀e∈z.left,e.w<=549755813888
 wa:∀e∈z.all,e.w<=549755813888
 lg:∀e∈z.left,bW z.gone e.f.toNat=false/\bW z.gone e.t.toNat=false
 same:∀f t:Int,0<=f->0<=t->bW z.gone f.toNat=false->bW z.gone t.toNat=false->jM z.all f t=jM z.left f t
 rk:∀v:Nat,v<n->bW z.gone v=true->0<=z.iZ.getD v 0/\z.iZ.getD v 0<k
 inj:∀v w:Nat,v<n->w<n->bW z.gone v=true->bW z.gone w=true->z.iZ.getD v 0=z.iZ.getD w 0->v=w
theorem BH{n k:Nat}{z:Bld}(h:Me n k z)(hk:k<n):0<=kT n z.left z.gone/\kT n z.left z.gone<n/\bW z.gone (kT n z.left z.gone).toNat=false:=by
 have hf:=Ym n z.left z.gone n;obtain⟨v,h1,h2⟩:=qo (gs:=z.gone) (by rw[h.Ec,h.gl];exact hk);have:0<=(lO n z.left z.gone n).1:=by
  rcases Int.lt_or_le (lO n z.left z.gone n).1 0 with h'|h'
  ·have:=(hf.none h').2 v (by rw[<-h.gl];exact h1);rw[h2] at this;cases this
  ·exact h'
 obtain⟨a,b,_⟩:=hf.some this;exact⟨this,a,b⟩
theorem MU{l:List Int}{i:Nat}(hi:i<l.length)(x:Int)(v:Nat):(l.set i x).getD v 0=if v=i then x else l.getD v 0:=by
 simp only[LR,jA]
 by_cases e:v=i
 ·subst e;simp[hi]
 ·rw[if_neg (λh=>e h.symm),if_neg e]
theorem bld_start{n:Nat}{L:List bO}(hL:sD n L)(hw:∀e∈L,e.w<=40):Me n 0 (cW n L 0):=by
 have g0:∀v,bW (List.replicate n false) v=false:=λv=>by unfold bW;rw[LR,Fv];split<;>rfl
 refine⟨hL,hL,by simp[cW],by simp[cW],?_,λe he=>by have:=hw e he;omega,λe he=>by have:=hw e he;omega,λe _=>⟨g0 _,g0 _⟩,λ_ _ _ _ _ _=>rfl,λv _ hv=>?_,λv w _ _ hv=>?_⟩
 ·show vK (List.replicate n false)=0;unfold vK;rw[List.filter_eq_nil_iff.2 λb hb=>by rw[(List.mem_replicate.1 hb).2];simp];rfl
 ·rw[show(cW n L 0).gone=List.replicate n false from rfl,g0] at hv;cases hv
 ·rw[show(cW n L 0).gone=List.replicate n false from rfl,g0] at hv;cases hv
theorem bld_step{n k:Nat}{z:Bld}(h:Me n k z)(hk:k<n)(sw:∀x∈fX n z.left (kT n z.left z.gone),x.w<=549755813888):Me n (k+1) (pJ n k z):=by
 obtain⟨v0,v1,vg⟩:=BH h hk;unfold pJ;generalize kT n z.left z.gone=v at*;have cC:v.toNat<z.gone.length:=by rw[h.gl];omega
 have lh:v.toNat<z.iZ.length:=by rw[h.rl];omega
 have Lx:=JS cC;have okp:=HN (n:=n) (fX n z.left v) h.Fi;have sg:∀x∈fX n z.left v,bW z.gone x.f.toNat=false/\bW z.gone x.t.toNat=false:=λx hx=>by
  obtain⟨a,ha,b,hb,_,rfl⟩:=uN.1 hx;exact⟨(h.lg a (iF.1 ha).1).1,(h.lg b (eL.1 hb).1).2⟩
 refine⟨okp.cut v,HN _ h.oka,by simp[h.gl],by simp[h.rl],?_,λe he=>?_,λe he=>?_,λe he=>?_,λf t hf0 ht0 hf ht=>?_,λu hu hg=>?_,λu w hu hw hgu hgw e=>?_⟩
 ·have cQ:z.gone[v.toNat]? =some false:=by
   unfold bW at vg;rw[LR,cM cC] at vg;rw[cM cC];simpa using vg
  show vK (z.gone.set v.toNat true)=k+1;rw[Ov cQ,h.Ec]
 ·rcases pK _ (pT.1 he).1 with h'|h'
  ·exact h.wl e h'
  ·exact sw e h'
 ·rcases pK _ he with h'|h'
  ·exact h.wa e h'
  ·exact sw e h'
 ·obtain⟨he,ne1,ne2⟩:=pT.1 he;have hm:=okp.vF e he;have hg:bW z.gone e.f.toNat=false/\bW z.gone e.t.toNat=false:=by
   rcases pK _ he with h'|h'
   ·exact h.lg e h'
   ·exact sg e h'
  show bW (z.gone.set v.toNat true) _=false/\bW (z.gone.set v.toNat true) _=false;rw[Lx,Lx,hg.1,hg.2];have:=hm.1;have:=hm.2.2.1
  constructor<;>simp<;>omega
 ·replace hf:bW (z.gone.set v.toNat true) f.toNat=false:=hf
  replace ht:bW (z.gone.set v.toNat true) t.toNat=false:=ht
  rw[Lx] at hf ht;simp at hf ht;show jM (gW n z.all _) f t=jM (DF (gW n z.left _) v) f t;have e1:=wI (fX n z.left v) h.oka h.Fi f t (h.same f t hf0 ht0 hf.2 ht.2);have e2:jM (DF (gW n z.left (fX n z.left v)) v) f t=jM (gW n z.left (fX n z.left v)) f t:=XS λx _ e3 e4=>by
   simp only[sV,decide_eq_true_eq];exact⟨λe=>hf.1 (by rw[<-e3,e]),λe=>ht.1 (by rw[<-e4,e])⟩
  rw[e1,e2]
 ·replace hg:bW (z.gone.set v.toNat true) u=true:=hg
  show 0<=(z.iZ.set v.toNat (k:Int)).getD u 0/\(z.iZ.set v.toNat (k:Int)).getD u 0<((k+1:Nat):Int);rw[Lx] at hg;rw[MU lh]
  by_cases e:u=v.toNat
  ·rw[if_pos e];omega
  ·rw[if_neg e];simp[e] at hg;have:=h.rk u hu hg;omega
 ·replace hgu:bW (z.gone.set v.toNat true) u=true:=hgu
  replace hgw:bW (z.gone.set v.toNat true) w=true:=hgw
  replace e:(z.iZ.set v.toNat (k:Int)).getD u 0=(z.iZ.set v.toNat (k:Int)).getD w 0:=e
  rw[Lx] at hgu hgw;rw[MU lh,MU lh] at e
  by_cases e1:u=v.toNat<;>by_cases e2:w=v.toNat
  ·rw[e1,e2]
  ·rw[if_pos e1,if_neg e2] at e;simp[e2] at hgw;have:=h.rk w hw hgw;omega
  ·rw[if_neg e1,if_pos e2] at e;simp[e1] at hgu;have:=h.rk u hu hgu;omega
  ·rw[if_neg e1,if_neg e2] at e;simp[e1] at hgu;simp[e2] at hgw;exact h.inj u w hu hw hgu hgw e
theorem WN{n:Nat}{z:Bld}(h:Me n n z)(v:Nat)(hv:v<n):bW z.gone v=true:=by
 cases hg:bW z.gone v with
 |true=>rfl
 |false=>
  have key:∀(gs:List Bool) (v:Nat),v<gs.length->bW gs v=false->vK gs<gs.length:=by
   intro gs
   induction gs with
   |nil=>intro v hv;simp at hv
   |cons b gs ih=>
    intro v hv hg;have LK:vK gs<=gs.length:=zL _ _;cases b with
    |false=>simp[vK] at LK ⊢;omega
    |true=>
     cases v with
     |zero=>simp[bW] at hg
     |succ v=>have:=ih v (by simpa using hv) (by unfold bW at hg ⊢;simpa using hg);simp[vK] at this ⊢;omega
  have:=key z.gone v (by rw[h.gl];exact hv) hg;rw[h.Ec,h.gl] at this;omega
section
theorem Ia{n k:Nat}{z:Bld}(h:Me n k z){y:bO}(hy:y∈z.left):y∈z.all:=by
 obtain⟨g1,g2⟩:=h.lg y hy;have hm:=h.Fi.vF y hy;have e:=h.same y.f y.t hm.1 hm.2.2.1 g1 g2;rw[yR h.Fi.sO hy] at e;exact(rI e).1
theorem yz{n:Nat}{L:List bO}(hL:sD n L){v:Int}{xs:List bO}(hx:∀x∈xs,x.f≠v/\x.t≠v):∀y∈gW n (DF L v) xs,y∈DF (gW n L xs) v:=by
 intro y hy;have oJ:=HN (n:=n) xs (hL.cut v);have gK:y.f≠v/\y.t≠v:=by
  rcases pK _ hy with h|h
  ·exact(pT.1 h).2
  ·exact hx y h
 have e1:jM (DF L v) y.f y.t=jM L y.f y.t:=XS λx _ e3 e4=>by
  simp only[sV,decide_eq_true_eq];exact⟨λe=>gK.1 (by rw[<-e3,e]),λe=>gK.2 (by rw[<-e4,e])⟩
 have e2:=wI xs (hL.cut v) hL y.f y.t e1;rw[yR oJ.sO hy] at e2;exact pT.2 ⟨(rI e2.symm).1,gK⟩
theorem pw{L:List bO}{a b d c:Int}(h:gB L (-1) a b d)(hac:a≠c):(b≠c/\gB L c a b d)\/∃d1 d2,gB L (-1) a c d1/\gB L (-1) c b d2/\d1+d2=d:=by
 induction h with
 |nil=>exact .inl ⟨hac,.nil⟩
 | @gU x d e h he hf ht ih=>
  by_cases hc:e.t=c
  ·refine .inr ⟨d+e.w,0,?_,?_,aB⟩
   ·have:=gB.gU e h he hf ht;rwa[hc] at this
   ·rw[hc];exact .nil
  ·rcases ih with⟨_,h1⟩|⟨d1,d2,h1,h2,h3⟩
   ·exact .inl ⟨hc,.gU e h1 he hf hc⟩
   ·exact .inr ⟨d1,d2+e.w,h1,.gU e h2 he hf ht,aB⟩
theorem gB.one_le{m:Nat}{L:List bO}(hL:sD m L){c a v d:Int}(h:gB L c a v d)(gK:a≠v):1<=d:=by
 cases h with
 |nil=>exact absurd rfl gK
 |gU e h he _ _=>have:=(hL.vF e he).2.2.2.2.2.1;have:=h.pos hL;omega
def below(s:List It)(d:Int):Nat:=(s.filter λx=>decide (x.key<d)).length
theorem below_lt{s:List It}{x:It}(hx:x∈s){d:Int}(h:x.key<d):below s x.key+1<=below s d:=by
 induction s with
 |nil=>cases hx
 |cons y s ih=>
  have mono:∀s:List It,below s x.key<=below s d:=λs=>by
   induction s with
   |nil=>exact dL _
   |cons z s ih=>
    unfold below at ih ⊢;simp only[IX]
    by_cases h1:z.key<x.key
    ·have h2:z.key<d:=aB;simp[h1,h2];exact ih
    ·by_cases h2:z.key<d
     ·simp[h1,h2];omega
     ·simp[h1,h2];exact ih
  rcases jO.1 hx with rfl|hx
  ·have:=mono s;unfold below at this ⊢;simp only[IX];simp[h];omega
  ·have:=ih hx;unfold below at this ⊢;simp only[IX]
   by_cases h1:y.key<x.key
   ·have h2:y.key<d:=aB;simp[h1,h2];exact this
   ·by_cases h2:y.key<d
    ·simp[h1,h2];omega
    ·simp[h1,h2];exact this
section
variable{m:Nat}{L:List bO}(hL:sD m L){W:Int}(hW:∀e∈L,e.w<=W)(hW0:0<=W){a:Int}(ha:0<=a)(mU:a<m)
include hL hW hW0 ha mU
theorem RE:∀(k:Nat) {v d:Int},d.toNat<=k->(⟨v,d⟩:It)∈eK m L (-1) a->d<=(below (eK m L (-1) a) d:Int)*W
 |k,v,d,hk,h=>by
  obtain⟨hw,kv⟩:=(pN hL (-1) ha mU).1 h;cases hw with
  |nil=>exact Int.mul_nonneg aB hW0
  | @gU x d0 e h0 he hf ht=>
   have hew:=(hL.vF e he).2.2.2.2.2.1;have ui:=h0.pos hL;have hs:(⟨x,d0⟩:It)∈eK m L (-1) a:=(pN hL (-1) ha mU).2 ⟨h0,λd' hd'=>by have:=kv (d'+e.w) (.gU e hd' he hf ht);omega⟩;obtain⟨k',rfl⟩:∃k',k=k'+1:=⟨k-1,aB⟩;have ih:=RE k' aB hs;have hb:=below_lt hs (d:=d0+e.w) (by show d0<d0+e.w;omega);have bR:(below (eK m L (-1) a) d0:Int)+1<=(below (eK m L (-1) a) (d0+e.w):Int):=by have:below (eK m L (-1) a) d0+1<=below (eK m L (-1) a) (d0+e.w):=hb;omega
   have h1:=Int.mul_le_mul_of_nonneg_right bR hW0;rw[Int.add_mul,Int.one_mul] at h1;have:=hW e he;omega
theorem qc{b d:Int}(h:gB L (-1) a b d):∃d',d'<=d/\gB L (-1) a b d'/\d'<=(m:Int)*W:=by
 obtain⟨k,hk,hs⟩:=RD hL (-1) ha mU h;refine⟨k,hk,((pN hL (-1) ha mU).1 hs).1,?_⟩;have h1:=RE hL hW hW0 ha mU k.toNat (dL _) hs;have h2:below (eK m L (-1) a) k<=m:=iR (zL _ _) (NG hL (-1) ha mU);have h3:=Int.mul_le_mul_of_nonneg_right (show(below (eK m L (-1) a) k:Int)<=(m:Int) by omega) hW0;omega
end
theorem Bl:∀gs:List Bool,((List.range gs.length).filter λv=>bW gs v).length=vK gs
 | []=>rfl
 |b::gs=>by
  have ih:=Bl gs;rw[mE,List.range_succ_eq_map,IX,List.filter_map];have e:((λv=>bW (b::gs) v) ∘ Nat.succ)=λv=>bW gs v:=by funext v;simp[bW]
  rw[e];cases b with
  |true=>
   have:bW (true::gs) 0=true:=by simp[bW]
   rw[this];simp[vK] at ih ⊢;exact ih
  |false=>
   have:bW (false::gs) 0=false:=by simp[bW]
   rw[this];simp[vK] at ih ⊢;exact ih
theorem Zt{m:Nat}{L:List bO}(hL:sD m L){c a:Int}(ha:0<=a)(mU:a<m){gs:List Bool}(hg:gs.length=m)(hx:∀x∈eK m L c a,bW gs x.id.toNat=false):
  (eK m L c a).length+vK gs<=m:=by
 have hnd:=(xV hL c ha mU m).Eb;have IU:∀x∈eK m L c a,0<=x.id/\x.id<m:=λx hx=>(Zu hL c ha mU hx).2.2;have key:=xA (m:=m) (l:=(eK m L c a).map (·.id)++((List.range gs.length).filter λv=>bW gs v).map λv:Nat=>(v:Int)) ?_ ?_
 ·rw[fJ,oH,oH,Bl] at key;exact key
 ·rw[List.nodup_append];refine⟨hnd,?_,?_⟩
  ·rw[List.Nodup,List.pairwise_map];exact List.Pairwise.imp (λ{x y:Nat} (h:x<y) (e:(x:Int)=(y:Int))=>aB) (RY _ (List.pairwise_lt_range (n:=gs.length)))
  ·intro x OF y hy e;obtain⟨x',QB,rfl⟩:=mD.1 OF;obtain⟨y',Dw,rfl⟩:=mD.1 hy;have h1:=hx x' QB;have h2:=(jI.1 Dw).2;rw[e,dW,h2] at h1;cases h1
 ·intro x OF;rcases kE.1 OF with h|h
  ·obtain⟨x',QB,rfl⟩:=mD.1 h;exact IU x' QB
  ·obtain⟨y',Dw,rfl⟩:=mD.1 h;have:=List.mem_range.1 (jI.1 Dw).1;omega
theorem wit_few{n:Nat}{L:List bO}(hL:sD n L){a to c k:Int}{s:Nat}(ha:0<=a/\a<n)(ht:0<=to/\to<n)(hac:a≠c){d:Int}(hw:gB L c a to d)(hd:d<=k)(hs:(eK n L c a).length<=s):PR n L a to c k s=true:=by
 obtain⟨e,he,hm⟩:=RD hL c ha.1 ha.2 hw;obtain⟨i,hi⟩:=pC.1 hm;have h2:=(eQ.1 hi).1;exact(xu ha ht hac k s).2 ⟨i,e,aB,hi,aB⟩
structure BRat(n:Nat)(L:List bO)(k:Nat)(z:Bld):Prop where
 abs:k<=21->∀e∈z.left,e.w<=40*2^k
 rat:∀e∈z.left,∀d,gB L (-1) e.f e.t d->e.w<=83886080*d
 aO:∀a b d:Int,gB L (-1) a b d->0<=a->0<=b->bW z.gone a.toNat=false->bW z.gone b.toNat=false->∃d',d'<=d/\gB z.left (-1) a b d'
 eO:∀e∈z.left,gB L (-1) e.f e.t e.w
theorem rat_start{n:Nat}{L:List bO}(hL:sD n L)(hw:∀e∈L,e.w<=40):BRat n L 0 (cW n L 0):=by
 refine⟨λ_ e he=>by have:=hw e he;omega,λe he d hd=>?_,λa b d h _ _ _ _=>⟨d,lK _,h⟩,λe he=>?_⟩
 ·have hm:=hL.vF e he;have h1:=hd.one_le hL (λe'=>hm.2.2.2.2.1 e');have:=hw e he;omega
 ·have:=gB.gU (a:=e.f) e (.nil (L:=L) (c:=-1)) he rfl (by have:=(hL.vF e he).2.2.1;omega);rwa[Int.zero_add] at this
theorem pow21{k:Nat}(h:k<=21):(40*2^k:Int)<=83886080:=by
 have:(2^k:Nat)<=2^21:=Nat.pow_le_pow_right (by decide) h;have e:((2^k:Nat):Int)=(2^k:Int):=by simp
 omega
theorem rat_step{n k:Nat}{L:List bO}{z:Bld}(hL:sD n L)(hw:∀e∈L,e.w<=40)(hn:n<=51)(h:Me n k z)(r:BRat n L k z)(hk:k<n):
  (∀x∈fX n z.left (kT n z.left z.gone),x.w<=549755813888)/\BRat n L (k+1) (pJ n k z):=by
 obtain⟨v0,v1,vg⟩:=BH h hk;have sW:=OQ h.Fi (v:=kT n z.left z.gone) h.wl v0 v1;unfold pJ;generalize kT n z.left z.gone=v at*;have cC:v.toNat<z.gone.length:=by rw[h.gl];omega
 have Lx:=JS cC;have hback:∀{a b d:Int},gB z.left (-1) a b d->gB L (-1) a b d:=λ{a b d} hh=>by
  induction hh with
  |nil=>exact .nil
  |gU y _ hy hf _ ih=>rw[<-hf] at ih;exact ih.trans (r.eO y hy)
 have sabs:k+1<=21->∀x∈fX n z.left v,x.w<=40*2^(k+1):=λQD x hx=>by
  obtain⟨p,hp,q,hq,_,rfl⟩:=uN.1 hx;have h1:=r.abs aB p (iF.1 hp).1;have h2:=r.abs aB q (eL.1 hq).1;show p.w+q.w<=_;omega
 have sback:∀x∈fX n z.left v,gB L (-1) x.f x.t x.w:=λx hx=>by
  obtain⟨p,hp,q,hq,_,rfl⟩:=uN.1 hx;obtain⟨hpL,hpt⟩:=iF.1 hp;obtain⟨hqL,hqf⟩:=eL.1 hq;have w1:=r.eO p hpL;have w2:=r.eO q hqL;rw[hpt] at w1;rw[hqf] at w2;exact w1.trans w2
 have srat:∀x∈fX n z.left v,∀d,gB L (-1) x.f x.t d->x.w<=83886080*d:=λx hx d hd=>by
  have hxm:=(sW x hx).1;have gd:=hd.one_le hL (λe'=>hxm.2.2.2.2.1 e')
  by_cases QD:k+1<=21
  ·have h1:=sabs QD x hx;have h2:=pow21 QD;omega
  ·obtain⟨p,hp,q,hq,Gx,rfl⟩:=uN.1 hx;obtain⟨hpL,hpt⟩:=iF.1 hp;obtain⟨hqL,hqf⟩:=eL.1 hq;have mp:=h.Fi.vF p hpL;have mq:=h.Fi.vF q hqL;have gp:=(h.lg p hpL).1;have gq:=(h.lg q hqL).2;show p.w+q.w<=83886080*d;obtain⟨d',hd',wl⟩:=r.aO p.f q.t d hd mp.1 mq.2.2.1 gp gq;rcases Int.lt_or_le (p.w+q.w) d' with GM|LK
   ·omega
   ·have hpv:p.f≠v:=by have:=mp.2.2.2.2.1;omega
    rcases pw wl hpv with⟨_,hc⟩|⟨d1,d2,h1,h2,h3⟩
    ·have few:=Zt h.Fi (c:=v) mp.1 mp.2.1 h.gl λy hy=>by
      have hwy:=((pN h.Fi v mp.1 mp.2.1).1 (show(⟨y.id,y.key⟩:It)∈_ from hy)).1;generalize y.key=dk at hwy;generalize y.id=iy at hwy ⊢;cases hwy with
      |nil=>exact gp
      |gU e _ he _ _=>exact(h.lg e he).2
     rw[h.Ec] at few;have hwit:=wit_few (s:=30) h.Fi ⟨mp.1,mp.2.1⟩ ⟨mq.2.2.1,mq.2.2.2.1⟩ hpv hc LK aB;unfold GV at Gx;have hwit':PR n z.left p.f q.t v (p.w+q.w) 30=true:=hwit;rw[hwit'] at Gx;simp at Gx
    ·have r1:=r.rat p hpL d1 (by rw[hpt];exact hback h1);have r2:=r.rat q hqL d2 (by rw[hqf];exact hback h2);omega
 refine⟨λx hx=>?_,λQD e he=>?_,λe he d hd=>?_,λa b d hd a0 b0 ag bg=>?_,λe he=>?_⟩
 ·have hxm:=(sW x hx).1;obtain⟨d',_,hd',hb⟩:=qc hL hw (by decide) hxm.1 hxm.2.1 (sback x hx);have:=srat x hx d' hd';omega
 ·rcases pK _ (pT.1 he).1 with h'|h'
  ·have:=r.abs aB e h';have:=(h.Fi.vF e h').2.2.2.2.2.1;omega
  ·exact sabs QD e h'
 ·rcases pK _ (pT.1 he).1 with h'|h'
  ·exact r.rat e h' d hd
  ·exact srat e h' d hd
 ·replace ag:bW (z.gone.set v.toNat true) a.toNat=false:=ag
  replace bg:bW (z.gone.set v.toNat true) b.toNat=false:=bg
  rw[Lx] at ag bg;simp at ag bg;obtain⟨d1,h1,w1⟩:=r.aO a b d hd a0 b0 ag.2 bg.2;obtain⟨d2,h2,w2⟩:=(Yj h.Fi h.wl v0 v1 (λe=>ag.1 (by rw[e])) w1).1 (λe=>bg.1 (by rw[e]));exact⟨d2,aB,w2.mono λe he gK=>⟨yz h.Fi (λx hx=>⟨(sW x hx).2.2.1,(sW x hx).2.2.2⟩) e he,gK⟩⟩
 ·rcases pK _ (pT.1 he).1 with h'|h'
  ·exact r.eO e h'
  ·exact sback e h'
theorem Yv{n:Nat}{L:List bO}(hL:sD n L)(hw:∀e∈L,e.w<=40)(hn:n<=51):∀k,k<=n->Me n k (cW n L k)/\BRat n L k (cW n L k)
 |0,_=>⟨bld_start hL hw,rat_start hL hw⟩
 |k+1,h=>by
  obtain⟨h1,h2⟩:=Yv hL hw hn k aB;obtain⟨h3,h4⟩:=rat_step hL hw hn h1 h2 aB;exact⟨bld_step h1 aB h3,h4⟩
theorem xW{n:Nat}{L:List bO}(hL:sD n L)(hw:∀e∈L,e.w<=40)(hn:n<=51)(k:Nat)(h:k<=n):Me n k (cW n L k):=(Yv hL hw hn k h).1
end
section
theorem put_keep{n:Nat}{l:List bO}(h:sD n l){a y:bO}(hy:y∈l)(gK:¬(y.f=a.f/\y.t=a.t)):y∈(vG n l a).1:=by
 unfold vG
 split
 ·split
  ·split
   ·exact hy
   ·exact lY.2 (.inr ⟨hy,gK⟩)
  ·exact lY.2 (.inr ⟨hy,gK⟩)
 ·exact hy
theorem Bh{n:Nat}:∀(xs:List bO) {l:List bO},sD n l->∀y∈l,(∀a∈xs,¬(y.f=a.f/\y.t=a.t))->y∈gW n l xs
 | [],_,_,_,hy,_=>hy
 |a::xs,_,h,y,hy,hn=>Bh xs (WG h a) y (put_keep h hy (hn a dN)) λb hb=>hn b (by simp[hb])
structure BOwn(n:Nat)(L:List bO)(k:Nat)(z:Bld):Prop where
 gR:∀y∈z.all,y.m<0->y∈L
 light:∀e∈L,∃y∈z.all,y.f=e.f/\y.t=e.t/\y.w<=e.w
 half:∀e∈z.all,0<=e.m->bW z.gone e.m.toNat=true/\(∃a∈z.all,∃b∈z.all,a.f=e.f/\a.t=e.m/\b.f=e.m/\b.t=e.t/\a.w+b.w=e.w)/\
  (bW z.gone e.f.toNat=true->z.iZ.getD e.m.toNat 0<z.iZ.getD e.f.toNat 0)/\(bW z.gone e.t.toNat=true->z.iZ.getD e.m.toNat 0<z.iZ.getD e.t.toNat 0)
section
variable{n k:Nat}{L:List bO}{z:Bld}
theorem Od(h:Me n k z)(hk:k<n){y:bO}(hy:y∈z.all)
  (hg:bW z.gone y.f.toNat=true\/bW z.gone y.t.toNat=true\/y.f=kT n z.left z.gone\/y.t=kT n z.left z.gone):y∈(pJ n k z).all:=by
 obtain⟨v0,v1,vg⟩:=BH h hk;unfold pJ;generalize kT n z.left z.gone=v at*;have hm:=OQ h.Fi (v:=v) h.wl v0 v1;refine Bh _ h.oka y hy λa ha=>?_;obtain⟨p,hp,q,hq,_,rfl⟩:=uN.1 ha;have g1:=(h.lg p (iF.1 hp).1).1;have g2:=(h.lg q (eL.1 hq).1).2;obtain⟨_,_,n1,n2⟩:=hm _ ha;rintro⟨e1,e2⟩;have e1':y.f=p.f:=e1;have e2':y.t=q.t:=e2;rcases hg with hg|hg|hg|hg
 ·rw[e1',g1] at hg;cases hg
 ·rw[e2',g2] at hg;cases hg
 ·exact n1 (show p.f=v by omega)
 ·exact n2 (show q.t=v by omega)
end
def cB(rs:List Int)(v:Int):Int:=if 0<=v/\v<rs.length then rs.getD v.toNat 0 else-1
def upL(A:List bO)(rs:List Int)(v:Int):List bO:=(eC A v).filter λe=>decide (cB rs v<cB rs e.t)
def DZ(A:List bO)(rs:List Int)(v:Int):List bO:=(nX A v).filter λe=>decide (cB rs v<cB rs e.f)
inductive ic(A:List bO)(rs:List Int)(a:Int):Int->Int->Prop where
 |nil:ic A rs a a 0
 |gU {v d:Int} (e:bO) (h:ic A rs a v d) (he:e∈A) (hf:e.f=v) (hr:cB rs e.f<cB rs e.t):ic A rs a e.t (d+e.w)
inductive HC(A:List bO)(rs:List Int):Int->Int->Int->Prop where
 |nil (v:Int):HC A rs v v 0
 |gU {u v d:Int} (e:bO) (h:HC A rs u v d) (he:e∈A) (hf:e.f=v) (hr:cB rs e.t<cB rs e.f):HC A rs u e.t (d+e.w)
theorem ic.cons{A:List bO}{rs:List Int}{x w d:Int}(e:bO)(he:e∈A)(hr:cB rs e.f<cB rs e.t)(ht:e.t=x)(h:ic A rs x w d):ic A rs e.f w (e.w+d):=by
 induction h with
 |nil=>rw[Int.add_zero,<-ht];have:=ic.gU (a:=e.f) e .nil he rfl hr;rwa[Int.zero_add] at this
 |gU e' _ uK QE Vb ih=>rw[<-Int.add_assoc];exact .gU e' ih uK QE Vb
def UD(A:List bO)(rs:List Int)(a b d:Int):Prop:=∃m d1 d2,ic A rs a m d1/\HC A rs m b d2/\d1+d2<=d
theorem gB.lE{n:Nat}{L:List bO}(hL:sD n L){a:Int}:∀{b d:Int},gB L (-1) a b d->b≠a->∃e∈L,e.f=a/\e.t≠a/\∃d',gB L (-1) e.t b d'/\e.w+d'<=d:=by
 intro b d h
 induction h with
 |nil=>intro hb;exact absurd rfl hb
 | @gU x d e h he hf ht ih=>
  intro hb
  by_cases hx:x=a
  ·have:=h.pos hL;exact⟨e,he,hf.trans hx,hb,0,.nil,aB⟩
  ·obtain⟨e1,h1,h2,h3,d',h4,h5⟩:=ih hx;exact⟨e1,h1,h2,h3,d'+e.w,.gU e h4 he hf ht,aB⟩
section
variable{n:Nat}{L:List bO}(hL:sD n L)(hw:∀e∈L,e.w<=40)(hn:n<=51)
include hL hw hn
theorem HR:∀j k,k+j<=n->∀x:Nat,x<n->
  (bW (cW n L k).gone x=true->bW (cW n L (k+j)).gone x=true/\(cW n L (k+j)).iZ.getD x 0=(cW n L k).iZ.getD x 0)/\
  (bW (cW n L k).gone x=false->bW (cW n L (k+j)).gone x=true->(k:Int)<=(cW n L (k+j)).iZ.getD x 0)
 |0,k,_,x,_=>⟨λh=>⟨h,rfl⟩,λh h'=>by rw[Nat.add_zero,h] at h';cases h'⟩
 |j+1,k,hk,x,hx=>by
  obtain⟨h1,h2⟩:=HR j k aB x hx;have hi:=xW hL hw hn (k+j) aB;obtain⟨v0,v1,vg⟩:=BH hi aB;show(_->bW (pJ n (k+j) (cW n L (k+j))).gone x=true/\(pJ n (k+j) (cW n L (k+j))).iZ.getD x 0=_)/\(_->bW (pJ n (k+j) (cW n L (k+j))).gone x=true->_<=(pJ n (k+j) (cW n L (k+j))).iZ.getD x 0);unfold pJ;generalize kT n (cW n L (k+j)).left (cW n L (k+j)).gone=v at*;have cC:v.toNat<(cW n L (k+j)).gone.length:=by rw[hi.gl];omega
  have lh:v.toNat<(cW n L (k+j)).iZ.length:=by rw[hi.rl];omega
  simp only[JS cC,MU lh];refine⟨λhg=>?_,λhg ji=>?_⟩
  ·obtain⟨g1,g2⟩:=h1 hg;have:x≠v.toNat:=λe=>by rw[e,vg] at g1;cases g1
   exact⟨by rw[g1];simp,by rw[if_neg this,g2]⟩
  ·by_cases e:x=v.toNat
   ·rw[if_pos e];omega
   ·rw[if_neg e];simp[e] at ji;exact h2 hg ji
theorem Pm:∀j k,k+j<=n->∀y∈(cW n L k).all,(bW (cW n L k).gone y.f.toNat=true\/bW (cW n L k).gone y.t.toNat=true)->y∈(cW n L (k+j)).all
 |0,_,_,_,hy,_=>hy
 |j+1,k,hk,y,hy,hg=>by
  have ih:=Pm j k aB y hy hg;have hi:=xW hL hw hn (k+j) aB;have hm:=hi.oka.vF y ih;refine Od hi aB ih ?_;rcases hg with hg|hg
  ·exact .inl ((HR hL hw hn j k aB y.f.toNat (by have:=hm.1;have:=hm.2.1;omega)).1 hg).1
  ·exact .inr (.inl ((HR hL hw hn j k aB y.t.toNat (by have:=hm.2.2.1;have:=hm.2.2.2.1;omega)).1 hg).1)
theorem MS{x:Int}(h0:0<=x)(h1:x<n):cB (cW n L n).iZ x=(cW n L n).iZ.getD x.toNat 0:=by
 unfold cB;rw[(xW hL hw hn n (dL n)).rl,if_pos ⟨h0,h1⟩]
theorem zd:∀j k,k+j=n->∀{a b d:Int},gB (cW n L k).left (-1) a b d->0<=a->a<n->bW (cW n L k).gone a.toNat=false->bW (cW n L k).gone b.toNat=false->0<=b->b<n->UD (cW n L n).all (cW n L n).iZ a b d
 |0,k,hk,a,b,d,_,a0,a1,ag,_,_,_=>by
  have lT:k=n:=aB;subst lT;rw[WN (xW hL hw hn k (dL k)) a.toNat aB] at ag;cases ag
 |j+1,k,hk,a,b,d,hwk,a0,a1,ag,bg,b0,b1=>by
  have hi:=xW hL hw hn k aB;obtain⟨v0,v1,vg⟩:=BH hi aB;have hw':=hi.wl;have sW:=OQ hi.Fi (v:=kT n (cW n L k).left (cW n L k).gone) hw' v0 v1;have ih:=λ{a b d:Int}=>zd j (k+1) aB (a:=a) (b:=b) (d:=d);have vE:cW n L (k+1)=pJ n k (cW n L k):=rfl;have hleft:(cW n L (k+1)).left=DF (gW n (cW n L k).left (fX n (cW n L k).left (kT n (cW n L k).left (cW n L k).gone))) (kT n (cW n L k).left (cW n L k).gone):=rfl;have xi:(cW n L (k+1)).gone=(cW n L k).gone.set (kT n (cW n L k).left (cW n L k).gone).toNat true:=rfl;have hrank:(cW n L (k+1)).iZ=(cW n L k).iZ.set (kT n (cW n L k).left (cW n L k).gone).toNat (k:Int):=rfl;have aO:=λy hy hg=>Od hi aB (y:=y) hy hg;rw[<-vE] at aO;generalize kT n (cW n L k).left (cW n L k).gone=v at*;have cC:v.toNat<(cW n L k).gone.length:=by rw[hi.gl];omega
  have lh:v.toNat<(cW n L k).iZ.length:=by rw[hi.rl];omega
  have Lx:=JS cC;have hvg:bW (cW n L (k+1)).gone v.toNat=true:=by rw[xi,Lx];simp
  have hvr:cB (cW n L n).iZ v=(k:Int):=by rw[MS hL hw hn v0 v1];have:=((HR hL hw hn j (k+1) aB v.toNat aB).1 hvg).2;rw[show k+1+j=n by omega] at this;rw[this,hrank,MU lh,if_pos rfl]
  have mo:∀x:Int,0<=x->x≠v->bW (cW n L k).gone x.toNat=false->bW (cW n L (k+1)).gone x.toNat=false:=λx h0 hx hg=>by
   rw[xi,Lx,hg];simp;omega
  have higher:∀x:Int,0<=x->x<n->x≠v->bW (cW n L k).gone x.toNat=false->(k:Int)<cB (cW n L n).iZ x:=λx h0 h1 hx hg=>by
   rw[MS hL hw hn h0 h1];have:=(HR hL hw hn j (k+1) aB x.toNat aB).2 (mo x h0 hx hg);rw[show k+1+j=n by omega] at this;have:=this (WN (xW hL hw hn n (dL n)) x.toNat aB);omega
  have away:∀{a b d:Int},gB (cW n L k).left (-1) a b d->0<=a->a<n->a≠v->b≠v->bW (cW n L k).gone a.toNat=false->bW (cW n L k).gone b.toNat=false->0<=b->b<n->UD (cW n L n).all (cW n L n).iZ a b d:=λ{a b d} hwk a0 a1 ha hb ag bg b0 b1=>by
   obtain⟨d',hd',hw2⟩:=(Yj hi.Fi hw' v0 v1 ha hwk).1 hb;have hw3:gB (cW n L (k+1)).left (-1) a b d':=hw2.mono λe he gK=>by
    rw[hleft];exact⟨yz hi.Fi (λx hx=>⟨(sW x hx).2.2.1,(sW x hx).2.2.2⟩) e he,gK⟩
   obtain⟨m,d1,d2,h1,h2,h3⟩:=ih hw3 a0 a1 (mo a a0 ha ag) (mo b b0 hb bg) b0 b1;exact⟨m,d1,d2,h1,h2,aB⟩
  have lE:∀y∈(cW n L k).left,(y.f=v\/y.t=v)->y∈(cW n L n).all:=λy hy hv=>by
   have h1:=aO y (Ia hi hy) (by rcases hv with h|h;exact .inr (.inr (.inl h));exact .inr (.inr (.inr h)));have:=Pm hL hw hn j (k+1) aB y h1 (by rcases hv with h|h;exact .inl (by rw[h];exact hvg);exact .inr (by rw[h];exact hvg));rwa[show k+1+j=n by omega] at this
  by_cases hav:a=v
  ·by_cases hbv:b=v
   ·refine⟨a,0,0,.nil,?_,by have:=hwk.pos hi.Fi;omega⟩;rw[hbv,<-hav];exact .nil a
   ·obtain⟨e,he,hef,het,d',hw2,hd'⟩:=hwk.lE hi.Fi (by rw[hav];exact hbv);have hm:=hi.Fi.vF e he;have hg:=hi.lg e he;have hetv:e.t≠v:=λe'=>het (e'.trans hav.symm);obtain⟨m,d1,d2,h1,h2,h3⟩:=away hw2 hm.2.2.1 hm.2.2.2.1 hetv hbv hg.2 bg b0 b1;have Uz:ic (cW n L n).all (cW n L n).iZ e.f m (e.w+d1):=h1.cons e (lE e he (.inl (hef.trans hav))) (by rw[hef,hav,hvr];exact higher e.t hm.2.2.1 hm.2.2.2.1 hetv hg.2) rfl;rw[hef] at Uz;exact⟨m,e.w+d1,d2,Uz,h2,aB⟩
  ·by_cases hbv:b=v
   ·cases hwk with
    |nil=>exact absurd hbv hav
    | @gU x d0 e h he hf ht=>
     have hm:=hi.Fi.vF e he;have hg:=hi.lg e he;have hxv:e.f≠v:=by have:=hm.2.2.2.2.1;omega
     rw[<-hf] at h;obtain⟨m,d1,d2,h1,h2,h3⟩:=away h a0 a1 hav hxv ag hg.1 hm.1 hm.2.1;refine⟨m,d1,d2+e.w,h1,.gU e h2 (lE e he (.inr hbv)) rfl (by rw[hbv,hvr];exact higher e.f hm.1 hm.2.1 hxv hg.1),aB⟩
   ·exact away hwk a0 a1 hav hbv ag bg b0 b1
theorem Ii:∀k,k<=n->∀y∈(cW n L k).all,gB L (-1) y.f y.t y.w
 |0,_,y,hy=>by
  have Dw:y∈L:=hy;have:=gB.gU (a:=y.f) y (.nil (L:=L) (c:=-1)) Dw rfl (by have:=(hL.vF y Dw).2.2.1;omega);rwa[Int.zero_add] at this
 |k+1,hk,y,hy=>by
  have hi:=xW hL hw hn k aB;have ih:=Ii k aB;rcases pK _ (show y∈gW n _ _ from hy) with h|h
  ·exact ih y h
  ·obtain⟨p,hp,q,hq,_,rfl⟩:=uN.1 h;obtain⟨hpL,hpt⟩:=iF.1 hp;obtain⟨hqL,hqf⟩:=eL.1 hq;have w1:=ih p (Ia hi hpL);have w2:=ih q (Ia hi hqL);rw[hpt] at w1;rw[hqf] at w2;exact w1.trans w2
theorem up_back{a b d:Int}(h:ic (cW n L n).all (cW n L n).iZ a b d):gB L (-1) a b d:=by
 induction h with
 |nil=>exact .nil
 |gU e _ he hf _ ih=>rw[<-hf] at ih;exact ih.trans (Ii hL hw hn n (dL n) e he)
theorem down_back{a b d:Int}(h:HC (cW n L n).all (cW n L n).iZ a b d):gB L (-1) a b d:=by
 induction h with
 |nil=>exact .nil
 |gU e _ he hf _ ih=>rw[<-hf] at ih;exact ih.trans (Ii hL hw hn n (dL n) e he)
theorem ud_iff{a b:Int}(a0:0<=a)(a1:a<n)(b0:0<=b)(b1:b<n):
  (∀d,gB L (-1) a b d->UD (cW n L n).all (cW n L n).iZ a b d)/\∀m d1 d2,ic (cW n L n).all (cW n L n).iZ a m d1->HC (cW n L n).all (cW n L n).iZ m b d2->gB L (-1) a b (d1+d2):=by
 have g0:∀v,bW (List.replicate n false) v=false:=λv=>by unfold bW;rw[LR,Fv];split<;>rfl
 exact⟨λd hd=>zd hL hw hn n 0 aB hd a0 a1 (g0 _) (g0 _) b0 b1,λm d1 d2 h1 h2=>(up_back hL hw hn h1).trans (down_back hL hw hn h2)⟩
end
end
section
structure RelSt(n:Nat)(P:Int->Int->Prop)(ok:bO->Prop)(ds:List Int):Prop where
 len:ds.length=n
 val:∀(w:Nat) (d:Int),ds[w]? =some d->d=-1\/(0<=d/\P (w:Int) d/\d<=met ds*1099511627776)
 rel:∀e,ok e->∀x y,ds[e.f.toNat]? =some x->ds[e.t.toNat]? =some y->0<=x->0<=y/\y<=x+e.w
section
variable{n:Nat}{P:Int->Int->Prop}{ok:bO->Prop}{ds:List Int}
end
section
variable{n:Nat}{A:List bO}{rs:List Int}{a:Int}
end
theorem En{n:Nat}{L:List bO}(hL:sD n L)(hw:∀e∈L,e.w<=40)(hn:n<=51){x y:Int}(x0:0<=x)(x1:x<n)(y0:0<=y)(y1:y<n)(gK:x≠y):cB (cW n L n).iZ x≠cB (cW n L n).iZ y:=by
 have hi:=xW hL hw hn n (dL n);rw[MS hL hw hn x0 x1,MS hL hw hn y0 y1];intro e;have:=hi.inj x.toNat y.toNat aB aB (WN hi _ aB) (WN hi _ aB) e;omega
theorem Hr{n:Nat}{L:List bO}(hL:sD n L)(hw:∀e∈L,e.w<=40)(hn:n<=51){x:Int}(x0:0<=x)(x1:x<n):0<=cB (cW n L n).iZ x/\cB (cW n L n).iZ x<n:=by
 have hi:=xW hL hw hn n (dL n);rw[MS hL hw hn x0 x1];exact hi.rk x.toNat aB (WN hi _ aB)
end
section
inductive GW(src:Int->Prop)(nx:Int->List bO)(en:bO->Int):Int->Int->Prop where
 |nil {v:Int} (h:src v):GW src nx en v 0
 |gU {v d:Int} (e:bO) (h:GW src nx en v d) (he:e∈nx v):GW src nx en (en e) (d+e.w)
def gM(P:Int->Prop)(d:Int):Prop:=(d=-1/\∀k,¬P k)\/(0<=d/\P d/\∀k,P k->d<=k)
theorem gM.one{P:Int->Prop}{x y:Int}(hx:gM P x)(hy:gM P y):x=y:=by
 rcases hx with⟨h1,h2⟩|⟨h1,h2,h3⟩<;>rcases hy with⟨g1,g2⟩|⟨g1,g2,g3⟩
 ·rw[h1,g1]
 ·exact absurd g2 (h2 _)
 ·exact absurd h2 (g2 _)
 ·have:=h3 _ g2;have:=g3 _ h2;omega
theorem gM.congr{P P':Int->Prop}{x:Int}(h:gM P x)(hp:∀k,P k↔P' k):gM P' x:=by
 rcases h with⟨h1,h2⟩|⟨h1,h2,h3⟩
 ·exact .inl ⟨h1,λk hk=>h2 k ((hp k).2 hk)⟩
 ·exact .inr ⟨h1,(hp _).1 h2,λk hk=>h3 k ((hp k).2 hk)⟩
def MI(n:Nat)(P:Int->Int->Prop)(ds:List Int):Prop:=ds.length=n/\∀(v:Nat) (d:Int),ds[v]? =some d->gM (P (v:Int)) d
theorem MI.one{n:Nat}{P:Int->Int->Prop}{ds es:List Int}(h:MI n P ds)(h':MI n P es):ds=es:=by
 apply yG;intro v
 by_cases hv:v<n
 ·have h1:=cM (show v<ds.length by rw[h.1];exact hv);have h2:=cM (show v<es.length by rw[h'.1];exact hv);rw[h1,h2,(h.2 v _ h1).one (h'.2 v _ h2)]
 ·rw[List.getElem?_eq_none (by rw[h.1];omega),List.getElem?_eq_none (by rw[h'.1];omega)]
abbrev BW:Int:=1099511627776
structure Gl(n:Nat)(src:Int->Prop)(nx:Int->List bO)(en:bO->Int):Prop where
 src:∀v,src v->0<=v/\v<n
 arc:∀v,∀e∈nx v,0<=en e/\en e<n/\1<=e.w/\e.w<=BW
theorem GW.iq{n:Nat}{src:Int->Prop}{nx:Int->List bO}{en:bO->Int}(hN:Gl n src nx en){v d:Int}(h:GW src nx en v d):0<=v/\v<n/\0<=d:=by
 induction h with
 |nil h=>have:=hN.src _ h;omega
 |gU e _ he ih=>have:=hN.arc _ e he;omega
def ZH(src:Int->Prop)(nx:Int->List bO)(en:bO->Int)(ds:List Int)(v d u:Int):Prop:=
 (u=-1/\src v/\d=0)\/(0<=u/\∃e c,ds[u.toNat]? =some c/\0<=c/\e∈nx u/\en e=v/\c+e.w=d)
structure uE(n:Nat)(src:Int->Prop)(nx:Int->List bO)(en:bO->Int)(ok:Int->bO->Prop)(ds bs:List Int)(q:List It)(kn:Int->Option Int):Prop where
 dl:ds.length=n
 bl:bs.length=n
 Co:∀(v:Nat) (d:Int),ds[v]? =some d->d=-1\/(0<=d/\GW src nx en (v:Int) d/\(∀k,GW src nx en (v:Int) k->d<=k)/\d+BW<=met ds*BW/\∃u,bs[v]? =some u/\ZH src nx en ds (v:Int) d u)
 qi:∀y∈q,0<=y.id/\y.id<n/\ds[y.id.toNat]? =some (-1)/\GW src nx en y.id y.key/\y.key<=met ds*BW/\∃u,kn y.id=some u/\ZH src nx en ds y.id y.key u
 fr:∀(v:Nat) (d:Int) (e:bO),ds[v]? =some d->0<=d->e∈nx (v:Int)->ok (v:Int) e->(∃c,ds[(en e).toNat]? =some c/\0<=c)\/∃y∈q,y.id=en e/\y.key<=d+e.w
 sr:∀v,src v->(∃d,ds[v.toNat]? =some d/\0<=d)\/∃y∈q,y.id=v/\y.key<=0
theorem uE.mono{n:Nat}{src:Int->Prop}{nx:Int->List bO}{en:bO->Int}{ok Ql:Int->bO->Prop}{ds bs:List Int}{q:List It}{kn:Int->Option Int}(h:uE n src nx en ok ds bs q kn)(hm:∀v e,e∈nx v->Ql v e->ok v e):uE n src nx en Ql ds bs q kn:=
 ⟨h.dl,h.bl,h.Co,h.qi,λv d e hd h0 he oJ=>h.fr v d e hd h0 he (hm _ e he oJ),h.sr⟩
section
variable{n:Nat}{src:Int->Prop}{nx:Int->List bO}{en:bO->Int}{ok:Int->bO->Prop}{ds bs:List Int}{q:List It}{kn:Int->Option Int}
theorem uE.le(h:uE n src nx en ok ds bs q kn){v:Nat}{d:Int}(hd:ds[v]? =some d)(h0:0<=d):∀k,GW src nx en (v:Int) k->d<=k:=by
 rcases h.Co v d hd with h1|⟨_,_,h1,_⟩
 ·omega
 ·exact h1
theorem uE.gw(h:uE n src nx en ok ds bs q kn){v:Nat}{d:Int}(hd:ds[v]? =some d)(h0:0<=d):GW src nx en (v:Int) d:=by
 rcases h.Co v d hd with h1|⟨_,h1,_⟩
 ·omega
 ·exact h1
theorem uE.reach(h:uE n src nx en (λ_ _=>True) ds bs q kn)(hN:Gl n src nx en){v d:Int}(hw:GW src nx en v d):(∃c,ds[v.toNat]? =some c/\0<=c/\c<=d)\/∃y∈q,y.key<=d:=by
 induction hw with
 |nil hs=>
  rcases h.sr _ hs with⟨c,h1,h2⟩|⟨y,hy,_,hk⟩
  ·have hr:=hN.src _ hs;exact .inl ⟨c,h1,h2,h.le h1 h2 0 (by rw[show((Int.toNat _:Nat):Int)=_ from iw hr.1];exact .nil hs)⟩
  ·exact .inr ⟨y,hy,hk⟩
 | @gU v d e hw he ih=>
  have hr:=hw.iq hN;have ha:=hN.arc _ e he;have ev:(v.toNat:Int)=v:=iw hr.1;have ee:(((en e).toNat:Nat):Int)=en e:=iw ha.1;rcases ih with⟨c,h1,h2,h3⟩|⟨y,hy,hk⟩
  ·rcases h.fr v.toNat c e h1 h2 (by rw[ev];exact he) trivial with⟨c',h4,h5⟩|⟨y,hy,_,hk⟩
   ·refine .inl ⟨c',h4,h5,h.le h4 h5 _ ?_⟩;rw[ee];exact .gU e hw he
   ·exact .inr ⟨y,hy,aB⟩
  ·exact .inr ⟨y,hy,aB⟩
theorem ZH.set{v d u:Int}(h:ZH src nx en ds v d u){i:Nat}{x:Int}(hi:ds[i]? =some (-1)):ZH src nx en (ds.set i x) v d u:=by
 rcases h with h|⟨h0,e,c,h1,h2,h3⟩
 ·exact .inl h
 ·refine .inr ⟨h0,e,c,?_,h2,h3⟩;rw[jA]
  by_cases ee:i=u.toNat
  ·rw[<-ee,hi] at h1;cases h1;omega
  ·rw[if_neg ee];exact h1
theorem uE.pop{x:It}(h:uE n src nx en (λ_ _=>True) ds bs (x::q) kn)(hN:Gl n src nx en)(hs:BQ (x::q))(h1:Cn (x::q)){u:Int}(hu:kn x.id=some u):
  uE n src nx en (λv _=>v≠x.id) (ds.set x.id.toNat x.key) (bs.set x.id.toNat u) q kn/\met (ds.set x.id.toNat x.key)=met ds+1:=by
 obtain⟨i0,i1,hx,gx,kb,u',hu',bk⟩:=h.qi x dN;rw[hu] at hu';cases hu';have ex:(x.id.toNat:Int)=x.id:=iw i0;have k0:0<=x.key:=(gx.iq hN).2.2;have hm:met (ds.set x.id.toNat x.key)=met ds+1:=by rw[Ta hx k0,if_pos aB]
 have cC:x.id.toNat<ds.length:=by rw[h.dl];omega
 have gK:∀y∈q,y.id≠x.id:=λy hy e=>by
  have:=h1 y (by simp[hy]) x dN e;subst this;have:=(List.pairwise_cons.1 hs).1 y hy;rw[kI] at this;omega
 have old:∀{v:Nat} {d:Int},ds[v]? =some d->0<=d->(ds.set x.id.toNat x.key)[v]? =some d:=λ{v d} hd h0=>by
  rw[jA]
  by_cases e:x.id.toNat=v
  ·rw[<-e,hx] at hd;cases hd;omega
  ·rw[if_neg e];exact hd
 have self:(ds.set x.id.toNat x.key)[x.id.toNat]? =some x.key:=by rw[jA,if_pos rfl,if_pos cC]
 refine⟨⟨by rw[nN];exact h.dl,by rw[nN];exact h.bl,λv d hd=>?_,λy hy=>?_,λv d e hd h0 he oJ=>?_,λv hv=>?_⟩,hm⟩
 ·rw[hm]
  by_cases e:x.id.toNat=v
  ·subst e;rw[self] at hd;cases hd;refine .inr ⟨k0,by rw[ex];exact gx,λk hk=>?_,?_,u,?_,by rw[ex];exact bk.set hx⟩
   ·rw[ex] at hk;rcases h.reach hN hk with⟨c,g1,g2,_⟩|⟨y,hy,hyk⟩
    ·rw[hx] at g1;cases g1;omega
    ·rcases jO.1 hy with rfl|hy
     ·exact hyk
     ·have:=(List.pairwise_cons.1 hs).1 y hy;rw[kI] at this;omega
   ·simp only[BW] at*;omega
   ·rw[jA,if_pos rfl,if_pos (by rw[h.bl];omega)]
  ·rw[jA,if_neg e] at hd;rcases h.Co v d hd with h2|⟨h2,h3,h4,h5,w,h6,h7⟩
   ·exact .inl h2
   ·refine .inr ⟨h2,h3,h4,by simp only[BW] at*;omega,w,?_,h7.set hx⟩;rw[jA,if_neg e];exact h6
 ·obtain⟨a0,a1,a2,a3,a4,w,a5,a6⟩:=h.qi y (by simp[hy]);refine⟨a0,a1,?_,a3,by rw[hm];simp only[BW] at*;omega,w,a5,a6.set hx⟩;rw[jA,if_neg (λe=>gK y hy aB)];exact a2
 ·have hvx:v≠x.id.toNat:=λe=>oJ aB;rw[jA,if_neg (λe=>hvx e.symm)] at hd;rcases h.fr v d e hd h0 he trivial with⟨c,g1,g2⟩|⟨y,hy,g1,g2⟩
  ·exact .inl ⟨c,old g1 g2,g2⟩
  ·rcases jO.1 hy with rfl|hy
   ·exact .inl ⟨_,by rw[<-g1];exact self,k0⟩
   ·exact .inr ⟨y,hy,g1,g2⟩
 ·rcases h.sr v hv with⟨d,g1,g2⟩|⟨y,hy,g1,g2⟩
  ·exact .inl ⟨d,old g1 g2,g2⟩
  ·rcases jO.1 hy with rfl|hy
   ·exact .inl ⟨_,by rw[<-g1];exact self,k0⟩
   ·exact .inr ⟨y,hy,g1,g2⟩
theorem uE.skip(h:uE n src nx en ok ds bs q kn){v:Int}{e:bO}{c:Int}(hc:ds[(en e).toNat]? =some c)(h0:0<=c):uE n src nx en (λv' e'=>ok v' e'\/(v'=v/\e'=e)) ds bs q kn:=
 ⟨h.dl,h.bl,h.Co,h.qi,λv' d e' hd ui he oJ=>by
  rcases oJ with oJ|⟨_,rfl⟩
  ·exact h.fr v' d e' hd ui he oJ
  ·exact .inl ⟨c,hc,h0⟩,h.sr⟩
def knP(kn:Int->Option Int)(b:Bool)(t v:Int):Int->Option Int:=if b thenλy=>if y=t then some v else kn y else kn
theorem uE.push(h:uE n src nx en ok ds bs q kn)(hN:Gl n src nx en)(h1:Cn q){v:Nat}{d:Int}{e:bO}(hd:ds[v]? =some d)(h0:0<=d)(he:e∈nx (v:Int))(hc:ds[(en e).toNat]? =some (-1)):
  uE n src nx en (λv' e'=>ok v' e'\/(v'=(v:Int)/\e'=e)) ds bs (nY q (en e) (d+e.w)).1 (knP kn (nY q (en e) (d+e.w)).2 (en e) (v:Int)):=by
 have ha:=hN.arc _ e he;have aO:=λ{x:It} hx=>OS h1 (v:=en e) (k:=d+e.w) (x:=x) hx;have qM:=WY (q:=q) (v:=en e) (k:=d+e.w);refine⟨h.dl,h.bl,h.Co,λy hy=>?_,λv' d' e' hd' ui uK oJ=>?_,λv' jZ=>?_⟩
 ·have jB:=CM h1 (en e) (d+e.w);have gF:y∈q\/y=⟨en e,d+e.w⟩:=WX hy;unfold nY at hy jB ⊢
  by_cases hl:Cs q (en e) (d+e.w)=true
  ·rw[if_pos hl] at hy ⊢;exact h.qi y hy
  ·rw[if_neg hl] at hy jB ⊢;have Rf:(⟨en e,d+e.w⟩:It)∈insQ (q.filter λy=>decide (y.id≠en e)) ⟨en e,d+e.w⟩:=yQ.2 (.inl rfl)
   by_cases hid:y.id=en e
   ·have:=jB y hy _ Rf hid;subst this;have hb:d+BW<=met ds*BW:=by
     rcases h.Co v d hd with h2|⟨_,_,_,h2,_⟩
     ·omega
     ·exact h2
    refine⟨ha.1,ha.2.1,hc,.gU e (h.gw hd h0) he,by simp only[BW] at*;omega,(v:Int),?_,.inr ⟨aB,e,d,?_,h0,he,rfl,rfl⟩⟩
    ·simp[knP]
    ·rw[dW];exact hd
   ·have ja:y∈q:=gF.resolve_right λe'=>hid (by rw[e']);obtain⟨a0,a1,a2,a3,a4,w,a5,a6⟩:=h.qi y ja;refine⟨a0,a1,a2,a3,a4,w,?_,a6⟩;simp only[knP,if_true];rw[if_neg hid];exact a5
 ·rcases oJ with oJ|⟨hv,rfl⟩
  ·rcases h.fr v' d' e' hd' ui uK oJ with g|⟨y,hy,g1,g2⟩
   ·exact .inl g
   ·obtain⟨y',Dw,e1,e2⟩:=aO hy;exact .inr ⟨y',Dw,e1.trans g1,aB⟩
  ·have:v'=v:=aB;subst this;rw[hd] at hd';cases hd';exact .inr qM
 ·rcases h.sr v' jZ with g|⟨y,hy,g1,g2⟩
  ·exact .inl g
  ·obtain⟨y',Dw,e1,e2⟩:=aO hy;exact .inr ⟨y',Dw,e1.trans g1,aB⟩
structure Grown(n:Nat)(src:Int->Prop)(nx:Int->List bO)(en:bO->Int)(ds bs:List Int):Prop where
 oK:MI n (GW src nx en) ds
 bl:bs.length=n
 eO:∀(v:Nat) (d:Int),ds[v]? =some d->0<=d->∃u,bs[v]? =some u/\ZH src nx en ds (v:Int) d u
 gX:∀(v:Nat) (d:Int),ds[v]? =some d->-1<=d/\d<=n*BW
theorem uE.done(h:uE n src nx en (λ_ _=>True) ds bs [] kn)(hN:Gl n src nx en):Grown n src nx en ds bs:=by
 refine⟨⟨h.dl,λv d hd=>?_⟩,h.bl,λv d hd h0=>?_,λv d hd=>?_⟩
 ·rcases h.Co v d hd with h1|⟨h1,h2,h3,_⟩
  ·refine .inl ⟨h1,λk hk=>?_⟩;rcases h.reach hN hk with⟨c,g1,g2,_⟩|⟨y,hy,_⟩
   ·rw[dW,hd] at g1;cases g1;omega
   ·cases hy
  ·exact .inr ⟨h1,h2,h3⟩
 ·rcases h.Co v d hd with h1|⟨_,_,_,_,h1⟩
  ·omega
  ·exact h1
 ·have hm:=ZC ds;rw[h.dl] at hm;rcases h.Co v d hd with h1|⟨h0,_,_,h1,_⟩
  ·simp only[BW];omega
  ·simp only[BW] at*;omega
theorem uE.start(hN:Gl n src nx en){q:List It}{kn:Int->Option Int}(hq:∀y∈q,y.key=0/\src y.id/\kn y.id=some (-1))(hs:∀v,src v->∃y∈q,y.id=v):
  uE n src nx en (λ_ _=>True) (List.replicate n (-1)) (List.replicate n (-1)) q kn:=by
 have rep:∀{v:Nat} {d:Int},(List.replicate n (-1:Int))[v]? =some d->d=-1:=λ{v d} h=>by
  rw[Fv] at h
  split at h
  ·exact(tZ h).symm
  ·cases h
 refine⟨by simp,by simp,λv d hd=>.inl (rep hd),λy hy=>?_,λv d e hd h0=>by have:=rep hd;omega,λv hv=>?_⟩
 ·obtain⟨h1,h2,h3⟩:=hq y hy;have hr:=hN.src _ h2;refine⟨hr.1,hr.2,?_,by rw[h1];exact .nil h2,by rw[h1];simp only[BW];omega,-1,h3,.inl ⟨rfl,h2,h1⟩⟩;rw[Fv,if_pos aB]
 ·obtain⟨y,hy,e⟩:=hs v hv;exact .inr ⟨y,hy,e,by rw[(hq y hy).1];exact lK _⟩
end
def vJ(n:Nat)(fs:List Int)(v:Int):Prop:=v∈fs/\0<=v/\v<n
end
section
section
variable{n:Nat}{L:List bO}(hL:sD n L)(hw:∀e∈L,e.w<=40)(hn:n<=30)
include hL hw hn
end
inductive Xj(A:List bO):Int->Int->List Int->Prop where
 |gR {e:bO} (he:e∈A) (hm:e.m<0):Xj A e.f e.t [e.f,e.t]
 |cut {e:bO} {x y:List Int} (he:e∈A) (hm:0<=e.m) (hx:Xj A e.f e.m x) (hy:Xj A e.m e.t y):Xj A e.f e.t (x++y.tail)
inductive Along(L:List bO):List Int->Int->Prop where
 |one (v:Int):Along L [v] 0
 |cons {e:bO} {f t:Int} {l:List Int} {d:Int} (he:e∈L) (hf:e.f=f) (ht:e.t=t) (h:Along L (t::l) d):Along L (f::t::l) (e.w+d)
inductive Thru(L:List bO):List Int->Int->Prop where
 |one (v:Int):Thru L [v] 0
 |cons {a b:Int} {l:List Int} {c d:Int} (gK:a≠b) (h:gB L (-1) a b c) (h':Thru L (b::l) d):Thru L (a::b::l) (c+d)
structure UnpOk(n:Nat)(L A:List bO)(R:List Int):Prop where
 Fi:sD n L
 ok:sD n A
 gR:∀y∈A,y.m<0->y∈L
 half:∀e∈A,0<=e.m->e.m<n/\(∃a∈A,∃b∈A,a.f=e.f/\a.t=e.m/\b.f=e.m/\b.t=e.t/\a.w+b.w=e.w)/\cB R e.m<cB R e.f/\cB R e.m<cB R e.t
 iq:∀x:Int,0<=x->x<n->0<=cB R x
 via:∀e∈A,0<=e.m->∀d,gB L (-1) e.f e.t d->∃d1 d2,gB L (-1) e.f e.m d1/\gB L (-1) e.m e.t d2/\d1+d2<=d
 eO:∀y∈A,gB L (-1) y.f y.t y.w
section
variable{n:Nat}{L A:List bO}{R:List Int}(H:UnpOk n L A R)
include H
end
open Classical in
inductive PendW(A:List bO):List (Int×Int)->List Int->Nat->Prop where
 |nil:PendW A [] [] 0
 |cons {f t:Int} {x l:List Int} {k:Nat} {r:List (Int×Int)} (hx:Xj A f t x) (h:PendW A r l k):PendW A ((f,t)::r) (x.tail++l) (2*x.length-3+k)
end
section
section
variable{us ds:List Int}{k:Nat}{at_ oK x y:Int}
end
theorem HC.cons{A:List bO}{R:List Int}{x w d:Int}(e:bO)(he:e∈A)(hr:cB R e.t<cB R e.f)(ht:e.t=x)(h:HC A R x w d):HC A R e.f w (e.w+d):=by
 induction h with
 |nil=>rw[Int.add_zero,<-ht];have:=HC.gU e (.nil e.f) he rfl hr;rwa[Int.zero_add] at this
 |gU e' _ uK QE Vb ih=>rw[<-Int.add_assoc];exact .gU e' ih uK QE Vb
theorem yy{n:Nat}{A:List bO}{R:List Int}{ts:List Int}{v d:Int}:GW (vJ n ts) (DZ A R) (λe=>e.f) v d↔∃t,vJ n ts t/\HC A R v t d:=by
 constructor
 ·intro h
  induction h with
  |nil hs=>exact⟨_,hs,.nil _⟩
  | @gU v d e _ he ih=>obtain⟨t,ht,hd⟩:=ih;have hm:=jI.1 he;obtain⟨h1,h2⟩:=iF.1 hm.1;refine⟨t,ht,?_⟩;have:=HC.cons e h1 (by rw[h2];simpa using hm.2) h2 hd;rw[Int.add_comm];exact this
 ·rintro⟨t,ht,h⟩;have key:∀{u b d':Int},HC A R u b d'->∀d0,GW (vJ n ts) (DZ A R) (λe=>e.f) b d0->GW (vJ n ts) (DZ A R) (λe=>e.f) u (d0+d'):=λ{u b d'} hd=>by
   induction hd with
   |nil=>intro d0 h0;rw[Int.add_zero];exact h0
   |gU e _ he hf hr ih=>intro d0 h0;have:=GW.gU (en:=λe=>e.f) e h0 (jI.2 ⟨iF.2 ⟨he,rfl⟩,by simpa using hr⟩);have this:GW (vJ n ts) (DZ A R) (λe=>e.f) e.f (d0+e.w):=this;have e2:e.f=_:=hf;rw[e2] at this;have:=ih _ this;rw[Int.add_assoc,Int.add_comm e.w] at this;exact this
  have:=key h 0 (.nil ht);rwa[Int.zero_add] at this
end
section
structure Wn(n:Nat)(src:Int->Prop)(nx:Int->List bO)(en:bO->Int)(ds:List Int):Prop where
 len:ds.length=n
 srcs:∀v,src v->ds[v.toNat]? =some 0
 val:∀(v:Nat) (d:Int),ds[v]? =some d->d=-1\/(0<=d/\GW src nx en (v:Int) d/\d+BW<=met ds*BW)
section
variable{n:Nat}{src:Int->Prop}{nx:Int->List bO}{en:bO->Int}{ds:List Int}
theorem Wn.lower(h:Wn n src nx en ds)(hN:Gl n src nx en)(hn:n<=512){v:Nat}{x y:Int}{e:bO}(hx:ds[v]? =some x)(Lj:0<=x)(he:e∈nx (v:Int))(hy:ds[(en e).toNat]? =some y)(cC:y<0\/x+e.w<y):
  Wn n src nx en (ds.set (en e).toNat (x+e.w))/\total (ds.set (en e).toNat (x+e.w))<total ds:=by
 obtain⟨m1,m2,m3,m4⟩:=hN.arc _ e he;have hmet:=Ta (d:=x+e.w) hy aB;obtain⟨gx,bx⟩:GW src nx en (v:Int) x/\x+BW<=met ds*BW:=by
  rcases h.val _ _ hx with h1|⟨_,h2,h3⟩
  ·omega
  ·exact⟨h2,h3⟩
 have htl:(en e).toNat<ds.length:=by rw[h.len];omega
 have et:(((en e).toNat:Nat):Int)=en e:=iw m1;have hw:GW src nx en (en e) (x+e.w):=.gU e gx he;have Rf:x+e.w+BW<=met (ds.set (en e).toNat (x+e.w))*BW:=by
  rw[hmet];rcases cC with cC|cC
  ·rw[if_pos cC];simp only[BW] at*;omega
  ·rcases h.val _ _ hy with Dw|⟨_,_,Dw⟩
   ·rw[Dw,if_pos aB];simp only[BW] at*;omega
   ·rw[if_neg aB];simp only[BW] at*;omega
 refine⟨⟨by rw[nN];exact h.len,λu hu=>?_,λu d hd=>?_⟩,?_⟩
 ·rw[jA]
  by_cases Fo:(en e).toNat=u.toNat
  ·have:=h.srcs u hu;rw[<-Fo,hy] at this;cases this;omega
  ·rw[if_neg Fo];exact h.srcs u hu
 ·rw[jA] at hd
  by_cases Fo:(en e).toNat=u
  ·rw[if_pos Fo,if_pos htl] at hd;cases hd;subst Fo;exact .inr ⟨aB,by rw[et];exact hw,Rf⟩
  ·rw[if_neg Fo] at hd;refine(h.val u d hd).imp id λ⟨g1,g2,g3⟩=>⟨g1,g2,?_⟩;have:met ds<=met (ds.set (en e).toNat (x+e.w)):=by rw[hmet];omega
   simp only[BW] at*;omega
 ·have ht:=Oc (d:=x+e.w) hy;have jd:=ZC (ds.set (en e).toNat (x+e.w));rw[nN,h.len] at jd;have hb:bulk (x+e.w)<bulk y:=by
   unfold bulk;rw[if_neg aB];simp only[BW] at*
   split<;>omega
  omega
theorem Wn.done(h:Wn n src nx en ds)(hN:Gl n src nx en)(hr:∀(v:Nat) (x y:Int) (e:bO),ds[v]? =some x->0<=x->e∈nx (v:Int)->ds[(en e).toNat]? =some y->0<=y/\y<=x+e.w):MI n (GW src nx en) ds:=by
 have reach:∀{v d:Int},GW src nx en v d->∃c,ds[v.toNat]? =some c/\0<=c/\c<=d:=λ{v d} hw=>by
  induction hw with
  |nil hs=>exact⟨0,h.srcs _ hs,lK _,lK _⟩
  | @gU v d e hw he ih=>obtain⟨c,h1,h2,h3⟩:=ih;have hv:=hw.iq hN;have ev:(v.toNat:Int)=v:=iw hv.1;obtain⟨m1,m2,_⟩:=hN.arc _ e he;have hy:=cM (show(en e).toNat<ds.length by rw[h.len];omega);have:=hr v.toNat c _ e h1 h2 (by rw[ev];exact he) hy;exact⟨_,hy,this.1,aB⟩
 refine⟨h.len,λv d hd=>?_⟩;rcases h.val v d hd with h1|⟨h1,h2,_⟩
 ·refine .inl ⟨h1,λk hk=>?_⟩;obtain⟨c,g1,g2,_⟩:=reach hk;rw[dW,hd] at g1;cases g1;omega
 ·refine .inr ⟨h1,h2,λk hk=>?_⟩;obtain⟨c,g1,_,g3⟩:=reach hk;rw[dW,hd] at g1;cases g1;exact g3
end
end
section
theorem an{P P':Int->Prop}{x:Int}(h:gM P x)(h1:∀d,P d->∃d',d'<=d/\P' d')(h2:∀d,P' d->∃d',d'<=d/\P d'):gM P' x:=by
 rcases h with⟨e,hn⟩|⟨h0,hx,hm⟩
 ·refine .inl ⟨e,λk hk=>?_⟩;obtain⟨d',_,hd⟩:=h2 k hk;exact hn d' hd
 ·obtain⟨d',LK,hd⟩:=h1 x hx;obtain⟨d2,hle2,hd2⟩:=h2 d' hd;have:=hm d2 hd2;have e:d'=x:=aB;rw[e] at hd;refine .inr ⟨h0,hd,λk hk=>?_⟩;obtain⟨d3,hle3,hd3⟩:=h2 k hk;have:=hm d3 hd3;omega
theorem gM.or{P P':Int->Prop}{b d:Int}(h:gM P b)(h':gM P' d):gM (λk=>P k\/P' k) (if 0<=d/\(b<0\/d<b) then d else b):=by
 rcases h with⟨e,hn⟩|⟨h0,hx,hm⟩<;>rcases h' with⟨e',hn'⟩|⟨Lb,QB,je⟩
 ·rw[if_neg aB];exact .inl ⟨e,λk hk=>hk.elim (hn k) (hn' k)⟩
 ·rw[if_pos aB];exact .inr ⟨Lb,.inr QB,λk hk=>hk.elim (λh=>absurd h (hn k)) (je k)⟩
 ·rw[if_neg aB];exact .inr ⟨h0,.inl hx,λk hk=>hk.elim (hm k) λh=>absurd h (hn' k)⟩
 ·by_cases cC:d<b
  ·rw[if_pos ⟨Lb,.inr cC⟩];exact .inr ⟨Lb,.inr QB,λk hk=>hk.elim (λh=>by have:=hm k h;omega) (je k)⟩
  ·rw[if_neg aB];exact .inr ⟨h0,.inl hx,λk hk=>hk.elim (hm k) λh=>by have:=je k h;omega⟩
section
variable{n:Nat}{L:List bO}(hL:sD n L)(hw:∀e∈L,e.w<=40)(hn:n<=51){a:Int}(a0:0<=a)(a1:a<n)
include hL hw hn a0 a1
end
end
section
structure Gr where
 N:List (Int×Int)
 E:List (Int×Int×Int)
 B:List (Int×Int)
def Gr.m(G:Gr):Nat:=G.E.length
def Gr.n(G:Gr):Nat:=G.N.length
def Gr.ed(G:Gr)(i:Int):Int×Int×Int:=G.E.getD i.toNat (0,0,0)
abbrev Gr.fr(G:Gr)(i:Int):Int:=(G.ed i).1
abbrev Gr.to(G:Gr)(i:Int):Int:=(G.ed i).2.1
abbrev Gr.wt(G:Gr)(i:Int):Int:=(G.ed i).2.2
abbrev Gr.mH(G:Gr)(i:Int):Prop:=0<=i/\i<G.m
abbrev Gr.GB(G:Gr)(i:Int):Prop:=0<=i/\i<G.n
abbrev IZ(a b:Int×Int):Prop:=a.1<b.1\/(a.1=b.1/\a.2<b.2)
structure sS(G:Gr):Prop where
 n1:1<=G.n/\G.n<=256
 m1:1<=G.m/\G.m<=51
 nd:∀p∈G.N,(0<=p.1/\p.1<=4095)/\0<=p.2/\p.2<=4095
 ed:∀e∈G.E,(0<=e.1/\e.1<G.n)/\(0<=e.2.1/\e.2.1<G.n)/\1<=e.2.2/\e.2.2<=40
 bl:G.B.length<=1024
 bd:∀b∈G.B,G.mH b.1/\G.mH b.2/\G.to b.1=G.fr b.2
 bs:G.B.Pairwise IZ
def kL(k:Nat):List Int:=(List.range k).map λi:Nat=>(i:Int)
theorem CN{k:Nat}{x:Int}:x∈kL k↔0<=x/\x<k:=by
 unfold kL;simp only[mD,List.mem_range]
 constructor
 ·rintro⟨i,hi,rfl⟩;omega
 ·rintro⟨h0,h1⟩;exact⟨x.toNat,aB,aB⟩
theorem rC(k:Nat):(kL k).length=k:=by simp[kL]
theorem xB(k:Nat):kL (k+1)=kL k++[(k:Int)]:=by simp[kL,List.range_succ]
theorem Te(k:Nat):(kL k).Pairwise λx y=>x<y:=by
 unfold kL;rw[List.pairwise_map];exact List.Pairwise.imp (λ{a b:Nat} (h:a<b)=>aB) List.pairwise_lt_range
def Gr.sJ(G:Gr)(a b:Int):Bool:=decide (G.mH a) && (decide (G.mH b) && (decide (G.to a=G.fr b) && !decide ((a,b)∈G.B)))
theorem Gr.fN{G:Gr}{a b:Int}:G.sJ a b=true↔G.mH a/\G.mH b/\G.to a=G.fr b/\(a,b)∉G.B:=by
 unfold Gr.sJ;simp[sV]
def Gr.gL(G:Gr)(a:Int):List Int:=(kL G.m).filter λb=>G.sJ a b
def Gr.oP(G:Gr)(b:Int):List Int:=(kL G.m).filter λa=>G.sJ a b
def Gr.Ux(G:Gr)(v:Int):List Int:=(kL G.m).filter λe=>decide (G.to e=v)
def Gr.Vv(G:Gr)(v:Int):List Int:=(kL G.m).filter λe=>decide (G.fr e=v)
theorem Gr.tA{G:Gr}{a b:Int}:b∈G.gL a↔G.sJ a b=true:=by
 unfold Gr.gL;rw[jI,CN];exact⟨λh=>h.2,λh=>⟨(G.fN.1 h).2.1,h⟩⟩
theorem Gr.XB{G:Gr}{a b:Int}:a∈G.oP b↔G.sJ a b=true:=by
 unfold Gr.oP;rw[jI,CN];exact⟨λh=>h.2,λh=>⟨(G.fN.1 h).1,h⟩⟩
theorem Gr.yj{G:Gr}{e v:Int}:e∈G.Ux v↔G.mH e/\G.to e=v:=by
 unfold Gr.Ux;rw[jI,CN];simp
theorem Gr.yP(G:Gr)(a:Int):(G.gL a).length<=G.m:=by
 have:=zL (λb=>G.sJ a b) (kL G.m);rw[rC] at this;exact this
theorem Gr.Xz(G:Gr)(a:Int):(G.oP a).length<=G.m:=by
 have:=zL (λb=>G.sJ b a) (kL G.m);rw[rC] at this;exact this
theorem Gr.ym(G:Gr)(a:Int):(G.Ux a).length<=G.m:=by
 have:=zL (λe=>decide (G.to e=a)) (kL G.m);rw[rC] at this;exact this
theorem Gr.get_ed{G:Gr}{i:Int}(h:G.mH i):G.E[i.toNat]? =some (G.ed i):=by
 have:i.toNat<G.E.length:=by have:=h.2;unfold Gr.m at this;omega
 unfold Gr.ed;rw[LR,cM this];rfl
theorem Gr.TJ{G:Gr}{i:Int}(h:G.mH i):G.ed i∈G.E:=lD (G.get_ed h)
theorem sS.w1{G:Gr}(h:sS G){i:Int}(hi:G.mH i):1<=G.wt i/\G.wt i<=40:=(h.ed _ (G.TJ hi)).2.2
def Gr.AB(G:Gr):List bO:=(kL G.m).flatMap λa=>(G.gL a).map λb=>⟨a,b,G.wt b,-1⟩
def Gr.LM(G:Gr):List bO:=G.AB.filter λe=>!(e.f==e.t)
theorem Gr.Hx{G:Gr}{e:bO}:e∈G.AB↔G.sJ e.f e.t=true/\e.w=G.wt e.t/\e.m=-1:=by
 unfold Gr.AB;simp only[List.mem_flatMap,mD,CN]
 constructor
 ·rintro⟨a,_,b,hb,rfl⟩;exact⟨G.tA.1 hb,rfl,rfl⟩
 ·rintro⟨h1,h2,h3⟩;refine⟨e.f,(G.fN.1 h1).1,e.t,G.tA.2 h1,?_⟩;cases e;simp_all
theorem Gr.Tb{G:Gr}{e:bO}:e∈G.LM↔(G.sJ e.f e.t=true/\e.w=G.wt e.t/\e.m=-1)/\e.f≠e.t:=by
 unfold Gr.LM;rw[jI,G.Hx];simp
theorem Gr.arcs_srt(G:Gr):BU G.AB:=by
 unfold BU Gr.AB;rw[List.pairwise_flatMap];refine⟨λa _=>?_,List.Pairwise.imp (λ{a b} h x hx y hy=>?_) (Te G.m)⟩
 ·rw[List.pairwise_map];have h:(G.gL a).Pairwise λx y:Int=>x<y:=RY _ (Te G.m);refine List.Pairwise.imp (λ{x y:Int} (h:x<y)=>?_) h;rw[lN];exact .inr ⟨rfl,h⟩
 ·obtain⟨_,_,rfl⟩:=mD.1 hx;obtain⟨_,_,rfl⟩:=mD.1 hy;exact lN.2 (.inl h)
theorem sS.WI{G:Gr}(h:sS G):∀e∈G.LM,FD G.m e/\e.w<=40/\e.m=-1:=λe he=>by
 obtain⟨⟨h1,h2,h3⟩,h4⟩:=G.Tb.1 he;obtain⟨t1,t2,_,_⟩:=G.fN.1 h1;have hw:=h.w1 t2;exact⟨⟨t1.1,t1.2,t2.1,t2.2,h4,aB,aB,.inl h3⟩,aB,h3⟩
theorem sS.TG{G:Gr}(h:sS G):sD G.m G.LM:=⟨RY _ G.arcs_srt,λe he=>(h.WI e he).1⟩
theorem Gr.Yw(G:Gr)(hm:G.m<=51):G.AB.length<=2601:=by
 have:=MV (λa=>(G.gL a).map λb=>(⟨a,b,G.wt b,-1⟩:bO)) 51 (kL G.m) λa _=>by rw[oH];have:=G.yP a;omega
 rw[rC] at this;unfold Gr.AB;omega
def jL(c:List Bool)(e:Int):Bool:=c.getD e.toNat false
theorem Xs(e:Int):jL [] e=false:=rfl
def Gr.src(G:Gr)(v e:Int):Prop:=G.mH e/\G.to e=v
def Gr.nx(G:Gr)(c:List Bool)(b:Int):List bO:=if jL c b=true then [] else(G.oP b).map λa=>⟨a,b,G.wt b,-1⟩
theorem Gr.CD{G:Gr}{c:List Bool}{b:Int}{e:bO}:e∈G.nx c b↔jL c b=false/\G.sJ e.f b=true/\e=⟨e.f,b,G.wt b,-1⟩:=by
 unfold Gr.nx
 split
 ·rename_i h;simp[h]
 ·rename_i h
  rw[mD]
  constructor
  ·rintro⟨a,ha,rfl⟩;exact⟨by simpa using h,G.XB.1 ha,rfl⟩
  ·rintro⟨_,h2,h3⟩;exact⟨e.f,G.XB.2 h2,h3.symm⟩
abbrev Gr.gw(G:Gr)(c:List Bool)(v:Int):Int->Int->Prop:=GW (G.src v) (G.nx c) (λe=>e.f)
theorem sS.nxOk{G:Gr}(h:sS G)(c:List Bool)(v:Int):Gl G.m (G.src v) (G.nx c) (λe=>e.f):=by
 refine⟨λe he=>he.1,λb e he=>?_⟩;obtain⟨_,h2,h3⟩:=G.CD.1 he;obtain⟨t1,t2,_⟩:=G.fN.1 h2;have hw:=h.w1 t2;have:e.w=G.wt b:=by rw[h3]
 exact⟨t1.1,t1.2,aB,by rw[this];simp only[BW];omega⟩
theorem Gr.WJ{G:Gr}{c:List Bool}{v a b d:Int}(h:G.gw c v b d)(ht:G.sJ a b=true)(hs:jL c b=false):G.gw c v a (d+G.wt b):=
 GW.gU (en:=λe=>e.f) (⟨a,b,G.wt b,-1⟩:bO) h (G.CD.2 ⟨hs,ht,rfl⟩)
theorem Gr.gw_inv{G:Gr}{c:List Bool}{v a d:Int}(h:G.gw c v a d):(d=0/\G.src v a)\/∃b d',G.gw c v b d'/\G.sJ a b=true/\jL c b=false/\d=d'+G.wt b:=by
 cases h with
 |nil h=>exact .inl ⟨rfl,h⟩
 | @gU b d' e h he=>
  obtain⟨h1,h2,h3⟩:=G.CD.1 he;have hw:e.w=G.wt b:=by rw[h3]
  exact .inr ⟨b,d',h,h2,h1,by rw[hw]⟩
theorem Gr.Es{G:Gr}{c:List Bool}{v a d:Int}(h:G.gw c v a d):G.gw [] v a d:=by
 induction h with
 |nil h=>exact .nil h
 |gU e h he ih=>obtain⟨h1,h2,h3⟩:=G.CD.1 he;exact .gU e ih (G.CD.2 ⟨rfl,h2,h3⟩)
theorem sS.Hh{G:Gr}(h:sS G){c:List Bool}{v a d:Int}(hw:G.gw c v a d):G.mH a/\0<=d:=by
 have:=hw.iq (h.nxOk c v);exact⟨⟨this.1,this.2.1⟩,this.2.2⟩
theorem sS.walk_gw{G:Gr}{v a b d:Int}(h:gB G.LM (-1) a b d):∀d0,G.gw [] v b d0->G.gw [] v a (d0+d):=by
 induction h with
 |nil=>intro d0 h0;rw[Int.add_zero];exact h0
 | @gU x d e _ he hf _ ih=>intro d0 h0;obtain⟨⟨h1,h2,_⟩,_⟩:=G.Tb.1 he;have h3:=G.WJ h0 h1 rfl;rw[hf,<-h2] at h3;have:=ih _ h3;rwa[show d0+(d+e.w)=d0+e.w+d by omega]
theorem sS.gw_walk{G:Gr}(hG:sS G){v a d:Int}(h:G.gw [] v a d):∃d' t,d'<=d/\G.src v t/\gB G.LM (-1) a t d':=by
 induction h with
 | @nil a h=>exact⟨0,a,lK _,h,.nil⟩
 | @gU b d e h he ih=>
  obtain⟨_,h2,h3⟩:=G.CD.1 he;have hwe:e.w=G.wt b:=by rw[h3]
  have hte:e.t=b:=by rw[h3]
  have hme:e.m=-1:=by rw[h3]
  obtain⟨d',t,LK,ht,hw⟩:=ih;have hwt:=hG.w1 (G.fN.1 h2).2.1;show∃d' t,d'<=d+e.w/\G.src v t/\gB G.LM (-1) e.f t d'
  by_cases uk:e.f=b
  ·rw[uk];exact⟨d',t,aB,ht,hw⟩
  ·have hnet:e∈G.LM:=G.Tb.2 ⟨⟨by rw[hte];exact h2,by rw[hte];exact hwe,hme⟩,by rw[hte];exact uk⟩;have h1:=gB.gU (a:=e.f) e (.nil (L:=G.LM) (c:=-1)) hnet rfl (by have:=(G.fN.1 h2).2.1.1;omega);rw[Int.zero_add,hte] at h1;exact⟨e.w+d',t,aB,ht,h1.trans hw⟩
def pB(ds:List Int)(e:Int):Int:=ds.getD e.toNat (-1)
abbrev Gr.oK(G:Gr)(c:List Bool)(v:Int)(ds:List Int):Prop:=MI G.m (G.gw c v) ds
theorem ED{n:Nat}{P:Int->Int->Prop}{ds:List Int}(h:MI n P ds){e:Int}(he:0<=e/\e<n):ds[e.toNat]? =some (pB ds e):=by
 have:e.toNat<ds.length:=by have:=h.1;omega
 unfold pB;rw[LR,cM this];rfl
theorem Oz{n:Nat}{P:Int->Int->Prop}{ds:List Int}(h:MI n P ds){e:Int}(he:0<=e/\e<n):gM (P e) (pB ds e):=by
 have:=h.2 e.toNat _ (ED h he);rwa[iw he.1] at this
def Gr.qG(G:Gr)(c:List Bool)(ds:List Int)(e n:Int):Bool:=!jL c n && (decide (0<=pB ds n) && decide (pB ds n+G.wt n=pB ds e))
def Gr.QJ(G:Gr)(c:List Bool)(ds:List Int)(e:Int):Option Int:=(G.gL e).find? (G.qG c ds e)
inductive Gr.vH(G:Gr)(c:List Bool)(ds:List Int):Int->List Int->Prop where
 |nil {e:Int} (h:pB ds e=0):vH G c ds e []
 |cons {e n:Int} {l:List Int} (h:0<pB ds e) (hs:G.QJ c ds e=some n) (hl:vH G c ds n l):vH G c ds e (n::l)
theorem Gr.vH.uniq{G:Gr}{c:List Bool}{ds:List Int}{e:Int}{l l':List Int}(h:G.vH c ds e l):G.vH c ds e l'->l=l':=by
 induction h generalizing l' with
 |nil h=>intro h';cases h' with
  |nil=>rfl
  |cons h1=>omega
 |cons h hs _ ih=>intro h';cases h' with
  |nil h1=>omega
  |cons _ DB hl'=>rw[hs] at DB;cases DB;rw[ih hl']
theorem Gr.wY{G:Gr}{c:List Bool}{ds:List Int}{e n:Int}(h:G.QJ c ds e=some n):G.sJ e n=true/\jL c n=false/\0<=pB ds n/\pB ds n+G.wt n=pB ds e:=by
 have h1:=List.find?_some h;have h2:=ly9 h;unfold Gr.qG at h1;simp[sV] at h1;exact⟨G.tA.1 h2,h1.1,h1.2.1,h1.2.2⟩
theorem sS.TL{G:Gr}(_:sS G){c:List Bool}{v:Int}{ds:List Int}(hd:G.oK c v ds){e:Int}(he:G.mH e)(h:0<=pB ds e):G.gw c v e (pB ds e):=by
 rcases Oz hd he with⟨h1,_⟩|⟨_,h1,_⟩
 ·omega
 ·exact h1
section
variable{G:Gr}(hG:sS G){c:List Bool}{v:Int}{ds:List Int}(hd:G.oK c v ds)
include hG hd
theorem sS.FL{e d:Int}(h:G.gw c v e d):0<=pB ds e/\pB ds e<=d:=by
 rcases Oz hd (hG.Hh h).1 with⟨_,h1⟩|⟨h0,_,h1⟩
 ·exact absurd h (h1 d)
 ·exact⟨h0,h1 d h⟩
theorem sS.step_ex{e:Int}(he:G.mH e)(h:0<pB ds e):∃n,G.QJ c ds e=some n:=by
 rcases G.gw_inv (hG.TL hd he aB) with⟨h0,_⟩|⟨b,d',h1,h2,h3,h4⟩
 ·omega
 ·obtain⟨g0,g1⟩:=hG.FL hd h1;have g2:=hG.TL hd (hG.Hh h1).1 g0;have g3:=(hG.FL hd (G.WJ g2 h2 h3)).2;cases hf:G.QJ c ds e with
  |some n=>exact⟨n,rfl⟩
  |none=>unfold Gr.QJ at hf;have:=List.find?_eq_none.1 hf b (G.tA.2 h2);unfold Gr.qG at this;simp[h3,g0] at this;omega
theorem sS.Td:∀(k:Nat) {e:Int},G.mH e->0<=pB ds e->pB ds e<=k->∃l,G.vH c ds e l
 |k,e,he,h0,hk=>by
  rcases Int.lt_or_le 0 (pB ds e) with hp|hp
  ·obtain⟨n,hn⟩:=hG.step_ex hd he hp;obtain⟨s1,_,s3,s4⟩:=G.wY hn;have hw:=hG.w1 (G.fN.1 s1).2.1;obtain⟨k',rfl⟩:∃k',k=k'+1:=⟨k-1,aB⟩;obtain⟨l,hl⟩:=sS.Td k' (G.fN.1 s1).2.1 s3 aB;exact⟨n::l,.cons hp hn hl⟩
  ·exact⟨[],.nil aB⟩
end
def Gr.kQ(G:Gr)(l:List Int):Int:=(l.map G.wt).sum
theorem Gr.ZI(G:Gr)(x:Int)(l:List Int):G.kQ (x::l)=G.wt x+G.kQ l:=by simp[Gr.kQ]
def Gr.BX(G:Gr):Int->List Int->Bool
 |_,[]=>true
 |e,x::l=>G.sJ e x && G.BX x l
theorem Gr.vH.KT{G:Gr}(hG:sS G){c:List Bool}{ds:List Int}{e:Int}{l:List Int}(h:G.vH c ds e l):G.kQ l=pB ds e/\G.BX e l=true/\(∀x∈l,G.mH x/\jL c x=false)/\(l.length:Int)<=pB ds e/\pB ds (l.getLast?.getD e)=0:=by
 induction h with
 |nil h=>exact⟨by rw[h];rfl,rfl,by simp,by rw[h];simp,h⟩
 | @cons e n l h hs hl ih=>
  obtain⟨s1,s2,s3,s4⟩:=G.wY hs;obtain⟨i1,i2,i3,i4,i5⟩:=ih;have hn:=(G.fN.1 s1).2.1;have hw:=hG.w1 hn;refine⟨by rw[G.ZI,i1];omega,by simp[Gr.BX,s1,i2],λx hx=>?_,by simp only[mE];omega,?_⟩
  ·rcases jO.1 hx with rfl|hx
   ·exact⟨hn,s2⟩
   ·exact i3 x hx
  ·rw[List.getLast?_cons];exact i5
theorem Gr.vH.falls{G:Gr}(hG:sS G){c:List Bool}{ds:List Int}{e:Int}{l:List Int}(h:G.vH c ds e l):l.Pairwise (λa b=>pB ds b<pB ds a)/\∀x∈l,pB ds x<pB ds e:=by
 induction h with
 |nil h=>exact⟨List.Pairwise.nil,by simp⟩
 | @cons e n l h hs hl ih=>
  obtain⟨s1,s2,s3,s4⟩:=G.wY hs;have hw:=hG.w1 (G.fN.1 s1).2.1;refine⟨List.pairwise_cons.2 ⟨ih.2,ih.1⟩,λx hx=>?_⟩;rcases jO.1 hx with rfl|hx
  ·omega
  ·have:=ih.2 x hx;omega
theorem Gr.vH.len{G:Gr}(hG:sS G){c:List Bool}{ds:List Int}{e:Int}{l:List Int}(h:G.vH c ds e l):l.length<=G.m:=by
 have h1:=(h.falls hG).1;have h2:=(h.KT hG).2.2.1;refine xA (List.Pairwise.imp (λ{a b} (h:pB ds b<pB ds a)=>λe=>?_) h1) λx hx=>(h2 x hx).1;rw[e] at h;omega
section
variable{G:Gr}(hG:sS G){c:List Bool}{v:Int}
include hG
theorem sS.Xn{ds:List Int}(hd:G.oK c v ds){e:Int}(he:G.mH e)(h:pB ds e=0):G.src v e:=by
 rcases G.gw_inv (hG.TL hd he aB) with⟨_,h1⟩|⟨b,d',h1,h2,_,h4⟩
 ·exact h1
 ·have:=hG.w1 (G.fN.1 h2).2.1;have:=(hG.Hh h1).2;omega
theorem sS.Tc{c':List Bool}{ds:List Int}(hd:G.oK c' v ds){e:Int}(he:G.mH e){l:List Int}(h:G.vH c' ds e l)(hs:∀x∈l,jL c x=false):G.gw c v e (G.kQ l):=by
 induction h with
 |nil h=>exact .nil (hG.Xn hd he h)
 | @cons e n l _ vE _ ih=>obtain⟨s1,_⟩:=G.wY vE;have:=G.WJ (ih (G.fN.1 s1).2.1 λx hx=>hs x (by simp[hx])) s1 (hs n dN);rw[G.ZI,Int.add_comm];exact this
omit hG in
theorem Yn{p q:Int->Bool}{n:Int}:∀{l:List Int},l.find? p=some n->q n=true->(∀x∈l,q x=true->p x=true)->l.find? q=some n
 | [],h,_,_=>by cases h
 |x::l,h,hq,hi=>by
  rw[List.find?_cons] at h ⊢;cases hp:p x with
  |true=>rw[hp] at h;cases h;rw[hq]
  |false=>
   rw[hp] at h;cases hqx:q x with
   |true=>rw[hi x dN hqx] at hp;cases hp
   |false=>exact Yn h hq λy hy=>hi y (by simp[hy])
theorem sS.lway_same{d0 d1:List Int}(h0:G.oK [] v d0)(h1:G.oK c v d1){e:Int}(he:G.mH e){l:List Int}(h:G.vH [] d0 e l)(hs:∀x∈l,jL c x=false):G.vH c d1 e l/\pB d1 e=pB d0 e:=by
 induction h with
 | @nil e h=>obtain⟨g0,g1⟩:=hG.FL h1 (.nil (hG.Xn h0 he h));have:pB d1 e=0:=aB;exact⟨.nil this,aB⟩
 | @cons e n l hp vE hl ih=>
  obtain⟨s1,_,s3,s4⟩:=G.wY vE;have hn:=(G.fN.1 s1).2.1;obtain⟨i1,i2⟩:=ih hn λx hx=>hs x (by simp[hx]);have hsn:=hs n dN;have hgn:=hG.TL h1 hn aB;obtain⟨g0,g1⟩:=hG.FL h1 (G.WJ hgn s1 hsn);have g2:=(hG.FL h0 (G.Es (hG.TL h1 he g0))).2;have heq:pB d1 e=pB d0 e:=aB;refine⟨.cons aB (Yn vE ?_ λx hx hqx=>?_) i1,heq⟩
  ·unfold Gr.qG;simp[hsn];omega
  ·unfold Gr.qG at hqx ⊢;simp at hqx;have htx:=G.tA.1 hx;have hgx:=hG.TL h1 (G.fN.1 htx).2.1 hqx.2.1;obtain⟨g3,g4⟩:=hG.FL h0 (G.Es hgx);have g5:=(hG.FL h0 (G.WJ (hG.TL h0 (G.fN.1 htx).2.1 g3) htx (Xs x))).2;simp[Xs,g3];omega
end
inductive Gr.zU(G:Gr)(v e:Int)(c:List Bool):List Int->Int->Bool->Bool->Prop where
 |no (h:∀d,G.GB v->¬G.gw c v e d):zU G v e c [] 0 false false
 |kc {d0:List Int} {l:List Int} (hv:G.GB v) (he:G.mH e) (h0:G.oK [] v d0) (h:G.vH [] d0 e l) (hs:∀x∈l,jL c x=false):zU G v e c l (G.kQ l) true false
 |oK {d0 d1:List Int} {l0 l:List Int} (hv:G.GB v) (he:G.mH e) (h0:G.oK [] v d0) (h1:G.oK c v d1) (hl:G.vH [] d0 e l0) (hs:∃x∈l0,jL c x=true) (h:G.vH c d1 e l):zU G v e c l (G.kQ l) true true
theorem sS.Yx{G:Gr}(hG:sS G){v e:Int}{c:List Bool}{l l':List Int}{w w':Int}{f f' r r':Bool}(h:G.zU v e c l w f r)(h':G.zU v e c l' w' f' r'):l=l'/\w=w'/\f=f'/\r=r':=by
 have nn:∀{d0 l},(∀d,G.GB v->¬G.gw c v e d)->G.GB v->G.mH e->G.oK [] v d0->G.vH [] d0 e l->(∀x∈l,jL c x=false)->False:=λpA hv he h0 hl hs=>pA _ hv (hG.Tc h0 he hl hs);have nf:∀{d1 l},(∀d,G.GB v->¬G.gw c v e d)->G.GB v->G.mH e->G.oK c v d1->G.vH c d1 e l->False:=λpA hv he h1 hl=>pA _ hv (hG.Tc h1 he hl λx hx=>((hl.KT hG).2.2.1 x hx).2);have ne:∀{d0 d0' l l0},G.oK [] v d0->G.oK [] v d0'->G.vH [] d0 e l->G.vH [] d0' e l0->l=l0:=λh0 Lb h h'=>by
  rw[h0.one Lb] at h;exact h.uniq h'
 cases h with
 |no pA=>cases h' with
  |no=>exact⟨rfl,rfl,rfl,rfl⟩
  |kc hv he h0 hl hs=>exact(nn pA hv he h0 hl hs).elim
  |oK hv he _ h1 _ _ hl=>exact(nf pA hv he h1 hl).elim
 |kc hv he h0 hl hs=>cases h' with
  |no pA=>exact(nn pA hv he h0 hl hs).elim
  |kc _ _ Lb hl' _=>rw[ne h0 Lb hl hl'];exact⟨rfl,rfl,rfl,rfl⟩
  |oK _ _ Lb _ hl' DB _=>obtain⟨x,hx,hsx⟩:=DB;rw[<-ne h0 Lb hl hl'] at hx;rw[hs x hx] at hsx;cases hsx
 |oK hv he h0 h1 hl0 hs hl=>cases h' with
  |no pA=>exact(nf pA hv he h1 hl).elim
  |kc _ _ Lb hl' DB=>obtain⟨x,hx,hsx⟩:=hs;rw[ne h0 Lb hl0 hl'] at hx;rw[DB x hx] at hsx;cases hsx
  |oK _ _ _ h1' _ _ hl'=>rw[h1.one h1'] at hl;rw[hl.uniq hl'];exact⟨rfl,rfl,rfl,rfl⟩
theorem ic.front{A:List bO}{rs:List Int}{a b d:Int}(h:ic A rs a b d):(b=a/\d=0)\/∃e∈A,e.f=a/\cB rs e.f<cB rs e.t/\∃d',ic A rs e.t b d'/\d=e.w+d':=by
 induction h with
 |nil=>exact .inl ⟨rfl,rfl⟩
 | @gU v d e _ he hf hr ih=>
  rcases ih with⟨h1,h2⟩|⟨e1,g1,g2,g3,d',g4,g5⟩
  ·exact .inr ⟨e,he,by rw[hf,h1],hr,0,.nil,aB⟩
  ·exact .inr ⟨e1,g1,g2,g3,d'+e.w,.gU e g4 he hf hr,aB⟩
def UPD(A:List bO)(R:List Int)(Dn:Int->Int->Prop)(v d:Int):Prop:=∃k d1 d2,ic A R v k d1/\Dn k d2/\d=d1+d2
theorem upd_iff{A:List bO}{R:List Int}{Dn:Int->Int->Prop}{v d:Int}:UPD A R Dn v d↔Dn v d\/∃e∈upL A R v,∃d',UPD A R Dn e.t d'/\d=e.w+d':=by
 constructor
 ·rintro⟨k,d1,d2,h1,h2,h3⟩;rcases h1.front with⟨g1,g2⟩|⟨e,g1,g2,g3,d',g4,g5⟩
  ·rw[g1] at h2;exact .inl (by rw[h3,g2,Int.zero_add];exact h2)
  ·refine .inr ⟨e,?_,d'+d2,⟨k,d',d2,g4,h2,rfl⟩,aB⟩;unfold upL;rw[jI,eL];exact⟨⟨g1,g2⟩,by rw[<-g2];simpa using g3⟩
 ·rintro(h|⟨e,he,d',⟨k,d1,d2,h1,h2,h3⟩,h4⟩)
  ·exact⟨v,0,d,.nil,h,aB⟩
  ·unfold upL at he;rw[jI,eL] at he;obtain⟨⟨g1,g2⟩,g3⟩:=he;have g3':cB R v<cB R e.t:=by simpa using g3
   have:=ic.cons e g1 (by rw[g2];exact g3') rfl h1;rw[g2] at this;exact⟨k,e.w+d1,d2,this,h2,aB⟩
theorem gM.plus{P:Int->Prop}{y w:Int}(h:gM P y)(hw:0<=w):gM (λd=>∃d',P d'/\d=w+d') (if y<0 then-1 else y+w):=by
 rcases h with⟨e,hn⟩|⟨h0,hx,hm⟩
 ·rw[if_pos aB];exact .inl ⟨rfl,λk ⟨d',hd,_⟩=>hn d' hd⟩
 ·rw[if_neg aB];exact .inr ⟨aB,⟨y,hx,aB⟩,λk ⟨d',hd,e⟩=>by have:=hm d' hd;omega⟩
theorem gM.lower{P P':Int->Prop}{x y w:Int}(h:gM P x)(h':gM P' y)(hw:0<=w):gM (λd=>P d\/∃d',P' d'/\d=w+d') (if 0<=y/\(x<0\/y+w<x) then y+w else x):=by
 have:=h.or (h'.plus hw);have e:(if 0<=(if y<0 then-1 else y+w)/\(x<0\/(if y<0 then-1 else y+w)<x) then(if y<0 then-1 else y+w) else x)=(if 0<=y/\(x<0\/y+w<x) then y+w else x):=by
  by_cases h1:y<0
  ·rw[if_pos h1,if_neg aB,if_neg aB]
  ·rw[if_neg h1]
   by_cases h2:x<0\/y+w<x
   ·rw[if_pos ⟨aB,h2⟩,if_pos ⟨aB,h2⟩]
   ·rw[if_neg (λh=>h2 h.2),if_neg (λh=>h2 h.2)]
 rwa[e] at this
theorem rank_onto{n:Nat}{L:List bO}(hL:sD n L)(hw:∀e∈L,e.w<=40)(hn:n<=51){r:Nat}(hr:r<n):∃v:Nat,v<n/\cB (cW n L n).iZ (v:Int)=(r:Int):=by
 have iq:∀v:Nat,v<n->0<=cB (cW n L n).iZ (v:Int)/\cB (cW n L n).iZ (v:Int)<n:=λv hv=>Hr hL hw hn aB aB;have inj:∀v w:Nat,v<n->w<n->cB (cW n L n).iZ (v:Int)=cB (cW n L n).iZ (w:Int)->v=w:=λv w hv hw' e=>by
  rcases Nat.lt_trichotomy v w with h|h|h
  ·exact absurd e (En hL hw hn aB aB aB aB aB)
  ·exact h
  ·exact absurd e (En hL hw hn aB aB aB aB aB)
 generalize cB (cW n L n).iZ=f at*;have nd:(((List.range n).map λv:Nat=>f (v:Int))).Nodup:=by rw[List.Nodup,List.pairwise_map];refine List.Pairwise.imp_of_mem (λ{a b} ha hb (h:a<b) e=>?_) List.pairwise_lt_range;have:=inj a b (List.mem_range.1 ha) (List.mem_range.1 hb) e;omega
 rcases Classical.em (∃v:Nat,v<n/\f (v:Int)=(r:Int)) with h|h
 ·exact h
 ·exfalso;have key:=xA (m:=n) (l:=(r:Int)::(List.range n).map λv:Nat=>f (v:Int)) ?_ ?_
  ·simp at key;omega
  ·rw[List.nodup_cons];refine⟨λhm=>?_,nd⟩;obtain⟨v,hv,e⟩:=mD.1 hm;exact h ⟨v,List.mem_range.1 hv,e⟩
  ·intro x hx;rcases jO.1 hx with rfl|hx
   ·omega
   ·obtain⟨v,hv,rfl⟩:=mD.1 hx;exact iq v (List.mem_range.1 hv)
theorem sS.qk{G:Gr}(hG:sS G){v:Int}{ds:List Int}
  (h:MI G.m (UPD (cW G.m G.LM G.m).all (cW G.m G.LM G.m).iZ (GW (vJ G.m (G.Ux v)) (DZ (cW G.m G.LM G.m).all (cW G.m G.LM G.m).iZ) (λe=>e.f))) ds):G.oK [] v ds:=by
 have hL:=hG.TG;have hw:∀e∈G.LM,e.w<=40:=λe he=>(hG.WI e he).2.1;have hn:=hG.m1.2;have insrc:∀t,vJ G.m (G.Ux v) t↔G.src v t:=λt=>by
  unfold vJ;rw[G.yj];exact⟨λh=>h.1,λh=>⟨h,h.1.1,h.1.2⟩⟩
 refine⟨h.1,λa d hd=>?_⟩;have ha:a<G.m:=by have:=(eQ.1 hd).1;rw[h.1] at this;exact this
 refine an (h.2 a d hd) (λd ⟨k,d1,d2,h1,h2,h3⟩=>?_) (λd hg=>?_)
 ·obtain⟨t,ht,h4⟩:=yy.1 h2;have hwk:=(ud_iff hL hw hn (a:=(a:Int)) (b:=t) aB aB ht.2.1 ht.2.2).2 k d1 d2 h1 h4;have:=sS.walk_gw hwk 0 (.nil ((insrc t).1 ht));rw[Int.zero_add] at this;exact⟨d,lK _,by rw[h3];exact this⟩
 ·obtain⟨d',t,LK,ht,hwk⟩:=hG.gw_walk hg;obtain⟨m,d1,d2,h1,h2,h3⟩:=(ud_iff hL hw hn (a:=(a:Int)) (b:=t) aB aB ht.1.1 ht.1.2).1 d' hwk;exact⟨d1+d2,aB,m,d1,d2,h1,yy.2 ⟨t,(insrc t).2 ht,h2⟩,rfl⟩
structure Md(m:Nat)(A:List bO)(R:List Int)(Dn:Int->Int->Prop)(i:Nat)(ds:List Int):Prop where
 len:ds.length=m
 up:∀(v:Nat) (x:Int),ds[v]? =some x->(m:Int)-i<=cB R (v:Int)->gM (UPD A R Dn (v:Int)) x
 dn:∀(v:Nat) (x:Int),ds[v]? =some x->cB R (v:Int)<(m:Int)-i->gM (Dn (v:Int)) x
 gX:∀(v:Nat) (x:Int),ds[v]? =some x->-1<=x/\x<=(m+i)*BW
theorem Md.start{m:Nat}{A:List bO}{R ds:List Int}{Dn:Int->Int->Prop}(h:MI m Dn ds)(hr:∀v:Int,0<=v->v<m->cB R v<m)(hb:∀(v:Nat) (x:Int),ds[v]? =some x->-1<=x/\x<=m*BW):Md m A R Dn 0 ds:=by
 refine⟨h.1,λv x hx hk=>?_,λv x hx _=>h.2 v x hx,λv x hx=>by have:=hb v x hx;simpa using this⟩;have hv:=(eQ.1 hx).1;rw[h.1] at hv;have:=hr (v:Int) aB aB;omega
theorem Md.step{m i:Nat}{A:List bO}{R ds:List Int}{Dn:Int->Int->Prop}(h:Md m A R Dn i ds)(gK:∀v w:Nat,v<m->w<m->v≠w->cB R (v:Int)≠cB R (w:Int)){v:Nat}(hv:v<m)(hr:cB R (v:Int)=(m:Int)-1-i){x:Int}
  (hx:gM (UPD A R Dn (v:Int)) x) (hb:-1<=x/\x<=(m+(i+1:Nat))*BW):Md m A R Dn (i+1) (ds.set v x):=by
 have get:∀{u:Nat} {y:Int},(ds.set v x)[u]? =some y->(u=v/\y=x)\/(u≠v/\u<m/\ds[u]? =some y):=λ{u y} hu=>by
  rw[jA] at hu
  by_cases e:v=u
  ·rw[if_pos e,if_pos (by rw[h.len];omega)] at hu;cases hu;exact .inl ⟨e.symm,rfl⟩
  ·rw[if_neg e] at hu;exact .inr ⟨λe'=>e e'.symm,by have:=(eQ.1 hu).1;rw[h.len] at this;exact this,hu⟩
 refine⟨by rw[nN];exact h.len,λu y hu hk=>?_,λu y hu hk=>?_,λu y hu=>?_⟩
 ·rcases get hu with⟨rfl,rfl⟩|⟨YS,hum,hu⟩
  ·exact hx
  ·have:=gK u v hum hv YS;exact h.up u y hu aB
 ·rcases get hu with⟨rfl,rfl⟩|⟨_,_,hu⟩
  ·omega
  ·exact h.dn u y hu aB
 ·rcases get hu with⟨rfl,rfl⟩|⟨_,_,hu⟩
  ·exact hb
  ·have:=h.gX u y hu;simp only[BW] at*;omega
theorem Md.done{m:Nat}{A:List bO}{R ds:List Int}{Dn:Int->Int->Prop}(h:Md m A R Dn m ds)(hr:∀v:Int,0<=v->v<m->0<=cB R v):MI m (UPD A R Dn) ds:=
 ⟨h.len,λv x hx=>h.up v x hx (by
  have hv:=(eQ.1 hx).1;rw[h.len] at hv;have:=hr (v:Int) aB aB;omega)⟩
end
def gk(key:Int->Int)(k:Nat)(v:Nat):List Int:=(kL k).filter λe=>decide (key e=(v:Int))
def cK(key:Int->Int)(k:Nat)(v:Nat):Nat:=(gk key k v).length
theorem Yl(key:Int->Int)(k v:Nat):gk key (k+1) v=gk key k v++if key (k:Int)=(v:Int) then [(k:Int)] else []:=by
 unfold gk;rw[xB,VH];congr 1
 by_cases h:key (k:Int)=(v:Int)<;>simp[h]
theorem WM(key:Int->Int)(k v:Nat):cK key (k+1) v=cK key k v+if key (k:Int)=(v:Int) then 1 else 0:=by
 unfold cK;rw[Yl,fJ]
 split<;>rfl
theorem cK_zero(key:Int->Int)(v:Nat):cK key 0 v=0:=rfl
theorem cK_le(key:Int->Int){k m:Nat}(h:k<=m)(v:Nat):cK key k v<=cK key m v:=by
 induction h with
 |refl=>exact dL _
 |step _ ih=>rw[WM];omega
theorem ny(key:Int->Int)(k v:Nat):cK key k v<=k:=by
 have:=zL (λe=>decide (key e=(v:Int))) (kL k);rw[rC] at this;exact this
def qC(c:Nat->Nat):Nat->Nat
 |0=>0
 |v+1=>qC c v+c v
theorem WH(c:Nat->Nat){v u:Nat}(h:v<u):qC c v+c v<=qC c u:=by
 induction h with
 |refl=>exact dL _
 |step _ ih=>show _<=qC c _+c _;omega
theorem preK_add(c:Nat->Nat)(a:Int)(n:Nat):qC (λv=>c v+if a=(v:Int) then 1 else 0) n=qC c n+if 0<=a/\a<n then 1 else 0:=by
 induction n with
 |zero=>have:¬(0<=a/\a<((0:Nat):Int)):=aB;rw[if_neg this];rfl
 |succ n ih=>
  show qC _ n+(c n+_)=qC c n+c n+_;rw[ih]
  by_cases h1:a=(n:Int)
  ·rw[if_neg aB,if_pos h1,if_pos aB];omega
  ·by_cases h2:0<=a/\a<n
   ·rw[if_pos h2,if_neg h1,if_pos aB];omega
   ·rw[if_neg h2,if_neg h1,if_neg aB];omega
theorem WZ{key:Int->Int}{n:Nat}:∀{m:Nat},(∀i:Nat,i<m->0<=key (i:Int)/\key (i:Int)<n)->qC (cK key m) n=m
 |0,_=>by
  have:∀n,qC (cK key 0) n=0:=λn=>by
   induction n with
   |zero=>rfl
   |succ n ih=>show qC _ n+cK key 0 n=0;rw[ih];rfl
  exact this n
 |m+1,h=>by
  have e:cK key (m+1)=λv=>cK key m v+if key (m:Int)=(v:Int) then 1 else 0:=by funext v;exact WM key m v
  rw[e,preK_add,WZ (m:=m) λi hi=>h i aB,if_pos (h m aB)]
structure WC(key:Int->Int)(n k:Nat)(fs:List Int):Prop where
 len:fs.length=n+1
 zero:fs[0]? =some 0
 val:∀v,v<n->fs[v+1]? =some (cK key k v:Int)
theorem WC.start(key:Int->Int)(n:Nat):WC key n 0 (List.replicate (n+1) 0):=
 ⟨by simp,by simp,λv hv=>by rw[Fv,if_pos aB];rfl⟩
theorem WC.step{key:Int->Int}{n k:Nat}{fs:List Int}(h:WC key n k fs){v0:Nat}(hv:v0<n)(hk:key (k:Int)=(v0:Int)):WC key n (k+1) (fs.set (v0+1) ((cK key k v0:Int)+1)):=by
 refine⟨by rw[nN];exact h.len,by rw[jA,if_neg aB];exact h.zero,λv jZ=>?_⟩;rw[jA,WM]
 by_cases e:v0=v
 ·subst e;rw[if_pos rfl,if_pos (by rw[h.len];omega),if_pos hk];simp
 ·rw[if_neg aB,if_neg aB,h.val v jZ];simp
structure Hc(c:Nat->Nat)(n j:Nat)(fs:List Int):Prop where
 len:fs.length=n+1
 lo:∀i,i<=j->fs[i]? =some (qC c i:Int)
 hi:∀v,v<n->j<=v->fs[v+1]? =some (c v:Int)
theorem WC.rows2{key:Int->Int}{n m:Nat}{fs:List Int}(h:WC key n m fs):Hc (cK key m) n 0 fs:=
 ⟨h.len,λi hi=>by
  have:i=0:=aB;subst this;exact h.zero,λv hv _=>h.val v hv⟩
theorem Hc.step{c:Nat->Nat}{n j:Nat}{fs:List Int}(h:Hc c n j fs)(hj:j<n):Hc c n (j+1) (fs.set (j+1) ((c j:Int)+(qC c j:Int))):=by
 refine⟨by rw[nN];exact h.len,λi hi=>?_,λv hv hjv=>?_⟩
 ·rw[jA]
  by_cases e:j+1=i
  ·subst e;rw[if_pos rfl,if_pos (by rw[h.len];omega)];show some _=some ((qC c j+c j:Nat):Int);congr 1;omega
  ·rw[if_neg e];exact h.lo i aB
 ·rw[jA,if_neg aB];exact h.hi v hv aB
structure Hb(key:Int->Int)(n m k:Nat)(nx row:List Int):Prop where
 nl:nx.length=n+1
 nv:∀v,v<n->nx[v]? =some ((qC (cK key m) v+cK key k v:Nat):Int)
 rl:row.length=m
 rv:∀v,v<n->∀j x,(gk key k v)[j]? =some x->row[qC (cK key m) v+j]? =some x
theorem Hc.rows3{key:Int->Int}{n m:Nat}{fs:List Int}(h:Hc (cK key m) n n fs):Hb key n m 0 fs (List.replicate m 0):=
 ⟨h.len,λv hv=>by rw[h.lo v aB,cK_zero];rfl,by simp,λv _ j x hj=>by simp[gk,kL] at hj⟩
theorem Hb.step{key:Int->Int}{n m k:Nat}{nx row:List Int}(h:Hb key n m k nx row)(hkm:k<m)(uC:∀i:Nat,i<m->0<=key (i:Int)/\key (i:Int)<n){v0:Nat}(hv:v0<n)(hk:key (k:Int)=(v0:Int)):
  qC (cK key m) v0+cK key k v0<m/\Hb key n m (k+1) (nx.set v0 (((qC (cK key m) v0+cK key k v0:Nat):Int)+1)) (row.set (qC (cK key m) v0+cK key k v0) (k:Int)):=by
 have qS:=WZ uC;have hc:cK key k v0+1<=cK key m v0:=by have:=cK_le key (show k+1<=m by omega) v0;rw[WM,if_pos hk] at this;exact this
 have hp:qC (cK key m) v0+cK key k v0<m:=by have:=WH (cK key m) hv;omega
 refine⟨hp,by rw[nN];exact h.nl,λv jZ=>?_,by rw[nN];exact h.rl,λv jZ j x hj=>?_⟩
 ·rw[jA,WM]
  by_cases e:v0=v
  ·subst e;rw[if_pos rfl,if_pos (by rw[h.nl];omega),if_pos hk];congr 1
  ·rw[if_neg e,if_neg aB,h.nv v jZ];rfl
 ·rw[Yl] at hj;rw[jA];have YM:=(eQ.1 hj).1;rw[fJ] at YM
  by_cases cC:j<(gk key k v).length
  ·rw[Fw cC] at hj;have gK:qC (cK key m) v0+cK key k v0≠qC (cK key m) v+j:=λe=>by
    have h1:=cK_le key (show k<=m by omega) v;have GM:j<cK key k v:=cC;rcases Nat.lt_trichotomy v v0 with h2|h2|h2
    ·have:=WH (cK key m) h2;omega
    ·subst h2;omega
    ·have:=WH (cK key m) h2;omega
   rw[if_neg gK];exact h.rv v jZ j x hj
  ·by_cases e:key (k:Int)=(v:Int)
   ·rw[if_pos e] at YM hj;have qP:j=(gk key k v).length:=by simp at YM;omega
    subst qP;rw[Fx (dL _)] at hj;simp at hj;subst hj;have:v0=v:=aB;subst this;rw[show(gk key k v0).length=cK key k v0 from rfl,if_pos rfl,if_pos (by rw[h.rl];exact hp)]
   ·rw[if_neg e] at YM;simp at YM;omega
theorem Hb.done{key:Int->Int}{n m:Nat}{nx row:List Int}(h:Hb key n m m nx row)(uC:∀i:Nat,i<m->0<=key (i:Int)/\key (i:Int)<n){v:Nat}(hv:v<n):
  qC (cK key m) v+cK key m v<=m/\(row.drop (qC (cK key m) v)).take (cK key m v)=gk key m v:=by
 have qS:=WZ uC;have:=WH (cK key m) hv;refine⟨aB,yG λj=>?_⟩;rw[List.getElem?_take]
 by_cases hj:j<cK key m v
 ·rw[if_pos hj,ly7];have qP:j<(gk key m v).length:=hj;rw[cM qP];exact h.rv v hv j _ (cM qP)
 ·rw[if_neg hj,List.getElem?_eq_none];show cK key m v<=j;omega
end Go.Den
namespace Go.Den
open Go Go.ChangeShapes Go.WideShapes Go.ChangeAt Go.RowKit
section
abbrev Nw(W w:aH):Prop:=aU (λk=>W.heap.size<=k) W w
theorem Nw.below{W w:aH}(h:Nw W w):Below W.heap.size W w:=aU.below h (dL _)
section
variable{H:Type}{aY:TypeId×Value->H}{P:Program}
theorem RB(hl:laidOutB P=true){W W':aH}{vC:Nat->Bool}:∀{ts:List TypeId} {vs:List Value} {ds:List (DataW H)} {ps:List MemPlace},
  (∀t∈ts,P.readableRec t=true/\t<P.types.size)->DataW.TrodAll aY P W 0 (λ_=>true) true ts vs ds ps->(∀p∈ps,W.sameAt W' p)->(∀p∈ps,vC p.block=true)->DataW.TrodAll aY P W' 0 vC true ts vs ds ps
 | [],[],[],_,_,h,_,_=>h
 |t::ts,v::vs,d::ds,ps,ht,h,hs,hp=>by
  obtain⟨p,q,h1,h2,rfl⟩:=h;refine⟨p,q,WideElems.Trod_stays hl (ht t dN).1 (ht t dN).2 h1 (λx hx=>hs x (by simp[hx])) (λx hx=>hp x (by simp[hx])),?_,rfl⟩;exact RB hl (λu hu=>ht u (by simp[hu])) h2 (λx hx=>hs x (by simp[hx])) (λx hx=>hp x (by simp[hx]))
 | [],_::_,_,_,_,h,_,_=>h.elim
 | [],[],_::_,_,_,h,_,_=>h.elim
 |_::_,[],_,_,_,h,_,_=>h.elim
 |_::_,_::_,[],_,_,h,_,_=>h.elim
theorem NT{W:aH}{nO:Nat}{sp:Nat->Bool}{hd:Bool}:∀{ts:List TypeId} {vs:List Value} {ds:List (DataW H)} {ps:List MemPlace},DataW.TrodAll aY P W nO sp hd ts vs ds ps->ds.length=ts.length/\vs.length=ts.length
 | [],[],[],_,_=>⟨rfl,rfl⟩
 |_::_,_::_,_::_,_,h=>by obtain⟨_,_,_,h2,_⟩:=h;have:=NT h2;simp[this.1,this.2]
 | [],_::_,_,_,h=>h.elim
 | [],[],_::_,_,h=>h.elim
 |_::_,[],_,_,h=>h.elim
 |_::_,_::_,[],_,h=>h.elim
theorem law_post{fn:Func}{s:ChangeSpec}{apart fresh handsOn again:Bool}{W W':aH}{args:Array Value}{ds gs:List (DataW H)}{before:List MemPlace}{tb:TypeId}
  (hW:DataW.Whole aY P fn.params.toList s.vars apart W args.toList ds gs before) (hv:s.vars=[])
  (hfn:∀ds:List (DataW H),ds.length=fn.params.size->s.fn H ds={results:=[.lit (.bool true)],args:=ds})
  (hrt:fn.resultTypes=#[tb]) (htb:P.underlying tb=some .bool) (hl:laidOutB P=true) (hread:∀t∈fn.params.toList,P.readableRec t=true/\t<P.types.size) (hS:Nw W W'):
  s.post aY P fn apart fresh handsOn again W args (.bool true) W':=by
 have cC:=hW.lt;obtain⟨p,q,hA,hV,rfl,hz,hn⟩:=hW;have hW0:DataW.Whole aY P fn.params.toList s.vars apart W args.toList ds gs (p++q):=⟨p,q,hA,hV,rfl,hz,hn⟩;have hV':DataW.TrodVars aY P W (λ_=>true) [] gs q:=by rw[<-hv];exact hV
 obtain⟨rfl,rfl⟩:=trodVars_none hV';have YN:(ds++[]).length=fn.params.size:=by rw[uA,(NT hA).1];simp
 have hF:=hfn (ds++[]) YN;have hb:=hS.below;have xf:∀x∈p,W.sameAt W' x:=λx hx=>hb.same (cC x (by simp[hx]));have hargs:∀sp:Nat->Bool,(∀x∈p,sp x.block=true)->DataW.TrodAll aY P W' 0 sp true fn.params.toList args.toList ds p:=λsp hsp=>RB hl hread hA xf hsp;have kr:∀(b:Nat) (sp:Nat->Bool) (hd:Bool),DataW.TrodAll aY P W' b sp hd fn.resultTypes.toList ((Value.bool true).resultList fn.resultTypes.size) [.lit (.bool true)] []:=by intro b sp hd;rw[hrt];exact trodAll_mk1 (shut_bool htb true)
 refine⟨ds,[],p++[],[],p,[],hW0,?_,?_,?_,?_,?_⟩
 ·rw[hF];exact kr _ _ _
 ·rw[hF];simp only[uA];exact hargs _ (λx hx=>by simpa using cC x (by simp[hx]))
 ·rw[hF,hv];exact rfl
 ·exact hb.frame _
 ·intro _;refine⟨ok_one hrt rfl (okWide_bool_mk htb true),[.lit (.bool true)]++ds,[],[]++p++[],⟨[]++p,[],trodAll_append (hargs _ λ_ _=>rfl) (kr _ _ _),?_,rfl,?_,?_⟩,?_⟩
  ·rw[hv];exact rfl
  ·intro b off hp;simp only[List.nil_append,uA] at hp;have h1:=cC (.cell b off) (by simp[hp]);rw[hb.frozen (p:=⟨b,off,none⟩) h1];exact hz b off (by simpa using hp)
  ·intro ha;simpa using hn ha
  ·intro x hx _;simpa using hx
end
theorem law_lifted{C:Checked}{os:Os}{f:FuncId}{fn:Func}{s:ChangeSpec}{conds:List PathCond}{apart fresh handsOn again:Bool}{tb:TypeId}{H:Type}{aY:TypeId×Value->H}
  (gR:ownKnob C.prog.godebug=none) (started:os.Started) (noInit:C.prog.inits.idxOf? f=none) (hfn:C.prog.funcs[f]? =some fn)
  (witness:∃(w:aH) (tape:Tape) (i:Input),w.os=os/\(w.forCall tape i).Shaped C.prog/\i.vars=[]/\Input.okWide C.prog (w.forCall tape i) .any w.heap.size f i/\
   s.pre6 aY C.prog fn conds apart (w.forCall tape i).memory i.args/\Assume.holds {} C.prog (lone (Frame.enter C.prog f i.args .normal) [] (w.forCall tape i)))
  (hv:s.vars=[]) (hs:∀ds:List (DataW H),ds.length=fn.params.size->s.fn H ds={results:=[.lit (.bool true)],args:=ds})
  (hrt:fn.resultTypes=#[tb]) (htb:C.prog.underlying tb=some .bool) (hl:laidOutB C.prog=true) (hread:∀t∈fn.params.toList,C.prog.readableRec t=true/\t<C.prog.types.size)
  (contract:∀(W:aH) (nO:Nat) (args:Array Value) (ds:List (DataW H)) (ps:List MemPlace),
   (∀(j:Nat) t v,fn.params[j]? =some t->args[j]? =some v->Value.okWide C.prog W .any nO t v)->
   DataW.TrodAll aY C.prog W 0 (λ_=>true) true fn.params.toList args.toList ds ps->
   Calls C.prog f args W λe W'=>e=.returned (.bool true)/\Nw W W'):
  ReturnsInHanded {} C os f .any (s.pre6 aY C.prog fn conds apart) (s.post aY C.prog fn apart fresh handsOn again):=by
 refine returnsInHanded_of_change gR started noInit hfn witness ?_;intro W nO args ds gs before ko hW _ _;obtain⟨p,q,hA,_⟩:=id hW;exact(contract W nO args ds p ko hA).mono λe W' ⟨he,hS⟩=>⟨_,he,law_post hW hv hs hrt htb hl hread hS⟩
section
variable{H:Type}{aY:TypeId×Value->H}{P:Program}{W:aH}
end
end
end Go.Den
namespace Go.Den
open Go
open Go.IntKind (wrap)
def poly:BitVec 32:=2197175160#32
def vt(c:BitVec 32):BitVec 32:=(c>>>1)^^^(if c.getLsbD 0 then poly else 0#32)
def QI:Nat->BitVec 32->BitVec 32
 |0,c=>c
 |n+1,c=>QI n (vt c)
def mr(c:BitVec 32)(b:BitVec 8):BitVec 32:=QI 8 (c^^^b.setWidth 32)
def EA(c:BitVec 32)(l:List (BitVec 8)):BitVec 32:=l.foldl mr c
def yJ(l:List (BitVec 8)):BitVec 32:= ~~~ EA (BitVec.allOnes 32) l
theorem Tx(c:BitVec 32)(l m:List (BitVec 8)):EA c (l++m)=EA (EA c l) m:=List.foldl_append ..
theorem qw(c:BitVec 32)(l:List (BitVec 8))(b:BitVec 8):EA c (l++[b])=mr (EA c l) b:=by simp[EA]
theorem Bd:∀(n:Nat) (c:BitVec 32),QI (n+1) c=vt (QI n c)
 |0,_=>rfl
 |n+1,c=>by rw[QI,Bd n];rfl
def parN:Nat->(Nat->Bool)->Bool
 |0,_=>false
 |n+1,f=>xor (parN n f) (f n)
def par{w:Nat}(x:BitVec w):Bool:=parN w x.getLsbD
theorem bitsV_and(c d:BitVec 32):oQ .and .u32 (c.toNat:Int) (d.toNat:Int)=((c &&& d).toNat:Int):=by
 show wrap .u32 ((BitVec.ofInt 32 (c.toNat:Int) &&& BitVec.ofInt 32 (d.toNat:Int)).toNat:Int)=_;have hc:BitVec.ofInt 32 (c.toNat:Int)=c:=by simp
 have hd:BitVec.ofInt 32 (d.toNat:Int)=d:=by simp
 rw[hc,hd,IntKind.wrap_u32];have h:(c &&& d).toNat<4294967296:=(c &&& d).isLt;omega
theorem ZR(c d:BitVec 32):oQ .xor .u32 (c.toNat:Int) (d.toNat:Int)=((c^^^d).toNat:Int):=by
 show wrap .u32 ((BitVec.ofInt 32 (c.toNat:Int)^^^BitVec.ofInt 32 (d.toNat:Int)).toNat:Int)=_;have hc:BitVec.ofInt 32 (c.toNat:Int)=c:=by simp
 have hd:BitVec.ofInt 32 (d.toNat:Int)=d:=by simp
 rw[hc,hd,IntKind.wrap_u32];have h:(c^^^d).toNat<4294967296:=(c^^^d).isLt;omega
theorem shift_one(c:BitVec 32):Int.fdiv (c.toNat:Int) (2^(min (Int.toNat (1:Int)) (IntKind.bits .u32)))=((c>>>1).toNat:Int):=by
 rw[BitVec.toNat_ushiftRight,Nat.shiftRight_eq_div_pow];show Int.fdiv (c.toNat:Int) 2=((c.toNat/2:Nat):Int);rw[Int.fdiv_eq_ediv_of_nonneg _ aB];omega
theorem and_one(c:BitVec 32):((c &&& 1#32).toNat:Int)=if c.getLsbD 0 then 1 else 0:=by
 rw[BitVec.toNat_and];simp only[BitVec.getLsbD,Nat.testBit_zero];have:c.toNat &&& (1#32).toNat=c.toNat%2:=Nat.and_one_is_mod _;rw[this];rcases Nat.mod_two_eq_zero_or_one c.toNat with h|h<;>simp[h]
theorem Zn(c:BitVec 32):vt c=if c.getLsbD 0 then(c>>>1)^^^poly else c>>>1:=by unfold vt;split<;>simp
def Edge(zs:List It)(k j:Nat):Prop:=∀x y,zs[k]? =some x->zs[j]? =some y->qD y x=false
def HOk(zs:List It):Prop:=∀j,0<j->Edge zs ((j-1)/2) j
structure UpI(zs:List It)(i:Nat):Prop where
 cJ:∀j,0<j->j≠i->Edge zs ((j-1)/2) j
 iI:∀j,0<j->(j-1)/2=i->0<i->Edge zs ((i-1)/2) j
structure Xm(zs:List It)(i:Nat):Prop where
 cJ:∀j,0<j->(j-1)/2≠i->Edge zs ((j-1)/2) j
 iI:∀j,0<j->(j-1)/2=i->0<i->Edge zs ((i-1)/2) j
theorem le_trans'{x y z:It}(h:qD y x=false)(h':qD z y=false):qD z x=false:=by
 have h1:¬qD y x=true:=by rw[h];simp
 have h2:¬qD z y=true:=by rw[h'];simp
 have:¬qD z x=true:=by rw[kI] at*;omega
 simpa using this
theorem wg{x y:It}(h:qD x y=true):qD y x=false:=by
 have:¬qD y x=true:=by rw[kI] at*;omega
 simpa using this
theorem HG(x:It):qD x x=false:=by
 have:¬qD x x=true:=by rw[kI];omega
 simpa using this
theorem CC{zs:List It}{i p:Nat}(hi:i<zs.length)(hp:p<zs.length)(x y:It)(j:Nat):((zs.set i y).set p x)[j]? =if j=p then some x else if j=i then some y else zs[j]?:=by
 rw[jA,jA]
 by_cases h1:j=p
 ·subst h1;simp[hp]
 ·rw[if_neg (λe=>h1 e.symm),if_neg h1]
  by_cases h2:j=i
  ·subst h2;simp[hi]
  ·rw[if_neg (λe=>h2 e.symm),if_neg h2]
theorem Sc{zs:List It}{i p:Nat}{x y:It}(hx:zs[i]? =some x)(hy:zs[p]? =some y)(u:It):u∈(zs.set i y).set p x↔u∈zs:=by
 have hi:=(eQ.1 hx).1;have hp:=(eQ.1 hy).1;rw[pC,pC]
 constructor
 ·rintro⟨j,hj⟩;rw[CC hi hp] at hj
  split at hj
  ·exact⟨i,hx.trans hj⟩
  ·split at hj
   ·exact⟨p,hy.trans hj⟩
   ·exact⟨j,hj⟩
 ·rintro⟨j,hj⟩
  by_cases h1:j=p
  ·subst h1
   by_cases h2:j=i
   ·subst h2;exact⟨j,by rw[CC hi hp,if_pos rfl,<-hx,hj]⟩
   ·exact⟨i,by rw[CC hi hp,if_neg (λe=>h2 e.symm),if_pos rfl,<-hy,hj]⟩
  ·by_cases h2:j=i
   ·subst h2;exact⟨p,by rw[CC hi hp,if_pos rfl,<-hx,hj]⟩
   ·exact⟨j,by rw[CC hi hp,if_neg h1,if_neg h2,hj]⟩
theorem up_step{zs:List It}{i:Nat}{x y:It}(h:UpI zs i)(hi0:0<i)(hx:zs[i]? =some x)(hy:zs[(i-1)/2]? =some y)(cC:qD x y=true):UpI ((zs.set i y).set ((i-1)/2) x) ((i-1)/2):=by
 have hi:=(eQ.1 hx).1;have hp:=(eQ.1 hy).1;have hpi:(i-1)/2<i:=aB;have hxy:=wg cC;generalize Qn:(i-1)/2=p at*;refine⟨λj hj hjp u v hu hv=>?_,λj hj hjp hp0 u v hu hv=>?_⟩
 ·rw[CC hi hp] at hu hv;rw[if_neg hjp] at hv
  by_cases EZ:j=i
  ·subst EZ;rw[if_pos rfl] at hv;rw[if_pos Qn] at hu;cases hv;cases hu;exact hxy
  ·rw[if_neg EZ] at hv
   by_cases h1:(j-1)/2=p
   ·rw[if_pos h1] at hu;cases hu;exact le_trans' hxy (h.cJ j hj EZ y v (by rw[h1];exact hy) hv)
   ·rw[if_neg h1] at hu
    by_cases h2:(j-1)/2=i
    ·rw[if_pos h2] at hu;cases hu;exact h.iI j hj h2 hi0 y v (by rw[Qn];exact hy) hv
    ·rw[if_neg h2] at hu;exact h.cJ j hj EZ u v hu hv
 ·rw[CC hi hp] at hu hv;rw[if_neg aB,if_neg aB] at hu;have Uz:qD y u=false:=h.cJ p hp0 aB u y hu hy;rw[if_neg aB] at hv
  by_cases EZ:j=i
  ·rw[if_pos EZ] at hv;cases hv;exact Uz
  ·rw[if_neg EZ] at hv;exact le_trans' Uz (h.cJ j hj EZ y v (by rw[hjp];exact hy) hv)
theorem up_end{zs:List It}{i:Nat}{x:It}(h:UpI zs i)(hx:zs[i]? =some x)(he:i=0\/∃y,zs[(i-1)/2]? =some y/\qD x y=false):HOk zs:=by
 intro j hj
 by_cases EZ:j=i
 ·subst EZ;rcases he with rfl|⟨y,hy,hn⟩
  ·omega
  ·intro u v hu hv;rw[hy] at hu;rw[hx] at hv;cases hu;cases hv;exact hn
 ·exact h.cJ j hj EZ
theorem down_step{zs:List It}{i k:Nat}{x y:It}(h:Xm zs i)(hk0:0<k)(hki:(k-1)/2=i)(hx:zs[i]? =some x)(hy:zs[k]? =some y)(cC:qD y x=true)
  (kv:∀s,0<s->(s-1)/2=i->∀v,zs[s]? =some v->qD v y=false):Xm ((zs.set i y).set k x) k:=by
 have hi:=(eQ.1 hx).1;have hk:=(eQ.1 hy).1;have hyx:=wg cC;refine⟨λj hj hjk u v hu hv=>?_,λj hj hjk hk0' u v hu hv=>?_⟩
 ·rw[CC hi hk] at hu hv;rw[if_neg hjk] at hu
  by_cases h1:j=k
  ·subst h1;rw[if_pos rfl] at hv;rw[if_pos hki] at hu;cases hu;cases hv;exact hyx
  ·rw[if_neg h1] at hv
   by_cases h2:j=i
   ·subst h2;rw[if_pos rfl] at hv;cases hv;rw[if_neg aB] at hu;exact h.iI k hk0 hki aB u y hu hy
   ·rw[if_neg h2] at hv
    by_cases h3:(j-1)/2=i
    ·rw[if_pos h3] at hu;cases hu;exact kv j hj h3 v hv
    ·rw[if_neg h3] at hu;exact h.cJ j hj h3 u v hu hv
 ·rw[CC hi hk] at hu hv;rw[hki,if_neg aB,if_pos rfl] at hu;cases hu;rw[if_neg aB,if_neg aB] at hv;exact h.cJ j hj aB y v (by rw[hjk];exact hy) hv
theorem Yq{zs:List It}{i:Nat}{x:It}(h:Xm zs i)(hx:zs[i]? =some x)(kv:∀s,0<s->(s-1)/2=i->∀v,zs[s]? =some v->qD v x=false):HOk zs:=by
 intro j hj
 by_cases h1:(j-1)/2=i
 ·intro u v hu hv;rw[h1,hx] at hu;cases hu;exact kv j hj h1 v hv
 ·exact h.cJ j hj h1
theorem HOk.min{zs:List It}(h:HOk zs){r:It}(hr:zs[0]? =some r):∀(j:Nat) (u:It),zs[j]? =some u->qD u r=false:=by
 intro j
 induction j using Nat.strongRecOn with
 |ind j ih=>
  intro u hu
  by_cases hj:j=0
  ·subst hj;rw[hr] at hu;cases hu;exact HG _
  ·have cC:=(eQ.1 hu).1;have hp:(j-1)/2<zs.length:=aB;exact le_trans' (ih ((j-1)/2) aB _ (cM hp)) (h j aB _ u (cM hp) hu)
structure FM(f:Int->Option Int)(zs:List It)(i:Nat):Prop where
 at_:∀(j:Nat) (z:It),j≠i->zs[j]? =some z->f z.id=some (j:Int)
 dom:∀v k,f v=some k->∃z∈zs,z.id=v
structure uR(f:Int->Option Int)(zs:List It):Prop where
 at_:∀(j:Nat) z,zs[j]? =some z->f z.id=some (j:Int)
 dom:∀v k,f v=some k->∃z∈zs,z.id=v
theorem uR.one{f:Int->Option Int}{zs:List It}(h:uR f zs):Cn zs:=by
 intro x hx y hy e;obtain⟨i,hi⟩:=pC.1 hx;obtain⟨j,hj⟩:=pC.1 hy;have h1:=h.at_ i x hi;have h2:=h.at_ j y hj;rw[e,h2] at h1;have:j=i:=by have:=tZ h1;omega
 subst this;rw[hi] at hj;exact tZ hj
theorem FM.swap{f:Int->Option Int}{zs:List It}{i p:Nat}(h:FM f zs i){x y:It}(hx:zs[i]? =some x)(hy:zs[p]? =some y)(hip:i≠p):FM (λv=>if v=y.id then some (i:Int) else f v) ((zs.set i y).set p x) p:=by
 have hi:=(eQ.1 hx).1;have hp:=(eQ.1 hy).1;refine⟨λj z hj hz=>?_,λv k hv=>?_⟩
 ·rw[CC hi hp,if_neg hj] at hz
  by_cases h1:j=i
  ·rw[if_pos h1] at hz;cases hz;simp[h1]
  ·rw[if_neg h1] at hz;have h2:=h.at_ j z h1 hz;have:z.id≠y.id:=λe=>by
    have h3:=h.at_ p y (Ne.symm hip) hy;rw[<-e,h2] at h3;have:=tZ h3;omega
   simp[this,h2]
 ·replace hv:(if v=_ then _ else f v)=some k:=hv
  by_cases h1:v=y.id
  ·exact⟨y,(Sc hx hy y).2 (lD hy),h1.symm⟩
  ·rw[if_neg h1] at hv;obtain⟨z,hz,e⟩:=h.dom v k hv;exact⟨z,(Sc hx hy z).2 hz,e⟩
theorem FM.done{f:Int->Option Int}{zs:List It}{i:Nat}(h:FM f zs i){x:It}(hx:zs[i]? =some x)(hnd:∀(j:Nat) (z:It),j≠i->zs[j]? =some z->z.id≠x.id):uR (λv=>if v=x.id then some (i:Int) else f v) zs:=by
 refine⟨λj z hz=>?_,λv k hv=>?_⟩
 ·by_cases h1:j=i
  ·subst h1;rw[hx] at hz;cases hz;simp
  ·have:=h.at_ j z h1 hz;simp[hnd j z h1 hz,this]
 ·replace hv:(if v=_ then _ else f v)=some k:=hv
  by_cases h1:v=x.id
  ·exact⟨x,lD hx,h1.symm⟩
  ·rw[if_neg h1] at hv;exact h.dom v k hv
def QY(zs:List It):Prop:=∀(i j:Nat) (x y:It),zs[i]? =some x->zs[j]? =some y->x.id=y.id->i=j
theorem uR.apart{f:Int->Option Int}{zs:List It}(h:uR f zs):QY zs:=by
 intro i j x y hi hj e;have h1:=h.at_ i x hi;have h2:=h.at_ j y hj;rw[e,h2] at h1;have:=tZ h1;omega
theorem QY.swap{zs:List It}(h:QY zs){i p:Nat}{x y:It}(hx:zs[i]? =some x)(hy:zs[p]? =some y):QY ((zs.set i y).set p x):=by
 have hi:=(eQ.1 hx).1;have hp:=(eQ.1 hy).1;have eO:∀(j:Nat) (u:It),((zs.set i y).set p x)[j]? =some u->∃j',zs[j']? =some u/\((j=p/\j'=i)\/(j≠p/\j=i/\j'=p)\/(j≠p/\j≠i/\j'=j)):=by
  intro j u hu;rw[CC hi hp] at hu
  by_cases h1:j=p
  ·rw[if_pos h1] at hu;exact⟨i,hx.trans hu,.inl ⟨h1,rfl⟩⟩
  ·rw[if_neg h1] at hu
   by_cases h2:j=i
   ·rw[if_pos h2] at hu;exact⟨p,hy.trans hu,.inr (.inl ⟨h1,h2,rfl⟩)⟩
   ·rw[if_neg h2] at hu;exact⟨j,hu,.inr (.inr ⟨h1,h2,rfl⟩)⟩
 intro a b u v hu hv e;obtain⟨a',ha,hac⟩:=eO a u hu;obtain⟨b',hb,hbc⟩:=eO b v hv;have:=h a' b' u v ha hb e;omega
def GO(n:Int):Int:=if n<0 then-n else n
def Rq(ax ay bx mC:Int):Int:=
 if(ax=0/\ay=0)\/(bx=0/\mC=0) then 0
 else if ax*bx+ay*mC>0/\4*GO (ax*mC-ay*bx)<=ax*bx+ay*mC then 1
 else if ax*bx+ay*mC<0/\4*GO (ax*mC-ay*bx)<=-(ax*bx+ay*mC) then 5
 else if ax*mC-ay*bx>0/\ax*bx+ay*mC>0/\ax*mC-ay*bx<=ax*bx+ay*mC then 2
 else if ax*mC-ay*bx>0/\ax*bx+ay*mC<0/\ax*mC-ay*bx<=-(ax*bx+ay*mC) then 4
 else if ax*mC-ay*bx>0 then 3
 else if ax*bx+ay*mC>0/\-(ax*mC-ay*bx)<=ax*bx+ay*mC then 6
 else if ax*bx+ay*mC<0/\-(ax*mC-ay*bx)<=-(ax*bx+ay*mC) then 8
 else 7
theorem sq_pos{x y:Int}(h:¬(x=0/\y=0)):x*x+y*y≠0:=λe=>by
 have h1:0<=x*x:=by
  rcases Int.le_total 0 x with h|h
  ·exact Int.mul_nonneg h h
  ·exact Int.mul_nonneg_of_nonpos_of_nonpos h h
 have h2:0<=y*y:=by
  rcases Int.le_total 0 y with h|h
  ·exact Int.mul_nonneg h h
  ·exact Int.mul_nonneg_of_nonpos_of_nonpos h h
 have h3:x*x=0:=aB;have h4:y*y=0:=aB;exact h ⟨(Int.mul_eq_zero.1 h3).elim id id,(Int.mul_eq_zero.1 h4).elim id id⟩
theorem cross_dot{ax ay bx mC:Int}(h1:ax*mC-ay*bx=0)(h2:ax*bx+ay*mC=0):(ax=0/\ay=0)\/(bx=0/\mC=0):=by
 rcases Classical.em (bx=0/\mC=0) with h|h
 ·exact .inr h
 have hs:=sq_pos h;have e1:ax*mC=ay*bx:=aB;have e2:ax*bx=-(ay*mC):=aB;have f1:ax*(bx*bx+mC*mC)=0:=by rw[Int.mul_add,<-Int.mul_assoc,<-Int.mul_assoc,e1,e2,Int.neg_mul,Int.mul_assoc,Int.mul_assoc,Int.mul_comm mC bx];omega
 have f2:ay*(bx*bx+mC*mC)=0:=by rw[Int.mul_add,<-Int.mul_assoc,<-Int.mul_assoc,<-e1,show ay*mC=-(ax*bx) by omega,Int.neg_mul,Int.mul_assoc,Int.mul_assoc,Int.mul_comm mC bx];omega
 exact .inl ⟨(Int.mul_eq_zero.1 f1).resolve_right hs,(Int.mul_eq_zero.1 f2).resolve_right hs⟩
theorem Ep{x y:Int}(h:-4095<=x/\x<=4095)(h':-4095<=y/\y<=4095):-16769025<=x*y/\x*y<=16769025:=by
 have h1:x.natAbs<=4095:=aB;have h2:y.natAbs<=4095:=aB;have h3:(x*y).natAbs<=4095*4095:=by rw[Int.natAbs_mul];exact RX h1 h2
 omega
def Rr(c d:Int):Int:=
 if d>0/\4*GO c<=d then 1 else if d<0/\4*GO c<=-d then 5 else if c>0/\d>0/\c<=d then 2 else if c>0/\d<0/\c<=-d then 4 else if c>0 then 3
 else if d>0/\-c<=d then 6 else if d<0/\-c<=-d then 8 else 7
theorem clsP_eq{ax ay bx mC:Int}(h:¬((ax=0/\ay=0)\/(bx=0/\mC=0))):Rq ax ay bx mC=Rr (ax*mC-ay*bx) (ax*bx+ay*mC):=by
 unfold Rq Rr;rw[if_neg h]
def Gr.nd(G:Gr)(i:Int):Int×Int:=G.N.getD i.toNat (0,0)
def Gr.Rt(G:Gr)(a b:Int):Int:=Rq ((G.nd (G.to a)).1-(G.nd (G.fr a)).1) ((G.nd (G.to a)).2-(G.nd (G.fr a)).2) ((G.nd (G.to b)).1-(G.nd (G.fr b)).1) ((G.nd (G.to b)).2-(G.nd (G.fr b)).2)
theorem Gr.get_nd{G:Gr}{i:Int}(h:G.GB i):G.N[i.toNat]? =some (G.nd i):=by
 have:i.toNat<G.N.length:=by have:=h.2;unfold Gr.n at this;omega
 unfold Gr.nd;rw[LR,cM this];rfl
theorem sS.Se{G:Gr}(ok:sS G){i:Int}(h:G.GB i):(0<=(G.nd i).1/\(G.nd i).1<=4095)/\0<=(G.nd i).2/\(G.nd i).2<=4095:=ok.nd _ (lD (G.get_nd h))
structure MH where
 cls:Int
 jV:Int
 oK:Int
 left:Int
def Gr.kF(G:Gr):Int->List Int->Int×Int×Int
 |_,[]=>(9,-1,0)
 |a,e::l=>if(G.gL a).length≠1 then(G.Rt a e,e,0) else((G.kF e l).1,(G.kF e l).2.1,G.wt e+(G.kF e l).2.2)
def Gr.eR(G:Gr)(a:Int)(l:List Int):MH:=⟨(G.kF a l).1,(G.kF a l).2.1,(G.kF a l).2.2,G.kQ l⟩
structure gV where
 kind:Int
 pos:Int
 JE:Int
 cD:List Int
 kS:Int
 eR:MH
abbrev VZ:MH:=⟨0,0,0,0⟩
def QN(k:Int):gV:=⟨k,0,0,[],0,VZ⟩
def qH(l:List Int)(w:Int):gV:=⟨5,0,0,l,w,VZ⟩
def MD(h:MH):gV:=⟨7,0,0,[],0,h⟩
def na(p:Int):gV:=⟨9,p,0,[],0,VZ⟩
abbrev iU:=QN 4
abbrev CO:=QN 6
abbrev Hy:=QN 8
structure FX where
 pos:Int
 node:Int
 lR:List Int
 dK:Bool
 iI:Bool
def oE(G:Gr)(p:FX):FX×List gV:=if G.to p.pos=p.node then({p with iI:=true},[Hy]) else(p,[MD (G.eR p.pos p.lR)])
def Ru(G:Gr)(p:FX)(l:List Int)(w:Int)(f:Bool):FX×List gV:=
 if f then((oE G {p with lR:=l,dK:=true}).1,qH l w::(oE G {p with lR:=l,dK:=true}).2) else({p with lR:=l,dK:=false},[CO])
def TA(G:Gr)(c:List Bool)(p:FX)(z:FX×List gV):Prop:=∃l w f r,G.zU p.node p.pos c l w f r/\z=Ru G p l w f
def mf(G:Gr)(c:List Bool)(p:FX)(pos:Int)(z:FX×List gV):Prop:=
 if p.iI=true then z=(p,[]) else if¬G.mH pos then z=(p,[na pos]) else if p.dK=true/\pos=p.pos then z=oE G p
 else if p.dK=true/\p.lR.head? =some pos then z=oE G {p with pos:=pos,lR:=p.lR.tail} else TA G c {p with pos:=pos} z
def mg(G:Gr)(c:List Bool)(p:FX)(lU open_:List Int)(z:FX×List gV):Prop:=
 if p.iI=true then z=(p,[]) else if p.dK=true then(if∃e∈p.lR,e∈lU then TA G c p z else z=(p,[]))
 else if open_=[] then z=(p,[]) else∃z',TA G c p z'/\z=(z'.1,if z'.1.dK=true then z'.2 else [])
structure UR(G:Gr)(p:FX):Prop where
 pos:G.mH p.pos
 node:G.GB p.node
 wE:∀x∈p.lR,G.mH x
 len:p.lR.length<=51
 Fs:p.dK=true->G.BX p.pos p.lR=true
 none:p.dK=false->p.lR=[]
theorem Gr.zU.KT{G:Gr}(ok:sS G){v e:Int}{c:List Bool}{l:List Int}{w:Int}{f r:Bool}(h:G.zU v e c l w f r):(∀x∈l,G.mH x)/\l.length<=51/\(f=true->G.BX e l=true/\w=G.kQ l)/\(f=false->l=[]/\w=0):=by
 have hm:=ok.m1.2;cases h with
 |no=>exact⟨by simp,by simp,λh=>(by cases h),λ_=>⟨rfl,rfl⟩⟩
 |kc _ _ _ hl _=>have:=hl.len ok;have hf:=hl.KT ok;exact⟨λx hx=>(hf.2.2.1 x hx).1,aB,λ_=>⟨hf.2.1,rfl⟩,λh=>by cases h⟩
 |oK _ _ _ _ _ _ hl=>have:=hl.len ok;have hf:=hl.KT ok;exact⟨λx hx=>(hf.2.2.1 x hx).1,aB,λ_=>⟨hf.2.1,rfl⟩,λh=>by cases h⟩
theorem UR.oE{G:Gr}{p:FX}(h:UR G p):UR G (oE G p).1:=by
 unfold Den.oE
 split
 ·exact⟨h.pos,h.node,h.wE,h.len,h.Fs,h.none⟩
 ·exact h
theorem ask_ok{G:Gr}(ok:sS G){p:FX}(hp:G.mH p.pos)(hn:G.GB p.node){l:List Int}{w:Int}{f r:Bool}{c:List Bool}(ha:G.zU p.node p.pos c l w f r):UR G (Ru G p l w f).1/\(f=true->UR G {p with lR:=l,dK:=true}):=by
 obtain⟨h1,h2,h3,h4⟩:=ha.KT ok;have hs:f=true->UR G {p with lR:=l,dK:=true}:=λhf=>⟨hp,hn,h1,h2,λ_=>(h3 hf).1,λh=>by cases h⟩;refine⟨?_,hs⟩;unfold Ru
 split
 ·rename_i hf;exact(hs hf).oE
 ·rename_i hf
  have QE:f=false:=by simpa using hf
  exact⟨hp,hn,h1,h2,λh=>(by cases h),λ_=>(h4 QE).1⟩
theorem UR.move{G:Gr}{p:FX}(h:UR G p){x:Int}(hx:G.mH x)(hh:p.dK=true/\p.lR.head? =some x):UR G {p with pos:=x,lR:=p.lR.tail}:=by
 have hw:=h.Fs hh.1;cases hp:p.lR with
 |nil=>rw[hp] at hh;cases hh.2
 |cons y l=>
  have hy:y=x:=by have:=hh.2;rw[hp] at this;simpa using this
  subst hy;rw[hp] at hw;have h2:=h.wE;have h3:=h.len;rw[hp] at h2 h3;simp only[Gr.BX,sV] at hw;exact⟨hx,h.node,λz hz=>h2 z (by simp at hz;simp[hz]),by simp at h3 ⊢;omega,λ_=>hw.2,λh4=>by have h5:p.dK=false:=h4;rw[hh.1] at h5;cases h5⟩
abbrev cG:=BitVec 8
def be:Nat->Nat->List cG
 |0,_=>[]
 |s+1,x=>BitVec.ofNat 8 (x/256^s)::be s x
def de(n:Nat)(l:List cG):Nat:=l.foldl (λn c=>n*256+c.toNat) n
theorem pH(s x:Nat):(be s x).length=s:=by
 induction s with
 |zero=>rfl
 |succ s ih=>simp[be,ih]
theorem de_be(s:Nat):∀(n x:Nat),x<256^s->de n (be s x)=n*256^s+x:=by
 induction s with
 |zero=>intro n x h;simp at h;simp[be,de,h]
 |succ s ih=>
  intro n x h;have e:de n (be (s+1) x)=de (n*256+(BitVec.ofNat 8 (x/256^s)).toNat) (be s x):=rfl;have hp:0<256^s:=Nat.pow_pos aB;have cC:x/256^s<256:=by rw[Nat.div_lt_iff_lt_mul hp,Nat.mul_comm,<-Nat.pow_succ];exact h
  have hb:be s x=be s (x%256^s):=by
   have key:∀j,j<=s->be j x=be j (x%256^s):=by
    intro j
    induction j with
    |zero=>intro _;rfl
    |succ j ihj=>
     intro hj;simp only[be];rw[ihj aB];congr 1;apply BitVec.eq_of_toNat_eq;simp only[BitVec.toNat_ofNat];have hs:(256:Nat)^s=256^j*256^(s-j):=by rw[<-Nat.pow_add];congr 1;omega
     have h2:x%256^s/256^j=x/256^j%256^(s-j):=by rw[hs,Nat.mod_mul_right_div_self]
     rw[h2,show(2:Nat)^8=256 from rfl];have h3:(256:Nat) ∣ 256^(s-j):=by rw[show s-j=(s-j-1)+1 by omega,Nat.pow_succ];exact Nat.dvd_mul_left _ _
     rw[Nat.mod_mod_of_dvd _ h3]
   exact key s (dL _)
  rw[e,hb,ih _ _ (Nat.mod_lt _ hp),BitVec.toNat_ofNat,Nat.mod_eq_of_lt (by simpa using cC)];have:=Nat.div_add_mod x (256^s);rw[Nat.pow_succ]
  calc (n*256+x/256^s)*256^s+x%256^s=n*(256^s*256)+(256^s*(x/256^s)+x%256^s):=by rw[Nat.add_mul,Nat.mul_assoc,Nat.mul_comm 256 (256^s),Nat.mul_comm (x/256^s),Nat.add_assoc]
   _=n*(256^s*256)+x:=by rw[this]
def kR(m:gV):List cG:=
 be 1 m.kind.toNat++
 if m.kind=1 then be 2 m.pos.toNat++be 2 m.JE.toNat
 else if m.kind=2\/m.kind=9 then be 2 m.pos.toNat
 else if m.kind=5 then be 5 m.kS.toNat++be 2 m.cD.length++m.cD.flatMap (λe=>be 2 e.toNat)
 else if m.kind=7 then be 1 m.eR.cls.toNat++be 2 (m.eR.jV+1).toNat++be 5 m.eR.oK.toNat++be 5 m.eR.left.toNat
 else []
def u16(x:Int):Prop:=0<=x/\x<65536
def u32(x:Int):Prop:=0<=x/\x<4294967296
def u40(x:Int):Prop:=0<=x/\x<1099511627776
structure sR(m:gV):Prop where
 kind:1<=m.kind/\m.kind<=9
 pos:if m.kind=1\/m.kind=2\/m.kind=9 then u16 m.pos else m.pos=0
 JE:if m.kind=1 then u16 m.JE else m.JE=0
 cD:if m.kind=5 then m.cD.length<=512/\∀e∈m.cD,u16 e else m.cD=[]
 kS:if m.kind=5 then u40 m.kS else m.kS=0
 eR:if m.kind=7 then(0<=m.eR.cls/\m.eR.cls<256)/\u16 (m.eR.jV+1)/\u40 m.eR.oK/\u40 m.eR.left else m.eR=⟨0,0,0,0⟩
structure fG where
 aM:Int
 kind:Int
 seq:Int
 KO:Int
 code:Int
 body:List cG
structure Vi(g:fG):Prop where
 kind:g.kind=1\/g.kind=2\/g.kind=3
 aM:u32 g.aM
 seq:if g.kind=1 then u32 g.seq else g.seq=0
 KO:if g.kind=3 then g.KO=0 else u32 g.KO
 code:if g.kind=3 then 0<=g.code/\g.code<256 else g.code=0
 body:if g.kind=1 then g.body.length<=1900 else g.body=[]
def nC(g:fG):List cG:=
 be 4 g.aM.toNat++if g.kind=1 then be 4 g.seq.toNat++be 4 g.KO.toNat++g.body else if g.kind=2 then be 4 g.KO.toNat else be 1 g.code.toNat
def fS(kind:Int)(b:List cG):List cG:=be 1 77++be 1 3++be 1 kind.toNat++be 2 b.length++b
def wX(kind:Int)(b:List cG):List cG:=fS kind b++be 4 (yJ (fS kind b)).toNat
def KR(g:fG):List cG:=wX g.kind (nC g)
section
def Wl(w:aH)(S:BS)(B:As)(R:As->As):Prop:=∃S1,B w S1/\(∀k,S1 k->S k)/\∀B' D M w' DC,aU M w w'->(∀k,M k->S1 k\/¬S k)->(∀k,DC k->S1 k\/¬S k)->bJ B' D w' DC->∃S',bJ (R B') D w' S'/\∀k,S' k->(S k/\¬S1 k)\/DC k
section
variable{A B C L:As}{w:aH}{S:BS}{R R':As->As}
theorem bJ.lG[bG B](h:bJ A B w S):Wl w S A λX=>bJ X B:=by
 obtain⟨S1,S2,h1,h2,d,e⟩:=h;refine⟨S1,h1,λk hk=>(e k).2 (.inl hk),λA' D M w' T m hM hT' hT=>?_⟩;obtain⟨T1,T2,a,b,d',e'⟩:=hT;have n2:∀k,S1 k\/¬S k->¬S2 k:=λk hk h=>hk.elim (λh1=>d k h1 h) λhn=>hn ((e k).2 (.inr h));have dd:∀k,T k->¬S2 k:=λk hk=>n2 k (hT' k hk);refine⟨λk=>(T1 k\/S2 k)\/T2 k,⟨λk=>T1 k\/S2 k,T2,⟨T1,S2,a,bG.aK h2 m λk hk lT=>n2 k (hM k lT) hk,λk h1 h2=>dd k ((e' k).2 (.inl h1)) h2,λ_=>Iff.rfl⟩,b,λk h1 h2=>h1.elim (λh=>d' k h h2) λh=>dd k ((e' k).2 (.inr h2)) h,λ_=>Iff.rfl⟩,λk hk=>?_⟩;rcases hk with(hk|hk)|hk
 ·exact .inr ((e' k).2 (.inl hk))
 ·exact .inl ⟨(e k).2 (.inr hk),λh=>d k h hk⟩
 ·exact .inr ((e' k).2 (.inr hk))
theorem bJ.rG[bG A](h:bJ A B w S):Wl w S B λX=>bJ A X:=by
 obtain⟨S1,h1,hs,eO⟩:=bJ.lG h.cm;refine⟨S1,h1,hs,λB' D M w' T m hM hT' hT=>?_⟩;obtain⟨S',h',u'⟩:=eO B' D M w' T m hM hT' hT;exact⟨S',h'.mono (λ_ h=>h.cm) λ_ h=>h,u'⟩
theorem Wl.c(f:Wl w S B R)(g:∀T,B w T->Wl w T C R'):Wl w S C λX=>R (R' X):=by
 obtain⟨S1,h1,hs,eO⟩:=f;obtain⟨S2,h2,LJ,MG⟩:=g S1 h1;refine⟨S2,h2,λk hk=>hs k (LJ k hk),λB' D M w' T m hM hT' hT=>?_⟩;obtain⟨T',h',u'⟩:=MG B' D M w' T m (λk hk=>(hM k hk).imp id λh h1=>h (hs k h1)) (λk hk=>(hT' k hk).imp id λh h1=>h (hs k h1)) hT;obtain⟨T2,h3,u3⟩:=eO _ D M w' T' m (λk hk=>(hM k hk).imp (LJ k) id) (λk hk=>(u' k hk).elim (λh=>.inl h.1) λh=>(hT' k h).imp (LJ k) id) h';refine⟨T2,h3,λk hk=>?_⟩;rcases u3 k hk with h|h
 ·exact .inl ⟨h.1,λh2=>h.2 (LJ k h2)⟩
 ·rcases u' k h with h|h
  ·exact .inl ⟨hs k h.1,h.2⟩
  ·exact .inr h
end
theorem wM.atG{α:Type}{f:α->As}[h:∀x,bG (f x)]:∀{l:List α} {i:Nat} {x:α} {w:aH} {S:BS},wM f l w S->l[i]? =some x->Wl w S (f x) λX=>Az f X l i
 |y::r,0,x,w,S,hA,hx=>by cases hx;exact bJ.lG hA
 |y::r,i+1,x,w,S,hA,hx=>Wl.c (bJ.rG hA) λT hT=>wM.atG (l:=r) (i:=i) hT (by simpa using hx)
end
end Go.Den
namespace Go.Den
open Go Go.MapKept
section
def zY(a:Nat):Value:=.pointer (some ⟨a,0,none⟩)
def zM(w:aH)(k:Nat):Prop:=∃cs e,w.heap[k]? =some (.cells cs e (0,0))
theorem cU.Sf{w:aH}{g:Nat}{e:TypeId}{cs:List Value}(h:cU w g e cs):zM w g:=⟨_,_,h⟩
structure PtrK(P:Program)(kt:TypeId):Prop where
 ex:∃te n,P.underlying kt=some (.pointer te)/\(P.info? te).map (·.size)=some n/\n≠0
theorem ptr_stays(x:Nat):Instr.sameBits 10000 (zY x) (zY x)=true:=by simp[Instr.sameBits,zY]
section
variable{P:Program}{kt:TypeId}
theorem OT(hp:PtrK P kt)(e:Bool)(x:Nat)(w:aH):(Instr.checkKey e 10000 kt (zY x)).run P w=.ok () w:=by
 obtain⟨te,n,h1,_⟩:=hp.ex;unfold Instr.checkKey;simp[run_underlying h1,zY]
theorem xk(hp:PtrK P kt)(w:aH)(x:Nat)(hx:zM w x)(l:List MapEntry)(ks:List Nat)(hks:∀k∈ks,zM w k)(h:l.map (·.key)=ks.map zY):
  (x∉ks/\(Instr.findKey kt (zY x) l).run P w=.ok none w)\/∃j e,ks[j]? =some x/\l[j]? =some e/\(Instr.findKey kt (zY x) l).run P w=.ok (some (j,e.val)) w:=by
 obtain⟨te,n,hd,hte,hn⟩:=hp.ex;have PN:∀w,(sizeOf te).run P w=.ok n w:=λw=>by
  cases hq:P.info? te with
  |none=>rw[hq] at hte;cases hte
  |some i=>rw[hq] at hte;simp at hte;rw[yZ hq w,hte]
 have heq:∀q,zM w q->(Op.equal kt (zY x) (zY q)).run P w=.ok (decide (x=q)) w:=λq hq=>by
  unfold Op.equal Op.maxDepth Op.equalIn zY;simp only[Sem.run_bind,run_underlying hd,PN,Result.andThen_ok]
  by_cases hxq:x=q
  ·subst hxq;simp[hn,run_sameAddr_same]
  ·obtain⟨c1,e1,g1⟩:=hx;obtain⟨c2,e2,g2⟩:=hq;have gK:(⟨x,0,none⟩:Addr)≠⟨q,0,none⟩:=λh=>hxq (by injection h);simp[hn,run_sameAddr_other w gK g1 g2,hxq]
 have ask:∀(l:List MapEntry) (ks:List Nat) (i:Nat),(∀k∈ks,zM w k)->l.map (·.key)=ks.map zY->
   (x∉ks/\(Instr.findAsking kt (zY x) l i).run P w=.ok none w)\/∃j e,ks[j]? =some x/\l[j]? =some e/\(Instr.findAsking kt (zY x) l i).run P w=.ok (some (i+j,e.val)) w:=by
  intro l
  induction l with
  |nil=>intro ks i _ h;cases ks with
   |nil=>exact .inl ⟨by simp,by simp[Instr.findAsking]⟩
   |cons=>simp at h
  |cons en l ih=>
   intro ks i hc h;cases ks with
   |nil=>simp at h
   |cons q ks=>
    simp only[Dt,List.cons.injEq] at h;have h0:=heq q (hc q dN);rw[<-h.1] at h0
    by_cases hq:x=q
    ·refine .inr ⟨0,en,by simp[hq],rfl,?_⟩;rw[hq] at h0;simp[Instr.findAsking,h0,hq]
    ·have qE:(Instr.findAsking kt (zY x) (en::l) i).run P w=(Instr.findAsking kt (zY x) l (i+1)).run P w:=by
      simp[Instr.findAsking,h0,hq]
     rcases ih ks (i+1) (λk hk=>hc k (by simp[hk])) h.2 with⟨h1,h2⟩|⟨j,e',h1,h2,h3⟩
     ·exact .inl ⟨by simp[hq,h1],by rw[qE];exact h2⟩
     ·exact .inr ⟨j+1,e',by simpa using h1,by simpa using h2,by rw[qE,h3,show i+1+j=i+(j+1) by omega]⟩
 have key:(Instr.findKey kt (zY x) l).run P w=(Instr.findAsking kt (zY x) l 0).run P w:=by
  unfold Instr.findKey;cases l with
  |nil=>simp[run_underlying hd,Instr.findNow,Instr.findAsking]
  |cons en l=>
   have:Instr.findNow (.pointer te) (zY x) (en::l) 0=none:=by simp[Instr.findNow,Instr.sameNow,zY]
   simp[run_underlying hd,this]
 rw[key];simpa using ask l ks 0 hks h
end
section
variable{P:Program}{w:aH}{r:Nat}{kn:oL}{f:Nat->Option kn.T}{n:Nat}
theorem kV.xk{kt:TypeId}(hp:PtrK P kt)(h:kV w r zY kn f n)(x:Nat)(w':aH)(hc:∀k,(f k).isSome=true->zM w' k)(hx:zM w' x):∃(es:Array MapEntry) (KV:Nat) (l:List (Nat×kn.T)),w.heap[r]? =some (.map es KV)/\es.toList.map (·.key)=l.map (λp=>zY p.1)/\es.toList.map (·.val)=l.map (λp=>kn.aY p.2)/\(l.map (·.1)).Nodup/\(∀x,f x=wP l x)/\l.length=n/\PY es KV/\
  ((x∉l.map (·.1)/\f x=none/\(Instr.findKey kt (zY x) es.toList).run P w'=.ok none w')\/∃j v,f x=some v/\l[j]? =some (x,v)/\j<es.size/\(es.toList[j]?).map (·.key)=some (zY x)/\(Instr.findKey kt (zY x) es.toList).run P w'=.ok (some (j,kn.aY v)) w'):=by
 obtain⟨es,c,l,h1,h2,h3,h4,h5,h6,hB⟩:=h;refine⟨es,c,l,h1,h2,h3,h4,h5,h6,hB,?_⟩;rcases Go.Den.xk hp w' x hx es.toList (l.map (·.1)) (λk hk=>hc k (by rw[h5,HE];exact hk)) (by rw[h2,List.map_map];rfl) with⟨g1,g2⟩|⟨j,e,g1,g2,g3⟩
 ·exact .inl ⟨g1,by rw[h5,HP g1],g2⟩
 ·right;rw[oM] at g1;cases hj:l[j]? with
  |none=>rw[hj] at g1;cases g1
  |some p=>
   rw[hj] at g1;have hp:p.1=x:=by simpa using g1
   obtain⟨y,v⟩:=p;simp only at hp;subst hp;have hv:e.val=kn.aY v:=by
    have:(es.toList.map (·.val))[j]? =some e.val:=by rw[oM,g2];rfl
    rw[h3,oM,hj] at this;simpa using this.symm
   have uC:(es.toList[j]?).map (·.key)=some (zY y):=by
    have:(es.toList.map (·.key))[j]? =some (zY y):=by rw[h2,oM,hj];rfl
    rwa[oM] at this
   refine⟨j,v,by rw[h5,ZM h4 hj],hj,by simpa using(eQ.1 g2).1,uC,by rw[<-hv];exact g3⟩
theorem lookup1_p{kt et:TypeId}{t:TypeId}(ht:P.underlying t=some (.map kt et))(hp:PtrK P kt){z:kn.T}(hz:(P.info? et).map (·.zero)=some (some (kn.aY z)))(h:kV w r zY kn f n)(x:Nat)(hc:∀k,(f k).isSome=true->zM w k)(hx:zM w x){Q:kn.T->aH->Prop}
  (hQ:Q ((f x).getD z) w):nA P kn t (.map (some r)) (zY x) w Q:=by
 obtain⟨es,c,l,h1,h2,h3,h4,h5,h6,hB,hf⟩:=h.xk hp x w hc hx;have hzv:(zeroValue et).run P w=.ok (kn.aY z) w:=by
  cases hq:P.info? et with
  |none=>rw[hq] at hz;cases hz
  |some i=>rw[hq] at hz;simp at hz;simp[zeroValue,typeInfo,hq,hz]
 rcases hf with⟨_,g,qE⟩|⟨j,v,g,_,_,_,qE⟩
 ·rw[g] at hQ;exact⟨z,w,by simp[Instr.lookup,run_underlying ht,MapKept.run_getObj_map h1,OT hp,qE,hzv],hQ⟩
 ·rw[g] at hQ;exact⟨v,w,by simp[Instr.lookup,run_underlying ht,MapKept.run_getObj_map h1,OT hp,qE],hQ⟩
theorem update_p{kt et:TypeId}{t:TypeId}(ht:P.underlying t=some (.map kt et))(hp:PtrK P kt)(h:kV w r zY kn f n)(x:Nat)(v:kn.T)(hc:∀k,(f k).isSome=true->zM w k)(hx:zM w x){Q:aH->Prop}
  (hQ:∀w',kV w' r zY kn (λy=>if y=x then some v else f y) (if(f x).isSome then n else n+1)->aU (λk=>k=r) w w'->w'.heap.size=w.heap.size->Q w'):gJ P t (.map (some r)) (zY x) (kn.aY v) w Q:=by
 obtain⟨es,c,l,h1,h2,h3,h4,h5,h6,hB,hf⟩:=h.xk hp x w hc hx;rcases hf with⟨OF,g,qE⟩|⟨j,u,g,hj,hjs,uC,qE⟩
 ·refine⟨{w with heap:=w.heap.setIfInBounds r (.map (es.push {key:=zY x,val:=kn.aY v,born:=c}) (c+1))},by simp[Instr.mapUpdate,run_underlying ht,MapKept.run_getObj_map h1,OT hp,qE,run_setObj_map _ h1],hQ _ ?_ (lZ w r _) dN⟩;refine⟨_,_,l++[(x,v)],(heap_set h1).1,by simp[h2],by simp[h3],?_,λy=>?_,by rw[g];simp[h6],hB.push _ _⟩
  ·rw[wQ,List.nodup_append];exact⟨h4,by simp,λa ha b hb=>by simp at hb;subst hb;exactλe=>OF (e▸ha)⟩
  ·show(if y=x then some v else f y)=_
   rw[EG OF y,h5]
 ·obtain⟨e,he⟩:∃e,es.toList[j]? =some e:=⟨_,cM (by simpa using hjs)⟩;have hek:e.key=zY x:=by rw[he] at uC;simpa using uC
  have hea:es[j]? =some e:=by simpa using he
  refine⟨{w with heap:=w.heap.setIfInBounds r (.map (es.modify j λe=>{e with key:=zY x,val:=kn.aY v}) c)},by simp[Instr.mapUpdate,run_underlying ht,MapKept.run_getObj_map h1,OT hp,qE,run_setObj_map _ h1,Instr.keyThatStays,hea,hek,ptr_stays],hQ _ ?_ (lZ w r _) dN⟩;refine⟨_,_,l.set j (x,v),(heap_set h1).1,?_,?_,?_,λy=>?_,by rw[g];simp[h6],hB.modify j (λe=>{e with key:=zY x,val:=kn.aY v}) λ_=>rfl⟩
  ·rw[NW es j _ _ uC,h2];apply yG;intro i;simp only[oM,jA]
   by_cases hi:j=i
   ·subst hi;have cC:=(eQ.1 hj).1;rw[hj];simp[cC]
   ·simp[hi]
  ·rw[NV,h3,List.map_set]
  ·have:(l.set j (x,v)).map (·.1)=l.map (·.1):=by
    apply yG;intro i;simp only[oM,jA]
    by_cases hi:j=i
    ·subst hi;have cC:=(eQ.1 hj).1;rw[hj];simp[cC]
    ·simp[hi]
   rw[this];exact h4
  ·show(if y=x then some v else f y)=_
   rw[XA h4 (by rw[hj];rfl) y,h5]
end
end
end Go.Den
namespace Go.Den
open Go
section
set_option linter.unusedSectionVars false
def gS{ι:Type}(A:ι->As):As:=λw S=>∃gR:Nat->Option ι,(∀i,A i w (λk=>gR k=some i))/\∀k,S k↔∃i,gR k=some i
instance gS.loc{ι:Type}{A:ι->As}[h:∀i,bG (A i)]:bG (gS A):=⟨
 λ⟨gR,ha,e⟩ k hk=>by obtain⟨i,hi⟩:=(e k).1 hk;exact(h i).gX (ha i) k hi,
 λ⟨gR,ha,e⟩ m hn=>⟨gR,λi=>(h i).aK (ha i) m λk hk=>hn k ((e k).2 ⟨i,hk⟩),e⟩⟩
theorem As.ext{A:As}{w:aH}{S T:BS}(h:A w S)(e:∀k,S k↔T k):A w T:=by
 have:S=T:=funext λk=>propext (e k);rwa[<-this]
section
variable{ι:Type}[DecidableEq ι]{A:ι->As}{w:aH}{S:BS}
abbrev FZ(A:ι->As)(i:ι)(X:As):ι->As:=λj=>if j=i then X else A j
omit [DecidableEq ι] in
theorem gS.get(h:gS A w S)(i:ι):∃S1,A i w S1/\∀k,S1 k->S k:=by
 obtain⟨gR,ha,e⟩:=h;exact⟨_,ha i,λk hk=>(e k).2 ⟨i,hk⟩⟩
theorem gS.at2[hl:∀i,bG (A i)](h:gS A w S){i j:ι}(RT:i≠j):∃S1,bJ (A i) (A j) w S1/\(∀k,S1 k->S k)/\∀B C D w' T,Up S1 T w w'->bJ (bJ B C) D w' T->∃S',bJ (gS (FZ (FZ A i B) j C)) D w' S'/\Up S S' w w':=by
 have hb:=bG.gX h;obtain⟨gR,ha,e⟩:=h;refine⟨λk=>gR k=some i\/gR k=some j,bJ.xR (ha i) (ha j) λk h1 h2=>RT (tZ (h1.symm.trans h2)),λk hk=>(e k).2 (hk.elim (λh=>⟨_,h⟩) λh=>⟨_,h⟩),λB C D w' T u hT=>?_⟩;obtain⟨TX,TD,⟨TB,TC,hB,hC,dBC,eBC⟩,hD,dXD,eXD⟩:=hT;have hs:∀k,T k->(gR k=some i\/gR k=some j)\/w.heap.size<=k:=u.s;have IU:∀k,gR k≠none->k<w.heap.size:=λk hk=>by
  cases ho:gR k with
  |none=>exact absurd ho hk
  |some x=>exact hb k ((e k).2 ⟨x,ho⟩)
 let qQ:Nat->Option ι:=λk=>@ite _ (TB k) (Classical.propDecidable _) (some i) (@ite _ (TC k) (Classical.propDecidable _) (some j) (if gR k=some i\/gR k=some j then none else gR k))
 have oB:∀k,TB k->qQ k=some i:=λk hk=>by simp only[qQ];rw[if_pos hk]
 have oC:∀k,TC k->qQ k=some j:=λk hk=>by simp only[qQ];rw[if_neg λh=>dBC k h hk,if_pos hk]
 have oN:∀k,¬TB k->¬TC k->qQ k=if gR k=some i\/gR k=some j then none else gR k:=λk h1 h2=>by simp only[qQ];rw[if_neg h1,if_neg h2]
 have inv:∀k x,qQ k=some x->(x=i/\TB k)\/(x=j/\TC k)\/(x≠i/\x≠j/\gR k=some x/\¬TB k/\¬TC k):=λk x hx=>by
  by_cases h1:TB k
  ·rw[oB k h1] at hx;cases hx;exact .inl ⟨rfl,h1⟩
  ·by_cases h2:TC k
   ·rw[oC k h2] at hx;cases hx;exact .inr (.inl ⟨rfl,h2⟩)
   ·rw[oN k h1 h2] at hx
    split at hx
    ·cases hx
    ·rename_i hn
     exact .inr (.inr ⟨λe=>hn (.inl (e▸hx)),λe=>hn (.inr (e▸hx)),hx,h1,h2⟩)
 have old:∀k x,gR k=some x->x≠i->x≠j->¬T k:=λk x hx h1 h2 hT=>by
  rcases hs k hT with(h|h)|h
  ·exact h1 (tZ (hx.symm.trans h))
  ·exact h2 (tZ (hx.symm.trans h))
  ·have:=IU k (by rw[hx];simp);omega
 have TT:∀k,TB k\/TC k->T k:=λk hk=>(eXD k).2 (.inl ((eBC k).2 hk));refine⟨λk=>(∃x,qQ k=some x)\/TD k,⟨λk=>∃x,qQ k=some x,TD,⟨qQ,λx=>?_,λ_=>Iff.rfl⟩,hD,λk ⟨x,hx⟩ hd=>?_,λ_=>Iff.rfl⟩,u.m.mono λk _ hk=>(e k).2 (hk.elim (λh=>⟨_,h⟩) λh=>⟨_,h⟩),λk hk=>?_⟩
 ·by_cases hj:x=j
  ·subst hj;simp only[FZ,if_pos];exact As.ext hC λk=>⟨oC k,λhx=>by
    rcases inv k _ hx with⟨h,_⟩|⟨_,h⟩|⟨_,h,_⟩
    ·exact absurd h.symm RT
    ·exact h
    ·exact absurd rfl h⟩
  ·by_cases hi:x=i
   ·subst hi;simp only[FZ,if_neg hj,if_pos];exact As.ext hB λk=>⟨oB k,λhx=>by
     rcases inv k _ hx with⟨_,h⟩|⟨h,_⟩|⟨h,_⟩
     ·exact h
     ·exact absurd h RT
     ·exact absurd rfl h⟩
   ·simp only[FZ,if_neg hj,if_neg hi];have h0:=(hl x).aK (ha x) u.m λk hk lT=>by
     rcases lT with h|h
     ·exact hi (tZ (hk.symm.trans h))
     ·exact hj (tZ (hk.symm.trans h))
    refine As.ext h0 λk=>⟨λhx=>?_,λhx=>?_⟩
    ·have hT:=old k x hx hi hj;rw[oN k (λh=>hT (TT k (.inl h))) (λh=>hT (TT k (.inr h))),if_neg,hx];rintro(h|h)
     ·exact hi (tZ (hx.symm.trans h))
     ·exact hj (tZ (hx.symm.trans h))
    ·rcases inv k x hx with⟨h,_⟩|⟨h,_⟩|⟨_,_,h,_⟩
     ·exact absurd h hi
     ·exact absurd h hj
     ·exact h
 ·rcases inv k x hx with⟨_,h⟩|⟨_,h⟩|⟨h1,h2,h3,_⟩
  ·exact dXD k ((eBC k).2 (.inl h)) hd
  ·exact dXD k ((eBC k).2 (.inr h)) hd
  ·exact old k x h3 h1 h2 ((eXD k).2 (.inr hd))
 ·have toS:T k->S k\/w.heap.size<=k:=λhT=>(hs k hT).imp (λh=>(e k).2 (h.elim (λh=>⟨_,h⟩) λh=>⟨_,h⟩)) id;rcases hk with⟨x,hx⟩|hk
  ·rcases inv k x hx with⟨_,h⟩|⟨_,h⟩|⟨_,_,h,_⟩
   ·exact toS (TT k (.inl h))
   ·exact toS (TT k (.inr h))
   ·exact .inl ((e k).2 ⟨x,h⟩)
  ·exact toS ((eXD k).2 (.inr hk))
theorem gS.at2X[hl:∀i,bG (A i)](h:gS A w S){i j:ι}(RT:i≠j):∃S1,bJ (A i) (A j) w S1/\(∀k,S1 k->S k)/\∀B C M w' T,aU M w w'->(∀k,M k->S1 k\/¬S k)->(∀k,T k->S1 k\/¬S k)->bJ B C w' T->∃S',gS (FZ (FZ A i B) j C) w' S'/\∀k,S' k↔(S k/\¬S1 k)\/T k:=by
 obtain⟨gR,ha,e⟩:=h;refine⟨λk=>gR k=some i\/gR k=some j,bJ.xR (ha i) (ha j) λk h1 h2=>RT (tZ (h1.symm.trans h2)),λk hk=>(e k).2 (hk.elim (λh=>⟨_,h⟩) λh=>⟨_,h⟩),λB C M w' T m hM hT' hT=>?_⟩;obtain⟨TB,TC,hB,hC,dBC,eBC⟩:=hT
 let qQ:Nat->Option ι:=λk=>@ite _ (TB k) (Classical.propDecidable _) (some i) (@ite _ (TC k) (Classical.propDecidable _) (some j) (if gR k=some i\/gR k=some j then none else gR k))
 have oB:∀k,TB k->qQ k=some i:=λk hk=>by simp only[qQ];rw[if_pos hk]
 have oC:∀k,TC k->qQ k=some j:=λk hk=>by simp only[qQ];rw[if_neg λh=>dBC k h hk,if_pos hk]
 have oN:∀k,¬TB k->¬TC k->qQ k=if gR k=some i\/gR k=some j then none else gR k:=λk h1 h2=>by simp only[qQ];rw[if_neg h1,if_neg h2]
 have inv:∀k x,qQ k=some x->(x=i/\TB k)\/(x=j/\TC k)\/(x≠i/\x≠j/\gR k=some x/\¬TB k/\¬TC k):=λk x hx=>by
  by_cases h1:TB k
  ·rw[oB k h1] at hx;cases hx;exact .inl ⟨rfl,h1⟩
  ·by_cases h2:TC k
   ·rw[oC k h2] at hx;cases hx;exact .inr (.inl ⟨rfl,h2⟩)
   ·rw[oN k h1 h2] at hx
    split at hx
    ·cases hx
    ·rename_i hn
     exact .inr (.inr ⟨λe=>hn (.inl (e▸hx)),λe=>hn (.inr (e▸hx)),hx,h1,h2⟩)
 have old:∀k x,gR k=some x->x≠i->x≠j->¬((gR k=some i\/gR k=some j)\/¬S k):=λk x hx h1 h2 hT=>by
  rcases hT with(h|h)|h
  ·exact h1 (tZ (hx.symm.trans h))
  ·exact h2 (tZ (hx.symm.trans h))
  ·exact h ((e k).2 ⟨x,hx⟩)
 have TT:∀k,TB k\/TC k->T k:=λk hk=>(eBC k).2 hk;refine⟨λk=>∃x,qQ k=some x,⟨qQ,λx=>?_,λ_=>Iff.rfl⟩,λk=>⟨?_,?_⟩⟩
 ·by_cases hj:x=j
  ·subst hj;simp only[FZ,if_pos];exact As.ext hC λk=>⟨oC k,λhx=>by
    rcases inv k _ hx with⟨h,_⟩|⟨_,h⟩|⟨_,h,_⟩
    ·exact absurd h.symm RT
    ·exact h
    ·exact absurd rfl h⟩
  ·by_cases hi:x=i
   ·subst hi;simp only[FZ,if_neg hj,if_pos];exact As.ext hB λk=>⟨oB k,λhx=>by
     rcases inv k _ hx with⟨_,h⟩|⟨h,_⟩|⟨h,_⟩
     ·exact h
     ·exact absurd h RT
     ·exact absurd rfl h⟩
   ·simp only[FZ,if_neg hj,if_neg hi];have h0:=(hl x).aK (ha x) m λk hk lT=>old k x hk hi hj (hM k lT);refine As.ext h0 λk=>⟨λhx=>?_,λhx=>?_⟩
    ·have hT:¬T k:=λht=>old k x hx hi hj (hT' k ht);rw[oN k (λh=>hT (TT k (.inl h))) (λh=>hT (TT k (.inr h))),if_neg,hx];rintro(h|h)
     ·exact hi (tZ (hx.symm.trans h))
     ·exact hj (tZ (hx.symm.trans h))
    ·rcases inv k x hx with⟨h,_⟩|⟨h,_⟩|⟨_,_,h,_⟩
     ·exact absurd h hi
     ·exact absurd h hj
     ·exact h
 ·rintro⟨x,hx⟩;rcases inv k x hx with⟨_,h⟩|⟨_,h⟩|⟨h1,h2,h,_⟩
  ·exact .inr (TT k (.inl h))
  ·exact .inr (TT k (.inr h))
  ·exact .inl ⟨(e k).2 ⟨x,h⟩,λh'=>h'.elim (λh'=>h1 (tZ (h.symm.trans h'))) λh'=>h2 (tZ (h.symm.trans h'))⟩
 ·rintro(⟨h,hn⟩|h)
  ·obtain⟨x,hx⟩:=(e k).1 h
   by_cases h1:TB k
   ·exact⟨i,oB k h1⟩
   ·by_cases h2:TC k
    ·exact⟨j,oC k h2⟩
    ·exact⟨x,by rw[oN k h1 h2,if_neg hn];exact hx⟩
  ·rcases(eBC k).1 h with h|h
   ·exact⟨i,oB k h⟩
   ·exact⟨j,oC k h⟩
theorem gS.at[hl:∀i,bG (A i)](h:gS A w S)(i:ι):ig w S (A i) λX=>gS (FZ A i X):=by
 have hb:=bG.gX h;obtain⟨gR,ha,e⟩:=h;refine⟨λk=>gR k=some i,ha i,λk hk=>(e k).2 ⟨_,hk⟩,λB D w' T u hT=>?_⟩;obtain⟨TB,TD,hB,hD,dBD,eBD⟩:=hT;have IU:∀k x,gR k=some x->k<w.heap.size:=λk x hk=>hb k ((e k).2 ⟨x,hk⟩)
 let qQ:Nat->Option ι:=λk=>@ite _ (TB k) (Classical.propDecidable _) (some i) (if gR k=some i then none else gR k)
 have oB:∀k,TB k->qQ k=some i:=λk hk=>by simp only[qQ];rw[if_pos hk]
 have oN:∀k,¬TB k->qQ k=if gR k=some i then none else gR k:=λk h1=>by simp only[qQ];rw[if_neg h1]
 have inv:∀k x,qQ k=some x->(x=i/\TB k)\/(x≠i/\gR k=some x/\¬TB k):=λk x hx=>by
  by_cases h1:TB k
  ·rw[oB k h1] at hx;cases hx;exact .inl ⟨rfl,h1⟩
  ·rw[oN k h1] at hx
   split at hx
   ·cases hx
   ·rename_i hn
    exact .inr ⟨λe=>hn (e▸hx),hx,h1⟩
 have old:∀k x,gR k=some x->x≠i->¬T k:=λk x hx h1 hT=>by
  rcases u.s k hT with h|h
  ·exact h1 (tZ (hx.symm.trans h))
  ·have:=IU k x hx;omega
 refine⟨λk=>(∃x,qQ k=some x)\/TD k,⟨λk=>∃x,qQ k=some x,TD,⟨qQ,λx=>?_,λ_=>Iff.rfl⟩,hD,λk ⟨x,hx⟩ hd=>?_,λ_=>Iff.rfl⟩,u.m.mono λk _ hk=>(e k).2 ⟨_,hk⟩,λk hk=>?_⟩
 ·by_cases hi:x=i
  ·subst hi;simp only[FZ,if_pos];exact As.ext hB λk=>⟨oB k,λhx=>by
    rcases inv k _ hx with⟨_,h⟩|⟨h,_⟩
    ·exact h
    ·exact absurd rfl h⟩
  ·simp only[FZ,if_neg hi];have h0:=(hl x).aK (ha x) u.m λk hk lT=>hi (tZ (hk.symm.trans lT));refine As.ext h0 λk=>⟨λhx=>?_,λhx=>?_⟩
   ·have hT:=old k x hx hi;rw[oN k (λh=>hT ((eBD k).2 (.inl h))),if_neg,hx]
    exactλh=>hi (tZ (hx.symm.trans h))
   ·rcases inv k x hx with⟨h,_⟩|⟨_,h,_⟩
    ·exact absurd h hi
    ·exact h
 ·rcases inv k x hx with⟨_,h⟩|⟨h1,h3,_⟩
  ·exact dBD k h hd
  ·exact old k x h3 h1 ((eBD k).2 (.inr hd))
 ·have toS:T k->S k\/w.heap.size<=k:=λhT=>(u.s k hT).imp (λh=>(e k).2 ⟨_,h⟩) id;rcases hk with⟨x,hx⟩|hk
  ·rcases inv k x hx with⟨_,h⟩|⟨_,h,_⟩
   ·exact toS ((eBD k).2 (.inl h))
   ·exact .inl ((e k).2 ⟨x,h⟩)
  ·exact toS ((eBD k).2 (.inr hk))
theorem gS.nil(w:aH):gS (λ_:ι=>DR) w (λ_=>False):=⟨λ_=>none,λi k hk=>(by cases hk),λk=>⟨False.elim,λ⟨i,hi⟩=>by cases hi⟩⟩
theorem gS.put{T:BS}{i:ι}{X:As}(h:gS A w S)(hi:A i=DR)(hX:X w T)(hd:∀k,S k->T k->False):gS (FZ A i X) w (λk=>S k\/T k):=by
 obtain⟨gR,ha,e⟩:=h;have h0:∀k,gR k≠some i:=λk hk=>by have:=ha i;rw[hi] at this;exact this k hk
 let qQ:Nat->Option ι:=λk=>@ite _ (T k) (Classical.propDecidable _) (some i) (gR k)
 have oT:∀k,T k->qQ k=some i:=λk hk=>by simp only[qQ];rw[if_pos hk]
 have oN:∀k,¬T k->qQ k=gR k:=λk hk=>by simp only[qQ];rw[if_neg hk]
 refine⟨qQ,λx=>?_,λk=>⟨?_,?_⟩⟩
 ·by_cases hx:x=i
  ·subst hx;simp only[FZ,if_pos];exact As.ext hX λk=>⟨oT k,λh=>Classical.byContradiction λhn=>h0 k ((oN k hn).symm.trans h)⟩
  ·simp only[FZ,if_neg hx];refine As.ext (ha x) λk=>⟨λh=>?_,λh=>?_⟩
   ·rw[oN k λhT=>hd k ((e k).2 ⟨x,h⟩) hT];exact h
   ·by_cases hT:T k
    ·rw[oT k hT] at h;exact absurd (tZ h).symm hx
    ·rw[oN k hT] at h;exact h
 ·rintro(h|h)
  ·obtain⟨x,hx⟩:=(e k).1 h;exact⟨x,by rw[oN k λhT=>hd k h hT];exact hx⟩
  ·exact⟨i,oT k h⟩
 ·rintro⟨x,hx⟩
  by_cases hT:T k
  ·exact .inr hT
  ·exact .inl ((e k).2 ⟨x,by rw[<-oN k hT];exact hx⟩)
theorem gS.swap[hl:∀i,bG (A i)]{T:BS}(h:gS A w S)(i:ι){X:As}(hX:X w T)(hd:∀k,S k->T k->False):∃S',gS (FZ A i X) w S'/\∀k,S' k->S k\/T k:=by
 obtain⟨gR,ha,e⟩:=h;have h0:gS (FZ A i DR) w (λk=>∃j,(if gR k=some i then none else gR k)=some j):=by
  refine⟨λk=>if gR k=some i then none else gR k,λj=>?_,λk=>Iff.rfl⟩
  by_cases hj:j=i
  ·subst hj;simp only[FZ,if_pos];intro k hk
   split at hk
   ·cases hk
   ·exact absurd hk (by assumption)
  ·simp only[FZ,if_neg hj];refine As.ext (ha j) λk=>⟨λh=>?_,λh=>?_⟩
   ·rw[if_neg (λh'=>hj (tZ (h.symm.trans h'))),h]
   ·split at h
    ·cases h
    ·exact h
 have LU:∀k,(∃j,(if gR k=some i then none else gR k)=some j)->S k:=λk ⟨j,hj⟩=>by
  split at hj
  ·cases hj
  ·exact(e k).2 ⟨j,hj⟩
 have h1:=gS.put h0 (i:=i) (by simp[FZ]) hX λk h1 h2=>hd k (LU k h1) h2;have e1:FZ (FZ A i DR) i X=FZ A i X:=by
  funext j
  by_cases hj:j=i<;>simp[FZ,hj]
 rw[e1] at h1;exact⟨_,h1,λk hk=>hk.imp (LU k) id⟩
end
end
end Go.Den
