import Derived.ArgAppend
import Derived.WalkKit
import Derived.ProofKit
import Derived.OpenShut
import Derived.JoinedOf
import Derived.Handed
import Derived.WideKeyArgs
import Derived.ChangeSlices
import Derived.Laws.IdiomArrays
import Derived.Laws.BytesArg
import Derived.LaidEql
import Derived.Test.YtihggjgakbgomaaGreatA1
namespace Go.Den
open Go
section
structure sj{α:Type}(w:aH)(e:TypeId)(n:Nat)(aX:α->List Value)(s:Sl)(xs:List α):Prop where
 len:s.l=xs.length
 cap:s.l<=s.c
 max:s.c<=maxLen
 gN:s.c=0\/∃g pre cR,s.b=some ⟨g,pre.length,none⟩/\cW w g e (pre++(xs.flatMap aX++cR))/\(xs.flatMap aX++cR).length=s.c*n
section
variable{α:Type}{w w':aH}{e:TypeId}{n:Nat}{aX:α->List Value}{s:Sl}{xs:List α}
theorem dP.veo(h:dP w e n aX s xs):sj w e n aX s xs:=⟨h.len,h.cap,h.max,by
 rcases h.gN with⟨_,h⟩|⟨g,cR,h1,h2,h3⟩
 ·exact .inl h
 ·exact .inr ⟨g,[],cR,h1,h2,h3⟩⟩
theorem sj.rd(h:sj w e n aX s xs)(gA:∀x,(aX x).length=n):Rd w s n aX xs:=by
 refine⟨h.len,h.cap,λi x hx=>?_⟩;have cL:i<xs.length:=(kY.1 hx).1;rcases h.gN with h2|⟨g,pre,cR,hb,ho,hl⟩
 ·have:=h.len;have:=h.cap;omega
 ·refine⟨_,hb,?_⟩
  rw[aS];refine ho.holds λj v hv=>?_;rw[Fq aB,show pre.length+i*n+j-pre.length=i*n+j by omega];exact tH gA xs i x j v cR hx hv
theorem sj.aL{F:BS}(h:sj w e n aX s xs)(hm:aY F w w')(hF:∀a,s.c≠0->s.b=some a->¬F a.block):sj w' e n aX s xs:=
 ⟨h.len,h.cap,h.max,by
  by_cases hc:s.c=0
  ·exact .inl hc
  ·exact .inr<|(h.gN.resolve_left hc).imp λg ⟨pre,cR,hb,ho,hl⟩=>⟨pre,cR,hb,ho.aL hm (hF _ hc hb),hl⟩⟩
theorem sj.Vy(h:sj w e n aX s xs){b:Addr}(hc:s.c≠0)(hb:s.b=some b):b.block<w.heap.size:=by
 obtain⟨g,pre,cR,h0,ho,_⟩:=h.gN.resolve_left hc;rw[hb] at h0;cases h0;exact ho.lt
theorem sj.tail{x:α}(h:sj w e n aX s (x::xs))(gA:∀x,(aX x).length=n):sj w e n aX ⟨aR s.b s.c 1 n,s.l-1,s.c-1⟩ xs:=by
 have hl:=h.len;have hc:=h.cap;simp only[mV] at hl;refine⟨by show s.l-1=_;omega,by show s.l-1<=s.c-1;omega,by have:=h.max;show s.c-1<=_;omega,?_⟩
 by_cases h1:s.c=1
 ·exact .inl (by show s.c-1=0;omega)
 ·obtain⟨g,pre,cR,hb,ho,hl⟩:=h.gN.resolve_left aB
  refine .inr ⟨g,pre++aX x,cR,?_,?_,?_⟩
  ·show aR s.b s.c 1 n=_
   unfold aR;rw[if_neg h1,hb];simp[aS,gA]
  ·simpa [sH] using ho
  ·simp only[FC,mH,gA] at hl ⊢
   show _=(s.c-1)*n;rw[Nat.sub_mul,Nat.one_mul];omega
theorem append_o{P:Program}{t:TypeId}{bytes:Nat}{z:List Value}(hE:sI P t e n bytes z)(gA:∀x,(aX x).length=n)(jA:∀x,∀u∈aX x,u.oneCell'=true)
  {x:Sl} {ys:List α} (hs:sj w e n aX s xs) (hx:Rd w x n aX ys) (h63:xs.length+ys.length<=9223372036854775807) (CA:(xs.length+ys.length)*bytes<=140737488355328) {K:Sl->aH->Prop}
  (hK:∀r w',sj w' e n aX r (xs++ys)->aY (λk=>s.c≠0/\∃a,s.b=some a/\k=a.block) w w'->(r.c≠0->(s.c≠0/\r.b=s.b)\/∃a,r.b=some a/\w.heap.size<=a.block)->K r w'):
  aW P t t s (.slice x.b x.l x.c) w K:=by
 obtain⟨i,zv,hi,hz,rfl,rfl,rfl⟩:=hE.info;have ht:=hE.under;have CU:=hs.rd gA;obtain⟨sb,sl,sc⟩:=s;obtain⟨xb,xl,xc⟩:=x;have KU:sl=xs.length:=hs.len;have Cj:xl=ys.length:=hx.len;have hscap:sl<=sc:=hs.cap
 by_cases hy:ys=[]
 ·subst hy
  have hxl0:xl=0:=Cj;subst hxl0;refine⟨⟨sb,sl,sc⟩,w,?_,hK _ _ (by rw[sG];exact hs) (aY.refl _ _) (λh=>.inl ⟨h,rfl⟩)⟩;cases xb<;>cases sb<;>simp[Builtin.append_,run_underlying ht,sizeOf,typeInfo,hi,Builtin.lenOf,Builtin.firstCells,hscap,storeCells,loadCells,loadCellsFrom,oH.aX,CK.aX]
 have uN:0<ys.length:=List.length_pos_iff.2 hy;obtain⟨ax,hax,_⟩:=hx.get 0 ys[0] (gU uN);have hax':xb=some ax:=hax;subst hax';have Gs:=pX hx gA (a:=ax) rfl;have hl:(ys.flatMap aX).length=xl*i.size:=by rw[bI gA,Cj]
 have QV:∀u∈ys.flatMap aX,u.oneCell'=true:=λu hu=>by obtain⟨y,_,hy⟩:=List.mem_flatMap.1 hu;exact jA y u hy
 have hzs:zv.cells.size=i.size:=by have:=hE.zlen;simpa using this
 have hm63:xs.length+ys.length<=maxLen:=by simp only[maxLen];omega
 have grown:∀old,old<sl+xl->dP (w.drew.alloc (.cells ((xs.flatMap aX).toArray++(ys.flatMap aX).toArray++Builtin.zeroCells zv.cells (grownCap w (sl+xl) old e-(sl+xl))) e)) e i.size aX
   ⟨some ⟨w.heap.size,0,none⟩,sl+xl,grownCap w (sl+xl) old e⟩ (xs++ys):=λold hold=>by
  have lK:=grownCap_ge w (sl+xl) old e;have hcm:grownCap w (sl+xl) old e<=maxLen:=grownCap_le_maxLen w (sl+xl) old e aB;refine⟨by simp[KU,Cj],lK,hcm,.inr ⟨w.heap.size,(Builtin.zeroCells zv.cells (grownCap w (sl+xl) old e-(sl+xl))).toList,rfl,?_,?_⟩⟩
  ·have:=cW.iS w.drew ((xs.flatMap aX).toArray++(ys.flatMap aX).toArray++Builtin.zeroCells zv.cells (grownCap w (sl+xl) old e-(sl+xl))) e
   simpa [sH] using this
  ·simp only[mH,bI gA,Array.length_toList,size_zeroCells,hzs,<-KU,<-Cj]
   rw[<-Nat.add_mul];congr 1;show sl+xl+(grownCap w (sl+xl) old e-(sl+xl))=grownCap w (sl+xl) old e;omega
 by_cases DS:sl+xl<=sc
 ·obtain⟨g,pre,cR,hb,ho,fW⟩:=hs.gN.resolve_left (by show¬sc=0;omega)
  have bY:sb=some ⟨g,pre.length,none⟩:=hb;subst bY;have QW:(xs.flatMap aX++cR).length=sc*i.size:=fW;have hxl2:(xs.flatMap aX).length=sl*i.size:=by rw[bI gA,KU]
  have QD:sl*i.size+(ys.flatMap aX).length<=sc*i.size:=by rw[hl,<-Nat.add_mul];exact QB _ DS
  have hyl:(ys.flatMap aX).length<=cR.length:=by rw[mH,hxl2] at QW;omega
  have tZ:∀j,j<(ys.flatMap aX).length->(w.cell? ⟨g,pre.length+sl*i.size+j,none⟩).isSome=true:=λj hj=>by
   rw[ho.cell];simp only[kY,Fo];exact⟨_,by simp only[mH] at QW ⊢;omega,rfl⟩
  have hfz:∀j,j<(ys.flatMap aX).length->w.frozen? ⟨g,pre.length+sl*i.size+j,none⟩=false:=λj _=>by
   have ho':w.heap[g]? =some (.cells (pre++(xs.flatMap aX++cR)).toArray e (0,0)):=ho;unfold World.frozen?;rw[ho'];simp
  have hr:=run_append_room_cells (P:=P) w t 0 e i ht hi g pre.length sl sc ax xl xc (ys.flatMap aX) hl Gs QV DS tZ hfz;have BB:=run_storeCells_at P g (pre.length+sl*i.size) e (ys.flatMap aX) 0 (pre++(xs.flatMap aX++cR)).toArray w ho (by simp only[List.size_toArray,mH] at QW ⊢;omega) QV;have hst2:=run_storeCells_cells (P:=P) g (pre.length+sl*i.size) (ys.flatMap aX) 0 w (by simpa using tZ) (by simpa using hfz) QV;simp only[Nat.add_zero] at BB hst2;rw[BB] at hst2;have hw:w.setCells g (pre.length+sl*i.size) (ys.flatMap aX)=w.setRow g (((pre++(xs.flatMap aX++cR)).toArray.toList.take (pre.length+sl*i.size)++ys.flatMap aX++(pre++(xs.flatMap aX++cR)).toArray.toList.drop (pre.length+sl*i.size+(ys.flatMap aX).length))).toArray:=by
   injection hst2 with _ h2;exact h2.symm
  rw[hw] at hr;refine⟨(⟨some ⟨g,pre.length,none⟩,sl+xl,sc⟩:Sl),_,hr,hK ⟨some ⟨g,pre.length,none⟩,sl+xl,sc⟩ _ ⟨by simp[KU,Cj],DS,hs.max,.inr ⟨g,pre,cR.drop (ys.flatMap aX).length,rfl,?_,?_⟩⟩ ?_ (λh=>.inl ⟨h,rfl⟩)⟩
  ·have:=cW.setRow ho (pre++((xs++ys).flatMap aX++cR.drop (ys.flatMap aX).length))
   have e1:(pre++(xs.flatMap aX++cR)).toArray.toList.take (pre.length+sl*i.size)=pre++xs.flatMap aX:=by
    show(pre++(xs.flatMap aX++cR)).take _=_;rw[List.take_length_add_append,<-hxl2,List.take_left]
   have e2:(pre++(xs.flatMap aX++cR)).toArray.toList.drop (pre.length+sl*i.size+(ys.flatMap aX).length)=cR.drop (ys.flatMap aX).length:=by
    show(pre++(xs.flatMap aX++cR)).drop _=_;rw[Nat.add_assoc,List.drop_length_add_append,<-hxl2,List.drop_length_add_append]
   rw[e1,e2];simpa [JC,sH] using this
  ·show _=sc*i.size
   rw[mH] at QW;rw[JC,mH,mH,List.length_drop];omega
  ·exact(aY.setRow w g _).mono λk _ hk=>⟨by show sc≠0;omega,_,rfl,hk⟩
 ·cases sb with
  |none=>
   have hx0:xs=[]:=by
    cases xs with
    |nil=>rfl
    |cons y r=>obtain⟨a,ha,_⟩:=CU.get 0 y rfl;cases ha
   subst hx0;have hs0:sl=0:=KU;have hc0:sc=0:=by
    rcases hs.gN with h|⟨g,pre,cR,hb,_⟩
    ·exact h
    ·cases hb
   subst hs0;subst hc0;have hr:=run_append_nil (P:=P) w t 0 e i zv ht hi hz ax xl xc (ys.flatMap aX) hl Gs aB aB (by simp at CA;rw[Cj];omega);have hg:=grown 0 aB;simp only[pU,List.flatMap_nil] at hg;have ib:dP (w.drew.alloc (.cells ((ys.flatMap aX).toArray++Builtin.zeroCells zv.cells (grownCap w xl 0 e-xl)) e)) e i.size aX ⟨some ⟨w.heap.size,0,none⟩,xl,grownCap w xl 0 e⟩ ([]++ys):=by simpa using hg
   exact⟨(⟨some ⟨w.heap.size,0,none⟩,xl,grownCap w xl 0 e⟩:Sl),_,hr,hK _ _ ib.veo ((aY.refl _ w).drew.alloc _) λ_=>.inr ⟨_,rfl,iX _⟩⟩
  |some b=>
   have holds:∀j u,(xs.flatMap aX)[j]? =some u->w.cell? (b.add j)=some u:=pX CU gA rfl;have hr:=run_append_grow (P:=P) w t 0 e i zv ht hi hz b sl sc (xs.flatMap aX) (by rw[bI gA,KU]) holds ax xl xc (ys.flatMap aX) hl Gs aB aB (growslice_fits aB (by rw[KU,Cj];exact CA));exact⟨(⟨some ⟨w.heap.size,0,none⟩,sl+xl,grownCap w (sl+xl) sc e⟩:Sl),_,hr,hK _ _ (grown sc aB).veo ((aY.refl _ w).drew.alloc _) λ_=>.inr ⟨_,rfl,iX _⟩⟩
end
def Sa{α:Type}(e:TypeId)(n:Nat)(aX:α->List Value)(s:Sl)(xs:List α):As:=λw S=>sj w e n aX s xs/\∀k,S k↔s.c≠0/\∃b,s.b=some b/\k=b.block
instance{α:Type}{e:TypeId}{n:Nat}{aX:α->List Value}{s:Sl}{xs:List α}:bF (Sa e n aX s xs):=⟨
 λ⟨h,e⟩ k hk=>by obtain⟨hc,b,hb,rfl⟩:=(e k).1 hk;exact h.Vy hc hb,
 λ⟨h,e⟩ m hn=>⟨h.aL m λb hc hb=>hn _ ((e _).2 ⟨hc,b,hb,rfl⟩),e⟩⟩
end
section
structure bQ where
 f:Int
 t:Int
 w:Int
 m:Int
 deriving DecidableEq
abbrev eC(a:bQ):List Value:=[.int .i64 a.f,.int .i64 a.t,.int .i64 a.w,.int .i64 a.m]
abbrev nY(a:bQ):Int×Int×Int×Int×Unit:=(a.f,a.t,a.w,a.m,())
theorem WG(a:bQ):eC a≠[]:=by simp[eC]
section
variable{α:Type}
theorem KL{r:α->α->Prop}(hirr:∀a,¬r a a)(dK:∀a b,r a b->¬r b a):∀{l m:List α},l.Pairwise r->m.Pairwise r->(∀x,x∈l↔x∈m)->l=m
 | [],[],_,_,_=>rfl
 | [],b::m,_,_,h=>absurd ((h b).2 dJ) dJ
 |a::l,[],_,_,h=>absurd ((h a).1 dJ) dJ
 |a::l,b::m,hl,hm,h=>by
  rw[List.pairwise_cons] at hl hm;have zf:a=b:=by
   rcases jL.1 ((h a).1 dJ) with e|e
   ·exact e
   ·rcases jL.1 ((h b).2 dJ) with e'|e'
    ·exact e'.symm
    ·exact absurd (hm.1 a e) (dK _ _ (hl.1 b e'))
  subst zf;congr 1;refine KL hirr dK hl.2 hm.2 λx=>⟨λhx=>?_,λhx=>?_⟩
  ·rcases jL.1 ((h x).1 (by simp[hx])) with e|e
   ·subst e;exact absurd (hl.1 x hx) (hirr x)
   ·exact e
  ·rcases jL.1 ((h x).2 (by simp[hx])) with e|e
   ·subst e;exact absurd (hm.1 x hx) (hirr x)
   ·exact e
theorem XQ{p:α->Bool}:∀{l:List α} {i:Nat},(∀x∈l.take i,p x=true)->(∀x∈l.drop i,p x=false)->l.filter p=l.take i/\l.filter (λx=>!p x)=l.drop i
 |l,0,_,h2=>by
  simp only[List.drop_zero] at h2;exact⟨by simp only[List.take_zero];exact List.filter_eq_nil_iff.2 λx hx=>by rw[h2 x hx];simp,by simp only[List.drop_zero];exact List.filter_eq_self.2 λx hx=>by rw[h2 x hx];rfl⟩
 | [],i+1,_,_=>by simp
 |a::l,i+1,h1,h2=>by
  simp only[List.take_succ_cons,List.drop_succ_cons] at h1 h2 ⊢;obtain⟨e1,e2⟩:=XQ (l:=l) (i:=i) (λx hx=>h1 x (by simp[hx])) h2;have ha:=h1 a dJ;simp[FB,ha,e1,e2]
variable(k:α->Int)
def YR(l:List α):Prop:=l.Pairwise λx y=>k x<k y
def DR(l:List α)(a:α):List α:=l.filter (λx=>decide (k x<k a))++a::l.filter (λx=>decide (k a<k x))
structure zJ(l:List α)(v:Int)(i:Nat):Prop where
 le:i<=l.length
 lo:∀p x,p<i->l[p]? =some x->k x<v
 hi:∀p x,i<=p->l[p]? =some x->v<=k x
variable{k}
theorem YR.get{l:List α}(h:YR k l){p q:Nat}{x y:α}(hpq:p<q)(hx:l[p]? =some x)(hy:l[q]? =some y):k x<k y:=by
 have:=Ws.1 h;have hp:=(kY.1 hx);have hq:=(kY.1 hy);obtain⟨hp1,Ln⟩:=hp;obtain⟨hq1,hq2⟩:=hq;have:=this p q hp1 hq1 hpq;rwa[Ln,hq2] at this
theorem zJ.take{l:List α}{v:Int}{i:Nat}(h:zJ k l v i):l.take i=l.filter (λx=>decide (k x<v))/\l.drop i=l.filter (λx=>decide (v<=k x)):=by
 have:=XQ (l:=l) (i:=i) (p:=λx=>decide (k x<v)) (λx hx=>by
  obtain⟨p,hp⟩:=oZ.1 hx;have cL:p<i:=by have:=(kY.1 hp).1;simp at this;omega
  rw[VE cL] at hp;simpa using h.lo p x cL hp) (λx hx=>by
  obtain⟨p,hp⟩:=oZ.1 hx;rw[List.getElem?_drop] at hp;have:=h.hi (i+p) x aB hp;simp;omega)
 refine⟨this.1.symm,?_⟩;rw[<-this.2];apply List.filter_congr;intro x _
 by_cases h:k x<v<;>simp[h]<;>omega
theorem zJ.qJ{l:List α}(hs:YR k l){v:Int}{i:Nat}(h:zJ k l v i){x:α}(hx:x∈l)(hk:k x=v):l[i]? =some x:=by
 obtain⟨p,hp⟩:=oZ.1 hx;have h1:i<=p:=by
  apply Nat.le_of_not_lt;intro cL;have:=h.lo p x cL hp;omega
 rcases Nat.eq_or_lt_of_le h1 with e|cL
 ·rw[e];exact hp
 ·have hi:i<l.length:=by have:=(kY.1 hp).1;omega
  have h2:=h.hi i l[i] (iX _) (gU hi);have h3:=hs.get cL (gU hi) hp;omega
theorem zJ.ins_new{l:List α}{a:α}{i:Nat}(h:zJ k l (k a) i)(hn:∀x∈l,k x≠k a):l.take i++[a]++l.drop i=DR k l a:=by
 obtain⟨e1,e2⟩:=h.take;unfold DR;rw[e1,e2];simp only[sH,List.cons_append,List.nil_append];congr 2;apply List.filter_congr;intro x hx;have:=hn x hx
 by_cases h1:k a<=k x<;>by_cases h2:k a<k x<;>simp[h1,h2]<;>omega
theorem zJ.ins_at{l:List α}(hs:YR k l){a:α}{i:Nat}(h:zJ k l (k a) i){x:α}(hx:x∈l)(hk:k x=k a):l.set i a=DR k l a:=by
 obtain⟨e1,e2⟩:=h.take;have hf:=h.qJ hs hx hk;have hi:i<l.length:=(kY.1 hf).1;unfold DR;rw[List.set_eq_take_append_cons_drop,if_pos hi,e1];congr 2;have h3:l.drop i=x::l.drop (i+1):=by
  rw[List.drop_eq_getElem_cons hi];congr 1;exact(kY.1 hf).2
 have h4:zJ k l (k a+1) (i+1):=by
  refine⟨hi,λp y hp hy=>?_,λp y hp hy=>?_⟩
  ·rcases Nat.eq_or_lt_of_le (show p<=i by omega) with e|cL
   ·subst e;rw[hf] at hy;cases hy;omega
   ·have:=h.lo p y cL hy;omega
  ·have:=hs.get (show i<p by omega) hf hy;omega
 rw[h4.take.2];apply List.filter_congr;intro y _
 by_cases h1:k a<k y<;>simp[h1]<;>omega
theorem YR.filter{l:List α}(h:YR k l)(p:α->Bool):YR k (l.filter p):=SF p h
theorem YR.LG{l:List α}(h:YR k l)(a:α):YR k (DR k l a):=by
 unfold DR YR;rw[List.pairwise_append];refine⟨h.filter _,?_,?_⟩
 ·rw[List.pairwise_cons]
  exact⟨λx hx=>by simpa using(jG.1 hx).2,h.filter _⟩
 ·intro x hx y hy
  have h1:k x<k a:=by simpa using(jG.1 hx).2
  rcases jL.1 hy with e|hy
  ·subst e;exact h1
  ·have h2:k a<k y:=by simpa using(jG.1 hy).2
   omega
theorem Pa{l:List α}{a x:α}:x∈DR k l a↔x=a\/(x∈l/\k x≠k a):=by
 unfold DR;simp only[jS,jL,jG,decide_eq_true_eq]
 constructor
 ·rintro(⟨h1,h2⟩|rfl|⟨h1,h2⟩)
  ·exact .inr ⟨h1,aB⟩
  ·exact .inl rfl
  ·exact .inr ⟨h1,aB⟩
 ·rintro(rfl|⟨h1,h2⟩)
  ·exact .inr (.inl rfl)
  ·by_cases h:k x<k a
   ·exact .inl ⟨h1,h⟩
   ·exact .inr (.inr ⟨h1,aB⟩)
theorem zJ.Wm{l:List α}(hs:YR k l){v:Int}{i:Nat}(h:zJ k l v i){x:α}(hx:x∈l)(hk:k x=v):l.take i++l.drop (i+1)=l.filter (λy=>decide (k y≠v)):=by
 have hf:=h.qJ hs hx hk;have hi:i<l.length:=(kY.1 hf).1;have hsp:l.take i++x::l.drop (i+1)=l:=by
  rw[<-Cs i l];congr 1
  ·simp
  ·rw[Cs,List.drop_eq_getElem_cons hi];congr 1;exact(kY.1 hf).2.symm
 have h1:(l.take i).filter (λy=>decide (k y≠v))=l.take i:=List.filter_eq_self.2 λy hy=>by
  obtain⟨p,hp⟩:=oZ.1 hy;have cL:p<i:=by have:=(kY.1 hp).1;simp at this;omega
  rw[VE cL] at hp;have:=h.lo p y cL hp;simp;omega
 have h2:(l.drop (i+1)).filter (λy=>decide (k y≠v))=l.drop (i+1):=List.filter_eq_self.2 λy hy=>by
  obtain⟨p,hp⟩:=oZ.1 hy;rw[List.getElem?_drop] at hp;have:=hs.get (show i<i+1+p by omega) hf hp;simp;omega
 conv=>rhs;rw[<-hsp,JB,FB,h1,h2]
 simp[hk]
end
def MM(x y:bQ):Bool:=decide (x.f<y.f) ||(decide (x.f=y.f) && decide (x.t<y.t))
def BN(l:List bQ):Prop:=l.Pairwise λx y=>MM x y=true
theorem lW{x y:bQ}:MM x y=true↔x.f<y.f\/(x.f=y.f/\x.t<y.t):=by simp[MM]
def FA(n:Nat)(a:bQ):Prop:=0<=a.f/\a.f<n/\0<=a.t/\a.t<n/\a.f≠a.t/\1<=a.w/\a.w<=1099511627776/\(a.m=-1\/(0<=a.m/\a.m<n/\a.m≠a.f/\a.m≠a.t))
instance(n:Nat)(a:bQ):Decidable (FA n a):=by unfold FA;infer_instance
structure rV(n:Nat)(l:List bQ):Prop where
 sC:BN l
 uV:∀a∈l,FA n a
def MA(l:List bQ)(a:bQ):List bQ:=l.filter (λx=>MM x a)++a::l.filter (λx=>MM a x)
def jM(l:List bQ)(f t:Int):Option bQ:=l.find? λx=>decide (x.f=f) && decide (x.t=t)
def uY(n:Nat)(l:List bQ)(a:bQ):List bQ×Bool:=
 if FA n a then(match jM l a.f a.t with
  |some x=>if x.w<=a.w then(l,false) else(MA l a,true)
  |none=>(MA l a,true)) else(l,false)
def DB(l:List bQ)(v:Int):List bQ:=l.filter λx=>decide (x.f≠v) && decide (x.t≠v)
def dZ(l:List bQ)(v:Int):List bQ:=l.filter λx=>decide (x.f=v)
def nQ(l:List bQ)(v:Int):List bQ:=l.filter λx=>decide (x.t=v)
theorem BN.out{l:List bQ}(h:BN l)(v:Int):YR bQ.t (dZ l v):=by
 unfold dZ YR;refine List.Pairwise.imp_of_mem (λ{x y} hx hy hxy=>?_) (SF _ h);have h1:=(jG.1 hx).2;have h2:=(jG.1 hy).2;simp at h1 h2;rcases lW.1 hxy with h|⟨_,h⟩
 ·omega
 ·exact h
theorem BN.LU{l:List bQ}(h:BN l)(v:Int):YR bQ.f (nQ l v):=by
 unfold nQ YR;refine List.Pairwise.imp_of_mem (λ{x y} hx hy hxy=>?_) (SF _ h);have h1:=(jG.1 hx).2;have h2:=(jG.1 hy).2;simp at h1 h2;rcases lW.1 hxy with h|⟨_,h⟩<;>omega
theorem mF{l:List bQ}{a x:bQ}:x∈MA l a↔x=a\/(x∈l/\¬(x.f=a.f/\x.t=a.t)):=by
 unfold MA;simp only[jS,jL,jG,lW]
 constructor
 ·rintro(⟨h1,h2⟩|rfl|⟨h1,h2⟩)
  ·exact .inr ⟨h1,aB⟩
  ·exact .inl rfl
  ·exact .inr ⟨h1,aB⟩
 ·rintro(rfl|⟨h1,h2⟩)
  ·exact .inr (.inl rfl)
  ·rcases Int.lt_trichotomy x.f a.f with h|h|h
   ·exact .inl ⟨h1,.inl h⟩
   ·rcases Int.lt_trichotomy x.t a.t with h'|h'|h'
    ·exact .inl ⟨h1,.inr ⟨h,h'⟩⟩
    ·exact absurd ⟨h,h'⟩ h2
    ·exact .inr (.inr ⟨h1,.inr ⟨h.symm,h'⟩⟩)
   ·exact .inr (.inr ⟨h1,.inl h⟩)
theorem ba{x y z:bQ}(h1:MM x y=true)(h2:MM y z=true):MM x z=true:=by
 rw[lW] at*;omega
theorem BN.LG{l:List bQ}(h:BN l)(a:bQ):BN (MA l a):=by
 unfold MA BN;rw[List.pairwise_append];refine⟨SF _ h,?_,?_⟩
 ·rw[List.pairwise_cons]
  exact⟨λx hx=>(jG.1 hx).2,SF _ h⟩
 ·intro x hx y hy
  have h1:=(jG.1 hx).2;rcases jL.1 hy with e|hy
  ·subst e;exact h1
  ·exact ba h1 (jG.1 hy).2
theorem rV.LG{n:Nat}{l:List bQ}(h:rV n l){a:bQ}(ha:FA n a):rV n (MA l a):=
 ⟨h.sC.LG a,λx hx=>by rcases mF.1 hx with rfl|⟨h1,_⟩;exact ha;exact h.uV x h1⟩
theorem rV.filter{n:Nat}{l:List bQ}(h:rV n l)(p:bQ->Bool):rV n (l.filter p):=⟨SF _ h.sC,λx hx=>h.uV x (jG.1 hx).1⟩
theorem rV.cut{n:Nat}{l:List bQ}(h:rV n l)(v:Int):rV n (DB l v):=h.filter _
theorem rV.nil(n:Nat):rV n []:=⟨List.Pairwise.nil,by simp⟩
theorem BN.ext{l m:List bQ}(h:BN l)(h':BN m)(he:∀x,x∈l↔x∈m):l=m:=
 KL (λa h=>by rw[lW] at h;omega) (λa b h1 h2=>by rw[lW] at h1 h2;omega) h h' he
theorem YR.ext{k:bQ->Int}{l m:List bQ}(h:YR k l)(h':YR k m)(he:∀x,x∈l↔x∈m):l=m:=
 KL (λa h=>aB) (λa b h1 h2=>aB) h h' he
theorem eJ{l:List bQ}{v:Int}{x:bQ}:x∈dZ l v↔x∈l/\x.f=v:=by simp[dZ]
theorem iB{l:List bQ}{v:Int}{x:bQ}:x∈nQ l v↔x∈l/\x.t=v:=by simp[nQ]
theorem pT{l:List bQ}{v:Int}{x:bQ}:x∈DB l v↔x∈l/\x.f≠v/\x.t≠v:=by simp[DB]
theorem Yp{l:List bQ}(h:BN l)(a:bQ)(v:Int):dZ (MA l a) v=if v=a.f then DR bQ.t (dZ l v) a else dZ l v:=by
 split
 ·rename_i hv
  subst hv;refine((h.LG a).out _).ext ((h.out _).LG a) λx=>?_;simp only[eJ,mF,Pa]
  constructor
  ·rintro⟨rfl|⟨h1,h2⟩,h3⟩
   ·exact .inl rfl
   ·exact .inr ⟨⟨h1,h3⟩,λh=>h2 ⟨h3,h⟩⟩
  ·rintro(rfl|⟨⟨h1,h2⟩,h3⟩)
   ·exact⟨.inl rfl,rfl⟩
   ·exact⟨.inr ⟨h1,λh=>h3 h.2⟩,h2⟩
 ·rename_i hv
  refine((h.LG a).out _).ext (h.out _) λx=>?_;simp only[eJ,mF]
  constructor
  ·rintro⟨rfl|⟨h1,h2⟩,h3⟩
   ·exact absurd h3.symm hv
   ·exact⟨h1,h3⟩
  ·rintro⟨h1,h2⟩
   exact⟨.inr ⟨h1,λh=>hv (by rw[<-h2,h.1])⟩,h2⟩
theorem xn{l:List bQ}(h:BN l)(a:bQ)(v:Int):nQ (MA l a) v=if v=a.t then DR bQ.f (nQ l v) a else nQ l v:=by
 split
 ·rename_i hv
  subst hv;refine((h.LG a).LU _).ext ((h.LU _).LG a) λx=>?_;simp only[iB,mF,Pa]
  constructor
  ·rintro⟨rfl|⟨h1,h2⟩,h3⟩
   ·exact .inl rfl
   ·exact .inr ⟨⟨h1,h3⟩,λh=>h2 ⟨h,h3⟩⟩
  ·rintro(rfl|⟨⟨h1,h2⟩,h3⟩)
   ·exact⟨.inl rfl,rfl⟩
   ·exact⟨.inr ⟨h1,λh=>h3 h.1⟩,h2⟩
 ·rename_i hv
  refine((h.LG a).LU _).ext (h.LU _) λx=>?_;simp only[iB,mF]
  constructor
  ·rintro⟨rfl|⟨h1,h2⟩,h3⟩
   ·exact absurd h3.symm hv
   ·exact⟨h1,h3⟩
  ·rintro⟨h1,h2⟩
   exact⟨.inr ⟨h1,λh=>hv (by rw[<-h2,h.2])⟩,h2⟩
theorem qZ{l:List bQ}{f t:Int}{x:bQ}(h:jM l f t=some x):x∈l/\x.f=f/\x.t=t:=by
 have h1:=List.find?_some h;simp at h1;exact⟨List.mem_of_find?_eq_some h,h1.1,h1.2⟩
theorem UE{l:List bQ}{f t:Int}(h:jM l f t=none):∀x∈l,¬(x.f=f/\x.t=t):=by
 intro x hx hk;have:=List.find?_eq_none.1 h x hx;simp[hk] at this
theorem yJ{l:List bQ}(hs:BN l){x:bQ}(hx:x∈l):jM l x.f x.t=some x:=by
 cases h:jM l x.f x.t with
 |none=>exact absurd ⟨rfl,rfl⟩ (UE h x hx)
 |some y=>
  obtain⟨h1,h2,h3⟩:=qZ h;congr 1;have hp:=Ws.1 hs;obtain⟨p,hp1,Ln⟩:=List.mem_iff_getElem.1 h1;obtain⟨q,hq1,hq2⟩:=List.mem_iff_getElem.1 hx;rcases Nat.lt_trichotomy p q with cL|heq|cL
  ·have:=hp p q hp1 hq1 cL;rw[Ln,hq2,lW] at this;omega
  ·subst heq;rw[<-Ln,<-hq2]
  ·have:=hp q p hq1 hp1 cL;rw[Ln,hq2,lW] at this;omega
theorem WB{n:Nat}{l:List bQ}(h:rV n l)(a:bQ):rV n (uY n l a).1:=by
 unfold uY
 split
 ·rename_i ha
  split
  ·split
   ·exact h
   ·exact h.LG ha
  ·exact h.LG ha
 ·exact h
theorem ZP{n:Nat}{l:List bQ}(h:rV n l):(List.range n).flatMap (λv:Nat=>dZ l (v:Int))=l:=by
 refine BN.ext ?_ h.sC λx=>?_
 ·unfold BN
  rw[List.pairwise_flatMap];refine⟨λv _=>?_,?_⟩
  ·exact SF _ h.sC
  ·have:(List.range n).Pairwise (·<·):=List.pairwise_lt_range
   refine List.Pairwise.imp (λ{u v} huv x hx y hy=>?_) this;rw[eJ] at hx hy;rw[lW];omega
 ·simp only[List.mem_flatMap,List.mem_range,eJ]
  constructor
  ·rintro⟨v,_,h1,_⟩;exact h1
  ·intro hx
   have:=h.uV x hx;unfold FA at this;exact⟨x.f.toNat,aB,hx,aB⟩
theorem vz{k:bQ->Int}{l:List bQ}(h:YR k l){n:Nat}(hk:∀x∈l,0<=k x/\k x<n):l.length<=n:=by
 have key:∀(i:Nat) (x:bQ),l[i]? =some x->(i:Int)<=k x:=by
  intro i
  induction i with
  |zero=>intro x hx;exact(hk x (zN hx)).1
  |succ i ih=>
   intro x hx;have hi:i<l.length:=by have:=(kY.1 hx).1;omega
   have h1:=ih _ (gU hi);have h2:=h.get (Nat.lt_succ_self i) (gU hi) hx;omega
 rcases Nat.eq_zero_or_pos l.length with h0|h0
 ·omega
 ·have hi:l.length-1<l.length:=aB
  have h1:=key _ _ (gU hi);have h2:=(hk _ (oE hi)).2;omega
theorem rV.vG{n:Nat}{l:List bQ}(h:rV n l)(v:Int):(dZ l v).length<=n:=vz (h.sC.out v) λx hx=>by
 have:=h.uV x (eJ.1 hx).1;exact⟨this.2.2.1,this.2.2.2.1⟩
theorem rV.FH{n:Nat}{l:List bQ}(h:rV n l)(v:Int):(nQ l v).length<=n:=vz (h.sC.LU v) λx hx=>by
 have:=h.uV x (iB.1 hx).1;exact⟨this.1,this.2.1⟩
def gO(n:Nat)(l:List bQ)(xs:List bQ):List bQ:=xs.foldl (λl a=>(uY n l a).1) l
theorem HN{n:Nat}:∀(xs:List bQ) {l:List bQ},rV n l->rV n (gO n l xs)
 | [],_,h=>h
 |a::xs,_,h=>HN xs (WB h a)
theorem NR(n:Nat)(l xs:List bQ)(a:bQ):gO n l (xs++[a])=(uY n (gO n l xs) a).1:=by simp[gO]
theorem NS{n:Nat}:∀{xs p:List bQ},rV n (p++xs)->gO n p xs=p++xs
 | [],p,_=>by simp[gO]
 |a::xs,p,h=>by
  have hsp:BN (p++a::xs):=h.sC;unfold BN at hsp;rw[List.pairwise_append] at hsp;have cL:∀x∈p,MM x a=true:=λx hx=>hsp.2.2 x hx a dJ;have uX:jM p a.f a.t=none:=by
   cases hf:jM p a.f a.t with
   |none=>rfl
   |some x=>
    obtain⟨h1,h2,h3⟩:=qZ hf;have:=cL x h1;rw[lW] at this;omega
  have he:(uY n p a).1=p++[a]:=by
   unfold uY;rw[if_pos (h.uV a dJ),uX];unfold MA;have e1:p.filter (λx=>MM x a)=p:=List.filter_eq_self.2 cL;have e2:p.filter (λx=>MM a x)=[]:=List.filter_eq_nil_iff.2 λx hx hn=>by
    have:=cL x hx;rw[lW] at this hn;omega
   rw[e1,e2]
  have h':rV n ((p++[a])++xs):=by simpa using h
  have:=NS (xs:=xs) (p:=p++[a]) h';show gO n (uY n p a).1 xs=_;rw[he,this];simp
structure LowL(l:List bQ)(f t:Int)(i:Nat):Prop where
 le:i<=l.length
 lo:∀p x,p<i->l[p]? =some x->x.f<f\/(x.f=f/\x.t<t)
 hi:∀p x,i<=p->l[p]? =some x->¬(x.f<f\/(x.f=f/\x.t<t))
theorem WX{α β:Type}(f:α->List β)(n:Nat):∀l:List α,(∀x∈l,(f x).length<=n)->(l.flatMap f).length<=l.length*n
 | [],_=>by simp
 |x::l,h=>by
  have:=WX f n l λy hy=>h y (by simp[hy]);have:=h x dJ;simp only[FC,mH,mV,Nat.add_mul];omega
theorem rV.len{n:Nat}{l:List bQ}(h:rV n l)(hn:n<=512):l.length<=262144:=by
 have h1:=WX (λv:Nat=>dZ l (v:Int)) n (List.range n) λv _=>h.vG v;rw[ZP h,List.length_range] at h1;have h2:n*n<=512*512:=JA hn hn;omega
end
section
structure It where
 id:Int
 key:Int
 deriving DecidableEq
def qG(x y:It):Bool:=decide (x.key<y.key) ||(decide (x.key=y.key) && decide (x.id<y.id))
theorem kH{x y:It}:qG x y=true↔x.key<y.key\/(x.key=y.key/\x.id<y.id):=by simp[qG]
theorem itlt_tri(x y:It):qG x y=true\/x=y\/qG y x=true:=by
 obtain⟨a,b⟩:=x;obtain⟨c,d⟩:=y;simp only[kH,It.mk.injEq];omega
abbrev BK(q:List It):Prop:=q.Pairwise λx y=>qG x y=true
def aAf(q:List It)(x:It):List It:=q.filter (λy=>qG y x)++x::q.filter (λy=>qG x y)
theorem yI{q:List It}{x y:It}:y∈aAf q x↔y=x\/y∈q:=by
 unfold aAf;simp only[jS,jL,jG]
 constructor
 ·rintro(⟨h,_⟩|rfl|⟨h,_⟩)<;>simp_all
 ·rintro(rfl|h)
  ·simp
  ·rcases itlt_tri y x with h1|rfl|h1<;>simp_all
theorem BK.LG{q:List It}(h:BK q)(x:It):BK (aAf q x):=by
 unfold aAf BK;rw[List.pairwise_append];refine⟨SF _ h,?_,λa ha b hb=>?_⟩
 ·rw[List.pairwise_cons]
  exact⟨λb hb=>(jG.1 hb).2,SF _ h⟩
 ·have h1:=kH.1 (jG.1 ha).2
  rcases jL.1 hb with rfl|hb
  ·exact kH.2 h1
  ·have h2:=kH.1 (jG.1 hb).2
   rw[kH];omega
def Co(q:List It):Prop:=∀x∈q,∀y∈q,x.id=y.id->x=y
def Fs(q:List It)(v:Int):Option Int:=(q.find? λy=>decide (y.id=v)).map (·.key)
theorem ZO{q:List It}{v k:Int}(h:Fs q v=some k):⟨v,k⟩∈q:=by
 unfold Fs at h;cases hf:q.find? (λy=>decide (y.id=v)) with
 |none=>rw[hf] at h;cases h
 |some y=>
  rw[hf] at h;have h1:=List.mem_of_find?_eq_some hf;have h2:=List.find?_some hf;obtain⟨a,b⟩:=y;simp at h h2;subst h h2;exact h1
theorem aAS{q:List It}{v:Int}(h:Fs q v=none):∀x∈q,x.id≠v:=by
 intro x hx;unfold Fs at h;simp only[Option.map_eq_none_iff,List.find?_eq_none] at h;simpa using h x hx
theorem Yw{q:List It}(h:Co q){x:It}(hx:x∈q):Fs q x.id=some x.key:=by
 cases hk:Fs q x.id with
 |none=>exact absurd rfl (aAS hk x hx)
 |some k=>have:=h _ (ZO hk) x hx rfl;rw[<-this]
def Cu(q:List It)(v k:Int):Bool:=match Fs q v with
 |some k0=>decide (k0<=k)
 |none=>false
def nW(q:List It)(v k:Int):List It×Bool:=if Cu q v k then(q,false) else(aAf (q.filter λy=>decide (y.id≠v)) ⟨v,k⟩,true)
theorem WR{q:List It}{v k:Int}{y:It}(h:y∈(nW q v k).1):y∈q\/y=⟨v,k⟩:=by
 unfold nW at h
 split at h
 ·exact .inl h
 ·rcases yI.1 h with rfl|h
  ·exact .inr rfl
  ·exact .inl (jG.1 h).1
theorem PC{q:List It}(h1:Co q){v k:Int}{x:It}(hx:x∈q):∃y∈(nW q v k).1,y.id=x.id/\y.key<=x.key:=by
 unfold nW
 split
 ·exact⟨x,hx,rfl,lM _⟩
 ·rename_i hl
  by_cases e:x.id=v
  ·refine⟨⟨v,k⟩,yI.2 (.inl rfl),e.symm,?_⟩
   have:=Yw h1 hx;unfold Cu at hl;rw[<-e,this] at hl;simp at hl;show k<=x.key;omega
  ·exact⟨x,yI.2 (.inr (jG.2 ⟨hx,by simpa using e⟩)),rfl,lM _⟩
theorem WS{q:List It}{v k:Int}:∃y∈(nW q v k).1,y.id=v/\y.key<=k:=by
 unfold nW
 split
 ·rename_i hl
  unfold Cu at hl;cases hk:Fs q v with
  |none=>rw[hk] at hl;cases hl
  |some k0=>rw[hk] at hl;exact⟨⟨v,k0⟩,ZO hk,rfl,by simpa using hl⟩
 ·exact⟨⟨v,k⟩,yI.2 (.inl rfl),rfl,lM _⟩
theorem CG{q:List It}(h:BK q)(v k:Int):BK (nW q v k).1:=by
 unfold nW
 split
 ·exact h
 ·exact BK.LG (SF _ h) _
theorem CH{q:List It}(h:Co q)(v k:Int):Co (nW q v k).1:=by
 unfold nW
 split
 ·exact h
 ·intro x hx y hy e
  rcases yI.1 hx with rfl|hx<;>rcases yI.1 hy with rfl|hy
  ·rfl
  ·have:=(jG.1 hy).2;simp at this;exact absurd e.symm this
  ·have:=(jG.1 hx).2;simp at this;exact absurd e this
  ·exact h x (jG.1 hx).1 y (jG.1 hy).1 e
inductive fZ(L:List bQ)(c a:Int):Int->Int->Prop where
 |nil:fZ L c a a 0
 |gS {v d:Int} (e:bQ) (h:fZ L c a v d) (he:e∈L) (hf:e.f=v) (ht:e.t≠c):fZ L c a e.t (d+e.w)
def wN(s:List It)(v:Int):Bool:=s.any λx=>decide (x.id=v)
theorem WW{s:List It}{v:Int}:wN s v=true↔∃x∈s,x.id=v:=by simp[wN]
def qI(c:Int)(s:List It)(d:Int)(q:List It)(l:List bQ):List It:=l.foldl (λq a=>if a.t=c\/wN s a.t=true then q else(nW q a.t (d+a.w)).1) q
def GO(L:List bQ)(c:Int)(z:List It×List It):List It×List It:=match z.1 with
 | []=>([],z.2)
 |x::q=>(qI c (z.2++[x]) x.key q (dZ L x.id),z.2++[x])
def jZ(L:List bQ)(c a:Int):Nat->List It×List It
 |0=>([⟨a,0⟩],[])
 |n+1=>GO L c (jZ L c a n)
theorem ai(c:Int)(s:List It)(d:Int)(q:List It)(l:List bQ)(a:bQ):qI c s d q (l++[a])=if a.t=c\/wN s a.t=true then qI c s d q l else(nW (qI c s d q l) a.t (d+a.w)).1:=by simp[qI]
theorem aj(c:Int)(s:List It)(d:Int)(q:List It)(l:List bQ)(a:bQ):qI c s d q (a::l)=qI c s d (if a.t=c\/wN s a.t=true then q else(nW q a.t (d+a.w)).1) l:=rfl
theorem PB{c:Int}{s:List It}{d:Int}:∀{l:List bQ} {q:List It},BK q->Co q->BK (qI c s d q l)/\Co (qI c s d q l)/\
  (∀y∈qI c s d q l,y∈q\/∃e∈l,e.t≠c/\wN s e.t=false/\y=⟨e.t,d+e.w⟩)/\(∀x∈q,∃y∈qI c s d q l,y.id=x.id/\y.key<=x.key)/\
  (∀e∈l,e.t≠c->wN s e.t=false->∃y∈qI c s d q l,y.id=e.t/\y.key<=d+e.w)
 | [],q,h1,h2=>⟨h1,h2,λy hy=>.inl hy,λx hx=>⟨x,hx,rfl,lM _⟩,by simp⟩
 |a::l,q,h1,h2=>by
  rw[aj]
  by_cases hc:a.t=c\/wN s a.t=true
  ·rw[if_pos hc]
   obtain⟨g1,g2,g3,g4,g5⟩:=PB (c:=c) (s:=s) (d:=d) (l:=l) h1 h2;refine⟨g1,g2,λy hy=>(g3 y hy).imp id λ⟨e,he,r⟩=>⟨e,by simp[he],r⟩,g4,λe he n1 n2=>?_⟩;rcases jL.1 he with rfl|he
   ·rcases hc with hc|hc
    ·exact absurd hc n1
    ·rw[hc] at n2;cases n2
   ·exact g5 e he n1 n2
  ·rw[if_neg hc]
   obtain⟨g1,g2,g3,g4,g5⟩:=PB (c:=c) (s:=s) (d:=d) (l:=l) (CG h1 a.t (d+a.w)) (CH h2 a.t (d+a.w));have Vu:a.t≠c:=λe=>hc (.inl e);have PX:wN s a.t=false:=by cases h:wN s a.t with
    |false=>rfl
    |true=>exact absurd (.inr h) hc
   refine⟨g1,g2,λy hy=>?_,λx hx=>?_,λe he n1 n2=>?_⟩
   ·rcases g3 y hy with hq|⟨e,he,r⟩
    ·rcases WR hq with hq|rfl
     ·exact .inl hq
     ·exact .inr ⟨a,by simp,Vu,PX,rfl⟩
    ·exact .inr ⟨e,by simp[he],r⟩
   ·obtain⟨y,hy,e1,e2⟩:=PC h2 (v:=a.t) (k:=d+a.w) hx
    obtain⟨z,hz,e3,e4⟩:=g4 y hy;exact⟨z,hz,e3.trans e1,Int.le_trans e4 e2⟩
   ·rcases jL.1 he with rfl|he
    ·obtain⟨y,hy,e1,e2⟩:=WS (q:=q) (v:=e.t) (k:=d+e.w)
     obtain⟨z,hz,e3,e4⟩:=g4 y hy;exact⟨z,hz,e3.trans e1,Int.le_trans e4 e2⟩
    ·exact g5 e he n1 n2
structure Gd(m:Nat)(L:List bQ)(c a:Int)(q s:List It):Prop where
 sC:BK q
 one:Co q
 Dw:(s.map (·.id)).Nodup
 sE:∀x∈q,wN s x.id=false
 Fj:∀x∈s++q,fZ L c a x.id x.key
 src:⟨a,0⟩∈s++q
 clo:∀x∈s,∀e∈L,e.f=x.id->e.t≠c->∃y∈s++q,y.id=e.t/\y.key<=x.key+e.w
 mono:∀x∈s,∀y∈q,x.key<=y.key
 qN:∀x∈s,∀d,fZ L c a x.id d->x.key<=d
 gI:∀x∈s++q,0<=x.key/\x.key<=s.length*1099511627776/\0<=x.id/\x.id<m
theorem Gd.reach{m:Nat}{L:List bQ}{c a:Int}{q s:List It}(h:Gd m L c a q s)(hL:rV m L){v d:Int}(hw:fZ L c a v d):(∃x∈s,x.id=v/\x.key<=d)\/∃y∈q,y.key<=d:=by
 induction hw with
 |nil=>
  rcases jS.1 h.src with hs|hq
  ·exact .inl ⟨_,hs,rfl,lM _⟩
  ·exact .inr ⟨_,hq,lM _⟩
 |gS e _ he hf ht ih=>
  rcases ih with⟨x,hx,hv,hd⟩|⟨y,hy,hd⟩
  ·obtain⟨y,hy,e1,e2⟩:=h.clo x hx e he (hf.trans hv.symm) ht
   rcases jS.1 hy with hs|hq
   ·exact .inl ⟨y,hs,e1,aB⟩
   ·exact .inr ⟨y,hq,aB⟩
  ·have:=(hL.uV e he).2.2.2.2.2.1
   exact .inr ⟨y,hy,aB⟩
theorem Gd.step{m:Nat}{L:List bQ}{c a:Int}{q s:List It}(h:Gd m L c a q s)(hL:rV m L):Gd m L c a (GO L c (q,s)).1 (GO L c (q,s)).2:=by
 cases q with
 |nil=>exact h
 |cons x q=>
  have hq:=List.pairwise_cons.1 h.sC;have jA:Co q:=λy hy z hz=>h.one y (by simp[hy]) z (by simp[hz]);obtain⟨g1,g2,g3,g4,g5⟩:=PB (c:=c) (s:=s++[x]) (d:=x.key) (l:=dZ L x.id) hq.2 jA;show Gd m L c a (qI c (s++[x]) x.key q (dZ L x.id)) (s++[x]);generalize qI c (s++[x]) x.key q (dZ L x.id)=p at*;have hxs:wN s x.id=false:=h.sE x dJ;have hxw:=h.Fj x dJ;have hxb:=h.gI x dJ;have inS:∀v,wN (s++[x]) v=false↔wN s v=false/\x.id≠v:=λv=>by simp[wN]
  have qN:∀d,fZ L c a x.id d->x.key<=d:=λd hw=>by
   rcases h.reach hL hw with⟨y,hy,hv,_⟩|⟨y,hy,hd⟩
   ·have:wN s x.id=true:=WW.2 ⟨y,hy,hv⟩
    rw[hxs] at this;cases this
   ·rcases jL.1 hy with rfl|hy
    ·exact hd
    ·have:=kH.1 (hq.1 y hy);omega
  have hold:∀y∈s++(x::q),∃z∈s++[x]++p,z.id=y.id/\z.key<=y.key:=λy hy=>by
   rcases jS.1 hy with hy|hy
   ·exact⟨y,by simp[hy],rfl,lM _⟩
   ·rcases jL.1 hy with rfl|hy
    ·exact⟨y,by simp,rfl,lM _⟩
    ·obtain⟨z,hz,r⟩:=g4 y hy
     exact⟨z,by simp[hz],r⟩
  refine⟨g1,g2,?_,?_,?_,?_,?_,?_,?_,?_⟩
  ·rw[yA,List.nodup_append]
   refine⟨h.Dw,by simp,λu hu v hv=>?_⟩;simp at hv;subst hv;obtain⟨y,hy,rfl⟩:=lN.1 hu;intro e;have:wN s x.id=true:=WW.2 ⟨y,hy,e⟩;rw[hxs] at this;cases this
  ·intro y hy
   rcases g3 y hy with gu|⟨e,_,_,h2,rfl⟩
   ·refine(inS _).2 ⟨h.sE y (by simp[gu]),λe=>?_⟩
    have:=h.one x dJ y (by simp[gu]) e;subst this;have:=kH.1 (hq.1 x gu);omega
   ·exact h2
  ·intro y hy
   rcases jS.1 hy with hy|hy
   ·exact h.Fj y (by rcases jS.1 hy with hy|hy<;>simp_all)
   ·rcases g3 y hy with gu|⟨e,he,h1,_,rfl⟩
    ·exact h.Fj y (by simp[gu])
    ·obtain⟨heL,hef⟩:=eJ.1 he
     exact fZ.gS e hxw heL hef h1
  ·rcases jS.1 h.src with hs|hs
   ·simp[hs]
   ·rcases jL.1 hs with hs|hs
    ·simp[hs]
    ·--the first one is the source itself till it is eF
     obtain⟨z,hz,e1,e2⟩:=g4 _ hs;have:=qN 0;have hk:=kH.1 (hq.1 _ hs);have:=hxb.1;simp only at hk e1 e2;have hzb:0<=z.key:=by
      rcases g3 z hz with hzq|⟨e,he,_,_,rfl⟩
      ·exact(h.gI z (by simp[hzq])).1
      ·have:=(hL.uV e (eJ.1 he).1).2.2.2.2.2.1;show 0<=x.key+e.w;omega
     have:z=⟨a,0⟩:=by obtain⟨i,k⟩:=z;simp only at*;subst e1;congr 1;omega
     rw[<-this];simp[hz]
  ·intro y hy e he hf ht
   rcases jS.1 hy with hy|hy
   ·obtain⟨z,hz,e1,e2⟩:=h.clo y hy e he hf ht
    obtain⟨u,hu,e3,e4⟩:=hold z hz;exact⟨u,hu,e3.trans e1,Int.le_trans e4 e2⟩
   ·simp at hy
    subst hy;cases IW:wN (s++[y]) e.t with
    |false=>
     obtain⟨z,hz,r⟩:=g5 e (eJ.2 ⟨he,hf⟩) ht IW;exact⟨z,by simp[hz],r⟩
    |true=>
     obtain⟨z,hz,hzt⟩:=WW.1 IW;refine⟨z,by simp only[jS];exact .inl (by simpa using hz),hzt,?_⟩;have hw:=fZ.gS e hxw he hf ht;rcases jS.1 hz with hz|hz
     ·exact h.qN z hz _ (hzt▸hw)
     ·simp at hz;subst hz
      exact qN _ (hzt▸hw)
  ·intro y hy z hz
   have hxz:x.key<=z.key:=by
    rcases g3 z hz with hzq|⟨e,he,_,_,rfl⟩
    ·have:=kH.1 (hq.1 z hzq);omega
    ·have:=(hL.uV e (eJ.1 he).1).2.2.2.2.2.1;show x.key<=x.key+e.w;omega
   rcases jS.1 hy with hy|hy
   ·exact Int.le_trans (h.mono y hy x dJ) hxz
   ·simp at hy;subst hy;exact hxz
  ·intro y hy
   rcases jS.1 hy with hy|hy
   ·exact h.qN y hy
   ·simp at hy;subst hy;exact qN
  ·have len:(s++[x]).length=s.length+1:=by simp
   intro y hy;rw[len];have old:∀y∈s++(x::q),0<=y.key/\y.key<=((s.length+1:Nat):Int)*1099511627776/\0<=y.id/\y.id<m:=λy hy=>by
    obtain⟨b1,b2,b3⟩:=h.gI y hy;exact⟨b1,aB,b3⟩
   rcases jS.1 hy with hy|hy
   ·exact old y (by rcases jS.1 hy with hy|hy<;>simp_all)
   ·rcases g3 y hy with gu|⟨e,he,_,_,rfl⟩
    ·exact old y (by simp[gu])
    ·have hm:=hL.uV e (eJ.1 he).1
     obtain⟨_,_,m1,m2,_,m3,m4,_⟩:=hm;refine⟨?_,?_,m1,m2⟩
     ·show 0<=x.key+e.w;omega
     ·show x.key+e.w<=_;omega
theorem xM{m:Nat}{L:List bQ}(hL:rV m L)(c:Int){a:Int}(ha:0<=a)(pE:a<m):∀n,Gd m L c a (jZ L c a n).1 (jZ L c a n).2
 |0=>by
  refine⟨List.pairwise_singleton _ _,?_,List.nodup_nil,by simp[jZ,wN],?_,by simp[jZ],by simp[jZ],by simp[jZ],by simp[jZ],?_⟩
  ·intro x hx y hy _;simp[jZ] at hx hy;rw[hx,hy]
  ·intro x hx;simp[jZ] at hx;subst hx;exact fZ.nil
  ·intro x hx;simp[jZ] at hx;subst hx;exact⟨lM _,by simp[jZ],ha,pE⟩
 |n+1=>(xM hL c ha pE n).step hL
theorem Eg(L:List bQ)(c a:Int):∀n,(jZ L c a n).2.length=n\/((jZ L c a n).1=[]/\(jZ L c a n).2.length<=n)
 |0=>.inl rfl
 |n+1=>by
  have ih:=Eg L c a n;show(GO L c (jZ L c a n)).2.length=n+1\/((GO L c (jZ L c a n)).1=[]/\_);cases hz:jZ L c a n with
  |mk q s=>
   rw[hz] at ih;cases q with
   |nil=>
    right;refine⟨rfl,?_⟩;show(jZ L c a (n+1)).2.length<=n+1;have e:(jZ L c a (n+1)).2=s:=by show(GO L c (jZ L c a n)).2=s;rw[hz];rfl
    rw[e];rcases ih with h|h
    ·simp only at h;omega
    ·have:=h.2;simp only at this;omega
   |cons x q=>
    left;rcases ih with h|⟨h,_⟩
    ·simp[GO] at h ⊢;omega
    ·cases h
theorem wU:∀{m:Nat} {l:List Int},l.Nodup->(∀x∈l,0<=x/\x<m)->l.length<=m
 |0,l,_,hb=>by
  cases l with
  |nil=>simp
  |cons x l=>have:=hb x dJ;omega
 |m+1,l,h,hb=>by
  have one:∀(l:List Int),l.Nodup->l.length<=(l.filter λx=>decide (x≠(m:Int))).length+1:=by
   intro l
   induction l with
   |nil=>intro _;simp
   |cons x l ih=>
    intro hn;rw[List.nodup_cons] at hn
    by_cases e:x=(m:Int)
    ·have:l.filter (λx=>decide (x≠(m:Int)))=l:=List.filter_eq_self.2 λy hy=>by
      simp only[ne_eq,decide_eq_true_eq];rintro rfl;exact hn.1 (e▸hy)
     simp only[FB];rw[this];simp[e]
    ·have:=ih hn.2
     simp only[FB,mV];rw[if_pos (by simpa using e)];simp only[mV];omega
  have ih:=wU (m:=m) (l:=l.filter λx=>decide (x≠(m:Int))) (SF _ h) λx hx=>by
   have h1:=hb x (jG.1 hx).1;have h2:x≠(m:Int):=by simpa using(jG.1 hx).2
   omega
  have:=one l h;omega
theorem Gd.len{m:Nat}{L:List bQ}{c a:Int}{q s:List It}(h:Gd m L c a q s):s.length<=m:=by
 have:=wU h.Dw λv hv=>by obtain⟨x,hx,rfl⟩:=lN.1 hv;exact(h.gI x (by simp[hx])).2.2
 simpa using this
theorem Gd.len_q{m:Nat}{L:List bQ}{c a:Int}{x:It}{q s:List It}(h:Gd m L c a (x::q) s):s.length<m:=by
 have hn:((s.map (·.id))++[x.id]).Nodup:=by
  rw[List.nodup_append];refine⟨h.Dw,by simp,λu hu v hv=>?_⟩;simp at hv;subst hv;obtain⟨y,hy,rfl⟩:=lN.1 hu;intro e;have:=h.sE x dJ;rw[WW.2 ⟨y,hy,e⟩] at this;cases this
 have:=wU (m:=m) hn λv hv=>by
  rcases jS.1 hv with hv|hv
  ·obtain⟨y,hy,rfl⟩:=lN.1 hv;exact(h.gI y (by simp[hy])).2.2
  ·simp at hv;subst hv;exact(h.gI x dJ).2.2
 simp at this;omega
section
variable{m:Nat}{L:List bQ}(hL:rV m L)(c:Int){a:Int}(ha:0<=a)(pE:a<m)
include hL ha pE
theorem Hp{n:Nat}(hn:m<=n):(jZ L c a n).1=[]:=by
 have hi:=xM hL c ha pE n;cases hz:jZ L c a n with
 |mk q s=>
  rw[hz] at hi;cases q with
  |nil=>rfl
  |cons x q=>
   have h1:=hi.len_q;rcases Eg L c a n with h|⟨h,_⟩
   ·rw[hz] at h;simp only at h h1;omega
   ·rw[hz] at h;cases h
omit hL ha pE in
theorem Yj(n:Nat):∀k,(jZ L c a n).2=((jZ L c a (n+k)).2).take n
 |0=>by
  rcases Eg L c a n with h|⟨_,h⟩
  ·rw[Nat.add_zero,List.take_of_length_le aB]
  ·rw[Nat.add_zero,List.take_of_length_le h]
 |k+1=>by
  rw[Yj n k];show _=(GO L c (jZ L c a (n+k))).2.take n;have hl:=Eg L c a (n+k);cases hz:jZ L c a (n+k) with
  |mk q s=>
   rw[hz] at hl;cases q with
   |nil=>rfl
   |cons x q=>
    rcases hl with h|⟨h,_⟩
    ·simp only[GO] at h ⊢
     rw[List.take_append_of_le_length aB]
    ·cases h
omit hL ha pE in
def eF(m:Nat)(L:List bQ)(c a:Int):List It:=(jZ L c a m).2
theorem run_eq(n:Nat):(jZ L c a n).2=(eF m L c a).take n:=by
 unfold eF;rcases Nat.le_total n m with h|h
 ·obtain⟨k,rfl⟩:∃k,m=n+k:=⟨m-n,aB⟩
  exact Yj c n k
 ·obtain⟨k,rfl⟩:∃k,n=m+k:=⟨n-m,aB⟩
  rw[List.take_of_length_le (by have:=(xM hL c ha pE m).len;omega)];clear h
  induction k with
  |zero=>rfl
  |succ k ih=>
   show(GO L c (jZ L c a (m+k))).2=_;have hk:=Hp hL c ha pE (n:=m+k) aB;cases hz:jZ L c a (m+k) with
   |mk q s=>rw[hz] at ih hk;simp only at hk;subst hk;exact ih
theorem pN{v d:Int}:(⟨v,d⟩:It)∈eF m L c a↔fZ L c a v d/\∀d',fZ L c a v d'->d<=d':=by
 have hi:=xM hL c ha pE m;have hd:=Hp hL c ha pE (iX m);rw[hd] at hi
 constructor
 ·intro h
  exact⟨hi.Fj _ (jS.2 (.inl h)),hi.qN _ h⟩
 ·rintro⟨h1,h2⟩
  rcases hi.reach hL h1 with⟨x,hx,rfl,hk⟩|⟨y,hy,_⟩
  ·have:=hi.Fj x (by simpa using hx)
   have:=h2 _ this;have:(⟨x.id,d⟩:It)=x:=by obtain⟨i,k⟩:=x;simp only at*;congr 1;omega
   rw[this];exact hx
  ·cases hy
theorem RL{v d:Int}(h:fZ L c a v d):∃k,k<=d/\(⟨v,k⟩:It)∈eF m L c a:=by
 have hi:=xM hL c ha pE m;have hd:=Hp hL c ha pE (iX m);rw[hd] at hi;rcases hi.reach hL h with⟨x,hx,rfl,hk⟩|⟨y,hy,_⟩
 ·exact⟨x.key,hk,hx⟩
 ·cases hy
theorem ab{x y:It}(hx:x∈eF m L c a)(hy:y∈eF m L c a)(e:x.id=y.id):x=y:=by
 have h1:=(pN hL c ha pE (v:=x.id) (d:=x.key)).1 hx;have h2:=(pN hL c ha pE (v:=y.id) (d:=y.key)).1 hy;obtain⟨i,k⟩:=x;obtain⟨j,l⟩:=y;simp only at e h1 h2;subst e;have:=h1.2 _ h2.1;have:=h2.2 _ h1.1;congr 1;omega
theorem NQ:(eF m L c a).length<=m:=(xM hL c ha pE m).len
theorem af{x:It}(hx:x∈eF m L c a):0<=x.key/\x.key<=m*1099511627776/\0<=x.id/\x.id<m:=by
 have hi:=xM hL c ha pE m;have h1:=hi.gI x (by simp only[jS];exact .inl hx);have h2:=hi.len;refine⟨h1.1,?_,h1.2.2⟩;have:((jZ L c a m).2.length:Int)*1099511627776<=(m:Int)*1099511627776:=aB;omega
end
end
theorem fZ.mono{L M:List bQ}{c c' a v d:Int}(hs:∀e∈L,e.t≠c->e∈M/\e.t≠c')(h:fZ L c a v d):fZ M c' a v d:=by
 induction h with
 |nil=>exact .nil
 |gS e _ he hf ht ih=>exact .gS e ih (hs e he ht).1 hf (hs e he ht).2
theorem fZ.trans{L:List bQ}{c a v w d d':Int}(h:fZ L c a v d)(h':fZ L c v w d'):fZ L c a w (d+d'):=by
 induction h' with
 |nil=>rw[Int.add_zero];exact h
 |gS e _ he hf ht ih=>rw[<-Int.add_assoc];exact .gS e ih he hf ht
theorem fZ.ends{L:List bQ}{c a v d:Int}(h:fZ L c a v d):v=a\/v≠c:=by
 cases h with
 |nil=>exact .inl rfl
 |gS e _ _ _ ht=>exact .inr ht
theorem walk_cut{m:Nat}{L:List bQ}(hL:rV m L){c a v d:Int}(hac:a≠c):fZ (DB L c) (-1) a v d↔fZ L c a v d:=by
 constructor
 ·refine fZ.mono λe he _=>?_
  have:=pT.1 he;exact⟨this.1,this.2.2⟩
 ·intro h
  induction h with
  |nil=>exact .nil
  |gS e h he hf ht ih=>
   have hfc:e.f≠c:=by rw[hf];rcases h.ends with rfl|h<;>assumption
   exact .gS e ih (pT.2 ⟨he,hfc,ht⟩) hf (by have:=(hL.uV e he).2.2.1;omega)
theorem fZ.pos{m:Nat}{L:List bQ}(hL:rV m L){c a v d:Int}(h:fZ L c a v d):0<=d:=by
 induction h with
 |nil=>exact lM _
 |gS e _ he _ _ ih=>have:=(hL.uV e he).2.2.2.2.2.1;omega
def met(ds:List Int):Nat:=(ds.filter λd=>decide (0<=d)).length
theorem lh(ds:List Int):met ds<=ds.length:=wD _ _
theorem xh:∀{ds:List Int} {i:Nat} {x d:Int},ds[i]? =some x->0<=d->met (ds.set i d)=met ds+(if x<0 then 1 else 0)
 | [],i,x,d,h,_=>by simp at h
 |y::ds,0,x,d,h,hd=>by
  simp at h;subst h;simp only[List.set_cons_zero,met,FB]
  by_cases h0:y<0
  ·have e1:decide (0<=y)=false:=by simp;omega
   have e2:decide (0<=d)=true:=by simpa using hd
   rw[e1,e2,if_pos h0];simp
  ·have e1:decide (0<=y)=true:=by simp;omega
   have e2:decide (0<=d)=true:=by simpa using hd
   rw[e1,e2,if_neg h0];simp
 |y::ds,i+1,x,d,h,hd=>by
  simp at h;have ih:=xh (i:=i) h hd;simp only[List.set_cons_succ,met,FB];simp only[met] at ih
  split
  ·simp only[mV,ih];omega
  ·exact ih
structure BF(m:Nat)(L:List bQ)(a:Int)(ds:List Int):Prop where
 len:ds.length=m
 src:ds[a.toNat]? =some 0
 Fj:∀(v:Nat) (d:Int),ds[v]? =some d->d=-1\/(0<=d/\fZ L (-1) a (v:Int) d/\d<=met ds*1099511627776)
section
def aAl(s:List It)(to eE fH:Int):Bool:=(s.take fH.toNat).any λx=>decide (x.id=to) && decide (x.key<=eE)
theorem Yz{s:List It}{to eE fH:Int}:aAl s to eE fH=true↔∃(i:Nat) (d:Int),(i:Int)<fH/\s[i]? =some ⟨to,d⟩/\d<=eE:=by
 unfold aAl;rw[List.any_eq_true]
 constructor
 ·rintro⟨x,hx,hp⟩
  obtain⟨i,hi⟩:=oZ.1 hx;have cL:=(kY.1 hi).1;rw[qF] at cL;rw[VE aB] at hi;obtain⟨a,b⟩:=x;simp at hp;exact⟨i,b,aB,by rw[hi,hp.1],hp.2⟩
 ·rintro⟨i,d,h1,h2,h3⟩
  refine⟨⟨to,d⟩,oZ.2 ⟨i,?_⟩,by simpa using h3⟩;rw[VE aB];exact h2
def PZ(n:Nat)(L:List bQ)(a to c eE fH:Int):Bool:=decide (0<=a/\a<n) && (decide (0<=to/\to<n) && (decide (a≠c) && aAl (eF n L c a) to eE fH))
def VQ(s:List It)(to fH:Int)(k:Nat):Bool:=(match s[k]? with|some x=>decide (x.id=to)|none=>false) ||decide (fH=(k:Int)+1)
def Sr(s:List It)(to eE:Int):Nat->Bool
 |0=>false
 |k+1=>match s[k]? with|some x=>decide (x.id=to) && decide (x.key<=eE)|none=>false
theorem NU(s:List It)(to eE:Int)(k:Nat):Sr s to eE (k+1)=match s[k]? with|some x=>decide (x.id=to) && decide (x.key<=eE)|none=>false:=rfl
theorem aAV{s:List It}{to eE fH:Int}(h1:Co s)(hd:s.Nodup)(hs:1<=fH){m:Nat}(hm:m<=s.length)(BB:∀j,j+1<m->VQ s to fH j=false)
  (hend:(m=s.length/\∀j,j<m->VQ s to fH j=false)\/∃j,m=j+1/\VQ s to fH j=true):Sr s to eE m=aAl s to eE fH:=by
 have no:∀j,VQ s to fH j=false->∀x,s[j]? =some x->x.id≠to/\fH≠(j:Int)+1:=λj hj x hx=>by
  unfold VQ at hj;rw[hx] at hj;simpa using hj
 rw[Bool.eq_iff_iff,Yz];rcases hend with⟨rfl,uX⟩|⟨j,rfl,hj⟩
 ·constructor
  ·intro hf
   cases hl:s.length with
   |zero=>rw[hl] at hf;cases hf
   |succ k=>
    rw[hl] at hf;rw[NU] at hf;have hx:=gU (show k<s.length by omega);rw[hx] at hf;have:=(no k (uX k aB) _ hx).1;simp[this] at hf
  ·rintro⟨i,d,_,hi,_⟩
   have cL:=(kY.1 hi).1;exact absurd rfl (no i (uX i cL) _ hi).1
 ·have hx:=gU (show j<s.length by omega)
  have lK:(j:Int)<fH:=by
   rcases Int.lt_or_le (j:Int) fH with h|h
   ·exact h
   ·obtain⟨i,hi⟩:∃i:Nat,fH=(i:Int)+1:=⟨(fH-1).toNat,aB⟩
    have cL:i<s.length:=aB;exact absurd hi (no i (BB i aB) _ (gU cL)).2
  rw[NU,hx];generalize s[j]=x at hx
  constructor
  ·intro hf
   simp at hf;exact⟨j,x.key,lK,by rw[hx,<-hf.1],hf.2⟩
  ·rintro⟨i,d,hi,gy,hdm⟩
   have RW:i=j:=by
    rcases Nat.lt_trichotomy i j with h|h|h
    ·exact absurd rfl (no i (BB i aB) _ gy).1
    ·exact h
    ·--then it dK not stopped at j but by its count
     unfold VQ at hj;rw[hx] at hj;simp at hj;rcases hj with hj|hj
     ·have he:=h1 x (zN hx) _ (zN gy) hj
      have dF:=(kY.1 gy).1;have hn:=Ws.1 hd j i aB dF h;have e1:s[j]'(aB)=x:=(kY.1 hx).2;have e2:s[i]=⟨to,d⟩:=(kY.1 gy).2;rw[e1,e2] at hn;exact absurd he hn
     ·omega
   subst RW;rw[gy] at hx;cases hx;simpa using hdm
section
variable{m:Nat}{L:List bQ}(hL:rV m L)(c:Int){a:Int}(ha:0<=a)(pE:a<m)
include hL ha pE
theorem Mo:(eF m L c a).Nodup:=by
 have h:=(xM hL c ha pE m).Dw;unfold eF;exact List.Pairwise.imp (λ{x y} h e=>h (by rw[e])) (List.pairwise_map.1 h)
theorem ah:Co (eF m L c a):=λ_ hx _ hy e=>ab hL c ha pE hx hy e
end
theorem vq{n:Nat}{L:List bQ}{a to c:Int}(ha:0<=a/\a<n)(ht:0<=to/\to<n)(hac:a≠c)(k s:Int):PZ n L a to c k s=true↔∃(i:Nat) (d:Int),(i:Int)<s/\(eF n L c a)[i]? =some ⟨to,d⟩/\d<=k:=by
 rw[<-Yz];unfold PZ;rw[decide_eq_true ha,decide_eq_true ht,decide_eq_true hac];rfl
theorem wit_self(n:Nat)(L:List bQ)(a to k s:Int):PZ n L a to a k s=false:=by
 unfold PZ;simp
theorem wit_walk{n:Nat}{L:List bQ}(hL:rV n L){a to c k s:Int}(ha:0<=a/\a<n)(ht:0<=to/\to<n)(h:PZ n L a to c k s=true):∃d,d<=k/\fZ L c a to d/\∀d',fZ L c a to d'->d<=d':=by
 have hac:a≠c:=λe=>by subst e;rw[wit_self] at h;cases h
 obtain⟨i,d,_,h2,h3⟩:=(vq ha ht hac k s).1 h;exact⟨d,h3,(pN hL c ha.1 ha.2).1 (zN h2)⟩
end
section
def GQ(n:Nat)(L:List bQ)(v:Int)(a b:bQ):Bool:=!decide (a.f=b.t) && !PZ n L a.f b.t v (a.w+b.w) 30
def mN(n:Nat)(L:List bQ)(v:Int)(a:bQ)(bs:List bQ):List bQ:=(bs.filter (GQ n L v a)).map λb=>⟨a.f,b.t,a.w+b.w,v⟩
def fU(n:Nat)(L:List bQ)(v:Int):List bQ:=(nQ L v).flatMap λa=>mN n L v a (dZ L v)
def FE(n:Nat)(L:List bQ)(v:Int):Int:=(fU n L v).length-(nQ L v).length-(dZ L v).length
def cB(gs:List Bool)(v:Nat):Bool:=gs.getD v false
def uE(n:Nat)(L:List bQ)(gs:List Bool)(z:Int×Int)(v:Nat):Int×Int:=
 if cB gs v then z else if z.1<0 then((v:Int),FE n L v) else if FE n L v<z.2 then((v:Int),FE n L v) else z
def lX(n:Nat)(L:List bQ)(gs:List Bool)(k:Nat):Int×Int:=(List.range k).foldl (uE n L gs) (-1,0)
def kU(n:Nat)(L:List bQ)(gs:List Bool):Int:=(lX n L gs n).1
theorem OK(n:Nat)(L:List bQ)(gs:List Bool)(k:Nat):lX n L gs (k+1)=uE n L gs (lX n L gs k) k:=by
 unfold lX;rw[List.range_succ,List.foldl_append];rfl
theorem aa(n:Nat)(L:List bQ)(v:Int)(a:bQ)(bs:List bQ)(b:bQ):mN n L v a (bs++[b])=mN n L v a bs++(if GQ n L v a b then [⟨a.f,b.t,a.w+b.w,v⟩] else []):=by
 unfold mN;rw[JB,yA];congr 1;simp only[FB,List.filter_nil]
 split<;>simp
theorem Jc(n:Nat)(L:List bQ)(v:Int)(a:bQ)(bs:List bQ):(mN n L v a bs).length<=bs.length:=by
 unfold mN;rw[lD];exact wD _ _
theorem Oo(n:Nat)(L:List bQ)(v:Int)(as_:List bQ):(as_.flatMap λa=>mN n L v a (dZ L v)).length<=as_.length*(dZ L v).length:=by
 induction as_ with
 |nil=>simp
 |cons a r ih=>
  have:=Jc n L v a (dZ L v);simp only[FC,mH,mV];rw[Nat.add_mul];omega
theorem uB{n:Nat}{L:List bQ}{v:Int}{x:bQ}:x∈fU n L v↔∃a∈nQ L v,∃b∈dZ L v,GQ n L v a b=true/\x=⟨a.f,b.t,a.w+b.w,v⟩:=by
 unfold fU;rw[List.mem_flatMap]
 constructor
 ·rintro⟨a,ha,hx⟩
  unfold mN at hx;obtain⟨b,hb,rfl⟩:=lN.1 hx;obtain⟨h1,h2⟩:=jG.1 hb;exact⟨a,ha,b,h1,h2,rfl⟩
 ·rintro⟨a,ha,b,hb,h,rfl⟩
  refine⟨a,ha,?_⟩;unfold mN;exact lN.2 ⟨b,jG.2 ⟨hb,h⟩,rfl⟩
theorem Oq{n:Nat}{L:List bQ}(hL:rV n L)(hn:n<=512)(v:Int):(fU n L v).length<=262144:=by
 have h1:=Oo n L v (nQ L v);have h2:=hL.FH v;have h3:=hL.vG v;have:(nQ L v).length*(dZ L v).length<=512*512:=JA aB aB;unfold fU;omega
structure FirstOk(n:Nat)(L:List bQ)(gs:List Bool)(k:Nat)(z:Int×Int):Prop where
 none:z.1<0->z.1=-1/\∀v,v<k->cB gs v=true
 some:0<=z.1->z.1<k/\cB gs z.1.toNat=false/\z.2=FE n L z.1/\∀v,v<k->cB gs v=false->z.2<=FE n L v/\(FE n L v=z.2->z.1<=v)
theorem Zb(n:Nat)(L:List bQ)(gs:List Bool):∀k,FirstOk n L gs k (lX n L gs k)
 |0=>⟨λ_=>⟨rfl,λv hv=>aB⟩,λh=>absurd h (by show¬((0:Int)<=-1);decide)⟩
 |k+1=>by
  have ih:=Zb n L gs k;rw[OK];generalize lX n L gs k=z at*;unfold uE
  by_cases hg:cB gs k=true
  ·rw[if_pos hg]
   refine⟨λh=>⟨(ih.none h).1,λv hv=>?_⟩,λh=>?_⟩
   ·by_cases e:v=k
    ·rw[e];exact hg
    ·exact(ih.none h).2 v aB
   ·obtain⟨h1,h2,h3,h4⟩:=ih.some h
    refine⟨aB,h2,h3,λv hv fq=>?_⟩
    by_cases e:v=k
    ·rw[e,hg] at fq;cases fq
    ·exact h4 v aB fq
  ·rw[if_neg hg]
   have ib:cB gs k=false:=by simpa using hg
   by_cases h0:z.1<0
   ·rw[if_pos h0]
    refine⟨λh=>by simp only at h;omega,λ_=>⟨by simp only;omega,by simpa using ib,rfl,λv hv fq=>?_⟩⟩
    by_cases e:v=k
    ·subst e;exact⟨lM _,λ_=>lM _⟩
    ·rw[(ih.none h0).2 v aB] at fq;cases fq
   ·rw[if_neg h0]
    obtain⟨h1,h2,h3,h4⟩:=ih.some aB
    by_cases hw:FE n L k<z.2
    ·rw[if_pos hw]
     refine⟨λh=>by simp only at h;omega,λ_=>⟨by simp only;omega,by simpa using ib,rfl,λv hv fq=>?_⟩⟩
     by_cases e:v=k
     ·subst e;exact⟨lM _,λ_=>lM _⟩
     ·have:=(h4 v aB fq).1
      simp only;exact⟨aB,λe'=>aB⟩
    ·rw[if_neg hw]
     refine⟨λh=>absurd h h0,λ_=>⟨aB,h2,h3,λv hv fq=>?_⟩⟩
     by_cases e:v=k
     ·subst e;exact⟨aB,λ_=>aB⟩
     ·exact h4 v aB fq
theorem find_le{l:List bQ}{f t:Int}{x:bQ}(hs:BN l)(hx:x∈l)(hf:x.f=f)(ht:x.t=t):jM l f t=some x:=by subst hf;subst ht;exact yJ hs hx
theorem aAK{m:Nat}{l:List bQ}(h:rV m l){a:bQ}(ha:FA m a):(∃y∈(uY m l a).1,y.f=a.f/\y.t=a.t/\y.w<=a.w)/\∀x∈l,∃y∈(uY m l a).1,y.f=x.f/\y.t=x.t/\y.w<=x.w:=by
 unfold uY;rw[if_pos ha];have LG:(∃y∈MA l a,y.f=a.f/\y.t=a.t/\y.w<=a.w):=⟨a,mF.2 (.inl rfl),rfl,rfl,lM _⟩;have old:∀x∈l,¬(x.f=a.f/\x.t=a.t)->∃y∈MA l a,y.f=x.f/\y.t=x.t/\y.w<=x.w:=λx hx hn=>⟨x,mF.2 (.inr ⟨hx,hn⟩),rfl,rfl,lM _⟩;cases hf:jM l a.f a.t with
 |none=>exact⟨LG,λx hx=>old x hx (UE hf x hx)⟩
 |some z=>
  obtain⟨hz,z1,z2⟩:=qZ hf;simp only
  split
  ·exact⟨⟨z,hz,z1,z2,by assumption⟩,λx hx=>⟨x,hx,rfl,rfl,lM _⟩⟩
  ·refine⟨LG,λx hx=>?_⟩
   by_cases e:x.f=a.f/\x.t=a.t
   ·have:x=z:=by have:=find_le h.sC hx e.1 e.2;rw[hf] at this;exact(uZ this).symm
    subst this;exact⟨a,mF.2 (.inl rfl),e.1.symm,e.2.symm,aB⟩
   ·exact old x hx e
theorem XL{m:Nat}:∀(xs:List bQ) {l:List bQ},rV m l->(∀a∈xs,FA m a)->∀x,x∈l\/x∈xs->∃y∈gO m l xs,y.f=x.f/\y.t=x.t/\y.w<=x.w
 | [],l,h,_,x,hx=>by
  rcases hx with hx|hx
  ·exact⟨x,hx,rfl,rfl,lM _⟩
  ·cases hx
 |a::xs,l,h,hm,x,hx=>by
  have hp:=aAK h (hm a dJ);have ih:=XL xs (WB h a) λb hb=>hm b (by simp[hb]);have step:(∃y∈(uY m l a).1,y.f=x.f/\y.t=x.t/\y.w<=x.w)\/x∈xs:=by
   rcases hx with hx|hx
   ·exact .inl (hp.2 x hx)
   ·rcases jL.1 hx with rfl|hx
    ·exact .inl hp.1
    ·exact .inr hx
  rcases step with⟨y,hy,e1,e2,e3⟩|hx
  ·obtain⟨z,hz,e4,e5,e6⟩:=ih y (.inl hy)
   exact⟨z,hz,e4.trans e1,e5.trans e2,Int.le_trans e6 e3⟩
  ·exact ih x (.inr hx)
theorem put_sub{m:Nat}{l:List bQ}{a x:bQ}(h:x∈(uY m l a).1):x∈l\/x=a:=by
 unfold uY at h
 split at h
 ·split at h
  ·split at h
   ·exact .inl h
   ·rcases mF.1 h with rfl|⟨h,_⟩
    ·exact .inr rfl
    ·exact .inl h
  ·rcases mF.1 h with rfl|⟨h,_⟩
   ·exact .inr rfl
   ·exact .inl h
 ·exact .inl h
theorem pK{m:Nat}:∀(xs:List bQ) {l:List bQ} {x:bQ},x∈gO m l xs->x∈l\/x∈xs
 | [],_,_,h=>.inl h
 |a::xs,l,x,h=>by
  rcases pK xs (l:=(uY m l a).1) h with h|h
  ·rcases put_sub h with h|rfl
   ·exact .inl h
   ·exact .inr dJ
  ·exact .inr (by simp[h])
section
variable{n:Nat}{L:List bQ}(hL:rV n L){v:Int}(hw:∀e∈L,e.w<=549755813888)
include hL hw
theorem PA(hv0:0<=v)(Dq:v<n):∀x∈fU n L v,FA n x/\x.m=v/\x.f≠v/\x.t≠v:=by
 intro x hx;obtain⟨a,ha,b,hb,hn,rfl⟩:=uB.1 hx;obtain⟨ha,Vw⟩:=iB.1 ha;obtain⟨hb,hbf⟩:=eJ.1 hb;obtain⟨a0,a1,a2,a3,a4,a5,a6,_⟩:=hL.uV a ha;obtain⟨b0,b1,b2,b3,b4,b5,b6,_⟩:=hL.uV b hb;have gH:a.f≠b.t:=by unfold GQ at hn;simp at hn;exact hn.1
 have h1:=hw a ha;have h2:=hw b hb;have e1:a.f≠v:=aB;have e2:b.t≠v:=aB;exact⟨⟨a0,a1,b2,b3,gH,by show 1<=a.w+b.w;omega,by show a.w+b.w<=_;omega,.inr ⟨hv0,Dq,λe=>e1 e.symm,λe=>e2 e.symm⟩⟩,rfl,e1,e2⟩
theorem Yx(hv0:0<=v)(Dq:v<n){a b d:Int}(ha:a≠v)(h:fZ L (-1) a b d):
  (b≠v->∃d',d'<=d/\fZ (gO n (DB L v) (fU n L v)) (-1) a b d')/\(b=v->∃e∈nQ L v,∃d',fZ (gO n (DB L v) (fU n L v)) (-1) a e.f d'/\d'+e.w<=d):=by
 have sQ:=PA hL hw hv0 Dq;have hO:rV n (gO n (DB L v) (fU n L v)):=HN _ (hL.cut v);have light:=XL (fU n L v) (hL.cut v) λx hx=>(sQ x hx).1;generalize gO n (DB L v) (fU n L v)=O at*;have arc:∀x,x∈DB L v\/x∈fU n L v->∀d,fZ O (-1) a x.f d->∃d',d'<=d+x.w/\fZ O (-1) a x.t d':=λx hx d hd=>by
  obtain⟨y,hy,e1,e2,e3⟩:=light x hx;have:=fZ.gS y hd hy e1 (by have:=(hO.uV y hy).2.2.1;omega);rw[e2] at this;exact⟨d+y.w,aB,this⟩
 have along:∀{p q d2:Int},fZ (DB L v) (-1) p q d2->∀d1,fZ O (-1) a p d1->∃d',d'<=d1+d2/\fZ O (-1) a q d':=by
  intro p q d2 hpq
  induction hpq with
  |nil=>intro d1 h1;exact⟨d1,aB,h1⟩
  |gS e _ he hf _ ih=>
   intro d1 h1;obtain⟨d',hd',hw'⟩:=ih d1 h1;rw[<-hf] at hw';obtain⟨d'',h2,h3⟩:=arc e (.inl he) d' hw';exact⟨d'',aB,h3⟩
 induction h with
 |nil=>exact⟨λ_=>⟨0,lM _,.nil⟩,λe=>absurd e ha⟩
 | @gS x d e h he hf ht ih=>
  have heft:=(hL.uV e he).2.2.2.2.1;refine⟨λhbv=>?_,λhbv=>?_⟩
  ·by_cases hfv:e.f=v
   ·--gE the number itself
    obtain⟨e1,he1,d1,Vn,hd1⟩:=ih.2 (hf.symm.trans hfv);obtain⟨he1L,he1t⟩:=iB.1 he1
    by_cases uj:e1.f=e.t
    ·rw[uj] at Vn
     have:=(hL.uV e he).2.2.2.2.2.1;have:=(hL.uV e1 he1L).2.2.2.2.2.1;exact⟨d1,aB,Vn⟩
    ·have hout:e∈dZ L v:=eJ.2 ⟨he,hfv⟩
     obtain⟨b0,b1,b2,b3,_⟩:=hL.uV e he;obtain⟨c0,c1,c2,c3,c4,_⟩:=hL.uV e1 he1L;cases hwit:PZ n L e1.f e.t v (e1.w+e.w) 30 with
     |true=>
      obtain⟨d2,hd2,hw2,_⟩:=wit_walk hL ⟨c0,c1⟩ ⟨b2,b3⟩ hwit;have hw3:=(walk_cut hL aB).2 hw2;obtain⟨d',h1,h2⟩:=along hw3 d1 Vn;exact⟨d',aB,h2⟩
     |false=>
      have Gt:GQ n L v e1 e=true:=by unfold GQ;rw[hwit];simp[uj]
      obtain⟨d',h1,h2⟩:=arc ⟨e1.f,e.t,e1.w+e.w,v⟩ (.inr (uB.2 ⟨e1,he1,e,hout,Gt,rfl⟩)) d1 Vn;refine⟨d',?_,h2⟩;have:d'<=d1+(e1.w+e.w):=h1;omega
   ·obtain⟨d1,hd1,Vn⟩:=ih.1 (λe'=>hfv (hf.trans e'))
    rw[<-hf] at Vn;obtain⟨d',h1,h2⟩:=arc e (.inl (pT.2 ⟨he,hfv,hbv⟩)) d1 Vn;exact⟨d',aB,h2⟩
  ·have hfv:e.f≠v:=aB
   obtain⟨d1,hd1,Vn⟩:=ih.1 (λe'=>hfv (hf.trans e'));rw[<-hf] at Vn;exact⟨e,iB.2 ⟨he,hbv⟩,d1,Vn,aB⟩
end
end
structure Bld where
 left:List bQ
 all:List bQ
 gone:List Bool
 iZ:List Int
def pJ(n:Nat)(k:Nat)(z:Bld):Bld:=
 ⟨DB (gO n z.left (fU n z.left (kU n z.left z.gone))) (kU n z.left z.gone),gO n z.all (fU n z.left (kU n z.left z.gone)),z.gone.set (kU n z.left z.gone).toNat true,z.iZ.set (kU n z.left z.gone).toNat (k:Int)⟩
def cX(n:Nat)(L:List bQ):Nat->Bld
 |0=>⟨L,L,List.replicate n false,List.replicate n 0⟩
 |k+1=>pJ n k (cX n L k)
def vD(gs:List Bool):Nat:=(gs.filter λb=>b).length
theorem Pe:∀{gs:List Bool} {i:Nat},gs[i]? =some false->vD (gs.set i true)=vD gs+1
 | [],i,h=>by simp at h
 |b::gs,0,h=>by simp at h;subst h;simp[vD]
 |b::gs,i+1,h=>by
  simp at h;have ih:=Pe (i:=i) h;simp only[List.set_cons_succ,vD,FB] at ih ⊢
  split
  ·simp only[mV];omega
  ·exact ih
theorem ou{gs:List Bool}(h:vD gs<gs.length):∃v,v<gs.length/\cB gs v=false:=by
 induction gs with
 |nil=>simp at h
 |cons b gs ih=>
  cases b with
  |false=>exact⟨0,by simp,rfl⟩
  |true=>
   have:vD gs<gs.length:=by simp[vD] at h ⊢;omega
   obtain⟨v,h1,h2⟩:=ih this;exact⟨v+1,by simpa using h1,by unfold cB at h2 ⊢;simpa using h2⟩
theorem JX{gs:List Bool}{i:Nat}(hi:i<gs.length)(v:Nat):cB (gs.set i true) v=(decide (v=i) ||cB gs v):=by
 unfold cB;simp only[LZ,wC]
 by_cases e:v=i
 ·subst e;simp[hi]
 ·rw[if_neg (λh=>e h.symm)];simp[e]
theorem XP{l:List bQ}{p:bQ->Bool}{f t:Int}(hp:∀x∈l,x.f=f->x.t=t->p x=true):jM (l.filter p) f t=jM l f t:=by
 unfold jM
 induction l with
 |nil=>rfl
 |cons a l ih=>
  have ih':=ih λx hx=>hp x (by simp[hx]);simp only[FB]
  by_cases hpa:p a=true
  ·rw[if_pos hpa]
   simp only[List.find?_cons]
   split
   ·rfl
   ·exact ih'
  ·rw[if_neg hpa,ih']
   simp only[List.find?_cons];have:(decide (a.f=f) && decide (a.t=t))=false:=by
    by_cases e1:a.f=f<;>by_cases e2:a.t=t<;>simp[e1,e2]
    exact hpa (hp a dJ e1 e2)
   rw[this]
theorem Pj{n:Nat}{l:List bQ}(h:rV n l)(a:bQ)(f t:Int):jM (uY n l a).1 f t=
  if FA n a/\f=a.f/\t=a.t/\(match jM l f t with|some x=>decide (x.w<=a.w)|none=>false)=false then some a else jM l f t:=by
 have LG:∀f t,jM (MA l a) f t=if f=a.f/\t=a.t then some a else jM l f t:=λf t=>by
  have hs:=h.sC.LG a
  by_cases e:f=a.f/\t=a.t
  ·rw[if_pos e,e.1,e.2]
   exact yJ hs (mF.2 (.inl rfl))
  ·rw[if_neg e]
   cases hx:jM l f t with
   |none=>
    have hn:=UE hx;cases hy:jM (MA l a) f t with
    |none=>rfl
    |some y=>
     obtain⟨hm,h1,h2⟩:=qZ hy;rcases mF.1 hm with rfl|⟨hm,_⟩
     ·exact absurd ⟨h1.symm,h2.symm⟩ e
     ·exact absurd ⟨h1,h2⟩ (hn y hm)
   |some x=>
    obtain⟨hm,h1,h2⟩:=qZ hx;have za:x∈MA l a:=mF.2 (.inr ⟨hm,λe'=>e ⟨h1.symm.trans e'.1,h2.symm.trans e'.2⟩⟩);have:=yJ hs za;rwa[h1,h2] at this
 unfold uY
 by_cases hm:FA n a
 ·rw[if_pos hm]
  cases hf:jM l a.f a.t with
  |none=>
   simp only;rw[LG]
   by_cases e:f=a.f/\t=a.t
   ·rw[if_pos e,if_pos ⟨hm,e.1,e.2,by rw[e.1,e.2,hf]⟩]
   ·rw[if_neg e,if_neg (λe'=>e ⟨e'.2.1,e'.2.2.1⟩)]
  |some x=>
   simp only
   by_cases hw:x.w<=a.w
   ·rw[if_pos hw]
    rw[if_neg];rintro⟨_,e1,e2,e3⟩;rw[e1,e2,hf] at e3;simp at e3;omega
   ·rw[if_neg hw,LG]
    by_cases e:f=a.f/\t=a.t
    ·rw[if_pos e,if_pos ⟨hm,e.1,e.2,by rw[e.1,e.2,hf];simpa using hw⟩]
    ·rw[if_neg e,if_neg (λe'=>e ⟨e'.2.1,e'.2.2.1⟩)]
 ·rw[if_neg hm,if_neg (λe=>hm e.1)]
theorem vV{n:Nat}:∀(xs:List bQ) {l m:List bQ},rV n l->rV n m->∀f t,jM l f t=jM m f t->jM (gO n l xs) f t=jM (gO n m xs) f t
 | [],_,_,_,_,_,_,h=>h
 |a::xs,l,m,hl,hm,f,t,h=>by
  show jM (gO n (uY n l a).1 xs) f t=jM (gO n (uY n m a).1 xs) f t;refine vV xs (WB hl a) (WB hm a) f t ?_;rw[Pj hl,Pj hm,h]
structure Ml(n:Nat)(k:Nat)(z:Bld):Prop where
 Ez:rV n z.left
 oka:rV n z.all
 gl:z.gone.length=n
 rl:z.iZ.length=n
 YP:vD z.gone=k
 wl:∀e∈z.left,e.w<=549755813888
 wa:∀e∈z.all,e.w<=549755813888
 lg:∀e∈z.left,cB z.gone e.f.toNat=false/\cB z.gone e.t.toNat=false
 same:∀f t:Int,0<=f->0<=t->cB z.gone f.toNat=false->cB z.gone t.toNat=false->jM z.all f t=jM z.left f t
 rk:∀v:Nat,v<n->cB z.gone v=true->0<=z.iZ.getD v 0/\z.iZ.getD v 0<k
 inj:∀v w:Nat,v<n->w<n->cB z.gone v=true->cB z.gone w=true->z.iZ.getD v 0=z.iZ.getD w 0->v=w
theorem AR{n k:Nat}{z:Bld}(h:Ml n k z)(hk:k<n):0<=kU n z.left z.gone/\kU n z.left z.gone<n/\cB z.gone (kU n z.left z.gone).toNat=false:=by
 have hf:=Zb n z.left z.gone n;obtain⟨v,h1,h2⟩:=ou (gs:=z.gone) (by rw[h.YP,h.gl];exact hk);have:0<=(lX n z.left z.gone n).1:=by
  rcases Int.lt_or_le (lX n z.left z.gone n).1 0 with h'|h'
  ·have:=(hf.none h').2 v (by rw[<-h.gl];exact h1)
   rw[h2] at this;cases this
  ·exact h'
 obtain⟨a,b,_⟩:=hf.some this;exact⟨this,a,b⟩
theorem NG{l:List Int}{i:Nat}(hi:i<l.length)(x:Int)(v:Nat):(l.set i x).getD v 0=if v=i then x else l.getD v 0:=by
 simp only[LZ,wC]
 by_cases e:v=i
 ·subst e;simp[hi]
 ·rw[if_neg (λh=>e h.symm),if_neg e]
theorem aA4{n:Nat}{L:List bQ}(hL:rV n L)(hw:∀e∈L,e.w<=40):Ml n 0 (cX n L 0):=by
 have g0:∀v,cB (List.replicate n false) v=false:=λv=>by unfold cB;rw[LZ,Fm];split<;>rfl
 refine⟨hL,hL,by simp[cX],by simp[cX],?_,λe he=>by have:=hw e he;omega,λe he=>by have:=hw e he;omega,λe _=>⟨g0 _,g0 _⟩,λ_ _ _ _ _ _=>rfl,λv _ hv=>?_,λv w _ _ hv=>?_⟩
 ·show vD (List.replicate n false)=0
  unfold vD;rw[List.filter_eq_nil_iff.2 λb hb=>by rw[(List.mem_replicate.1 hb).2];simp];rfl
 ·rw[show(cX n L 0).gone=List.replicate n false from rfl,g0] at hv;cases hv
 ·rw[show(cX n L 0).gone=List.replicate n false from rfl,g0] at hv;cases hv
theorem bld_step{n k:Nat}{z:Bld}(h:Ml n k z)(hk:k<n)(sw:∀x∈fU n z.left (kU n z.left z.gone),x.w<=549755813888):Ml n (k+1) (pJ n k z):=by
 obtain⟨v0,v1,vg⟩:=AR h hk;unfold pJ;generalize kU n z.left z.gone=v at*;have cL:v.toNat<z.gone.length:=by rw[h.gl];omega
 have jq:v.toNat<z.iZ.length:=by rw[h.rl];omega
 have Ma:=JX cL;have okp:=HN (n:=n) (fU n z.left v) h.Ez;have sg:∀x∈fU n z.left v,cB z.gone x.f.toNat=false/\cB z.gone x.t.toNat=false:=λx hx=>by
  obtain⟨a,ha,b,hb,_,rfl⟩:=uB.1 hx;exact⟨(h.lg a (iB.1 ha).1).1,(h.lg b (eJ.1 hb).1).2⟩
 refine⟨okp.cut v,HN _ h.oka,by simp[h.gl],by simp[h.rl],?_,λe he=>?_,λe he=>?_,λe he=>?_,λf t hf0 ht0 hf ht=>?_,λu hu hg=>?_,λu w hu hw hgu hgw e=>?_⟩
 ·have cU:z.gone[v.toNat]? =some false:=by
   unfold cB at vg;rw[LZ,gU cL] at vg;rw[gU cL];simpa using vg
  show vD (z.gone.set v.toNat true)=k+1;rw[Pe cU,h.YP]
 ·rcases pK _ (pT.1 he).1 with h'|h'
  ·exact h.wl e h'
  ·exact sw e h'
 ·rcases pK _ he with h'|h'
  ·exact h.wa e h'
  ·exact sw e h'
 ·obtain⟨he,ne1,ne2⟩:=pT.1 he
  have hm:=okp.uV e he;have hg:cB z.gone e.f.toNat=false/\cB z.gone e.t.toNat=false:=by
   rcases pK _ he with h'|h'
   ·exact h.lg e h'
   ·exact sg e h'
  show cB (z.gone.set v.toNat true) _=false/\cB (z.gone.set v.toNat true) _=false;rw[Ma,Ma,hg.1,hg.2];have:=hm.1;have:=hm.2.2.1
  constructor<;>simp<;>omega
 ·replace hf:cB (z.gone.set v.toNat true) f.toNat=false:=hf
  replace ht:cB (z.gone.set v.toNat true) t.toNat=false:=ht
  rw[Ma] at hf ht;simp at hf ht;show jM (gO n z.all _) f t=jM (DB (gO n z.left _) v) f t;have e1:=vV (fU n z.left v) h.oka h.Ez f t (h.same f t hf0 ht0 hf.2 ht.2);have e2:jM (DB (gO n z.left (fU n z.left v)) v) f t=jM (gO n z.left (fU n z.left v)) f t:=XP λx _ e3 e4=>by
   simp only[tO,decide_eq_true_eq];exact⟨λe=>hf.1 (by rw[<-e3,e]),λe=>ht.1 (by rw[<-e4,e])⟩
  rw[e1,e2]
 ·replace hg:cB (z.gone.set v.toNat true) u=true:=hg
  show 0<=(z.iZ.set v.toNat (k:Int)).getD u 0/\(z.iZ.set v.toNat (k:Int)).getD u 0<((k+1:Nat):Int);rw[Ma] at hg;rw[NG jq]
  by_cases e:u=v.toNat
  ·rw[if_pos e];omega
  ·rw[if_neg e]
   simp[e] at hg;have:=h.rk u hu hg;omega
 ·replace hgu:cB (z.gone.set v.toNat true) u=true:=hgu
  replace hgw:cB (z.gone.set v.toNat true) w=true:=hgw
  replace e:(z.iZ.set v.toNat (k:Int)).getD u 0=(z.iZ.set v.toNat (k:Int)).getD w 0:=e
  rw[Ma] at hgu hgw;rw[NG jq,NG jq] at e
  by_cases e1:u=v.toNat<;>by_cases e2:w=v.toNat
  ·rw[e1,e2]
  ·rw[if_pos e1,if_neg e2] at e
   simp[e2] at hgw;have:=h.rk w hw hgw;omega
  ·rw[if_neg e1,if_pos e2] at e
   simp[e1] at hgu;have:=h.rk u hu hgu;omega
  ·rw[if_neg e1,if_neg e2] at e
   simp[e1] at hgu;simp[e2] at hgw;exact h.inj u w hu hw hgu hgw e
theorem WJ{n:Nat}{z:Bld}(h:Ml n n z)(v:Nat)(hv:v<n):cB z.gone v=true:=by
 cases hg:cB z.gone v with
 |true=>rfl
 |false=>
  have key:∀(gs:List Bool) (v:Nat),v<gs.length->cB gs v=false->vD gs<gs.length:=by
   intro gs
   induction gs with
   |nil=>intro v hv;simp at hv
   |cons b gs ih=>
    intro v hv hg;have FX:vD gs<=gs.length:=wD _ _;cases b with
    |false=>simp[vD] at FX ⊢;omega
    |true=>
     cases v with
     |zero=>simp[cB] at hg
     |succ v=>
      have:=ih v (by simpa using hv) (by unfold cB at hg ⊢;simpa using hg);simp[vD] at this ⊢;omega
  have:=key z.gone v (by rw[h.gl];exact hv) hg;rw[h.YP,h.gl] at this;omega
section
theorem Ib{n k:Nat}{z:Bld}(h:Ml n k z){y:bQ}(hy:y∈z.left):y∈z.all:=by
 obtain⟨g1,g2⟩:=h.lg y hy;have hm:=h.Ez.uV y hy;have e:=h.same y.f y.t hm.1 hm.2.2.1 g1 g2;rw[yJ h.Ez.sC hy] at e;exact(qZ e).1
theorem xy{n:Nat}{L:List bQ}(hL:rV n L){v:Int}{xs:List bQ}(hx:∀x∈xs,x.f≠v/\x.t≠v):∀y∈gO n (DB L v) xs,y∈DB (gO n L xs) v:=by
 intro y hy;have mL:=HN (n:=n) xs (hL.cut v);have gH:y.f≠v/\y.t≠v:=by
  rcases pK _ hy with h|h
  ·exact(pT.1 h).2
  ·exact hx y h
 have e1:jM (DB L v) y.f y.t=jM L y.f y.t:=XP λx _ e3 e4=>by
  simp only[tO,decide_eq_true_eq];exact⟨λe=>gH.1 (by rw[<-e3,e]),λe=>gH.2 (by rw[<-e4,e])⟩
 have e2:=vV xs (hL.cut v) hL y.f y.t e1;rw[yJ mL.sC hy] at e2;exact pT.2 ⟨(qZ e2.symm).1,gH⟩
theorem na{L:List bQ}{a b d c:Int}(h:fZ L (-1) a b d)(hac:a≠c):(b≠c/\fZ L c a b d)\/∃d1 d2,fZ L (-1) a c d1/\fZ L (-1) c b d2/\d1+d2=d:=by
 induction h with
 |nil=>exact .inl ⟨hac,.nil⟩
 | @gS x d e h he hf ht ih=>
  by_cases hc:e.t=c
  ·refine .inr ⟨d+e.w,0,?_,?_,aB⟩
   ·have:=fZ.gS e h he hf ht
    rwa[hc] at this
   ·rw[hc];exact .nil
  ·rcases ih with⟨_,h1⟩|⟨d1,d2,h1,h2,h3⟩
   ·exact .inl ⟨hc,.gS e h1 he hf hc⟩
   ·exact .inr ⟨d1,d2+e.w,h1,.gS e h2 he hf ht,aB⟩
theorem fZ.one_le{m:Nat}{L:List bQ}(hL:rV m L){c a v d:Int}(h:fZ L c a v d)(gH:a≠v):1<=d:=by
 cases h with
 |nil=>exact absurd rfl gH
 |gS e h he _ _=>have:=(hL.uV e he).2.2.2.2.2.1;have:=h.pos hL;omega
def below(s:List It)(d:Int):Nat:=(s.filter λx=>decide (x.key<d)).length
theorem below_lt{s:List It}{x:It}(hx:x∈s){d:Int}(h:x.key<d):below s x.key+1<=below s d:=by
 induction s with
 |nil=>cases hx
 |cons y s ih=>
  have mono:∀s:List It,below s x.key<=below s d:=λs=>by
   induction s with
   |nil=>exact iX _
   |cons z s ih=>
    unfold below at ih ⊢;simp only[FB]
    by_cases h1:z.key<x.key
    ·have h2:z.key<d:=aB
     simp[h1,h2];exact ih
    ·by_cases h2:z.key<d
     ·simp[h1,h2];omega
     ·simp[h1,h2];exact ih
  rcases jL.1 hx with rfl|hx
  ·have:=mono s
   unfold below at this ⊢;simp only[FB];simp[h];omega
  ·have:=ih hx
   unfold below at this ⊢;simp only[FB]
   by_cases h1:y.key<x.key
   ·have h2:y.key<d:=aB
    simp[h1,h2];exact this
   ·by_cases h2:y.key<d
    ·simp[h1,h2];omega
    ·simp[h1,h2];exact this
section
variable{m:Nat}{L:List bQ}(hL:rV m L){W:Int}(hW:∀e∈L,e.w<=W)(hW0:0<=W){a:Int}(ha:0<=a)(pE:a<m)
include hL hW hW0 ha pE
theorem RM:∀(k:Nat) {v d:Int},d.toNat<=k->(⟨v,d⟩:It)∈eF m L (-1) a->d<=(below (eF m L (-1) a) d:Int)*W
 |k,v,d,hk,h=>by
  obtain⟨hw,jo⟩:=(pN hL (-1) ha pE).1 h;cases hw with
  |nil=>exact Int.mul_nonneg aB hW0
  | @gS x d0 e h0 he hf ht=>
   have hew:=(hL.uV e he).2.2.2.2.2.1;have hd0:=h0.pos hL;have hs:(⟨x,d0⟩:It)∈eF m L (-1) a:=(pN hL (-1) ha pE).2 ⟨h0,λd' hd'=>by have:=jo (d'+e.w) (.gS e hd' he hf ht);omega⟩;obtain⟨k',rfl⟩:∃k',k=k'+1:=⟨k-1,aB⟩;have ih:=RM k' aB hs;have hb:=below_lt hs (d:=d0+e.w) (by show d0<d0+e.w;omega);have bY:(below (eF m L (-1) a) d0:Int)+1<=(below (eF m L (-1) a) (d0+e.w):Int):=by
    have:below (eF m L (-1) a) d0+1<=below (eF m L (-1) a) (d0+e.w):=hb;omega
   have h1:=Int.mul_le_mul_of_nonneg_right bY hW0;rw[Int.add_mul,Int.one_mul] at h1;have:=hW e he;omega
theorem nk{b d:Int}(h:fZ L (-1) a b d):∃d',d'<=d/\fZ L (-1) a b d'/\d'<=(m:Int)*W:=by
 obtain⟨k,hk,hs⟩:=RL hL (-1) ha pE h;refine⟨k,hk,((pN hL (-1) ha pE).1 hs).1,?_⟩;have h1:=RM hL hW hW0 ha pE k.toNat (iX _) hs;have h2:below (eF m L (-1) a) k<=m:=iG (wD _ _) (NQ hL (-1) ha pE);have h3:=Int.mul_le_mul_of_nonneg_right (show(below (eF m L (-1) a) k:Int)<=(m:Int) by omega) hW0;omega
end
theorem Br:∀gs:List Bool,((List.range gs.length).filter λv=>cB gs v).length=vD gs
 | []=>rfl
 |b::gs=>by
  have ih:=Br gs;rw[mV,List.range_succ_eq_map,FB,List.filter_map];have e:((λv=>cB (b::gs) v) ∘ Nat.succ)=λv=>cB gs v:=by funext v;simp[cB]
  rw[e];cases b with
  |true=>
   have:cB (true::gs) 0=true:=by simp[cB]
   rw[this];simp[vD] at ih ⊢;exact ih
  |false=>
   have:cB (false::gs) 0=false:=by simp[cB]
   rw[this];simp[vD] at ih ⊢;exact ih
theorem ae{m:Nat}{L:List bQ}(hL:rV m L){c a:Int}(ha:0<=a)(pE:a<m){gs:List Bool}(hg:gs.length=m)(hx:∀x∈eF m L c a,cB gs x.id.toNat=false):
  (eF m L c a).length+vD gs<=m:=by
 have fk:=(xM hL c ha pE m).Dw;have IW:∀x∈eF m L c a,0<=x.id/\x.id<m:=λx hx=>(af hL c ha pE hx).2.2;have key:=wU (m:=m) (l:=(eF m L c a).map (·.id)++((List.range gs.length).filter λv=>cB gs v).map λv:Nat=>(v:Int)) ?_ ?_
 ·rw[mH,lD,lD,Br] at key;exact key
 ·rw[List.nodup_append]
  refine⟨fk,?_,?_⟩
  ·rw[List.Nodup,List.pairwise_map]
   exact List.Pairwise.imp (λ{x y:Nat} (h:x<y) (e:(x:Int)=(y:Int))=>aB) (SF _ (List.pairwise_lt_range (n:=gs.length)))
  ·intro x An y hy e
   obtain⟨x',UT,rfl⟩:=lN.1 An;obtain⟨y',Vm,rfl⟩:=lN.1 hy;have h1:=hx x' UT;have h2:=(jG.1 Vm).2;rw[e,lJ,h2] at h1;cases h1
 ·intro x An
  rcases jS.1 An with h|h
  ·obtain⟨x',UT,rfl⟩:=lN.1 h
   exact IW x' UT
  ·obtain⟨y',Vm,rfl⟩:=lN.1 h
   have:=List.mem_range.1 (jG.1 Vm).1;omega
theorem wit_few{n:Nat}{L:List bQ}(hL:rV n L){a to c k:Int}{s:Nat}(ha:0<=a/\a<n)(ht:0<=to/\to<n)(hac:a≠c){d:Int}(hw:fZ L c a to d)(hd:d<=k)(hs:(eF n L c a).length<=s):PZ n L a to c k s=true:=by
 obtain⟨e,he,hm⟩:=RL hL c ha.1 ha.2 hw;obtain⟨i,hi⟩:=oZ.1 hm;have h2:=(kY.1 hi).1;exact(vq ha ht hac k s).2 ⟨i,e,aB,hi,aB⟩
structure BRat(n:Nat)(L:List bQ)(k:Nat)(z:Bld):Prop where
 abs:k<=21->∀e∈z.left,e.w<=40*2^k
 rat:∀e∈z.left,∀d,fZ L (-1) e.f e.t d->e.w<=83886080*d
 aO:∀a b d:Int,fZ L (-1) a b d->0<=a->0<=b->cB z.gone a.toNat=false->cB z.gone b.toNat=false->∃d',d'<=d/\fZ z.left (-1) a b d'
 dN:∀e∈z.left,fZ L (-1) e.f e.t e.w
theorem aAI{n:Nat}{L:List bQ}(hL:rV n L)(hw:∀e∈L,e.w<=40):BRat n L 0 (cX n L 0):=by
 refine⟨λ_ e he=>by have:=hw e he;omega,λe he d hd=>?_,λa b d h _ _ _ _=>⟨d,lM _,h⟩,λe he=>?_⟩
 ·have hm:=hL.uV e he
  have h1:=hd.one_le hL (λe'=>hm.2.2.2.2.1 e');have:=hw e he;omega
 ·have:=fZ.gS (a:=e.f) e (.nil (L:=L) (c:=-1)) he rfl (by have:=(hL.uV e he).2.2.1;omega)
  rwa[Int.zero_add] at this
theorem pow21{k:Nat}(h:k<=21):(40*2^k:Int)<=83886080:=by
 have:(2^k:Nat)<=2^21:=Nat.pow_le_pow_right (by decide) h;have e:((2^k:Nat):Int)=(2^k:Int):=by simp
 omega
theorem rat_step{n k:Nat}{L:List bQ}{z:Bld}(hL:rV n L)(hw:∀e∈L,e.w<=40)(hn:n<=51)(h:Ml n k z)(r:BRat n L k z)(hk:k<n):
  (∀x∈fU n z.left (kU n z.left z.gone),x.w<=549755813888)/\BRat n L (k+1) (pJ n k z):=by
 obtain⟨v0,v1,vg⟩:=AR h hk;have sQ:=PA h.Ez (v:=kU n z.left z.gone) h.wl v0 v1;unfold pJ;generalize kU n z.left z.gone=v at*;have cL:v.toNat<z.gone.length:=by rw[h.gl];omega
 have Ma:=JX cL;have hback:∀{a b d:Int},fZ z.left (-1) a b d->fZ L (-1) a b d:=λ{a b d} hh=>by
  induction hh with
  |nil=>exact .nil
  |gS y _ hy hf _ ih=>rw[<-hf] at ih;exact ih.trans (r.dN y hy)
 have sabs:k+1<=21->∀x∈fU n z.left v,x.w<=40*2^(k+1):=λQM x hx=>by
  obtain⟨p,hp,q,hq,_,rfl⟩:=uB.1 hx;have h1:=r.abs aB p (iB.1 hp).1;have h2:=r.abs aB q (eJ.1 hq).1;show p.w+q.w<=_;omega
 have sback:∀x∈fU n z.left v,fZ L (-1) x.f x.t x.w:=λx hx=>by
  obtain⟨p,hp,q,hq,_,rfl⟩:=uB.1 hx;obtain⟨hpL,hpt⟩:=iB.1 hp;obtain⟨hqL,hqf⟩:=eJ.1 hq;have w1:=r.dN p hpL;have w2:=r.dN q hqL;rw[hpt] at w1;rw[hqf] at w2;exact w1.trans w2
 have srat:∀x∈fU n z.left v,∀d,fZ L (-1) x.f x.t d->x.w<=83886080*d:=λx hx d hd=>by
  have hxm:=(sQ x hx).1;have hd1:=hd.one_le hL (λe'=>hxm.2.2.2.2.1 e')
  by_cases QM:k+1<=21
  ·have h1:=sabs QM x hx
   have h2:=pow21 QM;omega
  ·obtain⟨p,hp,q,hq,Gt,rfl⟩:=uB.1 hx
   obtain⟨hpL,hpt⟩:=iB.1 hp;obtain⟨hqL,hqf⟩:=eJ.1 hq;have mp:=h.Ez.uV p hpL;have mq:=h.Ez.uV q hqL;have gp:=(h.lg p hpL).1;have gq:=(h.lg q hqL).2;show p.w+q.w<=83886080*d;obtain⟨d',hd',wl⟩:=r.aO p.f q.t d hd mp.1 mq.2.2.1 gp gq;rcases Int.lt_or_le (p.w+q.w) d' with GJ|FX
   ·omega
   ·have hpv:p.f≠v:=by have:=mp.2.2.2.2.1;omega
    rcases na wl hpv with⟨_,hc⟩|⟨d1,d2,h1,h2,h3⟩
    ·have few:=ae h.Ez (c:=v) mp.1 mp.2.1 h.gl λy hy=>by
      have hwy:=((pN h.Ez v mp.1 mp.2.1).1 (show(⟨y.id,y.key⟩:It)∈_ from hy)).1;generalize y.key=dk at hwy;generalize y.id=iy at hwy ⊢;cases hwy with
      |nil=>exact gp
      |gS e _ he _ _=>exact(h.lg e he).2
     rw[h.YP] at few;have hwit:=wit_few (s:=30) h.Ez ⟨mp.1,mp.2.1⟩ ⟨mq.2.2.1,mq.2.2.2.1⟩ hpv hc FX aB;unfold GQ at Gt;have hwit':PZ n z.left p.f q.t v (p.w+q.w) 30=true:=hwit;rw[hwit'] at Gt;simp at Gt
    ·have r1:=r.rat p hpL d1 (by rw[hpt];exact hback h1)
     have r2:=r.rat q hqL d2 (by rw[hqf];exact hback h2);omega
 refine⟨λx hx=>?_,λQM e he=>?_,λe he d hd=>?_,λa b d hd a0 b0 ag bg=>?_,λe he=>?_⟩
 ·have hxm:=(sQ x hx).1
  obtain⟨d',_,hd',hb⟩:=nk hL hw (by decide) hxm.1 hxm.2.1 (sback x hx);have:=srat x hx d' hd';omega
 ·rcases pK _ (pT.1 he).1 with h'|h'
  ·have:=r.abs aB e h'
   have:=(h.Ez.uV e h').2.2.2.2.2.1;omega
  ·exact sabs QM e h'
 ·rcases pK _ (pT.1 he).1 with h'|h'
  ·exact r.rat e h' d hd
  ·exact srat e h' d hd
 ·replace ag:cB (z.gone.set v.toNat true) a.toNat=false:=ag
  replace bg:cB (z.gone.set v.toNat true) b.toNat=false:=bg
  rw[Ma] at ag bg;simp at ag bg;obtain⟨d1,h1,w1⟩:=r.aO a b d hd a0 b0 ag.2 bg.2;obtain⟨d2,h2,w2⟩:=(Yx h.Ez h.wl v0 v1 (λe=>ag.1 (by rw[e])) w1).1 (λe=>bg.1 (by rw[e]));exact⟨d2,aB,w2.mono λe he gH=>⟨xy h.Ez (λx hx=>⟨(sQ x hx).2.2.1,(sQ x hx).2.2.2⟩) e he,gH⟩⟩
 ·rcases pK _ (pT.1 he).1 with h'|h'
  ·exact r.dN e h'
  ·exact sback e h'
theorem Zi{n:Nat}{L:List bQ}(hL:rV n L)(hw:∀e∈L,e.w<=40)(hn:n<=51):∀k,k<=n->Ml n k (cX n L k)/\BRat n L k (cX n L k)
 |0,_=>⟨aA4 hL hw,aAI hL hw⟩
 |k+1,h=>by
  obtain⟨h1,h2⟩:=Zi hL hw hn k aB;obtain⟨h3,h4⟩:=rat_step hL hw hn h1 h2 aB;exact⟨bld_step h1 aB h3,h4⟩
theorem xO{n:Nat}{L:List bQ}(hL:rV n L)(hw:∀e∈L,e.w<=40)(hn:n<=51)(k:Nat)(h:k<=n):Ml n k (cX n L k):=(Zi hL hw hn k h).1
end
section
theorem put_keep{n:Nat}{l:List bQ}(h:rV n l){a y:bQ}(hy:y∈l)(gH:¬(y.f=a.f/\y.t=a.t)):y∈(uY n l a).1:=by
 unfold uY
 split
 ·split
  ·split
   ·exact hy
   ·exact mF.2 (.inr ⟨hy,gH⟩)
  ·exact mF.2 (.inr ⟨hy,gH⟩)
 ·exact hy
theorem Bo{n:Nat}:∀(xs:List bQ) {l:List bQ},rV n l->∀y∈l,(∀a∈xs,¬(y.f=a.f/\y.t=a.t))->y∈gO n l xs
 | [],_,_,_,hy,_=>hy
 |a::xs,_,h,y,hy,hn=>Bo xs (WB h a) y (put_keep h hy (hn a dJ)) λb hb=>hn b (by simp[hb])
structure BOwn(n:Nat)(L:List bQ)(k:Nat)(z:Bld):Prop where
 gN:∀y∈z.all,y.m<0->y∈L
 light:∀e∈L,∃y∈z.all,y.f=e.f/\y.t=e.t/\y.w<=e.w
 half:∀e∈z.all,0<=e.m->cB z.gone e.m.toNat=true/\(∃a∈z.all,∃b∈z.all,a.f=e.f/\a.t=e.m/\b.f=e.m/\b.t=e.t/\a.w+b.w=e.w)/\
  (cB z.gone e.f.toNat=true->z.iZ.getD e.m.toNat 0<z.iZ.getD e.f.toNat 0)/\(cB z.gone e.t.toNat=true->z.iZ.getD e.m.toNat 0<z.iZ.getD e.t.toNat 0)
section
variable{n k:Nat}{L:List bQ}{z:Bld}
theorem Om(h:Ml n k z)(hk:k<n){y:bQ}(hy:y∈z.all)
  (hg:cB z.gone y.f.toNat=true\/cB z.gone y.t.toNat=true\/y.f=kU n z.left z.gone\/y.t=kU n z.left z.gone):y∈(pJ n k z).all:=by
 obtain⟨v0,v1,vg⟩:=AR h hk;unfold pJ;generalize kU n z.left z.gone=v at*;have hm:=PA h.Ez (v:=v) h.wl v0 v1;refine Bo _ h.oka y hy λa ha=>?_;obtain⟨p,hp,q,hq,_,rfl⟩:=uB.1 ha;have g1:=(h.lg p (iB.1 hp).1).1;have g2:=(h.lg q (eJ.1 hq).1).2;obtain⟨_,_,n1,n2⟩:=hm _ ha;rintro⟨e1,e2⟩;have e1':y.f=p.f:=e1;have e2':y.t=q.t:=e2;rcases hg with hg|hg|hg|hg
 ·rw[e1',g1] at hg;cases hg
 ·rw[e2',g2] at hg;cases hg
 ·exact n1 (show p.f=v by omega)
 ·exact n2 (show q.t=v by omega)
end
def cC(rs:List Int)(v:Int):Int:=if 0<=v/\v<rs.length then rs.getD v.toNat 0 else-1
def upL(A:List bQ)(rs:List Int)(v:Int):List bQ:=(dZ A v).filter λe=>decide (cC rs v<cC rs e.t)
def DU(A:List bQ)(rs:List Int)(v:Int):List bQ:=(nQ A v).filter λe=>decide (cC rs v<cC rs e.f)
inductive gf(A:List bQ)(rs:List Int)(a:Int):Int->Int->Prop where
 |nil:gf A rs a a 0
 |gS {v d:Int} (e:bQ) (h:gf A rs a v d) (he:e∈A) (hf:e.f=v) (hr:cC rs e.f<cC rs e.t):gf A rs a e.t (d+e.w)
inductive HB(A:List bQ)(rs:List Int):Int->Int->Int->Prop where
 |nil (v:Int):HB A rs v v 0
 |gS {u v d:Int} (e:bQ) (h:HB A rs u v d) (he:e∈A) (hf:e.f=v) (hr:cC rs e.t<cC rs e.f):HB A rs u e.t (d+e.w)
theorem gf.cons{A:List bQ}{rs:List Int}{x w d:Int}(e:bQ)(he:e∈A)(hr:cC rs e.f<cC rs e.t)(ht:e.t=x)(h:gf A rs x w d):gf A rs e.f w (e.w+d):=by
 induction h with
 |nil=>rw[Int.add_zero,<-ht];have:=gf.gS (a:=e.f) e .nil he rfl hr;rwa[Int.zero_add] at this
 |gS e' _ uM YI No ih=>rw[<-Int.add_assoc];exact .gS e' ih uM YI No
def UD(A:List bQ)(rs:List Int)(a b d:Int):Prop:=∃m d1 d2,gf A rs a m d1/\HB A rs m b d2/\d1+d2<=d
theorem fZ.kM{n:Nat}{L:List bQ}(hL:rV n L){a:Int}:∀{b d:Int},fZ L (-1) a b d->b≠a->∃e∈L,e.f=a/\e.t≠a/\∃d',fZ L (-1) e.t b d'/\e.w+d'<=d:=by
 intro b d h
 induction h with
 |nil=>intro hb;exact absurd rfl hb
 | @gS x d e h he hf ht ih=>
  intro hb
  by_cases hx:x=a
  ·have:=h.pos hL
   exact⟨e,he,hf.trans hx,hb,0,.nil,aB⟩
  ·obtain⟨e1,h1,h2,h3,d',h4,h5⟩:=ih hx
   exact⟨e1,h1,h2,h3,d'+e.w,.gS e h4 he hf ht,aB⟩
section
variable{n:Nat}{L:List bQ}(hL:rV n L)(hw:∀e∈L,e.w<=40)(hn:n<=51)
include hL hw hn
theorem HT:∀j k,k+j<=n->∀x:Nat,x<n->
  (cB (cX n L k).gone x=true->cB (cX n L (k+j)).gone x=true/\(cX n L (k+j)).iZ.getD x 0=(cX n L k).iZ.getD x 0)/\
  (cB (cX n L k).gone x=false->cB (cX n L (k+j)).gone x=true->(k:Int)<=(cX n L (k+j)).iZ.getD x 0)
 |0,k,_,x,_=>⟨λh=>⟨h,rfl⟩,λh h'=>by rw[Nat.add_zero,h] at h';cases h'⟩
 |j+1,k,hk,x,hx=>by
  obtain⟨h1,h2⟩:=HT j k aB x hx;have hi:=xO hL hw hn (k+j) aB;obtain⟨v0,v1,vg⟩:=AR hi aB;show(_->cB (pJ n (k+j) (cX n L (k+j))).gone x=true/\(pJ n (k+j) (cX n L (k+j))).iZ.getD x 0=_)/\(_->cB (pJ n (k+j) (cX n L (k+j))).gone x=true->_<=(pJ n (k+j) (cX n L (k+j))).iZ.getD x 0);unfold pJ;generalize kU n (cX n L (k+j)).left (cX n L (k+j)).gone=v at*;have cL:v.toNat<(cX n L (k+j)).gone.length:=by rw[hi.gl];omega
  have jq:v.toNat<(cX n L (k+j)).iZ.length:=by rw[hi.rl];omega
  simp only[JX cL,NG jq];refine⟨λhg=>?_,λhg ib=>?_⟩
  ·obtain⟨g1,g2⟩:=h1 hg
   have:x≠v.toNat:=λe=>by rw[e,vg] at g1;cases g1
   exact⟨by rw[g1];simp,by rw[if_neg this,g2]⟩
  ·by_cases e:x=v.toNat
   ·rw[if_pos e];omega
   ·rw[if_neg e]
    simp[e] at ib;exact h2 hg ib
theorem Py:∀j k,k+j<=n->∀y∈(cX n L k).all,(cB (cX n L k).gone y.f.toNat=true\/cB (cX n L k).gone y.t.toNat=true)->y∈(cX n L (k+j)).all
 |0,_,_,_,hy,_=>hy
 |j+1,k,hk,y,hy,hg=>by
  have ih:=Py j k aB y hy hg;have hi:=xO hL hw hn (k+j) aB;have hm:=hi.oka.uV y ih;refine Om hi aB ih ?_;rcases hg with hg|hg
  ·exact .inl ((HT hL hw hn j k aB y.f.toNat (by have:=hm.1;have:=hm.2.1;omega)).1 hg).1
  ·exact .inr (.inl ((HT hL hw hn j k aB y.t.toNat (by have:=hm.2.2.1;have:=hm.2.2.2.1;omega)).1 hg).1)
theorem ND{x:Int}(h0:0<=x)(h1:x<n):cC (cX n L n).iZ x=(cX n L n).iZ.getD x.toNat 0:=by
 unfold cC;rw[(xO hL hw hn n (iX n)).rl,if_pos ⟨h0,h1⟩]
theorem yb:∀j k,k+j=n->∀{a b d:Int},fZ (cX n L k).left (-1) a b d->0<=a->a<n->cB (cX n L k).gone a.toNat=false->cB (cX n L k).gone b.toNat=false->0<=b->b<n->UD (cX n L n).all (cX n L n).iZ a b d
 |0,k,hk,a,b,d,_,a0,a1,ag,_,_,_=>by
  have lT:k=n:=aB;subst lT;rw[WJ (xO hL hw hn k (iX k)) a.toNat aB] at ag;cases ag
 |j+1,k,hk,a,b,d,hwk,a0,a1,ag,bg,b0,b1=>by
  have hi:=xO hL hw hn k aB;obtain⟨v0,v1,vg⟩:=AR hi aB;have hw':=hi.wl;have sQ:=PA hi.Ez (v:=kU n (cX n L k).left (cX n L k).gone) hw' v0 v1;have ih:=λ{a b d:Int}=>yb j (k+1) aB (a:=a) (b:=b) (d:=d);have BB:cX n L (k+1)=pJ n k (cX n L k):=rfl;have hleft:(cX n L (k+1)).left=DB (gO n (cX n L k).left (fU n (cX n L k).left (kU n (cX n L k).left (cX n L k).gone))) (kU n (cX n L k).left (cX n L k).gone):=rfl;have um:(cX n L (k+1)).gone=(cX n L k).gone.set (kU n (cX n L k).left (cX n L k).gone).toNat true:=rfl;have hrank:(cX n L (k+1)).iZ=(cX n L k).iZ.set (kU n (cX n L k).left (cX n L k).gone).toNat (k:Int):=rfl;have aO:=λy hy hg=>Om hi aB (y:=y) hy hg;rw[<-BB] at aO;generalize kU n (cX n L k).left (cX n L k).gone=v at*;have cL:v.toNat<(cX n L k).gone.length:=by rw[hi.gl];omega
  have jq:v.toNat<(cX n L k).iZ.length:=by rw[hi.rl];omega
  have Ma:=JX cL;have hvg:cB (cX n L (k+1)).gone v.toNat=true:=by rw[um,Ma];simp
  have hvr:cC (cX n L n).iZ v=(k:Int):=by
   rw[ND hL hw hn v0 v1];have:=((HT hL hw hn j (k+1) aB v.toNat aB).1 hvg).2;rw[show k+1+j=n by omega] at this;rw[this,hrank,NG jq,if_pos rfl]
  have kl:∀x:Int,0<=x->x≠v->cB (cX n L k).gone x.toNat=false->cB (cX n L (k+1)).gone x.toNat=false:=λx h0 hx hg=>by
   rw[um,Ma,hg];simp;omega
  have higher:∀x:Int,0<=x->x<n->x≠v->cB (cX n L k).gone x.toNat=false->(k:Int)<cC (cX n L n).iZ x:=λx h0 h1 hx hg=>by
   rw[ND hL hw hn h0 h1];have:=(HT hL hw hn j (k+1) aB x.toNat aB).2 (kl x h0 hx hg);rw[show k+1+j=n by omega] at this;have:=this (WJ (xO hL hw hn n (iX n)) x.toNat aB);omega
  have away:∀{a b d:Int},fZ (cX n L k).left (-1) a b d->0<=a->a<n->a≠v->b≠v->cB (cX n L k).gone a.toNat=false->cB (cX n L k).gone b.toNat=false->0<=b->b<n->UD (cX n L n).all (cX n L n).iZ a b d:=λ{a b d} hwk a0 a1 ha hb ag bg b0 b1=>by
   obtain⟨d',hd',hw2⟩:=(Yx hi.Ez hw' v0 v1 ha hwk).1 hb;have hw3:fZ (cX n L (k+1)).left (-1) a b d':=hw2.mono λe he gH=>by
    rw[hleft];exact⟨xy hi.Ez (λx hx=>⟨(sQ x hx).2.2.1,(sQ x hx).2.2.2⟩) e he,gH⟩
   obtain⟨m,d1,d2,h1,h2,h3⟩:=ih hw3 a0 a1 (kl a a0 ha ag) (kl b b0 hb bg) b0 b1;exact⟨m,d1,d2,h1,h2,aB⟩
  have kM:∀y∈(cX n L k).left,(y.f=v\/y.t=v)->y∈(cX n L n).all:=λy hy hv=>by
   have h1:=aO y (Ib hi hy) (by rcases hv with h|h;exact .inr (.inr (.inl h));exact .inr (.inr (.inr h)));have:=Py hL hw hn j (k+1) aB y h1 (by rcases hv with h|h;exact .inl (by rw[h];exact hvg);exact .inr (by rw[h];exact hvg));rwa[show k+1+j=n by omega] at this
  by_cases hav:a=v
  ·by_cases hbv:b=v
   ·refine⟨a,0,0,.nil,?_,by have:=hwk.pos hi.Ez;omega⟩
    rw[hbv,<-hav];exact .nil a
   ·obtain⟨e,he,hef,het,d',hw2,hd'⟩:=hwk.kM hi.Ez (by rw[hav];exact hbv)
    have hm:=hi.Ez.uV e he;have hg:=hi.lg e he;have hetv:e.t≠v:=λe'=>het (e'.trans hav.symm);obtain⟨m,d1,d2,h1,h2,h3⟩:=away hw2 hm.2.2.1 hm.2.2.2.1 hetv hbv hg.2 bg b0 b1;have Vo:gf (cX n L n).all (cX n L n).iZ e.f m (e.w+d1):=h1.cons e (kM e he (.inl (hef.trans hav))) (by rw[hef,hav,hvr];exact higher e.t hm.2.2.1 hm.2.2.2.1 hetv hg.2) rfl;rw[hef] at Vo;exact⟨m,e.w+d1,d2,Vo,h2,aB⟩
  ·by_cases hbv:b=v
   ·cases hwk with
    |nil=>exact absurd hbv hav
    | @gS x d0 e h he hf ht=>
     have hm:=hi.Ez.uV e he;have hg:=hi.lg e he;have hxv:e.f≠v:=by have:=hm.2.2.2.2.1;omega
     rw[<-hf] at h;obtain⟨m,d1,d2,h1,h2,h3⟩:=away h a0 a1 hav hxv ag hg.1 hm.1 hm.2.1;refine⟨m,d1,d2+e.w,h1,.gS e h2 (kM e he (.inr hbv)) rfl (by rw[hbv,hvr];exact higher e.f hm.1 hm.2.1 hxv hg.1),aB⟩
   ·exact away hwk a0 a1 hav hbv ag bg b0 b1
theorem Ij:∀k,k<=n->∀y∈(cX n L k).all,fZ L (-1) y.f y.t y.w
 |0,_,y,hy=>by
  have Vm:y∈L:=hy;have:=fZ.gS (a:=y.f) y (.nil (L:=L) (c:=-1)) Vm rfl (by have:=(hL.uV y Vm).2.2.1;omega);rwa[Int.zero_add] at this
 |k+1,hk,y,hy=>by
  have hi:=xO hL hw hn k aB;have ih:=Ij k aB;rcases pK _ (show y∈gO n _ _ from hy) with h|h
  ·exact ih y h
  ·obtain⟨p,hp,q,hq,_,rfl⟩:=uB.1 h
   obtain⟨hpL,hpt⟩:=iB.1 hp;obtain⟨hqL,hqf⟩:=eJ.1 hq;have w1:=ih p (Ib hi hpL);have w2:=ih q (Ib hi hqL);rw[hpt] at w1;rw[hqf] at w2;exact w1.trans w2
theorem up_back{a b d:Int}(h:gf (cX n L n).all (cX n L n).iZ a b d):fZ L (-1) a b d:=by
 induction h with
 |nil=>exact .nil
 |gS e _ he hf _ ih=>rw[<-hf] at ih;exact ih.trans (Ij hL hw hn n (iX n) e he)
theorem aAZ{a b d:Int}(h:HB (cX n L n).all (cX n L n).iZ a b d):fZ L (-1) a b d:=by
 induction h with
 |nil=>exact .nil
 |gS e _ he hf _ ih=>rw[<-hf] at ih;exact ih.trans (Ij hL hw hn n (iX n) e he)
theorem ud_iff{a b:Int}(a0:0<=a)(a1:a<n)(b0:0<=b)(b1:b<n):
  (∀d,fZ L (-1) a b d->UD (cX n L n).all (cX n L n).iZ a b d)/\∀m d1 d2,gf (cX n L n).all (cX n L n).iZ a m d1->HB (cX n L n).all (cX n L n).iZ m b d2->fZ L (-1) a b (d1+d2):=by
 have g0:∀v,cB (List.replicate n false) v=false:=λv=>by unfold cB;rw[LZ,Fm];split<;>rfl
 exact⟨λd hd=>yb hL hw hn n 0 aB hd a0 a1 (g0 _) (g0 _) b0 b1,λm d1 d2 h1 h2=>(up_back hL hw hn h1).trans (aAZ hL hw hn h2)⟩
end
end
section
structure RelSt(n:Nat)(P:Int->Int->Prop)(ok:bQ->Prop)(ds:List Int):Prop where
 len:ds.length=n
 val:∀(w:Nat) (d:Int),ds[w]? =some d->d=-1\/(0<=d/\P (w:Int) d/\d<=met ds*1099511627776)
 rel:∀e,ok e->∀x y,ds[e.f.toNat]? =some x->ds[e.t.toNat]? =some y->0<=x->0<=y/\y<=x+e.w
section
variable{n:Nat}{P:Int->Int->Prop}{ok:bQ->Prop}{ds:List Int}
end
section
variable{n:Nat}{A:List bQ}{rs:List Int}{a:Int}
end
theorem Eh{n:Nat}{L:List bQ}(hL:rV n L)(hw:∀e∈L,e.w<=40)(hn:n<=51){x y:Int}(x0:0<=x)(x1:x<n)(y0:0<=y)(y1:y<n)(gH:x≠y):cC (cX n L n).iZ x≠cC (cX n L n).iZ y:=by
 have hi:=xO hL hw hn n (iX n);rw[ND hL hw hn x0 x1,ND hL hw hn y0 y1];intro e;have:=hi.inj x.toNat y.toNat aB aB (WJ hi _ aB) (WJ hi _ aB) e;omega
theorem Hs{n:Nat}{L:List bQ}(hL:rV n L)(hw:∀e∈L,e.w<=40)(hn:n<=51){x:Int}(x0:0<=x)(x1:x<n):0<=cC (cX n L n).iZ x/\cC (cX n L n).iZ x<n:=by
 have hi:=xO hL hw hn n (iX n);rw[ND hL hw hn x0 x1];exact hi.rk x.toNat aB (WJ hi _ aB)
end
section
inductive GW(src:Int->Prop)(nx:Int->List bQ)(en:bQ->Int):Int->Int->Prop where
 |nil {v:Int} (h:src v):GW src nx en v 0
 |gS {v d:Int} (e:bQ) (h:GW src nx en v d) (he:e∈nx v):GW src nx en (en e) (d+e.w)
def iC(P:Int->Prop)(d:Int):Prop:=(d=-1/\∀k,¬P k)\/(0<=d/\P d/\∀k,P k->d<=k)
theorem iC.congr{P P':Int->Prop}{x:Int}(h:iC P x)(hp:∀k,P k↔P' k):iC P' x:=by
 rcases h with⟨h1,h2⟩|⟨h1,h2,h3⟩
 ·exact .inl ⟨h1,λk hk=>h2 k ((hp k).2 hk)⟩
 ·exact .inr ⟨h1,(hp _).1 h2,λk hk=>h3 k ((hp k).2 hk)⟩
def Gy(n:Nat)(P:Int->Int->Prop)(ds:List Int):Prop:=ds.length=n/\∀(v:Nat) (d:Int),ds[v]? =some d->iC (P (v:Int)) d
abbrev BW:Int:=1099511627776
structure Sb(n:Nat)(src:Int->Prop)(nx:Int->List bQ)(en:bQ->Int):Prop where
 src:∀v,src v->0<=v/\v<n
 arc:∀v,∀e∈nx v,0<=en e/\en e<n/\1<=e.w/\e.w<=BW
theorem GW.qw{n:Nat}{src:Int->Prop}{nx:Int->List bQ}{en:bQ->Int}(hN:Sb n src nx en){v d:Int}(h:GW src nx en v d):0<=v/\v<n/\0<=d:=by
 induction h with
 |nil h=>have:=hN.src _ h;omega
 |gS e _ he ih=>have:=hN.arc _ e he;omega
def ZI(src:Int->Prop)(nx:Int->List bQ)(en:bQ->Int)(ds:List Int)(v d u:Int):Prop:=
 (u=-1/\src v/\d=0)\/(0<=u/\∃e c,ds[u.toNat]? =some c/\0<=c/\e∈nx u/\en e=v/\c+e.w=d)
structure tS(n:Nat)(src:Int->Prop)(nx:Int->List bQ)(en:bQ->Int)(ok:Int->bQ->Prop)(ds bs:List Int)(q:List It)(kn:Int->Option Int):Prop where
 dl:ds.length=n
 bl:bs.length=n
 Cp:∀(v:Nat) (d:Int),ds[v]? =some d->d=-1\/(0<=d/\GW src nx en (v:Int) d/\(∀k,GW src nx en (v:Int) k->d<=k)/\d+BW<=met ds*BW/\∃u,bs[v]? =some u/\ZI src nx en ds (v:Int) d u)
 qi:∀y∈q,0<=y.id/\y.id<n/\ds[y.id.toNat]? =some (-1)/\GW src nx en y.id y.key/\y.key<=met ds*BW/\∃u,kn y.id=some u/\ZI src nx en ds y.id y.key u
 fr:∀(v:Nat) (d:Int) (e:bQ),ds[v]? =some d->0<=d->e∈nx (v:Int)->ok (v:Int) e->(∃c,ds[(en e).toNat]? =some c/\0<=c)\/∃y∈q,y.id=en e/\y.key<=d+e.w
 sr:∀v,src v->(∃d,ds[v.toNat]? =some d/\0<=d)\/∃y∈q,y.id=v/\y.key<=0
theorem tS.mono{n:Nat}{src:Int->Prop}{nx:Int->List bQ}{en:bQ->Int}{ok Qv:Int->bQ->Prop}{ds bs:List Int}{q:List It}{kn:Int->Option Int}(h:tS n src nx en ok ds bs q kn)(hm:∀v e,e∈nx v->Qv v e->ok v e):tS n src nx en Qv ds bs q kn:=
 ⟨h.dl,h.bl,h.Cp,h.qi,λv d e hd h0 he mL=>h.fr v d e hd h0 he (hm _ e he mL),h.sr⟩
section
variable{n:Nat}{src:Int->Prop}{nx:Int->List bQ}{en:bQ->Int}{ok:Int->bQ->Prop}{ds bs:List Int}{q:List It}{kn:Int->Option Int}
theorem tS.le(h:tS n src nx en ok ds bs q kn){v:Nat}{d:Int}(hd:ds[v]? =some d)(h0:0<=d):∀k,GW src nx en (v:Int) k->d<=k:=by
 rcases h.Cp v d hd with h1|⟨_,_,h1,_⟩
 ·omega
 ·exact h1
theorem tS.gw(h:tS n src nx en ok ds bs q kn){v:Nat}{d:Int}(hd:ds[v]? =some d)(h0:0<=d):GW src nx en (v:Int) d:=by
 rcases h.Cp v d hd with h1|⟨_,h1,_⟩
 ·omega
 ·exact h1
theorem tS.reach(h:tS n src nx en (λ_ _=>True) ds bs q kn)(hN:Sb n src nx en){v d:Int}(hw:GW src nx en v d):(∃c,ds[v.toNat]? =some c/\0<=c/\c<=d)\/∃y∈q,y.key<=d:=by
 induction hw with
 |nil hs=>
  rcases h.sr _ hs with⟨c,h1,h2⟩|⟨y,hy,_,hk⟩
  ·have hr:=hN.src _ hs
   exact .inl ⟨c,h1,h2,h.le h1 h2 0 (by rw[show((Int.toNat _:Nat):Int)=_ from Int.toNat_of_nonneg hr.1];exact .nil hs)⟩
  ·exact .inr ⟨y,hy,hk⟩
 | @gS v d e hw he ih=>
  have hr:=hw.qw hN;have ha:=hN.arc _ e he;have ev:(v.toNat:Int)=v:=Int.toNat_of_nonneg hr.1;have ee:(((en e).toNat:Nat):Int)=en e:=Int.toNat_of_nonneg ha.1;rcases ih with⟨c,h1,h2,h3⟩|⟨y,hy,hk⟩
  ·rcases h.fr v.toNat c e h1 h2 (by rw[ev];exact he) trivial with⟨c',h4,h5⟩|⟨y,hy,_,hk⟩
   ·refine .inl ⟨c',h4,h5,h.le h4 h5 _ ?_⟩
    rw[ee];exact .gS e hw he
   ·exact .inr ⟨y,hy,aB⟩
  ·exact .inr ⟨y,hy,aB⟩
theorem ZI.set{v d u:Int}(h:ZI src nx en ds v d u){i:Nat}{x:Int}(hi:ds[i]? =some (-1)):ZI src nx en (ds.set i x) v d u:=by
 rcases h with h|⟨h0,e,c,h1,h2,h3⟩
 ·exact .inl h
 ·refine .inr ⟨h0,e,c,?_,h2,h3⟩
  rw[wC]
  by_cases ee:i=u.toNat
  ·rw[<-ee,hi] at h1;cases h1;omega
  ·rw[if_neg ee];exact h1
theorem tS.pop{x:It}(h:tS n src nx en (λ_ _=>True) ds bs (x::q) kn)(hN:Sb n src nx en)(hs:BK (x::q))(h1:Co (x::q)){u:Int}(hu:kn x.id=some u):
  tS n src nx en (λv _=>v≠x.id) (ds.set x.id.toNat x.key) (bs.set x.id.toNat u) q kn/\met (ds.set x.id.toNat x.key)=met ds+1:=by
 obtain⟨i0,i1,hx,gx,kb,u',fj,bk⟩:=h.qi x dJ;rw[hu] at fj;cases fj;have ex:(x.id.toNat:Int)=x.id:=Int.toNat_of_nonneg i0;have k0:0<=x.key:=(gx.qw hN).2.2;have hm:met (ds.set x.id.toNat x.key)=met ds+1:=by rw[xh hx k0,if_pos aB]
 have cL:x.id.toNat<ds.length:=by rw[h.dl];omega
 have gH:∀y∈q,y.id≠x.id:=λy hy e=>by
  have:=h1 y (by simp[hy]) x dJ e;subst this;have:=(List.pairwise_cons.1 hs).1 y hy;rw[kH] at this;omega
 have old:∀{v:Nat} {d:Int},ds[v]? =some d->0<=d->(ds.set x.id.toNat x.key)[v]? =some d:=λ{v d} hd h0=>by
  rw[wC]
  by_cases e:x.id.toNat=v
  ·rw[<-e,hx] at hd;cases hd;omega
  ·rw[if_neg e];exact hd
 have self:(ds.set x.id.toNat x.key)[x.id.toNat]? =some x.key:=by rw[wC,if_pos rfl,if_pos cL]
 refine⟨⟨by rw[pR];exact h.dl,by rw[pR];exact h.bl,λv d hd=>?_,λy hy=>?_,λv d e hd h0 he mL=>?_,λv hv=>?_⟩,hm⟩
 ·rw[hm]
  by_cases e:x.id.toNat=v
  ·subst e
   rw[self] at hd;cases hd;refine .inr ⟨k0,by rw[ex];exact gx,λk hk=>?_,?_,u,?_,by rw[ex];exact bk.set hx⟩
   ·rw[ex] at hk
    rcases h.reach hN hk with⟨c,g1,g2,_⟩|⟨y,hy,hyk⟩
    ·rw[hx] at g1;cases g1;omega
    ·rcases jL.1 hy with rfl|hy
     ·exact hyk
     ·have:=(List.pairwise_cons.1 hs).1 y hy
      rw[kH] at this;omega
   ·simp only[BW] at*;omega
   ·rw[wC,if_pos rfl,if_pos (by rw[h.bl];omega)]
  ·rw[wC,if_neg e] at hd
   rcases h.Cp v d hd with h2|⟨h2,h3,h4,h5,w,h6,h7⟩
   ·exact .inl h2
   ·refine .inr ⟨h2,h3,h4,by simp only[BW] at*;omega,w,?_,h7.set hx⟩
    rw[wC,if_neg e];exact h6
 ·obtain⟨a0,a1,a2,a3,a4,w,a5,a6⟩:=h.qi y (by simp[hy])
  refine⟨a0,a1,?_,a3,by rw[hm];simp only[BW] at*;omega,w,a5,a6.set hx⟩;rw[wC,if_neg (λe=>gH y hy aB)];exact a2
 ·have hvx:v≠x.id.toNat:=λe=>mL aB
  rw[wC,if_neg (λe=>hvx e.symm)] at hd;rcases h.fr v d e hd h0 he trivial with⟨c,g1,g2⟩|⟨y,hy,g1,g2⟩
  ·exact .inl ⟨c,old g1 g2,g2⟩
  ·rcases jL.1 hy with rfl|hy
   ·exact .inl ⟨_,by rw[<-g1];exact self,k0⟩
   ·exact .inr ⟨y,hy,g1,g2⟩
 ·rcases h.sr v hv with⟨d,g1,g2⟩|⟨y,hy,g1,g2⟩
  ·exact .inl ⟨d,old g1 g2,g2⟩
  ·rcases jL.1 hy with rfl|hy
   ·exact .inl ⟨_,by rw[<-g1];exact self,k0⟩
   ·exact .inr ⟨y,hy,g1,g2⟩
theorem tS.skip(h:tS n src nx en ok ds bs q kn){v:Int}{e:bQ}{c:Int}(hc:ds[(en e).toNat]? =some c)(h0:0<=c):tS n src nx en (λv' e'=>ok v' e'\/(v'=v/\e'=e)) ds bs q kn:=
 ⟨h.dl,h.bl,h.Cp,h.qi,λv' d e' hd hd0 he mL=>by
  rcases mL with mL|⟨_,rfl⟩
  ·exact h.fr v' d e' hd hd0 he mL
  ·exact .inl ⟨c,hc,h0⟩,h.sr⟩
def knP(kn:Int->Option Int)(b:Bool)(t v:Int):Int->Option Int:=if b thenλy=>if y=t then some v else kn y else kn
theorem tS.push(h:tS n src nx en ok ds bs q kn)(hN:Sb n src nx en)(h1:Co q){v:Nat}{d:Int}{e:bQ}(hd:ds[v]? =some d)(h0:0<=d)(he:e∈nx (v:Int))(hc:ds[(en e).toNat]? =some (-1)):
  tS n src nx en (λv' e'=>ok v' e'\/(v'=(v:Int)/\e'=e)) ds bs (nW q (en e) (d+e.w)).1 (knP kn (nW q (en e) (d+e.w)).2 (en e) (v:Int)):=by
 have ha:=hN.arc _ e he;have aO:=λ{x:It} hx=>PC h1 (v:=en e) (k:=d+e.w) (x:=x) hx;have qN:=WS (q:=q) (v:=en e) (k:=d+e.w);refine⟨h.dl,h.bl,h.Cp,λy hy=>?_,λv' d' e' hd' hd0 uM mL=>?_,λv' jY=>?_⟩
 ·have jA:=CH h1 (en e) (d+e.w)
  have fP:y∈q\/y=⟨en e,d+e.w⟩:=WR hy;unfold nW at hy jA ⊢
  by_cases hl:Cu q (en e) (d+e.w)=true
  ·rw[if_pos hl] at hy ⊢
   exact h.qi y hy
  ·rw[if_neg hl] at hy jA ⊢
   have Ro:(⟨en e,d+e.w⟩:It)∈aAf (q.filter λy=>decide (y.id≠en e)) ⟨en e,d+e.w⟩:=yI.2 (.inl rfl)
   by_cases hid:y.id=en e
   ·have:=jA y hy _ Ro hid
    subst this;have hb:d+BW<=met ds*BW:=by
     rcases h.Cp v d hd with h2|⟨_,_,_,h2,_⟩
     ·omega
     ·exact h2
    refine⟨ha.1,ha.2.1,hc,.gS e (h.gw hd h0) he,by simp only[BW] at*;omega,(v:Int),?_,.inr ⟨aB,e,d,?_,h0,he,rfl,rfl⟩⟩
    ·simp[knP]
    ·rw[lJ];exact hd
   ·have gu:y∈q:=fP.resolve_right λe'=>hid (by rw[e'])
    obtain⟨a0,a1,a2,a3,a4,w,a5,a6⟩:=h.qi y gu;refine⟨a0,a1,a2,a3,a4,w,?_,a6⟩;simp only[knP,if_true];rw[if_neg hid];exact a5
 ·rcases mL with mL|⟨hv,rfl⟩
  ·rcases h.fr v' d' e' hd' hd0 uM mL with g|⟨y,hy,g1,g2⟩
   ·exact .inl g
   ·obtain⟨y',Vm,e1,e2⟩:=aO hy
    exact .inr ⟨y',Vm,e1.trans g1,aB⟩
  ·have:v'=v:=aB
   subst this;rw[hd] at hd';cases hd';exact .inr qN
 ·rcases h.sr v' jY with g|⟨y,hy,g1,g2⟩
  ·exact .inl g
  ·obtain⟨y',Vm,e1,e2⟩:=aO hy
   exact .inr ⟨y',Vm,e1.trans g1,aB⟩
structure Grown(n:Nat)(src:Int->Prop)(nx:Int->List bQ)(en:bQ->Int)(ds bs:List Int):Prop where
 sE:Gy n (GW src nx en) ds
 bl:bs.length=n
 dN:∀(v:Nat) (d:Int),ds[v]? =some d->0<=d->∃u,bs[v]? =some u/\ZI src nx en ds (v:Int) d u
 gI:∀(v:Nat) (d:Int),ds[v]? =some d->-1<=d/\d<=n*BW
theorem tS.done(h:tS n src nx en (λ_ _=>True) ds bs [] kn)(hN:Sb n src nx en):Grown n src nx en ds bs:=by
 refine⟨⟨h.dl,λv d hd=>?_⟩,h.bl,λv d hd h0=>?_,λv d hd=>?_⟩
 ·rcases h.Cp v d hd with h1|⟨h1,h2,h3,_⟩
  ·refine .inl ⟨h1,λk hk=>?_⟩
   rcases h.reach hN hk with⟨c,g1,g2,_⟩|⟨y,hy,_⟩
   ·rw[lJ,hd] at g1;cases g1;omega
   ·cases hy
  ·exact .inr ⟨h1,h2,h3⟩
 ·rcases h.Cp v d hd with h1|⟨_,_,_,_,h1⟩
  ·omega
  ·exact h1
 ·have hm:=lh ds
  rw[h.dl] at hm;rcases h.Cp v d hd with h1|⟨h0,_,_,h1,_⟩
  ·simp only[BW];omega
  ·simp only[BW] at*;omega
theorem tS.start(hN:Sb n src nx en){q:List It}{kn:Int->Option Int}(hq:∀y∈q,y.key=0/\src y.id/\kn y.id=some (-1))(hs:∀v,src v->∃y∈q,y.id=v):
  tS n src nx en (λ_ _=>True) (List.replicate n (-1)) (List.replicate n (-1)) q kn:=by
 have rep:∀{v:Nat} {d:Int},(List.replicate n (-1:Int))[v]? =some d->d=-1:=λ{v d} h=>by
  rw[Fm] at h
  split at h
  ·exact(uZ h).symm
  ·cases h
 refine⟨by simp,by simp,λv d hd=>.inl (rep hd),λy hy=>?_,λv d e hd h0=>by have:=rep hd;omega,λv hv=>?_⟩
 ·obtain⟨h1,h2,h3⟩:=hq y hy
  have hr:=hN.src _ h2;refine⟨hr.1,hr.2,?_,by rw[h1];exact .nil h2,by rw[h1];simp only[BW];omega,-1,h3,.inl ⟨rfl,h2,h1⟩⟩;rw[Fm,if_pos aB]
 ·obtain⟨y,hy,e⟩:=hs v hv
  exact .inr ⟨y,hy,e,by rw[(hq y hy).1];exact lM _⟩
end
def vC(n:Nat)(fs:List Int)(v:Int):Prop:=v∈fs/\0<=v/\v<n
end
section
section
variable{n:Nat}{L:List bQ}(hL:rV n L)(hw:∀e∈L,e.w<=40)(hn:n<=30)
include hL hw hn
end
inductive Ya(A:List bQ):Int->Int->List Int->Prop where
 |gN {e:bQ} (he:e∈A) (hm:e.m<0):Ya A e.f e.t [e.f,e.t]
 |cut {e:bQ} {x y:List Int} (he:e∈A) (hm:0<=e.m) (hx:Ya A e.f e.m x) (hy:Ya A e.m e.t y):Ya A e.f e.t (x++y.tail)
inductive Along(L:List bQ):List Int->Int->Prop where
 |one (v:Int):Along L [v] 0
 |cons {e:bQ} {f t:Int} {l:List Int} {d:Int} (he:e∈L) (hf:e.f=f) (ht:e.t=t) (h:Along L (t::l) d):Along L (f::t::l) (e.w+d)
inductive Thru(L:List bQ):List Int->Int->Prop where
 |one (v:Int):Thru L [v] 0
 |cons {a b:Int} {l:List Int} {c d:Int} (gH:a≠b) (h:fZ L (-1) a b c) (h':Thru L (b::l) d):Thru L (a::b::l) (c+d)
structure UnpOk(n:Nat)(L A:List bQ)(R:List Int):Prop where
 Ez:rV n L
 ok:rV n A
 gN:∀y∈A,y.m<0->y∈L
 half:∀e∈A,0<=e.m->e.m<n/\(∃a∈A,∃b∈A,a.f=e.f/\a.t=e.m/\b.f=e.m/\b.t=e.t/\a.w+b.w=e.w)/\cC R e.m<cC R e.f/\cC R e.m<cC R e.t
 qw:∀x:Int,0<=x->x<n->0<=cC R x
 via:∀e∈A,0<=e.m->∀d,fZ L (-1) e.f e.t d->∃d1 d2,fZ L (-1) e.f e.m d1/\fZ L (-1) e.m e.t d2/\d1+d2<=d
 dN:∀y∈A,fZ L (-1) y.f y.t y.w
section
variable{n:Nat}{L A:List bQ}{R:List Int}(H:UnpOk n L A R)
include H
end
open Classical in
inductive PendW(A:List bQ):List (Int×Int)->List Int->Nat->Prop where
 |nil:PendW A [] [] 0
 |cons {f t:Int} {x l:List Int} {k:Nat} {r:List (Int×Int)} (hx:Ya A f t x) (h:PendW A r l k):PendW A ((f,t)::r) (x.tail++l) (2*x.length-3+k)
end
section
section
variable{us ds:List Int}{k:Nat}{at_ sE x y:Int}
end
theorem HB.cons{A:List bQ}{R:List Int}{x w d:Int}(e:bQ)(he:e∈A)(hr:cC R e.t<cC R e.f)(ht:e.t=x)(h:HB A R x w d):HB A R e.f w (e.w+d):=by
 induction h with
 |nil=>rw[Int.add_zero,<-ht];have:=HB.gS e (.nil e.f) he rfl hr;rwa[Int.zero_add] at this
 |gS e' _ uM YI No ih=>rw[<-Int.add_assoc];exact .gS e' ih uM YI No
theorem xx{n:Nat}{A:List bQ}{R:List Int}{ts:List Int}{v d:Int}:GW (vC n ts) (DU A R) (λe=>e.f) v d↔∃t,vC n ts t/\HB A R v t d:=by
 constructor
 ·intro h
  induction h with
  |nil hs=>exact⟨_,hs,.nil _⟩
  | @gS v d e _ he ih=>
   obtain⟨t,ht,hd⟩:=ih;have hm:=jG.1 he;obtain⟨h1,h2⟩:=iB.1 hm.1;refine⟨t,ht,?_⟩;have:=HB.cons e h1 (by rw[h2];simpa using hm.2) h2 hd;rw[Int.add_comm];exact this
 ·rintro⟨t,ht,h⟩
  have key:∀{u b d':Int},HB A R u b d'->∀d0,GW (vC n ts) (DU A R) (λe=>e.f) b d0->GW (vC n ts) (DU A R) (λe=>e.f) u (d0+d'):=λ{u b d'} hd=>by
   induction hd with
   |nil=>intro d0 h0;rw[Int.add_zero];exact h0
   |gS e _ he hf hr ih=>
    intro d0 h0;have:=GW.gS (en:=λe=>e.f) e h0 (jG.2 ⟨iB.2 ⟨he,rfl⟩,by simpa using hr⟩);have this:GW (vC n ts) (DU A R) (λe=>e.f) e.f (d0+e.w):=this;have e2:e.f=_:=hf;rw[e2] at this;have:=ih _ this;rw[Int.add_assoc,Int.add_comm e.w] at this;exact this
  have:=key h 0 (.nil ht);rwa[Int.zero_add] at this
end
section
structure CInv(n:Nat)(src:Int->Prop)(nx:Int->List bQ)(en:bQ->Int)(ds:List Int):Prop where
 len:ds.length=n
 srcs:∀v,src v->ds[v.toNat]? =some 0
 val:∀(v:Nat) (d:Int),ds[v]? =some d->d=-1\/(0<=d/\GW src nx en (v:Int) d/\d+BW<=met ds*BW)
section
variable{n:Nat}{src:Int->Prop}{nx:Int->List bQ}{en:bQ->Int}{ds:List Int}
end
end
section
theorem bc{P P':Int->Prop}{x:Int}(h:iC P x)(h1:∀d,P d->∃d',d'<=d/\P' d')(h2:∀d,P' d->∃d',d'<=d/\P d'):iC P' x:=by
 rcases h with⟨e,hn⟩|⟨h0,hx,hm⟩
 ·refine .inl ⟨e,λk hk=>?_⟩
  obtain⟨d',_,hd⟩:=h2 k hk;exact hn d' hd
 ·obtain⟨d',FX,hd⟩:=h1 x hx
  obtain⟨d2,hle2,hd2⟩:=h2 d' hd;have:=hm d2 hd2;have e:d'=x:=aB;rw[e] at hd;refine .inr ⟨h0,hd,λk hk=>?_⟩;obtain⟨d3,hle3,hd3⟩:=h2 k hk;have:=hm d3 hd3;omega
theorem iC.or{P P':Int->Prop}{b d:Int}(h:iC P b)(h':iC P' d):iC (λk=>P k\/P' k) (if 0<=d/\(b<0\/d<b) then d else b):=by
 rcases h with⟨e,hn⟩|⟨h0,hx,hm⟩<;>rcases h' with⟨e',hn'⟩|⟨zi,UT,za⟩
 ·rw[if_neg aB];exact .inl ⟨e,λk hk=>hk.elim (hn k) (hn' k)⟩
 ·rw[if_pos aB];exact .inr ⟨zi,.inr UT,λk hk=>hk.elim (λh=>absurd h (hn k)) (za k)⟩
 ·rw[if_neg aB];exact .inr ⟨h0,.inl hx,λk hk=>hk.elim (hm k) λh=>absurd h (hn' k)⟩
 ·by_cases cL:d<b
  ·rw[if_pos ⟨zi,.inr cL⟩]
   exact .inr ⟨zi,.inr UT,λk hk=>hk.elim (λh=>by have:=hm k h;omega) (za k)⟩
  ·rw[if_neg aB]
   exact .inr ⟨h0,.inl hx,λk hk=>hk.elim (hm k) λh=>by have:=za k h;omega⟩
section
variable{n:Nat}{L:List bQ}(hL:rV n L)(hw:∀e∈L,e.w<=40)(hn:n<=51){a:Int}(a0:0<=a)(a1:a<n)
include hL hw hn a0 a1
end
end
section
structure Gr where
 N:List (Int×Int)
 E:List (Int×Int×Int)
 B:List (Int×Int)
def Gr.m(G:Gr):Nat:=G.E.length
def Gr.n(G:Gr):Nat:=G.N.length
def Gr.ed(G:Gr)(i:Int):Int×Int×Int:=G.E.getD i.toNat (0,0,0)
abbrev Gr.fr(G:Gr)(i:Int):Int:=(G.ed i).1
abbrev Gr.to(G:Gr)(i:Int):Int:=(G.ed i).2.1
abbrev Gr.wt(G:Gr)(i:Int):Int:=(G.ed i).2.2
abbrev Gr.pP(G:Gr)(i:Int):Prop:=0<=i/\i<G.m
abbrev Gr.UL(G:Gr)(i:Int):Prop:=0<=i/\i<G.n
abbrev JE(a b:Int×Int):Prop:=a.1<b.1\/(a.1=b.1/\a.2<b.2)
structure xJ(G:Gr):Prop where
 n1:1<=G.n/\G.n<=256
 m1:1<=G.m/\G.m<=51
 nd:∀p∈G.N,(0<=p.1/\p.1<=4095)/\0<=p.2/\p.2<=4095
 ed:∀e∈G.E,(0<=e.1/\e.1<G.n)/\(0<=e.2.1/\e.2.1<G.n)/\1<=e.2.2/\e.2.2<=40
 bl:G.B.length<=1024
 bd:∀b∈G.B,G.pP b.1/\G.pP b.2/\G.to b.1=G.fr b.2
 bs:G.B.Pairwise JE
def oJ(k:Nat):List Int:=(List.range k).map λi:Nat=>(i:Int)
theorem CJ{k:Nat}{x:Int}:x∈oJ k↔0<=x/\x<k:=by
 unfold oJ;simp only[lN,List.mem_range]
 constructor
 ·rintro⟨i,hi,rfl⟩;omega
 ·rintro⟨h0,h1⟩;exact⟨x.toNat,aB,aB⟩
theorem vI(k:Nat):(oJ k).length=k:=by simp[oJ]
theorem HR(k:Nat):oJ (k+1)=oJ k++[(k:Int)]:=by simp[oJ,List.range_succ]
theorem Tn(k:Nat):(oJ k).Pairwise λx y=>x<y:=by
 unfold oJ;rw[List.pairwise_map];exact List.Pairwise.imp (λ{a b:Nat} (h:a<b)=>aB) List.pairwise_lt_range
def Gr.GB(G:Gr)(a b:Int):Bool:=decide (G.pP a) && (decide (G.pP b) && (decide (G.to a=G.fr b) && !decide ((a,b)∈G.B)))
theorem Gr.iK{G:Gr}{a b:Int}:G.GB a b=true↔G.pP a/\G.pP b/\G.to a=G.fr b/\(a,b)∉G.B:=by
 unfold Gr.GB;simp[tO]
def Gr.kN(G:Gr)(a:Int):List Int:=(oJ G.m).filter λb=>G.GB a b
def Gr.oK(G:Gr)(b:Int):List Int:=(oJ G.m).filter λa=>G.GB a b
def Gr.Vl(G:Gr)(v:Int):List Int:=(oJ G.m).filter λe=>decide (G.to e=v)
def Gr.Wr(G:Gr)(v:Int):List Int:=(oJ G.m).filter λe=>decide (G.fr e=v)
theorem Gr.CI{G:Gr}{a b:Int}:b∈G.kN a↔G.GB a b=true:=by
 unfold Gr.kN;rw[jG,CJ];exact⟨λh=>h.2,λh=>⟨(G.iK.1 h).2.1,h⟩⟩
theorem Gr.WV{G:Gr}{a b:Int}:a∈G.oK b↔G.GB a b=true:=by
 unfold Gr.oK;rw[jG,CJ];exact⟨λh=>h.2,λh=>⟨(G.iK.1 h).1,h⟩⟩
theorem Gr.xi{G:Gr}{e v:Int}:e∈G.Vl v↔G.pP e/\G.to e=v:=by
 unfold Gr.Vl;rw[jG,CJ];simp
theorem Gr.NF(G:Gr)(a:Int):(G.kN a).length<=G.m:=by
 have:=wD (λb=>G.GB a b) (oJ G.m);rw[vI] at this;exact this
theorem Gr.Yn(G:Gr)(a:Int):(G.oK a).length<=G.m:=by
 have:=wD (λb=>G.GB b a) (oJ G.m);rw[vI] at this;exact this
theorem Gr.xm(G:Gr)(a:Int):(G.Vl a).length<=G.m:=by
 have:=wD (λe=>decide (G.to e=a)) (oJ G.m);rw[vI] at this;exact this
theorem Gr.get_ed{G:Gr}{i:Int}(h:G.pP i):G.E[i.toNat]? =some (G.ed i):=by
 have:i.toNat<G.E.length:=by have:=h.2;unfold Gr.m at this;omega
 unfold Gr.ed;rw[LZ,gU this];rfl
theorem Gr.TL{G:Gr}{i:Int}(h:G.pP i):G.ed i∈G.E:=zN (G.get_ed h)
theorem xJ.w1{G:Gr}(h:xJ G){i:Int}(hi:G.pP i):1<=G.wt i/\G.wt i<=40:=(h.ed _ (G.TL hi)).2.2
def Gr.JJ(G:Gr):List bQ:=(oJ G.m).flatMap λa=>(G.kN a).map λb=>⟨a,b,G.wt b,-1⟩
def Gr.LS(G:Gr):List bQ:=G.JJ.filter λe=>!(e.f==e.t)
theorem Gr.mem_arcs{G:Gr}{e:bQ}:e∈G.JJ↔G.GB e.f e.t=true/\e.w=G.wt e.t/\e.m=-1:=by
 unfold Gr.JJ;simp only[List.mem_flatMap,lN,CJ]
 constructor
 ·rintro⟨a,_,b,hb,rfl⟩;exact⟨G.CI.1 hb,rfl,rfl⟩
 ·rintro⟨h1,h2,h3⟩
  refine⟨e.f,(G.iK.1 h1).1,e.t,G.CI.2 h1,?_⟩;cases e;simp_all
theorem Gr.Tm{G:Gr}{e:bQ}:e∈G.LS↔(G.GB e.f e.t=true/\e.w=G.wt e.t/\e.m=-1)/\e.f≠e.t:=by
 unfold Gr.LS;rw[jG,G.mem_arcs];simp
theorem Gr.arcs_srt(G:Gr):BN G.JJ:=by
 unfold BN Gr.JJ;rw[List.pairwise_flatMap];refine⟨λa _=>?_,List.Pairwise.imp (λ{a b} h x hx y hy=>?_) (Tn G.m)⟩
 ·rw[List.pairwise_map]
  have h:(G.kN a).Pairwise λx y:Int=>x<y:=SF _ (Tn G.m);refine List.Pairwise.imp (λ{x y:Int} (h:x<y)=>?_) h;rw[lW];exact .inr ⟨rfl,h⟩
 ·obtain⟨_,_,rfl⟩:=lN.1 hx
  obtain⟨_,_,rfl⟩:=lN.1 hy;exact lW.2 (.inl h)
theorem xJ.WD{G:Gr}(h:xJ G):∀e∈G.LS,FA G.m e/\e.w<=40/\e.m=-1:=λe he=>by
 obtain⟨⟨h1,h2,h3⟩,h4⟩:=G.Tm.1 he;obtain⟨t1,t2,_,_⟩:=G.iK.1 h1;have hw:=h.w1 t2;exact⟨⟨t1.1,t1.2,t2.1,t2.2,h4,aB,aB,.inl h3⟩,aB,h3⟩
theorem xJ.TJ{G:Gr}(h:xJ G):rV G.m G.LS:=⟨SF _ G.arcs_srt,λe he=>(h.WD e he).1⟩
theorem Gr.arcs_len(G:Gr)(hm:G.m<=51):G.JJ.length<=2601:=by
 have:=WX (λa=>(G.kN a).map λb=>(⟨a,b,G.wt b,-1⟩:bQ)) 51 (oJ G.m) λa _=>by rw[lD];have:=G.NF a;omega
 rw[vI] at this;unfold Gr.JJ;omega
def qR(c:List Bool)(e:Int):Bool:=c.getD e.toNat false
def Gr.src(G:Gr)(v e:Int):Prop:=G.pP e/\G.to e=v
def Gr.nx(G:Gr)(c:List Bool)(b:Int):List bQ:=if qR c b=true then [] else(G.oK b).map λa=>⟨a,b,G.wt b,-1⟩
theorem Gr.JP{G:Gr}{c:List Bool}{b:Int}{e:bQ}:e∈G.nx c b↔qR c b=false/\G.GB e.f b=true/\e=⟨e.f,b,G.wt b,-1⟩:=by
 unfold Gr.nx
 split
 ·rename_i h;simp[h]
 ·rename_i h
  rw[lN]
  constructor
  ·rintro⟨a,ha,rfl⟩;exact⟨by simpa using h,G.WV.1 ha,rfl⟩
  ·rintro⟨_,h2,h3⟩;exact⟨e.f,G.WV.2 h2,h3.symm⟩
abbrev Gr.gw(G:Gr)(c:List Bool)(v:Int):Int->Int->Prop:=GW (G.src v) (G.nx c) (λe=>e.f)
theorem xJ.nxOk{G:Gr}(h:xJ G)(c:List Bool)(v:Int):Sb G.m (G.src v) (G.nx c) (λe=>e.f):=by
 refine⟨λe he=>he.1,λb e he=>?_⟩;obtain⟨_,h2,h3⟩:=G.JP.1 he;obtain⟨t1,t2,_⟩:=G.iK.1 h2;have hw:=h.w1 t2;have:e.w=G.wt b:=by rw[h3]
 exact⟨t1.1,t1.2,aB,by rw[this];simp only[BW];omega⟩
theorem Gr.xo{G:Gr}{c:List Bool}{v a b d:Int}(h:G.gw c v b d)(ht:G.GB a b=true)(hs:qR c b=false):G.gw c v a (d+G.wt b):=
 GW.gS (en:=λe=>e.f) (⟨a,b,G.wt b,-1⟩:bQ) h (G.JP.2 ⟨hs,ht,rfl⟩)
theorem Gr.gw_inv{G:Gr}{c:List Bool}{v a d:Int}(h:G.gw c v a d):(d=0/\G.src v a)\/∃b d',G.gw c v b d'/\G.GB a b=true/\qR c b=false/\d=d'+G.wt b:=by
 cases h with
 |nil h=>exact .inl ⟨rfl,h⟩
 | @gS b d' e h he=>
  obtain⟨h1,h2,h3⟩:=G.JP.1 he;have hw:e.w=G.wt b:=by rw[h3]
  exact .inr ⟨b,d',h,h2,h1,by rw[hw]⟩
theorem Gr.gw_open{G:Gr}{c:List Bool}{v a d:Int}(h:G.gw c v a d):G.gw [] v a d:=by
 induction h with
 |nil h=>exact .nil h
 |gS e h he ih=>
  obtain⟨h1,h2,h3⟩:=G.JP.1 he;exact .gS e ih (G.JP.2 ⟨rfl,h2,h3⟩)
theorem xJ.lu{G:Gr}(h:xJ G){c:List Bool}{v a d:Int}(hw:G.gw c v a d):G.pP a/\0<=d:=by
 have:=hw.qw (h.nxOk c v);exact⟨⟨this.1,this.2.1⟩,this.2.2⟩
theorem xJ.walk_gw{G:Gr}{v a b d:Int}(h:fZ G.LS (-1) a b d):∀d0,G.gw [] v b d0->G.gw [] v a (d0+d):=by
 induction h with
 |nil=>intro d0 h0;rw[Int.add_zero];exact h0
 | @gS x d e _ he hf _ ih=>
  intro d0 h0;obtain⟨⟨h1,h2,_⟩,_⟩:=G.Tm.1 he;have h3:=G.xo h0 h1 rfl;rw[hf,<-h2] at h3;have:=ih _ h3;rwa[show d0+(d+e.w)=d0+e.w+d by omega]
theorem xJ.gw_walk{G:Gr}(hG:xJ G){v a d:Int}(h:G.gw [] v a d):∃d' t,d'<=d/\G.src v t/\fZ G.LS (-1) a t d':=by
 induction h with
 | @nil a h=>exact⟨0,a,lM _,h,.nil⟩
 | @gS b d e h he ih=>
  obtain⟨_,h2,h3⟩:=G.JP.1 he;have hwe:e.w=G.wt b:=by rw[h3]
  have hte:e.t=b:=by rw[h3]
  have hme:e.m=-1:=by rw[h3]
  obtain⟨d',t,FX,ht,hw⟩:=ih;have hwt:=hG.w1 (G.iK.1 h2).2.1;show∃d' t,d'<=d+e.w/\G.src v t/\fZ G.LS (-1) e.f t d'
  by_cases zf:e.f=b
  ·rw[zf];exact⟨d',t,aB,ht,hw⟩
  ·have hnet:e∈G.LS:=G.Tm.2 ⟨⟨by rw[hte];exact h2,by rw[hte];exact hwe,hme⟩,by rw[hte];exact zf⟩
   have h1:=fZ.gS (a:=e.f) e (.nil (L:=G.LS) (c:=-1)) hnet rfl (by have:=(G.iK.1 h2).2.1.1;omega);rw[Int.zero_add,hte] at h1;exact⟨e.w+d',t,aB,ht,h1.trans hw⟩
def wH(ds:List Int)(e:Int):Int:=ds.getD e.toNat (-1)
abbrev Gr.sE(G:Gr)(c:List Bool)(v:Int)(ds:List Int):Prop:=Gy G.m (G.gw c v) ds
theorem Tq{n:Nat}{P:Int->Int->Prop}{ds:List Int}(h:Gy n P ds){e:Int}(he:0<=e/\e<n):ds[e.toNat]? =some (wH ds e):=by
 have:e.toNat<ds.length:=by have:=h.1;omega
 unfold wH;rw[LZ,gU this];rfl
theorem Pm{n:Nat}{P:Int->Int->Prop}{ds:List Int}(h:Gy n P ds){e:Int}(he:0<=e/\e<n):iC (P e) (wH ds e):=by
 have:=h.2 e.toNat _ (Tq h he);rwa[Int.toNat_of_nonneg he.1] at this
def Gr.JO(G:Gr)(c:List Bool)(ds:List Int)(e n:Int):Bool:=!qR c n && (decide (0<=wH ds n) && decide (wH ds n+G.wt n=wH ds e))
def Gr.Ax(G:Gr)(c:List Bool)(ds:List Int)(e:Int):Option Int:=(G.kN e).find? (G.JO c ds e)
inductive Gr.MG(G:Gr)(c:List Bool)(ds:List Int):Int->List Int->Prop where
 |nil {e:Int} (h:wH ds e=0):MG G c ds e []
 |cons {e n:Int} {l:List Int} (h:0<wH ds e) (hs:G.Ax c ds e=some n) (hl:MG G c ds n l):MG G c ds e (n::l)
theorem Gr.OY{G:Gr}{c:List Bool}{ds:List Int}{e n:Int}(h:G.Ax c ds e=some n):G.GB e n=true/\qR c n=false/\0<=wH ds n/\wH ds n+G.wt n=wH ds e:=by
 have h1:=List.find?_some h;have h2:=List.mem_of_find?_eq_some h;unfold Gr.JO at h1;simp[tO] at h1;exact⟨G.CI.1 h2,h1.1,h1.2.1,h1.2.2⟩
theorem xJ.dsv_gw{G:Gr}(_:xJ G){c:List Bool}{v:Int}{ds:List Int}(hd:G.sE c v ds){e:Int}(he:G.pP e)(h:0<=wH ds e):G.gw c v e (wH ds e):=by
 rcases Pm hd he with⟨h1,_⟩|⟨_,h1,_⟩
 ·omega
 ·exact h1
section
variable{G:Gr}(hG:xJ G){c:List Bool}{v:Int}{ds:List Int}(hd:G.sE c v ds)
include hG hd
theorem xJ.Ss{e d:Int}(h:G.gw c v e d):0<=wH ds e/\wH ds e<=d:=by
 rcases Pm hd (hG.lu h).1 with⟨_,h1⟩|⟨h0,_,h1⟩
 ·exact absurd h (h1 d)
 ·exact⟨h0,h1 d h⟩
theorem xJ.step_ex{e:Int}(he:G.pP e)(h:0<wH ds e):∃n,G.Ax c ds e=some n:=by
 rcases G.gw_inv (hG.dsv_gw hd he aB) with⟨h0,_⟩|⟨b,d',h1,h2,h3,h4⟩
 ·omega
 ·obtain⟨g0,g1⟩:=hG.Ss hd h1
  have g2:=hG.dsv_gw hd (hG.lu h1).1 g0;have g3:=(hG.Ss hd (G.xo g2 h2 h3)).2;cases hf:G.Ax c ds e with
  |some n=>exact⟨n,rfl⟩
  |none=>
   unfold Gr.Ax at hf;have:=List.find?_eq_none.1 hf b (G.CI.2 h2);unfold Gr.JO at this;simp[h3,g0] at this;omega
theorem xJ.xj:∀(k:Nat) {e:Int},G.pP e->0<=wH ds e->wH ds e<=k->∃l,G.MG c ds e l
 |k,e,he,h0,hk=>by
  rcases Int.lt_or_le 0 (wH ds e) with hp|hp
  ·obtain⟨n,hn⟩:=hG.step_ex hd he hp
   obtain⟨s1,_,s3,s4⟩:=G.OY hn;have hw:=hG.w1 (G.iK.1 s1).2.1;obtain⟨k',rfl⟩:∃k',k=k'+1:=⟨k-1,aB⟩;obtain⟨l,hl⟩:=xJ.xj k' (G.iK.1 s1).2.1 s3 aB;exact⟨n::l,.cons hp hn hl⟩
  ·exact⟨[],.nil aB⟩
end
def Gr.oY(G:Gr)(l:List Int):Int:=(l.map G.wt).sum
theorem Gr.Oj(G:Gr)(x:Int)(l:List Int):G.oY (x::l)=G.wt x+G.oY l:=by simp[Gr.oY]
def Gr.BO(G:Gr):Int->List Int->Bool
 |_,[]=>true
 |e,x::l=>G.GB e x && G.BO x l
theorem Gr.MG.QY{G:Gr}(hG:xJ G){c:List Bool}{ds:List Int}{e:Int}{l:List Int}(h:G.MG c ds e l):G.oY l=wH ds e/\G.BO e l=true/\(∀x∈l,G.pP x/\qR c x=false)/\(l.length:Int)<=wH ds e/\wH ds (l.getLast?.getD e)=0:=by
 induction h with
 |nil h=>exact⟨by rw[h];rfl,rfl,by simp,by rw[h];simp,h⟩
 | @cons e n l h hs hl ih=>
  obtain⟨s1,s2,s3,s4⟩:=G.OY hs;obtain⟨i1,i2,i3,i4,i5⟩:=ih;have hn:=(G.iK.1 s1).2.1;have hw:=hG.w1 hn;refine⟨by rw[G.Oj,i1];omega,by simp[Gr.BO,s1,i2],λx hx=>?_,by simp only[mV];omega,?_⟩
  ·rcases jL.1 hx with rfl|hx
   ·exact⟨hn,s2⟩
   ·exact i3 x hx
  ·rw[List.getLast?_cons];exact i5
theorem Gr.MG.falls{G:Gr}(hG:xJ G){c:List Bool}{ds:List Int}{e:Int}{l:List Int}(h:G.MG c ds e l):l.Pairwise (λa b=>wH ds b<wH ds a)/\∀x∈l,wH ds x<wH ds e:=by
 induction h with
 |nil h=>exact⟨List.Pairwise.nil,by simp⟩
 | @cons e n l h hs hl ih=>
  obtain⟨s1,s2,s3,s4⟩:=G.OY hs;have hw:=hG.w1 (G.iK.1 s1).2.1;refine⟨List.pairwise_cons.2 ⟨ih.2,ih.1⟩,λx hx=>?_⟩;rcases jL.1 hx with rfl|hx
  ·omega
  ·have:=ih.2 x hx;omega
theorem Gr.MG.len{G:Gr}(hG:xJ G){c:List Bool}{ds:List Int}{e:Int}{l:List Int}(h:G.MG c ds e l):l.length<=G.m:=by
 have h1:=(h.falls hG).1;have h2:=(h.QY hG).2.2.1;refine wU (List.Pairwise.imp (λ{a b} (h:wH ds b<wH ds a)=>λe=>?_) h1) λx hx=>(h2 x hx).1;rw[e] at h;omega
section
variable{G:Gr}(hG:xJ G){c:List Bool}{v:Int}
include hG
end
inductive Gr.MR(G:Gr)(v e:Int)(c:List Bool):List Int->Int->Bool->Bool->Prop where
 |no (h:∀d,G.UL v->¬G.gw c v e d):MR G v e c [] 0 false false
 |near {d0:List Int} {l:List Int} (hv:G.UL v) (he:G.pP e) (h0:G.sE [] v d0) (h:G.MG [] d0 e l) (hs:∀x∈l,qR c x=false):MR G v e c l (G.oY l) true false
 |sE {d0 d1:List Int} {l0 l:List Int} (hv:G.UL v) (he:G.pP e) (h0:G.sE [] v d0) (h1:G.sE c v d1) (hl:G.MG [] d0 e l0) (hs:∃x∈l0,qR c x=true) (h:G.MG c d1 e l):MR G v e c l (G.oY l) true true
theorem gf.front{A:List bQ}{rs:List Int}{a b d:Int}(h:gf A rs a b d):(b=a/\d=0)\/∃e∈A,e.f=a/\cC rs e.f<cC rs e.t/\∃d',gf A rs e.t b d'/\d=e.w+d':=by
 induction h with
 |nil=>exact .inl ⟨rfl,rfl⟩
 | @gS v d e _ he hf hr ih=>
  rcases ih with⟨h1,h2⟩|⟨e1,g1,g2,g3,d',g4,g5⟩
  ·exact .inr ⟨e,he,by rw[hf,h1],hr,0,.nil,aB⟩
  ·exact .inr ⟨e1,g1,g2,g3,d'+e.w,.gS e g4 he hf hr,aB⟩
def UPD(A:List bQ)(R:List Int)(Dn:Int->Int->Prop)(v d:Int):Prop:=∃k d1 d2,gf A R v k d1/\Dn k d2/\d=d1+d2
theorem upd_iff{A:List bQ}{R:List Int}{Dn:Int->Int->Prop}{v d:Int}:UPD A R Dn v d↔Dn v d\/∃e∈upL A R v,∃d',UPD A R Dn e.t d'/\d=e.w+d':=by
 constructor
 ·rintro⟨k,d1,d2,h1,h2,h3⟩
  rcases h1.front with⟨g1,g2⟩|⟨e,g1,g2,g3,d',g4,g5⟩
  ·rw[g1] at h2;exact .inl (by rw[h3,g2,Int.zero_add];exact h2)
  ·refine .inr ⟨e,?_,d'+d2,⟨k,d',d2,g4,h2,rfl⟩,aB⟩
   unfold upL;rw[jG,eJ];exact⟨⟨g1,g2⟩,by rw[<-g2];simpa using g3⟩
 ·rintro(h|⟨e,he,d',⟨k,d1,d2,h1,h2,h3⟩,h4⟩)
  ·exact⟨v,0,d,.nil,h,aB⟩
  ·unfold upL at he
   rw[jG,eJ] at he;obtain⟨⟨g1,g2⟩,g3⟩:=he;have g3':cC R v<cC R e.t:=by simpa using g3
   have:=gf.cons e g1 (by rw[g2];exact g3') rfl h1;rw[g2] at this;exact⟨k,e.w+d1,d2,this,h2,aB⟩
theorem iC.plus{P:Int->Prop}{y w:Int}(h:iC P y)(hw:0<=w):iC (λd=>∃d',P d'/\d=w+d') (if y<0 then-1 else y+w):=by
 rcases h with⟨e,hn⟩|⟨h0,hx,hm⟩
 ·rw[if_pos aB];exact .inl ⟨rfl,λk ⟨d',hd,_⟩=>hn d' hd⟩
 ·rw[if_neg aB]
  exact .inr ⟨aB,⟨y,hx,aB⟩,λk ⟨d',hd,e⟩=>by have:=hm d' hd;omega⟩
theorem iC.lower{P P':Int->Prop}{x y w:Int}(h:iC P x)(h':iC P' y)(hw:0<=w):iC (λd=>P d\/∃d',P' d'/\d=w+d') (if 0<=y/\(x<0\/y+w<x) then y+w else x):=by
 have:=h.or (h'.plus hw);have e:(if 0<=(if y<0 then-1 else y+w)/\(x<0\/(if y<0 then-1 else y+w)<x) then(if y<0 then-1 else y+w) else x)=(if 0<=y/\(x<0\/y+w<x) then y+w else x):=by
  by_cases h1:y<0
  ·rw[if_pos h1,if_neg aB,if_neg aB]
  ·rw[if_neg h1]
   by_cases h2:x<0\/y+w<x
   ·rw[if_pos ⟨aB,h2⟩,if_pos ⟨aB,h2⟩]
   ·rw[if_neg (λh=>h2 h.2),if_neg (λh=>h2 h.2)]
 rwa[e] at this
theorem aAJ{n:Nat}{L:List bQ}(hL:rV n L)(hw:∀e∈L,e.w<=40)(hn:n<=51){r:Nat}(hr:r<n):∃v:Nat,v<n/\cC (cX n L n).iZ (v:Int)=(r:Int):=by
 have qw:∀v:Nat,v<n->0<=cC (cX n L n).iZ (v:Int)/\cC (cX n L n).iZ (v:Int)<n:=λv hv=>Hs hL hw hn aB aB;have inj:∀v w:Nat,v<n->w<n->cC (cX n L n).iZ (v:Int)=cC (cX n L n).iZ (w:Int)->v=w:=λv w hv hw' e=>by
  rcases Nat.lt_trichotomy v w with h|h|h
  ·exact absurd e (Eh hL hw hn aB aB aB aB aB)
  ·exact h
  ·exact absurd e (Eh hL hw hn aB aB aB aB aB)
 generalize cC (cX n L n).iZ=f at*;have nd:(((List.range n).map λv:Nat=>f (v:Int))).Nodup:=by
  rw[List.Nodup,List.pairwise_map];refine List.Pairwise.imp_of_mem (λ{a b} ha hb (h:a<b) e=>?_) List.pairwise_lt_range;have:=inj a b (List.mem_range.1 ha) (List.mem_range.1 hb) e;omega
 rcases Classical.em (∃v:Nat,v<n/\f (v:Int)=(r:Int)) with h|h
 ·exact h
 ·exfalso
  have key:=wU (m:=n) (l:=(r:Int)::(List.range n).map λv:Nat=>f (v:Int)) ?_ ?_
  ·simp at key
   omega
  ·rw[List.nodup_cons]
   refine⟨λhm=>?_,nd⟩;obtain⟨v,hv,e⟩:=lN.1 hm;exact h ⟨v,List.mem_range.1 hv,e⟩
  ·intro x hx
   rcases jL.1 hx with rfl|hx
   ·omega
   ·obtain⟨v,hv,rfl⟩:=lN.1 hx
    exact qw v (List.mem_range.1 hv)
theorem xJ.oh{G:Gr}(hG:xJ G){v:Int}{ds:List Int}
  (h:Gy G.m (UPD (cX G.m G.LS G.m).all (cX G.m G.LS G.m).iZ (GW (vC G.m (G.Vl v)) (DU (cX G.m G.LS G.m).all (cX G.m G.LS G.m).iZ) (λe=>e.f))) ds):G.sE [] v ds:=by
 have hL:=hG.TJ;have hw:∀e∈G.LS,e.w<=40:=λe he=>(hG.WD e he).2.1;have hn:=hG.m1.2;have insrc:∀t,vC G.m (G.Vl v) t↔G.src v t:=λt=>by
  unfold vC;rw[G.xi];exact⟨λh=>h.1,λh=>⟨h,h.1.1,h.1.2⟩⟩
 refine⟨h.1,λa d hd=>?_⟩;have ha:a<G.m:=by have:=(kY.1 hd).1;rw[h.1] at this;exact this
 refine bc (h.2 a d hd) (λd ⟨k,d1,d2,h1,h2,h3⟩=>?_) (λd hg=>?_)
 ·obtain⟨t,ht,h4⟩:=xx.1 h2
  have hwk:=(ud_iff hL hw hn (a:=(a:Int)) (b:=t) aB aB ht.2.1 ht.2.2).2 k d1 d2 h1 h4;have:=xJ.walk_gw hwk 0 (.nil ((insrc t).1 ht));rw[Int.zero_add] at this;exact⟨d,lM _,by rw[h3];exact this⟩
 ·obtain⟨d',t,FX,ht,hwk⟩:=hG.gw_walk hg
  obtain⟨m,d1,d2,h1,h2,h3⟩:=(ud_iff hL hw hn (a:=(a:Int)) (b:=t) aB aB ht.1.1 ht.1.2).1 d' hwk;exact⟨d1+d2,aB,m,d1,d2,h1,xx.2 ⟨t,(insrc t).2 ht,h2⟩,rfl⟩
structure Mj(m:Nat)(A:List bQ)(R:List Int)(Dn:Int->Int->Prop)(i:Nat)(ds:List Int):Prop where
 len:ds.length=m
 up:∀(v:Nat) (x:Int),ds[v]? =some x->(m:Int)-i<=cC R (v:Int)->iC (UPD A R Dn (v:Int)) x
 dn:∀(v:Nat) (x:Int),ds[v]? =some x->cC R (v:Int)<(m:Int)-i->iC (Dn (v:Int)) x
 gI:∀(v:Nat) (x:Int),ds[v]? =some x->-1<=x/\x<=(m+i)*BW
theorem Mj.start{m:Nat}{A:List bQ}{R ds:List Int}{Dn:Int->Int->Prop}(h:Gy m Dn ds)(hr:∀v:Int,0<=v->v<m->cC R v<m)(hb:∀(v:Nat) (x:Int),ds[v]? =some x->-1<=x/\x<=m*BW):Mj m A R Dn 0 ds:=by
 refine⟨h.1,λv x hx hk=>?_,λv x hx _=>h.2 v x hx,λv x hx=>by have:=hb v x hx;simpa using this⟩;have hv:=(kY.1 hx).1;rw[h.1] at hv;have:=hr (v:Int) aB aB;omega
theorem Mj.step{m i:Nat}{A:List bQ}{R ds:List Int}{Dn:Int->Int->Prop}(h:Mj m A R Dn i ds)(gH:∀v w:Nat,v<m->w<m->v≠w->cC R (v:Int)≠cC R (w:Int)){v:Nat}(hv:v<m)(hr:cC R (v:Int)=(m:Int)-1-i){x:Int}
  (hx:iC (UPD A R Dn (v:Int)) x) (hb:-1<=x/\x<=(m+(i+1:Nat))*BW):Mj m A R Dn (i+1) (ds.set v x):=by
 have get:∀{u:Nat} {y:Int},(ds.set v x)[u]? =some y->(u=v/\y=x)\/(u≠v/\u<m/\ds[u]? =some y):=λ{u y} hu=>by
  rw[wC] at hu
  by_cases e:v=u
  ·rw[if_pos e,if_pos (by rw[h.len];omega)] at hu;cases hu;exact .inl ⟨e.symm,rfl⟩
  ·rw[if_neg e] at hu
   exact .inr ⟨λe'=>e e'.symm,by have:=(kY.1 hu).1;rw[h.len] at this;exact this,hu⟩
 refine⟨by rw[pR];exact h.len,λu y hu hk=>?_,λu y hu hk=>?_,λu y hu=>?_⟩
 ·rcases get hu with⟨rfl,rfl⟩|⟨Fw,hum,hu⟩
  ·exact hx
  ·have:=gH u v hum hv Fw
   exact h.up u y hu aB
 ·rcases get hu with⟨rfl,rfl⟩|⟨_,_,hu⟩
  ·omega
  ·exact h.dn u y hu aB
 ·rcases get hu with⟨rfl,rfl⟩|⟨_,_,hu⟩
  ·exact hb
  ·have:=h.gI u y hu
   simp only[BW] at*;omega
theorem Mj.done{m:Nat}{A:List bQ}{R ds:List Int}{Dn:Int->Int->Prop}(h:Mj m A R Dn m ds)(hr:∀v:Int,0<=v->v<m->0<=cC R v):Gy m (UPD A R Dn) ds:=
 ⟨h.len,λv x hx=>h.up v x hx (by
  have hv:=(kY.1 hx).1;rw[h.len] at hv;have:=hr (v:Int) aB aB;omega)⟩
end
def fy(key:Int->Int)(k:Nat)(v:Nat):List Int:=(oJ k).filter λe=>decide (key e=(v:Int))
def cK(key:Int->Int)(k:Nat)(v:Nat):Nat:=(fy key k v).length
theorem Za(key:Int->Int)(k v:Nat):fy key (k+1) v=fy key k v++if key (k:Int)=(v:Int) then [(k:Int)] else []:=by
 unfold fy;rw[HR,JB];congr 1
 by_cases h:key (k:Int)=(v:Int)<;>simp[h]
theorem WI(key:Int->Int)(k v:Nat):cK key (k+1) v=cK key k v+if key (k:Int)=(v:Int) then 1 else 0:=by
 unfold cK;rw[Za,mH]
 split<;>rfl
theorem cK_zero(key:Int->Int)(v:Nat):cK key 0 v=0:=rfl
theorem cK_le(key:Int->Int){k m:Nat}(h:k<=m)(v:Nat):cK key k v<=cK key m v:=by
 induction h with
 |refl=>exact iX _
 |step _ ih=>rw[WI];omega
theorem mg(key:Int->Int)(k v:Nat):cK key k v<=k:=by
 have:=wD (λe=>decide (key e=(v:Int))) (oJ k);rw[vI] at this;exact this
def qE(c:Nat->Nat):Nat->Nat
 |0=>0
 |v+1=>qE c v+c v
theorem WC(c:Nat->Nat){v u:Nat}(h:v<u):qE c v+c v<=qE c u:=by
 induction h with
 |refl=>exact iX _
 |step _ ih=>show _<=qE c _+c _;omega
theorem preK_add(c:Nat->Nat)(a:Int)(n:Nat):qE (λv=>c v+if a=(v:Int) then 1 else 0) n=qE c n+if 0<=a/\a<n then 1 else 0:=by
 induction n with
 |zero=>
  have:¬(0<=a/\a<((0:Nat):Int)):=aB;rw[if_neg this];rfl
 |succ n ih=>
  show qE _ n+(c n+_)=qE c n+c n+_;rw[ih]
  by_cases h1:a=(n:Int)
  ·rw[if_neg aB,if_pos h1,if_pos aB];omega
  ·by_cases h2:0<=a/\a<n
   ·rw[if_pos h2,if_neg h1,if_pos aB];omega
   ·rw[if_neg h2,if_neg h1,if_neg aB];omega
theorem WT{key:Int->Int}{n:Nat}:∀{m:Nat},(∀i:Nat,i<m->0<=key (i:Int)/\key (i:Int)<n)->qE (cK key m) n=m
 |0,_=>by
  have:∀n,qE (cK key 0) n=0:=λn=>by
   induction n with
   |zero=>rfl
   |succ n ih=>show qE _ n+cK key 0 n=0;rw[ih];rfl
  exact this n
 |m+1,h=>by
  have e:cK key (m+1)=λv=>cK key m v+if key (m:Int)=(v:Int) then 1 else 0:=by funext v;exact WI key m v
  rw[e,preK_add,WT (m:=m) λi hi=>h i aB,if_pos (h m aB)]
structure VX(key:Int->Int)(n k:Nat)(fs:List Int):Prop where
 len:fs.length=n+1
 zero:fs[0]? =some 0
 val:∀v,v<n->fs[v+1]? =some (cK key k v:Int)
theorem VX.start(key:Int->Int)(n:Nat):VX key n 0 (List.replicate (n+1) 0):=
 ⟨by simp,by simp,λv hv=>by rw[Fm,if_pos aB];rfl⟩
theorem VX.step{key:Int->Int}{n k:Nat}{fs:List Int}(h:VX key n k fs){v0:Nat}(hv:v0<n)(hk:key (k:Int)=(v0:Int)):VX key n (k+1) (fs.set (v0+1) ((cK key k v0:Int)+1)):=by
 refine⟨by rw[pR];exact h.len,by rw[wC,if_neg aB];exact h.zero,λv jY=>?_⟩;rw[wC,WI]
 by_cases e:v0=v
 ·subst e
  rw[if_pos rfl,if_pos (by rw[h.len];omega),if_pos hk];simp
 ·rw[if_neg aB,if_neg aB,h.val v jY];simp
structure Gx(c:Nat->Nat)(n j:Nat)(fs:List Int):Prop where
 len:fs.length=n+1
 lo:∀i,i<=j->fs[i]? =some (qE c i:Int)
 hi:∀v,v<n->j<=v->fs[v+1]? =some (c v:Int)
theorem VX.rows2{key:Int->Int}{n m:Nat}{fs:List Int}(h:VX key n m fs):Gx (cK key m) n 0 fs:=
 ⟨h.len,λi hi=>by
  have:i=0:=aB;subst this;exact h.zero,λv hv _=>h.val v hv⟩
theorem Gx.step{c:Nat->Nat}{n j:Nat}{fs:List Int}(h:Gx c n j fs)(hj:j<n):Gx c n (j+1) (fs.set (j+1) ((c j:Int)+(qE c j:Int))):=by
 refine⟨by rw[pR];exact h.len,λi hi=>?_,λv hv hjv=>?_⟩
 ·rw[wC]
  by_cases e:j+1=i
  ·subst e
   rw[if_pos rfl,if_pos (by rw[h.len];omega)];show some _=some ((qE c j+c j:Nat):Int);congr 1;omega
  ·rw[if_neg e];exact h.lo i aB
 ·rw[wC,if_neg aB];exact h.hi v hv aB
structure Gw(key:Int->Int)(n m k:Nat)(nx row:List Int):Prop where
 nl:nx.length=n+1
 nv:∀v,v<n->nx[v]? =some ((qE (cK key m) v+cK key k v:Nat):Int)
 rl:row.length=m
 rv:∀v,v<n->∀j x,(fy key k v)[j]? =some x->row[qE (cK key m) v+j]? =some x
theorem Gx.rows3{key:Int->Int}{n m:Nat}{fs:List Int}(h:Gx (cK key m) n n fs):Gw key n m 0 fs (List.replicate m 0):=
 ⟨h.len,λv hv=>by rw[h.lo v aB,cK_zero];rfl,by simp,λv _ j x hj=>by simp[fy,oJ] at hj⟩
theorem Gw.step{key:Int->Int}{n m k:Nat}{nx row:List Int}(h:Gw key n m k nx row)(hkm:k<m)(tP:∀i:Nat,i<m->0<=key (i:Int)/\key (i:Int)<n){v0:Nat}(hv:v0<n)(hk:key (k:Int)=(v0:Int)):
  qE (cK key m) v0+cK key k v0<m/\Gw key n m (k+1) (nx.set v0 (((qE (cK key m) v0+cK key k v0:Nat):Int)+1)) (row.set (qE (cK key m) v0+cK key k v0) (k:Int)):=by
 have oF:=WT tP;have hc:cK key k v0+1<=cK key m v0:=by
  have:=cK_le key (show k+1<=m by omega) v0;rw[WI,if_pos hk] at this;exact this
 have hp:qE (cK key m) v0+cK key k v0<m:=by
  have:=WC (cK key m) hv;omega
 refine⟨hp,by rw[pR];exact h.nl,λv jY=>?_,by rw[pR];exact h.rl,λv jY j x hj=>?_⟩
 ·rw[wC,WI]
  by_cases e:v0=v
  ·subst e
   rw[if_pos rfl,if_pos (by rw[h.nl];omega),if_pos hk];congr 1
  ·rw[if_neg e,if_neg aB,h.nv v jY];rfl
 ·rw[Za] at hj
  rw[wC];have YH:=(kY.1 hj).1;rw[mH] at YH
  by_cases cL:j<(fy key k v).length
  ·rw[Fp cL] at hj
   have gH:qE (cK key m) v0+cK key k v0≠qE (cK key m) v+j:=λe=>by
    have h1:=cK_le key (show k<=m by omega) v;have GJ:j<cK key k v:=cL;rcases Nat.lt_trichotomy v v0 with h2|h2|h2
    ·have:=WC (cK key m) h2;omega
    ·subst h2;omega
    ·have:=WC (cK key m) h2;omega
   rw[if_neg gH];exact h.rv v jY j x hj
  ·by_cases e:key (k:Int)=(v:Int)
   ·rw[if_pos e] at YH hj
    have wG:j=(fy key k v).length:=by simp at YH;omega
    subst wG;rw[Fq (iX _)] at hj;simp at hj;subst hj;have:v0=v:=aB;subst this;rw[show(fy key k v0).length=cK key k v0 from rfl,if_pos rfl,if_pos (by rw[h.rl];exact hp)]
   ·rw[if_neg e] at YH
    simp at YH;omega
theorem Gw.done{key:Int->Int}{n m:Nat}{nx row:List Int}(h:Gw key n m m nx row)(tP:∀i:Nat,i<m->0<=key (i:Int)/\key (i:Int)<n){v:Nat}(hv:v<n):
  qE (cK key m) v+cK key m v<=m/\(row.drop (qE (cK key m) v)).take (cK key m v)=fy key m v:=by
 have oF:=WT tP;have:=WC (cK key m) hv;refine⟨aB,BH λj=>?_⟩;rw[List.getElem?_take]
 by_cases hj:j<cK key m v
 ·rw[if_pos hj,List.getElem?_drop]
  have wG:j<(fy key m v).length:=hj;rw[gU wG];exact h.rv v hv j _ (gU wG)
 ·rw[if_neg hj,List.getElem?_eq_none]
  show cK key m v<=j;omega
end Go.Den
namespace Go.Den
open Go Go.ChangeShapes Go.WideShapes Go.ChangeAt Go.RowKit
section
abbrev Of(W w:aH):Prop:=aY (λk=>W.heap.size<=k) W w
theorem Of.below{W w:aH}(h:Of W w):Below W.heap.size W w:=aY.below h (iX _)
section
variable{H:Type}{aX:TypeId×Value->H}{P:Program}
theorem RJ(hl:laidOutB P=true){W W':aH}{uU:Nat->Bool}:∀{ts:List TypeId} {vs:List Value} {ds:List (DataW H)} {ps:List MemPlace},
  (∀t∈ts,P.readableRec t=true/\t<P.types.size)->DataW.TrodAll aX P W 0 (λ_=>true) true ts vs ds ps->(∀p∈ps,W.sameAt W' p)->(∀p∈ps,uU p.block=true)->DataW.TrodAll aX P W' 0 uU true ts vs ds ps
 | [],[],[],_,_,h,_,_=>h
 |t::ts,v::vs,d::ds,ps,ht,h,hs,hp=>by
  obtain⟨p,q,h1,h2,rfl⟩:=h;refine⟨p,q,WideElems.Trod_stays hl (ht t dJ).1 (ht t dJ).2 h1 (λx hx=>hs x (by simp[hx])) (λx hx=>hp x (by simp[hx])),?_,rfl⟩;exact RJ hl (λu hu=>ht u (by simp[hu])) h2 (λx hx=>hs x (by simp[hx])) (λx hx=>hp x (by simp[hx]))
 | [],_::_,_,_,_,h,_,_=>h.elim
 | [],[],_::_,_,_,h,_,_=>h.elim
 |_::_,[],_,_,_,h,_,_=>h.elim
 |_::_,_::_,[],_,_,h,_,_=>h.elim
theorem OE{W:aH}{nN:Nat}{sp:Nat->Bool}{hd:Bool}:∀{ts:List TypeId} {vs:List Value} {ds:List (DataW H)} {ps:List MemPlace},DataW.TrodAll aX P W nN sp hd ts vs ds ps->ds.length=ts.length/\vs.length=ts.length
 | [],[],[],_,_=>⟨rfl,rfl⟩
 |_::_,_::_,_::_,_,h=>by obtain⟨_,_,_,h2,_⟩:=h;have:=OE h2;simp[this.1,this.2]
 | [],_::_,_,_,h=>h.elim
 | [],[],_::_,_,h=>h.elim
 |_::_,[],_,_,h=>h.elim
 |_::_,_::_,[],_,h=>h.elim
theorem law_post{fn:Func}{s:ChangeSpec}{apart fresh handsOn again:Bool}{W W':aH}{args:Array Value}{ds gs:List (DataW H)}{before:List MemPlace}{tb:TypeId}
  (hW:DataW.Whole aX P fn.params.toList s.vars apart W args.toList ds gs before) (hv:s.vars=[])
  (hfn:∀ds:List (DataW H),ds.length=fn.params.size->s.fn H ds={results:=[.lit (.bool true)],args:=ds})
  (hrt:fn.resultTypes=#[tb]) (htb:P.underlying tb=some .bool) (hl:laidOutB P=true) (hread:∀t∈fn.params.toList,P.readableRec t=true/\t<P.types.size) (hS:Of W W'):
  s.post aX P fn apart fresh handsOn again W args (.bool true) W':=by
 have cL:=hW.lt;obtain⟨p,q,hA,hV,rfl,hz,hn⟩:=hW;have hW0:DataW.Whole aX P fn.params.toList s.vars apart W args.toList ds gs (p++q):=⟨p,q,hA,hV,rfl,hz,hn⟩;have hV':DataW.TrodVars aX P W (λ_=>true) [] gs q:=by rw[<-hv];exact hV
 obtain⟨rfl,rfl⟩:=trodVars_none hV';have LQ:(ds++[]).length=fn.params.size:=by rw[sG,(OE hA).1];simp
 have hF:=hfn (ds++[]) LQ;have hb:=hS.below;have uj:∀x∈p,W.sameAt W' x:=λx hx=>hb.same (cL x (by simp[hx]));have hargs:∀sp:Nat->Bool,(∀x∈p,sp x.block=true)->DataW.TrodAll aX P W' 0 sp true fn.params.toList args.toList ds p:=λsp hsp=>RJ hl hread hA uj hsp;have jl:∀(b:Nat) (sp:Nat->Bool) (hd:Bool),DataW.TrodAll aX P W' b sp hd fn.resultTypes.toList ((Value.bool true).resultList fn.resultTypes.size) [.lit (.bool true)] []:=by
  intro b sp hd;rw[hrt];exact trodAll_mk1 (shut_bool htb true)
 refine⟨ds,[],p++[],[],p,[],hW0,?_,?_,?_,?_,?_⟩
 ·rw[hF];exact jl _ _ _
 ·rw[hF];simp only[sG];exact hargs _ (λx hx=>by simpa using cL x (by simp[hx]))
 ·rw[hF,hv];exact rfl
 ·exact hb.frame _
 ·intro _
  refine⟨ok_one hrt rfl (okWide_bool_mk htb true),[.lit (.bool true)]++ds,[],[]++p++[],⟨[]++p,[],trodAll_append (hargs _ λ_ _=>rfl) (jl _ _ _),?_,rfl,?_,?_⟩,?_⟩
  ·rw[hv];exact rfl
  ·intro b off hp
   simp only[List.nil_append,sG] at hp;have h1:=cL (.cell b off) (by simp[hp]);rw[hb.frozen (p:=⟨b,off,none⟩) h1];exact hz b off (by simpa using hp)
  ·intro ha
   simpa using hn ha
  ·intro x hx _
   simpa using hx
end
theorem law_lifted{C:Checked}{os:Os}{f:FuncId}{fn:Func}{s:ChangeSpec}{conds:List PathCond}{apart fresh handsOn again:Bool}{tb:TypeId}{H:Type}{aX:TypeId×Value->H}
  (gN:ownKnob C.prog.godebug=none) (started:os.Started) (noInit:C.prog.inits.idxOf? f=none) (hfn:C.prog.funcs[f]? =some fn)
  (witness:∃(w:aH) (tape:Tape) (i:Input),w.os=os/\(w.forCall tape i).Shaped C.prog/\i.vars=[]/\Input.okWide C.prog (w.forCall tape i) .any w.heap.size f i/\
   s.pre6 aX C.prog fn conds apart (w.forCall tape i).memory i.args/\Assume.holds {} C.prog (lone (Frame.enter C.prog f i.args .normal) [] (w.forCall tape i)))
  (hv:s.vars=[]) (hs:∀ds:List (DataW H),ds.length=fn.params.size->s.fn H ds={results:=[.lit (.bool true)],args:=ds})
  (hrt:fn.resultTypes=#[tb]) (htb:C.prog.underlying tb=some .bool) (hl:laidOutB C.prog=true) (hread:∀t∈fn.params.toList,C.prog.readableRec t=true/\t<C.prog.types.size)
  (contract:∀(W:aH) (nN:Nat) (args:Array Value) (ds:List (DataW H)) (ps:List MemPlace),
   (∀(j:Nat) t v,fn.params[j]? =some t->args[j]? =some v->Value.okWide C.prog W .any nN t v)->
   DataW.TrodAll aX C.prog W 0 (λ_=>true) true fn.params.toList args.toList ds ps->
   Calls C.prog f args W λe W'=>e=.returned (.bool true)/\Of W W'):
  ReturnsInHanded {} C os f .any (s.pre6 aX C.prog fn conds apart) (s.post aX C.prog fn apart fresh handsOn again):=by
 refine returnsInHanded_of_change gN started noInit hfn witness ?_;intro W nN args ds gs before jk hW _ _;obtain⟨p,q,hA,_⟩:=id hW;exact(contract W nN args ds p jk hA).mono λe W' ⟨he,hS⟩=>⟨_,he,law_post hW hv hs hrt htb hl hread hS⟩
section
variable{H:Type}{aX:TypeId×Value->H}{P:Program}{W:aH}
end
end
end Go.Den
namespace Go.Den
open Go
open Go.IntKind (wrap)
def poly:BitVec 32:=2197175160#32
def ta(c:BitVec 32):BitVec 32:=(c>>>1)^^^(if c.getLsbD 0 then poly else 0#32)
def QQ:Nat->BitVec 32->BitVec 32
 |0,c=>c
 |n+1,c=>QQ n (ta c)
def km(c:BitVec 32)(b:BitVec 8):BitVec 32:=QQ 8 (c^^^b.setWidth 32)
def DV(c:BitVec 32)(l:List (BitVec 8)):BitVec 32:=l.foldl km c
def yC(l:List (BitVec 8)):BitVec 32:= ~~~ DV (BitVec.allOnes 32) l
theorem Ul(c:BitVec 32)(l m:List (BitVec 8)):DV c (l++m)=DV (DV c l) m:=List.foldl_append ..
theorem pw(c:BitVec 32)(l:List (BitVec 8))(b:BitVec 8):DV c (l++[b])=km (DV c l) b:=by simp[DV]
theorem Bl:∀(n:Nat) (c:BitVec 32),QQ (n+1) c=ta (QQ n c)
 |0,_=>rfl
 |n+1,c=>by rw[QQ,Bl n];rfl
def parN:Nat->(Nat->Bool)->Bool
 |0,_=>false
 |n+1,f=>xor (parN n f) (f n)
def par{w:Nat}(x:BitVec w):Bool:=parN w x.getLsbD
theorem aA5(c d:BitVec 32):oL .and .u32 (c.toNat:Int) (d.toNat:Int)=((c &&& d).toNat:Int):=by
 show wrap .u32 ((BitVec.ofInt 32 (c.toNat:Int) &&& BitVec.ofInt 32 (d.toNat:Int)).toNat:Int)=_;have hc:BitVec.ofInt 32 (c.toNat:Int)=c:=by simp
 have hd:BitVec.ofInt 32 (d.toNat:Int)=d:=by simp
 rw[hc,hd,IntKind.wrap_u32];have h:(c &&& d).toNat<4294967296:=(c &&& d).isLt;omega
theorem ZS(c d:BitVec 32):oL .xor .u32 (c.toNat:Int) (d.toNat:Int)=((c^^^d).toNat:Int):=by
 show wrap .u32 ((BitVec.ofInt 32 (c.toNat:Int)^^^BitVec.ofInt 32 (d.toNat:Int)).toNat:Int)=_;have hc:BitVec.ofInt 32 (c.toNat:Int)=c:=by simp
 have hd:BitVec.ofInt 32 (d.toNat:Int)=d:=by simp
 rw[hc,hd,IntKind.wrap_u32];have h:(c^^^d).toNat<4294967296:=(c^^^d).isLt;omega
theorem aAD(c:BitVec 32):Int.fdiv (c.toNat:Int) (2^(min (Int.toNat (1:Int)) (IntKind.bits .u32)))=((c>>>1).toNat:Int):=by
 rw[BitVec.toNat_ushiftRight,Nat.shiftRight_eq_div_pow];show Int.fdiv (c.toNat:Int) 2=((c.toNat/2:Nat):Int);rw[Int.fdiv_eq_ediv_of_nonneg _ aB];omega
theorem and_one(c:BitVec 32):((c &&& 1#32).toNat:Int)=if c.getLsbD 0 then 1 else 0:=by
 rw[BitVec.toNat_and];simp only[BitVec.getLsbD,Nat.testBit_zero];have:c.toNat &&& (1#32).toNat=c.toNat%2:=Nat.and_one_is_mod _;rw[this];rcases Nat.mod_two_eq_zero_or_one c.toNat with h|h<;>simp[h]
theorem Zw(c:BitVec 32):ta c=if c.getLsbD 0 then(c>>>1)^^^poly else c>>>1:=by unfold ta;split<;>simp
def Edge(zs:List It)(k j:Nat):Prop:=∀x y,zs[k]? =some x->zs[j]? =some y->qG y x=false
def HOk(zs:List It):Prop:=∀j,0<j->Edge zs ((j-1)/2) j
structure UpI(zs:List It)(i:Nat):Prop where
 cR:∀j,0<j->j≠i->Edge zs ((j-1)/2) j
 gE:∀j,0<j->(j-1)/2=i->0<i->Edge zs ((i-1)/2) j
structure Yd(zs:List It)(i:Nat):Prop where
 cR:∀j,0<j->(j-1)/2≠i->Edge zs ((j-1)/2) j
 gE:∀j,0<j->(j-1)/2=i->0<i->Edge zs ((i-1)/2) j
theorem le_trans'{x y z:It}(h:qG y x=false)(h':qG z y=false):qG z x=false:=by
 have h1:¬qG y x=true:=by rw[h];simp
 have h2:¬qG z y=true:=by rw[h'];simp
 have:¬qG z x=true:=by rw[kH] at*;omega
 simpa using this
theorem ua{x y:It}(h:qG x y=true):qG y x=false:=by
 have:¬qG y x=true:=by rw[kH] at*;omega
 simpa using this
theorem HG(x:It):qG x x=false:=by
 have:¬qG x x=true:=by rw[kH];omega
 simpa using this
theorem BX{zs:List It}{i p:Nat}(hi:i<zs.length)(hp:p<zs.length)(x y:It)(j:Nat):((zs.set i y).set p x)[j]? =if j=p then some x else if j=i then some y else zs[j]?:=by
 rw[wC,wC]
 by_cases h1:j=p
 ·subst h1;simp[hp]
 ·rw[if_neg (λe=>h1 e.symm),if_neg h1]
  by_cases h2:j=i
  ·subst h2;simp[hi]
  ·rw[if_neg (λe=>h2 e.symm),if_neg h2]
theorem Sj{zs:List It}{i p:Nat}{x y:It}(hx:zs[i]? =some x)(hy:zs[p]? =some y)(u:It):u∈(zs.set i y).set p x↔u∈zs:=by
 have hi:=(kY.1 hx).1;have hp:=(kY.1 hy).1;rw[oZ,oZ]
 constructor
 ·rintro⟨j,hj⟩
  rw[BX hi hp] at hj
  split at hj
  ·exact⟨i,hx.trans hj⟩
  ·split at hj
   ·exact⟨p,hy.trans hj⟩
   ·exact⟨j,hj⟩
 ·rintro⟨j,hj⟩
  by_cases h1:j=p
  ·subst h1
   by_cases h2:j=i
   ·subst h2;exact⟨j,by rw[BX hi hp,if_pos rfl,<-hx,hj]⟩
   ·exact⟨i,by rw[BX hi hp,if_neg (λe=>h2 e.symm),if_pos rfl,<-hy,hj]⟩
  ·by_cases h2:j=i
   ·subst h2;exact⟨p,by rw[BX hi hp,if_pos rfl,<-hx,hj]⟩
   ·exact⟨j,by rw[BX hi hp,if_neg h1,if_neg h2,hj]⟩
theorem up_step{zs:List It}{i:Nat}{x y:It}(h:UpI zs i)(hi0:0<i)(hx:zs[i]? =some x)(hy:zs[(i-1)/2]? =some y)(cL:qG x y=true):UpI ((zs.set i y).set ((i-1)/2) x) ((i-1)/2):=by
 have hi:=(kY.1 hx).1;have hp:=(kY.1 hy).1;have hpi:(i-1)/2<i:=aB;have hxy:=ua cL;generalize Wj:(i-1)/2=p at*;refine⟨λj hj hjp u v hu hv=>?_,λj hj hjp hp0 u v hu hv=>?_⟩
 ·rw[BX hi hp] at hu hv
  rw[if_neg hjp] at hv
  by_cases CV:j=i
  ·subst CV
   rw[if_pos rfl] at hv;rw[if_pos Wj] at hu;cases hv;cases hu;exact hxy
  ·rw[if_neg CV] at hv
   by_cases h1:(j-1)/2=p
   ·rw[if_pos h1] at hu
    cases hu;exact le_trans' hxy (h.cR j hj CV y v (by rw[h1];exact hy) hv)
   ·rw[if_neg h1] at hu
    by_cases h2:(j-1)/2=i
    ·rw[if_pos h2] at hu
     cases hu;exact h.gE j hj h2 hi0 y v (by rw[Wj];exact hy) hv
    ·rw[if_neg h2] at hu
     exact h.cR j hj CV u v hu hv
 ·rw[BX hi hp] at hu hv
  rw[if_neg aB,if_neg aB] at hu;have Vo:qG y u=false:=h.cR p hp0 aB u y hu hy;rw[if_neg aB] at hv
  by_cases CV:j=i
  ·rw[if_pos CV] at hv;cases hv;exact Vo
  ·rw[if_neg CV] at hv
   exact le_trans' Vo (h.cR j hj CV y v (by rw[hjp];exact hy) hv)
theorem up_end{zs:List It}{i:Nat}{x:It}(h:UpI zs i)(hx:zs[i]? =some x)(he:i=0\/∃y,zs[(i-1)/2]? =some y/\qG x y=false):HOk zs:=by
 intro j hj
 by_cases CV:j=i
 ·subst CV
  rcases he with rfl|⟨y,hy,hn⟩
  ·omega
  ·intro u v hu hv
   rw[hy] at hu;rw[hx] at hv;cases hu;cases hv;exact hn
 ·exact h.cR j hj CV
theorem aAY{zs:List It}{i k:Nat}{x y:It}(h:Yd zs i)(hk0:0<k)(hki:(k-1)/2=i)(hx:zs[i]? =some x)(hy:zs[k]? =some y)(cL:qG y x=true)
  (jo:∀s,0<s->(s-1)/2=i->∀v,zs[s]? =some v->qG v y=false):Yd ((zs.set i y).set k x) k:=by
 have hi:=(kY.1 hx).1;have hk:=(kY.1 hy).1;have hyx:=ua cL;refine⟨λj hj hjk u v hu hv=>?_,λj hj hjk hk0' u v hu hv=>?_⟩
 ·rw[BX hi hk] at hu hv
  rw[if_neg hjk] at hu
  by_cases h1:j=k
  ·subst h1
   rw[if_pos rfl] at hv;rw[if_pos hki] at hu;cases hu;cases hv;exact hyx
  ·rw[if_neg h1] at hv
   by_cases h2:j=i
   ·subst h2
    rw[if_pos rfl] at hv;cases hv;rw[if_neg aB] at hu;exact h.gE k hk0 hki aB u y hu hy
   ·rw[if_neg h2] at hv
    by_cases h3:(j-1)/2=i
    ·rw[if_pos h3] at hu
     cases hu;exact jo j hj h3 v hv
    ·rw[if_neg h3] at hu
     exact h.cR j hj h3 u v hu hv
 ·rw[BX hi hk] at hu hv
  rw[hki,if_neg aB,if_pos rfl] at hu;cases hu;rw[if_neg aB,if_neg aB] at hv;exact h.cR j hj aB y v (by rw[hjk];exact hy) hv
theorem Ze{zs:List It}{i:Nat}{x:It}(h:Yd zs i)(hx:zs[i]? =some x)(jo:∀s,0<s->(s-1)/2=i->∀v,zs[s]? =some v->qG v x=false):HOk zs:=by
 intro j hj
 by_cases h1:(j-1)/2=i
 ·intro u v hu hv
  rw[h1,hx] at hu;cases hu;exact jo j hj h1 v hv
 ·exact h.cR j hj h1
theorem HOk.min{zs:List It}(h:HOk zs){r:It}(hr:zs[0]? =some r):∀(j:Nat) (u:It),zs[j]? =some u->qG u r=false:=by
 intro j
 induction j using Nat.strongRecOn with
 |ind j ih=>
  intro u hu
  by_cases hj:j=0
  ·subst hj;rw[hr] at hu;cases hu;exact HG _
  ·have cL:=(kY.1 hu).1
   have hp:(j-1)/2<zs.length:=aB;exact le_trans' (ih ((j-1)/2) aB _ (gU hp)) (h j aB _ u (gU hp) hu)
structure FK(f:Int->Option Int)(zs:List It)(i:Nat):Prop where
 at_:∀(j:Nat) (z:It),j≠i->zs[j]? =some z->f z.id=some (j:Int)
 dom:∀v k,f v=some k->∃z∈zs,z.id=v
structure uF(f:Int->Option Int)(zs:List It):Prop where
 at_:∀(j:Nat) z,zs[j]? =some z->f z.id=some (j:Int)
 dom:∀v k,f v=some k->∃z∈zs,z.id=v
theorem uF.one{f:Int->Option Int}{zs:List It}(h:uF f zs):Co zs:=by
 intro x hx y hy e;obtain⟨i,hi⟩:=oZ.1 hx;obtain⟨j,hj⟩:=oZ.1 hy;have h1:=h.at_ i x hi;have h2:=h.at_ j y hj;rw[e,h2] at h1;have:j=i:=by have:=uZ h1;omega
 subst this;rw[hi] at hj;exact uZ hj
theorem FK.swap{f:Int->Option Int}{zs:List It}{i p:Nat}(h:FK f zs i){x y:It}(hx:zs[i]? =some x)(hy:zs[p]? =some y)(hip:i≠p):FK (λv=>if v=y.id then some (i:Int) else f v) ((zs.set i y).set p x) p:=by
 have hi:=(kY.1 hx).1;have hp:=(kY.1 hy).1;refine⟨λj z hj hz=>?_,λv k hv=>?_⟩
 ·rw[BX hi hp,if_neg hj] at hz
  by_cases h1:j=i
  ·rw[if_pos h1] at hz;cases hz;simp[h1]
  ·rw[if_neg h1] at hz
   have h2:=h.at_ j z h1 hz;have:z.id≠y.id:=λe=>by
    have h3:=h.at_ p y (Ne.symm hip) hy;rw[<-e,h2] at h3;have:=uZ h3;omega
   simp[this,h2]
 ·replace hv:(if v=_ then _ else f v)=some k:=hv
  by_cases h1:v=y.id
  ·exact⟨y,(Sj hx hy y).2 (zN hy),h1.symm⟩
  ·rw[if_neg h1] at hv
   obtain⟨z,hz,e⟩:=h.dom v k hv;exact⟨z,(Sj hx hy z).2 hz,e⟩
theorem FK.done{f:Int->Option Int}{zs:List It}{i:Nat}(h:FK f zs i){x:It}(hx:zs[i]? =some x)(fk:∀(j:Nat) (z:It),j≠i->zs[j]? =some z->z.id≠x.id):uF (λv=>if v=x.id then some (i:Int) else f v) zs:=by
 refine⟨λj z hz=>?_,λv k hv=>?_⟩
 ·by_cases h1:j=i
  ·subst h1;rw[hx] at hz;cases hz;simp
  ·have:=h.at_ j z h1 hz
   simp[fk j z h1 hz,this]
 ·replace hv:(if v=_ then _ else f v)=some k:=hv
  by_cases h1:v=x.id
  ·exact⟨x,zN hx,h1.symm⟩
  ·rw[if_neg h1] at hv;exact h.dom v k hv
def RF(zs:List It):Prop:=∀(i j:Nat) (x y:It),zs[i]? =some x->zs[j]? =some y->x.id=y.id->i=j
theorem uF.apart{f:Int->Option Int}{zs:List It}(h:uF f zs):RF zs:=by
 intro i j x y hi hj e;have h1:=h.at_ i x hi;have h2:=h.at_ j y hj;rw[e,h2] at h1;have:=uZ h1;omega
theorem RF.swap{zs:List It}(h:RF zs){i p:Nat}{x y:It}(hx:zs[i]? =some x)(hy:zs[p]? =some y):RF ((zs.set i y).set p x):=by
 have hi:=(kY.1 hx).1;have hp:=(kY.1 hy).1;have dN:∀(j:Nat) (u:It),((zs.set i y).set p x)[j]? =some u->∃j',zs[j']? =some u/\((j=p/\j'=i)\/(j≠p/\j=i/\j'=p)\/(j≠p/\j≠i/\j'=j)):=by
  intro j u hu;rw[BX hi hp] at hu
  by_cases h1:j=p
  ·rw[if_pos h1] at hu;exact⟨i,hx.trans hu,.inl ⟨h1,rfl⟩⟩
  ·rw[if_neg h1] at hu
   by_cases h2:j=i
   ·rw[if_pos h2] at hu;exact⟨p,hy.trans hu,.inr (.inl ⟨h1,h2,rfl⟩)⟩
   ·rw[if_neg h2] at hu;exact⟨j,hu,.inr (.inr ⟨h1,h2,rfl⟩)⟩
 intro a b u v hu hv e;obtain⟨a',ha,hac⟩:=dN a u hu;obtain⟨b',hb,hbc⟩:=dN b v hv;have:=h a' b' u v ha hb e;omega
def GL(n:Int):Int:=if n<0 then-n else n
def Rw(ax ay bx mJ:Int):Int:=
 if(ax=0/\ay=0)\/(bx=0/\mJ=0) then 0
 else if ax*bx+ay*mJ>0/\4*GL (ax*mJ-ay*bx)<=ax*bx+ay*mJ then 1
 else if ax*bx+ay*mJ<0/\4*GL (ax*mJ-ay*bx)<=-(ax*bx+ay*mJ) then 5
 else if ax*mJ-ay*bx>0/\ax*bx+ay*mJ>0/\ax*mJ-ay*bx<=ax*bx+ay*mJ then 2
 else if ax*mJ-ay*bx>0/\ax*bx+ay*mJ<0/\ax*mJ-ay*bx<=-(ax*bx+ay*mJ) then 4
 else if ax*mJ-ay*bx>0 then 3
 else if ax*bx+ay*mJ>0/\-(ax*mJ-ay*bx)<=ax*bx+ay*mJ then 6
 else if ax*bx+ay*mJ<0/\-(ax*mJ-ay*bx)<=-(ax*bx+ay*mJ) then 8
 else 7
theorem sq_pos{x y:Int}(h:¬(x=0/\y=0)):x*x+y*y≠0:=λe=>by
 have h1:0<=x*x:=by
  rcases Int.le_total 0 x with h|h
  ·exact Int.mul_nonneg h h
  ·exact Int.mul_nonneg_of_nonpos_of_nonpos h h
 have h2:0<=y*y:=by
  rcases Int.le_total 0 y with h|h
  ·exact Int.mul_nonneg h h
  ·exact Int.mul_nonneg_of_nonpos_of_nonpos h h
 have h3:x*x=0:=aB;have h4:y*y=0:=aB;exact h ⟨(Int.mul_eq_zero.1 h3).elim id id,(Int.mul_eq_zero.1 h4).elim id id⟩
theorem aA1{ax ay bx mJ:Int}(h1:ax*mJ-ay*bx=0)(h2:ax*bx+ay*mJ=0):(ax=0/\ay=0)\/(bx=0/\mJ=0):=by
 rcases Classical.em (bx=0/\mJ=0) with h|h
 ·exact .inr h
 have hs:=sq_pos h;have e1:ax*mJ=ay*bx:=aB;have e2:ax*bx=-(ay*mJ):=aB;have f1:ax*(bx*bx+mJ*mJ)=0:=by
  rw[Int.mul_add,<-Int.mul_assoc,<-Int.mul_assoc,e1,e2,Int.neg_mul,Int.mul_assoc,Int.mul_assoc,Int.mul_comm mJ bx];omega
 have f2:ay*(bx*bx+mJ*mJ)=0:=by
  rw[Int.mul_add,<-Int.mul_assoc,<-Int.mul_assoc,<-e1,show ay*mJ=-(ax*bx) by omega,Int.neg_mul,Int.mul_assoc,Int.mul_assoc,Int.mul_comm mJ bx];omega
 exact .inl ⟨(Int.mul_eq_zero.1 f1).resolve_right hs,(Int.mul_eq_zero.1 f2).resolve_right hs⟩
theorem Ej{x y:Int}(h:-4095<=x/\x<=4095)(h':-4095<=y/\y<=4095):-16769025<=x*y/\x*y<=16769025:=by
 have h1:x.natAbs<=4095:=aB;have h2:y.natAbs<=4095:=aB;have h3:(x*y).natAbs<=4095*4095:=by rw[Int.natAbs_mul];exact JA h1 h2
 omega
def Rx(c d:Int):Int:=
 if d>0/\4*GL c<=d then 1 else if d<0/\4*GL c<=-d then 5 else if c>0/\d>0/\c<=d then 2 else if c>0/\d<0/\c<=-d then 4 else if c>0 then 3
 else if d>0/\-c<=d then 6 else if d<0/\-c<=-d then 8 else 7
theorem clsP_eq{ax ay bx mJ:Int}(h:¬((ax=0/\ay=0)\/(bx=0/\mJ=0))):Rw ax ay bx mJ=Rx (ax*mJ-ay*bx) (ax*bx+ay*mJ):=by
 unfold Rw Rx;rw[if_neg h]
def Gr.nd(G:Gr)(i:Int):Int×Int:=G.N.getD i.toNat (0,0)
def Gr.Rz(G:Gr)(a b:Int):Int:=Rw ((G.nd (G.to a)).1-(G.nd (G.fr a)).1) ((G.nd (G.to a)).2-(G.nd (G.fr a)).2) ((G.nd (G.to b)).1-(G.nd (G.fr b)).1) ((G.nd (G.to b)).2-(G.nd (G.fr b)).2)
theorem Gr.get_nd{G:Gr}{i:Int}(h:G.UL i):G.N[i.toNat]? =some (G.nd i):=by
 have:i.toNat<G.N.length:=by have:=h.2;unfold Gr.n at this;omega
 unfold Gr.nd;rw[LZ,gU this];rfl
theorem xJ.Sn{G:Gr}(ok:xJ G){i:Int}(h:G.UL i):(0<=(G.nd i).1/\(G.nd i).1<=4095)/\0<=(G.nd i).2/\(G.nd i).2<=4095:=ok.nd _ (zN (G.get_nd h))
structure MQ where
 cls:Int
 mC:Int
 sE:Int
 left:Int
def Gr.kD(G:Gr):Int->List Int->Int×Int×Int
 |_,[]=>(9,-1,0)
 |a,e::l=>if(G.kN a).length≠1 then(G.Rz a e,e,0) else((G.kD e l).1,(G.kD e l).2.1,G.wt e+(G.kD e l).2.2)
def Gr.eV(G:Gr)(a:Int)(l:List Int):MQ:=⟨(G.kD a l).1,(G.kD a l).2.1,(G.kD a l).2.2,G.oY l⟩
structure iJ where
 kind:Int
 pos:Int
 LM:Int
 cJ:List Int
 mE:Int
 eV:MQ
abbrev VU:MQ:=⟨0,0,0,0⟩
def QT(k:Int):iJ:=⟨k,0,0,[],0,VU⟩
def sK(l:List Int)(w:Int):iJ:=⟨5,0,0,l,w,VU⟩
def ML(h:MQ):iJ:=⟨7,0,0,[],0,h⟩
def lj(p:Int):iJ:=⟨9,p,0,[],0,VU⟩
abbrev iU:=QT 4
abbrev HE:=QT 6
abbrev Hz:=QT 8
structure FZ where
 pos:Int
 node:Int
 lL:List Int
 dK:Bool
 gE:Bool
def nX(G:Gr)(p:FZ):FZ×List iJ:=if G.to p.pos=p.node then({p with gE:=true},[Hz]) else(p,[ML (G.eV p.pos p.lL)])
def Xc(G:Gr)(p:FZ)(l:List Int)(w:Int)(f:Bool):FZ×List iJ:=
 if f then((nX G {p with lL:=l,dK:=true}).1,sK l w::(nX G {p with lL:=l,dK:=true}).2) else({p with lL:=l,dK:=false},[HE])
def VP(G:Gr)(c:List Bool)(p:FZ)(z:FZ×List iJ):Prop:=∃l w f r,G.MR p.node p.pos c l w f r/\z=Xc G p l w f
def jz(G:Gr)(c:List Bool)(p:FZ)(pos:Int)(z:FZ×List iJ):Prop:=
 if p.gE=true then z=(p,[]) else if¬G.pP pos then z=(p,[lj pos]) else if p.dK=true/\pos=p.pos then z=nX G p
 else if p.dK=true/\p.lL.head? =some pos then z=nX G {p with pos:=pos,lL:=p.lL.tail} else VP G c {p with pos:=pos} z
def kc(G:Gr)(c:List Bool)(p:FZ)(CY open_:List Int)(z:FZ×List iJ):Prop:=
 if p.gE=true then z=(p,[]) else if p.dK=true then(if∃e∈p.lL,e∈CY then VP G c p z else z=(p,[]))
 else if open_=[] then z=(p,[]) else∃z',VP G c p z'/\z=(z'.1,if z'.1.dK=true then z'.2 else [])
structure UN(G:Gr)(p:FZ):Prop where
 pos:G.pP p.pos
 node:G.UL p.node
 wE:∀x∈p.lL,G.pP x
 len:p.lL.length<=51
 Fj:p.dK=true->G.BO p.pos p.lL=true
 none:p.dK=false->p.lL=[]
theorem Gr.MR.QY{G:Gr}(ok:xJ G){v e:Int}{c:List Bool}{l:List Int}{w:Int}{f r:Bool}(h:G.MR v e c l w f r):(∀x∈l,G.pP x)/\l.length<=51/\(f=true->G.BO e l=true/\w=G.oY l)/\(f=false->l=[]/\w=0):=by
 have hm:=ok.m1.2;cases h with
 |no=>exact⟨by simp,by simp,λh=>(by cases h),λ_=>⟨rfl,rfl⟩⟩
 |near _ _ _ hl _=>
  have:=hl.len ok;have hf:=hl.QY ok;exact⟨λx hx=>(hf.2.2.1 x hx).1,aB,λ_=>⟨hf.2.1,rfl⟩,λh=>by cases h⟩
 |sE _ _ _ _ _ _ hl=>
  have:=hl.len ok;have hf:=hl.QY ok;exact⟨λx hx=>(hf.2.2.1 x hx).1,aB,λ_=>⟨hf.2.1,rfl⟩,λh=>by cases h⟩
theorem UN.nX{G:Gr}{p:FZ}(h:UN G p):UN G (nX G p).1:=by
 unfold Den.nX
 split
 ·exact⟨h.pos,h.node,h.wE,h.len,h.Fj,h.none⟩
 ·exact h
theorem ask_ok{G:Gr}(ok:xJ G){p:FZ}(hp:G.pP p.pos)(hn:G.UL p.node){l:List Int}{w:Int}{f r:Bool}{c:List Bool}(ha:G.MR p.node p.pos c l w f r):UN G (Xc G p l w f).1/\(f=true->UN G {p with lL:=l,dK:=true}):=by
 obtain⟨h1,h2,h3,h4⟩:=ha.QY ok;have hs:f=true->UN G {p with lL:=l,dK:=true}:=λhf=>⟨hp,hn,h1,h2,λ_=>(h3 hf).1,λh=>by cases h⟩;refine⟨?_,hs⟩;unfold Xc
 split
 ·rename_i hf;exact(hs hf).nX
 ·rename_i hf
  have YI:f=false:=by simpa using hf
  exact⟨hp,hn,h1,h2,λh=>(by cases h),λ_=>(h4 YI).1⟩
theorem UN.move{G:Gr}{p:FZ}(h:UN G p){x:Int}(hx:G.pP x)(hh:p.dK=true/\p.lL.head? =some x):UN G {p with pos:=x,lL:=p.lL.tail}:=by
 have hw:=h.Fj hh.1;cases hp:p.lL with
 |nil=>rw[hp] at hh;cases hh.2
 |cons y l=>
  have hy:y=x:=by have:=hh.2;rw[hp] at this;simpa using this
  subst hy;rw[hp] at hw;have h2:=h.wE;have h3:=h.len;rw[hp] at h2 h3;simp only[Gr.BO,tO] at hw;exact⟨hx,h.node,λz hz=>h2 z (by simp at hz;simp[hz]),by simp at h3 ⊢;omega,λ_=>hw.2,λh4=>by have h5:p.dK=false:=h4;rw[hh.1] at h5;cases h5⟩
abbrev cH:=BitVec 8
def be:Nat->Nat->List cH
 |0,_=>[]
 |s+1,x=>BitVec.ofNat 8 (x/256^s)::be s x
def de(n:Nat)(l:List cH):Nat:=l.foldl (λn c=>n*256+c.toNat) n
theorem pH(s x:Nat):(be s x).length=s:=by
 induction s with
 |zero=>rfl
 |succ s ih=>simp[be,ih]
theorem de_be(s:Nat):∀(n x:Nat),x<256^s->de n (be s x)=n*256^s+x:=by
 induction s with
 |zero=>intro n x h;simp at h;simp[be,de,h]
 |succ s ih=>
  intro n x h;have e:de n (be (s+1) x)=de (n*256+(BitVec.ofNat 8 (x/256^s)).toNat) (be s x):=rfl;have hp:0<256^s:=Nat.pow_pos aB;have cL:x/256^s<256:=by
   rw[Nat.div_lt_iff_lt_mul hp,Nat.mul_comm,<-Nat.pow_succ];exact h
  have hb:be s x=be s (x%256^s):=by
   have key:∀j,j<=s->be j x=be j (x%256^s):=by
    intro j
    induction j with
    |zero=>intro _;rfl
    |succ j ihj=>
     intro hj;simp only[be];rw[ihj aB];congr 1;apply BitVec.eq_of_toNat_eq;simp only[BitVec.toNat_ofNat];have hs:(256:Nat)^s=256^j*256^(s-j):=by rw[<-Nat.pow_add];congr 1;omega
     have h2:x%256^s/256^j=x/256^j%256^(s-j):=by
      rw[hs,Nat.mod_mul_right_div_self]
     rw[h2,show(2:Nat)^8=256 from rfl];have h3:(256:Nat) ∣ 256^(s-j):=by
      rw[show s-j=(s-j-1)+1 by omega,Nat.pow_succ];exact Nat.dvd_mul_left _ _
     rw[Nat.mod_mod_of_dvd _ h3]
   exact key s (iX _)
  rw[e,hb,ih _ _ (Nat.mod_lt _ hp),BitVec.toNat_ofNat,Nat.mod_eq_of_lt (by simpa using cL)];have:=Nat.div_add_mod x (256^s);rw[Nat.pow_succ]
  calc (n*256+x/256^s)*256^s+x%256^s=n*(256^s*256)+(256^s*(x/256^s)+x%256^s):=by rw[Nat.add_mul,Nat.mul_assoc,Nat.mul_comm 256 (256^s),Nat.mul_comm (x/256^s),Nat.add_assoc]
   _=n*(256^s*256)+x:=by rw[this]
def kS(m:iJ):List cH:=
 be 1 m.kind.toNat++
 if m.kind=1 then be 2 m.pos.toNat++be 2 m.LM.toNat
 else if m.kind=2\/m.kind=9 then be 2 m.pos.toNat
 else if m.kind=5 then be 5 m.mE.toNat++be 2 m.cJ.length++m.cJ.flatMap (λe=>be 2 e.toNat)
 else if m.kind=7 then be 1 m.eV.cls.toNat++be 2 (m.eV.mC+1).toNat++be 5 m.eV.sE.toNat++be 5 m.eV.left.toNat
 else []
def u16(x:Int):Prop:=0<=x/\x<65536
def u32(x:Int):Prop:=0<=x/\x<4294967296
def u40(x:Int):Prop:=0<=x/\x<1099511627776
structure sO(m:iJ):Prop where
 kind:1<=m.kind/\m.kind<=9
 pos:if m.kind=1\/m.kind=2\/m.kind=9 then u16 m.pos else m.pos=0
 LM:if m.kind=1 then u16 m.LM else m.LM=0
 cJ:if m.kind=5 then m.cJ.length<=512/\∀e∈m.cJ,u16 e else m.cJ=[]
 mE:if m.kind=5 then u40 m.mE else m.mE=0
 eV:if m.kind=7 then(0<=m.eV.cls/\m.eV.cls<256)/\u16 (m.eV.mC+1)/\u40 m.eV.sE/\u40 m.eV.left else m.eV=⟨0,0,0,0⟩
structure eR where
 aK:Int
 kind:Int
 seq:Int
 IY:Int
 code:Int
 body:List cH
structure Re(g:eR):Prop where
 kind:g.kind=1\/g.kind=2\/g.kind=3
 aK:u32 g.aK
 seq:if g.kind=1 then u32 g.seq else g.seq=0
 IY:if g.kind=3 then g.IY=0 else u32 g.IY
 code:if g.kind=3 then 0<=g.code/\g.code<256 else g.code=0
 body:if g.kind=1 then g.body.length<=1900 else g.body=[]
def nC(g:eR):List cH:=
 be 4 g.aK.toNat++if g.kind=1 then be 4 g.seq.toNat++be 4 g.IY.toNat++g.body else if g.kind=2 then be 4 g.IY.toNat else be 1 g.code.toNat
def fQ(kind:Int)(b:List cH):List cH:=be 1 77++be 1 3++be 1 kind.toNat++be 2 b.length++b
def wS(kind:Int)(b:List cH):List cH:=fQ kind b++be 4 (yC (fQ kind b)).toNat
def GU(g:eR):List cH:=wS g.kind (nC g)
section
def Xf(w:aH)(S:BS)(B:As)(R:As->As):Prop:=∃S1,B w S1/\(∀k,S1 k->S k)/\∀B' D M w' BC,aY M w w'->(∀k,M k->S1 k\/¬S k)->(∀k,BC k->S1 k\/¬S k)->aZ B' D w' BC->∃S',aZ (R B') D w' S'/\∀k,S' k->(S k/\¬S1 k)\/BC k
section
variable{A B C L:As}{w:aH}{S:BS}{R R':As->As}
theorem aZ.lG[bF B](h:aZ A B w S):Xf w S A λX=>aZ X B:=by
 obtain⟨S1,S2,h1,h2,d,e⟩:=h;refine⟨S1,h1,λk hk=>(e k).2 (.inl hk),λA' D M w' T m hM hT' hT=>?_⟩;obtain⟨T1,T2,a,b,d',e'⟩:=hT;have n2:∀k,S1 k\/¬S k->¬S2 k:=λk hk h=>hk.elim (λh1=>d k h1 h) λhn=>hn ((e k).2 (.inr h));have dd:∀k,T k->¬S2 k:=λk hk=>n2 k (hT' k hk);refine⟨λk=>(T1 k\/S2 k)\/T2 k,⟨λk=>T1 k\/S2 k,T2,⟨T1,S2,a,bF.aL h2 m λk hk lT=>n2 k (hM k lT) hk,λk h1 h2=>dd k ((e' k).2 (.inl h1)) h2,λ_=>Iff.rfl⟩,b,λk h1 h2=>h1.elim (λh=>d' k h h2) λh=>dd k ((e' k).2 (.inr h2)) h,λ_=>Iff.rfl⟩,λk hk=>?_⟩;rcases hk with(hk|hk)|hk
 ·exact .inr ((e' k).2 (.inl hk))
 ·exact .inl ⟨(e k).2 (.inr hk),λh=>d k h hk⟩
 ·exact .inr ((e' k).2 (.inr hk))
theorem aZ.rG[bF A](h:aZ A B w S):Xf w S B λX=>aZ A X:=by
 obtain⟨S1,h1,hs,dN⟩:=aZ.lG h.cm;refine⟨S1,h1,hs,λB' D M w' T m hM hT' hT=>?_⟩;obtain⟨S',h',u'⟩:=dN B' D M w' T m hM hT' hT;exact⟨S',h'.mono (λ_ h=>h.cm) λ_ h=>h,u'⟩
theorem Xf.c(f:Xf w S B R)(g:∀T,B w T->Xf w T C R'):Xf w S C λX=>R (R' X):=by
 obtain⟨S1,h1,hs,dN⟩:=f;obtain⟨S2,h2,IT,GZ⟩:=g S1 h1;refine⟨S2,h2,λk hk=>hs k (IT k hk),λB' D M w' T m hM hT' hT=>?_⟩;obtain⟨T',h',u'⟩:=GZ B' D M w' T m (λk hk=>(hM k hk).imp id λh h1=>h (hs k h1)) (λk hk=>(hT' k hk).imp id λh h1=>h (hs k h1)) hT;obtain⟨T2,h3,u3⟩:=dN _ D M w' T' m (λk hk=>(hM k hk).imp (IT k) id) (λk hk=>(u' k hk).elim (λh=>.inl h.1) λh=>(hT' k h).imp (IT k) id) h';refine⟨T2,h3,λk hk=>?_⟩;rcases u3 k hk with h|h
 ·exact .inl ⟨h.1,λh2=>h.2 (IT k h2)⟩
 ·rcases u' k h with h|h
  ·exact .inl ⟨hs k h.1,h.2⟩
  ·exact .inr h
end
theorem wI.atG{α:Type}{f:α->As}[h:∀x,bF (f x)]:∀{l:List α} {i:Nat} {x:α} {w:aH} {S:BS},wI f l w S->l[i]? =some x->Xf w S (f x) λX=>Bh f X l i
 |y::r,0,x,w,S,hA,hx=>by cases hx;exact aZ.lG hA
 |y::r,i+1,x,w,S,hA,hx=>Xf.c (aZ.rG hA) λT hT=>wI.atG (l:=r) (i:=i) hT (by simpa using hx)
end
end Go.Den
namespace Go.Den
open Go Go.MapKept
section
def yZ(a:Nat):Value:=.pointer (some ⟨a,0,none⟩)
def zF(w:aH)(k:Nat):Prop:=∃cs e,w.heap[k]? =some (.cells cs e (0,0))
theorem cW.Sq{w:aH}{g:Nat}{e:TypeId}{cs:List Value}(h:cW w g e cs):zF w g:=⟨_,_,h⟩
structure aAn(P:Program)(kt:TypeId):Prop where
 ex:∃te n,P.underlying kt=some (.pointer te)/\(P.info? te).map (·.size)=some n/\n≠0
theorem aAL(x:Nat):Instr.sameBits 10000 (yZ x) (yZ x)=true:=by simp[Instr.sameBits,yZ]
section
variable{P:Program}{kt:TypeId}
theorem PD(hp:aAn P kt)(e:Bool)(x:Nat)(w:aH):(Instr.checkKey e 10000 kt (yZ x)).run P w=.ok () w:=by
 obtain⟨te,n,h1,_⟩:=hp.ex;unfold Instr.checkKey;simp[run_underlying h1,yZ]
theorem uq(hp:aAn P kt)(w:aH)(x:Nat)(hx:zF w x)(l:List MapEntry)(ks:List Nat)(ia:∀k∈ks,zF w k)(h:l.map (·.key)=ks.map yZ):
  (x∉ks/\(Instr.findKey kt (yZ x) l).run P w=.ok none w)\/∃j e,ks[j]? =some x/\l[j]? =some e/\(Instr.findKey kt (yZ x) l).run P w=.ok (some (j,e.val)) w:=by
 obtain⟨te,n,hd,hte,hn⟩:=hp.ex;have LP:∀w,(sizeOf te).run P w=.ok n w:=λw=>by
  cases hq:P.info? te with
  |none=>rw[hq] at hte;cases hte
  |some i=>rw[hq] at hte;simp at hte;rw[yS hq w,hte]
 have heq:∀q,zF w q->(Op.equal kt (yZ x) (yZ q)).run P w=.ok (decide (x=q)) w:=λq hq=>by
  unfold Op.equal Op.maxDepth Op.equalIn yZ;simp only[Sem.run_bind,run_underlying hd,LP,Result.andThen_ok]
  by_cases hxq:x=q
  ·subst hxq
   simp[hn,run_sameAddr_same]
  ·obtain⟨c1,e1,g1⟩:=hx
   obtain⟨c2,e2,g2⟩:=hq;have gH:(⟨x,0,none⟩:Addr)≠⟨q,0,none⟩:=λh=>hxq (by injection h);simp[hn,run_sameAddr_other w gH g1 g2,hxq]
 have ask:∀(l:List MapEntry) (ks:List Nat) (i:Nat),(∀k∈ks,zF w k)->l.map (·.key)=ks.map yZ->
   (x∉ks/\(Instr.findAsking kt (yZ x) l i).run P w=.ok none w)\/∃j e,ks[j]? =some x/\l[j]? =some e/\(Instr.findAsking kt (yZ x) l i).run P w=.ok (some (i+j,e.val)) w:=by
  intro l
  induction l with
  |nil=>intro ks i _ h;cases ks with
   |nil=>exact .inl ⟨by simp,by simp[Instr.findAsking]⟩
   |cons=>simp at h
  |cons en l ih=>
   intro ks i hc h;cases ks with
   |nil=>simp at h
   |cons q ks=>
    simp only[List.map_cons,List.cons.injEq] at h;have h0:=heq q (hc q dJ);rw[<-h.1] at h0
    by_cases hq:x=q
    ·refine .inr ⟨0,en,by simp[hq],rfl,?_⟩
     rw[hq] at h0;simp[Instr.findAsking,h0,hq]
    ·have qH:(Instr.findAsking kt (yZ x) (en::l) i).run P w=(Instr.findAsking kt (yZ x) l (i+1)).run P w:=by
      simp[Instr.findAsking,h0,hq]
     rcases ih ks (i+1) (λk hk=>hc k (by simp[hk])) h.2 with⟨h1,h2⟩|⟨j,e',h1,h2,h3⟩
     ·exact .inl ⟨by simp[hq,h1],by rw[qH];exact h2⟩
     ·exact .inr ⟨j+1,e',by simpa using h1,by simpa using h2,by rw[qH,h3,show i+1+j=i+(j+1) by omega]⟩
 have key:(Instr.findKey kt (yZ x) l).run P w=(Instr.findAsking kt (yZ x) l 0).run P w:=by
  unfold Instr.findKey;cases l with
  |nil=>simp[run_underlying hd,Instr.findNow,Instr.findAsking]
  |cons en l=>
   have:Instr.findNow (.pointer te) (yZ x) (en::l) 0=none:=by simp[Instr.findNow,Instr.sameNow,yZ]
   simp[run_underlying hd,this]
 rw[key];simpa using ask l ks 0 ia h
end
section
variable{P:Program}{w:aH}{r:Nat}{kn:oH}{f:Nat->Option kn.T}{n:Nat}
theorem jT.uq{kt:TypeId}(hp:aAn P kt)(h:jT w r yZ kn f n)(x:Nat)(w':aH)(hc:∀k,(f k).isSome=true->zF w' k)(hx:zF w' x):∃(es:Array MapEntry) (DW:Nat) (l:List (Nat×kn.T)),w.heap[r]? =some (.map es DW)/\es.toList.map (·.key)=l.map (λp=>yZ p.1)/\es.toList.map (·.val)=l.map (λp=>kn.aX p.2)/\(l.map (·.1)).Nodup/\(∀x,f x=wM l x)/\l.length=n/\QH es DW/\
  ((x∉l.map (·.1)/\f x=none/\(Instr.findKey kt (yZ x) es.toList).run P w'=.ok none w')\/∃j v,f x=some v/\l[j]? =some (x,v)/\j<es.size/\(es.toList[j]?).map (·.key)=some (yZ x)/\(Instr.findKey kt (yZ x) es.toList).run P w'=.ok (some (j,kn.aX v)) w'):=by
 obtain⟨es,c,l,h1,h2,h3,h4,h5,h6,hB⟩:=h;refine⟨es,c,l,h1,h2,h3,h4,h5,h6,hB,?_⟩;rcases Go.Den.uq hp w' x hx es.toList (l.map (·.1)) (λk hk=>hc k (by rw[h5,HD];exact hk)) (by rw[h2,List.map_map];rfl) with⟨g1,g2⟩|⟨j,e,g1,g2,g3⟩
 ·exact .inl ⟨g1,by rw[h5,HO g1],g2⟩
 ·right
  rw[mY] at g1;cases hj:l[j]? with
  |none=>rw[hj] at g1;cases g1
  |some p=>
   rw[hj] at g1;have hp:p.1=x:=by simpa using g1
   obtain⟨y,v⟩:=p;simp only at hp;subst hp;have hv:e.val=kn.aX v:=by
    have:(es.toList.map (·.val))[j]? =some e.val:=by rw[mY,g2];rfl
    rw[h3,mY,hj] at this;simpa using this.symm
   have tP:(es.toList[j]?).map (·.key)=some (yZ y):=by
    have:(es.toList.map (·.key))[j]? =some (yZ y):=by rw[h2,mY,hj];rfl
    rwa[mY] at this
   refine⟨j,v,by rw[h5,ZN h4 hj],hj,by simpa using(kY.1 g2).1,tP,by rw[<-hv];exact g3⟩
theorem aAO{kt et:TypeId}{t:TypeId}(ht:P.underlying t=some (.map kt et))(hp:aAn P kt){z:kn.T}(hz:(P.info? et).map (·.zero)=some (some (kn.aX z)))(h:jT w r yZ kn f n)(x:Nat)(hc:∀k,(f k).isSome=true->zF w k)(hx:zF w x){Q:kn.T->aH->Prop}
  (hQ:Q ((f x).getD z) w):kF P kn t (.map (some r)) (yZ x) w Q:=by
 obtain⟨es,c,l,h1,h2,h3,h4,h5,h6,hB,hf⟩:=h.uq hp x w hc hx;have hzv:(zeroValue et).run P w=.ok (kn.aX z) w:=by
  cases hq:P.info? et with
  |none=>rw[hq] at hz;cases hz
  |some i=>rw[hq] at hz;simp at hz;simp[zeroValue,typeInfo,hq,hz]
 rcases hf with⟨_,g,qH⟩|⟨j,v,g,_,_,_,qH⟩
 ·rw[g] at hQ
  exact⟨z,w,by simp[Instr.lookup,run_underlying ht,MapKept.run_getObj_map h1,PD hp,qH,hzv],hQ⟩
 ·rw[g] at hQ
  exact⟨v,w,by simp[Instr.lookup,run_underlying ht,MapKept.run_getObj_map h1,PD hp,qH],hQ⟩
theorem update_p{kt et:TypeId}{t:TypeId}(ht:P.underlying t=some (.map kt et))(hp:aAn P kt)(h:jT w r yZ kn f n)(x:Nat)(v:kn.T)(hc:∀k,(f k).isSome=true->zF w k)(hx:zF w x){Q:aH->Prop}
  (hQ:∀w',jT w' r yZ kn (λy=>if y=x then some v else f y) (if(f x).isSome then n else n+1)->aY (λk=>k=r) w w'->w'.heap.size=w.heap.size->Q w'):fF P t (.map (some r)) (yZ x) (kn.aX v) w Q:=by
 obtain⟨es,c,l,h1,h2,h3,h4,h5,h6,hB,hf⟩:=h.uq hp x w hc hx;rcases hf with⟨An,g,qH⟩|⟨j,u,g,hj,hjs,tP,qH⟩
 ·refine⟨{w with heap:=w.heap.setIfInBounds r (.map (es.push {key:=yZ x,val:=kn.aX v,born:=c}) (c+1))},by simp[Instr.mapUpdate,run_underlying ht,MapKept.run_getObj_map h1,PD hp,qH,run_setObj_map _ h1],hQ _ ?_ (kV w r _) dJ⟩
  refine⟨_,_,l++[(x,v)],(heap_set h1).1,by simp[h2],by simp[h3],?_,λy=>?_,by rw[g];simp[h6],hB.push _ _⟩
  ·rw[yA,List.nodup_append]
   exact⟨h4,by simp,λa ha b hb=>by simp at hb;subst hb;exactλe=>An (e▸ha)⟩
  ·show(if y=x then some v else f y)=_
   rw[EE An y,h5]
 ·obtain⟨e,he⟩:∃e,es.toList[j]? =some e:=⟨_,gU (by simpa using hjs)⟩
  have hek:e.key=yZ x:=by rw[he] at tP;simpa using tP
  have hea:es[j]? =some e:=by simpa using he
  refine⟨{w with heap:=w.heap.setIfInBounds r (.map (es.modify j λe=>{e with key:=yZ x,val:=kn.aX v}) c)},by simp[Instr.mapUpdate,run_underlying ht,MapKept.run_getObj_map h1,PD hp,qH,run_setObj_map _ h1,Instr.keyThatStays,hea,hek,aAL],hQ _ ?_ (kV w r _) dJ⟩;refine⟨_,_,l.set j (x,v),(heap_set h1).1,?_,?_,?_,λy=>?_,by rw[g];simp[h6],hB.modify j (λe=>{e with key:=yZ x,val:=kn.aX v}) λ_=>rfl⟩
  ·rw[OH es j _ _ tP,h2]
   apply BH;intro i;simp only[mY,wC]
   by_cases hi:j=i
   ·subst hi
    have cL:=(kY.1 hj).1;rw[hj];simp[cL]
   ·simp[hi]
  ·rw[OG,h3,List.map_set]
  ·have:(l.set j (x,v)).map (·.1)=l.map (·.1):=by
    apply BH;intro i;simp only[mY,wC]
    by_cases hi:j=i
    ·subst hi
     have cL:=(kY.1 hj).1;rw[hj];simp[cL]
    ·simp[hi]
   rw[this];exact h4
  ·show(if y=x then some v else f y)=_
   rw[WU h4 (by rw[hj];rfl) y,h5]
theorem aA2{K:Type}[DecidableEq K]{ek:K->Value}{f:K->Option kn.T}{t k e:TypeId}(ht:P.underlying t=some (.map k e))(h:jT w r ek kn f n){Q:aH->Prop}
  (hQ:∀w',jT w' r ek kn (λ_=>none) 0->aY (λk=>k=r) w w'->w'.heap.size=w.heap.size->Q w'):CB P t (.map (some r)) w Q:=by
 obtain⟨es,c,l,h1,_⟩:=h;refine⟨(),{w with heap:=w.heap.setIfInBounds r (.map #[] c)},?_,hQ _ ⟨#[],c,[],(heap_set h1).1,rfl,rfl,List.nodup_nil,λ_=>rfl,rfl,by simp,List.nodup_nil⟩ (kV w r _) dJ⟩;simp[Builtin.clear_,run_underlying ht,MapKept.run_getObj_map h1,run_setObj_map _ h1,zD]
end
end
end Go.Den
namespace Go.Den
open Go
section
set_option linter.unusedSectionVars false
def gF{ι:Type}(A:ι->As):As:=λw S=>∃gN:Nat->Option ι,(∀i,A i w (λk=>gN k=some i))/\∀k,S k↔∃i,gN k=some i
instance gF.loc{ι:Type}{A:ι->As}[h:∀i,bF (A i)]:bF (gF A):=⟨
 λ⟨gN,ha,e⟩ k hk=>by obtain⟨i,hi⟩:=(e k).1 hk;exact(h i).gI (ha i) k hi,
 λ⟨gN,ha,e⟩ m hn=>⟨gN,λi=>(h i).aL (ha i) m λk hk=>hn k ((e k).2 ⟨i,hk⟩),e⟩⟩
theorem As.ext{A:As}{w:aH}{S T:BS}(h:A w S)(e:∀k,S k↔T k):A w T:=by
 have:S=T:=funext λk=>propext (e k);rwa[<-this]
section
variable{ι:Type}[DecidableEq ι]{A:ι->As}{w:aH}{S:BS}
abbrev EX(A:ι->As)(i:ι)(X:As):ι->As:=λj=>if j=i then X else A j
omit [DecidableEq ι] in
theorem gF.get(h:gF A w S)(i:ι):∃S1,A i w S1/\∀k,S1 k->S k:=by
 obtain⟨gN,ha,e⟩:=h;exact⟨_,ha i,λk hk=>(e k).2 ⟨i,hk⟩⟩
theorem gF.at2[hl:∀i,bF (A i)](h:gF A w S){i j:ι}(RW:i≠j):∃S1,aZ (A i) (A j) w S1/\(∀k,S1 k->S k)/\∀B C D w' T,Up S1 T w w'->aZ (aZ B C) D w' T->∃S',aZ (gF (EX (EX A i B) j C)) D w' S'/\Up S S' w w':=by
 have hb:=bF.gI h;obtain⟨gN,ha,e⟩:=h;refine⟨λk=>gN k=some i\/gN k=some j,aZ.vZ (ha i) (ha j) λk h1 h2=>RW (uZ (h1.symm.trans h2)),λk hk=>(e k).2 (hk.elim (λh=>⟨_,h⟩) λh=>⟨_,h⟩),λB C D w' T u hT=>?_⟩;obtain⟨TX,TD,⟨TB,TC,hB,hC,dBC,eBC⟩,hD,dXD,eXD⟩:=hT;have hs:∀k,T k->(gN k=some i\/gN k=some j)\/w.heap.size<=k:=u.s;have IW:∀k,gN k≠none->k<w.heap.size:=λk hk=>by
  cases ho:gN k with
  |none=>exact absurd ho hk
  |some x=>exact hb k ((e k).2 ⟨x,ho⟩)
 let qO:Nat->Option ι:=λk=>@ite _ (TB k) (Classical.propDecidable _) (some i) (@ite _ (TC k) (Classical.propDecidable _) (some j) (if gN k=some i\/gN k=some j then none else gN k))
 have oB:∀k,TB k->qO k=some i:=λk hk=>by simp only[qO];rw[if_pos hk]
 have oC:∀k,TC k->qO k=some j:=λk hk=>by simp only[qO];rw[if_neg λh=>dBC k h hk,if_pos hk]
 have oN:∀k,¬TB k->¬TC k->qO k=if gN k=some i\/gN k=some j then none else gN k:=λk h1 h2=>by simp only[qO];rw[if_neg h1,if_neg h2]
 have inv:∀k x,qO k=some x->(x=i/\TB k)\/(x=j/\TC k)\/(x≠i/\x≠j/\gN k=some x/\¬TB k/\¬TC k):=λk x hx=>by
  by_cases h1:TB k
  ·rw[oB k h1] at hx;cases hx;exact .inl ⟨rfl,h1⟩
  ·by_cases h2:TC k
   ·rw[oC k h2] at hx;cases hx;exact .inr (.inl ⟨rfl,h2⟩)
   ·rw[oN k h1 h2] at hx
    split at hx
    ·cases hx
    ·rename_i hn
     exact .inr (.inr ⟨λe=>hn (.inl (e▸hx)),λe=>hn (.inr (e▸hx)),hx,h1,h2⟩)
 have old:∀k x,gN k=some x->x≠i->x≠j->¬T k:=λk x hx h1 h2 hT=>by
  rcases hs k hT with(h|h)|h
  ·exact h1 (uZ (hx.symm.trans h))
  ·exact h2 (uZ (hx.symm.trans h))
  ·have:=IW k (by rw[hx];simp);omega
 have TT:∀k,TB k\/TC k->T k:=λk hk=>(eXD k).2 (.inl ((eBC k).2 hk));refine⟨λk=>(∃x,qO k=some x)\/TD k,⟨λk=>∃x,qO k=some x,TD,⟨qO,λx=>?_,λ_=>Iff.rfl⟩,hD,λk ⟨x,hx⟩ hd=>?_,λ_=>Iff.rfl⟩,u.m.mono λk _ hk=>(e k).2 (hk.elim (λh=>⟨_,h⟩) λh=>⟨_,h⟩),λk hk=>?_⟩
 ·by_cases hj:x=j
  ·subst hj
   simp only[EX,if_pos];exact As.ext hC λk=>⟨oC k,λhx=>by
    rcases inv k _ hx with⟨h,_⟩|⟨_,h⟩|⟨_,h,_⟩
    ·exact absurd h.symm RW
    ·exact h
    ·exact absurd rfl h⟩
  ·by_cases hi:x=i
   ·subst hi
    simp only[EX,if_neg hj,if_pos];exact As.ext hB λk=>⟨oB k,λhx=>by
     rcases inv k _ hx with⟨_,h⟩|⟨h,_⟩|⟨h,_⟩
     ·exact h
     ·exact absurd h RW
     ·exact absurd rfl h⟩
   ·simp only[EX,if_neg hj,if_neg hi]
    have h0:=(hl x).aL (ha x) u.m λk hk lT=>by
     rcases lT with h|h
     ·exact hi (uZ (hk.symm.trans h))
     ·exact hj (uZ (hk.symm.trans h))
    refine As.ext h0 λk=>⟨λhx=>?_,λhx=>?_⟩
    ·have hT:=old k x hx hi hj
     rw[oN k (λh=>hT (TT k (.inl h))) (λh=>hT (TT k (.inr h))),if_neg,hx];rintro(h|h)
     ·exact hi (uZ (hx.symm.trans h))
     ·exact hj (uZ (hx.symm.trans h))
    ·rcases inv k x hx with⟨h,_⟩|⟨h,_⟩|⟨_,_,h,_⟩
     ·exact absurd h hi
     ·exact absurd h hj
     ·exact h
 ·rcases inv k x hx with⟨_,h⟩|⟨_,h⟩|⟨h1,h2,h3,_⟩
  ·exact dXD k ((eBC k).2 (.inl h)) hd
  ·exact dXD k ((eBC k).2 (.inr h)) hd
  ·exact old k x h3 h1 h2 ((eXD k).2 (.inr hd))
 ·have toS:T k->S k\/w.heap.size<=k:=λhT=>(hs k hT).imp (λh=>(e k).2 (h.elim (λh=>⟨_,h⟩) λh=>⟨_,h⟩)) id
  rcases hk with⟨x,hx⟩|hk
  ·rcases inv k x hx with⟨_,h⟩|⟨_,h⟩|⟨_,_,h,_⟩
   ·exact toS (TT k (.inl h))
   ·exact toS (TT k (.inr h))
   ·exact .inl ((e k).2 ⟨x,h⟩)
  ·exact toS ((eXD k).2 (.inr hk))
theorem gF.at2X[hl:∀i,bF (A i)](h:gF A w S){i j:ι}(RW:i≠j):∃S1,aZ (A i) (A j) w S1/\(∀k,S1 k->S k)/\∀B C M w' T,aY M w w'->(∀k,M k->S1 k\/¬S k)->(∀k,T k->S1 k\/¬S k)->aZ B C w' T->∃S',gF (EX (EX A i B) j C) w' S'/\∀k,S' k↔(S k/\¬S1 k)\/T k:=by
 obtain⟨gN,ha,e⟩:=h;refine⟨λk=>gN k=some i\/gN k=some j,aZ.vZ (ha i) (ha j) λk h1 h2=>RW (uZ (h1.symm.trans h2)),λk hk=>(e k).2 (hk.elim (λh=>⟨_,h⟩) λh=>⟨_,h⟩),λB C M w' T m hM hT' hT=>?_⟩;obtain⟨TB,TC,hB,hC,dBC,eBC⟩:=hT
 let qO:Nat->Option ι:=λk=>@ite _ (TB k) (Classical.propDecidable _) (some i) (@ite _ (TC k) (Classical.propDecidable _) (some j) (if gN k=some i\/gN k=some j then none else gN k))
 have oB:∀k,TB k->qO k=some i:=λk hk=>by simp only[qO];rw[if_pos hk]
 have oC:∀k,TC k->qO k=some j:=λk hk=>by simp only[qO];rw[if_neg λh=>dBC k h hk,if_pos hk]
 have oN:∀k,¬TB k->¬TC k->qO k=if gN k=some i\/gN k=some j then none else gN k:=λk h1 h2=>by simp only[qO];rw[if_neg h1,if_neg h2]
 have inv:∀k x,qO k=some x->(x=i/\TB k)\/(x=j/\TC k)\/(x≠i/\x≠j/\gN k=some x/\¬TB k/\¬TC k):=λk x hx=>by
  by_cases h1:TB k
  ·rw[oB k h1] at hx;cases hx;exact .inl ⟨rfl,h1⟩
  ·by_cases h2:TC k
   ·rw[oC k h2] at hx;cases hx;exact .inr (.inl ⟨rfl,h2⟩)
   ·rw[oN k h1 h2] at hx
    split at hx
    ·cases hx
    ·rename_i hn
     exact .inr (.inr ⟨λe=>hn (.inl (e▸hx)),λe=>hn (.inr (e▸hx)),hx,h1,h2⟩)
 have old:∀k x,gN k=some x->x≠i->x≠j->¬((gN k=some i\/gN k=some j)\/¬S k):=λk x hx h1 h2 hT=>by
  rcases hT with(h|h)|h
  ·exact h1 (uZ (hx.symm.trans h))
  ·exact h2 (uZ (hx.symm.trans h))
  ·exact h ((e k).2 ⟨x,hx⟩)
 have TT:∀k,TB k\/TC k->T k:=λk hk=>(eBC k).2 hk;refine⟨λk=>∃x,qO k=some x,⟨qO,λx=>?_,λ_=>Iff.rfl⟩,λk=>⟨?_,?_⟩⟩
 ·by_cases hj:x=j
  ·subst hj
   simp only[EX,if_pos];exact As.ext hC λk=>⟨oC k,λhx=>by
    rcases inv k _ hx with⟨h,_⟩|⟨_,h⟩|⟨_,h,_⟩
    ·exact absurd h.symm RW
    ·exact h
    ·exact absurd rfl h⟩
  ·by_cases hi:x=i
   ·subst hi
    simp only[EX,if_neg hj,if_pos];exact As.ext hB λk=>⟨oB k,λhx=>by
     rcases inv k _ hx with⟨_,h⟩|⟨h,_⟩|⟨h,_⟩
     ·exact h
     ·exact absurd h RW
     ·exact absurd rfl h⟩
   ·simp only[EX,if_neg hj,if_neg hi]
    have h0:=(hl x).aL (ha x) m λk hk lT=>old k x hk hi hj (hM k lT);refine As.ext h0 λk=>⟨λhx=>?_,λhx=>?_⟩
    ·have hT:¬T k:=λht=>old k x hx hi hj (hT' k ht)
     rw[oN k (λh=>hT (TT k (.inl h))) (λh=>hT (TT k (.inr h))),if_neg,hx];rintro(h|h)
     ·exact hi (uZ (hx.symm.trans h))
     ·exact hj (uZ (hx.symm.trans h))
    ·rcases inv k x hx with⟨h,_⟩|⟨h,_⟩|⟨_,_,h,_⟩
     ·exact absurd h hi
     ·exact absurd h hj
     ·exact h
 ·rintro⟨x,hx⟩
  rcases inv k x hx with⟨_,h⟩|⟨_,h⟩|⟨h1,h2,h,_⟩
  ·exact .inr (TT k (.inl h))
  ·exact .inr (TT k (.inr h))
  ·exact .inl ⟨(e k).2 ⟨x,h⟩,λh'=>h'.elim (λh'=>h1 (uZ (h.symm.trans h'))) λh'=>h2 (uZ (h.symm.trans h'))⟩
 ·rintro(⟨h,hn⟩|h)
  ·obtain⟨x,hx⟩:=(e k).1 h
   by_cases h1:TB k
   ·exact⟨i,oB k h1⟩
   ·by_cases h2:TC k
    ·exact⟨j,oC k h2⟩
    ·exact⟨x,by rw[oN k h1 h2,if_neg hn];exact hx⟩
  ·rcases(eBC k).1 h with h|h
   ·exact⟨i,oB k h⟩
   ·exact⟨j,oC k h⟩
theorem gF.at[hl:∀i,bF (A i)](h:gF A w S)(i:ι):Wp w S (A i) λX=>gF (EX A i X):=by
 have hb:=bF.gI h;obtain⟨gN,ha,e⟩:=h;refine⟨λk=>gN k=some i,ha i,λk hk=>(e k).2 ⟨_,hk⟩,λB D w' T u hT=>?_⟩;obtain⟨TB,TD,hB,hD,dBD,eBD⟩:=hT;have IW:∀k x,gN k=some x->k<w.heap.size:=λk x hk=>hb k ((e k).2 ⟨x,hk⟩)
 let qO:Nat->Option ι:=λk=>@ite _ (TB k) (Classical.propDecidable _) (some i) (if gN k=some i then none else gN k)
 have oB:∀k,TB k->qO k=some i:=λk hk=>by simp only[qO];rw[if_pos hk]
 have oN:∀k,¬TB k->qO k=if gN k=some i then none else gN k:=λk h1=>by simp only[qO];rw[if_neg h1]
 have inv:∀k x,qO k=some x->(x=i/\TB k)\/(x≠i/\gN k=some x/\¬TB k):=λk x hx=>by
  by_cases h1:TB k
  ·rw[oB k h1] at hx;cases hx;exact .inl ⟨rfl,h1⟩
  ·rw[oN k h1] at hx
   split at hx
   ·cases hx
   ·rename_i hn
    exact .inr ⟨λe=>hn (e▸hx),hx,h1⟩
 have old:∀k x,gN k=some x->x≠i->¬T k:=λk x hx h1 hT=>by
  rcases u.s k hT with h|h
  ·exact h1 (uZ (hx.symm.trans h))
  ·have:=IW k x hx;omega
 refine⟨λk=>(∃x,qO k=some x)\/TD k,⟨λk=>∃x,qO k=some x,TD,⟨qO,λx=>?_,λ_=>Iff.rfl⟩,hD,λk ⟨x,hx⟩ hd=>?_,λ_=>Iff.rfl⟩,u.m.mono λk _ hk=>(e k).2 ⟨_,hk⟩,λk hk=>?_⟩
 ·by_cases hi:x=i
  ·subst hi
   simp only[EX,if_pos];exact As.ext hB λk=>⟨oB k,λhx=>by
    rcases inv k _ hx with⟨_,h⟩|⟨h,_⟩
    ·exact h
    ·exact absurd rfl h⟩
  ·simp only[EX,if_neg hi]
   have h0:=(hl x).aL (ha x) u.m λk hk lT=>hi (uZ (hk.symm.trans lT));refine As.ext h0 λk=>⟨λhx=>?_,λhx=>?_⟩
   ·have hT:=old k x hx hi
    rw[oN k (λh=>hT ((eBD k).2 (.inl h))),if_neg,hx]
    exactλh=>hi (uZ (hx.symm.trans h))
   ·rcases inv k x hx with⟨h,_⟩|⟨_,h,_⟩
    ·exact absurd h hi
    ·exact h
 ·rcases inv k x hx with⟨_,h⟩|⟨h1,h3,_⟩
  ·exact dBD k h hd
  ·exact old k x h3 h1 ((eBD k).2 (.inr hd))
 ·have toS:T k->S k\/w.heap.size<=k:=λhT=>(u.s k hT).imp (λh=>(e k).2 ⟨_,h⟩) id
  rcases hk with⟨x,hx⟩|hk
  ·rcases inv k x hx with⟨_,h⟩|⟨_,h,_⟩
   ·exact toS ((eBD k).2 (.inl h))
   ·exact .inl ((e k).2 ⟨x,h⟩)
  ·exact toS ((eBD k).2 (.inr hk))
theorem gF.nil(w:aH):gF (λ_:ι=>DO) w (λ_=>False):=⟨λ_=>none,λi k hk=>(by cases hk),λk=>⟨False.elim,λ⟨i,hi⟩=>by cases hi⟩⟩
theorem gF.put{T:BS}{i:ι}{X:As}(h:gF A w S)(hi:A i=DO)(hX:X w T)(hd:∀k,S k->T k->False):gF (EX A i X) w (λk=>S k\/T k):=by
 obtain⟨gN,ha,e⟩:=h;have h0:∀k,gN k≠some i:=λk hk=>by have:=ha i;rw[hi] at this;exact this k hk
 let qO:Nat->Option ι:=λk=>@ite _ (T k) (Classical.propDecidable _) (some i) (gN k)
 have oT:∀k,T k->qO k=some i:=λk hk=>by simp only[qO];rw[if_pos hk]
 have oN:∀k,¬T k->qO k=gN k:=λk hk=>by simp only[qO];rw[if_neg hk]
 refine⟨qO,λx=>?_,λk=>⟨?_,?_⟩⟩
 ·by_cases hx:x=i
  ·subst hx
   simp only[EX,if_pos];exact As.ext hX λk=>⟨oT k,λh=>Classical.byContradiction λhn=>h0 k ((oN k hn).symm.trans h)⟩
  ·simp only[EX,if_neg hx]
   refine As.ext (ha x) λk=>⟨λh=>?_,λh=>?_⟩
   ·rw[oN k λhT=>hd k ((e k).2 ⟨x,h⟩) hT];exact h
   ·by_cases hT:T k
    ·rw[oT k hT] at h;exact absurd (uZ h).symm hx
    ·rw[oN k hT] at h;exact h
 ·rintro(h|h)
  ·obtain⟨x,hx⟩:=(e k).1 h
   exact⟨x,by rw[oN k λhT=>hd k h hT];exact hx⟩
  ·exact⟨i,oT k h⟩
 ·rintro⟨x,hx⟩
  by_cases hT:T k
  ·exact .inr hT
  ·exact .inl ((e k).2 ⟨x,by rw[<-oN k hT];exact hx⟩)
theorem gF.swap[hl:∀i,bF (A i)]{T:BS}(h:gF A w S)(i:ι){X:As}(hX:X w T)(hd:∀k,S k->T k->False):∃S',gF (EX A i X) w S'/\∀k,S' k->S k\/T k:=by
 obtain⟨gN,ha,e⟩:=h;have h0:gF (EX A i DO) w (λk=>∃j,(if gN k=some i then none else gN k)=some j):=by
  refine⟨λk=>if gN k=some i then none else gN k,λj=>?_,λk=>Iff.rfl⟩
  by_cases hj:j=i
  ·subst hj
   simp only[EX,if_pos];intro k hk
   split at hk
   ·cases hk
   ·exact absurd hk (by assumption)
  ·simp only[EX,if_neg hj]
   refine As.ext (ha j) λk=>⟨λh=>?_,λh=>?_⟩
   ·rw[if_neg (λh'=>hj (uZ (h.symm.trans h'))),h]
   ·split at h
    ·cases h
    ·exact h
 have DA:∀k,(∃j,(if gN k=some i then none else gN k)=some j)->S k:=λk ⟨j,hj⟩=>by
  split at hj
  ·cases hj
  ·exact(e k).2 ⟨j,hj⟩
 have h1:=gF.put h0 (i:=i) (by simp[EX]) hX λk h1 h2=>hd k (DA k h1) h2;have e1:EX (EX A i DO) i X=EX A i X:=by
  funext j
  by_cases hj:j=i<;>simp[EX,hj]
 rw[e1] at h1;exact⟨_,h1,λk hk=>hk.imp (DA k) id⟩
end
end
end Go.Den
