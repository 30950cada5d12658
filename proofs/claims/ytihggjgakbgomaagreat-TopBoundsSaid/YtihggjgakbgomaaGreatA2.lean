import Derived.ArgAppend
import Derived.WalkKit
import Derived.ProofKit
import Derived.OpenShut
import Derived.JoinedOf
import Derived.Handed
import Derived.WideKeyArgs
import Derived.ChangeSlices
import Derived.Laws.IdiomArrays
import Derived.Laws.BytesArg
import Derived.LaidEql
import Derived.Test.YtihggjgakbgomaaGreatA1
namespace Go.Den
open Go
section
structure nz{α:Type}(w:aH)(e:TypeId)(n:Nat)(aY:α->List Value)(s:Sl)(xs:List α):Prop where
 len:s.l=xs.length
 cap:s.l<=s.c
 max:s.c<=maxLen
 gN:s.c=0\/∃g pre dE,s.b=some ⟨g,pre.length,none⟩/\cW w g e (pre++(xs.flatMap aY++dE))/\(xs.flatMap aY++dE).length=s.c*n
section
variable{α:Type}{w w':aH}{e:TypeId}{n:Nat}{aY:α->List Value}{s:Sl}{xs:List α}
theorem dQ.veo(h:dQ w e n aY s xs):nz w e n aY s xs:=⟨h.len,h.cap,h.max,by
 rcases h.gN with⟨_,h⟩|⟨g,dE,h1,h2,h3⟩
 ·exact .inl h
 ·exact .inr ⟨g,[],dE,h1,h2,h3⟩⟩
theorem nz.rd(h:nz w e n aY s xs)(fZ:∀x,(aY x).length=n):Rd w s n aY xs:=by
 refine⟨h.len,h.cap,λi x hx=>?_⟩;have cJ:i<xs.length:=(kU.1 hx).1;rcases h.gN with h2|⟨g,pre,dE,hb,ho,hl⟩
 ·have:=h.len;have:=h.cap;omega
 ·refine⟨_,hb,?_⟩
  rw[aS];refine ho.holds λj v hv=>?_;rw[Ez aB,show pre.length+i*n+j-pre.length=i*n+j by omega];exact sU fZ xs i x j v dE hx hv
theorem nz.aK{F:BS}(h:nz w e n aY s xs)(hm:aW F w w')(hF:∀a,s.c≠0->s.b=some a->¬F a.block):nz w' e n aY s xs:=
 ⟨h.len,h.cap,h.max,by
  by_cases hc:s.c=0
  ·exact .inl hc
  ·exact .inr<|(h.gN.resolve_left hc).imp λg ⟨pre,dE,hb,ho,hl⟩=>⟨pre,dE,hb,ho.aK hm (hF _ hc hb),hl⟩⟩
theorem nz.Ud(h:nz w e n aY s xs){b:Addr}(hc:s.c≠0)(hb:s.b=some b):b.block<w.heap.size:=by
 obtain⟨g,pre,dE,h0,ho,_⟩:=h.gN.resolve_left hc;rw[hb] at h0;cases h0;exact ho.lt
theorem nz.tail{x:α}(h:nz w e n aY s (x::xs))(fZ:∀x,(aY x).length=n):nz w e n aY ⟨aR s.b s.c 1 n,s.l-1,s.c-1⟩ xs:=by
 have hl:=h.len;have hc:=h.cap;simp only[nU] at hl;refine⟨by show s.l-1=_;omega,by show s.l-1<=s.c-1;omega,by have:=h.max;show s.c-1<=_;omega,?_⟩
 by_cases h1:s.c=1
 ·exact .inl (by show s.c-1=0;omega)
 ·obtain⟨g,pre,dE,hb,ho,hl⟩:=h.gN.resolve_left aB
  refine .inr ⟨g,pre++aY x,dE,?_,?_,?_⟩
  ·show aR s.b s.c 1 n=_
   unfold aR;rw[if_neg h1,hb];simp[aS,fZ]
  ·simpa [sD] using ho
  ·simp only[EY,mL,fZ] at hl ⊢
   show _=(s.c-1)*n;rw[Nat.sub_mul,Nat.one_mul];omega
theorem append_o{P:Program}{t:TypeId}{bytes:Nat}{z:List Value}(hE:rE P t e n bytes z)(fZ:∀x,(aY x).length=n)(jW:∀x,∀u∈aY x,u.oneCell'=true)
  {x:Sl} {ys:List α} (hs:nz w e n aY s xs) (hx:Rd w x n aY ys) (h63:xs.length+ys.length<=9223372036854775807) (BV:(xs.length+ys.length)*bytes<=140737488355328) {K:Sl->aH->Prop}
  (hK:∀r w',nz w' e n aY r (xs++ys)->aW (λk=>s.c≠0/\∃a,s.b=some a/\k=a.block) w w'->(r.c≠0->(s.c≠0/\r.b=s.b)\/∃a,r.b=some a/\w.heap.size<=a.block)->K r w'):
  aX P t t s (.slice x.b x.l x.c) w K:=by
 obtain⟨i,zv,hi,hz,rfl,rfl,rfl⟩:=hE.info;have ht:=hE.under;have AV:=hs.rd fZ;obtain⟨sb,sl,sc⟩:=s;obtain⟨xb,xl,xc⟩:=x;have IM:sl=xs.length:=hs.len;have Ae:xl=ys.length:=hx.len;have hscap:sl<=sc:=hs.cap
 by_cases hy:ys=[]
 ·subst hy
  have hxl0:xl=0:=Ae;subst hxl0;refine⟨⟨sb,sl,sc⟩,w,?_,hK _ _ (by rw[tD];exact hs) (aW.refl _ _) (λh=>.inl ⟨h,rfl⟩)⟩;cases xb<;>cases sb<;>simp[Builtin.append_,run_underlying ht,sizeOf,typeInfo,hi,Builtin.lenOf,Builtin.firstCells,hscap,storeCells,loadCells,loadCellsFrom,nP.aY,CK.aY]
 have uR:0<ys.length:=List.length_pos_iff.2 hy;obtain⟨ax,hax,_⟩:=hx.get 0 ys[0] (gS uR);have hax':xb=some ax:=hax;subst hax';have Fx:=pQ hx fZ (a:=ax) rfl;have hl:(ys.flatMap aY).length=xl*i.size:=by rw[bI fZ,Ae]
 have QM:∀u∈ys.flatMap aY,u.oneCell'=true:=λu hu=>by obtain⟨y,_,hy⟩:=List.mem_flatMap.1 hu;exact jW y u hy
 have hzs:zv.cells.size=i.size:=by have:=hE.zlen;simpa using this
 have hm63:xs.length+ys.length<=maxLen:=by simp only[maxLen];omega
 have grown:∀old,old<sl+xl->dQ (w.drew.alloc (.cells ((xs.flatMap aY).toArray++(ys.flatMap aY).toArray++Builtin.zeroCells zv.cells (grownCap w (sl+xl) old e-(sl+xl))) e)) e i.size aY
   ⟨some ⟨w.heap.size,0,none⟩,sl+xl,grownCap w (sl+xl) old e⟩ (xs++ys):=λold hold=>by
  have kT:=grownCap_ge w (sl+xl) old e;have hcm:grownCap w (sl+xl) old e<=maxLen:=grownCap_le_maxLen w (sl+xl) old e aB;refine⟨by simp[IM,Ae],kT,hcm,.inr ⟨w.heap.size,(Builtin.zeroCells zv.cells (grownCap w (sl+xl) old e-(sl+xl))).toList,rfl,?_,?_⟩⟩
  ·have:=cW.iP w.drew ((xs.flatMap aY).toArray++(ys.flatMap aY).toArray++Builtin.zeroCells zv.cells (grownCap w (sl+xl) old e-(sl+xl))) e
   simpa [sD] using this
  ·simp only[mL,bI fZ,Array.length_toList,size_zeroCells,hzs,<-IM,<-Ae]
   rw[<-Nat.add_mul];congr 1;show sl+xl+(grownCap w (sl+xl) old e-(sl+xl))=grownCap w (sl+xl) old e;omega
 by_cases DO:sl+xl<=sc
 ·obtain⟨g,pre,dE,hb,ho,fU⟩:=hs.gN.resolve_left (by show¬sc=0;omega)
  have bW:sb=some ⟨g,pre.length,none⟩:=hb;subst bW;have QN:(xs.flatMap aY++dE).length=sc*i.size:=fU;have hxl2:(xs.flatMap aY).length=sl*i.size:=by rw[bI fZ,IM]
  have PU:sl*i.size+(ys.flatMap aY).length<=sc*i.size:=by rw[hl,<-Nat.add_mul];exact RV _ DO
  have hyl:(ys.flatMap aY).length<=dE.length:=by rw[mL,hxl2] at QN;omega
  have tQ:∀j,j<(ys.flatMap aY).length->(w.cell? ⟨g,pre.length+sl*i.size+j,none⟩).isSome=true:=λj hj=>by
   rw[ho.cell];simp only[kU,Ew];exact⟨_,by simp only[mL] at QN ⊢;omega,rfl⟩
  have hfz:∀j,j<(ys.flatMap aY).length->w.frozen? ⟨g,pre.length+sl*i.size+j,none⟩=false:=λj _=>by
   have ho':w.heap[g]? =some (.cells (pre++(xs.flatMap aY++dE)).toArray e (0,0)):=ho;unfold World.frozen?;rw[ho'];simp
  have hr:=run_append_room_cells (P:=P) w t 0 e i ht hi g pre.length sl sc ax xl xc (ys.flatMap aY) hl Fx QM DO tQ hfz;have ET:=run_storeCells_at P g (pre.length+sl*i.size) e (ys.flatMap aY) 0 (pre++(xs.flatMap aY++dE)).toArray w ho (by simp only[List.size_toArray,mL] at QN ⊢;omega) QM;have hst2:=run_storeCells_cells (P:=P) g (pre.length+sl*i.size) (ys.flatMap aY) 0 w (by simpa using tQ) (by simpa using hfz) QM;simp only[Nat.add_zero] at ET hst2;rw[ET] at hst2;have hw:w.setCells g (pre.length+sl*i.size) (ys.flatMap aY)=w.setRow g (((pre++(xs.flatMap aY++dE)).toArray.toList.take (pre.length+sl*i.size)++ys.flatMap aY++(pre++(xs.flatMap aY++dE)).toArray.toList.drop (pre.length+sl*i.size+(ys.flatMap aY).length))).toArray:=by
   injection hst2 with _ h2;exact h2.symm
  rw[hw] at hr;refine⟨(⟨some ⟨g,pre.length,none⟩,sl+xl,sc⟩:Sl),_,hr,hK ⟨some ⟨g,pre.length,none⟩,sl+xl,sc⟩ _ ⟨by simp[IM,Ae],DO,hs.max,.inr ⟨g,pre,dE.drop (ys.flatMap aY).length,rfl,?_,?_⟩⟩ ?_ (λh=>.inl ⟨h,rfl⟩)⟩
  ·have:=cW.setRow ho (pre++((xs++ys).flatMap aY++dE.drop (ys.flatMap aY).length))
   have e1:(pre++(xs.flatMap aY++dE)).toArray.toList.take (pre.length+sl*i.size)=pre++xs.flatMap aY:=by
    show(pre++(xs.flatMap aY++dE)).take _=_;rw[List.take_length_add_append,<-hxl2,List.take_left]
   have e2:(pre++(xs.flatMap aY++dE)).toArray.toList.drop (pre.length+sl*i.size+(ys.flatMap aY).length)=dE.drop (ys.flatMap aY).length:=by
    show(pre++(xs.flatMap aY++dE)).drop _=_;rw[Nat.add_assoc,List.drop_length_add_append,<-hxl2,List.drop_length_add_append]
   rw[e1,e2];simpa [IU,sD] using this
  ·show _=sc*i.size
   rw[mL] at QN;rw[IU,mL,mL,List.length_drop];omega
  ·exact(aW.setRow w g _).mono λk _ hk=>⟨by show sc≠0;omega,_,rfl,hk⟩
 ·cases sb with
  |none=>
   have hx0:xs=[]:=by
    cases xs with
    |nil=>rfl
    |cons y r=>obtain⟨a,ha,_⟩:=AV.get 0 y rfl;cases ha
   subst hx0;have hs0:sl=0:=IM;have hc0:sc=0:=by
    rcases hs.gN with h|⟨g,pre,dE,hb,_⟩
    ·exact h
    ·cases hb
   subst hs0;subst hc0;have hr:=run_append_nil (P:=P) w t 0 e i zv ht hi hz ax xl xc (ys.flatMap aY) hl Fx aB aB (by simp at BV;rw[Ae];omega);have hg:=grown 0 aB;simp only[pN,List.flatMap_nil] at hg;have xd:dQ (w.drew.alloc (.cells ((ys.flatMap aY).toArray++Builtin.zeroCells zv.cells (grownCap w xl 0 e-xl)) e)) e i.size aY ⟨some ⟨w.heap.size,0,none⟩,xl,grownCap w xl 0 e⟩ ([]++ys):=by simpa using hg
   exact⟨(⟨some ⟨w.heap.size,0,none⟩,xl,grownCap w xl 0 e⟩:Sl),_,hr,hK _ _ xd.veo ((aW.refl _ w).drew.alloc _) λ_=>.inr ⟨_,rfl,iT _⟩⟩
  |some b=>
   have holds:∀j u,(xs.flatMap aY)[j]? =some u->w.cell? (b.add j)=some u:=pQ AV fZ rfl;have hr:=run_append_grow (P:=P) w t 0 e i zv ht hi hz b sl sc (xs.flatMap aY) (by rw[bI fZ,IM]) holds ax xl xc (ys.flatMap aY) hl Fx aB aB (growslice_fits aB (by rw[IM,Ae];exact BV));exact⟨(⟨some ⟨w.heap.size,0,none⟩,sl+xl,grownCap w (sl+xl) sc e⟩:Sl),_,hr,hK _ _ (grown sc aB).veo ((aW.refl _ w).drew.alloc _) λ_=>.inr ⟨_,rfl,iT _⟩⟩
end
def Qp{α:Type}(e:TypeId)(n:Nat)(aY:α->List Value)(s:Sl)(xs:List α):As:=λw S=>nz w e n aY s xs/\∀k,S k↔s.c≠0/\∃b,s.b=some b/\k=b.block
instance{α:Type}{e:TypeId}{n:Nat}{aY:α->List Value}{s:Sl}{xs:List α}:bF (Qp e n aY s xs):=⟨
 λ⟨h,e⟩ k hk=>by obtain⟨hc,b,hb,rfl⟩:=(e k).1 hk;exact h.Ud hc hb,
 λ⟨h,e⟩ m hn=>⟨h.aK m λb hc hb=>hn _ ((e _).2 ⟨hc,b,hb,rfl⟩),e⟩⟩
end
section
structure bQ where
 f:Int
 t:Int
 w:Int
 m:Int
 deriving DecidableEq
abbrev eC(a:bQ):List Value:=[.int .i64 a.f,.int .i64 a.t,.int .i64 a.w,.int .i64 a.m]
abbrev nN(a:bQ):Int×Int×Int×Int×Unit:=(a.f,a.t,a.w,a.m,())
theorem VS(a:bQ):eC a≠[]:=by simp[eC]
section
variable{α:Type}
theorem KB{r:α->α->Prop}(hirr:∀a,¬r a a)(dF:∀a b,r a b->¬r b a):∀{l m:List α},l.Pairwise r->m.Pairwise r->(∀x,x∈l↔x∈m)->l=m
 | [],[],_,_,_=>rfl
 | [],b::m,_,_,h=>absurd ((h b).2 dL) dL
 |a::l,[],_,_,h=>absurd ((h a).1 dL) dL
 |a::l,b::m,hl,hm,h=>by
  rw[List.pairwise_cons] at hl hm;have xh:a=b:=by
   rcases lL.1 ((h a).1 dL) with e|e
   ·exact e
   ·rcases lL.1 ((h b).2 dL) with e'|e'
    ·exact e'.symm
    ·exact absurd (hm.1 a e) (dF _ _ (hl.1 b e'))
  subst xh;congr 1;refine KB hirr dF hl.2 hm.2 λx=>⟨λhx=>?_,λhx=>?_⟩
  ·rcases lL.1 ((h x).1 (by simp[hx])) with e|e
   ·subst e;exact absurd (hl.1 x hx) (hirr x)
   ·exact e
  ·rcases lL.1 ((h x).2 (by simp[hx])) with e|e
   ·subst e;exact absurd (hm.1 x hx) (hirr x)
   ·exact e
theorem XF{p:α->Bool}:∀{l:List α} {i:Nat},(∀x∈l.take i,p x=true)->(∀x∈l.drop i,p x=false)->l.filter p=l.take i/\l.filter (λx=>!p x)=l.drop i
 |l,0,_,h2=>by
  simp only[List.drop_zero] at h2;exact⟨by simp only[List.take_zero];exact List.filter_eq_nil_iff.2 λx hx=>by rw[h2 x hx];simp,by simp only[List.drop_zero];exact List.filter_eq_self.2 λx hx=>by rw[h2 x hx];rfl⟩
 | [],i+1,_,_=>by simp
 |a::l,i+1,h1,h2=>by
  simp only[List.take_succ_cons,List.drop_succ_cons] at h1 h2 ⊢;obtain⟨e1,e2⟩:=XF (l:=l) (i:=i) (λx hx=>h1 x (by simp[hx])) h2;have ha:=h1 a dL;simp[KZ,ha,e1,e2]
variable(k:α->Int)
def YH(l:List α):Prop:=l.Pairwise λx y=>k x<k y
def DN(l:List α)(a:α):List α:=l.filter (λx=>decide (k x<k a))++a::l.filter (λx=>decide (k a<k x))
structure zD(l:List α)(v:Int)(i:Nat):Prop where
 le:i<=l.length
 lo:∀p x,p<i->l[p]? =some x->k x<v
 hi:∀p x,i<=p->l[p]? =some x->v<=k x
variable{k}
theorem YH.get{l:List α}(h:YH k l){p q:Nat}{x y:α}(hpq:p<q)(hx:l[p]? =some x)(hy:l[q]? =some y):k x<k y:=by
 have:=Qc.1 h;have hp:=(kU.1 hx);have hq:=(kU.1 hy);obtain⟨hp1,Ky⟩:=hp;obtain⟨hq1,hq2⟩:=hq;have:=this p q hp1 hq1 hpq;rwa[Ky,hq2] at this
theorem zD.take{l:List α}{v:Int}{i:Nat}(h:zD k l v i):l.take i=l.filter (λx=>decide (k x<v))/\l.drop i=l.filter (λx=>decide (v<=k x)):=by
 have:=XF (l:=l) (i:=i) (p:=λx=>decide (k x<v)) (λx hx=>by
  obtain⟨p,hp⟩:=oM.1 hx;have cJ:p<i:=by have:=(kU.1 hp).1;simp at this;omega
  rw[UR cJ] at hp;simpa using h.lo p x cJ hp) (λx hx=>by
  obtain⟨p,hp⟩:=oM.1 hx;rw[List.getElem?_drop] at hp;have:=h.hi (i+p) x aB hp;simp;omega)
 refine⟨this.1.symm,?_⟩;rw[<-this.2];apply List.filter_congr;intro x _
 by_cases h:k x<v<;>simp[h]<;>omega
theorem zD.qB{l:List α}(hs:YH k l){v:Int}{i:Nat}(h:zD k l v i){x:α}(hx:x∈l)(hk:k x=v):l[i]? =some x:=by
 obtain⟨p,hp⟩:=oM.1 hx;have h1:i<=p:=by
  apply Nat.le_of_not_lt;intro cJ;have:=h.lo p x cJ hp;omega
 rcases Nat.eq_or_lt_of_le h1 with e|cJ
 ·rw[e];exact hp
 ·have hi:i<l.length:=by have:=(kU.1 hp).1;omega
  have h2:=h.hi i l[i] (iT _) (gS hi);have h3:=hs.get cJ (gS hi) hp;omega
theorem zD.ins_new{l:List α}{a:α}{i:Nat}(h:zD k l (k a) i)(hn:∀x∈l,k x≠k a):l.take i++[a]++l.drop i=DN k l a:=by
 obtain⟨e1,e2⟩:=h.take;unfold DN;rw[e1,e2];simp only[sD,List.cons_append,List.nil_append];congr 2;apply List.filter_congr;intro x hx;have:=hn x hx
 by_cases h1:k a<=k x<;>by_cases h2:k a<k x<;>simp[h1,h2]<;>omega
theorem zD.ins_at{l:List α}(hs:YH k l){a:α}{i:Nat}(h:zD k l (k a) i){x:α}(hx:x∈l)(hk:k x=k a):l.set i a=DN k l a:=by
 obtain⟨e1,e2⟩:=h.take;have hf:=h.qB hs hx hk;have hi:i<l.length:=(kU.1 hf).1;unfold DN;rw[List.set_eq_take_append_cons_drop,if_pos hi,e1];congr 2;have h3:l.drop i=x::l.drop (i+1):=by
  rw[List.drop_eq_getElem_cons hi];congr 1;exact(kU.1 hf).2
 have h4:zD k l (k a+1) (i+1):=by
  refine⟨hi,λp y hp hy=>?_,λp y hp hy=>?_⟩
  ·rcases Nat.eq_or_lt_of_le (show p<=i by omega) with e|cJ
   ·subst e;rw[hf] at hy;cases hy;omega
   ·have:=h.lo p y cJ hy;omega
  ·have:=hs.get (show i<p by omega) hf hy;omega
 rw[h4.take.2];apply List.filter_congr;intro y _
 by_cases h1:k a<k y<;>simp[h1]<;>omega
theorem YH.filter{l:List α}(h:YH k l)(p:α->Bool):YH k (l.filter p):=RU p h
theorem YH.KV{l:List α}(h:YH k l)(a:α):YH k (DN k l a):=by
 unfold DN YH;rw[List.pairwise_append];refine⟨h.filter _,?_,?_⟩
 ·rw[List.pairwise_cons]
  exact⟨λx hx=>by simpa using(jE.1 hx).2,h.filter _⟩
 ·intro x hx y hy
  have h1:k x<k a:=by simpa using(jE.1 hx).2
  rcases lL.1 hy with e|hy
  ·subst e;exact h1
  ·have h2:k a<k y:=by simpa using(jE.1 hy).2
   omega
theorem Nx{l:List α}{a x:α}:x∈DN k l a↔x=a\/(x∈l/\k x≠k a):=by
 unfold DN;simp only[jK,lL,jE,decide_eq_true_eq]
 constructor
 ·rintro(⟨h1,h2⟩|rfl|⟨h1,h2⟩)
  ·exact .inr ⟨h1,aB⟩
  ·exact .inl rfl
  ·exact .inr ⟨h1,aB⟩
 ·rintro(rfl|⟨h1,h2⟩)
  ·exact .inr (.inl rfl)
  ·by_cases h:k x<k a
   ·exact .inl ⟨h1,h⟩
   ·exact .inr (.inr ⟨h1,aB⟩)
theorem zD.Uo{l:List α}(hs:YH k l){v:Int}{i:Nat}(h:zD k l v i){x:α}(hx:x∈l)(hk:k x=v):l.take i++l.drop (i+1)=l.filter (λy=>decide (k y≠v)):=by
 have hf:=h.qB hs hx hk;have hi:i<l.length:=(kU.1 hf).1;have hsp:l.take i++x::l.drop (i+1)=l:=by
  rw[<-Cd i l];congr 1
  ·simp
  ·rw[Cd,List.drop_eq_getElem_cons hi];congr 1;exact(kU.1 hf).2.symm
 have h1:(l.take i).filter (λy=>decide (k y≠v))=l.take i:=List.filter_eq_self.2 λy hy=>by
  obtain⟨p,hp⟩:=oM.1 hy;have cJ:p<i:=by have:=(kU.1 hp).1;simp at this;omega
  rw[UR cJ] at hp;have:=h.lo p y cJ hp;simp;omega
 have h2:(l.drop (i+1)).filter (λy=>decide (k y≠v))=l.drop (i+1):=List.filter_eq_self.2 λy hy=>by
  obtain⟨p,hp⟩:=oM.1 hy;rw[List.getElem?_drop] at hp;have:=hs.get (show i<i+1+p by omega) hf hp;simp;omega
 conv=>rhs;rw[<-hsp,IT,KZ,h1,h2]
 simp[hk]
end
def MC(x y:bQ):Bool:=decide (x.f<y.f) ||(decide (x.f=y.f) && decide (x.t<y.t))
def BG(l:List bQ):Prop:=l.Pairwise λx y=>MC x y=true
theorem lP{x y:bQ}:MC x y=true↔x.f<y.f\/(x.f=y.f/\x.t<y.t):=by simp[MC]
def EW(n:Nat)(a:bQ):Prop:=0<=a.f/\a.f<n/\0<=a.t/\a.t<n/\a.f≠a.t/\1<=a.w/\a.w<=1099511627776/\(a.m=-1\/(0<=a.m/\a.m<n/\a.m≠a.f/\a.m≠a.t))
instance(n:Nat)(a:bQ):Decidable (EW n a):=by unfold EW;infer_instance
structure rR(n:Nat)(l:List bQ):Prop where
 rP:BG l
 vS:∀a∈l,EW n a
def LQ(l:List bQ)(a:bQ):List bQ:=l.filter (λx=>MC x a)++a::l.filter (λx=>MC a x)
def jJ(l:List bQ)(f t:Int):Option bQ:=l.find? λx=>decide (x.f=f) && decide (x.t=t)
def uP(n:Nat)(l:List bQ)(a:bQ):List bQ×Bool:=
 if EW n a then(match jJ l a.f a.t with
  |some x=>if x.w<=a.w then(l,false) else(LQ l a,true)
  |none=>(LQ l a,true)) else(l,false)
def CX(l:List bQ)(v:Int):List bQ:=l.filter λx=>decide (x.f≠v) && decide (x.t≠v)
def dZ(l:List bQ)(v:Int):List bQ:=l.filter λx=>decide (x.f=v)
def nK(l:List bQ)(v:Int):List bQ:=l.filter λx=>decide (x.t=v)
theorem BG.out{l:List bQ}(h:BG l)(v:Int):YH bQ.t (dZ l v):=by
 unfold dZ YH;refine List.Pairwise.imp_of_mem (λ{x y} hx hy hxy=>?_) (RU _ h);have h1:=(jE.1 hx).2;have h2:=(jE.1 hy).2;simp at h1 h2;rcases lP.1 hxy with h|⟨_,h⟩
 ·omega
 ·exact h
theorem BG.LM{l:List bQ}(h:BG l)(v:Int):YH bQ.f (nK l v):=by
 unfold nK YH;refine List.Pairwise.imp_of_mem (λ{x y} hx hy hxy=>?_) (RU _ h);have h1:=(jE.1 hx).2;have h2:=(jE.1 hy).2;simp at h1 h2;rcases lP.1 hxy with h|⟨_,h⟩<;>omega
theorem lY{l:List bQ}{a x:bQ}:x∈LQ l a↔x=a\/(x∈l/\¬(x.f=a.f/\x.t=a.t)):=by
 unfold LQ;simp only[jK,lL,jE,lP]
 constructor
 ·rintro(⟨h1,h2⟩|rfl|⟨h1,h2⟩)
  ·exact .inr ⟨h1,aB⟩
  ·exact .inl rfl
  ·exact .inr ⟨h1,aB⟩
 ·rintro(rfl|⟨h1,h2⟩)
  ·exact .inr (.inl rfl)
  ·rcases Int.lt_trichotomy x.f a.f with h|h|h
   ·exact .inl ⟨h1,.inl h⟩
   ·rcases Int.lt_trichotomy x.t a.t with h'|h'|h'
    ·exact .inl ⟨h1,.inr ⟨h,h'⟩⟩
    ·exact absurd ⟨h,h'⟩ h2
    ·exact .inr (.inr ⟨h1,.inr ⟨h.symm,h'⟩⟩)
   ·exact .inr (.inr ⟨h1,.inl h⟩)
theorem Yy{x y z:bQ}(h1:MC x y=true)(h2:MC y z=true):MC x z=true:=by
 rw[lP] at*;omega
theorem BG.KV{l:List bQ}(h:BG l)(a:bQ):BG (LQ l a):=by
 unfold LQ BG;rw[List.pairwise_append];refine⟨RU _ h,?_,?_⟩
 ·rw[List.pairwise_cons]
  exact⟨λx hx=>(jE.1 hx).2,RU _ h⟩
 ·intro x hx y hy
  have h1:=(jE.1 hx).2;rcases lL.1 hy with e|hy
  ·subst e;exact h1
  ·exact Yy h1 (jE.1 hy).2
theorem rR.KV{n:Nat}{l:List bQ}(h:rR n l){a:bQ}(ha:EW n a):rR n (LQ l a):=
 ⟨h.rP.KV a,λx hx=>by rcases lY.1 hx with rfl|⟨h1,_⟩;exact ha;exact h.vS x h1⟩
theorem rR.filter{n:Nat}{l:List bQ}(h:rR n l)(p:bQ->Bool):rR n (l.filter p):=⟨RU _ h.rP,λx hx=>h.vS x (jE.1 hx).1⟩
theorem rR.cut{n:Nat}{l:List bQ}(h:rR n l)(v:Int):rR n (CX l v):=h.filter _
theorem rR.nil(n:Nat):rR n []:=⟨List.Pairwise.nil,by simp⟩
theorem BG.ext{l m:List bQ}(h:BG l)(h':BG m)(he:∀x,x∈l↔x∈m):l=m:=
 KB (λa h=>by rw[lP] at h;omega) (λa b h1 h2=>by rw[lP] at h1 h2;omega) h h' he
theorem YH.ext{k:bQ->Int}{l m:List bQ}(h:YH k l)(h':YH k m)(he:∀x,x∈l↔x∈m):l=m:=
 KB (λa h=>aB) (λa b h1 h2=>aB) h h' he
theorem eK{l:List bQ}{v:Int}{x:bQ}:x∈dZ l v↔x∈l/\x.f=v:=by simp[dZ]
theorem iB{l:List bQ}{v:Int}{x:bQ}:x∈nK l v↔x∈l/\x.t=v:=by simp[nK]
theorem pM{l:List bQ}{v:Int}{x:bQ}:x∈CX l v↔x∈l/\x.f≠v/\x.t≠v:=by simp[CX]
theorem Wy{l:List bQ}(h:BG l)(a:bQ)(v:Int):dZ (LQ l a) v=if v=a.f then DN bQ.t (dZ l v) a else dZ l v:=by
 split
 ·rename_i hv
  subst hv;refine((h.KV a).out _).ext ((h.out _).KV a) λx=>?_;simp only[eK,lY,Nx]
  constructor
  ·rintro⟨rfl|⟨h1,h2⟩,h3⟩
   ·exact .inl rfl
   ·exact .inr ⟨⟨h1,h3⟩,λh=>h2 ⟨h3,h⟩⟩
  ·rintro(rfl|⟨⟨h1,h2⟩,h3⟩)
   ·exact⟨.inl rfl,rfl⟩
   ·exact⟨.inr ⟨h1,λh=>h3 h.2⟩,h2⟩
 ·rename_i hv
  refine((h.KV a).out _).ext (h.out _) λx=>?_;simp only[eK,lY]
  constructor
  ·rintro⟨rfl|⟨h1,h2⟩,h3⟩
   ·exact absurd h3.symm hv
   ·exact⟨h1,h3⟩
  ·rintro⟨h1,h2⟩
   exact⟨.inr ⟨h1,λh=>hv (by rw[<-h2,h.1])⟩,h2⟩
theorem tq{l:List bQ}(h:BG l)(a:bQ)(v:Int):nK (LQ l a) v=if v=a.t then DN bQ.f (nK l v) a else nK l v:=by
 split
 ·rename_i hv
  subst hv;refine((h.KV a).LM _).ext ((h.LM _).KV a) λx=>?_;simp only[iB,lY,Nx]
  constructor
  ·rintro⟨rfl|⟨h1,h2⟩,h3⟩
   ·exact .inl rfl
   ·exact .inr ⟨⟨h1,h3⟩,λh=>h2 ⟨h,h3⟩⟩
  ·rintro(rfl|⟨⟨h1,h2⟩,h3⟩)
   ·exact⟨.inl rfl,rfl⟩
   ·exact⟨.inr ⟨h1,λh=>h3 h.1⟩,h2⟩
 ·rename_i hv
  refine((h.KV a).LM _).ext (h.LM _) λx=>?_;simp only[iB,lY]
  constructor
  ·rintro⟨rfl|⟨h1,h2⟩,h3⟩
   ·exact absurd h3.symm hv
   ·exact⟨h1,h3⟩
  ·rintro⟨h1,h2⟩
   exact⟨.inr ⟨h1,λh=>hv (by rw[<-h2,h.2])⟩,h2⟩
theorem qS{l:List bQ}{f t:Int}{x:bQ}(h:jJ l f t=some x):x∈l/\x.f=f/\x.t=t:=by
 have h1:=List.find?_some h;simp at h1;exact⟨List.mem_of_find?_eq_some h,h1.1,h1.2⟩
theorem TU{l:List bQ}{f t:Int}(h:jJ l f t=none):∀x∈l,¬(x.f=f/\x.t=t):=by
 intro x hx hk;have:=List.find?_eq_none.1 h x hx;simp[hk] at this
theorem xX{l:List bQ}(hs:BG l){x:bQ}(hx:x∈l):jJ l x.f x.t=some x:=by
 cases h:jJ l x.f x.t with
 |none=>exact absurd ⟨rfl,rfl⟩ (TU h x hx)
 |some y=>
  obtain⟨h1,h2,h3⟩:=qS h;congr 1;have hp:=Qc.1 hs;obtain⟨p,hp1,Ky⟩:=List.mem_iff_getElem.1 h1;obtain⟨q,hq1,hq2⟩:=List.mem_iff_getElem.1 hx;rcases Nat.lt_trichotomy p q with cJ|heq|cJ
  ·have:=hp p q hp1 hq1 cJ;rw[Ky,hq2,lP] at this;omega
  ·subst heq;rw[<-Ky,<-hq2]
  ·have:=hp q p hq1 hp1 cJ;rw[Ky,hq2,lP] at this;omega
theorem VN{n:Nat}{l:List bQ}(h:rR n l)(a:bQ):rR n (uP n l a).1:=by
 unfold uP
 split
 ·rename_i ha
  split
  ·split
   ·exact h
   ·exact h.KV ha
  ·exact h.KV ha
 ·exact h
theorem ZG{n:Nat}{l:List bQ}(h:rR n l):(List.range n).flatMap (λv:Nat=>dZ l (v:Int))=l:=by
 refine BG.ext ?_ h.rP λx=>?_
 ·unfold BG
  rw[List.pairwise_flatMap];refine⟨λv _=>?_,?_⟩
  ·exact RU _ h.rP
  ·have:(List.range n).Pairwise (·<·):=List.pairwise_lt_range
   refine List.Pairwise.imp (λ{u v} huv x hx y hy=>?_) this;rw[eK] at hx hy;rw[lP];omega
 ·simp only[List.mem_flatMap,List.mem_range,eK]
  constructor
  ·rintro⟨v,_,h1,_⟩;exact h1
  ·intro hx
   have:=h.vS x hx;unfold EW at this;exact⟨x.f.toNat,aB,hx,aB⟩
theorem rr{k:bQ->Int}{l:List bQ}(h:YH k l){n:Nat}(hk:∀x∈l,0<=k x/\k x<n):l.length<=n:=by
 have key:∀(i:Nat) (x:bQ),l[i]? =some x->(i:Int)<=k x:=by
  intro i
  induction i with
  |zero=>intro x hx;exact(hk x (zH hx)).1
  |succ i ih=>
   intro x hx;have hi:i<l.length:=by have:=(kU.1 hx).1;omega
   have h1:=ih _ (gS hi);have h2:=h.get (Nat.lt_succ_self i) (gS hi) hx;omega
 rcases Nat.eq_zero_or_pos l.length with h0|h0
 ·omega
 ·have hi:l.length-1<l.length:=aB
  have h1:=key _ _ (gS hi);have h2:=(hk _ (nE hi)).2;omega
theorem rR.vA{n:Nat}{l:List bQ}(h:rR n l)(v:Int):(dZ l v).length<=n:=rr (h.rP.out v) λx hx=>by
 have:=h.vS x (eK.1 hx).1;exact⟨this.2.2.1,this.2.2.2.1⟩
theorem rR.FD{n:Nat}{l:List bQ}(h:rR n l)(v:Int):(nK l v).length<=n:=rr (h.rP.LM v) λx hx=>by
 have:=h.vS x (iB.1 hx).1;exact⟨this.1,this.2.1⟩
def gP(n:Nat)(l:List bQ)(xs:List bQ):List bQ:=xs.foldl (λl a=>(uP n l a).1) l
theorem HF{n:Nat}:∀(xs:List bQ) {l:List bQ},rR n l->rR n (gP n l xs)
 | [],_,h=>h
 |a::xs,_,h=>HF xs (VN h a)
theorem NH(n:Nat)(l xs:List bQ)(a:bQ):gP n l (xs++[a])=(uP n (gP n l xs) a).1:=by simp[gP]
theorem NI{n:Nat}:∀{xs p:List bQ},rR n (p++xs)->gP n p xs=p++xs
 | [],p,_=>by simp[gP]
 |a::xs,p,h=>by
  have hsp:BG (p++a::xs):=h.rP;unfold BG at hsp;rw[List.pairwise_append] at hsp;have cJ:∀x∈p,MC x a=true:=λx hx=>hsp.2.2 x hx a dL;have vU:jJ p a.f a.t=none:=by
   cases hf:jJ p a.f a.t with
   |none=>rfl
   |some x=>
    obtain⟨h1,h2,h3⟩:=qS hf;have:=cJ x h1;rw[lP] at this;omega
  have he:(uP n p a).1=p++[a]:=by
   unfold uP;rw[if_pos (h.vS a dL),vU];unfold LQ;have e1:p.filter (λx=>MC x a)=p:=List.filter_eq_self.2 cJ;have e2:p.filter (λx=>MC a x)=[]:=List.filter_eq_nil_iff.2 λx hx hn=>by
    have:=cJ x hx;rw[lP] at this hn;omega
   rw[e1,e2]
  have h':rR n ((p++[a])++xs):=by simpa using h
  have:=NI (xs:=xs) (p:=p++[a]) h';show gP n (uP n p a).1 xs=_;rw[he,this];simp
structure LowL(l:List bQ)(f t:Int)(i:Nat):Prop where
 le:i<=l.length
 lo:∀p x,p<i->l[p]? =some x->x.f<f\/(x.f=f/\x.t<t)
 hi:∀p x,i<=p->l[p]? =some x->¬(x.f<f\/(x.f=f/\x.t<t))
theorem WK{α β:Type}(f:α->List β)(n:Nat):∀l:List α,(∀x∈l,(f x).length<=n)->(l.flatMap f).length<=l.length*n
 | [],_=>by simp
 |x::l,h=>by
  have:=WK f n l λy hy=>h y (by simp[hy]);have:=h x dL;simp only[EY,mL,nU,Nat.add_mul];omega
theorem rR.len{n:Nat}{l:List bQ}(h:rR n l)(hn:n<=512):l.length<=262144:=by
 have h1:=WK (λv:Nat=>dZ l (v:Int)) n (List.range n) λv _=>h.vA v;rw[ZG h,List.length_range] at h1;have h2:n*n<=512*512:=EX hn hn;omega
end
section
structure It where
 id:Int
 key:Int
 deriving DecidableEq
def pX(x y:It):Bool:=decide (x.key<y.key) ||(decide (x.key=y.key) && decide (x.id<y.id))
theorem jZ{x y:It}:pX x y=true↔x.key<y.key\/(x.key=y.key/\x.id<y.id):=by simp[pX]
theorem itlt_tri(x y:It):pX x y=true\/x=y\/pX y x=true:=by
 obtain⟨a,b⟩:=x;obtain⟨c,d⟩:=y;simp only[jZ,It.mk.injEq];omega
abbrev BD(q:List It):Prop:=q.Pairwise λx y=>pX x y=true
def yc(q:List It)(x:It):List It:=q.filter (λy=>pX y x)++x::q.filter (λy=>pX x y)
theorem xW{q:List It}{x y:It}:y∈yc q x↔y=x\/y∈q:=by
 unfold yc;simp only[jK,lL,jE]
 constructor
 ·rintro(⟨h,_⟩|rfl|⟨h,_⟩)<;>simp_all
 ·rintro(rfl|h)
  ·simp
  ·rcases itlt_tri y x with h1|rfl|h1<;>simp_all
theorem BD.KV{q:List It}(h:BD q)(x:It):BD (yc q x):=by
 unfold yc BD;rw[List.pairwise_append];refine⟨RU _ h,?_,λa ha b hb=>?_⟩
 ·rw[List.pairwise_cons]
  exact⟨λb hb=>(jE.1 hb).2,RU _ h⟩
 ·have h1:=jZ.1 (jE.1 ha).2
  rcases lL.1 hb with rfl|hb
  ·exact jZ.2 h1
  ·have h2:=jZ.1 (jE.1 hb).2
   rw[jZ];omega
def Ca(q:List It):Prop:=∀x∈q,∀y∈q,x.id=y.id->x=y
def Fa(q:List It)(v:Int):Option Int:=(q.find? λy=>decide (y.id=v)).map (·.key)
theorem ZF{q:List It}{v k:Int}(h:Fa q v=some k):⟨v,k⟩∈q:=by
 unfold Fa at h;cases hf:q.find? (λy=>decide (y.id=v)) with
 |none=>rw[hf] at h;cases h
 |some y=>
  rw[hf] at h;have h1:=List.mem_of_find?_eq_some hf;have h2:=List.find?_some hf;obtain⟨a,b⟩:=y;simp at h h2;subst h h2;exact h1
theorem aAd{q:List It}{v:Int}(h:Fa q v=none):∀x∈q,x.id≠v:=by
 intro x hx;unfold Fa at h;simp only[Option.map_eq_none_iff,List.find?_eq_none] at h;simpa using h x hx
theorem Xg{q:List It}(h:Ca q){x:It}(hx:x∈q):Fa q x.id=some x.key:=by
 cases hk:Fa q x.id with
 |none=>exact absurd rfl (aAd hk x hx)
 |some k=>have:=h _ (ZF hk) x hx rfl;rw[<-this]
def Cf(q:List It)(v k:Int):Bool:=match Fa q v with
 |some k0=>decide (k0<=k)
 |none=>false
def nL(q:List It)(v k:Int):List It×Bool:=if Cf q v k then(q,false) else(yc (q.filter λy=>decide (y.id≠v)) ⟨v,k⟩,true)
theorem WC{q:List It}{v k:Int}{y:It}(h:y∈(nL q v k).1):y∈q\/y=⟨v,k⟩:=by
 unfold nL at h
 split at h
 ·exact .inl h
 ·rcases xW.1 h with rfl|h
  ·exact .inr rfl
  ·exact .inl (jE.1 h).1
theorem OO{q:List It}(h1:Ca q){v k:Int}{x:It}(hx:x∈q):∃y∈(nL q v k).1,y.id=x.id/\y.key<=x.key:=by
 unfold nL
 split
 ·exact⟨x,hx,rfl,oY _⟩
 ·rename_i hl
  by_cases e:x.id=v
  ·refine⟨⟨v,k⟩,xW.2 (.inl rfl),e.symm,?_⟩
   have:=Xg h1 hx;unfold Cf at hl;rw[<-e,this] at hl;simp at hl;show k<=x.key;omega
  ·exact⟨x,xW.2 (.inr (jE.2 ⟨hx,by simpa using e⟩)),rfl,oY _⟩
theorem WD{q:List It}{v k:Int}:∃y∈(nL q v k).1,y.id=v/\y.key<=k:=by
 unfold nL
 split
 ·rename_i hl
  unfold Cf at hl;cases hk:Fa q v with
  |none=>rw[hk] at hl;cases hl
  |some k0=>rw[hk] at hl;exact⟨⟨v,k0⟩,ZF hk,rfl,by simpa using hl⟩
 ·exact⟨⟨v,k⟩,xW.2 (.inl rfl),rfl,oY _⟩
theorem CC{q:List It}(h:BD q)(v k:Int):BD (nL q v k).1:=by
 unfold nL
 split
 ·exact h
 ·exact BD.KV (RU _ h) _
theorem CD{q:List It}(h:Ca q)(v k:Int):Ca (nL q v k).1:=by
 unfold nL
 split
 ·exact h
 ·intro x hx y hy e
  rcases xW.1 hx with rfl|hx<;>rcases xW.1 hy with rfl|hy
  ·rfl
  ·have:=(jE.1 hy).2;simp at this;exact absurd e.symm this
  ·have:=(jE.1 hx).2;simp at this;exact absurd e this
  ·exact h x (jE.1 hx).1 y (jE.1 hy).1 e
inductive fY(L:List bQ)(c a:Int):Int->Int->Prop where
 |nil:fY L c a a 0
 |gW {v d:Int} (e:bQ) (h:fY L c a v d) (he:e∈L) (hf:e.f=v) (ht:e.t≠c):fY L c a e.t (d+e.w)
def wH(s:List It)(v:Int):Bool:=s.any λx=>decide (x.id=v)
theorem WJ{s:List It}{v:Int}:wH s v=true↔∃x∈s,x.id=v:=by simp[wH]
def pZ(c:Int)(s:List It)(d:Int)(q:List It)(l:List bQ):List It:=l.foldl (λq a=>if a.t=c\/wH s a.t=true then q else(nL q a.t (d+a.w)).1) q
def GG(L:List bQ)(c:Int)(z:List It×List It):List It×List It:=match z.1 with
 | []=>([],z.2)
 |x::q=>(pZ c (z.2++[x]) x.key q (dZ L x.id),z.2++[x])
def jU(L:List bQ)(c a:Int):Nat->List It×List It
 |0=>([⟨a,0⟩],[])
 |n+1=>GG L c (jU L c a n)
theorem Yp(c:Int)(s:List It)(d:Int)(q:List It)(l:List bQ)(a:bQ):pZ c s d q (l++[a])=if a.t=c\/wH s a.t=true then pZ c s d q l else(nL (pZ c s d q l) a.t (d+a.w)).1:=by simp[pZ]
theorem Yq(c:Int)(s:List It)(d:Int)(q:List It)(l:List bQ)(a:bQ):pZ c s d q (a::l)=pZ c s d (if a.t=c\/wH s a.t=true then q else(nL q a.t (d+a.w)).1) l:=rfl
theorem ON{c:Int}{s:List It}{d:Int}:∀{l:List bQ} {q:List It},BD q->Ca q->BD (pZ c s d q l)/\Ca (pZ c s d q l)/\
  (∀y∈pZ c s d q l,y∈q\/∃e∈l,e.t≠c/\wH s e.t=false/\y=⟨e.t,d+e.w⟩)/\(∀x∈q,∃y∈pZ c s d q l,y.id=x.id/\y.key<=x.key)/\
  (∀e∈l,e.t≠c->wH s e.t=false->∃y∈pZ c s d q l,y.id=e.t/\y.key<=d+e.w)
 | [],q,h1,h2=>⟨h1,h2,λy hy=>.inl hy,λx hx=>⟨x,hx,rfl,oY _⟩,by simp⟩
 |a::l,q,h1,h2=>by
  rw[Yq]
  by_cases hc:a.t=c\/wH s a.t=true
  ·rw[if_pos hc]
   obtain⟨g1,g2,g3,g4,g5⟩:=ON (c:=c) (s:=s) (d:=d) (l:=l) h1 h2;refine⟨g1,g2,λy hy=>(g3 y hy).imp id λ⟨e,he,r⟩=>⟨e,by simp[he],r⟩,g4,λe he n1 n2=>?_⟩;rcases lL.1 he with rfl|he
   ·rcases hc with hc|hc
    ·exact absurd hc n1
    ·rw[hc] at n2;cases n2
   ·exact g5 e he n1 n2
  ·rw[if_neg hc]
   obtain⟨g1,g2,g3,g4,g5⟩:=ON (c:=c) (s:=s) (d:=d) (l:=l) (CC h1 a.t (d+a.w)) (CD h2 a.t (d+a.w));have bw:a.t≠c:=λe=>hc (.inl e);have RP:wH s a.t=false:=by cases h:wH s a.t with
    |false=>rfl
    |true=>exact absurd (.inr h) hc
   refine⟨g1,g2,λy hy=>?_,λx hx=>?_,λe he n1 n2=>?_⟩
   ·rcases g3 y hy with hq|⟨e,he,r⟩
    ·rcases WC hq with hq|rfl
     ·exact .inl hq
     ·exact .inr ⟨a,by simp,bw,RP,rfl⟩
    ·exact .inr ⟨e,by simp[he],r⟩
   ·obtain⟨y,hy,e1,e2⟩:=OO h2 (v:=a.t) (k:=d+a.w) hx
    obtain⟨z,hz,e3,e4⟩:=g4 y hy;exact⟨z,hz,e3.trans e1,Int.le_trans e4 e2⟩
   ·rcases lL.1 he with rfl|he
    ·obtain⟨y,hy,e1,e2⟩:=WD (q:=q) (v:=e.t) (k:=d+e.w)
     obtain⟨z,hz,e3,e4⟩:=g4 y hy;exact⟨z,hz,e3.trans e1,Int.le_trans e4 e2⟩
    ·exact g5 e he n1 n2
structure Fi(m:Nat)(L:List bQ)(c a:Int)(q s:List It):Prop where
 rP:BD q
 one:Ca q
 Dg:(s.map (·.id)).Nodup
 rZ:∀x∈q,wH s x.id=false
 Er:∀x∈s++q,fY L c a x.id x.key
 src:⟨a,0⟩∈s++q
 clo:∀x∈s,∀e∈L,e.f=x.id->e.t≠c->∃y∈s++q,y.id=e.t/\y.key<=x.key+e.w
 mono:∀x∈s,∀y∈q,x.key<=y.key
 qF:∀x∈s,∀d,fY L c a x.id d->x.key<=d
 gH:∀x∈s++q,0<=x.key/\x.key<=s.length*1099511627776/\0<=x.id/\x.id<m
theorem Fi.reach{m:Nat}{L:List bQ}{c a:Int}{q s:List It}(h:Fi m L c a q s)(hL:rR m L){v d:Int}(hw:fY L c a v d):(∃x∈s,x.id=v/\x.key<=d)\/∃y∈q,y.key<=d:=by
 induction hw with
 |nil=>
  rcases jK.1 h.src with hs|hq
  ·exact .inl ⟨_,hs,rfl,oY _⟩
  ·exact .inr ⟨_,hq,oY _⟩
 |gW e _ he hf ht ih=>
  rcases ih with⟨x,hx,hv,hd⟩|⟨y,hy,hd⟩
  ·obtain⟨y,hy,e1,e2⟩:=h.clo x hx e he (hf.trans hv.symm) ht
   rcases jK.1 hy with hs|hq
   ·exact .inl ⟨y,hs,e1,aB⟩
   ·exact .inr ⟨y,hq,aB⟩
  ·have:=(hL.vS e he).2.2.2.2.2.1
   exact .inr ⟨y,hy,aB⟩
theorem Fi.step{m:Nat}{L:List bQ}{c a:Int}{q s:List It}(h:Fi m L c a q s)(hL:rR m L):Fi m L c a (GG L c (q,s)).1 (GG L c (q,s)).2:=by
 cases q with
 |nil=>exact h
 |cons x q=>
  have hq:=List.pairwise_cons.1 h.rP;have jW:Ca q:=λy hy z hz=>h.one y (by simp[hy]) z (by simp[hz]);obtain⟨g1,g2,g3,g4,g5⟩:=ON (c:=c) (s:=s++[x]) (d:=x.key) (l:=dZ L x.id) hq.2 jW;show Fi m L c a (pZ c (s++[x]) x.key q (dZ L x.id)) (s++[x]);generalize pZ c (s++[x]) x.key q (dZ L x.id)=p at*;have hxs:wH s x.id=false:=h.rZ x dL;have hxw:=h.Er x dL;have hxb:=h.gH x dL;have inS:∀v,wH (s++[x]) v=false↔wH s v=false/\x.id≠v:=λv=>by simp[wH]
  have qF:∀d,fY L c a x.id d->x.key<=d:=λd hw=>by
   rcases h.reach hL hw with⟨y,hy,hv,_⟩|⟨y,hy,hd⟩
   ·have:wH s x.id=true:=WJ.2 ⟨y,hy,hv⟩
    rw[hxs] at this;cases this
   ·rcases lL.1 hy with rfl|hy
    ·exact hd
    ·have:=jZ.1 (hq.1 y hy);omega
  have hold:∀y∈s++(x::q),∃z∈s++[x]++p,z.id=y.id/\z.key<=y.key:=λy hy=>by
   rcases jK.1 hy with hy|hy
   ·exact⟨y,by simp[hy],rfl,oY _⟩
   ·rcases lL.1 hy with rfl|hy
    ·exact⟨y,by simp,rfl,oY _⟩
    ·obtain⟨z,hz,r⟩:=g4 y hy
     exact⟨z,by simp[hz],r⟩
  refine⟨g1,g2,?_,?_,?_,?_,?_,?_,?_,?_⟩
  ·rw[yS,List.nodup_append]
   refine⟨h.Dg,by simp,λu hu v hv=>?_⟩;simp at hv;subst hv;obtain⟨y,hy,rfl⟩:=lK.1 hu;intro e;have:wH s x.id=true:=WJ.2 ⟨y,hy,e⟩;rw[hxs] at this;cases this
  ·intro y hy
   rcases g3 y hy with db|⟨e,_,_,h2,rfl⟩
   ·refine(inS _).2 ⟨h.rZ y (by simp[db]),λe=>?_⟩
    have:=h.one x dL y (by simp[db]) e;subst this;have:=jZ.1 (hq.1 x db);omega
   ·exact h2
  ·intro y hy
   rcases jK.1 hy with hy|hy
   ·exact h.Er y (by rcases jK.1 hy with hy|hy<;>simp_all)
   ·rcases g3 y hy with db|⟨e,he,h1,_,rfl⟩
    ·exact h.Er y (by simp[db])
    ·obtain⟨heL,hef⟩:=eK.1 he
     exact fY.gW e hxw heL hef h1
  ·rcases jK.1 h.src with hs|hs
   ·simp[hs]
   ·rcases lL.1 hs with hs|hs
    ·simp[hs]
    ·--the first one is the source itself till it is eF
     obtain⟨z,hz,e1,e2⟩:=g4 _ hs;have:=qF 0;have hk:=jZ.1 (hq.1 _ hs);have:=hxb.1;simp only at hk e1 e2;have hzb:0<=z.key:=by
      rcases g3 z hz with hzq|⟨e,he,_,_,rfl⟩
      ·exact(h.gH z (by simp[hzq])).1
      ·have:=(hL.vS e (eK.1 he).1).2.2.2.2.2.1;show 0<=x.key+e.w;omega
     have:z=⟨a,0⟩:=by obtain⟨i,k⟩:=z;simp only at*;subst e1;congr 1;omega
     rw[<-this];simp[hz]
  ·intro y hy e he hf ht
   rcases jK.1 hy with hy|hy
   ·obtain⟨z,hz,e1,e2⟩:=h.clo y hy e he hf ht
    obtain⟨u,hu,e3,e4⟩:=hold z hz;exact⟨u,hu,e3.trans e1,Int.le_trans e4 e2⟩
   ·simp at hy
    subst hy;cases IP:wH (s++[y]) e.t with
    |false=>
     obtain⟨z,hz,r⟩:=g5 e (eK.2 ⟨he,hf⟩) ht IP;exact⟨z,by simp[hz],r⟩
    |true=>
     obtain⟨z,hz,hzt⟩:=WJ.1 IP;refine⟨z,by simp only[jK];exact .inl (by simpa using hz),hzt,?_⟩;have hw:=fY.gW e hxw he hf ht;rcases jK.1 hz with hz|hz
     ·exact h.qF z hz _ (hzt▸hw)
     ·simp at hz;subst hz
      exact qF _ (hzt▸hw)
  ·intro y hy z hz
   have hxz:x.key<=z.key:=by
    rcases g3 z hz with hzq|⟨e,he,_,_,rfl⟩
    ·have:=jZ.1 (hq.1 z hzq);omega
    ·have:=(hL.vS e (eK.1 he).1).2.2.2.2.2.1;show x.key<=x.key+e.w;omega
   rcases jK.1 hy with hy|hy
   ·exact Int.le_trans (h.mono y hy x dL) hxz
   ·simp at hy;subst hy;exact hxz
  ·intro y hy
   rcases jK.1 hy with hy|hy
   ·exact h.qF y hy
   ·simp at hy;subst hy;exact qF
  ·have len:(s++[x]).length=s.length+1:=by simp
   intro y hy;rw[len];have old:∀y∈s++(x::q),0<=y.key/\y.key<=((s.length+1:Nat):Int)*1099511627776/\0<=y.id/\y.id<m:=λy hy=>by
    obtain⟨b1,b2,b3⟩:=h.gH y hy;exact⟨b1,aB,b3⟩
   rcases jK.1 hy with hy|hy
   ·exact old y (by rcases jK.1 hy with hy|hy<;>simp_all)
   ·rcases g3 y hy with db|⟨e,he,_,_,rfl⟩
    ·exact old y (by simp[db])
    ·have hm:=hL.vS e (eK.1 he).1
     obtain⟨_,_,m1,m2,_,m3,m4,_⟩:=hm;refine⟨?_,?_,m1,m2⟩
     ·show 0<=x.key+e.w;omega
     ·show x.key+e.w<=_;omega
theorem xB{m:Nat}{L:List bQ}(hL:rR m L)(c:Int){a:Int}(ha:0<=a)(pI:a<m):∀n,Fi m L c a (jU L c a n).1 (jU L c a n).2
 |0=>by
  refine⟨List.pairwise_singleton _ _,?_,List.nodup_nil,by simp[jU,wH],?_,by simp[jU],by simp[jU],by simp[jU],by simp[jU],?_⟩
  ·intro x hx y hy _;simp[jU] at hx hy;rw[hx,hy]
  ·intro x hx;simp[jU] at hx;subst hx;exact fY.nil
  ·intro x hx;simp[jU] at hx;subst hx;exact⟨oY _,by simp[jU],ha,pI⟩
 |n+1=>(xB hL c ha pI n).step hL
theorem Dr(L:List bQ)(c a:Int):∀n,(jU L c a n).2.length=n\/((jU L c a n).1=[]/\(jU L c a n).2.length<=n)
 |0=>.inl rfl
 |n+1=>by
  have ih:=Dr L c a n;show(GG L c (jU L c a n)).2.length=n+1\/((GG L c (jU L c a n)).1=[]/\_);cases hz:jU L c a n with
  |mk q s=>
   rw[hz] at ih;cases q with
   |nil=>
    right;refine⟨rfl,?_⟩;show(jU L c a (n+1)).2.length<=n+1;have e:(jU L c a (n+1)).2=s:=by show(GG L c (jU L c a n)).2=s;rw[hz];rfl
    rw[e];rcases ih with h|h
    ·simp only at h;omega
    ·have:=h.2;simp only at this;omega
   |cons x q=>
    left;rcases ih with h|⟨h,_⟩
    ·simp[GG] at h ⊢;omega
    ·cases h
theorem wL:∀{m:Nat} {l:List Int},l.Nodup->(∀x∈l,0<=x/\x<m)->l.length<=m
 |0,l,_,hb=>by
  cases l with
  |nil=>simp
  |cons x l=>have:=hb x dL;omega
 |m+1,l,h,hb=>by
  have one:∀(l:List Int),l.Nodup->l.length<=(l.filter λx=>decide (x≠(m:Int))).length+1:=by
   intro l
   induction l with
   |nil=>intro _;simp
   |cons x l ih=>
    intro hn;rw[List.nodup_cons] at hn
    by_cases e:x=(m:Int)
    ·have:l.filter (λx=>decide (x≠(m:Int)))=l:=List.filter_eq_self.2 λy hy=>by
      simp only[ne_eq,decide_eq_true_eq];rintro rfl;exact hn.1 (e▸hy)
     simp only[KZ];rw[this];simp[e]
    ·have:=ih hn.2
     simp only[KZ,nU];rw[if_pos (by simpa using e)];simp only[nU];omega
  have ih:=wL (m:=m) (l:=l.filter λx=>decide (x≠(m:Int))) (RU _ h) λx hx=>by
   have h1:=hb x (jE.1 hx).1;have h2:x≠(m:Int):=by simpa using(jE.1 hx).2
   omega
  have:=one l h;omega
theorem Fi.len{m:Nat}{L:List bQ}{c a:Int}{q s:List It}(h:Fi m L c a q s):s.length<=m:=by
 have:=wL h.Dg λv hv=>by obtain⟨x,hx,rfl⟩:=lK.1 hv;exact(h.gH x (by simp[hx])).2.2
 simpa using this
theorem Fi.len_q{m:Nat}{L:List bQ}{c a:Int}{x:It}{q s:List It}(h:Fi m L c a (x::q) s):s.length<m:=by
 have hn:((s.map (·.id))++[x.id]).Nodup:=by
  rw[List.nodup_append];refine⟨h.Dg,by simp,λu hu v hv=>?_⟩;simp at hv;subst hv;obtain⟨y,hy,rfl⟩:=lK.1 hu;intro e;have:=h.rZ x dL;rw[WJ.2 ⟨y,hy,e⟩] at this;cases this
 have:=wL (m:=m) hn λv hv=>by
  rcases jK.1 hv with hv|hv
  ·obtain⟨y,hy,rfl⟩:=lK.1 hv;exact(h.gH y (by simp[hy])).2.2
  ·simp at hv;subst hv;exact(h.gH x dL).2.2
 simp at this;omega
section
variable{m:Nat}{L:List bQ}(hL:rR m L)(c:Int){a:Int}(ha:0<=a)(pI:a<m)
include hL ha pI
theorem Gs{n:Nat}(hn:m<=n):(jU L c a n).1=[]:=by
 have hi:=xB hL c ha pI n;cases hz:jU L c a n with
 |mk q s=>
  rw[hz] at hi;cases q with
  |nil=>rfl
  |cons x q=>
   have h1:=hi.len_q;rcases Dr L c a n with h|⟨h,_⟩
   ·rw[hz] at h;simp only at h h1;omega
   ·rw[hz] at h;cases h
omit hL ha pI in
theorem Ws(n:Nat):∀k,(jU L c a n).2=((jU L c a (n+k)).2).take n
 |0=>by
  rcases Dr L c a n with h|⟨_,h⟩
  ·rw[Nat.add_zero,List.take_of_length_le aB]
  ·rw[Nat.add_zero,List.take_of_length_le h]
 |k+1=>by
  rw[Ws n k];show _=(GG L c (jU L c a (n+k))).2.take n;have hl:=Dr L c a (n+k);cases hz:jU L c a (n+k) with
  |mk q s=>
   rw[hz] at hl;cases q with
   |nil=>rfl
   |cons x q=>
    rcases hl with h|⟨h,_⟩
    ·simp only[GG] at h ⊢
     rw[List.take_append_of_le_length aB]
    ·cases h
omit hL ha pI in
def eF(m:Nat)(L:List bQ)(c a:Int):List It:=(jU L c a m).2
theorem run_eq(n:Nat):(jU L c a n).2=(eF m L c a).take n:=by
 unfold eF;rcases Nat.le_total n m with h|h
 ·obtain⟨k,rfl⟩:∃k,m=n+k:=⟨m-n,aB⟩
  exact Ws c n k
 ·obtain⟨k,rfl⟩:∃k,n=m+k:=⟨n-m,aB⟩
  rw[List.take_of_length_le (by have:=(xB hL c ha pI m).len;omega)];clear h
  induction k with
  |zero=>rfl
  |succ k ih=>
   show(GG L c (jU L c a (m+k))).2=_;have hk:=Gs hL c ha pI (n:=m+k) aB;cases hz:jU L c a (m+k) with
   |mk q s=>rw[hz] at ih hk;simp only at hk;subst hk;exact ih
theorem pG{v d:Int}:(⟨v,d⟩:It)∈eF m L c a↔fY L c a v d/\∀d',fY L c a v d'->d<=d':=by
 have hi:=xB hL c ha pI m;have hd:=Gs hL c ha pI (iT m);rw[hd] at hi
 constructor
 ·intro h
  exact⟨hi.Er _ (jK.2 (.inl h)),hi.qF _ h⟩
 ·rintro⟨h1,h2⟩
  rcases hi.reach hL h1 with⟨x,hx,rfl,hk⟩|⟨y,hy,_⟩
  ·have:=hi.Er x (by simpa using hx)
   have:=h2 _ this;have:(⟨x.id,d⟩:It)=x:=by obtain⟨i,k⟩:=x;simp only at*;congr 1;omega
   rw[this];exact hx
  ·cases hy
theorem RA{v d:Int}(h:fY L c a v d):∃k,k<=d/\(⟨v,k⟩:It)∈eF m L c a:=by
 have hi:=xB hL c ha pI m;have hd:=Gs hL c ha pI (iT m);rw[hd] at hi;rcases hi.reach hL h with⟨x,hx,rfl,hk⟩|⟨y,hy,_⟩
 ·exact⟨x.key,hk,hx⟩
 ·cases hy
theorem Yl{x y:It}(hx:x∈eF m L c a)(hy:y∈eF m L c a)(e:x.id=y.id):x=y:=by
 have h1:=(pG hL c ha pI (v:=x.id) (d:=x.key)).1 hx;have h2:=(pG hL c ha pI (v:=y.id) (d:=y.key)).1 hy;obtain⟨i,k⟩:=x;obtain⟨j,l⟩:=y;simp only at e h1 h2;subst e;have:=h1.2 _ h2.1;have:=h2.2 _ h1.1;congr 1;omega
theorem NG:(eF m L c a).length<=m:=(xB hL c ha pI m).len
theorem Yn{x:It}(hx:x∈eF m L c a):0<=x.key/\x.key<=m*1099511627776/\0<=x.id/\x.id<m:=by
 have hi:=xB hL c ha pI m;have h1:=hi.gH x (by simp only[jK];exact .inl hx);have h2:=hi.len;refine⟨h1.1,?_,h1.2.2⟩;have:((jU L c a m).2.length:Int)*1099511627776<=(m:Int)*1099511627776:=aB;omega
end
end
theorem fY.mono{L M:List bQ}{c c' a v d:Int}(hs:∀e∈L,e.t≠c->e∈M/\e.t≠c')(h:fY L c a v d):fY M c' a v d:=by
 induction h with
 |nil=>exact .nil
 |gW e _ he hf ht ih=>exact .gW e ih (hs e he ht).1 hf (hs e he ht).2
theorem fY.trans{L:List bQ}{c a v w d d':Int}(h:fY L c a v d)(h':fY L c v w d'):fY L c a w (d+d'):=by
 induction h' with
 |nil=>rw[Int.add_zero];exact h
 |gW e _ he hf ht ih=>rw[<-Int.add_assoc];exact .gW e ih he hf ht
theorem fY.ends{L:List bQ}{c a v d:Int}(h:fY L c a v d):v=a\/v≠c:=by
 cases h with
 |nil=>exact .inl rfl
 |gW e _ _ _ ht=>exact .inr ht
theorem walk_cut{m:Nat}{L:List bQ}(hL:rR m L){c a v d:Int}(hac:a≠c):fY (CX L c) (-1) a v d↔fY L c a v d:=by
 constructor
 ·refine fY.mono λe he _=>?_
  have:=pM.1 he;exact⟨this.1,this.2.2⟩
 ·intro h
  induction h with
  |nil=>exact .nil
  |gW e h he hf ht ih=>
   have hfc:e.f≠c:=by rw[hf];rcases h.ends with rfl|h<;>assumption
   exact .gW e ih (pM.2 ⟨he,hfc,ht⟩) hf (by have:=(hL.vS e he).2.2.1;omega)
theorem fY.pos{m:Nat}{L:List bQ}(hL:rR m L){c a v d:Int}(h:fY L c a v d):0<=d:=by
 induction h with
 |nil=>exact oY _
 |gW e _ he _ _ ih=>have:=(hL.vS e he).2.2.2.2.2.1;omega
def met(ds:List Int):Nat:=(ds.filter λd=>decide (0<=d)).length
theorem ik(ds:List Int):met ds<=ds.length:=vW _ _
theorem sy:∀{ds:List Int} {i:Nat} {x d:Int},ds[i]? =some x->0<=d->met (ds.set i d)=met ds+(if x<0 then 1 else 0)
 | [],i,x,d,h,_=>by simp at h
 |y::ds,0,x,d,h,hd=>by
  simp at h;subst h;simp only[List.set_cons_zero,met,KZ]
  by_cases h0:y<0
  ·have e1:decide (0<=y)=false:=by simp;omega
   have e2:decide (0<=d)=true:=by simpa using hd
   rw[e1,e2,if_pos h0];simp
  ·have e1:decide (0<=y)=true:=by simp;omega
   have e2:decide (0<=d)=true:=by simpa using hd
   rw[e1,e2,if_neg h0];simp
 |y::ds,i+1,x,d,h,hd=>by
  simp at h;have ih:=sy (i:=i) h hd;simp only[List.set_cons_succ,met,KZ];simp only[met] at ih
  split
  ·simp only[nU,ih];omega
  ·exact ih
structure BF(m:Nat)(L:List bQ)(a:Int)(ds:List Int):Prop where
 len:ds.length=m
 src:ds[a.toNat]? =some 0
 Er:∀(v:Nat) (d:Int),ds[v]? =some d->d=-1\/(0<=d/\fY L (-1) a (v:Int) d/\d<=met ds*1099511627776)
section
def yi(s:List It)(to eQ fJ:Int):Bool:=(s.take fJ.toNat).any λx=>decide (x.id=to) && decide (x.key<=eQ)
theorem Xj{s:List It}{to eQ fJ:Int}:yi s to eQ fJ=true↔∃(i:Nat) (d:Int),(i:Int)<fJ/\s[i]? =some ⟨to,d⟩/\d<=eQ:=by
 unfold yi;rw[List.any_eq_true]
 constructor
 ·rintro⟨x,hx,hp⟩
  obtain⟨i,hi⟩:=oM.1 hx;have cJ:=(kU.1 hi).1;rw[pW] at cJ;rw[UR aB] at hi;obtain⟨a,b⟩:=x;simp at hp;exact⟨i,b,aB,by rw[hi,hp.1],hp.2⟩
 ·rintro⟨i,d,h1,h2,h3⟩
  refine⟨⟨to,d⟩,oM.2 ⟨i,?_⟩,by simpa using h3⟩;rw[UR aB];exact h2
def PR(n:Nat)(L:List bQ)(a to c eQ fJ:Int):Bool:=decide (0<=a/\a<n) && (decide (0<=to/\to<n) && (decide (a≠c) && yi (eF n L c a) to eQ fJ))
def VD(s:List It)(to fJ:Int)(k:Nat):Bool:=(match s[k]? with|some x=>decide (x.id=to)|none=>false) ||decide (fJ=(k:Int)+1)
def Rb(s:List It)(to eQ:Int):Nat->Bool
 |0=>false
 |k+1=>match s[k]? with|some x=>decide (x.id=to) && decide (x.key<=eQ)|none=>false
theorem NK(s:List It)(to eQ:Int)(k:Nat):Rb s to eQ (k+1)=match s[k]? with|some x=>decide (x.id=to) && decide (x.key<=eQ)|none=>false:=rfl
theorem aAg{s:List It}{to eQ fJ:Int}(h1:Ca s)(hd:s.Nodup)(hs:1<=fJ){m:Nat}(hm:m<=s.length)(ET:∀j,j+1<m->VD s to fJ j=false)
  (hend:(m=s.length/\∀j,j<m->VD s to fJ j=false)\/∃j,m=j+1/\VD s to fJ j=true):Rb s to eQ m=yi s to eQ fJ:=by
 have no:∀j,VD s to fJ j=false->∀x,s[j]? =some x->x.id≠to/\fJ≠(j:Int)+1:=λj hj x hx=>by
  unfold VD at hj;rw[hx] at hj;simpa using hj
 rw[Bool.eq_iff_iff,Xj];rcases hend with⟨rfl,vU⟩|⟨j,rfl,hj⟩
 ·constructor
  ·intro hf
   cases hl:s.length with
   |zero=>rw[hl] at hf;cases hf
   |succ k=>
    rw[hl] at hf;rw[NK] at hf;have hx:=gS (show k<s.length by omega);rw[hx] at hf;have:=(no k (vU k aB) _ hx).1;simp[this] at hf
  ·rintro⟨i,d,_,hi,_⟩
   have cJ:=(kU.1 hi).1;exact absurd rfl (no i (vU i cJ) _ hi).1
 ·have hx:=gS (show j<s.length by omega)
  have kT:(j:Int)<fJ:=by
   rcases Int.lt_or_le (j:Int) fJ with h|h
   ·exact h
   ·obtain⟨i,hi⟩:∃i:Nat,fJ=(i:Int)+1:=⟨(fJ-1).toNat,aB⟩
    have cJ:i<s.length:=aB;exact absurd hi (no i (ET i aB) _ (gS cJ)).2
  rw[NK,hx];generalize s[j]=x at hx
  constructor
  ·intro hf
   simp at hf;exact⟨j,x.key,kT,by rw[hx,<-hf.1],hf.2⟩
  ·rintro⟨i,d,hi,dg,hdm⟩
   have RN:i=j:=by
    rcases Nat.lt_trichotomy i j with h|h|h
    ·exact absurd rfl (no i (ET i aB) _ dg).1
    ·exact h
    ·--then it dF not stopped at j but by its count
     unfold VD at hj;rw[hx] at hj;simp at hj;rcases hj with hj|hj
     ·have he:=h1 x (zH hx) _ (zH dg) hj
      have dJ:=(kU.1 dg).1;have hn:=Qc.1 hd j i aB dJ h;have e1:s[j]'(aB)=x:=(kU.1 hx).2;have e2:s[i]=⟨to,d⟩:=(kU.1 dg).2;rw[e1,e2] at hn;exact absurd he hn
     ·omega
   subst RN;rw[dg] at hx;cases hx;simpa using hdm
section
variable{m:Nat}{L:List bQ}(hL:rR m L)(c:Int){a:Int}(ha:0<=a)(pI:a<m)
include hL ha pI
theorem Lu:(eF m L c a).Nodup:=by
 have h:=(xB hL c ha pI m).Dg;unfold eF;exact List.Pairwise.imp (λ{x y} h e=>h (by rw[e])) (List.pairwise_map.1 h)
theorem Yo:Ca (eF m L c a):=λ_ hx _ hy e=>Yl hL c ha pI hx hy e
end
theorem qz{n:Nat}{L:List bQ}{a to c:Int}(ha:0<=a/\a<n)(ht:0<=to/\to<n)(hac:a≠c)(k s:Int):PR n L a to c k s=true↔∃(i:Nat) (d:Int),(i:Int)<s/\(eF n L c a)[i]? =some ⟨to,d⟩/\d<=k:=by
 rw[<-Xj];unfold PR;rw[decide_eq_true ha,decide_eq_true ht,decide_eq_true hac];rfl
theorem wit_self(n:Nat)(L:List bQ)(a to k s:Int):PR n L a to a k s=false:=by
 unfold PR;simp
theorem wit_walk{n:Nat}{L:List bQ}(hL:rR n L){a to c k s:Int}(ha:0<=a/\a<n)(ht:0<=to/\to<n)(h:PR n L a to c k s=true):∃d,d<=k/\fY L c a to d/\∀d',fY L c a to d'->d<=d':=by
 have hac:a≠c:=λe=>by subst e;rw[wit_self] at h;cases h
 obtain⟨i,d,_,h2,h3⟩:=(qz ha ht hac k s).1 h;exact⟨d,h3,(pG hL c ha.1 ha.2).1 (zH h2)⟩
end
section
def GK(n:Nat)(L:List bQ)(v:Int)(a b:bQ):Bool:=!decide (a.f=b.t) && !PR n L a.f b.t v (a.w+b.w) 30
def mH(n:Nat)(L:List bQ)(v:Int)(a:bQ)(bs:List bQ):List bQ:=(bs.filter (GK n L v a)).map λb=>⟨a.f,b.t,a.w+b.w,v⟩
def fV(n:Nat)(L:List bQ)(v:Int):List bQ:=(nK L v).flatMap λa=>mH n L v a (dZ L v)
def FA(n:Nat)(L:List bQ)(v:Int):Int:=(fV n L v).length-(nK L v).length-(dZ L v).length
def cB(gs:List Bool)(v:Nat):Bool:=gs.getD v false
def tW(n:Nat)(L:List bQ)(gs:List Bool)(z:Int×Int)(v:Nat):Int×Int:=
 if cB gs v then z else if z.1<0 then((v:Int),FA n L v) else if FA n L v<z.2 then((v:Int),FA n L v) else z
def lQ(n:Nat)(L:List bQ)(gs:List Bool)(k:Nat):Int×Int:=(List.range k).foldl (tW n L gs) (-1,0)
def kQ(n:Nat)(L:List bQ)(gs:List Bool):Int:=(lQ n L gs n).1
theorem NY(n:Nat)(L:List bQ)(gs:List Bool)(k:Nat):lQ n L gs (k+1)=tW n L gs (lQ n L gs k) k:=by
 unfold lQ;rw[List.range_succ,List.foldl_append];rfl
theorem Yk(n:Nat)(L:List bQ)(v:Int)(a:bQ)(bs:List bQ)(b:bQ):mH n L v a (bs++[b])=mH n L v a bs++(if GK n L v a b then [⟨a.f,b.t,a.w+b.w,v⟩] else []):=by
 unfold mH;rw[IT,yS];congr 1;simp only[KZ,List.filter_nil]
 split<;>simp
theorem Hy(n:Nat)(L:List bQ)(v:Int)(a:bQ)(bs:List bQ):(mH n L v a bs).length<=bs.length:=by
 unfold mH;rw[oL];exact vW _ _
theorem Nn(n:Nat)(L:List bQ)(v:Int)(as_:List bQ):(as_.flatMap λa=>mH n L v a (dZ L v)).length<=as_.length*(dZ L v).length:=by
 induction as_ with
 |nil=>simp
 |cons a r ih=>
  have:=Hy n L v a (dZ L v);simp only[EY,mL,nU];rw[Nat.add_mul];omega
theorem tT{n:Nat}{L:List bQ}{v:Int}{x:bQ}:x∈fV n L v↔∃a∈nK L v,∃b∈dZ L v,GK n L v a b=true/\x=⟨a.f,b.t,a.w+b.w,v⟩:=by
 unfold fV;rw[List.mem_flatMap]
 constructor
 ·rintro⟨a,ha,hx⟩
  unfold mH at hx;obtain⟨b,hb,rfl⟩:=lK.1 hx;obtain⟨h1,h2⟩:=jE.1 hb;exact⟨a,ha,b,h1,h2,rfl⟩
 ·rintro⟨a,ha,b,hb,h,rfl⟩
  refine⟨a,ha,?_⟩;unfold mH;exact lK.2 ⟨b,jE.2 ⟨hb,h⟩,rfl⟩
theorem No{n:Nat}{L:List bQ}(hL:rR n L)(hn:n<=512)(v:Int):(fV n L v).length<=262144:=by
 have h1:=Nn n L v (nK L v);have h2:=hL.FD v;have h3:=hL.vA v;have:(nK L v).length*(dZ L v).length<=512*512:=EX aB aB;unfold fV;omega
structure FirstOk(n:Nat)(L:List bQ)(gs:List Bool)(k:Nat)(z:Int×Int):Prop where
 none:z.1<0->z.1=-1/\∀v,v<k->cB gs v=true
 some:0<=z.1->z.1<k/\cB gs z.1.toNat=false/\z.2=FA n L z.1/\∀v,v<k->cB gs v=false->z.2<=FA n L v/\(FA n L v=z.2->z.1<=v)
theorem Xl(n:Nat)(L:List bQ)(gs:List Bool):∀k,FirstOk n L gs k (lQ n L gs k)
 |0=>⟨λ_=>⟨rfl,λv hv=>aB⟩,λh=>absurd h (by show¬((0:Int)<=-1);decide)⟩
 |k+1=>by
  have ih:=Xl n L gs k;rw[NY];generalize lQ n L gs k=z at*;unfold tW
  by_cases hg:cB gs k=true
  ·rw[if_pos hg]
   refine⟨λh=>⟨(ih.none h).1,λv hv=>?_⟩,λh=>?_⟩
   ·by_cases e:v=k
    ·rw[e];exact hg
    ·exact(ih.none h).2 v aB
   ·obtain⟨h1,h2,h3,h4⟩:=ih.some h
    refine⟨aB,h2,h3,λv hv bu=>?_⟩
    by_cases e:v=k
    ·rw[e,hg] at bu;cases bu
    ·exact h4 v aB bu
  ·rw[if_neg hg]
   have xd:cB gs k=false:=by simpa using hg
   by_cases h0:z.1<0
   ·rw[if_pos h0]
    refine⟨λh=>by simp only at h;omega,λ_=>⟨by simp only;omega,by simpa using xd,rfl,λv hv bu=>?_⟩⟩
    by_cases e:v=k
    ·subst e;exact⟨oY _,λ_=>oY _⟩
    ·rw[(ih.none h0).2 v aB] at bu;cases bu
   ·rw[if_neg h0]
    obtain⟨h1,h2,h3,h4⟩:=ih.some aB
    by_cases hw:FA n L k<z.2
    ·rw[if_pos hw]
     refine⟨λh=>by simp only at h;omega,λ_=>⟨by simp only;omega,by simpa using xd,rfl,λv hv bu=>?_⟩⟩
     by_cases e:v=k
     ·subst e;exact⟨oY _,λ_=>oY _⟩
     ·have:=(h4 v aB bu).1
      simp only;exact⟨aB,λe'=>aB⟩
    ·rw[if_neg hw]
     refine⟨λh=>absurd h h0,λ_=>⟨aB,h2,h3,λv hv bu=>?_⟩⟩
     by_cases e:v=k
     ·subst e;exact⟨aB,λ_=>aB⟩
     ·exact h4 v aB bu
theorem find_le{l:List bQ}{f t:Int}{x:bQ}(hs:BG l)(hx:x∈l)(hf:x.f=f)(ht:x.t=t):jJ l f t=some x:=by subst hf;subst ht;exact xX hs hx
theorem zo{m:Nat}{l:List bQ}(h:rR m l){a:bQ}(ha:EW m a):(∃y∈(uP m l a).1,y.f=a.f/\y.t=a.t/\y.w<=a.w)/\∀x∈l,∃y∈(uP m l a).1,y.f=x.f/\y.t=x.t/\y.w<=x.w:=by
 unfold uP;rw[if_pos ha];have KV:(∃y∈LQ l a,y.f=a.f/\y.t=a.t/\y.w<=a.w):=⟨a,lY.2 (.inl rfl),rfl,rfl,oY _⟩;have old:∀x∈l,¬(x.f=a.f/\x.t=a.t)->∃y∈LQ l a,y.f=x.f/\y.t=x.t/\y.w<=x.w:=λx hx hn=>⟨x,lY.2 (.inr ⟨hx,hn⟩),rfl,rfl,oY _⟩;cases hf:jJ l a.f a.t with
 |none=>exact⟨KV,λx hx=>old x hx (TU hf x hx)⟩
 |some z=>
  obtain⟨hz,z1,z2⟩:=qS hf;simp only
  split
  ·exact⟨⟨z,hz,z1,z2,by assumption⟩,λx hx=>⟨x,hx,rfl,rfl,oY _⟩⟩
  ·refine⟨KV,λx hx=>?_⟩
   by_cases e:x.f=a.f/\x.t=a.t
   ·have:x=z:=by have:=find_le h.rP hx e.1 e.2;rw[hf] at this;exact(uQ this).symm
    subst this;exact⟨a,lY.2 (.inl rfl),e.1.symm,e.2.symm,aB⟩
   ·exact old x hx e
theorem XA{m:Nat}:∀(xs:List bQ) {l:List bQ},rR m l->(∀a∈xs,EW m a)->∀x,x∈l\/x∈xs->∃y∈gP m l xs,y.f=x.f/\y.t=x.t/\y.w<=x.w
 | [],l,h,_,x,hx=>by
  rcases hx with hx|hx
  ·exact⟨x,hx,rfl,rfl,oY _⟩
  ·cases hx
 |a::xs,l,h,hm,x,hx=>by
  have hp:=zo h (hm a dL);have ih:=XA xs (VN h a) λb hb=>hm b (by simp[hb]);have step:(∃y∈(uP m l a).1,y.f=x.f/\y.t=x.t/\y.w<=x.w)\/x∈xs:=by
   rcases hx with hx|hx
   ·exact .inl (hp.2 x hx)
   ·rcases lL.1 hx with rfl|hx
    ·exact .inl hp.1
    ·exact .inr hx
  rcases step with⟨y,hy,e1,e2,e3⟩|hx
  ·obtain⟨z,hz,e4,e5,e6⟩:=ih y (.inl hy)
   exact⟨z,hz,e4.trans e1,e5.trans e2,Int.le_trans e6 e3⟩
  ·exact ih x (.inr hx)
theorem put_sub{m:Nat}{l:List bQ}{a x:bQ}(h:x∈(uP m l a).1):x∈l\/x=a:=by
 unfold uP at h
 split at h
 ·split at h
  ·split at h
   ·exact .inl h
   ·rcases lY.1 h with rfl|⟨h,_⟩
    ·exact .inr rfl
    ·exact .inl h
  ·rcases lY.1 h with rfl|⟨h,_⟩
   ·exact .inr rfl
   ·exact .inl h
 ·exact .inl h
theorem pD{m:Nat}:∀(xs:List bQ) {l:List bQ} {x:bQ},x∈gP m l xs->x∈l\/x∈xs
 | [],_,_,h=>.inl h
 |a::xs,l,x,h=>by
  rcases pD xs (l:=(uP m l a).1) h with h|h
  ·rcases put_sub h with h|rfl
   ·exact .inl h
   ·exact .inr dL
  ·exact .inr (by simp[h])
section
variable{n:Nat}{L:List bQ}(hL:rR n L){v:Int}(hw:∀e∈L,e.w<=549755813888)
include hL hw
theorem OM(hv0:0<=v)(df:v<n):∀x∈fV n L v,EW n x/\x.m=v/\x.f≠v/\x.t≠v:=by
 intro x hx;obtain⟨a,ha,b,hb,hn,rfl⟩:=tT.1 hx;obtain⟨ha,Ub⟩:=iB.1 ha;obtain⟨hb,hbf⟩:=eK.1 hb;obtain⟨a0,a1,a2,a3,a4,a5,a6,_⟩:=hL.vS a ha;obtain⟨b0,b1,b2,b3,b4,b5,b6,_⟩:=hL.vS b hb;have gF:a.f≠b.t:=by unfold GK at hn;simp at hn;exact hn.1
 have h1:=hw a ha;have h2:=hw b hb;have e1:a.f≠v:=aB;have e2:b.t≠v:=aB;exact⟨⟨a0,a1,b2,b3,gF,by show 1<=a.w+b.w;omega,by show a.w+b.w<=_;omega,.inr ⟨hv0,df,λe=>e1 e.symm,λe=>e2 e.symm⟩⟩,rfl,e1,e2⟩
theorem Xh(hv0:0<=v)(df:v<n){a b d:Int}(ha:a≠v)(h:fY L (-1) a b d):
  (b≠v->∃d',d'<=d/\fY (gP n (CX L v) (fV n L v)) (-1) a b d')/\(b=v->∃e∈nK L v,∃d',fY (gP n (CX L v) (fV n L v)) (-1) a e.f d'/\d'+e.w<=d):=by
 have uH:=OM hL hw hv0 df;have hO:rR n (gP n (CX L v) (fV n L v)):=HF _ (hL.cut v);have light:=XA (fV n L v) (hL.cut v) λx hx=>(uH x hx).1;generalize gP n (CX L v) (fV n L v)=O at*;have arc:∀x,x∈CX L v\/x∈fV n L v->∀d,fY O (-1) a x.f d->∃d',d'<=d+x.w/\fY O (-1) a x.t d':=λx hx d hd=>by
  obtain⟨y,hy,e1,e2,e3⟩:=light x hx;have:=fY.gW y hd hy e1 (by have:=(hO.vS y hy).2.2.1;omega);rw[e2] at this;exact⟨d+y.w,aB,this⟩
 have along:∀{p q d2:Int},fY (CX L v) (-1) p q d2->∀d1,fY O (-1) a p d1->∃d',d'<=d1+d2/\fY O (-1) a q d':=by
  intro p q d2 hpq
  induction hpq with
  |nil=>intro d1 h1;exact⟨d1,aB,h1⟩
  |gW e _ he hf _ ih=>
   intro d1 h1;obtain⟨d',hd',hw'⟩:=ih d1 h1;rw[<-hf] at hw';obtain⟨d'',h2,h3⟩:=arc e (.inl he) d' hw';exact⟨d'',aB,h3⟩
 induction h with
 |nil=>exact⟨λ_=>⟨0,oY _,.nil⟩,λe=>absurd e ha⟩
 | @gW x d e h he hf ht ih=>
  have heft:=(hL.vS e he).2.2.2.2.1;refine⟨λhbv=>?_,λhbv=>?_⟩
  ·by_cases hfv:e.f=v
   ·--iH the number itself
    obtain⟨e1,he1,d1,Tw,hd1⟩:=ih.2 (hf.symm.trans hfv);obtain⟨he1L,he1t⟩:=iB.1 he1
    by_cases qk:e1.f=e.t
    ·rw[qk] at Tw
     have:=(hL.vS e he).2.2.2.2.2.1;have:=(hL.vS e1 he1L).2.2.2.2.2.1;exact⟨d1,aB,Tw⟩
    ·have hout:e∈dZ L v:=eK.2 ⟨he,hfv⟩
     obtain⟨b0,b1,b2,b3,_⟩:=hL.vS e he;obtain⟨c0,c1,c2,c3,c4,_⟩:=hL.vS e1 he1L;cases hwit:PR n L e1.f e.t v (e1.w+e.w) 30 with
     |true=>
      obtain⟨d2,hd2,hw2,_⟩:=wit_walk hL ⟨c0,c1⟩ ⟨b2,b3⟩ hwit;have hw3:=(walk_cut hL aB).2 hw2;obtain⟨d',h1,h2⟩:=along hw3 d1 Tw;exact⟨d',aB,h2⟩
     |false=>
      have Fy:GK n L v e1 e=true:=by unfold GK;rw[hwit];simp[qk]
      obtain⟨d',h1,h2⟩:=arc ⟨e1.f,e.t,e1.w+e.w,v⟩ (.inr (tT.2 ⟨e1,he1,e,hout,Fy,rfl⟩)) d1 Tw;refine⟨d',?_,h2⟩;have:d'<=d1+(e1.w+e.w):=h1;omega
   ·obtain⟨d1,hd1,Tw⟩:=ih.1 (λe'=>hfv (hf.trans e'))
    rw[<-hf] at Tw;obtain⟨d',h1,h2⟩:=arc e (.inl (pM.2 ⟨he,hfv,hbv⟩)) d1 Tw;exact⟨d',aB,h2⟩
  ·have hfv:e.f≠v:=aB
   obtain⟨d1,hd1,Tw⟩:=ih.1 (λe'=>hfv (hf.trans e'));rw[<-hf] at Tw;exact⟨e,iB.2 ⟨he,hbv⟩,d1,Tw,aB⟩
end
end
structure Bld where
 left:List bQ
 all:List bQ
 gone:List Bool
 jA:List Int
def pC(n:Nat)(k:Nat)(z:Bld):Bld:=
 ⟨CX (gP n z.left (fV n z.left (kQ n z.left z.gone))) (kQ n z.left z.gone),gP n z.all (fV n z.left (kQ n z.left z.gone)),z.gone.set (kQ n z.left z.gone).toNat true,z.jA.set (kQ n z.left z.gone).toNat (k:Int)⟩
def cZ(n:Nat)(L:List bQ):Nat->Bld
 |0=>⟨L,L,List.replicate n false,List.replicate n 0⟩
 |k+1=>pC n k (cZ n L k)
def uW(gs:List Bool):Nat:=(gs.filter λb=>b).length
theorem Oa:∀{gs:List Bool} {i:Nat},gs[i]? =some false->uW (gs.set i true)=uW gs+1
 | [],i,h=>by simp at h
 |b::gs,0,h=>by simp at h;subst h;simp[uW]
 |b::gs,i+1,h=>by
  simp at h;have ih:=Oa (i:=i) h;simp only[List.set_cons_succ,uW,KZ] at ih ⊢
  split
  ·simp only[nU];omega
  ·exact ih
theorem kj{gs:List Bool}(h:uW gs<gs.length):∃v,v<gs.length/\cB gs v=false:=by
 induction gs with
 |nil=>simp at h
 |cons b gs ih=>
  cases b with
  |false=>exact⟨0,by simp,rfl⟩
  |true=>
   have:uW gs<gs.length:=by simp[uW] at h ⊢;omega
   obtain⟨v,h1,h2⟩:=ih this;exact⟨v+1,by simpa using h1,by unfold cB at h2 ⊢;simpa using h2⟩
theorem JP{gs:List Bool}{i:Nat}(hi:i<gs.length)(v:Nat):cB (gs.set i true) v=(decide (v=i) ||cB gs v):=by
 unfold cB;simp only[LP,vT]
 by_cases e:v=i
 ·subst e;simp[hi]
 ·rw[if_neg (λh=>e h.symm)];simp[e]
theorem XE{l:List bQ}{p:bQ->Bool}{f t:Int}(hp:∀x∈l,x.f=f->x.t=t->p x=true):jJ (l.filter p) f t=jJ l f t:=by
 unfold jJ
 induction l with
 |nil=>rfl
 |cons a l ih=>
  have ih':=ih λx hx=>hp x (by simp[hx]);simp only[KZ]
  by_cases hpa:p a=true
  ·rw[if_pos hpa]
   simp only[List.find?_cons]
   split
   ·rfl
   ·exact ih'
  ·rw[if_neg hpa,ih']
   simp only[List.find?_cons];have:(decide (a.f=f) && decide (a.t=t))=false:=by
    by_cases e1:a.f=f<;>by_cases e2:a.t=t<;>simp[e1,e2]
    exact hpa (hp a dL e1 e2)
   rw[this]
theorem Oc{n:Nat}{l:List bQ}(h:rR n l)(a:bQ)(f t:Int):jJ (uP n l a).1 f t=
  if EW n a/\f=a.f/\t=a.t/\(match jJ l f t with|some x=>decide (x.w<=a.w)|none=>false)=false then some a else jJ l f t:=by
 have KV:∀f t,jJ (LQ l a) f t=if f=a.f/\t=a.t then some a else jJ l f t:=λf t=>by
  have hs:=h.rP.KV a
  by_cases e:f=a.f/\t=a.t
  ·rw[if_pos e,e.1,e.2]
   exact xX hs (lY.2 (.inl rfl))
  ·rw[if_neg e]
   cases hx:jJ l f t with
   |none=>
    have hn:=TU hx;cases hy:jJ (LQ l a) f t with
    |none=>rfl
    |some y=>
     obtain⟨hm,h1,h2⟩:=qS hy;rcases lY.1 hm with rfl|⟨hm,_⟩
     ·exact absurd ⟨h1.symm,h2.symm⟩ e
     ·exact absurd ⟨h1,h2⟩ (hn y hm)
   |some x=>
    obtain⟨hm,h1,h2⟩:=qS hx;have wo:x∈LQ l a:=lY.2 (.inr ⟨hm,λe'=>e ⟨h1.symm.trans e'.1,h2.symm.trans e'.2⟩⟩);have:=xX hs wo;rwa[h1,h2] at this
 unfold uP
 by_cases hm:EW n a
 ·rw[if_pos hm]
  cases hf:jJ l a.f a.t with
  |none=>
   simp only;rw[KV]
   by_cases e:f=a.f/\t=a.t
   ·rw[if_pos e,if_pos ⟨hm,e.1,e.2,by rw[e.1,e.2,hf]⟩]
   ·rw[if_neg e,if_neg (λe'=>e ⟨e'.2.1,e'.2.2.1⟩)]
  |some x=>
   simp only
   by_cases hw:x.w<=a.w
   ·rw[if_pos hw]
    rw[if_neg];rintro⟨_,e1,e2,e3⟩;rw[e1,e2,hf] at e3;simp at e3;omega
   ·rw[if_neg hw,KV]
    by_cases e:f=a.f/\t=a.t
    ·rw[if_pos e,if_pos ⟨hm,e.1,e.2,by rw[e.1,e.2,hf];simpa using hw⟩]
    ·rw[if_neg e,if_neg (λe'=>e ⟨e'.2.1,e'.2.2.1⟩)]
 ·rw[if_neg hm,if_neg (λe=>hm e.1)]
theorem vO{n:Nat}:∀(xs:List bQ) {l m:List bQ},rR n l->rR n m->∀f t,jJ l f t=jJ m f t->jJ (gP n l xs) f t=jJ (gP n m xs) f t
 | [],_,_,_,_,_,_,h=>h
 |a::xs,l,m,hl,hm,f,t,h=>by
  show jJ (gP n (uP n l a).1 xs) f t=jJ (gP n (uP n m a).1 xs) f t;refine vO xs (VN hl a) (VN hm a) f t ?_;rw[Oc hl,Oc hm,h]
structure Lr(n:Nat)(k:Nat)(z:Bld):Prop where
 Ei:rR n z.left
 oka:rR n z.all
 gl:z.gone.length=n
 rl:z.jA.length=n
 YF:uW z.gone=k
 wl:∀e∈z.left,e.w<=549755813888
 wa:∀e∈z.all,e.w<=549755813888
 lg:∀e∈z.left,cB z.gone e.f.toNat=false/\cB z.gone e.t.toNat=false
 same:∀f t:Int,0<=f->0<=t->cB z.gone f.toNat=false->cB z.gone t.toNat=false->jJ z.all f t=jJ z.left f t
 rk:∀v:Nat,v<n->cB z.gone v=true->0<=z.jA.getD v 0/\z.jA.getD v 0<k
 inj:∀v w:Nat,v<n->w<n->cB z.gone v=true->cB z.gone w=true->z.jA.getD v 0=z.jA.getD w 0->v=w
theorem AM{n k:Nat}{z:Bld}(h:Lr n k z)(hk:k<n):0<=kQ n z.left z.gone/\kQ n z.left z.gone<n/\cB z.gone (kQ n z.left z.gone).toNat=false:=by
 have hf:=Xl n z.left z.gone n;obtain⟨v,h1,h2⟩:=kj (gs:=z.gone) (by rw[h.YF,h.gl];exact hk);have:0<=(lQ n z.left z.gone n).1:=by
  rcases Int.lt_or_le (lQ n z.left z.gone n).1 0 with h'|h'
  ·have:=(hf.none h').2 v (by rw[<-h.gl];exact h1)
   rw[h2] at this;cases this
  ·exact h'
 obtain⟨a,b,_⟩:=hf.some this;exact⟨this,a,b⟩
theorem MV{l:List Int}{i:Nat}(hi:i<l.length)(x:Int)(v:Nat):(l.set i x).getD v 0=if v=i then x else l.getD v 0:=by
 simp only[LP,vT]
 by_cases e:v=i
 ·subst e;simp[hi]
 ·rw[if_neg (λh=>e h.symm),if_neg e]
theorem aAp{n:Nat}{L:List bQ}(hL:rR n L)(hw:∀e∈L,e.w<=40):Lr n 0 (cZ n L 0):=by
 have g0:∀v,cB (List.replicate n false) v=false:=λv=>by unfold cB;rw[LP,Ev];split<;>rfl
 refine⟨hL,hL,by simp[cZ],by simp[cZ],?_,λe he=>by have:=hw e he;omega,λe he=>by have:=hw e he;omega,λe _=>⟨g0 _,g0 _⟩,λ_ _ _ _ _ _=>rfl,λv _ hv=>?_,λv w _ _ hv=>?_⟩
 ·show uW (List.replicate n false)=0
  unfold uW;rw[List.filter_eq_nil_iff.2 λb hb=>by rw[(List.mem_replicate.1 hb).2];simp];rfl
 ·rw[show(cZ n L 0).gone=List.replicate n false from rfl,g0] at hv;cases hv
 ·rw[show(cZ n L 0).gone=List.replicate n false from rfl,g0] at hv;cases hv
theorem bld_step{n k:Nat}{z:Bld}(h:Lr n k z)(hk:k<n)(sw:∀x∈fV n z.left (kQ n z.left z.gone),x.w<=549755813888):Lr n (k+1) (pC n k z):=by
 obtain⟨v0,v1,vg⟩:=AM h hk;unfold pC;generalize kQ n z.left z.gone=v at*;have cJ:v.toNat<z.gone.length:=by rw[h.gl];omega
 have fo:v.toNat<z.jA.length:=by rw[h.rl];omega
 have Lm:=JP cJ;have okp:=HF (n:=n) (fV n z.left v) h.Ei;have sg:∀x∈fV n z.left v,cB z.gone x.f.toNat=false/\cB z.gone x.t.toNat=false:=λx hx=>by
  obtain⟨a,ha,b,hb,_,rfl⟩:=tT.1 hx;exact⟨(h.lg a (iB.1 ha).1).1,(h.lg b (eK.1 hb).1).2⟩
 refine⟨okp.cut v,HF _ h.oka,by simp[h.gl],by simp[h.rl],?_,λe he=>?_,λe he=>?_,λe he=>?_,λf t hf0 ht0 hf ht=>?_,λu hu hg=>?_,λu w hu hw hgu hgw e=>?_⟩
 ·have cV:z.gone[v.toNat]? =some false:=by
   unfold cB at vg;rw[LP,gS cJ] at vg;rw[gS cJ];simpa using vg
  show uW (z.gone.set v.toNat true)=k+1;rw[Oa cV,h.YF]
 ·rcases pD _ (pM.1 he).1 with h'|h'
  ·exact h.wl e h'
  ·exact sw e h'
 ·rcases pD _ he with h'|h'
  ·exact h.wa e h'
  ·exact sw e h'
 ·obtain⟨he,ne1,ne2⟩:=pM.1 he
  have hm:=okp.vS e he;have hg:cB z.gone e.f.toNat=false/\cB z.gone e.t.toNat=false:=by
   rcases pD _ he with h'|h'
   ·exact h.lg e h'
   ·exact sg e h'
  show cB (z.gone.set v.toNat true) _=false/\cB (z.gone.set v.toNat true) _=false;rw[Lm,Lm,hg.1,hg.2];have:=hm.1;have:=hm.2.2.1
  constructor<;>simp<;>omega
 ·replace hf:cB (z.gone.set v.toNat true) f.toNat=false:=hf
  replace ht:cB (z.gone.set v.toNat true) t.toNat=false:=ht
  rw[Lm] at hf ht;simp at hf ht;show jJ (gP n z.all _) f t=jJ (CX (gP n z.left _) v) f t;have e1:=vO (fV n z.left v) h.oka h.Ei f t (h.same f t hf0 ht0 hf.2 ht.2);have e2:jJ (CX (gP n z.left (fV n z.left v)) v) f t=jJ (gP n z.left (fV n z.left v)) f t:=XE λx _ e3 e4=>by
   simp only[tE,decide_eq_true_eq];exact⟨λe=>hf.1 (by rw[<-e3,e]),λe=>ht.1 (by rw[<-e4,e])⟩
  rw[e1,e2]
 ·replace hg:cB (z.gone.set v.toNat true) u=true:=hg
  show 0<=(z.jA.set v.toNat (k:Int)).getD u 0/\(z.jA.set v.toNat (k:Int)).getD u 0<((k+1:Nat):Int);rw[Lm] at hg;rw[MV fo]
  by_cases e:u=v.toNat
  ·rw[if_pos e];omega
  ·rw[if_neg e]
   simp[e] at hg;have:=h.rk u hu hg;omega
 ·replace hgu:cB (z.gone.set v.toNat true) u=true:=hgu
  replace hgw:cB (z.gone.set v.toNat true) w=true:=hgw
  replace e:(z.jA.set v.toNat (k:Int)).getD u 0=(z.jA.set v.toNat (k:Int)).getD w 0:=e
  rw[Lm] at hgu hgw;rw[MV fo,MV fo] at e
  by_cases e1:u=v.toNat<;>by_cases e2:w=v.toNat
  ·rw[e1,e2]
  ·rw[if_pos e1,if_neg e2] at e
   simp[e2] at hgw;have:=h.rk w hw hgw;omega
  ·rw[if_neg e1,if_pos e2] at e
   simp[e1] at hgu;have:=h.rk u hu hgu;omega
  ·rw[if_neg e1,if_neg e2] at e
   simp[e1] at hgu;simp[e2] at hgw;exact h.inj u w hu hw hgu hgw e
theorem VU{n:Nat}{z:Bld}(h:Lr n n z)(v:Nat)(hv:v<n):cB z.gone v=true:=by
 cases hg:cB z.gone v with
 |true=>rfl
 |false=>
  have key:∀(gs:List Bool) (v:Nat),v<gs.length->cB gs v=false->uW gs<gs.length:=by
   intro gs
   induction gs with
   |nil=>intro v hv;simp at hv
   |cons b gs ih=>
    intro v hv hg;have IN:uW gs<=gs.length:=vW _ _;cases b with
    |false=>simp[uW] at IN ⊢;omega
    |true=>
     cases v with
     |zero=>simp[cB] at hg
     |succ v=>
      have:=ih v (by simpa using hv) (by unfold cB at hg ⊢;simpa using hg);simp[uW] at this ⊢;omega
  have:=key z.gone v (by rw[h.gl];exact hv) hg;rw[h.YF,h.gl] at this;omega
section
theorem Hd{n k:Nat}{z:Bld}(h:Lr n k z){y:bQ}(hy:y∈z.left):y∈z.all:=by
 obtain⟨g1,g2⟩:=h.lg y hy;have hm:=h.Ei.vS y hy;have e:=h.same y.f y.t hm.1 hm.2.2.1 g1 g2;rw[xX h.Ei.rP hy] at e;exact(qS e).1
theorem uf{n:Nat}{L:List bQ}(hL:rR n L){v:Int}{xs:List bQ}(hx:∀x∈xs,x.f≠v/\x.t≠v):∀y∈gP n (CX L v) xs,y∈CX (gP n L xs) v:=by
 intro y hy;have kH:=HF (n:=n) xs (hL.cut v);have gF:y.f≠v/\y.t≠v:=by
  rcases pD _ hy with h|h
  ·exact(pM.1 h).2
  ·exact hx y h
 have e1:jJ (CX L v) y.f y.t=jJ L y.f y.t:=XE λx _ e3 e4=>by
  simp only[tE,decide_eq_true_eq];exact⟨λe=>gF.1 (by rw[<-e3,e]),λe=>gF.2 (by rw[<-e4,e])⟩
 have e2:=vO xs (hL.cut v) hL y.f y.t e1;rw[xX kH.rP hy] at e2;exact pM.2 ⟨(qS e2.symm).1,gF⟩
theorem js{L:List bQ}{a b d c:Int}(h:fY L (-1) a b d)(hac:a≠c):(b≠c/\fY L c a b d)\/∃d1 d2,fY L (-1) a c d1/\fY L (-1) c b d2/\d1+d2=d:=by
 induction h with
 |nil=>exact .inl ⟨hac,.nil⟩
 | @gW x d e h he hf ht ih=>
  by_cases hc:e.t=c
  ·refine .inr ⟨d+e.w,0,?_,?_,aB⟩
   ·have:=fY.gW e h he hf ht
    rwa[hc] at this
   ·rw[hc];exact .nil
  ·rcases ih with⟨_,h1⟩|⟨d1,d2,h1,h2,h3⟩
   ·exact .inl ⟨hc,.gW e h1 he hf hc⟩
   ·exact .inr ⟨d1,d2+e.w,h1,.gW e h2 he hf ht,aB⟩
theorem fY.one_le{m:Nat}{L:List bQ}(hL:rR m L){c a v d:Int}(h:fY L c a v d)(gF:a≠v):1<=d:=by
 cases h with
 |nil=>exact absurd rfl gF
 |gW e h he _ _=>have:=(hL.vS e he).2.2.2.2.2.1;have:=h.pos hL;omega
def below(s:List It)(d:Int):Nat:=(s.filter λx=>decide (x.key<d)).length
theorem below_lt{s:List It}{x:It}(hx:x∈s){d:Int}(h:x.key<d):below s x.key+1<=below s d:=by
 induction s with
 |nil=>cases hx
 |cons y s ih=>
  have mono:∀s:List It,below s x.key<=below s d:=λs=>by
   induction s with
   |nil=>exact iT _
   |cons z s ih=>
    unfold below at ih ⊢;simp only[KZ]
    by_cases h1:z.key<x.key
    ·have h2:z.key<d:=aB
     simp[h1,h2];exact ih
    ·by_cases h2:z.key<d
     ·simp[h1,h2];omega
     ·simp[h1,h2];exact ih
  rcases lL.1 hx with rfl|hx
  ·have:=mono s
   unfold below at this ⊢;simp only[KZ];simp[h];omega
  ·have:=ih hx
   unfold below at this ⊢;simp only[KZ]
   by_cases h1:y.key<x.key
   ·have h2:y.key<d:=aB
    simp[h1,h2];exact this
   ·by_cases h2:y.key<d
    ·simp[h1,h2];omega
    ·simp[h1,h2];exact this
section
variable{m:Nat}{L:List bQ}(hL:rR m L){W:Int}(hW:∀e∈L,e.w<=W)(hW0:0<=W){a:Int}(ha:0<=a)(pI:a<m)
include hL hW hW0 ha pI
theorem RB:∀(k:Nat) {v d:Int},d.toNat<=k->(⟨v,d⟩:It)∈eF m L (-1) a->d<=(below (eF m L (-1) a) d:Int)*W
 |k,v,d,hk,h=>by
  obtain⟨hw,fm⟩:=(pG hL (-1) ha pI).1 h;cases hw with
  |nil=>exact Int.mul_nonneg aB hW0
  | @gW x d0 e h0 he hf ht=>
   have hew:=(hL.vS e he).2.2.2.2.2.1;have hd0:=h0.pos hL;have hs:(⟨x,d0⟩:It)∈eF m L (-1) a:=(pG hL (-1) ha pI).2 ⟨h0,λd' hd'=>by have:=fm (d'+e.w) (.gW e hd' he hf ht);omega⟩;obtain⟨k',rfl⟩:∃k',k=k'+1:=⟨k-1,aB⟩;have ih:=RB k' aB hs;have hb:=below_lt hs (d:=d0+e.w) (by show d0<d0+e.w;omega);have bW:(below (eF m L (-1) a) d0:Int)+1<=(below (eF m L (-1) a) (d0+e.w):Int):=by
    have:below (eF m L (-1) a) d0+1<=below (eF m L (-1) a) (d0+e.w):=hb;omega
   have h1:=Int.mul_le_mul_of_nonneg_right bW hW0;rw[Int.add_mul,Int.one_mul] at h1;have:=hW e he;omega
theorem jv{b d:Int}(h:fY L (-1) a b d):∃d',d'<=d/\fY L (-1) a b d'/\d'<=(m:Int)*W:=by
 obtain⟨k,hk,hs⟩:=RA hL (-1) ha pI h;refine⟨k,hk,((pG hL (-1) ha pI).1 hs).1,?_⟩;have h1:=RB hL hW hW0 ha pI k.toNat (iT _) hs;have h2:below (eF m L (-1) a) k<=m:=iF (vW _ _) (NG hL (-1) ha pI);have h3:=Int.mul_le_mul_of_nonneg_right (show(below (eF m L (-1) a) k:Int)<=(m:Int) by omega) hW0;omega
end
theorem Be:∀gs:List Bool,((List.range gs.length).filter λv=>cB gs v).length=uW gs
 | []=>rfl
 |b::gs=>by
  have ih:=Be gs;rw[nU,List.range_succ_eq_map,KZ,List.filter_map];have e:((λv=>cB (b::gs) v) ∘ Nat.succ)=λv=>cB gs v:=by funext v;simp[cB]
  rw[e];cases b with
  |true=>
   have:cB (true::gs) 0=true:=by simp[cB]
   rw[this];simp[uW] at ih ⊢;exact ih
  |false=>
   have:cB (false::gs) 0=false:=by simp[cB]
   rw[this];simp[uW] at ih ⊢;exact ih
theorem Ym{m:Nat}{L:List bQ}(hL:rR m L){c a:Int}(ha:0<=a)(pI:a<m){gs:List Bool}(hg:gs.length=m)(hx:∀x∈eF m L c a,cB gs x.id.toNat=false):
  (eF m L c a).length+uW gs<=m:=by
 have bq:=(xB hL c ha pI m).Dg;have IP:∀x∈eF m L c a,0<=x.id/\x.id<m:=λx hx=>(Yn hL c ha pI hx).2.2;have key:=wL (m:=m) (l:=(eF m L c a).map (·.id)++((List.range gs.length).filter λv=>cB gs v).map λv:Nat=>(v:Int)) ?_ ?_
 ·rw[mL,oL,oL,Be] at key;exact key
 ·rw[List.nodup_append]
  refine⟨bq,?_,?_⟩
  ·rw[List.Nodup,List.pairwise_map]
   exact List.Pairwise.imp (λ{x y:Nat} (h:x<y) (e:(x:Int)=(y:Int))=>aB) (RU _ (List.pairwise_lt_range (n:=gs.length)))
  ·intro x Dd y hy e
   obtain⟨x',Bv,rfl⟩:=lK.1 Dd;obtain⟨y',Tv,rfl⟩:=lK.1 hy;have h1:=hx x' Bv;have h2:=(jE.1 Tv).2;rw[e,kE,h2] at h1;cases h1
 ·intro x Dd
  rcases jK.1 Dd with h|h
  ·obtain⟨x',Bv,rfl⟩:=lK.1 h
   exact IP x' Bv
  ·obtain⟨y',Tv,rfl⟩:=lK.1 h
   have:=List.mem_range.1 (jE.1 Tv).1;omega
theorem wit_few{n:Nat}{L:List bQ}(hL:rR n L){a to c k:Int}{s:Nat}(ha:0<=a/\a<n)(ht:0<=to/\to<n)(hac:a≠c){d:Int}(hw:fY L c a to d)(hd:d<=k)(hs:(eF n L c a).length<=s):PR n L a to c k s=true:=by
 obtain⟨e,he,hm⟩:=RA hL c ha.1 ha.2 hw;obtain⟨i,hi⟩:=oM.1 hm;have h2:=(kU.1 hi).1;exact(qz ha ht hac k s).2 ⟨i,e,aB,hi,aB⟩
structure BRat(n:Nat)(L:List bQ)(k:Nat)(z:Bld):Prop where
 abs:k<=21->∀e∈z.left,e.w<=40*2^k
 rat:∀e∈z.left,∀d,fY L (-1) e.f e.t d->e.w<=83886080*d
 aN:∀a b d:Int,fY L (-1) a b d->0<=a->0<=b->cB z.gone a.toNat=false->cB z.gone b.toNat=false->∃d',d'<=d/\fY z.left (-1) a b d'
 dN:∀e∈z.left,fY L (-1) e.f e.t e.w
theorem zj{n:Nat}{L:List bQ}(hL:rR n L)(hw:∀e∈L,e.w<=40):BRat n L 0 (cZ n L 0):=by
 refine⟨λ_ e he=>by have:=hw e he;omega,λe he d hd=>?_,λa b d h _ _ _ _=>⟨d,oY _,h⟩,λe he=>?_⟩
 ·have hm:=hL.vS e he
  have h1:=hd.one_le hL (λe'=>hm.2.2.2.2.1 e');have:=hw e he;omega
 ·have:=fY.gW (a:=e.f) e (.nil (L:=L) (c:=-1)) he rfl (by have:=(hL.vS e he).2.2.1;omega)
  rwa[Int.zero_add] at this
theorem pow21{k:Nat}(h:k<=21):(40*2^k:Int)<=83886080:=by
 have:(2^k:Nat)<=2^21:=Nat.pow_le_pow_right (by decide) h;have e:((2^k:Nat):Int)=(2^k:Int):=by simp
 omega
theorem rat_step{n k:Nat}{L:List bQ}{z:Bld}(hL:rR n L)(hw:∀e∈L,e.w<=40)(hn:n<=51)(h:Lr n k z)(r:BRat n L k z)(hk:k<n):
  (∀x∈fV n z.left (kQ n z.left z.gone),x.w<=549755813888)/\BRat n L (k+1) (pC n k z):=by
 obtain⟨v0,v1,vg⟩:=AM h hk;have uH:=OM h.Ei (v:=kQ n z.left z.gone) h.wl v0 v1;unfold pC;generalize kQ n z.left z.gone=v at*;have cJ:v.toNat<z.gone.length:=by rw[h.gl];omega
 have Lm:=JP cJ;have hback:∀{a b d:Int},fY z.left (-1) a b d->fY L (-1) a b d:=λ{a b d} hh=>by
  induction hh with
  |nil=>exact .nil
  |gW y _ hy hf _ ih=>rw[<-hf] at ih;exact ih.trans (r.dN y hy)
 have sabs:k+1<=21->∀x∈fV n z.left v,x.w<=40*2^(k+1):=λQD x hx=>by
  obtain⟨p,hp,q,hq,_,rfl⟩:=tT.1 hx;have h1:=r.abs aB p (iB.1 hp).1;have h2:=r.abs aB q (eK.1 hq).1;show p.w+q.w<=_;omega
 have sback:∀x∈fV n z.left v,fY L (-1) x.f x.t x.w:=λx hx=>by
  obtain⟨p,hp,q,hq,_,rfl⟩:=tT.1 hx;obtain⟨hpL,hpt⟩:=iB.1 hp;obtain⟨hqL,hqf⟩:=eK.1 hq;have w1:=r.dN p hpL;have w2:=r.dN q hqL;rw[hpt] at w1;rw[hqf] at w2;exact w1.trans w2
 have srat:∀x∈fV n z.left v,∀d,fY L (-1) x.f x.t d->x.w<=83886080*d:=λx hx d hd=>by
  have hxm:=(uH x hx).1;have hd1:=hd.one_le hL (λe'=>hxm.2.2.2.2.1 e')
  by_cases QD:k+1<=21
  ·have h1:=sabs QD x hx
   have h2:=pow21 QD;omega
  ·obtain⟨p,hp,q,hq,Fy,rfl⟩:=tT.1 hx
   obtain⟨hpL,hpt⟩:=iB.1 hp;obtain⟨hqL,hqf⟩:=eK.1 hq;have mp:=h.Ei.vS p hpL;have mq:=h.Ei.vS q hqL;have gp:=(h.lg p hpL).1;have gq:=(h.lg q hqL).2;show p.w+q.w<=83886080*d;obtain⟨d',hd',wl⟩:=r.aN p.f q.t d hd mp.1 mq.2.2.1 gp gq;rcases Int.lt_or_le (p.w+q.w) d' with GA|IN
   ·omega
   ·have hpv:p.f≠v:=by have:=mp.2.2.2.2.1;omega
    rcases js wl hpv with⟨_,hc⟩|⟨d1,d2,h1,h2,h3⟩
    ·have few:=Ym h.Ei (c:=v) mp.1 mp.2.1 h.gl λy hy=>by
      have hwy:=((pG h.Ei v mp.1 mp.2.1).1 (show(⟨y.id,y.key⟩:It)∈_ from hy)).1;generalize y.key=dk at hwy;generalize y.id=iy at hwy ⊢;cases hwy with
      |nil=>exact gp
      |gW e _ he _ _=>exact(h.lg e he).2
     rw[h.YF] at few;have hwit:=wit_few (s:=30) h.Ei ⟨mp.1,mp.2.1⟩ ⟨mq.2.2.1,mq.2.2.2.1⟩ hpv hc IN aB;unfold GK at Fy;have hwit':PR n z.left p.f q.t v (p.w+q.w) 30=true:=hwit;rw[hwit'] at Fy;simp at Fy
    ·have r1:=r.rat p hpL d1 (by rw[hpt];exact hback h1)
     have r2:=r.rat q hqL d2 (by rw[hqf];exact hback h2);omega
 refine⟨λx hx=>?_,λQD e he=>?_,λe he d hd=>?_,λa b d hd a0 b0 ag bg=>?_,λe he=>?_⟩
 ·have hxm:=(uH x hx).1
  obtain⟨d',_,hd',hb⟩:=jv hL hw (by decide) hxm.1 hxm.2.1 (sback x hx);have:=srat x hx d' hd';omega
 ·rcases pD _ (pM.1 he).1 with h'|h'
  ·have:=r.abs aB e h'
   have:=(h.Ei.vS e h').2.2.2.2.2.1;omega
  ·exact sabs QD e h'
 ·rcases pD _ (pM.1 he).1 with h'|h'
  ·exact r.rat e h' d hd
  ·exact srat e h' d hd
 ·replace ag:cB (z.gone.set v.toNat true) a.toNat=false:=ag
  replace bg:cB (z.gone.set v.toNat true) b.toNat=false:=bg
  rw[Lm] at ag bg;simp at ag bg;obtain⟨d1,h1,w1⟩:=r.aN a b d hd a0 b0 ag.2 bg.2;obtain⟨d2,h2,w2⟩:=(Xh h.Ei h.wl v0 v1 (λe=>ag.1 (by rw[e])) w1).1 (λe=>bg.1 (by rw[e]));exact⟨d2,aB,w2.mono λe he gF=>⟨uf h.Ei (λx hx=>⟨(uH x hx).2.2.1,(uH x hx).2.2.2⟩) e he,gF⟩⟩
 ·rcases pD _ (pM.1 he).1 with h'|h'
  ·exact r.dN e h'
  ·exact sback e h'
theorem Xr{n:Nat}{L:List bQ}(hL:rR n L)(hw:∀e∈L,e.w<=40)(hn:n<=51):∀k,k<=n->Lr n k (cZ n L k)/\BRat n L k (cZ n L k)
 |0,_=>⟨aAp hL hw,zj hL hw⟩
 |k+1,h=>by
  obtain⟨h1,h2⟩:=Xr hL hw hn k aB;obtain⟨h3,h4⟩:=rat_step hL hw hn h1 h2 aB;exact⟨bld_step h1 aB h3,h4⟩
theorem xC{n:Nat}{L:List bQ}(hL:rR n L)(hw:∀e∈L,e.w<=40)(hn:n<=51)(k:Nat)(h:k<=n):Lr n k (cZ n L k):=(Xr hL hw hn k h).1
end
section
theorem put_keep{n:Nat}{l:List bQ}(h:rR n l){a y:bQ}(hy:y∈l)(gF:¬(y.f=a.f/\y.t=a.t)):y∈(uP n l a).1:=by
 unfold uP
 split
 ·split
  ·split
   ·exact hy
   ·exact lY.2 (.inr ⟨hy,gF⟩)
  ·exact lY.2 (.inr ⟨hy,gF⟩)
 ·exact hy
theorem Bb{n:Nat}:∀(xs:List bQ) {l:List bQ},rR n l->∀y∈l,(∀a∈xs,¬(y.f=a.f/\y.t=a.t))->y∈gP n l xs
 | [],_,_,_,hy,_=>hy
 |a::xs,_,h,y,hy,hn=>Bb xs (VN h a) y (put_keep h hy (hn a dL)) λb hb=>hn b (by simp[hb])
structure BOwn(n:Nat)(L:List bQ)(k:Nat)(z:Bld):Prop where
 gN:∀y∈z.all,y.m<0->y∈L
 light:∀e∈L,∃y∈z.all,y.f=e.f/\y.t=e.t/\y.w<=e.w
 half:∀e∈z.all,0<=e.m->cB z.gone e.m.toNat=true/\(∃a∈z.all,∃b∈z.all,a.f=e.f/\a.t=e.m/\b.f=e.m/\b.t=e.t/\a.w+b.w=e.w)/\
  (cB z.gone e.f.toNat=true->z.jA.getD e.m.toNat 0<z.jA.getD e.f.toNat 0)/\(cB z.gone e.t.toNat=true->z.jA.getD e.m.toNat 0<z.jA.getD e.t.toNat 0)
section
variable{n k:Nat}{L:List bQ}{z:Bld}
theorem Nk(h:Lr n k z)(hk:k<n){y:bQ}(hy:y∈z.all)
  (hg:cB z.gone y.f.toNat=true\/cB z.gone y.t.toNat=true\/y.f=kQ n z.left z.gone\/y.t=kQ n z.left z.gone):y∈(pC n k z).all:=by
 obtain⟨v0,v1,vg⟩:=AM h hk;unfold pC;generalize kQ n z.left z.gone=v at*;have hm:=OM h.Ei (v:=v) h.wl v0 v1;refine Bb _ h.oka y hy λa ha=>?_;obtain⟨p,hp,q,hq,_,rfl⟩:=tT.1 ha;have g1:=(h.lg p (iB.1 hp).1).1;have g2:=(h.lg q (eK.1 hq).1).2;obtain⟨_,_,n1,n2⟩:=hm _ ha;rintro⟨e1,e2⟩;have e1':y.f=p.f:=e1;have e2':y.t=q.t:=e2;rcases hg with hg|hg|hg|hg
 ·rw[e1',g1] at hg;cases hg
 ·rw[e2',g2] at hg;cases hg
 ·exact n1 (show p.f=v by omega)
 ·exact n2 (show q.t=v by omega)
end
def cD(rs:List Int)(v:Int):Int:=if 0<=v/\v<rs.length then rs.getD v.toNat 0 else-1
def upL(A:List bQ)(rs:List Int)(v:Int):List bQ:=(dZ A v).filter λe=>decide (cD rs v<cD rs e.t)
def DR(A:List bQ)(rs:List Int)(v:Int):List bQ:=(nK A v).filter λe=>decide (cD rs v<cD rs e.f)
inductive cv(A:List bQ)(rs:List Int)(a:Int):Int->Int->Prop where
 |nil:cv A rs a a 0
 |gW {v d:Int} (e:bQ) (h:cv A rs a v d) (he:e∈A) (hf:e.f=v) (hr:cD rs e.f<cD rs e.t):cv A rs a e.t (d+e.w)
inductive GR(A:List bQ)(rs:List Int):Int->Int->Int->Prop where
 |nil (v:Int):GR A rs v v 0
 |gW {u v d:Int} (e:bQ) (h:GR A rs u v d) (he:e∈A) (hf:e.f=v) (hr:cD rs e.t<cD rs e.f):GR A rs u e.t (d+e.w)
theorem cv.cons{A:List bQ}{rs:List Int}{x w d:Int}(e:bQ)(he:e∈A)(hr:cD rs e.f<cD rs e.t)(ht:e.t=x)(h:cv A rs x w d):cv A rs e.f w (e.w+d):=by
 induction h with
 |nil=>rw[Int.add_zero,<-ht];have:=cv.gW (a:=e.f) e .nil he rfl hr;rwa[Int.zero_add] at this
 |gW e' _ vV XU bp ih=>rw[<-Int.add_assoc];exact .gW e' ih vV XU bp
def UD(A:List bQ)(rs:List Int)(a b d:Int):Prop:=∃m d1 d2,cv A rs a m d1/\GR A rs m b d2/\d1+d2<=d
theorem fY.kO{n:Nat}{L:List bQ}(hL:rR n L){a:Int}:∀{b d:Int},fY L (-1) a b d->b≠a->∃e∈L,e.f=a/\e.t≠a/\∃d',fY L (-1) e.t b d'/\e.w+d'<=d:=by
 intro b d h
 induction h with
 |nil=>intro hb;exact absurd rfl hb
 | @gW x d e h he hf ht ih=>
  intro hb
  by_cases hx:x=a
  ·have:=h.pos hL
   exact⟨e,he,hf.trans hx,hb,0,.nil,aB⟩
  ·obtain⟨e1,h1,h2,h3,d',h4,h5⟩:=ih hx
   exact⟨e1,h1,h2,h3,d'+e.w,.gW e h4 he hf ht,aB⟩
section
variable{n:Nat}{L:List bQ}(hL:rR n L)(hw:∀e∈L,e.w<=40)(hn:n<=51)
include hL hw hn
theorem HJ:∀j k,k+j<=n->∀x:Nat,x<n->
  (cB (cZ n L k).gone x=true->cB (cZ n L (k+j)).gone x=true/\(cZ n L (k+j)).jA.getD x 0=(cZ n L k).jA.getD x 0)/\
  (cB (cZ n L k).gone x=false->cB (cZ n L (k+j)).gone x=true->(k:Int)<=(cZ n L (k+j)).jA.getD x 0)
 |0,k,_,x,_=>⟨λh=>⟨h,rfl⟩,λh h'=>by rw[Nat.add_zero,h] at h';cases h'⟩
 |j+1,k,hk,x,hx=>by
  obtain⟨h1,h2⟩:=HJ j k aB x hx;have hi:=xC hL hw hn (k+j) aB;obtain⟨v0,v1,vg⟩:=AM hi aB;show(_->cB (pC n (k+j) (cZ n L (k+j))).gone x=true/\(pC n (k+j) (cZ n L (k+j))).jA.getD x 0=_)/\(_->cB (pC n (k+j) (cZ n L (k+j))).gone x=true->_<=(pC n (k+j) (cZ n L (k+j))).jA.getD x 0);unfold pC;generalize kQ n (cZ n L (k+j)).left (cZ n L (k+j)).gone=v at*;have cJ:v.toNat<(cZ n L (k+j)).gone.length:=by rw[hi.gl];omega
  have fo:v.toNat<(cZ n L (k+j)).jA.length:=by rw[hi.rl];omega
  simp only[JP cJ,MV fo];refine⟨λhg=>?_,λhg xd=>?_⟩
  ·obtain⟨g1,g2⟩:=h1 hg
   have:x≠v.toNat:=λe=>by rw[e,vg] at g1;cases g1
   exact⟨by rw[g1];simp,by rw[if_neg this,g2]⟩
  ·by_cases e:x=v.toNat
   ·rw[if_pos e];omega
   ·rw[if_neg e]
    simp[e] at xd;exact h2 hg xd
theorem On:∀j k,k+j<=n->∀y∈(cZ n L k).all,(cB (cZ n L k).gone y.f.toNat=true\/cB (cZ n L k).gone y.t.toNat=true)->y∈(cZ n L (k+j)).all
 |0,_,_,_,hy,_=>hy
 |j+1,k,hk,y,hy,hg=>by
  have ih:=On j k aB y hy hg;have hi:=xC hL hw hn (k+j) aB;have hm:=hi.oka.vS y ih;refine Nk hi aB ih ?_;rcases hg with hg|hg
  ·exact .inl ((HJ hL hw hn j k aB y.f.toNat (by have:=hm.1;have:=hm.2.1;omega)).1 hg).1
  ·exact .inr (.inl ((HJ hL hw hn j k aB y.t.toNat (by have:=hm.2.2.1;have:=hm.2.2.2.1;omega)).1 hg).1)
theorem MS{x:Int}(h0:0<=x)(h1:x<n):cD (cZ n L n).jA x=(cZ n L n).jA.getD x.toNat 0:=by
 unfold cD;rw[(xC hL hw hn n (iT n)).rl,if_pos ⟨h0,h1⟩]
theorem uj:∀j k,k+j=n->∀{a b d:Int},fY (cZ n L k).left (-1) a b d->0<=a->a<n->cB (cZ n L k).gone a.toNat=false->cB (cZ n L k).gone b.toNat=false->0<=b->b<n->UD (cZ n L n).all (cZ n L n).jA a b d
 |0,k,hk,a,b,d,_,a0,a1,ag,_,_,_=>by
  have lD:k=n:=aB;subst lD;rw[VU (xC hL hw hn k (iT k)) a.toNat aB] at ag;cases ag
 |j+1,k,hk,a,b,d,hwk,a0,a1,ag,bg,b0,b1=>by
  have hi:=xC hL hw hn k aB;obtain⟨v0,v1,vg⟩:=AM hi aB;have hw':=hi.wl;have uH:=OM hi.Ei (v:=kQ n (cZ n L k).left (cZ n L k).gone) hw' v0 v1;have ih:=λ{a b d:Int}=>uj j (k+1) aB (a:=a) (b:=b) (d:=d);have ET:cZ n L (k+1)=pC n k (cZ n L k):=rfl;have hleft:(cZ n L (k+1)).left=CX (gP n (cZ n L k).left (fV n (cZ n L k).left (kQ n (cZ n L k).left (cZ n L k).gone))) (kQ n (cZ n L k).left (cZ n L k).gone):=rfl;have qn:(cZ n L (k+1)).gone=(cZ n L k).gone.set (kQ n (cZ n L k).left (cZ n L k).gone).toNat true:=rfl;have hrank:(cZ n L (k+1)).jA=(cZ n L k).jA.set (kQ n (cZ n L k).left (cZ n L k).gone).toNat (k:Int):=rfl;have aN:=λy hy hg=>Nk hi aB (y:=y) hy hg;rw[<-ET] at aN;generalize kQ n (cZ n L k).left (cZ n L k).gone=v at*;have cJ:v.toNat<(cZ n L k).gone.length:=by rw[hi.gl];omega
  have fo:v.toNat<(cZ n L k).jA.length:=by rw[hi.rl];omega
  have Lm:=JP cJ;have hvg:cB (cZ n L (k+1)).gone v.toNat=true:=by rw[qn,Lm];simp
  have hvr:cD (cZ n L n).jA v=(k:Int):=by
   rw[MS hL hw hn v0 v1];have:=((HJ hL hw hn j (k+1) aB v.toNat aB).1 hvg).2;rw[show k+1+j=n by omega] at this;rw[this,hrank,MV fo,if_pos rfl]
  have gz:∀x:Int,0<=x->x≠v->cB (cZ n L k).gone x.toNat=false->cB (cZ n L (k+1)).gone x.toNat=false:=λx h0 hx hg=>by
   rw[qn,Lm,hg];simp;omega
  have higher:∀x:Int,0<=x->x<n->x≠v->cB (cZ n L k).gone x.toNat=false->(k:Int)<cD (cZ n L n).jA x:=λx h0 h1 hx hg=>by
   rw[MS hL hw hn h0 h1];have:=(HJ hL hw hn j (k+1) aB x.toNat aB).2 (gz x h0 hx hg);rw[show k+1+j=n by omega] at this;have:=this (VU (xC hL hw hn n (iT n)) x.toNat aB);omega
  have away:∀{a b d:Int},fY (cZ n L k).left (-1) a b d->0<=a->a<n->a≠v->b≠v->cB (cZ n L k).gone a.toNat=false->cB (cZ n L k).gone b.toNat=false->0<=b->b<n->UD (cZ n L n).all (cZ n L n).jA a b d:=λ{a b d} hwk a0 a1 ha hb ag bg b0 b1=>by
   obtain⟨d',hd',hw2⟩:=(Xh hi.Ei hw' v0 v1 ha hwk).1 hb;have hw3:fY (cZ n L (k+1)).left (-1) a b d':=hw2.mono λe he gF=>by
    rw[hleft];exact⟨uf hi.Ei (λx hx=>⟨(uH x hx).2.2.1,(uH x hx).2.2.2⟩) e he,gF⟩
   obtain⟨m,d1,d2,h1,h2,h3⟩:=ih hw3 a0 a1 (gz a a0 ha ag) (gz b b0 hb bg) b0 b1;exact⟨m,d1,d2,h1,h2,aB⟩
  have kO:∀y∈(cZ n L k).left,(y.f=v\/y.t=v)->y∈(cZ n L n).all:=λy hy hv=>by
   have h1:=aN y (Hd hi hy) (by rcases hv with h|h;exact .inr (.inr (.inl h));exact .inr (.inr (.inr h)));have:=On hL hw hn j (k+1) aB y h1 (by rcases hv with h|h;exact .inl (by rw[h];exact hvg);exact .inr (by rw[h];exact hvg));rwa[show k+1+j=n by omega] at this
  by_cases hav:a=v
  ·by_cases hbv:b=v
   ·refine⟨a,0,0,.nil,?_,by have:=hwk.pos hi.Ei;omega⟩
    rw[hbv,<-hav];exact .nil a
   ·obtain⟨e,he,hef,het,d',hw2,hd'⟩:=hwk.kO hi.Ei (by rw[hav];exact hbv)
    have hm:=hi.Ei.vS e he;have hg:=hi.lg e he;have hetv:e.t≠v:=λe'=>het (e'.trans hav.symm);obtain⟨m,d1,d2,h1,h2,h3⟩:=away hw2 hm.2.2.1 hm.2.2.2.1 hetv hbv hg.2 bg b0 b1;have nj:cv (cZ n L n).all (cZ n L n).jA e.f m (e.w+d1):=h1.cons e (kO e he (.inl (hef.trans hav))) (by rw[hef,hav,hvr];exact higher e.t hm.2.2.1 hm.2.2.2.1 hetv hg.2) rfl;rw[hef] at nj;exact⟨m,e.w+d1,d2,nj,h2,aB⟩
  ·by_cases hbv:b=v
   ·cases hwk with
    |nil=>exact absurd hbv hav
    | @gW x d0 e h he hf ht=>
     have hm:=hi.Ei.vS e he;have hg:=hi.lg e he;have hxv:e.f≠v:=by have:=hm.2.2.2.2.1;omega
     rw[<-hf] at h;obtain⟨m,d1,d2,h1,h2,h3⟩:=away h a0 a1 hav hxv ag hg.1 hm.1 hm.2.1;refine⟨m,d1,d2+e.w,h1,.gW e h2 (kO e he (.inr hbv)) rfl (by rw[hbv,hvr];exact higher e.f hm.1 hm.2.1 hxv hg.1),aB⟩
   ·exact away hwk a0 a1 hav hbv ag bg b0 b1
theorem Hi:∀k,k<=n->∀y∈(cZ n L k).all,fY L (-1) y.f y.t y.w
 |0,_,y,hy=>by
  have Tv:y∈L:=hy;have:=fY.gW (a:=y.f) y (.nil (L:=L) (c:=-1)) Tv rfl (by have:=(hL.vS y Tv).2.2.1;omega);rwa[Int.zero_add] at this
 |k+1,hk,y,hy=>by
  have hi:=xC hL hw hn k aB;have ih:=Hi k aB;rcases pD _ (show y∈gP n _ _ from hy) with h|h
  ·exact ih y h
  ·obtain⟨p,hp,q,hq,_,rfl⟩:=tT.1 h
   obtain⟨hpL,hpt⟩:=iB.1 hp;obtain⟨hqL,hqf⟩:=eK.1 hq;have w1:=ih p (Hd hi hpL);have w2:=ih q (Hd hi hqL);rw[hpt] at w1;rw[hqf] at w2;exact w1.trans w2
theorem up_back{a b d:Int}(h:cv (cZ n L n).all (cZ n L n).jA a b d):fY L (-1) a b d:=by
 induction h with
 |nil=>exact .nil
 |gW e _ he hf _ ih=>rw[<-hf] at ih;exact ih.trans (Hi hL hw hn n (iT n) e he)
theorem aAk{a b d:Int}(h:GR (cZ n L n).all (cZ n L n).jA a b d):fY L (-1) a b d:=by
 induction h with
 |nil=>exact .nil
 |gW e _ he hf _ ih=>rw[<-hf] at ih;exact ih.trans (Hi hL hw hn n (iT n) e he)
theorem ud_iff{a b:Int}(a0:0<=a)(a1:a<n)(b0:0<=b)(b1:b<n):
  (∀d,fY L (-1) a b d->UD (cZ n L n).all (cZ n L n).jA a b d)/\∀m d1 d2,cv (cZ n L n).all (cZ n L n).jA a m d1->GR (cZ n L n).all (cZ n L n).jA m b d2->fY L (-1) a b (d1+d2):=by
 have g0:∀v,cB (List.replicate n false) v=false:=λv=>by unfold cB;rw[LP,Ev];split<;>rfl
 exact⟨λd hd=>uj hL hw hn n 0 aB hd a0 a1 (g0 _) (g0 _) b0 b1,λm d1 d2 h1 h2=>(up_back hL hw hn h1).trans (aAk hL hw hn h2)⟩
end
end
section
structure RelSt(n:Nat)(P:Int->Int->Prop)(ok:bQ->Prop)(ds:List Int):Prop where
 len:ds.length=n
 val:∀(w:Nat) (d:Int),ds[w]? =some d->d=-1\/(0<=d/\P (w:Int) d/\d<=met ds*1099511627776)
 rel:∀e,ok e->∀x y,ds[e.f.toNat]? =some x->ds[e.t.toNat]? =some y->0<=x->0<=y/\y<=x+e.w
section
variable{n:Nat}{P:Int->Int->Prop}{ok:bQ->Prop}{ds:List Int}
end
section
variable{n:Nat}{A:List bQ}{rs:List Int}{a:Int}
end
theorem Dt{n:Nat}{L:List bQ}(hL:rR n L)(hw:∀e∈L,e.w<=40)(hn:n<=51){x y:Int}(x0:0<=x)(x1:x<n)(y0:0<=y)(y1:y<n)(gF:x≠y):cD (cZ n L n).jA x≠cD (cZ n L n).jA y:=by
 have hi:=xC hL hw hn n (iT n);rw[MS hL hw hn x0 x1,MS hL hw hn y0 y1];intro e;have:=hi.inj x.toNat y.toNat aB aB (VU hi _ aB) (VU hi _ aB) e;omega
theorem Gv{n:Nat}{L:List bQ}(hL:rR n L)(hw:∀e∈L,e.w<=40)(hn:n<=51){x:Int}(x0:0<=x)(x1:x<n):0<=cD (cZ n L n).jA x/\cD (cZ n L n).jA x<n:=by
 have hi:=xC hL hw hn n (iT n);rw[MS hL hw hn x0 x1];exact hi.rk x.toNat aB (VU hi _ aB)
end
section
inductive GW(src:Int->Prop)(nx:Int->List bQ)(en:bQ->Int):Int->Int->Prop where
 |nil {v:Int} (h:src v):GW src nx en v 0
 |gW {v d:Int} (e:bQ) (h:GW src nx en v d) (he:e∈nx v):GW src nx en (en e) (d+e.w)
def iC(P:Int->Prop)(d:Int):Prop:=(d=-1/\∀k,¬P k)\/(0<=d/\P d/\∀k,P k->d<=k)
theorem iC.congr{P P':Int->Prop}{x:Int}(h:iC P x)(hp:∀k,P k↔P' k):iC P' x:=by
 rcases h with⟨h1,h2⟩|⟨h1,h2,h3⟩
 ·exact .inl ⟨h1,λk hk=>h2 k ((hp k).2 hk)⟩
 ·exact .inr ⟨h1,(hp _).1 h2,λk hk=>h3 k ((hp k).2 hk)⟩
def Gc(n:Nat)(P:Int->Int->Prop)(ds:List Int):Prop:=ds.length=n/\∀(v:Nat) (d:Int),ds[v]? =some d->iC (P (v:Int)) d
abbrev BW:Int:=1099511627776
structure Qr(n:Nat)(src:Int->Prop)(nx:Int->List bQ)(en:bQ->Int):Prop where
 src:∀v,src v->0<=v/\v<n
 arc:∀v,∀e∈nx v,0<=en e/\en e<n/\1<=e.w/\e.w<=BW
theorem GW.mz{n:Nat}{src:Int->Prop}{nx:Int->List bQ}{en:bQ->Int}(hN:Qr n src nx en){v d:Int}(h:GW src nx en v d):0<=v/\v<n/\0<=d:=by
 induction h with
 |nil h=>have:=hN.src _ h;omega
 |gW e _ he ih=>have:=hN.arc _ e he;omega
def YZ(src:Int->Prop)(nx:Int->List bQ)(en:bQ->Int)(ds:List Int)(v d u:Int):Prop:=
 (u=-1/\src v/\d=0)\/(0<=u/\∃e c,ds[u.toNat]? =some c/\0<=c/\e∈nx u/\en e=v/\c+e.w=d)
structure tI(n:Nat)(src:Int->Prop)(nx:Int->List bQ)(en:bQ->Int)(ok:Int->bQ->Prop)(ds bs:List Int)(q:List It)(kn:Int->Option Int):Prop where
 dl:ds.length=n
 bl:bs.length=n
 Cb:∀(v:Nat) (d:Int),ds[v]? =some d->d=-1\/(0<=d/\GW src nx en (v:Int) d/\(∀k,GW src nx en (v:Int) k->d<=k)/\d+BW<=met ds*BW/\∃u,bs[v]? =some u/\YZ src nx en ds (v:Int) d u)
 qi:∀y∈q,0<=y.id/\y.id<n/\ds[y.id.toNat]? =some (-1)/\GW src nx en y.id y.key/\y.key<=met ds*BW/\∃u,kn y.id=some u/\YZ src nx en ds y.id y.key u
 fr:∀(v:Nat) (d:Int) (e:bQ),ds[v]? =some d->0<=d->e∈nx (v:Int)->ok (v:Int) e->(∃c,ds[(en e).toNat]? =some c/\0<=c)\/∃y∈q,y.id=en e/\y.key<=d+e.w
 sr:∀v,src v->(∃d,ds[v.toNat]? =some d/\0<=d)\/∃y∈q,y.id=v/\y.key<=0
theorem tI.mono{n:Nat}{src:Int->Prop}{nx:Int->List bQ}{en:bQ->Int}{ok Pm:Int->bQ->Prop}{ds bs:List Int}{q:List It}{kn:Int->Option Int}(h:tI n src nx en ok ds bs q kn)(hm:∀v e,e∈nx v->Pm v e->ok v e):tI n src nx en Pm ds bs q kn:=
 ⟨h.dl,h.bl,h.Cb,h.qi,λv d e hd h0 he kH=>h.fr v d e hd h0 he (hm _ e he kH),h.sr⟩
section
variable{n:Nat}{src:Int->Prop}{nx:Int->List bQ}{en:bQ->Int}{ok:Int->bQ->Prop}{ds bs:List Int}{q:List It}{kn:Int->Option Int}
theorem tI.le(h:tI n src nx en ok ds bs q kn){v:Nat}{d:Int}(hd:ds[v]? =some d)(h0:0<=d):∀k,GW src nx en (v:Int) k->d<=k:=by
 rcases h.Cb v d hd with h1|⟨_,_,h1,_⟩
 ·omega
 ·exact h1
theorem tI.gw(h:tI n src nx en ok ds bs q kn){v:Nat}{d:Int}(hd:ds[v]? =some d)(h0:0<=d):GW src nx en (v:Int) d:=by
 rcases h.Cb v d hd with h1|⟨_,h1,_⟩
 ·omega
 ·exact h1
theorem tI.reach(h:tI n src nx en (λ_ _=>True) ds bs q kn)(hN:Qr n src nx en){v d:Int}(hw:GW src nx en v d):(∃c,ds[v.toNat]? =some c/\0<=c/\c<=d)\/∃y∈q,y.key<=d:=by
 induction hw with
 |nil hs=>
  rcases h.sr _ hs with⟨c,h1,h2⟩|⟨y,hy,_,hk⟩
  ·have hr:=hN.src _ hs
   exact .inl ⟨c,h1,h2,h.le h1 h2 0 (by rw[show((Int.toNat _:Nat):Int)=_ from Int.toNat_of_nonneg hr.1];exact .nil hs)⟩
  ·exact .inr ⟨y,hy,hk⟩
 | @gW v d e hw he ih=>
  have hr:=hw.mz hN;have ha:=hN.arc _ e he;have ev:(v.toNat:Int)=v:=Int.toNat_of_nonneg hr.1;have ee:(((en e).toNat:Nat):Int)=en e:=Int.toNat_of_nonneg ha.1;rcases ih with⟨c,h1,h2,h3⟩|⟨y,hy,hk⟩
  ·rcases h.fr v.toNat c e h1 h2 (by rw[ev];exact he) trivial with⟨c',h4,h5⟩|⟨y,hy,_,hk⟩
   ·refine .inl ⟨c',h4,h5,h.le h4 h5 _ ?_⟩
    rw[ee];exact .gW e hw he
   ·exact .inr ⟨y,hy,aB⟩
  ·exact .inr ⟨y,hy,aB⟩
theorem YZ.set{v d u:Int}(h:YZ src nx en ds v d u){i:Nat}{x:Int}(hi:ds[i]? =some (-1)):YZ src nx en (ds.set i x) v d u:=by
 rcases h with h|⟨h0,e,c,h1,h2,h3⟩
 ·exact .inl h
 ·refine .inr ⟨h0,e,c,?_,h2,h3⟩
  rw[vT]
  by_cases ee:i=u.toNat
  ·rw[<-ee,hi] at h1;cases h1;omega
  ·rw[if_neg ee];exact h1
theorem tI.pop{x:It}(h:tI n src nx en (λ_ _=>True) ds bs (x::q) kn)(hN:Qr n src nx en)(hs:BD (x::q))(h1:Ca (x::q)){u:Int}(hu:kn x.id=some u):
  tI n src nx en (λv _=>v≠x.id) (ds.set x.id.toNat x.key) (bs.set x.id.toNat u) q kn/\met (ds.set x.id.toNat x.key)=met ds+1:=by
 obtain⟨i0,i1,hx,gx,kb,u',wh,bk⟩:=h.qi x dL;rw[hu] at wh;cases wh;have ex:(x.id.toNat:Int)=x.id:=Int.toNat_of_nonneg i0;have k0:0<=x.key:=(gx.mz hN).2.2;have hm:met (ds.set x.id.toNat x.key)=met ds+1:=by rw[sy hx k0,if_pos aB]
 have cJ:x.id.toNat<ds.length:=by rw[h.dl];omega
 have gF:∀y∈q,y.id≠x.id:=λy hy e=>by
  have:=h1 y (by simp[hy]) x dL e;subst this;have:=(List.pairwise_cons.1 hs).1 y hy;rw[jZ] at this;omega
 have old:∀{v:Nat} {d:Int},ds[v]? =some d->0<=d->(ds.set x.id.toNat x.key)[v]? =some d:=λ{v d} hd h0=>by
  rw[vT]
  by_cases e:x.id.toNat=v
  ·rw[<-e,hx] at hd;cases hd;omega
  ·rw[if_neg e];exact hd
 have self:(ds.set x.id.toNat x.key)[x.id.toNat]? =some x.key:=by rw[vT,if_pos rfl,if_pos cJ]
 refine⟨⟨by rw[pJ];exact h.dl,by rw[pJ];exact h.bl,λv d hd=>?_,λy hy=>?_,λv d e hd h0 he kH=>?_,λv hv=>?_⟩,hm⟩
 ·rw[hm]
  by_cases e:x.id.toNat=v
  ·subst e
   rw[self] at hd;cases hd;refine .inr ⟨k0,by rw[ex];exact gx,λk hk=>?_,?_,u,?_,by rw[ex];exact bk.set hx⟩
   ·rw[ex] at hk
    rcases h.reach hN hk with⟨c,g1,g2,_⟩|⟨y,hy,hyk⟩
    ·rw[hx] at g1;cases g1;omega
    ·rcases lL.1 hy with rfl|hy
     ·exact hyk
     ·have:=(List.pairwise_cons.1 hs).1 y hy
      rw[jZ] at this;omega
   ·simp only[BW] at*;omega
   ·rw[vT,if_pos rfl,if_pos (by rw[h.bl];omega)]
  ·rw[vT,if_neg e] at hd
   rcases h.Cb v d hd with h2|⟨h2,h3,h4,h5,w,h6,h7⟩
   ·exact .inl h2
   ·refine .inr ⟨h2,h3,h4,by simp only[BW] at*;omega,w,?_,h7.set hx⟩
    rw[vT,if_neg e];exact h6
 ·obtain⟨a0,a1,a2,a3,a4,w,a5,a6⟩:=h.qi y (by simp[hy])
  refine⟨a0,a1,?_,a3,by rw[hm];simp only[BW] at*;omega,w,a5,a6.set hx⟩;rw[vT,if_neg (λe=>gF y hy aB)];exact a2
 ·have hvx:v≠x.id.toNat:=λe=>kH aB
  rw[vT,if_neg (λe=>hvx e.symm)] at hd;rcases h.fr v d e hd h0 he trivial with⟨c,g1,g2⟩|⟨y,hy,g1,g2⟩
  ·exact .inl ⟨c,old g1 g2,g2⟩
  ·rcases lL.1 hy with rfl|hy
   ·exact .inl ⟨_,by rw[<-g1];exact self,k0⟩
   ·exact .inr ⟨y,hy,g1,g2⟩
 ·rcases h.sr v hv with⟨d,g1,g2⟩|⟨y,hy,g1,g2⟩
  ·exact .inl ⟨d,old g1 g2,g2⟩
  ·rcases lL.1 hy with rfl|hy
   ·exact .inl ⟨_,by rw[<-g1];exact self,k0⟩
   ·exact .inr ⟨y,hy,g1,g2⟩
theorem tI.skip(h:tI n src nx en ok ds bs q kn){v:Int}{e:bQ}{c:Int}(hc:ds[(en e).toNat]? =some c)(h0:0<=c):tI n src nx en (λv' e'=>ok v' e'\/(v'=v/\e'=e)) ds bs q kn:=
 ⟨h.dl,h.bl,h.Cb,h.qi,λv' d e' hd hd0 he kH=>by
  rcases kH with kH|⟨_,rfl⟩
  ·exact h.fr v' d e' hd hd0 he kH
  ·exact .inl ⟨c,hc,h0⟩,h.sr⟩
def knP(kn:Int->Option Int)(b:Bool)(t v:Int):Int->Option Int:=if b thenλy=>if y=t then some v else kn y else kn
theorem tI.push(h:tI n src nx en ok ds bs q kn)(hN:Qr n src nx en)(h1:Ca q){v:Nat}{d:Int}{e:bQ}(hd:ds[v]? =some d)(h0:0<=d)(he:e∈nx (v:Int))(hc:ds[(en e).toNat]? =some (-1)):
  tI n src nx en (λv' e'=>ok v' e'\/(v'=(v:Int)/\e'=e)) ds bs (nL q (en e) (d+e.w)).1 (knP kn (nL q (en e) (d+e.w)).2 (en e) (v:Int)):=by
 have ha:=hN.arc _ e he;have aN:=λ{x:It} hx=>OO h1 (v:=en e) (k:=d+e.w) (x:=x) hx;have qF:=WD (q:=q) (v:=en e) (k:=d+e.w);refine⟨h.dl,h.bl,h.Cb,λy hy=>?_,λv' d' e' hd' hd0 vV kH=>?_,λv' kF=>?_⟩
 ·have jW:=CD h1 (en e) (d+e.w)
  have fP:y∈q\/y=⟨en e,d+e.w⟩:=WC hy;unfold nL at hy jW ⊢
  by_cases hl:Cf q (en e) (d+e.w)=true
  ·rw[if_pos hl] at hy ⊢
   exact h.qi y hy
  ·rw[if_neg hl] at hy jW ⊢
   have Qf:(⟨en e,d+e.w⟩:It)∈yc (q.filter λy=>decide (y.id≠en e)) ⟨en e,d+e.w⟩:=xW.2 (.inl rfl)
   by_cases hid:y.id=en e
   ·have:=jW y hy _ Qf hid
    subst this;have hb:d+BW<=met ds*BW:=by
     rcases h.Cb v d hd with h2|⟨_,_,_,h2,_⟩
     ·omega
     ·exact h2
    refine⟨ha.1,ha.2.1,hc,.gW e (h.gw hd h0) he,by simp only[BW] at*;omega,(v:Int),?_,.inr ⟨aB,e,d,?_,h0,he,rfl,rfl⟩⟩
    ·simp[knP]
    ·rw[kE];exact hd
   ·have db:y∈q:=fP.resolve_right λe'=>hid (by rw[e'])
    obtain⟨a0,a1,a2,a3,a4,w,a5,a6⟩:=h.qi y db;refine⟨a0,a1,a2,a3,a4,w,?_,a6⟩;simp only[knP,if_true];rw[if_neg hid];exact a5
 ·rcases kH with kH|⟨hv,rfl⟩
  ·rcases h.fr v' d' e' hd' hd0 vV kH with g|⟨y,hy,g1,g2⟩
   ·exact .inl g
   ·obtain⟨y',Tv,e1,e2⟩:=aN hy
    exact .inr ⟨y',Tv,e1.trans g1,aB⟩
  ·have:v'=v:=aB
   subst this;rw[hd] at hd';cases hd';exact .inr qF
 ·rcases h.sr v' kF with g|⟨y,hy,g1,g2⟩
  ·exact .inl g
  ·obtain⟨y',Tv,e1,e2⟩:=aN hy
   exact .inr ⟨y',Tv,e1.trans g1,aB⟩
structure Grown(n:Nat)(src:Int->Prop)(nx:Int->List bQ)(en:bQ->Int)(ds bs:List Int):Prop where
 rZ:Gc n (GW src nx en) ds
 bl:bs.length=n
 dN:∀(v:Nat) (d:Int),ds[v]? =some d->0<=d->∃u,bs[v]? =some u/\YZ src nx en ds (v:Int) d u
 gH:∀(v:Nat) (d:Int),ds[v]? =some d->-1<=d/\d<=n*BW
theorem tI.done(h:tI n src nx en (λ_ _=>True) ds bs [] kn)(hN:Qr n src nx en):Grown n src nx en ds bs:=by
 refine⟨⟨h.dl,λv d hd=>?_⟩,h.bl,λv d hd h0=>?_,λv d hd=>?_⟩
 ·rcases h.Cb v d hd with h1|⟨h1,h2,h3,_⟩
  ·refine .inl ⟨h1,λk hk=>?_⟩
   rcases h.reach hN hk with⟨c,g1,g2,_⟩|⟨y,hy,_⟩
   ·rw[kE,hd] at g1;cases g1;omega
   ·cases hy
  ·exact .inr ⟨h1,h2,h3⟩
 ·rcases h.Cb v d hd with h1|⟨_,_,_,_,h1⟩
  ·omega
  ·exact h1
 ·have hm:=ik ds
  rw[h.dl] at hm;rcases h.Cb v d hd with h1|⟨h0,_,_,h1,_⟩
  ·simp only[BW];omega
  ·simp only[BW] at*;omega
theorem tI.start(hN:Qr n src nx en){q:List It}{kn:Int->Option Int}(hq:∀y∈q,y.key=0/\src y.id/\kn y.id=some (-1))(hs:∀v,src v->∃y∈q,y.id=v):
  tI n src nx en (λ_ _=>True) (List.replicate n (-1)) (List.replicate n (-1)) q kn:=by
 have rep:∀{v:Nat} {d:Int},(List.replicate n (-1:Int))[v]? =some d->d=-1:=λ{v d} h=>by
  rw[Ev] at h
  split at h
  ·exact(uQ h).symm
  ·cases h
 refine⟨by simp,by simp,λv d hd=>.inl (rep hd),λy hy=>?_,λv d e hd h0=>by have:=rep hd;omega,λv hv=>?_⟩
 ·obtain⟨h1,h2,h3⟩:=hq y hy
  have hr:=hN.src _ h2;refine⟨hr.1,hr.2,?_,by rw[h1];exact .nil h2,by rw[h1];simp only[BW];omega,-1,h3,.inl ⟨rfl,h2,h1⟩⟩;rw[Ev,if_pos aB]
 ·obtain⟨y,hy,e⟩:=hs v hv
  exact .inr ⟨y,hy,e,by rw[(hq y hy).1];exact oY _⟩
end
def uV(n:Nat)(fs:List Int)(v:Int):Prop:=v∈fs/\0<=v/\v<n
end
section
section
variable{n:Nat}{L:List bQ}(hL:rR n L)(hw:∀e∈L,e.w<=40)(hn:n<=30)
include hL hw hn
end
inductive Wh(A:List bQ):Int->Int->List Int->Prop where
 |gN {e:bQ} (he:e∈A) (hm:e.m<0):Wh A e.f e.t [e.f,e.t]
 |cut {e:bQ} {x y:List Int} (he:e∈A) (hm:0<=e.m) (hx:Wh A e.f e.m x) (hy:Wh A e.m e.t y):Wh A e.f e.t (x++y.tail)
inductive Along(L:List bQ):List Int->Int->Prop where
 |one (v:Int):Along L [v] 0
 |cons {e:bQ} {f t:Int} {l:List Int} {d:Int} (he:e∈L) (hf:e.f=f) (ht:e.t=t) (h:Along L (t::l) d):Along L (f::t::l) (e.w+d)
inductive Thru(L:List bQ):List Int->Int->Prop where
 |one (v:Int):Thru L [v] 0
 |cons {a b:Int} {l:List Int} {c d:Int} (gF:a≠b) (h:fY L (-1) a b c) (h':Thru L (b::l) d):Thru L (a::b::l) (c+d)
structure UnpOk(n:Nat)(L A:List bQ)(R:List Int):Prop where
 Ei:rR n L
 ok:rR n A
 gN:∀y∈A,y.m<0->y∈L
 half:∀e∈A,0<=e.m->e.m<n/\(∃a∈A,∃b∈A,a.f=e.f/\a.t=e.m/\b.f=e.m/\b.t=e.t/\a.w+b.w=e.w)/\cD R e.m<cD R e.f/\cD R e.m<cD R e.t
 mz:∀x:Int,0<=x->x<n->0<=cD R x
 via:∀e∈A,0<=e.m->∀d,fY L (-1) e.f e.t d->∃d1 d2,fY L (-1) e.f e.m d1/\fY L (-1) e.m e.t d2/\d1+d2<=d
 dN:∀y∈A,fY L (-1) y.f y.t y.w
section
variable{n:Nat}{L A:List bQ}{R:List Int}(H:UnpOk n L A R)
include H
end
open Classical in
inductive PendW(A:List bQ):List (Int×Int)->List Int->Nat->Prop where
 |nil:PendW A [] [] 0
 |cons {f t:Int} {x l:List Int} {k:Nat} {r:List (Int×Int)} (hx:Wh A f t x) (h:PendW A r l k):PendW A ((f,t)::r) (x.tail++l) (2*x.length-3+k)
end
section
section
variable{us ds:List Int}{k:Nat}{at_ rZ x y:Int}
end
theorem GR.cons{A:List bQ}{R:List Int}{x w d:Int}(e:bQ)(he:e∈A)(hr:cD R e.t<cD R e.f)(ht:e.t=x)(h:GR A R x w d):GR A R e.f w (e.w+d):=by
 induction h with
 |nil=>rw[Int.add_zero,<-ht];have:=GR.gW e (.nil e.f) he rfl hr;rwa[Int.zero_add] at this
 |gW e' _ vV XU bp ih=>rw[<-Int.add_assoc];exact .gW e' ih vV XU bp
theorem ue{n:Nat}{A:List bQ}{R:List Int}{ts:List Int}{v d:Int}:GW (uV n ts) (DR A R) (λe=>e.f) v d↔∃t,uV n ts t/\GR A R v t d:=by
 constructor
 ·intro h
  induction h with
  |nil hs=>exact⟨_,hs,.nil _⟩
  | @gW v d e _ he ih=>
   obtain⟨t,ht,hd⟩:=ih;have hm:=jE.1 he;obtain⟨h1,h2⟩:=iB.1 hm.1;refine⟨t,ht,?_⟩;have:=GR.cons e h1 (by rw[h2];simpa using hm.2) h2 hd;rw[Int.add_comm];exact this
 ·rintro⟨t,ht,h⟩
  have key:∀{u b d':Int},GR A R u b d'->∀d0,GW (uV n ts) (DR A R) (λe=>e.f) b d0->GW (uV n ts) (DR A R) (λe=>e.f) u (d0+d'):=λ{u b d'} hd=>by
   induction hd with
   |nil=>intro d0 h0;rw[Int.add_zero];exact h0
   |gW e _ he hf hr ih=>
    intro d0 h0;have:=GW.gW (en:=λe=>e.f) e h0 (jE.2 ⟨iB.2 ⟨he,rfl⟩,by simpa using hr⟩);have this:GW (uV n ts) (DR A R) (λe=>e.f) e.f (d0+e.w):=this;have e2:e.f=_:=hf;rw[e2] at this;have:=ih _ this;rw[Int.add_assoc,Int.add_comm e.w] at this;exact this
  have:=key h 0 (.nil ht);rwa[Int.zero_add] at this
end
section
structure CInv(n:Nat)(src:Int->Prop)(nx:Int->List bQ)(en:bQ->Int)(ds:List Int):Prop where
 len:ds.length=n
 srcs:∀v,src v->ds[v.toNat]? =some 0
 val:∀(v:Nat) (d:Int),ds[v]? =some d->d=-1\/(0<=d/\GW src nx en (v:Int) d/\d+BW<=met ds*BW)
section
variable{n:Nat}{src:Int->Prop}{nx:Int->List bQ}{en:bQ->Int}{ds:List Int}
end
end
section
theorem Yz{P P':Int->Prop}{x:Int}(h:iC P x)(h1:∀d,P d->∃d',d'<=d/\P' d')(h2:∀d,P' d->∃d',d'<=d/\P d'):iC P' x:=by
 rcases h with⟨e,hn⟩|⟨h0,hx,hm⟩
 ·refine .inl ⟨e,λk hk=>?_⟩
  obtain⟨d',_,hd⟩:=h2 k hk;exact hn d' hd
 ·obtain⟨d',IN,hd⟩:=h1 x hx
  obtain⟨d2,hle2,hd2⟩:=h2 d' hd;have:=hm d2 hd2;have e:d'=x:=aB;rw[e] at hd;refine .inr ⟨h0,hd,λk hk=>?_⟩;obtain⟨d3,hle3,hd3⟩:=h2 k hk;have:=hm d3 hd3;omega
theorem iC.or{P P':Int->Prop}{b d:Int}(h:iC P b)(h':iC P' d):iC (λk=>P k\/P' k) (if 0<=d/\(b<0\/d<b) then d else b):=by
 rcases h with⟨e,hn⟩|⟨h0,hx,hm⟩<;>rcases h' with⟨e',hn'⟩|⟨xk,Bv,wo⟩
 ·rw[if_neg aB];exact .inl ⟨e,λk hk=>hk.elim (hn k) (hn' k)⟩
 ·rw[if_pos aB];exact .inr ⟨xk,.inr Bv,λk hk=>hk.elim (λh=>absurd h (hn k)) (wo k)⟩
 ·rw[if_neg aB];exact .inr ⟨h0,.inl hx,λk hk=>hk.elim (hm k) λh=>absurd h (hn' k)⟩
 ·by_cases cJ:d<b
  ·rw[if_pos ⟨xk,.inr cJ⟩]
   exact .inr ⟨xk,.inr Bv,λk hk=>hk.elim (λh=>by have:=hm k h;omega) (wo k)⟩
  ·rw[if_neg aB]
   exact .inr ⟨h0,.inl hx,λk hk=>hk.elim (hm k) λh=>by have:=wo k h;omega⟩
section
variable{n:Nat}{L:List bQ}(hL:rR n L)(hw:∀e∈L,e.w<=40)(hn:n<=51){a:Int}(a0:0<=a)(a1:a<n)
include hL hw hn a0 a1
end
end
section
structure Gr where
 N:List (Int×Int)
 E:List (Int×Int×Int)
 B:List (Int×Int)
def Gr.m(G:Gr):Nat:=G.E.length
def Gr.n(G:Gr):Nat:=G.N.length
def Gr.ed(G:Gr)(i:Int):Int×Int×Int:=G.E.getD i.toNat (0,0,0)
abbrev Gr.fr(G:Gr)(i:Int):Int:=(G.ed i).1
abbrev Gr.to(G:Gr)(i:Int):Int:=(G.ed i).2.1
abbrev Gr.wt(G:Gr)(i:Int):Int:=(G.ed i).2.2
abbrev Gr.qE(G:Gr)(i:Int):Prop:=0<=i/\i<G.m
abbrev Gr.XS(G:Gr)(i:Int):Prop:=0<=i/\i<G.n
abbrev IW(a b:Int×Int):Prop:=a.1<b.1\/(a.1=b.1/\a.2<b.2)
structure zI(G:Gr):Prop where
 n1:1<=G.n/\G.n<=256
 m1:1<=G.m/\G.m<=51
 nd:∀p∈G.N,(0<=p.1/\p.1<=4095)/\0<=p.2/\p.2<=4095
 ed:∀e∈G.E,(0<=e.1/\e.1<G.n)/\(0<=e.2.1/\e.2.1<G.n)/\1<=e.2.2/\e.2.2<=40
 bl:G.B.length<=1024
 bd:∀b∈G.B,G.qE b.1/\G.qE b.2/\G.to b.1=G.fr b.2
 bs:G.B.Pairwise IW
def nW(k:Nat):List Int:=(List.range k).map λi:Nat=>(i:Int)
theorem CF{k:Nat}{x:Int}:x∈nW k↔0<=x/\x<k:=by
 unfold nW;simp only[lK,List.mem_range]
 constructor
 ·rintro⟨i,hi,rfl⟩;omega
 ·rintro⟨h0,h1⟩;exact⟨x.toNat,aB,aB⟩
theorem vC(k:Nat):(nW k).length=k:=by simp[nW]
theorem HI(k:Nat):nW (k+1)=nW k++[(k:Int)]:=by simp[nW,List.range_succ]
theorem Ru(k:Nat):(nW k).Pairwise λx y=>x<y:=by
 unfold nW;rw[List.pairwise_map];exact List.Pairwise.imp (λ{a b:Nat} (h:a<b)=>aB) List.pairwise_lt_range
def Gr.FT(G:Gr)(a b:Int):Bool:=decide (G.qE a) && (decide (G.qE b) && (decide (G.to a=G.fr b) && !decide ((a,b)∈G.B)))
theorem Gr.iI{G:Gr}{a b:Int}:G.FT a b=true↔G.qE a/\G.qE b/\G.to a=G.fr b/\(a,b)∉G.B:=by
 unfold Gr.FT;simp[tE]
def Gr.kJ(G:Gr)(a:Int):List Int:=(nW G.m).filter λb=>G.FT a b
def Gr.nX(G:Gr)(b:Int):List Int:=(nW G.m).filter λa=>G.FT a b
def Gr.Tu(G:Gr)(v:Int):List Int:=(nW G.m).filter λe=>decide (G.to e=v)
def Gr.Uu(G:Gr)(v:Int):List Int:=(nW G.m).filter λe=>decide (G.fr e=v)
theorem Gr.CE{G:Gr}{a b:Int}:b∈G.kJ a↔G.FT a b=true:=by
 unfold Gr.kJ;rw[jE,CF];exact⟨λh=>h.2,λh=>⟨(G.iI.1 h).2.1,h⟩⟩
theorem Gr.WH{G:Gr}{a b:Int}:a∈G.nX b↔G.FT a b=true:=by
 unfold Gr.nX;rw[jE,CF];exact⟨λh=>h.2,λh=>⟨(G.iI.1 h).1,h⟩⟩
theorem Gr.ta{G:Gr}{e v:Int}:e∈G.Tu v↔G.qE e/\G.to e=v:=by
 unfold Gr.Tu;rw[jE,CF];simp
theorem Gr.MU(G:Gr)(a:Int):(G.kJ a).length<=G.m:=by
 have:=vW (λb=>G.FT a b) (nW G.m);rw[vC] at this;exact this
theorem Gr.Ww(G:Gr)(a:Int):(G.nX a).length<=G.m:=by
 have:=vW (λb=>G.FT b a) (nW G.m);rw[vC] at this;exact this
theorem Gr.tn(G:Gr)(a:Int):(G.Tu a).length<=G.m:=by
 have:=vW (λe=>decide (G.to e=a)) (nW G.m);rw[vC] at this;exact this
theorem Gr.get_ed{G:Gr}{i:Int}(h:G.qE i):G.E[i.toNat]? =some (G.ed i):=by
 have:i.toNat<G.E.length:=by have:=h.2;unfold Gr.m at this;omega
 unfold Gr.ed;rw[LP,gS this];rfl
theorem Gr.TG{G:Gr}{i:Int}(h:G.qE i):G.ed i∈G.E:=zH (G.get_ed h)
theorem zI.w1{G:Gr}(h:zI G){i:Int}(hi:G.qE i):1<=G.wt i/\G.wt i<=40:=(h.ed _ (G.TG hi)).2.2
def Gr.JA(G:Gr):List bQ:=(nW G.m).flatMap λa=>(G.kJ a).map λb=>⟨a,b,G.wt b,-1⟩
def Gr.LL(G:Gr):List bQ:=G.JA.filter λe=>!(e.f==e.t)
theorem Gr.mem_arcs{G:Gr}{e:bQ}:e∈G.JA↔G.FT e.f e.t=true/\e.w=G.wt e.t/\e.m=-1:=by
 unfold Gr.JA;simp only[List.mem_flatMap,lK,CF]
 constructor
 ·rintro⟨a,_,b,hb,rfl⟩;exact⟨G.CE.1 hb,rfl,rfl⟩
 ·rintro⟨h1,h2,h3⟩
  refine⟨e.f,(G.iI.1 h1).1,e.t,G.CE.2 h1,?_⟩;cases e;simp_all
theorem Gr.Rt{G:Gr}{e:bQ}:e∈G.LL↔(G.FT e.f e.t=true/\e.w=G.wt e.t/\e.m=-1)/\e.f≠e.t:=by
 unfold Gr.LL;rw[jE,G.mem_arcs];simp
theorem Gr.arcs_srt(G:Gr):BG G.JA:=by
 unfold BG Gr.JA;rw[List.pairwise_flatMap];refine⟨λa _=>?_,List.Pairwise.imp (λ{a b} h x hx y hy=>?_) (Ru G.m)⟩
 ·rw[List.pairwise_map]
  have h:(G.kJ a).Pairwise λx y:Int=>x<y:=RU _ (Ru G.m);refine List.Pairwise.imp (λ{x y:Int} (h:x<y)=>?_) h;rw[lP];exact .inr ⟨rfl,h⟩
 ·obtain⟨_,_,rfl⟩:=lK.1 hx
  obtain⟨_,_,rfl⟩:=lK.1 hy;exact lP.2 (.inl h)
theorem zI.VP{G:Gr}(h:zI G):∀e∈G.LL,EW G.m e/\e.w<=40/\e.m=-1:=λe he=>by
 obtain⟨⟨h1,h2,h3⟩,h4⟩:=G.Rt.1 he;obtain⟨t1,t2,_,_⟩:=G.iI.1 h1;have hw:=h.w1 t2;exact⟨⟨t1.1,t1.2,t2.1,t2.2,h4,aB,aB,.inl h3⟩,aB,h3⟩
theorem zI.TF{G:Gr}(h:zI G):rR G.m G.LL:=⟨RU _ G.arcs_srt,λe he=>(h.VP e he).1⟩
theorem Gr.arcs_len(G:Gr)(hm:G.m<=51):G.JA.length<=2601:=by
 have:=WK (λa=>(G.kJ a).map λb=>(⟨a,b,G.wt b,-1⟩:bQ)) 51 (nW G.m) λa _=>by rw[oL];have:=G.MU a;omega
 rw[vC] at this;unfold Gr.JA;omega
def qI(c:List Bool)(e:Int):Bool:=c.getD e.toNat false
def Gr.src(G:Gr)(v e:Int):Prop:=G.qE e/\G.to e=v
def Gr.nx(G:Gr)(c:List Bool)(b:Int):List bQ:=if qI c b=true then [] else(G.nX b).map λa=>⟨a,b,G.wt b,-1⟩
theorem Gr.JG{G:Gr}{c:List Bool}{b:Int}{e:bQ}:e∈G.nx c b↔qI c b=false/\G.FT e.f b=true/\e=⟨e.f,b,G.wt b,-1⟩:=by
 unfold Gr.nx
 split
 ·rename_i h;simp[h]
 ·rename_i h
  rw[lK]
  constructor
  ·rintro⟨a,ha,rfl⟩;exact⟨by simpa using h,G.WH.1 ha,rfl⟩
  ·rintro⟨_,h2,h3⟩;exact⟨e.f,G.WH.2 h2,h3.symm⟩
abbrev Gr.gw(G:Gr)(c:List Bool)(v:Int):Int->Int->Prop:=GW (G.src v) (G.nx c) (λe=>e.f)
theorem zI.nxOk{G:Gr}(h:zI G)(c:List Bool)(v:Int):Qr G.m (G.src v) (G.nx c) (λe=>e.f):=by
 refine⟨λe he=>he.1,λb e he=>?_⟩;obtain⟨_,h2,h3⟩:=G.JG.1 he;obtain⟨t1,t2,_⟩:=G.iI.1 h2;have hw:=h.w1 t2;have:e.w=G.wt b:=by rw[h3]
 exact⟨t1.1,t1.2,aB,by rw[this];simp only[BW];omega⟩
theorem Gr.tu{G:Gr}{c:List Bool}{v a b d:Int}(h:G.gw c v b d)(ht:G.FT a b=true)(hs:qI c b=false):G.gw c v a (d+G.wt b):=
 GW.gW (en:=λe=>e.f) (⟨a,b,G.wt b,-1⟩:bQ) h (G.JG.2 ⟨hs,ht,rfl⟩)
theorem Gr.gw_inv{G:Gr}{c:List Bool}{v a d:Int}(h:G.gw c v a d):(d=0/\G.src v a)\/∃b d',G.gw c v b d'/\G.FT a b=true/\qI c b=false/\d=d'+G.wt b:=by
 cases h with
 |nil h=>exact .inl ⟨rfl,h⟩
 | @gW b d' e h he=>
  obtain⟨h1,h2,h3⟩:=G.JG.1 he;have hw:e.w=G.wt b:=by rw[h3]
  exact .inr ⟨b,d',h,h2,h1,by rw[hw]⟩
theorem Gr.gw_open{G:Gr}{c:List Bool}{v a d:Int}(h:G.gw c v a d):G.gw [] v a d:=by
 induction h with
 |nil h=>exact .nil h
 |gW e h he ih=>
  obtain⟨h1,h2,h3⟩:=G.JG.1 he;exact .gW e ih (G.JG.2 ⟨rfl,h2,h3⟩)
theorem zI.iv{G:Gr}(h:zI G){c:List Bool}{v a d:Int}(hw:G.gw c v a d):G.qE a/\0<=d:=by
 have:=hw.mz (h.nxOk c v);exact⟨⟨this.1,this.2.1⟩,this.2.2⟩
theorem zI.walk_gw{G:Gr}{v a b d:Int}(h:fY G.LL (-1) a b d):∀d0,G.gw [] v b d0->G.gw [] v a (d0+d):=by
 induction h with
 |nil=>intro d0 h0;rw[Int.add_zero];exact h0
 | @gW x d e _ he hf _ ih=>
  intro d0 h0;obtain⟨⟨h1,h2,_⟩,_⟩:=G.Rt.1 he;have h3:=G.tu h0 h1 rfl;rw[hf,<-h2] at h3;have:=ih _ h3;rwa[show d0+(d+e.w)=d0+e.w+d by omega]
theorem zI.gw_walk{G:Gr}(hG:zI G){v a d:Int}(h:G.gw [] v a d):∃d' t,d'<=d/\G.src v t/\fY G.LL (-1) a t d':=by
 induction h with
 | @nil a h=>exact⟨0,a,oY _,h,.nil⟩
 | @gW b d e h he ih=>
  obtain⟨_,h2,h3⟩:=G.JG.1 he;have hwe:e.w=G.wt b:=by rw[h3]
  have hte:e.t=b:=by rw[h3]
  have hme:e.m=-1:=by rw[h3]
  obtain⟨d',t,IN,ht,hw⟩:=ih;have hwt:=hG.w1 (G.iI.1 h2).2.1;show∃d' t,d'<=d+e.w/\G.src v t/\fY G.LL (-1) e.f t d'
  by_cases xh:e.f=b
  ·rw[xh];exact⟨d',t,aB,ht,hw⟩
  ·have hnet:e∈G.LL:=G.Rt.2 ⟨⟨by rw[hte];exact h2,by rw[hte];exact hwe,hme⟩,by rw[hte];exact xh⟩
   have h1:=fY.gW (a:=e.f) e (.nil (L:=G.LL) (c:=-1)) hnet rfl (by have:=(G.iI.1 h2).2.1.1;omega);rw[Int.zero_add,hte] at h1;exact⟨e.w+d',t,aB,ht,h1.trans hw⟩
def vY(ds:List Int)(e:Int):Int:=ds.getD e.toNat (-1)
abbrev Gr.rZ(G:Gr)(c:List Bool)(v:Int)(ds:List Int):Prop:=Gc G.m (G.gw c v) ds
theorem Rw{n:Nat}{P:Int->Int->Prop}{ds:List Int}(h:Gc n P ds){e:Int}(he:0<=e/\e<n):ds[e.toNat]? =some (vY ds e):=by
 have:e.toNat<ds.length:=by have:=h.1;omega
 unfold vY;rw[LP,gS this];rfl
theorem Od{n:Nat}{P:Int->Int->Prop}{ds:List Int}(h:Gc n P ds){e:Int}(he:0<=e/\e<n):iC (P e) (vY ds e):=by
 have:=h.2 e.toNat _ (Rw h he);rwa[Int.toNat_of_nonneg he.1] at this
def Gr.JF(G:Gr)(c:List Bool)(ds:List Int)(e n:Int):Bool:=!qI c n && (decide (0<=vY ds n) && decide (vY ds n+G.wt n=vY ds e))
def Gr.Ak(G:Gr)(c:List Bool)(ds:List Int)(e:Int):Option Int:=(G.kJ e).find? (G.JF c ds e)
inductive Gr.LX(G:Gr)(c:List Bool)(ds:List Int):Int->List Int->Prop where
 |nil {e:Int} (h:vY ds e=0):LX G c ds e []
 |cons {e n:Int} {l:List Int} (h:0<vY ds e) (hs:G.Ak c ds e=some n) (hl:LX G c ds n l):LX G c ds e (n::l)
theorem Gr.OK{G:Gr}{c:List Bool}{ds:List Int}{e n:Int}(h:G.Ak c ds e=some n):G.FT e n=true/\qI c n=false/\0<=vY ds n/\vY ds n+G.wt n=vY ds e:=by
 have h1:=List.find?_some h;have h2:=List.mem_of_find?_eq_some h;unfold Gr.JF at h1;simp[tE] at h1;exact⟨G.CE.1 h2,h1.1,h1.2.1,h1.2.2⟩
theorem zI.dsv_gw{G:Gr}(_:zI G){c:List Bool}{v:Int}{ds:List Int}(hd:G.rZ c v ds){e:Int}(he:G.qE e)(h:0<=vY ds e):G.gw c v e (vY ds e):=by
 rcases Od hd he with⟨h1,_⟩|⟨_,h1,_⟩
 ·omega
 ·exact h1
section
variable{G:Gr}(hG:zI G){c:List Bool}{v:Int}{ds:List Int}(hd:G.rZ c v ds)
include hG hd
theorem zI.Rc{e d:Int}(h:G.gw c v e d):0<=vY ds e/\vY ds e<=d:=by
 rcases Od hd (hG.iv h).1 with⟨_,h1⟩|⟨h0,_,h1⟩
 ·exact absurd h (h1 d)
 ·exact⟨h0,h1 d h⟩
theorem zI.step_ex{e:Int}(he:G.qE e)(h:0<vY ds e):∃n,G.Ak c ds e=some n:=by
 rcases G.gw_inv (hG.dsv_gw hd he aB) with⟨h0,_⟩|⟨b,d',h1,h2,h3,h4⟩
 ·omega
 ·obtain⟨g0,g1⟩:=hG.Rc hd h1
  have g2:=hG.dsv_gw hd (hG.iv h1).1 g0;have g3:=(hG.Rc hd (G.tu g2 h2 h3)).2;cases hf:G.Ak c ds e with
  |some n=>exact⟨n,rfl⟩
  |none=>
   unfold Gr.Ak at hf;have:=List.find?_eq_none.1 hf b (G.CE.2 h2);unfold Gr.JF at this;simp[h3,g0] at this;omega
theorem zI.tf:∀(k:Nat) {e:Int},G.qE e->0<=vY ds e->vY ds e<=k->∃l,G.LX c ds e l
 |k,e,he,h0,hk=>by
  rcases Int.lt_or_le 0 (vY ds e) with hp|hp
  ·obtain⟨n,hn⟩:=hG.step_ex hd he hp
   obtain⟨s1,_,s3,s4⟩:=G.OK hn;have hw:=hG.w1 (G.iI.1 s1).2.1;obtain⟨k',rfl⟩:∃k',k=k'+1:=⟨k-1,aB⟩;obtain⟨l,hl⟩:=zI.tf k' (G.iI.1 s1).2.1 s3 aB;exact⟨n::l,.cons hp hn hl⟩
  ·exact⟨[],.nil aB⟩
end
def Gr.oX(G:Gr)(l:List Int):Int:=(l.map G.wt).sum
theorem Gr.Ni(G:Gr)(x:Int)(l:List Int):G.oX (x::l)=G.wt x+G.oX l:=by simp[Gr.oX]
def Gr.BH(G:Gr):Int->List Int->Bool
 |_,[]=>true
 |e,x::l=>G.FT e x && G.BH x l
theorem Gr.LX.VG{G:Gr}(hG:zI G){c:List Bool}{ds:List Int}{e:Int}{l:List Int}(h:G.LX c ds e l):G.oX l=vY ds e/\G.BH e l=true/\(∀x∈l,G.qE x/\qI c x=false)/\(l.length:Int)<=vY ds e/\vY ds (l.getLast?.getD e)=0:=by
 induction h with
 |nil h=>exact⟨by rw[h];rfl,rfl,by simp,by rw[h];simp,h⟩
 | @cons e n l h hs hl ih=>
  obtain⟨s1,s2,s3,s4⟩:=G.OK hs;obtain⟨i1,i2,i3,i4,i5⟩:=ih;have hn:=(G.iI.1 s1).2.1;have hw:=hG.w1 hn;refine⟨by rw[G.Ni,i1];omega,by simp[Gr.BH,s1,i2],λx hx=>?_,by simp only[nU];omega,?_⟩
  ·rcases lL.1 hx with rfl|hx
   ·exact⟨hn,s2⟩
   ·exact i3 x hx
  ·rw[List.getLast?_cons];exact i5
theorem Gr.LX.falls{G:Gr}(hG:zI G){c:List Bool}{ds:List Int}{e:Int}{l:List Int}(h:G.LX c ds e l):l.Pairwise (λa b=>vY ds b<vY ds a)/\∀x∈l,vY ds x<vY ds e:=by
 induction h with
 |nil h=>exact⟨List.Pairwise.nil,by simp⟩
 | @cons e n l h hs hl ih=>
  obtain⟨s1,s2,s3,s4⟩:=G.OK hs;have hw:=hG.w1 (G.iI.1 s1).2.1;refine⟨List.pairwise_cons.2 ⟨ih.2,ih.1⟩,λx hx=>?_⟩;rcases lL.1 hx with rfl|hx
  ·omega
  ·have:=ih.2 x hx;omega
theorem Gr.LX.len{G:Gr}(hG:zI G){c:List Bool}{ds:List Int}{e:Int}{l:List Int}(h:G.LX c ds e l):l.length<=G.m:=by
 have h1:=(h.falls hG).1;have h2:=(h.VG hG).2.2.1;refine wL (List.Pairwise.imp (λ{a b} (h:vY ds b<vY ds a)=>λe=>?_) h1) λx hx=>(h2 x hx).1;rw[e] at h;omega
section
variable{G:Gr}(hG:zI G){c:List Bool}{v:Int}
include hG
end
inductive Gr.MG(G:Gr)(v e:Int)(c:List Bool):List Int->Int->Bool->Bool->Prop where
 |no (h:∀d,G.XS v->¬G.gw c v e d):MG G v e c [] 0 false false
 |near {d0:List Int} {l:List Int} (hv:G.XS v) (he:G.qE e) (h0:G.rZ [] v d0) (h:G.LX [] d0 e l) (hs:∀x∈l,qI c x=false):MG G v e c l (G.oX l) true false
 |rZ {d0 d1:List Int} {l0 l:List Int} (hv:G.XS v) (he:G.qE e) (h0:G.rZ [] v d0) (h1:G.rZ c v d1) (hl:G.LX [] d0 e l0) (hs:∃x∈l0,qI c x=true) (h:G.LX c d1 e l):MG G v e c l (G.oX l) true true
theorem cv.front{A:List bQ}{rs:List Int}{a b d:Int}(h:cv A rs a b d):(b=a/\d=0)\/∃e∈A,e.f=a/\cD rs e.f<cD rs e.t/\∃d',cv A rs e.t b d'/\d=e.w+d':=by
 induction h with
 |nil=>exact .inl ⟨rfl,rfl⟩
 | @gW v d e _ he hf hr ih=>
  rcases ih with⟨h1,h2⟩|⟨e1,g1,g2,g3,d',g4,g5⟩
  ·exact .inr ⟨e,he,by rw[hf,h1],hr,0,.nil,aB⟩
  ·exact .inr ⟨e1,g1,g2,g3,d'+e.w,.gW e g4 he hf hr,aB⟩
def UPD(A:List bQ)(R:List Int)(Dn:Int->Int->Prop)(v d:Int):Prop:=∃k d1 d2,cv A R v k d1/\Dn k d2/\d=d1+d2
theorem upd_iff{A:List bQ}{R:List Int}{Dn:Int->Int->Prop}{v d:Int}:UPD A R Dn v d↔Dn v d\/∃e∈upL A R v,∃d',UPD A R Dn e.t d'/\d=e.w+d':=by
 constructor
 ·rintro⟨k,d1,d2,h1,h2,h3⟩
  rcases h1.front with⟨g1,g2⟩|⟨e,g1,g2,g3,d',g4,g5⟩
  ·rw[g1] at h2;exact .inl (by rw[h3,g2,Int.zero_add];exact h2)
  ·refine .inr ⟨e,?_,d'+d2,⟨k,d',d2,g4,h2,rfl⟩,aB⟩
   unfold upL;rw[jE,eK];exact⟨⟨g1,g2⟩,by rw[<-g2];simpa using g3⟩
 ·rintro(h|⟨e,he,d',⟨k,d1,d2,h1,h2,h3⟩,h4⟩)
  ·exact⟨v,0,d,.nil,h,aB⟩
  ·unfold upL at he
   rw[jE,eK] at he;obtain⟨⟨g1,g2⟩,g3⟩:=he;have g3':cD R v<cD R e.t:=by simpa using g3
   have:=cv.cons e g1 (by rw[g2];exact g3') rfl h1;rw[g2] at this;exact⟨k,e.w+d1,d2,this,h2,aB⟩
theorem iC.plus{P:Int->Prop}{y w:Int}(h:iC P y)(hw:0<=w):iC (λd=>∃d',P d'/\d=w+d') (if y<0 then-1 else y+w):=by
 rcases h with⟨e,hn⟩|⟨h0,hx,hm⟩
 ·rw[if_pos aB];exact .inl ⟨rfl,λk ⟨d',hd,_⟩=>hn d' hd⟩
 ·rw[if_neg aB]
  exact .inr ⟨aB,⟨y,hx,aB⟩,λk ⟨d',hd,e⟩=>by have:=hm d' hd;omega⟩
theorem iC.lower{P P':Int->Prop}{x y w:Int}(h:iC P x)(h':iC P' y)(hw:0<=w):iC (λd=>P d\/∃d',P' d'/\d=w+d') (if 0<=y/\(x<0\/y+w<x) then y+w else x):=by
 have:=h.or (h'.plus hw);have e:(if 0<=(if y<0 then-1 else y+w)/\(x<0\/(if y<0 then-1 else y+w)<x) then(if y<0 then-1 else y+w) else x)=(if 0<=y/\(x<0\/y+w<x) then y+w else x):=by
  by_cases h1:y<0
  ·rw[if_pos h1,if_neg aB,if_neg aB]
  ·rw[if_neg h1]
   by_cases h2:x<0\/y+w<x
   ·rw[if_pos ⟨aB,h2⟩,if_pos ⟨aB,h2⟩]
   ·rw[if_neg (λh=>h2 h.2),if_neg (λh=>h2 h.2)]
 rwa[e] at this
theorem zn{n:Nat}{L:List bQ}(hL:rR n L)(hw:∀e∈L,e.w<=40)(hn:n<=51){r:Nat}(hr:r<n):∃v:Nat,v<n/\cD (cZ n L n).jA (v:Int)=(r:Int):=by
 have mz:∀v:Nat,v<n->0<=cD (cZ n L n).jA (v:Int)/\cD (cZ n L n).jA (v:Int)<n:=λv hv=>Gv hL hw hn aB aB;have inj:∀v w:Nat,v<n->w<n->cD (cZ n L n).jA (v:Int)=cD (cZ n L n).jA (w:Int)->v=w:=λv w hv hw' e=>by
  rcases Nat.lt_trichotomy v w with h|h|h
  ·exact absurd e (Dt hL hw hn aB aB aB aB aB)
  ·exact h
  ·exact absurd e (Dt hL hw hn aB aB aB aB aB)
 generalize cD (cZ n L n).jA=f at*;have nd:(((List.range n).map λv:Nat=>f (v:Int))).Nodup:=by
  rw[List.Nodup,List.pairwise_map];refine List.Pairwise.imp_of_mem (λ{a b} ha hb (h:a<b) e=>?_) List.pairwise_lt_range;have:=inj a b (List.mem_range.1 ha) (List.mem_range.1 hb) e;omega
 rcases Classical.em (∃v:Nat,v<n/\f (v:Int)=(r:Int)) with h|h
 ·exact h
 ·exfalso
  have key:=wL (m:=n) (l:=(r:Int)::(List.range n).map λv:Nat=>f (v:Int)) ?_ ?_
  ·simp at key
   omega
  ·rw[List.nodup_cons]
   refine⟨λhm=>?_,nd⟩;obtain⟨v,hv,e⟩:=lK.1 hm;exact h ⟨v,List.mem_range.1 hv,e⟩
  ·intro x hx
   rcases lL.1 hx with rfl|hx
   ·omega
   ·obtain⟨v,hv,rfl⟩:=lK.1 hx
    exact mz v (List.mem_range.1 hv)
theorem zI.kg{G:Gr}(hG:zI G){v:Int}{ds:List Int}
  (h:Gc G.m (UPD (cZ G.m G.LL G.m).all (cZ G.m G.LL G.m).jA (GW (uV G.m (G.Tu v)) (DR (cZ G.m G.LL G.m).all (cZ G.m G.LL G.m).jA) (λe=>e.f))) ds):G.rZ [] v ds:=by
 have hL:=hG.TF;have hw:∀e∈G.LL,e.w<=40:=λe he=>(hG.VP e he).2.1;have hn:=hG.m1.2;have insrc:∀t,uV G.m (G.Tu v) t↔G.src v t:=λt=>by
  unfold uV;rw[G.ta];exact⟨λh=>h.1,λh=>⟨h,h.1.1,h.1.2⟩⟩
 refine⟨h.1,λa d hd=>?_⟩;have ha:a<G.m:=by have:=(kU.1 hd).1;rw[h.1] at this;exact this
 refine Yz (h.2 a d hd) (λd ⟨k,d1,d2,h1,h2,h3⟩=>?_) (λd hg=>?_)
 ·obtain⟨t,ht,h4⟩:=ue.1 h2
  have hwk:=(ud_iff hL hw hn (a:=(a:Int)) (b:=t) aB aB ht.2.1 ht.2.2).2 k d1 d2 h1 h4;have:=zI.walk_gw hwk 0 (.nil ((insrc t).1 ht));rw[Int.zero_add] at this;exact⟨d,oY _,by rw[h3];exact this⟩
 ·obtain⟨d',t,IN,ht,hwk⟩:=hG.gw_walk hg
  obtain⟨m,d1,d2,h1,h2,h3⟩:=(ud_iff hL hw hn (a:=(a:Int)) (b:=t) aB aB ht.1.1 ht.1.2).1 d' hwk;exact⟨d1+d2,aB,m,d1,d2,h1,ue.2 ⟨t,(insrc t).2 ht,h2⟩,rfl⟩
structure Lq(m:Nat)(A:List bQ)(R:List Int)(Dn:Int->Int->Prop)(i:Nat)(ds:List Int):Prop where
 len:ds.length=m
 up:∀(v:Nat) (x:Int),ds[v]? =some x->(m:Int)-i<=cD R (v:Int)->iC (UPD A R Dn (v:Int)) x
 dn:∀(v:Nat) (x:Int),ds[v]? =some x->cD R (v:Int)<(m:Int)-i->iC (Dn (v:Int)) x
 gH:∀(v:Nat) (x:Int),ds[v]? =some x->-1<=x/\x<=(m+i)*BW
theorem Lq.start{m:Nat}{A:List bQ}{R ds:List Int}{Dn:Int->Int->Prop}(h:Gc m Dn ds)(hr:∀v:Int,0<=v->v<m->cD R v<m)(hb:∀(v:Nat) (x:Int),ds[v]? =some x->-1<=x/\x<=m*BW):Lq m A R Dn 0 ds:=by
 refine⟨h.1,λv x hx hk=>?_,λv x hx _=>h.2 v x hx,λv x hx=>by have:=hb v x hx;simpa using this⟩;have hv:=(kU.1 hx).1;rw[h.1] at hv;have:=hr (v:Int) aB aB;omega
theorem Lq.step{m i:Nat}{A:List bQ}{R ds:List Int}{Dn:Int->Int->Prop}(h:Lq m A R Dn i ds)(gF:∀v w:Nat,v<m->w<m->v≠w->cD R (v:Int)≠cD R (w:Int)){v:Nat}(hv:v<m)(hr:cD R (v:Int)=(m:Int)-1-i){x:Int}
  (hx:iC (UPD A R Dn (v:Int)) x) (hb:-1<=x/\x<=(m+(i+1:Nat))*BW):Lq m A R Dn (i+1) (ds.set v x):=by
 have get:∀{u:Nat} {y:Int},(ds.set v x)[u]? =some y->(u=v/\y=x)\/(u≠v/\u<m/\ds[u]? =some y):=λ{u y} hu=>by
  rw[vT] at hu
  by_cases e:v=u
  ·rw[if_pos e,if_pos (by rw[h.len];omega)] at hu;cases hu;exact .inl ⟨e.symm,rfl⟩
  ·rw[if_neg e] at hu
   exact .inr ⟨λe'=>e e'.symm,by have:=(kU.1 hu).1;rw[h.len] at this;exact this,hu⟩
 refine⟨by rw[pJ];exact h.len,λu y hu hk=>?_,λu y hu hk=>?_,λu y hu=>?_⟩
 ·rcases get hu with⟨rfl,rfl⟩|⟨Fb,hum,hu⟩
  ·exact hx
  ·have:=gF u v hum hv Fb
   exact h.up u y hu aB
 ·rcases get hu with⟨rfl,rfl⟩|⟨_,_,hu⟩
  ·omega
  ·exact h.dn u y hu aB
 ·rcases get hu with⟨rfl,rfl⟩|⟨_,_,hu⟩
  ·exact hb
  ·have:=h.gH u y hu
   simp only[BW] at*;omega
theorem Lq.done{m:Nat}{A:List bQ}{R ds:List Int}{Dn:Int->Int->Prop}(h:Lq m A R Dn m ds)(hr:∀v:Int,0<=v->v<m->0<=cD R v):Gc m (UPD A R Dn) ds:=
 ⟨h.len,λv x hx=>h.up v x hx (by
  have hv:=(kU.1 hx).1;rw[h.len] at hv;have:=hr (v:Int) aB aB;omega)⟩
end
def cr(key:Int->Int)(k:Nat)(v:Nat):List Int:=(nW k).filter λe=>decide (key e=(v:Int))
def cK(key:Int->Int)(k:Nat)(v:Nat):Nat:=(cr key k v).length
theorem Xk(key:Int->Int)(k v:Nat):cr key (k+1) v=cr key k v++if key (k:Int)=(v:Int) then [(k:Int)] else []:=by
 unfold cr;rw[HI,IT];congr 1
 by_cases h:key (k:Int)=(v:Int)<;>simp[h]
theorem VT(key:Int->Int)(k v:Nat):cK key (k+1) v=cK key k v+if key (k:Int)=(v:Int) then 1 else 0:=by
 unfold cK;rw[Xk,mL]
 split<;>rfl
theorem cK_zero(key:Int->Int)(v:Nat):cK key 0 v=0:=rfl
theorem cK_le(key:Int->Int){k m:Nat}(h:k<=m)(v:Nat):cK key k v<=cK key m v:=by
 induction h with
 |refl=>exact iT _
 |step _ ih=>rw[VT];omega
theorem jc(key:Int->Int)(k v:Nat):cK key k v<=k:=by
 have:=vW (λe=>decide (key e=(v:Int))) (nW k);rw[vC] at this;exact this
def pV(c:Nat->Nat):Nat->Nat
 |0=>0
 |v+1=>pV c v+c v
theorem VO(c:Nat->Nat){v u:Nat}(h:v<u):pV c v+c v<=pV c u:=by
 induction h with
 |refl=>exact iT _
 |step _ ih=>show _<=pV c _+c _;omega
theorem preK_add(c:Nat->Nat)(a:Int)(n:Nat):pV (λv=>c v+if a=(v:Int) then 1 else 0) n=pV c n+if 0<=a/\a<n then 1 else 0:=by
 induction n with
 |zero=>
  have:¬(0<=a/\a<((0:Nat):Int)):=aB;rw[if_neg this];rfl
 |succ n ih=>
  show pV _ n+(c n+_)=pV c n+c n+_;rw[ih]
  by_cases h1:a=(n:Int)
  ·rw[if_neg aB,if_pos h1,if_pos aB];omega
  ·by_cases h2:0<=a/\a<n
   ·rw[if_pos h2,if_neg h1,if_pos aB];omega
   ·rw[if_neg h2,if_neg h1,if_neg aB];omega
theorem WE{key:Int->Int}{n:Nat}:∀{m:Nat},(∀i:Nat,i<m->0<=key (i:Int)/\key (i:Int)<n)->pV (cK key m) n=m
 |0,_=>by
  have:∀n,pV (cK key 0) n=0:=λn=>by
   induction n with
   |zero=>rfl
   |succ n ih=>show pV _ n+cK key 0 n=0;rw[ih];rfl
  exact this n
 |m+1,h=>by
  have e:cK key (m+1)=λv=>cK key m v+if key (m:Int)=(v:Int) then 1 else 0:=by funext v;exact VT key m v
  rw[e,preK_add,WE (m:=m) λi hi=>h i aB,if_pos (h m aB)]
structure VI(key:Int->Int)(n k:Nat)(fs:List Int):Prop where
 len:fs.length=n+1
 zero:fs[0]? =some 0
 val:∀v,v<n->fs[v+1]? =some (cK key k v:Int)
theorem VI.start(key:Int->Int)(n:Nat):VI key n 0 (List.replicate (n+1) 0):=
 ⟨by simp,by simp,λv hv=>by rw[Ev,if_pos aB];rfl⟩
theorem VI.step{key:Int->Int}{n k:Nat}{fs:List Int}(h:VI key n k fs){v0:Nat}(hv:v0<n)(hk:key (k:Int)=(v0:Int)):VI key n (k+1) (fs.set (v0+1) ((cK key k v0:Int)+1)):=by
 refine⟨by rw[pJ];exact h.len,by rw[vT,if_neg aB];exact h.zero,λv kF=>?_⟩;rw[vT,VT]
 by_cases e:v0=v
 ·subst e
  rw[if_pos rfl,if_pos (by rw[h.len];omega),if_pos hk];simp
 ·rw[if_neg aB,if_neg aB,h.val v kF];simp
structure Gb(c:Nat->Nat)(n j:Nat)(fs:List Int):Prop where
 len:fs.length=n+1
 lo:∀i,i<=j->fs[i]? =some (pV c i:Int)
 hi:∀v,v<n->j<=v->fs[v+1]? =some (c v:Int)
theorem VI.rows2{key:Int->Int}{n m:Nat}{fs:List Int}(h:VI key n m fs):Gb (cK key m) n 0 fs:=
 ⟨h.len,λi hi=>by
  have:i=0:=aB;subst this;exact h.zero,λv hv _=>h.val v hv⟩
theorem Gb.step{c:Nat->Nat}{n j:Nat}{fs:List Int}(h:Gb c n j fs)(hj:j<n):Gb c n (j+1) (fs.set (j+1) ((c j:Int)+(pV c j:Int))):=by
 refine⟨by rw[pJ];exact h.len,λi hi=>?_,λv hv hjv=>?_⟩
 ·rw[vT]
  by_cases e:j+1=i
  ·subst e
   rw[if_pos rfl,if_pos (by rw[h.len];omega)];show some _=some ((pV c j+c j:Nat):Int);congr 1;omega
  ·rw[if_neg e];exact h.lo i aB
 ·rw[vT,if_neg aB];exact h.hi v hv aB
structure Ga(key:Int->Int)(n m k:Nat)(nx row:List Int):Prop where
 nl:nx.length=n+1
 nv:∀v,v<n->nx[v]? =some ((pV (cK key m) v+cK key k v:Nat):Int)
 rl:row.length=m
 rv:∀v,v<n->∀j x,(cr key k v)[j]? =some x->row[pV (cK key m) v+j]? =some x
theorem Gb.rows3{key:Int->Int}{n m:Nat}{fs:List Int}(h:Gb (cK key m) n n fs):Ga key n m 0 fs (List.replicate m 0):=
 ⟨h.len,λv hv=>by rw[h.lo v aB,cK_zero];rfl,by simp,λv _ j x hj=>by simp[cr,nW] at hj⟩
theorem Ga.step{key:Int->Int}{n m k:Nat}{nx row:List Int}(h:Ga key n m k nx row)(hkm:k<m)(tF:∀i:Nat,i<m->0<=key (i:Int)/\key (i:Int)<n){v0:Nat}(hv:v0<n)(hk:key (k:Int)=(v0:Int)):
  pV (cK key m) v0+cK key k v0<m/\Ga key n m (k+1) (nx.set v0 (((pV (cK key m) v0+cK key k v0:Nat):Int)+1)) (row.set (pV (cK key m) v0+cK key k v0) (k:Int)):=by
 have oO:=WE tF;have hc:cK key k v0+1<=cK key m v0:=by
  have:=cK_le key (show k+1<=m by omega) v0;rw[VT,if_pos hk] at this;exact this
 have hp:pV (cK key m) v0+cK key k v0<m:=by
  have:=VO (cK key m) hv;omega
 refine⟨hp,by rw[pJ];exact h.nl,λv kF=>?_,by rw[pJ];exact h.rl,λv kF j x hj=>?_⟩
 ·rw[vT,VT]
  by_cases e:v0=v
  ·subst e
   rw[if_pos rfl,if_pos (by rw[h.nl];omega),if_pos hk];congr 1
  ·rw[if_neg e,if_neg aB,h.nv v kF];rfl
 ·rw[Xk] at hj
  rw[vT];have XT:=(kU.1 hj).1;rw[mL] at XT
  by_cases cJ:j<(cr key k v).length
  ·rw[Ey cJ] at hj
   have gF:pV (cK key m) v0+cK key k v0≠pV (cK key m) v+j:=λe=>by
    have h1:=cK_le key (show k<=m by omega) v;have GA:j<cK key k v:=cJ;rcases Nat.lt_trichotomy v v0 with h2|h2|h2
    ·have:=VO (cK key m) h2;omega
    ·subst h2;omega
    ·have:=VO (cK key m) h2;omega
   rw[if_neg gF];exact h.rv v kF j x hj
  ·by_cases e:key (k:Int)=(v:Int)
   ·rw[if_pos e] at XT hj
    have uE:j=(cr key k v).length:=by simp at XT;omega
    subst uE;rw[Ez (iT _)] at hj;simp at hj;subst hj;have:v0=v:=aB;subst this;rw[show(cr key k v0).length=cK key k v0 from rfl,if_pos rfl,if_pos (by rw[h.rl];exact hp)]
   ·rw[if_neg e] at XT
    simp at XT;omega
theorem Ga.done{key:Int->Int}{n m:Nat}{nx row:List Int}(h:Ga key n m m nx row)(tF:∀i:Nat,i<m->0<=key (i:Int)/\key (i:Int)<n){v:Nat}(hv:v<n):
  pV (cK key m) v+cK key m v<=m/\(row.drop (pV (cK key m) v)).take (cK key m v)=cr key m v:=by
 have oO:=WE tF;have:=VO (cK key m) hv;refine⟨aB,AZ λj=>?_⟩;rw[List.getElem?_take]
 by_cases hj:j<cK key m v
 ·rw[if_pos hj,List.getElem?_drop]
  have uE:j<(cr key m v).length:=hj;rw[gS uE];exact h.rv v hv j _ (gS uE)
 ·rw[if_neg hj,List.getElem?_eq_none]
  show cK key m v<=j;omega
end Go.Den
namespace Go.Den
open Go Go.ChangeShapes Go.WideShapes Go.ChangeAt Go.RowKit
section
abbrev Nd(W w:aH):Prop:=aW (λk=>W.heap.size<=k) W w
theorem Nd.below{W w:aH}(h:Nd W w):Below W.heap.size W w:=aW.below h (iT _)
section
variable{H:Type}{aY:TypeId×Value->H}{P:Program}
theorem QY(hl:laidOutB P=true){W W':aH}{uN:Nat->Bool}:∀{ts:List TypeId} {vs:List Value} {ds:List (DataW H)} {ps:List MemPlace},
  (∀t∈ts,P.readableRec t=true/\t<P.types.size)->DataW.TrodAll aY P W 0 (λ_=>true) true ts vs ds ps->(∀p∈ps,W.sameAt W' p)->(∀p∈ps,uN p.block=true)->DataW.TrodAll aY P W' 0 uN true ts vs ds ps
 | [],[],[],_,_,h,_,_=>h
 |t::ts,v::vs,d::ds,ps,ht,h,hs,hp=>by
  obtain⟨p,q,h1,h2,rfl⟩:=h;refine⟨p,q,WideElems.Trod_stays hl (ht t dL).1 (ht t dL).2 h1 (λx hx=>hs x (by simp[hx])) (λx hx=>hp x (by simp[hx])),?_,rfl⟩;exact QY hl (λu hu=>ht u (by simp[hu])) h2 (λx hx=>hs x (by simp[hx])) (λx hx=>hp x (by simp[hx]))
 | [],_::_,_,_,_,h,_,_=>h.elim
 | [],[],_::_,_,_,h,_,_=>h.elim
 |_::_,[],_,_,_,h,_,_=>h.elim
 |_::_,_::_,[],_,_,h,_,_=>h.elim
theorem NS{W:aH}{nF:Nat}{sp:Nat->Bool}{hd:Bool}:∀{ts:List TypeId} {vs:List Value} {ds:List (DataW H)} {ps:List MemPlace},DataW.TrodAll aY P W nF sp hd ts vs ds ps->ds.length=ts.length/\vs.length=ts.length
 | [],[],[],_,_=>⟨rfl,rfl⟩
 |_::_,_::_,_::_,_,h=>by obtain⟨_,_,_,h2,_⟩:=h;have:=NS h2;simp[this.1,this.2]
 | [],_::_,_,_,h=>h.elim
 | [],[],_::_,_,h=>h.elim
 |_::_,[],_,_,h=>h.elim
 |_::_,_::_,[],_,h=>h.elim
theorem law_post{fn:Func}{s:ChangeSpec}{apart fresh handsOn again:Bool}{W W':aH}{args:Array Value}{ds gs:List (DataW H)}{before:List MemPlace}{tb:TypeId}
  (hW:DataW.Whole aY P fn.params.toList s.vars apart W args.toList ds gs before) (hv:s.vars=[])
  (hfn:∀ds:List (DataW H),ds.length=fn.params.size->s.fn H ds={results:=[.lit (.bool true)],args:=ds})
  (hrt:fn.resultTypes=#[tb]) (htb:P.underlying tb=some .bool) (hl:laidOutB P=true) (hread:∀t∈fn.params.toList,P.readableRec t=true/\t<P.types.size) (hS:Nd W W'):
  s.post aY P fn apart fresh handsOn again W args (.bool true) W':=by
 have cJ:=hW.lt;obtain⟨p,q,hA,hV,rfl,hz,hn⟩:=hW;have hW0:DataW.Whole aY P fn.params.toList s.vars apart W args.toList ds gs (p++q):=⟨p,q,hA,hV,rfl,hz,hn⟩;have hV':DataW.TrodVars aY P W (λ_=>true) [] gs q:=by rw[<-hv];exact hV
 obtain⟨rfl,rfl⟩:=trodVars_none hV';have hds:(ds++[]).length=fn.params.size:=by rw[tD,(NS hA).1];simp
 have hF:=hfn (ds++[]) hds;have hb:=hS.below;have qk:∀x∈p,W.sameAt W' x:=λx hx=>hb.same (cJ x (by simp[hx]));have hargs:∀sp:Nat->Bool,(∀x∈p,sp x.block=true)->DataW.TrodAll aY P W' 0 sp true fn.params.toList args.toList ds p:=λsp hsp=>QY hl hread hA qk hsp;have fj:∀(b:Nat) (sp:Nat->Bool) (hd:Bool),DataW.TrodAll aY P W' b sp hd fn.resultTypes.toList ((Value.bool true).resultList fn.resultTypes.size) [.lit (.bool true)] []:=by
  intro b sp hd;rw[hrt];exact trodAll_mk1 (shut_bool htb true)
 refine⟨ds,[],p++[],[],p,[],hW0,?_,?_,?_,?_,?_⟩
 ·rw[hF];exact fj _ _ _
 ·rw[hF];simp only[tD];exact hargs _ (λx hx=>by simpa using cJ x (by simp[hx]))
 ·rw[hF,hv];exact rfl
 ·exact hb.frame _
 ·intro _
  refine⟨ok_one hrt rfl (okWide_bool_mk htb true),[.lit (.bool true)]++ds,[],[]++p++[],⟨[]++p,[],trodAll_append (hargs _ λ_ _=>rfl) (fj _ _ _),?_,rfl,?_,?_⟩,?_⟩
  ·rw[hv];exact rfl
  ·intro b off hp
   simp only[List.nil_append,tD] at hp;have h1:=cJ (.cell b off) (by simp[hp]);rw[hb.frozen (p:=⟨b,off,none⟩) h1];exact hz b off (by simpa using hp)
  ·intro ha
   simpa using hn ha
  ·intro x hx _
   simpa using hx
end
theorem law_lifted{C:Checked}{os:Os}{f:FuncId}{fn:Func}{s:ChangeSpec}{conds:List PathCond}{apart fresh handsOn again:Bool}{tb:TypeId}{H:Type}{aY:TypeId×Value->H}
  (gN:ownKnob C.prog.godebug=none) (started:os.Started) (noInit:C.prog.inits.idxOf? f=none) (hfn:C.prog.funcs[f]? =some fn)
  (witness:∃(w:aH) (tape:Tape) (i:Input),w.os=os/\(w.forCall tape i).Shaped C.prog/\i.vars=[]/\Input.okWide C.prog (w.forCall tape i) .any w.heap.size f i/\
   s.pre6 aY C.prog fn conds apart (w.forCall tape i).memory i.args/\Assume.holds {} C.prog (lone (Frame.enter C.prog f i.args .normal) [] (w.forCall tape i)))
  (hv:s.vars=[]) (hs:∀ds:List (DataW H),ds.length=fn.params.size->s.fn H ds={results:=[.lit (.bool true)],args:=ds})
  (hrt:fn.resultTypes=#[tb]) (htb:C.prog.underlying tb=some .bool) (hl:laidOutB C.prog=true) (hread:∀t∈fn.params.toList,C.prog.readableRec t=true/\t<C.prog.types.size)
  (contract:∀(W:aH) (nF:Nat) (args:Array Value) (ds:List (DataW H)) (ps:List MemPlace),
   (∀(j:Nat) t v,fn.params[j]? =some t->args[j]? =some v->Value.okWide C.prog W .any nF t v)->
   DataW.TrodAll aY C.prog W 0 (λ_=>true) true fn.params.toList args.toList ds ps->
   Calls C.prog f args W λe W'=>e=.returned (.bool true)/\Nd W W'):
  ReturnsInHanded {} C os f .any (s.pre6 aY C.prog fn conds apart) (s.post aY C.prog fn apart fresh handsOn again):=by
 refine returnsInHanded_of_change gN started noInit hfn witness ?_;intro W nF args ds gs before Qe hW _ _;obtain⟨p,q,hA,_⟩:=id hW;exact(contract W nF args ds p Qe hA).mono λe W' ⟨he,hS⟩=>⟨_,he,law_post hW hv hs hrt htb hl hread hS⟩
section
variable{H:Type}{aY:TypeId×Value->H}{P:Program}{W:aH}
end
end
end Go.Den
namespace Go.Den
open Go
open Go.IntKind (wrap)
def poly:BitVec 32:=2197175160#32
def ph(c:BitVec 32):BitVec 32:=(c>>>1)^^^(if c.getLsbD 0 then poly else 0#32)
def QH:Nat->BitVec 32->BitVec 32
 |0,c=>c
 |n+1,c=>QH n (ph c)
def ia(c:BitVec 32)(b:BitVec 8):BitVec 32:=QH 8 (c^^^b.setWidth 32)
def DS(c:BitVec 32)(l:List (BitVec 8)):BitVec 32:=l.foldl ia c
def xS(l:List (BitVec 8)):BitVec 32:= ~~~ DS (BitVec.allOnes 32) l
theorem Sq(c:BitVec 32)(l m:List (BitVec 8)):DS c (l++m)=DS (DS c l) m:=List.foldl_append ..
theorem lh(c:BitVec 32)(l:List (BitVec 8))(b:BitVec 8):DS c (l++[b])=ia (DS c l) b:=by simp[DS]
theorem Az:∀(n:Nat) (c:BitVec 32),QH (n+1) c=ph (QH n c)
 |0,_=>rfl
 |n+1,c=>by rw[QH,Az n];rfl
def parN:Nat->(Nat->Bool)->Bool
 |0,_=>false
 |n+1,f=>xor (parN n f) (f n)
def par{w:Nat}(x:BitVec w):Bool:=parN w x.getLsbD
theorem aAq(c d:BitVec 32):nY .and .u32 (c.toNat:Int) (d.toNat:Int)=((c &&& d).toNat:Int):=by
 show wrap .u32 ((BitVec.ofInt 32 (c.toNat:Int) &&& BitVec.ofInt 32 (d.toNat:Int)).toNat:Int)=_;have hc:BitVec.ofInt 32 (c.toNat:Int)=c:=by simp
 have hd:BitVec.ofInt 32 (d.toNat:Int)=d:=by simp
 rw[hc,hd,IntKind.wrap_u32];have h:(c &&& d).toNat<4294967296:=(c &&& d).isLt;omega
theorem ZK(c d:BitVec 32):nY .xor .u32 (c.toNat:Int) (d.toNat:Int)=((c^^^d).toNat:Int):=by
 show wrap .u32 ((BitVec.ofInt 32 (c.toNat:Int)^^^BitVec.ofInt 32 (d.toNat:Int)).toNat:Int)=_;have hc:BitVec.ofInt 32 (c.toNat:Int)=c:=by simp
 have hd:BitVec.ofInt 32 (d.toNat:Int)=d:=by simp
 rw[hc,hd,IntKind.wrap_u32];have h:(c^^^d).toNat<4294967296:=(c^^^d).isLt;omega
theorem zf(c:BitVec 32):Int.fdiv (c.toNat:Int) (2^(min (Int.toNat (1:Int)) (IntKind.bits .u32)))=((c>>>1).toNat:Int):=by
 rw[BitVec.toNat_ushiftRight,Nat.shiftRight_eq_div_pow];show Int.fdiv (c.toNat:Int) 2=((c.toNat/2:Nat):Int);rw[Int.fdiv_eq_ediv_of_nonneg _ aB];omega
theorem and_one(c:BitVec 32):((c &&& 1#32).toNat:Int)=if c.getLsbD 0 then 1 else 0:=by
 rw[BitVec.toNat_and];simp only[BitVec.getLsbD,Nat.testBit_zero];have:c.toNat &&& (1#32).toNat=c.toNat%2:=Nat.and_one_is_mod _;rw[this];rcases Nat.mod_two_eq_zero_or_one c.toNat with h|h<;>simp[h]
theorem Yg(c:BitVec 32):ph c=if c.getLsbD 0 then(c>>>1)^^^poly else c>>>1:=by unfold ph;split<;>simp
def Edge(zs:List It)(k j:Nat):Prop:=∀x y,zs[k]? =some x->zs[j]? =some y->pX y x=false
def HOk(zs:List It):Prop:=∀j,0<j->Edge zs ((j-1)/2) j
structure UpI(zs:List It)(i:Nat):Prop where
 dE:∀j,0<j->j≠i->Edge zs ((j-1)/2) j
 iH:∀j,0<j->(j-1)/2=i->0<i->Edge zs ((i-1)/2) j
structure Wl(zs:List It)(i:Nat):Prop where
 dE:∀j,0<j->(j-1)/2≠i->Edge zs ((j-1)/2) j
 iH:∀j,0<j->(j-1)/2=i->0<i->Edge zs ((i-1)/2) j
theorem le_trans'{x y z:It}(h:pX y x=false)(h':pX z y=false):pX z x=false:=by
 have h1:¬pX y x=true:=by rw[h];simp
 have h2:¬pX z y=true:=by rw[h'];simp
 have:¬pX z x=true:=by rw[jZ] at*;omega
 simpa using this
theorem qb{x y:It}(h:pX x y=true):pX y x=false:=by
 have:¬pX y x=true:=by rw[jZ] at*;omega
 simpa using this
theorem GY(x:It):pX x x=false:=by
 have:¬pX x x=true:=by rw[jZ];omega
 simpa using this
theorem BQ{zs:List It}{i p:Nat}(hi:i<zs.length)(hp:p<zs.length)(x y:It)(j:Nat):((zs.set i y).set p x)[j]? =if j=p then some x else if j=i then some y else zs[j]?:=by
 rw[vT,vT]
 by_cases h1:j=p
 ·subst h1;simp[hp]
 ·rw[if_neg (λe=>h1 e.symm),if_neg h1]
  by_cases h2:j=i
  ·subst h2;simp[hi]
  ·rw[if_neg (λe=>h2 e.symm),if_neg h2]
theorem Qw{zs:List It}{i p:Nat}{x y:It}(hx:zs[i]? =some x)(hy:zs[p]? =some y)(u:It):u∈(zs.set i y).set p x↔u∈zs:=by
 have hi:=(kU.1 hx).1;have hp:=(kU.1 hy).1;rw[oM,oM]
 constructor
 ·rintro⟨j,hj⟩
  rw[BQ hi hp] at hj
  split at hj
  ·exact⟨i,hx.trans hj⟩
  ·split at hj
   ·exact⟨p,hy.trans hj⟩
   ·exact⟨j,hj⟩
 ·rintro⟨j,hj⟩
  by_cases h1:j=p
  ·subst h1
   by_cases h2:j=i
   ·subst h2;exact⟨j,by rw[BQ hi hp,if_pos rfl,<-hx,hj]⟩
   ·exact⟨i,by rw[BQ hi hp,if_neg (λe=>h2 e.symm),if_pos rfl,<-hy,hj]⟩
  ·by_cases h2:j=i
   ·subst h2;exact⟨p,by rw[BQ hi hp,if_pos rfl,<-hx,hj]⟩
   ·exact⟨j,by rw[BQ hi hp,if_neg h1,if_neg h2,hj]⟩
theorem up_step{zs:List It}{i:Nat}{x y:It}(h:UpI zs i)(hi0:0<i)(hx:zs[i]? =some x)(hy:zs[(i-1)/2]? =some y)(cJ:pX x y=true):UpI ((zs.set i y).set ((i-1)/2) x) ((i-1)/2):=by
 have hi:=(kU.1 hx).1;have hp:=(kU.1 hy).1;have hpi:(i-1)/2<i:=aB;have hxy:=qb cJ;generalize Uj:(i-1)/2=p at*;refine⟨λj hj hjp u v hu hv=>?_,λj hj hjp hp0 u v hu hv=>?_⟩
 ·rw[BQ hi hp] at hu hv
  rw[if_neg hjp] at hv
  by_cases CR:j=i
  ·subst CR
   rw[if_pos rfl] at hv;rw[if_pos Uj] at hu;cases hv;cases hu;exact hxy
  ·rw[if_neg CR] at hv
   by_cases h1:(j-1)/2=p
   ·rw[if_pos h1] at hu
    cases hu;exact le_trans' hxy (h.dE j hj CR y v (by rw[h1];exact hy) hv)
   ·rw[if_neg h1] at hu
    by_cases h2:(j-1)/2=i
    ·rw[if_pos h2] at hu
     cases hu;exact h.iH j hj h2 hi0 y v (by rw[Uj];exact hy) hv
    ·rw[if_neg h2] at hu
     exact h.dE j hj CR u v hu hv
 ·rw[BQ hi hp] at hu hv
  rw[if_neg aB,if_neg aB] at hu;have nj:pX y u=false:=h.dE p hp0 aB u y hu hy;rw[if_neg aB] at hv
  by_cases CR:j=i
  ·rw[if_pos CR] at hv;cases hv;exact nj
  ·rw[if_neg CR] at hv
   exact le_trans' nj (h.dE j hj CR y v (by rw[hjp];exact hy) hv)
theorem up_end{zs:List It}{i:Nat}{x:It}(h:UpI zs i)(hx:zs[i]? =some x)(he:i=0\/∃y,zs[(i-1)/2]? =some y/\pX x y=false):HOk zs:=by
 intro j hj
 by_cases CR:j=i
 ·subst CR
  rcases he with rfl|⟨y,hy,hn⟩
  ·omega
  ·intro u v hu hv
   rw[hy] at hu;rw[hx] at hv;cases hu;cases hv;exact hn
 ·exact h.dE j hj CR
theorem aAj{zs:List It}{i k:Nat}{x y:It}(h:Wl zs i)(hk0:0<k)(hki:(k-1)/2=i)(hx:zs[i]? =some x)(hy:zs[k]? =some y)(cJ:pX y x=true)
  (fm:∀s,0<s->(s-1)/2=i->∀v,zs[s]? =some v->pX v y=false):Wl ((zs.set i y).set k x) k:=by
 have hi:=(kU.1 hx).1;have hk:=(kU.1 hy).1;have hyx:=qb cJ;refine⟨λj hj hjk u v hu hv=>?_,λj hj hjk hk0' u v hu hv=>?_⟩
 ·rw[BQ hi hk] at hu hv
  rw[if_neg hjk] at hu
  by_cases h1:j=k
  ·subst h1
   rw[if_pos rfl] at hv;rw[if_pos hki] at hu;cases hu;cases hv;exact hyx
  ·rw[if_neg h1] at hv
   by_cases h2:j=i
   ·subst h2
    rw[if_pos rfl] at hv;cases hv;rw[if_neg aB] at hu;exact h.iH k hk0 hki aB u y hu hy
   ·rw[if_neg h2] at hv
    by_cases h3:(j-1)/2=i
    ·rw[if_pos h3] at hu
     cases hu;exact fm j hj h3 v hv
    ·rw[if_neg h3] at hu
     exact h.dE j hj h3 u v hu hv
 ·rw[BQ hi hk] at hu hv
  rw[hki,if_neg aB,if_pos rfl] at hu;cases hu;rw[if_neg aB,if_neg aB] at hv;exact h.dE j hj aB y v (by rw[hjk];exact hy) hv
theorem Xn{zs:List It}{i:Nat}{x:It}(h:Wl zs i)(hx:zs[i]? =some x)(fm:∀s,0<s->(s-1)/2=i->∀v,zs[s]? =some v->pX v x=false):HOk zs:=by
 intro j hj
 by_cases h1:(j-1)/2=i
 ·intro u v hu hv
  rw[h1,hx] at hu;cases hu;exact fm j hj h1 v hv
 ·exact h.dE j hj h1
theorem HOk.min{zs:List It}(h:HOk zs){r:It}(hr:zs[0]? =some r):∀(j:Nat) (u:It),zs[j]? =some u->pX u r=false:=by
 intro j
 induction j using Nat.strongRecOn with
 |ind j ih=>
  intro u hu
  by_cases hj:j=0
  ·subst hj;rw[hr] at hu;cases hu;exact GY _
  ·have cJ:=(kU.1 hu).1
   have hp:(j-1)/2<zs.length:=aB;exact le_trans' (ih ((j-1)/2) aB _ (gS hp)) (h j aB _ u (gS hp) hu)
structure FG(f:Int->Option Int)(zs:List It)(i:Nat):Prop where
 at_:∀(j:Nat) (z:It),j≠i->zs[j]? =some z->f z.id=some (j:Int)
 dom:∀v k,f v=some k->∃z∈zs,z.id=v
structure tX(f:Int->Option Int)(zs:List It):Prop where
 at_:∀(j:Nat) z,zs[j]? =some z->f z.id=some (j:Int)
 dom:∀v k,f v=some k->∃z∈zs,z.id=v
theorem tX.one{f:Int->Option Int}{zs:List It}(h:tX f zs):Ca zs:=by
 intro x hx y hy e;obtain⟨i,hi⟩:=oM.1 hx;obtain⟨j,hj⟩:=oM.1 hy;have h1:=h.at_ i x hi;have h2:=h.at_ j y hj;rw[e,h2] at h1;have:j=i:=by have:=uQ h1;omega
 subst this;rw[hi] at hj;exact uQ hj
theorem FG.swap{f:Int->Option Int}{zs:List It}{i p:Nat}(h:FG f zs i){x y:It}(hx:zs[i]? =some x)(hy:zs[p]? =some y)(hip:i≠p):FG (λv=>if v=y.id then some (i:Int) else f v) ((zs.set i y).set p x) p:=by
 have hi:=(kU.1 hx).1;have hp:=(kU.1 hy).1;refine⟨λj z hj hz=>?_,λv k hv=>?_⟩
 ·rw[BQ hi hp,if_neg hj] at hz
  by_cases h1:j=i
  ·rw[if_pos h1] at hz;cases hz;simp[h1]
  ·rw[if_neg h1] at hz
   have h2:=h.at_ j z h1 hz;have:z.id≠y.id:=λe=>by
    have h3:=h.at_ p y (Ne.symm hip) hy;rw[<-e,h2] at h3;have:=uQ h3;omega
   simp[this,h2]
 ·replace hv:(if v=_ then _ else f v)=some k:=hv
  by_cases h1:v=y.id
  ·exact⟨y,(Qw hx hy y).2 (zH hy),h1.symm⟩
  ·rw[if_neg h1] at hv
   obtain⟨z,hz,e⟩:=h.dom v k hv;exact⟨z,(Qw hx hy z).2 hz,e⟩
theorem FG.done{f:Int->Option Int}{zs:List It}{i:Nat}(h:FG f zs i){x:It}(hx:zs[i]? =some x)(bq:∀(j:Nat) (z:It),j≠i->zs[j]? =some z->z.id≠x.id):tX (λv=>if v=x.id then some (i:Int) else f v) zs:=by
 refine⟨λj z hz=>?_,λv k hv=>?_⟩
 ·by_cases h1:j=i
  ·subst h1;rw[hx] at hz;cases hz;simp
  ·have:=h.at_ j z h1 hz
   simp[bq j z h1 hz,this]
 ·replace hv:(if v=_ then _ else f v)=some k:=hv
  by_cases h1:v=x.id
  ·exact⟨x,zH hx,h1.symm⟩
  ·rw[if_neg h1] at hv;exact h.dom v k hv
def QV(zs:List It):Prop:=∀(i j:Nat) (x y:It),zs[i]? =some x->zs[j]? =some y->x.id=y.id->i=j
theorem tX.apart{f:Int->Option Int}{zs:List It}(h:tX f zs):QV zs:=by
 intro i j x y hi hj e;have h1:=h.at_ i x hi;have h2:=h.at_ j y hj;rw[e,h2] at h1;have:=uQ h1;omega
theorem QV.swap{zs:List It}(h:QV zs){i p:Nat}{x y:It}(hx:zs[i]? =some x)(hy:zs[p]? =some y):QV ((zs.set i y).set p x):=by
 have hi:=(kU.1 hx).1;have hp:=(kU.1 hy).1;have dN:∀(j:Nat) (u:It),((zs.set i y).set p x)[j]? =some u->∃j',zs[j']? =some u/\((j=p/\j'=i)\/(j≠p/\j=i/\j'=p)\/(j≠p/\j≠i/\j'=j)):=by
  intro j u hu;rw[BQ hi hp] at hu
  by_cases h1:j=p
  ·rw[if_pos h1] at hu;exact⟨i,hx.trans hu,.inl ⟨h1,rfl⟩⟩
  ·rw[if_neg h1] at hu
   by_cases h2:j=i
   ·rw[if_pos h2] at hu;exact⟨p,hy.trans hu,.inr (.inl ⟨h1,h2,rfl⟩)⟩
   ·rw[if_neg h2] at hu;exact⟨j,hu,.inr (.inr ⟨h1,h2,rfl⟩)⟩
 intro a b u v hu hv e;obtain⟨a',ha,hac⟩:=dN a u hu;obtain⟨b',hb,hbc⟩:=dN b v hv;have:=h a' b' u v ha hb e;omega
def GC(n:Int):Int:=if n<0 then-n else n
def yk(ax ay bx mM:Int):Int:=
 if(ax=0/\ay=0)\/(bx=0/\mM=0) then 0
 else if ax*bx+ay*mM>0/\4*GC (ax*mM-ay*bx)<=ax*bx+ay*mM then 1
 else if ax*bx+ay*mM<0/\4*GC (ax*mM-ay*bx)<=-(ax*bx+ay*mM) then 5
 else if ax*mM-ay*bx>0/\ax*bx+ay*mM>0/\ax*mM-ay*bx<=ax*bx+ay*mM then 2
 else if ax*mM-ay*bx>0/\ax*bx+ay*mM<0/\ax*mM-ay*bx<=-(ax*bx+ay*mM) then 4
 else if ax*mM-ay*bx>0 then 3
 else if ax*bx+ay*mM>0/\-(ax*mM-ay*bx)<=ax*bx+ay*mM then 6
 else if ax*bx+ay*mM<0/\-(ax*mM-ay*bx)<=-(ax*bx+ay*mM) then 8
 else 7
theorem sq_pos{x y:Int}(h:¬(x=0/\y=0)):x*x+y*y≠0:=λe=>by
 have h1:0<=x*x:=by
  rcases Int.le_total 0 x with h|h
  ·exact Int.mul_nonneg h h
  ·exact Int.mul_nonneg_of_nonpos_of_nonpos h h
 have h2:0<=y*y:=by
  rcases Int.le_total 0 y with h|h
  ·exact Int.mul_nonneg h h
  ·exact Int.mul_nonneg_of_nonpos_of_nonpos h h
 have h3:x*x=0:=aB;have h4:y*y=0:=aB;exact h ⟨(Int.mul_eq_zero.1 h3).elim id id,(Int.mul_eq_zero.1 h4).elim id id⟩
theorem aAm{ax ay bx mM:Int}(h1:ax*mM-ay*bx=0)(h2:ax*bx+ay*mM=0):(ax=0/\ay=0)\/(bx=0/\mM=0):=by
 rcases Classical.em (bx=0/\mM=0) with h|h
 ·exact .inr h
 have hs:=sq_pos h;have e1:ax*mM=ay*bx:=aB;have e2:ax*bx=-(ay*mM):=aB;have f1:ax*(bx*bx+mM*mM)=0:=by
  rw[Int.mul_add,<-Int.mul_assoc,<-Int.mul_assoc,e1,e2,Int.neg_mul,Int.mul_assoc,Int.mul_assoc,Int.mul_comm mM bx];omega
 have f2:ay*(bx*bx+mM*mM)=0:=by
  rw[Int.mul_add,<-Int.mul_assoc,<-Int.mul_assoc,<-e1,show ay*mM=-(ax*bx) by omega,Int.neg_mul,Int.mul_assoc,Int.mul_assoc,Int.mul_comm mM bx];omega
 exact .inl ⟨(Int.mul_eq_zero.1 f1).resolve_right hs,(Int.mul_eq_zero.1 f2).resolve_right hs⟩
theorem Dv{x y:Int}(h:-4095<=x/\x<=4095)(h':-4095<=y/\y<=4095):-16769025<=x*y/\x*y<=16769025:=by
 have h1:x.natAbs<=4095:=aB;have h2:y.natAbs<=4095:=aB;have h3:(x*y).natAbs<=4095*4095:=by rw[Int.natAbs_mul];exact EX h1 h2
 omega
def Qn(c d:Int):Int:=
 if d>0/\4*GC c<=d then 1 else if d<0/\4*GC c<=-d then 5 else if c>0/\d>0/\c<=d then 2 else if c>0/\d<0/\c<=-d then 4 else if c>0 then 3
 else if d>0/\-c<=d then 6 else if d<0/\-c<=-d then 8 else 7
theorem clsP_eq{ax ay bx mM:Int}(h:¬((ax=0/\ay=0)\/(bx=0/\mM=0))):yk ax ay bx mM=Qn (ax*mM-ay*bx) (ax*bx+ay*mM):=by
 unfold yk Qn;rw[if_neg h]
def Gr.nd(G:Gr)(i:Int):Int×Int:=G.N.getD i.toNat (0,0)
def Gr.bend(G:Gr)(a b:Int):Int:=yk ((G.nd (G.to a)).1-(G.nd (G.fr a)).1) ((G.nd (G.to a)).2-(G.nd (G.fr a)).2) ((G.nd (G.to b)).1-(G.nd (G.fr b)).1) ((G.nd (G.to b)).2-(G.nd (G.fr b)).2)
theorem Gr.get_nd{G:Gr}{i:Int}(h:G.XS i):G.N[i.toNat]? =some (G.nd i):=by
 have:i.toNat<G.N.length:=by have:=h.2;unfold Gr.n at this;omega
 unfold Gr.nd;rw[LP,gS this];rfl
theorem zI.Qz{G:Gr}(ok:zI G){i:Int}(h:G.XS i):(0<=(G.nd i).1/\(G.nd i).1<=4095)/\0<=(G.nd i).2/\(G.nd i).2<=4095:=ok.nd _ (zH (G.get_nd h))
structure QT where
 cls:Int
 jB:Int
 rZ:Int
 left:Int
def Gr.wD(G:Gr):Int->List Int->Int×Int×Int
 |_,[]=>(9,-1,0)
 |a,e::l=>if(G.kJ a).length≠1 then(G.bend a e,e,0) else((G.wD e l).1,(G.wD e l).2.1,G.wt e+(G.wD e l).2.2)
def Gr.eZ(G:Gr)(a:Int)(l:List Int):QT:=⟨(G.wD a l).1,(G.wD a l).2.1,(G.wD a l).2.2,G.oX l⟩
structure lO where
 kind:Int
 pos:Int
 LC:Int
 cH:List Int
 lX:Int
 eZ:QT
abbrev ME:QT:=⟨0,0,0,0⟩
def mKind(k:Int):lO:=⟨k,0,0,[],0,ME⟩
def YU(l:List Int)(w:Int):lO:=⟨5,0,0,l,w,ME⟩
def qa(h:QT):lO:=⟨7,0,0,[],0,h⟩
def iq(p:Int):lO:=⟨9,p,0,[],0,ME⟩
abbrev DW:=mKind 4
abbrev WI:=mKind 6
abbrev Hb:=mKind 8
structure LJ where
 pos:Int
 node:Int
 jI:List Int
 dF:Bool
 iH:Bool
def pK(G:Gr)(p:LJ):LJ×List lO:=if G.to p.pos=p.node then({p with iH:=true},[Hb]) else(p,[qa (G.eZ p.pos p.jI)])
def fw(G:Gr)(p:LJ)(l:List Int)(w:Int)(f:Bool):LJ×List lO:=
 if f then((pK G {p with jI:=l,dF:=true}).1,YU l w::(pK G {p with jI:=l,dF:=true}).2) else({p with jI:=l,dF:=false},[WI])
def Ls(G:Gr)(c:List Bool)(p:LJ)(z:LJ×List lO):Prop:=∃l w f r,G.MG p.node p.pos c l w f r/\z=fw G p l w f
def gf(G:Gr)(c:List Bool)(p:LJ)(pos:Int)(z:LJ×List lO):Prop:=
 if p.iH=true then z=(p,[]) else if¬G.qE pos then z=(p,[iq pos]) else if p.dF=true/\pos=p.pos then z=pK G p
 else if p.dF=true/\p.jI.head? =some pos then z=pK G {p with pos:=pos,jI:=p.jI.tail} else Ls G c {p with pos:=pos} z
def gg(G:Gr)(c:List Bool)(p:LJ)(CU open_:List Int)(z:LJ×List lO):Prop:=
 if p.iH=true then z=(p,[]) else if p.dF=true then(if∃e∈p.jI,e∈CU then Ls G c p z else z=(p,[]))
 else if open_=[] then z=(p,[]) else∃z',Ls G c p z'/\z=(z'.1,if z'.1.dF=true then z'.2 else [])
structure UF(G:Gr)(p:LJ):Prop where
 pos:G.qE p.pos
 node:G.XS p.node
 wE:∀x∈p.jI,G.qE x
 len:p.jI.length<=51
 Er:p.dF=true->G.BH p.pos p.jI=true
 none:p.dF=false->p.jI=[]
theorem Gr.MG.VG{G:Gr}(ok:zI G){v e:Int}{c:List Bool}{l:List Int}{w:Int}{f r:Bool}(h:G.MG v e c l w f r):(∀x∈l,G.qE x)/\l.length<=51/\(f=true->G.BH e l=true/\w=G.oX l)/\(f=false->l=[]/\w=0):=by
 have hm:=ok.m1.2;cases h with
 |no=>exact⟨by simp,by simp,λh=>(by cases h),λ_=>⟨rfl,rfl⟩⟩
 |near _ _ _ hl _=>
  have:=hl.len ok;have hf:=hl.VG ok;exact⟨λx hx=>(hf.2.2.1 x hx).1,aB,λ_=>⟨hf.2.1,rfl⟩,λh=>by cases h⟩
 |rZ _ _ _ _ _ _ hl=>
  have:=hl.len ok;have hf:=hl.VG ok;exact⟨λx hx=>(hf.2.2.1 x hx).1,aB,λ_=>⟨hf.2.1,rfl⟩,λh=>by cases h⟩
theorem UF.pK{G:Gr}{p:LJ}(h:UF G p):UF G (pK G p).1:=by
 unfold Den.pK
 split
 ·exact⟨h.pos,h.node,h.wE,h.len,h.Er,h.none⟩
 ·exact h
theorem ask_ok{G:Gr}(ok:zI G){p:LJ}(hp:G.qE p.pos)(hn:G.XS p.node){l:List Int}{w:Int}{f r:Bool}{c:List Bool}(ha:G.MG p.node p.pos c l w f r):UF G (fw G p l w f).1/\(f=true->UF G {p with jI:=l,dF:=true}):=by
 obtain⟨h1,h2,h3,h4⟩:=ha.VG ok;have hs:f=true->UF G {p with jI:=l,dF:=true}:=λhf=>⟨hp,hn,h1,h2,λ_=>(h3 hf).1,λh=>by cases h⟩;refine⟨?_,hs⟩;unfold fw
 split
 ·rename_i hf;exact(hs hf).pK
 ·rename_i hf
  have XU:f=false:=by simpa using hf
  exact⟨hp,hn,h1,h2,λh=>(by cases h),λ_=>(h4 XU).1⟩
theorem UF.move{G:Gr}{p:LJ}(h:UF G p){x:Int}(hx:G.qE x)(hh:p.dF=true/\p.jI.head? =some x):UF G {p with pos:=x,jI:=p.jI.tail}:=by
 have hw:=h.Er hh.1;cases hp:p.jI with
 |nil=>rw[hp] at hh;cases hh.2
 |cons y l=>
  have hy:y=x:=by have:=hh.2;rw[hp] at this;simpa using this
  subst hy;rw[hp] at hw;have h2:=h.wE;have h3:=h.len;rw[hp] at h2 h3;simp only[Gr.BH,tE] at hw;exact⟨hx,h.node,λz hz=>h2 z (by simp at hz;simp[hz]),by simp at h3 ⊢;omega,λ_=>hw.2,λh4=>by have h5:p.dF=false:=h4;rw[hh.1] at h5;cases h5⟩
abbrev dA:=BitVec 8
def be:Nat->Nat->List dA
 |0,_=>[]
 |s+1,x=>BitVec.ofNat 8 (x/256^s)::be s x
def de(n:Nat)(l:List dA):Nat:=l.foldl (λn c=>n*256+c.toNat) n
theorem qN(s x:Nat):(be s x).length=s:=by
 induction s with
 |zero=>rfl
 |succ s ih=>simp[be,ih]
theorem de_be(s:Nat):∀(n x:Nat),x<256^s->de n (be s x)=n*256^s+x:=by
 induction s with
 |zero=>intro n x h;simp at h;simp[be,de,h]
 |succ s ih=>
  intro n x h;have e:de n (be (s+1) x)=de (n*256+(BitVec.ofNat 8 (x/256^s)).toNat) (be s x):=rfl;have hp:0<256^s:=Nat.pow_pos aB;have cJ:x/256^s<256:=by
   rw[Nat.div_lt_iff_lt_mul hp,Nat.mul_comm,<-Nat.pow_succ];exact h
  have hb:be s x=be s (x%256^s):=by
   have key:∀j,j<=s->be j x=be j (x%256^s):=by
    intro j
    induction j with
    |zero=>intro _;rfl
    |succ j ihj=>
     intro hj;simp only[be];rw[ihj aB];congr 1;apply BitVec.eq_of_toNat_eq;simp only[BitVec.toNat_ofNat];have hs:(256:Nat)^s=256^j*256^(s-j):=by rw[<-Nat.pow_add];congr 1;omega
     have h2:x%256^s/256^j=x/256^j%256^(s-j):=by
      rw[hs,Nat.mod_mul_right_div_self]
     rw[h2,show(2:Nat)^8=256 from rfl];have h3:(256:Nat) ∣ 256^(s-j):=by
      rw[show s-j=(s-j-1)+1 by omega,Nat.pow_succ];exact Nat.dvd_mul_left _ _
     rw[Nat.mod_mod_of_dvd _ h3]
   exact key s (iT _)
  rw[e,hb,ih _ _ (Nat.mod_lt _ hp),BitVec.toNat_ofNat,Nat.mod_eq_of_lt (by simpa using cJ)];have:=Nat.div_add_mod x (256^s);rw[Nat.pow_succ]
  calc (n*256+x/256^s)*256^s+x%256^s=n*(256^s*256)+(256^s*(x/256^s)+x%256^s):=by rw[Nat.add_mul,Nat.mul_assoc,Nat.mul_comm 256 (256^s),Nat.mul_comm (x/256^s),Nat.add_assoc]
   _=n*(256^s*256)+x:=by rw[this]
def uF(m:lO):List dA:=
 be 1 m.kind.toNat++
 if m.kind=1 then be 2 m.pos.toNat++be 2 m.LC.toNat
 else if m.kind=2\/m.kind=9 then be 2 m.pos.toNat
 else if m.kind=5 then be 5 m.lX.toNat++be 2 m.cH.length++m.cH.flatMap (λe=>be 2 e.toNat)
 else if m.kind=7 then be 1 m.eZ.cls.toNat++be 2 (m.eZ.jB+1).toNat++be 5 m.eZ.rZ.toNat++be 5 m.eZ.left.toNat
 else []
def u16(x:Int):Prop:=0<=x/\x<65536
def u32(x:Int):Prop:=0<=x/\x<4294967296
def u40(x:Int):Prop:=0<=x/\x<1099511627776
structure uO(m:lO):Prop where
 kind:1<=m.kind/\m.kind<=9
 pos:if m.kind=1\/m.kind=2\/m.kind=9 then u16 m.pos else m.pos=0
 LC:if m.kind=1 then u16 m.LC else m.LC=0
 cH:if m.kind=5 then m.cH.length<=512/\∀e∈m.cH,u16 e else m.cH=[]
 lX:if m.kind=5 then u40 m.lX else m.lX=0
 eZ:if m.kind=7 then(0<=m.eZ.cls/\m.eZ.cls<256)/\u16 (m.eZ.jB+1)/\u40 m.eZ.rZ/\u40 m.eZ.left else m.eZ=⟨0,0,0,0⟩
structure gA where
 aP:Int
 kind:Int
 seq:Int
 LI:Int
 code:Int
 body:List dA
structure WfG(g:gA):Prop where
 kind:g.kind=1\/g.kind=2\/g.kind=3
 aP:u32 g.aP
 seq:if g.kind=1 then u32 g.seq else g.seq=0
 LI:if g.kind=3 then g.LI=0 else u32 g.LI
 code:if g.kind=3 then 0<=g.code/\g.code<256 else g.code=0
 body:if g.kind=1 then g.body.length<=1900 else g.body=[]
def mR(g:gA):List dA:=
 be 4 g.aP.toNat++if g.kind=1 then be 4 g.seq.toNat++be 4 g.LI.toNat++g.body else if g.kind=2 then be 4 g.LI.toNat else be 1 g.code.toNat
def fQ(kind:Int)(b:List dA):List dA:=be 1 77++be 1 3++be 1 kind.toNat++be 2 b.length++b
def wJ(kind:Int)(b:List dA):List dA:=fQ kind b++be 4 (xS (fQ kind b)).toNat
def Ap(g:gA):List dA:=wJ g.kind (mR g)
section
def Vi(w:aH)(S:BS)(B:As)(R:As->As):Prop:=∃S1,B w S1/\(∀k,S1 k->S k)/\∀B' D M w' AW,aW M w w'->(∀k,M k->S1 k\/¬S k)->(∀k,AW k->S1 k\/¬S k)->aZ B' D w' AW->∃S',aZ (R B') D w' S'/\∀k,S' k->(S k/\¬S1 k)\/AW k
section
variable{A B C L:As}{w:aH}{S:BS}{R R':As->As}
theorem aZ.lG[bF B](h:aZ A B w S):Vi w S A λX=>aZ X B:=by
 obtain⟨S1,S2,h1,h2,d,e⟩:=h;refine⟨S1,h1,λk hk=>(e k).2 (.inl hk),λA' D M w' T m hM hT' hT=>?_⟩;obtain⟨T1,T2,a,b,d',e'⟩:=hT;have n2:∀k,S1 k\/¬S k->¬S2 k:=λk hk h=>hk.elim (λh1=>d k h1 h) λhn=>hn ((e k).2 (.inr h));have dd:∀k,T k->¬S2 k:=λk hk=>n2 k (hT' k hk);refine⟨λk=>(T1 k\/S2 k)\/T2 k,⟨λk=>T1 k\/S2 k,T2,⟨T1,S2,a,bF.aK h2 m λk hk lD=>n2 k (hM k lD) hk,λk h1 h2=>dd k ((e' k).2 (.inl h1)) h2,λ_=>Iff.rfl⟩,b,λk h1 h2=>h1.elim (λh=>d' k h h2) λh=>dd k ((e' k).2 (.inr h2)) h,λ_=>Iff.rfl⟩,λk hk=>?_⟩;rcases hk with(hk|hk)|hk
 ·exact .inr ((e' k).2 (.inl hk))
 ·exact .inl ⟨(e k).2 (.inr hk),λh=>d k h hk⟩
 ·exact .inr ((e' k).2 (.inr hk))
theorem aZ.rG[bF A](h:aZ A B w S):Vi w S B λX=>aZ A X:=by
 obtain⟨S1,h1,hs,dN⟩:=aZ.lG h.cm;refine⟨S1,h1,hs,λB' D M w' T m hM hT' hT=>?_⟩;obtain⟨S',h',u'⟩:=dN B' D M w' T m hM hT' hT;exact⟨S',h'.mono (λ_ h=>h.cm) λ_ h=>h,u'⟩
theorem Vi.c(f:Vi w S B R)(g:∀T,B w T->Vi w T C R'):Vi w S C λX=>R (R' X):=by
 obtain⟨S1,h1,hs,dN⟩:=f;obtain⟨S2,h2,FP,GP⟩:=g S1 h1;refine⟨S2,h2,λk hk=>hs k (FP k hk),λB' D M w' T m hM hT' hT=>?_⟩;obtain⟨T',h',u'⟩:=GP B' D M w' T m (λk hk=>(hM k hk).imp id λh h1=>h (hs k h1)) (λk hk=>(hT' k hk).imp id λh h1=>h (hs k h1)) hT;obtain⟨T2,h3,u3⟩:=dN _ D M w' T' m (λk hk=>(hM k hk).imp (FP k) id) (λk hk=>(u' k hk).elim (λh=>.inl h.1) λh=>(hT' k h).imp (FP k) id) h';refine⟨T2,h3,λk hk=>?_⟩;rcases u3 k hk with h|h
 ·exact .inl ⟨h.1,λh2=>h.2 (FP k h2)⟩
 ·rcases u' k h with h|h
  ·exact .inl ⟨hs k h.1,h.2⟩
  ·exact .inr h
end
theorem vZ.atG{α:Type}{f:α->As}[h:∀x,bF (f x)]:∀{l:List α} {i:Nat} {x:α} {w:aH} {S:BS},vZ f l w S->l[i]? =some x->Vi w S (f x) λX=>Av f X l i
 |y::r,0,x,w,S,hA,hx=>by cases hx;exact aZ.lG hA
 |y::r,i+1,x,w,S,hA,hx=>Vi.c (aZ.rG hA) λT hT=>vZ.atG (l:=r) (i:=i) hT (by simpa using hx)
end
end Go.Den
namespace Go.Den
open Go Go.MapKept
section
def yP(a:Nat):Value:=.pointer (some ⟨a,0,none⟩)
def yY(w:aH)(k:Nat):Prop:=∃cs e,w.heap[k]? =some (.cells cs e (0,0))
theorem cW.Ra{w:aH}{g:Nat}{e:TypeId}{cs:List Value}(h:cW w g e cs):yY w g:=⟨_,_,h⟩
structure yn(P:Program)(kt:TypeId):Prop where
 ex:∃te n,P.underlying kt=some (.pointer te)/\(P.info? te).map (·.size)=some n/\n≠0
theorem zp(x:Nat):Instr.sameBits 10000 (yP x) (yP x)=true:=by simp[Instr.sameBits,yP]
section
variable{P:Program}{kt:TypeId}
theorem OP(hp:yn P kt)(e:Bool)(x:Nat)(w:aH):(Instr.checkKey e 10000 kt (yP x)).run P w=.ok () w:=by
 obtain⟨te,n,h1,_⟩:=hp.ex;unfold Instr.checkKey;simp[run_underlying h1,yP]
theorem qp(hp:yn P kt)(w:aH)(x:Nat)(hx:yY w x)(l:List MapEntry)(ks:List Nat)(hks:∀k∈ks,yY w k)(h:l.map (·.key)=ks.map yP):
  (x∉ks/\(Instr.findKey kt (yP x) l).run P w=.ok none w)\/∃j e,ks[j]? =some x/\l[j]? =some e/\(Instr.findKey kt (yP x) l).run P w=.ok (some (j,e.val)) w:=by
 obtain⟨te,n,hd,hte,hn⟩:=hp.ex;have LG:∀w,(sizeOf te).run P w=.ok n w:=λw=>by
  cases hq:P.info? te with
  |none=>rw[hq] at hte;cases hte
  |some i=>rw[hq] at hte;simp at hte;rw[yE hq w,hte]
 have heq:∀q,yY w q->(Op.equal kt (yP x) (yP q)).run P w=.ok (decide (x=q)) w:=λq hq=>by
  unfold Op.equal Op.maxDepth Op.equalIn yP;simp only[Sem.run_bind,run_underlying hd,LG,Result.andThen_ok]
  by_cases hxq:x=q
  ·subst hxq
   simp[hn,run_sameAddr_same]
  ·obtain⟨c1,e1,g1⟩:=hx
   obtain⟨c2,e2,g2⟩:=hq;have gF:(⟨x,0,none⟩:Addr)≠⟨q,0,none⟩:=λh=>hxq (by injection h);simp[hn,run_sameAddr_other w gF g1 g2,hxq]
 have ask:∀(l:List MapEntry) (ks:List Nat) (i:Nat),(∀k∈ks,yY w k)->l.map (·.key)=ks.map yP->
   (x∉ks/\(Instr.findAsking kt (yP x) l i).run P w=.ok none w)\/∃j e,ks[j]? =some x/\l[j]? =some e/\(Instr.findAsking kt (yP x) l i).run P w=.ok (some (i+j,e.val)) w:=by
  intro l
  induction l with
  |nil=>intro ks i _ h;cases ks with
   |nil=>exact .inl ⟨by simp,by simp[Instr.findAsking]⟩
   |cons=>simp at h
  |cons en l ih=>
   intro ks i hc h;cases ks with
   |nil=>simp at h
   |cons q ks=>
    simp only[List.map_cons,List.cons.injEq] at h;have h0:=heq q (hc q dL);rw[<-h.1] at h0
    by_cases hq:x=q
    ·refine .inr ⟨0,en,by simp[hq],rfl,?_⟩
     rw[hq] at h0;simp[Instr.findAsking,h0,hq]
    ·have pY:(Instr.findAsking kt (yP x) (en::l) i).run P w=(Instr.findAsking kt (yP x) l (i+1)).run P w:=by
      simp[Instr.findAsking,h0,hq]
     rcases ih ks (i+1) (λk hk=>hc k (by simp[hk])) h.2 with⟨h1,h2⟩|⟨j,e',h1,h2,h3⟩
     ·exact .inl ⟨by simp[hq,h1],by rw[pY];exact h2⟩
     ·exact .inr ⟨j+1,e',by simpa using h1,by simpa using h2,by rw[pY,h3,show i+1+j=i+(j+1) by omega]⟩
 have key:(Instr.findKey kt (yP x) l).run P w=(Instr.findAsking kt (yP x) l 0).run P w:=by
  unfold Instr.findKey;cases l with
  |nil=>simp[run_underlying hd,Instr.findNow,Instr.findAsking]
  |cons en l=>
   have:Instr.findNow (.pointer te) (yP x) (en::l) 0=none:=by simp[Instr.findNow,Instr.sameNow,yP]
   simp[run_underlying hd,this]
 rw[key];simpa using ask l ks 0 hks h
end
section
variable{P:Program}{w:aH}{r:Nat}{kn:nP}{f:Nat->Option kn.T}{n:Nat}
theorem jP.qp{kt:TypeId}(hp:yn P kt)(h:jP w r yP kn f n)(x:Nat)(w':aH)(hc:∀k,(f k).isSome=true->yY w' k)(hx:yY w' x):∃(es:Array MapEntry) (DT:Nat) (l:List (Nat×kn.T)),w.heap[r]? =some (.map es DT)/\es.toList.map (·.key)=l.map (λp=>yP p.1)/\es.toList.map (·.val)=l.map (λp=>kn.aY p.2)/\(l.map (·.1)).Nodup/\(∀x,f x=wG l x)/\l.length=n/\PX es DT/\
  ((x∉l.map (·.1)/\f x=none/\(Instr.findKey kt (yP x) es.toList).run P w'=.ok none w')\/∃j v,f x=some v/\l[j]? =some (x,v)/\j<es.size/\(es.toList[j]?).map (·.key)=some (yP x)/\(Instr.findKey kt (yP x) es.toList).run P w'=.ok (some (j,kn.aY v)) w'):=by
 obtain⟨es,c,l,h1,h2,h3,h4,h5,h6,hB⟩:=h;refine⟨es,c,l,h1,h2,h3,h4,h5,h6,hB,?_⟩;rcases Go.Den.qp hp w' x hx es.toList (l.map (·.1)) (λk hk=>hc k (by rw[h5,GU];exact hk)) (by rw[h2,List.map_map];rfl) with⟨g1,g2⟩|⟨j,e,g1,g2,g3⟩
 ·exact .inl ⟨g1,by rw[h5,HG g1],g2⟩
 ·right
  rw[mG] at g1;cases hj:l[j]? with
  |none=>rw[hj] at g1;cases g1
  |some p=>
   rw[hj] at g1;have hp:p.1=x:=by simpa using g1
   obtain⟨y,v⟩:=p;simp only at hp;subst hp;have hv:e.val=kn.aY v:=by
    have:(es.toList.map (·.val))[j]? =some e.val:=by rw[mG,g2];rfl
    rw[h3,mG,hj] at this;simpa using this.symm
   have tF:(es.toList[j]?).map (·.key)=some (yP y):=by
    have:(es.toList.map (·.key))[j]? =some (yP y):=by rw[h2,mG,hj];rfl
    rwa[mG] at this
   refine⟨j,v,by rw[h5,ZE h4 hj],hj,by simpa using(kU.1 g2).1,tF,by rw[<-hv];exact g3⟩
theorem zx{kt et:TypeId}{t:TypeId}(ht:P.underlying t=some (.map kt et))(hp:yn P kt){z:kn.T}(hz:(P.info? et).map (·.zero)=some (some (kn.aY z)))(h:jP w r yP kn f n)(x:Nat)(hc:∀k,(f k).isSome=true->yY w k)(hx:yY w x){Q:kn.T->aH->Prop}
  (hQ:Q ((f x).getD z) w):jY P kn t (.map (some r)) (yP x) w Q:=by
 obtain⟨es,c,l,h1,h2,h3,h4,h5,h6,hB,hf⟩:=h.qp hp x w hc hx;have hzv:(zeroValue et).run P w=.ok (kn.aY z) w:=by
  cases hq:P.info? et with
  |none=>rw[hq] at hz;cases hz
  |some i=>rw[hq] at hz;simp at hz;simp[zeroValue,typeInfo,hq,hz]
 rcases hf with⟨_,g,pY⟩|⟨j,v,g,_,_,_,pY⟩
 ·rw[g] at hQ
  exact⟨z,w,by simp[Instr.lookup,run_underlying ht,MapKept.run_getObj_map h1,OP hp,pY,hzv],hQ⟩
 ·rw[g] at hQ
  exact⟨v,w,by simp[Instr.lookup,run_underlying ht,MapKept.run_getObj_map h1,OP hp,pY],hQ⟩
theorem update_p{kt et:TypeId}{t:TypeId}(ht:P.underlying t=some (.map kt et))(hp:yn P kt)(h:jP w r yP kn f n)(x:Nat)(v:kn.T)(hc:∀k,(f k).isSome=true->yY w k)(hx:yY w x){Q:aH->Prop}
  (hQ:∀w',jP w' r yP kn (λy=>if y=x then some v else f y) (if(f x).isSome then n else n+1)->aW (λk=>k=r) w w'->w'.heap.size=w.heap.size->Q w'):fF P t (.map (some r)) (yP x) (kn.aY v) w Q:=by
 obtain⟨es,c,l,h1,h2,h3,h4,h5,h6,hB,hf⟩:=h.qp hp x w hc hx;rcases hf with⟨Dd,g,pY⟩|⟨j,u,g,hj,hjs,tF,pY⟩
 ·refine⟨{w with heap:=w.heap.setIfInBounds r (.map (es.push {key:=yP x,val:=kn.aY v,born:=c}) (c+1))},by simp[Instr.mapUpdate,run_underlying ht,MapKept.run_getObj_map h1,OP hp,pY,run_setObj_map _ h1],hQ _ ?_ (kR w r _) dL⟩
  refine⟨_,_,l++[(x,v)],(heap_set h1).1,by simp[h2],by simp[h3],?_,λy=>?_,by rw[g];simp[h6],hB.push _ _⟩
  ·rw[yS,List.nodup_append]
   exact⟨h4,by simp,λa ha b hb=>by simp at hb;subst hb;exactλe=>Dd (e▸ha)⟩
  ·show(if y=x then some v else f y)=_
   rw[EA Dd y,h5]
 ·obtain⟨e,he⟩:∃e,es.toList[j]? =some e:=⟨_,gS (by simpa using hjs)⟩
  have hek:e.key=yP x:=by rw[he] at tF;simpa using tF
  have hea:es[j]? =some e:=by simpa using he
  refine⟨{w with heap:=w.heap.setIfInBounds r (.map (es.modify j λe=>{e with key:=yP x,val:=kn.aY v}) c)},by simp[Instr.mapUpdate,run_underlying ht,MapKept.run_getObj_map h1,OP hp,pY,run_setObj_map _ h1,Instr.keyThatStays,hea,hek,zp],hQ _ ?_ (kR w r _) dL⟩;refine⟨_,_,l.set j (x,v),(heap_set h1).1,?_,?_,?_,λy=>?_,by rw[g];simp[h6],hB.modify j (λe=>{e with key:=yP x,val:=kn.aY v}) λ_=>rfl⟩
  ·rw[NV es j _ _ tF,h2]
   apply AZ;intro i;simp only[mG,vT]
   by_cases hi:j=i
   ·subst hi
    have cJ:=(kU.1 hj).1;rw[hj];simp[cJ]
   ·simp[hi]
  ·rw[NU,h3,List.map_set]
  ·have:(l.set j (x,v)).map (·.1)=l.map (·.1):=by
    apply AZ;intro i;simp only[mG,vT]
    by_cases hi:j=i
    ·subst hi
     have cJ:=(kU.1 hj).1;rw[hj];simp[cJ]
    ·simp[hi]
   rw[this];exact h4
  ·show(if y=x then some v else f y)=_
   rw[WG h4 (by rw[hj];rfl) y,h5]
theorem aAn{K:Type}[DecidableEq K]{ek:K->Value}{f:K->Option kn.T}{t k e:TypeId}(ht:P.underlying t=some (.map k e))(h:jP w r ek kn f n){Q:aH->Prop}
  (hQ:∀w',jP w' r ek kn (λ_=>none) 0->aW (λk=>k=r) w w'->w'.heap.size=w.heap.size->Q w'):BX P t (.map (some r)) w Q:=by
 obtain⟨es,c,l,h1,_⟩:=h;refine⟨(),{w with heap:=w.heap.setIfInBounds r (.map #[] c)},?_,hQ _ ⟨#[],c,[],(heap_set h1).1,rfl,rfl,List.nodup_nil,λ_=>rfl,rfl,by simp,List.nodup_nil⟩ (kR w r _) dL⟩;simp[Builtin.clear_,run_underlying ht,MapKept.run_getObj_map h1,run_setObj_map _ h1,yU]
end
end
end Go.Den
namespace Go.Den
open Go
section
set_option linter.unusedSectionVars false
def gE{ι:Type}(A:ι->As):As:=λw S=>∃gN:Nat->Option ι,(∀i,A i w (λk=>gN k=some i))/\∀k,S k↔∃i,gN k=some i
instance gE.loc{ι:Type}{A:ι->As}[h:∀i,bF (A i)]:bF (gE A):=⟨
 λ⟨gN,ha,e⟩ k hk=>by obtain⟨i,hi⟩:=(e k).1 hk;exact(h i).gH (ha i) k hi,
 λ⟨gN,ha,e⟩ m hn=>⟨gN,λi=>(h i).aK (ha i) m λk hk=>hn k ((e k).2 ⟨i,hk⟩),e⟩⟩
theorem As.ext{A:As}{w:aH}{S T:BS}(h:A w S)(e:∀k,S k↔T k):A w T:=by
 have:S=T:=funext λk=>propext (e k);rwa[<-this]
section
variable{ι:Type}[DecidableEq ι]{A:ι->As}{w:aH}{S:BS}
abbrev ES(A:ι->As)(i:ι)(X:As):ι->As:=λj=>if j=i then X else A j
omit [DecidableEq ι] in
theorem gE.get(h:gE A w S)(i:ι):∃S1,A i w S1/\∀k,S1 k->S k:=by
 obtain⟨gN,ha,e⟩:=h;exact⟨_,ha i,λk hk=>(e k).2 ⟨i,hk⟩⟩
theorem gE.at2[hl:∀i,bF (A i)](h:gE A w S){i j:ι}(RN:i≠j):∃S1,aZ (A i) (A j) w S1/\(∀k,S1 k->S k)/\∀B C D w' T,Up S1 T w w'->aZ (aZ B C) D w' T->∃S',aZ (gE (ES (ES A i B) j C)) D w' S'/\Up S S' w w':=by
 have hb:=bF.gH h;obtain⟨gN,ha,e⟩:=h;refine⟨λk=>gN k=some i\/gN k=some j,aZ.vR (ha i) (ha j) λk h1 h2=>RN (uQ (h1.symm.trans h2)),λk hk=>(e k).2 (hk.elim (λh=>⟨_,h⟩) λh=>⟨_,h⟩),λB C D w' T u hT=>?_⟩;obtain⟨TX,TD,⟨TB,TC,hB,hC,dBC,eBC⟩,hD,dXD,eXD⟩:=hT;have hs:∀k,T k->(gN k=some i\/gN k=some j)\/w.heap.size<=k:=u.s;have IP:∀k,gN k≠none->k<w.heap.size:=λk hk=>by
  cases ho:gN k with
  |none=>exact absurd ho hk
  |some x=>exact hb k ((e k).2 ⟨x,ho⟩)
 let qG:Nat->Option ι:=λk=>@ite _ (TB k) (Classical.propDecidable _) (some i) (@ite _ (TC k) (Classical.propDecidable _) (some j) (if gN k=some i\/gN k=some j then none else gN k))
 have oB:∀k,TB k->qG k=some i:=λk hk=>by simp only[qG];rw[if_pos hk]
 have oC:∀k,TC k->qG k=some j:=λk hk=>by simp only[qG];rw[if_neg λh=>dBC k h hk,if_pos hk]
 have oN:∀k,¬TB k->¬TC k->qG k=if gN k=some i\/gN k=some j then none else gN k:=λk h1 h2=>by simp only[qG];rw[if_neg h1,if_neg h2]
 have inv:∀k x,qG k=some x->(x=i/\TB k)\/(x=j/\TC k)\/(x≠i/\x≠j/\gN k=some x/\¬TB k/\¬TC k):=λk x hx=>by
  by_cases h1:TB k
  ·rw[oB k h1] at hx;cases hx;exact .inl ⟨rfl,h1⟩
  ·by_cases h2:TC k
   ·rw[oC k h2] at hx;cases hx;exact .inr (.inl ⟨rfl,h2⟩)
   ·rw[oN k h1 h2] at hx
    split at hx
    ·cases hx
    ·rename_i hn
     exact .inr (.inr ⟨λe=>hn (.inl (e▸hx)),λe=>hn (.inr (e▸hx)),hx,h1,h2⟩)
 have old:∀k x,gN k=some x->x≠i->x≠j->¬T k:=λk x hx h1 h2 hT=>by
  rcases hs k hT with(h|h)|h
  ·exact h1 (uQ (hx.symm.trans h))
  ·exact h2 (uQ (hx.symm.trans h))
  ·have:=IP k (by rw[hx];simp);omega
 have TT:∀k,TB k\/TC k->T k:=λk hk=>(eXD k).2 (.inl ((eBC k).2 hk));refine⟨λk=>(∃x,qG k=some x)\/TD k,⟨λk=>∃x,qG k=some x,TD,⟨qG,λx=>?_,λ_=>Iff.rfl⟩,hD,λk ⟨x,hx⟩ hd=>?_,λ_=>Iff.rfl⟩,u.m.mono λk _ hk=>(e k).2 (hk.elim (λh=>⟨_,h⟩) λh=>⟨_,h⟩),λk hk=>?_⟩
 ·by_cases hj:x=j
  ·subst hj
   simp only[ES,if_pos];exact As.ext hC λk=>⟨oC k,λhx=>by
    rcases inv k _ hx with⟨h,_⟩|⟨_,h⟩|⟨_,h,_⟩
    ·exact absurd h.symm RN
    ·exact h
    ·exact absurd rfl h⟩
  ·by_cases hi:x=i
   ·subst hi
    simp only[ES,if_neg hj,if_pos];exact As.ext hB λk=>⟨oB k,λhx=>by
     rcases inv k _ hx with⟨_,h⟩|⟨h,_⟩|⟨h,_⟩
     ·exact h
     ·exact absurd h RN
     ·exact absurd rfl h⟩
   ·simp only[ES,if_neg hj,if_neg hi]
    have h0:=(hl x).aK (ha x) u.m λk hk lD=>by
     rcases lD with h|h
     ·exact hi (uQ (hk.symm.trans h))
     ·exact hj (uQ (hk.symm.trans h))
    refine As.ext h0 λk=>⟨λhx=>?_,λhx=>?_⟩
    ·have hT:=old k x hx hi hj
     rw[oN k (λh=>hT (TT k (.inl h))) (λh=>hT (TT k (.inr h))),if_neg,hx];rintro(h|h)
     ·exact hi (uQ (hx.symm.trans h))
     ·exact hj (uQ (hx.symm.trans h))
    ·rcases inv k x hx with⟨h,_⟩|⟨h,_⟩|⟨_,_,h,_⟩
     ·exact absurd h hi
     ·exact absurd h hj
     ·exact h
 ·rcases inv k x hx with⟨_,h⟩|⟨_,h⟩|⟨h1,h2,h3,_⟩
  ·exact dXD k ((eBC k).2 (.inl h)) hd
  ·exact dXD k ((eBC k).2 (.inr h)) hd
  ·exact old k x h3 h1 h2 ((eXD k).2 (.inr hd))
 ·have toS:T k->S k\/w.heap.size<=k:=λhT=>(hs k hT).imp (λh=>(e k).2 (h.elim (λh=>⟨_,h⟩) λh=>⟨_,h⟩)) id
  rcases hk with⟨x,hx⟩|hk
  ·rcases inv k x hx with⟨_,h⟩|⟨_,h⟩|⟨_,_,h,_⟩
   ·exact toS (TT k (.inl h))
   ·exact toS (TT k (.inr h))
   ·exact .inl ((e k).2 ⟨x,h⟩)
  ·exact toS ((eXD k).2 (.inr hk))
theorem gE.at2X[hl:∀i,bF (A i)](h:gE A w S){i j:ι}(RN:i≠j):∃S1,aZ (A i) (A j) w S1/\(∀k,S1 k->S k)/\∀B C M w' T,aW M w w'->(∀k,M k->S1 k\/¬S k)->(∀k,T k->S1 k\/¬S k)->aZ B C w' T->∃S',gE (ES (ES A i B) j C) w' S'/\∀k,S' k↔(S k/\¬S1 k)\/T k:=by
 obtain⟨gN,ha,e⟩:=h;refine⟨λk=>gN k=some i\/gN k=some j,aZ.vR (ha i) (ha j) λk h1 h2=>RN (uQ (h1.symm.trans h2)),λk hk=>(e k).2 (hk.elim (λh=>⟨_,h⟩) λh=>⟨_,h⟩),λB C M w' T m hM hT' hT=>?_⟩;obtain⟨TB,TC,hB,hC,dBC,eBC⟩:=hT
 let qG:Nat->Option ι:=λk=>@ite _ (TB k) (Classical.propDecidable _) (some i) (@ite _ (TC k) (Classical.propDecidable _) (some j) (if gN k=some i\/gN k=some j then none else gN k))
 have oB:∀k,TB k->qG k=some i:=λk hk=>by simp only[qG];rw[if_pos hk]
 have oC:∀k,TC k->qG k=some j:=λk hk=>by simp only[qG];rw[if_neg λh=>dBC k h hk,if_pos hk]
 have oN:∀k,¬TB k->¬TC k->qG k=if gN k=some i\/gN k=some j then none else gN k:=λk h1 h2=>by simp only[qG];rw[if_neg h1,if_neg h2]
 have inv:∀k x,qG k=some x->(x=i/\TB k)\/(x=j/\TC k)\/(x≠i/\x≠j/\gN k=some x/\¬TB k/\¬TC k):=λk x hx=>by
  by_cases h1:TB k
  ·rw[oB k h1] at hx;cases hx;exact .inl ⟨rfl,h1⟩
  ·by_cases h2:TC k
   ·rw[oC k h2] at hx;cases hx;exact .inr (.inl ⟨rfl,h2⟩)
   ·rw[oN k h1 h2] at hx
    split at hx
    ·cases hx
    ·rename_i hn
     exact .inr (.inr ⟨λe=>hn (.inl (e▸hx)),λe=>hn (.inr (e▸hx)),hx,h1,h2⟩)
 have old:∀k x,gN k=some x->x≠i->x≠j->¬((gN k=some i\/gN k=some j)\/¬S k):=λk x hx h1 h2 hT=>by
  rcases hT with(h|h)|h
  ·exact h1 (uQ (hx.symm.trans h))
  ·exact h2 (uQ (hx.symm.trans h))
  ·exact h ((e k).2 ⟨x,hx⟩)
 have TT:∀k,TB k\/TC k->T k:=λk hk=>(eBC k).2 hk;refine⟨λk=>∃x,qG k=some x,⟨qG,λx=>?_,λ_=>Iff.rfl⟩,λk=>⟨?_,?_⟩⟩
 ·by_cases hj:x=j
  ·subst hj
   simp only[ES,if_pos];exact As.ext hC λk=>⟨oC k,λhx=>by
    rcases inv k _ hx with⟨h,_⟩|⟨_,h⟩|⟨_,h,_⟩
    ·exact absurd h.symm RN
    ·exact h
    ·exact absurd rfl h⟩
  ·by_cases hi:x=i
   ·subst hi
    simp only[ES,if_neg hj,if_pos];exact As.ext hB λk=>⟨oB k,λhx=>by
     rcases inv k _ hx with⟨_,h⟩|⟨h,_⟩|⟨h,_⟩
     ·exact h
     ·exact absurd h RN
     ·exact absurd rfl h⟩
   ·simp only[ES,if_neg hj,if_neg hi]
    have h0:=(hl x).aK (ha x) m λk hk lD=>old k x hk hi hj (hM k lD);refine As.ext h0 λk=>⟨λhx=>?_,λhx=>?_⟩
    ·have hT:¬T k:=λht=>old k x hx hi hj (hT' k ht)
     rw[oN k (λh=>hT (TT k (.inl h))) (λh=>hT (TT k (.inr h))),if_neg,hx];rintro(h|h)
     ·exact hi (uQ (hx.symm.trans h))
     ·exact hj (uQ (hx.symm.trans h))
    ·rcases inv k x hx with⟨h,_⟩|⟨h,_⟩|⟨_,_,h,_⟩
     ·exact absurd h hi
     ·exact absurd h hj
     ·exact h
 ·rintro⟨x,hx⟩
  rcases inv k x hx with⟨_,h⟩|⟨_,h⟩|⟨h1,h2,h,_⟩
  ·exact .inr (TT k (.inl h))
  ·exact .inr (TT k (.inr h))
  ·exact .inl ⟨(e k).2 ⟨x,h⟩,λh'=>h'.elim (λh'=>h1 (uQ (h.symm.trans h'))) λh'=>h2 (uQ (h.symm.trans h'))⟩
 ·rintro(⟨h,hn⟩|h)
  ·obtain⟨x,hx⟩:=(e k).1 h
   by_cases h1:TB k
   ·exact⟨i,oB k h1⟩
   ·by_cases h2:TC k
    ·exact⟨j,oC k h2⟩
    ·exact⟨x,by rw[oN k h1 h2,if_neg hn];exact hx⟩
  ·rcases(eBC k).1 h with h|h
   ·exact⟨i,oB k h⟩
   ·exact⟨j,oC k h⟩
theorem gE.at[hl:∀i,bF (A i)](h:gE A w S)(i:ι):Us w S (A i) λX=>gE (ES A i X):=by
 have hb:=bF.gH h;obtain⟨gN,ha,e⟩:=h;refine⟨λk=>gN k=some i,ha i,λk hk=>(e k).2 ⟨_,hk⟩,λB D w' T u hT=>?_⟩;obtain⟨TB,TD,hB,hD,dBD,eBD⟩:=hT;have IP:∀k x,gN k=some x->k<w.heap.size:=λk x hk=>hb k ((e k).2 ⟨x,hk⟩)
 let qG:Nat->Option ι:=λk=>@ite _ (TB k) (Classical.propDecidable _) (some i) (if gN k=some i then none else gN k)
 have oB:∀k,TB k->qG k=some i:=λk hk=>by simp only[qG];rw[if_pos hk]
 have oN:∀k,¬TB k->qG k=if gN k=some i then none else gN k:=λk h1=>by simp only[qG];rw[if_neg h1]
 have inv:∀k x,qG k=some x->(x=i/\TB k)\/(x≠i/\gN k=some x/\¬TB k):=λk x hx=>by
  by_cases h1:TB k
  ·rw[oB k h1] at hx;cases hx;exact .inl ⟨rfl,h1⟩
  ·rw[oN k h1] at hx
   split at hx
   ·cases hx
   ·rename_i hn
    exact .inr ⟨λe=>hn (e▸hx),hx,h1⟩
 have old:∀k x,gN k=some x->x≠i->¬T k:=λk x hx h1 hT=>by
  rcases u.s k hT with h|h
  ·exact h1 (uQ (hx.symm.trans h))
  ·have:=IP k x hx;omega
 refine⟨λk=>(∃x,qG k=some x)\/TD k,⟨λk=>∃x,qG k=some x,TD,⟨qG,λx=>?_,λ_=>Iff.rfl⟩,hD,λk ⟨x,hx⟩ hd=>?_,λ_=>Iff.rfl⟩,u.m.mono λk _ hk=>(e k).2 ⟨_,hk⟩,λk hk=>?_⟩
 ·by_cases hi:x=i
  ·subst hi
   simp only[ES,if_pos];exact As.ext hB λk=>⟨oB k,λhx=>by
    rcases inv k _ hx with⟨_,h⟩|⟨h,_⟩
    ·exact h
    ·exact absurd rfl h⟩
  ·simp only[ES,if_neg hi]
   have h0:=(hl x).aK (ha x) u.m λk hk lD=>hi (uQ (hk.symm.trans lD));refine As.ext h0 λk=>⟨λhx=>?_,λhx=>?_⟩
   ·have hT:=old k x hx hi
    rw[oN k (λh=>hT ((eBD k).2 (.inl h))),if_neg,hx]
    exactλh=>hi (uQ (hx.symm.trans h))
   ·rcases inv k x hx with⟨h,_⟩|⟨_,h,_⟩
    ·exact absurd h hi
    ·exact h
 ·rcases inv k x hx with⟨_,h⟩|⟨h1,h3,_⟩
  ·exact dBD k h hd
  ·exact old k x h3 h1 ((eBD k).2 (.inr hd))
 ·have toS:T k->S k\/w.heap.size<=k:=λhT=>(u.s k hT).imp (λh=>(e k).2 ⟨_,h⟩) id
  rcases hk with⟨x,hx⟩|hk
  ·rcases inv k x hx with⟨_,h⟩|⟨_,h,_⟩
   ·exact toS ((eBD k).2 (.inl h))
   ·exact .inl ((e k).2 ⟨x,h⟩)
  ·exact toS ((eBD k).2 (.inr hk))
theorem gE.nil(w:aH):gE (λ_:ι=>DK) w (λ_=>False):=⟨λ_=>none,λi k hk=>(by cases hk),λk=>⟨False.elim,λ⟨i,hi⟩=>by cases hi⟩⟩
theorem gE.put{T:BS}{i:ι}{X:As}(h:gE A w S)(hi:A i=DK)(hX:X w T)(hd:∀k,S k->T k->False):gE (ES A i X) w (λk=>S k\/T k):=by
 obtain⟨gN,ha,e⟩:=h;have h0:∀k,gN k≠some i:=λk hk=>by have:=ha i;rw[hi] at this;exact this k hk
 let qG:Nat->Option ι:=λk=>@ite _ (T k) (Classical.propDecidable _) (some i) (gN k)
 have oT:∀k,T k->qG k=some i:=λk hk=>by simp only[qG];rw[if_pos hk]
 have oN:∀k,¬T k->qG k=gN k:=λk hk=>by simp only[qG];rw[if_neg hk]
 refine⟨qG,λx=>?_,λk=>⟨?_,?_⟩⟩
 ·by_cases hx:x=i
  ·subst hx
   simp only[ES,if_pos];exact As.ext hX λk=>⟨oT k,λh=>Classical.byContradiction λhn=>h0 k ((oN k hn).symm.trans h)⟩
  ·simp only[ES,if_neg hx]
   refine As.ext (ha x) λk=>⟨λh=>?_,λh=>?_⟩
   ·rw[oN k λhT=>hd k ((e k).2 ⟨x,h⟩) hT];exact h
   ·by_cases hT:T k
    ·rw[oT k hT] at h;exact absurd (uQ h).symm hx
    ·rw[oN k hT] at h;exact h
 ·rintro(h|h)
  ·obtain⟨x,hx⟩:=(e k).1 h
   exact⟨x,by rw[oN k λhT=>hd k h hT];exact hx⟩
  ·exact⟨i,oT k h⟩
 ·rintro⟨x,hx⟩
  by_cases hT:T k
  ·exact .inr hT
  ·exact .inl ((e k).2 ⟨x,by rw[<-oN k hT];exact hx⟩)
theorem gE.swap[hl:∀i,bF (A i)]{T:BS}(h:gE A w S)(i:ι){X:As}(hX:X w T)(hd:∀k,S k->T k->False):∃S',gE (ES A i X) w S'/\∀k,S' k->S k\/T k:=by
 obtain⟨gN,ha,e⟩:=h;have h0:gE (ES A i DK) w (λk=>∃j,(if gN k=some i then none else gN k)=some j):=by
  refine⟨λk=>if gN k=some i then none else gN k,λj=>?_,λk=>Iff.rfl⟩
  by_cases hj:j=i
  ·subst hj
   simp only[ES,if_pos];intro k hk
   split at hk
   ·cases hk
   ·exact absurd hk (by assumption)
  ·simp only[ES,if_neg hj]
   refine As.ext (ha j) λk=>⟨λh=>?_,λh=>?_⟩
   ·rw[if_neg (λh'=>hj (uQ (h.symm.trans h'))),h]
   ·split at h
    ·cases h
    ·exact h
 have yT:∀k,(∃j,(if gN k=some i then none else gN k)=some j)->S k:=λk ⟨j,hj⟩=>by
  split at hj
  ·cases hj
  ·exact(e k).2 ⟨j,hj⟩
 have h1:=gE.put h0 (i:=i) (by simp[ES]) hX λk h1 h2=>hd k (yT k h1) h2;have e1:ES (ES A i DK) i X=ES A i X:=by
  funext j
  by_cases hj:j=i<;>simp[ES,hj]
 rw[e1] at h1;exact⟨_,h1,λk hk=>hk.imp (yT k) id⟩
end
end
end Go.Den
