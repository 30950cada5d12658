import Derived.Laws.BytesArg
import Derived.Test.YtihggjgakbgomaaGreatA1
import Derived.Test.YtihggjgakbgomaaGreatF1
import Derived.Test.YtihggjgakbgomaaGreatQ1
import Derived.Test.YtihggjgakbgomaaGreatA2
import Derived.Test.YtihggjgakbgomaaGreatF2
set_option linter.defProp false
namespace Go.Proofs.YtihggjgakbgomaaGreat
open Go Go.Den
open Tryz (prog)
section
structure My where
 N:nI
 gl:Nat
 rs:Sl
def My.dI(H:My)(k:Nat):=k=H.gl\/H.N.dI k\/∃a,H.rs.b=some a/\k=a.block
structure pB(w:aH)(H:My)(n:Nat)(A:List bP)(R:cR):Prop where
 head:cX w H.gl tLev [.pointer (some ⟨H.N.g,0,none⟩),aW H.rs]
 ME:lP w H.N n A
 jK:dE w dA 1 eI H.rs R
 rlen:R.length=n
section
variable{w:aH}{H:My}{n:Nat}{A:List bP}{R:cR}
def pB.aK{F:Nat->Prop}{w':aH}(h:pB w H n A R)(m:aU F w w')(hF:∀k,H.dI k->¬F k):pB w' H n A R:=
 ⟨h.head.aK m (hF _ (.inl rfl)),h.ME.aK m λk hk=>hF k (.inr (.inl hk)),h.jK.aK m λa ha=>hF _ (.inr (.inr ⟨a,ha,rfl⟩)),h.rlen⟩
def pB.aO{w':aH}(h:pB w H n A R)(k:aL w w'):pB w' H n A R:=h.aK k λ_ _=>id
def pB.lt(h:pB w H n A R){k:Nat}(hk:H.dI k):k<w.heap.size:=by
 rcases hk with rfl|hk|⟨a,ha,rfl⟩
 ·exact h.head.lt
 ·exact h.ME.at_.lt hk
 ·exact h.jK.lt ha
def pB.c0(h:pB w H n A R):w.cell? ((⟨H.gl,0,none⟩:Addr).add 0)=some (.pointer (some ⟨H.N.g,0,none⟩)):=by rw[aS,h.head.cell];rfl
def pB.c1(h:pB w H n A R):w.cell? ((⟨H.gl,0,none⟩:Addr).add 1)=some (aW H.rs):=by rw[aS,h.head.cell];rfl
def Il{v:Int}{Q:Int->aH->Prop}(h:pB w H n A R)(hQ:Q (cC R v) w):vA (some ⟨H.gl,0,none⟩) v w Q:=by
 unfold vA;have sl:=h.jK.len;unfold cC at hQ;refine aF (λh=>by simp at h) (λ_=>?_);refine aI (λcD=>?_) (λh0=>?_)
 ·rw[if_neg aB] at hQ;exact hQ
 ·refine aA rfl (aE (k:=.slice) H.rs h.c1 ?_);refine aI (λkF=>?_) (λcD=>?_)
  ·have:¬(0<=v/\v<(R.length:Int)):=by
    omega
   rw[if_neg this] at hQ;exact hQ
  ·have HC:¬v>=(H.rs.l:Int):=cD;have vw:¬v<0:=h0;have cI:R[v.toNat]? =some (R.getD v.toNat 0):=by
    rw[MJ,cL (show v.toNat<R.length by omega)];rfl
   rw[if_pos ⟨aB,aB⟩] at hQ;obtain⟨p,hp,hc⟩:=bR (k:=.i) (e:=λx=>x) (h.jK.rd eY) cI;exact aA rfl (aE (k:=.slice) H.rs h.c1 ⟨⟨aB,aB⟩,aA hp (aE (k:=.i) _ hc hQ)⟩)
def Up_c1_i{b1 b2:Nat}{v:Int}{x:bP}{K:Value->aH->Prop}(h:pB w H n A R)(o1:cX w b1 131 [.pointer (some ⟨H.gl,0,none⟩)])(o2:cX w b2 dA [aD v])(hK:∀w',aL w w'->K (.bool (decide (cC R x.t<=cC R v))) w'):
  lX prog (.func (.func dt) #[] #[.pointer (some ⟨b1,0,none⟩),.pointer (some ⟨b2,0,none⟩)]) [Hd x] w K:=by
 refine pU sx iZ (first:=#[]) (gV (ks:=[.agg [.i,.i,.i,.i],.c .ptr,.c .ptr]) (t:=(nY x,some ⟨b1,0,none⟩,some ⟨b2,0,none⟩,())) ?_)
 show KV (nY x) (some ⟨b1,0,none⟩) (some ⟨b2,0,none⟩) w λr w'=>K (.bool r) w';unfold KV;refine bG λw1 oa k1 _=>?_;have d1:aL w1 w1.drew:=aU.drew (aU.refl _ w1);have k:=k1.tr d1;have h1:=h.aO k;have p1:=iK (o1.aK k id);have p2:=iK (o2.aK k id);have pa:=(qX (x:=x) (oa.aK d1 id)).2.1;refine aA rfl (aE (k:=.ptr) (some ⟨H.gl,0,none⟩) p1 (aE (k:=.i) x.t pa (aA rfl (aE (k:=.ptr) (some ⟨H.gl,0,none⟩) p1 (aA rfl (aE (k:=.i) v p2 ?_))))));exact Il h1 ⟨p2,p1,Il h1 (hK _ k)⟩
def Down_c1_i{b1 b2:Nat}{v:Int}{x:bP}{K:Value->aH->Prop}(h:pB w H n A R)(o1:cX w b1 131 [.pointer (some ⟨H.gl,0,none⟩)])(o2:cX w b2 dA [aD v])(hK:∀w',aL w w'->K (.bool (decide (cC R x.f<=cC R v))) w'):
  lX prog (.func (.func Nh) #[] #[.pointer (some ⟨b1,0,none⟩),.pointer (some ⟨b2,0,none⟩)]) [Hd x] w K:=by
 refine pU Vd iZ (first:=#[]) (gV (ks:=[.agg [.i,.i,.i,.i],.c .ptr,.c .ptr]) (t:=(nY x,some ⟨b1,0,none⟩,some ⟨b2,0,none⟩,())) ?_)
 show BE (nY x) (some ⟨b1,0,none⟩) (some ⟨b2,0,none⟩) w λr w'=>K (.bool r) w';unfold BE;refine bG λw1 oa k1 _=>?_;have d1:aL w1 w1.drew:=aU.drew (aU.refl _ w1);have k:=k1.tr d1;have h1:=h.aO k;have p1:=iK (o1.aK k id);have p2:=iK (o2.aK k id);have pa:=(qX (x:=x) (oa.aK d1 id)).1;refine aA rfl (aE (k:=.ptr) (some ⟨H.gl,0,none⟩) p1 (aE (k:=.i) x.f pa (aA rfl (aE (k:=.ptr) (some ⟨H.gl,0,none⟩) p1 (aA rfl (aE (k:=.i) v p2 ?_))))));exact Il h1 ⟨p2,p1,Il h1 (hK _ k)⟩
def Up_i{v:Int}{Q:Sl->aH->Prop}(h:pB w H n A R)(hQ:∀s w',dE w' iI 4 dY s (upL A R v)->aL w w'->(∀b,s.b=some b->w.heap.size<=b.block)->Q s w'):Fs (some ⟨H.gl,0,none⟩) v w Q:=by
 unfold Fs;refine bG λw1 o1 k1 z1=>bG λw2 o2 k2 z2=>?_;have QJ:=o1.aK k2 id;have k02:=k1.tr k2;have d2:aL w2 w2.drew:=aU.drew (aU.refl _ w2);have k0d:=k02.tr d2;have hd:=h.aO k0d;refine aE (k:=.ptr) (some ⟨H.gl,0,none⟩) (iK QJ) ?_;refine aF (λh=>by simp at h) (λ_=>?_);refine aE (k:=.ptr) (some ⟨H.gl,0,none⟩) (iK (QJ.aK d2 id)) (aA rfl (aE (k:=.ptr) (some ⟨H.N.g,0,none⟩) hd.c0 (aE (k:=.i) v (iK (o2.aK d2 id)) ?_)));have QK:=h.ME.sz;have hol:=h.ME.ok.wF v;refine Yq hd.ME λs3 w3 v3 k3 f3=>?_;have K3:=k0d.tr k3;have jk:∀a,s3.b=some a->w.heap.size<=a.block/\a.block≠w.heap.size/\a.block≠w1.heap.size:=λa ha=>by
  have:=f3 a ha;have e:w2.drew.heap.size=w2.heap.size:=rfl;omega
 have p1:=(QJ.aK d2 id).aK k3 id;have p2:=(o2.aK d2 id).aK k3 id;refine LB (p:=λx=>decide (cC R x.t<=cC R v)) (C:=λw'=>pB w' H n A R/\cX w' w.heap.size 131 [.pointer (some ⟨H.gl,0,none⟩)]/\cX w' w1.heap.size dA [aD v]) v3 aB ⟨h.aO K3,p1,p2⟩
  (λwa wb ⟨c1,c2,c3⟩ m=>⟨c1.aK m λk hk ⟨a,ha,e⟩=>by have:=(jk a ha).1;have:=h.lt hk;omega,c2.aK m λ⟨a,ha,e⟩=>(jk a ha).2.1 e.symm,c3.aK m λ⟨a,ha,e⟩=>(jk a ha).2.2 e.symm⟩)
  (λx wa K ⟨c1,c2,c3⟩ _ hK=>Up_c1_i c1 c2 c3 hK) λs4 w4 v4 m4 e4=>?_
 refine hQ s4 w4 ?_ (K3.fresh m4 λk ⟨a,ha,e⟩=>by rw[e];exact(jk a ha).1) λb hb=>(jk b (e4▸hb)).1;have:(eN A v).filter (λx=>!decide (cC R x.t<=cC R v))=upL A R v:=by
  unfold upL;refine ly3 λx _=>?_
  by_cases hh:cC R x.t<=cC R v
  ·simp[hh]
  ·simp[hh];omega
 rw[<-this];exact v4
def Down_i{v:Int}{Q:Sl->aH->Prop}(h:pB w H n A R)(hQ:∀s w',dE w' iI 4 dY s (EO A R v)->aL w w'->(∀b,s.b=some b->w.heap.size<=b.block)->Q s w'):IN (some ⟨H.gl,0,none⟩) v w Q:=by
 unfold IN;refine bG λw1 o1 k1 z1=>bG λw2 o2 k2 z2=>?_;have QJ:=o1.aK k2 id;have k02:=k1.tr k2;have d2:aL w2 w2.drew:=aU.drew (aU.refl _ w2);have k0d:=k02.tr d2;have hd:=h.aO k0d;refine aE (k:=.ptr) (some ⟨H.gl,0,none⟩) (iK QJ) ?_;refine aF (λh=>by simp at h) (λ_=>?_);refine aE (k:=.ptr) (some ⟨H.gl,0,none⟩) (iK (QJ.aK d2 id)) (aA rfl (aE (k:=.ptr) (some ⟨H.N.g,0,none⟩) hd.c0 (aE (k:=.i) v (iK (o2.aK d2 id)) ?_)));have QK:=h.ME.sz;have hol:=h.ME.ok.GB v;refine In_i hd.ME λs3 w3 v3 k3 f3=>?_;have K3:=k0d.tr k3;have jk:∀a,s3.b=some a->w.heap.size<=a.block/\a.block≠w.heap.size/\a.block≠w1.heap.size:=λa ha=>by
  have:=f3 a ha;have e:w2.drew.heap.size=w2.heap.size:=rfl;omega
 have p1:=(QJ.aK d2 id).aK k3 id;have p2:=(o2.aK d2 id).aK k3 id;refine LB (p:=λx=>decide (cC R x.f<=cC R v)) (C:=λw'=>pB w' H n A R/\cX w' w.heap.size 131 [.pointer (some ⟨H.gl,0,none⟩)]/\cX w' w1.heap.size dA [aD v]) v3 aB ⟨h.aO K3,p1,p2⟩
  (λwa wb ⟨c1,c2,c3⟩ m=>⟨c1.aK m λk hk ⟨a,ha,e⟩=>by have:=(jk a ha).1;have:=h.lt hk;omega,c2.aK m λ⟨a,ha,e⟩=>(jk a ha).2.1 e.symm,c3.aK m λ⟨a,ha,e⟩=>(jk a ha).2.2 e.symm⟩)
  (λx wa K ⟨c1,c2,c3⟩ _ hK=>Down_c1_i c1 c2 c3 hK) λs4 w4 v4 m4 e4=>?_
 refine hQ s4 w4 ?_ (K3.fresh m4 λk ⟨a,ha,e⟩=>by rw[e];exact(jk a ha).1) λb hb=>(jk b (e4▸hb)).1;have:(oL A v).filter (λx=>!decide (cC R x.f<=cC R v))=EO A R v:=by
  unfold EO;refine ly3 λx _=>?_
  by_cases hh:cC R x.f<=cC R v
  ·simp[hh]
  ·simp[hh];omega
 rw[<-this];exact v4
end
def Build_i{N:nI}{n:Nat}{L:List bP}{W:aH}{Q:cW->aH->Prop}(h:lP W N n L)(hn:n<=51)(hw:∀e∈L,e.w<=40)
  (hQ:∀w' H,pB w' H n (cZ n L n).all (cZ n L n).jK->aL W w'->(∀k,H.dI k->W.heap.size<=k)->Q (some ⟨H.gl,0,none⟩) w'):wS (some ⟨N.g,0,none⟩) W Q:=by
 unfold wS;have hL:=h.ok;have hLl:=hL.len h.sz;refine aF (λh=>by simp at h) (λ_=>?_);have d0:aL W W.drew:=aU.drew (aU.refl _ W);refine Copy_i (h.aO d0) aB λw1 C hC k1 fC=>?_;have K1:=d0.tr k1;refine RT (h.aO K1) ?_;refine wD VD (aY:=eB) false rfl Gw aB (lR _) aB aB λw3 v3 k3=>?_;simp only[dU] at v3 ⊢;have K3:=K1.tr k3;refine Copy_i (h.aO K3) aB λw4 A hA k4 fA=>?_;have K4:=K3.tr k4;refine RT (h.aO K4) ?_;refine wD iD (aY:=eI) (0:Int) rfl eY aB (lR _) aB aB λw6 v6 k6=>?_;simp only[dU] at v6 ⊢;have K6:=K4.tr k6;refine bG λw7 o7 k7 z7=>?_;have K7:=K6.tr k7;refine RT (h.aO K7) ?_;have c1:=hC.at_;have hC7:=(((hC.aO k3).aO k4).aO k6).aO k7;have hA7:=(hA.aO k6).aO k7;have v37:=((v3.aK k4 λ_ _=>id).aK k6 λ_ _=>id).aK k7 λ_ _=>id;have v67:=v6.aK k7 λ_ _=>id;have z13:w1.heap.size<w3.heap.size:=v3.lt rfl;have z46:w4.heap.size<w6.heap.size:=v6.lt rfl;have zW1:W.heap.size<=w1.heap.size:=K1.size;have z34:w3.heap.size<=w4.heap.size:=k4.size;have sepC:∀k,C.dI k->W.heap.size<=k/\k<w1.heap.size:=λk hk=>⟨fC k hk,hC.at_.lt hk⟩;have sepA:∀k,A.dI k->w3.heap.size<=k/\k<w4.heap.size:=λk hk=>⟨fA k hk,hA.at_.lt hk⟩;generalize wZ:(⟨some ⟨w1.heap.size,0,none⟩,n,n⟩:Sl)=s1 at*;generalize LU:(⟨some ⟨w4.heap.size,0,none⟩,n,n⟩:Sl)=s2 at*;have QI:s1.b=some ⟨w1.heap.size,0,none⟩:=by rw[<-wZ]
 have ik:s2.b=some ⟨w4.heap.size,0,none⟩:=by rw[<-LU]
 have s1l:s1.l=n:=by rw[<-wZ]
 have s2l:s2.l=n:=by rw[<-LU]
 generalize hg1:w1.heap.size=bg at*;generalize Bk:w4.heap.size=br at*;generalize hg3:w6.heap.size=bl at*;refine bK (λc t w9=>∃(k:Nat) (C' A':nI),k<=n/\c=n-k/\t=((k:Int),())/\lP w9 C' n (cZ n L k).left/\C'.g=C.g/\lP w9 A' n (cZ n L k).all/\A'.g=A.g/\dE w9 tK 1 eB s1 (cZ n L k).gone/\dE w9 dA 1 eI s2 (cZ n L k).jK/\
   cX w9 bl tLev [.pointer (some ⟨A.g,0,none⟩),aW s2]/\aL W w9/\(∀b,C'.dI b->W.heap.size<=b/\¬A'.dI b/\b≠bg/\b≠br/\b≠bl)/\(∀b,A'.dI b->W.heap.size<=b/\b≠bg/\b≠br/\b≠bl)/\w7.heap.size<=w9.heap.size) n
  ⟨0,C,A,cY _,rfl,rfl,hC7,rfl,hA7,rfl,v37,v67,by rw[<-LU];exact o7,K7,λb hb=>?_,λb hb=>?_,dN _⟩ ?_
 ·obtain⟨q1,q2⟩:=sepC b hb;exact⟨q1,λbW=>by have:=sepA b bW;omega,aB,aB,aB⟩
 ·obtain⟨q1,q2⟩:=sepA b hb;exact⟨aB,aB,aB,aB⟩
 rintro c t w9 ⟨k,C',A',hk,rfl,rfl,hC9,gC9,hA9,gA9,u1,u2,ol9,K9,fC9,fA9,z9⟩ X hX;dsimp only;have WG:=yM hL hw hn k hk;refine aI (λcD=>?_) (λkF=>?_)
 ·have lM:k<n:=aB;obtain⟨x0,x1,xg⟩:=CA WG lM;have vO:cZ n L (k+1)=pV n k (cZ n L k):=rfl;rw[<-gC9];refine First_i hC9 (u1.rd Gw) (by rw[WG.gl];omega) λfG JE=>?_;unfold pV at vO;generalize lJ n (cZ n L k).left (cZ n L k).gone=v at*;refine Cq (hC9.aO JE) λs3 eQ v11 LR f11=>?_;have lx:=JE.tr LR;have sl3:=v11.len;have hsb:=Pm WG.Gb h.sz v;have hC11:=hC9.aO lx;have hA11:=hA9.aO lx;have f11':∀b,s3.b=some b->¬C'.dI b.block/\¬A'.dI b.block/\b.block<eQ.heap.size:=λb hb=>by
   have h1:=f11 b hb;have h2:=JE.size;exact⟨λhh=>by have:=hC9.at_.lt hh;omega,λhh=>by have:=hA9.at_.lt hh;omega,v11.lt hb⟩
  refine bK (λc t eO=>∃(i:Nat) (C2 A2:nI),i<=(gC n (cZ n L k).left v).length/\c=(gC n (cZ n L k).left v).length-i/\t=((i:Int),())/\lP eO C2 n (iC n (cZ n L k).left ((gC n (cZ n L k).left v).take i))/\C2.g=C'.g/\lP eO A2 n (iC n (cZ n L k).all ((gC n (cZ n L k).left v).take i))/\A2.g=A'.g/\
    dE eO iI 4 dY s3 (gC n (cZ n L k).left v)/\dE eO tK 1 eB s1 (cZ n L k).gone/\dE eO dA 1 eI s2 (cZ n L k).jK/\cX eO bl tLev [.pointer (some ⟨A.g,0,none⟩),aW s2]/\aL W eO/\
    (∀b,C2.dI b->W.heap.size<=b/\¬A2.dI b/\b≠bg/\b≠br/\b≠bl/\∀a,s3.b=some a->b≠a.block)/\(∀b,A2.dI b->W.heap.size<=b/\b≠bg/\b≠br/\b≠bl/\∀a,s3.b=some a->b≠a.block)/\eQ.heap.size<=eO.heap.size) (gC n (cZ n L k).left v).length
   ⟨0,C',A',cY _,rfl,rfl,hC11,rfl,hA11,rfl,v11,u1.aK lx (λ_ _=>id),u2.aK lx (λ_ _=>id),ol9.aK lx id,K9.tr lx,λb hb=>?_,λb hb=>?_,dN _⟩ ?_
  ·obtain⟨q1,q2,q3,q4,q5⟩:=fC9 b hb;exact⟨q1,q2,q3,q4,q5,λa ha e=>(f11' a ha).1 (e▸hb)⟩
  ·obtain⟨q1,q3,q4,q5⟩:=fA9 b hb;exact⟨q1,q3,q4,q5,λa ha e=>(f11' a ha).2.1 (e▸hb)⟩
  rintro c t eO ⟨i,C2,A2,hi,rfl,rfl,hC12,gC12,hA12,gA12,Dc,Fw,r12,l12,wh,ZQ,Sr,z12⟩ Y hY;have zz9:w7.heap.size<=eO.heap.size:=by have:=lx.size;omega
  refine aI (λWE=>?_) (λXk=>?_)
  ·have hlt2':(i:Int)<(s3.l:Int):=WE;have dL:i<(gC n (cZ n L k).left v).length:=aB;obtain⟨p,hp,hh⟩:=wC (Dc.rd jS) (cL dL);have tkC:=OA n (cZ n L k).left ((gC n (cZ n L k).left v).take i) (gC n (cZ n L k).left v)[i];have tkA:=OA n (cZ n L k).all ((gC n (cZ n L k).left v).take i) (gC n (cZ n L k).left v)[i];rw[<-oH dL] at tkC tkA;generalize (gC n (cZ n L k).left v)[i]=x at*;show(0<=(i:Int)/\(i:Int)<(s3.l:Int))/\_;rw[dU];refine⟨⟨aB,hlt2'⟩,aA hp (aZ (nY x) hh ?_)⟩;simp only[aG];refine DI λmX Dh o14 zb14=>?_;refine aZ (nY x) (iW o14) ?_;have hC14:=hC12.aO Dh;have hA14:=hA12.aO Dh;have K14:=wh.tr Dh;have nbC:∀b,C2.dI b->b≠eO.heap.size:=λb hb e=>by have:=hC12.at_.lt hb;omega
   have nbA:∀b,A2.dI b->b≠eO.heap.size:=λb hb e=>by have:=hA12.at_.lt hb;omega
   have zW12:=wh.size;have slt:∀a,s3.b=some a->a.block<eO.heap.size:=λa ha=>Dc.lt ha;generalize kr:eO.heap.size=b3 at*;rw[<-gC12];refine Put_i hC14 λgB C3 hC15 gC15 Gd f15=>?_;have hA15:=hA14.aK Gd λb hb bW=>(ZQ b bW).2.1 hb;have o15:=o14.aK Gd λhb=>nbC b3 hb rfl;have v15:=(Dc.aK Dh λ_ _=>id).aK Gd λa ha hb=>(ZQ _ hb).2.2.2.2.2 a ha rfl;have u15:=(Fw.aK Dh λ_ _=>id).aK Gd λa ha hb=>by rw[QI] at ha;cases ha;exact(ZQ _ hb).2.2.1 rfl
   have r15:=(r12.aK Dh λ_ _=>id).aK Gd λa ha hb=>by rw[ik] at ha;cases ha;exact(ZQ _ hb).2.2.2.1 rfl
   have l15:=(l12.aK Dh id).aK Gd λhb=>(ZQ _ hb).2.2.2.2.1 rfl;have K15:aL W gB:=aU.fresh K14 Gd λb hb=>(ZQ b hb).1;have fC15:∀b,C3.dI b->W.heap.size<=b/\¬A2.dI b/\b≠bg/\b≠br/\b≠bl/\b≠b3/\∀a,s3.b=some a->b≠a.block:=λb hb=>by
    rcases f15 b hb with hb|hb
    ·obtain⟨q1,q2,q3,q4,q5,q6⟩:=ZQ b hb;exact⟨q1,q2,q3,q4,q5,nbC b hb,q6⟩
    ·have:=hA14.at_;exact⟨aB,λh'=>by have:=hA14.at_.lt h';omega,aB,aB,aB,aB,λa ha e=>by have:=slt a ha;omega⟩
   have d15:aL gB gB.drew:=aU.drew (aU.refl _ gB);have l15d:=l15.aK d15 id;refine aE (k:=.ptr) (some ⟨A.g,0,none⟩) (by rw[aS,l15d.cell];rfl) (aZ (nY x) (iW (o15.aK d15 id)) ?_);rw[<-gA9,<-gA12];refine Put_i (hA15.aO d15) λjU A3 hA16 gA16 m16 f16=>?_;have Gs:aU A2.dI gB jU:=d15.wk.tr m16;have hC16:=hC15.aK Gs λb hb bW=>(fC15 b hb).2.1 bW;have v16:=v15.aK Gs λa ha hb=>(Sr _ hb).2.2.2.2 a ha rfl;have u16:=u15.aK Gs λa ha hb=>by rw[QI] at ha;cases ha;exact(Sr _ hb).2.1 rfl
   have r16:=r15.aK Gs λa ha hb=>by rw[ik] at ha;cases ha;exact(Sr _ hb).2.2.1 rfl
   have l16:=l15.aK Gs λhb=>(Sr _ hb).2.2.2.1 rfl;have K16:aL W jU:=aU.fresh K15 Gs λb hb=>(Sr b hb).1;have z1516:gB.heap.size<=jU.heap.size:=Gs.size;have z1415:=Gd.size;rw[pI i aB];refine hY _ _ _ aB ⟨i+1,C3,A3,dL,rfl,rfl,by rw[tkC];exact hC16,by rw[gC15,gC12],by rw[tkA];exact hA16,by rw[gA16,gA12],v16,u16,r16,l16,K16,λb hb=>?_,λb hb=>?_,aB⟩
   ·obtain⟨q1,q2,q3,q4,q5,_,q6⟩:=fC15 b hb;refine⟨q1,λbW=>?_,q3,q4,q5,q6⟩;rcases f16 b bW with h'|h'
    ·exact q2 h'
    ·have h'':gB.heap.size<=b:=h';have:=hC15.at_.lt hb;omega
   ·rcases f16 b hb with h'|h'
    ·obtain⟨q1,q3,q4,q5,q6⟩:=Sr b h';exact⟨q1,q3,q4,q5,q6⟩
    ·have h'':gB.heap.size<=b:=h';exact⟨aB,aB,aB,aB,λa ha e=>by have:=slt a ha;omega⟩
  ·have hge2':¬(i:Int)<(s3.l:Int):=Xk;have ei:i=(gC n (cZ n L k).left v).length:=aB;subst ei;rw[oV] at hC12 hA12;rw[<-gC12];refine Cut_i hC12 λmG C3 hC17 gC17 m17 f17=>?_;have hA17:=hA12.aK m17 λb hb bW=>(ZQ b bW).2.1 hb;have u17:=Fw.aK m17 λa ha hb=>by rw[QI] at ha;cases ha;exact(ZQ _ hb).2.2.1 rfl
   have r17:=r12.aK m17 λa ha hb=>by rw[ik] at ha;cases ha;exact(ZQ _ hb).2.2.2.1 rfl
   have l17:=l12.aK m17 λhb=>(ZQ _ hb).2.2.2.2.1 rfl;have K17:aL W mG:=aU.fresh wh m17 λb hb=>(ZQ b hb).1;have zl:=WG.rl;have zg:=WG.gl;refine aE (k:=.slice) s2 (by rw[aS,l17.cell];rfl) ?_;refine⟨⟨x0,by rw[s2l];omega⟩,aA ik ?_⟩;refine r17.store eY ik (i:=v.toNat) aB (k:Int) (v:=aD (k:Int)) rfl cV (CI _) λqE r18 m18 _=>?_;have m18':aU (λb=>b=br) mG qE:=m18;have zbg:bg≠br:=aB;have uo:=u17.aK m18' λa ha e=>by rw[QI] at ha;cases ha;exact zbg e
   refine⟨⟨x0,by first|omega|(rw[s1l];omega)⟩,aA (by first|rfl|exact QI) ?_⟩
   refine uo.store Gw QI (i:=v.toNat) aB true (v:=.bool true) rfl jG (oneB true) λqS u19 m19 _=>?_;have LY:aU (λb=>b=bg) qE qS:=m19;have r19:=r18.aK LY λa ha e=>by rw[ik] at ha;cases ha;exact zbg (show bg=br from Eq.symm e)
   have fC17:∀b,C3.dI b->W.heap.size<=b/\¬A2.dI b/\b≠bg/\b≠br/\b≠bl:=λb hb=>by
    rcases f17 b hb with h'|h'
    ·obtain⟨q1,q2,q3,q4,q5,_⟩:=ZQ b h';exact⟨q1,q2,q3,q4,q5⟩
    ·exact⟨aB,λh''=>by have:=hA12.at_.lt h'';omega,aB,aB,aB⟩
   have hC19:=(hC17.aK m18' λb hb e=>(fC17 b hb).2.2.2.1 e).aK LY λb hb e=>(fC17 b hb).2.2.1 e;have hA19:=(hA17.aK m18' λb hb e=>(Sr b hb).2.2.1 e).aK LY λb hb e=>(Sr b hb).2.1 e;have l19:=(l17.aK m18' (show¬bl=br by omega)).aK LY (show¬bl=bg by omega);have K19:aL W qS:=(aU.fresh K17 m18' λb e=>aB).fresh LY λb e=>aB;have zz:w7.heap.size<=qS.heap.size:=by have:=m17.size;have:=m18.size;have:=m19.size;omega
   show X (aQ ((k:Int)+1),()) qS;rw[pI k aB];exact hX _ _ _ aB ⟨k+1,C3,A2,lM,rfl,rfl,by rw[vO];exact hC19,by rw[gC17,gC12,gC9],by rw[vO];exact hA19,by rw[gA12,gA9],by rw[vO];exact u19,by rw[vO];exact r19,l19,K19,fC17,λb hb=>by obtain⟨q1,q3,q4,q5,_⟩:=Sr b hb;exact⟨q1,q3,q4,q5⟩,zz⟩
 ·have e:k=n:=aB;subst e;refine hQ w9 ⟨A',bl,s2⟩ ⟨by rw[gA9];exact ol9,hA9,u2,WG.rl⟩ K9 λb hb=>?_;rcases hb with hb|hb|⟨a,ha,rfl⟩
  ·have bW:b=bl:=hb;omega
  ·exact(fA9 b hb).1
  ·rw[show(My.mk A' bl s2).rs=s2 from rfl,ik] at ha;cases ha;show W.heap.size<=br;omega
end
section
abbrev eP(p:Int×Int):gJ:=[aD p.1,aD p.2]
def WD:∀p:Int×Int,(eP p).length=2:=λ_=>rfl
def oneP:∀p:Int×Int,∀u∈eP p,u.oneCell'=true:=by intro p u hu;simp at hu;rcases hu with rfl|rfl<;>rfl
def dE.new{α:Type}{w:aH}{e:fL}{n:Nat}{aY:α->gJ}{g:Nat}(gI:∀x,(aY x).length=n)(xs:List α)(h:cX w g e (xs.flatMap aY))(hm:xs.length<=maxLen):dE w e n aY ⟨some ⟨g,0,none⟩,xs.length,xs.length⟩ xs:=
 ⟨rfl,dN _,hm,.inr ⟨g,[],rfl,by rw[rF];exact h,by rw[rF];exact bF gI xs⟩⟩
def IA{s:Sl}{xs:cR}{w:aH}{Q:Sl->aH->Prop}(hs:Rd w s 1 eI xs)(hb:xs.length<1099511627776)
  (hQ:∀s' w',dE w' dA 1 eI s' xs->aL w w'->(∀b,s'.b=some b->w.heap.size<=b.block)->Q s' w'):dK s w Q:=by
 unfold dK;refine aF (λh=>?_) (λh=>?_)
 ·have hn:xs=[]:=by
   cases xs with
   |nil=>rfl
   |cons x r=>obtain⟨a,ha,_⟩:=hs.get 0 x rfl;rw[ha] at h;cases h
  subst hn;exact hQ _ w (dE.nil _ _ _ _) (aU.refl _ _) (λb hb=>by cases hb)
 ·refine bG λw1 o1 k1 z1=>?_;have v0:dE w1 dA 1 eI ⟨some ⟨w.heap.size,0,none⟩,0,0⟩ []:=dE.new eY [] o1 dP;refine fH iD eY CI v0 (hs.aK k1 cU (λ_ _=>id)) (by simp;omega) (by simp;omega) λr w' hr hm Wa _=>?_;refine hQ r w' (by simpa using hr) (aU.fresh k1 hm λk ⟨a,ha,hk⟩=>by cases ha;rw[hk];exact dN _) λb hb=>?_;rcases Wa with h1|⟨b',bW,cD⟩
  ·rw[hb] at h1;cases h1;exact dN _
  ·rw[hb] at bW;cases bW;have:=k1.size;omega
section
variable{w:aH}{H:My}{n:Nat}{A L:List bP}{R:cR}
end
end
section
def zC(p:Int×Int):eP p≠[]:=by simp
def GA:∀r:R3,(eR3 r).length=3:=λ_=>rfl
def oneR3:∀r:R3,∀u∈eR3 r,u.oneCell'=true:=by intro r u hu;simp at hu;rcases hu with rfl|rfl|rfl<;>rfl
def fJ{t:fL}{w:aH}{g:Nat}{e:fL}{cs vs:gJ}{K:aH->Prop}(h:cX w g e cs)(ht:(prog.info? t).map (·.size)=some vs.length)(hl:cs.length=vs.length)(h1:∀u∈vs,u.oneCell'=true)
  (hK:∀w',cX w' g e vs->aU (λk=>k=g) w w'->w'.heap.size=w.heap.size->K w'):aJ prog t ⟨g,0,none⟩ (.agg vs.toArray) w K:=by
 refine DB h (by rw[ht];simp[Value.cells]) (by simp[Value.cells,hl]) (by simpa [Value.cells] using h1) λw' ho hm hz=>hK w' ?_ hm hz;have:cs.take 0++(Value.agg vs.toArray).cells.toList++cs.drop (0+(Value.agg vs.toArray).cells.size)=vs:=by simp[Value.cells,List.drop_of_length_le (show cs.length<=vs.length by omega)]
 rwa[this] at ho
def fM{t:fL}{zs vs:gJ}{w:aH}{K:Addr->aH->Prop}(ht:(prog.info? t).map (·.size)=some vs.length)(hl:zs.length=vs.length)(h1:∀u∈vs,u.oneCell'=true)
  (hK:∀w',cX w' w.heap.size t vs->aL w w'->w'.heap.size=w.heap.size+1->K ⟨w.heap.size,0,none⟩ w'):aG w zs.toArray t λa w1=>aJ prog t a (.agg vs.toArray) w1 λw2=>K a w2:=
 bG λw1 o1 k1 z1=>fJ o1 ht hl h1 λw2 o2 m2 z2=>hK w2 o2 (k1.fresh m2 λk e=>by rw[show k=w.heap.size from e];exact dN _) aB
def qM{w:aH}{g:Nat}{e:fL}{x y z:Value}(h:cX w g e [x,y,z]):w.cell? ((⟨g,0,none⟩:Addr).add 0)=some x/\w.cell? ((⟨g,0,none⟩:Addr).add 1)=some y/\w.cell? ((⟨g,0,none⟩:Addr).add 2)=some z:=by
 refine⟨?_,?_,?_⟩<;>rw[aS,h.cell]<;>rfl
def Xe{w:aH}{g:Nat}{e:fL}{x y:Value}(h:cX w g e [x,y]):w.cell? ((⟨g,0,none⟩:Addr).add 0)=some x/\w.cell? ((⟨g,0,none⟩:Addr).add 1)=some y:=by
 refine⟨?_,?_⟩<;>rw[aS,h.cell]<;>rfl
def Ls{w:aH}{s:Sl}{xs:List (Int×Int)}(h:Rd w s 2 eP xs){i:Nat}{x:Int×Int}(hx:xs[i]? =some x):∃a,s.b=some a/\bQ w (a.add (i*2)) 0 (rJ [.i,.i] (x.1,x.2,()))/\
  w.cell? ((a.add (i*2)).add 0)=some (aD x.1)/\w.cell? ((a.add (i*2)).add 1)=some (aD x.2):=by
 obtain⟨a,ha,hh⟩:=h.get i x hx;have h2:=jH.1 hh;exact⟨a,ha,hh,by simpa using h2 0 _ rfl,by simpa using h2 1 _ rfl⟩
def rd3{w:aH}{s:Sl}{xs:List R3}(h:Rd w s 3 eR3 xs){i:Nat}{x:R3}(hx:xs[i]? =some x):∃a,s.b=some a/\bQ w (a.add (i*3)) 0 (rJ [.i,.i,.i] (x.1,x.2.1,x.2.2,()))/\
  w.cell? ((a.add (i*3)).add 0)=some (aD x.1)/\w.cell? ((a.add (i*3)).add 1)=some (aD x.2.1)/\w.cell? ((a.add (i*3)).add 2)=some (aD x.2.2):=by
 obtain⟨a,ha,hh⟩:=h.get i x hx;have h2:=jH.1 hh;exact⟨a,ha,hh,by simpa using h2 0 _ rfl,by simpa using h2 1 _ rfl,by simpa using h2 2 _ rfl⟩
abbrev GT:=Sl×Sl×Sl×Unit
abbrev VS(g:GT):gJ:=[aW g.1,aW g.2.1,aW g.2.2.1]
structure JY(w:aH)(g:GT)(G:Gr):Prop where
 nd:Rd w g.1 2 eP G.N
 ed:Rd w g.2.1 3 eR3 G.E
 bn:Rd w g.2.2.1 2 eP G.B
def JY.aO{w w':aH}{g:GT}{G:Gr}(h:JY w g G)(k:aL w w'):JY w' g G:=
 ⟨h.nd.aK k zC λ_ _=>id,h.ed.aK k Aa λ_ _=>id,h.bn.aK k zC λ_ _=>id⟩
def Yl(g:GT):∀u∈VS g,u.oneCell'=true:=by intro u hu;simp at hu;rcases hu with rfl|rfl|rfl<;>rfl
def qV{w:aH}{b:Nat}{e:fL}{g:GT}(h:cX w b e (VS g)):bQ w ⟨b,0,none⟩ 0 (rJ [.slice,.slice,.slice] g):=iW h
def JY.kL{w:aH}{g:GT}{G:Gr}(h:JY w g G){i:Int}(hi:G.mO i):∃a,g.2.1.b=some a/\bQ w (a.add (i.toNat*3)) 0 (rJ [.i,.i,.i] (G.fr i,G.to i,G.wt i,()))/\
  w.cell? ((a.add (i.toNat*3)).add 0)=some (aD (G.fr i))/\w.cell? ((a.add (i.toNat*3)).add 1)=some (aD (G.to i))/\w.cell? ((a.add (i.toNat*3)).add 2)=some (aD (G.wt i)):=rd3 h.ed (G.get_ed hi)
structure Sz where
 g:Nat
 v:GT
 out:Sl
 MF:Sl
 fr:Sl
 to:Sl
def ByN(w:aH)(row first:Sl)(n m:Nat)(key:Int->Int):=∃fs rs,Rd w first 1 eI fs/\Rd w row 1 eI rs/\fs.length=n+1/\rs.length=m/\(∀i,i<=n->fs[i]? =some (qL (cK key m) i:Int))/\
 ∀v,v<n->qL (cK key m) v+cK key m v<=m/\(rs.drop (qL (cK key m) v)).take (cK key m v)=jj key m v
def ByN.aO{w w':aH}{row first:Sl}{n m:Nat}{key:Int->Int}(h:ByN w row first n m key)(k:aL w w'):ByN w' row first n m key:=by
 obtain⟨fs,rs,h1,h2,h3⟩:=h;exact⟨fs,rs,h1.aK k cU λ_ _=>id,h2.aK k cU λ_ _=>id,h3⟩
def Ty(w:aH)(s:Sl):=∀b,s.b=some b->∃t cs,cX w b.block t cs/\t≠31/\t≠gM
def Ty.aO{w w':aH}{s:Sl}(h:Ty w s)(k:aL w w'):Ty w' s:=λb hb=>by
 obtain⟨t,cs,o,h1⟩:=h b hb;exact⟨t,cs,o.aK k id,h1⟩
def Ty.nil{w:aH}:Ty w bD:=λb hb=>by cases hb
def dE.Md{α:Type}{w:aH}{e:fL}{n:Nat}{aY:α->gJ}{s:Sl}{xs:List α}(h:dE w e n aY s xs)(h1:e≠31/\e≠gM):Ty w s:=λb hb=>by
 rcases h.gZ with⟨h0,_⟩|⟨g,cO,h0,ho,_⟩
 ·rw[hb] at h0;cases h0
 ·rw[hb] at h0;cases h0;exact⟨e,_,ho,h1⟩
structure vY(w:aH)(H:Sz)(G:Gr):Prop where
 ok:sM G
 head:cX w H.g tGraph [aW H.v.1,aW H.v.2.1,aW H.v.2.2.1,aW H.out,aW H.MF,aW H.fr,aW H.to]
 val:JY w H.v G
 out:ByN w H.out H.fr G.n G.m G.fr
 MF:ByN w H.MF H.to G.n G.m G.to
 Md:Ty w H.v.1/\Ty w H.v.2.1/\Ty w H.v.2.2.1/\Ty w H.out/\Ty w H.MF/\Ty w H.fr/\Ty w H.to
def vY.aO{w w':aH}{H:Sz}{G:Gr}(h:vY w H G)(k:aL w w'):vY w' H G:=⟨h.ok,h.head.aK k id,h.val.aO k,h.out.aO k,h.MF.aO k,h.Md.1.aO k,h.Md.2.1.aO k,h.Md.2.2.1.aO k,h.Md.2.2.2.1.aO k,h.Md.2.2.2.2.1.aO k,h.Md.2.2.2.2.2.1.aO k,h.Md.2.2.2.2.2.2.aO k⟩
section
variable{w:aH}{H:Sz}{G:Gr}
def vY.cells(h:vY w H G):w.cell? ((⟨H.g,0,none⟩:Addr).add 0)=some (aW H.v.1)/\w.cell? ((⟨H.g,0,none⟩:Addr).add 1)=some (aW H.v.2.1)/\w.cell? ((⟨H.g,0,none⟩:Addr).add 2)=some (aW H.v.2.2.1)/\
  w.cell? ((⟨H.g,0,none⟩:Addr).add 3)=some (aW H.out)/\w.cell? ((⟨H.g,0,none⟩:Addr).add 4)=some (aW H.MF)/\w.cell? ((⟨H.g,0,none⟩:Addr).add 5)=some (aW H.fr)/\w.cell? ((⟨H.g,0,none⟩:Addr).add 6)=some (aW H.to):=by
 have hh:=h.head;refine⟨?_,?_,?_,?_,?_,?_,?_⟩<;>rw[aS,hh.cell]<;>rfl
def uB{Q:Int->aH->Prop}(h:vY w H G)(hQ:Q (G.m:Int) w):gW (some ⟨H.g,0,none⟩) w Q:=by
 unfold gW;refine aF (λh=>by simp at h) (λ_=>aA rfl ?_);rw[add_zero];refine aE (k:=.slice) H.v.2.1 h.cells.2.1 ?_;rw[h.val.ed.len];exact hQ
def PE{Q:Int->aH->Prop}(h:vY w H G)(hQ:Q (G.n:Int) w):pY (some ⟨H.g,0,none⟩) w Q:=by
 unfold pY;refine aF (λh=>by simp at h) (λ_=>aA rfl ?_);rw[add_zero];refine aE (k:=.slice) H.v.1 h.cells.1 ?_;rw[h.val.nd.len];exact hQ
def KE{i:Int}{Q:(Int×Int×Int×Unit)->Bool->aH->Prop}(h:vY w H G)(Sd:G.mO i->∀w',aL w w'->Q (G.fr i,G.to i,G.wt i,()) true w')(qU:¬G.mO i->∀w',aL w w'->Q (0,0,0,()) false w'):
  jI (some ⟨H.g,0,none⟩) i w Q:=by
 unfold jI;refine bG λw1 o1 k1 z1=>?_;have zz:∀w2,aL w w2->cX w2 w.heap.size RE [aD 0,aD 0,aD 0]->¬G.mO i->aJ prog RE ⟨w.heap.size,0,none⟩ (Value.agg #[(aD 0),(aD 0),(aD 0)]) w2 λw3=>
   fI [.i,.i,.i] w3 ⟨w.heap.size,0,none⟩ λ(t1:Int×Int×Int×Unit)=>Q (t1.1,t1.2.1,t1.2.2.1,()) false w3:=λw2 k2 o2 hn=>by
  refine fJ (vs:=[aD 0,aD 0,aD 0]) o2 jV rfl (by simp[Value.oneCell']) λw3 o3 m3 _=>?_;refine aZ (l:=[.i,.i,.i]) ((0:Int),(0:Int),(0:Int),()) (iW o3) (qU hn w3 (k2.fresh m3 λk e=>by rw[show k=w.heap.size from e];exact dN _))
 refine aI (λFW=>zz w1 k1 o1 λhi=>aB) (λuJ=>?_);refine uB (h.aO k1) ?_;refine aI (λkF=>zz w1 k1 o1 λhi=>aB) (λcD=>?_);have hi:G.mO i:=⟨aB,aB⟩;have h1:=h.aO k1;refine aA rfl ?_;rw[add_zero];refine aE (k:=.slice) H.v.2.1 h1.cells.2.1 ?_;obtain⟨a,ha,hh,_⟩:=h1.val.kL hi;refine⟨⟨hi.1,by rw[h1.val.ed.len];exact hi.2⟩,aA ha (aZ (l:=[.i,.i,.i]) (G.fr i,G.to i,G.wt i,()) hh ?_)⟩;refine fJ (vs:=[aD (G.fr i),aD (G.to i),aD (G.wt i)]) o1 jV rfl (by simp[Value.oneCell']) λw3 o3 m3 _=>?_;exact aZ (l:=[.i,.i,.i]) (G.fr i,G.to i,G.wt i,()) (iW o3) (Sd hi w3 (k1.fresh m3 λk e=>by rw[show k=w.heap.size from e];exact dN _))
def part_i{row first:Sl}{key:Int->Int}(h:ByN w row first G.n G.m key)(hm:G.m<=51){node:Int}(hn:G.GR node){Q:Sl->aH->Prop}
  (hQ:∀s w',dE w' dA 1 eI s (jj key G.m node.toNat)->aL w w'->(∀b,s.b=some b->w.heap.size<=b.block)->Q s w'):
  ∃x2 x3:Int,(∃a,first.b=some a/\w.cell? (a.add (node.toNat*1))=some (aD x2)/\w.cell? (a.add ((node+1).toNat*1))=some (aD x3))/\(0<=node/\node+1<(first.l:Int))/\(0<=x3/\x3<=(row.c:Int))/\
  (0<=x2/\x2<=(((Int.toNat x3):Nat):Int))/\dK ⟨(aR row.b row.c (Int.toNat x2) 1),((Int.toNat x3)-(Int.toNat x2)),(row.c-(Int.toNat x2))⟩ w Q:=by
 obtain⟨fs,rs,h1,h2,h3,h4,h5,h6⟩:=h;obtain⟨p1,p2⟩:=h6 node.toNat (by have:=hn.1;have:=hn.2;omega);have hl:=h2.len;have Sn:=h2.cap;have e1:=h5 node.toNat (by have:=hn.2;omega);have e2:=h5 (node.toNat+1) (by have:=hn.1;have:=hn.2;omega);obtain⟨a,ha,jf⟩:=bR (k:=.i) (e:=λx=>x) h1 e1;obtain⟨a',mY,QL⟩:=bR (k:=.i) (e:=λx=>x) h1 e2;rw[ha] at mY;cases mY;have hp:qL (cK key G.m) (node.toNat+1)=qL (cK key G.m) node.toNat+cK key G.m node.toNat:=rfl;have ko:(node+1).toNat=node.toNat+1:=by have:=hn.1;omega
 refine⟨_,_,⟨a,ha,jf,by rw[ko];exact QL⟩,⟨hn.1,by have:=h1.len;have:=hn.2;omega⟩,⟨aB,aB⟩,⟨aB,aB⟩,?_⟩;simp only[dU];have Hs:=h2.part (i:=qL (cK key G.m) node.toNat) (j:=qL (cK key G.m) (node.toNat+1)) (c:=row.c) aB aB aB (dN _);rw[hp,Nat.add_sub_cancel_left,p2] at Hs;refine IA (xs:=jj key G.m node.toNat) ?_ (by have:=pz key G.m node.toNat;unfold cK at this;omega) hQ;rw[hp,Nat.add_sub_cancel_left];exact Hs
def zo{key:Int->Int}{m:Nat}{node:Int}(h:0<=node):jj key m node.toNat=(kS m).filter λe=>decide (key e=node):=by
 unfold jj;rw[kc h]
def zn{key:Int->Int}{m n:Nat}(hk:∀e:Int,0<=e/\e<m->0<=key e/\key e<n){node:Int}(h:¬(0<=node/\node<n)):((kS m).filter λe=>decide (key e=node))=[]:=by
 rw[List.filter_eq_nil_iff];intro e he hd;have:=hk e (DG.1 he);have:key e=node:=by simpa using hd
 omega
def wnode{node:Int}(h:G.GR node)(ok:sM G):aQ (node+(1:Int))=node+1:=by have:=ok.n1;have:=h.1;have:=h.2;exact iH aB aB
def gOut_i{node:Int}{Q:Sl->aH->Prop}(h:vY w H G)(hQ:∀s w',dE w' dA 1 eI s (G.Xf node)->aL w w'->(∀b,s.b=some b->w.heap.size<=b.block)->Q s w'):YB (some ⟨H.g,0,none⟩) node w Q:=by
 unfold YB;have nil:¬G.GR node->Q bD w:=λhn=>by
  refine hQ _ w ?_ (aU.refl _ _) λb hb=>by cases hb
  unfold Gr.Xf;rw[zn (n:=G.n) (λe he=>(h.ok.ed _ (G.UK he)).1) hn];exact dE.nil _ _ _ _
 refine aI (λh=>nil λhn=>aB) (λh0=>PE h (aI (λh=>nil λhn=>aB) (λh1=>?_)));have hn:G.GR node:=⟨aB,aB⟩;have d:aL w w.drew:=aU.drew (aU.refl _ w);have hd:=h.aO d;have hc:=hd.cells;obtain⟨x2,x3,⟨a,ha,c1,c2⟩,⟨b0,b1⟩,q1,q2,hcl⟩:=part_i hd.out h.ok.m1.2 hn (Q:=Q) λs w' v k f=>hQ s w' (by rw[zo hn.1] at v;exact v) (d.tr k) f;refine aA rfl (aE (k:=.slice) H.out hc.2.2.2.1 (aA rfl (aE (k:=.slice) H.fr hc.2.2.2.2.2.1 ⟨⟨b0,aB⟩,aA ha (aE (k:=.i) x2 c1 (aA rfl (aE (k:=.slice) H.fr hc.2.2.2.2.2.1 ?_)))⟩)));rw[wnode hn h.ok];exact⟨⟨aB,aB⟩,aA ha (aE (k:=.i) x3 c2 ⟨q1,q2,hcl⟩)⟩
def gIn_i{node:Int}{Q:Sl->aH->Prop}(h:vY w H G)(hQ:∀s w',dE w' dA 1 eI s (G.Vx node)->aL w w'->(∀b,s.b=some b->w.heap.size<=b.block)->Q s w'):XL (some ⟨H.g,0,none⟩) node w Q:=by
 unfold XL;have nil:¬G.GR node->Q bD w:=λhn=>by
  refine hQ _ w ?_ (aU.refl _ _) λb hb=>by cases hb
  unfold Gr.Vx;rw[zn (n:=G.n) (λe he=>(h.ok.ed _ (G.UK he)).2.1) hn];exact dE.nil _ _ _ _
 refine aI (λh=>nil λhn=>aB) (λh0=>PE h (aI (λh=>nil λhn=>aB) (λh1=>?_)));have hn:G.GR node:=⟨aB,aB⟩;have d:aL w w.drew:=aU.drew (aU.refl _ w);have hd:=h.aO d;have hc:=hd.cells;obtain⟨x2,x3,⟨a,ha,c1,c2⟩,⟨b0,b1⟩,q1,q2,hcl⟩:=part_i hd.MF h.ok.m1.2 hn (Q:=Q) λs w' v k f=>hQ s w' (by rw[zo hn.1] at v;exact v) (d.tr k) f;refine aA rfl (aE (k:=.slice) H.MF hc.2.2.2.2.1 (aA rfl (aE (k:=.slice) H.to hc.2.2.2.2.2.2 ⟨⟨b0,aB⟩,aA ha (aE (k:=.i) x2 c1 (aA rfl (aE (k:=.slice) H.to hc.2.2.2.2.2.2 ?_)))⟩)));rw[wnode hn h.ok];exact⟨⟨aB,aB⟩,aA ha (aE (k:=.i) x3 c2 ⟨q1,q2,hcl⟩)⟩
end
end
section
def lu(a b:Int×Int):Int:=if ZR a.1 b.1≠0 then ZR a.1 b.1 else ZR a.2 b.2
def Iz{a b:Int×Int}:lu a b<0↔JQ a b:=by
 unfold lu ZR
 by_cases h1:a.1<b.1
 ·simp[h1];exact .inl h1
 ·by_cases h2:a.1>b.1
  ·simp[h1,h2];omega
  ·have:a.1=b.1:=aB
   by_cases h3:a.2<b.2
   ·simp[this,h3];exact .inr ⟨this,h3⟩
   ·by_cases h4:a.2>b.2
    ·simp[this,h3,h4]
    ·simp[this,h3,h4]
def ord2_zero{a b:Int×Int}:lu a b=0↔a=b:=by
 obtain⟨a1,a2⟩:=a;obtain⟨b1,b2⟩:=b;unfold lu ZR;simp only[Prod.mk.injEq]
 by_cases h1:a1<b1
 ·simp[h1];omega
 ·by_cases h2:a1>b1
  ·simp[h1,h2];omega
  ·have:a1=b1:=aB;subst this
   by_cases h3:a2<b2
   ·simp[h3];omega
   ·by_cases h4:a2>b2
    ·simp[h3,h4];omega
    ·simp[h3,h4];omega
def lex2_irr(a:Int×Int):¬JQ a a:=λh=>by rcases h with h|h<;>omega
def zd{a b c:Int×Int}(h:JQ a b)(h':JQ b c):JQ a c:=by unfold JQ at*;omega
def Or_i{x y:Int}{w:aH}{g:Nat}{Q:Int->aH->Prop}(h:cX w g dA [aD x,aD y])(hQ:Q (if x≠0 then x else y) w):BK ⟨some ⟨g,0,none⟩,2,2⟩ w Q:=by
 unfold BK;obtain⟨c0,c1⟩:=Xe h;refine bK (λc t w1=>w1=w/\((c=2/\t=((0:Int),()))\/(c=1/\t=((1:Int),())/\x=0)\/(c=0/\t=((2:Int),())/\x=0/\y=0))) 2 ⟨rfl,.inl ⟨rfl,rfl⟩⟩ ?_;rintro c t w1 ⟨rfl,vO⟩ X hX;rcases vO with⟨rfl,rfl⟩|⟨rfl,rfl,hx⟩|⟨rfl,rfl,hx,hy⟩
 ·dsimp only;refine aI (λ_=>⟨by decide,aA rfl (aE (k:=.i) x c0 ?_)⟩) (λh=>absurd (by decide) h);refine aF (λhn=>?_) (λhn=>?_)
  ·have:x≠0:=by simpa using hn
   rw[if_pos this] at hQ;exact hQ
  ·have:x=0:=by simpa using hn
   exact hX 1 _ _ aB ⟨rfl,.inr (.inl ⟨rfl,by rw[show aQ ((0:Int)+1)=1 by decide],this⟩)⟩
 ·dsimp only;refine aI (λ_=>⟨by decide,aA rfl (aE (k:=.i) y c1 ?_)⟩) (λh=>absurd (by decide) h);rw[if_neg (λh=>h hx)] at hQ;refine aF (λhn=>hQ) (λhn=>?_);have:y=0:=by simpa using hn
  exact hX 0 _ _ aB ⟨rfl,.inr (.inr ⟨rfl,by rw[show aQ ((1:Int)+1)=2 by decide],hx,this⟩)⟩
 ·dsimp only;refine aI (λh=>absurd h (by decide)) (λ_=>?_);rw[if_neg (λh=>h hx),hy] at hQ;exact hQ
def yz{a b:Int×Int}{w:aH}{Q:Int->aH->Prop}(hQ:∀w',aL w w'->Q (lu a b) w'):tU (a.1,a.2,()) (b.1,b.2,()) w Q:=by
 unfold tU;refine bG λw1 o1 k1 z1=>bG λw2 o2 k2 z2=>?_;have d:aL w2 w2.drew:=aU.drew (aU.refl _ w2);have kd:=k2.tr d;obtain⟨a0,a1⟩:=Xe (o1.aK kd id);obtain⟨b0,b1⟩:=Xe (o2.aK d id);refine aE (k:=.i) a.1 a0 (aE (k:=.i) b.1 b0 (aE (k:=.i) a.2 a1 (aE (k:=.i) b.2 b1 ?_)));refine QH ⟨b1,a1,QH ?_⟩;refine bG λw5 o5 k5 z5=>?_;exact Or_i o5 (hQ w5 ((k1.tr kd).tr k5))
def Qk{a b:Int×Int}{w:aH}{K:Value->aH->Prop}(hK:∀w',aL w w'->K (aD (lu a b)) w'):lX prog (.func (.func OQ) #[] #[]) [.agg #[aD a.1,aD a.2],.agg #[aD b.1,aD b.2]] w K:=
 pU Nm iZ (gV (ks:=[.agg [.i,.i],.agg [.i,.i]]) (t:=((a.1,a.2,()),(b.1,b.2,()),())) (yz hK))
def fc{s:Sl}{xs:List (Int×Int)}{v:Int×Int}{w:aH}{Q:Int->Bool->aH->Prop}(hs:Rd w s 2 eP xs)(mU:xs.Pairwise JQ)(gL:xs.length<4611686018427387904)
  (hQ:∀i w',aL w w'->Q i (decide (v∈xs)) w'):fT s (v.1,v.2,()) (.func (.func OQ) #[] #[]) w Q:=by
 unfold fT;have hl:=hs.len;have Sb:∀{p q:Nat} {x y:Int×Int},p<q->xs[p]? =some x->xs[q]? =some y->JQ x y:=λ{p q x y} hpq hx hy=>by
  obtain⟨h1,rfl⟩:=eR.1 hx;obtain⟨h2,rfl⟩:=eR.1 hy;exact Xg.1 mU p q h1 h2 hpq
 refine bG λw1 o1 k1 z1=>?_;refine bK (λn t w'=>∃i j:Nat,i<=j/\j<=xs.length/\n=j-i/\t=((i:Int),(j:Int),())/\aL w1 w'/\(∀p x,p<i->xs[p]? =some x->JQ x v)/\(∀p x,j<=p->xs[p]? =some x->¬JQ x v)) xs.length
  ⟨0,xs.length,aB,aB,aB,by rw[hl];rfl,aU.refl _ _,λp x hp=>aB,λp x hp hx=>by have:=(eR.1 hx).1;omega⟩ ?_
 rintro n t w' ⟨i,j,TN,hj,rfl,rfl,hk,Mj,hhi⟩ X hX;dsimp only;have d:aL w' w'.drew:=aU.drew (aU.refl _ w');have hkd:=hk.tr d;have GO:=hs.aK (k1.tr hkd) zC (λ_ _=>id);have hv:bQ w'.drew ⟨w.heap.size,0,none⟩ 0 (rJ [.i,.i] (v.1,v.2,())):=iW (o1.aK hkd id);refine aI (λh=>?_) (λh=>?_)
 ·have cD:i<j:=aB;rw[mid_i i j aB];have hm:(i+j)/2<xs.length:=aB;have cI:=cL hm;refine⟨aB,⟨aB,aB⟩,?_⟩;obtain⟨a,ha,hh,_⟩:=Ls GO cI;generalize xs[(i+j)/2]=x at*;refine aA ha (aZ (l:=[.i,.i]) (x.1,x.2,()) hh (aZ (l:=[.i,.i]) (v.1,v.2,()) hv ?_));refine Qk λw2 k2=>⟨_,rfl,?_⟩;rw[iH (n:=(((i+j)/2:Nat):Int)+1) aB aB];refine aI (λh=>?_) (λh=>?_)
  ·have hx:=Iz.1 h;refine hX (j-((i+j)/2+1)) _ _ aB ⟨(i+j)/2+1,j,aB,hj,rfl,rfl,hkd.tr k2,λp y hp hy=>?_,hhi⟩;rcases Nat.lt_or_ge p ((i+j)/2) with h'|h'
   ·exact zd (Sb h' hy cI) hx
   ·have:p=(i+j)/2:=aB;subst this;rw[cI] at hy;cases hy;exact hx
  ·have hx:¬JQ x v:=λh'=>h (Iz.2 h');refine hX ((i+j)/2-i) _ _ aB ⟨i,(i+j)/2,aB,aB,rfl,rfl,hkd.tr k2,Mj,λp y hp hy=>?_⟩;rcases Nat.eq_or_lt_of_le hp with h'|h'
   ·subst h';rw[cI] at hy;cases hy;exact hx
   ·exactλh2=>hx (zd (Sb h' cI hy) h2)
 ·have hje:j=i:=aB;subst hje;have loc:∀{q:Nat},xs[q]? =some v->q=j\/(j<q/\∀x,xs[j]? =some x->False):=λ{q} hq=>by
   rcases Nat.lt_trichotomy q j with h1|h1|h1
   ·exact absurd (Mj q v h1 hq) (lex2_irr v)
   ·exact .inl h1
   ·exact .inr ⟨h1,λx hx=>hhi j x (dN _) hx (Sb h1 hx hq)⟩
  refine aI (λh=>?_) (λh=>?_)
  ·have hi:j<xs.length:=aB;have cI:=cL hi;refine⟨⟨aB,aB⟩,?_⟩;obtain⟨a,ha,hh,_⟩:=Ls GO cI;generalize xs[j]=x at*;refine aA ha (aZ (l:=[.i,.i]) (x.1,x.2,()) hh (aZ (l:=[.i,.i]) (v.1,v.2,()) hv ?_));refine Qk λw2 k2=>⟨_,rfl,?_⟩;have e:(lu x v==0)=decide (v∈xs):=by
    rw[Bool.eq_iff_iff];simp only[beq_iff_eq,decide_eq_true_eq];rw[ord2_zero]
    constructor
    ·rintro rfl;exact kR cI
    ·intro hm;obtain⟨q,hq⟩:=pJ.1 hm;rcases loc hq with rfl|⟨_,h2⟩
     ·rw[cI] at hq;exact(uI hq)
     ·exact(h2 x cI).elim
   rw[e];exact hQ _ w2 ((k1.tr hkd).tr k2)
  ·have e:decide (v∈xs)=false:=by
    rw[decide_eq_false_iff_not];intro hm;obtain⟨q,hq⟩:=pJ.1 hm;have:=(eR.1 hq).1;have h':¬((j:Int)<(s.l:Int)):=h;rcases loc hq with rfl|⟨h1,_⟩<;>omega
   have:=hQ (j:Int) w'.drew (k1.tr hkd);rw[e] at this;exact this
section
variable{w:aH}{H:Sz}{G:Gr}
def bp{a b:Int}{Q:Bool->aH->Prop}(h:vY w H G)(hQ:∀w',aL w w'->Q (decide ((a,b)∈G.B)) w'):zY (some ⟨H.g,0,none⟩) a b w Q:=by
 unfold zY;refine aF (λh=>by simp at h) (λ_=>aA rfl ?_);rw[add_zero];refine aE (k:=.slice) H.v.2.2.1 h.cells.2.2.1 ?_;have:=h.ok.bl;exact fc (v:=(a,b)) h.val.bn h.ok.bs aB λi w' k=>hQ w' k
end
def uX{n qT high:Int}{w:aH}{Q:Bool->aH->Prop}(h:qT<=n/\n<=high)(hQ:Q true w):gX n qT high w Q:=by
 unfold gX;refine aI (λ_=>?_) (λh'=>absurd h.1 h');rw[decide_eq_true h.2];exact hQ
def gmay_i{g:GT}{G:Gr}{W:aH}{Q:Bool->aH->Prop}(h:JY W g G)(ok:sM G)(hQ:∀w',aL W w'->Q true w'):FI g W Q:=by
 unfold FI;refine bG λw1 o1 k1 z1=>?_;have hn:=ok.n1;have hm:=ok.m1;have hb:=ok.bl;have l1:=h.nd.len;have l2:=h.ed.len;have l3:=h.bn.len;have cs:∀{wx:aH},aL w1 wx->_:=λ{wx} kx=>qM (o1.aK kx id);have c1:=cs (aU.refl _ _);unfold Gr.n at hn;unfold Gr.m at hm;refine aE (k:=.slice) g.1 c1.1 (uX aB (aF (λh=>by simp at h) (λ_=>?_)));refine aE (k:=.slice) g.2.1 c1.2.1 (aI (λh=>aB) (λ_=>?_));refine aE (k:=.slice) g.2.2.1 c1.2.2 (aI (λh=>aB) (λ_=>?_));refine aE (k:=.slice) g.1 c1.1 ?_;refine bK (λc t w2=>∃i:Nat,i<=G.N.length/\c=G.N.length-i/\t=((i:Int),())/\aL w1 w2) G.N.length ⟨0,cY _,rfl,rfl,aU.refl _ _⟩ ?_;rintro c t w2 ⟨i,hi,rfl,rfl,k2⟩ X hX;dsimp only;refine aI (λcD=>?_) (λkF=>?_)
 ·have dL:i<G.N.length:=aB;have cI:=cL dL;have hnd:=ok.nd _ (oF dL);obtain⟨a,ha,hh,_⟩:=Ls (h.nd.aK (k1.tr k2) zC λ_ _=>id) cI;generalize G.N[i]=x at*;rw[dU];refine⟨⟨aB,cD⟩,aA ha (aZ (l:=[.i,.i]) (x.1,x.2,()) hh ?_)⟩;refine fM (vs:=[aD x.1,aD x.2]) PF rfl (by simp[Value.oneCell']) λw5 o5 k5 z5=>?_;obtain⟨n0,n1⟩:=Xe o5;refine aE (k:=.i) x.1 n0 (uX hnd.1 (aF (λh=>by simp at h) (λ_=>?_)));refine aE (k:=.i) x.2 n1 (uX hnd.2 (aF (λh=>by simp at h) (λ_=>?_)));rw[pI i aB];exact hX _ _ _ aB ⟨i+1,dL,rfl,rfl,k2.tr k5⟩
 clear hX X kF hi i;have c2:=cs k2;refine aE (k:=.slice) g.1 c2.1 (aE (k:=.slice) g.2.1 c2.2.1 ?_);have wn:aQ ((g.1.l:Int)-(1:Int))=(G.n:Int)-1:=by rw[iH aB aB,l1];rfl
 have wm:aQ ((g.2.1.l:Int)-(1:Int))=(G.m:Int)-1:=by rw[iH aB aB,l2];rfl
 rw[wn];refine bK (λc t w3=>∃i:Nat,i<=G.E.length/\c=G.E.length-i/\t=((i:Int),())/\aL w1 w3) G.E.length ⟨0,cY _,rfl,rfl,k2⟩ ?_;rintro c t w3 ⟨i,hi,rfl,rfl,k3⟩ X hX;dsimp only;refine aI (λcD=>?_) (λkF=>?_)
 ·have dL:i<G.E.length:=aB;have cI:=cL dL;have hed:=ok.ed _ (oF dL);obtain⟨a,ha,hh,_⟩:=rd3 (h.ed.aK (k1.tr k3) Aa λ_ _=>id) cI;generalize G.E[i]=x at*;rw[dU];refine⟨⟨aB,cD⟩,aA ha (aZ (l:=[.i,.i,.i]) (x.1,x.2.1,x.2.2,()) hh ?_)⟩;refine fM (vs:=[aD x.1,aD x.2.1,aD x.2.2]) jV rfl (by simp[Value.oneCell']) λw5 o5 k5 z5=>?_;obtain⟨n0,n1,n2⟩:=qM o5;refine aE (k:=.i) x.1 n0 (uX aB (aF (λh=>by simp at h) (λ_=>?_)));refine aE (k:=.i) x.2.1 n1 (uX aB (aF (λh=>by simp at h) (λ_=>?_)));refine aE (k:=.i) x.2.2 n2 (uX aB (aF (λh=>by simp at h) (λ_=>?_)));rw[pI i aB];exact hX _ _ _ aB ⟨i+1,dL,rfl,rfl,k3.tr k5⟩
 clear hX X kF hi i;have c3:=cs k3;refine aE (k:=.slice) g.2.2.1 c3.2.2 ?_;refine bK (λc t w4=>∃i:Nat,i<=G.B.length/\c=G.B.length-i/\t=((i:Int),())/\aL w1 w4) G.B.length ⟨0,cY _,rfl,rfl,k3⟩ ?_;rintro c t w4 ⟨i,hi,rfl,rfl,k4⟩ X hX;dsimp only;refine aI (λcD=>?_) (λ_=>hQ w4 (k1.tr k4));have dL:i<G.B.length:=aB;have cI:=cL dL;obtain⟨VR,QM,kr⟩:=ok.bd _ (oF dL);have sY:∀y,0<i->G.B[i-1]? =some y->JQ y G.B[i]:=λy h0 hy=>by
  obtain⟨h1,rfl⟩:=eR.1 hy;exact Xg.1 ok.bs (i-1) i h1 dL aB
 obtain⟨a,ha,hh,_⟩:=Ls (h.bn.aK (k1.tr k4) zC λ_ _=>id) cI;generalize G.B[i]=x at*;rw[dU];refine⟨⟨aB,cD⟩,aA ha (aZ (l:=[.i,.i]) (x.1,x.2,()) hh ?_)⟩;refine fM (vs:=[aD x.1,aD x.2]) size_Ban rfl (by simp[Value.oneCell']) λw5 o5 k5 z5=>?_;have d5:aL w5 w5.drew:=aU.drew (aU.refl _ w5);obtain⟨n0',n1'⟩:=Xe (o5.aK d5 id);have En:=(k4.tr k5);have c5:=cs En;have c5':=cs (En.tr d5);have hv5:=h.aO ((k1.tr En).tr d5);refine aE (k:=.slice) g.2.1 c5.2.1 (aE (k:=.i) x.1 n0' ?_);rw[wm];refine uX aB (aF (λh=>by simp at h) (λ_=>?_));refine aE (k:=.i) x.2 n1' (uX aB (aF (λh=>by simp at h) (λ_=>?_)));obtain⟨p1,uv,_,_,t1,_⟩:=hv5.kL VR;obtain⟨p2,Dk,_,f2,_,_⟩:=hv5.kL QM;refine aE (k:=.slice) g.2.1 c5'.2.1 (aE (k:=.i) x.1 n0' ⟨⟨VR.1,by rw[l2];exact VR.2⟩,aA uv (aE (k:=.i) (G.to x.1) t1 ?_)⟩);refine aE (k:=.slice) g.2.1 c5'.2.1 (aE (k:=.i) x.2 n1' ⟨⟨QM.1,by rw[l2];exact QM.2⟩,aA Dk (aE (k:=.i) (G.fr x.2) f2 ?_)⟩);refine aF (λh=>by rw[kr] at h;simp at h) (λ_=>?_);have next:∀wz,aL w1 wz->X (aQ ((i:Int)+1),()) wz:=λwz kz=>by
  rw[pI i aB];exact hX _ _ _ aB ⟨i+1,dL,rfl,rfl,kz⟩
 refine aI (λuJ=>?_) (λ_=>next _ (En.tr d5))
 have wi:aQ ((i:Int)-(1:Int))=((i-1:Nat):Int):=by rw[iH aB aB];omega
 rw[wi,dU];have hget':=cL (show i-1<G.B.length by omega);have hs:=sY _ aB hget';obtain⟨a',mY,Gg,_⟩:=Ls hv5.bn hget';generalize G.B[i-1]=y at*;refine aE (k:=.slice) g.2.2.1 c5'.2.2 ⟨⟨aB,aB⟩,aA mY (aZ (l:=[.i,.i]) (y.1,y.2,()) Gg (aZ (l:=[.i,.i]) (x.1,x.2,()) (iW (o5.aK d5 id)) ?_))⟩;refine yz (a:=y) (b:=x) λw6 k6=>?_;exact aI (λkF=>absurd (Iz.2 hs) aB) (λ_=>next _ ((En.tr d5).tr k6))
def rows_i{g:GT}{G:Gr}{node:Value}{key:Int->Int}{W:aH}{Q:Sl->Sl->aH->Prop}(h:JY W g G)(ok:sM G)(uK:∀e:Int,G.mO e->0<=key e/\key e<G.n)
  (hnode:∀(e:Int) w (K:WQ Value),G.mO e->(∀w',aL w w'->K (aD (key e)) w')->lX prog node [.agg #[aD (G.fr e),aD (G.to e),aD (G.wt e)]] w K)
  (hQ:∀s1 s2 w',ByN w' s1 s2 G.n G.m key->aL W w'->(∀b,s1.b=some b->W.heap.size<=b.block)->(∀b,s2.b=some b->W.heap.size<=b.block)->Ty w' s1->Ty w' s2->Q s1 s2 w'):wO g node W Q:=by
 unfold wO;have hn:=ok.n1;have hm:=ok.m1;have l1:g.1.l=G.n:=h.nd.len;have l2:g.2.1.l=G.m:=h.ed.len;have hkey':∀i:Nat,i<G.m->0<=key (i:Int)/\key (i:Int)<G.n:=λi hi=>uK i ⟨aB,aB⟩;refine bG λw1 o1 k1 z1=>?_;have cs:∀{wx:aH},aL w1 wx->_:=λ{wx} kx=>qM (o1.aK kx id);have wl:aQ ((g.1.l:Int)+(1:Int))=((G.n+1:Nat):Int):=by rw[iH aB aB,l1];rfl
 refine aE (k:=.slice) g.1 (cs (aU.refl _ _)).1 ?_;rw[wl];refine wD iD (aY:=eI) (0:Int) rfl eY aB (lR _) aB aB λw2 v2 k2=>?_;generalize LU:(⟨some ⟨w1.heap.size,0,none⟩,Int.toNat ((G.n+1:Nat):Int),Int.toNat ((G.n+1:Nat):Int)⟩:Sl)=s2 at*;have ik:s2.b=some ⟨w1.heap.size,0,none⟩:=by rw[<-LU]
 have s2l:s2.l=G.n+1:=by rw[<-LU];exact dU _
 rw[dU] at v2;have fr2:∀{wx:aH} {F:Nat->Prop} {wy:aH},aL w1 wx->aU F wx wy->(∀k,F k->w1.heap.size<=k)->aL w1 wy:=λkx m hF=>kx.fresh m hF;refine aE (k:=.slice) g.2.1 (cs k2).2.1 ?_;refine bK (λc t w3=>∃(i:Nat) (fs:cR),i<=G.m/\c=G.m-i/\t=((i:Int),())/\aL w1 w3/\dE w3 dA 1 eI s2 fs/\WY key G.n i fs) G.m ⟨0,_,cY _,rfl,rfl,k2,v2,WY.start key G.n⟩ ?_;rintro c t w3 ⟨i,fs,hi,rfl,rfl,k3,v3,R⟩ X hX;dsimp only;refine aI (λcD=>?_) (λkF=>?_)
 ·have dL:i<G.m:=aB;have hE:G.mO (i:Int):=⟨aB,aB⟩;obtain⟨a,ha,hh,_⟩:=(h.aO (k1.tr k3)).kL hE;refine⟨⟨aB,cD⟩,aA ha (aZ (l:=[.i,.i,.i]) (G.fr i,G.to i,G.wt i,()) hh ?_)⟩;refine fM (vs:=[aD (G.fr i),aD (G.to i),aD (G.wt i)]) jV rfl (by simp[Value.oneCell']) λw5 o5 k5 z5=>?_;refine aZ (l:=[.i,.i,.i]) (G.fr i,G.to i,G.wt i,()) (iW o5) ?_;refine hnode i w5 _ hE λw6 k6=>⟨_,rfl,?_⟩;obtain⟨q0,q1⟩:=uK i hE;obtain⟨v0,hv0⟩:∃v0:Nat,key (i:Int)=(v0:Int):=⟨(key i).toNat,aB⟩;have hv0n:v0<G.n:=aB;have wk:aQ (key (i:Int)+(1:Int))=((v0+1:Nat):Int):=by rw[hv0,iH aB aB];rfl
  rw[wk,dU];have v6:=v3.aK (k5.tr k6) λ_ _=>id;have cI:=R.val v0 hv0n;obtain⟨p,hp,hc⟩:=bR (k:=.i) (e:=λx=>x) (v6.rd eY) cI;have hcb:=pz key i v0;have iF:0<=((v0+1:Nat):Int)/\((v0+1:Nat):Int)<(s2.l:Int):=⟨aB,aB⟩;refine⟨iF,aA hp (aE (k:=.i) (cK key i v0:Int) hc ⟨iF,aA ik ?_⟩)⟩;rw[iH (n:=(cK key i v0:Int)+1) aB aB];refine v6.store eY ik (i:=v0+1) (by rw[R.len];omega) ((cK key i v0:Int)+1) (v:=aD ((cK key i v0:Int)+1)) rfl cV (CI _) λw7 v7 m7 z7=>?_;rw[pI i aB];exact hX _ _ _ aB ⟨i+1,_,dL,rfl,rfl,fr2 ((k3.tr k5).tr k6) m7 λk e=>by rw[show k=w1.heap.size from e];exact dN _,v7,R.step hv0n hv0⟩
 have ei:i=G.m:=aB;subst ei;have R2:=R.rows2;clear hX X R kF hi;refine aE (k:=.slice) g.1 (cs k3).1 ?_;refine bK (λc t w3=>∃(j:Nat) (fs:cR),j<=G.n/\c=G.n-j/\t=((j:Int),())/\aL w1 w3/\dE w3 dA 1 eI s2 fs/\Hz (cK key G.m) G.n j fs) G.n ⟨0,_,cY _,rfl,rfl,k3,v3,R2⟩ ?_;clear k3 v3 R2 fs;rintro c t w3 ⟨j,fs,hj,rfl,rfl,k3,v3,R⟩ X hX;dsimp only;have rI:=XR hkey';refine aI (λcD=>?_) (λkF=>?_)
 ·have rD:j<G.n:=aB;have d:aL w3 w3.drew:=aU.drew (aU.refl _ w3);have v3':=v3.aK d λ_ _=>id;rw[pI j aB,dU,dU];obtain⟨p,hp,hc⟩:=bR (k:=.i) (e:=λx=>x) (v3'.rd eY) (R.hi j rD (dN _));obtain⟨p',hp',Lx⟩:=bR (k:=.i) (e:=λx=>x) (v3'.rd eY) (R.lo j (dN _));have hcb:=pz key G.m j;have hpb:qL (cK key G.m) j+cK key G.m j<=G.m:=by have:=XC (cK key G.m) rD;omega
  have iF:0<=((j+1:Nat):Int)/\((j+1:Nat):Int)<(s2.l:Int):=⟨aB,aB⟩;refine⟨iF,aA hp (aE (k:=.i) (cK key G.m j:Int) hc ⟨⟨aB,aB⟩,aA hp' (aE (k:=.i) (qL (cK key G.m) j:Int) Lx ⟨iF,aA ik ?_⟩)⟩)⟩;rw[iH (n:=(cK key G.m j:Int)+(qL (cK key G.m) j:Int)) aB aB];refine v3'.store eY ik (i:=j+1) (by rw[R.len];omega) ((cK key G.m j:Int)+(qL (cK key G.m) j:Int)) (v:=aD ((cK key G.m j:Int)+(qL (cK key G.m) j:Int))) rfl cV (CI _) λw7 v7 m7 z7=>?_;exact hX _ _ _ aB ⟨j+1,_,rD,rfl,rfl,fr2 (k3.tr d) m7 λk e=>by rw[show k=w1.heap.size from e];exact dN _,v7,R.step rD⟩
 have ej:j=G.n:=aB;subst ej;clear hX X kF hj;refine aE (k:=.slice) g.2.1 (cs k3).2.1 ?_;rw[l2];refine wD iD (aY:=eI) (0:Int) rfl eY aB (lR _) aB aB λw4 v4 k4=>?_;simp only[dU] at v4 ⊢;have K4:=k3.tr k4;have v2':=v3.aK k4 λ_ _=>id;refine IA (v2'.rd eY) (by rw[R.len];omega) λs7 w5 v5 k5 f5=>?_;have K5:=K4.tr k5;have z34:w1.heap.size<w3.heap.size:=by have:=v3.lt ik;exact this
 have hlt4:w3.heap.size<w4.heap.size:=v4.lt rfl;obtain⟨g7,hg7⟩:∃g7,s7.b=some ⟨g7,0,none⟩:=by
  rcases v5.gZ with⟨_,h2⟩|⟨g,_,hb,_⟩
  ·have:=v5.cap;have:=v5.len;have:=R.len;omega
  ·exact⟨g,hb⟩
 have g7lo:w4.heap.size<=g7:=f5 _ hg7;refine aE (k:=.slice) g.2.1 (cs K5).2.1 ?_;have R3:=R.rows3;have l7:=v5.len;rw[R.len] at l7;refine bK (λc t w6=>∃(i:Nat) (nx row:cR),i<=G.m/\c=G.m-i/\t=((i:Int),())/\aL w1 w6/\dE w6 dA 1 eI s7 nx/\dE w6 dA 1 eI ⟨some ⟨w3.heap.size,0,none⟩,G.m,G.m⟩ row/\dE w6 dA 1 eI s2 fs/\Hy key G.n G.m i nx row) G.m
  ⟨0,_,_,cY _,rfl,rfl,K5,v5,v4.aK k5 (λ_ _=>id),v2'.aK k5 (λ_ _=>id),R3⟩ ?_
 clear R3;rintro c t w6 ⟨i,nx,row,hi,rfl,rfl,k6,v7,vr,vs,R3⟩ X hX;dsimp only;refine aI (λcD=>?_) (λkF=>?_)
 ·have dL:i<G.m:=aB;have hE:G.mO (i:Int):=⟨aB,aB⟩;obtain⟨a,ha,hh,_⟩:=(h.aO (k1.tr k6)).kL hE;refine⟨⟨aB,cD⟩,aA ha (aZ (l:=[.i,.i,.i]) (G.fr i,G.to i,G.wt i,()) hh ?_)⟩;refine fM (vs:=[aD (G.fr i),aD (G.to i),aD (G.wt i)]) jV rfl (by simp[Value.oneCell']) λw8 o8 k8 z8=>?_;refine aZ (l:=[.i,.i,.i]) (G.fr i,G.to i,G.wt i,()) (iW o8) ?_;refine hnode i w8 _ hE λw9 k9=>⟨_,rfl,?_⟩;obtain⟨q0,q1⟩:=uK i hE;obtain⟨v0,hv0⟩:∃v0:Nat,key (i:Int)=(v0:Int):=⟨(key i).toNat,aB⟩;have hv0n:v0<G.n:=aB;obtain⟨uJ,Rn⟩:=R3.step dL hkey' hv0n hv0;rw[hv0,dU];have k69:=k8.tr k9;have v7':=v7.aK k69 λ_ _=>id;have vr':=vr.aK k69 λ_ _=>id;have vs':=vs.aK k69 λ_ _=>id;have cI:=R3.nv v0 hv0n;generalize hP:qL (cK key G.m) v0+cK key i v0=P at*;obtain⟨p,hp,hc⟩:=bR (k:=.i) (e:=λx=>x) (v7'.rd eY) cI;have iF:0<=(v0:Int)/\(v0:Int)<(s7.l:Int):=⟨aB,aB⟩;refine⟨iF,aA hp (aE (k:=.i) (P:Int) hc ⟨⟨aB,aB⟩,aA rfl ?_⟩)⟩;rw[dU];refine vr'.store eY rfl (i:=P) (by rw[R3.rl];exact uJ) (i:Int) (v:=aD (i:Int)) rfl cV (CI _) λfG v10 VQ z10=>?_;have m10':aU (λk=>k=w3.heap.size) w9 fG:=VQ;have v7'':=v7'.aK m10' λb hb e=>by rw[hg7] at hb;cases hb;have e':g7=w3.heap.size:=e;omega
  have vs'':=vs'.aK m10' λb hb e=>by rw[ik] at hb;cases hb;have e':w1.heap.size=w3.heap.size:=e;omega
  have De:=(o8.aK k9 id).aK m10' λe=>by have e':w6.heap.size=w3.heap.size:=e;have:=k6.size;have:=vr.lt (a:=⟨w3.heap.size,0,none⟩) rfl;have e'':w3.heap.size<w6.heap.size:=this;omega
  refine aZ (l:=[.i,.i,.i]) (G.fr i,G.to i,G.wt i,()) (iW De) ?_;refine hnode i fG _ hE λeQ LR=>⟨_,rfl,?_⟩;rw[hv0,dU];have v11:=v7''.aK LR λ_ _=>id;obtain⟨p2,Dk,QL⟩:=bR (k:=.i) (e:=λx=>x) (v11.rd eY) cI;refine⟨iF,aA Dk (aE (k:=.i) (P:Int) QL ⟨iF,aA hg7 ?_⟩)⟩;rw[iH (n:=(P:Int)+1) aB aB];refine v11.store eY hg7 (i:=v0) (by rw[R3.nl];omega) ((P:Int)+1) (v:=aD ((P:Int)+1)) rfl cV (CI _) λeO Dc Lu z12=>?_;have lv:aU (λk=>k=g7) eQ eO:=Lu;have z14:w1.heap.size<=w3.heap.size:=Nat.le_of_lt z34;have KK:aL w1 eO:=fr2 ((fr2 (k6.tr k69) m10' λk e=>by rw[show k=w3.heap.size from e];exact z14).tr LR) lv λk e=>by rw[show k=g7 from e];omega
  rw[pI i aB];refine hX _ _ _ aB ⟨i+1,_,_,dL,rfl,rfl,KK,Dc,(v10.aK LR λ_ _=>id).aK lv λb hb e=>?_,(vs''.aK LR λ_ _=>id).aK lv λb hb e=>?_,Rn⟩
  ·cases hb;have e':w3.heap.size=g7:=e;omega
  ·rw[ik] at hb;cases hb;have e':w1.heap.size=g7:=e;omega
 have ei:i=G.m:=aB;subst ei;refine hQ _ _ w6 ⟨fs,row,vs.rd eY,vr.rd eY,R.len,R3.rl,λi hi=>R.lo i hi,λv hv=>R3.done hkey' hv⟩ (k1.tr k6) (λb hb=>?_) (λb hb=>?_) (dE.Md vr ⟨by decide,by decide⟩) (dE.Md vs ⟨by decide,by decide⟩)
 ·cases hb;show W.heap.size<=w3.heap.size;omega
 ·rw[ik] at hb;cases hb;show W.heap.size<=w1.heap.size;omega
def CloneN_i{s:Sl}{xs:List (Int×Int)}{w:aH}{Q:Sl->aH->Prop}(hs:Rd w s 2 eP xs)(hb:xs.length<1000000)(hQ:∀s' w',Rd w' s' 2 eP xs->aL w w'->Ty w' s'->Q s' w'):jO s w Q:=by
 unfold jO;refine aF (λh=>?_) (λh=>?_)
 ·have hn:xs=[]:=by
   cases xs with
   |nil=>rfl
   |cons x r=>obtain⟨a,ha,_⟩:=hs.get 0 x rfl;rw[ha] at h;cases h
  subst hn;exact hQ _ w (Rd.nil _ _ _) (aU.refl _ _) Ty.nil
 ·refine bG λw1 o1 k1 z1=>?_;have v0:dE w1 wu 2 eP ⟨some ⟨w.heap.size,0,none⟩,0,0⟩ []:=dE.new WD [] o1 dP;refine fH Kp WD oneP v0 (hs.aK k1 zC (λ_ _=>id)) (by simp;omega) (by simp;omega) λr w' hr hm Wa _=>?_;exact hQ r w' (by simpa using hr.rd WD) (aU.fresh k1 hm λk ⟨a,ha,hk⟩=>by cases ha;rw[hk];exact dN _) (dE.Md hr ⟨by decide,by decide⟩)
def um{s:Sl}{xs:List (Int×Int)}{w:aH}{Q:Sl->aH->Prop}(hs:Rd w s 2 eP xs)(hb:xs.length<1000000)(hQ:∀s' w',Rd w' s' 2 eP xs->aL w w'->Ty w' s'->Q s' w'):lD s w Q:=by
 unfold lD;refine aF (λh=>?_) (λh=>?_)
 ·have hn:xs=[]:=by
   cases xs with
   |nil=>rfl
   |cons x r=>obtain⟨a,ha,_⟩:=hs.get 0 x rfl;rw[ha] at h;cases h
  subst hn;exact hQ _ w (Rd.nil _ _ _) (aU.refl _ _) Ty.nil
 ·refine bG λw1 o1 k1 z1=>?_;have v0:dE w1 tBan 2 eP ⟨some ⟨w.heap.size,0,none⟩,0,0⟩ []:=dE.new WD [] o1 dP;refine fH Qe WD oneP v0 (hs.aK k1 zC (λ_ _=>id)) (by simp;omega) (by simp;omega) λr w' hr hm Wa _=>?_;exact hQ r w' (by simpa using hr.rd WD) (aU.fresh k1 hm λk ⟨a,ha,hk⟩=>by cases ha;rw[hk];exact dN _) (dE.Md hr ⟨by decide,by decide⟩)
def CloneE_i{s:Sl}{xs:List R3}{w:aH}{Q:Sl->aH->Prop}(hs:Rd w s 3 eR3 xs)(hb:xs.length<1000000)(hQ:∀s' w',Rd w' s' 3 eR3 xs->aL w w'->Ty w' s'->Q s' w'):jP s w Q:=by
 unfold jP;refine aF (λh=>?_) (λh=>?_)
 ·have hn:xs=[]:=by
   cases xs with
   |nil=>rfl
   |cons x r=>obtain⟨a,ha,_⟩:=hs.get 0 x rfl;rw[ha] at h;cases h
  subst hn;exact hQ _ w (Rd.nil _ _ _) (aU.refl _ _) Ty.nil
 ·refine bG λw1 o1 k1 z1=>?_;have v0:dE w1 RE 3 eR3 ⟨some ⟨w.heap.size,0,none⟩,0,0⟩ []:=dE.new GA [] o1 dP;refine fH Kr GA oneR3 v0 (hs.aK k1 Aa (λ_ _=>id)) (by simp;omega) (by simp;omega) λr w' hr hm Wa _=>?_;exact hQ r w' (by simpa using hr.rd GA) (aU.fresh k1 hm λk ⟨a,ha,hk⟩=>by cases ha;rw[hk];exact dN _) (dE.Md hr ⟨by decide,by decide⟩)
def gNew_i{g:GT}{G:Gr}{W:aH}{Q:cW->Int->aH->Prop}(h:JY W g G)(ok:sM G)(hQ:∀H w',vY w' H G->aL W w'->W.heap.size<=H.g->Q (some ⟨H.g,0,none⟩) 0 w'):FJ g W Q:=by
 unfold FJ;have hn:=ok.n1;have hm:=ok.m1;have FP:=ok.bl;unfold Gr.n at hn;unfold Gr.m at hm;refine bG λw1 o1 k1 z1=>?_;refine aZ (l:=[.slice,.slice,.slice]) g (qV (g:=g) o1) ?_;refine gmay_i (g:=g) (h.aO k1) ok λw2 k2=>aF (λh=>by simp at h) (λ_=>?_);have d2:aL w2 w2.drew:=aU.drew (aU.refl _ w2);have GQ:=k2.tr d2;have cs:∀{wx:aH},aL w1 wx->_:=λ{wx} kx=>qM (o1.aK kx id);have c2:=cs GQ;have h2:=h.aO (k1.tr GQ);refine aE (k:=.slice) g.1 c2.1 (aE (k:=.slice) g.2.1 c2.2.1 (aE (k:=.slice) g.2.2.1 c2.2.2 ?_));refine CloneN_i h2.nd aB λs4 w3 r4 k3 t4=>⟨(cs (GQ.tr k3)).2.2,(cs (GQ.tr k3)).2.1,?_⟩;refine CloneE_i (h2.aO k3).ed aB λs5 w4 r5 k4 t5=>⟨(cs ((GQ.tr k3).tr k4)).2.2,?_⟩;refine um ((h2.aO k3).aO k4).bn aB λs6 w5 r6 k5 t6=>?_;have En:=((GQ.tr k3).tr k4).tr k5;refine bG λw6 o6 k6 z6=>?_;have Oe:=En.tr k6;refine aZ (l:=[.slice,.slice,.slice]) g (qV (g:=g) (o1.aK Oe id)) ?_;refine rows_i (key:=G.fr) (g:=g) (h.aO (k1.tr Oe)) ok (λe he=>(ok.ed _ (G.UK he)).1) (λe w K _ hK=>?_) λs7 s8 w7 B7 k7 f7 f8 t7 t8=>?_
 ·refine pU Li iZ (gV (ks:=[.agg [.i,.i,.i]]) (t:=((G.fr e,G.to e,G.wt e,()),())) ?_);show wU _ _ _;unfold wU;exact bG λwa oa ka _=>aE (k:=.i) (G.fr e) (qM oa).1 (hK wa ka)
 have o7:=o6.aK k7 id;have zz:w1.heap.size<=w5.heap.size:=En.size;have lit:∀k,((⟨w5.heap.size,0,none⟩:Addr).add k)=⟨w5.heap.size,k,none⟩:=λk=>by rw[aS,gK]
 rw[lit 3];refine cJ (o:=3) (v:=aW s7) o7 pE dP rfl rfl λw8 o8 m8 _=>?_;rw[lit 5];refine cJ (o:=5) (v:=aW s8) o8 pE dP rfl rfl λw9 o9 m9 _=>?_;have k79:aL w5 w9:=((k6.tr k7).fresh m8 λk e=>by rw[show k=w5.heap.size from e];exact dN _).fresh m9 λk e=>by rw[show k=w5.heap.size from e];exact dN _
 have k19:=En.tr k79;have mK:∀{wx wy:aH},aL w5 wx->aU (λk=>k=w5.heap.size) wx wy->aL w5 wy:=λkx m=>kx.fresh m λk e=>by rw[show k=w5.heap.size from e];exact dN _
 have QJ:=o1.aK k19 id;refine aZ (l:=[.slice,.slice,.slice]) g (qV (g:=g) QJ) ?_;refine rows_i (key:=G.to) (g:=g) (h.aO (k1.tr k19)) ok (λe he=>(ok.ed _ (G.UK he)).2.1) (λe w K _ hK=>?_) λs9 Bh fG B10 JE f9 f10 t9 t10=>?_
 ·refine pU Lh iZ (gV (ks:=[.agg [.i,.i,.i]]) (t:=((G.fr e,G.to e,G.wt e,()),())) ?_);show wT _ _ _;unfold wT;exact bG λwa oa ka _=>aE (k:=.i) (G.to e) (qM oa).2.1 (hK wa ka)
 have De:=o9.aK JE id;rw[lit 4];refine cJ (o:=4) (v:=aW s9) De pE dP rfl rfl λeQ o11 Lv _=>?_;rw[lit 6];refine cJ (o:=6) (v:=aW Bh) o11 pE dP rfl rfl λeO Em Lu _=>?_;have ly:aL w5 eO:=mK (mK (k79.tr JE) Lv) Lu;have kW:aL W eO:=k1.tr (En.tr ly);have nb:∀{wx wy:aH} {row first:Sl} {key:Int->Int},ByN wx row first G.n G.m key->(∀b,row.b=some b->b.block≠w5.heap.size)->(∀b,first.b=some b->b.block≠w5.heap.size)->aU (λk=>k=w5.heap.size) wx wy->ByN wy row first G.n G.m key:=λhB h1 h2 m=>by
  obtain⟨fs,rs,g1,g2,g3⟩:=hB;exact⟨fs,rs,g1.aK m cU λb hb e=>h2 b hb e,g2.aK m cU λb hb e=>h1 b hb e,g3⟩
 have z7:=k7.size;have n7:∀b,s7.b=some b->b.block≠w5.heap.size:=λb hb=>by have:=f7 b hb;omega
 have n8:∀b,s8.b=some b->b.block≠w5.heap.size:=λb hb=>by have:=f8 b hb;omega
 have n9:∀b,s9.b=some b->b.block≠w5.heap.size:=λb hb=>by have:=f9 b hb;omega
 have n10:∀b,Bh.b=some b->b.block≠w5.heap.size:=λb hb=>by have:=f10 b hb;omega
 have b7:=nb (nb (((nb (nb B7 n7 n8 m8) n7 n8 m9)).aO JE) n7 n8 Lv) n7 n8 Lu;have b9:=nb (nb B10 n9 n10 Lv) n9 n10 Lu;have hv12:JY eO (s4,s5,s6,()) G:=⟨((r4.aK k4 zC λ_ _=>id).aK k5 zC λ_ _=>id).aK ly zC λ_ _=>id,(r5.aK k5 Aa λ_ _=>id).aK ly Aa λ_ _=>id,r6.aK ly zC λ_ _=>id⟩;have ty:∀{wx wy:aH} {s:Sl},Ty wx s->(∀b,s.b=some b->b.block≠w5.heap.size)->aU (λk=>k=w5.heap.size) wx wy->Ty wy s:=λh hn m b hb=>by
  obtain⟨t,cs,o,h1⟩:=h b hb;exact⟨t,cs,o.aK m (hn b hb),h1⟩
 have y7:=ty (ty ((ty (ty t7 n7 m8) n7 m9).aO JE) n7 Lv) n7 Lu;have y8:=ty (ty ((ty (ty t8 n8 m8) n8 m9).aO JE) n8 Lv) n8 Lu;have y9:=ty (ty t9 n9 Lv) n9 Lu;have y10:=ty (ty t10 n10 Lv) n10 Lu;exact hQ ⟨w5.heap.size,(s4,s5,s6,()),s7,s9,s8,Bh⟩ eO ⟨ok,Em,hv12,b7,b9,(t4.aO (k4.tr k5)).aO ly,(t5.aO k5).aO ly,t6.aO ly,y7,y9,y8,y10⟩ kW (by show W.heap.size<=w5.heap.size;omega)
end
section
section
variable{w:aH}{H:Sz}{G:Gr}
def Node_i{i:Int}{Q:(Int×Int×Unit)->Bool->aH->Prop}(h:vY w H G)(hi:G.GR i)(hQ:∀w',aL w w'->Q ((G.nd i).1,(G.nd i).2,()) true w'):IQ (some ⟨H.g,0,none⟩) i w Q:=by
 unfold IQ;refine bG λw1 o1 k1 z1=>?_;refine aI (λFW=>aB) (λ_=>?_);have h1:=h.aO k1;refine PE h1 ?_;refine aI (λkF=>aB) (λ_=>?_);refine aA rfl ?_;rw[add_zero];refine aE (k:=.slice) H.v.1 h1.cells.1 ?_;obtain⟨a,ha,hh,_⟩:=Ls h1.val.nd (G.get_nd hi);refine⟨⟨hi.1,by rw[h1.val.nd.len];exact hi.2⟩,aA ha (aZ (l:=[.i,.i]) ((G.nd i).1,(G.nd i).2,()) hh ?_)⟩;refine fJ (vs:=[aD (G.nd i).1,aD (G.nd i).2]) o1 PF rfl (by simp[Value.oneCell']) λw3 o3 m3 _=>?_;exact aZ (l:=[.i,.i]) ((G.nd i).1,(G.nd i).2,()) (iW o3) (hQ w3 (k1.fresh m3 λk e=>by rw[show k=w.heap.size from e];exact dN _))
def way_i{i:Int}{Q:Int->Int->Bool->aH->Prop}(h:vY w H G)(hi:G.mO i)(hQ:∀w',aL w w'->Q ((G.nd (G.to i)).1-(G.nd (G.fr i)).1) ((G.nd (G.to i)).2-(G.nd (G.fr i)).2) true w'):DQ (some ⟨H.g,0,none⟩) i w Q:=by
 unfold DQ;have ok:=h.ok;have he:=ok.ed _ (G.UK hi);have hf:G.GR (G.fr i):=he.1;have ht:G.GR (G.to i):=he.2.1;have rf:=ok.Tg hf;have rt:=ok.Tg ht;refine KE h (λ_ w1 k1=>?_) (λhn=>absurd hi hn);refine fM (vs:=[aD (G.fr i),aD (G.to i),aD (G.wt i)]) jV rfl (by simp[Value.oneCell']) λw3 o3 k3 z3=>?_;refine aE (k:=.i) (G.fr i) (qM o3).1 ?_;have h3:=(h.aO k1).aO k3;refine Node_i h3 hf λw4 k4=>?_;refine fM (vs:=[aD (G.nd (G.fr i)).1,aD (G.nd (G.fr i)).2]) PF rfl (by simp[Value.oneCell']) λw6 o6 k6 z6=>?_;refine aE (k:=.i) (G.to i) (qM ((o3.aK k4 id).aK k6 id)).2.1 ?_;refine Node_i ((h3.aO k4).aO k6) ht λw7 k7=>?_;refine fM (vs:=[aD (G.nd (G.to i)).1,aD (G.nd (G.to i)).2]) PF rfl (by simp[Value.oneCell']) λw9 o9 k9 z9=>?_;have d9:aL w9 w9.drew:=aU.drew (aU.refl _ w9);have n9:=Xe (o9.aK d9 id);have n6:=Xe (((o6.aK k7 id).aK k9 id).aK d9 id);refine aE (k:=.i) (G.nd (G.to i)).1 n9.1 (aE (k:=.i) (G.nd (G.fr i)).1 n6.1 (aE (k:=.i) (G.nd (G.to i)).2 n9.2 (aE (k:=.i) (G.nd (G.fr i)).2 n6.2 ?_)));rw[iH (n:=(G.nd (G.to i)).1-(G.nd (G.fr i)).1) aB aB,iH (n:=(G.nd (G.to i)).2-(G.nd (G.fr i)).2) aB aB];exact hQ _ ((((((k1.tr k3).tr k4).tr k6).tr k7).tr k9).tr d9)
end
def Mirror_i{k:Int}{w:aH}{Q:Int->aH->Prop}(hk:k=2\/k=3\/k=4)(hQ:Q (k+4) w):yU k w Q:=by
 unfold yU;intro J hJ;have hj:J (true,()) w:=by apply hJ;refine aF (λ_=>?_) (λh=>by simp at h);rw[iH (n:=k+4) aB aB];exact hQ
 rcases hk with rfl|rfl|rfl
 ·exact aF (λ_=>hj) (λh=>by simp at h)
 ·exact aF (λh=>by simp at h) (λ_=>aF (λ_=>hj) (λh=>by simp at h))
 ·exact aF (λh=>by simp at h) (λ_=>aF (λh=>by simp at h) (λ_=>hj))
def Tn{n:Int}{w:aH}{Q:Bool->aH->Prop}(h:-4095<=n/\n<=4095)(hQ:Q false w):uQ n w Q:=by
 unfold uQ;refine aI (λh=>aB) (λ_=>?_);rw[decide_eq_false aB];exact hQ
abbrev lk(n:Int):Prop:=-4095<=n/\n<=4095
def Class_i{ax ay bx mP:Int}{w:aH}{Q:Int->aH->Prop}(h1:lk ax)(h2:lk ay)(h3:lk bx)(h4:lk mP)(hQ:Q (Ss ax ay bx mP) w):BM ax ay bx mP w Q:=by
 unfold BM;intro J1 OV;refine Tn h1 (aF (λh=>by simp at h) (λ_=>Tn h2 (aF (λh=>by simp at h) (λ_=>Tn h3 (aF (λh=>by simp at h) (λ_=>Tn h4 (aF (λh=>by simp at h) (λ_=>?_))))))));have tJ:¬((ax=0/\ay=0)\/(bx=0/\mP=0))->J1 () w:=by
  intro hn;apply OV;rw[clsP_eq hn] at hQ;have p1:=Fj h1 h4;have p2:=Fj h2 h3;have p3:=Fj h1 h3;have p4:=Fj h2 h4;have hz:¬(ax*mP-ay*bx=0/\ax*bx+ay*mP=0):=λh=>hn (cross_dot h.1 h.2);rw[iH (n:=ax*mP) aB aB,iH (n:=ay*bx) aB aB,iH (n:=ax*bx) aB aB,iH (n:=ay*mP) aB aB,
   iH (n:=ax*mP-ay*bx) aB aB,iH (n:=ax*bx+ay*mP) aB aB]
  have q1:-33538050<=ax*mP-ay*bx/\ax*mP-ay*bx<=33538050:=aB;have q2:-33538050<=ax*bx+ay*mP/\ax*bx+ay*mP<=33538050:=aB;clear p1 p2 p3 p4 hn;generalize ax*mP-ay*bx=c at*;generalize ax*bx+ay*mP=d at*;rw[iH (n:=0-c) aB aB,iH (n:=0-d) aB aB];have hm:CY c (0-c)=HE c:=by unfold CY HE;split<;>split<;>omega
  have ha:0<=HE c/\HE c<=33538050:=by unfold HE;split<;>omega
  rw[hm,iH (n:=4*HE c) aB aB];have q:∀v,v=St c d->Q v w:=λv hv=>by rw[hv];exact hQ
  intro J2 Rp;have j2:¬(d>0/\4*HE c<=d)->¬(d<0/\4*HE c<=-d)->J2 () w:=by
   intro n1 n2;apply Rp;intro J3 hJ3;have hc0:c≠0:=λe=>by
    subst e;have:HE 0=0:=rfl;rw[this] at n1 n2;omega
   have j3:∀k,(k=2\/k=3\/k=4)->(c<0->k+4=St c d)->(¬c<0->k=St c d)->J3 (k,()) w:=λk hk hl hr=>by
    apply hJ3;exact aI (λh=>Mirror_i hk (q _ (hl h))) (λh=>q _ (hr h))
   have oI:St c d=if c>0/\d>0/\c<=d then 2 else if c>0/\d<0/\c<=-d then 4 else if c>0 then 3 else if d>0/\-c<=d then 6 else if d<0/\-c<=-d then 8 else 7:=by unfold St;rw[if_neg n1,if_neg n2]
   have e2:∀k:Int,(d>0/\HE c<=d/\k=2)\/(d<0/\HE c<=-d/\k=4)\/(¬(d>0/\HE c<=d)/\¬(d<0/\HE c<=-d)/\k=3)->J3 (k,()) w:=λk hk=>by
    have vu:(c<0/\HE c=-c)\/(c>0/\HE c=c):=by unfold HE;split<;>omega
    refine j3 k aB (λhl=>?_) (λhl=>?_)
    ·rw[oI];(repeat' split)<;>omega
    ·rw[oI];(repeat' split)<;>omega
   refine aI (λg1=>aI (λg2=>e2 2 (.inl ⟨g1,g2,rfl⟩)) (λg2=>aI (λg3=>aB) (λg3=>e2 3 (.inr (.inr ⟨λh=>g2 h.2,λh=>g3 h.1,rfl⟩))))) (λg1=>?_);refine aI (λg2=>aI (λg3=>e2 4 (.inr (.inl ⟨g2,aB,rfl⟩))) (λg3=>e2 3 (.inr (.inr ⟨λh=>g1 h.1,λh=>g3 aB,rfl⟩)))) (λg2=>e2 3 (.inr (.inr ⟨λh=>g1 h.1,λh=>g2 h.1,rfl⟩)))
  refine aI (λg1=>aI (λg2=>q _ ?_) (λg2=>aI (λg3=>aB) (λg3=>j2 (λh=>g2 h.2) (λh=>g3 h.1)))) (λg1=>?_)
  ·unfold St;rw[if_pos ⟨g1,g2⟩]
  refine aI (λg2=>aI (λg3=>q _ ?_) (λg3=>j2 (λh=>g1 h.1) (λh=>g3 aB))) (λg2=>j2 (λh=>g1 h.1) (λh=>g2 h.1));unfold St;rw[if_neg (λh=>g1 h.1),if_pos ⟨g2,aB⟩]
 have zero:((ax=0/\ay=0)\/(bx=0/\mP=0))->Q 0 w:=λh=>by
  have:Ss ax ay bx mP=0:=by unfold Ss;rw[if_pos h]
  rw[this] at hQ;exact hQ
 have tb:¬(ax=0/\ay=0)->cond (bx==0) (cond (mP==0) (Q 0 w) (J1 () w)) (J1 () w):=λhn=>by
  refine aF (λg1=>aF (λg2=>zero (.inr ⟨by simpa using g1,by simpa using g2⟩)) (λg2=>tJ λh=>?_)) (λg1=>tJ λh=>?_)
  ·rcases h with h|h
   ·exact hn h
   ·rw[h.2] at g2;simp at g2
  ·rcases h with h|h
   ·exact hn h
   ·rw[h.1] at g1;simp at g1
 refine aF (λg1=>aF (λg2=>zero (.inl ⟨by simpa using g1,by simpa using g2⟩)) (λg2=>tb λh=>?_)) (λg1=>tb λh=>?_)
 ·rw[h.2] at g2;simp at g2
 ·rw[h.1] at g1;simp at g1
def sM.ym{G:Gr}(ok:sM G){i:Int}(hi:G.mO i):lk ((G.nd (G.to i)).1-(G.nd (G.fr i)).1)/\lk ((G.nd (G.to i)).2-(G.nd (G.fr i)).2):=by
 have he:=ok.ed _ (G.UK hi);have rf:=ok.Tg (show G.GR (G.fr i) from he.1);have rt:=ok.Tg (show G.GR (G.to i) from he.2.1);unfold lk;omega
def Of_i{w:aH}{H:Sz}{G:Gr}{a b:Int}{Q:Int->aH->Prop}(h:vY w H G)(ha:G.mO a)(hb:G.mO b)(hQ:∀w',aL w w'->Q (G.Sv a b) w'):QE (some ⟨H.g,0,none⟩) a b w Q:=by
 unfold QE;have r1:=sM.ym h.ok ha;have r2:=sM.ym h.ok hb;refine way_i h ha λw1 k1=>way_i (h.aO k1) hb λw2 k2=>?_;refine aF (λh=>by simp at h) (λ_=>aF (λh=>by simp at h) (λ_=>?_));exact Class_i r1.1 r1.2 r2.1 r2.2 (hQ w2 (k1.tr k2))
end
section
abbrev eS(s:Sl):gJ:=[aW s]
def lenS:∀s:Sl,(eS s).length=1:=λ_=>rfl
def oneS:∀s:Sl,∀u∈eS s,u.oneCell'=true:=by intro s u hu;simp at hu;subst hu;rfl
def eS_ne(s:Sl):eS s≠[]:=by simp
def Tq(w:aH)(s:Sl)(eC:List cR):=∃ss:List Sl,Rd w s 1 eS ss/\ss.length=eC.length/\∀(i:Nat) x r,ss[i]? =some x->eC[i]? =some r->Rd w x 1 eI r
def Tq.get{w:aH}{s:Sl}{eC:List (cR)}(h:Tq w s eC){i:Nat}{r:cR}(hr:eC[i]? =some r):s.l=eC.length/\∃p x,s.b=some p/\w.cell? (p.add (i*1))=some (aW x)/\Rd w x 1 eI r:=by
 obtain⟨ss,h1,h2,h3⟩:=h;have hi:i<ss.length:=by rw[h2];exact(eR.1 hr).1
 obtain⟨p,hp,hc⟩:=bR (k:=.slice) (e:=λx=>x) h1 (cL hi);exact⟨by rw[h1.len,h2],p,ss[i],hp,hc,h3 i _ r (cL hi) hr⟩
def AR(gs:Nat)(ss:List Sl)(k:Nat):=k=gs\/∃x∈ss,∃a,x.b=some a/\k=a.block
structure VV(w:aH)(s:Sl)(gs:Nat)(eC:List cR)(ss:List Sl):Prop where
 sb:s.b=some ⟨gs,0,none⟩
 v:dE w yW 1 eS s ss
 len:ss.length=eC.length
 MF:∀(i:Nat) x r,ss[i]? =some x->eC[i]? =some r->dE w dA 1 eI x r
 Et:∀(i j:Nat) x y a b,i≠j->ss[i]? =some x->ss[j]? =some y->x.b=some a->y.b=some b->a.block≠b.block
 ne:∀x∈ss,∀a,x.b=some a->a.block≠gs
section
variable{w:aH}{s:Sl}{gs:Nat}{eC:List (cR)}{ss:List Sl}
def VV.aK{F:Nat->Prop}{w':aH}(h:VV w s gs eC ss)(m:aU F w w')(hF:∀k,AR gs ss k->¬F k):VV w' s gs eC ss:=
 ⟨h.sb,h.v.aK m λa ha=>by rw[h.sb] at ha;cases ha;exact hF gs (.inl rfl),h.len,λi x r hx hr=>(h.MF i x r hx hr).aK m λa ha=>hF _ (.inr ⟨x,kR hx,a,ha,rfl⟩),h.Et,h.ne⟩
def VV.lt(h:VV w s gs eC ss){k:Nat}(hk:AR gs ss k):k<w.heap.size:=by
 rcases hk with rfl|⟨x,hx,a,ha,rfl⟩
 ·exact h.v.lt h.sb
 ·obtain⟨i,hi⟩:=pJ.1 hx;have hil:i<eC.length:=by rw[<-h.len];exact(eR.1 hi).1
  exact(h.MF i x _ hi (cL hil)).lt ha
def RS(w:aH)(s:Sl)(eC:List cR):=∃ss:List Sl,Rd w s 1 eS ss/\ss.length=eC.length/\(∀(i:Nat) x r,ss[i]? =some x->eC[i]? =some r->Rd w x 1 eI r)/\∀x∈ss,Ty w x
def RS.rd{w:aH}{s:Sl}{eC:List (cR)}(h:RS w s eC):Tq w s eC:=by
 obtain⟨ss,h1,h2,h3,_⟩:=h;exact⟨ss,h1,h2,h3⟩
def RS.aO{w w':aH}{s:Sl}{eC:List (cR)}(h:RS w s eC)(k:aL w w'):RS w' s eC:=by
 obtain⟨ss,h1,h2,h3,h4⟩:=h;exact⟨ss,h1.aK k eS_ne λ_ _=>id,h2,λi x r hx hr=>(h3 i x r hx hr).aK k cU λ_ _=>id,λx hx=>(h4 x hx).aO k⟩
def VV.rt(h:VV w s gs eC ss):RS w s eC:=⟨ss,h.v.rd lenS,h.len,λi x r hx hr=>(h.MF i x r hx hr).rd eY,λx hx=>by
 obtain⟨i,hi⟩:=pJ.1 hx;have hil:i<eC.length:=by rw[<-h.len];exact(eR.1 hi).1
 exact dE.Md (h.MF i x _ hi (cL hil)) ⟨by decide,by decide⟩⟩
def VV.start{n g:Nat}(h:dE w yW 1 eS ⟨some ⟨g,0,none⟩,n,n⟩ (List.replicate n bD)):VV w ⟨some ⟨g,0,none⟩,n,n⟩ g (List.replicate n []) (List.replicate n bD):=by
 have rep:∀{i:Nat} {x:Sl},(List.replicate n (bD:Sl))[i]? =some x->x=bD:=λ{i x} h=>(List.mem_replicate.1 (kR h)).2;refine⟨rfl,h,by simp,λi x r hx hr=>?_,λi j x y a b _ hx _ ha=>?_,λx hx a ha=>?_⟩
 ·rw[rep hx,(List.mem_replicate.1 (kR hr)).2];exact dE.nil _ _ _ _
 ·rw[rep hx] at ha;cases ha
 ·rw[(List.mem_replicate.1 hx).2] at ha;cases ha
def Pq{T f:Nat}{hd:gJ}{i:Nat}{r:cR}{x:Int}{K:aH->Prop}(hT:cX w T Td hd)(hf:hd[f]? =some (aW s))(hTn:¬AR gs ss T)(V:VV w s gs eC ss)(hr:eC[i]? =some r)(hl:r.length<1000)
  (hK:∀w' ss',VV w' s gs (eC.set i (r++[x])) ss'->aU (AR gs ss) w w'->(∀k,AR gs ss' k->AR gs ss k\/w.heap.size<=k)->K w'):
  ZA .slice w.drew ((⟨T,0,none⟩:Addr).add f) λ(s2:Sl)=>aC (some ⟨T,0,none⟩) λa4=>ZA .slice w.drew (a4.add f) λ(s3:Sl)=>(0<=(i:Int)/\(i:Int)<(s3.l:Int))/\aC s3.b λa5=>
   ZA .slice w.drew (a5.add (Int.toNat (i:Int)*1)) λ(s4:Sl)=>aG w.drew #[aD x] dA λa6 fG=>fG.cell? (a5.add (Int.toNat (i:Int)*1))=some (Value.slice s4.b s4.l s4.c)/\fG.cell? (a4.add f)=some (Value.slice s3.b s3.l s3.c)/\
   fG.cell? ((⟨T,0,none⟩:Addr).add f)=some (Value.slice s2.b s2.l s2.c)/\aX prog yW yW s4 (Value.slice (some a6) 1 1) fG λ(s5:Sl) eQ=>eQ.cell? ((⟨T,0,none⟩:Addr).add f)=some (Value.slice s2.b s2.l s2.c)/\(0<=(i:Int)/\(i:Int)<(s2.l:Int))/\
   aC s2.b λa7=>aJ prog yW (a7.add (Int.toNat (i:Int)*1)) (Value.slice s5.b s5.l s5.c) eQ K:=by
 have d:aL w w.drew:=aU.drew (aU.refl _ w);have V1:=V.aK d λ_ _=>id;have T1:=hT.aK d id;have cT:∀{wx:aH},cX wx T Td hd->wx.cell? ((⟨T,0,none⟩:Addr).add f)=some (aW s):=λ{wx} h=>by rw[aS,h.cell,gK];exact hf
 have hir:i<eC.length:=(eR.1 hr).1;have his:i<ss.length:=by rw[V.len];exact hir
 have RA:=V.v.len;have cI:=cL his;have gG:=oF his;generalize ss[i]=y at*;obtain⟨p,hp,hc⟩:=bR (k:=.slice) (e:=λx=>x) (V1.v.rd lenS) cI;rw[V.sb] at hp;cases hp;rw[dU];have iF:0<=(i:Int)/\(i:Int)<(s.l:Int):=⟨aB,aB⟩;refine aE (k:=.slice) s (cT T1) (aA rfl (aE (k:=.slice) s (cT T1) ⟨iF,aA V.sb (aE (k:=.slice) y hc ?_)⟩));refine bG λfG De JE z10=>⟨?_,cT (T1.aK JE id),cT (T1.aK JE id),?_⟩
 ·exact JE.cell hc id
 have V10:=V1.aK JE λ_ _=>id;have vy:=V10.MF i y r cI hr;have vx:dE fG dA 1 eI ⟨some ⟨w.heap.size,0,none⟩,1,1⟩ [x]:=dE.new eY [x] De (by simp[maxLen]);refine fH iD eY CI vy (vx.rd eY) (by simp;omega) (by simp;omega) λs5 eQ v11 Lv f11 _=>?_;have nT:∀a,y.b=some a->T≠a.block:=λa ha e=>hTn (.inr ⟨y,gG,a,ha,e⟩);have T11:=(T1.aK JE id).aK Lv λ⟨a,ha,e⟩=>nT a ha e;have vs11:=V10.v.aK Lv λa ha ⟨b,hb,e⟩=>by rw[V.sb] at ha;cases ha;exact V.ne y gG b hb e.symm
 refine⟨cT T11,iF,aA V.sb ?_⟩;refine vs11.store lenS V.sb (i:=i) his s5 (v:=aW s5) rfl pE (oneS s5) λeO Dc Lu z12=>?_;have lv:aU (λk=>k=gs) eQ eO:=Lu;have hz:w.heap.size<fG.heap.size:=by rw[z10];exact Nat.lt_succ_self _
 have vf:gs<w.heap.size:=V.lt (.inl rfl);have f5:∀b,s5.b=some b->(∃a,y.b=some a/\b.block=a.block)\/w.heap.size<b.block:=λb hb=>by
  rcases f11 with h|⟨b',bW,cD⟩
  ·exact .inl ⟨b,by rw[<-h];exact hb,rfl⟩
  ·rw[hb] at bW;cases bW;exact .inr aB
 have n5:∀b,s5.b=some b->b.block≠gs:=λb hb e=>by
  rcases f5 b hb with⟨a,ha,h⟩|h
  ·exact V.ne y gG a ha (h.symm.trans e)
  ·omega
 have Sb:∀{j:Nat} {z:Sl},(ss.set i s5)[j]? =some z->(j=i/\z=s5)\/(j≠i/\ss[j]? =some z):=λ{j z} h=>by
  rw[jC] at h
  by_cases e:i=j
  ·rw[if_pos e,if_pos aB] at h;cases h;exact .inl ⟨e.symm,rfl⟩
  ·rw[if_neg e] at h;exact .inr ⟨λe'=>e e'.symm,h⟩
 have blt:∀{j:Nat} {z:Sl} {b:Addr},ss[j]? =some z->z.b=some b->b.block<w.heap.size:=λhz hb=>V.lt (.inr ⟨_,kR hz,_,hb,rfl⟩);have m12w:aU (AR gs ss) w eO:=by have h1:aU (AR gs ss) w fG:=(d.tr JE).wk;have h2:aU (AR gs ss) w eQ:=h1.trans Lv λk hk ⟨a,ha,e⟩=>.inr ⟨y,gG,a,ha,e⟩;exact h2.trans lv λk hk e=>.inl e
 refine hK eO (ss.set i s5) ⟨V.sb,Dc,by rw[oE,oE];exact V.len,λj z q hz hq=>?_,λj l z u a b ZH hz hu ha hb=>?_,λz hz a ha=>?_⟩ m12w λk hk=>?_
 ·rcases Sb hz with⟨rfl,rfl⟩|⟨FO,hz⟩
  ·rw[jC,if_pos rfl,if_pos hir] at hq;cases hq;exact v11.aK lv λb hb=>n5 b hb
  ·rw[jC,if_neg (λe=>FO e.symm)] at hq;refine((V10.MF j z q hz hq).aK Lv λb hb ⟨a,ha,e⟩=>V.Et j i z y b a FO hz cI hb ha e).aK lv λb hb=>V.ne z (kR hz) b hb
 ·rcases Sb hz with⟨e1,e2⟩|⟨FO,hz'⟩<;>rcases Sb hu with⟨e3,e4⟩|⟨hli,hu'⟩
  ·exact absurd (e1.trans e3.symm) ZH
  ·rw[e2] at ha;rw[e1] at ZH;rcases f5 a ha with⟨a',mY,h⟩|h
   ·rw[h];exact V.Et _ _ _ _ _ _ ZH cI hu' mY hb
   ·have:=blt hu' hb;omega
  ·rw[e4] at hb;rw[e3] at ZH;rcases f5 b hb with⟨a',mY,h⟩|h
   ·rw[h];exact V.Et _ _ _ _ _ _ ZH hz' cI ha mY
   ·have:=blt hz' ha;omega
  ·exact V.Et _ _ _ _ _ _ ZH hz' hu' ha hb
 ·obtain⟨j,hj⟩:=pJ.1 hz;rcases Sb hj with⟨rfl,rfl⟩|⟨_,hz⟩
  ·exact n5 a ha
  ·exact V.ne z (kR hz) a ha
 ·rcases hk with rfl|⟨z,hz,a,ha,rfl⟩
  ·exact .inl (.inl rfl)
  ·obtain⟨j,hj⟩:=pJ.1 hz;rcases Sb hj with⟨rfl,rfl⟩|⟨_,hz⟩
   ·rcases f5 a ha with⟨a',mY,h⟩|h
    ·exact .inl (.inr ⟨y,gG,a',mY,h⟩)
    ·exact .inr (Nat.le_of_lt h)
   ·exact .inl (.inr ⟨z,kR hz,a,ha,rfl⟩)
end
end
section
structure Mx where
 t:Nat
 H:Sz
 nx:Sl
 pv:Sl
def xn(G:Gr):List cR:=(List.range G.m).map λi:Nat=>G.gR (i:Int)
def prevR(G:Gr):List cR:=(List.range G.m).map λi:Nat=>G.oZ (i:Int)
structure sO(w:aH)(t:Mx)(G:Gr):Prop where
 head:cX w t.t Td [.pointer (some ⟨t.H.g,0,none⟩),aW t.nx,aW t.pv]
 JG:vY w t.H G
 TL:RS w t.nx (xn G)
 prv:RS w t.pv (prevR G)
 Md:∀b,t.nx.b=some b\/t.pv.b=some b->∃cs,cX w b.block yW cs
def sO.aO{w w':aH}{t:Mx}{G:Gr}(h:sO w t G)(k:aL w w'):sO w' t G:=
 ⟨h.head.aK k id,h.JG.aO k,h.TL.aO k,h.prv.aO k,λb hb=>by obtain⟨cs,o⟩:=h.Md b hb;exact⟨cs,o.aK k id⟩⟩
def sO.cells{w:aH}{t:Mx}{G:Gr}(h:sO w t G):w.cell? ((⟨t.t,0,none⟩:Addr).add 0)=some (.pointer (some ⟨t.H.g,0,none⟩))/\w.cell? ((⟨t.t,0,none⟩:Addr).add 1)=some (aW t.nx)/\w.cell? ((⟨t.t,0,none⟩:Addr).add 2)=some (aW t.pv):=qM h.head
def Fa{α:Type}{w:aH}{e:fL}{n:Nat}{aY:α->gJ}{s:Sl}{xs:List α}(h:dE w e n aY s xs){b:Addr}(hb:s.b=some b):∃cs,cX w b.block e cs:=by
 obtain⟨_,_,_,h4⟩:=h;rcases h4 with⟨h5,_⟩|⟨g,cO,h5,h6,_⟩
 ·rw[hb] at h5;cases h5
 ·rw[hb] at h5;cases h5;exact⟨_,h6⟩
structure TSt(W w:aH)(T gn gp hg:Nat)(nx pv:Sl)(rn rp:List cR)(VP VO:List Sl):Prop where
 gZ:cX w T Td [.pointer (some ⟨hg,0,none⟩),aW nx,aW pv]
 vn:VV w nx gn rn VP
 vp:VV w pv gp rp VO
 Et:∀k,AR gn VP k->¬AR gp VO k
 nTn:¬AR gn VP T
 nTp:¬AR gp VO T
 kp:aL W w
 lown:∀k,AR gn VP k->W.heap.size<=k
 lowp:∀k,AR gp VO k->W.heap.size<=k
section
variable{W w:aH}{T gn gp hg:Nat}{nx pv:Sl}{rn rp:List (cR)}{VP VO:List Sl}
def TSt.aO{w':aH}(h:TSt W w T gn gp hg nx pv rn rp VP VO)(k:aL w w'):TSt W w' T gn gp hg nx pv rn rp VP VO:=
 ⟨h.gZ.aK k id,h.vn.aK k λ_ _=>id,h.vp.aK k λ_ _=>id,h.Et,h.nTn,h.nTp,h.kp.tr k,h.lown,h.lowp⟩
def TSt.pushN{w':aH}{rn':List (cR)}{ssn':List Sl}(h:TSt W w T gn gp hg nx pv rn rp VP VO)(v:VV w' nx gn rn' ssn')(m:aU (AR gn VP) w w')(f:∀k,AR gn ssn' k->AR gn VP k\/w.heap.size<=k):
  TSt W w' T gn gp hg nx pv rn' rp ssn' VO:=by
 have hT:=h.gZ.lt;have hk:=h.kp.size;refine⟨h.gZ.aK m h.nTn,v,h.vp.aK m λk hk hn=>h.Et k hn hk,λk hk hp=>?_,λhh=>?_,h.nTp,h.kp.fresh m h.lown,λk lM=>?_,h.lowp⟩
 ·rcases f k hk with h1|h1
  ·exact h.Et k h1 hp
  ·have:=h.vp.lt hp;omega
 ·rcases f T hh with h1|h1
  ·exact h.nTn h1
  ·omega
 ·rcases f k lM with h1|h1
  ·exact h.lown k h1
  ·omega
def TSt.pushP{w':aH}{rp':List (cR)}{ssp':List Sl}(h:TSt W w T gn gp hg nx pv rn rp VP VO)(v:VV w' pv gp rp' ssp')(m:aU (AR gp VO) w w')(f:∀k,AR gp ssp' k->AR gp VO k\/w.heap.size<=k):
  TSt W w' T gn gp hg nx pv rn rp' VP ssp':=by
 have hT:=h.gZ.lt;have hk:=h.kp.size;refine⟨h.gZ.aK m h.nTp,h.vn.aK m λk hn hk=>h.Et k hn hk,v,λk hn hk=>?_,h.nTn,λhh=>?_,h.kp.fresh m h.lowp,h.lown,λk lM=>?_⟩
 ·rcases f k hk with h1|h1
  ·exact h.Et k hn h1
  ·have:=h.vn.lt hn;omega
 ·rcases f T hh with h1|h1
  ·exact h.nTp h1
  ·omega
 ·rcases f k lM with h1|h1
  ·exact h.lowp k h1
  ·omega
end
def MI(G:Gr)(a:Nat)(q:cR)(i:Nat):cR:=if i<a then G.gR (i:Int) else if i=a then q else []
def LX(G:Gr)(a:Nat)(q:cR)(b:Nat):cR:=(kS a).filter (λx=>G.sS x (b:Int))++if(b:Int)∈q then [(a:Int)] else []
def nJ(m:Nat)(f:Nat->cR):List cR:=(List.range m).map f
def Iu{m:Nat}{f:Nat->cR}{i:Nat}(h:i<m):(nJ m f)[i]? =some (f i):=by simp[nJ,h]
def rR{m:Nat}{f g:Nat->cR}(h:∀i,i<m->f i=g i):nJ m f=nJ m g:=List.map_congr_left λi hi=>h i (List.mem_range.1 hi)
def Zb{m:Nat}{f:Nat->cR}{i:Nat}(r:cR):(nJ m f).set i r=nJ m λj=>if j=i then r else f j:=by
 apply yV;intro j;rw[jC];unfold nJ
 by_cases e:i=j
 ·subst e
  by_cases hj:i<m<;>simp[hj]
 ·by_cases hj:j<m
  ·have:¬j=i:=λh=>e h.symm;simp[e,hj,this]
  ·simp[e,hj]
def Zc(m:Nat):List.replicate m []=nJ m λ_=>[]:=by
 apply yV;intro j;unfold nJ
 by_cases hj:j<m<;>simp[hj,Gt]
def outs_next{G:Gr}{a:Int}(ha:G.mO a):(G.Xf (G.to a)).filter (λb=>!decide ((a,b)∈G.B))=G.gR a:=by
 unfold Gr.Xf Gr.gR;rw[List.filter_filter];refine ly3 λb hb=>?_;have bW:=DG.1 hb;unfold Gr.sS;rw[decide_eq_true ha,decide_eq_true (show G.mO b from bW)];simp only[Bool.true_and]
 by_cases e:G.fr b=G.to a
 ·simp[e]
 ·have e':¬G.to a=G.fr b:=λh=>e h.symm;simp[e,e']
def TNew_i{W:aH}{H:Sz}{G:Gr}{Q:cW->aH->Prop}(h:vY W H G)(hQ:∀t w',sO w' t G->t.H=H->aL W w'->Q (some ⟨t.t,0,none⟩) w'):FB (some ⟨H.g,0,none⟩) W Q:=by
 unfold FB;have hm:=h.ok.m1;refine aF (λh=>by simp at h) (λ_=>uB h ?_);have d:aL W W.drew:=aU.drew (aU.refl _ W);intro J hJ;have tJ:∀w2 T gn gp nx pv VP VO,TSt W w2 T gn gp H.g nx pv (List.replicate G.m []) (List.replicate G.m []) VP VO->J (some ⟨T,0,none⟩,()) w2:=by
  intro w2 T gn gp nx pv VP VO st;apply hJ;dsimp only;have e1:(List.replicate G.m ([]:cR))=nJ G.m (MI G 0 []):=by rw[Zc];exact rR λi _=>by unfold MI;rw[if_neg aB];split<;>rfl
  have e2:(List.replicate G.m ([]:cR))=nJ G.m (LX G 0 []):=by rw[Zc];exact rR λi _=>by simp[LX,kS]
  have st0:TSt W w2 T gn gp H.g nx pv (nJ G.m (MI G 0 [])) (nJ G.m (LX G 0 [])) VP VO:=by rw[<-e1,<-e2];exact st
  clear e1 e2 st;refine bK (λc t w3=>∃(a:Nat) (VP VO:List Sl),a<=G.m/\c=G.m-a/\t=((a:Int),())/\TSt W w3 T gn gp H.g nx pv (nJ G.m (MI G a [])) (nJ G.m (LX G a [])) VP VO) G.m ⟨0,VP,VO,cY _,rfl,rfl,st0⟩ ?_;clear st0 VP VO;rintro c t w3 ⟨a,VP,VO,ha,rfl,rfl,st⟩ X hX;dsimp only;refine aI (λcD=>?_) (λkF=>?_)
  ·have mY:a<G.m:=aB;have hE:G.mO (a:Int):=⟨aB,aB⟩;refine KE (h.aO st.kp) (λ_ w4 k4=>?_) (λhn=>absurd hE hn);refine fM (vs:=[aD (G.fr a),aD (G.to a),aD (G.wt a)]) jV rfl (by simp[Value.oneCell']) λw6 o6 k6 z6=>?_;refine aE (k:=.i) (G.to a) (qM o6).2.1 ?_;have VN:=(st.aO k4).aO k6;refine gOut_i (h.aO VN.kp) λs1 w7 v7 k7 f7=>?_;have Dd:=VN.aO k7;have gL:(G.Xf (G.to a)).length<=G.m:=by
    have:=xG (λe=>decide (G.fr e=G.to a)) (kS G.m);rw[rO] at this;exact this
   have hon:=outs_next hE;have JJ:∀b∈G.Xf (G.to a),G.mO b:=λb hb=>DG.1 (jR.1 hb).1;have hnd:(G.Xf (G.to a)).Pairwise λx y=>x<y:=TU _ (Ue G.m);generalize G.Xf (G.to a)=sU at*;have l1:=v7.len;refine bK (λc t w8=>∃(j:Nat) (VP VO:List Sl),j<=sU.length/\c=sU.length-j/\t=((j:Int),())/\(∀b,s1.b=some b->¬AR gn VP b.block/\¬AR gp VO b.block)/\dE w8 dA 1 eI s1 sU/\
     TSt W w8 T gn gp H.g nx pv (nJ G.m (MI G a ((sU.take j).filter λb=>!decide (((a:Int),b)∈G.B)))) (nJ G.m (LX G a ((sU.take j).filter λb=>!decide (((a:Int),b)∈G.B)))) VP VO) sU.length
    ⟨0,VP,VO,cY _,rfl,rfl,λb hb=>⟨λhk=>?_,λhk=>?_⟩,v7,by simpa using Dd⟩ ?_
   ·have:=VN.vn.lt hk;have:=f7 b hb;omega
   ·have:=VN.vp.lt hk;have:=f7 b hb;omega
   clear st VN Dd v7 f7 k7 o6 k6 z6 k4 VP VO;rintro c t w8 ⟨j,VP,VO,hj,rfl,rfl,wZ,v8,st⟩ Y hY;dsimp only;refine aI (λHC=>?_) (λhge'=>?_)
   ·have rD:j<sU.length:=aB;have cI:=cL rD;have hbE:=JJ _ (oF rD);have sZ:sU.take (j+1)=sU.take j++[sU[j]]:=oH rD;have Sf:sU[j]∉sU.take j:=λhm=>by
     obtain⟨i,hi⟩:=pJ.1 hm;have hil:=(eR.1 hi).1;rw[rA] at hil;rw[WC aB] at hi;have:=Xg.1 hnd i j aB rD aB;rw[(eR.1 hi).2] at this;omega
    generalize sU[j]=b at*;obtain⟨p,hp,hc⟩:=bR (k:=.i) (e:=λx=>x) (v8.rd eY) cI;rw[dU];refine⟨⟨aB,HC⟩,aA hp (aE (k:=.i) b hc ?_)⟩;refine bp (h.aO st.kp) λw9 k9=>?_;have st9:=st.aO k9;rw[pI j aB];refine aF (λhb=>?_) (λhb=>?_)
    ·have bW:(!decide (((a:Int),b)∈G.B))=true:=hb;have JK:(sU.take (j+1)).filter (λb=>!decide (((a:Int),b)∈G.B))=(sU.take j).filter (λb=>!decide (((a:Int),b)∈G.B))++[b]:=by
      rw[sZ,TV];simp[bW]
     have hql:((sU.take j).filter λb=>!decide (((a:Int),b)∈G.B)).length<=51:=by have:=xG (λb=>!decide (((a:Int),b)∈G.B)) (sU.take j);rw[rA] at this;omega
     have hqn:b∉(sU.take j).filter (λb=>!decide (((a:Int),b)∈G.B)):=λhm=>Sf (jR.1 hm).1;generalize (sU.take j).filter (λb=>!decide (((a:Int),b)∈G.B))=q at*;refine aA rfl ?_;refine Pq (f:=1) (r:=MI G a q a) (x:=b) st9.gZ rfl st9.nTn st9.vn (Iu mY) (by unfold MI;rw[if_neg aB,if_pos rfl];omega) λeO ssn' Dc Lu f12=>?_;have lj:=st9.pushN Dc Lu f12;obtain⟨bn,rfl⟩:∃bn:Nat,b=(bn:Int):=⟨b.toNat,by have:=hbE.1;omega⟩;have hbn:bn<G.m:=by have:=hbE.2;omega
     have hpl:(LX G a q bn).length<1000:=by
      have:=xG (λx=>G.sS x (bn:Int)) (kS a);rw[rO] at this;unfold LX;rw[fN]
      split<;>simp<;>omega
     refine aA rfl ?_;refine Pq (f:=2) (r:=LX G a q bn) (x:=(a:Int)) lj.gZ rfl lj.nTp lj.vp (Iu hbn) hpl λgB ssp' v15 Gd f15=>?_;have st15:=lj.pushP v15 Gd f15;have h9:=k9.size;have Gj:=Lu.size;refine hY (sU.length-(j+1)) _ _ aB ⟨j+1,ssn',ssp',rD,rfl,rfl,λb' bW=>⟨λhk=>?_,λhk=>?_⟩,((v8.aK k9 λ_ _=>id).aK Lu λb' bW=>(wZ b' bW).1).aK Gd λb' bW=>(wZ b' bW).2,?_⟩
     ·rcases f12 _ hk with h1|h1
      ·exact(wZ b' bW).1 h1
      ·have:=v8.lt bW;omega
     ·rcases f15 _ hk with h1|h1
      ·exact(wZ b' bW).2 h1
      ·have:=v8.lt bW;omega
     ·rw[JK];have e1:(nJ G.m (MI G a q)).set a (MI G a q a++[(bn:Int)])=nJ G.m (MI G a (q++[(bn:Int)])):=by
       rw[Zb];refine rR λi _=>?_
       by_cases e:i=a
       ·subst e;simp[MI]
       ·rw[if_neg e];unfold MI;simp[e]
      have e2:(nJ G.m (LX G a q)).set bn (LX G a q bn++[(a:Int)])=nJ G.m (LX G a (q++[(bn:Int)])):=by
       rw[Zb];refine rR λi _=>?_
       by_cases e:i=bn
       ·subst e;simp[LX,hqn]
       ·have e':¬((i:Int)=(bn:Int)):=aB;rw[if_neg e];unfold LX;simp[e']
      rw[<-e1,<-e2];exact st15
    ·have bW:(!decide (((a:Int),b)∈G.B))=false:=hb;have JK:(sU.take (j+1)).filter (λb=>!decide (((a:Int),b)∈G.B))=(sU.take j).filter (λb=>!decide (((a:Int),b)∈G.B)):=by
      rw[sZ,TV];simp at bW;simp[bW]
     refine hY (sU.length-(j+1)) _ _ aB ⟨j+1,VP,VO,rD,rfl,rfl,wZ,v8.aK k9 λ_ _=>id,by rw[JK];exact st9⟩
   ·have ej:j=sU.length:=aB;subst ej;rw[oV,hon] at st;rw[pI a aB];refine hX _ _ _ aB ⟨a+1,VP,VO,mY,rfl,rfl,?_⟩;have e1:nJ G.m (MI G a (G.gR a))=nJ G.m (MI G (a+1) []):=rR λi _=>by
     unfold MI
     by_cases h1:i<a
     ·rw[if_pos h1,if_pos aB]
     ·by_cases h2:i=a
      ·subst h2;rw[if_neg h1,if_pos rfl,if_pos aB]
      ·rw[if_neg h1,if_neg h2,if_neg aB];split<;>rfl
    have e2:nJ G.m (LX G a (G.gR a))=nJ G.m (LX G (a+1) []):=rR λi _=>by
     unfold LX;rw[xS,TV];simp only[G.tM,List.not_mem_nil,if_false,rF];congr 1
     by_cases e:G.sS (a:Int) (i:Int)=true<;>simp[e]
    rw[<-e1,<-e2];exact st
  ·have ea:a=G.m:=aB;subst ea;refine hQ ⟨T,H,nx,pv⟩ w3 ⟨st.gZ,h.aO st.kp,?_,?_,λb hb=>hb.elim (Fa st.vn.v) (Fa st.vp.v)⟩ rfl st.kp
   ·have e:xn G=nJ G.m (MI G G.m []):=rR λi hi=>by unfold MI;rw[if_pos hi]
    rw[e];exact st.vn.rt
   ·have e:prevR G=nJ G.m (LX G G.m []):=rR λi hi=>by unfold LX Gr.oZ;simp
    rw[e];exact st.vp.rt
 have mk2:∀w1 (K:WQ Sl),(∀w2,dE w2 yW 1 eS ⟨some ⟨w1.heap.size,0,none⟩,G.m,G.m⟩ (List.replicate G.m bD)->aL w1 w2->K ⟨some ⟨w1.heap.size,0,none⟩,G.m,G.m⟩ w2)->fE prog tssInt (aD (G.m:Int)) (aD (G.m:Int)) w1 K:=λw1 K hK=>by
  refine wD se (aY:=eS) (bD:Sl) rfl lenS aB (lR _) aB aB λw2 v2 k2=>?_;simp only[dU] at v2 ⊢;exact hK w2 v2 k2
 have dI:∀{g k:Nat},AR g (List.replicate G.m bD) k->k=g:=λ{g k} hk=>by
  rcases hk with h1|⟨x,hx,a,ha,_⟩
  ·exact h1
  ·rw[(List.mem_replicate.1 hx).2] at ha;cases ha
 have dz:W.heap.size<=W.drew.heap.size:=d.size;refine⟨mk2 _ _ λjU v16 Oe=>mk2 _ _ λmG v17 Od=>bG λqE o18 iw z18=>?_,mk2 _ _ λjU v16 Oe=>mk2 _ _ λmG v17 Od=>bG λqE o18 iw z18=>?_⟩
 all_goals
  have l16:W.drew.heap.size<jU.heap.size:=v16.lt rfl;have l17:jU.heap.size<mG.heap.size:=v17.lt rfl;have V16:=VV.start ((v16.aK Od λ_ _=>id).aK iw λ_ _=>id);have V17:=VV.start (v17.aK iw λ_ _=>id);have KK:=((d.tr Oe).tr Od).tr iw
 ·exact tJ qE mG.heap.size W.drew.heap.size jU.heap.size _ _ _ _ ⟨o18,V16,V17,λk h1 h2=>by have:=dI h1;have:=dI h2;omega,λh1=>by have:=dI h1;omega,λh1=>by have:=dI h1;omega,KK,λk h1=>by have:=dI h1;omega,λk h1=>by have:=dI h1;omega⟩
 ·exact tJ qE mG.heap.size jU.heap.size W.drew.heap.size _ _ _ _ ⟨o18,V17,V16,λk h1 h2=>by have:=dI h1;have:=dI h2;omega,λh1=>by have:=dI h1;omega,λh1=>by have:=dI h1;omega,KK,λk h1=>by have:=dI h1;omega,λk h1=>by have:=dI h1;omega⟩
end
section
def some_i{l:Sl}{m:Nat}{f:Nat->cR}{e:Int}{w:aH}{Q:Sl->aH->Prop}(h:Tq w l (nJ m f))(hm:m<=51)(hf:∀i,i<m->(f i).length<=1000)
  (hQ:∀s w' r,(¬(0<=e/\e<m)->r=[])->(0<=e/\e<m->r=f e.toNat)->dE w' dA 1 eI s r->aL w w'->(∀b,s.b=some b->w.heap.size<=b.block)->Q s w'):wK l e w Q:=by
 unfold wK;have hl:l.l=m:=by obtain⟨ss,h1,h2,_⟩:=h;rw[h1.len,h2];simp[nJ]
 have nil:¬(0<=e/\e<m)->Q bD w:=λhn=>hQ _ w [] (λ_=>rfl) (λh=>absurd h hn) (dE.nil _ _ _ _) (aU.refl _ _) λb hb=>by cases hb
 refine aI (λh=>nil λhn=>aB) (λh0=>aI (λh=>nil λhn=>aB) (λh1=>?_));have he:0<=e/\e<m:=⟨aB,aB⟩;have hi:e.toNat<m:=aB;obtain⟨_,p,x,hp,hc,hr⟩:=h.get (Iu hi);refine⟨⟨he.1,aB⟩,aA hp (aE (k:=.slice) x hc ?_)⟩;refine fH iD eY CI (dE.nil w dA 1 eI) hr (by have:=hf _ hi;simp;omega) (by have:=hf _ hi;simp;omega) λr w' hv hm hb _=>?_;refine hQ r w' (f e.toNat) (λh=>absurd he h) (λ_=>rfl) (by simpa using hv) ((aU.refl _ w).fresh hm λk ⟨a,ha,_⟩=>by cases ha) λb bW=>?_;rcases hb with h1|⟨a,ha,cD⟩
 ·rw[bW] at h1;cases h1
 ·rw[bW] at ha;cases ha;exact cD
section
variable{w:aH}{t:Mx}{G:Gr}
def Next_i{e:Int}{Q:Sl->aH->Prop}(h:sO w t G)(hQ:∀s w',dE w' dA 1 eI s (G.gR e)->aL w w'->(∀b,s.b=some b->w.heap.size<=b.block)->Q s w'):IH (some ⟨t.t,0,none⟩) e w Q:=by
 unfold IH;refine aF (λh=>by simp at h) (λ_=>aA rfl (aE (k:=.slice) t.nx h.cells.2.1 ?_));refine some_i (f:=λi:Nat=>G.gR (i:Int)) h.TL.rd h.JG.ok.m1.2 (λi _=>by have:=G.zF (i:Int);have:=h.JG.ok.m1;omega) λs w' r h1 h2 v k f=>?_;have e1:r=G.gR e:=by
  by_cases he:0<=e/\e<G.m
  ·rw[h2 he];show G.gR (e.toNat:Int)=_;rw[kc he.1]
  ·rw[h1 he]
   symm
   unfold Gr.gR;rw[List.filter_eq_nil_iff]
   exactλb _ hb=>he (G.fS.1 hb).1
 rw[e1] at v;exact hQ s w' v k f
def Prev_i{e:Int}{Q:Sl->aH->Prop}(h:sO w t G)(hQ:∀s w',dE w' dA 1 eI s (G.oZ e)->aL w w'->(∀b,s.b=some b->w.heap.size<=b.block)->Q s w'):PV (some ⟨t.t,0,none⟩) e w Q:=by
 unfold PV;refine aF (λh=>by simp at h) (λ_=>aA rfl (aE (k:=.slice) t.pv h.cells.2.2 ?_));refine some_i (f:=λi:Nat=>G.oZ (i:Int)) h.prv.rd h.JG.ok.m1.2 (λi _=>by have:=G.Ze (i:Int);have:=h.JG.ok.m1;omega) λs w' r h1 h2 v k f=>?_;have e1:r=G.oZ e:=by
  by_cases he:0<=e/\e<G.m
  ·rw[h2 he];show G.oZ (e.toNat:Int)=_;rw[kc he.1]
  ·rw[h1 he]
   symm
   unfold Gr.oZ;rw[List.filter_eq_nil_iff]
   exactλb _ hb=>he (G.fS.1 hb).2.1
 rw[e1] at v;exact hQ s w' v k f
def KH{i:Int}{K:Addr->aH->Prop}(h:sO w t G)(hi:G.mO i)(hK:∀a w',w'.cell? (a.add 2)=some (aD (G.wt i))->aL w w'->w.heap.size<=a.block->K a w'):
  jI (some ⟨t.H.g,0,none⟩) i w λ(t2:Int×Int×Int×Unit) (_:Bool) w2=>aG w2 #[aD 0,aD 0,aD 0] RE λa3 w3=>
   aJ prog RE a3 (Value.agg #[(aD t2.1),(aD t2.2.1),(aD t2.2.2.1)]) w3 λw4=>K a3 w4:=by
 refine KE h.JG (λ_ w2 k2=>?_) (λhn=>absurd hi hn);refine fM (vs:=[aD (G.fr i),aD (G.to i),aD (G.wt i)]) jV rfl (by simp[Value.oneCell']) λw4 o4 k4 z4=>?_;exact hK _ w4 (qM o4).2.2 (k2.tr k4) k2.size
def ai{es:Sl}{l:cR}{Q:Int->Bool->aH->Prop}(h:sO w t G)(hr:Rd w es 1 eI l)(hl:l.length<=100000)(hE:∀x∈l,G.mO x)(hQ:∀w',aL w w'->Q (G.oP l) true w'):qH (some ⟨t.t,0,none⟩) es w Q:=by
 unfold qH;have hll:=hr.len;have iF:∀i,i<=l.length->0<=G.oP (l.take i)/\G.oP (l.take i)<=40*i:=λi=>by
  induction i with
  |zero=>intro _;simp[Gr.oP]
  |succ i ih=>intro hi;have:=ih aB;rw[oH (show i<l.length by omega)];have hw:=h.JG.ok.w1 (hE _ (oF (show i<l.length by omega)));unfold Gr.oP at this ⊢;rw[xF,List.sum_append];simp only[Dg,List.map_nil,List.sum_cons,List.sum_nil];omega
 refine bK (λc s w1=>∃i:Nat,i<=l.length/\c=l.length-i/\s=(G.oP (l.take i),(i:Int),())/\aL w w1) l.length ⟨0,cY _,rfl,rfl,aU.refl _ _⟩ ?_;rintro c s w1 ⟨i,hi,rfl,rfl,k1⟩ X hX;dsimp only;refine aI (λcD=>?_) (λkF=>?_)
 ·have dL:i<l.length:=aB;have cI:=cL dL;have hEi:=hE _ (oF dL);have sZ:=oH dL;have hb:=iF i aB;have hw:=h.JG.ok.w1 hEi;generalize l[i]=x at*;obtain⟨p,hp,hc⟩:=bR (k:=.i) (e:=λx=>x) (hr.aK k1 cU λ_ _=>id) cI;rw[dU];have h1:=h.aO k1;refine⟨⟨aB,cD⟩,aA hp (aE (k:=.i) x hc (aF (λh=>by simp at h) (λ_=>aA rfl (aE (k:=.ptr) (some ⟨t.H.g,0,none⟩) h1.cells.1 ?_))))⟩;refine KE h1.JG (λ_ w2 k2=>?_) (λhn=>absurd hEi hn);refine fM (vs:=[aD (G.fr x),aD (G.to x),aD (G.wt x)]) jV rfl (by simp[Value.oneCell']) λw4 o4 k4 z4=>?_;refine aF (λh=>by simp at h) (λ_=>aE (k:=.i) (G.wt x) (qM o4).2.2 ?_);rw[pI i aB,iH (n:=G.oP (l.take i)+G.wt x) aB aB];refine hX _ _ _ aB ⟨i+1,dL,rfl,?_,(k1.tr k2).tr k4⟩;rw[sZ];unfold Gr.oP;simp
 ·have:i=l.length:=aB;subst this;rw[oV];exact hQ w1 k1
def Arcs_i{Q:Sl->aH->Prop}(h:sO w t G)(hQ:∀s w',dE w' iI 4 dY s G.AQ->aL w w'->(∀b,s.b=some b->w.heap.size<=b.block)->Q s w'):PW (some ⟨t.t,0,none⟩) w Q:=by
 unfold PW;have hm:=h.JG.ok.m1;refine aF (λh=>by simp at h) (λ_=>aA rfl (aE (k:=.slice) t.nx h.cells.2.1 ?_));have hnl:t.nx.l=G.m:=by obtain⟨ss,h1,h2,_⟩:=h.TL.rd;rw[h1.len,h2];simp[xn]
 generalize hg:(λa:Int=>(G.gR a).map λb=>(⟨a,b,G.wt b,-1⟩:bP))=g at*;have hG:G.AQ=(kS G.m).flatMap g:=by rw[<-hg];rfl
 have pre:∀a:Nat,a<=G.m->((kS a).flatMap g).length<=2601:=λa ha=>by
  have:=NO g 51 (kS a) λx _=>by rw[<-hg];simp only[lT];have:=G.zF x;omega
  rw[rO] at this;have h2:a*51<=51*51:=QR _ aB;omega
 refine bK (λc s w1=>∃(a:Nat) (o:Sl),a<=G.m/\c=G.m-a/\s=(o,(a:Int),())/\aL w w1/\dE w1 iI 4 dY o ((kS a).flatMap g)/\(∀b,o.b=some b->w.heap.size<=b.block)) G.m
  ⟨0,bD,cY _,rfl,rfl,aU.refl _ _,dE.nil _ _ _ _,λb hb=>by cases hb⟩ ?_
 rintro c s w1 ⟨a,o,ha,rfl,rfl,k1,v1,f1⟩ X hX;dsimp only;refine aI (λcD=>?_) (λkF=>?_)
 ·have mY:a<G.m:=aB;obtain⟨_,p,x,hp,hc,hr⟩:=h.TL.rd.get (i:=a) (r:=G.gR (a:Int)) (by simp[xn,mY]);rw[dU];refine⟨⟨aB,cD⟩,aA hp (aE (k:=.slice) x (k1.cell hc id) ?_)⟩;have We:=G.zF (a:Int);have hnE:∀b∈G.gR (a:Int),G.mO b:=λb hb=>(G.fS.1 (G.tM.1 hb)).2.1;have vj:g (a:Int)=(G.gR (a:Int)).map λb=>(⟨(a:Int),b,G.wt b,-1⟩:bP):=by rw[<-hg]
  generalize G.gR (a:Int)=l at*;have ZG:=hr.len;have uv:=pre a aB;refine bK (λc s w2=>∃(j:Nat) (o:Sl),j<=l.length/\c=l.length-j/\s=(o,(j:Int),())/\aL w w2/\dE w2 iI 4 dY o ((kS a).flatMap g++(l.take j).map λb=>(⟨(a:Int),b,G.wt b,-1⟩:bP))/\(∀b,o.b=some b->w.heap.size<=b.block)) l.length
   ⟨0,o,cY _,rfl,rfl,k1,by simpa using v1,f1⟩ ?_
  clear v1 f1 k1;rintro c s w2 ⟨j,o,hj,rfl,rfl,k2,v2,f2⟩ Y hY;dsimp only;refine aI (λWE=>?_) (λXk=>?_)
  ·have rD:j<l.length:=aB;have cI:=cL rD;have hEj:=hnE _ (oF rD);have sZ:=oH rD;generalize l[j]=b at*;obtain⟨q,hq,hcq⟩:=bR (k:=.i) (e:=λx=>x) (hr.aK k2 cU λ_ _=>id) cI;rw[dU];have h2:=h.aO k2;refine⟨⟨aB,WE⟩,aA hq (aE (k:=.i) b hcq (aA rfl (aE (k:=.ptr) (some ⟨t.H.g,0,none⟩) h2.cells.1 ?_)))⟩;refine KH h2 hEj λad w5 hc5 k5 hb5=>?_;refine aE (k:=.i) (G.wt b) hc5 ?_;refine bG λw6 o6 k6 z6=>?_;have v6:=(v2.aK k5 λ_ _=>id).aK k6 λ_ _=>id;have vx:dE w6 iI 4 dY ⟨some ⟨w5.heap.size,0,none⟩,1,1⟩ [(⟨(a:Int),b,G.wt b,-1⟩:bP)]:=dE.new jS [_] o6 (by simp[maxLen]);have h56:=k5.tr k6;have hz5:=k5.size;have hz2:=k2.size;have gL:((kS a).flatMap g++(l.take j).map λb=>(⟨(a:Int),b,G.wt b,-1⟩:bP)).length<=3000:=by rw[fN,lT,rA];omega
   refine fH jW jS Ds v6 (vx.rd jS) (by show _+1<=_;omega) (by show(_+1)*32<=_;omega) λr w7 v7 m7 f7 _=>?_;have K7:aL w w7:=(k2.tr h56).fresh m7 λk ⟨b',bW,e⟩=>by rw[e];exact f2 b' bW
   rw[pI j aB];refine hY _ _ _ aB ⟨j+1,r,rD,rfl,rfl,K7,?_,λb' bW=>?_⟩
   ·rw[sZ,xF,<-sV];exact v7
   ·rcases f7 with h1|⟨a',mY,HC⟩
    ·exact f2 b' (by rw[<-h1];exact bW)
    ·rw[bW] at mY;cases mY;omega
  ·have ej:j=l.length:=aB;subst ej;rw[oV,<-vj] at v2;rw[pI a aB];exact hX _ _ _ aB ⟨a+1,o,mY,rfl,rfl,k2,by rw[xS,HA];simpa using v2,f2⟩
 ·have:a=G.m:=aB;subst this;exact hQ o w1 (by rw[hG];exact v1) k1 f1
end
end
section
abbrev eH(h:MY):gJ:=[aD h.cls,aD h.kL,aD h.pL,aD h.left]
abbrev Sp(h:MY):Int×Int×Int×Int×Unit:=(h.cls,h.kL,h.pL,h.left,())
def oneH(h:MY):∀u∈eH h,u.oneCell'=true:=by intro u hu;simp at hu;rcases hu with rfl|rfl|rfl|rfl<;>rfl
def Oq{w:aH}{b:Nat}{e:fL}{h:MY}(o:cX w b e (eH h)):bQ w ⟨b,0,none⟩ 0 (rJ [.i,.i,.i,.i] (Sp h)):=iW o
def Yu{G:Gr}:∀{l:cR} {a:Int},G.CQ a l=true->∀x∈l,G.mO x
 | [],_,_,_,hx=>by cases hx
 |y::l,a,h,x,hx=>by
  simp only[Gr.CQ,tG] at h;rcases jQ.1 hx with rfl|hx
  ·exact(Gr.fS.1 h.1).2.1
  ·exact Yu h.2 x hx
def Ip{G:Gr}(ok:sM G){l:cR}(hE:∀x∈l,G.mO x):0<=G.oP l/\G.oP l<=40*l.length:=by
 induction l with
 |nil=>simp[Gr.oP]
 |cons x l ih=>have h1:=ih λy hy=>hE y (by simp[hy]);have h2:=ok.w1 (hE x dP);rw[Gr.Ae];simp only[mH];omega
def wsum_take{G:Gr}{l:cR}{i:Nat}{x:Int}(h:l[i]? =some x):G.oP (l.take (i+1))=G.oP (l.take i)+G.wt x:=by
 obtain⟨hi,hx⟩:=eR.1 h;rw[oH hi,hx];unfold Gr.oP;rw[xF,List.sum_append];simp
section
variable{w:aH}{t:Mx}{G:Gr}
def May_i{a b:Int}{Q:Bool->aH->Prop}(h:sO w t G)(ht:G.sS a b=true)(hQ:∀w',aL w w'->Q true w'):XY (some ⟨t.t,0,none⟩) a b w Q:=by
 unfold XY;obtain⟨ha,hb,vu,hn⟩:=Gr.fS.1 ht;refine aF (λh=>by simp at h) (λ_=>aA rfl (aE (k:=.ptr) (some ⟨t.H.g,0,none⟩) h.cells.1 ?_));refine KE h.JG (λ_ w1 k1=>?_) (λhn=>absurd ha hn);refine fM (vs:=[aD (G.fr a),aD (G.to a),aD (G.wt a)]) jV rfl (by simp[Value.oneCell']) λw3 o3 k3 z3=>?_;have h3:=(h.aO k1).aO k3;refine aA rfl (aE (k:=.ptr) (some ⟨t.H.g,0,none⟩) h3.cells.1 ?_);refine KE h3.JG (λ_ w4 k4=>?_) (λhn=>absurd hb hn);refine fM (vs:=[aD (G.fr b),aD (G.to b),aD (G.wt b)]) jV rfl (by simp[Value.oneCell']) λw6 o6 k6 z6=>?_;refine aF (λ_=>aF (λ_=>?_) (λh=>by simp at h)) (λh=>by simp at h);refine aE (k:=.i) (G.to a) (qM ((o3.aK k4 id).aK k6 id)).2.1 (aE (k:=.i) (G.fr b) (qM o6).1 ?_);have h6:=(h3.aO k4).aO k6;refine aF (λ_=>?_) (λh=>by rw[vu] at h;simp at h);refine aA rfl (aE (k:=.ptr) (some ⟨t.H.g,0,none⟩) h6.cells.1 (bp h6.JG λw7 k7=>?_));rw[decide_eq_false hn];exact hQ w7 ((((k1.tr k3).tr k4).tr k6).tr k7)
def Valid_i{e:Int}{es:Sl}{l:cR}{Q:Bool->aH->Prop}(h:sO w t G)(he:G.mO e)(hw:G.CQ e l=true)(hr:Rd w es 1 eI l)(hl:l.length<=100000)(hQ:∀w',aL w w'->Q true w'):AW (some ⟨t.t,0,none⟩) e es w Q:=by
 unfold AW;have hll:=hr.len;refine aF (λh=>by simp at h) (λ_=>aI (λh=>aB) (λ_=>aA rfl (aE (k:=.ptr) (some ⟨t.H.g,0,none⟩) h.cells.1 (uB h.JG (aI (λh=>aB) (λ_=>?_))))));refine bK (λc s w1=>∃(i:Nat) (a:Int),i<=l.length/\c=l.length-i/\s=(a,(i:Int),())/\aL w w1/\G.CQ a (l.drop i)=true) l.length ⟨0,e,cY _,rfl,rfl,aU.refl _ _,by simpa using hw⟩ ?_;rintro c s w1 ⟨i,a,hi,rfl,rfl,k1,hwa⟩ X hX;dsimp only;refine aI (λcD=>?_) (λkF=>hQ w1 k1);have dL:i<l.length:=aB;have cI:=cL dL;rw[ly4 dL] at hwa;generalize l[i]=x at*;simp only[Gr.CQ,tG] at hwa;obtain⟨p,hp,hc⟩:=bR (k:=.i) (e:=λx=>x) (hr.aK k1 cU λ_ _=>id) cI;rw[dU];refine⟨⟨aB,cD⟩,aA hp (aE (k:=.i) x hc (May_i (h.aO k1) hwa.1 λw3 k3=>?_))⟩;refine aF (λh=>by simp at h) (λ_=>?_);rw[pI i aB];exact hX _ _ _ aB ⟨i+1,x,dL,rfl,rfl,k1.tr k3,hwa.2⟩
def ghint_i{a:Int}{es:Sl}{l:cR}{Q:(yg)->Int->aH->Prop}(h:sO w t G)(ha:G.mO a)(hw:G.CQ a l=true)(hr:Rd w es 1 eI l)(hl:l.length<=100000)(hQ:∀n w',aL w w'->Q (Sp (G.eZ a l)) n w'):
  BG (some ⟨t.t,0,none⟩) a es w Q:=by
 unfold BG;have ok:=h.JG.ok;have hE:=Yu hw;have hll:=hr.len;have lit:∀k,((⟨w.heap.size,0,none⟩:Addr).add k)=⟨w.heap.size,k,none⟩:=λk=>by rw[aS,gK]
 refine bG λw1 o1 k1 z1=>?_;have QJ:cX w1 w.heap.size Hm (eH ⟨0,0,0,0⟩):=o1;refine ai (h.aO k1) (hr.aK k1 cU λ_ _=>id) hl hE λw2 k2=>?_;rw[lit 0,lit 1,lit 2,lit 3];refine cJ (o:=3) (v:=aD (G.oP l)) (QJ.aK k2 id) cV dP rfl rfl λw3 o3 m3 z3=>?_;have up:∀{wx wy:aH},aL w wx->aU (λk=>k=w.heap.size) wx wy->aL w wy:=λkx m=>kx.fresh m λk e=>by rw[show k=w.heap.size from e];exact dN _
 have K3:=up (k1.tr k2) m3;have o3':cX w3 w.heap.size Hm (eH ⟨0,0,0,G.oP l⟩):=o3;have dX:∀w4 (f:MY) n,cX w4 w.heap.size Hm (eH f)->aL w w4->f=G.eZ a l->fI [.i,.i,.i,.i] w4 ⟨w.heap.size,0,none⟩ λ(t2:Int×Int×Int×Int×Unit)=>
   aJ prog Hm ⟨w.heap.size,0,none⟩ (Value.agg #[(aD t2.1),(aD t2.2.1),(aD t2.2.2.1),(aD t2.2.2.2.1)]) w4 λw9=>fI [.i,.i,.i,.i] w9 ⟨w.heap.size,0,none⟩ λ(t3:Int×Int×Int×Int×Unit)=>Q (t3.1,t3.2.1,t3.2.2.1,t3.2.2.2.1,()) n w9:=by
  intro w4 f n o4 k4 hf;refine aZ (l:=[.i,.i,.i,.i]) (Sp f) (Oq o4) ?_;refine fJ (vs:=eH f) o4 BY rfl (oneH f) λw5 o5 m5 _=>?_;refine aZ (l:=[.i,.i,.i,.i]) (Sp f) (Oq o5) ?_;rw[hf];exact hQ n w5 (up k4 m5)
 refine bK (λc s w4=>∃(i:Nat) (b:Int),i<=l.length/\c=l.length-i/\s=(b,(i:Int),())/\aL w w4/\G.mO b/\G.CQ b (l.drop i)=true/\cX w4 w.heap.size Hm (eH ⟨0,0,G.oP (l.take i),G.oP l⟩)/\
  G.kM a l=((G.kM b (l.drop i)).1,(G.kM b (l.drop i)).2.1,G.oP (l.take i)+(G.kM b (l.drop i)).2.2)) l.length ⟨0,a,cY _,rfl,rfl,K3,ha,by simpa using hw,o3',by simp[Gr.oP]⟩ ?_
 rintro c s w4 ⟨i,b,hi,rfl,rfl,k4,hb,hwb,o4,hh⟩ X hX;dsimp only;have h4:=h.aO k4;refine aI (λcD=>?_) (λkF=>?_)
 ·have dL:i<l.length:=aB;have cI:=cL dL;have xu:=wsum_take (G:=G) cI;have hrng:=Ip ok (l:=l.take i) λx hx=>hE x (List.mem_of_mem_take hx);have HC:(l.take i).length=i:=by rw[rA];omega
  rw[ly4 dL] at hwb hh;generalize l[i]=x at*;simp only[Gr.CQ,tG] at hwb;have hxE:=(Gr.fS.1 hwb.1).2.1;have hwx:=ok.w1 hxE;obtain⟨p,hp,hc⟩:=bR (k:=.i) (e:=λx=>x) (hr.aK k4 cU λ_ _=>id) cI;rw[dU];refine⟨⟨aB,cD⟩,aA hp (aE (k:=.i) x hc (Next_i h4 λs1 w5 v5 k5 _=>?_))⟩;have h5:=h4.aO k5;have o5:=o4.aK k5 id;have sl:=v5.len;refine aF (λgQ=>?_) (λheq=>?_)
  ·have ZO:(G.gR b).length≠1:=by
    intro e;rw[sl,e] at gQ;simp at gQ
   rw[show G.kM b (x::l.drop (i+1))=(G.Sv b x,x,0) by simp only[Gr.kM];rw[if_pos ZO]] at hh;refine aA rfl (aE (k:=.ptr) (some ⟨t.H.g,0,none⟩) h5.cells.1 (Of_i h5.JG hb hxE λw6 k6=>?_));refine cJ (o:=0) (v:=aD (G.Sv b x)) (o5.aK k6 id) cV dP rfl rfl λw7 o7 m7 _=>?_;refine cJ (o:=1) (v:=aD x) o7 cV dP rfl rfl λw8 o8 m8 _=>?_;refine dX w8 ⟨G.Sv b x,x,G.oP (l.take i),G.oP l⟩ i o8 (up (up ((k4.tr k5).tr k6) m7) m8) ?_;unfold Gr.eZ;rw[hh];simp
  ·have Sj:(G.gR b).length=1:=by rw[sl] at heq;simp at heq;omega
   rw[show G.kM b (x::l.drop (i+1))=((G.kM x (l.drop (i+1))).1,(G.kM x (l.drop (i+1))).2.1,G.wt x+(G.kM x (l.drop (i+1))).2.2) by rw[Gr.kM,if_neg (by simp[Sj])]] at hh;refine aA rfl (aE (k:=.ptr) (some ⟨t.H.g,0,none⟩) h5.cells.1 (KH h5 hxE λa5 eO c12 GQ _=>?_));have Em:=o5.aK GQ id;have c2:eO.cell? ⟨w.heap.size,2,none⟩=some (aD (G.oP (l.take i))):=by rw[Em.cell];rfl
   refine aE (k:=.i) _ c2 (aE (k:=.i) (G.wt x) c12 ?_);rw[iH (n:=G.oP (l.take i)+G.wt x) aB aB,pI i aB];refine cJ (o:=2) (v:=aD (G.oP (l.take i)+G.wt x)) Em cV dP rfl rfl λiE o13 jy _=>?_;refine hX _ _ _ aB ⟨i+1,x,dL,rfl,rfl,up ((k4.tr k5).tr GQ) jy,hxE,hwb.2,?_,?_⟩
   ·rw[xu];exact o13
   ·rw[hh,xu];simp only[Prod.mk.injEq,true_and];omega
 ·have ei:i=l.length:=aB;subst ei;refine cJ (o:=0) (v:=aD 9) o4 cV dP rfl rfl λw7 o7 m7 _=>?_;refine cJ (o:=1) (v:=aD (-1)) o7 cV dP rfl rfl λw8 o8 m8 _=>?_;refine dX w8 ⟨9,-1,G.oP (l.take l.length),G.oP l⟩ _ o8 (up (up k4 m7) m8) ?_;unfold Gr.eZ;rw[hh,List.drop_length];simp[Gr.kM]
def Hint_i{a:Int}{es:Sl}{l:cR}{Q:(yg)->Bool->aH->Prop}(h:sO w t G)(ha:G.mO a)(hw:G.CQ a l=true)(hr:Rd w es 1 eI l)(hl:l.length<=100000)(hQ:∀w',aL w w'->Q (Sp (G.eZ a l)) true w'):
  wN (some ⟨t.t,0,none⟩) a es w Q:=by
 unfold wN;refine bG λw1 o1 k1 z1=>?_;have QJ:cX w1 w.heap.size Hm (eH ⟨0,0,0,0⟩):=o1;refine Valid_i (h.aO k1) ha hw (hr.aK k1 cU λ_ _=>id) hl λw2 k2=>?_;refine aF (λh=>by simp at h) (λ_=>?_);have K2:=k1.tr k2;refine ghint_i (h.aO K2) ha hw (hr.aK K2 cU λ_ _=>id) hl λn w4 k4=>?_;refine fM (vs:=eH (G.eZ a l)) BY rfl (oneH _) λw6 o6 k6 _=>?_;refine aZ (l:=[.i,.i,.i,.i]) (Sp (G.eZ a l)) (Oq o6) ?_;refine fJ (vs:=eH (G.eZ a l)) (((QJ.aK k2 id).aK k4 id).aK k6 id) BY rfl (oneH _) λw7 o7 m7 _=>?_;refine aZ (l:=[.i,.i,.i,.i]) (Sp (G.eZ a l)) (Oq o7) ?_;exact hQ w7 (((K2.tr k4).tr k6).fresh m7 λk e=>by rw[show k=w.heap.size from e];exact dN _)
end
end
section
abbrev MX:=gT×Sl
abbrev uA(x:MX):gJ:=[aD x.1.kind,aD x.1.pos,aD x.1.JV,aW x.2,aD x.1.lI,aD x.1.eZ.cls,aD x.1.eZ.kL,aD x.1.eZ.pL,aD x.1.eZ.left]
abbrev MT:=Int×Int×Int×Sl×Int×Int×Int×Int×Int×Unit
abbrev GZ(x:MX):MT:=(x.1.kind,x.1.pos,x.1.JV,x.2,x.1.lI,x.1.eZ.cls,x.1.eZ.kL,x.1.eZ.pL,x.1.eZ.left,())
abbrev iu:List CK:=[.i,.i,.i,.slice,.i,.i,.i,.i,.i]
def RM:∀x:MX,(uA x).length=9:=λ_=>rfl
def RK:∀x:MX,∀u∈uA x,u.oneCell'=true:=by intro x u hu;simp at hu;rcases hu with rfl|rfl|rfl|rfl|rfl|rfl|rfl|rfl|rfl<;>rfl
def Tl(x:MX):uA x≠[]:=by simp
def dR{w:aH}{g k:Nat}{e:fL}{cs:gJ}{v:Value}(h:cX w g e cs)(hk:cs[k]? =some v):w.cell? ((⟨g,0,none⟩:Addr).add k)=some v:=by
 rw[aS,gK,h.cell];exact hk
structure HF(w:aH)(P:Nat->Prop)(x:MX):Prop where
 rd:Rd w x.2 1 eI x.1.cF
 Wl:∀b,x.2.b=some b->P b.block/\b.block<w.heap.size
 len:x.1.cF.length<=51
def fU(w:aH)(P:Nat->Prop)(s:Sl)(l:List gT):=∃xs:List MX,Rd w s 9 uA xs/\xs.map (·.1)=l/\(∀b,s.b=some b->P b.block/\b.block<w.heap.size)/\∀x∈xs,HF w P x
def HF.aK{w w':aH}{P F:Nat->Prop}{x:MX}(h:HF w P x)(m:aU F w w')(hF:∀k,P k->¬F k):HF w' P x:=
 ⟨h.rd.aK m cU λb hb=>hF _ (h.Wl b hb).1,λb hb=>⟨(h.Wl b hb).1,pP (h.Wl b hb).2 m.size⟩,h.len⟩
def HF.wk{w:aH}{P P':Nat->Prop}{x:MX}(h:HF w P x)(hP:∀k,P k->k<w.heap.size->P' k):HF w P' x:=
 ⟨h.rd,λb hb=>⟨hP _ (h.Wl b hb).1 (h.Wl b hb).2,(h.Wl b hb).2⟩,h.len⟩
def HF.none{w:aH}{P:Nat->Prop}{p:gT}(h:p.cF=[]):HF w P (p,bD):=
 ⟨by show Rd w _ 1 eI p.cF;rw[h];exact Rd.nil _ _ _,λb hb=>(by cases hb),by show p.cF.length<=51;rw[h];simp⟩
section
variable{w w':aH}{P P' F:Nat->Prop}{s:Sl}{l:List gT}
def fU.aK(h:fU w P s l)(m:aU F w w')(hF:∀k,P k->¬F k):fU w' P s l:=by
 obtain⟨xs,h1,h2,h3,h4⟩:=h;exact⟨xs,h1.aK m Tl λb hb=>hF _ (h3 b hb).1,h2,λb hb=>⟨(h3 b hb).1,pP (h3 b hb).2 m.size⟩,λx hx=>(h4 x hx).aK m hF⟩
def fU.wk(h:fU w P s l)(hP:∀k,P k->k<w.heap.size->P' k):fU w P' s l:=by
 obtain⟨xs,h1,h2,h3,h4⟩:=h;exact⟨xs,h1,h2,λb hb=>⟨hP _ (h3 b hb).1 (h3 b hb).2,(h3 b hb).2⟩,λx hx=>(h4 x hx).wk hP⟩
def fU.aO(h:fU w P s l)(k:aL w w'):fU w' P s l:=h.aK k λ_ _=>id
def fU.nil:fU w P bD []:=⟨[],Rd.nil _ _ _,rfl,λb hb=>(by cases hb),by simp⟩
def fU.len(h:fU w P s l):s.l=l.length:=by
 obtain⟨xs,h1,h2,_⟩:=h;rw[h1.len,<-h2,lT]
def fU.one{g:Nat}{x:MX}(o:cX w g nG (uA x))(hx:HF w P x)(hg:P g):fU w P ⟨some ⟨g,0,none⟩,1,1⟩ [x.1]:=
 ⟨[x],(dE.new RM [x] (by simpa using o) (by simp[maxLen])).rd RM,rfl,λb hb=>by cases hb;exact⟨hg,o.lt⟩,by simpa using hx⟩
def fU.get(h:fU w P s l){i:Nat}{p:gT}(hp:l[i]? =some p):∃a sl,s.b=some a/\HF w P (p,sl)/\bQ w (a.add (i*9)) 0 (rJ iu (GZ (p,sl)))/\∀k v,(uA (p,sl))[k]? =some v->w.cell? ((a.add (i*9)).add k)=some v:=by
 obtain⟨xs,h1,h2,h3,h4⟩:=h;rw[<-h2,oG] at hp;cases hx:xs[i]? with
 |none=>rw[hx] at hp;cases hp
 |some x=>rw[hx] at hp;obtain⟨p',sl⟩:=x;cases hp;obtain⟨a,ha,hh⟩:=h1.get i _ hx;exact⟨a,sl,ha,h4 _ (kR hx),hh,λk v hv=>by have:=jH.1 hh k v hv;rwa[gK] at this⟩
def Jb{g:Nat}{x:MX}{K:Sl->aH->Prop}(o:cX w g nG (uA x))(hx:HF w (λk=>P k/\k≠g) x)(hg:P g)(hn:∀k,w.heap.size<=k->P k)(hs:fU w (λk=>P k/\k≠g) s l)(hl:l.length<=10)
  (hK:∀r w',fU w' P r (x.1::l)->aU (λk=>k=g) w w'->K r w'):aX prog wo wo ⟨some ⟨g,0,none⟩,1,1⟩ (Value.slice s.b s.l s.c) w K:=by
 obtain⟨xs,h1,h2,h3,h4⟩:=hs;have ZG:xs.length=l.length:=by rw[<-h2,lT]
 refine fH Al RM RK (dE.new RM [x] (by simpa using o) (by simp[maxLen])) h1 (by simp;omega) (by simp;omega) λr w' hr hm Wa hrn=>?_;have m:aU (λk=>k=g) w w':=hm.mono λk _ ⟨a,ha,hk⟩=>by cases ha;exact hk
 refine hK r w' ⟨[x]++xs,hr.rd RM,by rw[xF,h2];rfl,λb hb=>⟨?_,hr.lt hb⟩,λy hy=>?_⟩ m
 ·rcases Wa with e|⟨a,ha,LV⟩
  ·rw[hb] at e;cases e;exact hg
  ·rw[hb] at ha;cases ha;exact hn _ LV
 ·have Eo:HF w (λk=>P k/\k≠g) y:=by
   rcases kK.1 hy with hy|hy
   ·rw[mR.1 hy];exact hx
   ·exact h4 y hy
  exact(Eo.aK m λk hk e=>hk.2 e).wk λk hk _=>hk.1
end
end
def UF:prog.underlying 341=some (.map 3 41):=iZ
def unWait:prog.underlying 358=some (.map 3 378):=iZ
def OW:prog.underlying 164=some (.map 3 102):=iZ
def nq:prog.underlying 98=some (.map 102 4):=iZ
abbrev knW:oU:=.agg [.int .i64,.int .i64]
abbrev VK:oU:=.c .slice
abbrev rK:oU:=.c .ptr
abbrev Lw:oU:=.c .bool
def UN:(prog.info? 41).map (·.zero)=some (some (VK.aY (bD:Sl))):=iZ
def ET:(prog.info? 102).map (·.zero)=some (some (rK.aY (none:cW))):=iZ
def bJ.kp{A:As}[bJ A]{w w':aH}{S:BS}(h:A w S)(k:aL w w'):A w' S:=bJ.aK h k λ_ _=>id
def bJ.dr{A:As}[bJ A]{w:aH}{S:BS}(h:A w S):A w.drew S:=bJ.aK h (aU.drew (aU.refl (λ_=>False) w)) λ_ _=>id
def cB(w:aH):aL w w.drew:=aU.drew (aU.refl _ w)
def aP{g:Nat}{e:fL}{cs:gJ}{w:aH}{S:BS}{k:Nat}{v:Value}(h:tE g e cs w S)(hk:cs[k]? =some v):w.cell? ((⟨g,0,none⟩:Addr).add k)=some v:=dR h.1 hk
def qP{t e:fL}{g o:Nat}{cs:gJ}{v:Value}{w:aH}{S:BS}{K:aH->Prop}(h:tE g e cs w S)(hi:(prog.info? t).map (·.size)=some 1)(ho:o<cs.length)(hc:v.cells=#[v])(h1:v.oneCell'=true)
  (hK:∀w',tE g e (cs.set o v) w' S->Up S S w w'->K w'):aJ prog t ((⟨g,0,none⟩:Addr).add o) v w K:=by
 rw[aS,gK];exact cJ h.1 hi ho hc h1 λw' o m _=>hK w' (h.up o m).1 (h.up o m).2
def cM{cs:gJ}{t:fL}{w:aH}{K:Addr->aH->Prop}(h:∀w',tE w.heap.size t cs w' (λk=>k=w.heap.size)->aL w w'->w'.heap.size=w.heap.size+1->K ⟨w.heap.size,0,none⟩ w'):aG w cs.toArray t K:=
 bG λw' o k z=>h w' ⟨o,λ_=>Iff.rfl⟩ k z
def aAc{α:Type}{t e:fL}{n bytes:Nat}{z:gJ}(hE:sW prog t e n bytes z){aY:α->gJ}(gI:∀x,(aY x).length=n)(jL:∀x,∀u∈aY x,u.oneCell'=true)
  {w:aH} {S:BS} {s x:Sl} {xs ys:List α} (h:Sw e n aY s xs w S) (hx:Rd w x n aY ys) (hl:xs.length+ys.length<=1000000) (hb:bytes<=1000) {K:Sl->aH->Prop}
  (hK:∀r w' S',Sw e n aY r (xs++ys) w' S'->Up S S' w w'->K r w'):aX prog t t s (aW x) w K:=by
 have hm:(xs.length+ys.length)*bytes<=1000000*1000:=TS hl hb;refine append_o hE gI jL h.1 hx aB aB λr w' v m hr=>hK r w' _ ⟨v,λ_=>Iff.rfl⟩ ⟨m.mono λk _ hk=>(h.2 k).2 hk,λk hk=>?_⟩;obtain⟨hc,b,hb,rfl⟩:=hk;rcases hr hc with⟨h1,h2⟩|⟨a,h1,h2⟩
 ·exact .inl ((h.2 _).2 ⟨h1,b,h2.symm.trans hb,rfl⟩)
 ·rw[hb] at h1;cases h1;exact .inr h2
def lU{α:Type}{e:fL}{n:Nat}{aY:α->gJ}(gI:∀x,(aY x).length=n){w:aH}{g:Nat}{cs:gJ}(xs:List α){S:BS}(h:tE g e cs w S)(hc:cs=xs.flatMap aY)(hm:xs.length<=1000000):Rd w ⟨some ⟨g,0,none⟩,xs.length,xs.length⟩ n aY xs:=
 (dE.new gI xs (by rw[<-hc];exact h.1) (by simp only[maxLen];omega)).rd gI
def Ez{α:Type}{e:fL}{n:Nat}{aY:α->gJ}{w:aH}:Sw e n aY bD ([]:List α) w (λ_=>False):=⟨(dE.nil _ _ _ _).veo,λk=>⟨False.elim,λh=>h.1 rfl⟩⟩
end Go.Proofs.YtihggjgakbgomaaGreat
namespace Go.Proofs.YtihggjgakbgomaaGreat
open Go Go.Den Go.Proofs
def sortsIn(m:Nat):AnyZI.SortsIn Tryz.prog Cb Fence.wide m:=
  ⟨λWl off cap ss W hH CJ QK=>callsIn_wide.2 (AnyM.slices_Sort_int sortA Wl off cap ss W hH CJ QK),
   λp cap W=>callsIn_wide.2 (AnyM.slices_Sort_int_none sortA p cap W)⟩
def ri{w w':aH}(h:RowKit.Below w.heap.size w w'):aL w w':=⟨h.os,h.tape,h.output,h.size,λk hk _=>h.block k hk⟩
abbrev Rany:Value->Option (DataW Unit×List MemPlace):=λ_=>some (.nil,[])
def vInt:Value->Int
 | .int _ x=>x
 |_=>0
def owns_of{kn:oU}{w:aH}{r n:Nat}{f:Int->Option kn.T}(h:kT w r FQ kn f n)(hr:∀x,(f x).isSome=true->-9223372036854775808<=x/\x<=9223372036854775807)(hn:n<=1000000):
  ∃(D:DataW Unit) (ks:cR),w.ownsMap Tryz.prog 3 Rany r n D/\Maps.size D=n/\(intKeys D).Perm ks/\ks.Nodup/\ks.length=n/\∀x,x∈ks↔(f x).isSome=true:=by
 obtain⟨es,c,l,h1,h2,h3,h4,h5,h6,hB⟩:=h;have hel:es.toList.length=l.length:=by have:=congrArg List.length h2;simpa using this
 have hl:es.size=n:=by rw[<-h6,<-hel,Array.length_toList]
 have hks:∀x,x∈l.map (·.1)↔(f x).isSome=true:=λx=>by rw[h5 x,HU]
 have uK:∀e∈es.toList,∃x:Int,e.key=.int .i64 x/\-9223372036854775808<=x/\x<=9223372036854775807:=λe he=>by
  have:e.key∈es.toList.map (·.key):=List.mem_map_of_mem he;rw[h2] at this;obtain⟨p,hp,Rm⟩:=mQ.1 this;have:=hr p.1 ((hks p.1).1 (List.mem_map_of_mem hp));exact⟨p.1,Rm.symm,this.1,this.2⟩
 have u3:Tryz.prog.underlying 3=some (.int .i64):=yn;have BX:∀e∈es.toList,∀x:Int,e.key=.int .i64 x->WideElems.rd Tryz.prog 3 Rany e=some (.int .i64 x,.nil):=λe he x hx=>by
  obtain⟨y,hy,y1,y2⟩:=uK e he;rw[hx] at hy;have hxy:x=y:=by injection hy
  subst hxy;have hw:(Lit.int .i64 x).wf=true:=by
   have m1:IntKind.min .i64=-9223372036854775808:=by decide
   have m2:IntKind.max .i64=9223372036854775807:=by decide
   simp only[Lit.wf,m1,m2,decide_eq_true y1,decide_eq_true y2,Bool.and_self]
  unfold WideElems.rd;simp[keyOf,u3,mapKey,hx,hw]
 refine⟨_,l.map (·.1),⟨es,c,h1,⟨by rw[hl];simp only[maxLen];omega,⟨hB.1,hB.2,by
  rw[h2,show l.map (λp=>FQ p.1)=(l.map (·.1)).map FQ by rw[List.map_map];rfl];exact List.Pairwise.map _ (λa b vu e=>vu (by injection e)) h4⟩,λe he=>by obtain⟨x,hx,_⟩:=uK e he;exact⟨_,BX e he x hx⟩⟩,aB,rfl⟩,?_,?_,h4,by simpa using h6,hks⟩
 ·show(List.foldr DataW.insert [] _).length=n;rw[(WideShapes.sorted_perm _).length_eq];simpa using hl
 ·show(List.map _ (List.foldr DataW.insert [] _)).Perm _;refine((WideShapes.sorted_perm _).map _).trans ?_;rw[List.map_map];have:es.toList.map ((λp:Lit×DataW Unit=>Go.intOf p.1) ∘ WideElems.rg Tryz.prog 3 Rany)=l.map (·.1):=by
   have e1:es.toList.map ((λp:Lit×DataW Unit=>Go.intOf p.1) ∘ WideElems.rg Tryz.prog 3 Rany)=es.toList.map (λe=>vInt e.key):=by refine List.map_congr_left λe he=>?_;obtain⟨x,hx,_⟩:=uK e he;simp only[Function.comp,WideElems.rg,BX e he x hx,Option.getD_some,Go.intOf,hx,vInt]
   have e2:es.toList.map (λe=>vInt e.key)=(es.toList.map (·.key)).map vInt:=by rw[List.map_map];rfl
   rw[e1,e2,h2,List.map_map];exact List.map_congr_left λp _=>rfl
  rw[this]
def yv{w:aH}{oI:Nat}{v:Value}{ks:cR}(h:w.ownsRow oI dA 1 v ks.length (ks.map encZ)):∃s:Sl,v=aW s/\dE w dA 1 eI s ks/\∀b,s.b=some b->oI<=b.block:=by
 obtain⟨h1,h2⟩:=h;rcases h2 with⟨rfl,h2⟩|⟨g,cap,bN,rfl,hb,hg,h3,h4,h5,h6⟩
 ·have:ks=[]:=Mq h2;subst this;exact⟨⟨none,0,0⟩,rfl,dE.nil _ _ _ _,λb hb=>by cases hb⟩
 ·refine⟨⟨some ⟨g,0,none⟩,ks.length,cap⟩,rfl,⟨rfl,h3,h4,.inr ⟨g,bN.toList.drop (ks.length*1),rfl,?_,?_⟩⟩,λb hb=>by cases hb;omega⟩
  ·have e:ks.flatMap eI=bN.toList.take (ks.length*1):=by
    rw[h6];clear h1 h3 h6
    induction ks with
    |nil=>rfl
    |cons a l ih=>rw[FU,Dg,ih];rfl
   rw[e,Mo];exact hg
  ·have e:ks.flatMap eI=bN.toList.take (ks.length*1):=by
    rw[h6];clear h1 h3 h6
    induction ks with
    |nil=>rfl
    |cons a l ih=>rw[FU,Dg,ih];rfl
   rw[e,Mo,Array.length_toList];exact h5
def merge_lt{ss ks:cR}(h:ss.Perm ks)(hn:ks.Nodup):(ss.mergeSort (λx y=>decide (x<=y))).Pairwise (·<·)/\(ss.mergeSort (λx y=>decide (x<=y))).Perm ks:=by
 have p:=(List.mergeSort_perm ss (λx y:Int=>decide (x<=y))).trans h;have s:(ss.mergeSort (λx y=>decide (x<=y))).Pairwise (λa b=>decide (a<=b)=true):=List.pairwise_mergeSort (λa b c h1 h2=>by simp only[decide_eq_true_eq] at*;omega) (λa b=>by simp only[Bool.or_eq_true,decide_eq_true_eq];omega) ss;have nd:(ss.mergeSort (λx y=>decide (x<=y))).Nodup:=p.nodup_iff.2 hn;refine⟨?_,p⟩;have:=List.Pairwise.and s nd;refine this.imp λ{a b} vu=>?_;have h1:=vu.1;have h2:=vu.2;simp only[decide_eq_true_eq] at h1;omega
def SortedB_i{w:aH}{r n:Nat}{f:Int->Option rK.T}{Q:Sl->aH->Prop}(h:kT w r FQ rK f n)(hr:∀x,(f x).isSome=true->-9223372036854775808<=x/\x<=9223372036854775807)(hn:n<=1000000)
  (hQ:∀s ks w',dE w' dA 1 eI s ks->aL w w'->(∀b,s.b=some b->w.heap.size<=b.block)->ks.Pairwise (·<·)->(∀x,x∈ks↔(f x).isSome=true)->ks.length=n->Q s w'):
  lW (some r) w λv w1=>lQ v w1 Q:=by
 obtain⟨D,ks,hown,QK,hp,hnd,gL,hks⟩:=owns_of h hr hn;have FP:=hown.lt;have hseq:SeqGives Fence.wide 2 Tryz.prog 121 #[.pointer (some ⟨w.heap.size,0,none⟩)] encZ (λss=>ss.Perm (intKeys D)) (Maps.size D) (w.alloc (.cells #[.map (some r)] 164)):=
  AnyZI.keys_gives (ρ:=Pv) {keysB with} Fence.wide _ trivial rfl aB w.heap.size r n D _ dP dP (by
   obtain⟨es,LN,hb,Ft,hs,hD⟩:=hown;exact⟨es,LN,(RowKit.Below.heap_alloc _ _ r FP).trans hb,Ft,hs,hD⟩)
 have cK:Calls Tryz.prog 68 #[.map (some r)] w λe w'=>e=.returned (.func (.func 121) #[] #[.pointer (some ⟨w.heap.size,0,none⟩)])/\w'=w.alloc (.cells #[.map (some r)] 164):=
  (callsIn_wide (n:=5)).1 (AnyZI.keys_in keysB Fence.wide 5 trivial rfl (some r) w)
 have cS:=(callsIn_wide (n:=5)).1 (AnyZI.sorted_in sortedA Fence.wide 5 trivial trivial trivial trivial rfl aB (sortsIn _) (enters_of Tryz.func120 iZ rfl) 121 #[.pointer (some ⟨w.heap.size,0,none⟩)] trivial (enters_of Tryz.func121 iZ rfl) _ _ (by rw[QK];simp only[maxLen];omega) (by rw[QK];omega) _ hseq);refine Calls.mono cK ?_;rintro e w' ⟨rfl,rfl⟩;refine⟨_,rfl,?_⟩;show lQ _ _ Q;refine Calls.mono cS ?_;rintro e w2 ⟨v,ss,rfl,hS,pQ,hnil,hb⟩;obtain⟨m1,m2⟩:=merge_lt (hS.trans hp) hnd;have kj:(ss.mergeSort (λx y=>decide (x<=y))).length=ss.length:=(List.mergeSort_perm ss _).length_eq;rw[<-kj] at pQ;obtain⟨s,rfl,hv,hf⟩:=yv pQ;refine⟨_,rfl,?_⟩;show Q ⟨s.b,s.l,s.c⟩ w2;have kk:=ri hb;have ka:aL w (w.alloc (.cells #[.map (some r)] 164)):=aL.alloc w _;exact hQ s _ w2 hv (ka.tr kk) (λb hb=>by have:=hf b hb;simp at this;omega) m1 (λx=>(m2.mem_iff).trans (hks x)) (m2.length_eq.trans gL)
end Go.Proofs.YtihggjgakbgomaaGreat
namespace Go.Proofs.YtihggjgakbgomaaGreat
open Go Go.Den
open Go.IntKind (wrap)
abbrev eU:BitVec 8->gJ:=λb=>[.int .u8 (b.toNat:Int)]
abbrev eUs:Sl×List (BitVec 8)->gJ:=λp=>[aW p.1]
def zj{α:Type}{w:aH}{s:Sl}{aY:α->Value}{xs:List α}(h:Rd w s 1 (λx=>[aY x]) xs)(i:Nat)(x:α)(hx:xs[i]? =some x):∃a,s.b=some a/\w.cell? (a.add (i*1))=some (aY x):=by
 obtain⟨a,ha,hh⟩:=h.get i x hx;exact⟨a,ha,by have:=hh.1;rwa[add_zero] at this⟩
def SF{α:Type}(l:List α)(k:Nat)(h:k<l.length):l.take (k+1)=l.take k++[l[k]]:=by
 rw[oH h]
def poly_int:(2197175160:Int)=(poly.toNat:Int):=by decide
def one_int:(1:Int)=(((1#32).toNat:Nat):Int):=by decide
def byte_xor(c:BitVec 32)(b:BitVec 8):pA .xor .u32 (c.toNat:Int) (wrap .u32 (b.toNat:Int))=(((c^^^b.setWidth 32).toNat:Nat):Int):=by
 have h:wrap .u32 (b.toNat:Int)=(((b.setWidth 32).toNat:Nat):Int):=by rw[IntKind.wrap_u32,BitVec.toNat_setWidth];have:=b.isLt;omega
 rw[h,An]
def not_sum(c:BitVec 32):pA .xor .u32 (if IntKind.signed .u32 then-1 else IntKind.max .u32) (c.toNat:Int)=(((~~~ c).toNat:Nat):Int):=by
 have h:(if IntKind.signed .u32 then-1 else IntKind.max .u32)=(((BitVec.allOnes 32).toNat:Nat):Int):=by decide
 rw[h,An];rw[BitVec.allOnes_xor]
def xorP(c:BitVec 32):pA .xor .u32 (c.toNat:Int) (2197175160:Int)=(((c^^^poly).toNat:Nat):Int):=by
 rw[poly_int,An]
def and1(c:BitVec 32):pA .and .u32 (c.toNat:Int) (1:Int)=if c.getLsbD 0 then 1 else 0:=by
 have:=bitsV_and c 1#32;rw[<-one_int] at this;rw[this,and_one]
def YU(ps:List (Sl×List (BitVec 8)))(k:Nat)(h:k<ps.length):(ps.take (k+1)).flatMap (·.2)=(ps.take k).flatMap (·.2)++ps[k].2:=by
 rw[SF _ _ h,HA];simp
def Cp{parts:Sl}{w:aH}{ps:List (Sl×List (BitVec 8))}{Q:Int->aH->Prop}(hp:Rd w parts 1 eUs ps)(hb:∀p∈ps,Rd w p.1 1 eU p.2)
  (hn:ps.length<9223372036854775807) (FP:∀p∈ps,p.2.length<9223372036854775807) (hQ:Q ((yX (ps.flatMap (·.2))).toNat:Int) w):rW parts w Q:=by
 unfold rW;have gL:=hp.len;refine bK (λn t w'=>∃k,k<=ps.length/\n=ps.length-k/\t=(((EP (BitVec.allOnes 32) ((ps.take k).flatMap (·.2))).toNat:Int),(k:Int),())/\w'=w) ps.length
  ⟨0,cY _,rfl,by simp[EP],rfl⟩ ?_
 rintro n t w' ⟨k,hk,rfl,rfl,rfl⟩ X hX;dsimp only;refine aI (λh=>?_) (λh=>?_)
 ·have lM:k<ps.length:=aB;refine⟨⟨by simp,by simpa using h⟩,?_⟩;obtain⟨a,ha,hc⟩:=zj hp k ps[k] (cL lM);refine aA ha (aE (k:=.slice) ps[k].1 hc ?_);have hr:=hb ps[k] (oF lM);have yZ:=hr.len;have hbk:=FP ps[k] (oF lM);refine bK (λn t Ob=>∃j,j<=ps[k].2.length/\n=ps[k].2.length-j/\t=(((EP (EP (BitVec.allOnes 32) ((ps.take k).flatMap (·.2))) (ps[k].2.take j)).toNat:Int),(j:Int),())/\Ob=w') ps[k].2.length
   ⟨0,cY _,rfl,by simp[EP],rfl⟩ ?_
  rintro n t Ob ⟨j,hj,rfl,rfl,rfl⟩ Y hY;dsimp only;refine aI (λh=>?_) (λh=>?_)
  ·have rD:j<ps[k].2.length:=aB;refine⟨⟨by simp,by simpa using h⟩,?_⟩;obtain⟨a2,ha2,QL⟩:=zj hr j ps[k].2[j] (cL rD);refine aA ha2 (aE (k:=.int .u8) ((ps[k].2[j].toNat:Nat):Int) QL ?_);generalize hc0:EP (EP (BitVec.allOnes 32) ((ps.take k).flatMap (·.2))) (ps[k].2.take j)=c0 at hY ⊢;simp only[byte_xor];refine bK (λn t w3=>∃i,i<=8/\n=8-i/\t=(((RF i (c0^^^ps[k].2[j].setWidth 32)).toNat:Int),(i:Int),())/\w3=Ob) 8
    ⟨0,aB,rfl,by simp[RF],rfl⟩ ?_
   rintro n t w3 ⟨i,hi,rfl,rfl,rfl⟩ Z hZ;dsimp only;refine aI (λh=>?_) (λh=>?_)
   ·have dL:i<8:=aB;refine⟨aB,?_⟩;simp only[and1,shift_one,iH (n:=(i:Int)+1) aB aB];have hs:=Ca i (c0^^^ps[k].2[j].setWidth 32);rw[bq] at hs;refine aF (λh=>?_) (λh=>?_)
    ·refine hZ (8-(i+1)) _ _ aB ⟨i+1,aB,rfl,?_,rfl⟩;have hl:(RF i (c0^^^ps[k].2[j].setWidth 32)).getLsbD 0=true:=by
      cases hl:(RF i (c0^^^ps[k].2[j].setWidth 32)).getLsbD 0
      ·rw[hl] at h;simp at h
      ·rfl
     rw[hs,if_pos hl,xorP];rfl
    ·refine hZ (8-(i+1)) _ _ aB ⟨i+1,aB,rfl,?_,rfl⟩;have hl:¬(RF i (c0^^^ps[k].2[j].setWidth 32)).getLsbD 0=true:=by
      intro hl;rw[if_pos hl] at h;simp at h
     rw[hs,if_neg hl];rfl
   ·have dL:i=8:=aB;subst dL;simp only[iH (n:=(j:Int)+1) aB aB];refine hY (ps[k].2.length-(j+1)) _ _ aB ⟨j+1,aB,rfl,?_,rfl⟩;rw[SF _ _ rD,sk,hc0];simp[oe]
  ·have rD:j=ps[k].2.length:=aB;subst rD;simp only[iH (n:=(k:Int)+1) aB aB];refine hX (ps.length-(k+1)) _ _ aB ⟨k+1,aB,rfl,?_,rfl⟩;rw[YU _ _ lM,Va,oV];simp
 ·have lM:k=ps.length:=aB;subst lM;simp only[not_sum,oV];exact hQ
open Tryz (prog)
section
def Sc:∀b:cH,(eU b).length=1:=λ_=>rfl
def oneU:∀b:cH,∀u∈eU b,u.oneCell'=true:=by intro b u hu;simp at hu;subst hu;rfl
def fV(b:cH):eU b≠[]:=by simp
def pow8(i:Nat):(2:Int)^(8*i)=((256^i:Nat):Int):=by
 rw[show(256:Nat)=2^8 from rfl,<-Nat.pow_mul];norm_cast
def shl8{x:Int}{i:Nat}(hi:i<=7):Int.fdiv x (2^(min (Int.toNat (aQ ((8:Int)*(i:Int)))) (IntKind.bits .i64)))=x/((256^i:Nat):Int):=by
 rw[iH (n:=(8:Int)*(i:Int)) aB aB,show Int.toNat ((8:Int)*(i:Int))=8*i by omega,Nat.min_eq_left (show 8*i<=IntKind.bits .i64 by show 8*i<=64;omega),pow8,Int.fdiv_eq_ediv_of_nonneg _ (Int.natCast_nonneg _)]
def wrap_byte{x:Int}(h:0<=x){i:Nat}(hi:i<=7):wrap .u8 (Int.fdiv x (2^(min (Int.toNat (aQ ((8:Int)*(i:Int)))) (IntKind.bits .i64))))=(((BitVec.ofNat 8 (x.toNat/256^i)).toNat:Nat):Int):=by
 rw[shl8 hi,IntKind.wrap_u8,BitVec.toNat_ofNat];obtain⟨n,rfl⟩:∃n:Nat,x=n:=⟨x.toNat,aB⟩;rw[dU,<-Int.natCast_ediv];generalize n/256^i=m;omega
def Ev(g:Nat)(xs:List cH)(sp:Bool):As:=Ex λsl=>bL (tE g Fe [aW sl,.bool sp]) (Sw Hn 1 eU sl xs)
instance{g:Nat}{xs:List cH}{sp:Bool}:bJ (Ev g xs sp):=by unfold Ev;infer_instance
section
variable{w:aH}{S:BS}{g:Nat}{xs:List cH}{sp:Bool}
def wr_app{sl x:Sl}{ys:List cH}{K:aH->Prop}(h:bL (tE g Fe [aW sl,.bool sp]) (Sw Hn 1 eU sl xs) w S)(hx:Rd w x 1 eU ys)(hl:xs.length+ys.length<=1000000)
  (hK:∀w' S',Ev g (xs++ys) sp w' S'->Up S S' w w'->K w'):aX prog CV CV sl (aW x) w λs2 w1=>aJ prog CV ((⟨g,0,none⟩:Addr).add 0) (aW s2) w1 K:=by
 obtain⟨S2,hv,_,eJ⟩:=(bL.r h).put;refine aAc DO Sc oneU hv hx hl aB λr w1 S2' v1 u1=>?_;obtain⟨S1,h1,U1⟩:=eJ _ _ _ u1 v1;obtain⟨S3,hb,_,HP⟩:=(bL.l h1).put;refine qP hb UQ dP rfl rfl λw2 b2 u2=>?_;obtain⟨S4,h4,U4⟩:=HP _ _ _ u2 b2;exact hK w2 S4 ⟨r,h4⟩ (U1.tr U4)
def Yt{K:aH->Prop}(h:Ev g xs sp w S)(hK:∀w' S',Ev g xs true w' S'->Up S S' w w'->K w'):aJ prog tK ((⟨g,0,none⟩:Addr).add 1) (.bool true) w K:=by
 obtain⟨sl,h⟩:=h;obtain⟨S3,hb,_,HP⟩:=(bL.l h).put;refine qP hb jG dP rfl rfl λw2 b2 u2=>?_;obtain⟨S4,h4,U4⟩:=HP _ _ _ u2 b2;exact hK w2 S4 ⟨sl,h4⟩ U4
def WRaw_i{b:Sl}{bs:List cH}{Q:cW->aH->Prop}(h:Ev g xs sp w S)(hb:Rd w b 1 eU bs)(hl:xs.length+bs.length<=1000000)
  (hQ:∀w' S',Ev g (xs++bs) sp w' S'->Up S S' w w'->Q (some ⟨g,0,none⟩) w'):DK (some ⟨g,0,none⟩) b w Q:=by
 unfold DK;obtain⟨sl,h⟩:=h;obtain⟨S1,h1,_,_⟩:=(bL.l h).put;exact aF (λ_=>aA rfl (aE (k:=.slice) sl (aP h1 rfl) (wr_app h hb hl hQ))) (λh=>by simp at h)
def qh{n:Sl}{ns:cR}{sz:Nat}{Q:cW->aH->Prop}(h:Ev g xs sp w S)(hs:1<=sz/\sz<=7)(hn:Rd w n 1 eI ns)(hnS:∀b,n.b=some b->¬S b.block/\b.block<w.heap.size)(gL:xs.length+ns.length*7<=900000)
  (hQ:∀Lr vN w' S',Ev g Lr vN w' S'->Up S S' w w'->Lr.length<=xs.length+ns.length*7->((∀x∈ns,0<=x/\x.toNat<256^sz)->vN=sp/\Lr=xs++ns.flatMap λx=>be sz x.toNat)->Q (some ⟨g,0,none⟩) w'):aT (some ⟨g,0,none⟩) (sz:Int) n w Q:=by
 unfold aT;have nl:=hn.len;refine aF (λh=>by simp at h) (λ_=>aI (λh=>aB) (λ_=>aI (λh=>aB) (λ_=>?_)));refine bK (λc t w3=>∃(i:Nat) (S3:BS),i<=ns.length/\c=ns.length-i/\t=((i:Int),())/\Ev g (xs++(ns.take i).flatMap λx=>be sz x.toNat) sp w3 S3/\Up S S3 w w3) ns.length ⟨0,S,cY _,rfl,rfl,by simpa using h,Up.refl _ _⟩ ?_;rintro c t w3 ⟨i,S3,hi,rfl,rfl,h3,u3⟩ X hX;dsimp only;have JK:∀l:cR,(l.flatMap λx=>be sz x.toNat).length=l.length*sz:=λl=>by
  induction l with
  |nil=>simp
  |cons a l ih=>rw[FU,fN,ih,pT,mH,Nat.add_mul];omega
 have htl:((ns.take i).flatMap λx=>be sz x.toNat).length<=i*7:=by rw[JK,rA,Nat.min_eq_left hi];exact Nat.mul_le_mul_left _ hs.2
 refine aI (λcD=>?_) (λkF=>?_)
 ·have dL:i<ns.length:=aB;have cI:=cL dL;have gG:=oF dL;have sZ:=oH dL;generalize ns[i]=x at*;obtain⟨b,hb,cb⟩:=bR (k:=.i) (e:=λx=>x) (hn.aK u3.m cU λb hb=>(hnS b hb).1) cI;rw[dU,pI i aB];refine⟨⟨aB,cD⟩,aA hb (aE (k:=.i) x cb (aI (λhx=>aA rfl (Yt h3 λw4 S4 h4 u4=>?_)) (λWv=>⟨by rw[iH aB aB];omega,?_⟩)))⟩
  ·exact hQ _ _ w4 S4 h4 (u3.tr u4) (by rw[fN];omega) λhv=>absurd (hv x gG).1 aB
  ·rw[shl8 hs.2];have uJ:(0:Int)<((256^sz:Nat):Int):=by have:0<256^sz:=Nat.pow_pos aB;omega
   refine aI (λhx=>aA rfl (Yt h3 λw4 S4 h4 u4=>?_)) (λDS=>?_)
   ·refine hQ _ _ w4 S4 h4 (u3.tr u4) (by rw[fN];omega) λhv=>?_;have h1:=hv x gG;have:x/((256^sz:Nat):Int)=0:=Int.ediv_eq_zero_of_lt h1.1 aB;omega
   ·have hx:x.toNat<256^sz:=by
     have h3:x<((256^sz:Nat):Int):=by
      by_cases hh:x<((256^sz:Nat):Int)
      ·exact hh
      ·have:1<=x/((256^sz:Nat):Int):=by rw[Int.le_ediv_iff_mul_le uJ];omega
       omega
     omega
    have QK:aQ ((sz:Int)-1)=(sz:Int)-1:=iH aB aB;rw[QK];refine bK (λc t w6=>∃(j:Nat) (d:List cH) (S6:BS),j<=sz/\c=j/\t=((j:Int)-1,())/\d++be j x.toNat=be sz x.toNat/\Ev g ((xs++(ns.take i).flatMap λx=>be sz x.toNat)++d) sp w6 S6/\Up S S6 w w6) sz ⟨sz,[],S3,dN _,rfl,rfl,rfl,by simpa using h3,u3⟩ ?_;rintro c t w6 ⟨j,d,S6,hj,hcj,rfl,hd,h6,u6⟩ Y hY;dsimp only;have Wg:d.length+j=sz:=by have:=congrArg List.length hd;simp only[fN,pT] at this;exact this
    refine aI (λhj1=>?_) (λhj1=>?_)
    ·obtain⟨j',rfl⟩:∃j',j=j'+1:=⟨j-1,aB⟩;have e1:((j'+1:Nat):Int)-1=(j':Int):=aB;rw[e1];obtain⟨sl,h6⟩:=h6;have h6d:=bJ.dr h6;obtain⟨S7,h7,_,_⟩:=(bL.l h6d).put;refine aA rfl (aE (k:=.slice) sl (aP h7 rfl) ⟨by rw[iH aB aB];omega,?_⟩);rw[wrap_byte aB aB];refine cM (cs:=eU (BitVec.ofNat 8 (x.toNat/256^j'))) λw7 b7 k7 z7=>⟨aP (bJ.kp h7 k7) rfl,?_⟩;refine wr_app (x:=⟨some ⟨w6.drew.heap.size,0,none⟩,1,1⟩) (bJ.kp h6d k7) (lU Sc [_] b7 rfl dP) (by simp only[fN,mH,TW];omega) λw8 S8 h8 u8=>?_;refine hY j' _ _ aB ⟨j',d++[BitVec.ofNat 8 (x.toNat/256^j')],S8,aB,rfl,?_,?_,by rw[sV] at h8;exact h8,u6.tr ((Up.aO ((cB w6).tr k7)).tr u8)⟩
     ·rw[iH aB aB]
     ·rw[sV];exact hd
    ·have hj0:j=0:=aB;subst hj0;simp only[be,rF] at hd;subst hd;refine hX (ns.length-(i+1)) _ _ aB ⟨i+1,S6,aB,rfl,rfl,?_,u6⟩;rw[sZ,HA,List.flatMap_singleton,<-sV];exact h6
 ·have ei:i=ns.length:=aB;subst ei;rw[oV] at h3 htl;exact hQ _ _ w3 S3 h3 u3 (by rw[fN];omega) λ_=>⟨rfl,rfl⟩
end
def wJ{s:Sl}{xs:List cH}{w:aH}{Q:Sl->aH->Prop}(hs:Rd w s 1 eU xs)(hb:xs.length<=1000000)
  (hQ:∀r w' S',Sw Hn 1 eU r xs w' S'->aL w w'->(∀k,S' k->w.heap.size<=k)->EG 1 eU r xs w' (λk=>∃b,r.b=some b/\k=b.block)->(∀b,r.b=some b->w.heap.size<=b.block)->Q r w'):cG s w Q:=by
 unfold cG;refine aF (λh=>?_) (λh=>?_)
 ·have hn:xs=[]:=by
   cases xs with
   |nil=>rfl
   |cons x r=>obtain⟨a,ha,_⟩:=hs.get 0 x rfl;rw[ha] at h;simp at h
  subst hn;exact hQ _ w _ Ez (aU.refl _ _) (λk h=>h.elim) ⟨Rd.nil _ _ _,fV,λb hb=>(by cases hb),λk=>Iff.rfl⟩ λb hb=>by cases hb
 ·refine cM (cs:=[]) λw1 b1 k1 z1=>?_;have hv:dE w1 Hn 1 eU ⟨some ⟨w.heap.size,0,none⟩,0,0⟩ ([]:List cH):=dE.new Sc [] b1.1 (by simp[maxLen]);refine fH DO Sc oneU hv (hs.aK k1 fV λ_ _=>id) (by simp;omega) (by simp;omega) λr w2 v2 m2 hr _=>?_;have fr:∀b,r.b=some b->w.heap.size<=b.block:=λb hb=>by
   rcases hr with h|⟨a,h,h2⟩
   ·rw[hb] at h;cases h;exact dN _
   ·rw[hb] at h;cases h;omega
  rw[List.nil_append] at v2;exact hQ r w2 _ ⟨v2.veo,λ_=>Iff.rfl⟩ (k1.fresh m2 λk ⟨a,ha,e⟩=>by cases ha;rw[e];exact dN _) (λk ⟨_,b,hb,e⟩=>by rw[e];exact fr b hb) ⟨v2.rd Sc,fV,λb hb=>v2.lt hb,λ_=>Iff.rfl⟩ fr
def aAo{w:aH}{S:BS}{g:Nat}{xs:List cH}{sp:Bool}{Q:Sl->Int->aH->Prop}(h:Ev g xs sp w S)(hb:xs.length<=1000000)
  (hQ:∀r w',aL w w'->EG 1 eU r (if sp then [] else xs) w' (λk=>∃b,r.b=some b/\k=b.block)->(∀b,r.b=some b->w.heap.size<=b.block)->Q r (if sp then 1 else 0) w'):pX (some ⟨g,0,none⟩) w Q:=by
 unfold pX;obtain⟨sl,h⟩:=h;obtain⟨S1,h1,_,_⟩:=(bL.l h).put;obtain⟨S2,h2,_,_⟩:=(bL.r h).put;refine aF (λh=>by simp at h) (λ_=>aA rfl (aE (k:=.bool) sp (aP h1 rfl) (aF (λhs=>?_) (λhs=>?_))))
 ·have GO:sp=true:=hs;subst GO;exact hQ bD w (aU.refl _ _) ⟨Rd.nil _ _ _,fV,λb hb=>(by cases hb),λ_=>Iff.rfl⟩ λb hb=>by cases hb
 ·have GO:sp=false:=hs;subst GO;exact aA rfl (aE (k:=.slice) sl (aP h1 rfl) (wJ (h2.1.rd Sc) hb λr w1 S' _ k1 _ rd fr=>hQ r w1 k1 rd fr))
end
section
def uL(g:Nat)(l:List cH)(sp:Bool):As:=Ex λsl=>bL (tE g tReader [aW sl,.bool sp]) (EG 1 eU sl l)
instance{g:Nat}{xs:List cH}{sp:Bool}:bJ (uL g xs sp):=by unfold uL;infer_instance
abbrev tF(r:Sl):BS:=λk=>∃b,r.b=some b/\k=b.block
def KF{w:aH}:EG 1 eU bD [] w (tF bD):=⟨Rd.nil _ _ _,fV,λb hb=>(by cases hb),λ_=>Iff.rfl⟩
def de_lt:∀(q:List cH) (n j:Nat),n<256^j->de n q<256^(j+q.length):=by
 intro q
 induction q with
 |nil=>intro n j h;simpa [de] using h
 |cons c q ih=>intro n j h;have hc:=c.isLt;have:=ih (n*256+c.toNat) (j+1) (by rw[Nat.pow_succ];omega);rwa[show j+1+q.length=j+(c::q).length by simp only[mH];omega] at this
def Ql{b:cW}{c l n:Nat}{a:Addr}(h:aR b c l n=some a):∃a0,b=some a0/\a.block=a0.block:=by
 unfold aR at h
 split at h
 ·exact⟨a,h,rfl⟩
 ·cases b with
  |none=>cases h
  |some x=>cases h;exact⟨x,rfl,by simp⟩
def or_byte{n:Nat}{c:cH}(hn:n<256^6):pA .or .i64 (aQ ((n:Int)*2^(min (Int.toNat (8:Int)) (IntKind.bits .i64)))) (aQ (c.toNat:Int))=((n*256+c.toNat:Nat):Int):=by
 have hc:=c.isLt;have e8:(2:Int)^(min (Int.toNat (8:Int)) (IntKind.bits .i64))=256:=by decide
 rw[e8,iH aB aB,iH aB aB];show aQ ((BitVec.ofInt 64 ((n:Int)*256) |||BitVec.ofInt 64 (c.toNat:Int)).toNat:Int)=_;have h1:BitVec.ofInt 64 ((n:Int)*256)=BitVec.ofNat 64 (n*256):=by rw[show(n:Int)*256=((n*256:Nat):Int) by omega,BitVec.ofInt_natCast]
 have h2:BitVec.ofInt 64 (c.toNat:Int)=BitVec.ofNat 64 c.toNat:=BitVec.ofInt_natCast ..;rw[h1,h2,BitVec.toNat_or,BitVec.toNat_ofNat,BitVec.toNat_ofNat,Nat.mod_eq_of_lt aB,Nat.mod_eq_of_lt aB];have:=Nat.shiftLeft_add_eq_or_of_lt (i:=8) (b:=c.toNat) aB n;rw[Nat.shiftLeft_eq,show(2:Nat)^8=256 from rfl] at this;rw[<-this];exact iH aB aB
section
variable{w:aH}{S:BS}{g:Nat}{l:List cH}{sp:Bool}
def Pp{K:aH->Prop}(h:uL g l sp w S)(hK:∀w',uL g l true w' S->Up S S w w'->K w'):aJ prog tK ((⟨g,0,none⟩:Addr).add 1) (.bool true) w K:=by
 obtain⟨sl,S1,S2,h1,h2,d,e⟩:=h;refine qP h1 jG dP rfl rfl λw2 b2 u2=>?_;exact hK w2 ⟨sl,S1,S2,b2,bJ.aK h2 u2.m λk hk lM=>d k lM hk,d,e⟩ (Up.at (u2.m.mono λk _ hk=>(e k).2 (.inl hk)))
def qe{n:Int}{Q:Sl->aH->Prop}(h:uL g l sp w S)(hl:l.length<=100000)
  (hQ:∀r out l' vN w' S',uL g l' vN w' S'->(∀k,S' k->S k)->Up S S' w w'->EG 1 eU r out w' (tF r)->(∀b,r.b=some b->w.heap.size<=b.block)->l'.length<=l.length->out.length<=l.length->(out.length:Int)<=max n 0->
   (∀a t,sp=false->l=a++t->n=a.length->out=a/\l'=t/\vN=false)->Q r w'):zJ (some ⟨g,0,none⟩) n w Q:=by
 unfold zJ;have h0:=h;obtain⟨sl,S1,S2,h1,h2,d,e⟩:=h;have ll:=h2.1.len;refine aF (λh=>by simp at h) (λ_=>aA rfl (aE (k:=.bool) sp (aP h1 rfl) (aF (λhs=>?_) (λhs=>?_))))
 ·have GO:sp=true:=hs;exact hQ _ [] l sp w S h0 (λ_=>id) (Up.refl _ _) KF (λb hb=>by cases hb) (dN _) (cY _) (by simp;omega) λa t hf=>by rw[GO] at hf;cases hf
 have GO:sp=false:=hs;refine aI (λhn=>aA rfl (Pp h0 λw1 h1 u1=>?_)) (λhn=>aA rfl (aE (k:=.slice) sl (aP h1 rfl) (aI (λhn2=>aA rfl (Pp h0 λw1 h1 u1=>?_)) (λhn2=>?_))))
 ·exact hQ _ [] l true w1 S h1 (λ_=>id) u1 KF (λb hb=>by cases hb) (dN _) (cY _) (by simp;omega) λa t _ _ ha=>aB
 ·refine hQ _ [] l true w1 S h1 (λ_=>id) u1 KF (λb hb=>by cases hb) (dN _) (cY _) (by simp;omega) λa t _ ha hb=>?_;have:=congrArg List.length ha;rw[fN] at this;omega
 obtain⟨m,rfl⟩:∃m:Nat,n=m:=⟨n.toNat,aB⟩;have Sn:=h2.1.cap;refine aA rfl (aE (k:=.slice) sl (aP h1 rfl) ⟨⟨aB,aB⟩,?_⟩);rw[dU];have hp:=h2.1.part (i:=0) (j:=m) (c:=sl.c) (cY _) aB aB (dN _);rw[List.drop_zero,Nat.sub_zero] at hp;refine wJ (xs:=l.take m) (by simpa using hp) (by rw[rA];omega) λr w1 S3 v1 k1 f3 rd fr=>?_;have h1':=bJ.kp h1 k1;refine aA rfl (aE (k:=.slice) sl (aP h1' rfl) ⟨⟨aB,aB⟩,aA rfl ?_⟩)
 let VH:Sl:=⟨aR sl.b sl.c m 1,sl.l-m,sl.c-m⟩
 refine qP (v:=aW VH) h1' UQ dP rfl rfl λw2 b2 u2=>?_;have h2':=bJ.aK (bJ.kp h2 k1) u2.m λk hk lM=>d k lM hk;have hq:=h2'.1.part (i:=m) (j:=sl.l) (c:=sl.c) aB (dN _) aB (dN _);have Wg:(l.drop m).take (sl.l-m)=l.drop m:=ly6 (by rw[jz];omega);rw[Wg] at hq;have hS:∀k,tF VH k->S2 k:=λk ⟨b,hb,e2⟩=>by
  obtain⟨a0,ha0,eb⟩:=Ql hb;exact(h2.2.2.2 k).2 ⟨a0,ha0,by rw[e2,eb]⟩
 have hR:EG 1 eU VH (l.drop m) w2 (tF VH):=⟨hq,fV,λb hb=>bJ.iF h2' _ (hS _ ⟨b,hb,rfl⟩),λ_=>Iff.rfl⟩;refine hQ r (l.take m) (l.drop m) sp w2 (λk=>S1 k\/tF VH k) ⟨VH,S1,_,b2,hR,λk hk lM=>d k hk (hS k lM),λ_=>Iff.rfl⟩ (λk hk=>(e k).2 (hk.imp id (hS k))) ⟨(k1.wk.trans u2.m λk _ hk=>(e k).2 (.inl hk)),λk hk=>.inl ((e k).2 (hk.imp id (hS k)))⟩
  ?_ fr dP (by rw[rA];omega) (by rw[rA];omega) λa t _ ha hb=>?_
 ·refine bJ.aK rd u2.m λk ⟨b,hb,e2⟩ lM=>?_;have:=fr b hb;have:=bJ.iF h1 k lM;omega
 ·have hm:m=a.length:=aB;rw[ha,hm,List.take_left,List.drop_left];exact⟨rfl,rfl,GO⟩
def Ts{sz:Nat}{Q:Int->aH->Prop}(h:uL g l sp w S)(hs:1<=sz/\sz<=7)(hl:l.length<=100000)
  (hQ:∀(x:Nat) l' vN w' S',uL g l' vN w' S'->(∀k,S' k->S k)->Up S S' w w'->l'.length<=l.length->x<256^sz->(∀v t,sp=false->l=be sz v++t->v<256^sz->x=v/\l'=t/\vN=false)->Q (x:Int) w'):gF (some ⟨g,0,none⟩) (sz:Int) w Q:=by
 unfold gF;intro J1 OV;refine aI (λh=>aB) (λ_=>aI (λh=>aB) (λ_=>OV _ _ ?_));refine qe h hl λr out l' vN w1 S1 h1 wZ u1 rd fr Og kj hn hw=>?_;have hol:out.length<=sz:=aB;have rl:=rd.1.len;refine bK (λc t w2=>∃i:Nat,i<=out.length/\c=out.length-i/\t=(((de 0 (out.take i):Nat):Int),(i:Int),())/\w2=w1) out.length ⟨0,cY _,rfl,rfl,rfl⟩ ?_;rintro c t w2 ⟨i,hi,rfl,rfl,rfl⟩ X hX;dsimp only;refine aI (λcD=>?_) (λkF=>?_)
 ·have dL:i<out.length:=aB;have cI:=cL dL;have sZ:=oH dL;have LV:de 0 (out.take i)<256^6:=
   pP (de_lt (out.take i) 0 0 dP) (Nat.pow_le_pow_right aB (by rw[rA];omega))
  generalize out[i]=x at*;obtain⟨q,hq,hc⟩:=bR (k:=.int .u8) (e:=λb:cH=>(b.toNat:Int)) rd.1 cI;rw[dU];refine⟨⟨aB,cD⟩,aA hq (aE (k:=.int .u8) _ hc ⟨aB,?_⟩)⟩;rw[or_byte LV,pI i aB];refine hX _ _ _ aB ⟨i+1,dL,rfl,?_,rfl⟩;rw[sZ];have:de 0 (out.take i++[x])=de 0 (out.take i)*256+x.toNat:=by unfold de;rw[List.foldl_append];rfl
  rw[this]
 ·have ei:i=out.length:=aB;subst ei;rw[oV];have hd:=de_lt out 0 0 dP;refine hQ _ l' vN w2 S1 h1 wZ u1 Og (pP hd (Nat.pow_le_pow_right aB aB)) λv t hsp hlv hv=>?_;obtain⟨e1,e2,e3⟩:=hw _ t hsp hlv (by rw[pT]);rw[e1,de_be sz 0 v hv];exact⟨aB,e2,e3⟩
def aAh{Q:Int->aH->Prop}(h:uL g l sp w S)(hQ:∀x:Nat,(sp=false->x=l.length)->x<=l.length->Q (x:Int) w):IJ (some ⟨g,0,none⟩) w Q:=by
 unfold IJ;obtain⟨sl,S1,S2,h1,h2,d,e⟩:=h;refine aF (λh=>by simp at h) (λ_=>aA rfl (aE (k:=.bool) sp (aP h1 rfl) (aF (λhs=>?_) (λhs=>aA rfl (aE (k:=.slice) sl (aP h1 rfl) ?_)))))
 ·have GO:sp=true:=hs;exact hQ 0 (λh=>by rw[GO] at h;cases h) (cY _)
 ·rw[h2.1.len];exact hQ l.length (λ_=>rfl) (dN _)
end
def qd{b:Sl}{bs:List cH}{w:aH}{Q:cW->aH->Prop}(hb:Rd w b 1 eU bs)(hl:bs.length<=100000)(hQ:∀g w' S',uL g bs false w' S'->aL w w'->(∀k,S' k->w.heap.size<=k)->Q (some ⟨g,0,none⟩) w'):qI b w Q:=by
 unfold qI;refine wJ hb aB λr w1 S1 _ k1 _ rd fr=>?_;have z1:=k1.size;refine cM (cs:=[aW r,.bool false]) λw2 b2 k2 z2=>?_;refine hQ _ w2 _ ⟨r,bL.yH b2 (bJ.kp rd k2) λk hk ⟨b,hb,e⟩=>?_⟩ (k1.tr k2) λk hk=>hk.elim (λh=>aB) λ⟨b,hb,e⟩=>by have:=fr b hb;omega
 have:=rd.2.2.1 b hb;omega
def strB(xs:List cH):ByteArray:=(xs.map λb=>(b.toNat:Int)).foldl (λr n=>r.push (UInt8.ofNat n.toNat)) ByteArray.empty
def Zy{P:YZ}{t e d:fL}(hs:P.underlying t=some (.slice e))(he:P.underlying e=some (.int .u8))(hd:P.underlying d=some .string){w:aH}{s:Sl}{xs:List cH}(hr:Rd w s 1 eU xs){K:ByteArray->aH->Prop}(hK:K (strB xs) w):
  yf P (.c .str) t d (Value.slice s.b s.l s.c) w K:=by
 obtain⟨sb,sl,sc⟩:=s;have hl:sl=xs.length:=hr.len;cases sb with
 |none=>
  have hn:xs=[]:=by
   cases xs with
   |nil=>rfl
   |cons x r=>obtain⟨a,ha,_⟩:=hr.get 0 x rfl;cases ha
  subst hn;exact⟨ByteArray.empty,w,run_convert_bytes_nil w t e hs he sl sc d hd,hK⟩
 |some a=>
  refine⟨strB xs,w,?_,hK⟩;have kj:(loadCells a sl).run P w=.ok ((xs.map λb=>(b.toNat:Int)).map (Value.int .u8)).toArray w:=by
   have:=run_loadCells_list (P:=P) w a ((xs.map λb=>(b.toNat:Int)).map (Value.int .u8)) (λj v hj=>by
    rw[List.map_map,oG] at hj;cases hx:xs[j]? with
    |none=>rw[hx] at hj;cases hj
    |some x=>rw[hx] at hj;cases hj;obtain⟨q,hq,hc⟩:=bR (k:=.int .u8) (e:=λb:cH=>(b.toNat:Int)) hr hx;cases hq;rw[Nat.mul_one] at hc;exact hc)
   simpa [hl] using this
  rw[run_convert_bytes_string w t d e _ sl sc hs he hd,run_bytesToString w _ sl sc _ kj]
  rfl
def aAj{a b:Sl}{xs ys:List cH}{w:aH}{Q:Bool->aH->Prop}(ha:Rd w a 1 eU xs)(hb:Rd w b 1 eU ys)(hQ:∀c,(xs=ys->c=true)->Q c w):tX a b w Q:=by
 unfold tX;refine Zy (e:=Hn) DO.under iZ iZ ha (Zy (e:=Hn) DO.under iZ iZ hb (hQ _ λe=>?_));rw[e];exact beq_self_eq_true _
end
section
def Nu(w0:aH)(A:As)(w:aH):=(∃S,A w S/\∀k,S k->w0.heap.size<=k)/\aU (λk=>w0.heap.size<=k) w0 w
section
variable{w0 w w':aH}{A:As}{S S':BS}
def Nu.kp[bJ A](h:Nu w0 A w)(k:aL w w'):Nu w0 A w':=by
 obtain⟨⟨S,a,s⟩,m⟩:=h;exact⟨⟨S,bJ.kp a k,s⟩,m.trans k λ_ _ h=>h.elim⟩
def Nu.of(a:A w S)(hs:∀k,S k->w0.heap.size<=k)(k:aL w0 w):Nu w0 A w:=⟨⟨S,a,hs⟩,k.wk⟩
def Nu.up(m:aU (λk=>w0.heap.size<=k) w0 w)(hs:∀k,S k->w0.heap.size<=k)(u:Up S S' w w')(a:A w' S'):Nu w0 A w':=
 ⟨⟨S',a,λk hk=>(u.s k hk).elim (hs k) λh=>jB m.size h⟩,m.trans u.m λk _ hk=>hs k hk⟩
def Nu.aO(h:Nu w0 A w):aL w0 w:=(aU.refl (λ_=>False) w0).fresh h.2 λ_=>id
def Nu.size(h:Nu w0 A w):w0.heap.size<=w.heap.size:=h.2.size
end
abbrev eIv:Int->Value:=λx=>aD x
def mapIv:∀ns:cR,ns.map eIv=ns.flatMap eI
 | []=>rfl
 |a::l=>by rw[Dg,FU,mapIv l];rfl
section
variable{w0 w:aH}{g:Nat}{xs:List cH}{sp:Bool}
def NumsC{C:aH->Prop}{Q:cW->aH->Prop}{z:Int}(h:Nu w0 (Ev g xs sp) w)(sz:Nat)(ns:cR)(hz:z=(sz:Int))(hs:1<=sz/\sz<=7)(gL:xs.length+ns.length*7<=900000)(hC:∀w1,aL w w1->C w1)
  (hQ:∀Lr vN w',Nu w0 (Ev g Lr vN) w'->Lr.length<=xs.length+ns.length*7->((∀x∈ns,0<=x/\x.toNat<256^sz)->vN=sp/\Lr=xs++ns.flatMap λx=>be sz x.toNat)->Q (some ⟨g,0,none⟩) w'):
  aG w (ns.map eIv).toArray dA λa w1=>C w1/\aT (some ⟨g,0,none⟩) z ⟨some a,ns.length,ns.length⟩ w1 Q:=by
 obtain⟨⟨S,a,s⟩,m⟩:=h;subst hz;refine cM λw1 b1 k1 z1=>⟨hC w1 k1,?_⟩;refine qh (bJ.kp a k1) hs (lU eY ns b1 (mapIv ns) aB) (λb hb=>?_) gL λLr vN w' S' a' u' l' v'=>?_
 ·cases hb;refine⟨λhS=>?_,by show w.heap.size<_;omega⟩;have:=bJ.iF a _ hS;simp at this
 ·exact hQ Lr vN w' (Nu.up (m.trans k1 λ_ _ h=>h.elim) s u' a') l' v'
def NumsL{Q:cW->aH->Prop}{z:Int}(h:Nu w0 (Ev g xs sp) w)(sz:Nat)(ns:cR)(hz:z=(sz:Int))(hs:1<=sz/\sz<=7)(gL:xs.length+ns.length*7<=900000)
  (hQ:∀Lr vN w',Nu w0 (Ev g Lr vN) w'->Lr.length<=xs.length+ns.length*7->((∀x∈ns,0<=x/\x.toNat<256^sz)->vN=sp/\Lr=xs++ns.flatMap λx=>be sz x.toNat)->Q (some ⟨g,0,none⟩) w'):
  aG w (ns.map eIv).toArray dA λa w1=>aT (some ⟨g,0,none⟩) z ⟨some a,ns.length,ns.length⟩ w1 Q:=by
 have:=NumsC (C:=λ_=>True) h sz ns hz hs gL (λ_ _=>trivial) hQ;simp only[true_and] at this;exact this
def RawN{Q:cW->aH->Prop}{b:Sl}{bs:List cH}(h:Nu w0 (Ev g xs sp) w)(hb:Rd w0 b 1 eU bs)(hl:xs.length+bs.length<=1000000)
  (hQ:∀w',Nu w0 (Ev g (xs++bs) sp) w'->Q (some ⟨g,0,none⟩) w'):DK (some ⟨g,0,none⟩) b w Q:=by
 obtain⟨⟨S,a,s⟩,m⟩:=h;exact WRaw_i a (hb.xr m fV) hl λw' S' a' u'=>hQ w' (Nu.up m s u' a')
def BytesN{Q:Sl->Int->aH->Prop}(h:Nu w0 (Ev g xs sp) w)(hb:xs.length<=1000000)
  (hQ:∀r w',aL w w'->Nu w0 (Ev g xs sp) w'->EG 1 eU r (if sp then [] else xs) w' (tF r)->(∀b,r.b=some b->w.heap.size<=b.block)->Q r (if sp then 1 else 0) w'):pX (some ⟨g,0,none⟩) w Q:=by
 have h0:=h;obtain⟨⟨S,a,s⟩,m⟩:=h;exact aAo a hb λr w' k rd fr=>hQ r w' k (h0.kp k) rd fr
def newW{w0 w:aH}{K:Addr->aH->Prop}(k0:aL w0 w)(hK:∀w',Nu w0 (Ev w.heap.size [] false) w'->aL w w'->K ⟨w.heap.size,0,none⟩ w'):aG w #[Value.slice none 0 0,Value.bool false] Fe K:=by
 have z0:=k0.size;exact cM (cs:=[aW bD,.bool false]) λw1 b1 k1 z1=>hK w1 (Nu.of (S:=λk=>k=w.heap.size\/False) ⟨bD,bL.yH b1 Ez λ_ _ h=>h⟩ (λk hk=>hk.elim (λh=>aB) False.elim) (k0.tr k1)) k1
end
def yo{w w0:aH}{s:Sl}{bs:List cH}{Q:Int->aH->Prop}(hr:Rd w s 1 eU bs)(hl:bs.length<=1000000)(hQ:∀w',aL w w'->Q ((yX bs).toNat:Int) w'):aG w #[Value.slice s.b s.l s.c] CV λa w1=>rW ⟨some a,1,1⟩ w1 Q:=
 cM (cs:=[aW s]) λw1 b1 k1 z1=>by
  refine Cp (ps:=[(s,bs)]) (lU (aY:=eUs) (λ_=>rfl) [(s,bs)] b1 rfl dP) (λp hp=>?_) dP (λp hp=>?_) ?_
  ·rw[mR.1 hp];exact hr.aK k1 fV λ_ _=>id
  ·rw[mR.1 hp];show bs.length<_;omega
  ·simpa using hQ w1 k1
def Wrap_i{kind:Int}{body:Sl}{bs:List cH}{w:aH}{Q:Sl->Int->aH->Prop}(hb:Rd w body 1 eU bs)(hl:bs.length<=100000)
  (hQ:∀r out e w',aL w w'->EG 1 eU r out w' (tF r)->(∀b,r.b=some b->w.heap.size<=b.block)->out.length<=3000->(0<=kind->kind<=255->bs.length<=2000->out=xM kind bs/\e=0)->Q r e w'):BH kind body w Q:=by
 unfold BH;have bl:=hb.len;have VW:(¬(0<=kind/\kind<=255/\bs.length<=2000))->Q bD 1 w:=λh=>hQ _ [] 1 w (aU.refl _ _) KF (λb hb=>by cases hb) (cY _) λa b c=>absurd ⟨a,b,c⟩ h;refine aI (λh=>VW λh2=>aB) (λh1=>aI (λh=>VW λh2=>aB) (λh2=>aI (λh=>VW λh2=>aB) (λh3=>?_)));refine newW (aU.refl _ w) λw1 n1 k1=>?_;refine NumsL n1 1 [77,3,kind] rfl aB dP λx2 sp2 w2 n2 _ v2=>?_;obtain⟨rfl,rfl⟩:=v2 (by intro x hx;simp at hx;omega);refine NumsL n2 2 [(body.l:Int)] rfl aB (by simp[pT]) λx3 sp3 w3 n3 _ v3=>?_;obtain⟨rfl,rfl⟩:=v3 (by intro x hx;simp at hx;omega);refine RawN n3 hb (by simp[pT];omega) λw4 n4=>?_;have e4:((([]++[77,3,kind].flatMap λx=>be 1 x.toNat)++[(body.l:Int)].flatMap λx=>be 2 x.toNat)++bs)=fW kind bs:=by unfold fW;simp[bl]
 rw[e4] at n4;have l4:(fW kind bs).length=5+bs.length:=by rw[<-e4];simp[pT];omega
 refine BytesN n4 aB λr5 w5 k5 n5 Wr f5=>?_;refine yo (w0:=w) (bs:=fW kind bs) Wr.1 aB λw6 k6=>?_;have n6:=n5.kp k6;have hs:(yX (fW kind bs)).toNat<4294967296:=(yX (fW kind bs)).isLt;rw[iH (n:=((yX (fW kind bs)).toNat:Int)) aB aB];refine NumsL n6 4 [((yX (fW kind bs)).toNat:Int)] rfl aB (by simp;omega) λx7 sp7 w7 n7 _ v7=>?_;obtain⟨rfl,rfl⟩:=v7 (by intro x hx;simp at hx;omega);have e7:(fW kind bs++[((yX (fW kind bs)).toNat:Int)].flatMap λx=>be 4 x.toNat)=xM kind bs:=by unfold xM;simp
 rw[e7] at n7;have l7:(xM kind bs).length=9+bs.length:=by rw[<-e7,fN,l4];simp[pT];omega
 have z7:=n7.size;refine BytesN n7 aB λr8 w8 k8 n8 rd8 f8=>?_;exact hQ r8 _ 0 w8 n8.aO rd8 (λb hb=>by have:=f8 b hb;omega) (by simp;omega) λ_ _ _=>⟨rfl,rfl⟩
def Kl(k:Int)(y:List cH):(xM k y).length=9+y.length:=by unfold xM fW;simp[pT];omega
def Ng(k:Int)(y:List cH):(fW k y).length=5+y.length:=by unfold fW;simp[pT];omega
section
variable{w0 w:aH}{g:Nat}{l:List cH}{sp:Bool}
def RRawN{n:Int}{Q:Sl->aH->Prop}(h:Nu w0 (uL g l sp) w)(hl:l.length<=100000)
  (hQ:∀r out l' vN w',Nu w0 (bL (uL g l' vN) (EG 1 eU r out)) w'->Nu w0 (uL g l' vN) w'->EG 1 eU r out w' (tF r)->(∀b,r.b=some b->w.heap.size<=b.block)->l'.length<=l.length->out.length<=l.length->(out.length:Int)<=max n 0->
   (∀a t,sp=false->l=a++t->n=a.length->out=a/\l'=t/\vN=false)->Q r w'):zJ (some ⟨g,0,none⟩) n w Q:=by
 obtain⟨⟨S,a,s⟩,m⟩:=h;refine qe a hl λr out l' vN w' S' a' GO u' rd fr h1 h2 h3 h4=>?_;have z:=m.size;refine hQ r out l' vN w' ⟨⟨λk=>S' k\/tF r k,bL.yH a' rd λk hk ⟨b,hb,e⟩=>?_,λk hk=>hk.elim (λh=>s k (GO k h)) λ⟨b,hb,e⟩=>?_⟩,m.trans u'.m λk _ hk=>s k hk⟩ (Nu.up m s u' a') rd fr h1 h2 h3 h4
 ·have:=bJ.iF a k (GO k hk);have:=fr b hb;omega
 ·have:=fr b hb;omega
def RNumN{sz:Nat}{z:Int}{Q:Int->aH->Prop}(h:Nu w0 (uL g l sp) w)(hz:z=(sz:Int))(hs:1<=sz/\sz<=7)(hl:l.length<=100000)
  (hQ:∀(x:Nat) l' vN w',Nu w0 (uL g l' vN) w'->aU (λk=>w0.heap.size<=k) w w'->l'.length<=l.length->x<256^sz->(∀v t,sp=false->l=be sz v++t->v<256^sz->x=v/\l'=t/\vN=false)->Q (x:Int) w'):gF (some ⟨g,0,none⟩) z w Q:=by
 obtain⟨⟨S,a,s⟩,m⟩:=h;subst hz;exact Ts a hs hl λx l' vN w' S' a' GO u' h1 h2 h3=>hQ x l' vN w' (Nu.up m s u' a') (u'.m.mono λk _ hk=>s k hk) h1 h2 h3
end
def Unwrap_i{b:Sl}{bs:List cH}{w:aH}{Q:Int->Sl->Int->aH->Prop}(hb:Rd w b 1 eU bs)(hl:bs.length<=100000)
  (hQ:∀kind s e body w',aL w w'->EG 1 eU s body w' (tF s)->(∀b,s.b=some b->w.heap.size<=b.block)->body.length<=bs.length->(∀k y,0<=k->k<=255->y.length<=2000->bs=xM k y->kind=k/\body=y/\e=0)->(∀x r,bs=x::r->x≠BitVec.ofNat 8 77->¬e=0)->Q kind s e w'):wV b w Q:=by
 unfold wV;have bl:=hb.len;have VW:∀e w',¬e=0->aL w w'->(∀k y,0<=k->k<=255->y.length<=2000->bs=xM k y->False)->Q 0 bD e w':=λe w' he k h=>hQ 0 _ e [] w' k ⟨Rd.nil _ _ _,fV,λb hb=>(by cases hb),λ_=>Iff.rfl⟩ (λb hb=>by cases hb) (cY _) (λk y a b c d=>(h k y a b c d).elim) λ_ _ _ _=>he;refine aI (λh=>VW _ w (by decide) (aU.refl _ _) λk y _ _ _ e=>by have:=congrArg List.length e;rw[Kl] at this;omega) (λgL=>?_);have h0:0<bs.length:=aB;have cI:=cL h0;have gQ:∀k y,bs=xM k y->bs[0]=BitVec.ofNat 8 77:=λk y e=>by
  subst e;rfl
 have hfst:∀x r,bs=x::r->bs[0]=x:=λx r e=>by subst e;rfl
 generalize bs[0]=x0 at*;obtain⟨q,hq,hc⟩:=bR (k:=.int .u8) (e:=λb:cH=>(b.toNat:Int)) hb cI;refine⟨⟨aB,aB⟩,aA hq (aE (k:=.int .u8) (x0.toNat:Int) hc (aF (λh=>VW _ w (by decide) (aU.refl _ _) λk y _ _ _ e=>?_) (λhx77=>?_)))⟩
 ·rw[gQ k y e] at h;simp at h
 have hfirst:∀x r,bs=x::r->x≠BitVec.ofNat 8 77->False:=λx r e hx=>by
  have h1:=hfst x r e;subst h1;have h2:(x0.toNat:Int)=77:=by simpa using hx77
  exact hx (BitVec.eq_of_toNat_eq (by simp;omega))
 refine qd hb hl λg w1 S1 a1 k1 s1=>?_;have n1:Nu w (uL g bs false) w1:=Nu.of a1 s1 k1;refine RRawN n1 aB λr2 o2 l2 sp2 w2 _ n2 _ _ c2 _ _ v2=>?_;refine RNumN n2 (sz:=1) rfl aB aB λx3 l3 sp3 w3 n3 _ c3 b3 v3=>?_;refine RNumN n3 (sz:=1) rfl aB aB λx4 l4 sp4 w4 n4 _ c4 b4 v4=>?_;refine RNumN n4 (sz:=2) rfl aB aB λx5 l5 sp5 w5 n5 _ c5 b5 v5=>?_;have HD:∀k y,0<=k->k<=255->y.length<=2000->bs=xM k y->(x3:Int)=3/\(x4:Int)=k/\(x5:Int)=y.length/\l5=y++be 4 (yX (fW k y)).toNat/\sp5=false:=by
  intro k y k0 k1 hy e;have e':bs=be 1 77++(be 1 3++(be 1 k.toNat++(be 2 y.length++(y++be 4 (yX (fW k y)).toNat)))):=by rw[e];unfold xM fW;simp only[sV]
  obtain⟨_,rfl,rfl⟩:=v2 _ _ rfl e' (by simp[pT]);obtain⟨rfl,rfl,rfl⟩:=v3 _ _ rfl rfl aB;obtain⟨rfl,rfl,rfl⟩:=v4 _ _ rfl rfl aB;obtain⟨rfl,rfl,rfl⟩:=v5 _ _ rfl rfl aB;exact⟨rfl,aB,rfl,rfl,rfl⟩
 have ew:aQ (aQ ((5:Int)+(x5:Int))+(4:Int))=(x5:Int)+9:=by rw[iH (n:=(5:Int)+(x5:Int)) aB aB,iH aB aB];omega
 rw[ew];refine aF (λh=>VW _ w5 (by decide) n5.aO λk y a b c e=>?_) (λh=>?_)
 ·obtain⟨_,_,e5,_⟩:=HD k y a b c e;have:=congrArg List.length e;rw[Kl] at this;simp at h;omega
 have FP:(b.l:Int)=(x5:Int)+9:=by simpa using h
 rw[iH (n:=(5:Int)+(x5:Int)) aB aB];refine RRawN n5 aB λs6 o6 l6 sp6 w6 n6' n6 rd6 f6 c6 d6 _ v6=>?_;have Sn:=hb.cap;refine⟨⟨aB,aB⟩,?_⟩;have et:Int.toNat ((5:Int)+(x5:Int))=5+x5:=aB;rw[et];have fact2:∀k y,0<=k->k<=255->y.length<=2000->bs=xM k y->o6=y/\l6=be 4 (yX (fW k y)).toNat/\sp6=false:=λk y a b c e=>by
  obtain⟨_,_,e5,e6,e7⟩:=HD k y a b c e;exact v6 _ _ e7 e6 e5
 have Hs:∀wx,aU (λk=>w.heap.size<=k) w wx->Rd wx ⟨aR b.b b.c 0 1,(5+x5)-0,b.c-0⟩ 1 eU (bs.take (5+x5)):=λwx m=>by
  have:=(hb.xr m fV).part (i:=0) (j:=5+x5) (c:=b.c) (cY _) aB aB (dN _);simpa using this
 have z5:=n5.size;have dX:∀(x7:Nat) wf,aL w wf->EG 1 eU s6 o6 wf (tF s6)->(∀v t,sp6=false->l6=be 4 v++t->v<256^4->x7=v)->cond ((x7:Int) !=(aQ (((yX (bs.take (5+x5))).toNat:Nat):Int))) (Q 0 bD 2 wf) (cond ((x3:Int) !=(3:Int)) (Q 0 bD 3 wf) (cond (decide ((x5:Int)>(2000:Int))) (Q 0 bD 2 wf) (Q x4 s6 0 wf))):=by
  intro x7 wf kf rdf v7;have hs:(yX (bs.take (5+x5))).toNat<4294967296:=(yX (bs.take (5+x5))).isLt;rw[iH (n:=((yX (bs.take (5+x5))).toNat:Int)) aB aB];refine aF (λh=>VW _ wf (by decide) kf λk y a b c e=>?_) (λ_=>aF (λh=>VW _ wf (by decide) kf λk y a b c e=>?_) (λ_=>aI (λh=>VW _ wf (by decide) kf λk y a b c e=>?_) (λ_=>hQ _ s6 0 o6 wf kf rdf (λb hb=>by have:=f6 b hb;omega) aB (λk y a b c e=>?_) λx r hbx hx=>(hfirst x r hbx hx).elim)))
  ·obtain⟨_,_,e5,_⟩:=HD k y a b c e;obtain⟨_,e6,e7⟩:=fact2 k y a b c e;have LU:(yX (fW k y)).toNat<4294967296:=(yX (fW k y)).isLt;have e8:=v7 _ [] e7 (by rw[rF];exact e6) aB;have e9:bs.take (5+x5)=fW k y:=by
    rw[e,show 5+x5=(fW k y).length by rw[Ng];omega];exact List.take_left
   rw[e9,e8] at h;simp at h
  ·obtain⟨e3,_⟩:=HD k y a b c e;rw[e3] at h;simp at h
  ·obtain⟨_,_,e5,_⟩:=HD k y a b c e;omega
  ·obtain⟨_,e4,_⟩:=HD k y a b c e;exact⟨e4,(fact2 k y a b c e).1,rfl⟩
 have n6'd:=n6'.kp (cB w6);obtain⟨⟨S6,a6,s6'⟩,m6⟩:=n6'd;obtain⟨T1,T2,ar,ao,d6',e6'⟩:=a6;refine⟨?_,?_⟩
 ·refine Ts (sz:=4) ar aB aB λx7 l7 sp7 w7 S7 a7 _ u7 _ b7 v7=>?_;have m7:aU (λk=>w.heap.size<=k) w w7:=m6.trans u7.m λk _ hk=>s6' k ((e6' k).2 (.inl hk));refine yo (w0:=w) (Hs w7 m7) (by rw[rA];omega) λw8 k8=>?_;have kk:aL w w7:=(aU.refl (λ_=>False) w).fresh m7 λ_=>id;have o7:=bJ.aK ao u7.m λk hk lM=>d6' k lM hk;refine dX x7 w8 (kk.tr k8) (bJ.kp ⟨o7.1,o7.2.1,o7.2.2.1,λ_=>Iff.rfl⟩ k8) λv t h1 h2 h3=>(v7 v t h1 h2 h3).1
 ·refine bG λw7 o7 k7 z7=>?_;refine Ts (sz:=4) (bJ.kp ar k7) aB aB λx8 l8 sp8 w8 S8 a8 _ u8 _ b8 v8=>?_;have m8:aU (λk=>w.heap.size<=k) w w8:=(m6.trans k7 λ_ _ h=>h.elim).trans u8.m λk _ hk=>s6' k ((e6' k).2 (.inl hk));have kk:aL w w8:=(aU.refl (λ_=>False) w).fresh m8 λ_=>id;have o8:=bJ.aK (bJ.kp ao k7) u8.m λk hk lM=>d6' k lM hk;have nb:¬T1 w6.drew.heap.size:=λh=>by have:=bJ.iF ar _ h;simp at this
  have ow:cX w8 w6.drew.heap.size CV [aW ⟨aR b.b b.c 0 1,(5+x5)-0,b.c-0⟩]:=o7.aK u8.m nb;refine Cp (ps:=[(⟨aR b.b b.c 0 1,(5+x5)-0,b.c-0⟩,bs.take (5+x5))]) (lU (aY:=eUs) (S:=λk=>k=w6.drew.heap.size) (λ_=>rfl) [_] ⟨ow,λ_=>Iff.rfl⟩ rfl dP) (λp hp=>?_) dP (λp hp=>?_) ?_
  ·rw[mR.1 hp];exact Hs w8 m8
  ·rw[mR.1 hp];show(bs.take (5+x5)).length<_;rw[rA];omega
  ·simp only[FU,List.flatMap_nil,rF];exact dX x8 w8 kk ⟨o8.1,o8.2.1,o8.2.2.1,λ_=>Iff.rfl⟩ λv t h1 h2 h3=>(v8 v t h1 h2 h3).1
end
section
def tB(w0:aH)(g:Nat)(m:Nat)(e:fL)(mc:gJ)(V:Prop)(E:List cH)(N:Nat)(L:List (Nat×cR))(w:aH):=
 ∃S xs sp,Ev g xs sp w S/\(∀k,S k->w0.heap.size<=k)/\aU (λk=>w0.heap.size<=k) w0 w/\(∀p∈L,cX w p.1 dA (p.2.map eIv)/\¬S p.1)/\(cX w m e mc/\¬S m)/\xs.length<=N/\(V->sp=false/\xs=E)
section
variable{w0 w w':aH}{g m N:Nat}{e:fL}{mc:gJ}{V:Prop}{E:List cH}{L:List (Nat×cR)}
def tB.kp(h:tB w0 g m e mc V E N L w)(k:aL w w'):tB w0 g m e mc V E N L w':=by
 obtain⟨S,xs,sp,a,s,md,l,⟨o,om⟩,n,v⟩:=h;exact⟨S,xs,sp,bJ.kp a k,s,md.trans k λ_ _ h=>h.elim,λp hp=>⟨(l p hp).1.aK k id,(l p hp).2⟩,⟨o.aK k id,om⟩,n,v⟩
def tB.cell(h:tB w0 g m e mc V E N L w){k:Nat}{v:Value}(hk:mc[k]? =some v):w.cell? ((⟨m,0,none⟩:Addr).add k)=some v:=by
 obtain⟨S,xs,sp,a,s,md,l,⟨o,om⟩,n,_⟩:=h;exact dR o hk
def tB.dr(h:tB w0 g m e mc V E N L w):tB w0 g m e mc V E N L w.drew:=h.kp (cB w)
def tB.alloc(h:tB w0 g m e mc V E N L w)(ns:cR){K:Addr->aH->Prop}(hK:∀w',tB w0 g m e mc V E N ((w.heap.size,ns)::L) w'->K ⟨w.heap.size,0,none⟩ w'):aG w (ns.map eIv).toArray dA K:=by
 obtain⟨S,xs,sp,a,s,md,l,⟨o,om⟩,n,v⟩:=h;refine cM λw1 b1 k1 z1=>hK w1 ⟨S,xs,sp,bJ.kp a k1,s,md.trans k1 λ_ _ h=>h.elim,λp hp=>?_,⟨o.aK k1 id,om⟩,n,v⟩;rcases jQ.1 hp with rfl|hp
 ·exact⟨b1.1,λhS=>by have:=bJ.iF a _ hS;simp at this⟩
 ·exact⟨(l p hp).1.aK k1 id,(l p hp).2⟩
def tB.Dt(h:tB w0 g m e mc V E N L w){b:Nat}{ns:cR}(sz:Nat){z:Int}(hm:(b,ns)∈L)(hz:z=(sz:Int))(hs:1<=sz/\sz<=7)(gL:N+ns.length*7<=900000)(hr:V->∀x∈ns,0<=x/\x.toNat<256^sz){Q:cW->aH->Prop}
  (hQ:∀w',tB w0 g m e mc V (E++ns.flatMap λx=>be sz x.toNat) (N+ns.length*7) L w'->Q (some ⟨g,0,none⟩) w'):aT (some ⟨g,0,none⟩) z ⟨some ⟨b,0,none⟩,ns.length,ns.length⟩ w Q:=by
 obtain⟨S,xs,sp,a,s,md,l,⟨o,om⟩,n,v⟩:=h;subst hz;obtain⟨ob,hb⟩:=l _ hm;refine qh a hs (lU eY ns (S:=λk=>k=b) ⟨ob,λ_=>Iff.rfl⟩ (mapIv ns) aB) (λc hc=>?_) aB λLr vN w' S' a' u' l' v'=>hQ w' ⟨S',Lr,vN,a',λk hk=>(u'.s k hk).elim (s k) λh=>jB md.size h,md.trans u'.m λk _ hk=>s k hk,λp hp=>?_,?_,aB,λhV=>?_⟩
 ·cases hc;exact⟨hb,ob.lt⟩
 ·refine⟨(l p hp).1.aK u'.m (l p hp).2,λhS=>(u'.s _ hS).elim (l p hp).2 λh=>?_⟩;have:=(l p hp).1.lt;omega
 ·refine⟨o.aK u'.m om,λhS=>(u'.s _ hS).elim om λh=>?_⟩;have:=o.lt;omega
 ·obtain⟨rfl,rfl⟩:=v hV;exact v' (hr hV)
def tB.Ws(h:tB w0 g m e mc V E N L w){b:Sl}{bs:List cH}(hb:Rd w0 b 1 eU bs)(gL:N+bs.length<=900000){Q:cW->aH->Prop}
  (hQ:∀w',tB w0 g m e mc V (E++bs) (N+bs.length) L w'->Q (some ⟨g,0,none⟩) w'):DK (some ⟨g,0,none⟩) b w Q:=by
 obtain⟨S,xs,sp,a,s,md,l,⟨o,om⟩,n,v⟩:=h;refine WRaw_i a (hb.xr md fV) aB λw' S' a' u'=>hQ w' ⟨S',xs++bs,sp,a',λk hk=>(u'.s k hk).elim (s k) λh=>jB md.size h,md.trans u'.m λk _ hk=>s k hk,λp hp=>?_,?_,by rw[fN];omega,λhV=>?_⟩
 ·refine⟨(l p hp).1.aK u'.m (l p hp).2,λhS=>(u'.s _ hS).elim (l p hp).2 λh=>?_⟩;have:=(l p hp).1.lt;omega
 ·refine⟨o.aK u'.m om,λhS=>(u'.s _ hS).elim om λh=>?_⟩;have:=o.lt;omega
 ·obtain⟨rfl,rfl⟩:=v hV;exact⟨rfl,rfl⟩
def tB.numsR(h:tB w0 g m e mc V E N L w){n:Sl}{ns:cR}(sz:Nat){z:Int}(hn:Rd w0 n 1 eI ns)(hnb:∀b,n.b=some b->b.block<w0.heap.size)(hz:z=(sz:Int))(hs:1<=sz/\sz<=7)(gL:N+ns.length*7<=900000)(hr:V->∀x∈ns,0<=x/\x.toNat<256^sz){Q:cW->aH->Prop}
  (hQ:∀w',tB w0 g m e mc V (E++ns.flatMap λx=>be sz x.toNat) (N+ns.length*7) L w'->Q (some ⟨g,0,none⟩) w'):aT (some ⟨g,0,none⟩) z n w Q:=by
 obtain⟨S,xs,sp,a,s,md,l,⟨o,om⟩,nn,v⟩:=h;subst hz;have zz:=md.size;refine qh a hs (hn.xr md cU) (λb hb=>⟨λhS=>?_,by have:=hnb b hb;omega⟩) aB λLr vN w' S' a' u' l' v'=>hQ w' ⟨S',Lr,vN,a',λk hk=>(u'.s k hk).elim (s k) λh=>jB md.size h,md.trans u'.m λk _ hk=>s k hk,λp hp=>?_,?_,aB,λhV=>?_⟩
 ·have:=s _ hS;have:=hnb b hb;omega
 ·refine⟨(l p hp).1.aK u'.m (l p hp).2,λhS=>(u'.s _ hS).elim (l p hp).2 λh=>?_⟩;have:=(l p hp).1.lt;omega
 ·refine⟨o.aK u'.m om,λhS=>(u'.s _ hS).elim om λh=>?_⟩;have:=o.lt;omega
 ·obtain⟨rfl,rfl⟩:=v hV;exact v' (hr hV)
def tB.bytes(h:tB w0 g m e mc V E N L w)(hN:N<=900000){Q:Sl->Int->aH->Prop}
  (hQ:∀r out (er:Int) w',tB w0 g m e mc V E N L w'->EG 1 eU r out w' (tF r)->(∀b,r.b=some b->w0.heap.size<=b.block)->out.length<=N->(V->out=E/\er=0)->Q r er w'):pX (some ⟨g,0,none⟩) w Q:=by
 have h0:=h;obtain⟨S,xs,sp,a,s,md,l,om,n,v⟩:=h;have zz:=md.size;refine aAo a aB λr w' k rd fr=>hQ r _ _ w' (h0.kp k) rd (λb hb=>by have:=fr b hb;omega) ?_ λhV=>?_
 ·cases sp with
  |true=>exact cY _
  |false=>exact n
 ·obtain⟨rfl,rfl⟩:=v hV;exact⟨rfl,rfl⟩
def tB.aO(h:tB w0 g m e mc V E N L w):aL w0 w:=by
 obtain⟨S,xs,sp,a,s,md,l,om,n,v⟩:=h;exact(aU.refl (λ_=>False) w0).fresh md λ_=>id
def tB.new{K:Addr->aH->Prop}(k0:aL w0 w)(o:cX w m e mc)(hK:∀w',tB w0 w.heap.size m e mc V [] 0 [] w'->K ⟨w.heap.size,0,none⟩ w'):aG w #[Value.slice none 0 0,Value.bool false] Fe K:=by
 have z0:=k0.size;have ol:=o.lt;refine cM (cs:=[aW bD,.bool false]) λw1 b1 k1 z1=>hK w1 ⟨λk=>k=w.heap.size\/False,[],false,⟨bD,bL.yH b1 Ez λ_ _ h=>h⟩,λk hk=>hk.elim (λh=>aB) False.elim,(k0.tr k1).wk,λp hp=>(by cases hp),⟨o.aK k1 id,λhk=>hk.elim (λh=>aB) id⟩,dN _,λ_=>⟨rfl,rfl⟩⟩
end
end
end Go.Proofs.YtihggjgakbgomaaGreat
