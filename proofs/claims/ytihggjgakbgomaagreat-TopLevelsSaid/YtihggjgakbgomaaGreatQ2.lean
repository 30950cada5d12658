import Derived.Laws.BytesArg
import Derived.Test.YtihggjgakbgomaaGreatA1
import Derived.Test.YtihggjgakbgomaaGreatF1
import Derived.Test.YtihggjgakbgomaaGreatQ1
import Derived.Test.YtihggjgakbgomaaGreatA2
import Derived.Test.YtihggjgakbgomaaGreatF2
namespace Go.Proofs.YtihggjgakbgomaaGreat
open Go Go.Den
open Tryz (prog)
section
structure Mc where
 N:mY
 gl:Nat
 rs:Sl
def Mc.dK(H:Mc)(k:Nat):Prop:=k=H.gl\/H.N.dK k\/∃a,H.rs.b=some a/\k=a.block
structure oS(w:aH)(H:Mc)(n:Nat)(A:List bO)(R:List Int):Prop where
 head:cU w H.gl tLev [.pointer (some ⟨H.N.g,0,none⟩),sv H.rs]
 LM:kY w H.N n A
 iZ:dD w dG 1 eI H.rs R
 rlen:R.length=n
section
variable{w:aH}{H:Mc}{n:Nat}{A:List bO}{R:List Int}
theorem oS.aK{F:Nat->Prop}{w':aH}(h:oS w H n A R)(m:aU F w w')(hF:∀k,H.dK k->¬F k):oS w' H n A R:=
 ⟨h.head.aK m (hF _ (.inl rfl)),h.LM.aK m λk hk=>hF k (.inr (.inl hk)),h.iZ.aK m λa ha=>hF _ (.inr (.inr ⟨a,ha,rfl⟩)),h.rlen⟩
theorem oS.aO{w':aH}(h:oS w H n A R)(k:aL w w'):oS w' H n A R:=h.aK k λ_ _=>id
theorem oS.lt(h:oS w H n A R){k:Nat}(hk:H.dK k):k<w.heap.size:=by
 rcases hk with rfl|hk|⟨a,ha,rfl⟩
 ·exact h.head.lt
 ·exact h.LM.at_.lt hk
 ·exact h.iZ.lt ha
theorem oS.c0(h:oS w H n A R):w.cell? ((⟨H.gl,0,none⟩:Addr).add 0)=some (.pointer (some ⟨H.N.g,0,none⟩)):=by rw[aS,h.head.cell];rfl
theorem oS.c1(h:oS w H n A R):w.cell? ((⟨H.gl,0,none⟩:Addr).add 1)=some (sv H.rs):=by rw[aS,h.head.cell];rfl
theorem Hk{v:Int}{Q:Int->aH->Prop}(h:oS w H n A R)(hQ:Q (cB R v) w):uU (some ⟨H.gl,0,none⟩) v w Q:=by
 unfold uU;have sl:=h.iZ.len;unfold cB at hQ;refine aF (λh=>by simp at h) (λ_=>?_);refine aJ (λcC=>?_) (λh0=>?_)
 ·rw[if_neg aB] at hQ;exact hQ
 ·refine aA rfl (aE (k:=.slice) H.rs h.c1 ?_);refine aJ (λkC=>?_) (λcC=>?_)
  ·have:¬(0<=v/\v<(R.length:Int)):=by
    omega
   rw[if_neg this] at hQ;exact hQ
  ·have GM:¬v>=(H.rs.l:Int):=cC;have Lb:¬v<0:=h0;have cQ:R[v.toNat]? =some (R.getD v.toNat 0):=by
    rw[LR,cM (show v.toNat<R.length by omega)];rfl
   rw[if_pos ⟨aB,aB⟩] at hQ;obtain⟨p,hp,hc⟩:=bP (k:=.i) (e:=λx=>x) (h.iZ.rd eX) cQ;exact aA rfl (aE (k:=.slice) H.rs h.c1 ⟨⟨aB,aB⟩,aA hp (aE (k:=.i) _ hc hQ)⟩)
theorem Up_c1_i{b1 b2:Nat}{v:Int}{x:bO}{K:Value->aH->Prop}(h:oS w H n A R)(o1:cU w b1 131 [.pointer (some ⟨H.gl,0,none⟩)])(o2:cU w b2 dG [aD v])(hK:∀w',aL w w'->K (.bool (decide (cB R x.t<=cB R v))) w'):
  lI prog (.func (.func au) #[] #[.pointer (some ⟨b1,0,none⟩),.pointer (some ⟨b2,0,none⟩)]) [Ge x] w K:=by
 refine pI ra iT (first:=#[]) (gN (ks:=[.agg [.i,.i,.i,.i],.c .ptr,.c .ptr]) (t:=(nM x,some ⟨b1,0,none⟩,some ⟨b2,0,none⟩,())) ?_)
 show KB (nM x) (some ⟨b1,0,none⟩) (some ⟨b2,0,none⟩) w λr w'=>K (.bool r) w';unfold KB;refine bD λw1 oa k1 _=>?_;have d1:aL w1 w1.drew:=aU.drew (aU.refl _ w1);have k:=k1.tr d1;have h1:=h.aO k;have p1:=iC (o1.aK k id);have p2:=iC (o2.aK k id);have pa:=(qJ (x:=x) (oa.aK d1 id)).2.1;refine aA rfl (aE (k:=.ptr) (some ⟨H.gl,0,none⟩) p1 (aE (k:=.i) x.t pa (aA rfl (aE (k:=.ptr) (some ⟨H.gl,0,none⟩) p1 (aA rfl (aE (k:=.i) v p2 ?_))))));exact Hk h1 ⟨p2,p1,Hk h1 (hK _ k)⟩
theorem Down_c1_i{b1 b2:Nat}{v:Int}{x:bO}{K:Value->aH->Prop}(h:oS w H n A R)(o1:cU w b1 131 [.pointer (some ⟨H.gl,0,none⟩)])(o2:cU w b2 dG [aD v])(hK:∀w',aL w w'->K (.bool (decide (cB R x.f<=cB R v))) w'):
  lI prog (.func (.func Mk) #[] #[.pointer (some ⟨b1,0,none⟩),.pointer (some ⟨b2,0,none⟩)]) [Ge x] w K:=by
 refine pI Ub iT (first:=#[]) (gN (ks:=[.agg [.i,.i,.i,.i],.c .ptr,.c .ptr]) (t:=(nM x,some ⟨b1,0,none⟩,some ⟨b2,0,none⟩,())) ?_)
 show AQ (nM x) (some ⟨b1,0,none⟩) (some ⟨b2,0,none⟩) w λr w'=>K (.bool r) w';unfold AQ;refine bD λw1 oa k1 _=>?_;have d1:aL w1 w1.drew:=aU.drew (aU.refl _ w1);have k:=k1.tr d1;have h1:=h.aO k;have p1:=iC (o1.aK k id);have p2:=iC (o2.aK k id);have pa:=(qJ (x:=x) (oa.aK d1 id)).1;refine aA rfl (aE (k:=.ptr) (some ⟨H.gl,0,none⟩) p1 (aE (k:=.i) x.f pa (aA rfl (aE (k:=.ptr) (some ⟨H.gl,0,none⟩) p1 (aA rfl (aE (k:=.i) v p2 ?_))))));exact Hk h1 ⟨p2,p1,Hk h1 (hK _ k)⟩
theorem Up_i{v:Int}{Q:Sl->aH->Prop}(h:oS w H n A R)(hQ:∀s w',dD w' iA 4 dU s (upL A R v)->aL w w'->(∀b,s.b=some b->w.heap.size<=b.block)->Q s w'):Fb (some ⟨H.gl,0,none⟩) v w Q:=by
 unfold Fb;refine bD λw1 o1 k1 z1=>bD λw2 o2 k2 z2=>?_;have PM:=o1.aK k2 id;have k02:=k1.tr k2;have d2:aL w2 w2.drew:=aU.drew (aU.refl _ w2);have k0d:=k02.tr d2;have hd:=h.aO k0d;refine aE (k:=.ptr) (some ⟨H.gl,0,none⟩) (iC PM) ?_;refine aF (λh=>by simp at h) (λ_=>?_);refine aE (k:=.ptr) (some ⟨H.gl,0,none⟩) (iC (PM.aK d2 id)) (aA rfl (aE (k:=.ptr) (some ⟨H.N.g,0,none⟩) hd.c0 (aE (k:=.i) v (iC (o2.aK d2 id)) ?_)));have PN:=h.LM.sz;have hol:=h.LM.ok.vP v;refine Xk hd.LM λs3 w3 v3 k3 f3=>?_;have K3:=k0d.tr k3;have gu:∀a,s3.b=some a->w.heap.size<=a.block/\a.block≠w.heap.size/\a.block≠w1.heap.size:=λa ha=>by
  have:=f3 a ha;have e:w2.drew.heap.size=w2.heap.size:=rfl;omega
 have p1:=(PM.aK d2 id).aK k3 id;have p2:=(o2.aK d2 id).aK k3 id;refine KG (p:=λx=>decide (cB R x.t<=cB R v)) (C:=λw'=>oS w' H n A R/\cU w' w.heap.size 131 [.pointer (some ⟨H.gl,0,none⟩)]/\cU w' w1.heap.size dG [aD v]) v3 aB ⟨h.aO K3,p1,p2⟩
  (λwa wb ⟨c1,c2,c3⟩ m=>⟨c1.aK m λk hk ⟨a,ha,e⟩=>by have:=(gu a ha).1;have:=h.lt hk;omega,c2.aK m λ⟨a,ha,e⟩=>(gu a ha).2.1 e.symm,c3.aK m λ⟨a,ha,e⟩=>(gu a ha).2.2 e.symm⟩)
  (λx wa K ⟨c1,c2,c3⟩ _ hK=>Up_c1_i c1 c2 c3 hK) λs4 w4 v4 m4 e4=>?_
 refine hQ s4 w4 ?_ (K3.fresh m4 λk ⟨a,ha,e⟩=>by rw[e];exact(gu a ha).1) λb hb=>(gu b (e4▸hb)).1;have:(eC A v).filter (λx=>!decide (cB R x.t<=cB R v))=upL A R v:=by
  unfold upL;refine ly3 λx _=>?_
  by_cases hh:cB R x.t<=cB R v
  ·simp[hh]
  ·simp[hh];omega
 rw[<-this];exact v4
theorem Down_i{v:Int}{Q:Sl->aH->Prop}(h:oS w H n A R)(hQ:∀s w',dD w' iA 4 dU s (DZ A R v)->aL w w'->(∀b,s.b=some b->w.heap.size<=b.block)->Q s w'):HZ (some ⟨H.gl,0,none⟩) v w Q:=by
 unfold HZ;refine bD λw1 o1 k1 z1=>bD λw2 o2 k2 z2=>?_;have PM:=o1.aK k2 id;have k02:=k1.tr k2;have d2:aL w2 w2.drew:=aU.drew (aU.refl _ w2);have k0d:=k02.tr d2;have hd:=h.aO k0d;refine aE (k:=.ptr) (some ⟨H.gl,0,none⟩) (iC PM) ?_;refine aF (λh=>by simp at h) (λ_=>?_);refine aE (k:=.ptr) (some ⟨H.gl,0,none⟩) (iC (PM.aK d2 id)) (aA rfl (aE (k:=.ptr) (some ⟨H.N.g,0,none⟩) hd.c0 (aE (k:=.i) v (iC (o2.aK d2 id)) ?_)));have PN:=h.LM.sz;have hol:=h.LM.ok.FJ v;refine In_i hd.LM λs3 w3 v3 k3 f3=>?_;have K3:=k0d.tr k3;have gu:∀a,s3.b=some a->w.heap.size<=a.block/\a.block≠w.heap.size/\a.block≠w1.heap.size:=λa ha=>by
  have:=f3 a ha;have e:w2.drew.heap.size=w2.heap.size:=rfl;omega
 have p1:=(PM.aK d2 id).aK k3 id;have p2:=(o2.aK d2 id).aK k3 id;refine KG (p:=λx=>decide (cB R x.f<=cB R v)) (C:=λw'=>oS w' H n A R/\cU w' w.heap.size 131 [.pointer (some ⟨H.gl,0,none⟩)]/\cU w' w1.heap.size dG [aD v]) v3 aB ⟨h.aO K3,p1,p2⟩
  (λwa wb ⟨c1,c2,c3⟩ m=>⟨c1.aK m λk hk ⟨a,ha,e⟩=>by have:=(gu a ha).1;have:=h.lt hk;omega,c2.aK m λ⟨a,ha,e⟩=>(gu a ha).2.1 e.symm,c3.aK m λ⟨a,ha,e⟩=>(gu a ha).2.2 e.symm⟩)
  (λx wa K ⟨c1,c2,c3⟩ _ hK=>Down_c1_i c1 c2 c3 hK) λs4 w4 v4 m4 e4=>?_
 refine hQ s4 w4 ?_ (K3.fresh m4 λk ⟨a,ha,e⟩=>by rw[e];exact(gu a ha).1) λb hb=>(gu b (e4▸hb)).1;have:(nX A v).filter (λx=>!decide (cB R x.f<=cB R v))=DZ A R v:=by
  unfold DZ;refine ly3 λx _=>?_
  by_cases hh:cB R x.f<=cB R v
  ·simp[hh]
  ·simp[hh];omega
 rw[<-this];exact v4
end
theorem Build_i{N:mY}{n:Nat}{L:List bO}{W:aH}{Q:cR->aH->Prop}(h:kY W N n L)(hn:n<=51)(hw:∀e∈L,e.w<=40)
  (hQ:∀w' H,oS w' H n (cW n L n).all (cW n L n).iZ->aL W w'->(∀k,H.dK k->W.heap.size<=k)->Q (some ⟨H.gl,0,none⟩) w'):wD (some ⟨N.g,0,none⟩) W Q:=by
 unfold wD;have hL:=h.ok;have hLl:=hL.len h.sz;refine aF (λh=>by simp at h) (λ_=>?_);have d0:aL W W.drew:=aU.drew (aU.refl _ W);refine Copy_i (h.aO d0) aB λw1 C hC k1 fC=>?_;have K1:=d0.tr k1;refine QV (h.aO K1) ?_;refine wW UF (aY:=eB) false rfl Ct aB (lK _) aB aB λw3 v3 k3=>?_;simp only[dW] at v3 ⊢;have K3:=K1.tr k3;refine Copy_i (h.aO K3) aB λw4 A hA k4 fA=>?_;have K4:=K3.tr k4;refine QV (h.aO K4) ?_;refine wW iK (aY:=eI) (0:Int) rfl eX aB (lK _) aB aB λw6 v6 k6=>?_;simp only[dW] at v6 ⊢;have K6:=K4.tr k6;refine bD λw7 o7 k7 z7=>?_;have K7:=K6.tr k7;refine QV (h.aO K7) ?_;have c1:=hC.at_;have hC7:=(((hC.aO k3).aO k4).aO k6).aO k7;have hA7:=(hA.aO k6).aO k7;have v37:=((v3.aK k4 λ_ _=>id).aK k6 λ_ _=>id).aK k7 λ_ _=>id;have v67:=v6.aK k7 λ_ _=>id;have z13:w1.heap.size<w3.heap.size:=v3.lt rfl;have z46:w4.heap.size<w6.heap.size:=v6.lt rfl;have zW1:W.heap.size<=w1.heap.size:=K1.size;have z34:w3.heap.size<=w4.heap.size:=k4.size;have sepC:∀k,C.dK k->W.heap.size<=k/\k<w1.heap.size:=λk hk=>⟨fC k hk,hC.at_.lt hk⟩;have sepA:∀k,A.dK k->w3.heap.size<=k/\k<w4.heap.size:=λk hk=>⟨fA k hk,hA.at_.lt hk⟩;generalize xS:(⟨some ⟨w1.heap.size,0,none⟩,n,n⟩:Sl)=s1 at*;generalize LJ:(⟨some ⟨w4.heap.size,0,none⟩,n,n⟩:Sl)=s2 at*;have OC:s1.b=some ⟨w1.heap.size,0,none⟩:=by rw[<-xS]
 have fe:s2.b=some ⟨w4.heap.size,0,none⟩:=by rw[<-LJ]
 have s1l:s1.l=n:=by rw[<-xS]
 have s2l:s2.l=n:=by rw[<-LJ]
 generalize hg1:w1.heap.size=bg at*;generalize Al:w4.heap.size=br at*;generalize hg3:w6.heap.size=bl at*;refine bL (λc t w9=>∃(k:Nat) (C' A':mY),k<=n/\c=n-k/\t=((k:Int),())/\kY w9 C' n (cW n L k).left/\C'.g=C.g/\kY w9 A' n (cW n L k).all/\A'.g=A.g/\dD w9 vI 1 eB s1 (cW n L k).gone/\dD w9 dG 1 eI s2 (cW n L k).iZ/\
   cU w9 bl tLev [.pointer (some ⟨A.g,0,none⟩),sv s2]/\aL W w9/\(∀b,C'.dK b->W.heap.size<=b/\¬A'.dK b/\b≠bg/\b≠br/\b≠bl)/\(∀b,A'.dK b->W.heap.size<=b/\b≠bg/\b≠br/\b≠bl)/\w7.heap.size<=w9.heap.size) n
  ⟨0,C,A,dE _,rfl,rfl,hC7,rfl,hA7,rfl,v37,v67,by rw[<-LJ];exact o7,K7,λb hb=>?_,λb hb=>?_,dL _⟩ ?_
 ·obtain⟨q1,q2⟩:=sepC b hb;exact⟨q1,λbR=>by have:=sepA b bR;omega,aB,aB,aB⟩
 ·obtain⟨q1,q2⟩:=sepA b hb;exact⟨aB,aB,aB,aB⟩
 rintro c t w9 ⟨k,C',A',hk,rfl,rfl,hC9,gC9,hA9,gA9,u1,u2,ol9,K9,fC9,fA9,z9⟩ X hX;dsimp only;have VL:=xW hL hw hn k hk;refine aJ (λcC=>?_) (λkC=>?_)
 ·have lT:k<n:=aB;obtain⟨x0,x1,xg⟩:=BH VL lT;have vE:cW n L (k+1)=pJ n k (cW n L k):=rfl;rw[<-gC9];refine First_i hC9 (u1.rd Ct) (by rw[VL.gl];omega) λeZ IP=>?_;unfold pJ at vE;generalize kT n (cW n L k).left (cW n L k).gone=v at*;refine Bu (hC9.aO IP) λs3 eN v11 LA f11=>?_;have kh:=IP.tr LA;have sl3:=v11.len;have hsb:=Oh VL.Fi h.sz v;have hC11:=hC9.aO kh;have hA11:=hA9.aO kh;have f11':∀b,s3.b=some b->¬C'.dK b.block/\¬A'.dK b.block/\b.block<eN.heap.size:=λb hb=>by
   have h1:=f11 b hb;have h2:=IP.size;exact⟨λhh=>by have:=hC9.at_.lt hh;omega,λhh=>by have:=hA9.at_.lt hh;omega,v11.lt hb⟩
  refine bL (λc t eE=>∃(i:Nat) (C2 A2:mY),i<=(fX n (cW n L k).left v).length/\c=(fX n (cW n L k).left v).length-i/\t=((i:Int),())/\kY eE C2 n (gW n (cW n L k).left ((fX n (cW n L k).left v).take i))/\C2.g=C'.g/\kY eE A2 n (gW n (cW n L k).all ((fX n (cW n L k).left v).take i))/\A2.g=A'.g/\
    dD eE iA 4 dU s3 (fX n (cW n L k).left v)/\dD eE vI 1 eB s1 (cW n L k).gone/\dD eE dG 1 eI s2 (cW n L k).iZ/\cU eE bl tLev [.pointer (some ⟨A.g,0,none⟩),sv s2]/\aL W eE/\
    (∀b,C2.dK b->W.heap.size<=b/\¬A2.dK b/\b≠bg/\b≠br/\b≠bl/\∀a,s3.b=some a->b≠a.block)/\(∀b,A2.dK b->W.heap.size<=b/\b≠bg/\b≠br/\b≠bl/\∀a,s3.b=some a->b≠a.block)/\eN.heap.size<=eE.heap.size) (fX n (cW n L k).left v).length
   ⟨0,C',A',dE _,rfl,rfl,hC11,rfl,hA11,rfl,v11,u1.aK kh (λ_ _=>id),u2.aK kh (λ_ _=>id),ol9.aK kh id,K9.tr kh,λb hb=>?_,λb hb=>?_,dL _⟩ ?_
  ·obtain⟨q1,q2,q3,q4,q5⟩:=fC9 b hb;exact⟨q1,q2,q3,q4,q5,λa ha e=>(f11' a ha).1 (e▸hb)⟩
  ·obtain⟨q1,q3,q4,q5⟩:=fA9 b hb;exact⟨q1,q3,q4,q5,λa ha e=>(f11' a ha).2.1 (e▸hb)⟩
  rintro c t eE ⟨i,C2,A2,hi,rfl,rfl,hC12,gC12,hA12,gA12,Ce,Ff,r12,l12,uw,YU,Rp,z12⟩ Y hY;have zz9:w7.heap.size<=eE.heap.size:=by have:=kh.size;omega
  refine aJ (λSF=>?_) (λWa=>?_)
  ·have hlt2':(i:Int)<(s3.l:Int):=SF;have dJ:i<(fX n (cW n L k).left v).length:=aB;obtain⟨p,hp,hh⟩:=vO (Ce.rd jJ) (cM dJ);have tkC:=NH n (cW n L k).left ((fX n (cW n L k).left v).take i) (fX n (cW n L k).left v)[i];have tkA:=NH n (cW n L k).all ((fX n (cW n L k).left v).take i) (fX n (cW n L k).left v)[i];rw[<-mM dJ] at tkC tkA;generalize (fX n (cW n L k).left v)[i]=x at*;show(0<=(i:Int)/\(i:Int)<(s3.l:Int))/\_;rw[dW];refine⟨⟨aB,hlt2'⟩,aA hp (aX (nM x) hh ?_)⟩;simp only[aG];refine CQ λmL Ch o14 zb14=>?_;refine aX (nM x) (iM o14) ?_;have hC14:=hC12.aO Ch;have hA14:=hA12.aO Ch;have K14:=uw.tr Ch;have nbC:∀b,C2.dK b->b≠eE.heap.size:=λb hb e=>by have:=hC12.at_.lt hb;omega
   have nbA:∀b,A2.dK b->b≠eE.heap.size:=λb hb e=>by have:=hA12.at_.lt hb;omega
   have zW12:=uw.size;have slt:∀a,s3.b=some a->a.block<eE.heap.size:=λa ha=>Ce.lt ha;generalize jl:eE.heap.size=b3 at*;rw[<-gC12];refine Put_i hC14 λfY C3 hC15 gC15 Fj f15=>?_;have hA15:=hA14.aK Fj λb hb bR=>(YU b bR).2.1 hb;have o15:=o14.aK Fj λhb=>nbC b3 hb rfl;have v15:=(Ce.aK Ch λ_ _=>id).aK Fj λa ha hb=>(YU _ hb).2.2.2.2.2 a ha rfl;have u15:=(Ff.aK Ch λ_ _=>id).aK Fj λa ha hb=>by rw[OC] at ha;cases ha;exact(YU _ hb).2.2.1 rfl
   have r15:=(r12.aK Ch λ_ _=>id).aK Fj λa ha hb=>by rw[fe] at ha;cases ha;exact(YU _ hb).2.2.2.1 rfl
   have l15:=(l12.aK Ch id).aK Fj λhb=>(YU _ hb).2.2.2.2.1 rfl;have K15:aL W fY:=aU.fresh K14 Fj λb hb=>(YU b hb).1;have fC15:∀b,C3.dK b->W.heap.size<=b/\¬A2.dK b/\b≠bg/\b≠br/\b≠bl/\b≠b3/\∀a,s3.b=some a->b≠a.block:=λb hb=>by
    rcases f15 b hb with hb|hb
    ·obtain⟨q1,q2,q3,q4,q5,q6⟩:=YU b hb;exact⟨q1,q2,q3,q4,q5,nbC b hb,q6⟩
    ·have:=hA14.at_;exact⟨aB,λh'=>by have:=hA14.at_.lt h';omega,aB,aB,aB,aB,λa ha e=>by have:=slt a ha;omega⟩
   have d15:aL fY fY.drew:=aU.drew (aU.refl _ fY);have l15d:=l15.aK d15 id;refine aE (k:=.ptr) (some ⟨A.g,0,none⟩) (by rw[aS,l15d.cell];rfl) (aX (nM x) (iM (o15.aK d15 id)) ?_);rw[<-gA9,<-gA12];refine Put_i (hA15.aO d15) λjN A3 hA16 gA16 m16 f16=>?_;have ke:aU A2.dK fY jN:=d15.wk.tr m16;have hC16:=hC15.aK ke λb hb bR=>(fC15 b hb).2.1 bR;have v16:=v15.aK ke λa ha hb=>(Rp _ hb).2.2.2.2 a ha rfl;have u16:=u15.aK ke λa ha hb=>by rw[OC] at ha;cases ha;exact(Rp _ hb).2.1 rfl
   have r16:=r15.aK ke λa ha hb=>by rw[fe] at ha;cases ha;exact(Rp _ hb).2.2.1 rfl
   have l16:=l15.aK ke λhb=>(Rp _ hb).2.2.2.1 rfl;have K16:aL W jN:=aU.fresh K15 ke λb hb=>(Rp b hb).1;have z1516:fY.heap.size<=jN.heap.size:=ke.size;have z1415:=Fj.size;rw[pP i aB];refine hY _ _ _ aB ⟨i+1,C3,A3,dJ,rfl,rfl,by rw[tkC];exact hC16,by rw[gC15,gC12],by rw[tkA];exact hA16,by rw[gA16,gA12],v16,u16,r16,l16,K16,λb hb=>?_,λb hb=>?_,aB⟩
   ·obtain⟨q1,q2,q3,q4,q5,_,q6⟩:=fC15 b hb;refine⟨q1,λbR=>?_,q3,q4,q5,q6⟩;rcases f16 b bR with h'|h'
    ·exact q2 h'
    ·have h'':fY.heap.size<=b:=h';have:=hC15.at_.lt hb;omega
   ·rcases f16 b hb with h'|h'
    ·obtain⟨q1,q3,q4,q5,q6⟩:=Rp b h';exact⟨q1,q3,q4,q5,q6⟩
    ·have h'':fY.heap.size<=b:=h';exact⟨aB,aB,aB,aB,λa ha e=>by have:=slt a ha;omega⟩
  ·have hge2':¬(i:Int)<(s3.l:Int):=Wa;have ei:i=(fX n (cW n L k).left v).length:=aB;subst ei;rw[oI] at hC12 hA12;rw[<-gC12];refine Cut_i hC12 λmG C3 hC17 gC17 m17 f17=>?_;have hA17:=hA12.aK m17 λb hb bR=>(YU b bR).2.1 hb;have u17:=Ff.aK m17 λa ha hb=>by rw[OC] at ha;cases ha;exact(YU _ hb).2.2.1 rfl
   have r17:=r12.aK m17 λa ha hb=>by rw[fe] at ha;cases ha;exact(YU _ hb).2.2.2.1 rfl
   have l17:=l12.aK m17 λhb=>(YU _ hb).2.2.2.2.1 rfl;have K17:aL W mG:=aU.fresh uw m17 λb hb=>(YU b hb).1;have zl:=VL.rl;have zg:=VL.gl;refine aE (k:=.slice) s2 (by rw[aS,l17.cell];rfl) ?_;refine⟨⟨x0,by rw[s2l];omega⟩,aA fe ?_⟩;refine r17.store eX fe (i:=v.toNat) aB (k:Int) (v:=aD (k:Int)) rfl cZ (FC _) λqB r18 m18 _=>?_;have m18':aU (λb=>b=br) mG qB:=m18;have zbg:bg≠br:=aB;have u18:=u17.aK m18' λa ha e=>by rw[OC] at ha;cases ha;exact zbg e
   refine⟨⟨x0,by first|omega|(rw[s1l];omega)⟩,aA (by first|rfl|exact OC) ?_⟩
   refine u18.store Ct OC (i:=v.toNat) aB true (v:=.bool true) rfl iX (oneB true) λqA u19 m19 _=>?_;have LF:aU (λb=>b=bg) qB qA:=m19;have r19:=r18.aK LF λa ha e=>by rw[fe] at ha;cases ha;exact zbg (show bg=br from Eq.symm e)
   have fC17:∀b,C3.dK b->W.heap.size<=b/\¬A2.dK b/\b≠bg/\b≠br/\b≠bl:=λb hb=>by
    rcases f17 b hb with h'|h'
    ·obtain⟨q1,q2,q3,q4,q5,_⟩:=YU b h';exact⟨q1,q2,q3,q4,q5⟩
    ·exact⟨aB,λh''=>by have:=hA12.at_.lt h'';omega,aB,aB,aB⟩
   have hC19:=(hC17.aK m18' λb hb e=>(fC17 b hb).2.2.2.1 e).aK LF λb hb e=>(fC17 b hb).2.2.1 e;have hA19:=(hA17.aK m18' λb hb e=>(Rp b hb).2.2.1 e).aK LF λb hb e=>(Rp b hb).2.1 e;have l19:=(l17.aK m18' (show¬bl=br by omega)).aK LF (show¬bl=bg by omega);have K19:aL W qA:=(aU.fresh K17 m18' λb e=>aB).fresh LF λb e=>aB;have zz:w7.heap.size<=qA.heap.size:=by have:=m17.size;have:=m18.size;have:=m19.size;omega
   show X (aQ ((k:Int)+1),()) qA;rw[pP k aB];exact hX _ _ _ aB ⟨k+1,C3,A2,lT,rfl,rfl,by rw[vE];exact hC19,by rw[gC17,gC12,gC9],by rw[vE];exact hA19,by rw[gA12,gA9],by rw[vE];exact u19,by rw[vE];exact r19,l19,K19,fC17,λb hb=>by obtain⟨q1,q3,q4,q5,_⟩:=Rp b hb;exact⟨q1,q3,q4,q5⟩,zz⟩
 ·have e:k=n:=aB;subst e;refine hQ w9 ⟨A',bl,s2⟩ ⟨by rw[gA9];exact ol9,hA9,u2,VL.rl⟩ K9 λb hb=>?_;rcases hb with hb|hb|⟨a,ha,rfl⟩
  ·have bR:b=bl:=hb;omega
  ·exact(fA9 b hb).1
  ·rw[show(Mc.mk A' bl s2).rs=s2 from rfl,fe] at ha;cases ha;show W.heap.size<=br;omega
end
section
abbrev eP(p:Int×Int):List Value:=[aD p.1,aD p.2]
theorem VK:∀p:Int×Int,(eP p).length=2:=λ_=>rfl
theorem oneP:∀p:Int×Int,∀u∈eP p,u.oneCell'=true:=by intro p u hu;simp at hu;rcases hu with rfl|rfl<;>rfl
theorem dD.new{α:Type}{w:aH}{e:TypeId}{n:Nat}{aY:α->List Value}{g:Nat}(gE:∀x,(aY x).length=n)(xs:List α)(h:cU w g e (xs.flatMap aY))(hm:xs.length<=maxLen):dD w e n aY ⟨some ⟨g,0,none⟩,xs.length,xs.length⟩ xs:=
 ⟨rfl,dL _,hm,.inr ⟨g,[],rfl,by rw[uA];exact h,by rw[uA];exact bF gE xs⟩⟩
theorem HM{s:Sl}{xs:List Int}{w:aH}{Q:Sl->aH->Prop}(hs:Rd w s 1 eI xs)(hb:xs.length<1099511627776)
  (hQ:∀s' w',dD w' dG 1 eI s' xs->aL w w'->(∀b,s'.b=some b->w.heap.size<=b.block)->Q s' w'):dF s w Q:=by
 unfold dF;refine aF (λh=>?_) (λh=>?_)
 ·have hn:xs=[]:=by
   cases xs with
   |nil=>rfl
   |cons x r=>obtain⟨a,ha,_⟩:=hs.get 0 x rfl;rw[ha] at h;cases h
  subst hn;exact hQ _ w (dD.nil _ _ _ _) (aU.refl _ _) (λb hb=>by cases hb)
 ·refine bD λw1 o1 k1 z1=>?_;have v0:dD w1 dG 1 eI ⟨some ⟨w.heap.size,0,none⟩,0,0⟩ []:=dD.new eX [] o1 dN;refine fH iK eX FC v0 (hs.aK k1 cI (λ_ _=>id)) (by simp;omega) (by simp;omega) λr w' hr hm Va _=>?_;refine hQ r w' (by simpa using hr) (aU.fresh k1 hm λk ⟨a,ha,hk⟩=>by cases ha;rw[hk];exact dL _) λb hb=>?_;rcases Va with h1|⟨b',bR,cC⟩
  ·rw[hb] at h1;cases h1;exact dL _
  ·rw[hb] at bR;cases bR;have:=k1.size;omega
section
variable{w:aH}{H:Mc}{n:Nat}{A L:List bO}{R:List Int}
end
end
section
theorem DY(p:Int×Int):eP p≠[]:=by simp
theorem FI:∀r:R3,(eR3 r).length=3:=λ_=>rfl
theorem oneR3:∀r:R3,∀u∈eR3 r,u.oneCell'=true:=by intro r u hu;simp at hu;rcases hu with rfl|rfl|rfl<;>rfl
theorem eY{t:TypeId}{w:aH}{g:Nat}{e:TypeId}{cs vs:List Value}{K:aH->Prop}(h:cU w g e cs)(ht:(prog.info? t).map (·.size)=some vs.length)(hl:cs.length=vs.length)(h1:∀u∈vs,u.oneCell'=true)
  (hK:∀w',cU w' g e vs->aU (λk=>k=g) w w'->w'.heap.size=w.heap.size->K w'):aI prog t ⟨g,0,none⟩ (.agg vs.toArray) w K:=by
 refine CH h (by rw[ht];simp[Value.cells]) (by simp[Value.cells,hl]) (by simpa [Value.cells] using h1) λw' ho hm hz=>hK w' ?_ hm hz;have:cs.take 0++(Value.agg vs.toArray).cells.toList++cs.drop (0+(Value.agg vs.toArray).cells.size)=vs:=by simp[Value.cells,List.drop_of_length_le (show cs.length<=vs.length by omega)]
 rwa[this] at ho
theorem fF{t:TypeId}{zs vs:List Value}{w:aH}{K:Addr->aH->Prop}(ht:(prog.info? t).map (·.size)=some vs.length)(hl:zs.length=vs.length)(h1:∀u∈vs,u.oneCell'=true)
  (hK:∀w',cU w' w.heap.size t vs->aL w w'->w'.heap.size=w.heap.size+1->K ⟨w.heap.size,0,none⟩ w'):aG w zs.toArray t λa w1=>aI prog t a (.agg vs.toArray) w1 λw2=>K a w2:=
 bD λw1 o1 k1 z1=>eY o1 ht hl h1 λw2 o2 m2 z2=>hK w2 o2 (k1.fresh m2 λk e=>by rw[show k=w.heap.size from e];exact dL _) aB
theorem qN{w:aH}{g:Nat}{e:TypeId}{x y z:Value}(h:cU w g e [x,y,z]):w.cell? ((⟨g,0,none⟩:Addr).add 0)=some x/\w.cell? ((⟨g,0,none⟩:Addr).add 1)=some y/\w.cell? ((⟨g,0,none⟩:Addr).add 2)=some z:=by
 refine⟨?_,?_,?_⟩<;>rw[aS,h.cell]<;>rfl
theorem jy{w:aH}{g:Nat}{e:TypeId}{x y:Value}(h:cU w g e [x,y]):w.cell? ((⟨g,0,none⟩:Addr).add 0)=some x/\w.cell? ((⟨g,0,none⟩:Addr).add 1)=some y:=by
 refine⟨?_,?_⟩<;>rw[aS,h.cell]<;>rfl
theorem Nd{w:aH}{s:Sl}{xs:List (Int×Int)}(h:Rd w s 2 eP xs){i:Nat}{x:Int×Int}(hx:xs[i]? =some x):∃a,s.b=some a/\bQ w (a.add (i*2)) 0 (qT [.i,.i] (x.1,x.2,()))/\
  w.cell? ((a.add (i*2)).add 0)=some (aD x.1)/\w.cell? ((a.add (i*2)).add 1)=some (aD x.2):=by
 obtain⟨a,ha,hh⟩:=h.get i x hx;have h2:=iB.1 hh;exact⟨a,ha,hh,by simpa using h2 0 _ rfl,by simpa using h2 1 _ rfl⟩
theorem rd3{w:aH}{s:Sl}{xs:List R3}(h:Rd w s 3 eR3 xs){i:Nat}{x:R3}(hx:xs[i]? =some x):∃a,s.b=some a/\bQ w (a.add (i*3)) 0 (qT [.i,.i,.i] (x.1,x.2.1,x.2.2,()))/\
  w.cell? ((a.add (i*3)).add 0)=some (aD x.1)/\w.cell? ((a.add (i*3)).add 1)=some (aD x.2.1)/\w.cell? ((a.add (i*3)).add 2)=some (aD x.2.2):=by
 obtain⟨a,ha,hh⟩:=h.get i x hx;have h2:=iB.1 hh;exact⟨a,ha,hh,by simpa using h2 0 _ rfl,by simpa using h2 1 _ rfl,by simpa using h2 2 _ rfl⟩
abbrev GT:=Sl×Sl×Sl×Unit
abbrev UQ(g:GT):List Value:=[sv g.1,sv g.2.1,sv g.2.2.1]
structure GQ(w:aH)(g:GT)(G:Gr):Prop where
 nd:Rd w g.1 2 eP G.N
 ed:Rd w g.2.1 3 eR3 G.E
 bn:Rd w g.2.2.1 2 eP G.B
theorem GQ.aO{w w':aH}{g:GT}{G:Gr}(h:GQ w g G)(k:aL w w'):GQ w' g G:=
 ⟨h.nd.aK k DY λ_ _=>id,h.ed.aK k ZE λ_ _=>id,h.bn.aK k DY λ_ _=>id⟩
theorem Xg(g:GT):∀u∈UQ g,u.oneCell'=true:=by intro u hu;simp at hu;rcases hu with rfl|rfl|rfl<;>rfl
theorem mJ{w:aH}{b:Nat}{e:TypeId}{g:GT}(h:cU w b e (UQ g)):bQ w ⟨b,0,none⟩ 0 (qT [.slice,.slice,.slice] g):=iM h
theorem GQ.jV{w:aH}{g:GT}{G:Gr}(h:GQ w g G){i:Int}(hi:G.mH i):∃a,g.2.1.b=some a/\bQ w (a.add (i.toNat*3)) 0 (qT [.i,.i,.i] (G.fr i,G.to i,G.wt i,()))/\
  w.cell? ((a.add (i.toNat*3)).add 0)=some (aD (G.fr i))/\w.cell? ((a.add (i.toNat*3)).add 1)=some (aD (G.to i))/\w.cell? ((a.add (i.toNat*3)).add 2)=some (aD (G.wt i)):=rd3 h.ed (G.get_ed hi)
structure Rw where
 g:Nat
 v:GT
 out:Sl
 LN:Sl
 fr:Sl
 to:Sl
def ByN(w:aH)(row first:Sl)(n m:Nat)(key:Int->Int):Prop:=∃fs rs,Rd w first 1 eI fs/\Rd w row 1 eI rs/\fs.length=n+1/\rs.length=m/\(∀i,i<=n->fs[i]? =some (qC (cK key m) i:Int))/\
 ∀v,v<n->qC (cK key m) v+cK key m v<=m/\(rs.drop (qC (cK key m) v)).take (cK key m v)=gk key m v
theorem ByN.aO{w w':aH}{row first:Sl}{n m:Nat}{key:Int->Int}(h:ByN w row first n m key)(k:aL w w'):ByN w' row first n m key:=by
 obtain⟨fs,rs,h1,h2,h3⟩:=h;exact⟨fs,rs,h1.aK k cI λ_ _=>id,h2.aK k cI λ_ _=>id,h3⟩
def Ty(w:aH)(s:Sl):Prop:=∀b,s.b=some b->∃t cs,cU w b.block t cs/\t≠31/\t≠gC
theorem Ty.aO{w w':aH}{s:Sl}(h:Ty w s)(k:aL w w'):Ty w' s:=λb hb=>by
 obtain⟨t,cs,o,h1⟩:=h b hb;exact⟨t,cs,o.aK k id,h1⟩
theorem Ty.nil{w:aH}:Ty w aZ:=λb hb=>by cases hb
theorem dD.Lf{α:Type}{w:aH}{e:TypeId}{n:Nat}{aY:α->List Value}{s:Sl}{xs:List α}(h:dD w e n aY s xs)(h1:e≠31/\e≠gC):Ty w s:=λb hb=>by
 rcases h.gR with⟨h0,_⟩|⟨g,cJ,h0,ho,_⟩
 ·rw[hb] at h0;cases h0
 ·rw[hb] at h0;cases h0;exact⟨e,_,ho,h1⟩
structure vM(w:aH)(H:Rw)(G:Gr):Prop where
 ok:sS G
 head:cU w H.g tGraph [sv H.v.1,sv H.v.2.1,sv H.v.2.2.1,sv H.out,sv H.LN,sv H.fr,sv H.to]
 val:GQ w H.v G
 out:ByN w H.out H.fr G.n G.m G.fr
 LN:ByN w H.LN H.to G.n G.m G.to
 Lf:Ty w H.v.1/\Ty w H.v.2.1/\Ty w H.v.2.2.1/\Ty w H.out/\Ty w H.LN/\Ty w H.fr/\Ty w H.to
theorem vM.aO{w w':aH}{H:Rw}{G:Gr}(h:vM w H G)(k:aL w w'):vM w' H G:=⟨h.ok,h.head.aK k id,h.val.aO k,h.out.aO k,h.LN.aO k,h.Lf.1.aO k,h.Lf.2.1.aO k,h.Lf.2.2.1.aO k,h.Lf.2.2.2.1.aO k,h.Lf.2.2.2.2.1.aO k,h.Lf.2.2.2.2.2.1.aO k,h.Lf.2.2.2.2.2.2.aO k⟩
section
variable{w:aH}{H:Rw}{G:Gr}
theorem vM.cells(h:vM w H G):w.cell? ((⟨H.g,0,none⟩:Addr).add 0)=some (sv H.v.1)/\w.cell? ((⟨H.g,0,none⟩:Addr).add 1)=some (sv H.v.2.1)/\w.cell? ((⟨H.g,0,none⟩:Addr).add 2)=some (sv H.v.2.2.1)/\
  w.cell? ((⟨H.g,0,none⟩:Addr).add 3)=some (sv H.out)/\w.cell? ((⟨H.g,0,none⟩:Addr).add 4)=some (sv H.LN)/\w.cell? ((⟨H.g,0,none⟩:Addr).add 5)=some (sv H.fr)/\w.cell? ((⟨H.g,0,none⟩:Addr).add 6)=some (sv H.to):=by
 have hh:=h.head;refine⟨?_,?_,?_,?_,?_,?_,?_⟩<;>rw[aS,hh.cell]<;>rfl
theorem tQ{Q:Int->aH->Prop}(h:vM w H G)(hQ:Q (G.m:Int) w):gO (some ⟨H.g,0,none⟩) w Q:=by
 unfold gO;refine aF (λh=>by simp at h) (λ_=>aA rfl ?_);rw[add_zero];refine aE (k:=.slice) H.v.2.1 h.cells.2.1 ?_;rw[h.val.ed.len];exact hQ
theorem ON{Q:Int->aH->Prop}(h:vM w H G)(hQ:Q (G.n:Int) w):pM (some ⟨H.g,0,none⟩) w Q:=by
 unfold pM;refine aF (λh=>by simp at h) (λ_=>aA rfl ?_);rw[add_zero];refine aE (k:=.slice) H.v.1 h.cells.1 ?_;rw[h.val.nd.len];exact hQ
theorem JM{i:Int}{Q:(Int×Int×Int×Unit)->Bool->aH->Prop}(h:vM w H G)(Re:G.mH i->∀w',aL w w'->Q (G.fr i,G.to i,G.wt i,()) true w')(pA:¬G.mH i->∀w',aL w w'->Q (0,0,0,()) false w'):
  iY (some ⟨H.g,0,none⟩) i w Q:=by
 unfold iY;refine bD λw1 o1 k1 z1=>?_;have zz:∀w2,aL w w2->cU w2 w.heap.size QH [aD 0,aD 0,aD 0]->¬G.mH i->aI prog QH ⟨w.heap.size,0,none⟩ (Value.agg #[(aD 0),(aD 0),(aD 0)]) w2 λw3=>
   eV [.i,.i,.i] w3 ⟨w.heap.size,0,none⟩ λ(t1:Int×Int×Int×Unit)=>Q (t1.1,t1.2.1,t1.2.2.1,()) false w3:=λw2 k2 o2 hn=>by
  refine eY (vs:=[aD 0,aD 0,aD 0]) o2 jP rfl (by simp[Value.oneCell']) λw3 o3 m3 _=>?_;refine aX (l:=[.i,.i,.i]) ((0:Int),(0:Int),(0:Int),()) (iM o3) (pA hn w3 (k2.fresh m3 λk e=>by rw[show k=w.heap.size from e];exact dL _))
 refine aJ (λDE=>zz w1 k1 o1 λhi=>aB) (λuB=>?_);refine tQ (h.aO k1) ?_;refine aJ (λkC=>zz w1 k1 o1 λhi=>aB) (λcC=>?_);have hi:G.mH i:=⟨aB,aB⟩;have h1:=h.aO k1;refine aA rfl ?_;rw[add_zero];refine aE (k:=.slice) H.v.2.1 h1.cells.2.1 ?_;obtain⟨a,ha,hh,_⟩:=h1.val.jV hi;refine⟨⟨hi.1,by rw[h1.val.ed.len];exact hi.2⟩,aA ha (aX (l:=[.i,.i,.i]) (G.fr i,G.to i,G.wt i,()) hh ?_)⟩;refine eY (vs:=[aD (G.fr i),aD (G.to i),aD (G.wt i)]) o1 jP rfl (by simp[Value.oneCell']) λw3 o3 m3 _=>?_;exact aX (l:=[.i,.i,.i]) (G.fr i,G.to i,G.wt i,()) (iM o3) (Re hi w3 (k1.fresh m3 λk e=>by rw[show k=w.heap.size from e];exact dL _))
theorem part_i{row first:Sl}{key:Int->Int}(h:ByN w row first G.n G.m key)(hm:G.m<=51){node:Int}(hn:G.GB node){Q:Sl->aH->Prop}
  (hQ:∀s w',dD w' dG 1 eI s (gk key G.m node.toNat)->aL w w'->(∀b,s.b=some b->w.heap.size<=b.block)->Q s w'):
  ∃x2 x3:Int,(∃a,first.b=some a/\w.cell? (a.add (node.toNat*1))=some (aD x2)/\w.cell? (a.add ((node+1).toNat*1))=some (aD x3))/\(0<=node/\node+1<(first.l:Int))/\(0<=x3/\x3<=(row.c:Int))/\
  (0<=x2/\x2<=(((Int.toNat x3):Nat):Int))/\dF ⟨(aR row.b row.c (Int.toNat x2) 1),((Int.toNat x3)-(Int.toNat x2)),(row.c-(Int.toNat x2))⟩ w Q:=by
 obtain⟨fs,rs,h1,h2,h3,h4,h5,h6⟩:=h;obtain⟨p1,p2⟩:=h6 node.toNat (by have:=hn.1;have:=hn.2;omega);have hl:=h2.len;have Rl:=h2.cap;have e1:=h5 node.toNat (by have:=hn.2;omega);have e2:=h5 (node.toNat+1) (by have:=hn.1;have:=hn.2;omega);obtain⟨a,ha,gf⟩:=bP (k:=.i) (e:=λx=>x) h1 e1;obtain⟨a',mU,PO⟩:=bP (k:=.i) (e:=λx=>x) h1 e2;rw[ha] at mU;cases mU;have hp:qC (cK key G.m) (node.toNat+1)=qC (cK key G.m) node.toNat+cK key G.m node.toNat:=rfl;have jj:(node+1).toNat=node.toNat+1:=by have:=hn.1;omega
 refine⟨_,_,⟨a,ha,gf,by rw[jj];exact PO⟩,⟨hn.1,by have:=h1.len;have:=hn.2;omega⟩,⟨aB,aB⟩,⟨aB,aB⟩,?_⟩;simp only[dW];have Gv:=h2.part (i:=qC (cK key G.m) node.toNat) (j:=qC (cK key G.m) (node.toNat+1)) (c:=row.c) aB aB aB (dL _);rw[hp,Nat.add_sub_cancel_left,p2] at Gv;refine HM (xs:=gk key G.m node.toNat) ?_ (by have:=ny key G.m node.toNat;unfold cK at this;omega) hQ;rw[hp,Nat.add_sub_cancel_left];exact Gv
theorem yu{key:Int->Int}{m:Nat}{node:Int}(h:0<=node):gk key m node.toNat=(kL m).filter λe=>decide (key e=node):=by
 unfold gk;rw[iw h]
theorem yr{key:Int->Int}{m n:Nat}(hk:∀e:Int,0<=e/\e<m->0<=key e/\key e<n){node:Int}(h:¬(0<=node/\node<n)):((kL m).filter λe=>decide (key e=node))=[]:=by
 rw[List.filter_eq_nil_iff];intro e he hd;have:=hk e (CN.1 he);have:key e=node:=by simpa using hd
 omega
theorem wnode{node:Int}(h:G.GB node)(ok:sS G):aQ (node+(1:Int))=node+1:=by have:=ok.n1;have:=h.1;have:=h.2;exact gZ aB aB
theorem gOut_i{node:Int}{Q:Sl->aH->Prop}(h:vM w H G)(hQ:∀s w',dD w' dG 1 eI s (G.Vv node)->aL w w'->(∀b,s.b=some b->w.heap.size<=b.block)->Q s w'):XI (some ⟨H.g,0,none⟩) node w Q:=by
 unfold XI;have nil:¬G.GB node->Q aZ w:=λhn=>by
  refine hQ _ w ?_ (aU.refl _ _) λb hb=>by cases hb
  unfold Gr.Vv;rw[yr (n:=G.n) (λe he=>(h.ok.ed _ (G.TJ he)).1) hn];exact dD.nil _ _ _ _
 refine aJ (λh=>nil λhn=>aB) (λh0=>ON h (aJ (λh=>nil λhn=>aB) (λh1=>?_)));have hn:G.GB node:=⟨aB,aB⟩;have d:aL w w.drew:=aU.drew (aU.refl _ w);have hd:=h.aO d;have hc:=hd.cells;obtain⟨x2,x3,⟨a,ha,c1,c2⟩,⟨b0,b1⟩,q1,q2,hcl⟩:=part_i hd.out h.ok.m1.2 hn (Q:=Q) λs w' v k f=>hQ s w' (by rw[yu hn.1] at v;exact v) (d.tr k) f;refine aA rfl (aE (k:=.slice) H.out hc.2.2.2.1 (aA rfl (aE (k:=.slice) H.fr hc.2.2.2.2.2.1 ⟨⟨b0,aB⟩,aA ha (aE (k:=.i) x2 c1 (aA rfl (aE (k:=.slice) H.fr hc.2.2.2.2.2.1 ?_)))⟩)));rw[wnode hn h.ok];exact⟨⟨aB,aB⟩,aA ha (aE (k:=.i) x3 c2 ⟨q1,q2,hcl⟩)⟩
theorem gIn_i{node:Int}{Q:Sl->aH->Prop}(h:vM w H G)(hQ:∀s w',dD w' dG 1 eI s (G.Ux node)->aL w w'->(∀b,s.b=some b->w.heap.size<=b.block)->Q s w'):WS (some ⟨H.g,0,none⟩) node w Q:=by
 unfold WS;have nil:¬G.GB node->Q aZ w:=λhn=>by
  refine hQ _ w ?_ (aU.refl _ _) λb hb=>by cases hb
  unfold Gr.Ux;rw[yr (n:=G.n) (λe he=>(h.ok.ed _ (G.TJ he)).2.1) hn];exact dD.nil _ _ _ _
 refine aJ (λh=>nil λhn=>aB) (λh0=>ON h (aJ (λh=>nil λhn=>aB) (λh1=>?_)));have hn:G.GB node:=⟨aB,aB⟩;have d:aL w w.drew:=aU.drew (aU.refl _ w);have hd:=h.aO d;have hc:=hd.cells;obtain⟨x2,x3,⟨a,ha,c1,c2⟩,⟨b0,b1⟩,q1,q2,hcl⟩:=part_i hd.LN h.ok.m1.2 hn (Q:=Q) λs w' v k f=>hQ s w' (by rw[yu hn.1] at v;exact v) (d.tr k) f;refine aA rfl (aE (k:=.slice) H.LN hc.2.2.2.2.1 (aA rfl (aE (k:=.slice) H.to hc.2.2.2.2.2.2 ⟨⟨b0,aB⟩,aA ha (aE (k:=.i) x2 c1 (aA rfl (aE (k:=.slice) H.to hc.2.2.2.2.2.2 ?_)))⟩)));rw[wnode hn h.ok];exact⟨⟨aB,aB⟩,aA ha (aE (k:=.i) x3 c2 ⟨q1,q2,hcl⟩)⟩
end
end
section
def jz(a b:Int×Int):Int:=if YV a.1 b.1≠0 then YV a.1 b.1 else YV a.2 b.2
theorem Ht{a b:Int×Int}:jz a b<0↔IZ a b:=by
 unfold jz YV
 by_cases h1:a.1<b.1
 ·simp[h1];exact .inl h1
 ·by_cases h2:a.1>b.1
  ·simp[h1,h2];omega
  ·have:a.1=b.1:=aB
   by_cases h3:a.2<b.2
   ·simp[this,h3];exact .inr ⟨this,h3⟩
   ·by_cases h4:a.2>b.2
    ·simp[this,h3,h4]
    ·simp[this,h3,h4]
theorem ord2_zero{a b:Int×Int}:jz a b=0↔a=b:=by
 obtain⟨a1,a2⟩:=a;obtain⟨b1,b2⟩:=b;unfold jz YV;simp only[Prod.mk.injEq]
 by_cases h1:a1<b1
 ·simp[h1];omega
 ·by_cases h2:a1>b1
  ·simp[h1,h2];omega
  ·have:a1=b1:=aB;subst this
   by_cases h3:a2<b2
   ·simp[h3];omega
   ·by_cases h4:a2>b2
    ·simp[h3,h4];omega
    ·simp[h3,h4];omega
theorem lex2_irr(a:Int×Int):¬IZ a a:=λh=>by rcases h with h|h<;>omega
theorem yk{a b c:Int×Int}(h:IZ a b)(h':IZ b c):IZ a c:=by unfold IZ at*;omega
theorem Or_i{x y:Int}{w:aH}{g:Nat}{Q:Int->aH->Prop}(h:cU w g dG [aD x,aD y])(hQ:Q (if x≠0 then x else y) w):AV ⟨some ⟨g,0,none⟩,2,2⟩ w Q:=by
 unfold AV;obtain⟨c0,c1⟩:=jy h;refine bL (λc t w1=>w1=w/\((c=2/\t=((0:Int),()))\/(c=1/\t=((1:Int),())/\x=0)\/(c=0/\t=((2:Int),())/\x=0/\y=0))) 2 ⟨rfl,.inl ⟨rfl,rfl⟩⟩ ?_;rintro c t w1 ⟨rfl,vE⟩ X hX;rcases vE with⟨rfl,rfl⟩|⟨rfl,rfl,hx⟩|⟨rfl,rfl,hx,hy⟩
 ·dsimp only;refine aJ (λ_=>⟨by decide,aA rfl (aE (k:=.i) x c0 ?_)⟩) (λh=>absurd (by decide) h);refine aF (λhn=>?_) (λhn=>?_)
  ·have:x≠0:=by simpa using hn
   rw[if_pos this] at hQ;exact hQ
  ·have:x=0:=by simpa using hn
   exact hX 1 _ _ aB ⟨rfl,.inr (.inl ⟨rfl,by rw[show aQ ((0:Int)+1)=1 by decide],this⟩)⟩
 ·dsimp only;refine aJ (λ_=>⟨by decide,aA rfl (aE (k:=.i) y c1 ?_)⟩) (λh=>absurd (by decide) h);rw[if_neg (λh=>h hx)] at hQ;refine aF (λhn=>hQ) (λhn=>?_);have:y=0:=by simpa using hn
  exact hX 0 _ _ aB ⟨rfl,.inr (.inr ⟨rfl,by rw[show aQ ((1:Int)+1)=2 by decide],hx,this⟩)⟩
 ·dsimp only;refine aJ (λh=>absurd h (by decide)) (λ_=>?_);rw[if_neg (λh=>h hx),hy] at hQ;exact hQ
theorem yh{a b:Int×Int}{w:aH}{Q:Int->aH->Prop}(hQ:∀w',aL w w'->Q (jz a b) w'):tH (a.1,a.2,()) (b.1,b.2,()) w Q:=by
 unfold tH;refine bD λw1 o1 k1 z1=>bD λw2 o2 k2 z2=>?_;have d:aL w2 w2.drew:=aU.drew (aU.refl _ w2);have kd:=k2.tr d;obtain⟨a0,a1⟩:=jy (o1.aK kd id);obtain⟨b0,b1⟩:=jy (o2.aK d id);refine aE (k:=.i) a.1 a0 (aE (k:=.i) b.1 b0 (aE (k:=.i) a.2 a1 (aE (k:=.i) b.2 b1 ?_)));refine PL ⟨b1,a1,PL ?_⟩;refine bD λw5 o5 k5 z5=>?_;exact Or_i o5 (hQ w5 ((k1.tr kd).tr k5))
theorem Ph{a b:Int×Int}{w:aH}{K:Value->aH->Prop}(hK:∀w',aL w w'->K (aD (jz a b)) w'):lI prog (.func (.func NY) #[] #[]) [.agg #[aD a.1,aD a.2],.agg #[aD b.1,aD b.2]] w K:=
 pI Mp iT (gN (ks:=[.agg [.i,.i],.agg [.i,.i]]) (t:=((a.1,a.2,()),(b.1,b.2,()),())) (yh hK))
theorem bw{s:Sl}{xs:List (Int×Int)}{v:Int×Int}{w:aH}{Q:Int->Bool->aH->Prop}(hs:Rd w s 2 eP xs)(mF:xs.Pairwise IZ)(gD:xs.length<4611686018427387904)
  (hQ:∀i w',aL w w'->Q i (decide (v∈xs)) w'):fO s (v.1,v.2,()) (.func (.func NY) #[] #[]) w Q:=by
 unfold fO;have hl:=hs.len;have Ra:∀{p q:Nat} {x y:Int×Int},p<q->xs[p]? =some x->xs[q]? =some y->IZ x y:=λ{p q x y} hpq hx hy=>by
  obtain⟨h1,rfl⟩:=eQ.1 hx;obtain⟨h2,rfl⟩:=eQ.1 hy;exact Vw.1 mF p q h1 h2 hpq
 refine bD λw1 o1 k1 z1=>?_;refine bL (λn t w'=>∃i j:Nat,i<=j/\j<=xs.length/\n=j-i/\t=((i:Int),(j:Int),())/\aL w1 w'/\(∀p x,p<i->xs[p]? =some x->IZ x v)/\(∀p x,j<=p->xs[p]? =some x->¬IZ x v)) xs.length
  ⟨0,xs.length,aB,aB,aB,by rw[hl];rfl,aU.refl _ _,λp x hp=>aB,λp x hp hx=>by have:=(eQ.1 hx).1;omega⟩ ?_
 rintro n t w' ⟨i,j,RT,hj,rfl,rfl,hk,Ll,hhi⟩ X hX;dsimp only;have d:aL w' w'.drew:=aU.drew (aU.refl _ w');have hkd:=hk.tr d;have DB:=hs.aK (k1.tr hkd) DY (λ_ _=>id);have hv:bQ w'.drew ⟨w.heap.size,0,none⟩ 0 (qT [.i,.i] (v.1,v.2,())):=iM (o1.aK hkd id);refine aJ (λh=>?_) (λh=>?_)
 ·have cC:i<j:=aB;rw[mid_i i j aB];have hm:(i+j)/2<xs.length:=aB;have cQ:=cM hm;refine⟨aB,⟨aB,aB⟩,?_⟩;obtain⟨a,ha,hh,_⟩:=Nd DB cQ;generalize xs[(i+j)/2]=x at*;refine aA ha (aX (l:=[.i,.i]) (x.1,x.2,()) hh (aX (l:=[.i,.i]) (v.1,v.2,()) hv ?_));refine Ph λw2 k2=>⟨_,rfl,?_⟩;rw[gZ (n:=(((i+j)/2:Nat):Int)+1) aB aB];refine aJ (λh=>?_) (λh=>?_)
  ·have hx:=Ht.1 h;refine hX (j-((i+j)/2+1)) _ _ aB ⟨(i+j)/2+1,j,aB,hj,rfl,rfl,hkd.tr k2,λp y hp hy=>?_,hhi⟩;rcases Nat.lt_or_ge p ((i+j)/2) with h'|h'
   ·exact yk (Ra h' hy cQ) hx
   ·have:p=(i+j)/2:=aB;subst this;rw[cQ] at hy;cases hy;exact hx
  ·have hx:¬IZ x v:=λh'=>h (Ht.2 h');refine hX ((i+j)/2-i) _ _ aB ⟨i,(i+j)/2,aB,aB,rfl,rfl,hkd.tr k2,Ll,λp y hp hy=>?_⟩;rcases Nat.eq_or_lt_of_le hp with h'|h'
   ·subst h';rw[cQ] at hy;cases hy;exact hx
   ·exactλh2=>hx (yk (Ra h' cQ hy) h2)
 ·have hje:j=i:=aB;subst hje;have loc:∀{q:Nat},xs[q]? =some v->q=j\/(j<q/\∀x,xs[j]? =some x->False):=λ{q} hq=>by
   rcases Nat.lt_trichotomy q j with h1|h1|h1
   ·exact absurd (Ll q v h1 hq) (lex2_irr v)
   ·exact .inl h1
   ·exact .inr ⟨h1,λx hx=>hhi j x (dL _) hx (Ra h1 hx hq)⟩
  refine aJ (λh=>?_) (λh=>?_)
  ·have hi:j<xs.length:=aB;have cQ:=cM hi;refine⟨⟨aB,aB⟩,?_⟩;obtain⟨a,ha,hh,_⟩:=Nd DB cQ;generalize xs[j]=x at*;refine aA ha (aX (l:=[.i,.i]) (x.1,x.2,()) hh (aX (l:=[.i,.i]) (v.1,v.2,()) hv ?_));refine Ph λw2 k2=>⟨_,rfl,?_⟩;have e:(jz x v==0)=decide (v∈xs):=by
    rw[Bool.eq_iff_iff];simp only[beq_iff_eq,decide_eq_true_eq];rw[ord2_zero]
    constructor
    ·rintro rfl;exact lD cQ
    ·intro hm;obtain⟨q,hq⟩:=pC.1 hm;rcases loc hq with rfl|⟨_,h2⟩
     ·rw[cQ] at hq;exact(tZ hq)
     ·exact(h2 x cQ).elim
   rw[e];exact hQ _ w2 ((k1.tr hkd).tr k2)
  ·have e:decide (v∈xs)=false:=by
    rw[decide_eq_false_iff_not];intro hm;obtain⟨q,hq⟩:=pC.1 hm;have:=(eQ.1 hq).1;have h':¬((j:Int)<(s.l:Int)):=h;rcases loc hq with rfl|⟨h1,_⟩<;>omega
   have:=hQ (j:Int) w'.drew (k1.tr hkd);rw[e] at this;exact this
section
variable{w:aH}{H:Rw}{G:Gr}
theorem Zm{a b:Int}{Q:Bool->aH->Prop}(h:vM w H G)(hQ:∀w',aL w w'->Q (decide ((a,b)∈G.B)) w'):zJ (some ⟨H.g,0,none⟩) a b w Q:=by
 unfold zJ;refine aF (λh=>by simp at h) (λ_=>aA rfl ?_);rw[add_zero];refine aE (k:=.slice) H.v.2.2.1 h.cells.2.2.1 ?_;have:=h.ok.bl;exact bw (v:=(a,b)) h.val.bn h.ok.bs aB λi w' k=>hQ w' k
end
theorem uP{n qM high:Int}{w:aH}{Q:Bool->aH->Prop}(h:qM<=n/\n<=high)(hQ:Q true w):gP n qM high w Q:=by
 unfold gP;refine aJ (λ_=>?_) (λh'=>absurd h.1 h');rw[decide_eq_true h.2];exact hQ
theorem gmay_i{g:GT}{G:Gr}{W:aH}{Q:Bool->aH->Prop}(h:GQ W g G)(ok:sS G)(hQ:∀w',aL W w'->Q true w'):EU g W Q:=by
 unfold EU;refine bD λw1 o1 k1 z1=>?_;have hn:=ok.n1;have hm:=ok.m1;have hb:=ok.bl;have l1:=h.nd.len;have l2:=h.ed.len;have l3:=h.bn.len;have cs:∀{wx:aH},aL w1 wx->_:=λ{wx} kx=>qN (o1.aK kx id);have c1:=cs (aU.refl _ _);unfold Gr.n at hn;unfold Gr.m at hm;refine aE (k:=.slice) g.1 c1.1 (uP aB (aF (λh=>by simp at h) (λ_=>?_)));refine aE (k:=.slice) g.2.1 c1.2.1 (aJ (λh=>aB) (λ_=>?_));refine aE (k:=.slice) g.2.2.1 c1.2.2 (aJ (λh=>aB) (λ_=>?_));refine aE (k:=.slice) g.1 c1.1 ?_;refine bL (λc t w2=>∃i:Nat,i<=G.N.length/\c=G.N.length-i/\t=((i:Int),())/\aL w1 w2) G.N.length ⟨0,dE _,rfl,rfl,aU.refl _ _⟩ ?_;rintro c t w2 ⟨i,hi,rfl,rfl,k2⟩ X hX;dsimp only;refine aJ (λcC=>?_) (λkC=>?_)
 ·have dJ:i<G.N.length:=aB;have cQ:=cM dJ;have hnd:=ok.nd _ (mX dJ);obtain⟨a,ha,hh,_⟩:=Nd (h.nd.aK (k1.tr k2) DY λ_ _=>id) cQ;generalize G.N[i]=x at*;rw[dW];refine⟨⟨aB,cC⟩,aA ha (aX (l:=[.i,.i]) (x.1,x.2,()) hh ?_)⟩;refine fF (vs:=[aD x.1,aD x.2]) OO rfl (by simp[Value.oneCell']) λw5 o5 k5 z5=>?_;obtain⟨n0,n1⟩:=jy o5;refine aE (k:=.i) x.1 n0 (uP hnd.1 (aF (λh=>by simp at h) (λ_=>?_)));refine aE (k:=.i) x.2 n1 (uP hnd.2 (aF (λh=>by simp at h) (λ_=>?_)));rw[pP i aB];exact hX _ _ _ aB ⟨i+1,dJ,rfl,rfl,k2.tr k5⟩
 clear hX X kC hi i;have c2:=cs k2;refine aE (k:=.slice) g.1 c2.1 (aE (k:=.slice) g.2.1 c2.2.1 ?_);have wn:aQ ((g.1.l:Int)-(1:Int))=(G.n:Int)-1:=by rw[gZ aB aB,l1];rfl
 have wm:aQ ((g.2.1.l:Int)-(1:Int))=(G.m:Int)-1:=by rw[gZ aB aB,l2];rfl
 rw[wn];refine bL (λc t w3=>∃i:Nat,i<=G.E.length/\c=G.E.length-i/\t=((i:Int),())/\aL w1 w3) G.E.length ⟨0,dE _,rfl,rfl,k2⟩ ?_;rintro c t w3 ⟨i,hi,rfl,rfl,k3⟩ X hX;dsimp only;refine aJ (λcC=>?_) (λkC=>?_)
 ·have dJ:i<G.E.length:=aB;have cQ:=cM dJ;have hed:=ok.ed _ (mX dJ);obtain⟨a,ha,hh,_⟩:=rd3 (h.ed.aK (k1.tr k3) ZE λ_ _=>id) cQ;generalize G.E[i]=x at*;rw[dW];refine⟨⟨aB,cC⟩,aA ha (aX (l:=[.i,.i,.i]) (x.1,x.2.1,x.2.2,()) hh ?_)⟩;refine fF (vs:=[aD x.1,aD x.2.1,aD x.2.2]) jP rfl (by simp[Value.oneCell']) λw5 o5 k5 z5=>?_;obtain⟨n0,n1,n2⟩:=qN o5;refine aE (k:=.i) x.1 n0 (uP aB (aF (λh=>by simp at h) (λ_=>?_)));refine aE (k:=.i) x.2.1 n1 (uP aB (aF (λh=>by simp at h) (λ_=>?_)));refine aE (k:=.i) x.2.2 n2 (uP aB (aF (λh=>by simp at h) (λ_=>?_)));rw[pP i aB];exact hX _ _ _ aB ⟨i+1,dJ,rfl,rfl,k3.tr k5⟩
 clear hX X kC hi i;have c3:=cs k3;refine aE (k:=.slice) g.2.2.1 c3.2.2 ?_;refine bL (λc t w4=>∃i:Nat,i<=G.B.length/\c=G.B.length-i/\t=((i:Int),())/\aL w1 w4) G.B.length ⟨0,dE _,rfl,rfl,k3⟩ ?_;rintro c t w4 ⟨i,hi,rfl,rfl,k4⟩ X hX;dsimp only;refine aJ (λcC=>?_) (λ_=>hQ w4 (k1.tr k4));have dJ:i<G.B.length:=aB;have cQ:=cM dJ;obtain⟨UP,PQ,jl⟩:=ok.bd _ (mX dJ);have sO:∀y,0<i->G.B[i-1]? =some y->IZ y G.B[i]:=λy h0 hy=>by
  obtain⟨h1,rfl⟩:=eQ.1 hy;exact Vw.1 ok.bs (i-1) i h1 dJ aB
 obtain⟨a,ha,hh,_⟩:=Nd (h.bn.aK (k1.tr k4) DY λ_ _=>id) cQ;generalize G.B[i]=x at*;rw[dW];refine⟨⟨aB,cC⟩,aA ha (aX (l:=[.i,.i]) (x.1,x.2,()) hh ?_)⟩;refine fF (vs:=[aD x.1,aD x.2]) size_Ban rfl (by simp[Value.oneCell']) λw5 o5 k5 z5=>?_;have d5:aL w5 w5.drew:=aU.drew (aU.refl _ w5);obtain⟨n0',n1'⟩:=jy (o5.aK d5 id);have Dv:=(k4.tr k5);have c5:=cs Dv;have c5':=cs (Dv.tr d5);have hv5:=h.aO ((k1.tr Dv).tr d5);refine aE (k:=.slice) g.2.1 c5.2.1 (aE (k:=.i) x.1 n0' ?_);rw[wm];refine uP aB (aF (λh=>by simp at h) (λ_=>?_));refine aE (k:=.i) x.2 n1' (uP aB (aF (λh=>by simp at h) (λ_=>?_)));obtain⟨p1,tz,_,_,t1,_⟩:=hv5.jV UP;obtain⟨p2,Cj,_,f2,_,_⟩:=hv5.jV PQ;refine aE (k:=.slice) g.2.1 c5'.2.1 (aE (k:=.i) x.1 n0' ⟨⟨UP.1,by rw[l2];exact UP.2⟩,aA tz (aE (k:=.i) (G.to x.1) t1 ?_)⟩);refine aE (k:=.slice) g.2.1 c5'.2.1 (aE (k:=.i) x.2 n1' ⟨⟨PQ.1,by rw[l2];exact PQ.2⟩,aA Cj (aE (k:=.i) (G.fr x.2) f2 ?_)⟩);refine aF (λh=>by rw[jl] at h;simp at h) (λ_=>?_);have next:∀wz,aL w1 wz->X (aQ ((i:Int)+1),()) wz:=λwz kz=>by
  rw[pP i aB];exact hX _ _ _ aB ⟨i+1,dJ,rfl,rfl,kz⟩
 refine aJ (λuB=>?_) (λ_=>next _ (Dv.tr d5))
 have wi:aQ ((i:Int)-(1:Int))=((i-1:Nat):Int):=by rw[gZ aB aB];omega
 rw[wi,dW];have hget':=cM (show i-1<G.B.length by omega);have hs:=sO _ aB hget';obtain⟨a',mU,Kw,_⟩:=Nd hv5.bn hget';generalize G.B[i-1]=y at*;refine aE (k:=.slice) g.2.2.1 c5'.2.2 ⟨⟨aB,aB⟩,aA mU (aX (l:=[.i,.i]) (y.1,y.2,()) Kw (aX (l:=[.i,.i]) (x.1,x.2,()) (iM (o5.aK d5 id)) ?_))⟩;refine yh (a:=y) (b:=x) λw6 k6=>?_;exact aJ (λkC=>absurd (Ht.2 hs) aB) (λ_=>next _ ((Dv.tr d5).tr k6))
theorem rows_i{g:GT}{G:Gr}{node:Value}{key:Int->Int}{W:aH}{Q:Sl->Sl->aH->Prop}(h:GQ W g G)(ok:sS G)(uC:∀e:Int,G.mH e->0<=key e/\key e<G.n)
  (hnode:∀(e:Int) w (K:WQ Value),G.mH e->(∀w',aL w w'->K (aD (key e)) w')->lI prog node [.agg #[aD (G.fr e),aD (G.to e),aD (G.wt e)]] w K)
  (hQ:∀s1 s2 w',ByN w' s1 s2 G.n G.m key->aL W w'->(∀b,s1.b=some b->W.heap.size<=b.block)->(∀b,s2.b=some b->W.heap.size<=b.block)->Ty w' s1->Ty w' s2->Q s1 s2 w'):vW g node W Q:=by
 unfold vW;have hn:=ok.n1;have hm:=ok.m1;have l1:g.1.l=G.n:=h.nd.len;have l2:g.2.1.l=G.m:=h.ed.len;have hkey':∀i:Nat,i<G.m->0<=key (i:Int)/\key (i:Int)<G.n:=λi hi=>uC i ⟨aB,aB⟩;refine bD λw1 o1 k1 z1=>?_;have cs:∀{wx:aH},aL w1 wx->_:=λ{wx} kx=>qN (o1.aK kx id);have wl:aQ ((g.1.l:Int)+(1:Int))=((G.n+1:Nat):Int):=by rw[gZ aB aB,l1];rfl
 refine aE (k:=.slice) g.1 (cs (aU.refl _ _)).1 ?_;rw[wl];refine wW iK (aY:=eI) (0:Int) rfl eX aB (lK _) aB aB λw2 v2 k2=>?_;generalize LJ:(⟨some ⟨w1.heap.size,0,none⟩,Int.toNat ((G.n+1:Nat):Int),Int.toNat ((G.n+1:Nat):Int)⟩:Sl)=s2 at*;have fe:s2.b=some ⟨w1.heap.size,0,none⟩:=by rw[<-LJ]
 have s2l:s2.l=G.n+1:=by rw[<-LJ];exact dW _
 rw[dW] at v2;have fr2:∀{wx:aH} {F:Nat->Prop} {wy:aH},aL w1 wx->aU F wx wy->(∀k,F k->w1.heap.size<=k)->aL w1 wy:=λkx m hF=>kx.fresh m hF;refine aE (k:=.slice) g.2.1 (cs k2).2.1 ?_;refine bL (λc t w3=>∃(i:Nat) (fs:List Int),i<=G.m/\c=G.m-i/\t=((i:Int),())/\aL w1 w3/\dD w3 dG 1 eI s2 fs/\WC key G.n i fs) G.m ⟨0,_,dE _,rfl,rfl,k2,v2,WC.start key G.n⟩ ?_;rintro c t w3 ⟨i,fs,hi,rfl,rfl,k3,v3,R⟩ X hX;dsimp only;refine aJ (λcC=>?_) (λkC=>?_)
 ·have dJ:i<G.m:=aB;have hE:G.mH (i:Int):=⟨aB,aB⟩;obtain⟨a,ha,hh,_⟩:=(h.aO (k1.tr k3)).jV hE;refine⟨⟨aB,cC⟩,aA ha (aX (l:=[.i,.i,.i]) (G.fr i,G.to i,G.wt i,()) hh ?_)⟩;refine fF (vs:=[aD (G.fr i),aD (G.to i),aD (G.wt i)]) jP rfl (by simp[Value.oneCell']) λw5 o5 k5 z5=>?_;refine aX (l:=[.i,.i,.i]) (G.fr i,G.to i,G.wt i,()) (iM o5) ?_;refine hnode i w5 _ hE λw6 k6=>⟨_,rfl,?_⟩;obtain⟨q0,q1⟩:=uC i hE;obtain⟨v0,hv0⟩:∃v0:Nat,key (i:Int)=(v0:Int):=⟨(key i).toNat,aB⟩;have hv0n:v0<G.n:=aB;have wk:aQ (key (i:Int)+(1:Int))=((v0+1:Nat):Int):=by rw[hv0,gZ aB aB];rfl
  rw[wk,dW];have v6:=v3.aK (k5.tr k6) λ_ _=>id;have cQ:=R.val v0 hv0n;obtain⟨p,hp,hc⟩:=bP (k:=.i) (e:=λx=>x) (v6.rd eX) cQ;have hcb:=ny key i v0;have gX:0<=((v0+1:Nat):Int)/\((v0+1:Nat):Int)<(s2.l:Int):=⟨aB,aB⟩;refine⟨gX,aA hp (aE (k:=.i) (cK key i v0:Int) hc ⟨gX,aA fe ?_⟩)⟩;rw[gZ (n:=(cK key i v0:Int)+1) aB aB];refine v6.store eX fe (i:=v0+1) (by rw[R.len];omega) ((cK key i v0:Int)+1) (v:=aD ((cK key i v0:Int)+1)) rfl cZ (FC _) λw7 v7 m7 z7=>?_;rw[pP i aB];exact hX _ _ _ aB ⟨i+1,_,dJ,rfl,rfl,fr2 ((k3.tr k5).tr k6) m7 λk e=>by rw[show k=w1.heap.size from e];exact dL _,v7,R.step hv0n hv0⟩
 have ei:i=G.m:=aB;subst ei;have R2:=R.rows2;clear hX X R kC hi;refine aE (k:=.slice) g.1 (cs k3).1 ?_;refine bL (λc t w3=>∃(j:Nat) (fs:List Int),j<=G.n/\c=G.n-j/\t=((j:Int),())/\aL w1 w3/\dD w3 dG 1 eI s2 fs/\Hc (cK key G.m) G.n j fs) G.n ⟨0,_,dE _,rfl,rfl,k3,v3,R2⟩ ?_;clear k3 v3 R2 fs;rintro c t w3 ⟨j,fs,hj,rfl,rfl,k3,v3,R⟩ X hX;dsimp only;have qS:=WZ hkey';refine aJ (λcC=>?_) (λkC=>?_)
 ·have qP:j<G.n:=aB;have d:aL w3 w3.drew:=aU.drew (aU.refl _ w3);have v3':=v3.aK d λ_ _=>id;rw[pP j aB,dW,dW];obtain⟨p,hp,hc⟩:=bP (k:=.i) (e:=λx=>x) (v3'.rd eX) (R.hi j qP (dL _));obtain⟨p',hp',Dz⟩:=bP (k:=.i) (e:=λx=>x) (v3'.rd eX) (R.lo j (dL _));have hcb:=ny key G.m j;have hpb:qC (cK key G.m) j+cK key G.m j<=G.m:=by have:=WH (cK key G.m) qP;omega
  have gX:0<=((j+1:Nat):Int)/\((j+1:Nat):Int)<(s2.l:Int):=⟨aB,aB⟩;refine⟨gX,aA hp (aE (k:=.i) (cK key G.m j:Int) hc ⟨⟨aB,aB⟩,aA hp' (aE (k:=.i) (qC (cK key G.m) j:Int) Dz ⟨gX,aA fe ?_⟩)⟩)⟩;rw[gZ (n:=(cK key G.m j:Int)+(qC (cK key G.m) j:Int)) aB aB];refine v3'.store eX fe (i:=j+1) (by rw[R.len];omega) ((cK key G.m j:Int)+(qC (cK key G.m) j:Int)) (v:=aD ((cK key G.m j:Int)+(qC (cK key G.m) j:Int))) rfl cZ (FC _) λw7 v7 m7 z7=>?_;exact hX _ _ _ aB ⟨j+1,_,qP,rfl,rfl,fr2 (k3.tr d) m7 λk e=>by rw[show k=w1.heap.size from e];exact dL _,v7,R.step qP⟩
 have ej:j=G.n:=aB;subst ej;clear hX X kC hj;refine aE (k:=.slice) g.2.1 (cs k3).2.1 ?_;rw[l2];refine wW iK (aY:=eI) (0:Int) rfl eX aB (lK _) aB aB λw4 v4 k4=>?_;simp only[dW] at v4 ⊢;have K4:=k3.tr k4;have v2':=v3.aK k4 λ_ _=>id;refine HM (v2'.rd eX) (by rw[R.len];omega) λs7 w5 v5 k5 f5=>?_;have K5:=K4.tr k5;have z34:w1.heap.size<w3.heap.size:=by have:=v3.lt fe;exact this
 have hlt4:w3.heap.size<w4.heap.size:=v4.lt rfl;obtain⟨g7,hg7⟩:∃g7,s7.b=some ⟨g7,0,none⟩:=by
  rcases v5.gR with⟨_,h2⟩|⟨g,_,hb,_⟩
  ·have:=v5.cap;have:=v5.len;have:=R.len;omega
  ·exact⟨g,hb⟩
 have g7lo:w4.heap.size<=g7:=f5 _ hg7;refine aE (k:=.slice) g.2.1 (cs K5).2.1 ?_;have R3:=R.rows3;have l7:=v5.len;rw[R.len] at l7;refine bL (λc t w6=>∃(i:Nat) (nx row:List Int),i<=G.m/\c=G.m-i/\t=((i:Int),())/\aL w1 w6/\dD w6 dG 1 eI s7 nx/\dD w6 dG 1 eI ⟨some ⟨w3.heap.size,0,none⟩,G.m,G.m⟩ row/\dD w6 dG 1 eI s2 fs/\Hb key G.n G.m i nx row) G.m
  ⟨0,_,_,dE _,rfl,rfl,K5,v5,v4.aK k5 (λ_ _=>id),v2'.aK k5 (λ_ _=>id),R3⟩ ?_
 clear R3;rintro c t w6 ⟨i,nx,row,hi,rfl,rfl,k6,v7,vr,vs,R3⟩ X hX;dsimp only;refine aJ (λcC=>?_) (λkC=>?_)
 ·have dJ:i<G.m:=aB;have hE:G.mH (i:Int):=⟨aB,aB⟩;obtain⟨a,ha,hh,_⟩:=(h.aO (k1.tr k6)).jV hE;refine⟨⟨aB,cC⟩,aA ha (aX (l:=[.i,.i,.i]) (G.fr i,G.to i,G.wt i,()) hh ?_)⟩;refine fF (vs:=[aD (G.fr i),aD (G.to i),aD (G.wt i)]) jP rfl (by simp[Value.oneCell']) λw8 o8 k8 z8=>?_;refine aX (l:=[.i,.i,.i]) (G.fr i,G.to i,G.wt i,()) (iM o8) ?_;refine hnode i w8 _ hE λw9 k9=>⟨_,rfl,?_⟩;obtain⟨q0,q1⟩:=uC i hE;obtain⟨v0,hv0⟩:∃v0:Nat,key (i:Int)=(v0:Int):=⟨(key i).toNat,aB⟩;have hv0n:v0<G.n:=aB;obtain⟨uB,Rn⟩:=R3.step dJ hkey' hv0n hv0;rw[hv0,dW];have k69:=k8.tr k9;have v7':=v7.aK k69 λ_ _=>id;have vr':=vr.aK k69 λ_ _=>id;have vs':=vs.aK k69 λ_ _=>id;have cQ:=R3.nv v0 hv0n;generalize hP:qC (cK key G.m) v0+cK key i v0=P at*;obtain⟨p,hp,hc⟩:=bP (k:=.i) (e:=λx=>x) (v7'.rd eX) cQ;have gX:0<=(v0:Int)/\(v0:Int)<(s7.l:Int):=⟨aB,aB⟩;refine⟨gX,aA hp (aE (k:=.i) (P:Int) hc ⟨⟨aB,aB⟩,aA rfl ?_⟩)⟩;rw[dW];refine vr'.store eX rfl (i:=P) (by rw[R3.rl];exact uB) (i:Int) (v:=aD (i:Int)) rfl cZ (FC _) λeZ v10 UZ z10=>?_;have m10':aU (λk=>k=w3.heap.size) w9 eZ:=UZ;have v7'':=v7'.aK m10' λb hb e=>by rw[hg7] at hb;cases hb;have e':g7=w3.heap.size:=e;omega
  have vs'':=vs'.aK m10' λb hb e=>by rw[fe] at hb;cases hb;have e':w1.heap.size=w3.heap.size:=e;omega
  have Cf:=(o8.aK k9 id).aK m10' λe=>by have e':w6.heap.size=w3.heap.size:=e;have:=k6.size;have:=vr.lt (a:=⟨w3.heap.size,0,none⟩) rfl;have e'':w3.heap.size<w6.heap.size:=this;omega
  refine aX (l:=[.i,.i,.i]) (G.fr i,G.to i,G.wt i,()) (iM Cf) ?_;refine hnode i eZ _ hE λeN LA=>⟨_,rfl,?_⟩;rw[hv0,dW];have v11:=v7''.aK LA λ_ _=>id;obtain⟨p2,Cj,PO⟩:=bP (k:=.i) (e:=λx=>x) (v11.rd eX) cQ;refine⟨gX,aA Cj (aE (k:=.i) (P:Int) PO ⟨gX,aA hg7 ?_⟩)⟩;rw[gZ (n:=(P:Int)+1) aB aB];refine v11.store eX hg7 (i:=v0) (by rw[R3.nl];omega) ((P:Int)+1) (v:=aD ((P:Int)+1)) rfl cZ (FC _) λeE Ce Ku z12=>?_;have kg:aU (λk=>k=g7) eN eE:=Ku;have z14:w1.heap.size<=w3.heap.size:=Nat.le_of_lt z34;have KK:aL w1 eE:=fr2 ((fr2 (k6.tr k69) m10' λk e=>by rw[show k=w3.heap.size from e];exact z14).tr LA) kg λk e=>by rw[show k=g7 from e];omega
  rw[pP i aB];refine hX _ _ _ aB ⟨i+1,_,_,dJ,rfl,rfl,KK,Ce,(v10.aK LA λ_ _=>id).aK kg λb hb e=>?_,(vs''.aK LA λ_ _=>id).aK kg λb hb e=>?_,Rn⟩
  ·cases hb;have e':w3.heap.size=g7:=e;omega
  ·rw[fe] at hb;cases hb;have e':w1.heap.size=g7:=e;omega
 have ei:i=G.m:=aB;subst ei;refine hQ _ _ w6 ⟨fs,row,vs.rd eX,vr.rd eX,R.len,R3.rl,λi hi=>R.lo i hi,λv hv=>R3.done hkey' hv⟩ (k1.tr k6) (λb hb=>?_) (λb hb=>?_) (dD.Lf vr ⟨by decide,by decide⟩) (dD.Lf vs ⟨by decide,by decide⟩)
 ·cases hb;show W.heap.size<=w3.heap.size;omega
 ·rw[fe] at hb;cases hb;show W.heap.size<=w1.heap.size;omega
theorem CloneN_i{s:Sl}{xs:List (Int×Int)}{w:aH}{Q:Sl->aH->Prop}(hs:Rd w s 2 eP xs)(hb:xs.length<1000000)(hQ:∀s' w',Rd w' s' 2 eP xs->aL w w'->Ty w' s'->Q s' w'):jG s w Q:=by
 unfold jG;refine aF (λh=>?_) (λh=>?_)
 ·have hn:xs=[]:=by
   cases xs with
   |nil=>rfl
   |cons x r=>obtain⟨a,ha,_⟩:=hs.get 0 x rfl;rw[ha] at h;cases h
  subst hn;exact hQ _ w (Rd.nil _ _ _) (aU.refl _ _) Ty.nil
 ·refine bD λw1 o1 k1 z1=>?_;have v0:dD w1 uz 2 eP ⟨some ⟨w.heap.size,0,none⟩,0,0⟩ []:=dD.new VK [] o1 dN;refine fH Jr VK oneP v0 (hs.aK k1 DY (λ_ _=>id)) (by simp;omega) (by simp;omega) λr w' hr hm Va _=>?_;exact hQ r w' (by simpa using hr.rd VK) (aU.fresh k1 hm λk ⟨a,ha,hk⟩=>by cases ha;rw[hk];exact dL _) (dD.Lf hr ⟨by decide,by decide⟩)
theorem tu{s:Sl}{xs:List (Int×Int)}{w:aH}{Q:Sl->aH->Prop}(hs:Rd w s 2 eP xs)(hb:xs.length<1000000)(hQ:∀s' w',Rd w' s' 2 eP xs->aL w w'->Ty w' s'->Q s' w'):kO s w Q:=by
 unfold kO;refine aF (λh=>?_) (λh=>?_)
 ·have hn:xs=[]:=by
   cases xs with
   |nil=>rfl
   |cons x r=>obtain⟨a,ha,_⟩:=hs.get 0 x rfl;rw[ha] at h;cases h
  subst hn;exact hQ _ w (Rd.nil _ _ _) (aU.refl _ _) Ty.nil
 ·refine bD λw1 o1 k1 z1=>?_;have v0:dD w1 tBan 2 eP ⟨some ⟨w.heap.size,0,none⟩,0,0⟩ []:=dD.new VK [] o1 dN;refine fH Pc VK oneP v0 (hs.aK k1 DY (λ_ _=>id)) (by simp;omega) (by simp;omega) λr w' hr hm Va _=>?_;exact hQ r w' (by simpa using hr.rd VK) (aU.fresh k1 hm λk ⟨a,ha,hk⟩=>by cases ha;rw[hk];exact dL _) (dD.Lf hr ⟨by decide,by decide⟩)
theorem CloneE_i{s:Sl}{xs:List R3}{w:aH}{Q:Sl->aH->Prop}(hs:Rd w s 3 eR3 xs)(hb:xs.length<1000000)(hQ:∀s' w',Rd w' s' 3 eR3 xs->aL w w'->Ty w' s'->Q s' w'):jH s w Q:=by
 unfold jH;refine aF (λh=>?_) (λh=>?_)
 ·have hn:xs=[]:=by
   cases xs with
   |nil=>rfl
   |cons x r=>obtain⟨a,ha,_⟩:=hs.get 0 x rfl;rw[ha] at h;cases h
  subst hn;exact hQ _ w (Rd.nil _ _ _) (aU.refl _ _) Ty.nil
 ·refine bD λw1 o1 k1 z1=>?_;have v0:dD w1 QH 3 eR3 ⟨some ⟨w.heap.size,0,none⟩,0,0⟩ []:=dD.new FI [] o1 dN;refine fH Jt FI oneR3 v0 (hs.aK k1 ZE (λ_ _=>id)) (by simp;omega) (by simp;omega) λr w' hr hm Va _=>?_;exact hQ r w' (by simpa using hr.rd FI) (aU.fresh k1 hm λk ⟨a,ha,hk⟩=>by cases ha;rw[hk];exact dL _) (dD.Lf hr ⟨by decide,by decide⟩)
theorem gNew_i{g:GT}{G:Gr}{W:aH}{Q:cR->Int->aH->Prop}(h:GQ W g G)(ok:sS G)(hQ:∀H w',vM w' H G->aL W w'->W.heap.size<=H.g->Q (some ⟨H.g,0,none⟩) 0 w'):EV g W Q:=by
 unfold EV;have hn:=ok.n1;have hm:=ok.m1;have FW:=ok.bl;unfold Gr.n at hn;unfold Gr.m at hm;refine bD λw1 o1 k1 z1=>?_;refine aX (l:=[.slice,.slice,.slice]) g (mJ (g:=g) o1) ?_;refine gmay_i (g:=g) (h.aO k1) ok λw2 k2=>aF (λh=>by simp at h) (λ_=>?_);have d2:aL w2 w2.drew:=aU.drew (aU.refl _ w2);have GA:=k2.tr d2;have cs:∀{wx:aH},aL w1 wx->_:=λ{wx} kx=>qN (o1.aK kx id);have c2:=cs GA;have h2:=h.aO (k1.tr GA);refine aE (k:=.slice) g.1 c2.1 (aE (k:=.slice) g.2.1 c2.2.1 (aE (k:=.slice) g.2.2.1 c2.2.2 ?_));refine CloneN_i h2.nd aB λs4 w3 r4 k3 t4=>⟨(cs (GA.tr k3)).2.2,(cs (GA.tr k3)).2.1,?_⟩;refine CloneE_i (h2.aO k3).ed aB λs5 w4 r5 k4 t5=>⟨(cs ((GA.tr k3).tr k4)).2.2,?_⟩;refine tu ((h2.aO k3).aO k4).bn aB λs6 w5 r6 k5 t6=>?_;have Dv:=((GA.tr k3).tr k4).tr k5;refine bD λw6 o6 k6 z6=>?_;have Du:=Dv.tr k6;refine aX (l:=[.slice,.slice,.slice]) g (mJ (g:=g) (o1.aK Du id)) ?_;refine rows_i (key:=G.fr) (g:=g) (h.aO (k1.tr Du)) ok (λe he=>(ok.ed _ (G.TJ he)).1) (λe w K _ hK=>?_) λs7 s8 w7 B7 k7 f7 f8 t7 t8=>?_
 ·refine pI Kl iT (gN (ks:=[.agg [.i,.i,.i]]) (t:=((G.fr e,G.to e,G.wt e,()),())) ?_);show wG _ _ _;unfold wG;exact bD λwa oa ka _=>aE (k:=.i) (G.fr e) (qN oa).1 (hK wa ka)
 have o7:=o6.aK k7 id;have zz:w1.heap.size<=w5.heap.size:=Dv.size;have lit:∀k,((⟨w5.heap.size,0,none⟩:Addr).add k)=⟨w5.heap.size,k,none⟩:=λk=>by rw[aS,gI]
 rw[lit 3];refine cH (o:=3) (v:=sv s7) o7 oW dN rfl rfl λw8 o8 m8 _=>?_;rw[lit 5];refine cH (o:=5) (v:=sv s8) o8 oW dN rfl rfl λw9 o9 m9 _=>?_;have k79:aL w5 w9:=((k6.tr k7).fresh m8 λk e=>by rw[show k=w5.heap.size from e];exact dL _).fresh m9 λk e=>by rw[show k=w5.heap.size from e];exact dL _
 have k19:=Dv.tr k79;have mK:∀{wx wy:aH},aL w5 wx->aU (λk=>k=w5.heap.size) wx wy->aL w5 wy:=λkx m=>kx.fresh m λk e=>by rw[show k=w5.heap.size from e];exact dL _
 have PM:=o1.aK k19 id;refine aX (l:=[.slice,.slice,.slice]) g (mJ (g:=g) PM) ?_;refine rows_i (key:=G.to) (g:=g) (h.aO (k1.tr k19)) ok (λe he=>(ok.ed _ (G.TJ he)).2.1) (λe w K _ hK=>?_) λs9 YH eZ B10 IP f9 f10 t9 t10=>?_
 ·refine pI Kk iT (gN (ks:=[.agg [.i,.i,.i]]) (t:=((G.fr e,G.to e,G.wt e,()),())) ?_);show wF _ _ _;unfold wF;exact bD λwa oa ka _=>aE (k:=.i) (G.to e) (qN oa).2.1 (hK wa ka)
 have Cf:=o9.aK IP id;rw[lit 4];refine cH (o:=4) (v:=sv s9) Cf oW dN rfl rfl λeN o11 Kv _=>?_;rw[lit 6];refine cH (o:=6) (v:=sv YH) o11 oW dN rfl rfl λeE Ds Ku _=>?_;have ki:aL w5 eE:=mK (mK (k79.tr IP) Kv) Ku;have kW:aL W eE:=k1.tr (Dv.tr ki);have nb:∀{wx wy:aH} {row first:Sl} {key:Int->Int},ByN wx row first G.n G.m key->(∀b,row.b=some b->b.block≠w5.heap.size)->(∀b,first.b=some b->b.block≠w5.heap.size)->aU (λk=>k=w5.heap.size) wx wy->ByN wy row first G.n G.m key:=λhB h1 h2 m=>by
  obtain⟨fs,rs,g1,g2,g3⟩:=hB;exact⟨fs,rs,g1.aK m cI λb hb e=>h2 b hb e,g2.aK m cI λb hb e=>h1 b hb e,g3⟩
 have z7:=k7.size;have n7:∀b,s7.b=some b->b.block≠w5.heap.size:=λb hb=>by have:=f7 b hb;omega
 have n8:∀b,s8.b=some b->b.block≠w5.heap.size:=λb hb=>by have:=f8 b hb;omega
 have n9:∀b,s9.b=some b->b.block≠w5.heap.size:=λb hb=>by have:=f9 b hb;omega
 have n10:∀b,YH.b=some b->b.block≠w5.heap.size:=λb hb=>by have:=f10 b hb;omega
 have b7:=nb (nb (((nb (nb B7 n7 n8 m8) n7 n8 m9)).aO IP) n7 n8 Kv) n7 n8 Ku;have b9:=nb (nb B10 n9 n10 Kv) n9 n10 Ku;have hv12:GQ eE (s4,s5,s6,()) G:=⟨((r4.aK k4 DY λ_ _=>id).aK k5 DY λ_ _=>id).aK ki DY λ_ _=>id,(r5.aK k5 ZE λ_ _=>id).aK ki ZE λ_ _=>id,r6.aK ki DY λ_ _=>id⟩;have ty:∀{wx wy:aH} {s:Sl},Ty wx s->(∀b,s.b=some b->b.block≠w5.heap.size)->aU (λk=>k=w5.heap.size) wx wy->Ty wy s:=λh hn m b hb=>by
  obtain⟨t,cs,o,h1⟩:=h b hb;exact⟨t,cs,o.aK m (hn b hb),h1⟩
 have y7:=ty (ty ((ty (ty t7 n7 m8) n7 m9).aO IP) n7 Kv) n7 Ku;have y8:=ty (ty ((ty (ty t8 n8 m8) n8 m9).aO IP) n8 Kv) n8 Ku;have y9:=ty (ty t9 n9 Kv) n9 Ku;have y10:=ty (ty t10 n10 Kv) n10 Ku;exact hQ ⟨w5.heap.size,(s4,s5,s6,()),s7,s9,s8,YH⟩ eE ⟨ok,Ds,hv12,b7,b9,(t4.aO (k4.tr k5)).aO ki,(t5.aO k5).aO ki,t6.aO ki,y7,y9,y8,y10⟩ kW (by show W.heap.size<=w5.heap.size;omega)
end
section
section
variable{w:aH}{H:Rw}{G:Gr}
theorem Node_i{i:Int}{Q:(Int×Int×Unit)->Bool->aH->Prop}(h:vM w H G)(hi:G.GB i)(hQ:∀w',aL w w'->Q ((G.nd i).1,(G.nd i).2,()) true w'):IB (some ⟨H.g,0,none⟩) i w Q:=by
 unfold IB;refine bD λw1 o1 k1 z1=>?_;refine aJ (λDE=>aB) (λ_=>?_);have h1:=h.aO k1;refine ON h1 ?_;refine aJ (λkC=>aB) (λ_=>?_);refine aA rfl ?_;rw[add_zero];refine aE (k:=.slice) H.v.1 h1.cells.1 ?_;obtain⟨a,ha,hh,_⟩:=Nd h1.val.nd (G.get_nd hi);refine⟨⟨hi.1,by rw[h1.val.nd.len];exact hi.2⟩,aA ha (aX (l:=[.i,.i]) ((G.nd i).1,(G.nd i).2,()) hh ?_)⟩;refine eY (vs:=[aD (G.nd i).1,aD (G.nd i).2]) o1 OO rfl (by simp[Value.oneCell']) λw3 o3 m3 _=>?_;exact aX (l:=[.i,.i]) ((G.nd i).1,(G.nd i).2,()) (iM o3) (hQ w3 (k1.fresh m3 λk e=>by rw[show k=w.heap.size from e];exact dL _))
theorem way_i{i:Int}{Q:Int->Int->Bool->aH->Prop}(h:vM w H G)(hi:G.mH i)(hQ:∀w',aL w w'->Q ((G.nd (G.to i)).1-(G.nd (G.fr i)).1) ((G.nd (G.to i)).2-(G.nd (G.fr i)).2) true w'):CZ (some ⟨H.g,0,none⟩) i w Q:=by
 unfold CZ;have ok:=h.ok;have he:=ok.ed _ (G.TJ hi);have hf:G.GB (G.fr i):=he.1;have ht:G.GB (G.to i):=he.2.1;have rf:=ok.Se hf;have rt:=ok.Se ht;refine JM h (λ_ w1 k1=>?_) (λhn=>absurd hi hn);refine fF (vs:=[aD (G.fr i),aD (G.to i),aD (G.wt i)]) jP rfl (by simp[Value.oneCell']) λw3 o3 k3 z3=>?_;refine aE (k:=.i) (G.fr i) (qN o3).1 ?_;have h3:=(h.aO k1).aO k3;refine Node_i h3 hf λw4 k4=>?_;refine fF (vs:=[aD (G.nd (G.fr i)).1,aD (G.nd (G.fr i)).2]) OO rfl (by simp[Value.oneCell']) λw6 o6 k6 z6=>?_;refine aE (k:=.i) (G.to i) (qN ((o3.aK k4 id).aK k6 id)).2.1 ?_;refine Node_i ((h3.aO k4).aO k6) ht λw7 k7=>?_;refine fF (vs:=[aD (G.nd (G.to i)).1,aD (G.nd (G.to i)).2]) OO rfl (by simp[Value.oneCell']) λw9 o9 k9 z9=>?_;have d9:aL w9 w9.drew:=aU.drew (aU.refl _ w9);have n9:=jy (o9.aK d9 id);have n6:=jy (((o6.aK k7 id).aK k9 id).aK d9 id);refine aE (k:=.i) (G.nd (G.to i)).1 n9.1 (aE (k:=.i) (G.nd (G.fr i)).1 n6.1 (aE (k:=.i) (G.nd (G.to i)).2 n9.2 (aE (k:=.i) (G.nd (G.fr i)).2 n6.2 ?_)));rw[gZ (n:=(G.nd (G.to i)).1-(G.nd (G.fr i)).1) aB aB,gZ (n:=(G.nd (G.to i)).2-(G.nd (G.fr i)).2) aB aB];exact hQ _ ((((((k1.tr k3).tr k4).tr k6).tr k7).tr k9).tr d9)
end
theorem Mirror_i{k:Int}{w:aH}{Q:Int->aH->Prop}(hk:k=2\/k=3\/k=4)(hQ:Q (k+4) w):yE k w Q:=by
 unfold yE;intro J hJ;have hj:J (true,()) w:=by apply hJ;refine aF (λ_=>?_) (λh=>by simp at h);rw[gZ (n:=k+4) aB aB];exact hQ
 rcases hk with rfl|rfl|rfl
 ·exact aF (λ_=>hj) (λh=>by simp at h)
 ·exact aF (λh=>by simp at h) (λ_=>aF (λ_=>hj) (λh=>by simp at h))
 ·exact aF (λh=>by simp at h) (λ_=>aF (λh=>by simp at h) (λ_=>hj))
theorem Sk{n:Int}{w:aH}{Q:Bool->aH->Prop}(h:-4095<=n/\n<=4095)(hQ:Q false w):uI n w Q:=by
 unfold uI;refine aJ (λh=>aB) (λ_=>?_);rw[decide_eq_false aB];exact hQ
abbrev jv(n:Int):Prop:=-4095<=n/\n<=4095
theorem Class_i{ax ay bx mC:Int}{w:aH}{Q:Int->aH->Prop}(h1:jv ax)(h2:jv ay)(h3:jv bx)(h4:jv mC)(hQ:Q (Rq ax ay bx mC) w):AW ax ay bx mC w Q:=by
 unfold AW;intro J1 OG;refine Sk h1 (aF (λh=>by simp at h) (λ_=>Sk h2 (aF (λh=>by simp at h) (λ_=>Sk h3 (aF (λh=>by simp at h) (λ_=>Sk h4 (aF (λh=>by simp at h) (λ_=>?_))))))));have qU:¬((ax=0/\ay=0)\/(bx=0/\mC=0))->J1 () w:=by
  intro hn;apply OG;rw[clsP_eq hn] at hQ;have p1:=Ep h1 h4;have p2:=Ep h2 h3;have p3:=Ep h1 h3;have p4:=Ep h2 h4;have hz:¬(ax*mC-ay*bx=0/\ax*bx+ay*mC=0):=λh=>hn (cross_dot h.1 h.2);rw[gZ (n:=ax*mC) aB aB,gZ (n:=ay*bx) aB aB,gZ (n:=ax*bx) aB aB,gZ (n:=ay*mC) aB aB,
   gZ (n:=ax*mC-ay*bx) aB aB,gZ (n:=ax*bx+ay*mC) aB aB]
  have q1:-33538050<=ax*mC-ay*bx/\ax*mC-ay*bx<=33538050:=aB;have q2:-33538050<=ax*bx+ay*mC/\ax*bx+ay*mC<=33538050:=aB;clear p1 p2 p3 p4 hn;generalize ax*mC-ay*bx=c at*;generalize ax*bx+ay*mC=d at*;rw[gZ (n:=0-c) aB aB,gZ (n:=0-d) aB aB];have hm:CE c (0-c)=GO c:=by unfold CE GO;split<;>split<;>omega
  have ha:0<=GO c/\GO c<=33538050:=by unfold GO;split<;>omega
  rw[hm,gZ (n:=4*GO c) aB aB];have q:∀v,v=Rr c d->Q v w:=λv hv=>by rw[hv];exact hQ
  intro J2 Qo;have j2:¬(d>0/\4*GO c<=d)->¬(d<0/\4*GO c<=-d)->J2 () w:=by
   intro n1 n2;apply Qo;intro J3 hJ3;have hc0:c≠0:=λe=>by
    subst e;have:GO 0=0:=rfl;rw[this] at n1 n2;omega
   have j3:∀k,(k=2\/k=3\/k=4)->(c<0->k+4=Rr c d)->(¬c<0->k=Rr c d)->J3 (k,()) w:=λk hk hl hr=>by
    apply hJ3;exact aJ (λh=>Mirror_i hk (q _ (hl h))) (λh=>q _ (hr h))
   have nO:Rr c d=if c>0/\d>0/\c<=d then 2 else if c>0/\d<0/\c<=-d then 4 else if c>0 then 3 else if d>0/\-c<=d then 6 else if d<0/\-c<=-d then 8 else 7:=by unfold Rr;rw[if_neg n1,if_neg n2]
   have e2:∀k:Int,(d>0/\GO c<=d/\k=2)\/(d<0/\GO c<=-d/\k=4)\/(¬(d>0/\GO c<=d)/\¬(d<0/\GO c<=-d)/\k=3)->J3 (k,()) w:=λk hk=>by
    have uk:(c<0/\GO c=-c)\/(c>0/\GO c=c):=by unfold GO;split<;>omega
    refine j3 k aB (λhl=>?_) (λhl=>?_)
    ·rw[nO];(repeat' split)<;>omega
    ·rw[nO];(repeat' split)<;>omega
   refine aJ (λg1=>aJ (λg2=>e2 2 (.inl ⟨g1,g2,rfl⟩)) (λg2=>aJ (λg3=>aB) (λg3=>e2 3 (.inr (.inr ⟨λh=>g2 h.2,λh=>g3 h.1,rfl⟩))))) (λg1=>?_);refine aJ (λg2=>aJ (λg3=>e2 4 (.inr (.inl ⟨g2,aB,rfl⟩))) (λg3=>e2 3 (.inr (.inr ⟨λh=>g1 h.1,λh=>g3 aB,rfl⟩)))) (λg2=>e2 3 (.inr (.inr ⟨λh=>g1 h.1,λh=>g2 h.1,rfl⟩)))
  refine aJ (λg1=>aJ (λg2=>q _ ?_) (λg2=>aJ (λg3=>aB) (λg3=>j2 (λh=>g2 h.2) (λh=>g3 h.1)))) (λg1=>?_)
  ·unfold Rr;rw[if_pos ⟨g1,g2⟩]
  refine aJ (λg2=>aJ (λg3=>q _ ?_) (λg3=>j2 (λh=>g1 h.1) (λh=>g3 aB))) (λg2=>j2 (λh=>g1 h.1) (λh=>g2 h.1));unfold Rr;rw[if_neg (λh=>g1 h.1),if_pos ⟨g2,aB⟩]
 have zero:((ax=0/\ay=0)\/(bx=0/\mC=0))->Q 0 w:=λh=>by
  have:Rq ax ay bx mC=0:=by unfold Rq;rw[if_pos h]
  rw[this] at hQ;exact hQ
 have tb:¬(ax=0/\ay=0)->cond (bx==0) (cond (mC==0) (Q 0 w) (J1 () w)) (J1 () w):=λhn=>by
  refine aF (λg1=>aF (λg2=>zero (.inr ⟨by simpa using g1,by simpa using g2⟩)) (λg2=>qU λh=>?_)) (λg1=>qU λh=>?_)
  ·rcases h with h|h
   ·exact hn h
   ·rw[h.2] at g2;simp at g2
  ·rcases h with h|h
   ·exact hn h
   ·rw[h.1] at g1;simp at g1
 refine aF (λg1=>aF (λg2=>zero (.inl ⟨by simpa using g1,by simpa using g2⟩)) (λg2=>tb λh=>?_)) (λg1=>tb λh=>?_)
 ·rw[h.2] at g2;simp at g2
 ·rw[h.1] at g1;simp at g1
theorem sS.xw{G:Gr}(ok:sS G){i:Int}(hi:G.mH i):jv ((G.nd (G.to i)).1-(G.nd (G.fr i)).1)/\jv ((G.nd (G.to i)).2-(G.nd (G.fr i)).2):=by
 have he:=ok.ed _ (G.TJ hi);have rf:=ok.Se (show G.GB (G.fr i) from he.1);have rt:=ok.Se (show G.GB (G.to i) from he.2.1);unfold jv;omega
theorem Of_i{w:aH}{H:Rw}{G:Gr}{a b:Int}{Q:Int->aH->Prop}(h:vM w H G)(ha:G.mH a)(hb:G.mH b)(hQ:∀w',aL w w'->Q (G.Rt a b) w'):PJ (some ⟨H.g,0,none⟩) a b w Q:=by
 unfold PJ;have r1:=sS.xw h.ok ha;have r2:=sS.xw h.ok hb;refine way_i h ha λw1 k1=>way_i (h.aO k1) hb λw2 k2=>?_;refine aF (λh=>by simp at h) (λ_=>aF (λh=>by simp at h) (λ_=>?_));exact Class_i r1.1 r1.2 r2.1 r2.2 (hQ w2 (k1.tr k2))
end
section
abbrev eS(s:Sl):List Value:=[sv s]
theorem lenS:∀s:Sl,(eS s).length=1:=λ_=>rfl
theorem oneS:∀s:Sl,∀u∈eS s,u.oneCell'=true:=by intro s u hu;simp at hu;subst hu;rfl
theorem eS_ne(s:Sl):eS s≠[]:=by simp
def Sp(w:aH)(s:Sl)(dZ:List (List Int)):Prop:=∃ss:List Sl,Rd w s 1 eS ss/\ss.length=dZ.length/\∀(i:Nat) x r,ss[i]? =some x->dZ[i]? =some r->Rd w x 1 eI r
theorem Sp.get{w:aH}{s:Sl}{dZ:List (List Int)}(h:Sp w s dZ){i:Nat}{r:List Int}(hr:dZ[i]? =some r):s.l=dZ.length/\∃p x,s.b=some p/\w.cell? (p.add (i*1))=some (sv x)/\Rd w x 1 eI r:=by
 obtain⟨ss,h1,h2,h3⟩:=h;have hi:i<ss.length:=by rw[h2];exact(eQ.1 hr).1
 obtain⟨p,hp,hc⟩:=bP (k:=.slice) (e:=λx=>x) h1 (cM hi);exact⟨by rw[h1.len,h2],p,ss[i],hp,hc,h3 i _ r (cM hi) hr⟩
def AD(gs:Nat)(ss:List Sl)(k:Nat):Prop:=k=gs\/∃x∈ss,∃a,x.b=some a/\k=a.block
structure VV(w:aH)(s:Sl)(gs:Nat)(dZ:List (List Int))(ss:List Sl):Prop where
 sb:s.b=some ⟨gs,0,none⟩
 v:dD w yI 1 eS s ss
 len:ss.length=dZ.length
 LN:∀(i:Nat) x r,ss[i]? =some x->dZ[i]? =some r->dD w dG 1 eI x r
 Eb:∀(i j:Nat) x y a b,i≠j->ss[i]? =some x->ss[j]? =some y->x.b=some a->y.b=some b->a.block≠b.block
 ne:∀x∈ss,∀a,x.b=some a->a.block≠gs
section
variable{w:aH}{s:Sl}{gs:Nat}{dZ:List (List Int)}{ss:List Sl}
theorem VV.aK{F:Nat->Prop}{w':aH}(h:VV w s gs dZ ss)(m:aU F w w')(hF:∀k,AD gs ss k->¬F k):VV w' s gs dZ ss:=
 ⟨h.sb,h.v.aK m λa ha=>by rw[h.sb] at ha;cases ha;exact hF gs (.inl rfl),h.len,λi x r hx hr=>(h.LN i x r hx hr).aK m λa ha=>hF _ (.inr ⟨x,lD hx,a,ha,rfl⟩),h.Eb,h.ne⟩
theorem VV.lt(h:VV w s gs dZ ss){k:Nat}(hk:AD gs ss k):k<w.heap.size:=by
 rcases hk with rfl|⟨x,hx,a,ha,rfl⟩
 ·exact h.v.lt h.sb
 ·obtain⟨i,hi⟩:=pC.1 hx;have hil:i<dZ.length:=by rw[<-h.len];exact(eQ.1 hi).1
  exact(h.LN i x _ hi (cM hil)).lt ha
def QU(w:aH)(s:Sl)(dZ:List (List Int)):Prop:=∃ss:List Sl,Rd w s 1 eS ss/\ss.length=dZ.length/\(∀(i:Nat) x r,ss[i]? =some x->dZ[i]? =some r->Rd w x 1 eI r)/\∀x∈ss,Ty w x
theorem QU.rd{w:aH}{s:Sl}{dZ:List (List Int)}(h:QU w s dZ):Sp w s dZ:=by
 obtain⟨ss,h1,h2,h3,_⟩:=h;exact⟨ss,h1,h2,h3⟩
theorem QU.aO{w w':aH}{s:Sl}{dZ:List (List Int)}(h:QU w s dZ)(k:aL w w'):QU w' s dZ:=by
 obtain⟨ss,h1,h2,h3,h4⟩:=h;exact⟨ss,h1.aK k eS_ne λ_ _=>id,h2,λi x r hx hr=>(h3 i x r hx hr).aK k cI λ_ _=>id,λx hx=>(h4 x hx).aO k⟩
theorem VV.rt(h:VV w s gs dZ ss):QU w s dZ:=⟨ss,h.v.rd lenS,h.len,λi x r hx hr=>(h.LN i x r hx hr).rd eX,λx hx=>by
 obtain⟨i,hi⟩:=pC.1 hx;have hil:i<dZ.length:=by rw[<-h.len];exact(eQ.1 hi).1
 exact dD.Lf (h.LN i x _ hi (cM hil)) ⟨by decide,by decide⟩⟩
theorem VV.start{n g:Nat}(h:dD w yI 1 eS ⟨some ⟨g,0,none⟩,n,n⟩ (List.replicate n aZ)):VV w ⟨some ⟨g,0,none⟩,n,n⟩ g (List.replicate n []) (List.replicate n aZ):=by
 have rep:∀{i:Nat} {x:Sl},(List.replicate n (aZ:Sl))[i]? =some x->x=aZ:=λ{i x} h=>(List.mem_replicate.1 (lD h)).2;refine⟨rfl,h,by simp,λi x r hx hr=>?_,λi j x y a b _ hx _ ha=>?_,λx hx a ha=>?_⟩
 ·rw[rep hx,(List.mem_replicate.1 (lD hr)).2];exact dD.nil _ _ _ _
 ·rw[rep hx] at ha;cases ha
 ·rw[(List.mem_replicate.1 hx).2] at ha;cases ha
theorem Om{T f:Nat}{hd:List Value}{i:Nat}{r:List Int}{x:Int}{K:aH->Prop}(hT:cU w T Sa hd)(hf:hd[f]? =some (sv s))(hTn:¬AD gs ss T)(V:VV w s gs dZ ss)(hr:dZ[i]? =some r)(hl:r.length<1000)
  (hK:∀w' ss',VV w' s gs (dZ.set i (r++[x])) ss'->aU (AD gs ss) w w'->(∀k,AD gs ss' k->AD gs ss k\/w.heap.size<=k)->K w'):
  Aj .slice w.drew ((⟨T,0,none⟩:Addr).add f) λ(s2:Sl)=>aC (some ⟨T,0,none⟩) λa4=>Aj .slice w.drew (a4.add f) λ(s3:Sl)=>(0<=(i:Int)/\(i:Int)<(s3.l:Int))/\aC s3.b λa5=>
   Aj .slice w.drew (a5.add (Int.toNat (i:Int)*1)) λ(s4:Sl)=>aG w.drew #[aD x] dG λa6 eZ=>eZ.cell? (a5.add (Int.toNat (i:Int)*1))=some (Value.slice s4.b s4.l s4.c)/\eZ.cell? (a4.add f)=some (Value.slice s3.b s3.l s3.c)/\
   eZ.cell? ((⟨T,0,none⟩:Addr).add f)=some (Value.slice s2.b s2.l s2.c)/\aW prog yI yI s4 (Value.slice (some a6) 1 1) eZ λ(s5:Sl) eN=>eN.cell? ((⟨T,0,none⟩:Addr).add f)=some (Value.slice s2.b s2.l s2.c)/\(0<=(i:Int)/\(i:Int)<(s2.l:Int))/\
   aC s2.b λa7=>aI prog yI (a7.add (Int.toNat (i:Int)*1)) (Value.slice s5.b s5.l s5.c) eN K:=by
 have d:aL w w.drew:=aU.drew (aU.refl _ w);have V1:=V.aK d λ_ _=>id;have T1:=hT.aK d id;have cT:∀{wx:aH},cU wx T Sa hd->wx.cell? ((⟨T,0,none⟩:Addr).add f)=some (sv s):=λ{wx} h=>by rw[aS,h.cell,gI];exact hf
 have hir:i<dZ.length:=(eQ.1 hr).1;have his:i<ss.length:=by rw[V.len];exact hir
 have QC:=V.v.len;have cQ:=cM his;have gF:=mX his;generalize ss[i]=y at*;obtain⟨p,hp,hc⟩:=bP (k:=.slice) (e:=λx=>x) (V1.v.rd lenS) cQ;rw[V.sb] at hp;cases hp;rw[dW];have gX:0<=(i:Int)/\(i:Int)<(s.l:Int):=⟨aB,aB⟩;refine aE (k:=.slice) s (cT T1) (aA rfl (aE (k:=.slice) s (cT T1) ⟨gX,aA V.sb (aE (k:=.slice) y hc ?_)⟩));refine bD λeZ Cf IP z10=>⟨?_,cT (T1.aK IP id),cT (T1.aK IP id),?_⟩
 ·exact IP.cell hc id
 have V10:=V1.aK IP λ_ _=>id;have vy:=V10.LN i y r cQ hr;have vx:dD eZ dG 1 eI ⟨some ⟨w.heap.size,0,none⟩,1,1⟩ [x]:=dD.new eX [x] Cf (by simp[maxLen]);refine fH iK eX FC vy (vx.rd eX) (by simp;omega) (by simp;omega) λs5 eN v11 Kv f11 _=>?_;have nT:∀a,y.b=some a->T≠a.block:=λa ha e=>hTn (.inr ⟨y,gF,a,ha,e⟩);have T11:=(T1.aK IP id).aK Kv λ⟨a,ha,e⟩=>nT a ha e;have vs11:=V10.v.aK Kv λa ha ⟨b,hb,e⟩=>by rw[V.sb] at ha;cases ha;exact V.ne y gF b hb e.symm
 refine⟨cT T11,gX,aA V.sb ?_⟩;refine vs11.store lenS V.sb (i:=i) his s5 (v:=sv s5) rfl oW (oneS s5) λeE Ce Ku z12=>?_;have kg:aU (λk=>k=gs) eN eE:=Ku;have hz:w.heap.size<eZ.heap.size:=by rw[z10];exact Nat.lt_succ_self _
 have uf:gs<w.heap.size:=V.lt (.inl rfl);have f5:∀b,s5.b=some b->(∃a,y.b=some a/\b.block=a.block)\/w.heap.size<b.block:=λb hb=>by
  rcases f11 with h|⟨b',bR,cC⟩
  ·exact .inl ⟨b,by rw[<-h];exact hb,rfl⟩
  ·rw[hb] at bR;cases bR;exact .inr aB
 have n5:∀b,s5.b=some b->b.block≠gs:=λb hb e=>by
  rcases f5 b hb with⟨a,ha,h⟩|h
  ·exact V.ne y gF a ha (h.symm.trans e)
  ·omega
 have Ra:∀{j:Nat} {z:Sl},(ss.set i s5)[j]? =some z->(j=i/\z=s5)\/(j≠i/\ss[j]? =some z):=λ{j z} h=>by
  rw[jA] at h
  by_cases e:i=j
  ·rw[if_pos e,if_pos aB] at h;cases h;exact .inl ⟨e.symm,rfl⟩
  ·rw[if_neg e] at h;exact .inr ⟨λe'=>e e'.symm,h⟩
 have blt:∀{j:Nat} {z:Sl} {b:Addr},ss[j]? =some z->z.b=some b->b.block<w.heap.size:=λhz hb=>V.lt (.inr ⟨_,lD hz,_,hb,rfl⟩);have m12w:aU (AD gs ss) w eE:=by have h1:aU (AD gs ss) w eZ:=(d.tr IP).wk;have h2:aU (AD gs ss) w eN:=h1.trans Kv λk hk ⟨a,ha,e⟩=>.inr ⟨y,gF,a,ha,e⟩;exact h2.trans kg λk hk e=>.inl e
 refine hK eE (ss.set i s5) ⟨V.sb,Ce,by rw[nN,nN];exact V.len,λj z q hz hq=>?_,λj l z u a b YM hz hu ha hb=>?_,λz hz a ha=>?_⟩ m12w λk hk=>?_
 ·rcases Ra hz with⟨rfl,rfl⟩|⟨EZ,hz⟩
  ·rw[jA,if_pos rfl,if_pos hir] at hq;cases hq;exact v11.aK kg λb hb=>n5 b hb
  ·rw[jA,if_neg (λe=>EZ e.symm)] at hq;refine((V10.LN j z q hz hq).aK Kv λb hb ⟨a,ha,e⟩=>V.Eb j i z y b a EZ hz cQ hb ha e).aK kg λb hb=>V.ne z (lD hz) b hb
 ·rcases Ra hz with⟨e1,e2⟩|⟨EZ,hz'⟩<;>rcases Ra hu with⟨e3,e4⟩|⟨hli,hu'⟩
  ·exact absurd (e1.trans e3.symm) YM
  ·rw[e2] at ha;rw[e1] at YM;rcases f5 a ha with⟨a',mU,h⟩|h
   ·rw[h];exact V.Eb _ _ _ _ _ _ YM cQ hu' mU hb
   ·have:=blt hu' hb;omega
  ·rw[e4] at hb;rw[e3] at YM;rcases f5 b hb with⟨a',mU,h⟩|h
   ·rw[h];exact V.Eb _ _ _ _ _ _ YM hz' cQ ha mU
   ·have:=blt hz' ha;omega
  ·exact V.Eb _ _ _ _ _ _ YM hz' hu' ha hb
 ·obtain⟨j,hj⟩:=pC.1 hz;rcases Ra hj with⟨rfl,rfl⟩|⟨_,hz⟩
  ·exact n5 a ha
  ·exact V.ne z (lD hz) a ha
 ·rcases hk with rfl|⟨z,hz,a,ha,rfl⟩
  ·exact .inl (.inl rfl)
  ·obtain⟨j,hj⟩:=pC.1 hz;rcases Ra hj with⟨rfl,rfl⟩|⟨_,hz⟩
   ·rcases f5 a ha with⟨a',mU,h⟩|h
    ·exact .inl (.inr ⟨y,gF,a',mU,h⟩)
    ·exact .inr (Nat.le_of_lt h)
   ·exact .inl (.inr ⟨z,lD hz,a,ha,rfl⟩)
end
end
section
structure Mb where
 t:Nat
 H:Rw
 nx:Sl
 pv:Sl
def we(G:Gr):List (List Int):=(List.range G.m).map λi:Nat=>G.gL (i:Int)
def prevR(G:Gr):List (List Int):=(List.range G.m).map λi:Nat=>G.oP (i:Int)
structure sF(w:aH)(t:Mb)(G:Gr):Prop where
 head:cU w t.t Sa [.pointer (some ⟨t.H.g,0,none⟩),sv t.nx,sv t.pv]
 IS:vM w t.H G
 RS:QU w t.nx (we G)
 prv:QU w t.pv (prevR G)
 Lf:∀b,t.nx.b=some b\/t.pv.b=some b->∃cs,cU w b.block yI cs
theorem sF.aO{w w':aH}{t:Mb}{G:Gr}(h:sF w t G)(k:aL w w'):sF w' t G:=
 ⟨h.head.aK k id,h.IS.aO k,h.RS.aO k,h.prv.aO k,λb hb=>by obtain⟨cs,o⟩:=h.Lf b hb;exact⟨cs,o.aK k id⟩⟩
theorem sF.cells{w:aH}{t:Mb}{G:Gr}(h:sF w t G):w.cell? ((⟨t.t,0,none⟩:Addr).add 0)=some (.pointer (some ⟨t.H.g,0,none⟩))/\w.cell? ((⟨t.t,0,none⟩:Addr).add 1)=some (sv t.nx)/\w.cell? ((⟨t.t,0,none⟩:Addr).add 2)=some (sv t.pv):=qN h.head
theorem Eh{α:Type}{w:aH}{e:TypeId}{n:Nat}{aY:α->List Value}{s:Sl}{xs:List α}(h:dD w e n aY s xs){b:Addr}(hb:s.b=some b):∃cs,cU w b.block e cs:=by
 obtain⟨_,_,_,h4⟩:=h;rcases h4 with⟨h5,_⟩|⟨g,cJ,h5,h6,_⟩
 ·rw[hb] at h5;cases h5
 ·rw[hb] at h5;cases h5;exact⟨_,h6⟩
structure TSt(W w:aH)(T gn gp hg:Nat)(nx pv:Sl)(rn rp:List (List Int))(UY UW:List Sl):Prop where
 gR:cU w T Sa [.pointer (some ⟨hg,0,none⟩),sv nx,sv pv]
 vn:VV w nx gn rn UY
 vp:VV w pv gp rp UW
 Eb:∀k,AD gn UY k->¬AD gp UW k
 nTn:¬AD gn UY T
 nTp:¬AD gp UW T
 kp:aL W w
 lown:∀k,AD gn UY k->W.heap.size<=k
 lowp:∀k,AD gp UW k->W.heap.size<=k
section
variable{W w:aH}{T gn gp hg:Nat}{nx pv:Sl}{rn rp:List (List Int)}{UY UW:List Sl}
theorem TSt.aO{w':aH}(h:TSt W w T gn gp hg nx pv rn rp UY UW)(k:aL w w'):TSt W w' T gn gp hg nx pv rn rp UY UW:=
 ⟨h.gR.aK k id,h.vn.aK k λ_ _=>id,h.vp.aK k λ_ _=>id,h.Eb,h.nTn,h.nTp,h.kp.tr k,h.lown,h.lowp⟩
theorem TSt.pushN{w':aH}{rn':List (List Int)}{ssn':List Sl}(h:TSt W w T gn gp hg nx pv rn rp UY UW)(v:VV w' nx gn rn' ssn')(m:aU (AD gn UY) w w')(f:∀k,AD gn ssn' k->AD gn UY k\/w.heap.size<=k):
  TSt W w' T gn gp hg nx pv rn' rp ssn' UW:=by
 have hT:=h.gR.lt;have hk:=h.kp.size;refine⟨h.gR.aK m h.nTn,v,h.vp.aK m λk hk hn=>h.Eb k hn hk,λk hk hp=>?_,λhh=>?_,h.nTp,h.kp.fresh m h.lown,λk lT=>?_,h.lowp⟩
 ·rcases f k hk with h1|h1
  ·exact h.Eb k h1 hp
  ·have:=h.vp.lt hp;omega
 ·rcases f T hh with h1|h1
  ·exact h.nTn h1
  ·omega
 ·rcases f k lT with h1|h1
  ·exact h.lown k h1
  ·omega
theorem TSt.pushP{w':aH}{rp':List (List Int)}{ssp':List Sl}(h:TSt W w T gn gp hg nx pv rn rp UY UW)(v:VV w' pv gp rp' ssp')(m:aU (AD gp UW) w w')(f:∀k,AD gp ssp' k->AD gp UW k\/w.heap.size<=k):
  TSt W w' T gn gp hg nx pv rn rp' UY ssp':=by
 have hT:=h.gR.lt;have hk:=h.kp.size;refine⟨h.gR.aK m h.nTp,h.vn.aK m λk hn hk=>h.Eb k hn hk,v,λk hn hk=>?_,h.nTn,λhh=>?_,h.kp.fresh m h.lowp,h.lown,λk lT=>?_⟩
 ·rcases f k hk with h1|h1
  ·exact h.Eb k hn h1
  ·have:=h.vn.lt hn;omega
 ·rcases f T hh with h1|h1
  ·exact h.nTp h1
  ·omega
 ·rcases f k lT with h1|h1
  ·exact h.lowp k h1
  ·omega
end
def LQ(G:Gr)(a:Nat)(q:List Int)(i:Nat):List Int:=if i<a then G.gL (i:Int) else if i=a then q else []
def LD(G:Gr)(a:Nat)(q:List Int)(b:Nat):List Int:=(kL a).filter (λx=>G.sJ x (b:Int))++if(b:Int)∈q then [(a:Int)] else []
def mZ(m:Nat)(f:Nat->List Int):List (List Int):=(List.range m).map f
theorem Hp{m:Nat}{f:Nat->List Int}{i:Nat}(h:i<m):(mZ m f)[i]? =some (f i):=by simp[mZ,h]
theorem rF{m:Nat}{f g:Nat->List Int}(h:∀i,i<m->f i=g i):mZ m f=mZ m g:=List.map_congr_left λi hi=>h i (List.mem_range.1 hi)
theorem Xw{m:Nat}{f:Nat->List Int}{i:Nat}(r:List Int):(mZ m f).set i r=mZ m λj=>if j=i then r else f j:=by
 apply yG;intro j;rw[jA];unfold mZ
 by_cases e:i=j
 ·subst e
  by_cases hj:i<m<;>simp[hj]
 ·by_cases hj:j<m
  ·have:¬j=i:=λh=>e h.symm;simp[e,hj,this]
  ·simp[e,hj]
theorem Xx(m:Nat):List.replicate m []=mZ m λ_=>[]:=by
 apply yG;intro j;unfold mZ
 by_cases hj:j<m<;>simp[hj,Fv]
theorem outs_next{G:Gr}{a:Int}(ha:G.mH a):(G.Vv (G.to a)).filter (λb=>!decide ((a,b)∈G.B))=G.gL a:=by
 unfold Gr.Vv Gr.gL;rw[List.filter_filter];refine ly3 λb hb=>?_;have bR:=CN.1 hb;unfold Gr.sJ;rw[decide_eq_true ha,decide_eq_true (show G.mH b from bR)];simp only[Bool.true_and]
 by_cases e:G.fr b=G.to a
 ·simp[e]
 ·have e':¬G.to a=G.fr b:=λh=>e h.symm;simp[e,e']
theorem TNew_i{W:aH}{H:Rw}{G:Gr}{Q:cR->aH->Prop}(h:vM W H G)(hQ:∀t w',sF w' t G->t.H=H->aL W w'->Q (some ⟨t.t,0,none⟩) w'):EM (some ⟨H.g,0,none⟩) W Q:=by
 unfold EM;have hm:=h.ok.m1;refine aF (λh=>by simp at h) (λ_=>tQ h ?_);have d:aL W W.drew:=aU.drew (aU.refl _ W);intro J hJ;have qU:∀w2 T gn gp nx pv UY UW,TSt W w2 T gn gp H.g nx pv (List.replicate G.m []) (List.replicate G.m []) UY UW->J (some ⟨T,0,none⟩,()) w2:=by
  intro w2 T gn gp nx pv UY UW st;apply hJ;dsimp only;have e1:(List.replicate G.m ([]:List Int))=mZ G.m (LQ G 0 []):=by rw[Xx];exact rF λi _=>by unfold LQ;rw[if_neg aB];split<;>rfl
  have e2:(List.replicate G.m ([]:List Int))=mZ G.m (LD G 0 []):=by rw[Xx];exact rF λi _=>by simp[LD,kL]
  have st0:TSt W w2 T gn gp H.g nx pv (mZ G.m (LQ G 0 [])) (mZ G.m (LD G 0 [])) UY UW:=by rw[<-e1,<-e2];exact st
  clear e1 e2 st;refine bL (λc t w3=>∃(a:Nat) (UY UW:List Sl),a<=G.m/\c=G.m-a/\t=((a:Int),())/\TSt W w3 T gn gp H.g nx pv (mZ G.m (LQ G a [])) (mZ G.m (LD G a [])) UY UW) G.m ⟨0,UY,UW,dE _,rfl,rfl,st0⟩ ?_;clear st0 UY UW;rintro c t w3 ⟨a,UY,UW,ha,rfl,rfl,st⟩ X hX;dsimp only;refine aJ (λcC=>?_) (λkC=>?_)
  ·have mU:a<G.m:=aB;have hE:G.mH (a:Int):=⟨aB,aB⟩;refine JM (h.aO st.kp) (λ_ w4 k4=>?_) (λhn=>absurd hE hn);refine fF (vs:=[aD (G.fr a),aD (G.to a),aD (G.wt a)]) jP rfl (by simp[Value.oneCell']) λw6 o6 k6 z6=>?_;refine aE (k:=.i) (G.to a) (qN o6).2.1 ?_;have UT:=(st.aO k4).aO k6;refine gOut_i (h.aO UT.kp) λs1 w7 v7 k7 f7=>?_;have Dr:=UT.aO k7;have gD:(G.Vv (G.to a)).length<=G.m:=by
    have:=zL (λe=>decide (G.fr e=G.to a)) (kL G.m);rw[rC] at this;exact this
   have hon:=outs_next hE;have IU:∀b∈G.Vv (G.to a),G.mH b:=λb hb=>CN.1 (jI.1 hb).1;have hnd:(G.Vv (G.to a)).Pairwise λx y=>x<y:=RY _ (Te G.m);generalize G.Vv (G.to a)=sK at*;have l1:=v7.len;refine bL (λc t w8=>∃(j:Nat) (UY UW:List Sl),j<=sK.length/\c=sK.length-j/\t=((j:Int),())/\(∀b,s1.b=some b->¬AD gn UY b.block/\¬AD gp UW b.block)/\dD w8 dG 1 eI s1 sK/\
     TSt W w8 T gn gp H.g nx pv (mZ G.m (LQ G a ((sK.take j).filter λb=>!decide (((a:Int),b)∈G.B)))) (mZ G.m (LD G a ((sK.take j).filter λb=>!decide (((a:Int),b)∈G.B)))) UY UW) sK.length
    ⟨0,UY,UW,dE _,rfl,rfl,λb hb=>⟨λhk=>?_,λhk=>?_⟩,v7,by simpa using Dr⟩ ?_
   ·have:=UT.vn.lt hk;have:=f7 b hb;omega
   ·have:=UT.vp.lt hk;have:=f7 b hb;omega
   clear st UT Dr v7 f7 k7 o6 k6 z6 k4 UY UW;rintro c t w8 ⟨j,UY,UW,hj,rfl,rfl,xS,v8,st⟩ Y hY;dsimp only;refine aJ (λGM=>?_) (λhge'=>?_)
   ·have qP:j<sK.length:=aB;have cQ:=cM qP;have hbE:=IU _ (mX qP);have sC:sK.take (j+1)=sK.take j++[sK[j]]:=mM qP;have Rf:sK[j]∉sK.take j:=λhm=>by
     obtain⟨i,hi⟩:=pC.1 hm;have hil:=(eQ.1 hi).1;rw[sM] at hil;rw[VJ aB] at hi;have:=Vw.1 hnd i j aB qP aB;rw[(eQ.1 hi).2] at this;omega
    generalize sK[j]=b at*;obtain⟨p,hp,hc⟩:=bP (k:=.i) (e:=λx=>x) (v8.rd eX) cQ;rw[dW];refine⟨⟨aB,GM⟩,aA hp (aE (k:=.i) b hc ?_)⟩;refine Zm (h.aO st.kp) λw9 k9=>?_;have st9:=st.aO k9;rw[pP j aB];refine aF (λhb=>?_) (λhb=>?_)
    ·have bR:(!decide (((a:Int),b)∈G.B))=true:=hb;have IV:(sK.take (j+1)).filter (λb=>!decide (((a:Int),b)∈G.B))=(sK.take j).filter (λb=>!decide (((a:Int),b)∈G.B))++[b]:=by
      rw[sC,VH];simp[bR]
     have hql:((sK.take j).filter λb=>!decide (((a:Int),b)∈G.B)).length<=51:=by have:=zL (λb=>!decide (((a:Int),b)∈G.B)) (sK.take j);rw[sM] at this;omega
     have hqn:b∉(sK.take j).filter (λb=>!decide (((a:Int),b)∈G.B)):=λhm=>Rf (jI.1 hm).1;generalize (sK.take j).filter (λb=>!decide (((a:Int),b)∈G.B))=q at*;refine aA rfl ?_;refine Om (f:=1) (r:=LQ G a q a) (x:=b) st9.gR rfl st9.nTn st9.vn (Hp mU) (by unfold LQ;rw[if_neg aB,if_pos rfl];omega) λeE ssn' Ce Ku f12=>?_;have ju:=st9.pushN Ce Ku f12;obtain⟨bn,rfl⟩:∃bn:Nat,b=(bn:Int):=⟨b.toNat,by have:=hbE.1;omega⟩;have hbn:bn<G.m:=by have:=hbE.2;omega
     have hpl:(LD G a q bn).length<1000:=by
      have:=zL (λx=>G.sJ x (bn:Int)) (kL a);rw[rC] at this;unfold LD;rw[fJ]
      split<;>simp<;>omega
     refine aA rfl ?_;refine Om (f:=2) (r:=LD G a q bn) (x:=(a:Int)) ju.gR rfl ju.nTp ju.vp (Hp hbn) hpl λfY ssp' v15 Fj f15=>?_;have st15:=ju.pushP v15 Fj f15;have h9:=k9.size;have Fp:=Ku.size;refine hY (sK.length-(j+1)) _ _ aB ⟨j+1,ssn',ssp',qP,rfl,rfl,λb' bR=>⟨λhk=>?_,λhk=>?_⟩,((v8.aK k9 λ_ _=>id).aK Ku λb' bR=>(xS b' bR).1).aK Fj λb' bR=>(xS b' bR).2,?_⟩
     ·rcases f12 _ hk with h1|h1
      ·exact(xS b' bR).1 h1
      ·have:=v8.lt bR;omega
     ·rcases f15 _ hk with h1|h1
      ·exact(xS b' bR).2 h1
      ·have:=v8.lt bR;omega
     ·rw[IV];have e1:(mZ G.m (LQ G a q)).set a (LQ G a q a++[(bn:Int)])=mZ G.m (LQ G a (q++[(bn:Int)])):=by
       rw[Xw];refine rF λi _=>?_
       by_cases e:i=a
       ·subst e;simp[LQ]
       ·rw[if_neg e];unfold LQ;simp[e]
      have e2:(mZ G.m (LD G a q)).set bn (LD G a q bn++[(a:Int)])=mZ G.m (LD G a (q++[(bn:Int)])):=by
       rw[Xw];refine rF λi _=>?_
       by_cases e:i=bn
       ·subst e;simp[LD,hqn]
       ·have e':¬((i:Int)=(bn:Int)):=aB;rw[if_neg e];unfold LD;simp[e']
      rw[<-e1,<-e2];exact st15
    ·have bR:(!decide (((a:Int),b)∈G.B))=false:=hb;have IV:(sK.take (j+1)).filter (λb=>!decide (((a:Int),b)∈G.B))=(sK.take j).filter (λb=>!decide (((a:Int),b)∈G.B)):=by
      rw[sC,VH];simp at bR;simp[bR]
     refine hY (sK.length-(j+1)) _ _ aB ⟨j+1,UY,UW,qP,rfl,rfl,xS,v8.aK k9 λ_ _=>id,by rw[IV];exact st9⟩
   ·have ej:j=sK.length:=aB;subst ej;rw[oI,hon] at st;rw[pP a aB];refine hX _ _ _ aB ⟨a+1,UY,UW,mU,rfl,rfl,?_⟩;have e1:mZ G.m (LQ G a (G.gL a))=mZ G.m (LQ G (a+1) []):=rF λi _=>by
     unfold LQ
     by_cases h1:i<a
     ·rw[if_pos h1,if_pos aB]
     ·by_cases h2:i=a
      ·subst h2;rw[if_neg h1,if_pos rfl,if_pos aB]
      ·rw[if_neg h1,if_neg h2,if_neg aB];split<;>rfl
    have e2:mZ G.m (LD G a (G.gL a))=mZ G.m (LD G (a+1) []):=rF λi _=>by
     unfold LD;rw[xB,VH];simp only[G.tA,List.not_mem_nil,if_false,uA];congr 1
     by_cases e:G.sJ (a:Int) (i:Int)=true<;>simp[e]
    rw[<-e1,<-e2];exact st
  ·have ea:a=G.m:=aB;subst ea;refine hQ ⟨T,H,nx,pv⟩ w3 ⟨st.gR,h.aO st.kp,?_,?_,λb hb=>hb.elim (Eh st.vn.v) (Eh st.vp.v)⟩ rfl st.kp
   ·have e:we G=mZ G.m (LQ G G.m []):=rF λi hi=>by unfold LQ;rw[if_pos hi]
    rw[e];exact st.vn.rt
   ·have e:prevR G=mZ G.m (LD G G.m []):=rF λi hi=>by unfold LD Gr.oP;simp
    rw[e];exact st.vp.rt
 have mk2:∀w1 (K:WQ Sl),(∀w2,dD w2 yI 1 eS ⟨some ⟨w1.heap.size,0,none⟩,G.m,G.m⟩ (List.replicate G.m aZ)->aL w1 w2->K ⟨some ⟨w1.heap.size,0,none⟩,G.m,G.m⟩ w2)->fE prog tssInt (aD (G.m:Int)) (aD (G.m:Int)) w1 K:=λw1 K hK=>by
  refine wW qu (aY:=eS) (aZ:Sl) rfl lenS aB (lK _) aB aB λw2 v2 k2=>?_;simp only[dW] at v2 ⊢;exact hK w2 v2 k2
 have dK:∀{g k:Nat},AD g (List.replicate G.m aZ) k->k=g:=λ{g k} hk=>by
  rcases hk with h1|⟨x,hx,a,ha,_⟩
  ·exact h1
  ·rw[(List.mem_replicate.1 hx).2] at ha;cases ha
 have dz:W.heap.size<=W.drew.heap.size:=d.size;refine⟨mk2 _ _ λjN v16 Du=>mk2 _ _ λmG v17 Qm=>bD λqB o18 fk z18=>?_,mk2 _ _ λjN v16 Du=>mk2 _ _ λmG v17 Qm=>bD λqB o18 fk z18=>?_⟩
 all_goals
  have l16:W.drew.heap.size<jN.heap.size:=v16.lt rfl;have l17:jN.heap.size<mG.heap.size:=v17.lt rfl;have V16:=VV.start ((v16.aK Qm λ_ _=>id).aK fk λ_ _=>id);have V17:=VV.start (v17.aK fk λ_ _=>id);have KK:=((d.tr Du).tr Qm).tr fk
 ·exact qU qB mG.heap.size W.drew.heap.size jN.heap.size _ _ _ _ ⟨o18,V16,V17,λk h1 h2=>by have:=dK h1;have:=dK h2;omega,λh1=>by have:=dK h1;omega,λh1=>by have:=dK h1;omega,KK,λk h1=>by have:=dK h1;omega,λk h1=>by have:=dK h1;omega⟩
 ·exact qU qB mG.heap.size jN.heap.size W.drew.heap.size _ _ _ _ ⟨o18,V17,V16,λk h1 h2=>by have:=dK h1;have:=dK h2;omega,λh1=>by have:=dK h1;omega,λh1=>by have:=dK h1;omega,KK,λk h1=>by have:=dK h1;omega,λk h1=>by have:=dK h1;omega⟩
end
section
theorem some_i{l:Sl}{m:Nat}{f:Nat->List Int}{e:Int}{w:aH}{Q:Sl->aH->Prop}(h:Sp w l (mZ m f))(hm:m<=51)(hf:∀i,i<m->(f i).length<=1000)
  (hQ:∀s w' r,(¬(0<=e/\e<m)->r=[])->(0<=e/\e<m->r=f e.toNat)->dD w' dG 1 eI s r->aL w w'->(∀b,s.b=some b->w.heap.size<=b.block)->Q s w'):vS l e w Q:=by
 unfold vS;have hl:l.l=m:=by obtain⟨ss,h1,h2,_⟩:=h;rw[h1.len,h2];simp[mZ]
 have nil:¬(0<=e/\e<m)->Q aZ w:=λhn=>hQ _ w [] (λ_=>rfl) (λh=>absurd h hn) (dD.nil _ _ _ _) (aU.refl _ _) λb hb=>by cases hb
 refine aJ (λh=>nil λhn=>aB) (λh0=>aJ (λh=>nil λhn=>aB) (λh1=>?_));have he:0<=e/\e<m:=⟨aB,aB⟩;have hi:e.toNat<m:=aB;obtain⟨_,p,x,hp,hc,hr⟩:=h.get (Hp hi);refine⟨⟨he.1,aB⟩,aA hp (aE (k:=.slice) x hc ?_)⟩;refine fH iK eX FC (dD.nil w dG 1 eI) hr (by have:=hf _ hi;simp;omega) (by have:=hf _ hi;simp;omega) λr w' hv hm hb _=>?_;refine hQ r w' (f e.toNat) (λh=>absurd he h) (λ_=>rfl) (by simpa using hv) ((aU.refl _ w).fresh hm λk ⟨a,ha,_⟩=>by cases ha) λb bR=>?_;rcases hb with h1|⟨a,ha,cC⟩
 ·rw[bR] at h1;cases h1
 ·rw[bR] at ha;cases ha;exact cC
section
variable{w:aH}{t:Mb}{G:Gr}
theorem Next_i{e:Int}{Q:Sl->aH->Prop}(h:sF w t G)(hQ:∀s w',dD w' dG 1 eI s (G.gL e)->aL w w'->(∀b,s.b=some b->w.heap.size<=b.block)->Q s w'):HT (some ⟨t.t,0,none⟩) e w Q:=by
 unfold HT;refine aF (λh=>by simp at h) (λ_=>aA rfl (aE (k:=.slice) t.nx h.cells.2.1 ?_));refine some_i (f:=λi:Nat=>G.gL (i:Int)) h.RS.rd h.IS.ok.m1.2 (λi _=>by have:=G.yP (i:Int);have:=h.IS.ok.m1;omega) λs w' r h1 h2 v k f=>?_;have e1:r=G.gL e:=by
  by_cases he:0<=e/\e<G.m
  ·rw[h2 he];show G.gL (e.toNat:Int)=_;rw[iw he.1]
  ·rw[h1 he]
   symm
   unfold Gr.gL;rw[List.filter_eq_nil_iff]
   exactλb _ hb=>he (G.fN.1 hb).1
 rw[e1] at v;exact hQ s w' v k f
theorem Prev_i{e:Int}{Q:Sl->aH->Prop}(h:sF w t G)(hQ:∀s w',dD w' dG 1 eI s (G.oP e)->aL w w'->(∀b,s.b=some b->w.heap.size<=b.block)->Q s w'):PA (some ⟨t.t,0,none⟩) e w Q:=by
 unfold PA;refine aF (λh=>by simp at h) (λ_=>aA rfl (aE (k:=.slice) t.pv h.cells.2.2 ?_));refine some_i (f:=λi:Nat=>G.oP (i:Int)) h.prv.rd h.IS.ok.m1.2 (λi _=>by have:=G.Xz (i:Int);have:=h.IS.ok.m1;omega) λs w' r h1 h2 v k f=>?_;have e1:r=G.oP e:=by
  by_cases he:0<=e/\e<G.m
  ·rw[h2 he];show G.oP (e.toNat:Int)=_;rw[iw he.1]
  ·rw[h1 he]
   symm
   unfold Gr.oP;rw[List.filter_eq_nil_iff]
   exactλb _ hb=>he (G.fN.1 hb).2.1
 rw[e1] at v;exact hQ s w' v k f
theorem JQ{i:Int}{K:Addr->aH->Prop}(h:sF w t G)(hi:G.mH i)(hK:∀a w',w'.cell? (a.add 2)=some (aD (G.wt i))->aL w w'->w.heap.size<=a.block->K a w'):
  iY (some ⟨t.H.g,0,none⟩) i w λ(t2:Int×Int×Int×Unit) (_:Bool) w2=>aG w2 #[aD 0,aD 0,aD 0] QH λa3 w3=>
   aI prog QH a3 (Value.agg #[(aD t2.1),(aD t2.2.1),(aD t2.2.2.1)]) w3 λw4=>K a3 w4:=by
 refine JM h.IS (λ_ w2 k2=>?_) (λhn=>absurd hi hn);refine fF (vs:=[aD (G.fr i),aD (G.to i),aD (G.wt i)]) jP rfl (by simp[Value.oneCell']) λw4 o4 k4 z4=>?_;exact hK _ w4 (qN o4).2.2 (k2.tr k4) k2.size
theorem Yy{es:Sl}{l:List Int}{Q:Int->Bool->aH->Prop}(h:sF w t G)(hr:Rd w es 1 eI l)(hl:l.length<=100000)(hE:∀x∈l,G.mH x)(hQ:∀w',aL w w'->Q (G.kQ l) true w'):pW (some ⟨t.t,0,none⟩) es w Q:=by
 unfold pW;have ub:=hr.len;have gX:∀i,i<=l.length->0<=G.kQ (l.take i)/\G.kQ (l.take i)<=40*i:=λi=>by
  induction i with
  |zero=>intro _;simp[Gr.kQ]
  |succ i ih=>intro hi;have:=ih aB;rw[mM (show i<l.length by omega)];have hw:=h.IS.ok.w1 (hE _ (mX (show i<l.length by omega)));unfold Gr.kQ at this ⊢;rw[wQ,List.sum_append];simp only[Dt,List.map_nil,List.sum_cons,List.sum_nil];omega
 refine bL (λc s w1=>∃i:Nat,i<=l.length/\c=l.length-i/\s=(G.kQ (l.take i),(i:Int),())/\aL w w1) l.length ⟨0,dE _,rfl,rfl,aU.refl _ _⟩ ?_;rintro c s w1 ⟨i,hi,rfl,rfl,k1⟩ X hX;dsimp only;refine aJ (λcC=>?_) (λkC=>?_)
 ·have dJ:i<l.length:=aB;have cQ:=cM dJ;have hEi:=hE _ (mX dJ);have sC:=mM dJ;have hb:=gX i aB;have hw:=h.IS.ok.w1 hEi;generalize l[i]=x at*;obtain⟨p,hp,hc⟩:=bP (k:=.i) (e:=λx=>x) (hr.aK k1 cI λ_ _=>id) cQ;rw[dW];have h1:=h.aO k1;refine⟨⟨aB,cC⟩,aA hp (aE (k:=.i) x hc (aF (λh=>by simp at h) (λ_=>aA rfl (aE (k:=.ptr) (some ⟨t.H.g,0,none⟩) h1.cells.1 ?_))))⟩;refine JM h1.IS (λ_ w2 k2=>?_) (λhn=>absurd hEi hn);refine fF (vs:=[aD (G.fr x),aD (G.to x),aD (G.wt x)]) jP rfl (by simp[Value.oneCell']) λw4 o4 k4 z4=>?_;refine aF (λh=>by simp at h) (λ_=>aE (k:=.i) (G.wt x) (qN o4).2.2 ?_);rw[pP i aB,gZ (n:=G.kQ (l.take i)+G.wt x) aB aB];refine hX _ _ _ aB ⟨i+1,dJ,rfl,?_,(k1.tr k2).tr k4⟩;rw[sC];unfold Gr.kQ;simp
 ·have:i=l.length:=aB;subst this;rw[oI];exact hQ w1 k1
theorem Arcs_i{Q:Sl->aH->Prop}(h:sF w t G)(hQ:∀s w',dD w' iA 4 dU s G.AB->aL w w'->(∀b,s.b=some b->w.heap.size<=b.block)->Q s w'):PB (some ⟨t.t,0,none⟩) w Q:=by
 unfold PB;have hm:=h.IS.ok.m1;refine aF (λh=>by simp at h) (λ_=>aA rfl (aE (k:=.slice) t.nx h.cells.2.1 ?_));have hnl:t.nx.l=G.m:=by obtain⟨ss,h1,h2,_⟩:=h.RS.rd;rw[h1.len,h2];simp[we]
 generalize hg:(λa:Int=>(G.gL a).map λb=>(⟨a,b,G.wt b,-1⟩:bO))=g at*;have hG:G.AB=(kL G.m).flatMap g:=by rw[<-hg];rfl
 have pre:∀a:Nat,a<=G.m->((kL a).flatMap g).length<=2601:=λa ha=>by
  have:=MV g 51 (kL a) λx _=>by rw[<-hg];simp only[oH];have:=G.yP x;omega
  rw[rC] at this;have h2:a*51<=51*51:=PU _ aB;omega
 refine bL (λc s w1=>∃(a:Nat) (o:Sl),a<=G.m/\c=G.m-a/\s=(o,(a:Int),())/\aL w w1/\dD w1 iA 4 dU o ((kL a).flatMap g)/\(∀b,o.b=some b->w.heap.size<=b.block)) G.m
  ⟨0,aZ,dE _,rfl,rfl,aU.refl _ _,dD.nil _ _ _ _,λb hb=>by cases hb⟩ ?_
 rintro c s w1 ⟨a,o,ha,rfl,rfl,k1,v1,f1⟩ X hX;dsimp only;refine aJ (λcC=>?_) (λkC=>?_)
 ·have mU:a<G.m:=aB;obtain⟨_,p,x,hp,hc,hr⟩:=h.RS.rd.get (i:=a) (r:=G.gL (a:Int)) (by simp[we,mU]);rw[dW];refine⟨⟨aB,cC⟩,aA hp (aE (k:=.slice) x (k1.cell hc id) ?_)⟩;have Vd:=G.yP (a:Int);have hnE:∀b∈G.gL (a:Int),G.mH b:=λb hb=>(G.fN.1 (G.tA.1 hb)).2.1;have ug:g (a:Int)=(G.gL (a:Int)).map λb=>(⟨(a:Int),b,G.wt b,-1⟩:bO):=by rw[<-hg]
  generalize G.gL (a:Int)=l at*;have Ak:=hr.len;have tz:=pre a aB;refine bL (λc s w2=>∃(j:Nat) (o:Sl),j<=l.length/\c=l.length-j/\s=(o,(j:Int),())/\aL w w2/\dD w2 iA 4 dU o ((kL a).flatMap g++(l.take j).map λb=>(⟨(a:Int),b,G.wt b,-1⟩:bO))/\(∀b,o.b=some b->w.heap.size<=b.block)) l.length
   ⟨0,o,dE _,rfl,rfl,k1,by simpa using v1,f1⟩ ?_
  clear v1 f1 k1;rintro c s w2 ⟨j,o,hj,rfl,rfl,k2,v2,f2⟩ Y hY;dsimp only;refine aJ (λSF=>?_) (λWa=>?_)
  ·have qP:j<l.length:=aB;have cQ:=cM qP;have hEj:=hnE _ (mX qP);have sC:=mM qP;generalize l[j]=b at*;obtain⟨q,hq,hcq⟩:=bP (k:=.i) (e:=λx=>x) (hr.aK k2 cI λ_ _=>id) cQ;rw[dW];have h2:=h.aO k2;refine⟨⟨aB,SF⟩,aA hq (aE (k:=.i) b hcq (aA rfl (aE (k:=.ptr) (some ⟨t.H.g,0,none⟩) h2.cells.1 ?_)))⟩;refine JQ h2 hEj λad w5 hc5 k5 hb5=>?_;refine aE (k:=.i) (G.wt b) hc5 ?_;refine bD λw6 o6 k6 z6=>?_;have v6:=(v2.aK k5 λ_ _=>id).aK k6 λ_ _=>id;have vx:dD w6 iA 4 dU ⟨some ⟨w5.heap.size,0,none⟩,1,1⟩ [(⟨(a:Int),b,G.wt b,-1⟩:bO)]:=dD.new jJ [_] o6 (by simp[maxLen]);have h56:=k5.tr k6;have hz5:=k5.size;have hz2:=k2.size;have gD:((kL a).flatMap g++(l.take j).map λb=>(⟨(a:Int),b,G.wt b,-1⟩:bO)).length<=3000:=by rw[fJ,oH,sM];omega
   refine fH jQ jJ Cq v6 (vx.rd jJ) (by show _+1<=_;omega) (by show(_+1)*32<=_;omega) λr w7 v7 m7 f7 _=>?_;have K7:aL w w7:=(k2.tr h56).fresh m7 λk ⟨b',bR,e⟩=>by rw[e];exact f2 b' bR
   rw[pP j aB];refine hY _ _ _ aB ⟨j+1,r,qP,rfl,rfl,K7,?_,λb' bR=>?_⟩
   ·rw[sC,wQ,<-sL];exact v7
   ·rcases f7 with h1|⟨a',mU,GM⟩
    ·exact f2 b' (by rw[<-h1];exact bR)
    ·rw[bR] at mU;cases mU;omega
  ·have ej:j=l.length:=aB;subst ej;rw[oI,<-ug] at v2;rw[pP a aB];exact hX _ _ _ aB ⟨a+1,o,mU,rfl,rfl,k2,by rw[xB,GK];simpa using v2,f2⟩
 ·have:a=G.m:=aB;subst this;exact hQ o w1 (by rw[hG];exact v1) k1 f1
end
end
section
abbrev eH(h:MH):List Value:=[aD h.cls,aD h.jV,aD h.oK,aD h.left]
abbrev Rm(h:MH):Int×Int×Int×Int×Unit:=(h.cls,h.jV,h.oK,h.left,())
theorem oneH(h:MH):∀u∈eH h,u.oneCell'=true:=by intro u hu;simp at hu;rcases hu with rfl|rfl|rfl|rfl<;>rfl
theorem Nq{w:aH}{b:Nat}{e:TypeId}{h:MH}(o:cU w b e (eH h)):bQ w ⟨b,0,none⟩ 0 (qT [.i,.i,.i,.i] (Rm h)):=iM o
theorem Xp{G:Gr}:∀{l:List Int} {a:Int},G.BX a l=true->∀x∈l,G.mH x
 | [],_,_,_,hx=>by cases hx
 |y::l,a,h,x,hx=>by
  simp only[Gr.BX,sV] at h;rcases jO.1 hx with rfl|hx
  ·exact(Gr.fN.1 h.1).2.1
  ·exact Xp h.2 x hx
theorem Hl{G:Gr}(ok:sS G){l:List Int}(hE:∀x∈l,G.mH x):0<=G.kQ l/\G.kQ l<=40*l.length:=by
 induction l with
 |nil=>simp[Gr.kQ]
 |cons x l ih=>have h1:=ih λy hy=>hE y (by simp[hy]);have h2:=ok.w1 (hE x dN);rw[Gr.ZI];simp only[mE];omega
theorem wsum_take{G:Gr}{l:List Int}{i:Nat}{x:Int}(h:l[i]? =some x):G.kQ (l.take (i+1))=G.kQ (l.take i)+G.wt x:=by
 obtain⟨hi,hx⟩:=eQ.1 h;rw[mM hi,hx];unfold Gr.kQ;rw[wQ,List.sum_append];simp
section
variable{w:aH}{t:Mb}{G:Gr}
theorem May_i{a b:Int}{Q:Bool->aH->Prop}(h:sF w t G)(ht:G.sJ a b=true)(hQ:∀w',aL w w'->Q true w'):XF (some ⟨t.t,0,none⟩) a b w Q:=by
 unfold XF;obtain⟨ha,hb,uk,hn⟩:=Gr.fN.1 ht;refine aF (λh=>by simp at h) (λ_=>aA rfl (aE (k:=.ptr) (some ⟨t.H.g,0,none⟩) h.cells.1 ?_));refine JM h.IS (λ_ w1 k1=>?_) (λhn=>absurd ha hn);refine fF (vs:=[aD (G.fr a),aD (G.to a),aD (G.wt a)]) jP rfl (by simp[Value.oneCell']) λw3 o3 k3 z3=>?_;have h3:=(h.aO k1).aO k3;refine aA rfl (aE (k:=.ptr) (some ⟨t.H.g,0,none⟩) h3.cells.1 ?_);refine JM h3.IS (λ_ w4 k4=>?_) (λhn=>absurd hb hn);refine fF (vs:=[aD (G.fr b),aD (G.to b),aD (G.wt b)]) jP rfl (by simp[Value.oneCell']) λw6 o6 k6 z6=>?_;refine aF (λ_=>aF (λ_=>?_) (λh=>by simp at h)) (λh=>by simp at h);refine aE (k:=.i) (G.to a) (qN ((o3.aK k4 id).aK k6 id)).2.1 (aE (k:=.i) (G.fr b) (qN o6).1 ?_);have h6:=(h3.aO k4).aO k6;refine aF (λ_=>?_) (λh=>by rw[uk] at h;simp at h);refine aA rfl (aE (k:=.ptr) (some ⟨t.H.g,0,none⟩) h6.cells.1 (Zm h6.IS λw7 k7=>?_));rw[decide_eq_false hn];exact hQ w7 ((((k1.tr k3).tr k4).tr k6).tr k7)
theorem Valid_i{e:Int}{es:Sl}{l:List Int}{Q:Bool->aH->Prop}(h:sF w t G)(he:G.mH e)(hw:G.BX e l=true)(hr:Rd w es 1 eI l)(hl:l.length<=100000)(hQ:∀w',aL w w'->Q true w'):AH (some ⟨t.t,0,none⟩) e es w Q:=by
 unfold AH;have ub:=hr.len;refine aF (λh=>by simp at h) (λ_=>aJ (λh=>aB) (λ_=>aA rfl (aE (k:=.ptr) (some ⟨t.H.g,0,none⟩) h.cells.1 (tQ h.IS (aJ (λh=>aB) (λ_=>?_))))));refine bL (λc s w1=>∃(i:Nat) (a:Int),i<=l.length/\c=l.length-i/\s=(a,(i:Int),())/\aL w w1/\G.BX a (l.drop i)=true) l.length ⟨0,e,dE _,rfl,rfl,aU.refl _ _,by simpa using hw⟩ ?_;rintro c s w1 ⟨i,a,hi,rfl,rfl,k1,hwa⟩ X hX;dsimp only;refine aJ (λcC=>?_) (λkC=>hQ w1 k1);have dJ:i<l.length:=aB;have cQ:=cM dJ;rw[ly4 dJ] at hwa;generalize l[i]=x at*;simp only[Gr.BX,sV] at hwa;obtain⟨p,hp,hc⟩:=bP (k:=.i) (e:=λx=>x) (hr.aK k1 cI λ_ _=>id) cQ;rw[dW];refine⟨⟨aB,cC⟩,aA hp (aE (k:=.i) x hc (May_i (h.aO k1) hwa.1 λw3 k3=>?_))⟩;refine aF (λh=>by simp at h) (λ_=>?_);rw[pP i aB];exact hX _ _ _ aB ⟨i+1,x,dJ,rfl,rfl,k1.tr k3,hwa.2⟩
theorem ghint_i{a:Int}{es:Sl}{l:List Int}{Q:(xp)->Int->aH->Prop}(h:sF w t G)(ha:G.mH a)(hw:G.BX a l=true)(hr:Rd w es 1 eI l)(hl:l.length<=100000)(hQ:∀n w',aL w w'->Q (Rm (G.eR a l)) n w'):
  AR (some ⟨t.t,0,none⟩) a es w Q:=by
 unfold AR;have ok:=h.IS.ok;have hE:=Xp hw;have ub:=hr.len;have lit:∀k,((⟨w.heap.size,0,none⟩:Addr).add k)=⟨w.heap.size,k,none⟩:=λk=>by rw[aS,gI]
 refine bD λw1 o1 k1 z1=>?_;have PM:cU w1 w.heap.size Gn (eH ⟨0,0,0,0⟩):=o1;refine Yy (h.aO k1) (hr.aK k1 cI λ_ _=>id) hl hE λw2 k2=>?_;rw[lit 0,lit 1,lit 2,lit 3];refine cH (o:=3) (v:=aD (G.kQ l)) (PM.aK k2 id) cZ dN rfl rfl λw3 o3 m3 z3=>?_;have up:∀{wx wy:aH},aL w wx->aU (λk=>k=w.heap.size) wx wy->aL w wy:=λkx m=>kx.fresh m λk e=>by rw[show k=w.heap.size from e];exact dL _
 have K3:=up (k1.tr k2) m3;have o3':cU w3 w.heap.size Gn (eH ⟨0,0,0,G.kQ l⟩):=o3;have dQ:∀w4 (f:MH) n,cU w4 w.heap.size Gn (eH f)->aL w w4->f=G.eR a l->eV [.i,.i,.i,.i] w4 ⟨w.heap.size,0,none⟩ λ(t2:Int×Int×Int×Int×Unit)=>
   aI prog Gn ⟨w.heap.size,0,none⟩ (Value.agg #[(aD t2.1),(aD t2.2.1),(aD t2.2.2.1),(aD t2.2.2.2.1)]) w4 λw9=>eV [.i,.i,.i,.i] w9 ⟨w.heap.size,0,none⟩ λ(t3:Int×Int×Int×Int×Unit)=>Q (t3.1,t3.2.1,t3.2.2.1,t3.2.2.2.1,()) n w9:=by
  intro w4 f n o4 k4 hf;refine aX (l:=[.i,.i,.i,.i]) (Rm f) (Nq o4) ?_;refine eY (vs:=eH f) o4 BE rfl (oneH f) λw5 o5 m5 _=>?_;refine aX (l:=[.i,.i,.i,.i]) (Rm f) (Nq o5) ?_;rw[hf];exact hQ n w5 (up k4 m5)
 refine bL (λc s w4=>∃(i:Nat) (b:Int),i<=l.length/\c=l.length-i/\s=(b,(i:Int),())/\aL w w4/\G.mH b/\G.BX b (l.drop i)=true/\cU w4 w.heap.size Gn (eH ⟨0,0,G.kQ (l.take i),G.kQ l⟩)/\
  G.kF a l=((G.kF b (l.drop i)).1,(G.kF b (l.drop i)).2.1,G.kQ (l.take i)+(G.kF b (l.drop i)).2.2)) l.length ⟨0,a,dE _,rfl,rfl,K3,ha,by simpa using hw,o3',by simp[Gr.kQ]⟩ ?_
 rintro c s w4 ⟨i,b,hi,rfl,rfl,k4,hb,hwb,o4,hh⟩ X hX;dsimp only;have h4:=h.aO k4;refine aJ (λcC=>?_) (λkC=>?_)
 ·have dJ:i<l.length:=aB;have cQ:=cM dJ;have wu:=wsum_take (G:=G) cQ;have hrng:=Hl ok (l:=l.take i) λx hx=>hE x (List.mem_of_mem_take hx);have GM:(l.take i).length=i:=by rw[sM];omega
  rw[ly4 dJ] at hwb hh;generalize l[i]=x at*;simp only[Gr.BX,sV] at hwb;have hxE:=(Gr.fN.1 hwb.1).2.1;have hwx:=ok.w1 hxE;obtain⟨p,hp,hc⟩:=bP (k:=.i) (e:=λx=>x) (hr.aK k4 cI λ_ _=>id) cQ;rw[dW];refine⟨⟨aB,cC⟩,aA hp (aE (k:=.i) x hc (Next_i h4 λs1 w5 v5 k5 _=>?_))⟩;have h5:=h4.aO k5;have o5:=o4.aK k5 id;have sl:=v5.len;refine aF (λgK=>?_) (λheq=>?_)
  ·have YS:(G.gL b).length≠1:=by
    intro e;rw[sl,e] at gK;simp at gK
   rw[show G.kF b (x::l.drop (i+1))=(G.Rt b x,x,0) by simp only[Gr.kF];rw[if_pos YS]] at hh;refine aA rfl (aE (k:=.ptr) (some ⟨t.H.g,0,none⟩) h5.cells.1 (Of_i h5.IS hb hxE λw6 k6=>?_));refine cH (o:=0) (v:=aD (G.Rt b x)) (o5.aK k6 id) cZ dN rfl rfl λw7 o7 m7 _=>?_;refine cH (o:=1) (v:=aD x) o7 cZ dN rfl rfl λw8 o8 m8 _=>?_;refine dQ w8 ⟨G.Rt b x,x,G.kQ (l.take i),G.kQ l⟩ i o8 (up (up ((k4.tr k5).tr k6) m7) m8) ?_;unfold Gr.eR;rw[hh];simp
  ·have Rj:(G.gL b).length=1:=by rw[sl] at heq;simp at heq;omega
   rw[show G.kF b (x::l.drop (i+1))=((G.kF x (l.drop (i+1))).1,(G.kF x (l.drop (i+1))).2.1,G.wt x+(G.kF x (l.drop (i+1))).2.2) by rw[Gr.kF,if_neg (by simp[Rj])]] at hh;refine aA rfl (aE (k:=.ptr) (some ⟨t.H.g,0,none⟩) h5.cells.1 (JQ h5 hxE λa5 eE c12 GA _=>?_));have Ds:=o5.aK GA id;have c2:eE.cell? ⟨w.heap.size,2,none⟩=some (aD (G.kQ (l.take i))):=by rw[Ds.cell];rfl
   refine aE (k:=.i) _ c2 (aE (k:=.i) (G.wt x) c12 ?_);rw[gZ (n:=G.kQ (l.take i)+G.wt x) aB aB,pP i aB];refine cH (o:=2) (v:=aD (G.kQ (l.take i)+G.wt x)) Ds cZ dN rfl rfl λgT o13 iu _=>?_;refine hX _ _ _ aB ⟨i+1,x,dJ,rfl,rfl,up ((k4.tr k5).tr GA) iu,hxE,hwb.2,?_,?_⟩
   ·rw[wu];exact o13
   ·rw[hh,wu];simp only[Prod.mk.injEq,true_and];omega
 ·have ei:i=l.length:=aB;subst ei;refine cH (o:=0) (v:=aD 9) o4 cZ dN rfl rfl λw7 o7 m7 _=>?_;refine cH (o:=1) (v:=aD (-1)) o7 cZ dN rfl rfl λw8 o8 m8 _=>?_;refine dQ w8 ⟨9,-1,G.kQ (l.take l.length),G.kQ l⟩ _ o8 (up (up k4 m7) m8) ?_;unfold Gr.eR;rw[hh,List.drop_length];simp[Gr.kF]
theorem Hint_i{a:Int}{es:Sl}{l:List Int}{Q:(xp)->Bool->aH->Prop}(h:sF w t G)(ha:G.mH a)(hw:G.BX a l=true)(hr:Rd w es 1 eI l)(hl:l.length<=100000)(hQ:∀w',aL w w'->Q (Rm (G.eR a l)) true w'):
  vV (some ⟨t.t,0,none⟩) a es w Q:=by
 unfold vV;refine bD λw1 o1 k1 z1=>?_;have PM:cU w1 w.heap.size Gn (eH ⟨0,0,0,0⟩):=o1;refine Valid_i (h.aO k1) ha hw (hr.aK k1 cI λ_ _=>id) hl λw2 k2=>?_;refine aF (λh=>by simp at h) (λ_=>?_);have K2:=k1.tr k2;refine ghint_i (h.aO K2) ha hw (hr.aK K2 cI λ_ _=>id) hl λn w4 k4=>?_;refine fF (vs:=eH (G.eR a l)) BE rfl (oneH _) λw6 o6 k6 _=>?_;refine aX (l:=[.i,.i,.i,.i]) (Rm (G.eR a l)) (Nq o6) ?_;refine eY (vs:=eH (G.eR a l)) (((PM.aK k2 id).aK k4 id).aK k6 id) BE rfl (oneH _) λw7 o7 m7 _=>?_;refine aX (l:=[.i,.i,.i,.i]) (Rm (G.eR a l)) (Nq o7) ?_;exact hQ w7 (((K2.tr k4).tr k6).fresh m7 λk e=>by rw[show k=w.heap.size from e];exact dL _)
end
end
section
abbrev MX:=gV×Sl
abbrev tN(x:MX):List Value:=[aD x.1.kind,aD x.1.pos,aD x.1.JE,sv x.2,aD x.1.kS,aD x.1.eR.cls,aD x.1.eR.jV,aD x.1.eR.oK,aD x.1.eR.left]
abbrev MT:=Int×Int×Int×Sl×Int×Int×Int×Int×Int×Unit
abbrev GJ(x:MX):MT:=(x.1.kind,x.1.pos,x.1.JE,x.2,x.1.kS,x.1.eR.cls,x.1.eR.jV,x.1.eR.oK,x.1.eR.left,())
abbrev fi:List CK:=[.i,.i,.i,.slice,.i,.i,.i,.i,.i]
theorem VW:∀x:MX,(tN x).length=9:=λ_=>rfl
theorem QM:∀x:MX,∀u∈tN x,u.oneCell'=true:=by intro x u hu;simp at hu;rcases hu with rfl|rfl|rfl|rfl|rfl|rfl|rfl|rfl|rfl<;>rfl
theorem Si(x:MX):tN x≠[]:=by simp
theorem cV{w:aH}{g k:Nat}{e:TypeId}{cs:List Value}{v:Value}(h:cU w g e cs)(hk:cs[k]? =some v):w.cell? ((⟨g,0,none⟩:Addr).add k)=some v:=by
 rw[aS,gI,h.cell];exact hk
structure GP(w:aH)(P:Nat->Prop)(x:MX):Prop where
 rd:Rd w x.2 1 eI x.1.cD
 Vh:∀b,x.2.b=some b->P b.block/\b.block<w.heap.size
 len:x.1.cD.length<=51
def fP(w:aH)(P:Nat->Prop)(s:Sl)(l:List gV):Prop:=∃xs:List MX,Rd w s 9 tN xs/\xs.map (·.1)=l/\(∀b,s.b=some b->P b.block/\b.block<w.heap.size)/\∀x∈xs,GP w P x
theorem GP.aK{w w':aH}{P F:Nat->Prop}{x:MX}(h:GP w P x)(m:aU F w w')(hF:∀k,P k->¬F k):GP w' P x:=
 ⟨h.rd.aK m cI λb hb=>hF _ (h.Vh b hb).1,λb hb=>⟨(h.Vh b hb).1,pG (h.Vh b hb).2 m.size⟩,h.len⟩
theorem GP.wk{w:aH}{P P':Nat->Prop}{x:MX}(h:GP w P x)(hP:∀k,P k->k<w.heap.size->P' k):GP w P' x:=
 ⟨h.rd,λb hb=>⟨hP _ (h.Vh b hb).1 (h.Vh b hb).2,(h.Vh b hb).2⟩,h.len⟩
theorem GP.none{w:aH}{P:Nat->Prop}{p:gV}(h:p.cD=[]):GP w P (p,aZ):=
 ⟨by show Rd w _ 1 eI p.cD;rw[h];exact Rd.nil _ _ _,λb hb=>(by cases hb),by show p.cD.length<=51;rw[h];simp⟩
section
variable{w w':aH}{P P' F:Nat->Prop}{s:Sl}{l:List gV}
theorem fP.aK(h:fP w P s l)(m:aU F w w')(hF:∀k,P k->¬F k):fP w' P s l:=by
 obtain⟨xs,h1,h2,h3,h4⟩:=h;exact⟨xs,h1.aK m Si λb hb=>hF _ (h3 b hb).1,h2,λb hb=>⟨(h3 b hb).1,pG (h3 b hb).2 m.size⟩,λx hx=>(h4 x hx).aK m hF⟩
theorem fP.wk(h:fP w P s l)(hP:∀k,P k->k<w.heap.size->P' k):fP w P' s l:=by
 obtain⟨xs,h1,h2,h3,h4⟩:=h;exact⟨xs,h1,h2,λb hb=>⟨hP _ (h3 b hb).1 (h3 b hb).2,(h3 b hb).2⟩,λx hx=>(h4 x hx).wk hP⟩
theorem fP.aO(h:fP w P s l)(k:aL w w'):fP w' P s l:=h.aK k λ_ _=>id
theorem fP.nil:fP w P aZ []:=⟨[],Rd.nil _ _ _,rfl,λb hb=>(by cases hb),by simp⟩
theorem fP.len(h:fP w P s l):s.l=l.length:=by
 obtain⟨xs,h1,h2,_⟩:=h;rw[h1.len,<-h2,oH]
theorem fP.one{g:Nat}{x:MX}(o:cU w g mV (tN x))(hx:GP w P x)(hg:P g):fP w P ⟨some ⟨g,0,none⟩,1,1⟩ [x.1]:=
 ⟨[x],(dD.new VW [x] (by simpa using o) (by simp[maxLen])).rd VW,rfl,λb hb=>by cases hb;exact⟨hg,o.lt⟩,by simpa using hx⟩
theorem fP.get(h:fP w P s l){i:Nat}{p:gV}(hp:l[i]? =some p):∃a sl,s.b=some a/\GP w P (p,sl)/\bQ w (a.add (i*9)) 0 (qT fi (GJ (p,sl)))/\∀k v,(tN (p,sl))[k]? =some v->w.cell? ((a.add (i*9)).add k)=some v:=by
 obtain⟨xs,h1,h2,h3,h4⟩:=h;rw[<-h2,oM] at hp;cases hx:xs[i]? with
 |none=>rw[hx] at hp;cases hp
 |some x=>rw[hx] at hp;obtain⟨p',sl⟩:=x;cases hp;obtain⟨a,ha,hh⟩:=h1.get i _ hx;exact⟨a,sl,ha,h4 _ (lD hx),hh,λk v hv=>by have:=iB.1 hh k v hv;rwa[gI] at this⟩
theorem Hv{g:Nat}{x:MX}{K:Sl->aH->Prop}(o:cU w g mV (tN x))(hx:GP w (λk=>P k/\k≠g) x)(hg:P g)(hn:∀k,w.heap.size<=k->P k)(hs:fP w (λk=>P k/\k≠g) s l)(hl:l.length<=10)
  (hK:∀r w',fP w' P r (x.1::l)->aU (λk=>k=g) w w'->K r w'):aW prog ux ux ⟨some ⟨g,0,none⟩,1,1⟩ (Value.slice s.b s.l s.c) w K:=by
 obtain⟨xs,h1,h2,h3,h4⟩:=hs;have Ak:xs.length=l.length:=by rw[<-h2,oH]
 refine fH ZP VW QM (dD.new VW [x] (by simpa using o) (by simp[maxLen])) h1 (by simp;omega) (by simp;omega) λr w' hr hm Va hrn=>?_;have m:aU (λk=>k=g) w w':=hm.mono λk _ ⟨a,ha,hk⟩=>by cases ha;exact hk
 refine hK r w' ⟨[x]++xs,hr.rd VW,by rw[wQ,h2];rfl,λb hb=>⟨?_,hr.lt hb⟩,λy hy=>?_⟩ m
 ·rcases Va with e|⟨a,ha,LK⟩
  ·rw[hb] at e;cases e;exact hg
  ·rw[hb] at ha;cases ha;exact hn _ LK
 ·have Dw:GP w (λk=>P k/\k≠g) y:=by
   rcases kE.1 hy with hy|hy
   ·rw[oG.1 hy];exact hx
   ·exact h4 y hy
  exact(Dw.aK m λk hk e=>hk.2 e).wk λk hk _=>hk.1
end
end
theorem TF:prog.underlying 341=some (.map 3 41):=iT
theorem unWait:prog.underlying 358=some (.map 3 378):=iT
theorem OH:prog.underlying 164=some (.map 3 102):=iT
theorem unLost:prog.underlying 98=some (.map 102 4):=iT
abbrev knW:oL:=.agg [.int .i64,.int .i64]
abbrev UN:oL:=.c .slice
abbrev qW:oL:=.c .ptr
abbrev Ng:oL:=.c .bool
theorem TO:(prog.info? 41).map (·.zero)=some (some (UN.aY (aZ:Sl))):=iT
theorem EF:(prog.info? 102).map (·.zero)=some (some (qW.aY (none:cR))):=iT
theorem bG.kp{A:As}[bG A]{w w':aH}{S:BS}(h:A w S)(k:aL w w'):A w' S:=bG.aK h k λ_ _=>id
theorem bG.dr{A:As}[bG A]{w:aH}{S:BS}(h:A w S):A w.drew S:=bG.aK h (aU.drew (aU.refl (λ_=>False) w)) λ_ _=>id
theorem bY(w:aH):aL w w.drew:=aU.drew (aU.refl _ w)
theorem aP{g:Nat}{e:TypeId}{cs:List Value}{w:aH}{S:BS}{k:Nat}{v:Value}(h:uL g e cs w S)(hk:cs[k]? =some v):w.cell? ((⟨g,0,none⟩:Addr).add k)=some v:=cV h.1 hk
theorem qY{t e:TypeId}{g o:Nat}{cs:List Value}{v:Value}{w:aH}{S:BS}{K:aH->Prop}(h:uL g e cs w S)(hi:(prog.info? t).map (·.size)=some 1)(ho:o<cs.length)(hc:v.cells=#[v])(h1:v.oneCell'=true)
  (hK:∀w',uL g e (cs.set o v) w' S->Up S S w w'->K w'):aI prog t ((⟨g,0,none⟩:Addr).add o) v w K:=by
 rw[aS,gI];exact cH h.1 hi ho hc h1 λw' o m _=>hK w' (h.up o m).1 (h.up o m).2
theorem cO{cs:List Value}{t:TypeId}{w:aH}{K:Addr->aH->Prop}(h:∀w',uL w.heap.size t cs w' (λk=>k=w.heap.size)->aL w w'->w'.heap.size=w.heap.size+1->K ⟨w.heap.size,0,none⟩ w'):aG w cs.toArray t K:=
 bD λw' o k z=>h w' ⟨o,λ_=>Iff.rfl⟩ k z
theorem zf{α:Type}{t e:TypeId}{n bytes:Nat}{z:List Value}(hE:sY prog t e n bytes z){aY:α->List Value}(gE:∀x,(aY x).length=n)(jB:∀x,∀u∈aY x,u.oneCell'=true)
  {w:aH} {S:BS} {s x:Sl} {xs ys:List α} (h:Rv e n aY s xs w S) (hx:Rd w x n aY ys) (hl:xs.length+ys.length<=1000000) (hb:bytes<=1000) {K:Sl->aH->Prop}
  (hK:∀r w' S',Rv e n aY r (xs++ys) w' S'->Up S S' w w'->K r w'):aW prog t t s (.slice x.b x.l x.c) w K:=by
 have hm:(xs.length+ys.length)*bytes<=1000000*1000:=RX hl hb;refine append_o hE gE jB h.1 hx aB aB λr w' v m hr=>hK r w' _ ⟨v,λ_=>Iff.rfl⟩ ⟨m.mono λk _ hk=>(h.2 k).2 hk,λk hk=>?_⟩;obtain⟨hc,b,hb,rfl⟩:=hk;rcases hr hc with⟨h1,h2⟩|⟨a,h1,h2⟩
 ·exact .inl ((h.2 _).2 ⟨h1,b,h2.symm.trans hb,rfl⟩)
 ·rw[hb] at h1;cases h1;exact .inr h2
theorem mO{α:Type}{e:TypeId}{n:Nat}{aY:α->List Value}(gE:∀x,(aY x).length=n){w:aH}{g:Nat}{cs:List Value}(xs:List α){S:BS}(h:uL g e cs w S)(hc:cs=xs.flatMap aY)(hm:xs.length<=1000000):Rd w ⟨some ⟨g,0,none⟩,xs.length,xs.length⟩ n aY xs:=
 (dD.new gE xs (by rw[<-hc];exact h.1) (by simp only[maxLen];omega)).rd gE
theorem Eg{α:Type}{e:TypeId}{n:Nat}{aY:α->List Value}{w:aH}:Rv e n aY aZ ([]:List α) w (λ_=>False):=⟨(dD.nil _ _ _ _).veo,λk=>⟨False.elim,λh=>h.1 rfl⟩⟩
end Go.Proofs.YtihggjgakbgomaaGreat
namespace Go.Proofs.YtihggjgakbgomaaGreat
open Go Go.Den Go.Proofs
theorem sortsIn(m:Nat):AnyZI.SortsIn Tryz.prog Be Fence.wide m:=
  ⟨λVh off cap ss W hH FF PN=>callsIn_wide.2 (AnyM.slices_Sort_int sortA Vh off cap ss W hH FF PN),
   λp cap W=>callsIn_wide.2 (AnyM.slices_Sort_int_none sortA p cap W)⟩
theorem qn{w w':aH}(h:RowKit.Below w.heap.size w w'):aL w w':=⟨h.os,h.tape,h.output,h.size,λk hk _=>h.block k hk⟩
abbrev Rany:Value->Option (DataW Unit×List MemPlace):=λ_=>some (.nil,[])
def vInt:Value->Int
 | .int _ x=>x
 |_=>0
theorem owns_of{kn:oL}{w:aH}{r n:Nat}{f:Int->Option kn.T}(h:kV w r FA kn f n)(hr:∀x,(f x).isSome=true->-9223372036854775808<=x/\x<=9223372036854775807)(hn:n<=1000000):
  ∃(D:DataW Unit) (ks:List Int),w.ownsMap Tryz.prog 3 Rany r n D/\Maps.size D=n/\(intKeys D).Perm ks/\ks.Nodup/\ks.length=n/\∀x,x∈ks↔(f x).isSome=true:=by
 obtain⟨es,c,l,h1,h2,h3,h4,h5,h6,hB⟩:=h;have hel:es.toList.length=l.length:=by have:=congrArg List.length h2;simpa using this
 have hl:es.size=n:=by rw[<-h6,<-hel,Array.length_toList]
 have hks:∀x,x∈l.map (·.1)↔(f x).isSome=true:=λx=>by rw[h5 x,HE]
 have uC:∀e∈es.toList,∃x:Int,e.key=.int .i64 x/\-9223372036854775808<=x/\x<=9223372036854775807:=λe he=>by
  have:e.key∈es.toList.map (·.key):=List.mem_map_of_mem he;rw[h2] at this;obtain⟨p,hp,Qn⟩:=mD.1 this;have:=hr p.1 ((hks p.1).1 (List.mem_map_of_mem hp));exact⟨p.1,Qn.symm,this.1,this.2⟩
 have u3:Tryz.prog.underlying 3=some (.int .i64):=xx;have BC:∀e∈es.toList,∀x:Int,e.key=.int .i64 x->WideElems.rd Tryz.prog 3 Rany e=some (.int .i64 x,.nil):=λe he x hx=>by
  obtain⟨y,hy,y1,y2⟩:=uC e he;rw[hx] at hy;have hxy:x=y:=by injection hy
  subst hxy;have hw:(Lit.int .i64 x).wf=true:=by
   have m1:IntKind.min .i64=-9223372036854775808:=by decide
   have m2:IntKind.max .i64=9223372036854775807:=by decide
   simp only[Lit.wf,m1,m2,decide_eq_true y1,decide_eq_true y2,Bool.and_self]
  unfold WideElems.rd;simp[keyOf,u3,mapKey,hx,hw]
 refine⟨_,l.map (·.1),⟨es,c,h1,⟨by rw[hl];simp only[maxLen];omega,⟨hB.1,hB.2,by
  rw[h2,show l.map (λp=>FA p.1)=(l.map (·.1)).map FA by rw[List.map_map];rfl];exact List.Pairwise.map _ (λa b uk e=>uk (by injection e)) h4⟩,λe he=>by obtain⟨x,hx,_⟩:=uC e he;exact⟨_,BC e he x hx⟩⟩,aB,rfl⟩,?_,?_,h4,by simpa using h6,hks⟩
 ·show(List.foldr DataW.insert [] _).length=n;rw[(WideShapes.sorted_perm _).length_eq];simpa using hl
 ·show(List.map _ (List.foldr DataW.insert [] _)).Perm _;refine((WideShapes.sorted_perm _).map _).trans ?_;rw[List.map_map];have:es.toList.map ((λp:Lit×DataW Unit=>Go.intOf p.1) ∘ WideElems.rg Tryz.prog 3 Rany)=l.map (·.1):=by
   have e1:es.toList.map ((λp:Lit×DataW Unit=>Go.intOf p.1) ∘ WideElems.rg Tryz.prog 3 Rany)=es.toList.map (λe=>vInt e.key):=by refine List.map_congr_left λe he=>?_;obtain⟨x,hx,_⟩:=uC e he;simp only[Function.comp,WideElems.rg,BC e he x hx,Option.getD_some,Go.intOf,hx,vInt]
   have e2:es.toList.map (λe=>vInt e.key)=(es.toList.map (·.key)).map vInt:=by rw[List.map_map];rfl
   rw[e1,e2,h2,List.map_map];exact List.map_congr_left λp _=>rfl
  rw[this]
theorem yd{w:aH}{nO:Nat}{v:Value}{ks:List Int}(h:w.ownsRow nO dG 1 v ks.length (ks.map encZ)):∃s:Sl,v=.slice s.b s.l s.c/\dD w dG 1 eI s ks/\∀b,s.b=some b->nO<=b.block:=by
 obtain⟨h1,h2⟩:=h;rcases h2 with⟨rfl,h2⟩|⟨g,cap,bI,rfl,hb,hg,h3,h4,h5,h6⟩
 ·have:ks=[]:=Lu h2;subst this;exact⟨⟨none,0,0⟩,rfl,dD.nil _ _ _ _,λb hb=>by cases hb⟩
 ·refine⟨⟨some ⟨g,0,none⟩,ks.length,cap⟩,rfl,⟨rfl,h3,h4,.inr ⟨g,bI.toList.drop (ks.length*1),rfl,?_,?_⟩⟩,λb hb=>by cases hb;omega⟩
  ·have e:ks.flatMap eI=bI.toList.take (ks.length*1):=by
    rw[h6];clear h1 h3 h6
    induction ks with
    |nil=>rfl
    |cons a l ih=>rw[FE,Dt,ih];rfl
   rw[e,Ls];exact hg
  ·have e:ks.flatMap eI=bI.toList.take (ks.length*1):=by
    rw[h6];clear h1 h3 h6
    induction ks with
    |nil=>rfl
    |cons a l ih=>rw[FE,Dt,ih];rfl
   rw[e,Ls,Array.length_toList];exact h5
theorem merge_lt{ss ks:List Int}(h:ss.Perm ks)(hn:ks.Nodup):(ss.mergeSort (λx y=>decide (x<=y))).Pairwise (·<·)/\(ss.mergeSort (λx y=>decide (x<=y))).Perm ks:=by
 have p:=(List.mergeSort_perm ss (λx y:Int=>decide (x<=y))).trans h;have s:(ss.mergeSort (λx y=>decide (x<=y))).Pairwise (λa b=>decide (a<=b)=true):=List.pairwise_mergeSort (λa b c h1 h2=>by simp only[decide_eq_true_eq] at*;omega) (λa b=>by simp only[Bool.or_eq_true,decide_eq_true_eq];omega) ss;have nd:(ss.mergeSort (λx y=>decide (x<=y))).Nodup:=p.nodup_iff.2 hn;refine⟨?_,p⟩;have:=List.Pairwise.and s nd;refine this.imp λ{a b} uk=>?_;have h1:=uk.1;have h2:=uk.2;simp only[decide_eq_true_eq] at h1;omega
theorem SortedB_i{w:aH}{r n:Nat}{f:Int->Option qW.T}{Q:Sl->aH->Prop}(h:kV w r FA qW f n)(hr:∀x,(f x).isSome=true->-9223372036854775808<=x/\x<=9223372036854775807)(hn:n<=1000000)
  (hQ:∀s ks w',dD w' dG 1 eI s ks->aL w w'->(∀b,s.b=some b->w.heap.size<=b.block)->ks.Pairwise (·<·)->(∀x,x∈ks↔(f x).isSome=true)->ks.length=n->Q s w'):
  lH (some r) w λv w1=>kZ v w1 Q:=by
 obtain⟨D,ks,hown,PN,hp,hnd,gD,hks⟩:=owns_of h hr hn;have FW:=hown.lt;have hseq:SeqGives Fence.wide 2 Tryz.prog 121 #[.pointer (some ⟨w.heap.size,0,none⟩)] encZ (λss=>ss.Perm (intKeys D)) (Maps.size D) (w.alloc (.cells #[.map (some r)] 164)):=
  AnyZI.keys_gives (ρ:=Ot) {keysB with} Fence.wide _ trivial rfl aB w.heap.size r n D _ dN dN (by
   obtain⟨es,KV,hb,Ft,hs,hD⟩:=hown;exact⟨es,KV,(RowKit.Below.heap_alloc _ _ r FW).trans hb,Ft,hs,hD⟩)
 have cK:Calls Tryz.prog 68 #[.map (some r)] w λe w'=>e=.returned (.func (.func 121) #[] #[.pointer (some ⟨w.heap.size,0,none⟩)])/\w'=w.alloc (.cells #[.map (some r)] 164):=
  (callsIn_wide (n:=5)).1 (AnyZI.keys_in keysB Fence.wide 5 trivial rfl (some r) w)
 have cS:=(callsIn_wide (n:=5)).1 (AnyZI.sorted_in sortedA Fence.wide 5 trivial trivial trivial trivial rfl aB (sortsIn _) (enters_of Tryz.func120 iT rfl) 121 #[.pointer (some ⟨w.heap.size,0,none⟩)] trivial (enters_of Tryz.func121 iT rfl) _ _ (by rw[PN];simp only[maxLen];omega) (by rw[PN];omega) _ hseq);refine Calls.mono cK ?_;rintro e w' ⟨rfl,rfl⟩;refine⟨_,rfl,?_⟩;show kZ _ _ Q;refine Calls.mono cS ?_;rintro e w2 ⟨v,ss,rfl,hS,qR,hnil,hb⟩;obtain⟨m1,m2⟩:=merge_lt (hS.trans hp) hnd;have jf:(ss.mergeSort (λx y=>decide (x<=y))).length=ss.length:=(List.mergeSort_perm ss _).length_eq;rw[<-jf] at qR;obtain⟨s,rfl,hv,hf⟩:=yd qR;refine⟨_,rfl,?_⟩;show Q ⟨s.b,s.l,s.c⟩ w2;have kk:=qn hb;have ka:aL w (w.alloc (.cells #[.map (some r)] 164)):=aL.alloc w _;exact hQ s _ w2 hv (ka.tr kk) (λb hb=>by have:=hf b hb;simp at this;omega) m1 (λx=>(m2.mem_iff).trans (hks x)) (m2.length_eq.trans gD)
end Go.Proofs.YtihggjgakbgomaaGreat
namespace Go.Proofs.YtihggjgakbgomaaGreat
open Go Go.Den
open Go.IntKind (wrap)
abbrev eU:BitVec 8->List Value:=λb=>[.int .u8 (b.toNat:Int)]
abbrev eUs:Sl×List (BitVec 8)->List Value:=λp=>[.slice p.1.b p.1.l p.1.c]
theorem yq{α:Type}{w:aH}{s:Sl}{aY:α->Value}{xs:List α}(h:Rd w s 1 (λx=>[aY x]) xs)(i:Nat)(x:α)(hx:xs[i]? =some x):∃a,s.b=some a/\w.cell? (a.add (i*1))=some (aY x):=by
 obtain⟨a,ha,hh⟩:=h.get i x hx;exact⟨a,ha,by have:=hh.1;rwa[add_zero] at this⟩
theorem RC{α:Type}(l:List α)(k:Nat)(h:k<l.length):l.take (k+1)=l.take k++[l[k]]:=by
 rw[mM h]
theorem poly_int:(2197175160:Int)=(poly.toNat:Int):=by decide
theorem one_int:(1:Int)=(((1#32).toNat:Nat):Int):=by decide
theorem byte_xor(c:BitVec 32)(b:BitVec 8):oQ .xor .u32 (c.toNat:Int) (wrap .u32 (b.toNat:Int))=(((c^^^b.setWidth 32).toNat:Nat):Int):=by
 have h:wrap .u32 (b.toNat:Int)=(((b.setWidth 32).toNat:Nat):Int):=by rw[IntKind.wrap_u32,BitVec.toNat_setWidth];have:=b.isLt;omega
 rw[h,ZR]
theorem not_sum(c:BitVec 32):oQ .xor .u32 (if IntKind.signed .u32 then-1 else IntKind.max .u32) (c.toNat:Int)=(((~~~ c).toNat:Nat):Int):=by
 have h:(if IntKind.signed .u32 then-1 else IntKind.max .u32)=(((BitVec.allOnes 32).toNat:Nat):Int):=by decide
 rw[h,ZR];rw[BitVec.allOnes_xor]
theorem xorP(c:BitVec 32):oQ .xor .u32 (c.toNat:Int) (2197175160:Int)=(((c^^^poly).toNat:Nat):Int):=by
 rw[poly_int,ZR]
theorem and1(c:BitVec 32):oQ .and .u32 (c.toNat:Int) (1:Int)=if c.getLsbD 0 then 1 else 0:=by
 have:=bitsV_and c 1#32;rw[<-one_int] at this;rw[this,and_one]
theorem YC(ps:List (Sl×List (BitVec 8)))(k:Nat)(h:k<ps.length):(ps.take (k+1)).flatMap (·.2)=(ps.take k).flatMap (·.2)++ps[k].2:=by
 rw[RC _ _ h,GK];simp
theorem Bt{parts:Sl}{w:aH}{ps:List (Sl×List (BitVec 8))}{Q:Int->aH->Prop}(hp:Rd w parts 1 eUs ps)(hb:∀p∈ps,Rd w p.1 1 eU p.2)
  (hn:ps.length<9223372036854775807) (FW:∀p∈ps,p.2.length<9223372036854775807) (hQ:Q ((yJ (ps.flatMap (·.2))).toNat:Int) w):rN parts w Q:=by
 unfold rN;have gD:=hp.len;refine bL (λn t w'=>∃k,k<=ps.length/\n=ps.length-k/\t=(((EA (BitVec.allOnes 32) ((ps.take k).flatMap (·.2))).toNat:Int),(k:Int),())/\w'=w) ps.length
  ⟨0,dE _,rfl,by simp[EA],rfl⟩ ?_
 rintro n t w' ⟨k,hk,rfl,rfl,rfl⟩ X hX;dsimp only;refine aJ (λh=>?_) (λh=>?_)
 ·have lT:k<ps.length:=aB;refine⟨⟨by simp,by simpa using h⟩,?_⟩;obtain⟨a,ha,hc⟩:=yq hp k ps[k] (cM lT);refine aA ha (aE (k:=.slice) ps[k].1 hc ?_);have hr:=hb ps[k] (mX lT);have yL:=hr.len;have hbk:=FW ps[k] (mX lT);refine bL (λn t Nc=>∃j,j<=ps[k].2.length/\n=ps[k].2.length-j/\t=(((EA (EA (BitVec.allOnes 32) ((ps.take k).flatMap (·.2))) (ps[k].2.take j)).toNat:Int),(j:Int),())/\Nc=w') ps[k].2.length
   ⟨0,dE _,rfl,by simp[EA],rfl⟩ ?_
  rintro n t Nc ⟨j,hj,rfl,rfl,rfl⟩ Y hY;dsimp only;refine aJ (λh=>?_) (λh=>?_)
  ·have qP:j<ps[k].2.length:=aB;refine⟨⟨by simp,by simpa using h⟩,?_⟩;obtain⟨a2,ha2,PO⟩:=yq hr j ps[k].2[j] (cM qP);refine aA ha2 (aE (k:=.int .u8) ((ps[k].2[j].toNat:Nat):Int) PO ?_);generalize hc0:EA (EA (BitVec.allOnes 32) ((ps.take k).flatMap (·.2))) (ps[k].2.take j)=c0 at hY ⊢;simp only[byte_xor];refine bL (λn t w3=>∃i,i<=8/\n=8-i/\t=(((QI i (c0^^^ps[k].2[j].setWidth 32)).toNat:Int),(i:Int),())/\w3=Nc) 8
    ⟨0,aB,rfl,by simp[QI],rfl⟩ ?_
   rintro n t w3 ⟨i,hi,rfl,rfl,rfl⟩ Z hZ;dsimp only;refine aJ (λh=>?_) (λh=>?_)
   ·have dJ:i<8:=aB;refine⟨aB,?_⟩;simp only[and1,shift_one,gZ (n:=(i:Int)+1) aB aB];have hs:=Bd i (c0^^^ps[k].2[j].setWidth 32);rw[Zn] at hs;refine aF (λh=>?_) (λh=>?_)
    ·refine hZ (8-(i+1)) _ _ aB ⟨i+1,aB,rfl,?_,rfl⟩;have hl:(QI i (c0^^^ps[k].2[j].setWidth 32)).getLsbD 0=true:=by
      cases hl:(QI i (c0^^^ps[k].2[j].setWidth 32)).getLsbD 0
      ·rw[hl] at h;simp at h
      ·rfl
     rw[hs,if_pos hl,xorP];rfl
    ·refine hZ (8-(i+1)) _ _ aB ⟨i+1,aB,rfl,?_,rfl⟩;have hl:¬(QI i (c0^^^ps[k].2[j].setWidth 32)).getLsbD 0=true:=by
      intro hl;rw[if_pos hl] at h;simp at h
     rw[hs,if_neg hl];rfl
   ·have dJ:i=8:=aB;subst dJ;simp only[gZ (n:=(j:Int)+1) aB aB];refine hY (ps[k].2.length-(j+1)) _ _ aB ⟨j+1,aB,rfl,?_,rfl⟩;rw[RC _ _ qP,qw,hc0];simp[mr]
  ·have qP:j=ps[k].2.length:=aB;subst qP;simp only[gZ (n:=(k:Int)+1) aB aB];refine hX (ps.length-(k+1)) _ _ aB ⟨k+1,aB,rfl,?_,rfl⟩;rw[YC _ _ lT,Tx,oI];simp
 ·have lT:k=ps.length:=aB;subst lT;simp only[not_sum,oI];exact hQ
open Tryz (prog)
section
theorem Rc:∀b:cG,(eU b).length=1:=λ_=>rfl
theorem oneU:∀b:cG,∀u∈eU b,u.oneCell'=true:=by intro b u hu;simp at hu;subst hu;rfl
theorem fQ(b:cG):eU b≠[]:=by simp
theorem pow8(i:Nat):(2:Int)^(8*i)=((256^i:Nat):Int):=by
 rw[show(256:Nat)=2^8 from rfl,<-Nat.pow_mul];norm_cast
theorem shl8{x:Int}{i:Nat}(hi:i<=7):Int.fdiv x (2^(min (Int.toNat (aQ ((8:Int)*(i:Int)))) (IntKind.bits .i64)))=x/((256^i:Nat):Int):=by
 rw[gZ (n:=(8:Int)*(i:Int)) aB aB,show Int.toNat ((8:Int)*(i:Int))=8*i by omega,Nat.min_eq_left (show 8*i<=IntKind.bits .i64 by show 8*i<=64;omega),pow8,Int.fdiv_eq_ediv_of_nonneg _ (Int.natCast_nonneg _)]
theorem wrap_byte{x:Int}(h:0<=x){i:Nat}(hi:i<=7):wrap .u8 (Int.fdiv x (2^(min (Int.toNat (aQ ((8:Int)*(i:Int)))) (IntKind.bits .i64))))=(((BitVec.ofNat 8 (x.toNat/256^i)).toNat:Nat):Int):=by
 rw[shl8 hi,IntKind.wrap_u8,BitVec.toNat_ofNat];obtain⟨n,rfl⟩:∃n:Nat,x=n:=⟨x.toNat,aB⟩;rw[dW,<-Int.natCast_ediv];generalize n/256^i=m;omega
def Ed(g:Nat)(xs:List cG)(sp:Bool):As:=Ex λsl=>bJ (uL g Ek [sv sl,.bool sp]) (Rv Gp 1 eU sl xs)
instance{g:Nat}{xs:List cG}{sp:Bool}:bG (Ed g xs sp):=by unfold Ed;infer_instance
section
variable{w:aH}{S:BS}{g:Nat}{xs:List cG}{sp:Bool}
theorem wr_app{sl x:Sl}{ys:List cG}{K:aH->Prop}(h:bJ (uL g Ek [sv sl,.bool sp]) (Rv Gp 1 eU sl xs) w S)(hx:Rd w x 1 eU ys)(hl:xs.length+ys.length<=1000000)
  (hK:∀w' S',Ed g (xs++ys) sp w' S'->Up S S' w w'->K w'):aW prog CB CB sl (.slice x.b x.l x.c) w λs2 w1=>aI prog CB ((⟨g,0,none⟩:Addr).add 0) (.slice s2.b s2.l s2.c) w1 K:=by
 obtain⟨S2,hv,_,eO⟩:=(bJ.r h).put;refine zf CW Rc oneU hv hx hl aB λr w1 S2' v1 u1=>?_;obtain⟨S1,h1,U1⟩:=eO _ _ _ u1 v1;obtain⟨S3,hb,_,MG⟩:=(bJ.l h1).put;refine qY hb TQ dN rfl rfl λw2 b2 u2=>?_;obtain⟨S4,h4,U4⟩:=MG _ _ _ u2 b2;exact hK w2 S4 ⟨r,h4⟩ (U1.tr U4)
theorem Xo{K:aH->Prop}(h:Ed g xs sp w S)(hK:∀w' S',Ed g xs true w' S'->Up S S' w w'->K w'):aI prog vI ((⟨g,0,none⟩:Addr).add 1) (.bool true) w K:=by
 obtain⟨sl,h⟩:=h;obtain⟨S3,hb,_,MG⟩:=(bJ.l h).put;refine qY hb iX dN rfl rfl λw2 b2 u2=>?_;obtain⟨S4,h4,U4⟩:=MG _ _ _ u2 b2;exact hK w2 S4 ⟨sl,h4⟩ U4
theorem WRaw_i{b:Sl}{bs:List cG}{Q:cR->aH->Prop}(h:Ed g xs sp w S)(hb:Rd w b 1 eU bs)(hl:xs.length+bs.length<=1000000)
  (hQ:∀w' S',Ed g (xs++bs) sp w' S'->Up S S' w w'->Q (some ⟨g,0,none⟩) w'):CS (some ⟨g,0,none⟩) b w Q:=by
 unfold CS;obtain⟨sl,h⟩:=h;obtain⟨S1,h1,_,_⟩:=(bJ.l h).put;exact aF (λ_=>aA rfl (aE (k:=.slice) sl (aP h1 rfl) (wr_app h hb hl hQ))) (λh=>by simp at h)
theorem pj{n:Sl}{ns:List Int}{sz:Nat}{Q:cR->aH->Prop}(h:Ed g xs sp w S)(hs:1<=sz/\sz<=7)(hn:Rd w n 1 eI ns)(hnS:∀b,n.b=some b->¬S b.block/\b.block<w.heap.size)(gD:xs.length+ns.length*7<=900000)
  (hQ:∀Kt vC w' S',Ed g Kt vC w' S'->Up S S' w w'->Kt.length<=xs.length+ns.length*7->((∀x∈ns,0<=x/\x.toNat<256^sz)->vC=sp/\Kt=xs++ns.flatMap λx=>be sz x.toNat)->Q (some ⟨g,0,none⟩) w'):aT (some ⟨g,0,none⟩) (sz:Int) n w Q:=by
 unfold aT;have nl:=hn.len;refine aF (λh=>by simp at h) (λ_=>aJ (λh=>aB) (λ_=>aJ (λh=>aB) (λ_=>?_)));refine bL (λc t w3=>∃(i:Nat) (S3:BS),i<=ns.length/\c=ns.length-i/\t=((i:Int),())/\Ed g (xs++(ns.take i).flatMap λx=>be sz x.toNat) sp w3 S3/\Up S S3 w w3) ns.length ⟨0,S,dE _,rfl,rfl,by simpa using h,Up.refl _ _⟩ ?_;rintro c t w3 ⟨i,S3,hi,rfl,rfl,h3,u3⟩ X hX;dsimp only;have IV:∀l:List Int,(l.flatMap λx=>be sz x.toNat).length=l.length*sz:=λl=>by
  induction l with
  |nil=>simp
  |cons a l ih=>rw[FE,fJ,ih,pH,mE,Nat.add_mul];omega
 have htl:((ns.take i).flatMap λx=>be sz x.toNat).length<=i*7:=by rw[IV,sM,Nat.min_eq_left hi];exact Nat.mul_le_mul_left _ hs.2
 refine aJ (λcC=>?_) (λkC=>?_)
 ·have dJ:i<ns.length:=aB;have cQ:=cM dJ;have gF:=mX dJ;have sC:=mM dJ;generalize ns[i]=x at*;obtain⟨b,hb,cb⟩:=bP (k:=.i) (e:=λx=>x) (hn.aK u3.m cI λb hb=>(hnS b hb).1) cQ;rw[dW,pP i aB];refine⟨⟨aB,cC⟩,aA hb (aE (k:=.i) x cb (aJ (λhx=>aA rfl (Xo h3 λw4 S4 h4 u4=>?_)) (λLj=>⟨by rw[gZ aB aB];omega,?_⟩)))⟩
  ·exact hQ _ _ w4 S4 h4 (u3.tr u4) (by rw[fJ];omega) λhv=>absurd (hv x gF).1 aB
  ·rw[shl8 hs.2];have uB:(0:Int)<((256^sz:Nat):Int):=by have:0<256^sz:=Nat.pow_pos aB;omega
   refine aJ (λhx=>aA rfl (Xo h3 λw4 S4 h4 u4=>?_)) (λOF=>?_)
   ·refine hQ _ _ w4 S4 h4 (u3.tr u4) (by rw[fJ];omega) λhv=>?_;have h1:=hv x gF;have:x/((256^sz:Nat):Int)=0:=Int.ediv_eq_zero_of_lt h1.1 aB;omega
   ·have hx:x.toNat<256^sz:=by
     have h3:x<((256^sz:Nat):Int):=by
      by_cases hh:x<((256^sz:Nat):Int)
      ·exact hh
      ·have:1<=x/((256^sz:Nat):Int):=by rw[Int.le_ediv_iff_mul_le uB];omega
       omega
     omega
    have PN:aQ ((sz:Int)-1)=(sz:Int)-1:=gZ aB aB;rw[PN];refine bL (λc t w6=>∃(j:Nat) (d:List cG) (S6:BS),j<=sz/\c=j/\t=((j:Int)-1,())/\d++be j x.toNat=be sz x.toNat/\Ed g ((xs++(ns.take i).flatMap λx=>be sz x.toNat)++d) sp w6 S6/\Up S S6 w w6) sz ⟨sz,[],S3,dL _,rfl,rfl,rfl,by simpa using h3,u3⟩ ?_;rintro c t w6 ⟨j,d,S6,hj,hcj,rfl,hd,h6,u6⟩ Y hY;dsimp only;have jk:d.length+j=sz:=by have:=congrArg List.length hd;simp only[fJ,pH] at this;exact this
    refine aJ (λhj1=>?_) (λhj1=>?_)
    ·obtain⟨j',rfl⟩:∃j',j=j'+1:=⟨j-1,aB⟩;have e1:((j'+1:Nat):Int)-1=(j':Int):=aB;rw[e1];obtain⟨sl,h6⟩:=h6;have h6d:=bG.dr h6;obtain⟨S7,h7,_,_⟩:=(bJ.l h6d).put;refine aA rfl (aE (k:=.slice) sl (aP h7 rfl) ⟨by rw[gZ aB aB];omega,?_⟩);rw[wrap_byte aB aB];refine cO (cs:=eU (BitVec.ofNat 8 (x.toNat/256^j'))) λw7 b7 k7 z7=>⟨aP (bG.kp h7 k7) rfl,?_⟩;refine wr_app (x:=⟨some ⟨w6.drew.heap.size,0,none⟩,1,1⟩) (bG.kp h6d k7) (mO Rc [_] b7 rfl dN) (by simp only[fJ,mE,RZ];omega) λw8 S8 h8 u8=>?_;refine hY j' _ _ aB ⟨j',d++[BitVec.ofNat 8 (x.toNat/256^j')],S8,aB,rfl,?_,?_,by rw[sL] at h8;exact h8,u6.tr ((Up.aO ((bY w6).tr k7)).tr u8)⟩
     ·rw[gZ aB aB]
     ·rw[sL];exact hd
    ·have hj0:j=0:=aB;subst hj0;simp only[be,uA] at hd;subst hd;refine hX (ns.length-(i+1)) _ _ aB ⟨i+1,S6,aB,rfl,rfl,?_,u6⟩;rw[sC,GK,List.flatMap_singleton,<-sL];exact h6
 ·have ei:i=ns.length:=aB;subst ei;rw[oI] at h3 htl;exact hQ _ _ w3 S3 h3 u3 (by rw[fJ];omega) λ_=>⟨rfl,rfl⟩
end
theorem vR{s:Sl}{xs:List cG}{w:aH}{Q:Sl->aH->Prop}(hs:Rd w s 1 eU xs)(hb:xs.length<=1000000)
  (hQ:∀r w' S',Rv Gp 1 eU r xs w' S'->aL w w'->(∀k,S' k->w.heap.size<=k)->DQ 1 eU r xs w' (λk=>∃b,r.b=some b/\k=b.block)->(∀b,r.b=some b->w.heap.size<=b.block)->Q r w'):cF s w Q:=by
 unfold cF;refine aF (λh=>?_) (λh=>?_)
 ·have hn:xs=[]:=by
   cases xs with
   |nil=>rfl
   |cons x r=>obtain⟨a,ha,_⟩:=hs.get 0 x rfl;rw[ha] at h;simp at h
  subst hn;exact hQ _ w _ Eg (aU.refl _ _) (λk h=>h.elim) ⟨Rd.nil _ _ _,fQ,λb hb=>(by cases hb),λk=>Iff.rfl⟩ λb hb=>by cases hb
 ·refine cO (cs:=[]) λw1 b1 k1 z1=>?_;have hv:dD w1 Gp 1 eU ⟨some ⟨w.heap.size,0,none⟩,0,0⟩ ([]:List cG):=dD.new Rc [] b1.1 (by simp[maxLen]);refine fH CW Rc oneU hv (hs.aK k1 fQ λ_ _=>id) (by simp;omega) (by simp;omega) λr w2 v2 m2 hr _=>?_;have fr:∀b,r.b=some b->w.heap.size<=b.block:=λb hb=>by
   rcases hr with h|⟨a,h,h2⟩
   ·rw[hb] at h;cases h;exact dL _
   ·rw[hb] at h;cases h;omega
  rw[List.nil_append] at v2;exact hQ r w2 _ ⟨v2.veo,λ_=>Iff.rfl⟩ (k1.fresh m2 λk ⟨a,ha,e⟩=>by cases ha;rw[e];exact dL _) (λk ⟨_,b,hb,e⟩=>by rw[e];exact fr b hb) ⟨v2.rd Rc,fQ,λb hb=>v2.lt hb,λ_=>Iff.rfl⟩ fr
theorem zx{w:aH}{S:BS}{g:Nat}{xs:List cG}{sp:Bool}{Q:Sl->Int->aH->Prop}(h:Ed g xs sp w S)(hb:xs.length<=1000000)
  (hQ:∀r w',aL w w'->DQ 1 eU r (if sp then [] else xs) w' (λk=>∃b,r.b=some b/\k=b.block)->(∀b,r.b=some b->w.heap.size<=b.block)->Q r (if sp then 1 else 0) w'):pL (some ⟨g,0,none⟩) w Q:=by
 unfold pL;obtain⟨sl,h⟩:=h;obtain⟨S1,h1,_,_⟩:=(bJ.l h).put;obtain⟨S2,h2,_,_⟩:=(bJ.r h).put;refine aF (λh=>by simp at h) (λ_=>aA rfl (aE (k:=.bool) sp (aP h1 rfl) (aF (λhs=>?_) (λhs=>?_))))
 ·have DB:sp=true:=hs;subst DB;exact hQ aZ w (aU.refl _ _) ⟨Rd.nil _ _ _,fQ,λb hb=>(by cases hb),λ_=>Iff.rfl⟩ λb hb=>by cases hb
 ·have DB:sp=false:=hs;subst DB;exact aA rfl (aE (k:=.slice) sl (aP h1 rfl) (vR (h2.1.rd Rc) hb λr w1 S' _ k1 _ rd fr=>hQ r w1 k1 rd fr))
end
section
def uD(g:Nat)(l:List cG)(sp:Bool):As:=Ex λsl=>bJ (uL g tReader [sv sl,.bool sp]) (DQ 1 eU sl l)
instance{g:Nat}{xs:List cG}{sp:Bool}:bG (uD g xs sp):=by unfold uD;infer_instance
abbrev sU(r:Sl):BS:=λk=>∃b,r.b=some b/\k=b.block
theorem JN{w:aH}:DQ 1 eU aZ [] w (sU aZ):=⟨Rd.nil _ _ _,fQ,λb hb=>(by cases hb),λ_=>Iff.rfl⟩
theorem de_lt:∀(q:List cG) (n j:Nat),n<256^j->de n q<256^(j+q.length):=by
 intro q
 induction q with
 |nil=>intro n j h;simpa [de] using h
 |cons c q ih=>intro n j h;have hc:=c.isLt;have:=ih (n*256+c.toNat) (j+1) (by rw[Nat.pow_succ];omega);rwa[show j+1+q.length=j+(c::q).length by simp only[mE];omega] at this
theorem Pj{b:cR}{c l n:Nat}{a:Addr}(h:aR b c l n=some a):∃a0,b=some a0/\a.block=a0.block:=by
 unfold aR at h
 split at h
 ·exact⟨a,h,rfl⟩
 ·cases b with
  |none=>cases h
  |some x=>cases h;exact⟨x,rfl,by simp⟩
theorem or_byte{n:Nat}{c:cG}(hn:n<256^6):oQ .or .i64 (aQ ((n:Int)*2^(min (Int.toNat (8:Int)) (IntKind.bits .i64)))) (aQ (c.toNat:Int))=((n*256+c.toNat:Nat):Int):=by
 have hc:=c.isLt;have e8:(2:Int)^(min (Int.toNat (8:Int)) (IntKind.bits .i64))=256:=by decide
 rw[e8,gZ aB aB,gZ aB aB];show aQ ((BitVec.ofInt 64 ((n:Int)*256) |||BitVec.ofInt 64 (c.toNat:Int)).toNat:Int)=_;have h1:BitVec.ofInt 64 ((n:Int)*256)=BitVec.ofNat 64 (n*256):=by rw[show(n:Int)*256=((n*256:Nat):Int) by omega,BitVec.ofInt_natCast]
 have h2:BitVec.ofInt 64 (c.toNat:Int)=BitVec.ofNat 64 c.toNat:=BitVec.ofInt_natCast ..;rw[h1,h2,BitVec.toNat_or,BitVec.toNat_ofNat,BitVec.toNat_ofNat,Nat.mod_eq_of_lt aB,Nat.mod_eq_of_lt aB];have:=Nat.shiftLeft_add_eq_or_of_lt (i:=8) (b:=c.toNat) aB n;rw[Nat.shiftLeft_eq,show(2:Nat)^8=256 from rfl] at this;rw[<-this];exact gZ aB aB
section
variable{w:aH}{S:BS}{g:Nat}{l:List cG}{sp:Bool}
theorem Ol{K:aH->Prop}(h:uD g l sp w S)(hK:∀w',uD g l true w' S->Up S S w w'->K w'):aI prog vI ((⟨g,0,none⟩:Addr).add 1) (.bool true) w K:=by
 obtain⟨sl,S1,S2,h1,h2,d,e⟩:=h;refine qY h1 iX dN rfl rfl λw2 b2 u2=>?_;exact hK w2 ⟨sl,S1,S2,b2,bG.aK h2 u2.m λk hk lT=>d k lT hk,d,e⟩ (Up.at (u2.m.mono λk _ hk=>(e k).2 (.inl hk)))
theorem ou{n:Int}{Q:Sl->aH->Prop}(h:uD g l sp w S)(hl:l.length<=100000)
  (hQ:∀r out l' vC w' S',uD g l' vC w' S'->(∀k,S' k->S k)->Up S S' w w'->DQ 1 eU r out w' (sU r)->(∀b,r.b=some b->w.heap.size<=b.block)->l'.length<=l.length->out.length<=l.length->(out.length:Int)<=max n 0->
   (∀a t,sp=false->l=a++t->n=a.length->out=a/\l'=t/\vC=false)->Q r w'):yT (some ⟨g,0,none⟩) n w Q:=by
 unfold yT;have h0:=h;obtain⟨sl,S1,S2,h1,h2,d,e⟩:=h;have ll:=h2.1.len;refine aF (λh=>by simp at h) (λ_=>aA rfl (aE (k:=.bool) sp (aP h1 rfl) (aF (λhs=>?_) (λhs=>?_))))
 ·have DB:sp=true:=hs;exact hQ _ [] l sp w S h0 (λ_=>id) (Up.refl _ _) JN (λb hb=>by cases hb) (dL _) (dE _) (by simp;omega) λa t hf=>by rw[DB] at hf;cases hf
 have DB:sp=false:=hs;refine aJ (λhn=>aA rfl (Ol h0 λw1 h1 u1=>?_)) (λhn=>aA rfl (aE (k:=.slice) sl (aP h1 rfl) (aJ (λhn2=>aA rfl (Ol h0 λw1 h1 u1=>?_)) (λhn2=>?_))))
 ·exact hQ _ [] l true w1 S h1 (λ_=>id) u1 JN (λb hb=>by cases hb) (dL _) (dE _) (by simp;omega) λa t _ _ ha=>aB
 ·refine hQ _ [] l true w1 S h1 (λ_=>id) u1 JN (λb hb=>by cases hb) (dL _) (dE _) (by simp;omega) λa t _ ha hb=>?_;have:=congrArg List.length ha;rw[fJ] at this;omega
 obtain⟨m,rfl⟩:∃m:Nat,n=m:=⟨n.toNat,aB⟩;have Rl:=h2.1.cap;refine aA rfl (aE (k:=.slice) sl (aP h1 rfl) ⟨⟨aB,aB⟩,?_⟩);rw[dW];have hp:=h2.1.part (i:=0) (j:=m) (c:=sl.c) (dE _) aB aB (dL _);rw[List.drop_zero,Nat.sub_zero] at hp;refine vR (xs:=l.take m) (by simpa using hp) (by rw[sM];omega) λr w1 S3 v1 k1 f3 rd fr=>?_;have h1':=bG.kp h1 k1;refine aA rfl (aE (k:=.slice) sl (aP h1' rfl) ⟨⟨aB,aB⟩,aA rfl ?_⟩)
 let UJ:Sl:=⟨aR sl.b sl.c m 1,sl.l-m,sl.c-m⟩
 refine qY (v:=sv UJ) h1' TQ dN rfl rfl λw2 b2 u2=>?_;have h2':=bG.aK (bG.kp h2 k1) u2.m λk hk lT=>d k lT hk;have hq:=h2'.1.part (i:=m) (j:=sl.l) (c:=sl.c) aB (dL _) aB (dL _);have jk:(l.drop m).take (sl.l-m)=l.drop m:=ly6 (by rw[iv];omega);rw[jk] at hq;have hS:∀k,sU UJ k->S2 k:=λk ⟨b,hb,e2⟩=>by
  obtain⟨a0,ha0,eb⟩:=Pj hb;exact(h2.2.2.2 k).2 ⟨a0,ha0,by rw[e2,eb]⟩
 have hR:DQ 1 eU UJ (l.drop m) w2 (sU UJ):=⟨hq,fQ,λb hb=>bG.gX h2' _ (hS _ ⟨b,hb,rfl⟩),λ_=>Iff.rfl⟩;refine hQ r (l.take m) (l.drop m) sp w2 (λk=>S1 k\/sU UJ k) ⟨UJ,S1,_,b2,hR,λk hk lT=>d k hk (hS k lT),λ_=>Iff.rfl⟩ (λk hk=>(e k).2 (hk.imp id (hS k))) ⟨(k1.wk.trans u2.m λk _ hk=>(e k).2 (.inl hk)),λk hk=>.inl ((e k).2 (hk.imp id (hS k)))⟩
  ?_ fr dN (by rw[sM];omega) (by rw[sM];omega) λa t _ ha hb=>?_
 ·refine bG.aK rd u2.m λk ⟨b,hb,e2⟩ lT=>?_;have:=fr b hb;have:=bG.gX h1 k lT;omega
 ·have hm:m=a.length:=aB;rw[ha,hm,List.take_left,List.drop_left];exact⟨rfl,rfl,DB⟩
theorem Sq{sz:Nat}{Q:Int->aH->Prop}(h:uD g l sp w S)(hs:1<=sz/\sz<=7)(hl:l.length<=100000)
  (hQ:∀(x:Nat) l' vC w' S',uD g l' vC w' S'->(∀k,S' k->S k)->Up S S' w w'->l'.length<=l.length->x<256^sz->(∀v t,sp=false->l=be sz v++t->v<256^sz->x=v/\l'=t/\vC=false)->Q (x:Int) w'):gA (some ⟨g,0,none⟩) (sz:Int) w Q:=by
 unfold gA;intro J1 OG;refine aJ (λh=>aB) (λ_=>aJ (λh=>aB) (λ_=>OG _ _ ?_));refine ou h hl λr out l' vC w1 S1 h1 xS u1 rd fr Ni jf hn hw=>?_;have hol:out.length<=sz:=aB;have rl:=rd.1.len;refine bL (λc t w2=>∃i:Nat,i<=out.length/\c=out.length-i/\t=(((de 0 (out.take i):Nat):Int),(i:Int),())/\w2=w1) out.length ⟨0,dE _,rfl,rfl,rfl⟩ ?_;rintro c t w2 ⟨i,hi,rfl,rfl,rfl⟩ X hX;dsimp only;refine aJ (λcC=>?_) (λkC=>?_)
 ·have dJ:i<out.length:=aB;have cQ:=cM dJ;have sC:=mM dJ;have LK:de 0 (out.take i)<256^6:=
   pG (de_lt (out.take i) 0 0 dN) (Nat.pow_le_pow_right aB (by rw[sM];omega))
  generalize out[i]=x at*;obtain⟨q,hq,hc⟩:=bP (k:=.int .u8) (e:=λb:cG=>(b.toNat:Int)) rd.1 cQ;rw[dW];refine⟨⟨aB,cC⟩,aA hq (aE (k:=.int .u8) _ hc ⟨aB,?_⟩)⟩;rw[or_byte LK,pP i aB];refine hX _ _ _ aB ⟨i+1,dJ,rfl,?_,rfl⟩;rw[sC];have:de 0 (out.take i++[x])=de 0 (out.take i)*256+x.toNat:=by unfold de;rw[List.foldl_append];rfl
  rw[this]
 ·have ei:i=out.length:=aB;subst ei;rw[oI];have hd:=de_lt out 0 0 dN;refine hQ _ l' vC w2 S1 h1 xS u1 Ni (pG hd (Nat.pow_le_pow_right aB aB)) λv t hsp hlv hv=>?_;obtain⟨e1,e2,e3⟩:=hw _ t hsp hlv (by rw[pH]);rw[e1,de_be sz 0 v hv];exact⟨aB,e2,e3⟩
theorem zo{Q:Int->aH->Prop}(h:uD g l sp w S)(hQ:∀x:Nat,(sp=false->x=l.length)->x<=l.length->Q (x:Int) w):HV (some ⟨g,0,none⟩) w Q:=by
 unfold HV;obtain⟨sl,S1,S2,h1,h2,d,e⟩:=h;refine aF (λh=>by simp at h) (λ_=>aA rfl (aE (k:=.bool) sp (aP h1 rfl) (aF (λhs=>?_) (λhs=>aA rfl (aE (k:=.slice) sl (aP h1 rfl) ?_)))))
 ·have DB:sp=true:=hs;exact hQ 0 (λh=>by rw[DB] at h;cases h) (dE _)
 ·rw[h2.1.len];exact hQ l.length (λ_=>rfl) (dL _)
end
theorem ot{b:Sl}{bs:List cG}{w:aH}{Q:cR->aH->Prop}(hb:Rd w b 1 eU bs)(hl:bs.length<=100000)(hQ:∀g w' S',uD g bs false w' S'->aL w w'->(∀k,S' k->w.heap.size<=k)->Q (some ⟨g,0,none⟩) w'):pX b w Q:=by
 unfold pX;refine vR hb aB λr w1 S1 _ k1 _ rd fr=>?_;have z1:=k1.size;refine cO (cs:=[sv r,.bool false]) λw2 b2 k2 z2=>?_;refine hQ _ w2 _ ⟨r,bJ.xR b2 (bG.kp rd k2) λk hk ⟨b,hb,e⟩=>?_⟩ (k1.tr k2) λk hk=>hk.elim (λh=>aB) λ⟨b,hb,e⟩=>by have:=fr b hb;omega
 have:=rd.2.2.1 b hb;omega
def strB(xs:List cG):ByteArray:=(xs.map λb=>(b.toNat:Int)).foldl (λr n=>r.push (UInt8.ofNat n.toNat)) ByteArray.empty
theorem Ys{P:Program}{t e d:TypeId}(hs:P.underlying t=some (.slice e))(he:P.underlying e=some (.int .u8))(hd:P.underlying d=some .string){w:aH}{s:Sl}{xs:List cG}(hr:Rd w s 1 eU xs){K:ByteArray->aH->Prop}(hK:K (strB xs) w):
  xo P (.c .str) t d (Value.slice s.b s.l s.c) w K:=by
 obtain⟨sb,sl,sc⟩:=s;have hl:sl=xs.length:=hr.len;cases sb with
 |none=>
  have hn:xs=[]:=by
   cases xs with
   |nil=>rfl
   |cons x r=>obtain⟨a,ha,_⟩:=hr.get 0 x rfl;cases ha
  subst hn;exact⟨ByteArray.empty,w,run_convert_bytes_nil w t e hs he sl sc d hd,hK⟩
 |some a=>
  refine⟨strB xs,w,?_,hK⟩;have jf:(loadCells a sl).run P w=.ok ((xs.map λb=>(b.toNat:Int)).map (Value.int .u8)).toArray w:=by
   have:=run_loadCells_list (P:=P) w a ((xs.map λb=>(b.toNat:Int)).map (Value.int .u8)) (λj v hj=>by
    rw[List.map_map,oM] at hj;cases hx:xs[j]? with
    |none=>rw[hx] at hj;cases hj
    |some x=>rw[hx] at hj;cases hj;obtain⟨q,hq,hc⟩:=bP (k:=.int .u8) (e:=λb:cG=>(b.toNat:Int)) hr hx;cases hq;rw[Nat.mul_one] at hc;exact hc)
   simpa [hl] using this
  rw[run_convert_bytes_string w t d e _ sl sc hs he hd,run_bytesToString w _ sl sc _ jf]
  rfl
theorem zq{a b:Sl}{xs ys:List cG}{w:aH}{Q:Bool->aH->Prop}(ha:Rd w a 1 eU xs)(hb:Rd w b 1 eU ys)(hQ:∀c,(xs=ys->c=true)->Q c w):tK a b w Q:=by
 unfold tK;refine Ys (e:=Gp) CW.under iT iT ha (Ys (e:=Gp) CW.under iT iT hb (hQ _ λe=>?_));rw[e];exact beq_self_eq_true _
end
section
def Nu(w0:aH)(A:As)(w:aH):Prop:=(∃S,A w S/\∀k,S k->w0.heap.size<=k)/\aU (λk=>w0.heap.size<=k) w0 w
section
variable{w0 w w':aH}{A:As}{S S':BS}
theorem Nu.kp[bG A](h:Nu w0 A w)(k:aL w w'):Nu w0 A w':=by
 obtain⟨⟨S,a,s⟩,m⟩:=h;exact⟨⟨S,bG.kp a k,s⟩,m.trans k λ_ _ h=>h.elim⟩
theorem Nu.of(a:A w S)(hs:∀k,S k->w0.heap.size<=k)(k:aL w0 w):Nu w0 A w:=⟨⟨S,a,hs⟩,k.wk⟩
theorem Nu.up(m:aU (λk=>w0.heap.size<=k) w0 w)(hs:∀k,S k->w0.heap.size<=k)(u:Up S S' w w')(a:A w' S'):Nu w0 A w':=
 ⟨⟨S',a,λk hk=>(u.s k hk).elim (hs k) λh=>iR m.size h⟩,m.trans u.m λk _ hk=>hs k hk⟩
theorem Nu.aO(h:Nu w0 A w):aL w0 w:=(aU.refl (λ_=>False) w0).fresh h.2 λ_=>id
theorem Nu.size(h:Nu w0 A w):w0.heap.size<=w.heap.size:=h.2.size
end
abbrev eIv:Int->Value:=λx=>aD x
theorem mapIv:∀ns:List Int,ns.map eIv=ns.flatMap eI
 | []=>rfl
 |a::l=>by rw[Dt,FE,mapIv l];rfl
section
variable{w0 w:aH}{g:Nat}{xs:List cG}{sp:Bool}
theorem NumsC{C:aH->Prop}{Q:cR->aH->Prop}{z:Int}(h:Nu w0 (Ed g xs sp) w)(sz:Nat)(ns:List Int)(hz:z=(sz:Int))(hs:1<=sz/\sz<=7)(gD:xs.length+ns.length*7<=900000)(hC:∀w1,aL w w1->C w1)
  (hQ:∀Kt vC w',Nu w0 (Ed g Kt vC) w'->Kt.length<=xs.length+ns.length*7->((∀x∈ns,0<=x/\x.toNat<256^sz)->vC=sp/\Kt=xs++ns.flatMap λx=>be sz x.toNat)->Q (some ⟨g,0,none⟩) w'):
  aG w (ns.map eIv).toArray dG λa w1=>C w1/\aT (some ⟨g,0,none⟩) z ⟨some a,ns.length,ns.length⟩ w1 Q:=by
 obtain⟨⟨S,a,s⟩,m⟩:=h;subst hz;refine cO λw1 b1 k1 z1=>⟨hC w1 k1,?_⟩;refine pj (bG.kp a k1) hs (mO eX ns b1 (mapIv ns) aB) (λb hb=>?_) gD λKt vC w' S' a' u' l' v'=>?_
 ·cases hb;refine⟨λhS=>?_,by show w.heap.size<_;omega⟩;have:=bG.gX a _ hS;simp at this
 ·exact hQ Kt vC w' (Nu.up (m.trans k1 λ_ _ h=>h.elim) s u' a') l' v'
theorem NumsL{Q:cR->aH->Prop}{z:Int}(h:Nu w0 (Ed g xs sp) w)(sz:Nat)(ns:List Int)(hz:z=(sz:Int))(hs:1<=sz/\sz<=7)(gD:xs.length+ns.length*7<=900000)
  (hQ:∀Kt vC w',Nu w0 (Ed g Kt vC) w'->Kt.length<=xs.length+ns.length*7->((∀x∈ns,0<=x/\x.toNat<256^sz)->vC=sp/\Kt=xs++ns.flatMap λx=>be sz x.toNat)->Q (some ⟨g,0,none⟩) w'):
  aG w (ns.map eIv).toArray dG λa w1=>aT (some ⟨g,0,none⟩) z ⟨some a,ns.length,ns.length⟩ w1 Q:=by
 have:=NumsC (C:=λ_=>True) h sz ns hz hs gD (λ_ _=>trivial) hQ;simp only[true_and] at this;exact this
theorem RawN{Q:cR->aH->Prop}{b:Sl}{bs:List cG}(h:Nu w0 (Ed g xs sp) w)(hb:Rd w0 b 1 eU bs)(hl:xs.length+bs.length<=1000000)
  (hQ:∀w',Nu w0 (Ed g (xs++bs) sp) w'->Q (some ⟨g,0,none⟩) w'):CS (some ⟨g,0,none⟩) b w Q:=by
 obtain⟨⟨S,a,s⟩,m⟩:=h;exact WRaw_i a (hb.wj m fQ) hl λw' S' a' u'=>hQ w' (Nu.up m s u' a')
theorem BytesN{Q:Sl->Int->aH->Prop}(h:Nu w0 (Ed g xs sp) w)(hb:xs.length<=1000000)
  (hQ:∀r w',aL w w'->Nu w0 (Ed g xs sp) w'->DQ 1 eU r (if sp then [] else xs) w' (sU r)->(∀b,r.b=some b->w.heap.size<=b.block)->Q r (if sp then 1 else 0) w'):pL (some ⟨g,0,none⟩) w Q:=by
 have h0:=h;obtain⟨⟨S,a,s⟩,m⟩:=h;exact zx a hb λr w' k rd fr=>hQ r w' k (h0.kp k) rd fr
theorem newW{w0 w:aH}{K:Addr->aH->Prop}(k0:aL w0 w)(hK:∀w',Nu w0 (Ed w.heap.size [] false) w'->aL w w'->K ⟨w.heap.size,0,none⟩ w'):aG w #[Value.slice none 0 0,Value.bool false] Ek K:=by
 have z0:=k0.size;exact cO (cs:=[sv aZ,.bool false]) λw1 b1 k1 z1=>hK w1 (Nu.of (S:=λk=>k=w.heap.size\/False) ⟨aZ,bJ.xR b1 Eg λ_ _ h=>h⟩ (λk hk=>hk.elim (λh=>aB) False.elim) (k0.tr k1)) k1
end
theorem xy{w w0:aH}{s:Sl}{bs:List cG}{Q:Int->aH->Prop}(hr:Rd w s 1 eU bs)(hl:bs.length<=1000000)(hQ:∀w',aL w w'->Q ((yJ bs).toNat:Int) w'):aG w #[Value.slice s.b s.l s.c] CB λa w1=>rN ⟨some a,1,1⟩ w1 Q:=
 cO (cs:=[sv s]) λw1 b1 k1 z1=>by
  refine Bt (ps:=[(s,bs)]) (mO (aY:=eUs) (λ_=>rfl) [(s,bs)] b1 rfl dN) (λp hp=>?_) dN (λp hp=>?_) ?_
  ·rw[oG.1 hp];exact hr.aK k1 fQ λ_ _=>id
  ·rw[oG.1 hp];show bs.length<_;omega
  ·simpa using hQ w1 k1
theorem Wrap_i{kind:Int}{body:Sl}{bs:List cG}{w:aH}{Q:Sl->Int->aH->Prop}(hb:Rd w body 1 eU bs)(hl:bs.length<=100000)
  (hQ:∀r out e w',aL w w'->DQ 1 eU r out w' (sU r)->(∀b,r.b=some b->w.heap.size<=b.block)->out.length<=3000->(0<=kind->kind<=255->bs.length<=2000->out=wX kind bs/\e=0)->Q r e w'):AS kind body w Q:=by
 unfold AS;have bl:=hb.len;have VB:(¬(0<=kind/\kind<=255/\bs.length<=2000))->Q aZ 1 w:=λh=>hQ _ [] 1 w (aU.refl _ _) JN (λb hb=>by cases hb) (dE _) λa b c=>absurd ⟨a,b,c⟩ h;refine aJ (λh=>VB λh2=>aB) (λh1=>aJ (λh=>VB λh2=>aB) (λh2=>aJ (λh=>VB λh2=>aB) (λh3=>?_)));refine newW (aU.refl _ w) λw1 n1 k1=>?_;refine NumsL n1 1 [77,3,kind] rfl aB dN λx2 sp2 w2 n2 _ v2=>?_;obtain⟨rfl,rfl⟩:=v2 (by intro x hx;simp at hx;omega);refine NumsL n2 2 [(body.l:Int)] rfl aB (by simp[pH]) λx3 sp3 w3 n3 _ v3=>?_;obtain⟨rfl,rfl⟩:=v3 (by intro x hx;simp at hx;omega);refine RawN n3 hb (by simp[pH];omega) λw4 n4=>?_;have e4:((([]++[77,3,kind].flatMap λx=>be 1 x.toNat)++[(body.l:Int)].flatMap λx=>be 2 x.toNat)++bs)=fS kind bs:=by unfold fS;simp[bl]
 rw[e4] at n4;have l4:(fS kind bs).length=5+bs.length:=by rw[<-e4];simp[pH];omega
 refine BytesN n4 aB λr5 w5 k5 n5 Vl f5=>?_;refine xy (w0:=w) (bs:=fS kind bs) Vl.1 aB λw6 k6=>?_;have n6:=n5.kp k6;have hs:(yJ (fS kind bs)).toNat<4294967296:=(yJ (fS kind bs)).isLt;rw[gZ (n:=((yJ (fS kind bs)).toNat:Int)) aB aB];refine NumsL n6 4 [((yJ (fS kind bs)).toNat:Int)] rfl aB (by simp;omega) λx7 sp7 w7 n7 _ v7=>?_;obtain⟨rfl,rfl⟩:=v7 (by intro x hx;simp at hx;omega);have e7:(fS kind bs++[((yJ (fS kind bs)).toNat:Int)].flatMap λx=>be 4 x.toNat)=wX kind bs:=by unfold wX;simp
 rw[e7] at n7;have l7:(wX kind bs).length=9+bs.length:=by rw[<-e7,fJ,l4];simp[pH];omega
 have z7:=n7.size;refine BytesN n7 aB λr8 w8 k8 n8 rd8 f8=>?_;exact hQ r8 _ 0 w8 n8.aO rd8 (λb hb=>by have:=f8 b hb;omega) (by simp;omega) λ_ _ _=>⟨rfl,rfl⟩
theorem Jn(k:Int)(y:List cG):(wX k y).length=9+y.length:=by unfold wX fS;simp[pH];omega
theorem Mj(k:Int)(y:List cG):(fS k y).length=5+y.length:=by unfold fS;simp[pH];omega
section
variable{w0 w:aH}{g:Nat}{l:List cG}{sp:Bool}
theorem RRawN{n:Int}{Q:Sl->aH->Prop}(h:Nu w0 (uD g l sp) w)(hl:l.length<=100000)
  (hQ:∀r out l' vC w',Nu w0 (bJ (uD g l' vC) (DQ 1 eU r out)) w'->Nu w0 (uD g l' vC) w'->DQ 1 eU r out w' (sU r)->(∀b,r.b=some b->w.heap.size<=b.block)->l'.length<=l.length->out.length<=l.length->(out.length:Int)<=max n 0->
   (∀a t,sp=false->l=a++t->n=a.length->out=a/\l'=t/\vC=false)->Q r w'):yT (some ⟨g,0,none⟩) n w Q:=by
 obtain⟨⟨S,a,s⟩,m⟩:=h;refine ou a hl λr out l' vC w' S' a' DB u' rd fr h1 h2 h3 h4=>?_;have z:=m.size;refine hQ r out l' vC w' ⟨⟨λk=>S' k\/sU r k,bJ.xR a' rd λk hk ⟨b,hb,e⟩=>?_,λk hk=>hk.elim (λh=>s k (DB k h)) λ⟨b,hb,e⟩=>?_⟩,m.trans u'.m λk _ hk=>s k hk⟩ (Nu.up m s u' a') rd fr h1 h2 h3 h4
 ·have:=bG.gX a k (DB k hk);have:=fr b hb;omega
 ·have:=fr b hb;omega
theorem RNumN{sz:Nat}{z:Int}{Q:Int->aH->Prop}(h:Nu w0 (uD g l sp) w)(hz:z=(sz:Int))(hs:1<=sz/\sz<=7)(hl:l.length<=100000)
  (hQ:∀(x:Nat) l' vC w',Nu w0 (uD g l' vC) w'->aU (λk=>w0.heap.size<=k) w w'->l'.length<=l.length->x<256^sz->(∀v t,sp=false->l=be sz v++t->v<256^sz->x=v/\l'=t/\vC=false)->Q (x:Int) w'):gA (some ⟨g,0,none⟩) z w Q:=by
 obtain⟨⟨S,a,s⟩,m⟩:=h;subst hz;exact Sq a hs hl λx l' vC w' S' a' DB u' h1 h2 h3=>hQ x l' vC w' (Nu.up m s u' a') (u'.m.mono λk _ hk=>s k hk) h1 h2 h3
end
theorem Unwrap_i{b:Sl}{bs:List cG}{w:aH}{Q:Int->Sl->Int->aH->Prop}(hb:Rd w b 1 eU bs)(hl:bs.length<=100000)
  (hQ:∀kind s e body w',aL w w'->DQ 1 eU s body w' (sU s)->(∀b,s.b=some b->w.heap.size<=b.block)->body.length<=bs.length->(∀k y,0<=k->k<=255->y.length<=2000->bs=wX k y->kind=k/\body=y/\e=0)->(∀x r,bs=x::r->x≠BitVec.ofNat 8 77->¬e=0)->Q kind s e w'):wH b w Q:=by
 unfold wH;have bl:=hb.len;have VB:∀e w',¬e=0->aL w w'->(∀k y,0<=k->k<=255->y.length<=2000->bs=wX k y->False)->Q 0 aZ e w':=λe w' he k h=>hQ 0 _ e [] w' k ⟨Rd.nil _ _ _,fQ,λb hb=>(by cases hb),λ_=>Iff.rfl⟩ (λb hb=>by cases hb) (dE _) (λk y a b c d=>(h k y a b c d).elim) λ_ _ _ _=>he;refine aJ (λh=>VB _ w (by decide) (aU.refl _ _) λk y _ _ _ e=>by have:=congrArg List.length e;rw[Jn] at this;omega) (λgD=>?_);have h0:0<bs.length:=aB;have cQ:=cM h0;have gK:∀k y,bs=wX k y->bs[0]=BitVec.ofNat 8 77:=λk y e=>by
  subst e;rfl
 have hfst:∀x r,bs=x::r->bs[0]=x:=λx r e=>by subst e;rfl
 generalize bs[0]=x0 at*;obtain⟨q,hq,hc⟩:=bP (k:=.int .u8) (e:=λb:cG=>(b.toNat:Int)) hb cQ;refine⟨⟨aB,aB⟩,aA hq (aE (k:=.int .u8) (x0.toNat:Int) hc (aF (λh=>VB _ w (by decide) (aU.refl _ _) λk y _ _ _ e=>?_) (λhx77=>?_)))⟩
 ·rw[gK k y e] at h;simp at h
 have hfirst:∀x r,bs=x::r->x≠BitVec.ofNat 8 77->False:=λx r e hx=>by
  have h1:=hfst x r e;subst h1;have h2:(x0.toNat:Int)=77:=by simpa using hx77
  exact hx (BitVec.eq_of_toNat_eq (by simp;omega))
 refine ot hb hl λg w1 S1 a1 k1 s1=>?_;have n1:Nu w (uD g bs false) w1:=Nu.of a1 s1 k1;refine RRawN n1 aB λr2 o2 l2 sp2 w2 _ n2 _ _ c2 _ _ v2=>?_;refine RNumN n2 (sz:=1) rfl aB aB λx3 l3 sp3 w3 n3 _ c3 b3 v3=>?_;refine RNumN n3 (sz:=1) rfl aB aB λx4 l4 sp4 w4 n4 _ c4 b4 v4=>?_;refine RNumN n4 (sz:=2) rfl aB aB λx5 l5 sp5 w5 n5 _ c5 b5 v5=>?_;have GN:∀k y,0<=k->k<=255->y.length<=2000->bs=wX k y->(x3:Int)=3/\(x4:Int)=k/\(x5:Int)=y.length/\l5=y++be 4 (yJ (fS k y)).toNat/\sp5=false:=by
  intro k y k0 k1 hy e;have e':bs=be 1 77++(be 1 3++(be 1 k.toNat++(be 2 y.length++(y++be 4 (yJ (fS k y)).toNat)))):=by rw[e];unfold wX fS;simp only[sL]
  obtain⟨_,rfl,rfl⟩:=v2 _ _ rfl e' (by simp[pH]);obtain⟨rfl,rfl,rfl⟩:=v3 _ _ rfl rfl aB;obtain⟨rfl,rfl,rfl⟩:=v4 _ _ rfl rfl aB;obtain⟨rfl,rfl,rfl⟩:=v5 _ _ rfl rfl aB;exact⟨rfl,aB,rfl,rfl,rfl⟩
 have ew:aQ (aQ ((5:Int)+(x5:Int))+(4:Int))=(x5:Int)+9:=by rw[gZ (n:=(5:Int)+(x5:Int)) aB aB,gZ aB aB];omega
 rw[ew];refine aF (λh=>VB _ w5 (by decide) n5.aO λk y a b c e=>?_) (λh=>?_)
 ·obtain⟨_,_,e5,_⟩:=GN k y a b c e;have:=congrArg List.length e;rw[Jn] at this;simp at h;omega
 have FW:(b.l:Int)=(x5:Int)+9:=by simpa using h
 rw[gZ (n:=(5:Int)+(x5:Int)) aB aB];refine RRawN n5 aB λs6 o6 l6 sp6 w6 n6' n6 rd6 f6 c6 d6 _ v6=>?_;have Rl:=hb.cap;refine⟨⟨aB,aB⟩,?_⟩;have et:Int.toNat ((5:Int)+(x5:Int))=5+x5:=aB;rw[et];have fact2:∀k y,0<=k->k<=255->y.length<=2000->bs=wX k y->o6=y/\l6=be 4 (yJ (fS k y)).toNat/\sp6=false:=λk y a b c e=>by
  obtain⟨_,_,e5,e6,e7⟩:=GN k y a b c e;exact v6 _ _ e7 e6 e5
 have Gv:∀wx,aU (λk=>w.heap.size<=k) w wx->Rd wx ⟨aR b.b b.c 0 1,(5+x5)-0,b.c-0⟩ 1 eU (bs.take (5+x5)):=λwx m=>by
  have:=(hb.wj m fQ).part (i:=0) (j:=5+x5) (c:=b.c) (dE _) aB aB (dL _);simpa using this
 have z5:=n5.size;have dQ:∀(x7:Nat) wf,aL w wf->DQ 1 eU s6 o6 wf (sU s6)->(∀v t,sp6=false->l6=be 4 v++t->v<256^4->x7=v)->cond ((x7:Int) !=(aQ (((yJ (bs.take (5+x5))).toNat:Nat):Int))) (Q 0 aZ 2 wf) (cond ((x3:Int) !=(3:Int)) (Q 0 aZ 3 wf) (cond (decide ((x5:Int)>(2000:Int))) (Q 0 aZ 2 wf) (Q x4 s6 0 wf))):=by
  intro x7 wf kf rdf v7;have hs:(yJ (bs.take (5+x5))).toNat<4294967296:=(yJ (bs.take (5+x5))).isLt;rw[gZ (n:=((yJ (bs.take (5+x5))).toNat:Int)) aB aB];refine aF (λh=>VB _ wf (by decide) kf λk y a b c e=>?_) (λ_=>aF (λh=>VB _ wf (by decide) kf λk y a b c e=>?_) (λ_=>aJ (λh=>VB _ wf (by decide) kf λk y a b c e=>?_) (λ_=>hQ _ s6 0 o6 wf kf rdf (λb hb=>by have:=f6 b hb;omega) aB (λk y a b c e=>?_) λx r hbx hx=>(hfirst x r hbx hx).elim)))
  ·obtain⟨_,_,e5,_⟩:=GN k y a b c e;obtain⟨_,e6,e7⟩:=fact2 k y a b c e;have LJ:(yJ (fS k y)).toNat<4294967296:=(yJ (fS k y)).isLt;have e8:=v7 _ [] e7 (by rw[uA];exact e6) aB;have e9:bs.take (5+x5)=fS k y:=by
    rw[e,show 5+x5=(fS k y).length by rw[Mj];omega];exact List.take_left
   rw[e9,e8] at h;simp at h
  ·obtain⟨e3,_⟩:=GN k y a b c e;rw[e3] at h;simp at h
  ·obtain⟨_,_,e5,_⟩:=GN k y a b c e;omega
  ·obtain⟨_,e4,_⟩:=GN k y a b c e;exact⟨e4,(fact2 k y a b c e).1,rfl⟩
 have n6'd:=n6'.kp (bY w6);obtain⟨⟨S6,a6,s6'⟩,m6⟩:=n6'd;obtain⟨T1,T2,ar,ao,d6',e6'⟩:=a6;refine⟨?_,?_⟩
 ·refine Sq (sz:=4) ar aB aB λx7 l7 sp7 w7 S7 a7 _ u7 _ b7 v7=>?_;have m7:aU (λk=>w.heap.size<=k) w w7:=m6.trans u7.m λk _ hk=>s6' k ((e6' k).2 (.inl hk));refine xy (w0:=w) (Gv w7 m7) (by rw[sM];omega) λw8 k8=>?_;have kk:aL w w7:=(aU.refl (λ_=>False) w).fresh m7 λ_=>id;have o7:=bG.aK ao u7.m λk hk lT=>d6' k lT hk;refine dQ x7 w8 (kk.tr k8) (bG.kp ⟨o7.1,o7.2.1,o7.2.2.1,λ_=>Iff.rfl⟩ k8) λv t h1 h2 h3=>(v7 v t h1 h2 h3).1
 ·refine bD λw7 o7 k7 z7=>?_;refine Sq (sz:=4) (bG.kp ar k7) aB aB λx8 l8 sp8 w8 S8 a8 _ u8 _ b8 v8=>?_;have m8:aU (λk=>w.heap.size<=k) w w8:=(m6.trans k7 λ_ _ h=>h.elim).trans u8.m λk _ hk=>s6' k ((e6' k).2 (.inl hk));have kk:aL w w8:=(aU.refl (λ_=>False) w).fresh m8 λ_=>id;have o8:=bG.aK (bG.kp ao k7) u8.m λk hk lT=>d6' k lT hk;have nb:¬T1 w6.drew.heap.size:=λh=>by have:=bG.gX ar _ h;simp at this
  have ow:cU w8 w6.drew.heap.size CB [sv ⟨aR b.b b.c 0 1,(5+x5)-0,b.c-0⟩]:=o7.aK u8.m nb;refine Bt (ps:=[(⟨aR b.b b.c 0 1,(5+x5)-0,b.c-0⟩,bs.take (5+x5))]) (mO (aY:=eUs) (S:=λk=>k=w6.drew.heap.size) (λ_=>rfl) [_] ⟨ow,λ_=>Iff.rfl⟩ rfl dN) (λp hp=>?_) dN (λp hp=>?_) ?_
  ·rw[oG.1 hp];exact Gv w8 m8
  ·rw[oG.1 hp];show(bs.take (5+x5)).length<_;rw[sM];omega
  ·simp only[FE,List.flatMap_nil,uA];exact dQ x8 w8 kk ⟨o8.1,o8.2.1,o8.2.2.1,λ_=>Iff.rfl⟩ λv t h1 h2 h3=>(v8 v t h1 h2 h3).1
end
section
def sQ(w0:aH)(g:Nat)(m:Nat)(e:TypeId)(mc:List Value)(V:Prop)(E:List cG)(N:Nat)(L:List (Nat×List Int))(w:aH):Prop:=
 ∃S xs sp,Ed g xs sp w S/\(∀k,S k->w0.heap.size<=k)/\aU (λk=>w0.heap.size<=k) w0 w/\(∀p∈L,cU w p.1 dG (p.2.map eIv)/\¬S p.1)/\(cU w m e mc/\¬S m)/\xs.length<=N/\(V->sp=false/\xs=E)
section
variable{w0 w w':aH}{g m N:Nat}{e:TypeId}{mc:List Value}{V:Prop}{E:List cG}{L:List (Nat×List Int)}
theorem sQ.kp(h:sQ w0 g m e mc V E N L w)(k:aL w w'):sQ w0 g m e mc V E N L w':=by
 obtain⟨S,xs,sp,a,s,md,l,⟨o,om⟩,n,v⟩:=h;exact⟨S,xs,sp,bG.kp a k,s,md.trans k λ_ _ h=>h.elim,λp hp=>⟨(l p hp).1.aK k id,(l p hp).2⟩,⟨o.aK k id,om⟩,n,v⟩
theorem sQ.cell(h:sQ w0 g m e mc V E N L w){k:Nat}{v:Value}(hk:mc[k]? =some v):w.cell? ((⟨m,0,none⟩:Addr).add k)=some v:=by
 obtain⟨S,xs,sp,a,s,md,l,⟨o,om⟩,n,_⟩:=h;exact cV o hk
theorem sQ.dr(h:sQ w0 g m e mc V E N L w):sQ w0 g m e mc V E N L w.drew:=h.kp (bY w)
theorem sQ.alloc(h:sQ w0 g m e mc V E N L w)(ns:List Int){K:Addr->aH->Prop}(hK:∀w',sQ w0 g m e mc V E N ((w.heap.size,ns)::L) w'->K ⟨w.heap.size,0,none⟩ w'):aG w (ns.map eIv).toArray dG K:=by
 obtain⟨S,xs,sp,a,s,md,l,⟨o,om⟩,n,v⟩:=h;refine cO λw1 b1 k1 z1=>hK w1 ⟨S,xs,sp,bG.kp a k1,s,md.trans k1 λ_ _ h=>h.elim,λp hp=>?_,⟨o.aK k1 id,om⟩,n,v⟩;rcases jO.1 hp with rfl|hp
 ·exact⟨b1.1,λhS=>by have:=bG.gX a _ hS;simp at this⟩
 ·exact⟨(l p hp).1.aK k1 id,(l p hp).2⟩
theorem sQ.Cr(h:sQ w0 g m e mc V E N L w){b:Nat}{ns:List Int}(sz:Nat){z:Int}(hm:(b,ns)∈L)(hz:z=(sz:Int))(hs:1<=sz/\sz<=7)(gD:N+ns.length*7<=900000)(hr:V->∀x∈ns,0<=x/\x.toNat<256^sz){Q:cR->aH->Prop}
  (hQ:∀w',sQ w0 g m e mc V (E++ns.flatMap λx=>be sz x.toNat) (N+ns.length*7) L w'->Q (some ⟨g,0,none⟩) w'):aT (some ⟨g,0,none⟩) z ⟨some ⟨b,0,none⟩,ns.length,ns.length⟩ w Q:=by
 obtain⟨S,xs,sp,a,s,md,l,⟨o,om⟩,n,v⟩:=h;subst hz;obtain⟨ob,hb⟩:=l _ hm;refine pj a hs (mO eX ns (S:=λk=>k=b) ⟨ob,λ_=>Iff.rfl⟩ (mapIv ns) aB) (λc hc=>?_) aB λKt vC w' S' a' u' l' v'=>hQ w' ⟨S',Kt,vC,a',λk hk=>(u'.s k hk).elim (s k) λh=>iR md.size h,md.trans u'.m λk _ hk=>s k hk,λp hp=>?_,?_,aB,λhV=>?_⟩
 ·cases hc;exact⟨hb,ob.lt⟩
 ·refine⟨(l p hp).1.aK u'.m (l p hp).2,λhS=>(u'.s _ hS).elim (l p hp).2 λh=>?_⟩;have:=(l p hp).1.lt;omega
 ·refine⟨o.aK u'.m om,λhS=>(u'.s _ hS).elim om λh=>?_⟩;have:=o.lt;omega
 ·obtain⟨rfl,rfl⟩:=v hV;exact v' (hr hV)
theorem sQ.Vm(h:sQ w0 g m e mc V E N L w){b:Sl}{bs:List cG}(hb:Rd w0 b 1 eU bs)(gD:N+bs.length<=900000){Q:cR->aH->Prop}
  (hQ:∀w',sQ w0 g m e mc V (E++bs) (N+bs.length) L w'->Q (some ⟨g,0,none⟩) w'):CS (some ⟨g,0,none⟩) b w Q:=by
 obtain⟨S,xs,sp,a,s,md,l,⟨o,om⟩,n,v⟩:=h;refine WRaw_i a (hb.wj md fQ) aB λw' S' a' u'=>hQ w' ⟨S',xs++bs,sp,a',λk hk=>(u'.s k hk).elim (s k) λh=>iR md.size h,md.trans u'.m λk _ hk=>s k hk,λp hp=>?_,?_,by rw[fJ];omega,λhV=>?_⟩
 ·refine⟨(l p hp).1.aK u'.m (l p hp).2,λhS=>(u'.s _ hS).elim (l p hp).2 λh=>?_⟩;have:=(l p hp).1.lt;omega
 ·refine⟨o.aK u'.m om,λhS=>(u'.s _ hS).elim om λh=>?_⟩;have:=o.lt;omega
 ·obtain⟨rfl,rfl⟩:=v hV;exact⟨rfl,rfl⟩
theorem sQ.numsR(h:sQ w0 g m e mc V E N L w){n:Sl}{ns:List Int}(sz:Nat){z:Int}(hn:Rd w0 n 1 eI ns)(hnb:∀b,n.b=some b->b.block<w0.heap.size)(hz:z=(sz:Int))(hs:1<=sz/\sz<=7)(gD:N+ns.length*7<=900000)(hr:V->∀x∈ns,0<=x/\x.toNat<256^sz){Q:cR->aH->Prop}
  (hQ:∀w',sQ w0 g m e mc V (E++ns.flatMap λx=>be sz x.toNat) (N+ns.length*7) L w'->Q (some ⟨g,0,none⟩) w'):aT (some ⟨g,0,none⟩) z n w Q:=by
 obtain⟨S,xs,sp,a,s,md,l,⟨o,om⟩,nn,v⟩:=h;subst hz;have zz:=md.size;refine pj a hs (hn.wj md cI) (λb hb=>⟨λhS=>?_,by have:=hnb b hb;omega⟩) aB λKt vC w' S' a' u' l' v'=>hQ w' ⟨S',Kt,vC,a',λk hk=>(u'.s k hk).elim (s k) λh=>iR md.size h,md.trans u'.m λk _ hk=>s k hk,λp hp=>?_,?_,aB,λhV=>?_⟩
 ·have:=s _ hS;have:=hnb b hb;omega
 ·refine⟨(l p hp).1.aK u'.m (l p hp).2,λhS=>(u'.s _ hS).elim (l p hp).2 λh=>?_⟩;have:=(l p hp).1.lt;omega
 ·refine⟨o.aK u'.m om,λhS=>(u'.s _ hS).elim om λh=>?_⟩;have:=o.lt;omega
 ·obtain⟨rfl,rfl⟩:=v hV;exact v' (hr hV)
theorem sQ.bytes(h:sQ w0 g m e mc V E N L w)(hN:N<=900000){Q:Sl->Int->aH->Prop}
  (hQ:∀r out (er:Int) w',sQ w0 g m e mc V E N L w'->DQ 1 eU r out w' (sU r)->(∀b,r.b=some b->w0.heap.size<=b.block)->out.length<=N->(V->out=E/\er=0)->Q r er w'):pL (some ⟨g,0,none⟩) w Q:=by
 have h0:=h;obtain⟨S,xs,sp,a,s,md,l,om,n,v⟩:=h;have zz:=md.size;refine zx a aB λr w' k rd fr=>hQ r _ _ w' (h0.kp k) rd (λb hb=>by have:=fr b hb;omega) ?_ λhV=>?_
 ·cases sp with
  |true=>exact dE _
  |false=>exact n
 ·obtain⟨rfl,rfl⟩:=v hV;exact⟨rfl,rfl⟩
theorem sQ.aO(h:sQ w0 g m e mc V E N L w):aL w0 w:=by
 obtain⟨S,xs,sp,a,s,md,l,om,n,v⟩:=h;exact(aU.refl (λ_=>False) w0).fresh md λ_=>id
theorem sQ.new{K:Addr->aH->Prop}(k0:aL w0 w)(o:cU w m e mc)(hK:∀w',sQ w0 w.heap.size m e mc V [] 0 [] w'->K ⟨w.heap.size,0,none⟩ w'):aG w #[Value.slice none 0 0,Value.bool false] Ek K:=by
 have z0:=k0.size;have ol:=o.lt;refine cO (cs:=[sv aZ,.bool false]) λw1 b1 k1 z1=>hK w1 ⟨λk=>k=w.heap.size\/False,[],false,⟨aZ,bJ.xR b1 Eg λ_ _ h=>h⟩,λk hk=>hk.elim (λh=>aB) False.elim,(k0.tr k1).wk,λp hp=>(by cases hp),⟨o.aK k1 id,λhk=>hk.elim (λh=>aB) id⟩,dL _,λ_=>⟨rfl,rfl⟩⟩
end
end
end Go.Proofs.YtihggjgakbgomaaGreat
