import Derived.Laws.BytesArg
import Derived.Test.YtihggjgakbgomaaGreatA1
import Derived.Test.YtihggjgakbgomaaGreatF1
import Derived.Test.YtihggjgakbgomaaGreatQ1
import Derived.Test.YtihggjgakbgomaaGreatA2
import Derived.Test.YtihggjgakbgomaaGreatF2
namespace Go.Proofs.YtihggjgakbgomaaGreat
open Go Go.Den
open Tryz (prog)
section
structure Mi where
 N:mZ
 gl:Nat
 rs:Sl
def Mi.dK(H:Mi)(k:Nat):Prop:=k=H.gl\/H.N.dK k\/∃a,H.rs.b=some a/\k=a.block
structure oM(w:aH)(H:Mi)(n:Nat)(A:List bQ)(R:List Int):Prop where
 head:cW w H.gl tLev [.pointer (some ⟨H.N.g,0,none⟩),sv H.rs]
 LS:lI w H.N n A
 iZ:dP w cZ 1 eI H.rs R
 rlen:R.length=n
section
variable{w:aH}{H:Mi}{n:Nat}{A:List bQ}{R:List Int}
theorem oM.aL{F:Nat->Prop}{w':aH}(h:oM w H n A R)(m:aY F w w')(hF:∀k,H.dK k->¬F k):oM w' H n A R:=
 ⟨h.head.aL m (hF _ (.inl rfl)),h.LS.aL m λk hk=>hF k (.inr (.inl hk)),h.iZ.aL m λa ha=>hF _ (.inr (.inr ⟨a,ha,rfl⟩)),h.rlen⟩
theorem oM.aO{w':aH}(h:oM w H n A R)(k:aN w w'):oM w' H n A R:=h.aL k λ_ _=>id
theorem oM.lt(h:oM w H n A R){k:Nat}(hk:H.dK k):k<w.heap.size:=by
 rcases hk with rfl|hk|⟨a,ha,rfl⟩
 ·exact h.head.lt
 ·exact h.LS.at_.lt hk
 ·exact h.iZ.lt ha
theorem oM.c0(h:oM w H n A R):w.cell? ((⟨H.gl,0,none⟩:Addr).add 0)=some (.pointer (some ⟨H.N.g,0,none⟩)):=by rw[aS,h.head.cell];rfl
theorem oM.c1(h:oM w H n A R):w.cell? ((⟨H.gl,0,none⟩:Addr).add 1)=some (sv H.rs):=by rw[aS,h.head.cell];rfl
theorem Hi{v:Int}{Q:Int->aH->Prop}(h:oM w H n A R)(hQ:Q (cC R v) w):uG (some ⟨H.gl,0,none⟩) v w Q:=by
 unfold uG;have sl:=h.iZ.len;unfold cC at hQ;refine aF (λh=>by simp at h) (λ_=>?_);refine aJ (λcL=>?_) (λh0=>?_)
 ·rw[if_neg aB] at hQ;exact hQ
 ·refine aA rfl (aE (k:=.slice) H.rs h.c1 ?_)
  refine aJ (λlK=>?_) (λcL=>?_)
  ·have:¬(0<=v/\v<(R.length:Int)):=by
    omega
   rw[if_neg this] at hQ;exact hQ
  ·have GJ:¬v>=(H.rs.l:Int):=cL
   have zi:¬v<0:=h0;have cU:R[v.toNat]? =some (R.getD v.toNat 0):=by
    rw[LZ,gU (show v.toNat<R.length by omega)];rfl
   rw[if_pos ⟨aB,aB⟩] at hQ;obtain⟨p,hp,hc⟩:=cQ (k:=.i) (e:=λx=>x) (h.iZ.rd fM) cU;exact aA rfl (aE (k:=.slice) H.rs h.c1 ⟨⟨aB,aB⟩,aA hp (aE (k:=.i) _ hc hQ)⟩)
theorem Up_c1_i{b1 b2:Nat}{v:Int}{x:bQ}{K:Value->aH->Prop}(h:oM w H n A R)(o1:cW w b1 131 [.pointer (some ⟨H.gl,0,none⟩)])(o2:cW w b2 cZ [aD v])(hK:∀w',aN w w'->K (.bool (decide (cC R x.t<=cC R v))) w'):
  lQ prog (.func (.func bj) #[] #[.pointer (some ⟨b1,0,none⟩),.pointer (some ⟨b2,0,none⟩)]) [Gb x] w K:=by
 refine pI qc iH (first:=#[]) (gJ (ks:=[.agg [.i,.i,.i,.i],.c .ptr,.c .ptr]) (t:=(nY x,some ⟨b1,0,none⟩,some ⟨b2,0,none⟩,())) ?_)
 show KF (nY x) (some ⟨b1,0,none⟩) (some ⟨b2,0,none⟩) w λr w'=>K (.bool r) w';unfold KF;refine bP λw1 oa k1 _=>?_;have d1:aN w1 w1.drew:=aY.drew (aY.refl _ w1);have k:=k1.tr d1;have h1:=h.aO k;have p1:=gY (o1.aL k id);have p2:=gY (o2.aL k id);have pa:=(tE (x:=x) (oa.aL d1 id)).2.1;refine aA rfl (aE (k:=.ptr) (some ⟨H.gl,0,none⟩) p1 (aE (k:=.i) x.t pa (aA rfl (aE (k:=.ptr) (some ⟨H.gl,0,none⟩) p1 (aA rfl (aE (k:=.i) v p2 ?_))))));exact Hi h1 ⟨p2,p1,Hi h1 (hK _ k)⟩
theorem aBj{b1 b2:Nat}{v:Int}{x:bQ}{K:Value->aH->Prop}(h:oM w H n A R)(o1:cW w b1 131 [.pointer (some ⟨H.gl,0,none⟩)])(o2:cW w b2 cZ [aD v])(hK:∀w',aN w w'->K (.bool (decide (cC R x.f<=cC R v))) w'):
  lQ prog (.func (.func Mr) #[] #[.pointer (some ⟨b1,0,none⟩),.pointer (some ⟨b2,0,none⟩)]) [Gb x] w K:=by
 refine pI Uq iH (first:=#[]) (gJ (ks:=[.agg [.i,.i,.i,.i],.c .ptr,.c .ptr]) (t:=(nY x,some ⟨b1,0,none⟩,some ⟨b2,0,none⟩,())) ?_)
 show AB (nY x) (some ⟨b1,0,none⟩) (some ⟨b2,0,none⟩) w λr w'=>K (.bool r) w';unfold AB;refine bP λw1 oa k1 _=>?_;have d1:aN w1 w1.drew:=aY.drew (aY.refl _ w1);have k:=k1.tr d1;have h1:=h.aO k;have p1:=gY (o1.aL k id);have p2:=gY (o2.aL k id);have pa:=(tE (x:=x) (oa.aL d1 id)).1;refine aA rfl (aE (k:=.ptr) (some ⟨H.gl,0,none⟩) p1 (aE (k:=.i) x.f pa (aA rfl (aE (k:=.ptr) (some ⟨H.gl,0,none⟩) p1 (aA rfl (aE (k:=.i) v p2 ?_))))));exact Hi h1 ⟨p2,p1,Hi h1 (hK _ k)⟩
theorem Up_i{v:Int}{Q:Sl->aH->Prop}(h:oM w H n A R)(hQ:∀s w',dP w' iT 4 eC s (upL A R v)->aN w w'->(∀b,s.b=some b->w.heap.size<=b.block)->Q s w'):Er (some ⟨H.gl,0,none⟩) v w Q:=by
 unfold Er;refine bP λw1 o1 k1 z1=>bP λw2 o2 k2 z2=>?_;have YG:=o1.aL k2 id;have k02:=k1.tr k2;have d2:aN w2 w2.drew:=aY.drew (aY.refl _ w2);have k0d:=k02.tr d2;have hd:=h.aO k0d;refine aE (k:=.ptr) (some ⟨H.gl,0,none⟩) (gY YG) ?_;refine aF (λh=>by simp at h) (λ_=>?_);refine aE (k:=.ptr) (some ⟨H.gl,0,none⟩) (gY (YG.aL d2 id)) (aA rfl (aE (k:=.ptr) (some ⟨H.N.g,0,none⟩) hd.c0 (aE (k:=.i) v (gY (o2.aL d2 id)) ?_)));have LP:=h.LS.sz;have hol:=h.LS.ok.vG v;refine Yb hd.LS λs3 w3 v3 k3 f3=>?_;have K3:=k0d.tr k3;have ry:∀a,s3.b=some a->w.heap.size<=a.block/\a.block≠w.heap.size/\a.block≠w1.heap.size:=λa ha=>by
  have:=f3 a ha;have e:w2.drew.heap.size=w2.heap.size:=rfl;omega
 have p1:=(YG.aL d2 id).aL k3 id;have p2:=(o2.aL d2 id).aL k3 id;refine KN (p:=λx=>decide (cC R x.t<=cC R v)) (C:=λw'=>oM w' H n A R/\cW w' w.heap.size 131 [.pointer (some ⟨H.gl,0,none⟩)]/\cW w' w1.heap.size cZ [aD v]) v3 aB ⟨h.aO K3,p1,p2⟩
  (λwa wb ⟨c1,c2,c3⟩ m=>⟨c1.aL m λk hk ⟨a,ha,e⟩=>by have:=(ry a ha).1;have:=h.lt hk;omega,c2.aL m λ⟨a,ha,e⟩=>(ry a ha).2.1 e.symm,c3.aL m λ⟨a,ha,e⟩=>(ry a ha).2.2 e.symm⟩)
  (λx wa K ⟨c1,c2,c3⟩ _ hK=>Up_c1_i c1 c2 c3 hK) λs4 w4 v4 m4 e4=>?_
 refine hQ s4 w4 ?_ (K3.fresh m4 λk ⟨a,ha,e⟩=>by rw[e];exact(ry a ha).1) λb hb=>(ry b (e4▸hb)).1;have:(dZ A v).filter (λx=>!decide (cC R x.t<=cC R v))=upL A R v:=by
  unfold upL;refine List.filter_congr λx _=>?_
  by_cases hh:cC R x.t<=cC R v
  ·simp[hh]
  ·simp[hh];omega
 rw[<-this];exact v4
theorem Down_i{v:Int}{Q:Sl->aH->Prop}(h:oM w H n A R)(hQ:∀s w',dP w' iT 4 eC s (DU A R v)->aN w w'->(∀b,s.b=some b->w.heap.size<=b.block)->Q s w'):IC (some ⟨H.gl,0,none⟩) v w Q:=by
 unfold IC;refine bP λw1 o1 k1 z1=>bP λw2 o2 k2 z2=>?_;have YG:=o1.aL k2 id;have k02:=k1.tr k2;have d2:aN w2 w2.drew:=aY.drew (aY.refl _ w2);have k0d:=k02.tr d2;have hd:=h.aO k0d;refine aE (k:=.ptr) (some ⟨H.gl,0,none⟩) (gY YG) ?_;refine aF (λh=>by simp at h) (λ_=>?_);refine aE (k:=.ptr) (some ⟨H.gl,0,none⟩) (gY (YG.aL d2 id)) (aA rfl (aE (k:=.ptr) (some ⟨H.N.g,0,none⟩) hd.c0 (aE (k:=.i) v (gY (o2.aL d2 id)) ?_)));have LP:=h.LS.sz;have hol:=h.LS.ok.FH v;refine In_i hd.LS λs3 w3 v3 k3 f3=>?_;have K3:=k0d.tr k3;have ry:∀a,s3.b=some a->w.heap.size<=a.block/\a.block≠w.heap.size/\a.block≠w1.heap.size:=λa ha=>by
  have:=f3 a ha;have e:w2.drew.heap.size=w2.heap.size:=rfl;omega
 have p1:=(YG.aL d2 id).aL k3 id;have p2:=(o2.aL d2 id).aL k3 id;refine KN (p:=λx=>decide (cC R x.f<=cC R v)) (C:=λw'=>oM w' H n A R/\cW w' w.heap.size 131 [.pointer (some ⟨H.gl,0,none⟩)]/\cW w' w1.heap.size cZ [aD v]) v3 aB ⟨h.aO K3,p1,p2⟩
  (λwa wb ⟨c1,c2,c3⟩ m=>⟨c1.aL m λk hk ⟨a,ha,e⟩=>by have:=(ry a ha).1;have:=h.lt hk;omega,c2.aL m λ⟨a,ha,e⟩=>(ry a ha).2.1 e.symm,c3.aL m λ⟨a,ha,e⟩=>(ry a ha).2.2 e.symm⟩)
  (λx wa K ⟨c1,c2,c3⟩ _ hK=>aBj c1 c2 c3 hK) λs4 w4 v4 m4 e4=>?_
 refine hQ s4 w4 ?_ (K3.fresh m4 λk ⟨a,ha,e⟩=>by rw[e];exact(ry a ha).1) λb hb=>(ry b (e4▸hb)).1;have:(nQ A v).filter (λx=>!decide (cC R x.f<=cC R v))=DU A R v:=by
  unfold DU;refine List.filter_congr λx _=>?_
  by_cases hh:cC R x.f<=cC R v
  ·simp[hh]
  ·simp[hh];omega
 rw[<-this];exact v4
end
theorem Build_i{N:mZ}{n:Nat}{L:List bQ}{W:aH}{Q:cO->aH->Prop}(h:lI W N n L)(hn:n<=51)(hw:∀e∈L,e.w<=40)
  (hQ:∀w' H,oM w' H n (cX n L n).all (cX n L n).iZ->aN W w'->(∀k,H.dK k->W.heap.size<=k)->Q (some ⟨H.gl,0,none⟩) w'):vR (some ⟨N.g,0,none⟩) W Q:=by
 unfold vR;have hL:=h.ok;have hLl:=hL.len h.sz;refine aF (λh=>by simp at h) (λ_=>?_);have d0:aN W W.drew:=aY.drew (aY.refl _ W);refine Copy_i (h.aO d0) aB λw1 C hC k1 fC=>?_;have K1:=d0.tr k1;refine RC (h.aO K1) ?_;refine BZ Jv (aX:=eB) false rfl Wu aB (lM _) aB aB λw3 v3 k3=>?_;simp only[lJ] at v3 ⊢;have K3:=K1.tr k3;refine Copy_i (h.aO K3) aB λw4 A hA k4 fA=>?_;have K4:=K3.tr k4;refine RC (h.aO K4) ?_;refine BZ iN (aX:=eI) (0:Int) rfl fM aB (lM _) aB aB λw6 v6 k6=>?_;simp only[lJ] at v6 ⊢;have K6:=K4.tr k6;refine bP λw7 o7 k7 z7=>?_;have K7:=K6.tr k7;refine RC (h.aO K7) ?_;have c1:=hC.at_;have hC7:=(((hC.aO k3).aO k4).aO k6).aO k7;have hA7:=(hA.aO k6).aO k7;have v37:=((v3.aL k4 λ_ _=>id).aL k6 λ_ _=>id).aL k7 λ_ _=>id;have v67:=v6.aL k7 λ_ _=>id;have z13:w1.heap.size<w3.heap.size:=v3.lt rfl;have z46:w4.heap.size<w6.heap.size:=v6.lt rfl;have zW1:W.heap.size<=w1.heap.size:=K1.size;have z34:w3.heap.size<=w4.heap.size:=k4.size;have sepC:∀k,C.dK k->W.heap.size<=k/\k<w1.heap.size:=λk hk=>⟨fC k hk,hC.at_.lt hk⟩;have sepA:∀k,A.dK k->w3.heap.size<=k/\k<w4.heap.size:=λk hk=>⟨fA k hk,hA.at_.lt hk⟩;generalize vY:(⟨some ⟨w1.heap.size,0,none⟩,n,n⟩:Sl)=s1 at*;generalize IT:(⟨some ⟨w4.heap.size,0,none⟩,n,n⟩:Sl)=s2 at*;have ON:s1.b=some ⟨w1.heap.size,0,none⟩:=by rw[<-vY]
 have fa:s2.b=some ⟨w4.heap.size,0,none⟩:=by rw[<-IT]
 have s1l:s1.l=n:=by rw[<-vY]
 have s2l:s2.l=n:=by rw[<-IT]
 generalize hg1:w1.heap.size=bg at*;generalize Ap:w4.heap.size=br at*;generalize zc:w6.heap.size=bl at*;refine bK (λc t w9=>∃(k:Nat) (C' A':mZ),k<=n/\c=n-k/\t=((k:Int),())/\lI w9 C' n (cX n L k).left/\C'.g=C.g/\lI w9 A' n (cX n L k).all/\A'.g=A.g/\dP w9 yB 1 eB s1 (cX n L k).gone/\dP w9 cZ 1 eI s2 (cX n L k).iZ/\
   cW w9 bl tLev [.pointer (some ⟨A.g,0,none⟩),sv s2]/\aN W w9/\(∀b,C'.dK b->W.heap.size<=b/\¬A'.dK b/\b≠bg/\b≠br/\b≠bl)/\(∀b,A'.dK b->W.heap.size<=b/\b≠bg/\b≠br/\b≠bl)/\w7.heap.size<=w9.heap.size) n
  ⟨0,C,A,iF _,rfl,rfl,hC7,rfl,hA7,rfl,v37,v67,by rw[<-IT];exact o7,K7,λb hb=>?_,λb hb=>?_,iX _⟩ ?_
 ·obtain⟨q1,q2⟩:=sepC b hb
  exact⟨q1,λbY=>by have:=sepA b bY;omega,aB,aB,aB⟩
 ·obtain⟨q1,q2⟩:=sepA b hb
  exact⟨aB,aB,aB,aB⟩
 rintro c t w9 ⟨k,C',A',hk,rfl,rfl,hC9,gC9,hA9,gA9,u1,u2,ol9,K9,fC9,fA9,z9⟩ X hX;dsimp only;have VH:=xO hL hw hn k hk;refine aJ (λcL=>?_) (λlK=>?_)
 ·have lT:k<n:=aB
  obtain⟨x0,x1,xg⟩:=AR VH lT;have BB:cX n L (k+1)=pJ n k (cX n L k):=rfl;rw[<-gC9];refine First_i hC9 (u1.rd Wu) (by rw[VH.gl];omega) λeY IS=>?_;unfold pJ at BB;generalize kU n (cX n L k).left (cX n L k).gone=v at*;refine Bz (hC9.aO IS) λs3 eN v11 LF f11=>?_;have je:=IS.tr LF;have sl3:=v11.len;have hsb:=Oq VH.Ez h.sz v;have hC11:=hC9.aO je;have hA11:=hA9.aO je;have f11':∀b,s3.b=some b->¬C'.dK b.block/\¬A'.dK b.block/\b.block<eN.heap.size:=λb hb=>by
   have h1:=f11 b hb;have h2:=IS.size;exact⟨λhh=>by have:=hC9.at_.lt hh;omega,λhh=>by have:=hA9.at_.lt hh;omega,v11.lt hb⟩
  refine bK (λc t eQ=>∃(i:Nat) (C2 A2:mZ),i<=(fU n (cX n L k).left v).length/\c=(fU n (cX n L k).left v).length-i/\t=((i:Int),())/\lI eQ C2 n (gO n (cX n L k).left ((fU n (cX n L k).left v).take i))/\C2.g=C'.g/\lI eQ A2 n (gO n (cX n L k).all ((fU n (cX n L k).left v).take i))/\A2.g=A'.g/\
    dP eQ iT 4 eC s3 (fU n (cX n L k).left v)/\dP eQ yB 1 eB s1 (cX n L k).gone/\dP eQ cZ 1 eI s2 (cX n L k).iZ/\cW eQ bl tLev [.pointer (some ⟨A.g,0,none⟩),sv s2]/\aN W eQ/\
    (∀b,C2.dK b->W.heap.size<=b/\¬A2.dK b/\b≠bg/\b≠br/\b≠bl/\∀a,s3.b=some a->b≠a.block)/\(∀b,A2.dK b->W.heap.size<=b/\b≠bg/\b≠br/\b≠bl/\∀a,s3.b=some a->b≠a.block)/\eN.heap.size<=eQ.heap.size) (fU n (cX n L k).left v).length
   ⟨0,C',A',iF _,rfl,rfl,hC11,rfl,hA11,rfl,v11,u1.aL je (λ_ _=>id),u2.aL je (λ_ _=>id),ol9.aL je id,K9.tr je,λb hb=>?_,λb hb=>?_,iX _⟩ ?_
  ·obtain⟨q1,q2,q3,q4,q5⟩:=fC9 b hb
   exact⟨q1,q2,q3,q4,q5,λa ha e=>(f11' a ha).1 (e▸hb)⟩
  ·obtain⟨q1,q3,q4,q5⟩:=fA9 b hb
   exact⟨q1,q3,q4,q5,λa ha e=>(f11' a ha).2.1 (e▸hb)⟩
  rintro c t eQ ⟨i,C2,A2,hi,rfl,rfl,hC12,gC12,hA12,gA12,YK,Cg,r12,l12,sk,YU,Rv,z12⟩ Y hY;have zz9:w7.heap.size<=eQ.heap.size:=by have:=je.size;omega
  refine aJ (λFx=>?_) (λjs=>?_)
  ·have hlt2':(i:Int)<(s3.l:Int):=Fx
   have dF:i<(fU n (cX n L k).left v).length:=aB;obtain⟨p,hp,hh⟩:=wR (YK.rd kL) (gU dF);have tkC:=NR n (cX n L k).left ((fU n (cX n L k).left v).take i) (fU n (cX n L k).left v)[i];have tkA:=NR n (cX n L k).all ((fU n (cX n L k).left v).take i) (fU n (cX n L k).left v)[i];rw[<-FW dF] at tkC tkA;generalize (fU n (cX n L k).left v)[i]=x at*;show(0<=(i:Int)/\(i:Int)<(s3.l:Int))/\_;rw[lJ];refine⟨⟨aB,hlt2'⟩,aA hp (bJ (nY x) hh ?_)⟩;simp only[aG];refine HH λmQ Lm o14 zb14=>?_;refine bJ (nY x) (iP o14) ?_;have hC14:=hC12.aO Lm;have hA14:=hA12.aO Lm;have K14:=sk.tr Lm;have nbC:∀b,C2.dK b->b≠eQ.heap.size:=λb hb e=>by have:=hC12.at_.lt hb;omega
   have nbA:∀b,A2.dK b->b≠eQ.heap.size:=λb hb e=>by have:=hA12.at_.lt hb;omega
   have zW12:=sk.size;have slt:∀a,s3.b=some a->a.block<eQ.heap.size:=λa ha=>YK.lt ha;generalize Nq:eQ.heap.size=b3 at*;rw[<-gC12];refine Put_i hC14 λfV C3 hC15 gC15 Fa f15=>?_;have hA15:=hA14.aL Fa λb hb bY=>(YU b bY).2.1 hb;have o15:=o14.aL Fa λhb=>nbC b3 hb rfl;have v15:=(YK.aL Lm λ_ _=>id).aL Fa λa ha hb=>(YU _ hb).2.2.2.2.2 a ha rfl;have u15:=(Cg.aL Lm λ_ _=>id).aL Fa λa ha hb=>by rw[ON] at ha;cases ha;exact(YU _ hb).2.2.1 rfl
   have r15:=(r12.aL Lm λ_ _=>id).aL Fa λa ha hb=>by rw[fa] at ha;cases ha;exact(YU _ hb).2.2.2.1 rfl
   have l15:=(l12.aL Lm id).aL Fa λhb=>(YU _ hb).2.2.2.2.1 rfl;have K15:aN W fV:=aY.fresh K14 Fa λb hb=>(YU b hb).1;have fC15:∀b,C3.dK b->W.heap.size<=b/\¬A2.dK b/\b≠bg/\b≠br/\b≠bl/\b≠b3/\∀a,s3.b=some a->b≠a.block:=λb hb=>by
    rcases f15 b hb with hb|hb
    ·obtain⟨q1,q2,q3,q4,q5,q6⟩:=YU b hb
     exact⟨q1,q2,q3,q4,q5,nbC b hb,q6⟩
    ·have:=hA14.at_
     exact⟨aB,λh'=>by have:=hA14.at_.lt h';omega,aB,aB,aB,aB,λa ha e=>by have:=slt a ha;omega⟩
   have d15:aN fV fV.drew:=aY.drew (aY.refl _ fV);have l15d:=l15.aL d15 id;refine aE (k:=.ptr) (some ⟨A.g,0,none⟩) (by rw[aS,l15d.cell];rfl) (bJ (nY x) (iP (o15.aL d15 id)) ?_);rw[<-gA9,<-gA12];refine Put_i (hA15.aO d15) λgX A3 hA16 gA16 m16 f16=>?_;have jc:aY A2.dK fV gX:=d15.wk.tr m16;have hC16:=hC15.aL jc λb hb bY=>(fC15 b hb).2.1 bY;have v16:=v15.aL jc λa ha hb=>(Rv _ hb).2.2.2.2 a ha rfl;have u16:=u15.aL jc λa ha hb=>by rw[ON] at ha;cases ha;exact(Rv _ hb).2.1 rfl
   have r16:=r15.aL jc λa ha hb=>by rw[fa] at ha;cases ha;exact(Rv _ hb).2.2.1 rfl
   have l16:=l15.aL jc λhb=>(Rv _ hb).2.2.2.1 rfl;have K16:aN W gX:=aY.fresh K15 jc λb hb=>(Rv b hb).1;have z1516:fV.heap.size<=gX.heap.size:=jc.size;have z1415:=Fa.size;rw[qM i aB];refine hY _ _ _ aB ⟨i+1,C3,A3,dF,rfl,rfl,by rw[tkC];exact hC16,by rw[gC15,gC12],by rw[tkA];exact hA16,by rw[gA16,gA12],v16,u16,r16,l16,K16,λb hb=>?_,λb hb=>?_,aB⟩
   ·obtain⟨q1,q2,q3,q4,q5,_,q6⟩:=fC15 b hb
    refine⟨q1,λbY=>?_,q3,q4,q5,q6⟩;rcases f16 b bY with h'|h'
    ·exact q2 h'
    ·have h'':fV.heap.size<=b:=h'
     have:=hC15.at_.lt hb;omega
   ·rcases f16 b hb with h'|h'
    ·obtain⟨q1,q3,q4,q5,q6⟩:=Rv b h'
     exact⟨q1,q3,q4,q5,q6⟩
    ·have h'':fV.heap.size<=b:=h'
     exact⟨aB,aB,aB,aB,λa ha e=>by have:=slt a ha;omega⟩
  ·have hge2':¬(i:Int)<(s3.l:Int):=js
   have ei:i=(fU n (cX n L k).left v).length:=aB;subst ei;rw[pF] at hC12 hA12;rw[<-gC12];refine Cut_i hC12 λlP C3 hC17 gC17 yw f17=>?_;have hA17:=hA12.aL yw λb hb bY=>(YU b bY).2.1 hb;have u17:=Cg.aL yw λa ha hb=>by rw[ON] at ha;cases ha;exact(YU _ hb).2.2.1 rfl
   have r17:=r12.aL yw λa ha hb=>by rw[fa] at ha;cases ha;exact(YU _ hb).2.2.2.1 rfl
   have l17:=l12.aL yw λhb=>(YU _ hb).2.2.2.2.1 rfl;have K17:aN W lP:=aY.fresh sk yw λb hb=>(YU b hb).1;have zl:=VH.rl;have zg:=VH.gl;refine aE (k:=.slice) s2 (by rw[aS,l17.cell];rfl) ?_;refine⟨⟨x0,by rw[s2l];omega⟩,aA fa ?_⟩;refine r17.store fM fa (i:=v.toNat) aB (k:Int) (v:=aD (k:Int)) rfl cY (EZ _) λnJ r18 m18 _=>?_;have m18':aY (λb=>b=br) lP nJ:=m18;have zbg:bg≠br:=aB;have u18:=u17.aL m18' λa ha e=>by rw[ON] at ha;cases ha;exact zbg e
   refine⟨⟨x0,by first|omega|(rw[s1l];omega)⟩,aA (by first|rfl|exact ON) ?_⟩
   refine u18.store Wu ON (i:=v.toNat) aB true (v:=.bool true) rfl iL (oneB true) λqD u19 m19 _=>?_;have LI:aY (λb=>b=bg) nJ qD:=m19;have r19:=r18.aL LI λa ha e=>by rw[fa] at ha;cases ha;exact zbg (show bg=br from Eq.symm e)
   have fC17:∀b,C3.dK b->W.heap.size<=b/\¬A2.dK b/\b≠bg/\b≠br/\b≠bl:=λb hb=>by
    rcases f17 b hb with h'|h'
    ·obtain⟨q1,q2,q3,q4,q5,_⟩:=YU b h'
     exact⟨q1,q2,q3,q4,q5⟩
    ·exact⟨aB,λh''=>by have:=hA12.at_.lt h'';omega,aB,aB,aB⟩
   have hC19:=(hC17.aL m18' λb hb e=>(fC17 b hb).2.2.2.1 e).aL LI λb hb e=>(fC17 b hb).2.2.1 e;have hA19:=(hA17.aL m18' λb hb e=>(Rv b hb).2.2.1 e).aL LI λb hb e=>(Rv b hb).2.1 e;have l19:=(l17.aL m18' (show¬bl=br by omega)).aL LI (show¬bl=bg by omega);have K19:aN W qD:=(aY.fresh K17 m18' λb e=>aB).fresh LI λb e=>aB;have zz:w7.heap.size<=qD.heap.size:=by have:=yw.size;have:=m18.size;have:=m19.size;omega
   show X (aQ ((k:Int)+1),()) qD;rw[qM k aB];exact hX _ _ _ aB ⟨k+1,C3,A2,lT,rfl,rfl,by rw[BB];exact hC19,by rw[gC17,gC12,gC9],by rw[BB];exact hA19,by rw[gA12,gA9],by rw[BB];exact u19,by rw[BB];exact r19,l19,K19,fC17,λb hb=>by obtain⟨q1,q3,q4,q5,_⟩:=Rv b hb;exact⟨q1,q3,q4,q5⟩,zz⟩
 ·have e:k=n:=aB
  subst e;refine hQ w9 ⟨A',bl,s2⟩ ⟨by rw[gA9];exact ol9,hA9,u2,VH.rl⟩ K9 λb hb=>?_;rcases hb with hb|hb|⟨a,ha,rfl⟩
  ·have bY:b=bl:=hb
   omega
  ·exact(fA9 b hb).1
  ·rw[show(Mi.mk A' bl s2).rs=s2 from rfl,fa] at ha;cases ha;show W.heap.size<=br;omega
end
section
abbrev eP(p:Int×Int):List Value:=[aD p.1,aD p.2]
theorem VF:∀p:Int×Int,(eP p).length=2:=λ_=>rfl
theorem oneP:∀p:Int×Int,∀u∈eP p,u.oneCell'=true:=by intro p u hu;simp at hu;rcases hu with rfl|rfl<;>rfl
theorem dP.new{α:Type}{w:aH}{e:TypeId}{n:Nat}{aX:α->List Value}{g:Nat}(gA:∀x,(aX x).length=n)(xs:List α)(h:cW w g e (xs.flatMap aX))(hm:xs.length<=maxLen):dP w e n aX ⟨some ⟨g,0,none⟩,xs.length,xs.length⟩ xs:=
 ⟨rfl,iX _,hm,.inr ⟨g,[],rfl,by rw[sG];exact h,by rw[sG];exact bI gA xs⟩⟩
theorem HM{s:Sl}{xs:List Int}{w:aH}{Q:Sl->aH->Prop}(hs:Rd w s 1 eI xs)(hb:xs.length<1099511627776)
  (hQ:∀s' w',dP w' cZ 1 eI s' xs->aN w w'->(∀b,s'.b=some b->w.heap.size<=b.block)->Q s' w'):dG s w Q:=by
 unfold dG;refine aF (λh=>?_) (λh=>?_)
 ·have hn:xs=[]:=by
   cases xs with
   |nil=>rfl
   |cons x r=>obtain⟨a,ha,_⟩:=hs.get 0 x rfl;rw[ha] at h;cases h
  subst hn;exact hQ _ w (dP.nil _ _ _ _) (aY.refl _ _) (λb hb=>by cases hb)
 ·refine bP λw1 o1 k1 z1=>?_
  have v0:dP w1 cZ 1 eI ⟨some ⟨w.heap.size,0,none⟩,0,0⟩ []:=dP.new fM [] o1 dJ;refine fO iN fM EZ v0 (hs.aL k1 dA (λ_ _=>id)) (by simp;omega) (by simp;omega) λr w' hr hm Vp _=>?_;refine hQ r w' (by simpa using hr) (aY.fresh k1 hm λk ⟨a,ha,hk⟩=>by cases ha;rw[hk];exact iX _) λb hb=>?_;rcases Vp with h1|⟨b',bY,cL⟩
  ·rw[hb] at h1;cases h1;exact iX _
  ·rw[hb] at bY;cases bY;have:=k1.size;omega
section
variable{w:aH}{H:Mi}{n:Nat}{A L:List bQ}{R:List Int}
end
end
section
theorem GY(p:Int×Int):eP p≠[]:=by simp
theorem FG:∀r:R3,(eR3 r).length=3:=λ_=>rfl
theorem oneR3:∀r:R3,∀u∈eR3 r,u.oneCell'=true:=by intro r u hu;simp at hu;rcases hu with rfl|rfl|rfl<;>rfl
theorem fD{t:TypeId}{w:aH}{g:Nat}{e:TypeId}{cs vs:List Value}{K:aH->Prop}(h:cW w g e cs)(ht:(prog.info? t).map (·.size)=some vs.length)(hl:cs.length=vs.length)(h1:∀u∈vs,u.oneCell'=true)
  (hK:∀w',cW w' g e vs->aY (λk=>k=g) w w'->w'.heap.size=w.heap.size->K w'):aI prog t ⟨g,0,none⟩ (.agg vs.toArray) w K:=by
 refine CD h (by rw[ht];simp[Value.cells]) (by simp[Value.cells,hl]) (by simpa [Value.cells] using h1) λw' ho hm hz=>hK w' ?_ hm hz;have:cs.take 0++(Value.agg vs.toArray).cells.toList++cs.drop (0+(Value.agg vs.toArray).cells.size)=vs:=by
  simp[Value.cells,List.drop_of_length_le (show cs.length<=vs.length by omega)]
 rwa[this] at ho
theorem eZ{t:TypeId}{zs vs:List Value}{w:aH}{K:Addr->aH->Prop}(ht:(prog.info? t).map (·.size)=some vs.length)(hl:zs.length=vs.length)(h1:∀u∈vs,u.oneCell'=true)
  (hK:∀w',cW w' w.heap.size t vs->aN w w'->w'.heap.size=w.heap.size+1->K ⟨w.heap.size,0,none⟩ w'):aG w zs.toArray t λa w1=>aI prog t a (.agg vs.toArray) w1 λw2=>K a w2:=
 bP λw1 o1 k1 z1=>fD o1 ht hl h1 λw2 o2 m2 z2=>hK w2 o2 (k1.fresh m2 λk e=>by rw[show k=w.heap.size from e];exact iX _) aB
theorem BG{w:aH}{g:Nat}{e:TypeId}{x y z:Value}(h:cW w g e [x,y,z]):w.cell? ((⟨g,0,none⟩:Addr).add 0)=some x/\w.cell? ((⟨g,0,none⟩:Addr).add 1)=some y/\w.cell? ((⟨g,0,none⟩:Addr).add 2)=some z:=by
 refine⟨?_,?_,?_⟩<;>rw[aS,h.cell]<;>rfl
theorem Rl{w:aH}{g:Nat}{e:TypeId}{x y:Value}(h:cW w g e [x,y]):w.cell? ((⟨g,0,none⟩:Addr).add 0)=some x/\w.cell? ((⟨g,0,none⟩:Addr).add 1)=some y:=by
 refine⟨?_,?_⟩<;>rw[aS,h.cell]<;>rfl
theorem Qs{w:aH}{s:Sl}{xs:List (Int×Int)}(h:Rd w s 2 eP xs){i:Nat}{x:Int×Int}(hx:xs[i]? =some x):∃a,s.b=some a/\bW w (a.add (i*2)) 0 (qP [.i,.i] (x.1,x.2,()))/\
  w.cell? ((a.add (i*2)).add 0)=some (aD x.1)/\w.cell? ((a.add (i*2)).add 1)=some (aD x.2):=by
 obtain⟨a,ha,hh⟩:=h.get i x hx;have h2:=oS.1 hh;exact⟨a,ha,hh,by simpa using h2 0 _ rfl,by simpa using h2 1 _ rfl⟩
theorem rd3{w:aH}{s:Sl}{xs:List R3}(h:Rd w s 3 eR3 xs){i:Nat}{x:R3}(hx:xs[i]? =some x):∃a,s.b=some a/\bW w (a.add (i*3)) 0 (qP [.i,.i,.i] (x.1,x.2.1,x.2.2,()))/\
  w.cell? ((a.add (i*3)).add 0)=some (aD x.1)/\w.cell? ((a.add (i*3)).add 1)=some (aD x.2.1)/\w.cell? ((a.add (i*3)).add 2)=some (aD x.2.2):=by
 obtain⟨a,ha,hh⟩:=h.get i x hx;have h2:=oS.1 hh;exact⟨a,ha,hh,by simpa using h2 0 _ rfl,by simpa using h2 1 _ rfl,by simpa using h2 2 _ rfl⟩
abbrev GT:=Sl×Sl×Sl×Unit
abbrev Au(g:GT):List Value:=[sv g.1,sv g.2.1,sv g.2.2.1]
structure TA(w:aH)(g:GT)(G:Gr):Prop where
 nd:Rd w g.1 2 eP G.N
 ed:Rd w g.2.1 3 eR3 G.E
 bn:Rd w g.2.2.1 2 eP G.B
theorem TA.aO{w w':aH}{g:GT}{G:Gr}(h:TA w g G)(k:aN w w'):TA w' g G:=
 ⟨h.nd.aL k GY λ_ _=>id,h.ed.aL k ZE λ_ _=>id,h.bn.aL k GY λ_ _=>id⟩
theorem Xx(g:GT):∀u∈Au g,u.oneCell'=true:=by intro u hu;simp at hu;rcases hu with rfl|rfl|rfl<;>rfl
theorem KY{w:aH}{b:Nat}{e:TypeId}{g:GT}(h:cW w b e (Au g)):bW w ⟨b,0,none⟩ 0 (qP [.slice,.slice,.slice] g):=iP h
theorem TA.mC{w:aH}{g:GT}{G:Gr}(h:TA w g G){i:Int}(hi:G.pP i):∃a,g.2.1.b=some a/\bW w (a.add (i.toNat*3)) 0 (qP [.i,.i,.i] (G.fr i,G.to i,G.wt i,()))/\
  w.cell? ((a.add (i.toNat*3)).add 0)=some (aD (G.fr i))/\w.cell? ((a.add (i.toNat*3)).add 1)=some (aD (G.to i))/\w.cell? ((a.add (i.toNat*3)).add 2)=some (aD (G.wt i)):=rd3 h.ed (G.get_ed hi)
structure Sc where
 g:Nat
 v:GT
 out:Sl
 LU:Sl
 fr:Sl
 to:Sl
def ByN(w:aH)(row first:Sl)(n m:Nat)(key:Int->Int):Prop:=∃fs rs,Rd w first 1 eI fs/\Rd w row 1 eI rs/\fs.length=n+1/\rs.length=m/\(∀i,i<=n->fs[i]? =some (qE (cK key m) i:Int))/\
 ∀v,v<n->qE (cK key m) v+cK key m v<=m/\(rs.drop (qE (cK key m) v)).take (cK key m v)=fy key m v
theorem ByN.aO{w w':aH}{row first:Sl}{n m:Nat}{key:Int->Int}(h:ByN w row first n m key)(k:aN w w'):ByN w' row first n m key:=by
 obtain⟨fs,rs,h1,h2,h3⟩:=h;exact⟨fs,rs,h1.aL k dA λ_ _=>id,h2.aL k dA λ_ _=>id,h3⟩
def Ty(w:aH)(s:Sl):Prop:=∀b,s.b=some b->∃t cs,cW w b.block t cs/\t≠31/\t≠gP
theorem Ty.aO{w w':aH}{s:Sl}(h:Ty w s)(k:aN w w'):Ty w' s:=λb hb=>by
 obtain⟨t,cs,o,h1⟩:=h b hb;exact⟨t,cs,o.aL k id,h1⟩
theorem Ty.nil{w:aH}:Ty w bD:=λb hb=>by cases hb
theorem dP.Li{α:Type}{w:aH}{e:TypeId}{n:Nat}{aX:α->List Value}{s:Sl}{xs:List α}(h:dP w e n aX s xs)(h1:e≠31/\e≠gP):Ty w s:=λb hb=>by
 rcases h.gN with⟨h0,_⟩|⟨g,cR,h0,ho,_⟩
 ·rw[hb] at h0;cases h0
 ·rw[hb] at h0;cases h0;exact⟨e,_,ho,h1⟩
structure vE(w:aH)(H:Sc)(G:Gr):Prop where
 ok:xJ G
 head:cW w H.g tGraph [sv H.v.1,sv H.v.2.1,sv H.v.2.2.1,sv H.out,sv H.LU,sv H.fr,sv H.to]
 val:TA w H.v G
 out:ByN w H.out H.fr G.n G.m G.fr
 LU:ByN w H.LU H.to G.n G.m G.to
 Li:Ty w H.v.1/\Ty w H.v.2.1/\Ty w H.v.2.2.1/\Ty w H.out/\Ty w H.LU/\Ty w H.fr/\Ty w H.to
theorem vE.aO{w w':aH}{H:Sc}{G:Gr}(h:vE w H G)(k:aN w w'):vE w' H G:=⟨h.ok,h.head.aL k id,h.val.aO k,h.out.aO k,h.LU.aO k,h.Li.1.aO k,h.Li.2.1.aO k,h.Li.2.2.1.aO k,h.Li.2.2.2.1.aO k,h.Li.2.2.2.2.1.aO k,h.Li.2.2.2.2.2.1.aO k,h.Li.2.2.2.2.2.2.aO k⟩
section
variable{w:aH}{H:Sc}{G:Gr}
theorem vE.cells(h:vE w H G):w.cell? ((⟨H.g,0,none⟩:Addr).add 0)=some (sv H.v.1)/\w.cell? ((⟨H.g,0,none⟩:Addr).add 1)=some (sv H.v.2.1)/\w.cell? ((⟨H.g,0,none⟩:Addr).add 2)=some (sv H.v.2.2.1)/\
  w.cell? ((⟨H.g,0,none⟩:Addr).add 3)=some (sv H.out)/\w.cell? ((⟨H.g,0,none⟩:Addr).add 4)=some (sv H.LU)/\w.cell? ((⟨H.g,0,none⟩:Addr).add 5)=some (sv H.fr)/\w.cell? ((⟨H.g,0,none⟩:Addr).add 6)=some (sv H.to):=by
 have hh:=h.head;refine⟨?_,?_,?_,?_,?_,?_,?_⟩<;>rw[aS,hh.cell]<;>rfl
theorem tG{Q:Int->aH->Prop}(h:vE w H G)(hQ:Q (G.m:Int) w):gK (some ⟨H.g,0,none⟩) w Q:=by
 unfold gK;refine aF (λh=>by simp at h) (λ_=>aA rfl ?_);rw[add_zero];refine aE (k:=.slice) H.v.2.1 h.cells.2.1 ?_;rw[h.val.ed.len];exact hQ
theorem OX{Q:Int->aH->Prop}(h:vE w H G)(hQ:Q (G.n:Int) w):pM (some ⟨H.g,0,none⟩) w Q:=by
 unfold pM;refine aF (λh=>by simp at h) (λ_=>aA rfl ?_);rw[add_zero];refine aE (k:=.slice) H.v.1 h.cells.1 ?_;rw[h.val.nd.len];exact hQ
theorem JR{i:Int}{Q:(Int×Int×Int×Unit)->Bool->aH->Prop}(h:vE w H G)(ji:G.pP i->∀w',aN w w'->Q (G.fr i,G.to i,G.wt i,()) true w')(uX:¬G.pP i->∀w',aN w w'->Q (0,0,0,()) false w'):
  iY (some ⟨H.g,0,none⟩) i w Q:=by
 unfold iY;refine bP λw1 o1 k1 z1=>?_;have zz:∀w2,aN w w2->cW w2 w.heap.size QP [aD 0,aD 0,aD 0]->¬G.pP i->aI prog QP ⟨w.heap.size,0,none⟩ (Value.agg #[(aD 0),(aD 0),(aD 0)]) w2 λw3=>
   fL [.i,.i,.i] w3 ⟨w.heap.size,0,none⟩ λ(t1:Int×Int×Int×Unit)=>Q (t1.1,t1.2.1,t1.2.2.1,()) false w3:=λw2 k2 o2 hn=>by
  refine fD (vs:=[aD 0,aD 0,aD 0]) o2 jO rfl (by simp[Value.oneCell']) λw3 o3 m3 _=>?_;refine bJ (l:=[.i,.i,.i]) ((0:Int),(0:Int),(0:Int),()) (iP o3) (uX hn w3 (k2.fresh m3 λk e=>by rw[show k=w.heap.size from e];exact iX _))
 refine aJ (λQC=>zz w1 k1 o1 λhi=>aB) (λuN=>?_);refine tG (h.aO k1) ?_;refine aJ (λlK=>zz w1 k1 o1 λhi=>aB) (λcL=>?_);have hi:G.pP i:=⟨aB,aB⟩;have h1:=h.aO k1;refine aA rfl ?_;rw[add_zero];refine aE (k:=.slice) H.v.2.1 h1.cells.2.1 ?_;obtain⟨a,ha,hh,_⟩:=h1.val.mC hi;refine⟨⟨hi.1,by rw[h1.val.ed.len];exact hi.2⟩,aA ha (bJ (l:=[.i,.i,.i]) (G.fr i,G.to i,G.wt i,()) hh ?_)⟩;refine fD (vs:=[aD (G.fr i),aD (G.to i),aD (G.wt i)]) o1 jO rfl (by simp[Value.oneCell']) λw3 o3 m3 _=>?_;exact bJ (l:=[.i,.i,.i]) (G.fr i,G.to i,G.wt i,()) (iP o3) (ji hi w3 (k1.fresh m3 λk e=>by rw[show k=w.heap.size from e];exact iX _))
theorem part_i{row first:Sl}{key:Int->Int}(h:ByN w row first G.n G.m key)(hm:G.m<=51){node:Int}(hn:G.UL node){Q:Sl->aH->Prop}
  (hQ:∀s w',dP w' cZ 1 eI s (fy key G.m node.toNat)->aN w w'->(∀b,s.b=some b->w.heap.size<=b.block)->Q s w'):
  ∃x2 x3:Int,(∃a,first.b=some a/\w.cell? (a.add (node.toNat*1))=some (aD x2)/\w.cell? (a.add ((node+1).toNat*1))=some (aD x3))/\(0<=node/\node+1<(first.l:Int))/\(0<=x3/\x3<=(row.c:Int))/\
  (0<=x2/\x2<=(((Int.toNat x3):Nat):Int))/\dG ⟨(aR row.b row.c (Int.toNat x2) 1),((Int.toNat x3)-(Int.toNat x2)),(row.c-(Int.toNat x2))⟩ w Q:=by
 obtain⟨fs,rs,h1,h2,h3,h4,h5,h6⟩:=h;obtain⟨p1,p2⟩:=h6 node.toNat (by have:=hn.1;have:=hn.2;omega);have hl:=h2.len;have Rs:=h2.cap;have e1:=h5 node.toNat (by have:=hn.2;omega);have e2:=h5 (node.toNat+1) (by have:=hn.1;have:=hn.2;omega);obtain⟨a,ha,Vu⟩:=cQ (k:=.i) (e:=λx=>x) h1 e1;obtain⟨a',pE,PX⟩:=cQ (k:=.i) (e:=λx=>x) h1 e2;rw[ha] at pE;cases pE;have hp:qE (cK key G.m) (node.toNat+1)=qE (cK key G.m) node.toNat+cK key G.m node.toNat:=rfl;have ic:(node+1).toNat=node.toNat+1:=by have:=hn.1;omega
 refine⟨_,_,⟨a,ha,Vu,by rw[ic];exact PX⟩,⟨hn.1,by have:=h1.len;have:=hn.2;omega⟩,⟨aB,aB⟩,⟨aB,aB⟩,?_⟩;simp only[lJ];have Gq:=h2.part (i:=qE (cK key G.m) node.toNat) (j:=qE (cK key G.m) (node.toNat+1)) (c:=row.c) aB aB aB (iX _);rw[hp,Nat.add_sub_cancel_left,p2] at Gq;refine HM (xs:=fy key G.m node.toNat) ?_ (by have:=mg key G.m node.toNat;unfold cK at this;omega) hQ;rw[hp,Nat.add_sub_cancel_left];exact Gq
theorem xr{key:Int->Int}{m:Nat}{node:Int}(h:0<=node):fy key m node.toNat=(oJ m).filter λe=>decide (key e=node):=by
 unfold fy;rw[Int.toNat_of_nonneg h]
theorem xq{key:Int->Int}{m n:Nat}(hk:∀e:Int,0<=e/\e<m->0<=key e/\key e<n){node:Int}(h:¬(0<=node/\node<n)):((oJ m).filter λe=>decide (key e=node))=[]:=by
 rw[List.filter_eq_nil_iff];intro e he hd;have:=hk e (CJ.1 he);have:key e=node:=by simpa using hd
 omega
theorem wnode{node:Int}(h:G.UL node)(ok:xJ G):aQ (node+(1:Int))=node+1:=by have:=ok.n1;have:=h.1;have:=h.2;exact gV aB aB
theorem gOut_i{node:Int}{Q:Sl->aH->Prop}(h:vE w H G)(hQ:∀s w',dP w' cZ 1 eI s (G.Wr node)->aN w w'->(∀b,s.b=some b->w.heap.size<=b.block)->Q s w'):XE (some ⟨H.g,0,none⟩) node w Q:=by
 unfold XE;have nil:¬G.UL node->Q bD w:=λhn=>by
  refine hQ _ w ?_ (aY.refl _ _) λb hb=>by cases hb
  unfold Gr.Wr;rw[xq (n:=G.n) (λe he=>(h.ok.ed _ (G.TL he)).1) hn];exact dP.nil _ _ _ _
 refine aJ (λh=>nil λhn=>aB) (λh0=>OX h (aJ (λh=>nil λhn=>aB) (λh1=>?_)));have hn:G.UL node:=⟨aB,aB⟩;have d:aN w w.drew:=aY.drew (aY.refl _ w);have hd:=h.aO d;have hc:=hd.cells;obtain⟨x2,x3,⟨a,ha,c1,c2⟩,⟨b0,b1⟩,q1,q2,hcl⟩:=part_i hd.out h.ok.m1.2 hn (Q:=Q) λs w' v k f=>hQ s w' (by rw[xr hn.1] at v;exact v) (d.tr k) f;refine aA rfl (aE (k:=.slice) H.out hc.2.2.2.1 (aA rfl (aE (k:=.slice) H.fr hc.2.2.2.2.2.1 ⟨⟨b0,aB⟩,aA ha (aE (k:=.i) x2 c1 (aA rfl (aE (k:=.slice) H.fr hc.2.2.2.2.2.1 ?_)))⟩)));rw[wnode hn h.ok];exact⟨⟨aB,aB⟩,aA ha (aE (k:=.i) x3 c2 ⟨q1,q2,hcl⟩)⟩
theorem gIn_i{node:Int}{Q:Sl->aH->Prop}(h:vE w H G)(hQ:∀s w',dP w' cZ 1 eI s (G.Vl node)->aN w w'->(∀b,s.b=some b->w.heap.size<=b.block)->Q s w'):WL (some ⟨H.g,0,none⟩) node w Q:=by
 unfold WL;have nil:¬G.UL node->Q bD w:=λhn=>by
  refine hQ _ w ?_ (aY.refl _ _) λb hb=>by cases hb
  unfold Gr.Vl;rw[xq (n:=G.n) (λe he=>(h.ok.ed _ (G.TL he)).2.1) hn];exact dP.nil _ _ _ _
 refine aJ (λh=>nil λhn=>aB) (λh0=>OX h (aJ (λh=>nil λhn=>aB) (λh1=>?_)));have hn:G.UL node:=⟨aB,aB⟩;have d:aN w w.drew:=aY.drew (aY.refl _ w);have hd:=h.aO d;have hc:=hd.cells;obtain⟨x2,x3,⟨a,ha,c1,c2⟩,⟨b0,b1⟩,q1,q2,hcl⟩:=part_i hd.LU h.ok.m1.2 hn (Q:=Q) λs w' v k f=>hQ s w' (by rw[xr hn.1] at v;exact v) (d.tr k) f;refine aA rfl (aE (k:=.slice) H.LU hc.2.2.2.2.1 (aA rfl (aE (k:=.slice) H.to hc.2.2.2.2.2.2 ⟨⟨b0,aB⟩,aA ha (aE (k:=.i) x2 c1 (aA rfl (aE (k:=.slice) H.to hc.2.2.2.2.2.2 ?_)))⟩)));rw[wnode hn h.ok];exact⟨⟨aB,aB⟩,aA ha (aE (k:=.i) x3 c2 ⟨q1,q2,hcl⟩)⟩
end
end
section
def jb(a b:Int×Int):Int:=if YV a.1 b.1≠0 then YV a.1 b.1 else YV a.2 b.2
theorem Hv{a b:Int×Int}:jb a b<0↔JE a b:=by
 unfold jb YV
 by_cases h1:a.1<b.1
 ·simp[h1];exact .inl h1
 ·by_cases h2:a.1>b.1
  ·simp[h1,h2];omega
  ·have:a.1=b.1:=aB
   by_cases h3:a.2<b.2
   ·simp[this,h3];exact .inr ⟨this,h3⟩
   ·by_cases h4:a.2>b.2
    ·simp[this,h3,h4]
    ·simp[this,h3,h4]
theorem aAN{a b:Int×Int}:jb a b=0↔a=b:=by
 obtain⟨a1,a2⟩:=a;obtain⟨b1,b2⟩:=b;unfold jb YV;simp only[Prod.mk.injEq]
 by_cases h1:a1<b1
 ·simp[h1];omega
 ·by_cases h2:a1>b1
  ·simp[h1,h2];omega
  ·have:a1=b1:=aB
   subst this
   by_cases h3:a2<b2
   ·simp[h3];omega
   ·by_cases h4:a2>b2
    ·simp[h3,h4];omega
    ·simp[h3,h4];omega
theorem lex2_irr(a:Int×Int):¬JE a a:=λh=>by rcases h with h|h<;>omega
theorem xk{a b c:Int×Int}(h:JE a b)(h':JE b c):JE a c:=by unfold JE at*;omega
theorem Or_i{x y:Int}{w:aH}{g:Nat}{Q:Int->aH->Prop}(h:cW w g cZ [aD x,aD y])(hQ:Q (if x≠0 then x else y) w):AH ⟨some ⟨g,0,none⟩,2,2⟩ w Q:=by
 unfold AH;obtain⟨c0,c1⟩:=Rl h;refine bK (λc t w1=>w1=w/\((c=2/\t=((0:Int),()))\/(c=1/\t=((1:Int),())/\x=0)\/(c=0/\t=((2:Int),())/\x=0/\y=0))) 2 ⟨rfl,.inl ⟨rfl,rfl⟩⟩ ?_;rintro c t w1 ⟨rfl,BB⟩ X hX;rcases BB with⟨rfl,rfl⟩|⟨rfl,rfl,hx⟩|⟨rfl,rfl,hx,hy⟩
 ·dsimp only
  refine aJ (λ_=>⟨by decide,aA rfl (aE (k:=.i) x c0 ?_)⟩) (λh=>absurd (by decide) h);refine aF (λhn=>?_) (λhn=>?_)
  ·have:x≠0:=by simpa using hn
   rw[if_pos this] at hQ;exact hQ
  ·have:x=0:=by simpa using hn
   exact hX 1 _ _ aB ⟨rfl,.inr (.inl ⟨rfl,by rw[show aQ ((0:Int)+1)=1 by decide],this⟩)⟩
 ·dsimp only
  refine aJ (λ_=>⟨by decide,aA rfl (aE (k:=.i) y c1 ?_)⟩) (λh=>absurd (by decide) h);rw[if_neg (λh=>h hx)] at hQ;refine aF (λhn=>hQ) (λhn=>?_);have:y=0:=by simpa using hn
  exact hX 0 _ _ aB ⟨rfl,.inr (.inr ⟨rfl,by rw[show aQ ((1:Int)+1)=2 by decide],hx,this⟩)⟩
 ·dsimp only
  refine aJ (λh=>absurd h (by decide)) (λ_=>?_);rw[if_neg (λh=>h hx),hy] at hQ;exact hQ
theorem xe{a b:Int×Int}{w:aH}{Q:Int->aH->Prop}(hQ:∀w',aN w w'->Q (jb a b) w'):sY (a.1,a.2,()) (b.1,b.2,()) w Q:=by
 unfold sY;refine bP λw1 o1 k1 z1=>bP λw2 o2 k2 z2=>?_;have d:aN w2 w2.drew:=aY.drew (aY.refl _ w2);have kd:=k2.tr d;obtain⟨a0,a1⟩:=Rl (o1.aL kd id);obtain⟨b0,b1⟩:=Rl (o2.aL d id);refine aE (k:=.i) a.1 a0 (aE (k:=.i) b.1 b0 (aE (k:=.i) a.2 a1 (aE (k:=.i) b.2 b1 ?_)));refine PV ⟨b1,a1,PV ?_⟩;refine bP λw5 o5 k5 z5=>?_;exact Or_i o5 (hQ w5 ((k1.tr kd).tr k5))
theorem Pw{a b:Int×Int}{w:aH}{K:Value->aH->Prop}(hK:∀w',aN w w'->K (aD (jb a b)) w'):lQ prog (.func (.func OJ) #[] #[]) [.agg #[aD a.1,aD a.2],.agg #[aD b.1,aD b.2]] w K:=
 pI Mw iH (gJ (ks:=[.agg [.i,.i],.agg [.i,.i]]) (t:=((a.1,a.2,()),(b.1,b.2,()),())) (xe hK))
theorem cj{s:Sl}{xs:List (Int×Int)}{v:Int×Int}{w:aH}{Q:Int->Bool->aH->Prop}(hs:Rd w s 2 eP xs)(lU:xs.Pairwise JE)(fW:xs.length<4611686018427387904)
  (hQ:∀i w',aN w w'->Q i (decide (v∈xs)) w'):fI s (v.1,v.2,()) (.func (.func OJ) #[] #[]) w Q:=by
 unfold fI;have hl:=hs.len;have Rk:∀{p q:Nat} {x y:Int×Int},p<q->xs[p]? =some x->xs[q]? =some y->JE x y:=λ{p q x y} hpq hx hy=>by
  obtain⟨h1,rfl⟩:=kY.1 hx;obtain⟨h2,rfl⟩:=kY.1 hy;exact Ws.1 lU p q h1 h2 hpq
 refine bP λw1 o1 k1 z1=>?_;refine bK (λn t w'=>∃i j:Nat,i<=j/\j<=xs.length/\n=j-i/\t=((i:Int),(j:Int),())/\aN w1 w'/\(∀p x,p<i->xs[p]? =some x->JE x v)/\(∀p x,j<=p->xs[p]? =some x->¬JE x v)) xs.length
  ⟨0,xs.length,aB,aB,aB,by rw[hl];rfl,aY.refl _ _,λp x hp=>aB,λp x hp hx=>by have:=(kY.1 hx).1;omega⟩ ?_
 rintro n t w' ⟨i,j,RW,hj,rfl,rfl,hk,Ds,hhi⟩ X hX;dsimp only;have d:aN w' w'.drew:=aY.drew (aY.refl _ w');have hkd:=hk.tr d;have QL:=hs.aL (k1.tr hkd) GY (λ_ _=>id);have hv:bW w'.drew ⟨w.heap.size,0,none⟩ 0 (qP [.i,.i] (v.1,v.2,())):=iP (o1.aL hkd id);refine aJ (λh=>?_) (λh=>?_)
 ·have cL:i<j:=aB
  rw[mid_i i j aB];have hm:(i+j)/2<xs.length:=aB;have cU:=gU hm;refine⟨aB,⟨aB,aB⟩,?_⟩;obtain⟨a,ha,hh,_⟩:=Qs QL cU;generalize xs[(i+j)/2]=x at*;refine aA ha (bJ (l:=[.i,.i]) (x.1,x.2,()) hh (bJ (l:=[.i,.i]) (v.1,v.2,()) hv ?_));refine Pw λw2 k2=>⟨_,rfl,?_⟩;rw[gV (n:=(((i+j)/2:Nat):Int)+1) aB aB];refine aJ (λh=>?_) (λh=>?_)
  ·have hx:=Hv.1 h
   refine hX (j-((i+j)/2+1)) _ _ aB ⟨(i+j)/2+1,j,aB,hj,rfl,rfl,hkd.tr k2,λp y hp hy=>?_,hhi⟩;rcases Nat.lt_or_ge p ((i+j)/2) with h'|h'
   ·exact xk (Rk h' hy cU) hx
   ·have:p=(i+j)/2:=aB
    subst this;rw[cU] at hy;cases hy;exact hx
  ·have hx:¬JE x v:=λh'=>h (Hv.2 h')
   refine hX ((i+j)/2-i) _ _ aB ⟨i,(i+j)/2,aB,aB,rfl,rfl,hkd.tr k2,Ds,λp y hp hy=>?_⟩;rcases Nat.eq_or_lt_of_le hp with h'|h'
   ·subst h';rw[cU] at hy;cases hy;exact hx
   ·exactλh2=>hx (xk (Rk h' cU hy) h2)
 ·have hje:j=i:=aB
  subst hje;have loc:∀{q:Nat},xs[q]? =some v->q=j\/(j<q/\∀x,xs[j]? =some x->False):=λ{q} hq=>by
   rcases Nat.lt_trichotomy q j with h1|h1|h1
   ·exact absurd (Ds q v h1 hq) (lex2_irr v)
   ·exact .inl h1
   ·exact .inr ⟨h1,λx hx=>hhi j x (iX _) hx (Rk h1 hx hq)⟩
  refine aJ (λh=>?_) (λh=>?_)
  ·have hi:j<xs.length:=aB
   have cU:=gU hi;refine⟨⟨aB,aB⟩,?_⟩;obtain⟨a,ha,hh,_⟩:=Qs QL cU;generalize xs[j]=x at*;refine aA ha (bJ (l:=[.i,.i]) (x.1,x.2,()) hh (bJ (l:=[.i,.i]) (v.1,v.2,()) hv ?_));refine Pw λw2 k2=>⟨_,rfl,?_⟩;have e:(jb x v==0)=decide (v∈xs):=by
    rw[Bool.eq_iff_iff];simp only[beq_iff_eq,decide_eq_true_eq];rw[aAN]
    constructor
    ·rintro rfl;exact zN cU
    ·intro hm
     obtain⟨q,hq⟩:=oZ.1 hm;rcases loc hq with rfl|⟨_,h2⟩
     ·rw[cU] at hq;exact(uZ hq)
     ·exact(h2 x cU).elim
   rw[e];exact hQ _ w2 ((k1.tr hkd).tr k2)
  ·have e:decide (v∈xs)=false:=by
    rw[decide_eq_false_iff_not];intro hm;obtain⟨q,hq⟩:=oZ.1 hm;have:=(kY.1 hq).1;have h':¬((j:Int)<(s.l:Int)):=h;rcases loc hq with rfl|⟨h1,_⟩<;>omega
   have:=hQ (j:Int) w'.drew (k1.tr hkd);rw[e] at this;exact this
section
variable{w:aH}{H:Sc}{G:Gr}
theorem Zv{a b:Int}{Q:Bool->aH->Prop}(h:vE w H G)(hQ:∀w',aN w w'->Q (decide ((a,b)∈G.B)) w'):yW (some ⟨H.g,0,none⟩) a b w Q:=by
 unfold yW;refine aF (λh=>by simp at h) (λ_=>aA rfl ?_);rw[add_zero];refine aE (k:=.slice) H.v.2.2.1 h.cells.2.2.1 ?_;have:=h.ok.bl;exact cj (v:=(a,b)) h.val.bn h.ok.bs aB λi w' k=>hQ w' k
end
theorem uD{n qN high:Int}{w:aH}{Q:Bool->aH->Prop}(h:qN<=n/\n<=high)(hQ:Q true w):gL n qN high w Q:=by
 unfold gL;refine aJ (λ_=>?_) (λh'=>absurd h.1 h');rw[decide_eq_true h.2];exact hQ
theorem gmay_i{g:GT}{G:Gr}{W:aH}{Q:Bool->aH->Prop}(h:TA W g G)(ok:xJ G)(hQ:∀w',aN W w'->Q true w'):EP g W Q:=by
 unfold EP;refine bP λw1 o1 k1 z1=>?_;have hn:=ok.n1;have hm:=ok.m1;have hb:=ok.bl;have l1:=h.nd.len;have l2:=h.ed.len;have l3:=h.bn.len;have cs:∀{wx:aH},aN w1 wx->_:=λ{wx} kx=>BG (o1.aL kx id);have c1:=cs (aY.refl _ _);unfold Gr.n at hn;unfold Gr.m at hm;refine aE (k:=.slice) g.1 c1.1 (uD aB (aF (λh=>by simp at h) (λ_=>?_)));refine aE (k:=.slice) g.2.1 c1.2.1 (aJ (λh=>aB) (λ_=>?_));refine aE (k:=.slice) g.2.2.1 c1.2.2 (aJ (λh=>aB) (λ_=>?_));refine aE (k:=.slice) g.1 c1.1 ?_;refine bK (λc t w2=>∃i:Nat,i<=G.N.length/\c=G.N.length-i/\t=((i:Int),())/\aN w1 w2) G.N.length ⟨0,iF _,rfl,rfl,aY.refl _ _⟩ ?_;rintro c t w2 ⟨i,hi,rfl,rfl,k2⟩ X hX;dsimp only;refine aJ (λcL=>?_) (λlK=>?_)
 ·have dF:i<G.N.length:=aB
  have cU:=gU dF;have fk:=ok.nd _ (oE dF);obtain⟨a,ha,hh,_⟩:=Qs (h.nd.aL (k1.tr k2) GY λ_ _=>id) cU;generalize G.N[i]=x at*;rw[lJ];refine⟨⟨aB,cL⟩,aA ha (bJ (l:=[.i,.i]) (x.1,x.2,()) hh ?_)⟩;refine eZ (vs:=[aD x.1,aD x.2]) OZ rfl (by simp[Value.oneCell']) λw5 o5 k5 z5=>?_;obtain⟨n0,n1⟩:=Rl o5;refine aE (k:=.i) x.1 n0 (uD fk.1 (aF (λh=>by simp at h) (λ_=>?_)));refine aE (k:=.i) x.2 n1 (uD fk.2 (aF (λh=>by simp at h) (λ_=>?_)));rw[qM i aB];exact hX _ _ _ aB ⟨i+1,dF,rfl,rfl,k2.tr k5⟩
 clear hX X lK hi i;have c2:=cs k2;refine aE (k:=.slice) g.1 c2.1 (aE (k:=.slice) g.2.1 c2.2.1 ?_);have wn:aQ ((g.1.l:Int)-(1:Int))=(G.n:Int)-1:=by rw[gV aB aB,l1];rfl
 have wm:aQ ((g.2.1.l:Int)-(1:Int))=(G.m:Int)-1:=by rw[gV aB aB,l2];rfl
 rw[wn];refine bK (λc t w3=>∃i:Nat,i<=G.E.length/\c=G.E.length-i/\t=((i:Int),())/\aN w1 w3) G.E.length ⟨0,iF _,rfl,rfl,k2⟩ ?_;rintro c t w3 ⟨i,hi,rfl,rfl,k3⟩ X hX;dsimp only;refine aJ (λcL=>?_) (λlK=>?_)
 ·have dF:i<G.E.length:=aB
  have cU:=gU dF;have hed:=ok.ed _ (oE dF);obtain⟨a,ha,hh,_⟩:=rd3 (h.ed.aL (k1.tr k3) ZE λ_ _=>id) cU;generalize G.E[i]=x at*;rw[lJ];refine⟨⟨aB,cL⟩,aA ha (bJ (l:=[.i,.i,.i]) (x.1,x.2.1,x.2.2,()) hh ?_)⟩;refine eZ (vs:=[aD x.1,aD x.2.1,aD x.2.2]) jO rfl (by simp[Value.oneCell']) λw5 o5 k5 z5=>?_;obtain⟨n0,n1,n2⟩:=BG o5;refine aE (k:=.i) x.1 n0 (uD aB (aF (λh=>by simp at h) (λ_=>?_)));refine aE (k:=.i) x.2.1 n1 (uD aB (aF (λh=>by simp at h) (λ_=>?_)));refine aE (k:=.i) x.2.2 n2 (uD aB (aF (λh=>by simp at h) (λ_=>?_)));rw[qM i aB];exact hX _ _ _ aB ⟨i+1,dF,rfl,rfl,k3.tr k5⟩
 clear hX X lK hi i;have c3:=cs k3;refine aE (k:=.slice) g.2.2.1 c3.2.2 ?_;refine bK (λc t w4=>∃i:Nat,i<=G.B.length/\c=G.B.length-i/\t=((i:Int),())/\aN w1 w4) G.B.length ⟨0,iF _,rfl,rfl,k3⟩ ?_;rintro c t w4 ⟨i,hi,rfl,rfl,k4⟩ X hX;dsimp only;refine aJ (λcL=>?_) (λ_=>hQ w4 (k1.tr k4));have dF:i<G.B.length:=aB;have cU:=gU dF;obtain⟨Du,RX,Nq⟩:=ok.bd _ (oE dF);have sC:∀y,0<i->G.B[i-1]? =some y->JE y G.B[i]:=λy h0 hy=>by
  obtain⟨h1,rfl⟩:=kY.1 hy;exact Ws.1 ok.bs (i-1) i h1 dF aB
 obtain⟨a,ha,hh,_⟩:=Qs (h.bn.aL (k1.tr k4) GY λ_ _=>id) cU;generalize G.B[i]=x at*;rw[lJ];refine⟨⟨aB,cL⟩,aA ha (bJ (l:=[.i,.i]) (x.1,x.2,()) hh ?_)⟩;refine eZ (vs:=[aD x.1,aD x.2]) size_Ban rfl (by simp[Value.oneCell']) λw5 o5 k5 z5=>?_;have d5:aN w5 w5.drew:=aY.drew (aY.refl _ w5);obtain⟨n0',n1'⟩:=Rl (o5.aL d5 id);have Dp:=(k4.tr k5);have c5:=cs Dp;have c5':=cs (Dp.tr d5);have qz:=h.aO ((k1.tr Dp).tr d5);refine aE (k:=.slice) g.2.1 c5.2.1 (aE (k:=.i) x.1 n0' ?_);rw[wm];refine uD aB (aF (λh=>by simp at h) (λ_=>?_));refine aE (k:=.i) x.2 n1' (uD aB (aF (λh=>by simp at h) (λ_=>?_)));obtain⟨p1,hp1,_,_,t1,_⟩:=qz.mC Du;obtain⟨p2,Ln,_,f2,_,_⟩:=qz.mC RX;refine aE (k:=.slice) g.2.1 c5'.2.1 (aE (k:=.i) x.1 n0' ⟨⟨Du.1,by rw[l2];exact Du.2⟩,aA hp1 (aE (k:=.i) (G.to x.1) t1 ?_)⟩);refine aE (k:=.slice) g.2.1 c5'.2.1 (aE (k:=.i) x.2 n1' ⟨⟨RX.1,by rw[l2];exact RX.2⟩,aA Ln (aE (k:=.i) (G.fr x.2) f2 ?_)⟩);refine aF (λh=>by rw[Nq] at h;simp at h) (λ_=>?_);have next:∀wz,aN w1 wz->X (aQ ((i:Int)+1),()) wz:=λwz kz=>by
  rw[qM i aB];exact hX _ _ _ aB ⟨i+1,dF,rfl,rfl,kz⟩
 refine aJ (λuN=>?_) (λ_=>next _ (Dp.tr d5))
 have wi:aQ ((i:Int)-(1:Int))=((i-1:Nat):Int):=by rw[gV aB aB];omega
 rw[wi,lJ];have hget':=gU (show i-1<G.B.length by omega);have hs:=sC _ aB hget';obtain⟨a',pE,La,_⟩:=Qs qz.bn hget';generalize G.B[i-1]=y at*;refine aE (k:=.slice) g.2.2.1 c5'.2.2 ⟨⟨aB,aB⟩,aA pE (bJ (l:=[.i,.i]) (y.1,y.2,()) La (bJ (l:=[.i,.i]) (x.1,x.2,()) (iP (o5.aL d5 id)) ?_))⟩;refine xe (a:=y) (b:=x) λw6 k6=>?_;exact aJ (λlK=>absurd (Hv.2 hs) aB) (λ_=>next _ ((Dp.tr d5).tr k6))
theorem rows_i{g:GT}{G:Gr}{node:Value}{key:Int->Int}{W:aH}{Q:Sl->Sl->aH->Prop}(h:TA W g G)(ok:xJ G)(tP:∀e:Int,G.pP e->0<=key e/\key e<G.n)
  (hnode:∀(e:Int) w (K:WQ Value),G.pP e->(∀w',aN w w'->K (aD (key e)) w')->lQ prog node [.agg #[aD (G.fr e),aD (G.to e),aD (G.wt e)]] w K)
  (hQ:∀s1 s2 w',ByN w' s1 s2 G.n G.m key->aN W w'->(∀b,s1.b=some b->W.heap.size<=b.block)->(∀b,s2.b=some b->W.heap.size<=b.block)->Ty w' s1->Ty w' s2->Q s1 s2 w'):vO g node W Q:=by
 unfold vO;have hn:=ok.n1;have hm:=ok.m1;have l1:g.1.l=G.n:=h.nd.len;have l2:g.2.1.l=G.m:=h.ed.len;have hkey':∀i:Nat,i<G.m->0<=key (i:Int)/\key (i:Int)<G.n:=λi hi=>tP i ⟨aB,aB⟩;refine bP λw1 o1 k1 z1=>?_;have cs:∀{wx:aH},aN w1 wx->_:=λ{wx} kx=>BG (o1.aL kx id);have wl:aQ ((g.1.l:Int)+(1:Int))=((G.n+1:Nat):Int):=by rw[gV aB aB,l1];rfl
 refine aE (k:=.slice) g.1 (cs (aY.refl _ _)).1 ?_;rw[wl];refine BZ iN (aX:=eI) (0:Int) rfl fM aB (lM _) aB aB λw2 v2 k2=>?_;generalize IT:(⟨some ⟨w1.heap.size,0,none⟩,Int.toNat ((G.n+1:Nat):Int),Int.toNat ((G.n+1:Nat):Int)⟩:Sl)=s2 at*;have fa:s2.b=some ⟨w1.heap.size,0,none⟩:=by rw[<-IT]
 have s2l:s2.l=G.n+1:=by rw[<-IT];exact lJ _
 rw[lJ] at v2;have fr2:∀{wx:aH} {F:Nat->Prop} {wy:aH},aN w1 wx->aY F wx wy->(∀k,F k->w1.heap.size<=k)->aN w1 wy:=λkx m hF=>kx.fresh m hF;refine aE (k:=.slice) g.2.1 (cs k2).2.1 ?_;refine bK (λc t w3=>∃(i:Nat) (fs:List Int),i<=G.m/\c=G.m-i/\t=((i:Int),())/\aN w1 w3/\dP w3 cZ 1 eI s2 fs/\VX key G.n i fs) G.m ⟨0,_,iF _,rfl,rfl,k2,v2,VX.start key G.n⟩ ?_;rintro c t w3 ⟨i,fs,hi,rfl,rfl,k3,v3,R⟩ X hX;dsimp only;refine aJ (λcL=>?_) (λlK=>?_)
 ·have dF:i<G.m:=aB
  have hE:G.pP (i:Int):=⟨aB,aB⟩;obtain⟨a,ha,hh,_⟩:=(h.aO (k1.tr k3)).mC hE;refine⟨⟨aB,cL⟩,aA ha (bJ (l:=[.i,.i,.i]) (G.fr i,G.to i,G.wt i,()) hh ?_)⟩;refine eZ (vs:=[aD (G.fr i),aD (G.to i),aD (G.wt i)]) jO rfl (by simp[Value.oneCell']) λw5 o5 k5 z5=>?_;refine bJ (l:=[.i,.i,.i]) (G.fr i,G.to i,G.wt i,()) (iP o5) ?_;refine hnode i w5 _ hE λw6 k6=>⟨_,rfl,?_⟩;obtain⟨q0,q1⟩:=tP i hE;obtain⟨v0,hv0⟩:∃v0:Nat,key (i:Int)=(v0:Int):=⟨(key i).toNat,aB⟩;have hv0n:v0<G.n:=aB;have wk:aQ (key (i:Int)+(1:Int))=((v0+1:Nat):Int):=by rw[hv0,gV aB aB];rfl
  rw[wk,lJ];have v6:=v3.aL (k5.tr k6) λ_ _=>id;have cU:=R.val v0 hv0n;obtain⟨p,hp,hc⟩:=cQ (k:=.i) (e:=λx=>x) (v6.rd fM) cU;have hcb:=mg key i v0;have gI:0<=((v0+1:Nat):Int)/\((v0+1:Nat):Int)<(s2.l:Int):=⟨aB,aB⟩;refine⟨gI,aA hp (aE (k:=.i) (cK key i v0:Int) hc ⟨gI,aA fa ?_⟩)⟩;rw[gV (n:=(cK key i v0:Int)+1) aB aB];refine v6.store fM fa (i:=v0+1) (by rw[R.len];omega) ((cK key i v0:Int)+1) (v:=aD ((cK key i v0:Int)+1)) rfl cY (EZ _) λw7 v7 m7 z7=>?_;rw[qM i aB];exact hX _ _ _ aB ⟨i+1,_,dF,rfl,rfl,fr2 ((k3.tr k5).tr k6) m7 λk e=>by rw[show k=w1.heap.size from e];exact iX _,v7,R.step hv0n hv0⟩
 have ei:i=G.m:=aB;subst ei;have R2:=R.rows2;clear hX X R lK hi;refine aE (k:=.slice) g.1 (cs k3).1 ?_;refine bK (λc t w3=>∃(j:Nat) (fs:List Int),j<=G.n/\c=G.n-j/\t=((j:Int),())/\aN w1 w3/\dP w3 cZ 1 eI s2 fs/\Gx (cK key G.m) G.n j fs) G.n ⟨0,_,iF _,rfl,rfl,k3,v3,R2⟩ ?_;clear k3 v3 R2 fs;rintro c t w3 ⟨j,fs,hj,rfl,rfl,k3,v3,R⟩ X hX;dsimp only;have oF:=WT hkey';refine aJ (λcL=>?_) (λlK=>?_)
 ·have wG:j<G.n:=aB
  have d:aN w3 w3.drew:=aY.drew (aY.refl _ w3);have v3':=v3.aL d λ_ _=>id;rw[qM j aB,lJ,lJ];obtain⟨p,hp,hc⟩:=cQ (k:=.i) (e:=λx=>x) (v3'.rd fM) (R.hi j wG (iX _));obtain⟨p',hp',Vv⟩:=cQ (k:=.i) (e:=λx=>x) (v3'.rd fM) (R.lo j (iX _));have hcb:=mg key G.m j;have hpb:qE (cK key G.m) j+cK key G.m j<=G.m:=by have:=WC (cK key G.m) wG;omega
  have gI:0<=((j+1:Nat):Int)/\((j+1:Nat):Int)<(s2.l:Int):=⟨aB,aB⟩;refine⟨gI,aA hp (aE (k:=.i) (cK key G.m j:Int) hc ⟨⟨aB,aB⟩,aA hp' (aE (k:=.i) (qE (cK key G.m) j:Int) Vv ⟨gI,aA fa ?_⟩)⟩)⟩;rw[gV (n:=(cK key G.m j:Int)+(qE (cK key G.m) j:Int)) aB aB];refine v3'.store fM fa (i:=j+1) (by rw[R.len];omega) ((cK key G.m j:Int)+(qE (cK key G.m) j:Int)) (v:=aD ((cK key G.m j:Int)+(qE (cK key G.m) j:Int))) rfl cY (EZ _) λw7 v7 m7 z7=>?_;exact hX _ _ _ aB ⟨j+1,_,wG,rfl,rfl,fr2 (k3.tr d) m7 λk e=>by rw[show k=w1.heap.size from e];exact iX _,v7,R.step wG⟩
 have ej:j=G.n:=aB;subst ej;clear hX X lK hj;refine aE (k:=.slice) g.2.1 (cs k3).2.1 ?_;rw[l2];refine BZ iN (aX:=eI) (0:Int) rfl fM aB (lM _) aB aB λw4 v4 k4=>?_;simp only[lJ] at v4 ⊢;have K4:=k3.tr k4;have v2':=v3.aL k4 λ_ _=>id;refine HM (v2'.rd fM) (by rw[R.len];omega) λs7 w5 v5 k5 f5=>?_;have K5:=K4.tr k5;have z34:w1.heap.size<w3.heap.size:=by
  have:=v3.lt fa;exact this
 have hlt4:w3.heap.size<w4.heap.size:=v4.lt rfl;obtain⟨g7,hg7⟩:∃g7,s7.b=some ⟨g7,0,none⟩:=by
  rcases v5.gN with⟨_,h2⟩|⟨g,_,hb,_⟩
  ·have:=v5.cap;have:=v5.len;have:=R.len;omega
  ·exact⟨g,hb⟩
 have g7lo:w4.heap.size<=g7:=f5 _ hg7;refine aE (k:=.slice) g.2.1 (cs K5).2.1 ?_;have R3:=R.rows3;have l7:=v5.len;rw[R.len] at l7;refine bK (λc t w6=>∃(i:Nat) (nx row:List Int),i<=G.m/\c=G.m-i/\t=((i:Int),())/\aN w1 w6/\dP w6 cZ 1 eI s7 nx/\dP w6 cZ 1 eI ⟨some ⟨w3.heap.size,0,none⟩,G.m,G.m⟩ row/\dP w6 cZ 1 eI s2 fs/\Gw key G.n G.m i nx row) G.m
  ⟨0,_,_,iF _,rfl,rfl,K5,v5,v4.aL k5 (λ_ _=>id),v2'.aL k5 (λ_ _=>id),R3⟩ ?_
 clear R3;rintro c t w6 ⟨i,nx,row,hi,rfl,rfl,k6,v7,vr,vs,R3⟩ X hX;dsimp only;refine aJ (λcL=>?_) (λlK=>?_)
 ·have dF:i<G.m:=aB
  have hE:G.pP (i:Int):=⟨aB,aB⟩;obtain⟨a,ha,hh,_⟩:=(h.aO (k1.tr k6)).mC hE;refine⟨⟨aB,cL⟩,aA ha (bJ (l:=[.i,.i,.i]) (G.fr i,G.to i,G.wt i,()) hh ?_)⟩;refine eZ (vs:=[aD (G.fr i),aD (G.to i),aD (G.wt i)]) jO rfl (by simp[Value.oneCell']) λw8 o8 k8 z8=>?_;refine bJ (l:=[.i,.i,.i]) (G.fr i,G.to i,G.wt i,()) (iP o8) ?_;refine hnode i w8 _ hE λw9 k9=>⟨_,rfl,?_⟩;obtain⟨q0,q1⟩:=tP i hE;obtain⟨v0,hv0⟩:∃v0:Nat,key (i:Int)=(v0:Int):=⟨(key i).toNat,aB⟩;have hv0n:v0<G.n:=aB;obtain⟨uN,Rn⟩:=R3.step dF hkey' hv0n hv0;rw[hv0,lJ];have k69:=k8.tr k9;have v7':=v7.aL k69 λ_ _=>id;have vr':=vr.aL k69 λ_ _=>id;have vs':=vs.aL k69 λ_ _=>id;have cU:=R3.nv v0 hv0n;generalize hP:qE (cK key G.m) v0+cK key i v0=P at*;obtain⟨p,hp,hc⟩:=cQ (k:=.i) (e:=λx=>x) (v7'.rd fM) cU;have gI:0<=(v0:Int)/\(v0:Int)<(s7.l:Int):=⟨aB,aB⟩;refine⟨gI,aA hp (aE (k:=.i) (P:Int) hc ⟨⟨aB,aB⟩,aA rfl ?_⟩)⟩;rw[lJ];refine vr'.store fM rfl (i:=P) (by rw[R3.rl];exact uN) (i:Int) (v:=aD (i:Int)) rfl cY (EZ _) λeY v10 YN z10=>?_;have aAe:aY (λk=>k=w3.heap.size) w9 eY:=YN;have v7'':=v7'.aL aAe λb hb e=>by rw[hg7] at hb;cases hb;have e':g7=w3.heap.size:=e;omega
  have vs'':=vs'.aL aAe λb hb e=>by rw[fa] at hb;cases hb;have e':w1.heap.size=w3.heap.size:=e;omega
  have Ci:=(o8.aL k9 id).aL aAe λe=>by have e':w6.heap.size=w3.heap.size:=e;have:=k6.size;have:=vr.lt (a:=⟨w3.heap.size,0,none⟩) rfl;have e'':w3.heap.size<w6.heap.size:=this;omega
  refine bJ (l:=[.i,.i,.i]) (G.fr i,G.to i,G.wt i,()) (iP Ci) ?_;refine hnode i eY _ hE λeN LF=>⟨_,rfl,?_⟩;rw[hv0,lJ];have v11:=v7''.aL LF λ_ _=>id;obtain⟨p2,Ln,PX⟩:=cQ (k:=.i) (e:=λx=>x) (v11.rd fM) cU;refine⟨gI,aA Ln (aE (k:=.i) (P:Int) PX ⟨gI,aA hg7 ?_⟩)⟩;rw[gV (n:=(P:Int)+1) aB aB];refine v11.store fM hg7 (i:=v0) (by rw[R3.nl];omega) ((P:Int)+1) (v:=aD ((P:Int)+1)) rfl cY (EZ _) λeQ YK Am z12=>?_;have jd:aY (λk=>k=g7) eN eQ:=Am;have z14:w1.heap.size<=w3.heap.size:=Nat.le_of_lt z34;have KK:aN w1 eQ:=fr2 ((fr2 (k6.tr k69) aAe λk e=>by rw[show k=w3.heap.size from e];exact z14).tr LF) jd λk e=>by rw[show k=g7 from e];omega
  rw[qM i aB];refine hX _ _ _ aB ⟨i+1,_,_,dF,rfl,rfl,KK,YK,(v10.aL LF λ_ _=>id).aL jd λb hb e=>?_,(vs''.aL LF λ_ _=>id).aL jd λb hb e=>?_,Rn⟩
  ·cases hb;have e':w3.heap.size=g7:=e;omega
  ·rw[fa] at hb;cases hb;have e':w1.heap.size=g7:=e;omega
 have ei:i=G.m:=aB;subst ei;refine hQ _ _ w6 ⟨fs,row,vs.rd fM,vr.rd fM,R.len,R3.rl,λi hi=>R.lo i hi,λv hv=>R3.done hkey' hv⟩ (k1.tr k6) (λb hb=>?_) (λb hb=>?_) (dP.Li vr ⟨by decide,by decide⟩) (dP.Li vs ⟨by decide,by decide⟩)
 ·cases hb;show W.heap.size<=w3.heap.size;omega
 ·rw[fa] at hb;cases hb;show W.heap.size<=w1.heap.size;omega
theorem CloneN_i{s:Sl}{xs:List (Int×Int)}{w:aH}{Q:Sl->aH->Prop}(hs:Rd w s 2 eP xs)(hb:xs.length<1000000)(hQ:∀s' w',Rd w' s' 2 eP xs->aN w w'->Ty w' s'->Q s' w'):jJ s w Q:=by
 unfold jJ;refine aF (λh=>?_) (λh=>?_)
 ·have hn:xs=[]:=by
   cases xs with
   |nil=>rfl
   |cons x r=>obtain⟨a,ha,_⟩:=hs.get 0 x rfl;rw[ha] at h;cases h
  subst hn;exact hQ _ w (Rd.nil _ _ _) (aY.refl _ _) Ty.nil
 ·refine bP λw1 o1 k1 z1=>?_
  have v0:dP w1 so 2 eP ⟨some ⟨w.heap.size,0,none⟩,0,0⟩ []:=dP.new VF [] o1 dJ;refine fO Js VF oneP v0 (hs.aL k1 GY (λ_ _=>id)) (by simp;omega) (by simp;omega) λr w' hr hm Vp _=>?_;exact hQ r w' (by simpa using hr.rd VF) (aY.fresh k1 hm λk ⟨a,ha,hk⟩=>by cases ha;rw[hk];exact iX _) (dP.Li hr ⟨by decide,by decide⟩)
theorem qv{s:Sl}{xs:List (Int×Int)}{w:aH}{Q:Sl->aH->Prop}(hs:Rd w s 2 eP xs)(hb:xs.length<1000000)(hQ:∀s' w',Rd w' s' 2 eP xs->aN w w'->Ty w' s'->Q s' w'):kR s w Q:=by
 unfold kR;refine aF (λh=>?_) (λh=>?_)
 ·have hn:xs=[]:=by
   cases xs with
   |nil=>rfl
   |cons x r=>obtain⟨a,ha,_⟩:=hs.get 0 x rfl;rw[ha] at h;cases h
  subst hn;exact hQ _ w (Rd.nil _ _ _) (aY.refl _ _) Ty.nil
 ·refine bP λw1 o1 k1 z1=>?_
  have v0:dP w1 tBan 2 eP ⟨some ⟨w.heap.size,0,none⟩,0,0⟩ []:=dP.new VF [] o1 dJ;refine fO Pq VF oneP v0 (hs.aL k1 GY (λ_ _=>id)) (by simp;omega) (by simp;omega) λr w' hr hm Vp _=>?_;exact hQ r w' (by simpa using hr.rd VF) (aY.fresh k1 hm λk ⟨a,ha,hk⟩=>by cases ha;rw[hk];exact iX _) (dP.Li hr ⟨by decide,by decide⟩)
theorem CloneE_i{s:Sl}{xs:List R3}{w:aH}{Q:Sl->aH->Prop}(hs:Rd w s 3 eR3 xs)(hb:xs.length<1000000)(hQ:∀s' w',Rd w' s' 3 eR3 xs->aN w w'->Ty w' s'->Q s' w'):jK s w Q:=by
 unfold jK;refine aF (λh=>?_) (λh=>?_)
 ·have hn:xs=[]:=by
   cases xs with
   |nil=>rfl
   |cons x r=>obtain⟨a,ha,_⟩:=hs.get 0 x rfl;rw[ha] at h;cases h
  subst hn;exact hQ _ w (Rd.nil _ _ _) (aY.refl _ _) Ty.nil
 ·refine bP λw1 o1 k1 z1=>?_
  have v0:dP w1 QP 3 eR3 ⟨some ⟨w.heap.size,0,none⟩,0,0⟩ []:=dP.new FG [] o1 dJ;refine fO Ju FG oneR3 v0 (hs.aL k1 ZE (λ_ _=>id)) (by simp;omega) (by simp;omega) λr w' hr hm Vp _=>?_;exact hQ r w' (by simpa using hr.rd FG) (aY.fresh k1 hm λk ⟨a,ha,hk⟩=>by cases ha;rw[hk];exact iX _) (dP.Li hr ⟨by decide,by decide⟩)
theorem gNew_i{g:GT}{G:Gr}{W:aH}{Q:cO->Int->aH->Prop}(h:TA W g G)(ok:xJ G)(hQ:∀H w',vE w' H G->aN W w'->W.heap.size<=H.g->Q (some ⟨H.g,0,none⟩) 0 w'):ER g W Q:=by
 unfold ER;have hn:=ok.n1;have hm:=ok.m1;have DM:=ok.bl;unfold Gr.n at hn;unfold Gr.m at hm;refine bP λw1 o1 k1 z1=>?_;refine bJ (l:=[.slice,.slice,.slice]) g (KY (g:=g) o1) ?_;refine gmay_i (g:=g) (h.aO k1) ok λw2 k2=>aF (λh=>by simp at h) (λ_=>?_);have d2:aN w2 w2.drew:=aY.drew (aY.refl _ w2);have LO:=k2.tr d2;have cs:∀{wx:aH},aN w1 wx->_:=λ{wx} kx=>BG (o1.aL kx id);have c2:=cs LO;have h2:=h.aO (k1.tr LO);refine aE (k:=.slice) g.1 c2.1 (aE (k:=.slice) g.2.1 c2.2.1 (aE (k:=.slice) g.2.2.1 c2.2.2 ?_));refine CloneN_i h2.nd aB λs4 w3 r4 k3 t4=>⟨(cs (LO.tr k3)).2.2,(cs (LO.tr k3)).2.1,?_⟩;refine CloneE_i (h2.aO k3).ed aB λs5 w4 r5 k4 t5=>⟨(cs ((LO.tr k3).tr k4)).2.2,?_⟩;refine qv ((h2.aO k3).aO k4).bn aB λs6 w5 r6 k5 t6=>?_;have Dp:=((LO.tr k3).tr k4).tr k5;refine bP λw6 o6 k6 z6=>?_;have Nn:=Dp.tr k6;refine bJ (l:=[.slice,.slice,.slice]) g (KY (g:=g) (o1.aL Nn id)) ?_;refine rows_i (key:=G.fr) (g:=g) (h.aO (k1.tr Nn)) ok (λe he=>(ok.ed _ (G.TL he)).1) (λe w K _ hK=>?_) λs7 s8 w7 B7 k7 f7 f8 t7 t8=>?_
 ·refine pI Kk iH (gJ (ks:=[.agg [.i,.i,.i]]) (t:=((G.fr e,G.to e,G.wt e,()),())) ?_)
  show vT _ _ _;unfold vT;exact bP λwa oa ka _=>aE (k:=.i) (G.fr e) (BG oa).1 (hK wa ka)
 have o7:=o6.aL k7 id;have zz:w1.heap.size<=w5.heap.size:=Dp.size;have lit:∀k,((⟨w5.heap.size,0,none⟩:Addr).add k)=⟨w5.heap.size,k,none⟩:=λk=>by rw[aS,pU]
 rw[lit 3];refine cI (o:=3) (v:=sv s7) o7 oQ dJ rfl rfl λw8 o8 m8 _=>?_;rw[lit 5];refine cI (o:=5) (v:=sv s8) o8 oQ dJ rfl rfl λw9 o9 m9 _=>?_;have k79:aN w5 w9:=((k6.tr k7).fresh m8 λk e=>by rw[show k=w5.heap.size from e];exact iX _).fresh m9 λk e=>by rw[show k=w5.heap.size from e];exact iX _
 have k19:=Dp.tr k79;have mK:∀{wx wy:aH},aN w5 wx->aY (λk=>k=w5.heap.size) wx wy->aN w5 wy:=λkx m=>kx.fresh m λk e=>by rw[show k=w5.heap.size from e];exact iX _
 have YG:=o1.aL k19 id;refine bJ (l:=[.slice,.slice,.slice]) g (KY (g:=g) YG) ?_;refine rows_i (key:=G.to) (g:=g) (h.aO (k1.tr k19)) ok (λe he=>(ok.ed _ (G.TL he)).2.1) (λe w K _ hK=>?_) λs9 YF eY B10 IS f9 f10 t9 t10=>?_
 ·refine pI Kj iH (gJ (ks:=[.agg [.i,.i,.i]]) (t:=((G.fr e,G.to e,G.wt e,()),())) ?_)
  show vS _ _ _;unfold vS;exact bP λwa oa ka _=>aE (k:=.i) (G.to e) (BG oa).2.1 (hK wa ka)
 have Ci:=o9.aL IS id;rw[lit 4];refine cI (o:=4) (v:=sv s9) Ci oQ dJ rfl rfl λeN o11 Ku _=>?_;rw[lit 6];refine cI (o:=6) (v:=sv YF) o11 oQ dJ rfl rfl λeQ Dm Am _=>?_;have jf:aN w5 eQ:=mK (mK (k79.tr IS) Ku) Am;have kW:aN W eQ:=k1.tr (Dp.tr jf);have nb:∀{wx wy:aH} {row first:Sl} {key:Int->Int},ByN wx row first G.n G.m key->(∀b,row.b=some b->b.block≠w5.heap.size)->(∀b,first.b=some b->b.block≠w5.heap.size)->aY (λk=>k=w5.heap.size) wx wy->ByN wy row first G.n G.m key:=λhB h1 h2 m=>by
  obtain⟨fs,rs,g1,g2,g3⟩:=hB;exact⟨fs,rs,g1.aL m dA λb hb e=>h2 b hb e,g2.aL m dA λb hb e=>h1 b hb e,g3⟩
 have z7:=k7.size;have n7:∀b,s7.b=some b->b.block≠w5.heap.size:=λb hb=>by have:=f7 b hb;omega
 have n8:∀b,s8.b=some b->b.block≠w5.heap.size:=λb hb=>by have:=f8 b hb;omega
 have n9:∀b,s9.b=some b->b.block≠w5.heap.size:=λb hb=>by have:=f9 b hb;omega
 have n10:∀b,YF.b=some b->b.block≠w5.heap.size:=λb hb=>by have:=f10 b hb;omega
 have b7:=nb (nb (((nb (nb B7 n7 n8 m8) n7 n8 m9)).aO IS) n7 n8 Ku) n7 n8 Am;have b9:=nb (nb B10 n9 n10 Ku) n9 n10 Am;have hv12:TA eQ (s4,s5,s6,()) G:=⟨((r4.aL k4 GY λ_ _=>id).aL k5 GY λ_ _=>id).aL jf GY λ_ _=>id,(r5.aL k5 ZE λ_ _=>id).aL jf ZE λ_ _=>id,r6.aL jf GY λ_ _=>id⟩;have ty:∀{wx wy:aH} {s:Sl},Ty wx s->(∀b,s.b=some b->b.block≠w5.heap.size)->aY (λk=>k=w5.heap.size) wx wy->Ty wy s:=λh hn m b hb=>by
  obtain⟨t,cs,o,h1⟩:=h b hb;exact⟨t,cs,o.aL m (hn b hb),h1⟩
 have y7:=ty (ty ((ty (ty t7 n7 m8) n7 m9).aO IS) n7 Ku) n7 Am;have y8:=ty (ty ((ty (ty t8 n8 m8) n8 m9).aO IS) n8 Ku) n8 Am;have y9:=ty (ty t9 n9 Ku) n9 Am;have y10:=ty (ty t10 n10 Ku) n10 Am;exact hQ ⟨w5.heap.size,(s4,s5,s6,()),s7,s9,s8,YF⟩ eQ ⟨ok,Dm,hv12,b7,b9,(t4.aO (k4.tr k5)).aO jf,(t5.aO k5).aO jf,t6.aO jf,y7,y9,y8,y10⟩ kW (by show W.heap.size<=w5.heap.size;omega)
end
section
section
variable{w:aH}{H:Sc}{G:Gr}
theorem Node_i{i:Int}{Q:(Int×Int×Unit)->Bool->aH->Prop}(h:vE w H G)(hi:G.UL i)(hQ:∀w',aN w w'->Q ((G.nd i).1,(G.nd i).2,()) true w'):IE (some ⟨H.g,0,none⟩) i w Q:=by
 unfold IE;refine bP λw1 o1 k1 z1=>?_;refine aJ (λQC=>aB) (λ_=>?_);have h1:=h.aO k1;refine OX h1 ?_;refine aJ (λlK=>aB) (λ_=>?_);refine aA rfl ?_;rw[add_zero];refine aE (k:=.slice) H.v.1 h1.cells.1 ?_;obtain⟨a,ha,hh,_⟩:=Qs h1.val.nd (G.get_nd hi);refine⟨⟨hi.1,by rw[h1.val.nd.len];exact hi.2⟩,aA ha (bJ (l:=[.i,.i]) ((G.nd i).1,(G.nd i).2,()) hh ?_)⟩;refine fD (vs:=[aD (G.nd i).1,aD (G.nd i).2]) o1 OZ rfl (by simp[Value.oneCell']) λw3 o3 m3 _=>?_;exact bJ (l:=[.i,.i]) ((G.nd i).1,(G.nd i).2,()) (iP o3) (hQ w3 (k1.fresh m3 λk e=>by rw[show k=w.heap.size from e];exact iX _))
theorem way_i{i:Int}{Q:Int->Int->Bool->aH->Prop}(h:vE w H G)(hi:G.pP i)(hQ:∀w',aN w w'->Q ((G.nd (G.to i)).1-(G.nd (G.fr i)).1) ((G.nd (G.to i)).2-(G.nd (G.fr i)).2) true w'):CT (some ⟨H.g,0,none⟩) i w Q:=by
 unfold CT;have ok:=h.ok;have he:=ok.ed _ (G.TL hi);have hf:G.UL (G.fr i):=he.1;have ht:G.UL (G.to i):=he.2.1;have rf:=ok.Sn hf;have rt:=ok.Sn ht;refine JR h (λ_ w1 k1=>?_) (λhn=>absurd hi hn);refine eZ (vs:=[aD (G.fr i),aD (G.to i),aD (G.wt i)]) jO rfl (by simp[Value.oneCell']) λw3 o3 k3 z3=>?_;refine aE (k:=.i) (G.fr i) (BG o3).1 ?_;have h3:=(h.aO k1).aO k3;refine Node_i h3 hf λw4 k4=>?_;refine eZ (vs:=[aD (G.nd (G.fr i)).1,aD (G.nd (G.fr i)).2]) OZ rfl (by simp[Value.oneCell']) λw6 o6 k6 z6=>?_;refine aE (k:=.i) (G.to i) (BG ((o3.aL k4 id).aL k6 id)).2.1 ?_;refine Node_i ((h3.aO k4).aO k6) ht λw7 k7=>?_;refine eZ (vs:=[aD (G.nd (G.to i)).1,aD (G.nd (G.to i)).2]) OZ rfl (by simp[Value.oneCell']) λw9 o9 k9 z9=>?_;have d9:aN w9 w9.drew:=aY.drew (aY.refl _ w9);have n9:=Rl (o9.aL d9 id);have n6:=Rl (((o6.aL k7 id).aL k9 id).aL d9 id);refine aE (k:=.i) (G.nd (G.to i)).1 n9.1 (aE (k:=.i) (G.nd (G.fr i)).1 n6.1 (aE (k:=.i) (G.nd (G.to i)).2 n9.2 (aE (k:=.i) (G.nd (G.fr i)).2 n6.2 ?_)));rw[gV (n:=(G.nd (G.to i)).1-(G.nd (G.fr i)).1) aB aB,gV (n:=(G.nd (G.to i)).2-(G.nd (G.fr i)).2) aB aB];exact hQ _ ((((((k1.tr k3).tr k4).tr k6).tr k7).tr k9).tr d9)
end
theorem Mirror_i{k:Int}{w:aH}{Q:Int->aH->Prop}(hk:k=2\/k=3\/k=4)(hQ:Q (k+4) w):xV k w Q:=by
 unfold xV;intro J hJ;have hj:J (true,()) w:=by
  apply hJ;refine aF (λ_=>?_) (λh=>by simp at h);rw[gV (n:=k+4) aB aB];exact hQ
 rcases hk with rfl|rfl|rfl
 ·exact aF (λ_=>hj) (λh=>by simp at h)
 ·exact aF (λh=>by simp at h) (λ_=>aF (λ_=>hj) (λh=>by simp at h))
 ·exact aF (λh=>by simp at h) (λ_=>aF (λh=>by simp at h) (λ_=>hj))
theorem Su{n:Int}{w:aH}{Q:Bool->aH->Prop}(h:-4095<=n/\n<=4095)(hQ:Q false w):tW n w Q:=by
 unfold tW;refine aJ (λh=>aB) (λ_=>?_);rw[decide_eq_false aB];exact hQ
abbrev iz(n:Int):Prop:=-4095<=n/\n<=4095
theorem Class_i{ax ay bx mJ:Int}{w:aH}{Q:Int->aH->Prop}(h1:iz ax)(h2:iz ay)(h3:iz bx)(h4:iz mJ)(hQ:Q (Rw ax ay bx mJ) w):AI ax ay bx mJ w Q:=by
 unfold AI;intro J1 OP;refine Su h1 (aF (λh=>by simp at h) (λ_=>Su h2 (aF (λh=>by simp at h) (λ_=>Su h3 (aF (λh=>by simp at h) (λ_=>Su h4 (aF (λh=>by simp at h) (λ_=>?_))))))));have sS:¬((ax=0/\ay=0)\/(bx=0/\mJ=0))->J1 () w:=by
  intro hn;apply OP;rw[clsP_eq hn] at hQ;have p1:=Ej h1 h4;have p2:=Ej h2 h3;have p3:=Ej h1 h3;have p4:=Ej h2 h4;have hz:¬(ax*mJ-ay*bx=0/\ax*bx+ay*mJ=0):=λh=>hn (aA1 h.1 h.2);rw[gV (n:=ax*mJ) aB aB,gV (n:=ay*bx) aB aB,gV (n:=ax*bx) aB aB,gV (n:=ay*mJ) aB aB,
   gV (n:=ax*mJ-ay*bx) aB aB,gV (n:=ax*bx+ay*mJ) aB aB]
  have q1:-33538050<=ax*mJ-ay*bx/\ax*mJ-ay*bx<=33538050:=aB;have q2:-33538050<=ax*bx+ay*mJ/\ax*bx+ay*mJ<=33538050:=aB;clear p1 p2 p3 p4 hn;generalize ax*mJ-ay*bx=c at*;generalize ax*bx+ay*mJ=d at*;rw[gV (n:=0-c) aB aB,gV (n:=0-d) aB aB];have hm:BY c (0-c)=GL c:=by unfold BY GL;split<;>split<;>omega
  have ha:0<=GL c/\GL c<=33538050:=by unfold GL;split<;>omega
  rw[hm,gV (n:=4*GL c) aB aB];have q:∀v,v=Rx c d->Q v w:=λv hv=>by rw[hv];exact hQ
  intro J2 Ra;have j2:¬(d>0/\4*GL c<=d)->¬(d<0/\4*GL c<=-d)->J2 () w:=by
   intro n1 n2;apply Ra;intro J3 hJ3;have hc0:c≠0:=λe=>by
    subst e;have:GL 0=0:=rfl;rw[this] at n1 n2;omega
   have j3:∀k,(k=2\/k=3\/k=4)->(c<0->k+4=Rx c d)->(¬c<0->k=Rx c d)->J3 (k,()) w:=λk hk hl hr=>by
    apply hJ3;exact aJ (λh=>Mirror_i hk (q _ (hl h))) (λh=>q _ (hr h))
   have nN:Rx c d=if c>0/\d>0/\c<=d then 2 else if c>0/\d<0/\c<=-d then 4 else if c>0 then 3 else if d>0/\-c<=d then 6 else if d<0/\-c<=-d then 8 else 7:=by
    unfold Rx;rw[if_neg n1,if_neg n2]
   have e2:∀k:Int,(d>0/\GL c<=d/\k=2)\/(d<0/\GL c<=-d/\k=4)\/(¬(d>0/\GL c<=d)/\¬(d<0/\GL c<=-d)/\k=3)->J3 (k,()) w:=λk hk=>by
    have zf:(c<0/\GL c=-c)\/(c>0/\GL c=c):=by unfold GL;split<;>omega
    refine j3 k aB (λhl=>?_) (λhl=>?_)
    ·rw[nN];(repeat' split)<;>omega
    ·rw[nN];(repeat' split)<;>omega
   refine aJ (λg1=>aJ (λg2=>e2 2 (.inl ⟨g1,g2,rfl⟩)) (λg2=>aJ (λg3=>aB) (λg3=>e2 3 (.inr (.inr ⟨λh=>g2 h.2,λh=>g3 h.1,rfl⟩))))) (λg1=>?_);refine aJ (λg2=>aJ (λg3=>e2 4 (.inr (.inl ⟨g2,aB,rfl⟩))) (λg3=>e2 3 (.inr (.inr ⟨λh=>g1 h.1,λh=>g3 aB,rfl⟩)))) (λg2=>e2 3 (.inr (.inr ⟨λh=>g1 h.1,λh=>g2 h.1,rfl⟩)))
  refine aJ (λg1=>aJ (λg2=>q _ ?_) (λg2=>aJ (λg3=>aB) (λg3=>j2 (λh=>g2 h.2) (λh=>g3 h.1)))) (λg1=>?_)
  ·unfold Rx;rw[if_pos ⟨g1,g2⟩]
  refine aJ (λg2=>aJ (λg3=>q _ ?_) (λg3=>j2 (λh=>g1 h.1) (λh=>g3 aB))) (λg2=>j2 (λh=>g1 h.1) (λh=>g2 h.1));unfold Rx;rw[if_neg (λh=>g1 h.1),if_pos ⟨g2,aB⟩]
 have zero:((ax=0/\ay=0)\/(bx=0/\mJ=0))->Q 0 w:=λh=>by
  have:Rw ax ay bx mJ=0:=by unfold Rw;rw[if_pos h]
  rw[this] at hQ;exact hQ
 have tb:¬(ax=0/\ay=0)->cond (bx==0) (cond (mJ==0) (Q 0 w) (J1 () w)) (J1 () w):=λhn=>by
  refine aF (λg1=>aF (λg2=>zero (.inr ⟨by simpa using g1,by simpa using g2⟩)) (λg2=>sS λh=>?_)) (λg1=>sS λh=>?_)
  ·rcases h with h|h
   ·exact hn h
   ·rw[h.2] at g2;simp at g2
  ·rcases h with h|h
   ·exact hn h
   ·rw[h.1] at g1;simp at g1
 refine aF (λg1=>aF (λg2=>zero (.inl ⟨by simpa using g1,by simpa using g2⟩)) (λg2=>tb λh=>?_)) (λg1=>tb λh=>?_)
 ·rw[h.2] at g2;simp at g2
 ·rw[h.1] at g1;simp at g1
theorem xJ.vt{G:Gr}(ok:xJ G){i:Int}(hi:G.pP i):iz ((G.nd (G.to i)).1-(G.nd (G.fr i)).1)/\iz ((G.nd (G.to i)).2-(G.nd (G.fr i)).2):=by
 have he:=ok.ed _ (G.TL hi);have rf:=ok.Sn (show G.UL (G.fr i) from he.1);have rt:=ok.Sn (show G.UL (G.to i) from he.2.1);unfold iz;omega
theorem Of_i{w:aH}{H:Sc}{G:Gr}{a b:Int}{Q:Int->aH->Prop}(h:vE w H G)(ha:G.pP a)(hb:G.pP b)(hQ:∀w',aN w w'->Q (G.Rz a b) w'):PT (some ⟨H.g,0,none⟩) a b w Q:=by
 unfold PT;have r1:=xJ.vt h.ok ha;have r2:=xJ.vt h.ok hb;refine way_i h ha λw1 k1=>way_i (h.aO k1) hb λw2 k2=>?_;refine aF (λh=>by simp at h) (λ_=>aF (λh=>by simp at h) (λ_=>?_));exact Class_i r1.1 r1.2 r2.1 r2.2 (hQ w2 (k1.tr k2))
end
section
abbrev eS(s:Sl):List Value:=[sv s]
theorem lenS:∀s:Sl,(eS s).length=1:=λ_=>rfl
theorem oneS:∀s:Sl,∀u∈eS s,u.oneCell'=true:=by intro s u hu;simp at hu;subst hu;rfl
theorem eS_ne(s:Sl):eS s≠[]:=by simp
def Sz(w:aH)(s:Sl)(dY:List (List Int)):Prop:=∃ss:List Sl,Rd w s 1 eS ss/\ss.length=dY.length/\∀(i:Nat) x r,ss[i]? =some x->dY[i]? =some r->Rd w x 1 eI r
theorem Sz.get{w:aH}{s:Sl}{dY:List (List Int)}(h:Sz w s dY){i:Nat}{r:List Int}(hr:dY[i]? =some r):s.l=dY.length/\∃p x,s.b=some p/\w.cell? (p.add (i*1))=some (sv x)/\Rd w x 1 eI r:=by
 obtain⟨ss,h1,h2,h3⟩:=h;have hi:i<ss.length:=by rw[h2];exact(kY.1 hr).1
 obtain⟨p,hp,hc⟩:=cQ (k:=.slice) (e:=λx=>x) h1 (gU hi);exact⟨by rw[h1.len,h2],p,ss[i],hp,hc,h3 i _ r (gU hi) hr⟩
def zP(gs:Nat)(ss:List Sl)(k:Nat):Prop:=k=gs\/∃x∈ss,∃a,x.b=some a/\k=a.block
structure VV(w:aH)(s:Sl)(gs:Nat)(dY:List (List Int))(ss:List Sl):Prop where
 sb:s.b=some ⟨gs,0,none⟩
 v:dP w BP 1 eS s ss
 len:ss.length=dY.length
 LU:∀(i:Nat) x r,ss[i]? =some x->dY[i]? =some r->dP w cZ 1 eI x r
 Dw:∀(i j:Nat) x y a b,i≠j->ss[i]? =some x->ss[j]? =some y->x.b=some a->y.b=some b->a.block≠b.block
 ne:∀x∈ss,∀a,x.b=some a->a.block≠gs
section
variable{w:aH}{s:Sl}{gs:Nat}{dY:List (List Int)}{ss:List Sl}
theorem VV.aL{F:Nat->Prop}{w':aH}(h:VV w s gs dY ss)(m:aY F w w')(hF:∀k,zP gs ss k->¬F k):VV w' s gs dY ss:=
 ⟨h.sb,h.v.aL m λa ha=>by rw[h.sb] at ha;cases ha;exact hF gs (.inl rfl),h.len,λi x r hx hr=>(h.LU i x r hx hr).aL m λa ha=>hF _ (.inr ⟨x,zN hx,a,ha,rfl⟩),h.Dw,h.ne⟩
theorem VV.lt(h:VV w s gs dY ss){k:Nat}(hk:zP gs ss k):k<w.heap.size:=by
 rcases hk with rfl|⟨x,hx,a,ha,rfl⟩
 ·exact h.v.lt h.sb
 ·obtain⟨i,hi⟩:=oZ.1 hx
  have hil:i<dY.length:=by rw[<-h.len];exact(kY.1 hi).1
  exact(h.LU i x _ hi (gU hil)).lt ha
def RB(w:aH)(s:Sl)(dY:List (List Int)):Prop:=∃ss:List Sl,Rd w s 1 eS ss/\ss.length=dY.length/\(∀(i:Nat) x r,ss[i]? =some x->dY[i]? =some r->Rd w x 1 eI r)/\∀x∈ss,Ty w x
theorem RB.rd{w:aH}{s:Sl}{dY:List (List Int)}(h:RB w s dY):Sz w s dY:=by
 obtain⟨ss,h1,h2,h3,_⟩:=h;exact⟨ss,h1,h2,h3⟩
theorem RB.aO{w w':aH}{s:Sl}{dY:List (List Int)}(h:RB w s dY)(k:aN w w'):RB w' s dY:=by
 obtain⟨ss,h1,h2,h3,h4⟩:=h;exact⟨ss,h1.aL k eS_ne λ_ _=>id,h2,λi x r hx hr=>(h3 i x r hx hr).aL k dA λ_ _=>id,λx hx=>(h4 x hx).aO k⟩
theorem VV.rt(h:VV w s gs dY ss):RB w s dY:=⟨ss,h.v.rd lenS,h.len,λi x r hx hr=>(h.LU i x r hx hr).rd fM,λx hx=>by
 obtain⟨i,hi⟩:=oZ.1 hx;have hil:i<dY.length:=by rw[<-h.len];exact(kY.1 hi).1
 exact dP.Li (h.LU i x _ hi (gU hil)) ⟨by decide,by decide⟩⟩
theorem VV.start{n g:Nat}(h:dP w BP 1 eS ⟨some ⟨g,0,none⟩,n,n⟩ (List.replicate n bD)):VV w ⟨some ⟨g,0,none⟩,n,n⟩ g (List.replicate n []) (List.replicate n bD):=by
 have rep:∀{i:Nat} {x:Sl},(List.replicate n (bD:Sl))[i]? =some x->x=bD:=λ{i x} h=>(List.mem_replicate.1 (zN h)).2;refine⟨rfl,h,by simp,λi x r hx hr=>?_,λi j x y a b _ hx _ ha=>?_,λx hx a ha=>?_⟩
 ·rw[rep hx,(List.mem_replicate.1 (zN hr)).2];exact dP.nil _ _ _ _
 ·rw[rep hx] at ha;cases ha
 ·rw[(List.mem_replicate.1 hx).2] at ha;cases ha
theorem Ov{T f:Nat}{hd:List Value}{i:Nat}{r:List Int}{x:Int}{K:aH->Prop}(hT:cW w T Sh hd)(hf:hd[f]? =some (sv s))(hTn:¬zP gs ss T)(V:VV w s gs dY ss)(hr:dY[i]? =some r)(hl:r.length<1000)
  (hK:∀w' ss',VV w' s gs (dY.set i (r++[x])) ss'->aY (zP gs ss) w w'->(∀k,zP gs ss' k->zP gs ss k\/w.heap.size<=k)->K w'):
  xY .slice w.drew ((⟨T,0,none⟩:Addr).add f) λ(s2:Sl)=>aC (some ⟨T,0,none⟩) λa4=>xY .slice w.drew (a4.add f) λ(s3:Sl)=>(0<=(i:Int)/\(i:Int)<(s3.l:Int))/\aC s3.b λa5=>
   xY .slice w.drew (a5.add (Int.toNat (i:Int)*1)) λ(s4:Sl)=>aG w.drew #[aD x] cZ λa6 eY=>eY.cell? (a5.add (Int.toNat (i:Int)*1))=some (Value.slice s4.b s4.l s4.c)/\eY.cell? (a4.add f)=some (Value.slice s3.b s3.l s3.c)/\
   eY.cell? ((⟨T,0,none⟩:Addr).add f)=some (Value.slice s2.b s2.l s2.c)/\aW prog BP BP s4 (Value.slice (some a6) 1 1) eY λ(s5:Sl) eN=>eN.cell? ((⟨T,0,none⟩:Addr).add f)=some (Value.slice s2.b s2.l s2.c)/\(0<=(i:Int)/\(i:Int)<(s2.l:Int))/\
   aC s2.b λa7=>aI prog BP (a7.add (Int.toNat (i:Int)*1)) (Value.slice s5.b s5.l s5.c) eN K:=by
 have d:aN w w.drew:=aY.drew (aY.refl _ w);have V1:=V.aL d λ_ _=>id;have T1:=hT.aL d id;have cT:∀{wx:aH},cW wx T Sh hd->wx.cell? ((⟨T,0,none⟩:Addr).add f)=some (sv s):=λ{wx} h=>by rw[aS,h.cell,pU];exact hf
 have hir:i<dY.length:=(kY.1 hr).1;have his:i<ss.length:=by rw[V.len];exact hir
 have KU:=V.v.len;have cU:=gU his;have fP:=oE his;generalize ss[i]=y at*;obtain⟨p,hp,hc⟩:=cQ (k:=.slice) (e:=λx=>x) (V1.v.rd lenS) cU;rw[V.sb] at hp;cases hp;rw[lJ];have gI:0<=(i:Int)/\(i:Int)<(s.l:Int):=⟨aB,aB⟩;refine aE (k:=.slice) s (cT T1) (aA rfl (aE (k:=.slice) s (cT T1) ⟨gI,aA V.sb (aE (k:=.slice) y hc ?_)⟩));refine bP λeY Ci IS z10=>⟨?_,cT (T1.aL IS id),cT (T1.aL IS id),?_⟩
 ·exact IS.cell hc id
 have V10:=V1.aL IS λ_ _=>id;have vy:=V10.LU i y r cU hr;have vx:dP eY cZ 1 eI ⟨some ⟨w.heap.size,0,none⟩,1,1⟩ [x]:=dP.new fM [x] Ci (by simp[maxLen]);refine fO iN fM EZ vy (vx.rd fM) (by simp;omega) (by simp;omega) λs5 eN v11 Ku f11 _=>?_;have nT:∀a,y.b=some a->T≠a.block:=λa ha e=>hTn (.inr ⟨y,fP,a,ha,e⟩);have T11:=(T1.aL IS id).aL Ku λ⟨a,ha,e⟩=>nT a ha e;have vs11:=V10.v.aL Ku λa ha ⟨b,hb,e⟩=>by rw[V.sb] at ha;cases ha;exact V.ne y fP b hb e.symm
 refine⟨cT T11,gI,aA V.sb ?_⟩;refine vs11.store lenS V.sb (i:=i) his s5 (v:=sv s5) rfl oQ (oneS s5) λeQ YK Am z12=>?_;have jd:aY (λk=>k=gs) eN eQ:=Am;have hz:w.heap.size<eY.heap.size:=by rw[z10];exact Nat.lt_succ_self _
 have rj:gs<w.heap.size:=V.lt (.inl rfl);have f5:∀b,s5.b=some b->(∃a,y.b=some a/\b.block=a.block)\/w.heap.size<b.block:=λb hb=>by
  rcases f11 with h|⟨b',bY,cL⟩
  ·exact .inl ⟨b,by rw[<-h];exact hb,rfl⟩
  ·rw[hb] at bY;cases bY;exact .inr aB
 have n5:∀b,s5.b=some b->b.block≠gs:=λb hb e=>by
  rcases f5 b hb with⟨a,ha,h⟩|h
  ·exact V.ne y fP a ha (h.symm.trans e)
  ·omega
 have Rk:∀{j:Nat} {z:Sl},(ss.set i s5)[j]? =some z->(j=i/\z=s5)\/(j≠i/\ss[j]? =some z):=λ{j z} h=>by
  rw[wC] at h
  by_cases e:i=j
  ·rw[if_pos e,if_pos aB] at h;cases h;exact .inl ⟨e.symm,rfl⟩
  ·rw[if_neg e] at h;exact .inr ⟨λe'=>e e'.symm,h⟩
 have blt:∀{j:Nat} {z:Sl} {b:Addr},ss[j]? =some z->z.b=some b->b.block<w.heap.size:=λhz hb=>V.lt (.inr ⟨_,zN hz,_,hb,rfl⟩);have m12w:aY (zP gs ss) w eQ:=by
  have h1:aY (zP gs ss) w eY:=(d.tr IS).wk;have h2:aY (zP gs ss) w eN:=h1.trans Ku λk hk ⟨a,ha,e⟩=>.inr ⟨y,fP,a,ha,e⟩;exact h2.trans jd λk hk e=>.inl e
 refine hK eQ (ss.set i s5) ⟨V.sb,YK,by rw[pR,pR];exact V.len,λj z q hz hq=>?_,λj l z u a b YH hz hu ha hb=>?_,λz hz a ha=>?_⟩ m12w λk hk=>?_
 ·rcases Rk hz with⟨rfl,rfl⟩|⟨CV,hz⟩
  ·rw[wC,if_pos rfl,if_pos hir] at hq
   cases hq;exact v11.aL jd λb hb=>n5 b hb
  ·rw[wC,if_neg (λe=>CV e.symm)] at hq
   refine((V10.LU j z q hz hq).aL Ku λb hb ⟨a,ha,e⟩=>V.Dw j i z y b a CV hz cU hb ha e).aL jd λb hb=>V.ne z (zN hz) b hb
 ·rcases Rk hz with⟨e1,e2⟩|⟨CV,hz'⟩<;>rcases Rk hu with⟨e3,e4⟩|⟨hli,fj⟩
  ·exact absurd (e1.trans e3.symm) YH
  ·rw[e2] at ha
   rw[e1] at YH;rcases f5 a ha with⟨a',pE,h⟩|h
   ·rw[h];exact V.Dw _ _ _ _ _ _ YH cU fj pE hb
   ·have:=blt fj hb;omega
  ·rw[e4] at hb
   rw[e3] at YH;rcases f5 b hb with⟨a',pE,h⟩|h
   ·rw[h];exact V.Dw _ _ _ _ _ _ YH hz' cU ha pE
   ·have:=blt hz' ha;omega
  ·exact V.Dw _ _ _ _ _ _ YH hz' fj ha hb
 ·obtain⟨j,hj⟩:=oZ.1 hz
  rcases Rk hj with⟨rfl,rfl⟩|⟨_,hz⟩
  ·exact n5 a ha
  ·exact V.ne z (zN hz) a ha
 ·rcases hk with rfl|⟨z,hz,a,ha,rfl⟩
  ·exact .inl (.inl rfl)
  ·obtain⟨j,hj⟩:=oZ.1 hz
   rcases Rk hj with⟨rfl,rfl⟩|⟨_,hz⟩
   ·rcases f5 a ha with⟨a',pE,h⟩|h
    ·exact .inl (.inr ⟨y,fP,a',pE,h⟩)
    ·exact .inr (Nat.le_of_lt h)
   ·exact .inl (.inr ⟨z,zN hz,a,ha,rfl⟩)
end
end
section
structure Mg where
 t:Nat
 H:Sc
 nx:Sl
 pv:Sl
def tz(G:Gr):List (List Int):=(List.range G.m).map λi:Nat=>G.kN (i:Int)
def prevR(G:Gr):List (List Int):=(List.range G.m).map λi:Nat=>G.oK (i:Int)
structure rY(w:aH)(t:Mg)(G:Gr):Prop where
 head:cW w t.t Sh [.pointer (some ⟨t.H.g,0,none⟩),sv t.nx,sv t.pv]
 IU:vE w t.H G
 RV:RB w t.nx (tz G)
 prv:RB w t.pv (prevR G)
 Li:∀b,t.nx.b=some b\/t.pv.b=some b->∃cs,cW w b.block BP cs
theorem rY.aO{w w':aH}{t:Mg}{G:Gr}(h:rY w t G)(k:aN w w'):rY w' t G:=
 ⟨h.head.aL k id,h.IU.aO k,h.RV.aO k,h.prv.aO k,λb hb=>by obtain⟨cs,o⟩:=h.Li b hb;exact⟨cs,o.aL k id⟩⟩
theorem rY.cells{w:aH}{t:Mg}{G:Gr}(h:rY w t G):w.cell? ((⟨t.t,0,none⟩:Addr).add 0)=some (.pointer (some ⟨t.H.g,0,none⟩))/\w.cell? ((⟨t.t,0,none⟩:Addr).add 1)=some (sv t.nx)/\w.cell? ((⟨t.t,0,none⟩:Addr).add 2)=some (sv t.pv):=BG h.head
theorem Eb{α:Type}{w:aH}{e:TypeId}{n:Nat}{aX:α->List Value}{s:Sl}{xs:List α}(h:dP w e n aX s xs){b:Addr}(hb:s.b=some b):∃cs,cW w b.block e cs:=by
 obtain⟨_,_,_,h4⟩:=h;rcases h4 with⟨h5,_⟩|⟨g,cR,h5,h6,_⟩
 ·rw[hb] at h5;cases h5
 ·rw[hb] at h5;cases h5;exact⟨_,h6⟩
structure zo(W w:aH)(T gn gp hg:Nat)(nx pv:Sl)(rn rp:List (List Int))(US UR:List Sl):Prop where
 gN:cW w T Sh [.pointer (some ⟨hg,0,none⟩),sv nx,sv pv]
 vn:VV w nx gn rn US
 vp:VV w pv gp rp UR
 Dw:∀k,zP gn US k->¬zP gp UR k
 nTn:¬zP gn US T
 nTp:¬zP gp UR T
 kp:aN W w
 lown:∀k,zP gn US k->W.heap.size<=k
 lowp:∀k,zP gp UR k->W.heap.size<=k
section
variable{W w:aH}{T gn gp hg:Nat}{nx pv:Sl}{rn rp:List (List Int)}{US UR:List Sl}
theorem zo.aO{w':aH}(h:zo W w T gn gp hg nx pv rn rp US UR)(k:aN w w'):zo W w' T gn gp hg nx pv rn rp US UR:=
 ⟨h.gN.aL k id,h.vn.aL k λ_ _=>id,h.vp.aL k λ_ _=>id,h.Dw,h.nTn,h.nTp,h.kp.tr k,h.lown,h.lowp⟩
theorem zo.pushN{w':aH}{rn':List (List Int)}{ssn':List Sl}(h:zo W w T gn gp hg nx pv rn rp US UR)(v:VV w' nx gn rn' ssn')(m:aY (zP gn US) w w')(f:∀k,zP gn ssn' k->zP gn US k\/w.heap.size<=k):
  zo W w' T gn gp hg nx pv rn' rp ssn' UR:=by
 have hT:=h.gN.lt;have hk:=h.kp.size;refine⟨h.gN.aL m h.nTn,v,h.vp.aL m λk hk hn=>h.Dw k hn hk,λk hk hp=>?_,λhh=>?_,h.nTp,h.kp.fresh m h.lown,λk lT=>?_,h.lowp⟩
 ·rcases f k hk with h1|h1
  ·exact h.Dw k h1 hp
  ·have:=h.vp.lt hp;omega
 ·rcases f T hh with h1|h1
  ·exact h.nTn h1
  ·omega
 ·rcases f k lT with h1|h1
  ·exact h.lown k h1
  ·omega
theorem zo.pushP{w':aH}{rp':List (List Int)}{ssp':List Sl}(h:zo W w T gn gp hg nx pv rn rp US UR)(v:VV w' pv gp rp' ssp')(m:aY (zP gp UR) w w')(f:∀k,zP gp ssp' k->zP gp UR k\/w.heap.size<=k):
  zo W w' T gn gp hg nx pv rn rp' US ssp':=by
 have hT:=h.gN.lt;have hk:=h.kp.size;refine⟨h.gN.aL m h.nTp,h.vn.aL m λk hn hk=>h.Dw k hn hk,v,λk hn hk=>?_,h.nTn,λhh=>?_,h.kp.fresh m h.lowp,h.lown,λk lT=>?_⟩
 ·rcases f k hk with h1|h1
  ·exact h.Dw k hn h1
  ·have:=h.vn.lt hn;omega
 ·rcases f T hh with h1|h1
  ·exact h.nTp h1
  ·omega
 ·rcases f k lT with h1|h1
  ·exact h.lowp k h1
  ·omega
end
def LY(G:Gr)(a:Nat)(q:List Int)(i:Nat):List Int:=if i<a then G.kN (i:Int) else if i=a then q else []
def LH(G:Gr)(a:Nat)(q:List Int)(b:Nat):List Int:=(oJ a).filter (λx=>G.GB x (b:Int))++if(b:Int)∈q then [(a:Int)] else []
def nA(m:Nat)(f:Nat->List Int):List (List Int):=(List.range m).map f
theorem Hq{m:Nat}{f:Nat->List Int}{i:Nat}(h:i<m):(nA m f)[i]? =some (f i):=by simp[nA,h]
theorem qY{m:Nat}{f g:Nat->List Int}(h:∀i,i<m->f i=g i):nA m f=nA m g:=List.map_congr_left λi hi=>h i (List.mem_range.1 hi)
theorem Yk{m:Nat}{f:Nat->List Int}{i:Nat}(r:List Int):(nA m f).set i r=nA m λj=>if j=i then r else f j:=by
 apply BH;intro j;rw[wC];unfold nA
 by_cases e:i=j
 ·subst e
  by_cases hj:i<m<;>simp[hj]
 ·by_cases hj:j<m
  ·have:¬j=i:=λh=>e h.symm
   simp[e,hj,this]
  ·simp[e,hj]
theorem Yl(m:Nat):List.replicate m []=nA m λ_=>[]:=by
 apply BH;intro j;unfold nA
 by_cases hj:j<m<;>simp[hj,Fm]
theorem aAM{G:Gr}{a:Int}(ha:G.pP a):(G.Wr (G.to a)).filter (λb=>!decide ((a,b)∈G.B))=G.kN a:=by
 unfold Gr.Wr Gr.kN;rw[List.filter_filter];refine List.filter_congr λb hb=>?_;have bY:=CJ.1 hb;unfold Gr.GB;rw[decide_eq_true ha,decide_eq_true (show G.pP b from bY)];simp only[Bool.true_and]
 by_cases e:G.fr b=G.to a
 ·simp[e]
 ·have e':¬G.to a=G.fr b:=λh=>e h.symm
  simp[e,e']
theorem TNew_i{W:aH}{H:Sc}{G:Gr}{Q:cO->aH->Prop}(h:vE W H G)(hQ:∀t w',rY w' t G->t.H=H->aN W w'->Q (some ⟨t.t,0,none⟩) w'):EK (some ⟨H.g,0,none⟩) W Q:=by
 unfold EK;have hm:=h.ok.m1;refine aF (λh=>by simp at h) (λ_=>tG h ?_);have d:aN W W.drew:=aY.drew (aY.refl _ W);intro J hJ;have sS:∀w2 T gn gp nx pv US UR,zo W w2 T gn gp H.g nx pv (List.replicate G.m []) (List.replicate G.m []) US UR->J (some ⟨T,0,none⟩,()) w2:=by
  intro w2 T gn gp nx pv US UR st;apply hJ;dsimp only;have e1:(List.replicate G.m ([]:List Int))=nA G.m (LY G 0 []):=by
   rw[Yl];exact qY λi _=>by unfold LY;rw[if_neg aB];split<;>rfl
  have e2:(List.replicate G.m ([]:List Int))=nA G.m (LH G 0 []):=by
   rw[Yl];exact qY λi _=>by simp[LH,oJ]
  have st0:zo W w2 T gn gp H.g nx pv (nA G.m (LY G 0 [])) (nA G.m (LH G 0 [])) US UR:=by rw[<-e1,<-e2];exact st
  clear e1 e2 st;refine bK (λc t w3=>∃(a:Nat) (US UR:List Sl),a<=G.m/\c=G.m-a/\t=((a:Int),())/\zo W w3 T gn gp H.g nx pv (nA G.m (LY G a [])) (nA G.m (LH G a [])) US UR) G.m ⟨0,US,UR,iF _,rfl,rfl,st0⟩ ?_;clear st0 US UR;rintro c t w3 ⟨a,US,UR,ha,rfl,rfl,st⟩ X hX;dsimp only;refine aJ (λcL=>?_) (λlK=>?_)
  ·have pE:a<G.m:=aB
   have hE:G.pP (a:Int):=⟨aB,aB⟩;refine JR (h.aO st.kp) (λ_ w4 k4=>?_) (λhn=>absurd hE hn);refine eZ (vs:=[aD (G.fr a),aD (G.to a),aD (G.wt a)]) jO rfl (by simp[Value.oneCell']) λw6 o6 k6 z6=>?_;refine aE (k:=.i) (G.to a) (BG o6).2.1 ?_;have UQ:=(st.aO k4).aO k6;refine gOut_i (h.aO UQ.kp) λs1 w7 v7 k7 f7=>?_;have YE:=UQ.aO k7;have fW:(G.Wr (G.to a)).length<=G.m:=by
    have:=wD (λe=>decide (G.fr e=G.to a)) (oJ G.m);rw[vI] at this;exact this
   have hon:=aAM hE;have IW:∀b∈G.Wr (G.to a),G.pP b:=λb hb=>CJ.1 (jG.1 hb).1;have fk:(G.Wr (G.to a)).Pairwise λx y=>x<y:=SF _ (Tn G.m);generalize G.Wr (G.to a)=sF at*;have l1:=v7.len;refine bK (λc t w8=>∃(j:Nat) (US UR:List Sl),j<=sF.length/\c=sF.length-j/\t=((j:Int),())/\(∀b,s1.b=some b->¬zP gn US b.block/\¬zP gp UR b.block)/\dP w8 cZ 1 eI s1 sF/\
     zo W w8 T gn gp H.g nx pv (nA G.m (LY G a ((sF.take j).filter λb=>!decide (((a:Int),b)∈G.B)))) (nA G.m (LH G a ((sF.take j).filter λb=>!decide (((a:Int),b)∈G.B)))) US UR) sF.length
    ⟨0,US,UR,iF _,rfl,rfl,λb hb=>⟨λhk=>?_,λhk=>?_⟩,v7,by simpa using YE⟩ ?_
   ·have:=UQ.vn.lt hk;have:=f7 b hb;omega
   ·have:=UQ.vp.lt hk;have:=f7 b hb;omega
   clear st UQ YE v7 f7 k7 o6 k6 z6 k4 US UR;rintro c t w8 ⟨j,US,UR,hj,rfl,rfl,vY,v8,st⟩ Y hY;dsimp only;refine aJ (λGJ=>?_) (λhge'=>?_)
   ·have wG:j<sF.length:=aB
    have cU:=gU wG;have hbE:=IW _ (oE wG);have sD:sF.take (j+1)=sF.take j++[sF[j]]:=FW wG;have Ro:sF[j]∉sF.take j:=λhm=>by
     obtain⟨i,hi⟩:=oZ.1 hm;have hil:=(kY.1 hi).1;rw[qF] at hil;rw[VE aB] at hi;have:=Ws.1 fk i j aB wG aB;rw[(kY.1 hi).2] at this;omega
    generalize sF[j]=b at*;obtain⟨p,hp,hc⟩:=cQ (k:=.i) (e:=λx=>x) (v8.rd fM) cU;rw[lJ];refine⟨⟨aB,GJ⟩,aA hp (aE (k:=.i) b hc ?_)⟩;refine Zv (h.aO st.kp) λw9 k9=>?_;have st9:=st.aO k9;rw[qM j aB];refine aF (λhb=>?_) (λhb=>?_)
    ·have bY:(!decide (((a:Int),b)∈G.B))=true:=hb
     have QN:(sF.take (j+1)).filter (λb=>!decide (((a:Int),b)∈G.B))=(sF.take j).filter (λb=>!decide (((a:Int),b)∈G.B))++[b]:=by
      rw[sD,JB];simp[bY]
     have hql:((sF.take j).filter λb=>!decide (((a:Int),b)∈G.B)).length<=51:=by
      have:=wD (λb=>!decide (((a:Int),b)∈G.B)) (sF.take j);rw[qF] at this;omega
     have hqn:b∉(sF.take j).filter (λb=>!decide (((a:Int),b)∈G.B)):=λhm=>Ro (jG.1 hm).1;generalize (sF.take j).filter (λb=>!decide (((a:Int),b)∈G.B))=q at*;refine aA rfl ?_;refine Ov (f:=1) (r:=LY G a q a) (x:=b) st9.gN rfl st9.nTn st9.vn (Hq pE) (by unfold LY;rw[if_neg aB,if_pos rfl];omega) λeQ ssn' YK Am f12=>?_;have iu:=st9.pushN YK Am f12;obtain⟨bn,rfl⟩:∃bn:Nat,b=(bn:Int):=⟨b.toNat,by have:=hbE.1;omega⟩;have hbn:bn<G.m:=by have:=hbE.2;omega
     have hpl:(LH G a q bn).length<1000:=by
      have:=wD (λx=>G.GB x (bn:Int)) (oJ a);rw[vI] at this;unfold LH;rw[mH]
      split<;>simp<;>omega
     refine aA rfl ?_;refine Ov (f:=2) (r:=LH G a q bn) (x:=(a:Int)) iu.gN rfl iu.nTp iu.vp (Hq hbn) hpl λfV ssp' v15 Fa f15=>?_;have st15:=iu.pushP v15 Fa f15;have h9:=k9.size;have Ck:=Am.size;refine hY (sF.length-(j+1)) _ _ aB ⟨j+1,ssn',ssp',wG,rfl,rfl,λb' bY=>⟨λhk=>?_,λhk=>?_⟩,((v8.aL k9 λ_ _=>id).aL Am λb' bY=>(vY b' bY).1).aL Fa λb' bY=>(vY b' bY).2,?_⟩
     ·rcases f12 _ hk with h1|h1
      ·exact(vY b' bY).1 h1
      ·have:=v8.lt bY;omega
     ·rcases f15 _ hk with h1|h1
      ·exact(vY b' bY).2 h1
      ·have:=v8.lt bY;omega
     ·rw[QN]
      have e1:(nA G.m (LY G a q)).set a (LY G a q a++[(bn:Int)])=nA G.m (LY G a (q++[(bn:Int)])):=by
       rw[Yk];refine qY λi _=>?_
       by_cases e:i=a
       ·subst e;simp[LY]
       ·rw[if_neg e];unfold LY;simp[e]
      have e2:(nA G.m (LH G a q)).set bn (LH G a q bn++[(a:Int)])=nA G.m (LH G a (q++[(bn:Int)])):=by
       rw[Yk];refine qY λi _=>?_
       by_cases e:i=bn
       ·subst e;simp[LH,hqn]
       ·have e':¬((i:Int)=(bn:Int)):=aB
        rw[if_neg e];unfold LH;simp[e']
      rw[<-e1,<-e2];exact st15
    ·have bY:(!decide (((a:Int),b)∈G.B))=false:=hb
     have QN:(sF.take (j+1)).filter (λb=>!decide (((a:Int),b)∈G.B))=(sF.take j).filter (λb=>!decide (((a:Int),b)∈G.B)):=by
      rw[sD,JB];simp at bY;simp[bY]
     refine hY (sF.length-(j+1)) _ _ aB ⟨j+1,US,UR,wG,rfl,rfl,vY,v8.aL k9 λ_ _=>id,by rw[QN];exact st9⟩
   ·have ej:j=sF.length:=aB
    subst ej;rw[pF,hon] at st;rw[qM a aB];refine hX _ _ _ aB ⟨a+1,US,UR,pE,rfl,rfl,?_⟩;have e1:nA G.m (LY G a (G.kN a))=nA G.m (LY G (a+1) []):=qY λi _=>by
     unfold LY
     by_cases h1:i<a
     ·rw[if_pos h1,if_pos aB]
     ·by_cases h2:i=a
      ·subst h2;rw[if_neg h1,if_pos rfl,if_pos aB]
      ·rw[if_neg h1,if_neg h2,if_neg aB];split<;>rfl
    have e2:nA G.m (LH G a (G.kN a))=nA G.m (LH G (a+1) []):=qY λi _=>by
     unfold LH;rw[HR,JB];simp only[G.CI,List.not_mem_nil,if_false,sG];congr 1
     by_cases e:G.GB (a:Int) (i:Int)=true<;>simp[e]
    rw[<-e1,<-e2];exact st
  ·have ea:a=G.m:=aB
   subst ea;refine hQ ⟨T,H,nx,pv⟩ w3 ⟨st.gN,h.aO st.kp,?_,?_,λb hb=>hb.elim (Eb st.vn.v) (Eb st.vp.v)⟩ rfl st.kp
   ·have e:tz G=nA G.m (LY G G.m []):=qY λi hi=>by unfold LY;rw[if_pos hi]
    rw[e];exact st.vn.rt
   ·have e:prevR G=nA G.m (LH G G.m []):=qY λi hi=>by unfold LH Gr.oK;simp
    rw[e];exact st.vp.rt
 have mk2:∀w1 (K:WQ Sl),(∀w2,dP w2 BP 1 eS ⟨some ⟨w1.heap.size,0,none⟩,G.m,G.m⟩ (List.replicate G.m bD)->aN w1 w2->K ⟨some ⟨w1.heap.size,0,none⟩,G.m,G.m⟩ w2)->fK prog tssInt (aD (G.m:Int)) (aD (G.m:Int)) w1 K:=λw1 K hK=>by
  refine BZ po (aX:=eS) (bD:Sl) rfl lenS aB (lM _) aB aB λw2 v2 k2=>?_;simp only[lJ] at v2 ⊢;exact hK w2 v2 k2
 have dK:∀{g k:Nat},zP g (List.replicate G.m bD) k->k=g:=λ{g k} hk=>by
  rcases hk with h1|⟨x,hx,a,ha,_⟩
  ·exact h1
  ·rw[(List.mem_replicate.1 hx).2] at ha;cases ha
 have dz:W.heap.size<=W.drew.heap.size:=d.size;refine⟨mk2 _ _ λgX v16 Nn=>mk2 _ _ λlP v17 Kw=>bP λnJ o18 Wf z18=>?_,mk2 _ _ λgX v16 Nn=>mk2 _ _ λlP v17 Kw=>bP λnJ o18 Wf z18=>?_⟩
 all_goals
  have l16:W.drew.heap.size<gX.heap.size:=v16.lt rfl;have l17:gX.heap.size<lP.heap.size:=v17.lt rfl;have V16:=VV.start ((v16.aL Kw λ_ _=>id).aL Wf λ_ _=>id);have V17:=VV.start (v17.aL Wf λ_ _=>id);have KK:=((d.tr Nn).tr Kw).tr Wf
 ·exact sS nJ lP.heap.size W.drew.heap.size gX.heap.size _ _ _ _ ⟨o18,V16,V17,λk h1 h2=>by have:=dK h1;have:=dK h2;omega,λh1=>by have:=dK h1;omega,λh1=>by have:=dK h1;omega,KK,λk h1=>by have:=dK h1;omega,λk h1=>by have:=dK h1;omega⟩
 ·exact sS nJ lP.heap.size gX.heap.size W.drew.heap.size _ _ _ _ ⟨o18,V17,V16,λk h1 h2=>by have:=dK h1;have:=dK h2;omega,λh1=>by have:=dK h1;omega,λh1=>by have:=dK h1;omega,KK,λk h1=>by have:=dK h1;omega,λk h1=>by have:=dK h1;omega⟩
end
section
theorem some_i{l:Sl}{m:Nat}{f:Nat->List Int}{e:Int}{w:aH}{Q:Sl->aH->Prop}(h:Sz w l (nA m f))(hm:m<=51)(hf:∀i,i<m->(f i).length<=1000)
  (hQ:∀s w' r,(¬(0<=e/\e<m)->r=[])->(0<=e/\e<m->r=f e.toNat)->dP w' cZ 1 eI s r->aN w w'->(∀b,s.b=some b->w.heap.size<=b.block)->Q s w'):vK l e w Q:=by
 unfold vK;have hl:l.l=m:=by
  obtain⟨ss,h1,h2,_⟩:=h;rw[h1.len,h2];simp[nA]
 have nil:¬(0<=e/\e<m)->Q bD w:=λhn=>hQ _ w [] (λ_=>rfl) (λh=>absurd h hn) (dP.nil _ _ _ _) (aY.refl _ _) λb hb=>by cases hb
 refine aJ (λh=>nil λhn=>aB) (λh0=>aJ (λh=>nil λhn=>aB) (λh1=>?_));have he:0<=e/\e<m:=⟨aB,aB⟩;have hi:e.toNat<m:=aB;obtain⟨_,p,x,hp,hc,hr⟩:=h.get (Hq hi);refine⟨⟨he.1,aB⟩,aA hp (aE (k:=.slice) x hc ?_)⟩;refine fO iN fM EZ (dP.nil w cZ 1 eI) hr (by have:=hf _ hi;simp;omega) (by have:=hf _ hi;simp;omega) λr w' hv hm hb _=>?_;refine hQ r w' (f e.toNat) (λh=>absurd he h) (λ_=>rfl) (by simpa using hv) ((aY.refl _ w).fresh hm λk ⟨a,ha,_⟩=>by cases ha) λb bY=>?_;rcases hb with h1|⟨a,ha,cL⟩
 ·rw[bY] at h1;cases h1
 ·rw[bY] at ha;cases ha;exact cL
section
variable{w:aH}{t:Mg}{G:Gr}
theorem Next_i{e:Int}{Q:Sl->aH->Prop}(h:rY w t G)(hQ:∀s w',dP w' cZ 1 eI s (G.kN e)->aN w w'->(∀b,s.b=some b->w.heap.size<=b.block)->Q s w'):HW (some ⟨t.t,0,none⟩) e w Q:=by
 unfold HW;refine aF (λh=>by simp at h) (λ_=>aA rfl (aE (k:=.slice) t.nx h.cells.2.1 ?_));refine some_i (f:=λi:Nat=>G.kN (i:Int)) h.RV.rd h.IU.ok.m1.2 (λi _=>by have:=G.NF (i:Int);have:=h.IU.ok.m1;omega) λs w' r h1 h2 v k f=>?_;have e1:r=G.kN e:=by
  by_cases he:0<=e/\e<G.m
  ·rw[h2 he];show G.kN (e.toNat:Int)=_;rw[Int.toNat_of_nonneg he.1]
  ·rw[h1 he]
   symm
   unfold Gr.kN;rw[List.filter_eq_nil_iff]
   exactλb _ hb=>he (G.iK.1 hb).1
 rw[e1] at v;exact hQ s w' v k f
theorem Prev_i{e:Int}{Q:Sl->aH->Prop}(h:rY w t G)(hQ:∀s w',dP w' cZ 1 eI s (G.oK e)->aN w w'->(∀b,s.b=some b->w.heap.size<=b.block)->Q s w'):PK (some ⟨t.t,0,none⟩) e w Q:=by
 unfold PK;refine aF (λh=>by simp at h) (λ_=>aA rfl (aE (k:=.slice) t.pv h.cells.2.2 ?_));refine some_i (f:=λi:Nat=>G.oK (i:Int)) h.prv.rd h.IU.ok.m1.2 (λi _=>by have:=G.Yn (i:Int);have:=h.IU.ok.m1;omega) λs w' r h1 h2 v k f=>?_;have e1:r=G.oK e:=by
  by_cases he:0<=e/\e<G.m
  ·rw[h2 he];show G.oK (e.toNat:Int)=_;rw[Int.toNat_of_nonneg he.1]
  ·rw[h1 he]
   symm
   unfold Gr.oK;rw[List.filter_eq_nil_iff]
   exactλb _ hb=>he (G.iK.1 hb).2.1
 rw[e1] at v;exact hQ s w' v k f
theorem JU{i:Int}{K:Addr->aH->Prop}(h:rY w t G)(hi:G.pP i)(hK:∀a w',w'.cell? (a.add 2)=some (aD (G.wt i))->aN w w'->w.heap.size<=a.block->K a w'):
  iY (some ⟨t.H.g,0,none⟩) i w λ(t2:Int×Int×Int×Unit) (_:Bool) w2=>aG w2 #[aD 0,aD 0,aD 0] QP λa3 w3=>
   aI prog QP a3 (Value.agg #[(aD t2.1),(aD t2.2.1),(aD t2.2.2.1)]) w3 λw4=>K a3 w4:=by
 refine JR h.IU (λ_ w2 k2=>?_) (λhn=>absurd hi hn);refine eZ (vs:=[aD (G.fr i),aD (G.to i),aD (G.wt i)]) jO rfl (by simp[Value.oneCell']) λw4 o4 k4 z4=>?_;exact hK _ w4 (BG o4).2.2 (k2.tr k4) k2.size
theorem Zj{es:Sl}{l:List Int}{Q:Int->Bool->aH->Prop}(h:rY w t G)(hr:Rd w es 1 eI l)(hl:l.length<=100000)(hE:∀x∈l,G.pP x)(hQ:∀w',aN w w'->Q (G.oY l) true w'):pY (some ⟨t.t,0,none⟩) es w Q:=by
 unfold pY;have hll:=hr.len;have gI:∀i,i<=l.length->0<=G.oY (l.take i)/\G.oY (l.take i)<=40*i:=λi=>by
  induction i with
  |zero=>intro _;simp[Gr.oY]
  |succ i ih=>
   intro hi;have:=ih aB;rw[FW (show i<l.length by omega)];have hw:=h.IU.ok.w1 (hE _ (oE (show i<l.length by omega)));unfold Gr.oY at this ⊢;rw[yA,List.sum_append];simp only[List.map_cons,List.map_nil,List.sum_cons,List.sum_nil];omega
 refine bK (λc s w1=>∃i:Nat,i<=l.length/\c=l.length-i/\s=(G.oY (l.take i),(i:Int),())/\aN w w1) l.length ⟨0,iF _,rfl,rfl,aY.refl _ _⟩ ?_;rintro c s w1 ⟨i,hi,rfl,rfl,k1⟩ X hX;dsimp only;refine aJ (λcL=>?_) (λlK=>?_)
 ·have dF:i<l.length:=aB
  have cU:=gU dF;have hEi:=hE _ (oE dF);have sD:=FW dF;have hb:=gI i aB;have hw:=h.IU.ok.w1 hEi;generalize l[i]=x at*;obtain⟨p,hp,hc⟩:=cQ (k:=.i) (e:=λx=>x) (hr.aL k1 dA λ_ _=>id) cU;rw[lJ];have h1:=h.aO k1;refine⟨⟨aB,cL⟩,aA hp (aE (k:=.i) x hc (aF (λh=>by simp at h) (λ_=>aA rfl (aE (k:=.ptr) (some ⟨t.H.g,0,none⟩) h1.cells.1 ?_))))⟩;refine JR h1.IU (λ_ w2 k2=>?_) (λhn=>absurd hEi hn);refine eZ (vs:=[aD (G.fr x),aD (G.to x),aD (G.wt x)]) jO rfl (by simp[Value.oneCell']) λw4 o4 k4 z4=>?_;refine aF (λh=>by simp at h) (λ_=>aE (k:=.i) (G.wt x) (BG o4).2.2 ?_);rw[qM i aB,gV (n:=G.oY (l.take i)+G.wt x) aB aB];refine hX _ _ _ aB ⟨i+1,dF,rfl,?_,(k1.tr k2).tr k4⟩;rw[sD];unfold Gr.oY;simp
 ·have:i=l.length:=aB
  subst this;rw[pF];exact hQ w1 k1
theorem Arcs_i{Q:Sl->aH->Prop}(h:rY w t G)(hQ:∀s w',dP w' iT 4 eC s G.JJ->aN w w'->(∀b,s.b=some b->w.heap.size<=b.block)->Q s w'):PL (some ⟨t.t,0,none⟩) w Q:=by
 unfold PL;have hm:=h.IU.ok.m1;refine aF (λh=>by simp at h) (λ_=>aA rfl (aE (k:=.slice) t.nx h.cells.2.1 ?_));have hnl:t.nx.l=G.m:=by
  obtain⟨ss,h1,h2,_⟩:=h.RV.rd;rw[h1.len,h2];simp[tz]
 generalize hg:(λa:Int=>(G.kN a).map λb=>(⟨a,b,G.wt b,-1⟩:bQ))=g at*;have hG:G.JJ=(oJ G.m).flatMap g:=by rw[<-hg];rfl
 have pre:∀a:Nat,a<=G.m->((oJ a).flatMap g).length<=2601:=λa ha=>by
  have:=WX g 51 (oJ a) λx _=>by rw[<-hg];simp only[lD];have:=G.NF x;omega
  rw[vI] at this;have h2:a*51<=51*51:=QB _ aB;omega
 refine bK (λc s w1=>∃(a:Nat) (o:Sl),a<=G.m/\c=G.m-a/\s=(o,(a:Int),())/\aN w w1/\dP w1 iT 4 eC o ((oJ a).flatMap g)/\(∀b,o.b=some b->w.heap.size<=b.block)) G.m
  ⟨0,bD,iF _,rfl,rfl,aY.refl _ _,dP.nil _ _ _ _,λb hb=>by cases hb⟩ ?_
 rintro c s w1 ⟨a,o,ha,rfl,rfl,k1,v1,f1⟩ X hX;dsimp only;refine aJ (λcL=>?_) (λlK=>?_)
 ·have pE:a<G.m:=aB
  obtain⟨_,p,x,hp,hc,hr⟩:=h.RV.rd.get (i:=a) (r:=G.kN (a:Int)) (by simp[tz,pE]);rw[lJ];refine⟨⟨aB,cL⟩,aA hp (aE (k:=.slice) x (k1.cell hc id) ?_)⟩;have hnx:=G.NF (a:Int);have hnE:∀b∈G.kN (a:Int),G.pP b:=λb hb=>(G.iK.1 (G.CI.1 hb)).2.1;have hga:g (a:Int)=(G.kN (a:Int)).map λb=>(⟨(a:Int),b,G.wt b,-1⟩:bQ):=by rw[<-hg]
  generalize G.kN (a:Int)=l at*;have Cj:=hr.len;have hp1:=pre a aB;refine bK (λc s w2=>∃(j:Nat) (o:Sl),j<=l.length/\c=l.length-j/\s=(o,(j:Int),())/\aN w w2/\dP w2 iT 4 eC o ((oJ a).flatMap g++(l.take j).map λb=>(⟨(a:Int),b,G.wt b,-1⟩:bQ))/\(∀b,o.b=some b->w.heap.size<=b.block)) l.length
   ⟨0,o,iF _,rfl,rfl,k1,by simpa using v1,f1⟩ ?_
  clear v1 f1 k1;rintro c s w2 ⟨j,o,hj,rfl,rfl,k2,v2,f2⟩ Y hY;dsimp only;refine aJ (λFx=>?_) (λjs=>?_)
  ·have wG:j<l.length:=aB
   have cU:=gU wG;have hEj:=hnE _ (oE wG);have sD:=FW wG;generalize l[j]=b at*;obtain⟨q,hq,hcq⟩:=cQ (k:=.i) (e:=λx=>x) (hr.aL k2 dA λ_ _=>id) cU;rw[lJ];have h2:=h.aO k2;refine⟨⟨aB,Fx⟩,aA hq (aE (k:=.i) b hcq (aA rfl (aE (k:=.ptr) (some ⟨t.H.g,0,none⟩) h2.cells.1 ?_)))⟩;refine JU h2 hEj λad w5 hc5 k5 hb5=>?_;refine aE (k:=.i) (G.wt b) hc5 ?_;refine bP λw6 o6 k6 z6=>?_;have v6:=(v2.aL k5 λ_ _=>id).aL k6 λ_ _=>id;have vx:dP w6 iT 4 eC ⟨some ⟨w5.heap.size,0,none⟩,1,1⟩ [(⟨(a:Int),b,G.wt b,-1⟩:bQ)]:=dP.new kL [_] o6 (by simp[maxLen]);have h56:=k5.tr k6;have hz5:=k5.size;have hz2:=k2.size;have fW:((oJ a).flatMap g++(l.take j).map λb=>(⟨(a:Int),b,G.wt b,-1⟩:bQ)).length<=3000:=by rw[mH,lD,qF];omega
   refine fO kO kL Fl v6 (vx.rd kL) (by show _+1<=_;omega) (by show(_+1)*32<=_;omega) λr w7 v7 m7 f7 _=>?_;have K7:aN w w7:=(k2.tr h56).fresh m7 λk ⟨b',bY,e⟩=>by rw[e];exact f2 b' bY
   rw[qM j aB];refine hY _ _ _ aB ⟨j+1,r,wG,rfl,rfl,K7,?_,λb' bY=>?_⟩
   ·rw[sD,yA,<-sH];exact v7
   ·rcases f7 with h1|⟨a',pE,GJ⟩
    ·exact f2 b' (by rw[<-h1];exact bY)
    ·rw[bY] at pE;cases pE;omega
  ·have ej:j=l.length:=aB
   subst ej;rw[pF,<-hga] at v2;rw[qM a aB];exact hX _ _ _ aB ⟨a+1,o,pE,rfl,rfl,k2,by rw[HR,JC];simpa using v2,f2⟩
 ·have:a=G.m:=aB
  subst this;exact hQ o w1 (by rw[hG];exact v1) k1 f1
end
end
section
abbrev eH(h:MQ):List Value:=[aD h.cls,aD h.mC,aD h.sE,aD h.left]
abbrev Ru(h:MQ):Int×Int×Int×Int×Unit:=(h.cls,h.mC,h.sE,h.left,())
theorem oneH(h:MQ):∀u∈eH h,u.oneCell'=true:=by intro u hu;simp at hu;rcases hu with rfl|rfl|rfl|rfl<;>rfl
theorem Ob{w:aH}{b:Nat}{e:TypeId}{h:MQ}(o:cW w b e (eH h)):bW w ⟨b,0,none⟩ 0 (qP [.i,.i,.i,.i] (Ru h)):=iP o
theorem Yf{G:Gr}:∀{l:List Int} {a:Int},G.BO a l=true->∀x∈l,G.pP x
 | [],_,_,_,hx=>by cases hx
 |y::l,a,h,x,hx=>by
  simp only[Gr.BO,tO] at h;rcases jL.1 hx with rfl|hx
  ·exact(Gr.iK.1 h.1).2.1
  ·exact Yf h.2 x hx
theorem Hj{G:Gr}(ok:xJ G){l:List Int}(hE:∀x∈l,G.pP x):0<=G.oY l/\G.oY l<=40*l.length:=by
 induction l with
 |nil=>simp[Gr.oY]
 |cons x l ih=>
  have h1:=ih λy hy=>hE y (by simp[hy]);have h2:=ok.w1 (hE x dJ);rw[Gr.Oj];simp only[mV];omega
theorem aAq{G:Gr}{l:List Int}{i:Nat}{x:Int}(h:l[i]? =some x):G.oY (l.take (i+1))=G.oY (l.take i)+G.wt x:=by
 obtain⟨hi,hx⟩:=kY.1 h;rw[FW hi,hx];unfold Gr.oY;rw[yA,List.sum_append];simp
section
variable{w:aH}{t:Mg}{G:Gr}
theorem May_i{a b:Int}{Q:Bool->aH->Prop}(h:rY w t G)(ht:G.GB a b=true)(hQ:∀w',aN w w'->Q true w'):XA (some ⟨t.t,0,none⟩) a b w Q:=by
 unfold XA;obtain⟨ha,hb,zf,hn⟩:=Gr.iK.1 ht;refine aF (λh=>by simp at h) (λ_=>aA rfl (aE (k:=.ptr) (some ⟨t.H.g,0,none⟩) h.cells.1 ?_));refine JR h.IU (λ_ w1 k1=>?_) (λhn=>absurd ha hn);refine eZ (vs:=[aD (G.fr a),aD (G.to a),aD (G.wt a)]) jO rfl (by simp[Value.oneCell']) λw3 o3 k3 z3=>?_;have h3:=(h.aO k1).aO k3;refine aA rfl (aE (k:=.ptr) (some ⟨t.H.g,0,none⟩) h3.cells.1 ?_);refine JR h3.IU (λ_ w4 k4=>?_) (λhn=>absurd hb hn);refine eZ (vs:=[aD (G.fr b),aD (G.to b),aD (G.wt b)]) jO rfl (by simp[Value.oneCell']) λw6 o6 k6 z6=>?_;refine aF (λ_=>aF (λ_=>?_) (λh=>by simp at h)) (λh=>by simp at h);refine aE (k:=.i) (G.to a) (BG ((o3.aL k4 id).aL k6 id)).2.1 (aE (k:=.i) (G.fr b) (BG o6).1 ?_);have h6:=(h3.aO k4).aO k6;refine aF (λ_=>?_) (λh=>by rw[zf] at h;simp at h);refine aA rfl (aE (k:=.ptr) (some ⟨t.H.g,0,none⟩) h6.cells.1 (Zv h6.IU λw7 k7=>?_));rw[decide_eq_false hn];exact hQ w7 ((((k1.tr k3).tr k4).tr k6).tr k7)
theorem Valid_i{e:Int}{es:Sl}{l:List Int}{Q:Bool->aH->Prop}(h:rY w t G)(he:G.pP e)(hw:G.BO e l=true)(hr:Rd w es 1 eI l)(hl:l.length<=100000)(hQ:∀w',aN w w'->Q true w'):zS (some ⟨t.t,0,none⟩) e es w Q:=by
 unfold zS;have hll:=hr.len;refine aF (λh=>by simp at h) (λ_=>aJ (λh=>aB) (λ_=>aA rfl (aE (k:=.ptr) (some ⟨t.H.g,0,none⟩) h.cells.1 (tG h.IU (aJ (λh=>aB) (λ_=>?_))))));refine bK (λc s w1=>∃(i:Nat) (a:Int),i<=l.length/\c=l.length-i/\s=(a,(i:Int),())/\aN w w1/\G.BO a (l.drop i)=true) l.length ⟨0,e,iF _,rfl,rfl,aY.refl _ _,by simpa using hw⟩ ?_;rintro c s w1 ⟨i,a,hi,rfl,rfl,k1,hwa⟩ X hX;dsimp only;refine aJ (λcL=>?_) (λlK=>hQ w1 k1);have dF:i<l.length:=aB;have cU:=gU dF;rw[List.drop_eq_getElem_cons dF] at hwa;generalize l[i]=x at*;simp only[Gr.BO,tO] at hwa;obtain⟨p,hp,hc⟩:=cQ (k:=.i) (e:=λx=>x) (hr.aL k1 dA λ_ _=>id) cU;rw[lJ];refine⟨⟨aB,cL⟩,aA hp (aE (k:=.i) x hc (May_i (h.aO k1) hwa.1 λw3 k3=>?_))⟩;refine aF (λh=>by simp at h) (λ_=>?_);rw[qM i aB];exact hX _ _ _ aB ⟨i+1,x,dF,rfl,rfl,k1.tr k3,hwa.2⟩
theorem ghint_i{a:Int}{es:Sl}{l:List Int}{Q:(uz)->Int->aH->Prop}(h:rY w t G)(ha:G.pP a)(hw:G.BO a l=true)(hr:Rd w es 1 eI l)(hl:l.length<=100000)(hQ:∀n w',aN w w'->Q (Ru (G.eV a l)) n w'):
  AD (some ⟨t.t,0,none⟩) a es w Q:=by
 unfold AD;have ok:=h.IU.ok;have hE:=Yf hw;have hll:=hr.len;have lit:∀k,((⟨w.heap.size,0,none⟩:Addr).add k)=⟨w.heap.size,k,none⟩:=λk=>by rw[aS,pU]
 refine bP λw1 o1 k1 z1=>?_;have YG:cW w1 w.heap.size Gg (eH ⟨0,0,0,0⟩):=o1;refine Zj (h.aO k1) (hr.aL k1 dA λ_ _=>id) hl hE λw2 k2=>?_;rw[lit 0,lit 1,lit 2,lit 3];refine cI (o:=3) (v:=aD (G.oY l)) (YG.aL k2 id) cY dJ rfl rfl λw3 o3 m3 z3=>?_;have up:∀{wx wy:aH},aN w wx->aY (λk=>k=w.heap.size) wx wy->aN w wy:=λkx m=>kx.fresh m λk e=>by rw[show k=w.heap.size from e];exact iX _
 have K3:=up (k1.tr k2) m3;have o3':cW w3 w.heap.size Gg (eH ⟨0,0,0,G.oY l⟩):=o3;have dW:∀w4 (f:MQ) n,cW w4 w.heap.size Gg (eH f)->aN w w4->f=G.eV a l->fL [.i,.i,.i,.i] w4 ⟨w.heap.size,0,none⟩ λ(t2:Int×Int×Int×Int×Unit)=>
   aI prog Gg ⟨w.heap.size,0,none⟩ (Value.agg #[(aD t2.1),(aD t2.2.1),(aD t2.2.2.1),(aD t2.2.2.2.1)]) w4 λw9=>fL [.i,.i,.i,.i] w9 ⟨w.heap.size,0,none⟩ λ(t3:Int×Int×Int×Int×Unit)=>Q (t3.1,t3.2.1,t3.2.2.1,t3.2.2.2.1,()) n w9:=by
  intro w4 f n o4 k4 hf;refine bJ (l:=[.i,.i,.i,.i]) (Ru f) (Ob o4) ?_;refine fD (vs:=eH f) o4 AP rfl (oneH f) λw5 o5 m5 _=>?_;refine bJ (l:=[.i,.i,.i,.i]) (Ru f) (Ob o5) ?_;rw[hf];exact hQ n w5 (up k4 m5)
 refine bK (λc s w4=>∃(i:Nat) (b:Int),i<=l.length/\c=l.length-i/\s=(b,(i:Int),())/\aN w w4/\G.pP b/\G.BO b (l.drop i)=true/\cW w4 w.heap.size Gg (eH ⟨0,0,G.oY (l.take i),G.oY l⟩)/\
  G.kD a l=((G.kD b (l.drop i)).1,(G.kD b (l.drop i)).2.1,G.oY (l.take i)+(G.kD b (l.drop i)).2.2)) l.length ⟨0,a,iF _,rfl,rfl,K3,ha,by simpa using hw,o3',by simp[Gr.oY]⟩ ?_
 rintro c s w4 ⟨i,b,hi,rfl,rfl,k4,hb,hwb,o4,hh⟩ X hX;dsimp only;have h4:=h.aO k4;refine aJ (λcL=>?_) (λlK=>?_)
 ·have dF:i<l.length:=aB
  have cU:=gU dF;have uf:=aAq (G:=G) cU;have hrng:=Hj ok (l:=l.take i) λx hx=>hE x (List.mem_of_mem_take hx);have GJ:(l.take i).length=i:=by rw[qF];omega
  rw[List.drop_eq_getElem_cons dF] at hwb hh;generalize l[i]=x at*;simp only[Gr.BO,tO] at hwb;have hxE:=(Gr.iK.1 hwb.1).2.1;have hwx:=ok.w1 hxE;obtain⟨p,hp,hc⟩:=cQ (k:=.i) (e:=λx=>x) (hr.aL k4 dA λ_ _=>id) cU;rw[lJ];refine⟨⟨aB,cL⟩,aA hp (aE (k:=.i) x hc (Next_i h4 λs1 w5 v5 k5 _=>?_))⟩;have h5:=h4.aO k5;have o5:=o4.aL k5 id;have sl:=v5.len;refine aF (λgH=>?_) (λheq=>?_)
  ·have Fw:(G.kN b).length≠1:=by
    intro e;rw[sl,e] at gH;simp at gH
   rw[show G.kD b (x::l.drop (i+1))=(G.Rz b x,x,0) by simp only[Gr.kD];rw[if_pos Fw]] at hh;refine aA rfl (aE (k:=.ptr) (some ⟨t.H.g,0,none⟩) h5.cells.1 (Of_i h5.IU hb hxE λw6 k6=>?_));refine cI (o:=0) (v:=aD (G.Rz b x)) (o5.aL k6 id) cY dJ rfl rfl λw7 o7 m7 _=>?_;refine cI (o:=1) (v:=aD x) o7 cY dJ rfl rfl λw8 o8 m8 _=>?_;refine dW w8 ⟨G.Rz b x,x,G.oY (l.take i),G.oY l⟩ i o8 (up (up ((k4.tr k5).tr k6) m7) m8) ?_;unfold Gr.eV;rw[hh];simp
  ·have heq':(G.kN b).length=1:=by rw[sl] at heq;simp at heq;omega
   rw[show G.kD b (x::l.drop (i+1))=((G.kD x (l.drop (i+1))).1,(G.kD x (l.drop (i+1))).2.1,G.wt x+(G.kD x (l.drop (i+1))).2.2) by rw[Gr.kD,if_neg (by simp[heq'])]] at hh;refine aA rfl (aE (k:=.ptr) (some ⟨t.H.g,0,none⟩) h5.cells.1 (JU h5 hxE λa5 eQ c12 LO _=>?_));have Dm:=o5.aL LO id;have c2:eQ.cell? ⟨w.heap.size,2,none⟩=some (aD (G.oY (l.take i))):=by rw[Dm.cell];rfl
   refine aE (k:=.i) _ c2 (aE (k:=.i) (G.wt x) c12 ?_);rw[gV (n:=G.oY (l.take i)+G.wt x) aB aB,qM i aB];refine cI (o:=2) (v:=aD (G.oY (l.take i)+G.wt x)) Dm cY dJ rfl rfl λgQ o13 gk _=>?_;refine hX _ _ _ aB ⟨i+1,x,dF,rfl,rfl,up ((k4.tr k5).tr LO) gk,hxE,hwb.2,?_,?_⟩
   ·rw[uf];exact o13
   ·rw[hh,uf];simp only[Prod.mk.injEq,true_and];omega
 ·have ei:i=l.length:=aB
  subst ei;refine cI (o:=0) (v:=aD 9) o4 cY dJ rfl rfl λw7 o7 m7 _=>?_;refine cI (o:=1) (v:=aD (-1)) o7 cY dJ rfl rfl λw8 o8 m8 _=>?_;refine dW w8 ⟨9,-1,G.oY (l.take l.length),G.oY l⟩ _ o8 (up (up k4 m7) m8) ?_;unfold Gr.eV;rw[hh,List.drop_length];simp[Gr.kD]
theorem Hint_i{a:Int}{es:Sl}{l:List Int}{Q:(uz)->Bool->aH->Prop}(h:rY w t G)(ha:G.pP a)(hw:G.BO a l=true)(hr:Rd w es 1 eI l)(hl:l.length<=100000)(hQ:∀w',aN w w'->Q (Ru (G.eV a l)) true w'):
  vN (some ⟨t.t,0,none⟩) a es w Q:=by
 unfold vN;refine bP λw1 o1 k1 z1=>?_;have YG:cW w1 w.heap.size Gg (eH ⟨0,0,0,0⟩):=o1;refine Valid_i (h.aO k1) ha hw (hr.aL k1 dA λ_ _=>id) hl λw2 k2=>?_;refine aF (λh=>by simp at h) (λ_=>?_);have K2:=k1.tr k2;refine ghint_i (h.aO K2) ha hw (hr.aL K2 dA λ_ _=>id) hl λn w4 k4=>?_;refine eZ (vs:=eH (G.eV a l)) AP rfl (oneH _) λw6 o6 k6 _=>?_;refine bJ (l:=[.i,.i,.i,.i]) (Ru (G.eV a l)) (Ob o6) ?_;refine fD (vs:=eH (G.eV a l)) (((YG.aL k2 id).aL k4 id).aL k6 id) AP rfl (oneH _) λw7 o7 m7 _=>?_;refine bJ (l:=[.i,.i,.i,.i]) (Ru (G.eV a l)) (Ob o7) ?_;exact hQ w7 (((K2.tr k4).tr k6).fresh m7 λk e=>by rw[show k=w.heap.size from e];exact iX _)
end
end
section
abbrev MX:=iJ×Sl
abbrev tN(x:MX):List Value:=[aD x.1.kind,aD x.1.pos,aD x.1.LM,sv x.2,aD x.1.mE,aD x.1.eV.cls,aD x.1.eV.mC,aD x.1.eV.sE,aD x.1.eV.left]
abbrev MT:=Int×Int×Int×Sl×Int×Int×Int×Int×Int×Unit
abbrev GF(x:MX):MT:=(x.1.kind,x.1.pos,x.1.LM,x.2,x.1.mE,x.1.eV.cls,x.1.eV.mC,x.1.eV.sE,x.1.eV.left,())
abbrev ff:List CK:=[.i,.i,.i,.slice,.i,.i,.i,.i,.i]
theorem Gm:∀x:MX,(tN x).length=9:=λ_=>rfl
theorem VS:∀x:MX,∀u∈tN x,u.oneCell'=true:=by intro x u hu;simp at hu;rcases hu with rfl|rfl|rfl|rfl|rfl|rfl|rfl|rfl|rfl<;>rfl
theorem eMX_ne(x:MX):tN x≠[]:=by simp
theorem dO{w:aH}{g k:Nat}{e:TypeId}{cs:List Value}{v:Value}(h:cW w g e cs)(hk:cs[k]? =some v):w.cell? ((⟨g,0,none⟩:Addr).add k)=some v:=by
 rw[aS,pU,h.cell];exact hk
structure GM(w:aH)(P:Nat->Prop)(x:MX):Prop where
 rd:Rd w x.2 1 eI x.1.cJ
 Vy:∀b,x.2.b=some b->P b.block/\b.block<w.heap.size
 len:x.1.cJ.length<=51
def fJ(w:aH)(P:Nat->Prop)(s:Sl)(l:List iJ):Prop:=∃xs:List MX,Rd w s 9 tN xs/\xs.map (·.1)=l/\(∀b,s.b=some b->P b.block/\b.block<w.heap.size)/\∀x∈xs,GM w P x
theorem GM.aL{w w':aH}{P F:Nat->Prop}{x:MX}(h:GM w P x)(m:aY F w w')(hF:∀k,P k->¬F k):GM w' P x:=
 ⟨h.rd.aL m dA λb hb=>hF _ (h.Vy b hb).1,λb hb=>⟨(h.Vy b hb).1,nM (h.Vy b hb).2 m.size⟩,h.len⟩
theorem GM.wk{w:aH}{P P':Nat->Prop}{x:MX}(h:GM w P x)(hP:∀k,P k->k<w.heap.size->P' k):GM w P' x:=
 ⟨h.rd,λb hb=>⟨hP _ (h.Vy b hb).1 (h.Vy b hb).2,(h.Vy b hb).2⟩,h.len⟩
theorem GM.none{w:aH}{P:Nat->Prop}{p:iJ}(h:p.cJ=[]):GM w P (p,bD):=
 ⟨by show Rd w _ 1 eI p.cJ;rw[h];exact Rd.nil _ _ _,λb hb=>(by cases hb),by show p.cJ.length<=51;rw[h];simp⟩
section
variable{w w':aH}{P P' F:Nat->Prop}{s:Sl}{l:List iJ}
theorem fJ.aL(h:fJ w P s l)(m:aY F w w')(hF:∀k,P k->¬F k):fJ w' P s l:=by
 obtain⟨xs,h1,h2,h3,h4⟩:=h;exact⟨xs,h1.aL m eMX_ne λb hb=>hF _ (h3 b hb).1,h2,λb hb=>⟨(h3 b hb).1,nM (h3 b hb).2 m.size⟩,λx hx=>(h4 x hx).aL m hF⟩
theorem fJ.wk(h:fJ w P s l)(hP:∀k,P k->k<w.heap.size->P' k):fJ w P' s l:=by
 obtain⟨xs,h1,h2,h3,h4⟩:=h;exact⟨xs,h1,h2,λb hb=>⟨hP _ (h3 b hb).1 (h3 b hb).2,(h3 b hb).2⟩,λx hx=>(h4 x hx).wk hP⟩
theorem fJ.aO(h:fJ w P s l)(k:aN w w'):fJ w' P s l:=h.aL k λ_ _=>id
theorem fJ.nil:fJ w P bD []:=⟨[],Rd.nil _ _ _,rfl,λb hb=>(by cases hb),by simp⟩
theorem fJ.len(h:fJ w P s l):s.l=l.length:=by
 obtain⟨xs,h1,h2,_⟩:=h;rw[h1.len,<-h2,lD]
theorem fJ.one{g:Nat}{x:MX}(o:cW w g nL (tN x))(hx:GM w P x)(hg:P g):fJ w P ⟨some ⟨g,0,none⟩,1,1⟩ [x.1]:=
 ⟨[x],(dP.new Gm [x] (by simpa using o) (by simp[maxLen])).rd Gm,rfl,λb hb=>by cases hb;exact⟨hg,o.lt⟩,by simpa using hx⟩
theorem fJ.get(h:fJ w P s l){i:Nat}{p:iJ}(hp:l[i]? =some p):∃a sl,s.b=some a/\GM w P (p,sl)/\bW w (a.add (i*9)) 0 (qP ff (GF (p,sl)))/\∀k v,(tN (p,sl))[k]? =some v->w.cell? ((a.add (i*9)).add k)=some v:=by
 obtain⟨xs,h1,h2,h3,h4⟩:=h;rw[<-h2,mY] at hp;cases hx:xs[i]? with
 |none=>rw[hx] at hp;cases hp
 |some x=>
  rw[hx] at hp;obtain⟨p',sl⟩:=x;cases hp;obtain⟨a,ha,hh⟩:=h1.get i _ hx;exact⟨a,sl,ha,h4 _ (zN hx),hh,λk v hv=>by have:=oS.1 hh k v hv;rwa[pU] at this⟩
theorem Hx{g:Nat}{x:MX}{K:Sl->aH->Prop}(o:cW w g nL (tN x))(hx:GM w (λk=>P k/\k≠g) x)(hg:P g)(hn:∀k,w.heap.size<=k->P k)(hs:fJ w (λk=>P k/\k≠g) s l)(hl:l.length<=10)
  (hK:∀r w',fJ w' P r (x.1::l)->aY (λk=>k=g) w w'->K r w'):aW prog tsMsg tsMsg ⟨some ⟨g,0,none⟩,1,1⟩ (Value.slice s.b s.l s.c) w K:=by
 obtain⟨xs,h1,h2,h3,h4⟩:=hs;have Cj:xs.length=l.length:=by rw[<-h2,lD]
 refine fO Pp Gm VS (dP.new Gm [x] (by simpa using o) (by simp[maxLen])) h1 (by simp;omega) (by simp;omega) λr w' hr hm Vp hrn=>?_;have m:aY (λk=>k=g) w w':=hm.mono λk _ ⟨a,ha,hk⟩=>by cases ha;exact hk
 refine hK r w' ⟨[x]++xs,hr.rd Gm,by rw[yA,h2];rfl,λb hb=>⟨?_,hr.lt hb⟩,λy hy=>?_⟩ m
 ·rcases Vp with e|⟨a,ha,FX⟩
  ·rw[hb] at e;cases e;exact hg
  ·rw[hb] at ha;cases ha;exact hn _ FX
 ·have Vm:GM w (λk=>P k/\k≠g) y:=by
   rcases jS.1 hy with hy|hy
   ·rw[kZ.1 hy];exact hx
   ·exact h4 y hy
  exact(Vm.aL m λk hk e=>hk.2 e).wk λk hk _=>hk.1
end
end
theorem TG:prog.underlying 341=some (.map 3 41):=iH
theorem ke:prog.underlying 358=some (.map 3 378):=iH
theorem OR:prog.underlying 164=some (.map 3 102):=iH
theorem kg:prog.underlying 98=some (.map 102 4):=iH
abbrev knW:oH:=.agg [.int .i64,.int .i64]
abbrev UK:oH:=.c .slice
abbrev qS:oH:=.c .ptr
abbrev Kv:oH:=.c .bool
theorem aAp:(prog.info? 378).map (·.zero)=some (some (knW.aX ((0:Int),(0:Int),()))):=iH
theorem TN:(prog.info? 41).map (·.zero)=some (some (UK.aX (bD:Sl))):=iH
theorem ED:(prog.info? 102).map (·.zero)=some (some (qS.aX (none:cO))):=iH
theorem bF.kp{A:As}[bF A]{w w':aH}{S:BS}(h:A w S)(k:aN w w'):A w' S:=bF.aL h k λ_ _=>id
theorem bF.dr{A:As}[bF A]{w:aH}{S:BS}(h:A w S):A w.drew S:=bF.aL h (aY.drew (aY.refl (λ_=>False) w)) λ_ _=>id
theorem bO(w:aH):aN w w.drew:=aY.drew (aY.refl _ w)
theorem aP{g:Nat}{e:TypeId}{cs:List Value}{w:aH}{S:BS}{k:Nat}{v:Value}(h:sM g e cs w S)(hk:cs[k]? =some v):w.cell? ((⟨g,0,none⟩:Addr).add k)=some v:=dO h.1 hk
theorem pG{t e:TypeId}{g o:Nat}{cs:List Value}{v:Value}{w:aH}{S:BS}{K:aH->Prop}(h:sM g e cs w S)(hi:(prog.info? t).map (·.size)=some 1)(ho:o<cs.length)(hc:v.cells=#[v])(h1:v.oneCell'=true)
  (hK:∀w',sM g e (cs.set o v) w' S->Up S S w w'->K w'):aI prog t ((⟨g,0,none⟩:Addr).add o) v w K:=by
 rw[aS,pU];exact cI h.1 hi ho hc h1 λw' o m _=>hK w' (h.up o m).1 (h.up o m).2
theorem cD{cs:List Value}{t:TypeId}{w:aH}{K:Addr->aH->Prop}(h:∀w',sM w.heap.size t cs w' (λk=>k=w.heap.size)->aN w w'->w'.heap.size=w.heap.size+1->K ⟨w.heap.size,0,none⟩ w'):aG w cs.toArray t K:=
 bP λw' o k z=>h w' ⟨o,λ_=>Iff.rfl⟩ k z
theorem yd{α:Type}{t e:TypeId}{n bytes:Nat}{z:List Value}(hE:sI prog t e n bytes z){aX:α->List Value}(gA:∀x,(aX x).length=n)(jA:∀x,∀u∈aX x,u.oneCell'=true)
  {w:aH} {S:BS} {s x:Sl} {xs ys:List α} (h:Sa e n aX s xs w S) (hx:Rd w x n aX ys) (hl:xs.length+ys.length<=1000000) (hb:bytes<=1000) {K:Sl->aH->Prop}
  (hK:∀r w' S',Sa e n aX r (xs++ys) w' S'->Up S S' w w'->K r w'):aW prog t t s (.slice x.b x.l x.c) w K:=by
 have hm:(xs.length+ys.length)*bytes<=1000000*1000:=JA hl hb;refine append_o hE gA jA h.1 hx aB aB λr w' v m hr=>hK r w' _ ⟨v,λ_=>Iff.rfl⟩ ⟨m.mono λk _ hk=>(h.2 k).2 hk,λk hk=>?_⟩;obtain⟨hc,b,hb,rfl⟩:=hk;rcases hr hc with⟨h1,h2⟩|⟨a,h1,h2⟩
 ·exact .inl ((h.2 _).2 ⟨h1,b,h2.symm.trans hb,rfl⟩)
 ·rw[hb] at h1;cases h1;exact .inr h2
theorem jN{α:Type}{e:TypeId}{n:Nat}{aX:α->List Value}(gA:∀x,(aX x).length=n){w:aH}{g:Nat}{cs:List Value}(xs:List α){S:BS}(h:sM g e cs w S)(hc:cs=xs.flatMap aX)(hm:xs.length<=1000000):Rd w ⟨some ⟨g,0,none⟩,xs.length,xs.length⟩ n aX xs:=
 (dP.new gA xs (by rw[<-hc];exact h.1) (by simp only[maxLen];omega)).rd gA
theorem Ea{α:Type}{e:TypeId}{n:Nat}{aX:α->List Value}{w:aH}:Sa e n aX bD ([]:List α) w (λ_=>False):=⟨(dP.nil _ _ _ _).veo,λk=>⟨False.elim,λh=>h.1 rfl⟩⟩
end Go.Proofs.YtihggjgakbgomaaGreat
namespace Go.Proofs.YtihggjgakbgomaaGreat
open Go Go.Den Go.Proofs
theorem we(m:Nat):AnyZI.SortsIn Tryz.prog Bm Fence.wide m:=
  ⟨λVy off cap ss W hH BI LP=>callsIn_wide.2 (AnyM.slices_Sort_int sortA Vy off cap ss W hH BI LP),
   λp cap W=>callsIn_wide.2 (AnyM.slices_Sort_int_none sortA p cap W)⟩
theorem Jn{w w':aH}(h:RowKit.Below w.heap.size w w'):aN w w':=⟨h.os,h.tape,h.output,h.size,λk hk _=>h.block k hk⟩
abbrev Rany:Value->Option (DataW Unit×List MemPlace):=λ_=>some (.nil,[])
def vInt:Value->Int
 | .int _ x=>x
 |_=>0
theorem wu{kn:oH}{w:aH}{r n:Nat}{f:Int->Option kn.T}(h:jT w r CW kn f n)(hr:∀x,(f x).isSome=true->-9223372036854775808<=x/\x<=9223372036854775807)(hn:n<=1000000):
  ∃(D:DataW Unit) (ks:List Int),w.ownsMap Tryz.prog 3 Rany r n D/\Maps.size D=n/\(intKeys D).Perm ks/\ks.Nodup/\ks.length=n/\∀x,x∈ks↔(f x).isSome=true:=by
 obtain⟨es,c,l,h1,h2,h3,h4,h5,h6,hB⟩:=h;have hel:es.toList.length=l.length:=by have:=congrArg List.length h2;simpa using this
 have hl:es.size=n:=by rw[<-h6,<-hel,Array.length_toList]
 have ia:∀x,x∈l.map (·.1)↔(f x).isSome=true:=λx=>by rw[h5 x,HD]
 have tP:∀e∈es.toList,∃x:Int,e.key=.int .i64 x/\-9223372036854775808<=x/\x<=9223372036854775807:=λe he=>by
  have:e.key∈es.toList.map (·.key):=List.mem_map_of_mem he;rw[h2] at this;obtain⟨p,hp,Wj⟩:=lN.1 this;have:=hr p.1 ((ia p.1).1 (List.mem_map_of_mem hp));exact⟨p.1,Wj.symm,this.1,this.2⟩
 have u3:Tryz.prog.underlying 3=some (.int .i64):=vu;have CU:∀e∈es.toList,∀x:Int,e.key=.int .i64 x->WideElems.rd Tryz.prog 3 Rany e=some (.int .i64 x,.nil):=λe he x hx=>by
  obtain⟨y,hy,y1,y2⟩:=tP e he;rw[hx] at hy;have hxy:x=y:=by injection hy
  subst hxy;have hw:(Lit.int .i64 x).wf=true:=by
   have m1:IntKind.min .i64=-9223372036854775808:=by decide
   have m2:IntKind.max .i64=9223372036854775807:=by decide
   simp only[Lit.wf,m1,m2,decide_eq_true y1,decide_eq_true y2,Bool.and_self]
  unfold WideElems.rd;simp[keyOf,u3,mapKey,hx,hw]
 refine⟨_,l.map (·.1),⟨es,c,h1,⟨by rw[hl];simp only[maxLen];omega,⟨hB.1,hB.2,by
  rw[h2,show l.map (λp=>CW p.1)=(l.map (·.1)).map CW by rw[List.map_map];rfl];exact List.Pairwise.map _ (λa b zf e=>zf (by injection e)) h4⟩,λe he=>by obtain⟨x,hx,_⟩:=tP e he;exact⟨_,CU e he x hx⟩⟩,aB,rfl⟩,?_,?_,h4,by simpa using h6,ia⟩
 ·show(List.foldr DataW.insert [] _).length=n
  rw[(WideShapes.sorted_perm _).length_eq];simpa using hl
 ·show(List.map _ (List.foldr DataW.insert [] _)).Perm _
  refine((WideShapes.sorted_perm _).map _).trans ?_;rw[List.map_map];have:es.toList.map ((λp:Lit×DataW Unit=>Go.intOf p.1) ∘ WideElems.rg Tryz.prog 3 Rany)=l.map (·.1):=by
   have e1:es.toList.map ((λp:Lit×DataW Unit=>Go.intOf p.1) ∘ WideElems.rg Tryz.prog 3 Rany)=es.toList.map (λe=>vInt e.key):=by
    refine List.map_congr_left λe he=>?_;obtain⟨x,hx,_⟩:=tP e he;simp only[Function.comp,WideElems.rg,CU e he x hx,Option.getD_some,Go.intOf,hx,vInt]
   have e2:es.toList.map (λe=>vInt e.key)=(es.toList.map (·.key)).map vInt:=by rw[List.map_map];rfl
   rw[e1,e2,h2,List.map_map];exact List.map_congr_left λp _=>rfl
  rw[this]
theorem Ti{w:aH}{nN:Nat}{v:Value}{ks:List Int}(h:w.ownsRow nN cZ 1 v ks.length (ks.map encZ)):∃s:Sl,v=.slice s.b s.l s.c/\dP w cZ 1 eI s ks/\∀b,s.b=some b->nN<=b.block:=by
 obtain⟨h1,h2⟩:=h;rcases h2 with⟨rfl,h2⟩|⟨g,cap,bN,rfl,hb,hg,h3,h4,h5,h6⟩
 ·have:ks=[]:=Ct h2
  subst this;exact⟨⟨none,0,0⟩,rfl,dP.nil _ _ _ _,λb hb=>by cases hb⟩
 ·refine⟨⟨some ⟨g,0,none⟩,ks.length,cap⟩,rfl,⟨rfl,h3,h4,.inr ⟨g,bN.toList.drop (ks.length*1),rfl,?_,?_⟩⟩,λb hb=>by cases hb;omega⟩
  ·have e:ks.flatMap eI=bN.toList.take (ks.length*1):=by
    rw[h6];clear h1 h3 h6
    induction ks with
    |nil=>rfl
    |cons a l ih=>rw[FC,List.map_cons,ih];rfl
   rw[e,Cs];exact hg
  ·have e:ks.flatMap eI=bN.toList.take (ks.length*1):=by
    rw[h6];clear h1 h3 h6
    induction ks with
    |nil=>rfl
    |cons a l ih=>rw[FC,List.map_cons,ih];rfl
   rw[e,Cs,Array.length_toList];exact h5
theorem merge_lt{ss ks:List Int}(h:ss.Perm ks)(hn:ks.Nodup):(ss.mergeSort (λx y=>decide (x<=y))).Pairwise (·<·)/\(ss.mergeSort (λx y=>decide (x<=y))).Perm ks:=by
 have p:=(List.mergeSort_perm ss (λx y:Int=>decide (x<=y))).trans h;have s:(ss.mergeSort (λx y=>decide (x<=y))).Pairwise (λa b=>decide (a<=b)=true):=List.pairwise_mergeSort (λa b c h1 h2=>by simp only[decide_eq_true_eq] at*;omega) (λa b=>by simp only[Bool.or_eq_true,decide_eq_true_eq];omega) ss;have nd:(ss.mergeSort (λx y=>decide (x<=y))).Nodup:=p.nodup_iff.2 hn;refine⟨?_,p⟩;have:=List.Pairwise.and s nd;refine this.imp λ{a b} zf=>?_;have h1:=zf.1;have h2:=zf.2;simp only[decide_eq_true_eq] at h1;omega
theorem aBf{w:aH}{r n:Nat}{f:Int->Option knW.T}{Q:Sl->aH->Prop}(h:jT w r CW knW f n)(hr:∀x,(f x).isSome=true->-9223372036854775808<=x/\x<=9223372036854775807)(hn:n<=1000000)
  (hQ:∀s ks w',dP w' cZ 1 eI s ks->aN w w'->(∀b,s.b=some b->w.heap.size<=b.block)->ks.Pairwise (·<·)->(∀x,x∈ks↔(f x).isSome=true)->ks.length=n->Q s w'):
  mP (some r) w λv w1=>gT v w1 Q:=by
 obtain⟨D,ks,hown,LP,hp,fk,fW,ia⟩:=wu h hr hn;have DM:=hown.lt;have hseq:SeqGives Fence.wide 2 Tryz.prog 260 #[.pointer (some ⟨w.heap.size,0,none⟩)] encZ (λss=>ss.Perm (intKeys D)) (Maps.size D) (w.alloc (.cells #[.map (some r)] 358)):=
  AnyZI.keys_gives (ρ:=Pc) {keysA with} Fence.wide _ trivial rfl aB w.heap.size r n D _ dJ dJ (by
   obtain⟨es,DW,hb,Ft,hs,hD⟩:=hown;exact⟨es,DW,(RowKit.Below.heap_alloc _ _ r DM).trans hb,Ft,hs,hD⟩)
 have cK:Calls Tryz.prog 254 #[.map (some r)] w λe w'=>e=.returned (.func (.func 260) #[] #[.pointer (some ⟨w.heap.size,0,none⟩)])/\w'=w.alloc (.cells #[.map (some r)] 358):=
  (callsIn_wide (n:=5)).1 (AnyZI.keys_in keysA Fence.wide 5 trivial rfl (some r) w)
 have cS:=(callsIn_wide (n:=5)).1 (AnyZI.sorted_in wg Fence.wide 5 trivial trivial trivial trivial rfl aB (we _) (enters_of Tryz.func120 iH rfl) 260 #[.pointer (some ⟨w.heap.size,0,none⟩)] trivial (enters_of Tryz.func260 iH rfl) _ _ (by rw[LP];simp only[maxLen];omega) (by rw[LP];omega) _ hseq);refine Calls.mono cK ?_;rintro e w' ⟨rfl,rfl⟩;refine⟨_,rfl,?_⟩;show gT _ _ Q;refine Calls.mono cS ?_;rintro e w2 ⟨v,ss,rfl,hS,rL,hnil,hb⟩;obtain⟨m1,m2⟩:=merge_lt (hS.trans hp) fk;have fo:(ss.mergeSort (λx y=>decide (x<=y))).length=ss.length:=(List.mergeSort_perm ss _).length_eq;rw[<-fo] at rL;obtain⟨s,rfl,hv,hf⟩:=Ti rL;refine⟨_,rfl,?_⟩;show Q ⟨s.b,s.l,s.c⟩ w2;have kk:=Jn hb;have ka:aN w (w.alloc (.cells #[.map (some r)] 358)):=aN.alloc w _;exact hQ s _ w2 hv (ka.tr kk) (λb hb=>by have:=hf b hb;simp at this;omega) m1 (λx=>(m2.mem_iff).trans (ia x)) (m2.length_eq.trans fW)
theorem aBe{w:aH}{r n:Nat}{f:Int->Option qS.T}{Q:Sl->aH->Prop}(h:jT w r CW qS f n)(hr:∀x,(f x).isSome=true->-9223372036854775808<=x/\x<=9223372036854775807)(hn:n<=1000000)
  (hQ:∀s ks w',dP w' cZ 1 eI s ks->aN w w'->(∀b,s.b=some b->w.heap.size<=b.block)->ks.Pairwise (·<·)->(∀x,x∈ks↔(f x).isSome=true)->ks.length=n->Q s w'):
  lO (some r) w λv w1=>gT v w1 Q:=by
 obtain⟨D,ks,hown,LP,hp,fk,fW,ia⟩:=wu h hr hn;have DM:=hown.lt;have hseq:SeqGives Fence.wide 2 Tryz.prog 121 #[.pointer (some ⟨w.heap.size,0,none⟩)] encZ (λss=>ss.Perm (intKeys D)) (Maps.size D) (w.alloc (.cells #[.map (some r)] 164)):=
  AnyZI.keys_gives (ρ:=Pb) {keysB with} Fence.wide _ trivial rfl aB w.heap.size r n D _ dJ dJ (by
   obtain⟨es,DW,hb,Ft,hs,hD⟩:=hown;exact⟨es,DW,(RowKit.Below.heap_alloc _ _ r DM).trans hb,Ft,hs,hD⟩)
 have cK:Calls Tryz.prog 68 #[.map (some r)] w λe w'=>e=.returned (.func (.func 121) #[] #[.pointer (some ⟨w.heap.size,0,none⟩)])/\w'=w.alloc (.cells #[.map (some r)] 164):=
  (callsIn_wide (n:=5)).1 (AnyZI.keys_in keysB Fence.wide 5 trivial rfl (some r) w)
 have cS:=(callsIn_wide (n:=5)).1 (AnyZI.sorted_in wg Fence.wide 5 trivial trivial trivial trivial rfl aB (we _) (enters_of Tryz.func120 iH rfl) 121 #[.pointer (some ⟨w.heap.size,0,none⟩)] trivial (enters_of Tryz.func121 iH rfl) _ _ (by rw[LP];simp only[maxLen];omega) (by rw[LP];omega) _ hseq);refine Calls.mono cK ?_;rintro e w' ⟨rfl,rfl⟩;refine⟨_,rfl,?_⟩;show gT _ _ Q;refine Calls.mono cS ?_;rintro e w2 ⟨v,ss,rfl,hS,rL,hnil,hb⟩;obtain⟨m1,m2⟩:=merge_lt (hS.trans hp) fk;have fo:(ss.mergeSort (λx y=>decide (x<=y))).length=ss.length:=(List.mergeSort_perm ss _).length_eq;rw[<-fo] at rL;obtain⟨s,rfl,hv,hf⟩:=Ti rL;refine⟨_,rfl,?_⟩;show Q ⟨s.b,s.l,s.c⟩ w2;have kk:=Jn hb;have ka:aN w (w.alloc (.cells #[.map (some r)] 164)):=aN.alloc w _;exact hQ s _ w2 hv (ka.tr kk) (λb hb=>by have:=hf b hb;simp at this;omega) m1 (λx=>(m2.mem_iff).trans (ia x)) (m2.length_eq.trans fW)
end Go.Proofs.YtihggjgakbgomaaGreat
namespace Go.Proofs.YtihggjgakbgomaaGreat
open Go Go.Den
open Go.IntKind (wrap)
abbrev eU:BitVec 8->List Value:=λb=>[.int .u8 (b.toNat:Int)]
abbrev eUs:Sl×List (BitVec 8)->List Value:=λp=>[.slice p.1.b p.1.l p.1.c]
theorem xp{α:Type}{w:aH}{s:Sl}{aX:α->Value}{xs:List α}(h:Rd w s 1 (λx=>[aX x]) xs)(i:Nat)(x:α)(hx:xs[i]? =some x):∃a,s.b=some a/\w.cell? (a.add (i*1))=some (aX x):=by
 obtain⟨a,ha,hh⟩:=h.get i x hx;exact⟨a,ha,by have:=hh.1;rwa[add_zero] at this⟩
theorem RK{α:Type}(l:List α)(k:Nat)(h:k<l.length):l.take (k+1)=l.take k++[l[k]]:=by
 rw[FW h]
theorem poly_int:(2197175160:Int)=(poly.toNat:Int):=by decide
theorem one_int:(1:Int)=(((1#32).toNat:Nat):Int):=by decide
theorem byte_xor(c:BitVec 32)(b:BitVec 8):oL .xor .u32 (c.toNat:Int) (wrap .u32 (b.toNat:Int))=(((c^^^b.setWidth 32).toNat:Nat):Int):=by
 have h:wrap .u32 (b.toNat:Int)=(((b.setWidth 32).toNat:Nat):Int):=by
  rw[IntKind.wrap_u32,BitVec.toNat_setWidth];have:=b.isLt;omega
 rw[h,ZS]
theorem not_sum(c:BitVec 32):oL .xor .u32 (if IntKind.signed .u32 then-1 else IntKind.max .u32) (c.toNat:Int)=(((~~~ c).toNat:Nat):Int):=by
 have h:(if IntKind.signed .u32 then-1 else IntKind.max .u32)=(((BitVec.allOnes 32).toNat:Nat):Int):=by decide
 rw[h,ZS];rw[BitVec.allOnes_xor]
theorem xorP(c:BitVec 32):oL .xor .u32 (c.toNat:Int) (2197175160:Int)=(((c^^^poly).toNat:Nat):Int):=by
 rw[poly_int,ZS]
theorem and1(c:BitVec 32):oL .and .u32 (c.toNat:Int) (1:Int)=if c.getLsbD 0 then 1 else 0:=by
 have:=aA5 c 1#32;rw[<-one_int] at this;rw[this,and_one]
theorem XY(ps:List (Sl×List (BitVec 8)))(k:Nat)(h:k<ps.length):(ps.take (k+1)).flatMap (·.2)=(ps.take k).flatMap (·.2)++ps[k].2:=by
 rw[RK _ _ h,JC];simp
theorem By{parts:Sl}{w:aH}{ps:List (Sl×List (BitVec 8))}{Q:Int->aH->Prop}(hp:Rd w parts 1 eUs ps)(hb:∀p∈ps,Rd w p.1 1 eU p.2)
  (hn:ps.length<9223372036854775807) (DM:∀p∈ps,p.2.length<9223372036854775807) (hQ:Q ((yC (ps.flatMap (·.2))).toNat:Int) w):rE parts w Q:=by
 unfold rE;have fW:=hp.len;refine bK (λn t w'=>∃k,k<=ps.length/\n=ps.length-k/\t=(((DV (BitVec.allOnes 32) ((ps.take k).flatMap (·.2))).toNat:Int),(k:Int),())/\w'=w) ps.length
  ⟨0,iF _,rfl,by simp[DV],rfl⟩ ?_
 rintro n t w' ⟨k,hk,rfl,rfl,rfl⟩ X hX;dsimp only;refine aJ (λh=>?_) (λh=>?_)
 ·have lT:k<ps.length:=aB
  refine⟨⟨by simp,by simpa using h⟩,?_⟩;obtain⟨a,ha,hc⟩:=xp hp k ps[k] (gU lT);refine aA ha (aE (k:=.slice) ps[k].1 hc ?_);have hr:=hb ps[k] (oE lT);have yD:=hr.len;have ze:=DM ps[k] (oE lT);refine bK (λn t Dk=>∃j,j<=ps[k].2.length/\n=ps[k].2.length-j/\t=(((DV (DV (BitVec.allOnes 32) ((ps.take k).flatMap (·.2))) (ps[k].2.take j)).toNat:Int),(j:Int),())/\Dk=w') ps[k].2.length
   ⟨0,iF _,rfl,by simp[DV],rfl⟩ ?_
  rintro n t Dk ⟨j,hj,rfl,rfl,rfl⟩ Y hY;dsimp only;refine aJ (λh=>?_) (λh=>?_)
  ·have wG:j<ps[k].2.length:=aB
   refine⟨⟨by simp,by simpa using h⟩,?_⟩;obtain⟨a2,ha2,PX⟩:=xp hr j ps[k].2[j] (gU wG);refine aA ha2 (aE (k:=.int .u8) ((ps[k].2[j].toNat:Nat):Int) PX ?_);generalize hc0:DV (DV (BitVec.allOnes 32) ((ps.take k).flatMap (·.2))) (ps[k].2.take j)=c0 at hY ⊢;simp only[byte_xor];refine bK (λn t w3=>∃i,i<=8/\n=8-i/\t=(((QQ i (c0^^^ps[k].2[j].setWidth 32)).toNat:Int),(i:Int),())/\w3=Dk) 8
    ⟨0,aB,rfl,by simp[QQ],rfl⟩ ?_
   rintro n t w3 ⟨i,hi,rfl,rfl,rfl⟩ Z hZ;dsimp only;refine aJ (λh=>?_) (λh=>?_)
   ·have dF:i<8:=aB
    refine⟨aB,?_⟩;simp only[and1,aAD,gV (n:=(i:Int)+1) aB aB];have hs:=Bl i (c0^^^ps[k].2[j].setWidth 32);rw[Zw] at hs;refine aF (λh=>?_) (λh=>?_)
    ·refine hZ (8-(i+1)) _ _ aB ⟨i+1,aB,rfl,?_,rfl⟩
     have hl:(QQ i (c0^^^ps[k].2[j].setWidth 32)).getLsbD 0=true:=by
      cases hl:(QQ i (c0^^^ps[k].2[j].setWidth 32)).getLsbD 0
      ·rw[hl] at h;simp at h
      ·rfl
     rw[hs,if_pos hl,xorP];rfl
    ·refine hZ (8-(i+1)) _ _ aB ⟨i+1,aB,rfl,?_,rfl⟩
     have hl:¬(QQ i (c0^^^ps[k].2[j].setWidth 32)).getLsbD 0=true:=by
      intro hl;rw[if_pos hl] at h;simp at h
     rw[hs,if_neg hl];rfl
   ·have dF:i=8:=aB
    subst dF;simp only[gV (n:=(j:Int)+1) aB aB];refine hY (ps[k].2.length-(j+1)) _ _ aB ⟨j+1,aB,rfl,?_,rfl⟩;rw[RK _ _ wG,pw,hc0];simp[km]
  ·have wG:j=ps[k].2.length:=aB
   subst wG;simp only[gV (n:=(k:Int)+1) aB aB];refine hX (ps.length-(k+1)) _ _ aB ⟨k+1,aB,rfl,?_,rfl⟩;rw[XY _ _ lT,Ul,pF];simp
 ·have lT:k=ps.length:=aB
  subst lT;simp only[not_sum,pF];exact hQ
open Tryz (prog)
section
theorem Rm:∀b:cH,(eU b).length=1:=λ_=>rfl
theorem oneU:∀b:cH,∀u∈eU b,u.oneCell'=true:=by intro b u hu;simp at hu;subst hu;rfl
theorem fN(b:cH):eU b≠[]:=by simp
theorem pow8(i:Nat):(2:Int)^(8*i)=((256^i:Nat):Int):=by
 rw[show(256:Nat)=2^8 from rfl,<-Nat.pow_mul];norm_cast
theorem shl8{x:Int}{i:Nat}(hi:i<=7):Int.fdiv x (2^(min (Int.toNat (aQ ((8:Int)*(i:Int)))) (IntKind.bits .i64)))=x/((256^i:Nat):Int):=by
 rw[gV (n:=(8:Int)*(i:Int)) aB aB,show Int.toNat ((8:Int)*(i:Int))=8*i by omega,Nat.min_eq_left (show 8*i<=IntKind.bits .i64 by show 8*i<=64;omega),pow8,Int.fdiv_eq_ediv_of_nonneg _ (Int.natCast_nonneg _)]
theorem aAr{x:Int}(h:0<=x){i:Nat}(hi:i<=7):wrap .u8 (Int.fdiv x (2^(min (Int.toNat (aQ ((8:Int)*(i:Int)))) (IntKind.bits .i64))))=(((BitVec.ofNat 8 (x.toNat/256^i)).toNat:Nat):Int):=by
 rw[shl8 hi,IntKind.wrap_u8,BitVec.toNat_ofNat];obtain⟨n,rfl⟩:∃n:Nat,x=n:=⟨x.toNat,aB⟩;rw[lJ,<-Int.natCast_ediv];generalize n/256^i=m;omega
def Dx(g:Nat)(xs:List cH)(sp:Bool):As:=Ex λsl=>aZ (sM g Ee [sv sl,.bool sp]) (Sa Gh 1 eU sl xs)
instance{g:Nat}{xs:List cH}{sp:Bool}:bF (Dx g xs sp):=by unfold Dx;infer_instance
section
variable{w:aH}{S:BS}{g:Nat}{xs:List cH}{sp:Bool}
theorem wr_app{sl x:Sl}{ys:List cH}{K:aH->Prop}(h:aZ (sM g Ee [sv sl,.bool sp]) (Sa Gh 1 eU sl xs) w S)(hx:Rd w x 1 eU ys)(hl:xs.length+ys.length<=1000000)
  (hK:∀w' S',Dx g (xs++ys) sp w' S'->Up S S' w w'->K w'):aW prog BV BV sl (.slice x.b x.l x.c) w λs2 w1=>aI prog BV ((⟨g,0,none⟩:Addr).add 0) (.slice s2.b s2.l s2.c) w1 K:=by
 obtain⟨S2,hv,_,dN⟩:=(aZ.r h).put;refine yd CR Rm oneU hv hx hl aB λr w1 S2' v1 u1=>?_;obtain⟨S1,h1,U1⟩:=dN _ _ _ u1 v1;obtain⟨S3,hb,_,GZ⟩:=(aZ.l h1).put;refine pG hb TQ dJ rfl rfl λw2 b2 u2=>?_;obtain⟨S4,h4,U4⟩:=GZ _ _ _ u2 b2;exact hK w2 S4 ⟨r,h4⟩ (U1.tr U4)
theorem Ye{K:aH->Prop}(h:Dx g xs sp w S)(hK:∀w' S',Dx g xs true w' S'->Up S S' w w'->K w'):aI prog yB ((⟨g,0,none⟩:Addr).add 1) (.bool true) w K:=by
 obtain⟨sl,h⟩:=h;obtain⟨S3,hb,_,GZ⟩:=(aZ.l h).put;refine pG hb iL dJ rfl rfl λw2 b2 u2=>?_;obtain⟨S4,h4,U4⟩:=GZ _ _ _ u2 b2;exact hK w2 S4 ⟨sl,h4⟩ U4
theorem WRaw_i{b:Sl}{bs:List cH}{Q:cO->aH->Prop}(h:Dx g xs sp w S)(hb:Rd w b 1 eU bs)(hl:xs.length+bs.length<=1000000)
  (hQ:∀w' S',Dx g (xs++bs) sp w' S'->Up S S' w w'->Q (some ⟨g,0,none⟩) w'):CN (some ⟨g,0,none⟩) b w Q:=by
 unfold CN;obtain⟨sl,h⟩:=h;obtain⟨S1,h1,_,_⟩:=(aZ.l h).put;exact aF (λ_=>aA rfl (aE (k:=.slice) sl (aP h1 rfl) (wr_app h hb hl hQ))) (λh=>by simp at h)
theorem mu{n:Sl}{ns:List Int}{sz:Nat}{Q:cO->aH->Prop}(h:Dx g xs sp w S)(hs:1<=sz/\sz<=7)(hn:Rd w n 1 eI ns)(hnS:∀b,n.b=some b->¬S b.block/\b.block<w.heap.size)(fW:xs.length+ns.length*7<=900000)
  (hQ:∀Ks uU w' S',Dx g Ks uU w' S'->Up S S' w w'->Ks.length<=xs.length+ns.length*7->((∀x∈ns,0<=x/\x.toNat<256^sz)->uU=sp/\Ks=xs++ns.flatMap λx=>be sz x.toNat)->Q (some ⟨g,0,none⟩) w'):aU (some ⟨g,0,none⟩) (sz:Int) n w Q:=by
 unfold aU;have nl:=hn.len;refine aF (λh=>by simp at h) (λ_=>aJ (λh=>aB) (λ_=>aJ (λh=>aB) (λ_=>?_)));refine bK (λc t w3=>∃(i:Nat) (S3:BS),i<=ns.length/\c=ns.length-i/\t=((i:Int),())/\Dx g (xs++(ns.take i).flatMap λx=>be sz x.toNat) sp w3 S3/\Up S S3 w w3) ns.length ⟨0,S,iF _,rfl,rfl,by simpa using h,Up.refl _ _⟩ ?_;rintro c t w3 ⟨i,S3,hi,rfl,rfl,h3,u3⟩ X hX;dsimp only;have QN:∀l:List Int,(l.flatMap λx=>be sz x.toNat).length=l.length*sz:=λl=>by
  induction l with
  |nil=>simp
  |cons a l ih=>rw[FC,mH,ih,pH,mV,Nat.add_mul];omega
 have htl:((ns.take i).flatMap λx=>be sz x.toNat).length<=i*7:=by
  rw[QN,qF,Nat.min_eq_left hi];exact Nat.mul_le_mul_left _ hs.2
 refine aJ (λcL=>?_) (λlK=>?_)
 ·have dF:i<ns.length:=aB
  have cU:=gU dF;have fP:=oE dF;have sD:=FW dF;generalize ns[i]=x at*;obtain⟨b,hb,cb⟩:=cQ (k:=.i) (e:=λx=>x) (hn.aL u3.m dA λb hb=>(hnS b hb).1) cU;rw[lJ,qM i aB];refine⟨⟨aB,cL⟩,aA hb (aE (k:=.i) x cb (aJ (λhx=>aA rfl (Ye h3 λw4 S4 h4 u4=>?_)) (λhx0=>⟨by rw[gV aB aB];omega,?_⟩)))⟩
  ·exact hQ _ _ w4 S4 h4 (u3.tr u4) (by rw[mH];omega) λhv=>absurd (hv x fP).1 aB
  ·rw[shl8 hs.2]
   have uN:(0:Int)<((256^sz:Nat):Int):=by have:0<256^sz:=Nat.pow_pos aB;omega
   refine aJ (λhx=>aA rfl (Ye h3 λw4 S4 h4 u4=>?_)) (λAn=>?_)
   ·refine hQ _ _ w4 S4 h4 (u3.tr u4) (by rw[mH];omega) λhv=>?_
    have h1:=hv x fP;have:x/((256^sz:Nat):Int)=0:=Int.ediv_eq_zero_of_lt h1.1 aB;omega
   ·have hx:x.toNat<256^sz:=by
     have h3:x<((256^sz:Nat):Int):=by
      by_cases hh:x<((256^sz:Nat):Int)
      ·exact hh
      ·have:1<=x/((256^sz:Nat):Int):=by rw[Int.le_ediv_iff_mul_le uN];omega
       omega
     omega
    have LP:aQ ((sz:Int)-1)=(sz:Int)-1:=gV aB aB;rw[LP];refine bK (λc t w6=>∃(j:Nat) (d:List cH) (S6:BS),j<=sz/\c=j/\t=((j:Int)-1,())/\d++be j x.toNat=be sz x.toNat/\Dx g ((xs++(ns.take i).flatMap λx=>be sz x.toNat)++d) sp w6 S6/\Up S S6 w w6) sz ⟨sz,[],S3,iX _,rfl,rfl,rfl,by simpa using h3,u3⟩ ?_;rintro c t w6 ⟨j,d,S6,hj,hcj,rfl,hd,h6,u6⟩ Y hY;dsimp only;have ie:d.length+j=sz:=by have:=congrArg List.length hd;simp only[mH,pH] at this;exact this
    refine aJ (λhj1=>?_) (λhj1=>?_)
    ·obtain⟨j',rfl⟩:∃j',j=j'+1:=⟨j-1,aB⟩
     have e1:((j'+1:Nat):Int)-1=(j':Int):=aB;rw[e1];obtain⟨sl,h6⟩:=h6;have h6d:=bF.dr h6;obtain⟨S7,h7,_,_⟩:=(aZ.l h6d).put;refine aA rfl (aE (k:=.slice) sl (aP h7 rfl) ⟨by rw[gV aB aB];omega,?_⟩);rw[aAr aB aB];refine cD (cs:=eU (BitVec.ofNat 8 (x.toNat/256^j'))) λw7 b7 k7 z7=>⟨aP (bF.kp h7 k7) rfl,?_⟩;refine wr_app (x:=⟨some ⟨w6.drew.heap.size,0,none⟩,1,1⟩) (bF.kp h6d k7) (jN Rm [_] b7 rfl dJ) (by simp only[mH,mV,List.length_nil];omega) λw8 S8 h8 u8=>?_;refine hY j' _ _ aB ⟨j',d++[BitVec.ofNat 8 (x.toNat/256^j')],S8,aB,rfl,?_,?_,by rw[sH] at h8;exact h8,u6.tr ((Up.aO ((bO w6).tr k7)).tr u8)⟩
     ·rw[gV aB aB]
     ·rw[sH];exact hd
    ·have hj0:j=0:=aB
     subst hj0;simp only[be,sG] at hd;subst hd;refine hX (ns.length-(i+1)) _ _ aB ⟨i+1,S6,aB,rfl,rfl,?_,u6⟩;rw[sD,JC,List.flatMap_singleton,<-sH];exact h6
 ·have ei:i=ns.length:=aB
  subst ei;rw[pF] at h3 htl;exact hQ _ _ w3 S3 h3 u3 (by rw[mH];omega) λ_=>⟨rfl,rfl⟩
end
theorem vJ{s:Sl}{xs:List cH}{w:aH}{Q:Sl->aH->Prop}(hs:Rd w s 1 eU xs)(hb:xs.length<=1000000)
  (hQ:∀r w' S',Sa Gh 1 eU r xs w' S'->aN w w'->(∀k,S' k->w.heap.size<=k)->CX 1 eU r xs w' (λk=>∃b,r.b=some b/\k=b.block)->(∀b,r.b=some b->w.heap.size<=b.block)->Q r w'):cF s w Q:=by
 unfold cF;refine aF (λh=>?_) (λh=>?_)
 ·have hn:xs=[]:=by
   cases xs with
   |nil=>rfl
   |cons x r=>obtain⟨a,ha,_⟩:=hs.get 0 x rfl;rw[ha] at h;simp at h
  subst hn;exact hQ _ w _ Ea (aY.refl _ _) (λk h=>h.elim) ⟨Rd.nil _ _ _,fN,λb hb=>(by cases hb),λk=>Iff.rfl⟩ λb hb=>by cases hb
 ·refine cD (cs:=[]) λw1 b1 k1 z1=>?_
  have hv:dP w1 Gh 1 eU ⟨some ⟨w.heap.size,0,none⟩,0,0⟩ ([]:List cH):=dP.new Rm [] b1.1 (by simp[maxLen]);refine fO CR Rm oneU hv (hs.aL k1 fN λ_ _=>id) (by simp;omega) (by simp;omega) λr w2 v2 m2 hr _=>?_;have fr:∀b,r.b=some b->w.heap.size<=b.block:=λb hb=>by
   rcases hr with h|⟨a,h,h2⟩
   ·rw[hb] at h;cases h;exact iX _
   ·rw[hb] at h;cases h;omega
  rw[List.nil_append] at v2;exact hQ r w2 _ ⟨v2.veo,λ_=>Iff.rfl⟩ (k1.fresh m2 λk ⟨a,ha,e⟩=>by cases ha;rw[e];exact iX _) (λk ⟨_,b,hb,e⟩=>by rw[e];exact fr b hb) ⟨v2.rd Rm,fN,λb hb=>v2.lt hb,λ_=>Iff.rfl⟩ fr
theorem yp{w:aH}{S:BS}{g:Nat}{xs:List cH}{sp:Bool}{Q:Sl->Int->aH->Prop}(h:Dx g xs sp w S)(hb:xs.length<=1000000)
  (hQ:∀r w',aN w w'->CX 1 eU r (if sp then [] else xs) w' (λk=>∃b,r.b=some b/\k=b.block)->(∀b,r.b=some b->w.heap.size<=b.block)->Q r (if sp then 1 else 0) w'):pL (some ⟨g,0,none⟩) w Q:=by
 unfold pL;obtain⟨sl,h⟩:=h;obtain⟨S1,h1,_,_⟩:=(aZ.l h).put;obtain⟨S2,h2,_,_⟩:=(aZ.r h).put;refine aF (λh=>by simp at h) (λ_=>aA rfl (aE (k:=.bool) sp (aP h1 rfl) (aF (λhs=>?_) (λhs=>?_))))
 ·have QL:sp=true:=hs
  subst QL;exact hQ bD w (aY.refl _ _) ⟨Rd.nil _ _ _,fN,λb hb=>(by cases hb),λ_=>Iff.rfl⟩ λb hb=>by cases hb
 ·have QL:sp=false:=hs
  subst QL;exact aA rfl (aE (k:=.slice) sl (aP h1 rfl) (vJ (h2.1.rd Rm) hb λr w1 S' _ k1 _ rd fr=>hQ r w1 k1 rd fr))
end
section
def tQ(g:Nat)(l:List cH)(sp:Bool):As:=Ex λsl=>aZ (sM g tReader [sv sl,.bool sp]) (CX 1 eU sl l)
instance{g:Nat}{xs:List cH}{sp:Bool}:bF (tQ g xs sp):=by unfold tQ;infer_instance
abbrev rK(r:Sl):BS:=λk=>∃b,r.b=some b/\k=b.block
theorem JS{w:aH}:CX 1 eU bD [] w (rK bD):=⟨Rd.nil _ _ _,fN,λb hb=>(by cases hb),λ_=>Iff.rfl⟩
theorem de_lt:∀(q:List cH) (n j:Nat),n<256^j->de n q<256^(j+q.length):=by
 intro q
 induction q with
 |nil=>intro n j h;simpa [de] using h
 |cons c q ih=>
  intro n j h;have hc:=c.isLt;have:=ih (n*256+c.toNat) (j+1) (by rw[Nat.pow_succ];omega);rwa[show j+1+q.length=j+(c::q).length by simp only[mV];omega] at this
theorem Px{b:cO}{c l n:Nat}{a:Addr}(h:aR b c l n=some a):∃a0,b=some a0/\a.block=a0.block:=by
 unfold aR at h
 split at h
 ·exact⟨a,h,rfl⟩
 ·cases b with
  |none=>cases h
  |some x=>cases h;exact⟨x,rfl,by simp⟩
theorem or_byte{n:Nat}{c:cH}(hn:n<256^6):oL .or .i64 (aQ ((n:Int)*2^(min (Int.toNat (8:Int)) (IntKind.bits .i64)))) (aQ (c.toNat:Int))=((n*256+c.toNat:Nat):Int):=by
 have hc:=c.isLt;have e8:(2:Int)^(min (Int.toNat (8:Int)) (IntKind.bits .i64))=256:=by decide
 rw[e8,gV aB aB,gV aB aB];show aQ ((BitVec.ofInt 64 ((n:Int)*256) |||BitVec.ofInt 64 (c.toNat:Int)).toNat:Int)=_;have h1:BitVec.ofInt 64 ((n:Int)*256)=BitVec.ofNat 64 (n*256):=by
  rw[show(n:Int)*256=((n*256:Nat):Int) by omega,BitVec.ofInt_natCast]
 have h2:BitVec.ofInt 64 (c.toNat:Int)=BitVec.ofNat 64 c.toNat:=BitVec.ofInt_natCast ..;rw[h1,h2,BitVec.toNat_or,BitVec.toNat_ofNat,BitVec.toNat_ofNat,Nat.mod_eq_of_lt aB,Nat.mod_eq_of_lt aB];have:=Nat.shiftLeft_add_eq_or_of_lt (i:=8) (b:=c.toNat) aB n;rw[Nat.shiftLeft_eq,show(2:Nat)^8=256 from rfl] at this;rw[<-this];exact gV aB aB
section
variable{w:aH}{S:BS}{g:Nat}{l:List cH}{sp:Bool}
theorem Ou{K:aH->Prop}(h:tQ g l sp w S)(hK:∀w',tQ g l true w' S->Up S S w w'->K w'):aI prog yB ((⟨g,0,none⟩:Addr).add 1) (.bool true) w K:=by
 obtain⟨sl,S1,S2,h1,h2,d,e⟩:=h;refine pG h1 iL dJ rfl rfl λw2 b2 u2=>?_;exact hK w2 ⟨sl,S1,S2,b2,bF.aL h2 u2.m λk hk lT=>d k lT hk,d,e⟩ (Up.at (u2.m.mono λk _ hk=>(e k).2 (.inl hk)))
theorem mr{n:Int}{Q:Sl->aH->Prop}(h:tQ g l sp w S)(hl:l.length<=100000)
  (hQ:∀r out l' uU w' S',tQ g l' uU w' S'->(∀k,S' k->S k)->Up S S' w w'->CX 1 eU r out w' (rK r)->(∀b,r.b=some b->w.heap.size<=b.block)->l'.length<=l.length->out.length<=l.length->(out.length:Int)<=max n 0->
   (∀a t,sp=false->l=a++t->n=a.length->out=a/\l'=t/\uU=false)->Q r w'):yM (some ⟨g,0,none⟩) n w Q:=by
 unfold yM;have h0:=h;obtain⟨sl,S1,S2,h1,h2,d,e⟩:=h;have ll:=h2.1.len;refine aF (λh=>by simp at h) (λ_=>aA rfl (aE (k:=.bool) sp (aP h1 rfl) (aF (λhs=>?_) (λhs=>?_))))
 ·have QL:sp=true:=hs
  exact hQ _ [] l sp w S h0 (λ_=>id) (Up.refl _ _) JS (λb hb=>by cases hb) (iX _) (iF _) (by simp;omega) λa t hf=>by rw[QL] at hf;cases hf
 have QL:sp=false:=hs;refine aJ (λhn=>aA rfl (Ou h0 λw1 h1 u1=>?_)) (λhn=>aA rfl (aE (k:=.slice) sl (aP h1 rfl) (aJ (λhn2=>aA rfl (Ou h0 λw1 h1 u1=>?_)) (λhn2=>?_))))
 ·exact hQ _ [] l true w1 S h1 (λ_=>id) u1 JS (λb hb=>by cases hb) (iX _) (iF _) (by simp;omega) λa t _ _ ha=>aB
 ·refine hQ _ [] l true w1 S h1 (λ_=>id) u1 JS (λb hb=>by cases hb) (iX _) (iF _) (by simp;omega) λa t _ ha hb=>?_
  have:=congrArg List.length ha;rw[mH] at this;omega
 obtain⟨m,rfl⟩:∃m:Nat,n=m:=⟨n.toNat,aB⟩;have Rs:=h2.1.cap;refine aA rfl (aE (k:=.slice) sl (aP h1 rfl) ⟨⟨aB,aB⟩,?_⟩);rw[lJ];have hp:=h2.1.part (i:=0) (j:=m) (c:=sl.c) (iF _) aB aB (iX _);rw[List.drop_zero,Nat.sub_zero] at hp;refine vJ (xs:=l.take m) (by simpa using hp) (by rw[qF];omega) λr w1 S3 v1 k1 f3 rd fr=>?_;have h1':=bF.kp h1 k1;refine aA rfl (aE (k:=.slice) sl (aP h1' rfl) ⟨⟨aB,aB⟩,aA rfl ?_⟩)
 let UI:Sl:=⟨aR sl.b sl.c m 1,sl.l-m,sl.c-m⟩
 refine pG (v:=sv UI) h1' TQ dJ rfl rfl λw2 b2 u2=>?_;have h2':=bF.aL (bF.kp h2 k1) u2.m λk hk lT=>d k lT hk;have hq:=h2'.1.part (i:=m) (j:=sl.l) (c:=sl.c) aB (iX _) aB (iX _);have ie:(l.drop m).take (sl.l-m)=l.drop m:=List.take_of_length_le (by rw[List.length_drop];omega);rw[ie] at hq;have hS:∀k,rK UI k->S2 k:=λk ⟨b,hb,e2⟩=>by
  obtain⟨a0,ha0,eb⟩:=Px hb;exact(h2.2.2.2 k).2 ⟨a0,ha0,by rw[e2,eb]⟩
 have hR:CX 1 eU UI (l.drop m) w2 (rK UI):=⟨hq,fN,λb hb=>bF.gI h2' _ (hS _ ⟨b,hb,rfl⟩),λ_=>Iff.rfl⟩;refine hQ r (l.take m) (l.drop m) sp w2 (λk=>S1 k\/rK UI k) ⟨UI,S1,_,b2,hR,λk hk lT=>d k hk (hS k lT),λ_=>Iff.rfl⟩ (λk hk=>(e k).2 (hk.imp id (hS k))) ⟨(k1.wk.trans u2.m λk _ hk=>(e k).2 (.inl hk)),λk hk=>.inl ((e k).2 (hk.imp id (hS k)))⟩
  ?_ fr dJ (by rw[qF];omega) (by rw[qF];omega) λa t _ ha hb=>?_
 ·refine bF.aL rd u2.m λk ⟨b,hb,e2⟩ lT=>?_
  have:=fr b hb;have:=bF.gI h1 k lT;omega
 ·have hm:m=a.length:=aB
  rw[ha,hm,List.take_left,List.drop_left];exact⟨rfl,rfl,QL⟩
theorem Ta{sz:Nat}{Q:Int->aH->Prop}(h:tQ g l sp w S)(hs:1<=sz/\sz<=7)(hl:l.length<=100000)
  (hQ:∀(x:Nat) l' uU w' S',tQ g l' uU w' S'->(∀k,S' k->S k)->Up S S' w w'->l'.length<=l.length->x<256^sz->(∀v t,sp=false->l=be sz v++t->v<256^sz->x=v/\l'=t/\uU=false)->Q (x:Int) w'):fY (some ⟨g,0,none⟩) (sz:Int) w Q:=by
 unfold fY;intro J1 OP;refine aJ (λh=>aB) (λ_=>aJ (λh=>aB) (λ_=>OP _ _ ?_));refine mr h hl λr out l' uU w1 S1 h1 vY u1 rd fr Vs fo hn hw=>?_;have hol:out.length<=sz:=aB;have rl:=rd.1.len;refine bK (λc t w2=>∃i:Nat,i<=out.length/\c=out.length-i/\t=(((de 0 (out.take i):Nat):Int),(i:Int),())/\w2=w1) out.length ⟨0,iF _,rfl,rfl,rfl⟩ ?_;rintro c t w2 ⟨i,hi,rfl,rfl,rfl⟩ X hX;dsimp only;refine aJ (λcL=>?_) (λlK=>?_)
 ·have dF:i<out.length:=aB
  have cU:=gU dF;have sD:=FW dF;have FX:de 0 (out.take i)<256^6:=
   nM (de_lt (out.take i) 0 0 dJ) (Nat.pow_le_pow_right aB (by rw[qF];omega))
  generalize out[i]=x at*;obtain⟨q,hq,hc⟩:=cQ (k:=.int .u8) (e:=λb:cH=>(b.toNat:Int)) rd.1 cU;rw[lJ];refine⟨⟨aB,cL⟩,aA hq (aE (k:=.int .u8) _ hc ⟨aB,?_⟩)⟩;rw[or_byte FX,qM i aB];refine hX _ _ _ aB ⟨i+1,dF,rfl,?_,rfl⟩;rw[sD];have:de 0 (out.take i++[x])=de 0 (out.take i)*256+x.toNat:=by unfold de;rw[List.foldl_append];rfl
  rw[this]
 ·have ei:i=out.length:=aB
  subst ei;rw[pF];have hd:=de_lt out 0 0 dJ;refine hQ _ l' uU w2 S1 h1 vY u1 Vs (nM hd (Nat.pow_le_pow_right aB aB)) λv t hsp hlv hv=>?_;obtain⟨e1,e2,e3⟩:=hw _ t hsp hlv (by rw[pH]);rw[e1,de_be sz 0 v hv];exact⟨aB,e2,e3⟩
theorem yh{Q:Int->aH->Prop}(h:tQ g l sp w S)(hQ:∀x:Nat,(sp=false->x=l.length)->x<=l.length->Q (x:Int) w):HY (some ⟨g,0,none⟩) w Q:=by
 unfold HY;obtain⟨sl,S1,S2,h1,h2,d,e⟩:=h;refine aF (λh=>by simp at h) (λ_=>aA rfl (aE (k:=.bool) sp (aP h1 rfl) (aF (λhs=>?_) (λhs=>aA rfl (aE (k:=.slice) sl (aP h1 rfl) ?_)))))
 ·have QL:sp=true:=hs
  exact hQ 0 (λh=>by rw[QL] at h;cases h) (iF _)
 ·rw[h2.1.len];exact hQ l.length (λ_=>rfl) (iX _)
end
theorem mo{b:Sl}{bs:List cH}{w:aH}{Q:cO->aH->Prop}(hb:Rd w b 1 eU bs)(hl:bs.length<=100000)(hQ:∀g w' S',tQ g bs false w' S'->aN w w'->(∀k,S' k->w.heap.size<=k)->Q (some ⟨g,0,none⟩) w'):pZ b w Q:=by
 unfold pZ;refine vJ hb aB λr w1 S1 _ k1 _ rd fr=>?_;have z1:=k1.size;refine cD (cs:=[sv r,.bool false]) λw2 b2 k2 z2=>?_;refine hQ _ w2 _ ⟨r,aZ.vZ b2 (bF.kp rd k2) λk hk ⟨b,hb,e⟩=>?_⟩ (k1.tr k2) λk hk=>hk.elim (λh=>aB) λ⟨b,hb,e⟩=>by have:=fr b hb;omega
 have:=rd.2.2.1 b hb;omega
def strB(xs:List cH):ByteArray:=(xs.map λb=>(b.toNat:Int)).foldl (λr n=>r.push (UInt8.ofNat n.toNat)) ByteArray.empty
theorem Zg{P:Program}{t e d:TypeId}(hs:P.underlying t=some (.slice e))(he:P.underlying e=some (.int .u8))(hd:P.underlying d=some .string){w:aH}{s:Sl}{xs:List cH}(hr:Rd w s 1 eU xs){K:ByteArray->aH->Prop}(hK:K (strB xs) w):
  uw P (.c .str) t d (Value.slice s.b s.l s.c) w K:=by
 obtain⟨sb,sl,sc⟩:=s;have hl:sl=xs.length:=hr.len;cases sb with
 |none=>
  have hn:xs=[]:=by
   cases xs with
   |nil=>rfl
   |cons x r=>obtain⟨a,ha,_⟩:=hr.get 0 x rfl;cases ha
  subst hn;exact⟨ByteArray.empty,w,run_convert_bytes_nil w t e hs he sl sc d hd,hK⟩
 |some a=>
  refine⟨strB xs,w,?_,hK⟩;have fo:(loadCells a sl).run P w=.ok ((xs.map λb=>(b.toNat:Int)).map (Value.int .u8)).toArray w:=by
   have:=run_loadCells_list (P:=P) w a ((xs.map λb=>(b.toNat:Int)).map (Value.int .u8)) (λj v hj=>by
    rw[List.map_map,mY] at hj;cases hx:xs[j]? with
    |none=>rw[hx] at hj;cases hj
    |some x=>
     rw[hx] at hj;cases hj;obtain⟨q,hq,hc⟩:=cQ (k:=.int .u8) (e:=λb:cH=>(b.toNat:Int)) hr hx;cases hq;rw[Nat.mul_one] at hc;exact hc)
   simpa [hl] using this
  rw[run_convert_bytes_string w t d e _ sl sc hs he hd,run_bytesToString w _ sl sc _ fo]
  rfl
theorem yi{a b:Sl}{xs ys:List cH}{w:aH}{Q:Bool->aH->Prop}(ha:Rd w a 1 eU xs)(hb:Rd w b 1 eU ys)(hQ:∀c,(xs=ys->c=true)->Q c w):tB a b w Q:=by
 unfold tB;refine Zg (e:=Gh) CR.under iH iH ha (Zg (e:=Gh) CR.under iH iH hb (hQ _ λe=>?_));rw[e];exact beq_self_eq_true _
end
section
def Nu(w0:aH)(A:As)(w:aH):Prop:=(∃S,A w S/\∀k,S k->w0.heap.size<=k)/\aY (λk=>w0.heap.size<=k) w0 w
section
variable{w0 w w':aH}{A:As}{S S':BS}
theorem Nu.kp[bF A](h:Nu w0 A w)(k:aN w w'):Nu w0 A w':=by
 obtain⟨⟨S,a,s⟩,m⟩:=h;exact⟨⟨S,bF.kp a k,s⟩,m.trans k λ_ _ h=>h.elim⟩
theorem Nu.of(a:A w S)(hs:∀k,S k->w0.heap.size<=k)(k:aN w0 w):Nu w0 A w:=⟨⟨S,a,hs⟩,k.wk⟩
theorem Nu.up(m:aY (λk=>w0.heap.size<=k) w0 w)(hs:∀k,S k->w0.heap.size<=k)(u:Up S S' w w')(a:A w' S'):Nu w0 A w':=
 ⟨⟨S',a,λk hk=>(u.s k hk).elim (hs k) λh=>iG m.size h⟩,m.trans u.m λk _ hk=>hs k hk⟩
theorem Nu.aO(h:Nu w0 A w):aN w0 w:=(aY.refl (λ_=>False) w0).fresh h.2 λ_=>id
theorem Nu.size(h:Nu w0 A w):w0.heap.size<=w.heap.size:=h.2.size
end
abbrev eIv:Int->Value:=λx=>aD x
theorem mapIv:∀ns:List Int,ns.map eIv=ns.flatMap eI
 | []=>rfl
 |a::l=>by rw[List.map_cons,FC,mapIv l];rfl
section
variable{w0 w:aH}{g:Nat}{xs:List cH}{sp:Bool}
theorem NumsC{C:aH->Prop}{Q:cO->aH->Prop}{z:Int}(h:Nu w0 (Dx g xs sp) w)(sz:Nat)(ns:List Int)(hz:z=(sz:Int))(hs:1<=sz/\sz<=7)(fW:xs.length+ns.length*7<=900000)(hC:∀w1,aN w w1->C w1)
  (hQ:∀Ks uU w',Nu w0 (Dx g Ks uU) w'->Ks.length<=xs.length+ns.length*7->((∀x∈ns,0<=x/\x.toNat<256^sz)->uU=sp/\Ks=xs++ns.flatMap λx=>be sz x.toNat)->Q (some ⟨g,0,none⟩) w'):
  aG w (ns.map eIv).toArray cZ λa w1=>C w1/\aU (some ⟨g,0,none⟩) z ⟨some a,ns.length,ns.length⟩ w1 Q:=by
 obtain⟨⟨S,a,s⟩,m⟩:=h;subst hz;refine cD λw1 b1 k1 z1=>⟨hC w1 k1,?_⟩;refine mu (bF.kp a k1) hs (jN fM ns b1 (mapIv ns) aB) (λb hb=>?_) fW λKs uU w' S' a' u' l' v'=>?_
 ·cases hb
  refine⟨λhS=>?_,by show w.heap.size<_;omega⟩;have:=bF.gI a _ hS;simp at this
 ·exact hQ Ks uU w' (Nu.up (m.trans k1 λ_ _ h=>h.elim) s u' a') l' v'
theorem NumsL{Q:cO->aH->Prop}{z:Int}(h:Nu w0 (Dx g xs sp) w)(sz:Nat)(ns:List Int)(hz:z=(sz:Int))(hs:1<=sz/\sz<=7)(fW:xs.length+ns.length*7<=900000)
  (hQ:∀Ks uU w',Nu w0 (Dx g Ks uU) w'->Ks.length<=xs.length+ns.length*7->((∀x∈ns,0<=x/\x.toNat<256^sz)->uU=sp/\Ks=xs++ns.flatMap λx=>be sz x.toNat)->Q (some ⟨g,0,none⟩) w'):
  aG w (ns.map eIv).toArray cZ λa w1=>aU (some ⟨g,0,none⟩) z ⟨some a,ns.length,ns.length⟩ w1 Q:=by
 have:=NumsC (C:=λ_=>True) h sz ns hz hs fW (λ_ _=>trivial) hQ;simp only[true_and] at this;exact this
theorem RawN{Q:cO->aH->Prop}{b:Sl}{bs:List cH}(h:Nu w0 (Dx g xs sp) w)(hb:Rd w0 b 1 eU bs)(hl:xs.length+bs.length<=1000000)
  (hQ:∀w',Nu w0 (Dx g (xs++bs) sp) w'->Q (some ⟨g,0,none⟩) w'):CN (some ⟨g,0,none⟩) b w Q:=by
 obtain⟨⟨S,a,s⟩,m⟩:=h;exact WRaw_i a (hb.ud m fN) hl λw' S' a' u'=>hQ w' (Nu.up m s u' a')
theorem BytesN{Q:Sl->Int->aH->Prop}(h:Nu w0 (Dx g xs sp) w)(hb:xs.length<=1000000)
  (hQ:∀r w',aN w w'->Nu w0 (Dx g xs sp) w'->CX 1 eU r (if sp then [] else xs) w' (rK r)->(∀b,r.b=some b->w.heap.size<=b.block)->Q r (if sp then 1 else 0) w'):pL (some ⟨g,0,none⟩) w Q:=by
 have h0:=h;obtain⟨⟨S,a,s⟩,m⟩:=h;exact yp a hb λr w' k rd fr=>hQ r w' k (h0.kp k) rd fr
theorem newW{w0 w:aH}{K:Addr->aH->Prop}(k0:aN w0 w)(hK:∀w',Nu w0 (Dx w.heap.size [] false) w'->aN w w'->K ⟨w.heap.size,0,none⟩ w'):aG w #[Value.slice none 0 0,Value.bool false] Ee K:=by
 have z0:=k0.size;exact cD (cs:=[sv bD,.bool false]) λw1 b1 k1 z1=>hK w1 (Nu.of (S:=λk=>k=w.heap.size\/False) ⟨bD,aZ.vZ b1 Ea λ_ _ h=>h⟩ (λk hk=>hk.elim (λh=>aB) False.elim) (k0.tr k1)) k1
end
theorem vw{w w0:aH}{s:Sl}{bs:List cH}{Q:Int->aH->Prop}(hr:Rd w s 1 eU bs)(hl:bs.length<=1000000)(hQ:∀w',aN w w'->Q ((yC bs).toNat:Int) w'):aG w #[Value.slice s.b s.l s.c] BV λa w1=>rE ⟨some a,1,1⟩ w1 Q:=
 cD (cs:=[sv s]) λw1 b1 k1 z1=>by
  refine By (ps:=[(s,bs)]) (jN (aX:=eUs) (λ_=>rfl) [(s,bs)] b1 rfl dJ) (λp hp=>?_) dJ (λp hp=>?_) ?_
  ·rw[kZ.1 hp];exact hr.aL k1 fN λ_ _=>id
  ·rw[kZ.1 hp];show bs.length<_;omega
  ·simpa using hQ w1 k1
theorem Wrap_i{kind:Int}{body:Sl}{bs:List cH}{w:aH}{Q:Sl->Int->aH->Prop}(hb:Rd w body 1 eU bs)(hl:bs.length<=100000)
  (hQ:∀r out e w',aN w w'->CX 1 eU r out w' (rK r)->(∀b,r.b=some b->w.heap.size<=b.block)->out.length<=3000->(0<=kind->kind<=255->bs.length<=2000->out=wS kind bs/\e=0)->Q r e w'):AE kind body w Q:=by
 unfold AE;have bl:=hb.len;have UW:(¬(0<=kind/\kind<=255/\bs.length<=2000))->Q bD 1 w:=λh=>hQ _ [] 1 w (aY.refl _ _) JS (λb hb=>by cases hb) (iF _) λa b c=>absurd ⟨a,b,c⟩ h;refine aJ (λh=>UW λh2=>aB) (λh1=>aJ (λh=>UW λh2=>aB) (λh2=>aJ (λh=>UW λh2=>aB) (λh3=>?_)));refine newW (aY.refl _ w) λw1 n1 k1=>?_;refine NumsL n1 1 [77,3,kind] rfl aB dJ λx2 sp2 w2 n2 _ v2=>?_;obtain⟨rfl,rfl⟩:=v2 (by intro x hx;simp at hx;omega);refine NumsL n2 2 [(body.l:Int)] rfl aB (by simp[pH]) λx3 sp3 w3 n3 _ v3=>?_;obtain⟨rfl,rfl⟩:=v3 (by intro x hx;simp at hx;omega);refine RawN n3 hb (by simp[pH];omega) λw4 n4=>?_;have e4:((([]++[77,3,kind].flatMap λx=>be 1 x.toNat)++[(body.l:Int)].flatMap λx=>be 2 x.toNat)++bs)=fQ kind bs:=by
  unfold fQ;simp[bl]
 rw[e4] at n4;have l4:(fQ kind bs).length=5+bs.length:=by rw[<-e4];simp[pH];omega
 refine BytesN n4 aB λr5 w5 k5 n5 Dl f5=>?_;refine vw (w0:=w) (bs:=fQ kind bs) Dl.1 aB λw6 k6=>?_;have n6:=n5.kp k6;have hs:(yC (fQ kind bs)).toNat<4294967296:=(yC (fQ kind bs)).isLt;rw[gV (n:=((yC (fQ kind bs)).toNat:Int)) aB aB];refine NumsL n6 4 [((yC (fQ kind bs)).toNat:Int)] rfl aB (by simp;omega) λx7 sp7 w7 n7 _ v7=>?_;obtain⟨rfl,rfl⟩:=v7 (by intro x hx;simp at hx;omega);have e7:(fQ kind bs++[((yC (fQ kind bs)).toNat:Int)].flatMap λx=>be 4 x.toNat)=wS kind bs:=by unfold wS;simp
 rw[e7] at n7;have l7:(wS kind bs).length=9+bs.length:=by rw[<-e7,mH,l4];simp[pH];omega
 have z7:=n7.size;refine BytesN n7 aB λr8 w8 k8 n8 rd8 f8=>?_;exact hQ r8 _ 0 w8 n8.aO rd8 (λb hb=>by have:=f8 b hb;omega) (by simp;omega) λ_ _ _=>⟨rfl,rfl⟩
theorem Jo(k:Int)(y:List cH):(wS k y).length=9+y.length:=by unfold wS fQ;simp[pH];omega
theorem Mq(k:Int)(y:List cH):(fQ k y).length=5+y.length:=by unfold fQ;simp[pH];omega
section
variable{w0 w:aH}{g:Nat}{l:List cH}{sp:Bool}
theorem RRawN{n:Int}{Q:Sl->aH->Prop}(h:Nu w0 (tQ g l sp) w)(hl:l.length<=100000)
  (hQ:∀r out l' uU w',Nu w0 (aZ (tQ g l' uU) (CX 1 eU r out)) w'->Nu w0 (tQ g l' uU) w'->CX 1 eU r out w' (rK r)->(∀b,r.b=some b->w.heap.size<=b.block)->l'.length<=l.length->out.length<=l.length->(out.length:Int)<=max n 0->
   (∀a t,sp=false->l=a++t->n=a.length->out=a/\l'=t/\uU=false)->Q r w'):yM (some ⟨g,0,none⟩) n w Q:=by
 obtain⟨⟨S,a,s⟩,m⟩:=h;refine mr a hl λr out l' uU w' S' a' QL u' rd fr h1 h2 h3 h4=>?_;have z:=m.size;refine hQ r out l' uU w' ⟨⟨λk=>S' k\/rK r k,aZ.vZ a' rd λk hk ⟨b,hb,e⟩=>?_,λk hk=>hk.elim (λh=>s k (QL k h)) λ⟨b,hb,e⟩=>?_⟩,m.trans u'.m λk _ hk=>s k hk⟩ (Nu.up m s u' a') rd fr h1 h2 h3 h4
 ·have:=bF.gI a k (QL k hk);have:=fr b hb;omega
 ·have:=fr b hb;omega
theorem RNumN{sz:Nat}{z:Int}{Q:Int->aH->Prop}(h:Nu w0 (tQ g l sp) w)(hz:z=(sz:Int))(hs:1<=sz/\sz<=7)(hl:l.length<=100000)
  (hQ:∀(x:Nat) l' uU w',Nu w0 (tQ g l' uU) w'->aY (λk=>w0.heap.size<=k) w w'->l'.length<=l.length->x<256^sz->(∀v t,sp=false->l=be sz v++t->v<256^sz->x=v/\l'=t/\uU=false)->Q (x:Int) w'):fY (some ⟨g,0,none⟩) z w Q:=by
 obtain⟨⟨S,a,s⟩,m⟩:=h;subst hz;exact Ta a hs hl λx l' uU w' S' a' QL u' h1 h2 h3=>hQ x l' uU w' (Nu.up m s u' a') (u'.m.mono λk _ hk=>s k hk) h1 h2 h3
end
theorem Unwrap_i{b:Sl}{bs:List cH}{w:aH}{Q:Int->Sl->Int->aH->Prop}(hb:Rd w b 1 eU bs)(hl:bs.length<=100000)
  (hQ:∀kind s e body w',aN w w'->CX 1 eU s body w' (rK s)->(∀b,s.b=some b->w.heap.size<=b.block)->body.length<=bs.length->(∀k y,0<=k->k<=255->y.length<=2000->bs=wS k y->kind=k/\body=y/\e=0)->(∀x r,bs=x::r->x≠BitVec.ofNat 8 77->¬e=0)->Q kind s e w'):vU b w Q:=by
 unfold vU;have bl:=hb.len;have UW:∀e w',¬e=0->aN w w'->(∀k y,0<=k->k<=255->y.length<=2000->bs=wS k y->False)->Q 0 bD e w':=λe w' he k h=>hQ 0 _ e [] w' k ⟨Rd.nil _ _ _,fN,λb hb=>(by cases hb),λ_=>Iff.rfl⟩ (λb hb=>by cases hb) (iF _) (λk y a b c d=>(h k y a b c d).elim) λ_ _ _ _=>he;refine aJ (λh=>UW _ w (by decide) (aY.refl _ _) λk y _ _ _ e=>by have:=congrArg List.length e;rw[Jo] at this;omega) (λfW=>?_);have h0:0<bs.length:=aB;have cU:=gU h0;have gH:∀k y,bs=wS k y->bs[0]=BitVec.ofNat 8 77:=λk y e=>by
  subst e;rfl
 have hfst:∀x r,bs=x::r->bs[0]=x:=λx r e=>by subst e;rfl
 generalize bs[0]=x0 at*;obtain⟨q,hq,hc⟩:=cQ (k:=.int .u8) (e:=λb:cH=>(b.toNat:Int)) hb cU;refine⟨⟨aB,aB⟩,aA hq (aE (k:=.int .u8) (x0.toNat:Int) hc (aF (λh=>UW _ w (by decide) (aY.refl _ _) λk y _ _ _ e=>?_) (λhx77=>?_)))⟩
 ·rw[gH k y e] at h;simp at h
 have hfirst:∀x r,bs=x::r->x≠BitVec.ofNat 8 77->False:=λx r e hx=>by
  have h1:=hfst x r e;subst h1;have h2:(x0.toNat:Int)=77:=by simpa using hx77
  exact hx (BitVec.eq_of_toNat_eq (by simp;omega))
 refine mo hb hl λg w1 S1 a1 k1 s1=>?_;have n1:Nu w (tQ g bs false) w1:=Nu.of a1 s1 k1;refine RRawN n1 aB λr2 o2 l2 sp2 w2 _ n2 _ _ c2 _ _ v2=>?_;refine RNumN n2 (sz:=1) rfl aB aB λx3 l3 sp3 w3 n3 _ c3 b3 v3=>?_;refine RNumN n3 (sz:=1) rfl aB aB λx4 l4 sp4 w4 n4 _ c4 b4 v4=>?_;refine RNumN n4 (sz:=2) rfl aB aB λx5 l5 sp5 w5 n5 _ c5 b5 v5=>?_;have GK:∀k y,0<=k->k<=255->y.length<=2000->bs=wS k y->(x3:Int)=3/\(x4:Int)=k/\(x5:Int)=y.length/\l5=y++be 4 (yC (fQ k y)).toNat/\sp5=false:=by
  intro k y k0 k1 hy e;have e':bs=be 1 77++(be 1 3++(be 1 k.toNat++(be 2 y.length++(y++be 4 (yC (fQ k y)).toNat)))):=by
   rw[e];unfold wS fQ;simp only[sH]
  obtain⟨_,rfl,rfl⟩:=v2 _ _ rfl e' (by simp[pH]);obtain⟨rfl,rfl,rfl⟩:=v3 _ _ rfl rfl aB;obtain⟨rfl,rfl,rfl⟩:=v4 _ _ rfl rfl aB;obtain⟨rfl,rfl,rfl⟩:=v5 _ _ rfl rfl aB;exact⟨rfl,aB,rfl,rfl,rfl⟩
 have ew:aQ (aQ ((5:Int)+(x5:Int))+(4:Int))=(x5:Int)+9:=by rw[gV (n:=(5:Int)+(x5:Int)) aB aB,gV aB aB];omega
 rw[ew];refine aF (λh=>UW _ w5 (by decide) n5.aO λk y a b c e=>?_) (λh=>?_)
 ·obtain⟨_,_,e5,_⟩:=GK k y a b c e
  have:=congrArg List.length e;rw[Jo] at this;simp at h;omega
 have DM:(b.l:Int)=(x5:Int)+9:=by simpa using h
 rw[gV (n:=(5:Int)+(x5:Int)) aB aB];refine RRawN n5 aB λs6 o6 l6 sp6 w6 n6' n6 rd6 f6 c6 d6 _ v6=>?_;have Rs:=hb.cap;refine⟨⟨aB,aB⟩,?_⟩;have et:Int.toNat ((5:Int)+(x5:Int))=5+x5:=aB;rw[et];have fact2:∀k y,0<=k->k<=255->y.length<=2000->bs=wS k y->o6=y/\l6=be 4 (yC (fQ k y)).toNat/\sp6=false:=λk y a b c e=>by
  obtain⟨_,_,e5,e6,e7⟩:=GK k y a b c e;exact v6 _ _ e7 e6 e5
 have Gq:∀wx,aY (λk=>w.heap.size<=k) w wx->Rd wx ⟨aR b.b b.c 0 1,(5+x5)-0,b.c-0⟩ 1 eU (bs.take (5+x5)):=λwx m=>by
  have:=(hb.ud m fN).part (i:=0) (j:=5+x5) (c:=b.c) (iF _) aB aB (iX _);simpa using this
 have z5:=n5.size;have dW:∀(x7:Nat) wf,aN w wf->CX 1 eU s6 o6 wf (rK s6)->(∀v t,sp6=false->l6=be 4 v++t->v<256^4->x7=v)->cond ((x7:Int) !=(aQ (((yC (bs.take (5+x5))).toNat:Nat):Int))) (Q 0 bD 2 wf) (cond ((x3:Int) !=(3:Int)) (Q 0 bD 3 wf) (cond (decide ((x5:Int)>(2000:Int))) (Q 0 bD 2 wf) (Q x4 s6 0 wf))):=by
  intro x7 wf kf rdf v7;have hs:(yC (bs.take (5+x5))).toNat<4294967296:=(yC (bs.take (5+x5))).isLt;rw[gV (n:=((yC (bs.take (5+x5))).toNat:Int)) aB aB];refine aF (λh=>UW _ wf (by decide) kf λk y a b c e=>?_) (λ_=>aF (λh=>UW _ wf (by decide) kf λk y a b c e=>?_) (λ_=>aJ (λh=>UW _ wf (by decide) kf λk y a b c e=>?_) (λ_=>hQ _ s6 0 o6 wf kf rdf (λb hb=>by have:=f6 b hb;omega) aB (λk y a b c e=>?_) λx r hbx hx=>(hfirst x r hbx hx).elim)))
  ·obtain⟨_,_,e5,_⟩:=GK k y a b c e
   obtain⟨_,e6,e7⟩:=fact2 k y a b c e;have IT:(yC (fQ k y)).toNat<4294967296:=(yC (fQ k y)).isLt;have e8:=v7 _ [] e7 (by rw[sG];exact e6) aB;have e9:bs.take (5+x5)=fQ k y:=by
    rw[e,show 5+x5=(fQ k y).length by rw[Mq];omega];exact List.take_left
   rw[e9,e8] at h;simp at h
  ·obtain⟨e3,_⟩:=GK k y a b c e
   rw[e3] at h;simp at h
  ·obtain⟨_,_,e5,_⟩:=GK k y a b c e
   omega
  ·obtain⟨_,e4,_⟩:=GK k y a b c e
   exact⟨e4,(fact2 k y a b c e).1,rfl⟩
 have n6'd:=n6'.kp (bO w6);obtain⟨⟨S6,a6,s6'⟩,m6⟩:=n6'd;obtain⟨T1,T2,ar,ao,d6',e6'⟩:=a6;refine⟨?_,?_⟩
 ·refine Ta (sz:=4) ar aB aB λx7 l7 sp7 w7 S7 a7 _ u7 _ b7 v7=>?_
  have m7:aY (λk=>w.heap.size<=k) w w7:=m6.trans u7.m λk _ hk=>s6' k ((e6' k).2 (.inl hk));refine vw (w0:=w) (Gq w7 m7) (by rw[qF];omega) λw8 k8=>?_;have kk:aN w w7:=(aY.refl (λ_=>False) w).fresh m7 λ_=>id;have o7:=bF.aL ao u7.m λk hk lT=>d6' k lT hk;refine dW x7 w8 (kk.tr k8) (bF.kp ⟨o7.1,o7.2.1,o7.2.2.1,λ_=>Iff.rfl⟩ k8) λv t h1 h2 h3=>(v7 v t h1 h2 h3).1
 ·refine bP λw7 o7 k7 z7=>?_
  refine Ta (sz:=4) (bF.kp ar k7) aB aB λx8 l8 sp8 w8 S8 a8 _ u8 _ b8 v8=>?_;have m8:aY (λk=>w.heap.size<=k) w w8:=(m6.trans k7 λ_ _ h=>h.elim).trans u8.m λk _ hk=>s6' k ((e6' k).2 (.inl hk));have kk:aN w w8:=(aY.refl (λ_=>False) w).fresh m8 λ_=>id;have o8:=bF.aL (bF.kp ao k7) u8.m λk hk lT=>d6' k lT hk;have nb:¬T1 w6.drew.heap.size:=λh=>by have:=bF.gI ar _ h;simp at this
  have ow:cW w8 w6.drew.heap.size BV [sv ⟨aR b.b b.c 0 1,(5+x5)-0,b.c-0⟩]:=o7.aL u8.m nb;refine By (ps:=[(⟨aR b.b b.c 0 1,(5+x5)-0,b.c-0⟩,bs.take (5+x5))]) (jN (aX:=eUs) (S:=λk=>k=w6.drew.heap.size) (λ_=>rfl) [_] ⟨ow,λ_=>Iff.rfl⟩ rfl dJ) (λp hp=>?_) dJ (λp hp=>?_) ?_
  ·rw[kZ.1 hp];exact Gq w8 m8
  ·rw[kZ.1 hp];show(bs.take (5+x5)).length<_;rw[qF];omega
  ·simp only[FC,List.flatMap_nil,sG]
   exact dW x8 w8 kk ⟨o8.1,o8.2.1,o8.2.2.1,λ_=>Iff.rfl⟩ λv t h1 h2 h3=>(v8 v t h1 h2 h3).1
end
section
def sN(w0:aH)(g:Nat)(m:Nat)(e:TypeId)(mc:List Value)(V:Prop)(E:List cH)(N:Nat)(L:List (Nat×List Int))(w:aH):Prop:=
 ∃S xs sp,Dx g xs sp w S/\(∀k,S k->w0.heap.size<=k)/\aY (λk=>w0.heap.size<=k) w0 w/\(∀p∈L,cW w p.1 cZ (p.2.map eIv)/\¬S p.1)/\(cW w m e mc/\¬S m)/\xs.length<=N/\(V->sp=false/\xs=E)
section
variable{w0 w w':aH}{g m N:Nat}{e:TypeId}{mc:List Value}{V:Prop}{E:List cH}{L:List (Nat×List Int)}
theorem sN.kp(h:sN w0 g m e mc V E N L w)(k:aN w w'):sN w0 g m e mc V E N L w':=by
 obtain⟨S,xs,sp,a,s,md,l,⟨o,om⟩,n,v⟩:=h;exact⟨S,xs,sp,bF.kp a k,s,md.trans k λ_ _ h=>h.elim,λp hp=>⟨(l p hp).1.aL k id,(l p hp).2⟩,⟨o.aL k id,om⟩,n,v⟩
theorem sN.cell(h:sN w0 g m e mc V E N L w){k:Nat}{v:Value}(hk:mc[k]? =some v):w.cell? ((⟨m,0,none⟩:Addr).add k)=some v:=by
 obtain⟨S,xs,sp,a,s,md,l,⟨o,om⟩,n,_⟩:=h;exact dO o hk
theorem sN.dr(h:sN w0 g m e mc V E N L w):sN w0 g m e mc V E N L w.drew:=h.kp (bO w)
theorem sN.alloc(h:sN w0 g m e mc V E N L w)(ns:List Int){K:Addr->aH->Prop}(hK:∀w',sN w0 g m e mc V E N ((w.heap.size,ns)::L) w'->K ⟨w.heap.size,0,none⟩ w'):aG w (ns.map eIv).toArray cZ K:=by
 obtain⟨S,xs,sp,a,s,md,l,⟨o,om⟩,n,v⟩:=h;refine cD λw1 b1 k1 z1=>hK w1 ⟨S,xs,sp,bF.kp a k1,s,md.trans k1 λ_ _ h=>h.elim,λp hp=>?_,⟨o.aL k1 id,om⟩,n,v⟩;rcases jL.1 hp with rfl|hp
 ·exact⟨b1.1,λhS=>by have:=bF.gI a _ hS;simp at this⟩
 ·exact⟨(l p hp).1.aL k1 id,(l p hp).2⟩
theorem sN.Cr(h:sN w0 g m e mc V E N L w){b:Nat}{ns:List Int}(sz:Nat){z:Int}(hm:(b,ns)∈L)(hz:z=(sz:Int))(hs:1<=sz/\sz<=7)(fW:N+ns.length*7<=900000)(hr:V->∀x∈ns,0<=x/\x.toNat<256^sz){Q:cO->aH->Prop}
  (hQ:∀w',sN w0 g m e mc V (E++ns.flatMap λx=>be sz x.toNat) (N+ns.length*7) L w'->Q (some ⟨g,0,none⟩) w'):aU (some ⟨g,0,none⟩) z ⟨some ⟨b,0,none⟩,ns.length,ns.length⟩ w Q:=by
 obtain⟨S,xs,sp,a,s,md,l,⟨o,om⟩,n,v⟩:=h;subst hz;obtain⟨ob,hb⟩:=l _ hm;refine mu a hs (jN fM ns (S:=λk=>k=b) ⟨ob,λ_=>Iff.rfl⟩ (mapIv ns) aB) (λc hc=>?_) aB λKs uU w' S' a' u' l' v'=>hQ w' ⟨S',Ks,uU,a',λk hk=>(u'.s k hk).elim (s k) λh=>iG md.size h,md.trans u'.m λk _ hk=>s k hk,λp hp=>?_,?_,aB,λhV=>?_⟩
 ·cases hc
  exact⟨hb,ob.lt⟩
 ·refine⟨(l p hp).1.aL u'.m (l p hp).2,λhS=>(u'.s _ hS).elim (l p hp).2 λh=>?_⟩
  have:=(l p hp).1.lt;omega
 ·refine⟨o.aL u'.m om,λhS=>(u'.s _ hS).elim om λh=>?_⟩
  have:=o.lt;omega
 ·obtain⟨rfl,rfl⟩:=v hV
  exact v' (hr hV)
theorem sN.Wc(h:sN w0 g m e mc V E N L w){b:Sl}{bs:List cH}(hb:Rd w0 b 1 eU bs)(fW:N+bs.length<=900000){Q:cO->aH->Prop}
  (hQ:∀w',sN w0 g m e mc V (E++bs) (N+bs.length) L w'->Q (some ⟨g,0,none⟩) w'):CN (some ⟨g,0,none⟩) b w Q:=by
 obtain⟨S,xs,sp,a,s,md,l,⟨o,om⟩,n,v⟩:=h;refine WRaw_i a (hb.ud md fN) aB λw' S' a' u'=>hQ w' ⟨S',xs++bs,sp,a',λk hk=>(u'.s k hk).elim (s k) λh=>iG md.size h,md.trans u'.m λk _ hk=>s k hk,λp hp=>?_,?_,by rw[mH];omega,λhV=>?_⟩
 ·refine⟨(l p hp).1.aL u'.m (l p hp).2,λhS=>(u'.s _ hS).elim (l p hp).2 λh=>?_⟩
  have:=(l p hp).1.lt;omega
 ·refine⟨o.aL u'.m om,λhS=>(u'.s _ hS).elim om λh=>?_⟩
  have:=o.lt;omega
 ·obtain⟨rfl,rfl⟩:=v hV
  exact⟨rfl,rfl⟩
theorem sN.numsR(h:sN w0 g m e mc V E N L w){n:Sl}{ns:List Int}(sz:Nat){z:Int}(hn:Rd w0 n 1 eI ns)(hnb:∀b,n.b=some b->b.block<w0.heap.size)(hz:z=(sz:Int))(hs:1<=sz/\sz<=7)(fW:N+ns.length*7<=900000)(hr:V->∀x∈ns,0<=x/\x.toNat<256^sz){Q:cO->aH->Prop}
  (hQ:∀w',sN w0 g m e mc V (E++ns.flatMap λx=>be sz x.toNat) (N+ns.length*7) L w'->Q (some ⟨g,0,none⟩) w'):aU (some ⟨g,0,none⟩) z n w Q:=by
 obtain⟨S,xs,sp,a,s,md,l,⟨o,om⟩,nn,v⟩:=h;subst hz;have zz:=md.size;refine mu a hs (hn.ud md dA) (λb hb=>⟨λhS=>?_,by have:=hnb b hb;omega⟩) aB λKs uU w' S' a' u' l' v'=>hQ w' ⟨S',Ks,uU,a',λk hk=>(u'.s k hk).elim (s k) λh=>iG md.size h,md.trans u'.m λk _ hk=>s k hk,λp hp=>?_,?_,aB,λhV=>?_⟩
 ·have:=s _ hS;have:=hnb b hb;omega
 ·refine⟨(l p hp).1.aL u'.m (l p hp).2,λhS=>(u'.s _ hS).elim (l p hp).2 λh=>?_⟩
  have:=(l p hp).1.lt;omega
 ·refine⟨o.aL u'.m om,λhS=>(u'.s _ hS).elim om λh=>?_⟩
  have:=o.lt;omega
 ·obtain⟨rfl,rfl⟩:=v hV
  exact v' (hr hV)
theorem sN.bytes(h:sN w0 g m e mc V E N L w)(hN:N<=900000){Q:Sl->Int->aH->Prop}
  (hQ:∀r out (er:Int) w',sN w0 g m e mc V E N L w'->CX 1 eU r out w' (rK r)->(∀b,r.b=some b->w0.heap.size<=b.block)->out.length<=N->(V->out=E/\er=0)->Q r er w'):pL (some ⟨g,0,none⟩) w Q:=by
 have h0:=h;obtain⟨S,xs,sp,a,s,md,l,om,n,v⟩:=h;have zz:=md.size;refine yp a aB λr w' k rd fr=>hQ r _ _ w' (h0.kp k) rd (λb hb=>by have:=fr b hb;omega) ?_ λhV=>?_
 ·cases sp with
  |true=>exact iF _
  |false=>exact n
 ·obtain⟨rfl,rfl⟩:=v hV
  exact⟨rfl,rfl⟩
theorem sN.aO(h:sN w0 g m e mc V E N L w):aN w0 w:=by
 obtain⟨S,xs,sp,a,s,md,l,om,n,v⟩:=h;exact(aY.refl (λ_=>False) w0).fresh md λ_=>id
theorem sN.new{K:Addr->aH->Prop}(k0:aN w0 w)(o:cW w m e mc)(hK:∀w',sN w0 w.heap.size m e mc V [] 0 [] w'->K ⟨w.heap.size,0,none⟩ w'):aG w #[Value.slice none 0 0,Value.bool false] Ee K:=by
 have z0:=k0.size;have ol:=o.lt;refine cD (cs:=[sv bD,.bool false]) λw1 b1 k1 z1=>hK w1 ⟨λk=>k=w.heap.size\/False,[],false,⟨bD,aZ.vZ b1 Ea λ_ _ h=>h⟩,λk hk=>hk.elim (λh=>aB) False.elim,(k0.tr k1).wk,λp hp=>(by cases hp),⟨o.aL k1 id,λhk=>hk.elim (λh=>aB) id⟩,iX _,λ_=>⟨rfl,rfl⟩⟩
end
end
end Go.Proofs.YtihggjgakbgomaaGreat
