import Derived.Laws.BytesArg
import Derived.Test.YtihggjgakbgomaaGreatA1
import Derived.Test.YtihggjgakbgomaaGreatF1
import Derived.Test.YtihggjgakbgomaaGreatQ1
import Derived.Test.YtihggjgakbgomaaGreatA2
import Derived.Test.YtihggjgakbgomaaGreatF2
namespace Go.Proofs.YtihggjgakbgomaaGreat
open Go Go.Den
open Tryz (prog)
section
structure Lp where
 N:mP
 gl:Nat
 rs:Sl
def Lp.dF(H:Lp)(k:Nat):Prop:=k=H.gl\/H.N.dF k\/∃a,H.rs.b=some a/\k=a.block
structure oD(w:aH)(H:Lp)(n:Nat)(A:List bQ)(R:List Int):Prop where
 head:cW w H.gl tLev [.pointer (some ⟨H.N.g,0,none⟩),sv H.rs]
 LL:kZ w H.N n A
 jA:dQ w cY 1 eI H.rs R
 rlen:R.length=n
section
variable{w:aH}{H:Lp}{n:Nat}{A:List bQ}{R:List Int}
theorem oD.aK{F:Nat->Prop}{w':aH}(h:oD w H n A R)(m:aW F w w')(hF:∀k,H.dF k->¬F k):oD w' H n A R:=
 ⟨h.head.aK m (hF _ (.inl rfl)),h.LL.aK m λk hk=>hF k (.inr (.inl hk)),h.jA.aK m λa ha=>hF _ (.inr (.inr ⟨a,ha,rfl⟩)),h.rlen⟩
theorem oD.aN{w':aH}(h:oD w H n A R)(k:aM w w'):oD w' H n A R:=h.aK k λ_ _=>id
theorem oD.lt(h:oD w H n A R){k:Nat}(hk:H.dF k):k<w.heap.size:=by
 rcases hk with rfl|hk|⟨a,ha,rfl⟩
 ·exact h.head.lt
 ·exact h.LL.at_.lt hk
 ·exact h.jA.lt ha
theorem oD.c0(h:oD w H n A R):w.cell? ((⟨H.gl,0,none⟩:Addr).add 0)=some (.pointer (some ⟨H.N.g,0,none⟩)):=by rw[aS,h.head.cell];rfl
theorem oD.c1(h:oD w H n A R):w.cell? ((⟨H.gl,0,none⟩:Addr).add 1)=some (sv H.rs):=by rw[aS,h.head.cell];rfl
theorem Gl{v:Int}{Q:Int->aH->Prop}(h:oD w H n A R)(hQ:Q (cD R v) w):tY (some ⟨H.gl,0,none⟩) v w Q:=by
 unfold tY;have sl:=h.jA.len;unfold cD at hQ;refine aF (λh=>by simp at h) (λ_=>?_);refine aJ (λcJ=>?_) (λh0=>?_)
 ·rw[if_neg aB] at hQ;exact hQ
 ·refine aA rfl (aE (k:=.slice) H.rs h.c1 ?_)
  refine aJ (λkT=>?_) (λcJ=>?_)
  ·have:¬(0<=v/\v<(R.length:Int)):=by
    omega
   rw[if_neg this] at hQ;exact hQ
  ·have GA:¬v>=(H.rs.l:Int):=cJ
   have xk:¬v<0:=h0;have cV:R[v.toNat]? =some (R.getD v.toNat 0):=by
    rw[LP,gS (show v.toNat<R.length by omega)];rfl
   rw[if_pos ⟨aB,aB⟩] at hQ;obtain⟨p,hp,hc⟩:=cF (k:=.i) (e:=λx=>x) (h.jA.rd fH) cV;exact aA rfl (aE (k:=.slice) H.rs h.c1 ⟨⟨aB,aB⟩,aA hp (aE (k:=.i) _ hc hQ)⟩)
theorem Up_c1_i{b1 b2:Nat}{v:Int}{x:bQ}{K:Value->aH->Prop}(h:oD w H n A R)(o1:cW w b1 131 [.pointer (some ⟨H.gl,0,none⟩)])(o2:cW w b2 cY [aD v])(hK:∀w',aM w w'->K (.bool (decide (cD R x.t<=cD R v))) w'):
  lI prog (.func (.func Zb) #[] #[.pointer (some ⟨b1,0,none⟩),.pointer (some ⟨b2,0,none⟩)]) [Fg x] w K:=by
 refine pB lq iA (first:=#[]) (gI (ks:=[.agg [.i,.i,.i,.i],.c .ptr,.c .ptr]) (t:=(nN x,some ⟨b1,0,none⟩,some ⟨b2,0,none⟩,())) ?_)
 show JW (nN x) (some ⟨b1,0,none⟩) (some ⟨b2,0,none⟩) w λr w'=>K (.bool r) w';unfold JW;refine bK λw1 oa k1 _=>?_;have d1:aM w1 w1.drew:=aW.drew (aW.refl _ w1);have k:=k1.tr d1;have h1:=h.aN k;have p1:=gX (o1.aK k id);have p2:=gX (o2.aK k id);have pa:=(sS (x:=x) (oa.aK d1 id)).2.1;refine aA rfl (aE (k:=.ptr) (some ⟨H.gl,0,none⟩) p1 (aE (k:=.i) x.t pa (aA rfl (aE (k:=.ptr) (some ⟨H.gl,0,none⟩) p1 (aA rfl (aE (k:=.i) v p2 ?_))))));exact Gl h1 ⟨p2,p1,Gl h1 (hK _ k)⟩
theorem aAC{b1 b2:Nat}{v:Int}{x:bQ}{K:Value->aH->Prop}(h:oD w H n A R)(o1:cW w b1 131 [.pointer (some ⟨H.gl,0,none⟩)])(o2:cW w b2 cY [aD v])(hK:∀w',aM w w'->K (.bool (decide (cD R x.f<=cD R v))) w'):
  lI prog (.func (.func Lx) #[] #[.pointer (some ⟨b1,0,none⟩),.pointer (some ⟨b2,0,none⟩)]) [Fg x] w K:=by
 refine pB St iA (first:=#[]) (gI (ks:=[.agg [.i,.i,.i,.i],.c .ptr,.c .ptr]) (t:=(nN x,some ⟨b1,0,none⟩,some ⟨b2,0,none⟩,())) ?_)
 show zX (nN x) (some ⟨b1,0,none⟩) (some ⟨b2,0,none⟩) w λr w'=>K (.bool r) w';unfold zX;refine bK λw1 oa k1 _=>?_;have d1:aM w1 w1.drew:=aW.drew (aW.refl _ w1);have k:=k1.tr d1;have h1:=h.aN k;have p1:=gX (o1.aK k id);have p2:=gX (o2.aK k id);have pa:=(sS (x:=x) (oa.aK d1 id)).1;refine aA rfl (aE (k:=.ptr) (some ⟨H.gl,0,none⟩) p1 (aE (k:=.i) x.f pa (aA rfl (aE (k:=.ptr) (some ⟨H.gl,0,none⟩) p1 (aA rfl (aE (k:=.i) v p2 ?_))))));exact Gl h1 ⟨p2,p1,Gl h1 (hK _ k)⟩
theorem Up_i{v:Int}{Q:Sl->aH->Prop}(h:oD w H n A R)(hQ:∀s w',dQ w' iR 4 eC s (upL A R v)->aM w w'->(∀b,s.b=some b->w.heap.size<=b.block)->Q s w'):Eb (some ⟨H.gl,0,none⟩) v w Q:=by
 unfold Eb;refine bK λw1 o1 k1 z1=>bK λw2 o2 k2 z2=>?_;have RL:=o1.aK k2 id;have k02:=k1.tr k2;have d2:aM w2 w2.drew:=aW.drew (aW.refl _ w2);have k0d:=k02.tr d2;have hd:=h.aN k0d;refine aE (k:=.ptr) (some ⟨H.gl,0,none⟩) (gX RL) ?_;refine aF (λh=>by simp at h) (λ_=>?_);refine aE (k:=.ptr) (some ⟨H.gl,0,none⟩) (gX (RL.aK d2 id)) (aA rfl (aE (k:=.ptr) (some ⟨H.N.g,0,none⟩) hd.c0 (aE (k:=.i) v (gX (o2.aK d2 id)) ?_)));have LG:=h.LL.sz;have hol:=h.LL.ok.vA v;refine Wk hd.LL λs3 w3 v3 k3 f3=>?_;have K3:=k0d.tr k3;have nu:∀a,s3.b=some a->w.heap.size<=a.block/\a.block≠w.heap.size/\a.block≠w1.heap.size:=λa ha=>by
  have:=f3 a ha;have e:w2.drew.heap.size=w2.heap.size:=rfl;omega
 have p1:=(RL.aK d2 id).aK k3 id;have p2:=(o2.aK d2 id).aK k3 id;refine KC (p:=λx=>decide (cD R x.t<=cD R v)) (C:=λw'=>oD w' H n A R/\cW w' w.heap.size 131 [.pointer (some ⟨H.gl,0,none⟩)]/\cW w' w1.heap.size cY [aD v]) v3 aB ⟨h.aN K3,p1,p2⟩
  (λwa wb ⟨c1,c2,c3⟩ m=>⟨c1.aK m λk hk ⟨a,ha,e⟩=>by have:=(nu a ha).1;have:=h.lt hk;omega,c2.aK m λ⟨a,ha,e⟩=>(nu a ha).2.1 e.symm,c3.aK m λ⟨a,ha,e⟩=>(nu a ha).2.2 e.symm⟩)
  (λx wa K ⟨c1,c2,c3⟩ _ hK=>Up_c1_i c1 c2 c3 hK) λs4 w4 v4 m4 e4=>?_
 refine hQ s4 w4 ?_ (K3.fresh m4 λk ⟨a,ha,e⟩=>by rw[e];exact(nu a ha).1) λb hb=>(nu b (e4▸hb)).1;have:(dZ A v).filter (λx=>!decide (cD R x.t<=cD R v))=upL A R v:=by
  unfold upL;refine List.filter_congr λx _=>?_
  by_cases hh:cD R x.t<=cD R v
  ·simp[hh]
  ·simp[hh];omega
 rw[<-this];exact v4
theorem Down_i{v:Int}{Q:Sl->aH->Prop}(h:oD w H n A R)(hQ:∀s w',dQ w' iR 4 eC s (DR A R v)->aM w w'->(∀b,s.b=some b->w.heap.size<=b.block)->Q s w'):HU (some ⟨H.gl,0,none⟩) v w Q:=by
 unfold HU;refine bK λw1 o1 k1 z1=>bK λw2 o2 k2 z2=>?_;have RL:=o1.aK k2 id;have k02:=k1.tr k2;have d2:aM w2 w2.drew:=aW.drew (aW.refl _ w2);have k0d:=k02.tr d2;have hd:=h.aN k0d;refine aE (k:=.ptr) (some ⟨H.gl,0,none⟩) (gX RL) ?_;refine aF (λh=>by simp at h) (λ_=>?_);refine aE (k:=.ptr) (some ⟨H.gl,0,none⟩) (gX (RL.aK d2 id)) (aA rfl (aE (k:=.ptr) (some ⟨H.N.g,0,none⟩) hd.c0 (aE (k:=.i) v (gX (o2.aK d2 id)) ?_)));have LG:=h.LL.sz;have hol:=h.LL.ok.FD v;refine In_i hd.LL λs3 w3 v3 k3 f3=>?_;have K3:=k0d.tr k3;have nu:∀a,s3.b=some a->w.heap.size<=a.block/\a.block≠w.heap.size/\a.block≠w1.heap.size:=λa ha=>by
  have:=f3 a ha;have e:w2.drew.heap.size=w2.heap.size:=rfl;omega
 have p1:=(RL.aK d2 id).aK k3 id;have p2:=(o2.aK d2 id).aK k3 id;refine KC (p:=λx=>decide (cD R x.f<=cD R v)) (C:=λw'=>oD w' H n A R/\cW w' w.heap.size 131 [.pointer (some ⟨H.gl,0,none⟩)]/\cW w' w1.heap.size cY [aD v]) v3 aB ⟨h.aN K3,p1,p2⟩
  (λwa wb ⟨c1,c2,c3⟩ m=>⟨c1.aK m λk hk ⟨a,ha,e⟩=>by have:=(nu a ha).1;have:=h.lt hk;omega,c2.aK m λ⟨a,ha,e⟩=>(nu a ha).2.1 e.symm,c3.aK m λ⟨a,ha,e⟩=>(nu a ha).2.2 e.symm⟩)
  (λx wa K ⟨c1,c2,c3⟩ _ hK=>aAC c1 c2 c3 hK) λs4 w4 v4 m4 e4=>?_
 refine hQ s4 w4 ?_ (K3.fresh m4 λk ⟨a,ha,e⟩=>by rw[e];exact(nu a ha).1) λb hb=>(nu b (e4▸hb)).1;have:(nK A v).filter (λx=>!decide (cD R x.f<=cD R v))=DR A R v:=by
  unfold DR;refine List.filter_congr λx _=>?_
  by_cases hh:cD R x.f<=cD R v
  ·simp[hh]
  ·simp[hh];omega
 rw[<-this];exact v4
end
theorem Build_i{N:mP}{n:Nat}{L:List bQ}{W:aH}{Q:cL->aH->Prop}(h:kZ W N n L)(hn:n<=51)(hw:∀e∈L,e.w<=40)
  (hQ:∀w' H,oD w' H n (cZ n L n).all (cZ n L n).jA->aM W w'->(∀k,H.dF k->W.heap.size<=k)->Q (some ⟨H.gl,0,none⟩) w'):vK (some ⟨N.g,0,none⟩) W Q:=by
 unfold vK;have hL:=h.ok;have hLl:=hL.len h.sz;refine aF (λh=>by simp at h) (λ_=>?_);have d0:aM W W.drew:=aW.drew (aW.refl _ W);refine Copy_i (h.aN d0) aB λw1 C hC k1 fC=>?_;have K1:=d0.tr k1;refine QR (h.aN K1) ?_;refine BU Ix (aY:=eB) false rfl Uw aB (oY _) aB aB λw3 v3 k3=>?_;simp only[kE] at v3 ⊢;have K3:=K1.tr k3;refine Copy_i (h.aN K3) aB λw4 A hA k4 fA=>?_;have K4:=K3.tr k4;refine QR (h.aN K4) ?_;refine BU iK (aY:=eI) (0:Int) rfl fH aB (oY _) aB aB λw6 v6 k6=>?_;simp only[kE] at v6 ⊢;have K6:=K4.tr k6;refine bK λw7 o7 k7 z7=>?_;have K7:=K6.tr k7;refine QR (h.aN K7) ?_;have c1:=hC.at_;have hC7:=(((hC.aN k3).aN k4).aN k6).aN k7;have hA7:=(hA.aN k6).aN k7;have v37:=((v3.aK k4 λ_ _=>id).aK k6 λ_ _=>id).aK k7 λ_ _=>id;have v67:=v6.aK k7 λ_ _=>id;have z13:w1.heap.size<w3.heap.size:=v3.lt rfl;have z46:w4.heap.size<w6.heap.size:=v6.lt rfl;have zW1:W.heap.size<=w1.heap.size:=K1.size;have z34:w3.heap.size<=w4.heap.size:=k4.size;have sepC:∀k,C.dF k->W.heap.size<=k/\k<w1.heap.size:=λk hk=>⟨fC k hk,hC.at_.lt hk⟩;have sepA:∀k,A.dF k->w3.heap.size<=k/\k<w4.heap.size:=λk hk=>⟨fA k hk,hA.at_.lt hk⟩;generalize tO:(⟨some ⟨w1.heap.size,0,none⟩,n,n⟩:Sl)=s1 at*;generalize FP:(⟨some ⟨w4.heap.size,0,none⟩,n,n⟩:Sl)=s2 at*;have PO:s1.b=some ⟨w1.heap.size,0,none⟩:=by rw[<-tO]
 have az:s2.b=some ⟨w4.heap.size,0,none⟩:=by rw[<-FP]
 have s1l:s1.l=n:=by rw[<-tO]
 have s2l:s2.l=n:=by rw[<-FP]
 generalize hg1:w1.heap.size=bg at*;generalize Af:w4.heap.size=br at*;generalize wv:w6.heap.size=bl at*;refine bO (λc t w9=>∃(k:Nat) (C' A':mP),k<=n/\c=n-k/\t=((k:Int),())/\kZ w9 C' n (cZ n L k).left/\C'.g=C.g/\kZ w9 A' n (cZ n L k).all/\A'.g=A.g/\dQ w9 xR 1 eB s1 (cZ n L k).gone/\dQ w9 cY 1 eI s2 (cZ n L k).jA/\
   cW w9 bl tLev [.pointer (some ⟨A.g,0,none⟩),sv s2]/\aM W w9/\(∀b,C'.dF b->W.heap.size<=b/\¬A'.dF b/\b≠bg/\b≠br/\b≠bl)/\(∀b,A'.dF b->W.heap.size<=b/\b≠bg/\b≠br/\b≠bl)/\w7.heap.size<=w9.heap.size) n
  ⟨0,C,A,iG _,rfl,rfl,hC7,rfl,hA7,rfl,v37,v67,by rw[<-FP];exact o7,K7,λb hb=>?_,λb hb=>?_,iT _⟩ ?_
 ·obtain⟨q1,q2⟩:=sepC b hb
  exact⟨q1,λbW=>by have:=sepA b bW;omega,aB,aB,aB⟩
 ·obtain⟨q1,q2⟩:=sepA b hb
  exact⟨aB,aB,aB,aB⟩
 rintro c t w9 ⟨k,C',A',hk,rfl,rfl,hC9,gC9,hA9,gA9,u1,u2,ol9,K9,fC9,fA9,z9⟩ X hX;dsimp only;have UW:=xC hL hw hn k hk;refine aJ (λcJ=>?_) (λkT=>?_)
 ·have lD:k<n:=aB
  obtain⟨x0,x1,xg⟩:=AM UW lD;have ET:cZ n L (k+1)=pC n k (cZ n L k):=rfl;rw[<-gC9];refine First_i hC9 (u1.rd Uw) (by rw[UW.gl];omega) λeV II=>?_;unfold pC at ET;generalize kQ n (cZ n L k).left (cZ n L k).gone=v at*;refine Bl (hC9.aN II) λs3 eE v11 KU f11=>?_;have ff:=II.tr KU;have sl3:=v11.len;have hsb:=No UW.Ei h.sz v;have hC11:=hC9.aN ff;have hA11:=hA9.aN ff;have f11':∀b,s3.b=some b->¬C'.dF b.block/\¬A'.dF b.block/\b.block<eE.heap.size:=λb hb=>by
   have h1:=f11 b hb;have h2:=II.size;exact⟨λhh=>by have:=hC9.at_.lt hh;omega,λhh=>by have:=hA9.at_.lt hh;omega,v11.lt hb⟩
  refine bO (λc t eR=>∃(i:Nat) (C2 A2:mP),i<=(fV n (cZ n L k).left v).length/\c=(fV n (cZ n L k).left v).length-i/\t=((i:Int),())/\kZ eR C2 n (gP n (cZ n L k).left ((fV n (cZ n L k).left v).take i))/\C2.g=C'.g/\kZ eR A2 n (gP n (cZ n L k).all ((fV n (cZ n L k).left v).take i))/\A2.g=A'.g/\
    dQ eR iR 4 eC s3 (fV n (cZ n L k).left v)/\dQ eR xR 1 eB s1 (cZ n L k).gone/\dQ eR cY 1 eI s2 (cZ n L k).jA/\cW eR bl tLev [.pointer (some ⟨A.g,0,none⟩),sv s2]/\aM W eR/\
    (∀b,C2.dF b->W.heap.size<=b/\¬A2.dF b/\b≠bg/\b≠br/\b≠bl/\∀a,s3.b=some a->b≠a.block)/\(∀b,A2.dF b->W.heap.size<=b/\b≠bg/\b≠br/\b≠bl/\∀a,s3.b=some a->b≠a.block)/\eE.heap.size<=eR.heap.size) (fV n (cZ n L k).left v).length
   ⟨0,C',A',iG _,rfl,rfl,hC11,rfl,hA11,rfl,v11,u1.aK ff (λ_ _=>id),u2.aK ff (λ_ _=>id),ol9.aK ff id,K9.tr ff,λb hb=>?_,λb hb=>?_,iT _⟩ ?_
  ·obtain⟨q1,q2,q3,q4,q5⟩:=fC9 b hb
   exact⟨q1,q2,q3,q4,q5,λa ha e=>(f11' a ha).1 (e▸hb)⟩
  ·obtain⟨q1,q3,q4,q5⟩:=fA9 b hb
   exact⟨q1,q3,q4,q5,λa ha e=>(f11' a ha).2.1 (e▸hb)⟩
  rintro c t eR ⟨i,C2,A2,hi,rfl,rfl,hC12,gC12,hA12,gA12,YA,Br,r12,l12,oh,YK,Qm,z12⟩ Y hY;have zz9:w7.heap.size<=eR.heap.size:=by have:=ff.size;omega
  refine aJ (λRY=>?_) (λUz=>?_)
  ·have hlt2':(i:Int)<(s3.l:Int):=RY
   have dJ:i<(fV n (cZ n L k).left v).length:=aB;obtain⟨p,hp,hh⟩:=wI (YA.rd kI) (gS dJ);have tkC:=NH n (cZ n L k).left ((fV n (cZ n L k).left v).take i) (fV n (cZ n L k).left v)[i];have tkA:=NH n (cZ n L k).all ((fV n (cZ n L k).left v).take i) (fV n (cZ n L k).left v)[i];rw[<-FQ dJ] at tkC tkA;generalize (fV n (cZ n L k).left v)[i]=x at*;show(0<=(i:Int)/\(i:Int)<(s3.l:Int))/\_;rw[kE];refine⟨⟨aB,hlt2'⟩,aA hp (bJ (nN x) hh ?_)⟩;simp only[aG];refine GZ λmC Ku o14 zb14=>?_;refine bJ (nN x) (iM o14) ?_;have hC14:=hC12.aN Ku;have hA14:=hA12.aN Ku;have K14:=oh.tr Ku;have nbC:∀b,C2.dF b->b≠eR.heap.size:=λb hb e=>by have:=hC12.at_.lt hb;omega
   have nbA:∀b,A2.dF b->b≠eR.heap.size:=λb hb e=>by have:=hA12.at_.lt hb;omega
   have zW12:=oh.size;have slt:∀a,s3.b=some a->a.block<eR.heap.size:=λa ha=>YA.lt ha;generalize La:eR.heap.size=b3 at*;rw[<-gC12];refine Put_i hC14 λfO C3 hC15 gC15 Ej f15=>?_;have hA15:=hA14.aK Ej λb hb bW=>(YK b bW).2.1 hb;have o15:=o14.aK Ej λhb=>nbC b3 hb rfl;have v15:=(YA.aK Ku λ_ _=>id).aK Ej λa ha hb=>(YK _ hb).2.2.2.2.2 a ha rfl;have u15:=(Br.aK Ku λ_ _=>id).aK Ej λa ha hb=>by rw[PO] at ha;cases ha;exact(YK _ hb).2.2.1 rfl
   have r15:=(r12.aK Ku λ_ _=>id).aK Ej λa ha hb=>by rw[az] at ha;cases ha;exact(YK _ hb).2.2.2.1 rfl
   have l15:=(l12.aK Ku id).aK Ej λhb=>(YK _ hb).2.2.2.2.1 rfl;have K15:aM W fO:=aW.fresh K14 Ej λb hb=>(YK b hb).1;have fC15:∀b,C3.dF b->W.heap.size<=b/\¬A2.dF b/\b≠bg/\b≠br/\b≠bl/\b≠b3/\∀a,s3.b=some a->b≠a.block:=λb hb=>by
    rcases f15 b hb with hb|hb
    ·obtain⟨q1,q2,q3,q4,q5,q6⟩:=YK b hb
     exact⟨q1,q2,q3,q4,q5,nbC b hb,q6⟩
    ·have:=hA14.at_
     exact⟨aB,λh'=>by have:=hA14.at_.lt h';omega,aB,aB,aB,aB,λa ha e=>by have:=slt a ha;omega⟩
   have d15:aM fO fO.drew:=aW.drew (aW.refl _ fO);have l15d:=l15.aK d15 id;refine aE (k:=.ptr) (some ⟨A.g,0,none⟩) (by rw[aS,l15d.cell];rfl) (bJ (nN x) (iM (o15.aK d15 id)) ?_);rw[<-gA9,<-gA12];refine Put_i (hA15.aN d15) λgR A3 hA16 gA16 m16 f16=>?_;have fc:aW A2.dF fO gR:=d15.wk.tr m16;have hC16:=hC15.aK fc λb hb bW=>(fC15 b hb).2.1 bW;have v16:=v15.aK fc λa ha hb=>(Qm _ hb).2.2.2.2 a ha rfl;have u16:=u15.aK fc λa ha hb=>by rw[PO] at ha;cases ha;exact(Qm _ hb).2.1 rfl
   have r16:=r15.aK fc λa ha hb=>by rw[az] at ha;cases ha;exact(Qm _ hb).2.2.1 rfl
   have l16:=l15.aK fc λhb=>(Qm _ hb).2.2.2.1 rfl;have K16:aM W gR:=aW.fresh K15 fc λb hb=>(Qm b hb).1;have z1516:fO.heap.size<=gR.heap.size:=fc.size;have z1415:=Ej.size;rw[qA i aB];refine hY _ _ _ aB ⟨i+1,C3,A3,dJ,rfl,rfl,by rw[tkC];exact hC16,by rw[gC15,gC12],by rw[tkA];exact hA16,by rw[gA16,gA12],v16,u16,r16,l16,K16,λb hb=>?_,λb hb=>?_,aB⟩
   ·obtain⟨q1,q2,q3,q4,q5,_,q6⟩:=fC15 b hb
    refine⟨q1,λbW=>?_,q3,q4,q5,q6⟩;rcases f16 b bW with h'|h'
    ·exact q2 h'
    ·have h'':fO.heap.size<=b:=h'
     have:=hC15.at_.lt hb;omega
   ·rcases f16 b hb with h'|h'
    ·obtain⟨q1,q3,q4,q5,q6⟩:=Qm b h'
     exact⟨q1,q3,q4,q5,q6⟩
    ·have h'':fO.heap.size<=b:=h'
     exact⟨aB,aB,aB,aB,λa ha e=>by have:=slt a ha;omega⟩
  ·have hge2':¬(i:Int)<(s3.l:Int):=Uz
   have ei:i=(fV n (cZ n L k).left v).length:=aB;subst ei;rw[oZ] at hC12 hA12;rw[<-gC12];refine Cut_i hC12 λiZ C3 hC17 gC17 vz f17=>?_;have hA17:=hA12.aK vz λb hb bW=>(YK b bW).2.1 hb;have u17:=Br.aK vz λa ha hb=>by rw[PO] at ha;cases ha;exact(YK _ hb).2.2.1 rfl
   have r17:=r12.aK vz λa ha hb=>by rw[az] at ha;cases ha;exact(YK _ hb).2.2.2.1 rfl
   have l17:=l12.aK vz λhb=>(YK _ hb).2.2.2.2.1 rfl;have K17:aM W iZ:=aW.fresh oh vz λb hb=>(YK b hb).1;have zl:=UW.rl;have zg:=UW.gl;refine aE (k:=.slice) s2 (by rw[aS,l17.cell];rfl) ?_;refine⟨⟨x0,by rw[s2l];omega⟩,aA az ?_⟩;refine r17.store fH az (i:=v.toNat) aB (k:Int) (v:=aD (k:Int)) rfl cU (EV _) λlE r18 m18 _=>?_;have m18':aW (λb=>b=br) iZ lE:=m18;have zbg:bg≠br:=aB;have u18:=u17.aK m18' λa ha e=>by rw[PO] at ha;cases ha;exact zbg e
   refine⟨⟨x0,by first|omega|(rw[s1l];omega)⟩,aA (by first|rfl|exact PO) ?_⟩
   refine u18.store Uw PO (i:=v.toNat) aB true (v:=.bool true) rfl gV (oneB true) λnM u19 m19 _=>?_;have KY:aW (λb=>b=bg) lE nM:=m19;have r19:=r18.aK KY λa ha e=>by rw[az] at ha;cases ha;exact zbg (show bg=br from Eq.symm e)
   have fC17:∀b,C3.dF b->W.heap.size<=b/\¬A2.dF b/\b≠bg/\b≠br/\b≠bl:=λb hb=>by
    rcases f17 b hb with h'|h'
    ·obtain⟨q1,q2,q3,q4,q5,_⟩:=YK b h'
     exact⟨q1,q2,q3,q4,q5⟩
    ·exact⟨aB,λh''=>by have:=hA12.at_.lt h'';omega,aB,aB,aB⟩
   have hC19:=(hC17.aK m18' λb hb e=>(fC17 b hb).2.2.2.1 e).aK KY λb hb e=>(fC17 b hb).2.2.1 e;have hA19:=(hA17.aK m18' λb hb e=>(Qm b hb).2.2.1 e).aK KY λb hb e=>(Qm b hb).2.1 e;have l19:=(l17.aK m18' (show¬bl=br by omega)).aK KY (show¬bl=bg by omega);have K19:aM W nM:=(aW.fresh K17 m18' λb e=>aB).fresh KY λb e=>aB;have zz:w7.heap.size<=nM.heap.size:=by have:=vz.size;have:=m18.size;have:=m19.size;omega
   show X (aQ ((k:Int)+1),()) nM;rw[qA k aB];exact hX _ _ _ aB ⟨k+1,C3,A2,lD,rfl,rfl,by rw[ET];exact hC19,by rw[gC17,gC12,gC9],by rw[ET];exact hA19,by rw[gA12,gA9],by rw[ET];exact u19,by rw[ET];exact r19,l19,K19,fC17,λb hb=>by obtain⟨q1,q3,q4,q5,_⟩:=Qm b hb;exact⟨q1,q3,q4,q5⟩,zz⟩
 ·have e:k=n:=aB
  subst e;refine hQ w9 ⟨A',bl,s2⟩ ⟨by rw[gA9];exact ol9,hA9,u2,UW.rl⟩ K9 λb hb=>?_;rcases hb with hb|hb|⟨a,ha,rfl⟩
  ·have bW:b=bl:=hb
   omega
  ·exact(fA9 b hb).1
  ·rw[show(Lp.mk A' bl s2).rs=s2 from rfl,az] at ha;cases ha;show W.heap.size<=br;omega
end
section
abbrev eP(p:Int×Int):List Value:=[aD p.1,aD p.2]
theorem US:∀p:Int×Int,(eP p).length=2:=λ_=>rfl
theorem oneP:∀p:Int×Int,∀u∈eP p,u.oneCell'=true:=by intro p u hu;simp at hu;rcases hu with rfl|rfl<;>rfl
theorem dQ.new{α:Type}{w:aH}{e:TypeId}{n:Nat}{aY:α->List Value}{g:Nat}(fZ:∀x,(aY x).length=n)(xs:List α)(h:cW w g e (xs.flatMap aY))(hm:xs.length<=maxLen):dQ w e n aY ⟨some ⟨g,0,none⟩,xs.length,xs.length⟩ xs:=
 ⟨rfl,iT _,hm,.inr ⟨g,[],rfl,by rw[tD];exact h,by rw[tD];exact bI fZ xs⟩⟩
theorem HE{s:Sl}{xs:List Int}{w:aH}{Q:Sl->aH->Prop}(hs:Rd w s 1 eI xs)(hb:xs.length<1099511627776)
  (hQ:∀s' w',dQ w' cY 1 eI s' xs->aM w w'->(∀b,s'.b=some b->w.heap.size<=b.block)->Q s' w'):dI s w Q:=by
 unfold dI;refine aF (λh=>?_) (λh=>?_)
 ·have hn:xs=[]:=by
   cases xs with
   |nil=>rfl
   |cons x r=>obtain⟨a,ha,_⟩:=hs.get 0 x rfl;rw[ha] at h;cases h
  subst hn;exact hQ _ w (dQ.nil _ _ _ _) (aW.refl _ _) (λb hb=>by cases hb)
 ·refine bK λw1 o1 k1 z1=>?_
  have v0:dQ w1 cY 1 eI ⟨some ⟨w.heap.size,0,none⟩,0,0⟩ []:=dQ.new fH [] o1 dL;refine fN iK fH EV v0 (hs.aK k1 cR (λ_ _=>id)) (by simp;omega) (by simp;omega) λr w' hr hm Kv _=>?_;refine hQ r w' (by simpa using hr) (aW.fresh k1 hm λk ⟨a,ha,hk⟩=>by cases ha;rw[hk];exact iT _) λb hb=>?_;rcases Kv with h1|⟨b',bW,cJ⟩
  ·rw[hb] at h1;cases h1;exact iT _
  ·rw[hb] at bW;cases bW;have:=k1.size;omega
section
variable{w:aH}{H:Lp}{n:Nat}{A L:List bQ}{R:List Int}
end
end
section
theorem GO(p:Int×Int):eP p≠[]:=by simp
theorem FC:∀r:R3,(cu r).length=3:=λ_=>rfl
theorem oneR3:∀r:R3,∀u∈cu r,u.oneCell'=true:=by intro r u hu;simp at hu;rcases hu with rfl|rfl|rfl<;>rfl
theorem eO{t:TypeId}{w:aH}{g:Nat}{e:TypeId}{cs vs:List Value}{K:aH->Prop}(h:cW w g e cs)(ht:(prog.info? t).map (·.size)=some vs.length)(hl:cs.length=vs.length)(h1:∀u∈vs,u.oneCell'=true)
  (hK:∀w',cW w' g e vs->aW (λk=>k=g) w w'->w'.heap.size=w.heap.size->K w'):aI prog t ⟨g,0,none⟩ (.agg vs.toArray) w K:=by
 refine BZ h (by rw[ht];simp[Value.cells]) (by simp[Value.cells,hl]) (by simpa [Value.cells] using h1) λw' ho hm hz=>hK w' ?_ hm hz;have:cs.take 0++(Value.agg vs.toArray).cells.toList++cs.drop (0+(Value.agg vs.toArray).cells.size)=vs:=by
  simp[Value.cells,List.drop_of_length_le (show cs.length<=vs.length by omega)]
 rwa[this] at ho
theorem fE{t:TypeId}{zs vs:List Value}{w:aH}{K:Addr->aH->Prop}(ht:(prog.info? t).map (·.size)=some vs.length)(hl:zs.length=vs.length)(h1:∀u∈vs,u.oneCell'=true)
  (hK:∀w',cW w' w.heap.size t vs->aM w w'->w'.heap.size=w.heap.size+1->K ⟨w.heap.size,0,none⟩ w'):aG w zs.toArray t λa w1=>aI prog t a (.agg vs.toArray) w1 λw2=>K a w2:=
 bK λw1 o1 k1 z1=>eO o1 ht hl h1 λw2 o2 m2 z2=>hK w2 o2 (k1.fresh m2 λk e=>by rw[show k=w.heap.size from e];exact iT _) aB
theorem FW{w:aH}{g:Nat}{e:TypeId}{x y z:Value}(h:cW w g e [x,y,z]):w.cell? ((⟨g,0,none⟩:Addr).add 0)=some x/\w.cell? ((⟨g,0,none⟩:Addr).add 1)=some y/\w.cell? ((⟨g,0,none⟩:Addr).add 2)=some z:=by
 refine⟨?_,?_,?_⟩<;>rw[aS,h.cell]<;>rfl
theorem Pz{w:aH}{g:Nat}{e:TypeId}{x y:Value}(h:cW w g e [x,y]):w.cell? ((⟨g,0,none⟩:Addr).add 0)=some x/\w.cell? ((⟨g,0,none⟩:Addr).add 1)=some y:=by
 refine⟨?_,?_⟩<;>rw[aS,h.cell]<;>rfl
theorem Ph{w:aH}{s:Sl}{xs:List (Int×Int)}(h:Rd w s 2 eP xs){i:Nat}{x:Int×Int}(hx:xs[i]? =some x):∃a,s.b=some a/\bY w (a.add (i*2)) 0 (qH [.i,.i] (x.1,x.2,()))/\
  w.cell? ((a.add (i*2)).add 0)=some (aD x.1)/\w.cell? ((a.add (i*2)).add 1)=some (aD x.2):=by
 obtain⟨a,ha,hh⟩:=h.get i x hx;have h2:=oH.1 hh;exact⟨a,ha,hh,by simpa using h2 0 _ rfl,by simpa using h2 1 _ rfl⟩
theorem rd3{w:aH}{s:Sl}{xs:List R3}(h:Rd w s 3 cu xs){i:Nat}{x:R3}(hx:xs[i]? =some x):∃a,s.b=some a/\bY w (a.add (i*3)) 0 (qH [.i,.i,.i] (x.1,x.2.1,x.2.2,()))/\
  w.cell? ((a.add (i*3)).add 0)=some (aD x.1)/\w.cell? ((a.add (i*3)).add 1)=some (aD x.2.1)/\w.cell? ((a.add (i*3)).add 2)=some (aD x.2.2):=by
 obtain⟨a,ha,hh⟩:=h.get i x hx;have h2:=oH.1 hh;exact⟨a,ha,hh,by simpa using h2 0 _ rfl,by simpa using h2 1 _ rfl,by simpa using h2 2 _ rfl⟩
abbrev GT:=Sl×Sl×Sl×Unit
abbrev Ah(g:GT):List Value:=[sv g.1,sv g.2.1,sv g.2.2.1]
structure SK(w:aH)(g:GT)(G:Gr):Prop where
 nd:Rd w g.1 2 eP G.N
 ed:Rd w g.2.1 3 cu G.E
 bn:Rd w g.2.2.1 2 eP G.B
theorem SK.aN{w w':aH}{g:GT}{G:Gr}(h:SK w g G)(k:aM w w'):SK w' g G:=
 ⟨h.nd.aK k GO λ_ _=>id,h.ed.aK k YW λ_ _=>id,h.bn.aK k GO λ_ _=>id⟩
theorem We(g:GT):∀u∈Ah g,u.oneCell'=true:=by intro u hu;simp at hu;rcases hu with rfl|rfl|rfl<;>rfl
theorem GJ{w:aH}{b:Nat}{e:TypeId}{g:GT}(h:cW w b e (Ah g)):bY w ⟨b,0,none⟩ 0 (qH [.slice,.slice,.slice] g):=iM h
theorem SK.jB{w:aH}{g:GT}{G:Gr}(h:SK w g G){i:Int}(hi:G.qE i):∃a,g.2.1.b=some a/\bY w (a.add (i.toNat*3)) 0 (qH [.i,.i,.i] (G.fr i,G.to i,G.wt i,()))/\
  w.cell? ((a.add (i.toNat*3)).add 0)=some (aD (G.fr i))/\w.cell? ((a.add (i.toNat*3)).add 1)=some (aD (G.to i))/\w.cell? ((a.add (i.toNat*3)).add 2)=some (aD (G.wt i)):=rd3 h.ed (G.get_ed hi)
structure Qs where
 g:Nat
 v:GT
 out:Sl
 LM:Sl
 fr:Sl
 to:Sl
def ByN(w:aH)(row first:Sl)(n m:Nat)(key:Int->Int):Prop:=∃fs rs,Rd w first 1 eI fs/\Rd w row 1 eI rs/\fs.length=n+1/\rs.length=m/\(∀i,i<=n->fs[i]? =some (pV (cK key m) i:Int))/\
 ∀v,v<n->pV (cK key m) v+cK key m v<=m/\(rs.drop (pV (cK key m) v)).take (cK key m v)=cr key m v
theorem ByN.aN{w w':aH}{row first:Sl}{n m:Nat}{key:Int->Int}(h:ByN w row first n m key)(k:aM w w'):ByN w' row first n m key:=by
 obtain⟨fs,rs,h1,h2,h3⟩:=h;exact⟨fs,rs,h1.aK k cR λ_ _=>id,h2.aK k cR λ_ _=>id,h3⟩
def Ty(w:aH)(s:Sl):Prop:=∀b,s.b=some b->∃t cs,cW w b.block t cs/\t≠31/\t≠gG
theorem Ty.aN{w w':aH}{s:Sl}(h:Ty w s)(k:aM w w'):Ty w' s:=λb hb=>by
 obtain⟨t,cs,o,h1⟩:=h b hb;exact⟨t,cs,o.aK k id,h1⟩
theorem Ty.nil{w:aH}:Ty w bD:=λb hb=>by cases hb
theorem dQ.Kp{α:Type}{w:aH}{e:TypeId}{n:Nat}{aY:α->List Value}{s:Sl}{xs:List α}(h:dQ w e n aY s xs)(h1:e≠31/\e≠gG):Ty w s:=λb hb=>by
 rcases h.gN with⟨h0,_⟩|⟨g,dE,h0,ho,_⟩
 ·rw[hb] at h0;cases h0
 ·rw[hb] at h0;cases h0;exact⟨e,_,ho,h1⟩
structure uX(w:aH)(H:Qs)(G:Gr):Prop where
 ok:zI G
 head:cW w H.g tGraph [sv H.v.1,sv H.v.2.1,sv H.v.2.2.1,sv H.out,sv H.LM,sv H.fr,sv H.to]
 val:SK w H.v G
 out:ByN w H.out H.fr G.n G.m G.fr
 LM:ByN w H.LM H.to G.n G.m G.to
 Kp:Ty w H.v.1/\Ty w H.v.2.1/\Ty w H.v.2.2.1/\Ty w H.out/\Ty w H.LM/\Ty w H.fr/\Ty w H.to
theorem uX.aN{w w':aH}{H:Qs}{G:Gr}(h:uX w H G)(k:aM w w'):uX w' H G:=⟨h.ok,h.head.aK k id,h.val.aN k,h.out.aN k,h.LM.aN k,h.Kp.1.aN k,h.Kp.2.1.aN k,h.Kp.2.2.1.aN k,h.Kp.2.2.2.1.aN k,h.Kp.2.2.2.2.1.aN k,h.Kp.2.2.2.2.2.1.aN k,h.Kp.2.2.2.2.2.2.aN k⟩
section
variable{w:aH}{H:Qs}{G:Gr}
theorem uX.cells(h:uX w H G):w.cell? ((⟨H.g,0,none⟩:Addr).add 0)=some (sv H.v.1)/\w.cell? ((⟨H.g,0,none⟩:Addr).add 1)=some (sv H.v.2.1)/\w.cell? ((⟨H.g,0,none⟩:Addr).add 2)=some (sv H.v.2.2.1)/\
  w.cell? ((⟨H.g,0,none⟩:Addr).add 3)=some (sv H.out)/\w.cell? ((⟨H.g,0,none⟩:Addr).add 4)=some (sv H.LM)/\w.cell? ((⟨H.g,0,none⟩:Addr).add 5)=some (sv H.fr)/\w.cell? ((⟨H.g,0,none⟩:Addr).add 6)=some (sv H.to):=by
 have hh:=h.head;refine⟨?_,?_,?_,?_,?_,?_,?_⟩<;>rw[aS,hh.cell]<;>rfl
theorem sT{Q:Int->aH->Prop}(h:uX w H G)(hQ:Q (G.m:Int) w):gJ (some ⟨H.g,0,none⟩) w Q:=by
 unfold gJ;refine aF (λh=>by simp at h) (λ_=>aA rfl ?_);rw[add_zero];refine aE (k:=.slice) H.v.2.1 h.cells.2.1 ?_;rw[h.val.ed.len];exact hQ
theorem OI{Q:Int->aH->Prop}(h:uX w H G)(hQ:Q (G.n:Int) w):pF (some ⟨H.g,0,none⟩) w Q:=by
 unfold pF;refine aF (λh=>by simp at h) (λ_=>aA rfl ?_);rw[add_zero];refine aE (k:=.slice) H.v.1 h.cells.1 ?_;rw[h.val.nd.len];exact hQ
theorem JJ{i:Int}{Q:(Int×Int×Int×Unit)->Bool->aH->Prop}(h:uX w H G)(Qd:G.qE i->∀w',aM w w'->Q (G.fr i,G.to i,G.wt i,()) true w')(vU:¬G.qE i->∀w',aM w w'->Q (0,0,0,()) false w'):
  iY (some ⟨H.g,0,none⟩) i w Q:=by
 unfold iY;refine bK λw1 o1 k1 z1=>?_;have zz:∀w2,aM w w2->cW w2 w.heap.size QG [aD 0,aD 0,aD 0]->¬G.qE i->aI prog QG ⟨w.heap.size,0,none⟩ (Value.agg #[(aD 0),(aD 0),(aD 0)]) w2 λw3=>
   eY [.i,.i,.i] w3 ⟨w.heap.size,0,none⟩ λ(t1:Int×Int×Int×Unit)=>Q (t1.1,t1.2.1,t1.2.2.1,()) false w3:=λw2 k2 o2 hn=>by
  refine eO (vs:=[aD 0,aD 0,aD 0]) o2 jL rfl (by simp[Value.oneCell']) λw3 o3 m3 _=>?_;refine bJ (l:=[.i,.i,.i]) ((0:Int),(0:Int),(0:Int),()) (iM o3) (vU hn w3 (k2.fresh m3 λk e=>by rw[show k=w.heap.size from e];exact iT _))
 refine aJ (λPT=>zz w1 k1 o1 λhi=>aB) (λuR=>?_);refine sT (h.aN k1) ?_;refine aJ (λkT=>zz w1 k1 o1 λhi=>aB) (λcJ=>?_);have hi:G.qE i:=⟨aB,aB⟩;have h1:=h.aN k1;refine aA rfl ?_;rw[add_zero];refine aE (k:=.slice) H.v.2.1 h1.cells.2.1 ?_;obtain⟨a,ha,hh,_⟩:=h1.val.jB hi;refine⟨⟨hi.1,by rw[h1.val.ed.len];exact hi.2⟩,aA ha (bJ (l:=[.i,.i,.i]) (G.fr i,G.to i,G.wt i,()) hh ?_)⟩;refine eO (vs:=[aD (G.fr i),aD (G.to i),aD (G.wt i)]) o1 jL rfl (by simp[Value.oneCell']) λw3 o3 m3 _=>?_;exact bJ (l:=[.i,.i,.i]) (G.fr i,G.to i,G.wt i,()) (iM o3) (Qd hi w3 (k1.fresh m3 λk e=>by rw[show k=w.heap.size from e];exact iT _))
theorem part_i{row first:Sl}{key:Int->Int}(h:ByN w row first G.n G.m key)(hm:G.m<=51){node:Int}(hn:G.XS node){Q:Sl->aH->Prop}
  (hQ:∀s w',dQ w' cY 1 eI s (cr key G.m node.toNat)->aM w w'->(∀b,s.b=some b->w.heap.size<=b.block)->Q s w'):
  ∃x2 x3:Int,(∃a,first.b=some a/\w.cell? (a.add (node.toNat*1))=some (aD x2)/\w.cell? (a.add ((node+1).toNat*1))=some (aD x3))/\(0<=node/\node+1<(first.l:Int))/\(0<=x3/\x3<=(row.c:Int))/\
  (0<=x2/\x2<=(((Int.toNat x3):Nat):Int))/\dI ⟨(aR row.b row.c (Int.toNat x2) 1),((Int.toNat x3)-(Int.toNat x2)),(row.c-(Int.toNat x2))⟩ w Q:=by
 obtain⟨fs,rs,h1,h2,h3,h4,h5,h6⟩:=h;obtain⟨p1,p2⟩:=h6 node.toNat (by have:=hn.1;have:=hn.2;omega);have hl:=h2.len;have Qj:=h2.cap;have e1:=h5 node.toNat (by have:=hn.2;omega);have e2:=h5 (node.toNat+1) (by have:=hn.1;have:=hn.2;omega);obtain⟨a,ha,bw⟩:=cF (k:=.i) (e:=λx=>x) h1 e1;obtain⟨a',pI,RP⟩:=cF (k:=.i) (e:=λx=>x) h1 e2;rw[ha] at pI;cases pI;have hp:pV (cK key G.m) (node.toNat+1)=pV (cK key G.m) node.toNat+cK key G.m node.toNat:=rfl;have dm:(node+1).toNat=node.toNat+1:=by have:=hn.1;omega
 refine⟨_,_,⟨a,ha,bw,by rw[dm];exact RP⟩,⟨hn.1,by have:=h1.len;have:=hn.2;omega⟩,⟨aB,aB⟩,⟨aB,aB⟩,?_⟩;simp only[kE];have Fw:=h2.part (i:=pV (cK key G.m) node.toNat) (j:=pV (cK key G.m) (node.toNat+1)) (c:=row.c) aB aB aB (iT _);rw[hp,Nat.add_sub_cancel_left,p2] at Fw;refine HE (xs:=cr key G.m node.toNat) ?_ (by have:=jc key G.m node.toNat;unfold cK at this;omega) hQ;rw[hp,Nat.add_sub_cancel_left];exact Fw
theorem tz{key:Int->Int}{m:Nat}{node:Int}(h:0<=node):cr key m node.toNat=(nW m).filter λe=>decide (key e=node):=by
 unfold cr;rw[Int.toNat_of_nonneg h]
theorem tx{key:Int->Int}{m n:Nat}(hk:∀e:Int,0<=e/\e<m->0<=key e/\key e<n){node:Int}(h:¬(0<=node/\node<n)):((nW m).filter λe=>decide (key e=node))=[]:=by
 rw[List.filter_eq_nil_iff];intro e he hd;have:=hk e (CF.1 he);have:key e=node:=by simpa using hd
 omega
theorem wnode{node:Int}(h:G.XS node)(ok:zI G):aQ (node+(1:Int))=node+1:=by have:=ok.n1;have:=h.1;have:=h.2;exact gM aB aB
theorem gOut_i{node:Int}{Q:Sl->aH->Prop}(h:uX w H G)(hQ:∀s w',dQ w' cY 1 eI s (G.Uu node)->aM w w'->(∀b,s.b=some b->w.heap.size<=b.block)->Q s w'):WU (some ⟨H.g,0,none⟩) node w Q:=by
 unfold WU;have nil:¬G.XS node->Q bD w:=λhn=>by
  refine hQ _ w ?_ (aW.refl _ _) λb hb=>by cases hb
  unfold Gr.Uu;rw[tx (n:=G.n) (λe he=>(h.ok.ed _ (G.TG he)).1) hn];exact dQ.nil _ _ _ _
 refine aJ (λh=>nil λhn=>aB) (λh0=>OI h (aJ (λh=>nil λhn=>aB) (λh1=>?_)));have hn:G.XS node:=⟨aB,aB⟩;have d:aM w w.drew:=aW.drew (aW.refl _ w);have hd:=h.aN d;have hc:=hd.cells;obtain⟨x2,x3,⟨a,ha,c1,c2⟩,⟨b0,b1⟩,q1,q2,hcl⟩:=part_i hd.out h.ok.m1.2 hn (Q:=Q) λs w' v k f=>hQ s w' (by rw[tz hn.1] at v;exact v) (d.tr k) f;refine aA rfl (aE (k:=.slice) H.out hc.2.2.2.1 (aA rfl (aE (k:=.slice) H.fr hc.2.2.2.2.2.1 ⟨⟨b0,aB⟩,aA ha (aE (k:=.i) x2 c1 (aA rfl (aE (k:=.slice) H.fr hc.2.2.2.2.2.1 ?_)))⟩)));rw[wnode hn h.ok];exact⟨⟨aB,aB⟩,aA ha (aE (k:=.i) x3 c2 ⟨q1,q2,hcl⟩)⟩
theorem gIn_i{node:Int}{Q:Sl->aH->Prop}(h:uX w H G)(hQ:∀s w',dQ w' cY 1 eI s (G.Tu node)->aM w w'->(∀b,s.b=some b->w.heap.size<=b.block)->Q s w'):VX (some ⟨H.g,0,none⟩) node w Q:=by
 unfold VX;have nil:¬G.XS node->Q bD w:=λhn=>by
  refine hQ _ w ?_ (aW.refl _ _) λb hb=>by cases hb
  unfold Gr.Tu;rw[tx (n:=G.n) (λe he=>(h.ok.ed _ (G.TG he)).2.1) hn];exact dQ.nil _ _ _ _
 refine aJ (λh=>nil λhn=>aB) (λh0=>OI h (aJ (λh=>nil λhn=>aB) (λh1=>?_)));have hn:G.XS node:=⟨aB,aB⟩;have d:aM w w.drew:=aW.drew (aW.refl _ w);have hd:=h.aN d;have hc:=hd.cells;obtain⟨x2,x3,⟨a,ha,c1,c2⟩,⟨b0,b1⟩,q1,q2,hcl⟩:=part_i hd.LM h.ok.m1.2 hn (Q:=Q) λs w' v k f=>hQ s w' (by rw[tz hn.1] at v;exact v) (d.tr k) f;refine aA rfl (aE (k:=.slice) H.LM hc.2.2.2.2.1 (aA rfl (aE (k:=.slice) H.to hc.2.2.2.2.2.2 ⟨⟨b0,aB⟩,aA ha (aE (k:=.i) x2 c1 (aA rfl (aE (k:=.slice) H.to hc.2.2.2.2.2.2 ?_)))⟩)));rw[wnode hn h.ok];exact⟨⟨aB,aB⟩,aA ha (aE (k:=.i) x3 c2 ⟨q1,q2,hcl⟩)⟩
end
end
section
def fb(a b:Int×Int):Int:=if YM a.1 b.1≠0 then YM a.1 b.1 else YM a.2 b.2
theorem Gy{a b:Int×Int}:fb a b<0↔IW a b:=by
 unfold fb YM
 by_cases h1:a.1<b.1
 ·simp[h1];exact .inl h1
 ·by_cases h2:a.1>b.1
  ·simp[h1,h2];omega
  ·have:a.1=b.1:=aB
   by_cases h3:a.2<b.2
   ·simp[this,h3];exact .inr ⟨this,h3⟩
   ·by_cases h4:a.2>b.2
    ·simp[this,h3,h4]
    ·simp[this,h3,h4]
theorem zr{a b:Int×Int}:fb a b=0↔a=b:=by
 obtain⟨a1,a2⟩:=a;obtain⟨b1,b2⟩:=b;unfold fb YM;simp only[Prod.mk.injEq]
 by_cases h1:a1<b1
 ·simp[h1];omega
 ·by_cases h2:a1>b1
  ·simp[h1,h2];omega
  ·have:a1=b1:=aB
   subst this
   by_cases h3:a2<b2
   ·simp[h3];omega
   ·by_cases h4:a2>b2
    ·simp[h3,h4];omega
    ·simp[h3,h4];omega
theorem lex2_irr(a:Int×Int):¬IW a a:=λh=>by rcases h with h|h<;>omega
theorem th{a b c:Int×Int}(h:IW a b)(h':IW b c):IW a c:=by unfold IW at*;omega
theorem Or_i{x y:Int}{w:aH}{g:Nat}{Q:Int->aH->Prop}(h:cW w g cY [aD x,aD y])(hQ:Q (if x≠0 then x else y) w):AD ⟨some ⟨g,0,none⟩,2,2⟩ w Q:=by
 unfold AD;obtain⟨c0,c1⟩:=Pz h;refine bO (λc t w1=>w1=w/\((c=2/\t=((0:Int),()))\/(c=1/\t=((1:Int),())/\x=0)\/(c=0/\t=((2:Int),())/\x=0/\y=0))) 2 ⟨rfl,.inl ⟨rfl,rfl⟩⟩ ?_;rintro c t w1 ⟨rfl,ET⟩ X hX;rcases ET with⟨rfl,rfl⟩|⟨rfl,rfl,hx⟩|⟨rfl,rfl,hx,hy⟩
 ·dsimp only
  refine aJ (λ_=>⟨by decide,aA rfl (aE (k:=.i) x c0 ?_)⟩) (λh=>absurd (by decide) h);refine aF (λhn=>?_) (λhn=>?_)
  ·have:x≠0:=by simpa using hn
   rw[if_pos this] at hQ;exact hQ
  ·have:x=0:=by simpa using hn
   exact hX 1 _ _ aB ⟨rfl,.inr (.inl ⟨rfl,by rw[show aQ ((0:Int)+1)=1 by decide],this⟩)⟩
 ·dsimp only
  refine aJ (λ_=>⟨by decide,aA rfl (aE (k:=.i) y c1 ?_)⟩) (λh=>absurd (by decide) h);rw[if_neg (λh=>h hx)] at hQ;refine aF (λhn=>hQ) (λhn=>?_);have:y=0:=by simpa using hn
  exact hX 0 _ _ aB ⟨rfl,.inr (.inr ⟨rfl,by rw[show aQ ((1:Int)+1)=2 by decide],hx,this⟩)⟩
 ·dsimp only
  refine aJ (λh=>absurd h (by decide)) (λ_=>?_);rw[if_neg (λh=>h hx),hy] at hQ;exact hQ
theorem su{a b:Int×Int}{w:aH}{Q:Int->aH->Prop}(hQ:∀w',aM w w'->Q (fb a b) w'):sL (a.1,a.2,()) (b.1,b.2,()) w Q:=by
 unfold sL;refine bK λw1 o1 k1 z1=>bK λw2 o2 k2 z2=>?_;have d:aM w2 w2.drew:=aW.drew (aW.refl _ w2);have kd:=k2.tr d;obtain⟨a0,a1⟩:=Pz (o1.aK kd id);obtain⟨b0,b1⟩:=Pz (o2.aK d id);refine aE (k:=.i) a.1 a0 (aE (k:=.i) b.1 b0 (aE (k:=.i) a.2 a1 (aE (k:=.i) b.2 b1 ?_)));refine PN ⟨b1,a1,PN ?_⟩;refine bK λw5 o5 k5 z5=>?_;exact Or_i o5 (hQ w5 ((k1.tr kd).tr k5))
theorem Ol{a b:Int×Int}{w:aH}{K:Value->aH->Prop}(hK:∀w',aM w w'->K (aD (fb a b)) w'):lI prog (.func (.func NX) #[] #[]) [.agg #[aD a.1,aD a.2],.agg #[aD b.1,aD b.2]] w K:=
 pB Mc iA (gI (ks:=[.agg [.i,.i],.agg [.i,.i]]) (t:=((a.1,a.2,()),(b.1,b.2,()),())) (su hK))
theorem Zm{s:Sl}{xs:List (Int×Int)}{v:Int×Int}{w:aH}{Q:Int->Bool->aH->Prop}(hs:Rd w s 2 eP xs)(lM:xs.Pairwise IW)(fU:xs.length<4611686018427387904)
  (hQ:∀i w',aM w w'->Q i (decide (v∈xs)) w'):fK s (v.1,v.2,()) (.func (.func NX) #[] #[]) w Q:=by
 unfold fK;have hl:=hs.len;have Py:∀{p q:Nat} {x y:Int×Int},p<q->xs[p]? =some x->xs[q]? =some y->IW x y:=λ{p q x y} hpq hx hy=>by
  obtain⟨h1,rfl⟩:=kU.1 hx;obtain⟨h2,rfl⟩:=kU.1 hy;exact Qc.1 lM p q h1 h2 hpq
 refine bK λw1 o1 k1 z1=>?_;refine bO (λn t w'=>∃i j:Nat,i<=j/\j<=xs.length/\n=j-i/\t=((i:Int),(j:Int),())/\aM w1 w'/\(∀p x,p<i->xs[p]? =some x->IW x v)/\(∀p x,j<=p->xs[p]? =some x->¬IW x v)) xs.length
  ⟨0,xs.length,aB,aB,aB,by rw[hl];rfl,aW.refl _ _,λp x hp=>aB,λp x hp hx=>by have:=(kU.1 hx).1;omega⟩ ?_
 rintro n t w' ⟨i,j,RN,hj,rfl,rfl,hk,YD,hhi⟩ X hX;dsimp only;have d:aM w' w'.drew:=aW.drew (aW.refl _ w');have hkd:=hk.tr d;have QC:=hs.aK (k1.tr hkd) GO (λ_ _=>id);have hv:bY w'.drew ⟨w.heap.size,0,none⟩ 0 (qH [.i,.i] (v.1,v.2,())):=iM (o1.aK hkd id);refine aJ (λh=>?_) (λh=>?_)
 ·have cJ:i<j:=aB
  rw[mid_i i j aB];have hm:(i+j)/2<xs.length:=aB;have cV:=gS hm;refine⟨aB,⟨aB,aB⟩,?_⟩;obtain⟨a,ha,hh,_⟩:=Ph QC cV;generalize xs[(i+j)/2]=x at*;refine aA ha (bJ (l:=[.i,.i]) (x.1,x.2,()) hh (bJ (l:=[.i,.i]) (v.1,v.2,()) hv ?_));refine Ol λw2 k2=>⟨_,rfl,?_⟩;rw[gM (n:=(((i+j)/2:Nat):Int)+1) aB aB];refine aJ (λh=>?_) (λh=>?_)
  ·have hx:=Gy.1 h
   refine hX (j-((i+j)/2+1)) _ _ aB ⟨(i+j)/2+1,j,aB,hj,rfl,rfl,hkd.tr k2,λp y hp hy=>?_,hhi⟩;rcases Nat.lt_or_ge p ((i+j)/2) with h'|h'
   ·exact th (Py h' hy cV) hx
   ·have:p=(i+j)/2:=aB
    subst this;rw[cV] at hy;cases hy;exact hx
  ·have hx:¬IW x v:=λh'=>h (Gy.2 h')
   refine hX ((i+j)/2-i) _ _ aB ⟨i,(i+j)/2,aB,aB,rfl,rfl,hkd.tr k2,YD,λp y hp hy=>?_⟩;rcases Nat.eq_or_lt_of_le hp with h'|h'
   ·subst h';rw[cV] at hy;cases hy;exact hx
   ·exactλh2=>hx (th (Py h' cV hy) h2)
 ·have hje:j=i:=aB
  subst hje;have loc:∀{q:Nat},xs[q]? =some v->q=j\/(j<q/\∀x,xs[j]? =some x->False):=λ{q} hq=>by
   rcases Nat.lt_trichotomy q j with h1|h1|h1
   ·exact absurd (YD q v h1 hq) (lex2_irr v)
   ·exact .inl h1
   ·exact .inr ⟨h1,λx hx=>hhi j x (iT _) hx (Py h1 hx hq)⟩
  refine aJ (λh=>?_) (λh=>?_)
  ·have hi:j<xs.length:=aB
   have cV:=gS hi;refine⟨⟨aB,aB⟩,?_⟩;obtain⟨a,ha,hh,_⟩:=Ph QC cV;generalize xs[j]=x at*;refine aA ha (bJ (l:=[.i,.i]) (x.1,x.2,()) hh (bJ (l:=[.i,.i]) (v.1,v.2,()) hv ?_));refine Ol λw2 k2=>⟨_,rfl,?_⟩;have e:(fb x v==0)=decide (v∈xs):=by
    rw[Bool.eq_iff_iff];simp only[beq_iff_eq,decide_eq_true_eq];rw[zr]
    constructor
    ·rintro rfl;exact zH cV
    ·intro hm
     obtain⟨q,hq⟩:=oM.1 hm;rcases loc hq with rfl|⟨_,h2⟩
     ·rw[cV] at hq;exact(uQ hq)
     ·exact(h2 x cV).elim
   rw[e];exact hQ _ w2 ((k1.tr hkd).tr k2)
  ·have e:decide (v∈xs)=false:=by
    rw[decide_eq_false_iff_not];intro hm;obtain⟨q,hq⟩:=oM.1 hm;have:=(kU.1 hq).1;have h':¬((j:Int)<(s.l:Int)):=h;rcases loc hq with rfl|⟨h1,_⟩<;>omega
   have:=hQ (j:Int) w'.drew (k1.tr hkd);rw[e] at this;exact this
section
variable{w:aH}{H:Qs}{G:Gr}
theorem Yf{a b:Int}{Q:Bool->aH->Prop}(h:uX w H G)(hQ:∀w',aM w w'->Q (decide ((a,b)∈G.B)) w'):yK (some ⟨H.g,0,none⟩) a b w Q:=by
 unfold yK;refine aF (λh=>by simp at h) (λ_=>aA rfl ?_);rw[add_zero];refine aE (k:=.slice) H.v.2.2.1 h.cells.2.2.1 ?_;have:=h.ok.bl;exact Zm (v:=(a,b)) h.val.bn h.ok.bs aB λi w' k=>hQ w' k
end
theorem tV{n qF high:Int}{w:aH}{Q:Bool->aH->Prop}(h:qF<=n/\n<=high)(hQ:Q true w):gK n qF high w Q:=by
 unfold gK;refine aJ (λ_=>?_) (λh'=>absurd h.1 h');rw[decide_eq_true h.2];exact hQ
theorem gmay_i{g:GT}{G:Gr}{W:aH}{Q:Bool->aH->Prop}(h:SK W g G)(ok:zI G)(hQ:∀w',aM W w'->Q true w'):EL g W Q:=by
 unfold EL;refine bK λw1 o1 k1 z1=>?_;have hn:=ok.n1;have hm:=ok.m1;have hb:=ok.bl;have l1:=h.nd.len;have l2:=h.ed.len;have l3:=h.bn.len;have cs:∀{wx:aH},aM w1 wx->_:=λ{wx} kx=>FW (o1.aK kx id);have c1:=cs (aW.refl _ _);unfold Gr.n at hn;unfold Gr.m at hm;refine aE (k:=.slice) g.1 c1.1 (tV aB (aF (λh=>by simp at h) (λ_=>?_)));refine aE (k:=.slice) g.2.1 c1.2.1 (aJ (λh=>aB) (λ_=>?_));refine aE (k:=.slice) g.2.2.1 c1.2.2 (aJ (λh=>aB) (λ_=>?_));refine aE (k:=.slice) g.1 c1.1 ?_;refine bO (λc t w2=>∃i:Nat,i<=G.N.length/\c=G.N.length-i/\t=((i:Int),())/\aM w1 w2) G.N.length ⟨0,iG _,rfl,rfl,aW.refl _ _⟩ ?_;rintro c t w2 ⟨i,hi,rfl,rfl,k2⟩ X hX;dsimp only;refine aJ (λcJ=>?_) (λkT=>?_)
 ·have dJ:i<G.N.length:=aB
  have cV:=gS dJ;have bq:=ok.nd _ (nE dJ);obtain⟨a,ha,hh,_⟩:=Ph (h.nd.aK (k1.tr k2) GO λ_ _=>id) cV;generalize G.N[i]=x at*;rw[kE];refine⟨⟨aB,cJ⟩,aA ha (bJ (l:=[.i,.i]) (x.1,x.2,()) hh ?_)⟩;refine fE (vs:=[aD x.1,aD x.2]) OL rfl (by simp[Value.oneCell']) λw5 o5 k5 z5=>?_;obtain⟨n0,n1⟩:=Pz o5;refine aE (k:=.i) x.1 n0 (tV bq.1 (aF (λh=>by simp at h) (λ_=>?_)));refine aE (k:=.i) x.2 n1 (tV bq.2 (aF (λh=>by simp at h) (λ_=>?_)));rw[qA i aB];exact hX _ _ _ aB ⟨i+1,dJ,rfl,rfl,k2.tr k5⟩
 clear hX X kT hi i;have c2:=cs k2;refine aE (k:=.slice) g.1 c2.1 (aE (k:=.slice) g.2.1 c2.2.1 ?_);have wn:aQ ((g.1.l:Int)-(1:Int))=(G.n:Int)-1:=by rw[gM aB aB,l1];rfl
 have wm:aQ ((g.2.1.l:Int)-(1:Int))=(G.m:Int)-1:=by rw[gM aB aB,l2];rfl
 rw[wn];refine bO (λc t w3=>∃i:Nat,i<=G.E.length/\c=G.E.length-i/\t=((i:Int),())/\aM w1 w3) G.E.length ⟨0,iG _,rfl,rfl,k2⟩ ?_;rintro c t w3 ⟨i,hi,rfl,rfl,k3⟩ X hX;dsimp only;refine aJ (λcJ=>?_) (λkT=>?_)
 ·have dJ:i<G.E.length:=aB
  have cV:=gS dJ;have hed:=ok.ed _ (nE dJ);obtain⟨a,ha,hh,_⟩:=rd3 (h.ed.aK (k1.tr k3) YW λ_ _=>id) cV;generalize G.E[i]=x at*;rw[kE];refine⟨⟨aB,cJ⟩,aA ha (bJ (l:=[.i,.i,.i]) (x.1,x.2.1,x.2.2,()) hh ?_)⟩;refine fE (vs:=[aD x.1,aD x.2.1,aD x.2.2]) jL rfl (by simp[Value.oneCell']) λw5 o5 k5 z5=>?_;obtain⟨n0,n1,n2⟩:=FW o5;refine aE (k:=.i) x.1 n0 (tV aB (aF (λh=>by simp at h) (λ_=>?_)));refine aE (k:=.i) x.2.1 n1 (tV aB (aF (λh=>by simp at h) (λ_=>?_)));refine aE (k:=.i) x.2.2 n2 (tV aB (aF (λh=>by simp at h) (λ_=>?_)));rw[qA i aB];exact hX _ _ _ aB ⟨i+1,dJ,rfl,rfl,k3.tr k5⟩
 clear hX X kT hi i;have c3:=cs k3;refine aE (k:=.slice) g.2.2.1 c3.2.2 ?_;refine bO (λc t w4=>∃i:Nat,i<=G.B.length/\c=G.B.length-i/\t=((i:Int),())/\aM w1 w4) G.B.length ⟨0,iG _,rfl,rfl,k3⟩ ?_;rintro c t w4 ⟨i,hi,rfl,rfl,k4⟩ X hX;dsimp only;refine aJ (λcJ=>?_) (λ_=>hQ w4 (k1.tr k4));have dJ:i<G.B.length:=aB;have cV:=gS dJ;obtain⟨YE,RQ,La⟩:=ok.bd _ (nE dJ);have rP:∀y,0<i->G.B[i-1]? =some y->IW y G.B[i]:=λy h0 hy=>by
  obtain⟨h1,rfl⟩:=kU.1 hy;exact Qc.1 ok.bs (i-1) i h1 dJ aB
 obtain⟨a,ha,hh,_⟩:=Ph (h.bn.aK (k1.tr k4) GO λ_ _=>id) cV;generalize G.B[i]=x at*;rw[kE];refine⟨⟨aB,cJ⟩,aA ha (bJ (l:=[.i,.i]) (x.1,x.2,()) hh ?_)⟩;refine fE (vs:=[aD x.1,aD x.2]) size_Ban rfl (by simp[Value.oneCell']) λw5 o5 k5 z5=>?_;have d5:aM w5 w5.drew:=aW.drew (aW.refl _ w5);obtain⟨n0',n1'⟩:=Pz (o5.aK d5 id);have Dc:=(k4.tr k5);have c5:=cs Dc;have c5':=cs (Dc.tr d5);have ni:=h.aN ((k1.tr Dc).tr d5);refine aE (k:=.slice) g.2.1 c5.2.1 (aE (k:=.i) x.1 n0' ?_);rw[wm];refine tV aB (aF (λh=>by simp at h) (λ_=>?_));refine aE (k:=.i) x.2 n1' (tV aB (aF (λh=>by simp at h) (λ_=>?_)));obtain⟨p1,hp1,_,_,t1,_⟩:=ni.jB YE;obtain⟨p2,Ky,_,f2,_,_⟩:=ni.jB RQ;refine aE (k:=.slice) g.2.1 c5'.2.1 (aE (k:=.i) x.1 n0' ⟨⟨YE.1,by rw[l2];exact YE.2⟩,aA hp1 (aE (k:=.i) (G.to x.1) t1 ?_)⟩);refine aE (k:=.slice) g.2.1 c5'.2.1 (aE (k:=.i) x.2 n1' ⟨⟨RQ.1,by rw[l2];exact RQ.2⟩,aA Ky (aE (k:=.i) (G.fr x.2) f2 ?_)⟩);refine aF (λh=>by rw[La] at h;simp at h) (λ_=>?_);have next:∀wz,aM w1 wz->X (aQ ((i:Int)+1),()) wz:=λwz kz=>by
  rw[qA i aB];exact hX _ _ _ aB ⟨i+1,dJ,rfl,rfl,kz⟩
 refine aJ (λuR=>?_) (λ_=>next _ (Dc.tr d5))
 have wi:aQ ((i:Int)-(1:Int))=((i-1:Nat):Int):=by rw[gM aB aB];omega
 rw[wi,kE];have hget':=gS (show i-1<G.B.length by omega);have hs:=rP _ aB hget';obtain⟨a',pI,Kf,_⟩:=Ph ni.bn hget';generalize G.B[i-1]=y at*;refine aE (k:=.slice) g.2.2.1 c5'.2.2 ⟨⟨aB,aB⟩,aA pI (bJ (l:=[.i,.i]) (y.1,y.2,()) Kf (bJ (l:=[.i,.i]) (x.1,x.2,()) (iM (o5.aK d5 id)) ?_))⟩;refine su (a:=y) (b:=x) λw6 k6=>?_;exact aJ (λkT=>absurd (Gy.2 hs) aB) (λ_=>next _ ((Dc.tr d5).tr k6))
theorem rows_i{g:GT}{G:Gr}{node:Value}{key:Int->Int}{W:aH}{Q:Sl->Sl->aH->Prop}(h:SK W g G)(ok:zI G)(tF:∀e:Int,G.qE e->0<=key e/\key e<G.n)
  (hnode:∀(e:Int) w (K:WQ Value),G.qE e->(∀w',aM w w'->K (aD (key e)) w')->lI prog node [.agg #[aD (G.fr e),aD (G.to e),aD (G.wt e)]] w K)
  (hQ:∀s1 s2 w',ByN w' s1 s2 G.n G.m key->aM W w'->(∀b,s1.b=some b->W.heap.size<=b.block)->(∀b,s2.b=some b->W.heap.size<=b.block)->Ty w' s1->Ty w' s2->Q s1 s2 w'):vH g node W Q:=by
 unfold vH;have hn:=ok.n1;have hm:=ok.m1;have l1:g.1.l=G.n:=h.nd.len;have l2:g.2.1.l=G.m:=h.ed.len;have hkey':∀i:Nat,i<G.m->0<=key (i:Int)/\key (i:Int)<G.n:=λi hi=>tF i ⟨aB,aB⟩;refine bK λw1 o1 k1 z1=>?_;have cs:∀{wx:aH},aM w1 wx->_:=λ{wx} kx=>FW (o1.aK kx id);have wl:aQ ((g.1.l:Int)+(1:Int))=((G.n+1:Nat):Int):=by rw[gM aB aB,l1];rfl
 refine aE (k:=.slice) g.1 (cs (aW.refl _ _)).1 ?_;rw[wl];refine BU iK (aY:=eI) (0:Int) rfl fH aB (oY _) aB aB λw2 v2 k2=>?_;generalize FP:(⟨some ⟨w1.heap.size,0,none⟩,Int.toNat ((G.n+1:Nat):Int),Int.toNat ((G.n+1:Nat):Int)⟩:Sl)=s2 at*;have az:s2.b=some ⟨w1.heap.size,0,none⟩:=by rw[<-FP]
 have s2l:s2.l=G.n+1:=by rw[<-FP];exact kE _
 rw[kE] at v2;have fr2:∀{wx:aH} {F:Nat->Prop} {wy:aH},aM w1 wx->aW F wx wy->(∀k,F k->w1.heap.size<=k)->aM w1 wy:=λkx m hF=>kx.fresh m hF;refine aE (k:=.slice) g.2.1 (cs k2).2.1 ?_;refine bO (λc t w3=>∃(i:Nat) (fs:List Int),i<=G.m/\c=G.m-i/\t=((i:Int),())/\aM w1 w3/\dQ w3 cY 1 eI s2 fs/\VI key G.n i fs) G.m ⟨0,_,iG _,rfl,rfl,k2,v2,VI.start key G.n⟩ ?_;rintro c t w3 ⟨i,fs,hi,rfl,rfl,k3,v3,R⟩ X hX;dsimp only;refine aJ (λcJ=>?_) (λkT=>?_)
 ·have dJ:i<G.m:=aB
  have hE:G.qE (i:Int):=⟨aB,aB⟩;obtain⟨a,ha,hh,_⟩:=(h.aN (k1.tr k3)).jB hE;refine⟨⟨aB,cJ⟩,aA ha (bJ (l:=[.i,.i,.i]) (G.fr i,G.to i,G.wt i,()) hh ?_)⟩;refine fE (vs:=[aD (G.fr i),aD (G.to i),aD (G.wt i)]) jL rfl (by simp[Value.oneCell']) λw5 o5 k5 z5=>?_;refine bJ (l:=[.i,.i,.i]) (G.fr i,G.to i,G.wt i,()) (iM o5) ?_;refine hnode i w5 _ hE λw6 k6=>⟨_,rfl,?_⟩;obtain⟨q0,q1⟩:=tF i hE;obtain⟨v0,hv0⟩:∃v0:Nat,key (i:Int)=(v0:Int):=⟨(key i).toNat,aB⟩;have hv0n:v0<G.n:=aB;have wk:aQ (key (i:Int)+(1:Int))=((v0+1:Nat):Int):=by rw[hv0,gM aB aB];rfl
  rw[wk,kE];have v6:=v3.aK (k5.tr k6) λ_ _=>id;have cV:=R.val v0 hv0n;obtain⟨p,hp,hc⟩:=cF (k:=.i) (e:=λx=>x) (v6.rd fH) cV;have hcb:=jc key i v0;have gH:0<=((v0+1:Nat):Int)/\((v0+1:Nat):Int)<(s2.l:Int):=⟨aB,aB⟩;refine⟨gH,aA hp (aE (k:=.i) (cK key i v0:Int) hc ⟨gH,aA az ?_⟩)⟩;rw[gM (n:=(cK key i v0:Int)+1) aB aB];refine v6.store fH az (i:=v0+1) (by rw[R.len];omega) ((cK key i v0:Int)+1) (v:=aD ((cK key i v0:Int)+1)) rfl cU (EV _) λw7 v7 m7 z7=>?_;rw[qA i aB];exact hX _ _ _ aB ⟨i+1,_,dJ,rfl,rfl,fr2 ((k3.tr k5).tr k6) m7 λk e=>by rw[show k=w1.heap.size from e];exact iT _,v7,R.step hv0n hv0⟩
 have ei:i=G.m:=aB;subst ei;have R2:=R.rows2;clear hX X R kT hi;refine aE (k:=.slice) g.1 (cs k3).1 ?_;refine bO (λc t w3=>∃(j:Nat) (fs:List Int),j<=G.n/\c=G.n-j/\t=((j:Int),())/\aM w1 w3/\dQ w3 cY 1 eI s2 fs/\Gb (cK key G.m) G.n j fs) G.n ⟨0,_,iG _,rfl,rfl,k3,v3,R2⟩ ?_;clear k3 v3 R2 fs;rintro c t w3 ⟨j,fs,hj,rfl,rfl,k3,v3,R⟩ X hX;dsimp only;have oO:=WE hkey';refine aJ (λcJ=>?_) (λkT=>?_)
 ·have uE:j<G.n:=aB
  have d:aM w3 w3.drew:=aW.drew (aW.refl _ w3);have v3':=v3.aK d λ_ _=>id;rw[qA j aB,kE,kE];obtain⟨p,hp,hc⟩:=cF (k:=.i) (e:=λx=>x) (v3'.rd fH) (R.hi j uE (iT _));obtain⟨p',hp',Ua⟩:=cF (k:=.i) (e:=λx=>x) (v3'.rd fH) (R.lo j (iT _));have hcb:=jc key G.m j;have hpb:pV (cK key G.m) j+cK key G.m j<=G.m:=by have:=VO (cK key G.m) uE;omega
  have gH:0<=((j+1:Nat):Int)/\((j+1:Nat):Int)<(s2.l:Int):=⟨aB,aB⟩;refine⟨gH,aA hp (aE (k:=.i) (cK key G.m j:Int) hc ⟨⟨aB,aB⟩,aA hp' (aE (k:=.i) (pV (cK key G.m) j:Int) Ua ⟨gH,aA az ?_⟩)⟩)⟩;rw[gM (n:=(cK key G.m j:Int)+(pV (cK key G.m) j:Int)) aB aB];refine v3'.store fH az (i:=j+1) (by rw[R.len];omega) ((cK key G.m j:Int)+(pV (cK key G.m) j:Int)) (v:=aD ((cK key G.m j:Int)+(pV (cK key G.m) j:Int))) rfl cU (EV _) λw7 v7 m7 z7=>?_;exact hX _ _ _ aB ⟨j+1,_,uE,rfl,rfl,fr2 (k3.tr d) m7 λk e=>by rw[show k=w1.heap.size from e];exact iT _,v7,R.step uE⟩
 have ej:j=G.n:=aB;subst ej;clear hX X kT hj;refine aE (k:=.slice) g.2.1 (cs k3).2.1 ?_;rw[l2];refine BU iK (aY:=eI) (0:Int) rfl fH aB (oY _) aB aB λw4 v4 k4=>?_;simp only[kE] at v4 ⊢;have K4:=k3.tr k4;have v2':=v3.aK k4 λ_ _=>id;refine HE (v2'.rd fH) (by rw[R.len];omega) λs7 w5 v5 k5 f5=>?_;have K5:=K4.tr k5;have z34:w1.heap.size<w3.heap.size:=by
  have:=v3.lt az;exact this
 have hlt4:w3.heap.size<w4.heap.size:=v4.lt rfl;obtain⟨g7,hg7⟩:∃g7,s7.b=some ⟨g7,0,none⟩:=by
  rcases v5.gN with⟨_,h2⟩|⟨g,_,hb,_⟩
  ·have:=v5.cap;have:=v5.len;have:=R.len;omega
  ·exact⟨g,hb⟩
 have g7lo:w4.heap.size<=g7:=f5 _ hg7;refine aE (k:=.slice) g.2.1 (cs K5).2.1 ?_;have R3:=R.rows3;have l7:=v5.len;rw[R.len] at l7;refine bO (λc t w6=>∃(i:Nat) (nx row:List Int),i<=G.m/\c=G.m-i/\t=((i:Int),())/\aM w1 w6/\dQ w6 cY 1 eI s7 nx/\dQ w6 cY 1 eI ⟨some ⟨w3.heap.size,0,none⟩,G.m,G.m⟩ row/\dQ w6 cY 1 eI s2 fs/\Ga key G.n G.m i nx row) G.m
  ⟨0,_,_,iG _,rfl,rfl,K5,v5,v4.aK k5 (λ_ _=>id),v2'.aK k5 (λ_ _=>id),R3⟩ ?_
 clear R3;rintro c t w6 ⟨i,nx,row,hi,rfl,rfl,k6,v7,vr,vs,R3⟩ X hX;dsimp only;refine aJ (λcJ=>?_) (λkT=>?_)
 ·have dJ:i<G.m:=aB
  have hE:G.qE (i:Int):=⟨aB,aB⟩;obtain⟨a,ha,hh,_⟩:=(h.aN (k1.tr k6)).jB hE;refine⟨⟨aB,cJ⟩,aA ha (bJ (l:=[.i,.i,.i]) (G.fr i,G.to i,G.wt i,()) hh ?_)⟩;refine fE (vs:=[aD (G.fr i),aD (G.to i),aD (G.wt i)]) jL rfl (by simp[Value.oneCell']) λw8 o8 k8 z8=>?_;refine bJ (l:=[.i,.i,.i]) (G.fr i,G.to i,G.wt i,()) (iM o8) ?_;refine hnode i w8 _ hE λw9 k9=>⟨_,rfl,?_⟩;obtain⟨q0,q1⟩:=tF i hE;obtain⟨v0,hv0⟩:∃v0:Nat,key (i:Int)=(v0:Int):=⟨(key i).toNat,aB⟩;have hv0n:v0<G.n:=aB;obtain⟨uR,Rn⟩:=R3.step dJ hkey' hv0n hv0;rw[hv0,kE];have k69:=k8.tr k9;have v7':=v7.aK k69 λ_ _=>id;have vr':=vr.aK k69 λ_ _=>id;have vs':=vs.aK k69 λ_ _=>id;have cV:=R3.nv v0 hv0n;generalize hP:pV (cK key G.m) v0+cK key i v0=P at*;obtain⟨p,hp,hc⟩:=cF (k:=.i) (e:=λx=>x) (v7'.rd fH) cV;have gH:0<=(v0:Int)/\(v0:Int)<(s7.l:Int):=⟨aB,aB⟩;refine⟨gH,aA hp (aE (k:=.i) (P:Int) hc ⟨⟨aB,aB⟩,aA rfl ?_⟩)⟩;rw[kE];refine vr'.store fH rfl (i:=P) (by rw[R3.rl];exact uR) (i:Int) (v:=aD (i:Int)) rfl cU (EV _) λeV v10 YC z10=>?_;have yb:aW (λk=>k=w3.heap.size) w9 eV:=YC;have v7'':=v7'.aK yb λb hb e=>by rw[hg7] at hb;cases hb;have e':g7=w3.heap.size:=e;omega
  have vs'':=vs'.aK yb λb hb e=>by rw[az] at hb;cases hb;have e':w1.heap.size=w3.heap.size:=e;omega
  have Bu:=(o8.aK k9 id).aK yb λe=>by have e':w6.heap.size=w3.heap.size:=e;have:=k6.size;have:=vr.lt (a:=⟨w3.heap.size,0,none⟩) rfl;have e'':w3.heap.size<w6.heap.size:=this;omega
  refine bJ (l:=[.i,.i,.i]) (G.fr i,G.to i,G.wt i,()) (iM Bu) ?_;refine hnode i eV _ hE λeE KU=>⟨_,rfl,?_⟩;rw[hv0,kE];have v11:=v7''.aK KU λ_ _=>id;obtain⟨p2,Ky,RP⟩:=cF (k:=.i) (e:=λx=>x) (v11.rd fH) cV;refine⟨gH,aA Ky (aE (k:=.i) (P:Int) RP ⟨gH,aA hg7 ?_⟩)⟩;rw[gM (n:=(P:Int)+1) aB aB];refine v11.store fH hg7 (i:=v0) (by rw[R3.nl];omega) ((P:Int)+1) (v:=aD ((P:Int)+1)) rfl cU (EV _) λeR YA Ad z12=>?_;have fe:aW (λk=>k=g7) eE eR:=Ad;have z14:w1.heap.size<=w3.heap.size:=Nat.le_of_lt z34;have KK:aM w1 eR:=fr2 ((fr2 (k6.tr k69) yb λk e=>by rw[show k=w3.heap.size from e];exact z14).tr KU) fe λk e=>by rw[show k=g7 from e];omega
  rw[qA i aB];refine hX _ _ _ aB ⟨i+1,_,_,dJ,rfl,rfl,KK,YA,(v10.aK KU λ_ _=>id).aK fe λb hb e=>?_,(vs''.aK KU λ_ _=>id).aK fe λb hb e=>?_,Rn⟩
  ·cases hb;have e':w3.heap.size=g7:=e;omega
  ·rw[az] at hb;cases hb;have e':w1.heap.size=g7:=e;omega
 have ei:i=G.m:=aB;subst ei;refine hQ _ _ w6 ⟨fs,row,vs.rd fH,vr.rd fH,R.len,R3.rl,λi hi=>R.lo i hi,λv hv=>R3.done hkey' hv⟩ (k1.tr k6) (λb hb=>?_) (λb hb=>?_) (dQ.Kp vr ⟨by decide,by decide⟩) (dQ.Kp vs ⟨by decide,by decide⟩)
 ·cases hb;show W.heap.size<=w3.heap.size;omega
 ·rw[az] at hb;cases hb;show W.heap.size<=w1.heap.size;omega
theorem CloneN_i{s:Sl}{xs:List (Int×Int)}{w:aH}{Q:Sl->aH->Prop}(hs:Rd w s 2 eP xs)(hb:xs.length<1000000)(hQ:∀s' w',Rd w' s' 2 eP xs->aM w w'->Ty w' s'->Q s' w'):jG s w Q:=by
 unfold jG;refine aF (λh=>?_) (λh=>?_)
 ·have hn:xs=[]:=by
   cases xs with
   |nil=>rfl
   |cons x r=>obtain⟨a,ha,_⟩:=hs.get 0 x rfl;rw[ha] at h;cases h
  subst hn;exact hQ _ w (Rd.nil _ _ _) (aW.refl _ _) Ty.nil
 ·refine bK λw1 o1 k1 z1=>?_
  have v0:dQ w1 ot 2 eP ⟨some ⟨w.heap.size,0,none⟩,0,0⟩ []:=dQ.new US [] o1 dL;refine fN Is US oneP v0 (hs.aK k1 GO (λ_ _=>id)) (by simp;omega) (by simp;omega) λr w' hr hm Kv _=>?_;exact hQ r w' (by simpa using hr.rd US) (aW.fresh k1 hm λk ⟨a,ha,hk⟩=>by cases ha;rw[hk];exact iT _) (dQ.Kp hr ⟨by decide,by decide⟩)
theorem mw{s:Sl}{xs:List (Int×Int)}{w:aH}{Q:Sl->aH->Prop}(hs:Rd w s 2 eP xs)(hb:xs.length<1000000)(hQ:∀s' w',Rd w' s' 2 eP xs->aM w w'->Ty w' s'->Q s' w'):kN s w Q:=by
 unfold kN;refine aF (λh=>?_) (λh=>?_)
 ·have hn:xs=[]:=by
   cases xs with
   |nil=>rfl
   |cons x r=>obtain⟨a,ha,_⟩:=hs.get 0 x rfl;rw[ha] at h;cases h
  subst hn;exact hQ _ w (Rd.nil _ _ _) (aW.refl _ _) Ty.nil
 ·refine bK λw1 o1 k1 z1=>?_
  have v0:dQ w1 tBan 2 eP ⟨some ⟨w.heap.size,0,none⟩,0,0⟩ []:=dQ.new US [] o1 dL;refine fN Oh US oneP v0 (hs.aK k1 GO (λ_ _=>id)) (by simp;omega) (by simp;omega) λr w' hr hm Kv _=>?_;exact hQ r w' (by simpa using hr.rd US) (aW.fresh k1 hm λk ⟨a,ha,hk⟩=>by cases ha;rw[hk];exact iT _) (dQ.Kp hr ⟨by decide,by decide⟩)
theorem CloneE_i{s:Sl}{xs:List R3}{w:aH}{Q:Sl->aH->Prop}(hs:Rd w s 3 cu xs)(hb:xs.length<1000000)(hQ:∀s' w',Rd w' s' 3 cu xs->aM w w'->Ty w' s'->Q s' w'):jH s w Q:=by
 unfold jH;refine aF (λh=>?_) (λh=>?_)
 ·have hn:xs=[]:=by
   cases xs with
   |nil=>rfl
   |cons x r=>obtain⟨a,ha,_⟩:=hs.get 0 x rfl;rw[ha] at h;cases h
  subst hn;exact hQ _ w (Rd.nil _ _ _) (aW.refl _ _) Ty.nil
 ·refine bK λw1 o1 k1 z1=>?_
  have v0:dQ w1 QG 3 cu ⟨some ⟨w.heap.size,0,none⟩,0,0⟩ []:=dQ.new FC [] o1 dL;refine fN Iw FC oneR3 v0 (hs.aK k1 YW (λ_ _=>id)) (by simp;omega) (by simp;omega) λr w' hr hm Kv _=>?_;exact hQ r w' (by simpa using hr.rd FC) (aW.fresh k1 hm λk ⟨a,ha,hk⟩=>by cases ha;rw[hk];exact iT _) (dQ.Kp hr ⟨by decide,by decide⟩)
theorem gNew_i{g:GT}{G:Gr}{W:aH}{Q:cL->Int->aH->Prop}(h:SK W g G)(ok:zI G)(hQ:∀H w',uX w' H G->aM W w'->W.heap.size<=H.g->Q (some ⟨H.g,0,none⟩) 0 w'):EM g W Q:=by
 unfold EM;have hn:=ok.n1;have hm:=ok.m1;have KI:=ok.bl;unfold Gr.n at hn;unfold Gr.m at hm;refine bK λw1 o1 k1 z1=>?_;refine bJ (l:=[.slice,.slice,.slice]) g (GJ (g:=g) o1) ?_;refine gmay_i (g:=g) (h.aN k1) ok λw2 k2=>aF (λh=>by simp at h) (λ_=>?_);have d2:aM w2 w2.drew:=aW.drew (aW.refl _ w2);have KH:=k2.tr d2;have cs:∀{wx:aH},aM w1 wx->_:=λ{wx} kx=>FW (o1.aK kx id);have c2:=cs KH;have h2:=h.aN (k1.tr KH);refine aE (k:=.slice) g.1 c2.1 (aE (k:=.slice) g.2.1 c2.2.1 (aE (k:=.slice) g.2.2.1 c2.2.2 ?_));refine CloneN_i h2.nd aB λs4 w3 r4 k3 t4=>⟨(cs (KH.tr k3)).2.2,(cs (KH.tr k3)).2.1,?_⟩;refine CloneE_i (h2.aN k3).ed aB λs5 w4 r5 k4 t5=>⟨(cs ((KH.tr k3).tr k4)).2.2,?_⟩;refine mw ((h2.aN k3).aN k4).bn aB λs6 w5 r6 k5 t6=>?_;have Dc:=((KH.tr k3).tr k4).tr k5;refine bK λw6 o6 k6 z6=>?_;have Ka:=Dc.tr k6;refine bJ (l:=[.slice,.slice,.slice]) g (GJ (g:=g) (o1.aK Ka id)) ?_;refine rows_i (key:=G.fr) (g:=g) (h.aN (k1.tr Ka)) ok (λe he=>(ok.ed _ (G.TG he)).1) (λe w K _ hK=>?_) λs7 s8 w7 B7 k7 f7 f8 t7 t8=>?_
 ·refine pB Jm iA (gI (ks:=[.agg [.i,.i,.i]]) (t:=((G.fr e,G.to e,G.wt e,()),())) ?_)
  show vM _ _ _;unfold vM;exact bK λwa oa ka _=>aE (k:=.i) (G.fr e) (FW oa).1 (hK wa ka)
 have o7:=o6.aK k7 id;have zz:w1.heap.size<=w5.heap.size:=Dc.size;have lit:∀k,((⟨w5.heap.size,0,none⟩:Addr).add k)=⟨w5.heap.size,k,none⟩:=λk=>by rw[aS,pN]
 rw[lit 3];refine cI (o:=3) (v:=sv s7) o7 oG dL rfl rfl λw8 o8 m8 _=>?_;rw[lit 5];refine cI (o:=5) (v:=sv s8) o8 oG dL rfl rfl λw9 o9 m9 _=>?_;have k79:aM w5 w9:=((k6.tr k7).fresh m8 λk e=>by rw[show k=w5.heap.size from e];exact iT _).fresh m9 λk e=>by rw[show k=w5.heap.size from e];exact iT _
 have k19:=Dc.tr k79;have mK:∀{wx wy:aH},aM w5 wx->aW (λk=>k=w5.heap.size) wx wy->aM w5 wy:=λkx m=>kx.fresh m λk e=>by rw[show k=w5.heap.size from e];exact iT _
 have RL:=o1.aK k19 id;refine bJ (l:=[.slice,.slice,.slice]) g (GJ (g:=g) RL) ?_;refine rows_i (key:=G.to) (g:=g) (h.aN (k1.tr k19)) ok (λe he=>(ok.ed _ (G.TG he)).2.1) (λe w K _ hK=>?_) λs9 Ac eV B10 II f9 f10 t9 t10=>?_
 ·refine pB Jl iA (gI (ks:=[.agg [.i,.i,.i]]) (t:=((G.fr e,G.to e,G.wt e,()),())) ?_)
  show vL _ _ _;unfold vL;exact bK λwa oa ka _=>aE (k:=.i) (G.to e) (FW oa).2.1 (hK wa ka)
 have Bu:=o9.aK II id;rw[lit 4];refine cI (o:=4) (v:=sv s9) Bu oG dL rfl rfl λeE o11 Jx _=>?_;rw[lit 6];refine cI (o:=6) (v:=sv Ac) o11 oG dL rfl rfl λeR Db Ad _=>?_;have fg:aM w5 eR:=mK (mK (k79.tr II) Jx) Ad;have kW:aM W eR:=k1.tr (Dc.tr fg);have nb:∀{wx wy:aH} {row first:Sl} {key:Int->Int},ByN wx row first G.n G.m key->(∀b,row.b=some b->b.block≠w5.heap.size)->(∀b,first.b=some b->b.block≠w5.heap.size)->aW (λk=>k=w5.heap.size) wx wy->ByN wy row first G.n G.m key:=λhB h1 h2 m=>by
  obtain⟨fs,rs,g1,g2,g3⟩:=hB;exact⟨fs,rs,g1.aK m cR λb hb e=>h2 b hb e,g2.aK m cR λb hb e=>h1 b hb e,g3⟩
 have z7:=k7.size;have n7:∀b,s7.b=some b->b.block≠w5.heap.size:=λb hb=>by have:=f7 b hb;omega
 have n8:∀b,s8.b=some b->b.block≠w5.heap.size:=λb hb=>by have:=f8 b hb;omega
 have n9:∀b,s9.b=some b->b.block≠w5.heap.size:=λb hb=>by have:=f9 b hb;omega
 have n10:∀b,Ac.b=some b->b.block≠w5.heap.size:=λb hb=>by have:=f10 b hb;omega
 have b7:=nb (nb (((nb (nb B7 n7 n8 m8) n7 n8 m9)).aN II) n7 n8 Jx) n7 n8 Ad;have b9:=nb (nb B10 n9 n10 Jx) n9 n10 Ad;have hv12:SK eR (s4,s5,s6,()) G:=⟨((r4.aK k4 GO λ_ _=>id).aK k5 GO λ_ _=>id).aK fg GO λ_ _=>id,(r5.aK k5 YW λ_ _=>id).aK fg YW λ_ _=>id,r6.aK fg GO λ_ _=>id⟩;have ty:∀{wx wy:aH} {s:Sl},Ty wx s->(∀b,s.b=some b->b.block≠w5.heap.size)->aW (λk=>k=w5.heap.size) wx wy->Ty wy s:=λh hn m b hb=>by
  obtain⟨t,cs,o,h1⟩:=h b hb;exact⟨t,cs,o.aK m (hn b hb),h1⟩
 have y7:=ty (ty ((ty (ty t7 n7 m8) n7 m9).aN II) n7 Jx) n7 Ad;have y8:=ty (ty ((ty (ty t8 n8 m8) n8 m9).aN II) n8 Jx) n8 Ad;have y9:=ty (ty t9 n9 Jx) n9 Ad;have y10:=ty (ty t10 n10 Jx) n10 Ad;exact hQ ⟨w5.heap.size,(s4,s5,s6,()),s7,s9,s8,Ac⟩ eR ⟨ok,Db,hv12,b7,b9,(t4.aN (k4.tr k5)).aN fg,(t5.aN k5).aN fg,t6.aN fg,y7,y9,y8,y10⟩ kW (by show W.heap.size<=w5.heap.size;omega)
end
section
section
variable{w:aH}{H:Qs}{G:Gr}
theorem Node_i{i:Int}{Q:(Int×Int×Unit)->Bool->aH->Prop}(h:uX w H G)(hi:G.XS i)(hQ:∀w',aM w w'->Q ((G.nd i).1,(G.nd i).2,()) true w'):HW (some ⟨H.g,0,none⟩) i w Q:=by
 unfold HW;refine bK λw1 o1 k1 z1=>?_;refine aJ (λPT=>aB) (λ_=>?_);have h1:=h.aN k1;refine OI h1 ?_;refine aJ (λkT=>aB) (λ_=>?_);refine aA rfl ?_;rw[add_zero];refine aE (k:=.slice) H.v.1 h1.cells.1 ?_;obtain⟨a,ha,hh,_⟩:=Ph h1.val.nd (G.get_nd hi);refine⟨⟨hi.1,by rw[h1.val.nd.len];exact hi.2⟩,aA ha (bJ (l:=[.i,.i]) ((G.nd i).1,(G.nd i).2,()) hh ?_)⟩;refine eO (vs:=[aD (G.nd i).1,aD (G.nd i).2]) o1 OL rfl (by simp[Value.oneCell']) λw3 o3 m3 _=>?_;exact bJ (l:=[.i,.i]) ((G.nd i).1,(G.nd i).2,()) (iM o3) (hQ w3 (k1.fresh m3 λk e=>by rw[show k=w.heap.size from e];exact iT _))
theorem way_i{i:Int}{Q:Int->Int->Bool->aH->Prop}(h:uX w H G)(hi:G.qE i)(hQ:∀w',aM w w'->Q ((G.nd (G.to i)).1-(G.nd (G.fr i)).1) ((G.nd (G.to i)).2-(G.nd (G.fr i)).2) true w'):CQ (some ⟨H.g,0,none⟩) i w Q:=by
 unfold CQ;have ok:=h.ok;have he:=ok.ed _ (G.TG hi);have hf:G.XS (G.fr i):=he.1;have ht:G.XS (G.to i):=he.2.1;have rf:=ok.Qz hf;have rt:=ok.Qz ht;refine JJ h (λ_ w1 k1=>?_) (λhn=>absurd hi hn);refine fE (vs:=[aD (G.fr i),aD (G.to i),aD (G.wt i)]) jL rfl (by simp[Value.oneCell']) λw3 o3 k3 z3=>?_;refine aE (k:=.i) (G.fr i) (FW o3).1 ?_;have h3:=(h.aN k1).aN k3;refine Node_i h3 hf λw4 k4=>?_;refine fE (vs:=[aD (G.nd (G.fr i)).1,aD (G.nd (G.fr i)).2]) OL rfl (by simp[Value.oneCell']) λw6 o6 k6 z6=>?_;refine aE (k:=.i) (G.to i) (FW ((o3.aK k4 id).aK k6 id)).2.1 ?_;refine Node_i ((h3.aN k4).aN k6) ht λw7 k7=>?_;refine fE (vs:=[aD (G.nd (G.to i)).1,aD (G.nd (G.to i)).2]) OL rfl (by simp[Value.oneCell']) λw9 o9 k9 z9=>?_;have d9:aM w9 w9.drew:=aW.drew (aW.refl _ w9);have n9:=Pz (o9.aK d9 id);have n6:=Pz (((o6.aK k7 id).aK k9 id).aK d9 id);refine aE (k:=.i) (G.nd (G.to i)).1 n9.1 (aE (k:=.i) (G.nd (G.fr i)).1 n6.1 (aE (k:=.i) (G.nd (G.to i)).2 n9.2 (aE (k:=.i) (G.nd (G.fr i)).2 n6.2 ?_)));rw[gM (n:=(G.nd (G.to i)).1-(G.nd (G.fr i)).1) aB aB,gM (n:=(G.nd (G.to i)).2-(G.nd (G.fr i)).2) aB aB];exact hQ _ ((((((k1.tr k3).tr k4).tr k6).tr k7).tr k9).tr d9)
end
theorem Mirror_i{k:Int}{w:aH}{Q:Int->aH->Prop}(hk:k=2\/k=3\/k=4)(hQ:Q (k+4) w):xI k w Q:=by
 unfold xI;intro J hJ;have hj:J (true,()) w:=by
  apply hJ;refine aF (λ_=>?_) (λh=>by simp at h);rw[gM (n:=k+4) aB aB];exact hQ
 rcases hk with rfl|rfl|rfl
 ·exact aF (λ_=>hj) (λh=>by simp at h)
 ·exact aF (λh=>by simp at h) (λ_=>aF (λ_=>hj) (λh=>by simp at h))
 ·exact aF (λh=>by simp at h) (λ_=>aF (λh=>by simp at h) (λ_=>hj))
theorem Rf{n:Int}{w:aH}{Q:Bool->aH->Prop}(h:-4095<=n/\n<=4095)(hQ:Q false w):tM n w Q:=by
 unfold tM;refine aJ (λh=>aB) (λ_=>?_);rw[decide_eq_false aB];exact hQ
abbrev eu(n:Int):Prop:=-4095<=n/\n<=4095
theorem Class_i{ax ay bx mM:Int}{w:aH}{Q:Int->aH->Prop}(h1:eu ax)(h2:eu ay)(h3:eu bx)(h4:eu mM)(hQ:Q (yk ax ay bx mM) w):AE ax ay bx mM w Q:=by
 unfold AE;intro J1 KJ;refine Rf h1 (aF (λh=>by simp at h) (λ_=>Rf h2 (aF (λh=>by simp at h) (λ_=>Rf h3 (aF (λh=>by simp at h) (λ_=>Rf h4 (aF (λh=>by simp at h) (λ_=>?_))))))));have sF:¬((ax=0/\ay=0)\/(bx=0/\mM=0))->J1 () w:=by
  intro hn;apply KJ;rw[clsP_eq hn] at hQ;have p1:=Dv h1 h4;have p2:=Dv h2 h3;have p3:=Dv h1 h3;have p4:=Dv h2 h4;have hz:¬(ax*mM-ay*bx=0/\ax*bx+ay*mM=0):=λh=>hn (aAm h.1 h.2);rw[gM (n:=ax*mM) aB aB,gM (n:=ay*bx) aB aB,gM (n:=ax*bx) aB aB,gM (n:=ay*mM) aB aB,
   gM (n:=ax*mM-ay*bx) aB aB,gM (n:=ax*bx+ay*mM) aB aB]
  have q1:-33538050<=ax*mM-ay*bx/\ax*mM-ay*bx<=33538050:=aB;have q2:-33538050<=ax*bx+ay*mM/\ax*bx+ay*mM<=33538050:=aB;clear p1 p2 p3 p4 hn;generalize ax*mM-ay*bx=c at*;generalize ax*bx+ay*mM=d at*;rw[gM (n:=0-c) aB aB,gM (n:=0-d) aB aB];have hm:BR c (0-c)=GC c:=by unfold BR GC;split<;>split<;>omega
  have ha:0<=GC c/\GC c<=33538050:=by unfold GC;split<;>omega
  rw[hm,gM (n:=4*GC c) aB aB];have q:∀v,v=Qn c d->Q v w:=λv hv=>by rw[hv];exact hQ
  intro J2 En;have j2:¬(d>0/\4*GC c<=d)->¬(d<0/\4*GC c<=-d)->J2 () w:=by
   intro n1 n2;apply En;intro J3 hJ3;have hc0:c≠0:=λe=>by
    subst e;have:GC 0=0:=rfl;rw[this] at n1 n2;omega
   have j3:∀k,(k=2\/k=3\/k=4)->(c<0->k+4=Qn c d)->(¬c<0->k=Qn c d)->J3 (k,()) w:=λk hk hl hr=>by
    apply hJ3;exact aJ (λh=>Mirror_i hk (q _ (hl h))) (λh=>q _ (hr h))
   have nF:Qn c d=if c>0/\d>0/\c<=d then 2 else if c>0/\d<0/\c<=-d then 4 else if c>0 then 3 else if d>0/\-c<=d then 6 else if d<0/\-c<=-d then 8 else 7:=by
    unfold Qn;rw[if_neg n1,if_neg n2]
   have e2:∀k:Int,(d>0/\GC c<=d/\k=2)\/(d<0/\GC c<=-d/\k=4)\/(¬(d>0/\GC c<=d)/\¬(d<0/\GC c<=-d)/\k=3)->J3 (k,()) w:=λk hk=>by
    have xh:(c<0/\GC c=-c)\/(c>0/\GC c=c):=by unfold GC;split<;>omega
    refine j3 k aB (λhl=>?_) (λhl=>?_)
    ·rw[nF];(repeat' split)<;>omega
    ·rw[nF];(repeat' split)<;>omega
   refine aJ (λg1=>aJ (λg2=>e2 2 (.inl ⟨g1,g2,rfl⟩)) (λg2=>aJ (λg3=>aB) (λg3=>e2 3 (.inr (.inr ⟨λh=>g2 h.2,λh=>g3 h.1,rfl⟩))))) (λg1=>?_);refine aJ (λg2=>aJ (λg3=>e2 4 (.inr (.inl ⟨g2,aB,rfl⟩))) (λg3=>e2 3 (.inr (.inr ⟨λh=>g1 h.1,λh=>g3 aB,rfl⟩)))) (λg2=>e2 3 (.inr (.inr ⟨λh=>g1 h.1,λh=>g2 h.1,rfl⟩)))
  refine aJ (λg1=>aJ (λg2=>q _ ?_) (λg2=>aJ (λg3=>aB) (λg3=>j2 (λh=>g2 h.2) (λh=>g3 h.1)))) (λg1=>?_)
  ·unfold Qn;rw[if_pos ⟨g1,g2⟩]
  refine aJ (λg2=>aJ (λg3=>q _ ?_) (λg3=>j2 (λh=>g1 h.1) (λh=>g3 aB))) (λg2=>j2 (λh=>g1 h.1) (λh=>g2 h.1));unfold Qn;rw[if_neg (λh=>g1 h.1),if_pos ⟨g2,aB⟩]
 have zero:((ax=0/\ay=0)\/(bx=0/\mM=0))->Q 0 w:=λh=>by
  have:yk ax ay bx mM=0:=by unfold yk;rw[if_pos h]
  rw[this] at hQ;exact hQ
 have tb:¬(ax=0/\ay=0)->cond (bx==0) (cond (mM==0) (Q 0 w) (J1 () w)) (J1 () w):=λhn=>by
  refine aF (λg1=>aF (λg2=>zero (.inr ⟨by simpa using g1,by simpa using g2⟩)) (λg2=>sF λh=>?_)) (λg1=>sF λh=>?_)
  ·rcases h with h|h
   ·exact hn h
   ·rw[h.2] at g2;simp at g2
  ·rcases h with h|h
   ·exact hn h
   ·rw[h.1] at g1;simp at g1
 refine aF (λg1=>aF (λg2=>zero (.inl ⟨by simpa using g1,by simpa using g2⟩)) (λg2=>tb λh=>?_)) (λg1=>tb λh=>?_)
 ·rw[h.2] at g2;simp at g2
 ·rw[h.1] at g1;simp at g1
theorem zI.ra{G:Gr}(ok:zI G){i:Int}(hi:G.qE i):eu ((G.nd (G.to i)).1-(G.nd (G.fr i)).1)/\eu ((G.nd (G.to i)).2-(G.nd (G.fr i)).2):=by
 have he:=ok.ed _ (G.TG hi);have rf:=ok.Qz (show G.XS (G.fr i) from he.1);have rt:=ok.Qz (show G.XS (G.to i) from he.2.1);unfold eu;omega
theorem Of_i{w:aH}{H:Qs}{G:Gr}{a b:Int}{Q:Int->aH->Prop}(h:uX w H G)(ha:G.qE a)(hb:G.qE b)(hQ:∀w',aM w w'->Q (G.bend a b) w'):PL (some ⟨H.g,0,none⟩) a b w Q:=by
 unfold PL;have r1:=zI.ra h.ok ha;have r2:=zI.ra h.ok hb;refine way_i h ha λw1 k1=>way_i (h.aN k1) hb λw2 k2=>?_;refine aF (λh=>by simp at h) (λ_=>aF (λh=>by simp at h) (λ_=>?_));exact Class_i r1.1 r1.2 r2.1 r2.2 (hQ w2 (k1.tr k2))
end
section
abbrev eS(s:Sl):List Value:=[sv s]
theorem lenS:∀s:Sl,(eS s).length=1:=λ_=>rfl
theorem oneS:∀s:Sl,∀u∈eS s,u.oneCell'=true:=by intro s u hu;simp at hu;subst hu;rfl
theorem eS_ne(s:Sl):eS s≠[]:=by simp
def Ri(w:aH)(s:Sl)(dW:List (List Int)):Prop:=∃ss:List Sl,Rd w s 1 eS ss/\ss.length=dW.length/\∀(i:Nat) x r,ss[i]? =some x->dW[i]? =some r->Rd w x 1 eI r
theorem Ri.get{w:aH}{s:Sl}{dW:List (List Int)}(h:Ri w s dW){i:Nat}{r:List Int}(hr:dW[i]? =some r):s.l=dW.length/\∃p x,s.b=some p/\w.cell? (p.add (i*1))=some (sv x)/\Rd w x 1 eI r:=by
 obtain⟨ss,h1,h2,h3⟩:=h;have hi:i<ss.length:=by rw[h2];exact(kU.1 hr).1
 obtain⟨p,hp,hc⟩:=cF (k:=.slice) (e:=λx=>x) h1 (gS hi);exact⟨by rw[h1.len,h2],p,ss[i],hp,hc,h3 i _ r (gS hi) hr⟩
def zK(gs:Nat)(ss:List Sl)(k:Nat):Prop:=k=gs\/∃x∈ss,∃a,x.b=some a/\k=a.block
structure VV(w:aH)(s:Sl)(gs:Nat)(dW:List (List Int))(ss:List Sl):Prop where
 sb:s.b=some ⟨gs,0,none⟩
 v:dQ w BI 1 eS s ss
 len:ss.length=dW.length
 LM:∀(i:Nat) x r,ss[i]? =some x->dW[i]? =some r->dQ w cY 1 eI x r
 Dg:∀(i j:Nat) x y a b,i≠j->ss[i]? =some x->ss[j]? =some y->x.b=some a->y.b=some b->a.block≠b.block
 ne:∀x∈ss,∀a,x.b=some a->a.block≠gs
section
variable{w:aH}{s:Sl}{gs:Nat}{dW:List (List Int)}{ss:List Sl}
theorem VV.aK{F:Nat->Prop}{w':aH}(h:VV w s gs dW ss)(m:aW F w w')(hF:∀k,zK gs ss k->¬F k):VV w' s gs dW ss:=
 ⟨h.sb,h.v.aK m λa ha=>by rw[h.sb] at ha;cases ha;exact hF gs (.inl rfl),h.len,λi x r hx hr=>(h.LM i x r hx hr).aK m λa ha=>hF _ (.inr ⟨x,zH hx,a,ha,rfl⟩),h.Dg,h.ne⟩
theorem VV.lt(h:VV w s gs dW ss){k:Nat}(hk:zK gs ss k):k<w.heap.size:=by
 rcases hk with rfl|⟨x,hx,a,ha,rfl⟩
 ·exact h.v.lt h.sb
 ·obtain⟨i,hi⟩:=oM.1 hx
  have hil:i<dW.length:=by rw[<-h.len];exact(kU.1 hi).1
  exact(h.LM i x _ hi (gS hil)).lt ha
def QQ(w:aH)(s:Sl)(dW:List (List Int)):Prop:=∃ss:List Sl,Rd w s 1 eS ss/\ss.length=dW.length/\(∀(i:Nat) x r,ss[i]? =some x->dW[i]? =some r->Rd w x 1 eI r)/\∀x∈ss,Ty w x
theorem QQ.rd{w:aH}{s:Sl}{dW:List (List Int)}(h:QQ w s dW):Ri w s dW:=by
 obtain⟨ss,h1,h2,h3,_⟩:=h;exact⟨ss,h1,h2,h3⟩
theorem QQ.aN{w w':aH}{s:Sl}{dW:List (List Int)}(h:QQ w s dW)(k:aM w w'):QQ w' s dW:=by
 obtain⟨ss,h1,h2,h3,h4⟩:=h;exact⟨ss,h1.aK k eS_ne λ_ _=>id,h2,λi x r hx hr=>(h3 i x r hx hr).aK k cR λ_ _=>id,λx hx=>(h4 x hx).aN k⟩
theorem VV.rt(h:VV w s gs dW ss):QQ w s dW:=⟨ss,h.v.rd lenS,h.len,λi x r hx hr=>(h.LM i x r hx hr).rd fH,λx hx=>by
 obtain⟨i,hi⟩:=oM.1 hx;have hil:i<dW.length:=by rw[<-h.len];exact(kU.1 hi).1
 exact dQ.Kp (h.LM i x _ hi (gS hil)) ⟨by decide,by decide⟩⟩
theorem VV.start{n g:Nat}(h:dQ w BI 1 eS ⟨some ⟨g,0,none⟩,n,n⟩ (List.replicate n bD)):VV w ⟨some ⟨g,0,none⟩,n,n⟩ g (List.replicate n []) (List.replicate n bD):=by
 have rep:∀{i:Nat} {x:Sl},(List.replicate n (bD:Sl))[i]? =some x->x=bD:=λ{i x} h=>(List.mem_replicate.1 (zH h)).2;refine⟨rfl,h,by simp,λi x r hx hr=>?_,λi j x y a b _ hx _ ha=>?_,λx hx a ha=>?_⟩
 ·rw[rep hx,(List.mem_replicate.1 (zH hr)).2];exact dQ.nil _ _ _ _
 ·rw[rep hx] at ha;cases ha
 ·rw[(List.mem_replicate.1 hx).2] at ha;cases ha
theorem Nr{T f:Nat}{hd:List Value}{i:Nat}{r:List Int}{x:Int}{K:aH->Prop}(hT:cW w T Qv hd)(hf:hd[f]? =some (sv s))(hTn:¬zK gs ss T)(V:VV w s gs dW ss)(hr:dW[i]? =some r)(hl:r.length<1000)
  (hK:∀w' ss',VV w' s gs (dW.set i (r++[x])) ss'->aW (zK gs ss) w w'->(∀k,zK gs ss' k->zK gs ss k\/w.heap.size<=k)->K w'):
  xL .slice w.drew ((⟨T,0,none⟩:Addr).add f) λ(s2:Sl)=>aC (some ⟨T,0,none⟩) λa4=>xL .slice w.drew (a4.add f) λ(s3:Sl)=>(0<=(i:Int)/\(i:Int)<(s3.l:Int))/\aC s3.b λa5=>
   xL .slice w.drew (a5.add (Int.toNat (i:Int)*1)) λ(s4:Sl)=>aG w.drew #[aD x] cY λa6 eV=>eV.cell? (a5.add (Int.toNat (i:Int)*1))=some (Value.slice s4.b s4.l s4.c)/\eV.cell? (a4.add f)=some (Value.slice s3.b s3.l s3.c)/\
   eV.cell? ((⟨T,0,none⟩:Addr).add f)=some (Value.slice s2.b s2.l s2.c)/\aX prog BI BI s4 (Value.slice (some a6) 1 1) eV λ(s5:Sl) eE=>eE.cell? ((⟨T,0,none⟩:Addr).add f)=some (Value.slice s2.b s2.l s2.c)/\(0<=(i:Int)/\(i:Int)<(s2.l:Int))/\
   aC s2.b λa7=>aI prog BI (a7.add (Int.toNat (i:Int)*1)) (Value.slice s5.b s5.l s5.c) eE K:=by
 have d:aM w w.drew:=aW.drew (aW.refl _ w);have V1:=V.aK d λ_ _=>id;have T1:=hT.aK d id;have cT:∀{wx:aH},cW wx T Qv hd->wx.cell? ((⟨T,0,none⟩:Addr).add f)=some (sv s):=λ{wx} h=>by rw[aS,h.cell,pN];exact hf
 have hir:i<dW.length:=(kU.1 hr).1;have his:i<ss.length:=by rw[V.len];exact hir
 have IM:=V.v.len;have cV:=gS his;have fP:=nE his;generalize ss[i]=y at*;obtain⟨p,hp,hc⟩:=cF (k:=.slice) (e:=λx=>x) (V1.v.rd lenS) cV;rw[V.sb] at hp;cases hp;rw[kE];have gH:0<=(i:Int)/\(i:Int)<(s.l:Int):=⟨aB,aB⟩;refine aE (k:=.slice) s (cT T1) (aA rfl (aE (k:=.slice) s (cT T1) ⟨gH,aA V.sb (aE (k:=.slice) y hc ?_)⟩));refine bK λeV Bu II z10=>⟨?_,cT (T1.aK II id),cT (T1.aK II id),?_⟩
 ·exact II.cell hc id
 have V10:=V1.aK II λ_ _=>id;have vy:=V10.LM i y r cV hr;have vx:dQ eV cY 1 eI ⟨some ⟨w.heap.size,0,none⟩,1,1⟩ [x]:=dQ.new fH [x] Bu (by simp[maxLen]);refine fN iK fH EV vy (vx.rd fH) (by simp;omega) (by simp;omega) λs5 eE v11 Jx f11 _=>?_;have nT:∀a,y.b=some a->T≠a.block:=λa ha e=>hTn (.inr ⟨y,fP,a,ha,e⟩);have T11:=(T1.aK II id).aK Jx λ⟨a,ha,e⟩=>nT a ha e;have vs11:=V10.v.aK Jx λa ha ⟨b,hb,e⟩=>by rw[V.sb] at ha;cases ha;exact V.ne y fP b hb e.symm
 refine⟨cT T11,gH,aA V.sb ?_⟩;refine vs11.store lenS V.sb (i:=i) his s5 (v:=sv s5) rfl oG (oneS s5) λeR YA Ad z12=>?_;have fe:aW (λk=>k=gs) eE eR:=Ad;have hz:w.heap.size<eV.heap.size:=by rw[z10];exact Nat.lt_succ_self _
 have hgs:gs<w.heap.size:=V.lt (.inl rfl);have f5:∀b,s5.b=some b->(∃a,y.b=some a/\b.block=a.block)\/w.heap.size<b.block:=λb hb=>by
  rcases f11 with h|⟨b',bW,cJ⟩
  ·exact .inl ⟨b,by rw[<-h];exact hb,rfl⟩
  ·rw[hb] at bW;cases bW;exact .inr aB
 have n5:∀b,s5.b=some b->b.block≠gs:=λb hb e=>by
  rcases f5 b hb with⟨a,ha,h⟩|h
  ·exact V.ne y fP a ha (h.symm.trans e)
  ·omega
 have Py:∀{j:Nat} {z:Sl},(ss.set i s5)[j]? =some z->(j=i/\z=s5)\/(j≠i/\ss[j]? =some z):=λ{j z} h=>by
  rw[vT] at h
  by_cases e:i=j
  ·rw[if_pos e,if_pos aB] at h;cases h;exact .inl ⟨e.symm,rfl⟩
  ·rw[if_neg e] at h;exact .inr ⟨λe'=>e e'.symm,h⟩
 have blt:∀{j:Nat} {z:Sl} {b:Addr},ss[j]? =some z->z.b=some b->b.block<w.heap.size:=λhz hb=>V.lt (.inr ⟨_,zH hz,_,hb,rfl⟩);have m12w:aW (zK gs ss) w eR:=by
  have h1:aW (zK gs ss) w eV:=(d.tr II).wk;have h2:aW (zK gs ss) w eE:=h1.trans Jx λk hk ⟨a,ha,e⟩=>.inr ⟨y,fP,a,ha,e⟩;exact h2.trans fe λk hk e=>.inl e
 refine hK eR (ss.set i s5) ⟨V.sb,YA,by rw[pJ,pJ];exact V.len,λj z q hz hq=>?_,λj l z u a b XT hz hu ha hb=>?_,λz hz a ha=>?_⟩ m12w λk hk=>?_
 ·rcases Py hz with⟨rfl,rfl⟩|⟨CR,hz⟩
  ·rw[vT,if_pos rfl,if_pos hir] at hq
   cases hq;exact v11.aK fe λb hb=>n5 b hb
  ·rw[vT,if_neg (λe=>CR e.symm)] at hq
   refine((V10.LM j z q hz hq).aK Jx λb hb ⟨a,ha,e⟩=>V.Dg j i z y b a CR hz cV hb ha e).aK fe λb hb=>V.ne z (zH hz) b hb
 ·rcases Py hz with⟨e1,e2⟩|⟨CR,hz'⟩<;>rcases Py hu with⟨e3,e4⟩|⟨hli,wh⟩
  ·exact absurd (e1.trans e3.symm) XT
  ·rw[e2] at ha
   rw[e1] at XT;rcases f5 a ha with⟨a',pI,h⟩|h
   ·rw[h];exact V.Dg _ _ _ _ _ _ XT cV wh pI hb
   ·have:=blt wh hb;omega
  ·rw[e4] at hb
   rw[e3] at XT;rcases f5 b hb with⟨a',pI,h⟩|h
   ·rw[h];exact V.Dg _ _ _ _ _ _ XT hz' cV ha pI
   ·have:=blt hz' ha;omega
  ·exact V.Dg _ _ _ _ _ _ XT hz' wh ha hb
 ·obtain⟨j,hj⟩:=oM.1 hz
  rcases Py hj with⟨rfl,rfl⟩|⟨_,hz⟩
  ·exact n5 a ha
  ·exact V.ne z (zH hz) a ha
 ·rcases hk with rfl|⟨z,hz,a,ha,rfl⟩
  ·exact .inl (.inl rfl)
  ·obtain⟨j,hj⟩:=oM.1 hz
   rcases Py hj with⟨rfl,rfl⟩|⟨_,hz⟩
   ·rcases f5 a ha with⟨a',pI,h⟩|h
    ·exact .inl (.inr ⟨y,fP,a',pI,h⟩)
    ·exact .inr (Nat.le_of_lt h)
   ·exact .inl (.inr ⟨z,zH hz,a,ha,rfl⟩)
end
end
section
structure Lo where
 t:Nat
 H:Qs
 nx:Sl
 pv:Sl
def pz(G:Gr):List (List Int):=(List.range G.m).map λi:Nat=>G.kJ (i:Int)
def prevR(G:Gr):List (List Int):=(List.range G.m).map λi:Nat=>G.nX (i:Int)
structure rT(w:aH)(t:Lo)(G:Gr):Prop where
 head:cW w t.t Qv [.pointer (some ⟨t.H.g,0,none⟩),sv t.nx,sv t.pv]
 IJ:uX w t.H G
 RM:QQ w t.nx (pz G)
 prv:QQ w t.pv (prevR G)
 Kp:∀b,t.nx.b=some b\/t.pv.b=some b->∃cs,cW w b.block BI cs
theorem rT.aN{w w':aH}{t:Lo}{G:Gr}(h:rT w t G)(k:aM w w'):rT w' t G:=
 ⟨h.head.aK k id,h.IJ.aN k,h.RM.aN k,h.prv.aN k,λb hb=>by obtain⟨cs,o⟩:=h.Kp b hb;exact⟨cs,o.aK k id⟩⟩
theorem rT.cells{w:aH}{t:Lo}{G:Gr}(h:rT w t G):w.cell? ((⟨t.t,0,none⟩:Addr).add 0)=some (.pointer (some ⟨t.H.g,0,none⟩))/\w.cell? ((⟨t.t,0,none⟩:Addr).add 1)=some (sv t.nx)/\w.cell? ((⟨t.t,0,none⟩:Addr).add 2)=some (sv t.pv):=FW h.head
theorem Dk{α:Type}{w:aH}{e:TypeId}{n:Nat}{aY:α->List Value}{s:Sl}{xs:List α}(h:dQ w e n aY s xs){b:Addr}(hb:s.b=some b):∃cs,cW w b.block e cs:=by
 obtain⟨_,_,_,h4⟩:=h;rcases h4 with⟨h5,_⟩|⟨g,dE,h5,h6,_⟩
 ·rw[hb] at h5;cases h5
 ·rw[hb] at h5;cases h5;exact⟨_,h6⟩
structure xo(W w:aH)(T gn gp hg:Nat)(nx pv:Sl)(rn rp:List (List Int))(UJ UI:List Sl):Prop where
 gN:cW w T Qv [.pointer (some ⟨hg,0,none⟩),sv nx,sv pv]
 vn:VV w nx gn rn UJ
 vp:VV w pv gp rp UI
 Dg:∀k,zK gn UJ k->¬zK gp UI k
 nTn:¬zK gn UJ T
 nTp:¬zK gp UI T
 kp:aM W w
 lown:∀k,zK gn UJ k->W.heap.size<=k
 lowp:∀k,zK gp UI k->W.heap.size<=k
section
variable{W w:aH}{T gn gp hg:Nat}{nx pv:Sl}{rn rp:List (List Int)}{UJ UI:List Sl}
theorem xo.aN{w':aH}(h:xo W w T gn gp hg nx pv rn rp UJ UI)(k:aM w w'):xo W w' T gn gp hg nx pv rn rp UJ UI:=
 ⟨h.gN.aK k id,h.vn.aK k λ_ _=>id,h.vp.aK k λ_ _=>id,h.Dg,h.nTn,h.nTp,h.kp.tr k,h.lown,h.lowp⟩
theorem xo.pushN{w':aH}{rn':List (List Int)}{ssn':List Sl}(h:xo W w T gn gp hg nx pv rn rp UJ UI)(v:VV w' nx gn rn' ssn')(m:aW (zK gn UJ) w w')(f:∀k,zK gn ssn' k->zK gn UJ k\/w.heap.size<=k):
  xo W w' T gn gp hg nx pv rn' rp ssn' UI:=by
 have hT:=h.gN.lt;have hk:=h.kp.size;refine⟨h.gN.aK m h.nTn,v,h.vp.aK m λk hk hn=>h.Dg k hn hk,λk hk hp=>?_,λhh=>?_,h.nTp,h.kp.fresh m h.lown,λk lD=>?_,h.lowp⟩
 ·rcases f k hk with h1|h1
  ·exact h.Dg k h1 hp
  ·have:=h.vp.lt hp;omega
 ·rcases f T hh with h1|h1
  ·exact h.nTn h1
  ·omega
 ·rcases f k lD with h1|h1
  ·exact h.lown k h1
  ·omega
theorem xo.pushP{w':aH}{rp':List (List Int)}{ssp':List Sl}(h:xo W w T gn gp hg nx pv rn rp UJ UI)(v:VV w' pv gp rp' ssp')(m:aW (zK gp UI) w w')(f:∀k,zK gp ssp' k->zK gp UI k\/w.heap.size<=k):
  xo W w' T gn gp hg nx pv rn rp' UJ ssp':=by
 have hT:=h.gN.lt;have hk:=h.kp.size;refine⟨h.gN.aK m h.nTp,h.vn.aK m λk hn hk=>h.Dg k hn hk,v,λk hn hk=>?_,h.nTn,λhh=>?_,h.kp.fresh m h.lowp,h.lown,λk lD=>?_⟩
 ·rcases f k hk with h1|h1
  ·exact h.Dg k hn h1
  ·have:=h.vn.lt hn;omega
 ·rcases f T hh with h1|h1
  ·exact h.nTp h1
  ·omega
 ·rcases f k lD with h1|h1
  ·exact h.lowp k h1
  ·omega
end
def LO(G:Gr)(a:Nat)(q:List Int)(i:Nat):List Int:=if i<a then G.kJ (i:Int) else if i=a then q else []
def KX(G:Gr)(a:Nat)(q:List Int)(b:Nat):List Int:=(nW a).filter (λx=>G.FT x (b:Int))++if(b:Int)∈q then [(a:Int)] else []
def mQ(m:Nat)(f:Nat->List Int):List (List Int):=(List.range m).map f
theorem Gt{m:Nat}{f:Nat->List Int}{i:Nat}(h:i<m):(mQ m f)[i]? =some (f i):=by simp[mQ,h]
theorem qR{m:Nat}{f g:Nat->List Int}(h:∀i,i<m->f i=g i):mQ m f=mQ m g:=List.map_congr_left λi hi=>h i (List.mem_range.1 hi)
theorem Wt{m:Nat}{f:Nat->List Int}{i:Nat}(r:List Int):(mQ m f).set i r=mQ m λj=>if j=i then r else f j:=by
 apply AZ;intro j;rw[vT];unfold mQ
 by_cases e:i=j
 ·subst e
  by_cases hj:i<m<;>simp[hj]
 ·by_cases hj:j<m
  ·have:¬j=i:=λh=>e h.symm
   simp[e,hj,this]
  ·simp[e,hj]
theorem Wu(m:Nat):List.replicate m []=mQ m λ_=>[]:=by
 apply AZ;intro j;unfold mQ
 by_cases hj:j<m<;>simp[hj,Ev]
theorem zq{G:Gr}{a:Int}(ha:G.qE a):(G.Uu (G.to a)).filter (λb=>!decide ((a,b)∈G.B))=G.kJ a:=by
 unfold Gr.Uu Gr.kJ;rw[List.filter_filter];refine List.filter_congr λb hb=>?_;have bW:=CF.1 hb;unfold Gr.FT;rw[decide_eq_true ha,decide_eq_true (show G.qE b from bW)];simp only[Bool.true_and]
 by_cases e:G.fr b=G.to a
 ·simp[e]
 ·have e':¬G.to a=G.fr b:=λh=>e h.symm
  simp[e,e']
theorem TNew_i{W:aH}{H:Qs}{G:Gr}{Q:cL->aH->Prop}(h:uX W H G)(hQ:∀t w',rT w' t G->t.H=H->aM W w'->Q (some ⟨t.t,0,none⟩) w'):EG (some ⟨H.g,0,none⟩) W Q:=by
 unfold EG;have hm:=h.ok.m1;refine aF (λh=>by simp at h) (λ_=>sT h ?_);have d:aM W W.drew:=aW.drew (aW.refl _ W);intro J hJ;have sF:∀w2 T gn gp nx pv UJ UI,xo W w2 T gn gp H.g nx pv (List.replicate G.m []) (List.replicate G.m []) UJ UI->J (some ⟨T,0,none⟩,()) w2:=by
  intro w2 T gn gp nx pv UJ UI st;apply hJ;dsimp only;have e1:(List.replicate G.m ([]:List Int))=mQ G.m (LO G 0 []):=by
   rw[Wu];exact qR λi _=>by unfold LO;rw[if_neg aB];split<;>rfl
  have e2:(List.replicate G.m ([]:List Int))=mQ G.m (KX G 0 []):=by
   rw[Wu];exact qR λi _=>by simp[KX,nW]
  have st0:xo W w2 T gn gp H.g nx pv (mQ G.m (LO G 0 [])) (mQ G.m (KX G 0 [])) UJ UI:=by rw[<-e1,<-e2];exact st
  clear e1 e2 st;refine bO (λc t w3=>∃(a:Nat) (UJ UI:List Sl),a<=G.m/\c=G.m-a/\t=((a:Int),())/\xo W w3 T gn gp H.g nx pv (mQ G.m (LO G a [])) (mQ G.m (KX G a [])) UJ UI) G.m ⟨0,UJ,UI,iG _,rfl,rfl,st0⟩ ?_;clear st0 UJ UI;rintro c t w3 ⟨a,UJ,UI,ha,rfl,rfl,st⟩ X hX;dsimp only;refine aJ (λcJ=>?_) (λkT=>?_)
  ·have pI:a<G.m:=aB
   have hE:G.qE (a:Int):=⟨aB,aB⟩;refine JJ (h.aN st.kp) (λ_ w4 k4=>?_) (λhn=>absurd hE hn);refine fE (vs:=[aD (G.fr a),aD (G.to a),aD (G.wt a)]) jL rfl (by simp[Value.oneCell']) λw6 o6 k6 z6=>?_;refine aE (k:=.i) (G.to a) (FW o6).2.1 ?_;have UH:=(st.aN k4).aN k6;refine gOut_i (h.aN UH.kp) λs1 w7 v7 k7 f7=>?_;have XR:=UH.aN k7;have fU:(G.Uu (G.to a)).length<=G.m:=by
    have:=vW (λe=>decide (G.fr e=G.to a)) (nW G.m);rw[vC] at this;exact this
   have hon:=zq hE;have IP:∀b∈G.Uu (G.to a),G.qE b:=λb hb=>CF.1 (jE.1 hb).1;have bq:(G.Uu (G.to a)).Pairwise λx y=>x<y:=RU _ (Ru G.m);generalize G.Uu (G.to a)=rW at*;have l1:=v7.len;refine bO (λc t w8=>∃(j:Nat) (UJ UI:List Sl),j<=rW.length/\c=rW.length-j/\t=((j:Int),())/\(∀b,s1.b=some b->¬zK gn UJ b.block/\¬zK gp UI b.block)/\dQ w8 cY 1 eI s1 rW/\
     xo W w8 T gn gp H.g nx pv (mQ G.m (LO G a ((rW.take j).filter λb=>!decide (((a:Int),b)∈G.B)))) (mQ G.m (KX G a ((rW.take j).filter λb=>!decide (((a:Int),b)∈G.B)))) UJ UI) rW.length
    ⟨0,UJ,UI,iG _,rfl,rfl,λb hb=>⟨λhk=>?_,λhk=>?_⟩,v7,by simpa using XR⟩ ?_
   ·have:=UH.vn.lt hk;have:=f7 b hb;omega
   ·have:=UH.vp.lt hk;have:=f7 b hb;omega
   clear st UH XR v7 f7 k7 o6 k6 z6 k4 UJ UI;rintro c t w8 ⟨j,UJ,UI,hj,rfl,rfl,tO,v8,st⟩ Y hY;dsimp only;refine aJ (λGA=>?_) (λhge'=>?_)
   ·have uE:j<rW.length:=aB
    have cV:=gS uE;have hbE:=IP _ (nE uE);have rV:rW.take (j+1)=rW.take j++[rW[j]]:=FQ uE;have Qf:rW[j]∉rW.take j:=λhm=>by
     obtain⟨i,hi⟩:=oM.1 hm;have hil:=(kU.1 hi).1;rw[pW] at hil;rw[UR aB] at hi;have:=Qc.1 bq i j aB uE aB;rw[(kU.1 hi).2] at this;omega
    generalize rW[j]=b at*;obtain⟨p,hp,hc⟩:=cF (k:=.i) (e:=λx=>x) (v8.rd fH) cV;rw[kE];refine⟨⟨aB,GA⟩,aA hp (aE (k:=.i) b hc ?_)⟩;refine Yf (h.aN st.kp) λw9 k9=>?_;have st9:=st.aN k9;rw[qA j aB];refine aF (λhb=>?_) (λhb=>?_)
    ·have bW:(!decide (((a:Int),b)∈G.B))=true:=hb
     have QE:(rW.take (j+1)).filter (λb=>!decide (((a:Int),b)∈G.B))=(rW.take j).filter (λb=>!decide (((a:Int),b)∈G.B))++[b]:=by
      rw[rV,IT];simp[bW]
     have hql:((rW.take j).filter λb=>!decide (((a:Int),b)∈G.B)).length<=51:=by
      have:=vW (λb=>!decide (((a:Int),b)∈G.B)) (rW.take j);rw[pW] at this;omega
     have hqn:b∉(rW.take j).filter (λb=>!decide (((a:Int),b)∈G.B)):=λhm=>Qf (jE.1 hm).1;generalize (rW.take j).filter (λb=>!decide (((a:Int),b)∈G.B))=q at*;refine aA rfl ?_;refine Nr (f:=1) (r:=LO G a q a) (x:=b) st9.gN rfl st9.nTn st9.vn (Gt pI) (by unfold LO;rw[if_neg aB,if_pos rfl];omega) λeR ssn' YA Ad f12=>?_;have eh:=st9.pushN YA Ad f12;obtain⟨bn,rfl⟩:∃bn:Nat,b=(bn:Int):=⟨b.toNat,by have:=hbE.1;omega⟩;have hbn:bn<G.m:=by have:=hbE.2;omega
     have hpl:(KX G a q bn).length<1000:=by
      have:=vW (λx=>G.FT x (bn:Int)) (nW a);rw[vC] at this;unfold KX;rw[mL]
      split<;>simp<;>omega
     refine aA rfl ?_;refine Nr (f:=2) (r:=KX G a q bn) (x:=(a:Int)) eh.gN rfl eh.nTp eh.vp (Gt hbn) hpl λfO ssp' v15 Ej f15=>?_;have st15:=eh.pushP v15 Ej f15;have h9:=k9.size;have Bx:=Ad.size;refine hY (rW.length-(j+1)) _ _ aB ⟨j+1,ssn',ssp',uE,rfl,rfl,λb' bW=>⟨λhk=>?_,λhk=>?_⟩,((v8.aK k9 λ_ _=>id).aK Ad λb' bW=>(tO b' bW).1).aK Ej λb' bW=>(tO b' bW).2,?_⟩
     ·rcases f12 _ hk with h1|h1
      ·exact(tO b' bW).1 h1
      ·have:=v8.lt bW;omega
     ·rcases f15 _ hk with h1|h1
      ·exact(tO b' bW).2 h1
      ·have:=v8.lt bW;omega
     ·rw[QE]
      have e1:(mQ G.m (LO G a q)).set a (LO G a q a++[(bn:Int)])=mQ G.m (LO G a (q++[(bn:Int)])):=by
       rw[Wt];refine qR λi _=>?_
       by_cases e:i=a
       ·subst e;simp[LO]
       ·rw[if_neg e];unfold LO;simp[e]
      have e2:(mQ G.m (KX G a q)).set bn (KX G a q bn++[(a:Int)])=mQ G.m (KX G a (q++[(bn:Int)])):=by
       rw[Wt];refine qR λi _=>?_
       by_cases e:i=bn
       ·subst e;simp[KX,hqn]
       ·have e':¬((i:Int)=(bn:Int)):=aB
        rw[if_neg e];unfold KX;simp[e']
      rw[<-e1,<-e2];exact st15
    ·have bW:(!decide (((a:Int),b)∈G.B))=false:=hb
     have QE:(rW.take (j+1)).filter (λb=>!decide (((a:Int),b)∈G.B))=(rW.take j).filter (λb=>!decide (((a:Int),b)∈G.B)):=by
      rw[rV,IT];simp at bW;simp[bW]
     refine hY (rW.length-(j+1)) _ _ aB ⟨j+1,UJ,UI,uE,rfl,rfl,tO,v8.aK k9 λ_ _=>id,by rw[QE];exact st9⟩
   ·have ej:j=rW.length:=aB
    subst ej;rw[oZ,hon] at st;rw[qA a aB];refine hX _ _ _ aB ⟨a+1,UJ,UI,pI,rfl,rfl,?_⟩;have e1:mQ G.m (LO G a (G.kJ a))=mQ G.m (LO G (a+1) []):=qR λi _=>by
     unfold LO
     by_cases h1:i<a
     ·rw[if_pos h1,if_pos aB]
     ·by_cases h2:i=a
      ·subst h2;rw[if_neg h1,if_pos rfl,if_pos aB]
      ·rw[if_neg h1,if_neg h2,if_neg aB];split<;>rfl
    have e2:mQ G.m (KX G a (G.kJ a))=mQ G.m (KX G (a+1) []):=qR λi _=>by
     unfold KX;rw[HI,IT];simp only[G.CE,List.not_mem_nil,if_false,tD];congr 1
     by_cases e:G.FT (a:Int) (i:Int)=true<;>simp[e]
    rw[<-e1,<-e2];exact st
  ·have ea:a=G.m:=aB
   subst ea;refine hQ ⟨T,H,nx,pv⟩ w3 ⟨st.gN,h.aN st.kp,?_,?_,λb hb=>hb.elim (Dk st.vn.v) (Dk st.vp.v)⟩ rfl st.kp
   ·have e:pz G=mQ G.m (LO G G.m []):=qR λi hi=>by unfold LO;rw[if_pos hi]
    rw[e];exact st.vn.rt
   ·have e:prevR G=mQ G.m (KX G G.m []):=qR λi hi=>by unfold KX Gr.nX;simp
    rw[e];exact st.vp.rt
 have mk2:∀w1 (K:WQ Sl),(∀w2,dQ w2 BI 1 eS ⟨some ⟨w1.heap.size,0,none⟩,G.m,G.m⟩ (List.replicate G.m bD)->aM w1 w2->K ⟨some ⟨w1.heap.size,0,none⟩,G.m,G.m⟩ w2)->fM prog tssInt (aD (G.m:Int)) (aD (G.m:Int)) w1 K:=λw1 K hK=>by
  refine BU kr (aY:=eS) (bD:Sl) rfl lenS aB (oY _) aB aB λw2 v2 k2=>?_;simp only[kE] at v2 ⊢;exact hK w2 v2 k2
 have dF:∀{g k:Nat},zK g (List.replicate G.m bD) k->k=g:=λ{g k} hk=>by
  rcases hk with h1|⟨x,hx,a,ha,_⟩
  ·exact h1
  ·rw[(List.mem_replicate.1 hx).2] at ha;cases ha
 have dz:W.heap.size<=W.drew.heap.size:=d.size;refine⟨mk2 _ _ λgR v16 Ka=>mk2 _ _ λiZ v17 Jz=>bK λlE o18 Tt z18=>?_,mk2 _ _ λgR v16 Ka=>mk2 _ _ λiZ v17 Jz=>bK λlE o18 Tt z18=>?_⟩
 all_goals
  have l16:W.drew.heap.size<gR.heap.size:=v16.lt rfl;have l17:gR.heap.size<iZ.heap.size:=v17.lt rfl;have V16:=VV.start ((v16.aK Jz λ_ _=>id).aK Tt λ_ _=>id);have V17:=VV.start (v17.aK Tt λ_ _=>id);have KK:=((d.tr Ka).tr Jz).tr Tt
 ·exact sF lE iZ.heap.size W.drew.heap.size gR.heap.size _ _ _ _ ⟨o18,V16,V17,λk h1 h2=>by have:=dF h1;have:=dF h2;omega,λh1=>by have:=dF h1;omega,λh1=>by have:=dF h1;omega,KK,λk h1=>by have:=dF h1;omega,λk h1=>by have:=dF h1;omega⟩
 ·exact sF lE iZ.heap.size gR.heap.size W.drew.heap.size _ _ _ _ ⟨o18,V17,V16,λk h1 h2=>by have:=dF h1;have:=dF h2;omega,λh1=>by have:=dF h1;omega,λh1=>by have:=dF h1;omega,KK,λk h1=>by have:=dF h1;omega,λk h1=>by have:=dF h1;omega⟩
end
section
theorem some_i{l:Sl}{m:Nat}{f:Nat->List Int}{e:Int}{w:aH}{Q:Sl->aH->Prop}(h:Ri w l (mQ m f))(hm:m<=51)(hf:∀i,i<m->(f i).length<=1000)
  (hQ:∀s w' r,(¬(0<=e/\e<m)->r=[])->(0<=e/\e<m->r=f e.toNat)->dQ w' cY 1 eI s r->aM w w'->(∀b,s.b=some b->w.heap.size<=b.block)->Q s w'):vE l e w Q:=by
 unfold vE;have hl:l.l=m:=by
  obtain⟨ss,h1,h2,_⟩:=h;rw[h1.len,h2];simp[mQ]
 have nil:¬(0<=e/\e<m)->Q bD w:=λhn=>hQ _ w [] (λ_=>rfl) (λh=>absurd h hn) (dQ.nil _ _ _ _) (aW.refl _ _) λb hb=>by cases hb
 refine aJ (λh=>nil λhn=>aB) (λh0=>aJ (λh=>nil λhn=>aB) (λh1=>?_));have he:0<=e/\e<m:=⟨aB,aB⟩;have hi:e.toNat<m:=aB;obtain⟨_,p,x,hp,hc,hr⟩:=h.get (Gt hi);refine⟨⟨he.1,aB⟩,aA hp (aE (k:=.slice) x hc ?_)⟩;refine fN iK fH EV (dQ.nil w cY 1 eI) hr (by have:=hf _ hi;simp;omega) (by have:=hf _ hi;simp;omega) λr w' hv hm hb _=>?_;refine hQ r w' (f e.toNat) (λh=>absurd he h) (λ_=>rfl) (by simpa using hv) ((aW.refl _ w).fresh hm λk ⟨a,ha,_⟩=>by cases ha) λb bW=>?_;rcases hb with h1|⟨a,ha,cJ⟩
 ·rw[bW] at h1;cases h1
 ·rw[bW] at ha;cases ha;exact cJ
section
variable{w:aH}{t:Lo}{G:Gr}
theorem Next_i{e:Int}{Q:Sl->aH->Prop}(h:rT w t G)(hQ:∀s w',dQ w' cY 1 eI s (G.kJ e)->aM w w'->(∀b,s.b=some b->w.heap.size<=b.block)->Q s w'):HM (some ⟨t.t,0,none⟩) e w Q:=by
 unfold HM;refine aF (λh=>by simp at h) (λ_=>aA rfl (aE (k:=.slice) t.nx h.cells.2.1 ?_));refine some_i (f:=λi:Nat=>G.kJ (i:Int)) h.RM.rd h.IJ.ok.m1.2 (λi _=>by have:=G.MU (i:Int);have:=h.IJ.ok.m1;omega) λs w' r h1 h2 v k f=>?_;have e1:r=G.kJ e:=by
  by_cases he:0<=e/\e<G.m
  ·rw[h2 he];show G.kJ (e.toNat:Int)=_;rw[Int.toNat_of_nonneg he.1]
  ·rw[h1 he]
   symm
   unfold Gr.kJ;rw[List.filter_eq_nil_iff]
   exactλb _ hb=>he (G.iI.1 hb).1
 rw[e1] at v;exact hQ s w' v k f
theorem Prev_i{e:Int}{Q:Sl->aH->Prop}(h:rT w t G)(hQ:∀s w',dQ w' cY 1 eI s (G.nX e)->aM w w'->(∀b,s.b=some b->w.heap.size<=b.block)->Q s w'):PB (some ⟨t.t,0,none⟩) e w Q:=by
 unfold PB;refine aF (λh=>by simp at h) (λ_=>aA rfl (aE (k:=.slice) t.pv h.cells.2.2 ?_));refine some_i (f:=λi:Nat=>G.nX (i:Int)) h.prv.rd h.IJ.ok.m1.2 (λi _=>by have:=G.Ww (i:Int);have:=h.IJ.ok.m1;omega) λs w' r h1 h2 v k f=>?_;have e1:r=G.nX e:=by
  by_cases he:0<=e/\e<G.m
  ·rw[h2 he];show G.nX (e.toNat:Int)=_;rw[Int.toNat_of_nonneg he.1]
  ·rw[h1 he]
   symm
   unfold Gr.nX;rw[List.filter_eq_nil_iff]
   exactλb _ hb=>he (G.iI.1 hb).2.1
 rw[e1] at v;exact hQ s w' v k f
theorem JM{i:Int}{K:Addr->aH->Prop}(h:rT w t G)(hi:G.qE i)(hK:∀a w',w'.cell? (a.add 2)=some (aD (G.wt i))->aM w w'->w.heap.size<=a.block->K a w'):
  iY (some ⟨t.H.g,0,none⟩) i w λ(t2:Int×Int×Int×Unit) (_:Bool) w2=>aG w2 #[aD 0,aD 0,aD 0] QG λa3 w3=>
   aI prog QG a3 (Value.agg #[(aD t2.1),(aD t2.2.1),(aD t2.2.2.1)]) w3 λw4=>K a3 w4:=by
 refine JJ h.IJ (λ_ w2 k2=>?_) (λhn=>absurd hi hn);refine fE (vs:=[aD (G.fr i),aD (G.to i),aD (G.wt i)]) jL rfl (by simp[Value.oneCell']) λw4 o4 k4 z4=>?_;exact hK _ w4 (FW o4).2.2 (k2.tr k4) k2.size
theorem Xt{es:Sl}{l:List Int}{Q:Int->Bool->aH->Prop}(h:rT w t G)(hr:Rd w es 1 eI l)(hl:l.length<=100000)(hE:∀x∈l,G.qE x)(hQ:∀w',aM w w'->Q (G.oX l) true w'):pR (some ⟨t.t,0,none⟩) es w Q:=by
 unfold pR;have hll:=hr.len;have gH:∀i,i<=l.length->0<=G.oX (l.take i)/\G.oX (l.take i)<=40*i:=λi=>by
  induction i with
  |zero=>intro _;simp[Gr.oX]
  |succ i ih=>
   intro hi;have:=ih aB;rw[FQ (show i<l.length by omega)];have hw:=h.IJ.ok.w1 (hE _ (nE (show i<l.length by omega)));unfold Gr.oX at this ⊢;rw[yS,List.sum_append];simp only[List.map_cons,List.map_nil,List.sum_cons,List.sum_nil];omega
 refine bO (λc s w1=>∃i:Nat,i<=l.length/\c=l.length-i/\s=(G.oX (l.take i),(i:Int),())/\aM w w1) l.length ⟨0,iG _,rfl,rfl,aW.refl _ _⟩ ?_;rintro c s w1 ⟨i,hi,rfl,rfl,k1⟩ X hX;dsimp only;refine aJ (λcJ=>?_) (λkT=>?_)
 ·have dJ:i<l.length:=aB
  have cV:=gS dJ;have hEi:=hE _ (nE dJ);have rV:=FQ dJ;have hb:=gH i aB;have hw:=h.IJ.ok.w1 hEi;generalize l[i]=x at*;obtain⟨p,hp,hc⟩:=cF (k:=.i) (e:=λx=>x) (hr.aK k1 cR λ_ _=>id) cV;rw[kE];have h1:=h.aN k1;refine⟨⟨aB,cJ⟩,aA hp (aE (k:=.i) x hc (aF (λh=>by simp at h) (λ_=>aA rfl (aE (k:=.ptr) (some ⟨t.H.g,0,none⟩) h1.cells.1 ?_))))⟩;refine JJ h1.IJ (λ_ w2 k2=>?_) (λhn=>absurd hEi hn);refine fE (vs:=[aD (G.fr x),aD (G.to x),aD (G.wt x)]) jL rfl (by simp[Value.oneCell']) λw4 o4 k4 z4=>?_;refine aF (λh=>by simp at h) (λ_=>aE (k:=.i) (G.wt x) (FW o4).2.2 ?_);rw[qA i aB,gM (n:=G.oX (l.take i)+G.wt x) aB aB];refine hX _ _ _ aB ⟨i+1,dJ,rfl,?_,(k1.tr k2).tr k4⟩;rw[rV];unfold Gr.oX;simp
 ·have:i=l.length:=aB
  subst this;rw[oZ];exact hQ w1 k1
theorem Arcs_i{Q:Sl->aH->Prop}(h:rT w t G)(hQ:∀s w',dQ w' iR 4 eC s G.JA->aM w w'->(∀b,s.b=some b->w.heap.size<=b.block)->Q s w'):PC (some ⟨t.t,0,none⟩) w Q:=by
 unfold PC;have hm:=h.IJ.ok.m1;refine aF (λh=>by simp at h) (λ_=>aA rfl (aE (k:=.slice) t.nx h.cells.2.1 ?_));have hnl:t.nx.l=G.m:=by
  obtain⟨ss,h1,h2,_⟩:=h.RM.rd;rw[h1.len,h2];simp[pz]
 generalize hg:(λa:Int=>(G.kJ a).map λb=>(⟨a,b,G.wt b,-1⟩:bQ))=g at*;have hG:G.JA=(nW G.m).flatMap g:=by rw[<-hg];rfl
 have pre:∀a:Nat,a<=G.m->((nW a).flatMap g).length<=2601:=λa ha=>by
  have:=WK g 51 (nW a) λx _=>by rw[<-hg];simp only[oL];have:=G.MU x;omega
  rw[vC] at this;have h2:a*51<=51*51:=RV _ aB;omega
 refine bO (λc s w1=>∃(a:Nat) (o:Sl),a<=G.m/\c=G.m-a/\s=(o,(a:Int),())/\aM w w1/\dQ w1 iR 4 eC o ((nW a).flatMap g)/\(∀b,o.b=some b->w.heap.size<=b.block)) G.m
  ⟨0,bD,iG _,rfl,rfl,aW.refl _ _,dQ.nil _ _ _ _,λb hb=>by cases hb⟩ ?_
 rintro c s w1 ⟨a,o,ha,rfl,rfl,k1,v1,f1⟩ X hX;dsimp only;refine aJ (λcJ=>?_) (λkT=>?_)
 ·have pI:a<G.m:=aB
  obtain⟨_,p,x,hp,hc,hr⟩:=h.RM.rd.get (i:=a) (r:=G.kJ (a:Int)) (by simp[pz,pI]);rw[kE];refine⟨⟨aB,cJ⟩,aA hp (aE (k:=.slice) x (k1.cell hc id) ?_)⟩;have hnx:=G.MU (a:Int);have hnE:∀b∈G.kJ (a:Int),G.qE b:=λb hb=>(G.iI.1 (G.CE.1 hb)).2.1;have hga:g (a:Int)=(G.kJ (a:Int)).map λb=>(⟨(a:Int),b,G.wt b,-1⟩:bQ):=by rw[<-hg]
  generalize G.kJ (a:Int)=l at*;have Ae:=hr.len;have hp1:=pre a aB;refine bO (λc s w2=>∃(j:Nat) (o:Sl),j<=l.length/\c=l.length-j/\s=(o,(j:Int),())/\aM w w2/\dQ w2 iR 4 eC o ((nW a).flatMap g++(l.take j).map λb=>(⟨(a:Int),b,G.wt b,-1⟩:bQ))/\(∀b,o.b=some b->w.heap.size<=b.block)) l.length
   ⟨0,o,iG _,rfl,rfl,k1,by simpa using v1,f1⟩ ?_
  clear v1 f1 k1;rintro c s w2 ⟨j,o,hj,rfl,rfl,k2,v2,f2⟩ Y hY;dsimp only;refine aJ (λRY=>?_) (λUz=>?_)
  ·have uE:j<l.length:=aB
   have cV:=gS uE;have hEj:=hnE _ (nE uE);have rV:=FQ uE;generalize l[j]=b at*;obtain⟨q,hq,hcq⟩:=cF (k:=.i) (e:=λx=>x) (hr.aK k2 cR λ_ _=>id) cV;rw[kE];have h2:=h.aN k2;refine⟨⟨aB,RY⟩,aA hq (aE (k:=.i) b hcq (aA rfl (aE (k:=.ptr) (some ⟨t.H.g,0,none⟩) h2.cells.1 ?_)))⟩;refine JM h2 hEj λad w5 hc5 k5 hb5=>?_;refine aE (k:=.i) (G.wt b) hc5 ?_;refine bK λw6 o6 k6 z6=>?_;have v6:=(v2.aK k5 λ_ _=>id).aK k6 λ_ _=>id;have vx:dQ w6 iR 4 eC ⟨some ⟨w5.heap.size,0,none⟩,1,1⟩ [(⟨(a:Int),b,G.wt b,-1⟩:bQ)]:=dQ.new kI [_] o6 (by simp[maxLen]);have h56:=k5.tr k6;have hz5:=k5.size;have hz2:=k2.size;have fU:((nW a).flatMap g++(l.take j).map λb=>(⟨(a:Int),b,G.wt b,-1⟩:bQ)).length<=3000:=by rw[mL,oL,pW];omega
   refine fN kK kI Eu v6 (vx.rd kI) (by show _+1<=_;omega) (by show(_+1)*32<=_;omega) λr w7 v7 m7 f7 _=>?_;have K7:aM w w7:=(k2.tr h56).fresh m7 λk ⟨b',bW,e⟩=>by rw[e];exact f2 b' bW
   rw[qA j aB];refine hY _ _ _ aB ⟨j+1,r,uE,rfl,rfl,K7,?_,λb' bW=>?_⟩
   ·rw[rV,yS,<-sD];exact v7
   ·rcases f7 with h1|⟨a',pI,GA⟩
    ·exact f2 b' (by rw[<-h1];exact bW)
    ·rw[bW] at pI;cases pI;omega
  ·have ej:j=l.length:=aB
   subst ej;rw[oZ,<-hga] at v2;rw[qA a aB];exact hX _ _ _ aB ⟨a+1,o,pI,rfl,rfl,k2,by rw[HI,IU];simpa using v2,f2⟩
 ·have:a=G.m:=aB
  subst this;exact hQ o w1 (by rw[hG];exact v1) k1 f1
end
end
section
abbrev eH(h:QT):List Value:=[aD h.cls,aD h.jB,aD h.rZ,aD h.left]
abbrev Ql(h:QT):Int×Int×Int×Int×Unit:=(h.cls,h.jB,h.rZ,h.left,())
theorem oneH(h:QT):∀u∈eH h,u.oneCell'=true:=by intro u hu;simp at hu;rcases hu with rfl|rfl|rfl|rfl<;>rfl
theorem Mz{w:aH}{b:Nat}{e:TypeId}{h:QT}(o:cW w b e (eH h)):bY w ⟨b,0,none⟩ 0 (qH [.i,.i,.i,.i] (Ql h)):=iM o
theorem Wo{G:Gr}:∀{l:List Int} {a:Int},G.BH a l=true->∀x∈l,G.qE x
 | [],_,_,_,hx=>by cases hx
 |y::l,a,h,x,hx=>by
  simp only[Gr.BH,tE] at h;rcases lL.1 hx with rfl|hx
  ·exact(Gr.iI.1 h.1).2.1
  ·exact Wo h.2 x hx
theorem wsum_rng{G:Gr}(ok:zI G){l:List Int}(hE:∀x∈l,G.qE x):0<=G.oX l/\G.oX l<=40*l.length:=by
 induction l with
 |nil=>simp[Gr.oX]
 |cons x l ih=>
  have h1:=ih λy hy=>hE y (by simp[hy]);have h2:=ok.w1 (hE x dL);rw[Gr.Ni];simp only[nU];omega
theorem yq{G:Gr}{l:List Int}{i:Nat}{x:Int}(h:l[i]? =some x):G.oX (l.take (i+1))=G.oX (l.take i)+G.wt x:=by
 obtain⟨hi,hx⟩:=kU.1 h;rw[FQ hi,hx];unfold Gr.oX;rw[yS,List.sum_append];simp
section
variable{w:aH}{t:Lo}{G:Gr}
theorem May_i{a b:Int}{Q:Bool->aH->Prop}(h:rT w t G)(ht:G.FT a b=true)(hQ:∀w',aM w w'->Q true w'):WO (some ⟨t.t,0,none⟩) a b w Q:=by
 unfold WO;obtain⟨ha,hb,xh,hn⟩:=Gr.iI.1 ht;refine aF (λh=>by simp at h) (λ_=>aA rfl (aE (k:=.ptr) (some ⟨t.H.g,0,none⟩) h.cells.1 ?_));refine JJ h.IJ (λ_ w1 k1=>?_) (λhn=>absurd ha hn);refine fE (vs:=[aD (G.fr a),aD (G.to a),aD (G.wt a)]) jL rfl (by simp[Value.oneCell']) λw3 o3 k3 z3=>?_;have h3:=(h.aN k1).aN k3;refine aA rfl (aE (k:=.ptr) (some ⟨t.H.g,0,none⟩) h3.cells.1 ?_);refine JJ h3.IJ (λ_ w4 k4=>?_) (λhn=>absurd hb hn);refine fE (vs:=[aD (G.fr b),aD (G.to b),aD (G.wt b)]) jL rfl (by simp[Value.oneCell']) λw6 o6 k6 z6=>?_;refine aF (λ_=>aF (λ_=>?_) (λh=>by simp at h)) (λh=>by simp at h);refine aE (k:=.i) (G.to a) (FW ((o3.aK k4 id).aK k6 id)).2.1 (aE (k:=.i) (G.fr b) (FW o6).1 ?_);have h6:=(h3.aN k4).aN k6;refine aF (λ_=>?_) (λh=>by rw[xh] at h;simp at h);refine aA rfl (aE (k:=.ptr) (some ⟨t.H.g,0,none⟩) h6.cells.1 (Yf h6.IJ λw7 k7=>?_));rw[decide_eq_false hn];exact hQ w7 ((((k1.tr k3).tr k4).tr k6).tr k7)
theorem Valid_i{e:Int}{es:Sl}{l:List Int}{Q:Bool->aH->Prop}(h:rT w t G)(he:G.qE e)(hw:G.BH e l=true)(hr:Rd w es 1 eI l)(hl:l.length<=100000)(hQ:∀w',aM w w'->Q true w'):zM (some ⟨t.t,0,none⟩) e es w Q:=by
 unfold zM;have hll:=hr.len;refine aF (λh=>by simp at h) (λ_=>aJ (λh=>aB) (λ_=>aA rfl (aE (k:=.ptr) (some ⟨t.H.g,0,none⟩) h.cells.1 (sT h.IJ (aJ (λh=>aB) (λ_=>?_))))));refine bO (λc s w1=>∃(i:Nat) (a:Int),i<=l.length/\c=l.length-i/\s=(a,(i:Int),())/\aM w w1/\G.BH a (l.drop i)=true) l.length ⟨0,e,iG _,rfl,rfl,aW.refl _ _,by simpa using hw⟩ ?_;rintro c s w1 ⟨i,a,hi,rfl,rfl,k1,hwa⟩ X hX;dsimp only;refine aJ (λcJ=>?_) (λkT=>hQ w1 k1);have dJ:i<l.length:=aB;have cV:=gS dJ;rw[List.drop_eq_getElem_cons dJ] at hwa;generalize l[i]=x at*;simp only[Gr.BH,tE] at hwa;obtain⟨p,hp,hc⟩:=cF (k:=.i) (e:=λx=>x) (hr.aK k1 cR λ_ _=>id) cV;rw[kE];refine⟨⟨aB,cJ⟩,aA hp (aE (k:=.i) x hc (May_i (h.aN k1) hwa.1 λw3 k3=>?_))⟩;refine aF (λh=>by simp at h) (λ_=>?_);rw[qA i aB];exact hX _ _ _ aB ⟨i+1,x,dJ,rfl,rfl,k1.tr k3,hwa.2⟩
theorem ghint_i{a:Int}{es:Sl}{l:List Int}{Q:(qu)->Int->aH->Prop}(h:rT w t G)(ha:G.qE a)(hw:G.BH a l=true)(hr:Rd w es 1 eI l)(hl:l.length<=100000)(hQ:∀n w',aM w w'->Q (Ql (G.eZ a l)) n w'):
  zY (some ⟨t.t,0,none⟩) a es w Q:=by
 unfold zY;have ok:=h.IJ.ok;have hE:=Wo hw;have hll:=hr.len;have lit:∀k,((⟨w.heap.size,0,none⟩:Addr).add k)=⟨w.heap.size,k,none⟩:=λk=>by rw[aS,pN]
 refine bK λw1 o1 k1 z1=>?_;have RL:cW w1 w.heap.size Fl (eH ⟨0,0,0,0⟩):=o1;refine Xt (h.aN k1) (hr.aK k1 cR λ_ _=>id) hl hE λw2 k2=>?_;rw[lit 0,lit 1,lit 2,lit 3];refine cI (o:=3) (v:=aD (G.oX l)) (RL.aK k2 id) cU dL rfl rfl λw3 o3 m3 z3=>?_;have up:∀{wx wy:aH},aM w wx->aW (λk=>k=w.heap.size) wx wy->aM w wy:=λkx m=>kx.fresh m λk e=>by rw[show k=w.heap.size from e];exact iT _
 have K3:=up (k1.tr k2) m3;have o3':cW w3 w.heap.size Fl (eH ⟨0,0,0,G.oX l⟩):=o3;have dR:∀w4 (f:QT) n,cW w4 w.heap.size Fl (eH f)->aM w w4->f=G.eZ a l->eY [.i,.i,.i,.i] w4 ⟨w.heap.size,0,none⟩ λ(t2:Int×Int×Int×Int×Unit)=>
   aI prog Fl ⟨w.heap.size,0,none⟩ (Value.agg #[(aD t2.1),(aD t2.2.1),(aD t2.2.2.1),(aD t2.2.2.2.1)]) w4 λw9=>eY [.i,.i,.i,.i] w9 ⟨w.heap.size,0,none⟩ λ(t3:Int×Int×Int×Int×Unit)=>Q (t3.1,t3.2.1,t3.2.2.1,t3.2.2.2.1,()) n w9:=by
  intro w4 f n o4 k4 hf;refine bJ (l:=[.i,.i,.i,.i]) (Ql f) (Mz o4) ?_;refine eO (vs:=eH f) o4 AK rfl (oneH f) λw5 o5 m5 _=>?_;refine bJ (l:=[.i,.i,.i,.i]) (Ql f) (Mz o5) ?_;rw[hf];exact hQ n w5 (up k4 m5)
 refine bO (λc s w4=>∃(i:Nat) (b:Int),i<=l.length/\c=l.length-i/\s=(b,(i:Int),())/\aM w w4/\G.qE b/\G.BH b (l.drop i)=true/\cW w4 w.heap.size Fl (eH ⟨0,0,G.oX (l.take i),G.oX l⟩)/\
  G.wD a l=((G.wD b (l.drop i)).1,(G.wD b (l.drop i)).2.1,G.oX (l.take i)+(G.wD b (l.drop i)).2.2)) l.length ⟨0,a,iG _,rfl,rfl,K3,ha,by simpa using hw,o3',by simp[Gr.oX]⟩ ?_
 rintro c s w4 ⟨i,b,hi,rfl,rfl,k4,hb,hwb,o4,hh⟩ X hX;dsimp only;have h4:=h.aN k4;refine aJ (λcJ=>?_) (λkT=>?_)
 ·have dJ:i<l.length:=aB
  have cV:=gS dJ;have qg:=yq (G:=G) cV;have hrng:=wsum_rng ok (l:=l.take i) λx hx=>hE x (List.mem_of_mem_take hx);have GA:(l.take i).length=i:=by rw[pW];omega
  rw[List.drop_eq_getElem_cons dJ] at hwb hh;generalize l[i]=x at*;simp only[Gr.BH,tE] at hwb;have hxE:=(Gr.iI.1 hwb.1).2.1;have hwx:=ok.w1 hxE;obtain⟨p,hp,hc⟩:=cF (k:=.i) (e:=λx=>x) (hr.aK k4 cR λ_ _=>id) cV;rw[kE];refine⟨⟨aB,cJ⟩,aA hp (aE (k:=.i) x hc (Next_i h4 λs1 w5 v5 k5 _=>?_))⟩;have h5:=h4.aN k5;have o5:=o4.aK k5 id;have sl:=v5.len;refine aF (λgF=>?_) (λheq=>?_)
  ·have Fb:(G.kJ b).length≠1:=by
    intro e;rw[sl,e] at gF;simp at gF
   rw[show G.wD b (x::l.drop (i+1))=(G.bend b x,x,0) by simp only[Gr.wD];rw[if_pos Fb]] at hh;refine aA rfl (aE (k:=.ptr) (some ⟨t.H.g,0,none⟩) h5.cells.1 (Of_i h5.IJ hb hxE λw6 k6=>?_));refine cI (o:=0) (v:=aD (G.bend b x)) (o5.aK k6 id) cU dL rfl rfl λw7 o7 m7 _=>?_;refine cI (o:=1) (v:=aD x) o7 cU dL rfl rfl λw8 o8 m8 _=>?_;refine dR w8 ⟨G.bend b x,x,G.oX (l.take i),G.oX l⟩ i o8 (up (up ((k4.tr k5).tr k6) m7) m8) ?_;unfold Gr.eZ;rw[hh];simp
  ·have heq':(G.kJ b).length=1:=by rw[sl] at heq;simp at heq;omega
   rw[show G.wD b (x::l.drop (i+1))=((G.wD x (l.drop (i+1))).1,(G.wD x (l.drop (i+1))).2.1,G.wt x+(G.wD x (l.drop (i+1))).2.2) by rw[Gr.wD,if_neg (by simp[heq'])]] at hh;refine aA rfl (aE (k:=.ptr) (some ⟨t.H.g,0,none⟩) h5.cells.1 (JM h5 hxE λa5 eR c12 KH _=>?_));have Db:=o5.aK KH id;have c2:eR.cell? ⟨w.heap.size,2,none⟩=some (aD (G.oX (l.take i))):=by rw[Db.cell];rfl
   refine aE (k:=.i) _ c2 (aE (k:=.i) (G.wt x) c12 ?_);rw[gM (n:=G.oX (l.take i)+G.wt x) aB aB,qA i aB];refine cI (o:=2) (v:=aD (G.oX (l.take i)+G.wt x)) Db cU dL rfl rfl λgO o13 da _=>?_;refine hX _ _ _ aB ⟨i+1,x,dJ,rfl,rfl,up ((k4.tr k5).tr KH) da,hxE,hwb.2,?_,?_⟩
   ·rw[qg];exact o13
   ·rw[hh,qg];simp only[Prod.mk.injEq,true_and];omega
 ·have ei:i=l.length:=aB
  subst ei;refine cI (o:=0) (v:=aD 9) o4 cU dL rfl rfl λw7 o7 m7 _=>?_;refine cI (o:=1) (v:=aD (-1)) o7 cU dL rfl rfl λw8 o8 m8 _=>?_;refine dR w8 ⟨9,-1,G.oX (l.take l.length),G.oX l⟩ _ o8 (up (up k4 m7) m8) ?_;unfold Gr.eZ;rw[hh,List.drop_length];simp[Gr.wD]
theorem Hint_i{a:Int}{es:Sl}{l:List Int}{Q:(qu)->Bool->aH->Prop}(h:rT w t G)(ha:G.qE a)(hw:G.BH a l=true)(hr:Rd w es 1 eI l)(hl:l.length<=100000)(hQ:∀w',aM w w'->Q (Ql (G.eZ a l)) true w'):
  vG (some ⟨t.t,0,none⟩) a es w Q:=by
 unfold vG;refine bK λw1 o1 k1 z1=>?_;have RL:cW w1 w.heap.size Fl (eH ⟨0,0,0,0⟩):=o1;refine Valid_i (h.aN k1) ha hw (hr.aK k1 cR λ_ _=>id) hl λw2 k2=>?_;refine aF (λh=>by simp at h) (λ_=>?_);have K2:=k1.tr k2;refine ghint_i (h.aN K2) ha hw (hr.aK K2 cR λ_ _=>id) hl λn w4 k4=>?_;refine fE (vs:=eH (G.eZ a l)) AK rfl (oneH _) λw6 o6 k6 _=>?_;refine bJ (l:=[.i,.i,.i,.i]) (Ql (G.eZ a l)) (Mz o6) ?_;refine eO (vs:=eH (G.eZ a l)) (((RL.aK k2 id).aK k4 id).aK k6 id) AK rfl (oneH _) λw7 o7 m7 _=>?_;refine bJ (l:=[.i,.i,.i,.i]) (Ql (G.eZ a l)) (Mz o7) ?_;exact hQ w7 (((K2.tr k4).tr k6).fresh m7 λk e=>by rw[show k=w.heap.size from e];exact iT _)
end
end
section
abbrev MX:=lO×Sl
abbrev tC(x:MX):List Value:=[aD x.1.kind,aD x.1.pos,aD x.1.LC,sv x.2,aD x.1.lX,aD x.1.eZ.cls,aD x.1.eZ.jB,aD x.1.eZ.rZ,aD x.1.eZ.left]
abbrev MT:=Int×Int×Int×Sl×Int×Int×Int×Int×Int×Unit
abbrev FX(x:MX):MT:=(x.1.kind,x.1.pos,x.1.LC,x.2,x.1.lX,x.1.eZ.cls,x.1.eZ.jB,x.1.eZ.rZ,x.1.eZ.left,())
abbrev bf:List CK:=[.i,.i,.i,.slice,.i,.i,.i,.i,.i]
theorem Fs:∀x:MX,(tC x).length=9:=λ_=>rfl
theorem VE:∀x:MX,∀u∈tC x,u.oneCell'=true:=by intro x u hu;simp at hu;rcases hu with rfl|rfl|rfl|rfl|rfl|rfl|rfl|rfl|rfl<;>rfl
theorem eMX_ne(x:MX):tC x≠[]:=by simp
theorem cM{w:aH}{g k:Nat}{e:TypeId}{cs:List Value}{v:Value}(h:cW w g e cs)(hk:cs[k]? =some v):w.cell? ((⟨g,0,none⟩:Addr).add k)=some v:=by
 rw[aS,pN,h.cell];exact hk
structure GD(w:aH)(P:Nat->Prop)(x:MX):Prop where
 rd:Rd w x.2 1 eI x.1.cH
 Ud:∀b,x.2.b=some b->P b.block/\b.block<w.heap.size
 len:x.1.cH.length<=51
def fL(w:aH)(P:Nat->Prop)(s:Sl)(l:List lO):Prop:=∃xs:List MX,Rd w s 9 tC xs/\xs.map (·.1)=l/\(∀b,s.b=some b->P b.block/\b.block<w.heap.size)/\∀x∈xs,GD w P x
theorem GD.aK{w w':aH}{P F:Nat->Prop}{x:MX}(h:GD w P x)(m:aW F w w')(hF:∀k,P k->¬F k):GD w' P x:=
 ⟨h.rd.aK m cR λb hb=>hF _ (h.Ud b hb).1,λb hb=>⟨(h.Ud b hb).1,mD (h.Ud b hb).2 m.size⟩,h.len⟩
theorem GD.wk{w:aH}{P P':Nat->Prop}{x:MX}(h:GD w P x)(hP:∀k,P k->k<w.heap.size->P' k):GD w P' x:=
 ⟨h.rd,λb hb=>⟨hP _ (h.Ud b hb).1 (h.Ud b hb).2,(h.Ud b hb).2⟩,h.len⟩
theorem GD.none{w:aH}{P:Nat->Prop}{p:lO}(h:p.cH=[]):GD w P (p,bD):=
 ⟨by show Rd w _ 1 eI p.cH;rw[h];exact Rd.nil _ _ _,λb hb=>(by cases hb),by show p.cH.length<=51;rw[h];simp⟩
section
variable{w w':aH}{P P' F:Nat->Prop}{s:Sl}{l:List lO}
theorem fL.aK(h:fL w P s l)(m:aW F w w')(hF:∀k,P k->¬F k):fL w' P s l:=by
 obtain⟨xs,h1,h2,h3,h4⟩:=h;exact⟨xs,h1.aK m eMX_ne λb hb=>hF _ (h3 b hb).1,h2,λb hb=>⟨(h3 b hb).1,mD (h3 b hb).2 m.size⟩,λx hx=>(h4 x hx).aK m hF⟩
theorem fL.wk(h:fL w P s l)(hP:∀k,P k->k<w.heap.size->P' k):fL w P' s l:=by
 obtain⟨xs,h1,h2,h3,h4⟩:=h;exact⟨xs,h1,h2,λb hb=>⟨hP _ (h3 b hb).1 (h3 b hb).2,(h3 b hb).2⟩,λx hx=>(h4 x hx).wk hP⟩
theorem fL.aN(h:fL w P s l)(k:aM w w'):fL w' P s l:=h.aK k λ_ _=>id
theorem fL.nil:fL w P bD []:=⟨[],Rd.nil _ _ _,rfl,λb hb=>(by cases hb),by simp⟩
theorem fL.len(h:fL w P s l):s.l=l.length:=by
 obtain⟨xs,h1,h2,_⟩:=h;rw[h1.len,<-h2,oL]
theorem fL.one{g:Nat}{x:MX}(o:cW w g nC (tC x))(hx:GD w P x)(hg:P g):fL w P ⟨some ⟨g,0,none⟩,1,1⟩ [x.1]:=
 ⟨[x],(dQ.new Fs [x] (by simpa using o) (by simp[maxLen])).rd Fs,rfl,λb hb=>by cases hb;exact⟨hg,o.lt⟩,by simpa using hx⟩
theorem fL.get(h:fL w P s l){i:Nat}{p:lO}(hp:l[i]? =some p):∃a sl,s.b=some a/\GD w P (p,sl)/\bY w (a.add (i*9)) 0 (qH bf (FX (p,sl)))/\∀k v,(tC (p,sl))[k]? =some v->w.cell? ((a.add (i*9)).add k)=some v:=by
 obtain⟨xs,h1,h2,h3,h4⟩:=h;rw[<-h2,mG] at hp;cases hx:xs[i]? with
 |none=>rw[hx] at hp;cases hp
 |some x=>
  rw[hx] at hp;obtain⟨p',sl⟩:=x;cases hp;obtain⟨a,ha,hh⟩:=h1.get i _ hx;exact⟨a,sl,ha,h4 _ (zH hx),hh,λk v hv=>by have:=oH.1 hh k v hv;rwa[pN] at this⟩
theorem Ha{g:Nat}{x:MX}{K:Sl->aH->Prop}(o:cW w g nC (tC x))(hx:GD w (λk=>P k/\k≠g) x)(hg:P g)(hn:∀k,w.heap.size<=k->P k)(hs:fL w (λk=>P k/\k≠g) s l)(hl:l.length<=10)
  (hK:∀r w',fL w' P r (x.1::l)->aW (λk=>k=g) w w'->K r w'):aX prog tsMsg tsMsg ⟨some ⟨g,0,none⟩,1,1⟩ (Value.slice s.b s.l s.c) w K:=by
 obtain⟨xs,h1,h2,h3,h4⟩:=hs;have Ae:xs.length=l.length:=by rw[<-h2,oL]
 refine fN Og Fs VE (dQ.new Fs [x] (by simpa using o) (by simp[maxLen])) h1 (by simp;omega) (by simp;omega) λr w' hr hm Kv hrn=>?_;have m:aW (λk=>k=g) w w':=hm.mono λk _ ⟨a,ha,hk⟩=>by cases ha;exact hk
 refine hK r w' ⟨[x]++xs,hr.rd Fs,by rw[yS,h2];rfl,λb hb=>⟨?_,hr.lt hb⟩,λy hy=>?_⟩ m
 ·rcases Kv with e|⟨a,ha,IN⟩
  ·rw[hb] at e;cases e;exact hg
  ·rw[hb] at ha;cases ha;exact hn _ IN
 ·have Tv:GD w (λk=>P k/\k≠g) y:=by
   rcases jK.1 hy with hy|hy
   ·rw[uG.1 hy];exact hx
   ·exact h4 y hy
  exact(Tv.aK m λk hk e=>hk.2 e).wk λk hk _=>hk.1
end
end
theorem SP:prog.underlying 341=some (.map 3 41):=iA
theorem gh:prog.underlying 358=some (.map 3 378):=iA
theorem OC:prog.underlying 164=some (.map 3 102):=iA
theorem gj:prog.underlying 98=some (.map 102 4):=iA
abbrev knW:nP:=.agg [.int .i64,.int .i64]
abbrev UB:nP:=.c .slice
abbrev qJ:nP:=.c .ptr
abbrev Jy:nP:=.c .bool
theorem yp:(prog.info? 378).map (·.zero)=some (some (knW.aY ((0:Int),(0:Int),()))):=iA
theorem TI:(prog.info? 41).map (·.zero)=some (some (UB.aY (bD:Sl))):=iA
theorem DZ:(prog.info? 102).map (·.zero)=some (some (qJ.aY (none:cL))):=iA
theorem bF.kp{A:As}[bF A]{w w':aH}{S:BS}(h:A w S)(k:aM w w'):A w' S:=bF.aK h k λ_ _=>id
theorem bF.dr{A:As}[bF A]{w:aH}{S:BS}(h:A w S):A w.drew S:=bF.aK h (aW.drew (aW.refl (λ_=>False) w)) λ_ _=>id
theorem bN(w:aH):aM w w.drew:=aW.drew (aW.refl _ w)
theorem aO{g:Nat}{e:TypeId}{cs:List Value}{w:aH}{S:BS}{k:Nat}{v:Value}(h:sB g e cs w S)(hk:cs[k]? =some v):w.cell? ((⟨g,0,none⟩:Addr).add k)=some v:=cM h.1 hk
theorem pA{t e:TypeId}{g o:Nat}{cs:List Value}{v:Value}{w:aH}{S:BS}{K:aH->Prop}(h:sB g e cs w S)(hi:(prog.info? t).map (·.size)=some 1)(ho:o<cs.length)(hc:v.cells=#[v])(h1:v.oneCell'=true)
  (hK:∀w',sB g e (cs.set o v) w' S->Up S S w w'->K w'):aI prog t ((⟨g,0,none⟩:Addr).add o) v w K:=by
 rw[aS,pN];exact cI h.1 hi ho hc h1 λw' o m _=>hK w' (h.up o m).1 (h.up o m).2
theorem cC{cs:List Value}{t:TypeId}{w:aH}{K:Addr->aH->Prop}(h:∀w',sB w.heap.size t cs w' (λk=>k=w.heap.size)->aM w w'->w'.heap.size=w.heap.size+1->K ⟨w.heap.size,0,none⟩ w'):aG w cs.toArray t K:=
 bK λw' o k z=>h w' ⟨o,λ_=>Iff.rfl⟩ k z
theorem um{α:Type}{t e:TypeId}{n bytes:Nat}{z:List Value}(hE:rE prog t e n bytes z){aY:α->List Value}(fZ:∀x,(aY x).length=n)(jW:∀x,∀u∈aY x,u.oneCell'=true)
  {w:aH} {S:BS} {s x:Sl} {xs ys:List α} (h:Qp e n aY s xs w S) (hx:Rd w x n aY ys) (hl:xs.length+ys.length<=1000000) (hb:bytes<=1000) {K:Sl->aH->Prop}
  (hK:∀r w' S',Qp e n aY r (xs++ys) w' S'->Up S S' w w'->K r w'):aX prog t t s (.slice x.b x.l x.c) w K:=by
 have hm:(xs.length+ys.length)*bytes<=1000000*1000:=EX hl hb;refine append_o hE fZ jW h.1 hx aB aB λr w' v m hr=>hK r w' _ ⟨v,λ_=>Iff.rfl⟩ ⟨m.mono λk _ hk=>(h.2 k).2 hk,λk hk=>?_⟩;obtain⟨hc,b,hb,rfl⟩:=hk;rcases hr hc with⟨h1,h2⟩|⟨a,h1,h2⟩
 ·exact .inl ((h.2 _).2 ⟨h1,b,h2.symm.trans hb,rfl⟩)
 ·rw[hb] at h1;cases h1;exact .inr h2
theorem iV{α:Type}{e:TypeId}{n:Nat}{aY:α->List Value}(fZ:∀x,(aY x).length=n){w:aH}{g:Nat}{cs:List Value}(xs:List α){S:BS}(h:sB g e cs w S)(hc:cs=xs.flatMap aY)(hm:xs.length<=1000000):Rd w ⟨some ⟨g,0,none⟩,xs.length,xs.length⟩ n aY xs:=
 (dQ.new fZ xs (by rw[<-hc];exact h.1) (by simp only[maxLen];omega)).rd fZ
theorem Dj{α:Type}{e:TypeId}{n:Nat}{aY:α->List Value}{w:aH}:Qp e n aY bD ([]:List α) w (λ_=>False):=⟨(dQ.nil _ _ _ _).veo,λk=>⟨False.elim,λh=>h.1 rfl⟩⟩
end Go.Proofs.YtihggjgakbgomaaGreat
namespace Go.Proofs.YtihggjgakbgomaaGreat
open Go Go.Den Go.Proofs
theorem ry(m:Nat):AnyZI.SortsIn Tryz.prog Ba Fence.wide m:=
  ⟨λUd off cap ss W hH BA LG=>callsIn_wide.2 (AnyM.slices_Sort_int sortA Ud off cap ss W hH BA LG),
   λp cap W=>callsIn_wide.2 (AnyM.slices_Sort_int_none sortA p cap W)⟩
theorem Im{w w':aH}(h:RowKit.Below w.heap.size w w'):aM w w':=⟨h.os,h.tape,h.output,h.size,λk hk _=>h.block k hk⟩
abbrev Rany:Value->Option (DataW Unit×List MemPlace):=λ_=>some (.nil,[])
def vInt:Value->Int
 | .int _ x=>x
 |_=>0
theorem sk{kn:nP}{w:aH}{r n:Nat}{f:Int->Option kn.T}(h:jP w r CT kn f n)(hr:∀x,(f x).isSome=true->-9223372036854775808<=x/\x<=9223372036854775807)(hn:n<=1000000):
  ∃(D:DataW Unit) (ks:List Int),w.ownsMap Tryz.prog 3 Rany r n D/\Maps.size D=n/\(intKeys D).Perm ks/\ks.Nodup/\ks.length=n/\∀x,x∈ks↔(f x).isSome=true:=by
 obtain⟨es,c,l,h1,h2,h3,h4,h5,h6,hB⟩:=h;have hel:es.toList.length=l.length:=by have:=congrArg List.length h2;simpa using this
 have hl:es.size=n:=by rw[<-h6,<-hel,Array.length_toList]
 have hks:∀x,x∈l.map (·.1)↔(f x).isSome=true:=λx=>by rw[h5 x,GU]
 have tF:∀e∈es.toList,∃x:Int,e.key=.int .i64 x/\-9223372036854775808<=x/\x<=9223372036854775807:=λe he=>by
  have:e.key∈es.toList.map (·.key):=List.mem_map_of_mem he;rw[h2] at this;obtain⟨p,hp,Uj⟩:=lK.1 this;have:=hr p.1 ((hks p.1).1 (List.mem_map_of_mem hp));exact⟨p.1,Uj.symm,this.1,this.2⟩
 have u3:Tryz.prog.underlying 3=some (.int .i64):=rb;have AV:∀e∈es.toList,∀x:Int,e.key=.int .i64 x->WideElems.rd Tryz.prog 3 Rany e=some (.int .i64 x,.nil):=λe he x hx=>by
  obtain⟨y,hy,y1,y2⟩:=tF e he;rw[hx] at hy;have hxy:x=y:=by injection hy
  subst hxy;have hw:(Lit.int .i64 x).wf=true:=by
   have m1:IntKind.min .i64=-9223372036854775808:=by decide
   have m2:IntKind.max .i64=9223372036854775807:=by decide
   simp only[Lit.wf,m1,m2,decide_eq_true y1,decide_eq_true y2,Bool.and_self]
  unfold WideElems.rd;simp[keyOf,u3,mapKey,hx,hw]
 refine⟨_,l.map (·.1),⟨es,c,h1,⟨by rw[hl];simp only[maxLen];omega,⟨hB.1,hB.2,by
  rw[h2,show l.map (λp=>CT p.1)=(l.map (·.1)).map CT by rw[List.map_map];rfl];exact List.Pairwise.map _ (λa b xh e=>xh (by injection e)) h4⟩,λe he=>by obtain⟨x,hx,_⟩:=tF e he;exact⟨_,AV e he x hx⟩⟩,aB,rfl⟩,?_,?_,h4,by simpa using h6,hks⟩
 ·show(List.foldr DataW.insert [] _).length=n
  rw[(WideShapes.sorted_perm _).length_eq];simpa using hl
 ·show(List.map _ (List.foldr DataW.insert [] _)).Perm _
  refine((WideShapes.sorted_perm _).map _).trans ?_;rw[List.map_map];have:es.toList.map ((λp:Lit×DataW Unit=>Go.intOf p.1) ∘ WideElems.rg Tryz.prog 3 Rany)=l.map (·.1):=by
   have e1:es.toList.map ((λp:Lit×DataW Unit=>Go.intOf p.1) ∘ WideElems.rg Tryz.prog 3 Rany)=es.toList.map (λe=>vInt e.key):=by
    refine List.map_congr_left λe he=>?_;obtain⟨x,hx,_⟩:=tF e he;simp only[Function.comp,WideElems.rg,AV e he x hx,Option.getD_some,Go.intOf,hx,vInt]
   have e2:es.toList.map (λe=>vInt e.key)=(es.toList.map (·.key)).map vInt:=by rw[List.map_map];rfl
   rw[e1,e2,h2,List.map_map];exact List.map_congr_left λp _=>rfl
  rw[this]
theorem Rq{w:aH}{nF:Nat}{v:Value}{ks:List Int}(h:w.ownsRow nF cY 1 v ks.length (ks.map encZ)):∃s:Sl,v=.slice s.b s.l s.c/\dQ w cY 1 eI s ks/\∀b,s.b=some b->nF<=b.block:=by
 obtain⟨h1,h2⟩:=h;rcases h2 with⟨rfl,h2⟩|⟨g,cap,bP,rfl,hb,hg,h3,h4,h5,h6⟩
 ·have:ks=[]:=Ce h2
  subst this;exact⟨⟨none,0,0⟩,rfl,dQ.nil _ _ _ _,λb hb=>by cases hb⟩
 ·refine⟨⟨some ⟨g,0,none⟩,ks.length,cap⟩,rfl,⟨rfl,h3,h4,.inr ⟨g,bP.toList.drop (ks.length*1),rfl,?_,?_⟩⟩,λb hb=>by cases hb;omega⟩
  ·have e:ks.flatMap eI=bP.toList.take (ks.length*1):=by
    rw[h6];clear h1 h3 h6
    induction ks with
    |nil=>rfl
    |cons a l ih=>rw[EY,List.map_cons,ih];rfl
   rw[e,Cd];exact hg
  ·have e:ks.flatMap eI=bP.toList.take (ks.length*1):=by
    rw[h6];clear h1 h3 h6
    induction ks with
    |nil=>rfl
    |cons a l ih=>rw[EY,List.map_cons,ih];rfl
   rw[e,Cd,Array.length_toList];exact h5
theorem merge_lt{ss ks:List Int}(h:ss.Perm ks)(hn:ks.Nodup):(ss.mergeSort (λx y=>decide (x<=y))).Pairwise (·<·)/\(ss.mergeSort (λx y=>decide (x<=y))).Perm ks:=by
 have p:=(List.mergeSort_perm ss (λx y:Int=>decide (x<=y))).trans h;have s:(ss.mergeSort (λx y=>decide (x<=y))).Pairwise (λa b=>decide (a<=b)=true):=List.pairwise_mergeSort (λa b c h1 h2=>by simp only[decide_eq_true_eq] at*;omega) (λa b=>by simp only[Bool.or_eq_true,decide_eq_true_eq];omega) ss;have nd:(ss.mergeSort (λx y=>decide (x<=y))).Nodup:=p.nodup_iff.2 hn;refine⟨?_,p⟩;have:=List.Pairwise.and s nd;refine this.imp λ{a b} xh=>?_;have h1:=xh.1;have h2:=xh.2;simp only[decide_eq_true_eq] at h1;omega
theorem aAy{w:aH}{r n:Nat}{f:Int->Option knW.T}{Q:Sl->aH->Prop}(h:jP w r CT knW f n)(hr:∀x,(f x).isSome=true->-9223372036854775808<=x/\x<=9223372036854775807)(hn:n<=1000000)
  (hQ:∀s ks w',dQ w' cY 1 eI s ks->aM w w'->(∀b,s.b=some b->w.heap.size<=b.block)->ks.Pairwise (·<·)->(∀x,x∈ks↔(f x).isSome=true)->ks.length=n->Q s w'):
  mJ (some r) w λv w1=>gT v w1 Q:=by
 obtain⟨D,ks,hown,LG,hp,bq,fU,hks⟩:=sk h hr hn;have KI:=hown.lt;have hseq:SeqGives Fence.wide 2 Tryz.prog 260 #[.pointer (some ⟨w.heap.size,0,none⟩)] encZ (λss=>ss.Perm (intKeys D)) (Maps.size D) (w.alloc (.cells #[.map (some r)] 358)):=
  AnyZI.keys_gives (ρ:=Nz) {keysA with} Fence.wide _ trivial rfl aB w.heap.size r n D _ dL dL (by
   obtain⟨es,DT,hb,Ft,hs,hD⟩:=hown;exact⟨es,DT,(RowKit.Below.heap_alloc _ _ r KI).trans hb,Ft,hs,hD⟩)
 have cK:Calls Tryz.prog 254 #[.map (some r)] w λe w'=>e=.returned (.func (.func 260) #[] #[.pointer (some ⟨w.heap.size,0,none⟩)])/\w'=w.alloc (.cells #[.map (some r)] 358):=
  (callsIn_wide (n:=5)).1 (AnyZI.keys_in keysA Fence.wide 5 trivial rfl (some r) w)
 have cS:=(callsIn_wide (n:=5)).1 (AnyZI.sorted_in rz Fence.wide 5 trivial trivial trivial trivial rfl aB (ry _) (enters_of Tryz.func120 iA rfl) 260 #[.pointer (some ⟨w.heap.size,0,none⟩)] trivial (enters_of Tryz.func260 iA rfl) _ _ (by rw[LG];simp only[maxLen];omega) (by rw[LG];omega) _ hseq);refine Calls.mono cK ?_;rintro e w' ⟨rfl,rfl⟩;refine⟨_,rfl,?_⟩;show gT _ _ Q;refine Calls.mono cS ?_;rintro e w2 ⟨v,ss,rfl,hS,nO,hnil,hb⟩;obtain⟨m1,m2⟩:=merge_lt (hS.trans hp) bq;have Ul:(ss.mergeSort (λx y=>decide (x<=y))).length=ss.length:=(List.mergeSort_perm ss _).length_eq;rw[<-Ul] at nO;obtain⟨s,rfl,hv,hf⟩:=Rq nO;refine⟨_,rfl,?_⟩;show Q ⟨s.b,s.l,s.c⟩ w2;have kk:=Im hb;have ka:aM w (w.alloc (.cells #[.map (some r)] 358)):=aM.alloc w _;exact hQ s _ w2 hv (ka.tr kk) (λb hb=>by have:=hf b hb;simp at this;omega) m1 (λx=>(m2.mem_iff).trans (hks x)) (m2.length_eq.trans fU)
theorem aAx{w:aH}{r n:Nat}{f:Int->Option qJ.T}{Q:Sl->aH->Prop}(h:jP w r CT qJ f n)(hr:∀x,(f x).isSome=true->-9223372036854775808<=x/\x<=9223372036854775807)(hn:n<=1000000)
  (hQ:∀s ks w',dQ w' cY 1 eI s ks->aM w w'->(∀b,s.b=some b->w.heap.size<=b.block)->ks.Pairwise (·<·)->(∀x,x∈ks↔(f x).isSome=true)->ks.length=n->Q s w'):
  lF (some r) w λv w1=>gT v w1 Q:=by
 obtain⟨D,ks,hown,LG,hp,bq,fU,hks⟩:=sk h hr hn;have KI:=hown.lt;have hseq:SeqGives Fence.wide 2 Tryz.prog 121 #[.pointer (some ⟨w.heap.size,0,none⟩)] encZ (λss=>ss.Perm (intKeys D)) (Maps.size D) (w.alloc (.cells #[.map (some r)] 164)):=
  AnyZI.keys_gives (ρ:=Ny) {keysB with} Fence.wide _ trivial rfl aB w.heap.size r n D _ dL dL (by
   obtain⟨es,DT,hb,Ft,hs,hD⟩:=hown;exact⟨es,DT,(RowKit.Below.heap_alloc _ _ r KI).trans hb,Ft,hs,hD⟩)
 have cK:Calls Tryz.prog 68 #[.map (some r)] w λe w'=>e=.returned (.func (.func 121) #[] #[.pointer (some ⟨w.heap.size,0,none⟩)])/\w'=w.alloc (.cells #[.map (some r)] 164):=
  (callsIn_wide (n:=5)).1 (AnyZI.keys_in keysB Fence.wide 5 trivial rfl (some r) w)
 have cS:=(callsIn_wide (n:=5)).1 (AnyZI.sorted_in rz Fence.wide 5 trivial trivial trivial trivial rfl aB (ry _) (enters_of Tryz.func120 iA rfl) 121 #[.pointer (some ⟨w.heap.size,0,none⟩)] trivial (enters_of Tryz.func121 iA rfl) _ _ (by rw[LG];simp only[maxLen];omega) (by rw[LG];omega) _ hseq);refine Calls.mono cK ?_;rintro e w' ⟨rfl,rfl⟩;refine⟨_,rfl,?_⟩;show gT _ _ Q;refine Calls.mono cS ?_;rintro e w2 ⟨v,ss,rfl,hS,nO,hnil,hb⟩;obtain⟨m1,m2⟩:=merge_lt (hS.trans hp) bq;have Ul:(ss.mergeSort (λx y=>decide (x<=y))).length=ss.length:=(List.mergeSort_perm ss _).length_eq;rw[<-Ul] at nO;obtain⟨s,rfl,hv,hf⟩:=Rq nO;refine⟨_,rfl,?_⟩;show Q ⟨s.b,s.l,s.c⟩ w2;have kk:=Im hb;have ka:aM w (w.alloc (.cells #[.map (some r)] 164)):=aM.alloc w _;exact hQ s _ w2 hv (ka.tr kk) (λb hb=>by have:=hf b hb;simp at this;omega) m1 (λx=>(m2.mem_iff).trans (hks x)) (m2.length_eq.trans fU)
end Go.Proofs.YtihggjgakbgomaaGreat
namespace Go.Proofs.YtihggjgakbgomaaGreat
open Go Go.Den
open Go.IntKind (wrap)
abbrev eU:BitVec 8->List Value:=λb=>[.int .u8 (b.toNat:Int)]
abbrev eUs:Sl×List (BitVec 8)->List Value:=λp=>[.slice p.1.b p.1.l p.1.c]
theorem tw{α:Type}{w:aH}{s:Sl}{aY:α->Value}{xs:List α}(h:Rd w s 1 (λx=>[aY x]) xs)(i:Nat)(x:α)(hx:xs[i]? =some x):∃a,s.b=some a/\w.cell? (a.add (i*1))=some (aY x):=by
 obtain⟨a,ha,hh⟩:=h.get i x hx;exact⟨a,ha,by have:=hh.1;rwa[add_zero] at this⟩
theorem QZ{α:Type}(l:List α)(k:Nat)(h:k<l.length):l.take (k+1)=l.take k++[l[k]]:=by
 rw[FQ h]
theorem poly_int:(2197175160:Int)=(poly.toNat:Int):=by decide
theorem one_int:(1:Int)=(((1#32).toNat:Nat):Int):=by decide
theorem byte_xor(c:BitVec 32)(b:BitVec 8):nY .xor .u32 (c.toNat:Int) (wrap .u32 (b.toNat:Int))=(((c^^^b.setWidth 32).toNat:Nat):Int):=by
 have h:wrap .u32 (b.toNat:Int)=(((b.setWidth 32).toNat:Nat):Int):=by
  rw[IntKind.wrap_u32,BitVec.toNat_setWidth];have:=b.isLt;omega
 rw[h,ZK]
theorem not_sum(c:BitVec 32):nY .xor .u32 (if IntKind.signed .u32 then-1 else IntKind.max .u32) (c.toNat:Int)=(((~~~ c).toNat:Nat):Int):=by
 have h:(if IntKind.signed .u32 then-1 else IntKind.max .u32)=(((BitVec.allOnes 32).toNat:Nat):Int):=by decide
 rw[h,ZK];rw[BitVec.allOnes_xor]
theorem xorP(c:BitVec 32):nY .xor .u32 (c.toNat:Int) (2197175160:Int)=(((c^^^poly).toNat:Nat):Int):=by
 rw[poly_int,ZK]
theorem and1(c:BitVec 32):nY .and .u32 (c.toNat:Int) (1:Int)=if c.getLsbD 0 then 1 else 0:=by
 have:=aAq c 1#32;rw[<-one_int] at this;rw[this,and_one]
theorem XM(ps:List (Sl×List (BitVec 8)))(k:Nat)(h:k<ps.length):(ps.take (k+1)).flatMap (·.2)=(ps.take k).flatMap (·.2)++ps[k].2:=by
 rw[QZ _ _ h,IU];simp
theorem Bk{parts:Sl}{w:aH}{ps:List (Sl×List (BitVec 8))}{Q:Int->aH->Prop}(hp:Rd w parts 1 eUs ps)(hb:∀p∈ps,Rd w p.1 1 eU p.2)
  (hn:ps.length<9223372036854775807) (KI:∀p∈ps,p.2.length<9223372036854775807) (hQ:Q ((xS (ps.flatMap (·.2))).toNat:Int) w):qX parts w Q:=by
 unfold qX;have fU:=hp.len;refine bO (λn t w'=>∃k,k<=ps.length/\n=ps.length-k/\t=(((DS (BitVec.allOnes 32) ((ps.take k).flatMap (·.2))).toNat:Int),(k:Int),())/\w'=w) ps.length
  ⟨0,iG _,rfl,by simp[DS],rfl⟩ ?_
 rintro n t w' ⟨k,hk,rfl,rfl,rfl⟩ X hX;dsimp only;refine aJ (λh=>?_) (λh=>?_)
 ·have lD:k<ps.length:=aB
  refine⟨⟨by simp,by simpa using h⟩,?_⟩;obtain⟨a,ha,hc⟩:=tw hp k ps[k] (gS lD);refine aA ha (aE (k:=.slice) ps[k].1 hc ?_);have hr:=hb ps[k] (nE lD);have xT:=hr.len;have xf:=KI ps[k] (nE lD);refine bO (λn t Cy=>∃j,j<=ps[k].2.length/\n=ps[k].2.length-j/\t=(((DS (DS (BitVec.allOnes 32) ((ps.take k).flatMap (·.2))) (ps[k].2.take j)).toNat:Int),(j:Int),())/\Cy=w') ps[k].2.length
   ⟨0,iG _,rfl,by simp[DS],rfl⟩ ?_
  rintro n t Cy ⟨j,hj,rfl,rfl,rfl⟩ Y hY;dsimp only;refine aJ (λh=>?_) (λh=>?_)
  ·have uE:j<ps[k].2.length:=aB
   refine⟨⟨by simp,by simpa using h⟩,?_⟩;obtain⟨a2,ha2,RP⟩:=tw hr j ps[k].2[j] (gS uE);refine aA ha2 (aE (k:=.int .u8) ((ps[k].2[j].toNat:Nat):Int) RP ?_);generalize hc0:DS (DS (BitVec.allOnes 32) ((ps.take k).flatMap (·.2))) (ps[k].2.take j)=c0 at hY ⊢;simp only[byte_xor];refine bO (λn t w3=>∃i,i<=8/\n=8-i/\t=(((QH i (c0^^^ps[k].2[j].setWidth 32)).toNat:Int),(i:Int),())/\w3=Cy) 8
    ⟨0,aB,rfl,by simp[QH],rfl⟩ ?_
   rintro n t w3 ⟨i,hi,rfl,rfl,rfl⟩ Z hZ;dsimp only;refine aJ (λh=>?_) (λh=>?_)
   ·have dJ:i<8:=aB
    refine⟨aB,?_⟩;simp only[and1,zf,gM (n:=(i:Int)+1) aB aB];have hs:=Az i (c0^^^ps[k].2[j].setWidth 32);rw[Yg] at hs;refine aF (λh=>?_) (λh=>?_)
    ·refine hZ (8-(i+1)) _ _ aB ⟨i+1,aB,rfl,?_,rfl⟩
     have hl:(QH i (c0^^^ps[k].2[j].setWidth 32)).getLsbD 0=true:=by
      cases hl:(QH i (c0^^^ps[k].2[j].setWidth 32)).getLsbD 0
      ·rw[hl] at h;simp at h
      ·rfl
     rw[hs,if_pos hl,xorP];rfl
    ·refine hZ (8-(i+1)) _ _ aB ⟨i+1,aB,rfl,?_,rfl⟩
     have hl:¬(QH i (c0^^^ps[k].2[j].setWidth 32)).getLsbD 0=true:=by
      intro hl;rw[if_pos hl] at h;simp at h
     rw[hs,if_neg hl];rfl
   ·have dJ:i=8:=aB
    subst dJ;simp only[gM (n:=(j:Int)+1) aB aB];refine hY (ps[k].2.length-(j+1)) _ _ aB ⟨j+1,aB,rfl,?_,rfl⟩;rw[QZ _ _ uE,lh,hc0];simp[ia]
  ·have uE:j=ps[k].2.length:=aB
   subst uE;simp only[gM (n:=(k:Int)+1) aB aB];refine hX (ps.length-(k+1)) _ _ aB ⟨k+1,aB,rfl,?_,rfl⟩;rw[XM _ _ lD,Sq,oZ];simp
 ·have lD:k=ps.length:=aB
  subst lD;simp only[not_sum,oZ];exact hQ
open Tryz (prog)
section
theorem Li:∀b:dA,(eU b).length=1:=λ_=>rfl
theorem oneU:∀b:dA,∀u∈eU b,u.oneCell'=true:=by intro b u hu;simp at hu;subst hu;rfl
theorem fI(b:dA):eU b≠[]:=by simp
theorem pow8(i:Nat):(2:Int)^(8*i)=((256^i:Nat):Int):=by
 rw[show(256:Nat)=2^8 from rfl,<-Nat.pow_mul];norm_cast
theorem shl8{x:Int}{i:Nat}(hi:i<=7):Int.fdiv x (2^(min (Int.toNat (aQ ((8:Int)*(i:Int)))) (IntKind.bits .i64)))=x/((256^i:Nat):Int):=by
 rw[gM (n:=(8:Int)*(i:Int)) aB aB,show Int.toNat ((8:Int)*(i:Int))=8*i by omega,Nat.min_eq_left (show 8*i<=IntKind.bits .i64 by show 8*i<=64;omega),pow8,Int.fdiv_eq_ediv_of_nonneg _ (Int.natCast_nonneg _)]
theorem yr{x:Int}(h:0<=x){i:Nat}(hi:i<=7):wrap .u8 (Int.fdiv x (2^(min (Int.toNat (aQ ((8:Int)*(i:Int)))) (IntKind.bits .i64))))=(((BitVec.ofNat 8 (x.toNat/256^i)).toNat:Nat):Int):=by
 rw[shl8 hi,IntKind.wrap_u8,BitVec.toNat_ofNat];obtain⟨n,rfl⟩:∃n:Nat,x=n:=⟨x.toNat,aB⟩;rw[kE,<-Int.natCast_ediv];generalize n/256^i=m;omega
def Dh(g:Nat)(xs:List dA)(sp:Bool):As:=Ex λsl=>aZ (sB g Dp [sv sl,.bool sp]) (Qp Fm 1 eU sl xs)
instance{g:Nat}{xs:List dA}{sp:Bool}:bF (Dh g xs sp):=by unfold Dh;infer_instance
section
variable{w:aH}{S:BS}{g:Nat}{xs:List dA}{sp:Bool}
theorem wr_app{sl x:Sl}{ys:List dA}{K:aH->Prop}(h:aZ (sB g Dp [sv sl,.bool sp]) (Qp Fm 1 eU sl xs) w S)(hx:Rd w x 1 eU ys)(hl:xs.length+ys.length<=1000000)
  (hK:∀w' S',Dh g (xs++ys) sp w' S'->Up S S' w w'->K w'):aX prog BP BP sl (.slice x.b x.l x.c) w λs2 w1=>aI prog BP ((⟨g,0,none⟩:Addr).add 0) (.slice s2.b s2.l s2.c) w1 K:=by
 obtain⟨S2,hv,_,dN⟩:=(aZ.r h).put;refine um CN Li oneU hv hx hl aB λr w1 S2' v1 u1=>?_;obtain⟨S1,h1,U1⟩:=dN _ _ _ u1 v1;obtain⟨S3,hb,_,GP⟩:=(aZ.l h1).put;refine pA hb TL dL rfl rfl λw2 b2 u2=>?_;obtain⟨S4,h4,U4⟩:=GP _ _ _ u2 b2;exact hK w2 S4 ⟨r,h4⟩ (U1.tr U4)
theorem Wn{K:aH->Prop}(h:Dh g xs sp w S)(hK:∀w' S',Dh g xs true w' S'->Up S S' w w'->K w'):aI prog xR ((⟨g,0,none⟩:Addr).add 1) (.bool true) w K:=by
 obtain⟨sl,h⟩:=h;obtain⟨S3,hb,_,GP⟩:=(aZ.l h).put;refine pA hb gV dL rfl rfl λw2 b2 u2=>?_;obtain⟨S4,h4,U4⟩:=GP _ _ _ u2 b2;exact hK w2 S4 ⟨sl,h4⟩ U4
theorem WRaw_i{b:Sl}{bs:List dA}{Q:cL->aH->Prop}(h:Dh g xs sp w S)(hb:Rd w b 1 eU bs)(hl:xs.length+bs.length<=1000000)
  (hQ:∀w' S',Dh g (xs++bs) sp w' S'->Up S S' w w'->Q (some ⟨g,0,none⟩) w'):CI (some ⟨g,0,none⟩) b w Q:=by
 unfold CI;obtain⟨sl,h⟩:=h;obtain⟨S1,h1,_,_⟩:=(aZ.l h).put;exact aF (λ_=>aA rfl (aE (k:=.slice) sl (aO h1 rfl) (wr_app h hb hl hQ))) (λh=>by simp at h)
theorem jk{n:Sl}{ns:List Int}{sz:Nat}{Q:cL->aH->Prop}(h:Dh g xs sp w S)(hs:1<=sz/\sz<=7)(hn:Rd w n 1 eI ns)(hnS:∀b,n.b=some b->¬S b.block/\b.block<w.heap.size)(fU:xs.length+ns.length*7<=900000)
  (hQ:∀Ju uN w' S',Dh g Ju uN w' S'->Up S S' w w'->Ju.length<=xs.length+ns.length*7->((∀x∈ns,0<=x/\x.toNat<256^sz)->uN=sp/\Ju=xs++ns.flatMap λx=>be sz x.toNat)->Q (some ⟨g,0,none⟩) w'):aU (some ⟨g,0,none⟩) (sz:Int) n w Q:=by
 unfold aU;have nl:=hn.len;refine aF (λh=>by simp at h) (λ_=>aJ (λh=>aB) (λ_=>aJ (λh=>aB) (λ_=>?_)));refine bO (λc t w3=>∃(i:Nat) (S3:BS),i<=ns.length/\c=ns.length-i/\t=((i:Int),())/\Dh g (xs++(ns.take i).flatMap λx=>be sz x.toNat) sp w3 S3/\Up S S3 w w3) ns.length ⟨0,S,iG _,rfl,rfl,by simpa using h,Up.refl _ _⟩ ?_;rintro c t w3 ⟨i,S3,hi,rfl,rfl,h3,u3⟩ X hX;dsimp only;have QE:∀l:List Int,(l.flatMap λx=>be sz x.toNat).length=l.length*sz:=λl=>by
  induction l with
  |nil=>simp
  |cons a l ih=>rw[EY,mL,ih,qN,nU,Nat.add_mul];omega
 have htl:((ns.take i).flatMap λx=>be sz x.toNat).length<=i*7:=by
  rw[QE,pW,Nat.min_eq_left hi];exact Nat.mul_le_mul_left _ hs.2
 refine aJ (λcJ=>?_) (λkT=>?_)
 ·have dJ:i<ns.length:=aB
  have cV:=gS dJ;have fP:=nE dJ;have rV:=FQ dJ;generalize ns[i]=x at*;obtain⟨b,hb,cb⟩:=cF (k:=.i) (e:=λx=>x) (hn.aK u3.m cR λb hb=>(hnS b hb).1) cV;rw[kE,qA i aB];refine⟨⟨aB,cJ⟩,aA hb (aE (k:=.i) x cb (aJ (λhx=>aA rfl (Wn h3 λw4 S4 h4 u4=>?_)) (λhx0=>⟨by rw[gM aB aB];omega,?_⟩)))⟩
  ·exact hQ _ _ w4 S4 h4 (u3.tr u4) (by rw[mL];omega) λhv=>absurd (hv x fP).1 aB
  ·rw[shl8 hs.2]
   have uR:(0:Int)<((256^sz:Nat):Int):=by have:0<256^sz:=Nat.pow_pos aB;omega
   refine aJ (λhx=>aA rfl (Wn h3 λw4 S4 h4 u4=>?_)) (λDd=>?_)
   ·refine hQ _ _ w4 S4 h4 (u3.tr u4) (by rw[mL];omega) λhv=>?_
    have h1:=hv x fP;have:x/((256^sz:Nat):Int)=0:=Int.ediv_eq_zero_of_lt h1.1 aB;omega
   ·have hx:x.toNat<256^sz:=by
     have h3:x<((256^sz:Nat):Int):=by
      by_cases hh:x<((256^sz:Nat):Int)
      ·exact hh
      ·have:1<=x/((256^sz:Nat):Int):=by rw[Int.le_ediv_iff_mul_le uR];omega
       omega
     omega
    have LG:aQ ((sz:Int)-1)=(sz:Int)-1:=gM aB aB;rw[LG];refine bO (λc t w6=>∃(j:Nat) (d:List dA) (S6:BS),j<=sz/\c=j/\t=((j:Int)-1,())/\d++be j x.toNat=be sz x.toNat/\Dh g ((xs++(ns.take i).flatMap λx=>be sz x.toNat)++d) sp w6 S6/\Up S S6 w w6) sz ⟨sz,[],S3,iT _,rfl,rfl,rfl,by simpa using h3,u3⟩ ?_;rintro c t w6 ⟨j,d,S6,hj,hcj,rfl,hd,h6,u6⟩ Y hY;dsimp only;have dp:d.length+j=sz:=by have:=congrArg List.length hd;simp only[mL,qN] at this;exact this
    refine aJ (λhj1=>?_) (λhj1=>?_)
    ·obtain⟨j',rfl⟩:∃j',j=j'+1:=⟨j-1,aB⟩
     have e1:((j'+1:Nat):Int)-1=(j':Int):=aB;rw[e1];obtain⟨sl,h6⟩:=h6;have h6d:=bF.dr h6;obtain⟨S7,h7,_,_⟩:=(aZ.l h6d).put;refine aA rfl (aE (k:=.slice) sl (aO h7 rfl) ⟨by rw[gM aB aB];omega,?_⟩);rw[yr aB aB];refine cC (cs:=eU (BitVec.ofNat 8 (x.toNat/256^j'))) λw7 b7 k7 z7=>⟨aO (bF.kp h7 k7) rfl,?_⟩;refine wr_app (x:=⟨some ⟨w6.drew.heap.size,0,none⟩,1,1⟩) (bF.kp h6d k7) (iV Li [_] b7 rfl dL) (by simp only[mL,nU,List.length_nil];omega) λw8 S8 h8 u8=>?_;refine hY j' _ _ aB ⟨j',d++[BitVec.ofNat 8 (x.toNat/256^j')],S8,aB,rfl,?_,?_,by rw[sD] at h8;exact h8,u6.tr ((Up.aN ((bN w6).tr k7)).tr u8)⟩
     ·rw[gM aB aB]
     ·rw[sD];exact hd
    ·have wu:j=0:=aB
     subst wu;simp only[be,tD] at hd;subst hd;refine hX (ns.length-(i+1)) _ _ aB ⟨i+1,S6,aB,rfl,rfl,?_,u6⟩;rw[rV,IU,List.flatMap_singleton,<-sD];exact h6
 ·have ei:i=ns.length:=aB
  subst ei;rw[oZ] at h3 htl;exact hQ _ _ w3 S3 h3 u3 (by rw[mL];omega) λ_=>⟨rfl,rfl⟩
end
theorem vD{s:Sl}{xs:List dA}{w:aH}{Q:Sl->aH->Prop}(hs:Rd w s 1 eU xs)(hb:xs.length<=1000000)
  (hQ:∀r w' S',Qp Fm 1 eU r xs w' S'->aM w w'->(∀k,S' k->w.heap.size<=k)->AX 1 eU r xs w' (λk=>∃b,r.b=some b/\k=b.block)->(∀b,r.b=some b->w.heap.size<=b.block)->Q r w'):cG s w Q:=by
 unfold cG;refine aF (λh=>?_) (λh=>?_)
 ·have hn:xs=[]:=by
   cases xs with
   |nil=>rfl
   |cons x r=>obtain⟨a,ha,_⟩:=hs.get 0 x rfl;rw[ha] at h;simp at h
  subst hn;exact hQ _ w _ Dj (aW.refl _ _) (λk h=>h.elim) ⟨Rd.nil _ _ _,fI,λb hb=>(by cases hb),λk=>Iff.rfl⟩ λb hb=>by cases hb
 ·refine cC (cs:=[]) λw1 b1 k1 z1=>?_
  have hv:dQ w1 Fm 1 eU ⟨some ⟨w.heap.size,0,none⟩,0,0⟩ ([]:List dA):=dQ.new Li [] b1.1 (by simp[maxLen]);refine fN CN Li oneU hv (hs.aK k1 fI λ_ _=>id) (by simp;omega) (by simp;omega) λr w2 v2 m2 hr _=>?_;have fr:∀b,r.b=some b->w.heap.size<=b.block:=λb hb=>by
   rcases hr with h|⟨a,h,h2⟩
   ·rw[hb] at h;cases h;exact iT _
   ·rw[hb] at h;cases h;omega
  rw[List.nil_append] at v2;exact hQ r w2 _ ⟨v2.veo,λ_=>Iff.rfl⟩ (k1.fresh m2 λk ⟨a,ha,e⟩=>by cases ha;rw[e];exact iT _) (λk ⟨_,b,hb,e⟩=>by rw[e];exact fr b hb) ⟨v2.rd Li,fI,λb hb=>v2.lt hb,λ_=>Iff.rfl⟩ fr
theorem vo{w:aH}{S:BS}{g:Nat}{xs:List dA}{sp:Bool}{Q:Sl->Int->aH->Prop}(h:Dh g xs sp w S)(hb:xs.length<=1000000)
  (hQ:∀r w',aM w w'->AX 1 eU r (if sp then [] else xs) w' (λk=>∃b,r.b=some b/\k=b.block)->(∀b,r.b=some b->w.heap.size<=b.block)->Q r (if sp then 1 else 0) w'):pE (some ⟨g,0,none⟩) w Q:=by
 unfold pE;obtain⟨sl,h⟩:=h;obtain⟨S1,h1,_,_⟩:=(aZ.l h).put;obtain⟨S2,h2,_,_⟩:=(aZ.r h).put;refine aF (λh=>by simp at h) (λ_=>aA rfl (aE (k:=.bool) sp (aO h1 rfl) (aF (λhs=>?_) (λhs=>?_))))
 ·have QC:sp=true:=hs
  subst QC;exact hQ bD w (aW.refl _ _) ⟨Rd.nil _ _ _,fI,λb hb=>(by cases hb),λ_=>Iff.rfl⟩ λb hb=>by cases hb
 ·have QC:sp=false:=hs
  subst QC;exact aA rfl (aE (k:=.slice) sl (aO h1 rfl) (vD (h2.1.rd Li) hb λr w1 S' _ k1 _ rd fr=>hQ r w1 k1 rd fr))
end
section
def tH(g:Nat)(l:List dA)(sp:Bool):As:=Ex λsl=>aZ (sB g tReader [sv sl,.bool sp]) (AX 1 eU sl l)
instance{g:Nat}{xs:List dA}{sp:Bool}:bF (tH g xs sp):=by unfold tH;infer_instance
abbrev rC(r:Sl):BS:=λk=>∃b,r.b=some b/\k=b.block
theorem JK{w:aH}:AX 1 eU bD [] w (rC bD):=⟨Rd.nil _ _ _,fI,λb hb=>(by cases hb),λ_=>Iff.rfl⟩
theorem de_lt:∀(q:List dA) (n j:Nat),n<256^j->de n q<256^(j+q.length):=by
 intro q
 induction q with
 |nil=>intro n j h;simpa [de] using h
 |cons c q ih=>
  intro n j h;have hc:=c.isLt;have:=ih (n*256+c.toNat) (j+1) (by rw[Nat.pow_succ];omega);rwa[show j+1+q.length=j+(c::q).length by simp only[nU];omega] at this
theorem Om{b:cL}{c l n:Nat}{a:Addr}(h:aR b c l n=some a):∃a0,b=some a0/\a.block=a0.block:=by
 unfold aR at h
 split at h
 ·exact⟨a,h,rfl⟩
 ·cases b with
  |none=>cases h
  |some x=>cases h;exact⟨x,rfl,by simp⟩
theorem or_byte{n:Nat}{c:dA}(hn:n<256^6):nY .or .i64 (aQ ((n:Int)*2^(min (Int.toNat (8:Int)) (IntKind.bits .i64)))) (aQ (c.toNat:Int))=((n*256+c.toNat:Nat):Int):=by
 have hc:=c.isLt;have e8:(2:Int)^(min (Int.toNat (8:Int)) (IntKind.bits .i64))=256:=by decide
 rw[e8,gM aB aB,gM aB aB];show aQ ((BitVec.ofInt 64 ((n:Int)*256) |||BitVec.ofInt 64 (c.toNat:Int)).toNat:Int)=_;have h1:BitVec.ofInt 64 ((n:Int)*256)=BitVec.ofNat 64 (n*256):=by
  rw[show(n:Int)*256=((n*256:Nat):Int) by omega,BitVec.ofInt_natCast]
 have h2:BitVec.ofInt 64 (c.toNat:Int)=BitVec.ofNat 64 c.toNat:=BitVec.ofInt_natCast ..;rw[h1,h2,BitVec.toNat_or,BitVec.toNat_ofNat,BitVec.toNat_ofNat,Nat.mod_eq_of_lt aB,Nat.mod_eq_of_lt aB];have:=Nat.shiftLeft_add_eq_or_of_lt (i:=8) (b:=c.toNat) aB n;rw[Nat.shiftLeft_eq,show(2:Nat)^8=256 from rfl] at this;rw[<-this];exact gM aB aB
section
variable{w:aH}{S:BS}{g:Nat}{l:List dA}{sp:Bool}
theorem Nq{K:aH->Prop}(h:tH g l sp w S)(hK:∀w',tH g l true w' S->Up S S w w'->K w'):aI prog xR ((⟨g,0,none⟩:Addr).add 1) (.bool true) w K:=by
 obtain⟨sl,S1,S2,h1,h2,d,e⟩:=h;refine pA h1 gV dL rfl rfl λw2 b2 u2=>?_;exact hK w2 ⟨sl,S1,S2,b2,bF.aK h2 u2.m λk hk lD=>d k lD hk,d,e⟩ (Up.at (u2.m.mono λk _ hk=>(e k).2 (.inl hk)))
theorem ji{n:Int}{Q:Sl->aH->Prop}(h:tH g l sp w S)(hl:l.length<=100000)
  (hQ:∀r out l' uN w' S',tH g l' uN w' S'->(∀k,S' k->S k)->Up S S' w w'->AX 1 eU r out w' (rC r)->(∀b,r.b=some b->w.heap.size<=b.block)->l'.length<=l.length->out.length<=l.length->(out.length:Int)<=max n 0->
   (∀a t,sp=false->l=a++t->n=a.length->out=a/\l'=t/\uN=false)->Q r w'):xZ (some ⟨g,0,none⟩) n w Q:=by
 unfold xZ;have h0:=h;obtain⟨sl,S1,S2,h1,h2,d,e⟩:=h;have ll:=h2.1.len;refine aF (λh=>by simp at h) (λ_=>aA rfl (aE (k:=.bool) sp (aO h1 rfl) (aF (λhs=>?_) (λhs=>?_))))
 ·have QC:sp=true:=hs
  exact hQ _ [] l sp w S h0 (λ_=>id) (Up.refl _ _) JK (λb hb=>by cases hb) (iT _) (iG _) (by simp;omega) λa t hf=>by rw[QC] at hf;cases hf
 have QC:sp=false:=hs;refine aJ (λhn=>aA rfl (Nq h0 λw1 h1 u1=>?_)) (λhn=>aA rfl (aE (k:=.slice) sl (aO h1 rfl) (aJ (λhn2=>aA rfl (Nq h0 λw1 h1 u1=>?_)) (λhn2=>?_))))
 ·exact hQ _ [] l true w1 S h1 (λ_=>id) u1 JK (λb hb=>by cases hb) (iT _) (iG _) (by simp;omega) λa t _ _ ha=>aB
 ·refine hQ _ [] l true w1 S h1 (λ_=>id) u1 JK (λb hb=>by cases hb) (iT _) (iG _) (by simp;omega) λa t _ ha hb=>?_
  have:=congrArg List.length ha;rw[mL] at this;omega
 obtain⟨m,rfl⟩:∃m:Nat,n=m:=⟨n.toNat,aB⟩;have Qj:=h2.1.cap;refine aA rfl (aE (k:=.slice) sl (aO h1 rfl) ⟨⟨aB,aB⟩,?_⟩);rw[kE];have hp:=h2.1.part (i:=0) (j:=m) (c:=sl.c) (iG _) aB aB (iT _);rw[List.drop_zero,Nat.sub_zero] at hp;refine vD (xs:=l.take m) (by simpa using hp) (by rw[pW];omega) λr w1 S3 v1 k1 f3 rd fr=>?_;have h1':=bF.kp h1 k1;refine aA rfl (aE (k:=.slice) sl (aO h1' rfl) ⟨⟨aB,aB⟩,aA rfl ?_⟩)
 let LF:Sl:=⟨aR sl.b sl.c m 1,sl.l-m,sl.c-m⟩
 refine pA (v:=sv LF) h1' TL dL rfl rfl λw2 b2 u2=>?_;have h2':=bF.aK (bF.kp h2 k1) u2.m λk hk lD=>d k lD hk;have hq:=h2'.1.part (i:=m) (j:=sl.l) (c:=sl.c) aB (iT _) aB (iT _);have dp:(l.drop m).take (sl.l-m)=l.drop m:=List.take_of_length_le (by rw[List.length_drop];omega);rw[dp] at hq;have hS:∀k,rC LF k->S2 k:=λk ⟨b,hb,e2⟩=>by
  obtain⟨a0,nq,eb⟩:=Om hb;exact(h2.2.2.2 k).2 ⟨a0,nq,by rw[e2,eb]⟩
 have hR:AX 1 eU LF (l.drop m) w2 (rC LF):=⟨hq,fI,λb hb=>bF.gH h2' _ (hS _ ⟨b,hb,rfl⟩),λ_=>Iff.rfl⟩;refine hQ r (l.take m) (l.drop m) sp w2 (λk=>S1 k\/rC LF k) ⟨LF,S1,_,b2,hR,λk hk lD=>d k hk (hS k lD),λ_=>Iff.rfl⟩ (λk hk=>(e k).2 (hk.imp id (hS k))) ⟨(k1.wk.trans u2.m λk _ hk=>(e k).2 (.inl hk)),λk hk=>.inl ((e k).2 (hk.imp id (hS k)))⟩
  ?_ fr dL (by rw[pW];omega) (by rw[pW];omega) λa t _ ha hb=>?_
 ·refine bF.aK rd u2.m λk ⟨b,hb,e2⟩ lD=>?_
  have:=fr b hb;have:=bF.gH h1 k lD;omega
 ·have hm:m=a.length:=aB
  rw[ha,hm,List.take_left,List.drop_left];exact⟨rfl,rfl,QC⟩
theorem Rj{sz:Nat}{Q:Int->aH->Prop}(h:tH g l sp w S)(hs:1<=sz/\sz<=7)(hl:l.length<=100000)
  (hQ:∀(x:Nat) l' uN w' S',tH g l' uN w' S'->(∀k,S' k->S k)->Up S S' w w'->l'.length<=l.length->x<256^sz->(∀v t,sp=false->l=be sz v++t->v<256^sz->x=v/\l'=t/\uN=false)->Q (x:Int) w'):fX (some ⟨g,0,none⟩) (sz:Int) w Q:=by
 unfold fX;intro J1 KJ;refine aJ (λh=>aB) (λ_=>aJ (λh=>aB) (λ_=>KJ _ _ ?_));refine ji h hl λr out l' uN w1 S1 h1 tO u1 rd fr Ke Ul hn hw=>?_;have hol:out.length<=sz:=aB;have rl:=rd.1.len;refine bO (λc t w2=>∃i:Nat,i<=out.length/\c=out.length-i/\t=(((de 0 (out.take i):Nat):Int),(i:Int),())/\w2=w1) out.length ⟨0,iG _,rfl,rfl,rfl⟩ ?_;rintro c t w2 ⟨i,hi,rfl,rfl,rfl⟩ X hX;dsimp only;refine aJ (λcJ=>?_) (λkT=>?_)
 ·have dJ:i<out.length:=aB
  have cV:=gS dJ;have rV:=FQ dJ;have IN:de 0 (out.take i)<256^6:=
   mD (de_lt (out.take i) 0 0 dL) (Nat.pow_le_pow_right aB (by rw[pW];omega))
  generalize out[i]=x at*;obtain⟨q,hq,hc⟩:=cF (k:=.int .u8) (e:=λb:dA=>(b.toNat:Int)) rd.1 cV;rw[kE];refine⟨⟨aB,cJ⟩,aA hq (aE (k:=.int .u8) _ hc ⟨aB,?_⟩)⟩;rw[or_byte IN,qA i aB];refine hX _ _ _ aB ⟨i+1,dJ,rfl,?_,rfl⟩;rw[rV];have:de 0 (out.take i++[x])=de 0 (out.take i)*256+x.toNat:=by unfold de;rw[List.foldl_append];rfl
  rw[this]
 ·have ei:i=out.length:=aB
  subst ei;rw[oZ];have hd:=de_lt out 0 0 dL;refine hQ _ l' uN w2 S1 h1 tO u1 Ke (mD hd (Nat.pow_le_pow_right aB aB)) λv t hsp dj hv=>?_;obtain⟨e1,e2,e3⟩:=hw _ t hsp dj (by rw[qN]);rw[e1,de_be sz 0 v hv];exact⟨aB,e2,e3⟩
theorem uw{Q:Int->aH->Prop}(h:tH g l sp w S)(hQ:∀x:Nat,(sp=false->x=l.length)->x<=l.length->Q (x:Int) w):HO (some ⟨g,0,none⟩) w Q:=by
 unfold HO;obtain⟨sl,S1,S2,h1,h2,d,e⟩:=h;refine aF (λh=>by simp at h) (λ_=>aA rfl (aE (k:=.bool) sp (aO h1 rfl) (aF (λhs=>?_) (λhs=>aA rfl (aE (k:=.slice) sl (aO h1 rfl) ?_)))))
 ·have QC:sp=true:=hs
  exact hQ 0 (λh=>by rw[QC] at h;cases h) (iG _)
 ·rw[h2.1.len];exact hQ l.length (λ_=>rfl) (iT _)
end
theorem jg{b:Sl}{bs:List dA}{w:aH}{Q:cL->aH->Prop}(hb:Rd w b 1 eU bs)(hl:bs.length<=100000)(hQ:∀g w' S',tH g bs false w' S'->aM w w'->(∀k,S' k->w.heap.size<=k)->Q (some ⟨g,0,none⟩) w'):pS b w Q:=by
 unfold pS;refine vD hb aB λr w1 S1 _ k1 _ rd fr=>?_;have z1:=k1.size;refine cC (cs:=[sv r,.bool false]) λw2 b2 k2 z2=>?_;refine hQ _ w2 _ ⟨r,aZ.vR b2 (bF.kp rd k2) λk hk ⟨b,hb,e⟩=>?_⟩ (k1.tr k2) λk hk=>hk.elim (λh=>aB) λ⟨b,hb,e⟩=>by have:=fr b hb;omega
 have:=rd.2.2.1 b hb;omega
def strB(xs:List dA):ByteArray:=(xs.map λb=>(b.toNat:Int)).foldl (λr n=>r.push (UInt8.ofNat n.toNat)) ByteArray.empty
theorem Xp{P:Program}{t e d:TypeId}(hs:P.underlying t=some (.slice e))(he:P.underlying e=some (.int .u8))(hd:P.underlying d=some .string){w:aH}{s:Sl}{xs:List dA}(hr:Rd w s 1 eU xs){K:ByteArray->aH->Prop}(hK:K (strB xs) w):
  qt P (.c .str) t d (Value.slice s.b s.l s.c) w K:=by
 obtain⟨sb,sl,sc⟩:=s;have hl:sl=xs.length:=hr.len;cases sb with
 |none=>
  have hn:xs=[]:=by
   cases xs with
   |nil=>rfl
   |cons x r=>obtain⟨a,ha,_⟩:=hr.get 0 x rfl;cases ha
  subst hn;exact⟨ByteArray.empty,w,run_convert_bytes_nil w t e hs he sl sc d hd,hK⟩
 |some a=>
  refine⟨strB xs,w,?_,hK⟩;have Ul:(loadCells a sl).run P w=.ok ((xs.map λb=>(b.toNat:Int)).map (Value.int .u8)).toArray w:=by
   have:=run_loadCells_list (P:=P) w a ((xs.map λb=>(b.toNat:Int)).map (Value.int .u8)) (λj v hj=>by
    rw[List.map_map,mG] at hj;cases hx:xs[j]? with
    |none=>rw[hx] at hj;cases hj
    |some x=>
     rw[hx] at hj;cases hj;obtain⟨q,hq,hc⟩:=cF (k:=.int .u8) (e:=λb:dA=>(b.toNat:Int)) hr hx;cases hq;rw[Nat.mul_one] at hc;exact hc)
   simpa [hl] using this
  rw[run_convert_bytes_string w t d e _ sl sc hs he hd,run_bytesToString w _ sl sc _ Ul]
  rfl
theorem ux{a b:Sl}{xs ys:List dA}{w:aH}{Q:Bool->aH->Prop}(ha:Rd w a 1 eU xs)(hb:Rd w b 1 eU ys)(hQ:∀c,(xs=ys->c=true)->Q c w):sO a b w Q:=by
 unfold sO;refine Xp (e:=Fm) CN.under iA iA ha (Xp (e:=Fm) CN.under iA iA hb (hQ _ λe=>?_));rw[e];exact beq_self_eq_true _
end
section
def Nu(w0:aH)(A:As)(w:aH):Prop:=(∃S,A w S/\∀k,S k->w0.heap.size<=k)/\aW (λk=>w0.heap.size<=k) w0 w
section
variable{w0 w w':aH}{A:As}{S S':BS}
theorem Nu.kp[bF A](h:Nu w0 A w)(k:aM w w'):Nu w0 A w':=by
 obtain⟨⟨S,a,s⟩,m⟩:=h;exact⟨⟨S,bF.kp a k,s⟩,m.trans k λ_ _ h=>h.elim⟩
theorem Nu.of(a:A w S)(hs:∀k,S k->w0.heap.size<=k)(k:aM w0 w):Nu w0 A w:=⟨⟨S,a,hs⟩,k.wk⟩
theorem Nu.up(m:aW (λk=>w0.heap.size<=k) w0 w)(hs:∀k,S k->w0.heap.size<=k)(u:Up S S' w w')(a:A w' S'):Nu w0 A w':=
 ⟨⟨S',a,λk hk=>(u.s k hk).elim (hs k) λh=>iF m.size h⟩,m.trans u.m λk _ hk=>hs k hk⟩
theorem Nu.aN(h:Nu w0 A w):aM w0 w:=(aW.refl (λ_=>False) w0).fresh h.2 λ_=>id
theorem Nu.size(h:Nu w0 A w):w0.heap.size<=w.heap.size:=h.2.size
end
abbrev eIv:Int->Value:=λx=>aD x
theorem mapIv:∀ns:List Int,ns.map eIv=ns.flatMap eI
 | []=>rfl
 |a::l=>by rw[List.map_cons,EY,mapIv l];rfl
section
variable{w0 w:aH}{g:Nat}{xs:List dA}{sp:Bool}
theorem NumsC{C:aH->Prop}{Q:cL->aH->Prop}{z:Int}(h:Nu w0 (Dh g xs sp) w)(sz:Nat)(ns:List Int)(hz:z=(sz:Int))(hs:1<=sz/\sz<=7)(fU:xs.length+ns.length*7<=900000)(hC:∀w1,aM w w1->C w1)
  (hQ:∀Ju uN w',Nu w0 (Dh g Ju uN) w'->Ju.length<=xs.length+ns.length*7->((∀x∈ns,0<=x/\x.toNat<256^sz)->uN=sp/\Ju=xs++ns.flatMap λx=>be sz x.toNat)->Q (some ⟨g,0,none⟩) w'):
  aG w (ns.map eIv).toArray cY λa w1=>C w1/\aU (some ⟨g,0,none⟩) z ⟨some a,ns.length,ns.length⟩ w1 Q:=by
 obtain⟨⟨S,a,s⟩,m⟩:=h;subst hz;refine cC λw1 b1 k1 z1=>⟨hC w1 k1,?_⟩;refine jk (bF.kp a k1) hs (iV fH ns b1 (mapIv ns) aB) (λb hb=>?_) fU λJu uN w' S' a' u' l' v'=>?_
 ·cases hb
  refine⟨λhS=>?_,by show w.heap.size<_;omega⟩;have:=bF.gH a _ hS;simp at this
 ·exact hQ Ju uN w' (Nu.up (m.trans k1 λ_ _ h=>h.elim) s u' a') l' v'
theorem NumsL{Q:cL->aH->Prop}{z:Int}(h:Nu w0 (Dh g xs sp) w)(sz:Nat)(ns:List Int)(hz:z=(sz:Int))(hs:1<=sz/\sz<=7)(fU:xs.length+ns.length*7<=900000)
  (hQ:∀Ju uN w',Nu w0 (Dh g Ju uN) w'->Ju.length<=xs.length+ns.length*7->((∀x∈ns,0<=x/\x.toNat<256^sz)->uN=sp/\Ju=xs++ns.flatMap λx=>be sz x.toNat)->Q (some ⟨g,0,none⟩) w'):
  aG w (ns.map eIv).toArray cY λa w1=>aU (some ⟨g,0,none⟩) z ⟨some a,ns.length,ns.length⟩ w1 Q:=by
 have:=NumsC (C:=λ_=>True) h sz ns hz hs fU (λ_ _=>trivial) hQ;simp only[true_and] at this;exact this
theorem RawN{Q:cL->aH->Prop}{b:Sl}{bs:List dA}(h:Nu w0 (Dh g xs sp) w)(hb:Rd w0 b 1 eU bs)(hl:xs.length+bs.length<=1000000)
  (hQ:∀w',Nu w0 (Dh g (xs++bs) sp) w'->Q (some ⟨g,0,none⟩) w'):CI (some ⟨g,0,none⟩) b w Q:=by
 obtain⟨⟨S,a,s⟩,m⟩:=h;exact WRaw_i a (hb.qe m fI) hl λw' S' a' u'=>hQ w' (Nu.up m s u' a')
theorem BytesN{Q:Sl->Int->aH->Prop}(h:Nu w0 (Dh g xs sp) w)(hb:xs.length<=1000000)
  (hQ:∀r w',aM w w'->Nu w0 (Dh g xs sp) w'->AX 1 eU r (if sp then [] else xs) w' (rC r)->(∀b,r.b=some b->w.heap.size<=b.block)->Q r (if sp then 1 else 0) w'):pE (some ⟨g,0,none⟩) w Q:=by
 have h0:=h;obtain⟨⟨S,a,s⟩,m⟩:=h;exact vo a hb λr w' k rd fr=>hQ r w' k (h0.kp k) rd fr
theorem newW{w0 w:aH}{K:Addr->aH->Prop}(k0:aM w0 w)(hK:∀w',Nu w0 (Dh w.heap.size [] false) w'->aM w w'->K ⟨w.heap.size,0,none⟩ w'):aG w #[Value.slice none 0 0,Value.bool false] Dp K:=by
 have z0:=k0.size;exact cC (cs:=[sv bD,.bool false]) λw1 b1 k1 z1=>hK w1 (Nu.of (S:=λk=>k=w.heap.size\/False) ⟨bD,aZ.vR b1 Dj λ_ _ h=>h⟩ (λk hk=>hk.elim (λh=>aB) False.elim) (k0.tr k1)) k1
end
theorem rj{w w0:aH}{s:Sl}{bs:List dA}{Q:Int->aH->Prop}(hr:Rd w s 1 eU bs)(hl:bs.length<=1000000)(hQ:∀w',aM w w'->Q ((xS bs).toNat:Int) w'):aG w #[Value.slice s.b s.l s.c] BP λa w1=>qX ⟨some a,1,1⟩ w1 Q:=
 cC (cs:=[sv s]) λw1 b1 k1 z1=>by
  refine Bk (ps:=[(s,bs)]) (iV (aY:=eUs) (λ_=>rfl) [(s,bs)] b1 rfl dL) (λp hp=>?_) dL (λp hp=>?_) ?_
  ·rw[uG.1 hp];exact hr.aK k1 fI λ_ _=>id
  ·rw[uG.1 hp];show bs.length<_;omega
  ·simpa using hQ w1 k1
theorem Wrap_i{kind:Int}{body:Sl}{bs:List dA}{w:aH}{Q:Sl->Int->aH->Prop}(hb:Rd w body 1 eU bs)(hl:bs.length<=100000)
  (hQ:∀r out e w',aM w w'->AX 1 eU r out w' (rC r)->(∀b,r.b=some b->w.heap.size<=b.block)->out.length<=3000->(0<=kind->kind<=255->bs.length<=2000->out=wJ kind bs/\e=0)->Q r e w'):zZ kind body w Q:=by
 unfold zZ;have bl:=hb.len;have UK:(¬(0<=kind/\kind<=255/\bs.length<=2000))->Q bD 1 w:=λh=>hQ _ [] 1 w (aW.refl _ _) JK (λb hb=>by cases hb) (iG _) λa b c=>absurd ⟨a,b,c⟩ h;refine aJ (λh=>UK λh2=>aB) (λh1=>aJ (λh=>UK λh2=>aB) (λh2=>aJ (λh=>UK λh2=>aB) (λh3=>?_)));refine newW (aW.refl _ w) λw1 n1 k1=>?_;refine NumsL n1 1 [77,3,kind] rfl aB dL λx2 sp2 w2 n2 _ v2=>?_;obtain⟨rfl,rfl⟩:=v2 (by intro x hx;simp at hx;omega);refine NumsL n2 2 [(body.l:Int)] rfl aB (by simp[qN]) λx3 sp3 w3 n3 _ v3=>?_;obtain⟨rfl,rfl⟩:=v3 (by intro x hx;simp at hx;omega);refine RawN n3 hb (by simp[qN];omega) λw4 n4=>?_;have e4:((([]++[77,3,kind].flatMap λx=>be 1 x.toNat)++[(body.l:Int)].flatMap λx=>be 2 x.toNat)++bs)=fQ kind bs:=by
  unfold fQ;simp[bl]
 rw[e4] at n4;have l4:(fQ kind bs).length=5+bs.length:=by rw[<-e4];simp[qN];omega
 refine BytesN n4 aB λr5 w5 k5 n5 Cz f5=>?_;refine rj (w0:=w) (bs:=fQ kind bs) Cz.1 aB λw6 k6=>?_;have n6:=n5.kp k6;have hs:(xS (fQ kind bs)).toNat<4294967296:=(xS (fQ kind bs)).isLt;rw[gM (n:=((xS (fQ kind bs)).toNat:Int)) aB aB];refine NumsL n6 4 [((xS (fQ kind bs)).toNat:Int)] rfl aB (by simp;omega) λx7 sp7 w7 n7 _ v7=>?_;obtain⟨rfl,rfl⟩:=v7 (by intro x hx;simp at hx;omega);have e7:(fQ kind bs++[((xS (fQ kind bs)).toNat:Int)].flatMap λx=>be 4 x.toNat)=wJ kind bs:=by unfold wJ;simp
 rw[e7] at n7;have l7:(wJ kind bs).length=9+bs.length:=by rw[<-e7,mL,l4];simp[qN];omega
 have z7:=n7.size;refine BytesN n7 aB λr8 w8 k8 n8 rd8 f8=>?_;exact hQ r8 _ 0 w8 n8.aN rd8 (λb hb=>by have:=f8 b hb;omega) (by simp;omega) λ_ _ _=>⟨rfl,rfl⟩
theorem Io(k:Int)(y:List dA):(wJ k y).length=9+y.length:=by unfold wJ fQ;simp[qN];omega
theorem Lw(k:Int)(y:List dA):(fQ k y).length=5+y.length:=by unfold fQ;simp[qN];omega
section
variable{w0 w:aH}{g:Nat}{l:List dA}{sp:Bool}
theorem RRawN{n:Int}{Q:Sl->aH->Prop}(h:Nu w0 (tH g l sp) w)(hl:l.length<=100000)
  (hQ:∀r out l' uN w',Nu w0 (aZ (tH g l' uN) (AX 1 eU r out)) w'->Nu w0 (tH g l' uN) w'->AX 1 eU r out w' (rC r)->(∀b,r.b=some b->w.heap.size<=b.block)->l'.length<=l.length->out.length<=l.length->(out.length:Int)<=max n 0->
   (∀a t,sp=false->l=a++t->n=a.length->out=a/\l'=t/\uN=false)->Q r w'):xZ (some ⟨g,0,none⟩) n w Q:=by
 obtain⟨⟨S,a,s⟩,m⟩:=h;refine ji a hl λr out l' uN w' S' a' QC u' rd fr h1 h2 h3 h4=>?_;have z:=m.size;refine hQ r out l' uN w' ⟨⟨λk=>S' k\/rC r k,aZ.vR a' rd λk hk ⟨b,hb,e⟩=>?_,λk hk=>hk.elim (λh=>s k (QC k h)) λ⟨b,hb,e⟩=>?_⟩,m.trans u'.m λk _ hk=>s k hk⟩ (Nu.up m s u' a') rd fr h1 h2 h3 h4
 ·have:=bF.gH a k (QC k hk);have:=fr b hb;omega
 ·have:=fr b hb;omega
theorem RNumN{sz:Nat}{z:Int}{Q:Int->aH->Prop}(h:Nu w0 (tH g l sp) w)(hz:z=(sz:Int))(hs:1<=sz/\sz<=7)(hl:l.length<=100000)
  (hQ:∀(x:Nat) l' uN w',Nu w0 (tH g l' uN) w'->aW (λk=>w0.heap.size<=k) w w'->l'.length<=l.length->x<256^sz->(∀v t,sp=false->l=be sz v++t->v<256^sz->x=v/\l'=t/\uN=false)->Q (x:Int) w'):fX (some ⟨g,0,none⟩) z w Q:=by
 obtain⟨⟨S,a,s⟩,m⟩:=h;subst hz;exact Rj a hs hl λx l' uN w' S' a' QC u' h1 h2 h3=>hQ x l' uN w' (Nu.up m s u' a') (u'.m.mono λk _ hk=>s k hk) h1 h2 h3
end
theorem Unwrap_i{b:Sl}{bs:List dA}{w:aH}{Q:Int->Sl->Int->aH->Prop}(hb:Rd w b 1 eU bs)(hl:bs.length<=100000)
  (hQ:∀kind s e body w',aM w w'->AX 1 eU s body w' (rC s)->(∀b,s.b=some b->w.heap.size<=b.block)->body.length<=bs.length->(∀k y,0<=k->k<=255->y.length<=2000->bs=wJ k y->kind=k/\body=y/\e=0)->(∀x r,bs=x::r->x≠BitVec.ofNat 8 77->¬e=0)->Q kind s e w'):vN b w Q:=by
 unfold vN;have bl:=hb.len;have UK:∀e w',¬e=0->aM w w'->(∀k y,0<=k->k<=255->y.length<=2000->bs=wJ k y->False)->Q 0 bD e w':=λe w' he k h=>hQ 0 _ e [] w' k ⟨Rd.nil _ _ _,fI,λb hb=>(by cases hb),λ_=>Iff.rfl⟩ (λb hb=>by cases hb) (iG _) (λk y a b c d=>(h k y a b c d).elim) λ_ _ _ _=>he;refine aJ (λh=>UK _ w (by decide) (aW.refl _ _) λk y _ _ _ e=>by have:=congrArg List.length e;rw[Io] at this;omega) (λfU=>?_);have h0:0<bs.length:=aB;have cV:=gS h0;have gF:∀k y,bs=wJ k y->bs[0]=BitVec.ofNat 8 77:=λk y e=>by
  subst e;rfl
 have hfst:∀x r,bs=x::r->bs[0]=x:=λx r e=>by subst e;rfl
 generalize bs[0]=x0 at*;obtain⟨q,hq,hc⟩:=cF (k:=.int .u8) (e:=λb:dA=>(b.toNat:Int)) hb cV;refine⟨⟨aB,aB⟩,aA hq (aE (k:=.int .u8) (x0.toNat:Int) hc (aF (λh=>UK _ w (by decide) (aW.refl _ _) λk y _ _ _ e=>?_) (λhx77=>?_)))⟩
 ·rw[gF k y e] at h;simp at h
 have hfirst:∀x r,bs=x::r->x≠BitVec.ofNat 8 77->False:=λx r e hx=>by
  have h1:=hfst x r e;subst h1;have h2:(x0.toNat:Int)=77:=by simpa using hx77
  exact hx (BitVec.eq_of_toNat_eq (by simp;omega))
 refine jg hb hl λg w1 S1 a1 k1 s1=>?_;have n1:Nu w (tH g bs false) w1:=Nu.of a1 s1 k1;refine RRawN n1 aB λr2 o2 l2 sp2 w2 _ n2 _ _ c2 _ _ v2=>?_;refine RNumN n2 (sz:=1) rfl aB aB λx3 l3 sp3 w3 n3 _ c3 b3 v3=>?_;refine RNumN n3 (sz:=1) rfl aB aB λx4 l4 sp4 w4 n4 _ c4 b4 v4=>?_;refine RNumN n4 (sz:=2) rfl aB aB λx5 l5 sp5 w5 n5 _ c5 b5 v5=>?_;have GB:∀k y,0<=k->k<=255->y.length<=2000->bs=wJ k y->(x3:Int)=3/\(x4:Int)=k/\(x5:Int)=y.length/\l5=y++be 4 (xS (fQ k y)).toNat/\sp5=false:=by
  intro k y k0 k1 hy e;have e':bs=be 1 77++(be 1 3++(be 1 k.toNat++(be 2 y.length++(y++be 4 (xS (fQ k y)).toNat)))):=by
   rw[e];unfold wJ fQ;simp only[sD]
  obtain⟨_,rfl,rfl⟩:=v2 _ _ rfl e' (by simp[qN]);obtain⟨rfl,rfl,rfl⟩:=v3 _ _ rfl rfl aB;obtain⟨rfl,rfl,rfl⟩:=v4 _ _ rfl rfl aB;obtain⟨rfl,rfl,rfl⟩:=v5 _ _ rfl rfl aB;exact⟨rfl,aB,rfl,rfl,rfl⟩
 have ew:aQ (aQ ((5:Int)+(x5:Int))+(4:Int))=(x5:Int)+9:=by rw[gM (n:=(5:Int)+(x5:Int)) aB aB,gM aB aB];omega
 rw[ew];refine aF (λh=>UK _ w5 (by decide) n5.aN λk y a b c e=>?_) (λh=>?_)
 ·obtain⟨_,_,e5,_⟩:=GB k y a b c e
  have:=congrArg List.length e;rw[Io] at this;simp at h;omega
 have KI:(b.l:Int)=(x5:Int)+9:=by simpa using h
 rw[gM (n:=(5:Int)+(x5:Int)) aB aB];refine RRawN n5 aB λs6 o6 l6 sp6 w6 n6' n6 rd6 f6 c6 d6 _ v6=>?_;have Qj:=hb.cap;refine⟨⟨aB,aB⟩,?_⟩;have et:Int.toNat ((5:Int)+(x5:Int))=5+x5:=aB;rw[et];have fact2:∀k y,0<=k->k<=255->y.length<=2000->bs=wJ k y->o6=y/\l6=be 4 (xS (fQ k y)).toNat/\sp6=false:=λk y a b c e=>by
  obtain⟨_,_,e5,e6,e7⟩:=GB k y a b c e;exact v6 _ _ e7 e6 e5
 have Fw:∀wx,aW (λk=>w.heap.size<=k) w wx->Rd wx ⟨aR b.b b.c 0 1,(5+x5)-0,b.c-0⟩ 1 eU (bs.take (5+x5)):=λwx m=>by
  have:=(hb.qe m fI).part (i:=0) (j:=5+x5) (c:=b.c) (iG _) aB aB (iT _);simpa using this
 have z5:=n5.size;have dR:∀(x7:Nat) wf,aM w wf->AX 1 eU s6 o6 wf (rC s6)->(∀v t,sp6=false->l6=be 4 v++t->v<256^4->x7=v)->cond ((x7:Int) !=(aQ (((xS (bs.take (5+x5))).toNat:Nat):Int))) (Q 0 bD 2 wf) (cond ((x3:Int) !=(3:Int)) (Q 0 bD 3 wf) (cond (decide ((x5:Int)>(2000:Int))) (Q 0 bD 2 wf) (Q x4 s6 0 wf))):=by
  intro x7 wf kf rdf v7;have hs:(xS (bs.take (5+x5))).toNat<4294967296:=(xS (bs.take (5+x5))).isLt;rw[gM (n:=((xS (bs.take (5+x5))).toNat:Int)) aB aB];refine aF (λh=>UK _ wf (by decide) kf λk y a b c e=>?_) (λ_=>aF (λh=>UK _ wf (by decide) kf λk y a b c e=>?_) (λ_=>aJ (λh=>UK _ wf (by decide) kf λk y a b c e=>?_) (λ_=>hQ _ s6 0 o6 wf kf rdf (λb hb=>by have:=f6 b hb;omega) aB (λk y a b c e=>?_) λx r hbx hx=>(hfirst x r hbx hx).elim)))
  ·obtain⟨_,_,e5,_⟩:=GB k y a b c e
   obtain⟨_,e6,e7⟩:=fact2 k y a b c e;have FP:(xS (fQ k y)).toNat<4294967296:=(xS (fQ k y)).isLt;have e8:=v7 _ [] e7 (by rw[tD];exact e6) aB;have e9:bs.take (5+x5)=fQ k y:=by
    rw[e,show 5+x5=(fQ k y).length by rw[Lw];omega];exact List.take_left
   rw[e9,e8] at h;simp at h
  ·obtain⟨e3,_⟩:=GB k y a b c e
   rw[e3] at h;simp at h
  ·obtain⟨_,_,e5,_⟩:=GB k y a b c e
   omega
  ·obtain⟨_,e4,_⟩:=GB k y a b c e
   exact⟨e4,(fact2 k y a b c e).1,rfl⟩
 have n6'd:=n6'.kp (bN w6);obtain⟨⟨S6,a6,s6'⟩,m6⟩:=n6'd;obtain⟨T1,T2,ar,ao,d6',e6'⟩:=a6;refine⟨?_,?_⟩
 ·refine Rj (sz:=4) ar aB aB λx7 l7 sp7 w7 S7 a7 _ u7 _ b7 v7=>?_
  have m7:aW (λk=>w.heap.size<=k) w w7:=m6.trans u7.m λk _ hk=>s6' k ((e6' k).2 (.inl hk));refine rj (w0:=w) (Fw w7 m7) (by rw[pW];omega) λw8 k8=>?_;have kk:aM w w7:=(aW.refl (λ_=>False) w).fresh m7 λ_=>id;have o7:=bF.aK ao u7.m λk hk lD=>d6' k lD hk;refine dR x7 w8 (kk.tr k8) (bF.kp ⟨o7.1,o7.2.1,o7.2.2.1,λ_=>Iff.rfl⟩ k8) λv t h1 h2 h3=>(v7 v t h1 h2 h3).1
 ·refine bK λw7 o7 k7 z7=>?_
  refine Rj (sz:=4) (bF.kp ar k7) aB aB λx8 l8 sp8 w8 S8 a8 _ u8 _ b8 v8=>?_;have m8:aW (λk=>w.heap.size<=k) w w8:=(m6.trans k7 λ_ _ h=>h.elim).trans u8.m λk _ hk=>s6' k ((e6' k).2 (.inl hk));have kk:aM w w8:=(aW.refl (λ_=>False) w).fresh m8 λ_=>id;have o8:=bF.aK (bF.kp ao k7) u8.m λk hk lD=>d6' k lD hk;have nb:¬T1 w6.drew.heap.size:=λh=>by have:=bF.gH ar _ h;simp at this
  have ow:cW w8 w6.drew.heap.size BP [sv ⟨aR b.b b.c 0 1,(5+x5)-0,b.c-0⟩]:=o7.aK u8.m nb;refine Bk (ps:=[(⟨aR b.b b.c 0 1,(5+x5)-0,b.c-0⟩,bs.take (5+x5))]) (iV (aY:=eUs) (S:=λk=>k=w6.drew.heap.size) (λ_=>rfl) [_] ⟨ow,λ_=>Iff.rfl⟩ rfl dL) (λp hp=>?_) dL (λp hp=>?_) ?_
  ·rw[uG.1 hp];exact Fw w8 m8
  ·rw[uG.1 hp];show(bs.take (5+x5)).length<_;rw[pW];omega
  ·simp only[EY,List.flatMap_nil,tD]
   exact dR x8 w8 kk ⟨o8.1,o8.2.1,o8.2.2.1,λ_=>Iff.rfl⟩ λv t h1 h2 h3=>(v8 v t h1 h2 h3).1
end
section
def sC(w0:aH)(g:Nat)(m:Nat)(e:TypeId)(mc:List Value)(V:Prop)(E:List dA)(N:Nat)(L:List (Nat×List Int))(w:aH):Prop:=
 ∃S xs sp,Dh g xs sp w S/\(∀k,S k->w0.heap.size<=k)/\aW (λk=>w0.heap.size<=k) w0 w/\(∀p∈L,cW w p.1 cY (p.2.map eIv)/\¬S p.1)/\(cW w m e mc/\¬S m)/\xs.length<=N/\(V->sp=false/\xs=E)
section
variable{w0 w w':aH}{g m N:Nat}{e:TypeId}{mc:List Value}{V:Prop}{E:List dA}{L:List (Nat×List Int)}
theorem sC.kp(h:sC w0 g m e mc V E N L w)(k:aM w w'):sC w0 g m e mc V E N L w':=by
 obtain⟨S,xs,sp,a,s,md,l,⟨o,om⟩,n,v⟩:=h;exact⟨S,xs,sp,bF.kp a k,s,md.trans k λ_ _ h=>h.elim,λp hp=>⟨(l p hp).1.aK k id,(l p hp).2⟩,⟨o.aK k id,om⟩,n,v⟩
theorem sC.cell(h:sC w0 g m e mc V E N L w){k:Nat}{v:Value}(hk:mc[k]? =some v):w.cell? ((⟨m,0,none⟩:Addr).add k)=some v:=by
 obtain⟨S,xs,sp,a,s,md,l,⟨o,om⟩,n,_⟩:=h;exact cM o hk
theorem sC.dr(h:sC w0 g m e mc V E N L w):sC w0 g m e mc V E N L w.drew:=h.kp (bN w)
theorem sC.alloc(h:sC w0 g m e mc V E N L w)(ns:List Int){K:Addr->aH->Prop}(hK:∀w',sC w0 g m e mc V E N ((w.heap.size,ns)::L) w'->K ⟨w.heap.size,0,none⟩ w'):aG w (ns.map eIv).toArray cY K:=by
 obtain⟨S,xs,sp,a,s,md,l,⟨o,om⟩,n,v⟩:=h;refine cC λw1 b1 k1 z1=>hK w1 ⟨S,xs,sp,bF.kp a k1,s,md.trans k1 λ_ _ h=>h.elim,λp hp=>?_,⟨o.aK k1 id,om⟩,n,v⟩;rcases lL.1 hp with rfl|hp
 ·exact⟨b1.1,λhS=>by have:=bF.gH a _ hS;simp at this⟩
 ·exact⟨(l p hp).1.aK k1 id,(l p hp).2⟩
theorem sC.Cc(h:sC w0 g m e mc V E N L w){b:Nat}{ns:List Int}(sz:Nat){z:Int}(hm:(b,ns)∈L)(hz:z=(sz:Int))(hs:1<=sz/\sz<=7)(fU:N+ns.length*7<=900000)(hr:V->∀x∈ns,0<=x/\x.toNat<256^sz){Q:cL->aH->Prop}
  (hQ:∀w',sC w0 g m e mc V (E++ns.flatMap λx=>be sz x.toNat) (N+ns.length*7) L w'->Q (some ⟨g,0,none⟩) w'):aU (some ⟨g,0,none⟩) z ⟨some ⟨b,0,none⟩,ns.length,ns.length⟩ w Q:=by
 obtain⟨S,xs,sp,a,s,md,l,⟨o,om⟩,n,v⟩:=h;subst hz;obtain⟨ob,hb⟩:=l _ hm;refine jk a hs (iV fH ns (S:=λk=>k=b) ⟨ob,λ_=>Iff.rfl⟩ (mapIv ns) aB) (λc hc=>?_) aB λJu uN w' S' a' u' l' v'=>hQ w' ⟨S',Ju,uN,a',λk hk=>(u'.s k hk).elim (s k) λh=>iF md.size h,md.trans u'.m λk _ hk=>s k hk,λp hp=>?_,?_,aB,λhV=>?_⟩
 ·cases hc
  exact⟨hb,ob.lt⟩
 ·refine⟨(l p hp).1.aK u'.m (l p hp).2,λhS=>(u'.s _ hS).elim (l p hp).2 λh=>?_⟩
  have:=(l p hp).1.lt;omega
 ·refine⟨o.aK u'.m om,λhS=>(u'.s _ hS).elim om λh=>?_⟩
  have:=o.lt;omega
 ·obtain⟨rfl,rfl⟩:=v hV
  exact v' (hr hV)
theorem sC.Jw(h:sC w0 g m e mc V E N L w){b:Sl}{bs:List dA}(hb:Rd w0 b 1 eU bs)(fU:N+bs.length<=900000){Q:cL->aH->Prop}
  (hQ:∀w',sC w0 g m e mc V (E++bs) (N+bs.length) L w'->Q (some ⟨g,0,none⟩) w'):CI (some ⟨g,0,none⟩) b w Q:=by
 obtain⟨S,xs,sp,a,s,md,l,⟨o,om⟩,n,v⟩:=h;refine WRaw_i a (hb.qe md fI) aB λw' S' a' u'=>hQ w' ⟨S',xs++bs,sp,a',λk hk=>(u'.s k hk).elim (s k) λh=>iF md.size h,md.trans u'.m λk _ hk=>s k hk,λp hp=>?_,?_,by rw[mL];omega,λhV=>?_⟩
 ·refine⟨(l p hp).1.aK u'.m (l p hp).2,λhS=>(u'.s _ hS).elim (l p hp).2 λh=>?_⟩
  have:=(l p hp).1.lt;omega
 ·refine⟨o.aK u'.m om,λhS=>(u'.s _ hS).elim om λh=>?_⟩
  have:=o.lt;omega
 ·obtain⟨rfl,rfl⟩:=v hV
  exact⟨rfl,rfl⟩
theorem sC.numsR(h:sC w0 g m e mc V E N L w){n:Sl}{ns:List Int}(sz:Nat){z:Int}(hn:Rd w0 n 1 eI ns)(hnb:∀b,n.b=some b->b.block<w0.heap.size)(hz:z=(sz:Int))(hs:1<=sz/\sz<=7)(fU:N+ns.length*7<=900000)(hr:V->∀x∈ns,0<=x/\x.toNat<256^sz){Q:cL->aH->Prop}
  (hQ:∀w',sC w0 g m e mc V (E++ns.flatMap λx=>be sz x.toNat) (N+ns.length*7) L w'->Q (some ⟨g,0,none⟩) w'):aU (some ⟨g,0,none⟩) z n w Q:=by
 obtain⟨S,xs,sp,a,s,md,l,⟨o,om⟩,nn,v⟩:=h;subst hz;have zz:=md.size;refine jk a hs (hn.qe md cR) (λb hb=>⟨λhS=>?_,by have:=hnb b hb;omega⟩) aB λJu uN w' S' a' u' l' v'=>hQ w' ⟨S',Ju,uN,a',λk hk=>(u'.s k hk).elim (s k) λh=>iF md.size h,md.trans u'.m λk _ hk=>s k hk,λp hp=>?_,?_,aB,λhV=>?_⟩
 ·have:=s _ hS;have:=hnb b hb;omega
 ·refine⟨(l p hp).1.aK u'.m (l p hp).2,λhS=>(u'.s _ hS).elim (l p hp).2 λh=>?_⟩
  have:=(l p hp).1.lt;omega
 ·refine⟨o.aK u'.m om,λhS=>(u'.s _ hS).elim om λh=>?_⟩
  have:=o.lt;omega
 ·obtain⟨rfl,rfl⟩:=v hV
  exact v' (hr hV)
theorem sC.bytes(h:sC w0 g m e mc V E N L w)(hN:N<=900000){Q:Sl->Int->aH->Prop}
  (hQ:∀r out (er:Int) w',sC w0 g m e mc V E N L w'->AX 1 eU r out w' (rC r)->(∀b,r.b=some b->w0.heap.size<=b.block)->out.length<=N->(V->out=E/\er=0)->Q r er w'):pE (some ⟨g,0,none⟩) w Q:=by
 have h0:=h;obtain⟨S,xs,sp,a,s,md,l,om,n,v⟩:=h;have zz:=md.size;refine vo a aB λr w' k rd fr=>hQ r _ _ w' (h0.kp k) rd (λb hb=>by have:=fr b hb;omega) ?_ λhV=>?_
 ·cases sp with
  |true=>exact iG _
  |false=>exact n
 ·obtain⟨rfl,rfl⟩:=v hV
  exact⟨rfl,rfl⟩
theorem sC.aN(h:sC w0 g m e mc V E N L w):aM w0 w:=by
 obtain⟨S,xs,sp,a,s,md,l,om,n,v⟩:=h;exact(aW.refl (λ_=>False) w0).fresh md λ_=>id
theorem sC.new{K:Addr->aH->Prop}(k0:aM w0 w)(o:cW w m e mc)(hK:∀w',sC w0 w.heap.size m e mc V [] 0 [] w'->K ⟨w.heap.size,0,none⟩ w'):aG w #[Value.slice none 0 0,Value.bool false] Dp K:=by
 have z0:=k0.size;have ol:=o.lt;refine cC (cs:=[sv bD,.bool false]) λw1 b1 k1 z1=>hK w1 ⟨λk=>k=w.heap.size\/False,[],false,⟨bD,aZ.vR b1 Dj λ_ _ h=>h⟩,λk hk=>hk.elim (λh=>aB) False.elim,(k0.tr k1).wk,λp hp=>(by cases hp),⟨o.aK k1 id,λhk=>hk.elim (λh=>aB) id⟩,iT _,λ_=>⟨rfl,rfl⟩⟩
end
end
end Go.Proofs.YtihggjgakbgomaaGreat
