import Derived.Test.YtihggjgakbgomaaGreatA1
import Derived.Test.YtihggjgakbgomaaGreatF1
import Derived.Test.YtihggjgakbgomaaGreatQ3
import Derived.Test.YtihggjgakbgomaaGreatQ1
import Derived.Test.YtihggjgakbgomaaGreatQ2
import Derived.Test.YtihggjgakbgomaaGreatA2
import Derived.Test.YtihggjgakbgomaaGreatF2
namespace Go.Proofs.YtihggjgakbgomaaGreat
open Go Go.Den
structure qO where
 e:Nat
 t:Mb
 L:Mc
 ord:Sl
abbrev Gr.A(G:Gr):List bO:=(cW G.m G.LM G.m).all
abbrev Gr.R(G:Gr):List Int:=(cW G.m G.LM G.m).iZ
structure zT(w:aH)(E:qO)(G:Gr):Prop where
 head:cU w E.e St [.pointer (some ⟨E.t.t,0,none⟩),.pointer (some ⟨E.L.gl,0,none⟩),sv E.ord]
 RQ:sF w E.t G
 lev:oS w E.L G.m (Gr.A G) (Gr.R G)
 ord:∃os:List Int,Rd w E.ord 1 eI os/\os.length=G.m/\∀i,i<G.m->∃v:Nat,v<G.m/\os[i]? =some (v:Int)/\cB (Gr.R G) (v:Int)=(G.m:Int)-1-i
 oty:Ty w E.ord
theorem zT.aO{w w':aH}{E:qO}{G:Gr}(h:zT w E G)(k:aL w w'):zT w' E G:=by
 obtain⟨os,h1,h2⟩:=h.ord;exact⟨h.head.aK k id,h.RQ.aO k,h.lev.aO k,⟨os,h1.aK k cI λ_ _=>id,h2⟩,h.oty.aO k⟩
theorem zT.cells{w:aH}{E:qO}{G:Gr}(h:zT w E G):w.cell? ((⟨E.e,0,none⟩:Addr).add 0)=some (.pointer (some ⟨E.t.t,0,none⟩))/\w.cell? ((⟨E.e,0,none⟩:Addr).add 1)=some (.pointer (some ⟨E.L.gl,0,none⟩))/\w.cell? ((⟨E.e,0,none⟩:Addr).add 2)=some (sv E.ord):=qN h.head
theorem ENew_i{g:GT}{G:Gr}{W:aH}{Q:cR->Int->aH->Prop}(h:GQ W g G)(ok:sS G)(hQ:∀E w',zT w' E G->aL W w'->Q (some ⟨E.e,0,none⟩) 0 w'):vX g W Q:=by
 unfold vX;have hm:=ok.m1;refine bD λw1 o1 k1 z1=>?_;refine aX (l:=[.slice,.slice,.slice]) g (mJ (g:=g) o1) ?_;refine gNew_i (g:=g) (h.aO k1) ok λH w2 hH k2 _=>?_;refine aF (λh=>by simp at h) (λ_=>?_);refine TNew_i hH λt w3 ht htH k3=>?_;subst htH;refine aA rfl (aE (k:=.ptr) (some ⟨t.H.g,0,none⟩) ht.cells.1 (tQ ht.IS ?_));refine Arcs_i ht λs1 w5 v5 k5 f5=>?_;have hal:=G.Yw hm.2;refine KG (p:=λx=>x.f==x.t) (C:=λ_=>True) v5 aB trivial (λ_ _ _ _=>trivial) (λx w K _ _ hK=>?_) λs2 w6 v6 m6 e6=>?_
 ·refine pI Dh iT (gN (ks:=[.agg [.i,.i,.i,.i]]) (t:=(nM x,())) ?_);show tX _ _ _;unfold tX;refine bD λwa oa ka _=>?_;have oa':cU wa w.heap.size iA (dU x):=oa;exact aE (k:=.i) x.f (qJ oa').1 (aE (k:=.i) x.t (qJ oa').2.1 (hK wa ka))
 have hnet:(G.AB.filter λx=>!(x.f==x.t))=G.LM:=rfl;rw[hnet] at v6;have k36:aL w3 w6:=k5.fresh m6 λk ⟨b,hb,e⟩=>by rw[e];exact f5 b hb
 have hnl:G.LM.length<=2601:=iR (zL _ _) hal;refine New_i (v6.rd jJ) aB (λw7 k7 SJ=>?_) λw7 N n0 n1 sW hN k7 _=>?_
 ·exact absurd ⟨aB,aB,λa ha=>by rw[dW];exact(ok.WI a ha).1⟩ SJ
 rw[dW,NI (p:=[]) (by simpa using ok.TG),List.nil_append] at hN;have d7:aL w7 w7.drew:=aU.drew (aU.refl _ w7);have k37:=(k36.tr k7).tr d7;have ht7:=ht.aO k37;refine aA rfl (aE (k:=.ptr) (some ⟨t.H.g,0,none⟩) ht7.cells.1 ?_);have km:∀e∈G.LM,e.w<=40:=λe he=>(ok.WI e he).2.1;refine Build_i (hN.aO d7) hm.2 km λw8 HL hL k8 _=>?_;have hL':oS w8 HL G.m (Gr.A G) (Gr.R G):=hL;clear hL;have k38:=k37.tr k8;have ht8:=ht.aO k38;refine⟨ht8.cells.1,tQ ht8.IS ?_⟩;refine wW iK (aY:=eI) (0:Int) rfl eX aB (lK _) aB aB λeZ v10 IP=>?_;simp only[dW] at v10 ⊢;refine bD λeN o11 LA z11=>?_;have z10:w8.heap.size<eZ.heap.size:=v10.lt rfl;generalize Ci:(⟨some ⟨w8.heap.size,0,none⟩,G.m,G.m⟩:Sl)=s3 at*;have s3b:s3.b=some ⟨w8.heap.size,0,none⟩:=by rw[<-Ci]
 have o11':cU eN eZ.heap.size St [.pointer (some ⟨t.t,0,none⟩),.pointer (some ⟨HL.gl,0,none⟩),sv s3]:=by have:=o11;rw[<-Ci];exact this
 have k811:=IP.tr LA;have hL11:=hL'.aO k811;have ht11:=ht8.aO k811;have c11:=qN o11';refine aE (k:=.slice) s3 c11.2.2 ?_;have v11:=v10.aK LA λ_ _=>id;have iq:∀v:Int,0<=v->v<G.m->0<=cB (Gr.R G) v/\cB (Gr.R G) v<G.m:=λv h0 h1=>Hr ok.TG km hm.2 h0 h1;have rne:∀v w:Nat,v<G.m->w<G.m->v≠w->cB (Gr.R G) (v:Int)≠cB (Gr.R G) (w:Int):=λv w hv hw gK=>En ok.TG km hm.2 aB aB aB aB aB;have ronto:∀{r:Nat},r<G.m->∃v:Nat,v<G.m/\cB (Gr.R G) (v:Int)=(r:Int):=λhr=>rank_onto ok.TG km hm.2 hr;have s3l:s3.l=G.m:=by rw[<-Ci]
 have KW8:=k1.tr (k2.tr (k3.tr k38));clear hnl hL11 ht11 c11;generalize hRR:Gr.R G=R at*;refine bL (λc s eE=>∃(v:Nat) (os:List Int),v<=G.m/\c=G.m-v/\s=((v:Int),())/\aL w8 eE/\cU eE eZ.heap.size St [.pointer (some ⟨t.t,0,none⟩),.pointer (some ⟨HL.gl,0,none⟩),sv s3]/\dD eE dG 1 eI s3 os/\os.length=G.m/\
   ∀u:Nat,u<v->os[((G.m:Int)-1-cB R (u:Int)).toNat]? =some (u:Int)) G.m ⟨0,_,dE _,rfl,rfl,k811,o11',v11,by simp,λu hu=>aB⟩ ?_
 rintro c s eE ⟨v,os,hv,rfl,rfl,GA,Ds,Ce,gD,hos⟩ X hX;dsimp only;refine aJ (λcC=>?_) (λkC=>?_)
 ·have jZ:v<G.m:=aB;have d12:aL eE eE.drew:=aU.drew (aU.refl _ eE);have kd:=GA.tr d12;have od:=Ds.aK d12 id;obtain⟨c0,c1,c2⟩:=qN od;have htd:=ht8.aO kd;have hLd:=hL'.aO kd;refine aE (k:=.slice) s3 c2 (aA rfl (aE (k:=.ptr) (some ⟨t.H.g,0,none⟩) htd.cells.1 (aE (k:=.ptr) (some ⟨HL.gl,0,none⟩) c1 (tQ htd.IS ⟨c1,c2,?_⟩))));refine Hk hLd ⟨c2,?_⟩;obtain⟨r0,r1⟩:=iq (v:Int) aB aB;have wi:aQ ((aQ ((G.m:Int)-(1:Int)))-cB R (v:Int))=(((G.m:Int)-1-cB R (v:Int)).toNat:Int):=by
   rw[gZ (n:=(G.m:Int)-1) aB aB,gZ aB aB];omega
  rw[wi,dW];have hil:((G.m:Int)-1-cB R (v:Int)).toNat<G.m:=aB;refine⟨⟨aB,aB⟩,aA s3b ?_⟩;refine(Ce.aK d12 λ_ _=>id).store eX s3b (i:=((G.m:Int)-1-cB R (v:Int)).toNat) aB (v:Int) (v:=aD (v:Int)) rfl cZ (FC _) λgT v13 iu _=>?_;have m13':aU (λk=>k=w8.heap.size) eE.drew gT:=iu;rw[pP v aB];refine hX _ _ _ aB ⟨v+1,_,jZ,rfl,rfl,kd.fresh m13' λk e=>by rw[show k=w8.heap.size from e];exact dL _,od.aK m13' λe=>by have e':eZ.heap.size=w8.heap.size:=e;omega,v13,by rw[nN];exact gD,λu hu=>?_⟩;rw[jA]
  by_cases e:u=v
  ·subst e;rw[if_pos rfl,if_pos aB]
  ·have gK:=rne u v aB jZ e;obtain⟨q0,q1⟩:=iq (u:Int) aB aB;rw[if_neg aB];exact hos u aB
 ·have ev:v=G.m:=aB;subst ev;subst hRR;refine hQ ⟨eZ.heap.size,t,HL,s3⟩ eE ⟨Ds,ht8.aO GA,hL'.aO GA,⟨os,Ce.rd eX,gD,λi hi=>?_⟩,dD.Lf Ce ⟨by decide,by decide⟩⟩ (KW8.tr GA);obtain⟨u,hu,hr⟩:=ronto (r:=G.m-1-i) aB;have:=hos u hu;rw[hr,show((G.m:Int)-1-((G.m-1-i:Nat):Int)).toNat=i by omega] at this;exact⟨u,hu,this,by rw[hr];omega⟩
open Tryz (prog)
theorem far_i{E:qO}{G:Gr}{node:Int}{W:aH}{Q:Sl->aH->Prop}(h:zT W E G)(hQ:∀s ds w',G.oK [] node ds->dD w' dG 1 eI s ds->aL W w'->(∀b,s.b=some b->W.heap.size<=b.block)->(∀(v:Nat) x,ds[v]? =some x->-1<=x/\x<=102*BW)->Q s w'):
  XJ (some ⟨E.e,0,none⟩) node W Q:=by
 unfold XJ;have ok:=h.RQ.IS.ok;have hm:=ok.m1;have km:∀e∈G.LM,e.w<=40:=λe he=>(ok.WI e he).2.1;have iq:∀v:Int,0<=v->v<G.m->0<=cB (Gr.R G) v/\cB (Gr.R G) v<G.m:=λv h0 h1=>Hr ok.TG km hm.2 h0 h1;have rne:∀v w:Nat,v<G.m->w<G.m->v≠w->cB (Gr.R G) (v:Int)≠cB (Gr.R G) (w:Int):=λv w hv hw gK=>En ok.TG km hm.2 aB aB aB aB aB;have hA:=h.lev.LM.ok;have d:aL W W.drew:=aU.drew (aU.refl _ W);have hd:=h.aO d;refine aA rfl (aE (k:=.ptr) (some ⟨E.L.gl,0,none⟩) hd.cells.2.1 (aA rfl (aE (k:=.ptr) (some ⟨E.t.t,0,none⟩) hd.cells.1 (aA rfl (aE (k:=.ptr) (some ⟨E.t.H.g,0,none⟩) hd.RQ.cells.1 ?_)))));refine gIn_i hd.RQ.IS λs1 w1 v1 k1 f1=>?_;have K1:=d.tr k1;have h1:=h.aO K1;refine⟨h1.cells.2.1,?_⟩;unfold FO;refine sdown_i h1.lev hm.2 (v1.rd eX) (by have:=G.ym node;omega) λs2 sb ds bs w2 hG v2 _ k2 f2 _=>?_;have K2:=K1.tr k2;have h2:=h.aO K2;have hz:=K1.size;refine aA rfl (aE (k:=.slice) E.ord h2.cells.2.2 ?_);obtain⟨os,ho,hol,hos⟩:=h.ord;have ub:=ho.len;rw[hol] at ub;have F0:Md G.m (Gr.A G) (Gr.R G) (GW (vJ G.m (G.Ux node)) (DZ (Gr.A G) (Gr.R G)) (λe=>e.f)) 0 ds:=Md.start hG.oK (λv h0 h1=>(iq v h0 h1).2) hG.gX;generalize hDn:GW (vJ G.m (G.Ux node)) (DZ (Gr.A G) (Gr.R G)) (λe=>e.f)=Dn at F0;clear hG;have JB:∀b,s2.b=some b->W.heap.size<=b.block:=λb hb=>iR hz (f2 b hb);refine bL (λc s w3=>∃(i:Nat) (ds:List Int),i<=G.m/\c=G.m-i/\s=((i:Int),())/\aL W w3/\dD w3 dG 1 eI s2 ds/\Md G.m (Gr.A G) (Gr.R G) Dn i ds) G.m ⟨0,ds,dE _,rfl,rfl,K2,v2,F0⟩ ?_;clear F0 v2 ds h2;rintro c s w3 ⟨i,ds,hi,rfl,rfl,k3,v3,F⟩ X hX;dsimp only;refine aJ (λcC=>?_) (λkC=>?_)
 ·have dJ:i<G.m:=aB;obtain⟨v,hv,ft,hrv⟩:=hos i dJ;obtain⟨p,hp,hc⟩:=bP (k:=.i) (e:=λx=>x) (ho.aK k3 cI λ_ _=>id) ft;have h3:=h.aO k3;rw[dW];refine⟨⟨aB,cC⟩,aA hp (aE (k:=.i) (v:Int) hc (aA rfl (aE (k:=.ptr) (some ⟨E.L.gl,0,none⟩) h3.cells.2.1 ?_)))⟩;refine Up_i h3.lev λs4 w4 v4 k4 f4=>?_;have l4:=v4.len;have hul:(upL (Gr.A G) (Gr.R G) (v:Int)).length<=262144:=iR (zL _ _) (iR (zL _ _) (hA.len aB));obtain⟨g2,Al⟩:∃g2,s2.b=some ⟨g2,0,none⟩:=by
   rcases v3.gR with⟨_,hh⟩|⟨g,_,hb,_⟩
   ·have:=v3.cap;have:=v3.len;have:=F.len;omega
   ·exact⟨g,hb⟩
  have g2lt:g2<w3.heap.size:=v3.lt Al;have f4':∀b,s4.b=some b->b.block≠g2:=λb hb=>by have:=f4 b hb;omega
  have g2low:W.heap.size<=g2:=JB _ Al;have hupm:∀e∈upL (Gr.A G) (Gr.R G) (v:Int),FD G.m e/\cB (Gr.R G) (v:Int)<cB (Gr.R G) e.t:=λe he=>by
   unfold upL at he;rw[jI,eL] at he;exact⟨hA.vF e he.1.1,by simpa using he.2⟩
  obtain⟨x0,Lj⟩:∃x0,ds[v]? =some x0:=⟨_,cM (by rw[F.len];exact hv)⟩;have hL0:gM (λd=>Dn (v:Int) d\/∃e∈(upL (Gr.A G) (Gr.R G) (v:Int)).take 0,∃d',UPD (Gr.A G) (Gr.R G) Dn e.t d'/\d=e.w+d') x0:=(F.dn v x0 Lj aB).congr λk=>by simp
  have hb0:=F.gX v x0 Lj;have hset0:ds.set v x0=ds:=by
   apply yG;intro j;rw[jA]
   by_cases e:v=j
   ·subst e;rw[if_pos rfl,if_pos (by rw[F.len];exact hv),Lj]
   ·rw[if_neg e]
  generalize hU:upL (Gr.A G) (Gr.R G) (v:Int)=us at*;refine bL (λc s w5=>∃(j:Nat) (x:Int),j<=us.length/\c=us.length-j/\s=((j:Int),())/\aL W w5/\dD w5 dG 1 eI s2 (ds.set v x)/\dD w5 iA 4 dU s4 us/\(-1<=x/\x<=(G.m+(i+1:Nat))*BW)/\
    gM (λd=>Dn (v:Int) d\/∃e∈us.take j,∃d',UPD (Gr.A G) (Gr.R G) Dn e.t d'/\d=e.w+d') x) us.length
   ⟨0,x0,dE _,rfl,rfl,k3.tr k4,by rw[hset0];exact v3.aK k4 λ_ _=>id,v4,⟨hb0.1,by simp only[BW] at*;omega⟩,hL0⟩ ?_
  rintro c s w5 ⟨j,x,hj,rfl,rfl,k5,v5,v4',hbx,hL⟩ Y hY;dsimp only;refine aJ (λSF=>?_) (λWa=>?_)
  ·have qP:j<us.length:=aB;have cQ:=cM qP;obtain⟨sW,hrk⟩:=hupm _ (mX qP);have sC:=mM qP;generalize us[j]=e at*;obtain⟨pa,hpa,hh⟩:=vO (v4'.rd jJ) cQ;rw[dW];refine⟨⟨aB,SF⟩,aA hpa (aX (nM e) hh ?_)⟩;refine CQ (x:=e) λw7 k7 o7 _=>?_;refine aE (k:=.i) e.t (qJ o7).2.1 ?_;have k57:=k5.tr k7;have v7:=v5.aK k7 λ_ _=>id;have hvt:v≠e.t.toNat:=λh=>by
    have:e.t=(v:Int):=by have:=sW.2.2.1;omega
    rw[this] at hrk;omega
   obtain⟨y,hy⟩:∃y,ds[e.t.toNat]? =some y:=⟨_,cM (by rw[F.len];have:=sW.2.2.1;have:=sW.2.2.2.1;omega)⟩;have hyt:(e.t.toNat:Int)=e.t:=iw sW.2.2.1;have hLy:=F.up e.t.toNat y hy (by rw[hyt];omega);rw[hyt] at hLy;have hby:=F.gX _ y hy;have hys:(ds.set v x)[e.t.toNat]? =some y:=by rw[jA,if_neg hvt];exact hy
   have Fk:(ds.set v x)[v]? =some x:=by rw[jA,if_pos rfl,if_pos (by rw[F.len];exact hv)]
   obtain⟨p1,tz,gf⟩:=bP (k:=.i) (e:=λx=>x) (v7.rd eX) hys;have l7:=v7.len;rw[nN,F.len] at l7;have Uy:=sW.2.2.2.2.2.1;have hw2:=sW.2.2.2.2.2.2.1;have JB:=hL.lower hLy (w:=e.w) aB;have hcon:∀z,gM (λd=>(Dn (v:Int) d\/∃e∈us.take j,∃d',UPD (Gr.A G) (Gr.R G) Dn e.t d'/\d=e.w+d')\/∃d',UPD (Gr.A G) (Gr.R G) Dn e.t d'/\d=e.w+d') z->gM (λd=>Dn (v:Int) d\/∃e∈us.take (j+1),∃d',UPD (Gr.A G) (Gr.R G) Dn e.t d'/\d=e.w+d') z:=λz hz=>hz.congr λk=>by
    rw[sC]
    constructor
    ·rintro((h1|⟨e',uK,h1⟩)|h1)
     ·exact .inl h1
     ·exact .inr ⟨e',kE.2 (.inl uK),h1⟩
     ·exact .inr ⟨e,by simp,h1⟩
    ·rintro(h1|⟨e',uK,h1⟩)
     ·exact .inl (.inl h1)
     ·rcases kE.1 uK with uK|uK
      ·exact .inl (.inr ⟨e',uK,h1⟩)
      ·have:e'=e:=by simpa using uK
       rw[this] at h1;exact .inr h1
   have It:0<=e.t/\e.t<(s2.l:Int):=⟨sW.2.2.1,by rw[l7];exact sW.2.2.2.1⟩;have Iv:0<=(v:Int)/\(v:Int)<(s2.l:Int):=⟨aB,by rw[l7];omega⟩;have o7':=qJ o7;refine⟨It,aA tz (aE (k:=.i) y gf ?_)⟩;have same:∀wz,aL w7 wz->¬(0<=y/\(x<0\/y+e.w<x))->Y (aQ ((j:Int)+1),()) wz:=λwz kz hn=>by
    rw[if_neg hn] at JB;rw[pP j aB];exact hY _ _ _ aB ⟨j+1,x,qP,rfl,rfl,k57.tr kz,v7.aK kz λ_ _=>id,(v4'.aK k7 λ_ _=>id).aK kz λ_ _=>id,hbx,hcon _ JB⟩
   have d7:aL w7 w7.drew:=aU.drew (aU.refl _ w7);have LG:y+e.w<=(G.m+(i+1:Nat))*BW:=by simp only[BW] at*;omega
   have wsm:0<=y->aQ (y+e.w)=y+e.w:=λh0=>gZ aB (by simp only[BW] at*;omega);have put:0<=y->(x<0\/y+e.w<x)->aI prog dG ((⟨g2,0,none⟩:Addr).add (v*1)) (aD (y+e.w)) w7.drew λw8=>Y (aQ ((j:Int)+1),()) w8:=λh0 hlt3=>by
    rw[if_pos ⟨h0,hlt3⟩] at JB;refine(v7.aK d7 λ_ _=>id).store eX Al (i:=v) (by rw[nN,F.len];exact hv) (y+e.w) (v:=aD (y+e.w)) rfl cZ (FC _) λw8 v8 m8 _=>?_;have m8':aU (λk=>k=g2) w7.drew w8:=m8;rw[List.set_set] at v8;rw[pP j aB];refine hY _ _ _ aB ⟨j+1,y+e.w,qP,rfl,rfl,(k57.tr d7).fresh m8' λk e=>by rw[show k=g2 from e];exact g2low,v8,((v4'.aK k7 λ_ _=>id).aK d7 λ_ _=>id).aK m8' λb hb e=>f4' b hb e,⟨aB,LG⟩,hcon _ JB⟩
   refine aJ (λh0=>?_) (λh0=>same _ d7 λhh=>h0 hh.1);have Lb:0<=y:=h0;obtain⟨p2,Cj,PO⟩:=bP (k:=.i) (e:=λx=>x) ((v7.aK d7 λ_ _=>id).rd eX) Fk;have ow:∀{q:Addr},w7.cell? q=some (aD e.w)->w7.drew.cell? q=some (aD e.w):=λhq=>d7.cell hq id;rw[dW];refine⟨Iv,aA Cj (aE (k:=.i) x PO ?_)⟩;refine aJ (λDE=>?_) (λhnn=>?_)
   ·refine aE (k:=.i) e.w (ow o7'.2.2.1) ?_;rw[wsm Lb];exact⟨Iv,aA Al (put Lb (.inl DE))⟩
   ·refine aE (k:=.i) e.w (ow o7'.2.2.1) ⟨Iv,aA Cj (aE (k:=.i) x PO ?_)⟩;rw[wsm Lb];refine aJ (λhlt4=>?_) (λhge4=>same _ d7 λhh=>hh.2.elim hnn hge4);refine aE (k:=.i) e.w (ow o7'.2.2.1) ?_;rw[wsm Lb];exact⟨Iv,aA Al (put Lb (.inr hlt4))⟩
  ·have ej:j=us.length:=aB;subst ej;rw[oI] at hL;rw[pP i aB];refine hX _ _ _ aB ⟨i+1,_,dJ,rfl,rfl,k5,v5,F.step rne hv hrv (hL.congr λk=>by rw[<-hU];exact upd_iff.symm) hbx⟩
 ·have ei:i=G.m:=aB;subst ei;have hf:=F.done λv h0 h1=>(iq v h0 h1).1;rw[<-hDn] at hf;exact hQ s2 ds w3 (ok.qk hf) v3 k3 JB λv x hx=>by have:=F.gX v x hx;simp only[BW] at*;omega
theorem IndexI_i{s:Sl}{xs:List Int}{f:Value}{p:Int->Bool}{w:aH}{Q:Int->aH->Prop}{C:aH->Prop}(hs:Rd w s 1 eI xs)(hl:xs.length<1000000)(hC:C w)(gh:∀w1 w2,C w1->aL w1 w2->C w2)
  (hf:∀x w1 (K:WQ Value),C w1->x∈xs->(∀w2,aL w1 w2->K (.bool (p x)) w2)->lI prog f [aD x] w1 K)
  (hQ:∀i w',aL w w'->(0<=i↔∃x∈xs,p x=true)->Q i w'):iN s f w Q:=by
 unfold iN;have sl:=hs.len;refine bL (λc t w1=>∃(i:Nat),i<=xs.length/\c=xs.length-i/\t=((i:Int),())/\aL w w1/\∀x∈xs.take i,p x=false) xs.length ⟨0,dE _,rfl,rfl,aU.refl _ _,by simp⟩ ?_;rintro c t w1 ⟨i,hi,rfl,rfl,k1,hn⟩ X hX;dsimp only;refine aJ (λcC=>?_) (λkC=>?_)
 ·have dJ:i<xs.length:=aB;have cQ:=cM dJ;have gF:=mX dJ;have sC:=mM dJ;generalize xs[i]=x at*;obtain⟨q,hq,hc⟩:=bP (k:=.i) (e:=λx=>x) (hs.aK k1 cI λ_ _=>id) cQ;rw[dW];refine⟨⟨aB,cC⟩,aA hq (aE (k:=.i) x hc ?_)⟩;refine hf x w1 _ (gh _ _ hC k1) gF λw2 k2=>⟨p x,rfl,?_⟩;refine aF (λhp=>hQ _ w2 (k1.tr k2) ⟨λ_=>⟨x,gF,hp⟩,λ_=>aB⟩) (λhp=>?_);rw[pP i aB];refine hX _ _ _ aB ⟨i+1,dJ,rfl,rfl,k1.tr k2,λy hy=>?_⟩;rw[sC] at hy;rcases kE.1 hy with hy|hy
  ·exact hn y hy
  ·have:y=x:=by simpa using hy
   rw[this];exact hp
 ·have ei:i=xs.length:=aB;subst ei;rw[oI] at hn;exact hQ (-1) w1 k1 ⟨λh=>aB,λ⟨x,hx,hp⟩=>by rw[hn x hx] at hp;cases hp⟩
theorem NS{s:Sl}{xs:List Int}{f:Value}{p:Int->Bool}{w:aH}{Q:Bool->aH->Prop}{C:aH->Prop}(hs:Rd w s 1 eI xs)(hl:xs.length<1000000)(hC:C w)(gh:∀w1 w2,C w1->aL w1 w2->C w2)
  (hf:∀x w1 (K:WQ Value),C w1->x∈xs->(∀w2,aL w1 w2->K (.bool (p x)) w2)->lI prog f [aD x] w1 K)
  (hQ:∀b w',aL w w'->(b=true↔∃x∈xs,p x=true)->Q b w'):dV s f w Q:=by
 unfold dV;exact IndexI_i hs hl hC gh hf λi w' k hi=>hQ _ w' k (by rw[<-hi];simp)
abbrev AT:=Sl×Int×Bool×Bool×Unit
abbrev SK(a:AT):List Value:=[sv a.1,aD a.2.1,.bool a.2.2.1,.bool a.2.2.2.1]
theorem Sd(a:AT):∀u∈SK a,u.oneCell'=true:=by intro u hu;simp at hu;rcases hu with rfl|rfl|rfl|rfl<;>rfl
theorem Sz{w:aH}{b:Nat}{e:TypeId}{a:AT}(h:cU w b e (SK a)):bQ w ⟨b,0,none⟩ 0 (qT [.slice,.i,.bool,.bool] a):=iM h
theorem Lp{w:aH}{g:Nat}{e:TypeId}{x y z u:Value}(h:cU w g e [x,y,z,u]):w.cell? ((⟨g,0,none⟩:Addr).add 0)=some x/\w.cell? ((⟨g,0,none⟩:Addr).add 1)=some y/\w.cell? ((⟨g,0,none⟩:Addr).add 2)=some z/\w.cell? ((⟨g,0,none⟩:Addr).add 3)=some u:=by
 refine⟨?_,?_,?_,?_⟩<;>rw[aS,h.cell]<;>rfl
theorem ansEnd{T:TypeId}{w:aH}{b:Nat}{a:AT}{Q:AT->aH->Prop}(hT:(prog.info? T).map (·.size)=some 4)(h:cU w b T (SK a))(hQ:∀w',cU w' b T (SK a)->aU (λk=>k=b) w w'->Q a w'):
  eV [.slice,.i,.bool,.bool] w ⟨b,0,none⟩ λ(t1:AT)=>aI prog T ⟨b,0,none⟩ (Value.agg #[(Value.slice t1.1.b t1.1.l t1.1.c),(aD t1.2.1),(Value.bool t1.2.2.1),(Value.bool t1.2.2.2.1)]) w λw3=>
   eV [.slice,.i,.bool,.bool] w3 ⟨b,0,none⟩ λ(t2:AT)=>Q (t2.1,t2.2.1,t2.2.2.1,t2.2.2.2.1,()) w3:=by
 refine aX (l:=[.slice,.i,.bool,.bool]) a (Sz h) ?_;refine eY (vs:=SK a) h hT rfl (Sd a) λw3 o3 m3 _=>?_;exact aX (l:=[.slice,.i,.bool,.bool]) a (Sz o3) (hQ w3 o3 m3)
theorem Way_i{E:qO}{G:Gr}{at_ node:Int}{cX:Sl}{c:List Bool}{W:aH}{Q:AT->aH->Prop}(h:zT W E G)(hc:Rd W cX 1 eB c)
  (hQ:∀s wt f r l w',G.zU node at_ c l wt f r->dD w' dG 1 eI s l->(∀x∈l,G.mH x)->l.length<=51->aL W w'->(∀b,s.b=some b->W.heap.size<=b.block)->Q (s,wt,f,r,()) w'):HK (some ⟨E.e,0,none⟩) at_ node cX W Q:=by
 unfold HK;have ok:=h.RQ.IS.ok;have hm:=ok.m1;refine bD λw1 o1 k1 z1=>bD λw2 o2 k2 z2=>?_;have K2:=k1.tr k2;have o2':cU w2 w1.heap.size Qw (SK (aZ,0,false,false,())):=o2;have dQ:∀w3,aL w2 w3->¬G.GB node->eV [.slice,.i,.bool,.bool] w3 ⟨w1.heap.size,0,none⟩ λ(t1:AT)=>aI prog Qw ⟨w1.heap.size,0,none⟩ (Value.agg #[(Value.slice t1.1.b t1.1.l t1.1.c),(aD t1.2.1),(Value.bool t1.2.2.1),(Value.bool t1.2.2.2.1)]) w3 λw4=>
   eV [.slice,.i,.bool,.bool] w4 ⟨w1.heap.size,0,none⟩ λ(t2:AT)=>Q (t2.1,t2.2.1,t2.2.2.1,t2.2.2.2.1,()) w4:=λw3 k3 hn=>by
  refine ansEnd MR (o2'.aK k3 id) λw4 _ m4=>hQ _ _ _ _ [] w4 (.no λd hv=>absurd hv hn) (dD.nil _ _ _ _) dN dN ((K2.tr k3).fresh m4 λk e=>by rw[show k=w1.heap.size from e];omega) λb hb=>by cases hb
 refine aF (λh=>by simp at h) (λ_=>aJ (λhn=>dQ w2 (aU.refl _ _) λhv=>aB) (λhn0=>?_));have h2:=h.aO K2;refine aA rfl (aE (k:=.ptr) (some ⟨E.t.t,0,none⟩) h2.cells.1 (aA rfl (aE (k:=.ptr) (some ⟨E.t.H.g,0,none⟩) h2.RQ.cells.1 (ON h2.RQ.IS ?_))));refine aJ (λhn=>dQ w2 (aU.refl _ _) λhv=>aB) (λhn1=>?_);have hN:G.GB node:=⟨aB,aB⟩;have d2:aL w2 w2.drew:=aU.drew (aU.refl _ w2);have hd2:=h2.aO d2;refine aA rfl (aE (k:=.ptr) (some ⟨E.t.t,0,none⟩) hd2.cells.1 ?_);refine far_i hd2 λs1 d0 w7 ui v7 k7 f7 b7=>?_;have k27:=d2.tr k7;have h7:=h2.aO k27;refine⟨h7.cells.1,?_⟩;have hb7:∀(v:Nat) x,d0[v]? =some x->-1<=x/\x<=102*BW:=b7;have cJ:∀w8 s2 b1 l0,dD w8 dG 1 eI s2 l0->(∀b,s2.b=some b->w7.heap.size<=b.block)->aL w7 w8->((b1=false/\l0=[]/\∀d,¬G.gw [] node at_ d)\/(b1=true/\G.mH at_/\G.vH [] d0 at_ l0))->
   (aI prog yI ((⟨w1.heap.size,0,none⟩:Addr).add 0) (Value.slice s2.b s2.l s2.c) w8 λw9=>aI prog vI ((⟨w1.heap.size,0,none⟩:Addr).add 2) (Value.bool b1) w9 λeZ=>
    ∀J1:(Unit)->aH->Prop,(∀(t7:Unit) (eN:aH),(aC (some ⟨E.e,0,none⟩) λa6=>Aj .ptr eN.drew (a6.add 0) λ(p4:cR)=>Aj .slice eN.drew ((⟨w1.heap.size,0,none⟩:Addr).add 0) λ(s3:Sl)=>pW p4 s3 eN.drew λ(x2:Int) (_:Bool) eE=>
     aI prog dG ((⟨w1.heap.size,0,none⟩:Addr).add 1) (aD x2) eE λgT=>eV [.slice,.i,.bool,.bool] gT ⟨w1.heap.size,0,none⟩ λ(t8:AT)=>aI prog Qw ⟨w1.heap.size,0,none⟩ (Value.agg #[(Value.slice t8.1.b t8.1.l t8.1.c),(aD t8.2.1),(Value.bool t8.2.2.1),(Value.bool t8.2.2.2.1)]) gT λmL=>
     eV [.slice,.i,.bool,.bool] mL ⟨w1.heap.size,0,none⟩ λ(t9:AT)=>Q (t9.1,t9.2.1,t9.2.2.1,t9.2.2.2.1,()) mL)->J1 t7 eN)->
    Aj .slice eZ ((⟨w1.heap.size,0,none⟩:Addr).add 0) λ(s4:Sl)=>dV s4 (Value.func (.func Tw) #[] #[(Value.pointer (some ⟨W.heap.size,0,none⟩))]) eZ λ(b3:Bool) fY=>
    cond b3 (aC (some ⟨E.e,0,none⟩) λa7=>Aj .ptr fY.drew (a7.add 0) λ(p5:cR)=>aC (some ⟨E.e,0,none⟩) λa8=>Aj .ptr fY.drew (a8.add 0) λ(p6:cR)=>Aj .slice fY.drew ⟨W.heap.size,0,none⟩ λ(s5:Sl)=>Aj .slice fY.drew ⟨W.heap.size,0,none⟩ λ(s6:Sl)=>
     IC p6 node s5 fY.drew λ(s7:Sl) jN=>jN.cell? ⟨W.heap.size,0,none⟩=some (Value.slice s6.b s6.l s6.c)/\jN.cell? (a7.add 0)=some (Value.pointer p5)/\pY p5 at_ s7 s6 jN λ(s8:Sl) (b4:Bool) mG=>
     aI prog yI ((⟨w1.heap.size,0,none⟩:Addr).add 0) (Value.slice s8.b s8.l s8.c) mG λqB=>aI prog vI ((⟨w1.heap.size,0,none⟩:Addr).add 2) (Value.bool b4) qB λqA=>Aj .bool qA ((⟨w1.heap.size,0,none⟩:Addr).add 2) λ(b5:Bool)=>
     aI prog vI ((⟨w1.heap.size,0,none⟩:Addr).add 3) (Value.bool b5) qA λBO=>J1 (()) BO) (J1 (()) fY)):=by
  intro w8 s2 b1 l0 v8 f8 k8 Gy;have lit:∀k,((⟨w1.heap.size,0,none⟩:Addr).add k)=⟨w1.heap.size,k,none⟩:=λk=>by rw[aS,gI]
  have z27:=k27.size;have o8:=(o2'.aK k27 id).aK k8 id;have K8:=K2.tr (k27.tr k8);rw[lit 0,lit 1,lit 2,lit 3];refine cH (o:=0) (v:=sv s2) o8 oW dN rfl rfl λw9 o9 m9 z9=>?_;refine cH (o:=2) (v:=.bool b1) o9 iX dN rfl rfl λeZ Cf UZ z10=>?_;have o10':cU eZ w1.heap.size Qw (SK (s2,0,b1,false,())):=Cf;have up:∀{wx wy:aH},aL W wx->aU (λk=>k=w1.heap.size) wx wy->aL W wy:=λkx m=>kx.fresh m λk e=>by rw[show k=w1.heap.size from e];omega
  have Nn:=up (up K8 m9) UZ;have nb:∀b,s2.b=some b->b.block≠w1.heap.size:=λb hb=>by have:=f8 b hb;omega
  have v10:=(v8.aK m9 λb hb e=>nb b hb e).aK UZ λb hb e=>nb b hb e;have oc:∀{wx:aH},aL w1 wx->wx.cell? ⟨W.heap.size,0,none⟩=some (sv cX):=λkx=>by
   have:=(o1.aK kx id);rw[this.cell];rfl
  have k1up:∀{wx wy:aH},aL w1 wx->aU (λk=>k=w1.heap.size) wx wy->aL w1 wy:=λkx m=>kx.fresh m λk e=>by rw[show k=w1.heap.size from e];exact dL _
  have k1_10:=k1up (k1up (k2.tr (k27.tr k8)) m9) UZ;intro J hJ;have qU:∀eN s l f r,cU eN w1.heap.size Qw (SK (s,0,f,r,()))->dD eN dG 1 eI s l->(∀x∈l,G.mH x)->l.length<=51->G.zU node at_ c l (G.kQ l) f r->aL W eN->(∀b,s.b=some b->W.heap.size<=b.block/\b.block≠w1.heap.size)->J () eN:=by intro eN s l f r o11 v11 hE hl hA K11 hf;apply hJ;have d11:aL eN eN.drew:=aU.drew (aU.refl _ eN);have Vr:=h.aO (K11.tr d11);have od:=o11.aK d11 id;refine aA rfl (aE (k:=.ptr) (some ⟨E.t.t,0,none⟩) Vr.cells.1 ?_);have c0:=(Lp od).1;rw[lit 0] at c0;refine aE (k:=.slice) s c0 ?_;refine Yy Vr.RQ ((v11.aK d11 λ_ _=>id).rd eX) aB hE λeE GA=>?_;refine cH (o:=1) (v:=aD (G.kQ l)) (od.aK GA id) cZ dN rfl rfl λgT o13 iu z13=>?_;have o13':cU gT w1.heap.size Qw (SK (s,G.kQ l,f,r,())):=o13;refine ansEnd MR o13' λmL _ YL=>?_;have v14:=(((v11.aK d11 λ_ _=>id).aK GA λ_ _=>id).aK iu λb hb e=>(hf b hb).2 e).aK YL λb hb e=>(hf b hb).2 e;exact hQ s _ f r l mL hA v14 hE hl (up (up ((K11.tr d11).tr GA) iu) YL) λb hb=>(hf b hb).1
  have gD:l0.length<=51/\∀x∈l0,G.mH x:=by
   rcases Gy with⟨_,rfl,_⟩|⟨_,_,hl⟩
   ·exact⟨by simp,by simp⟩
   ·have:=hl.len ok;exact⟨aB,λx hx=>((hl.KT ok).2.2.1 x hx).1⟩
  have c0:=(Lp o10').1;rw[lit 0] at c0;refine aE (k:=.slice) s2 c0 ?_;refine NS (p:=jL c) (C:=λwx=>aL eZ wx) (v10.rd eX) aB (aU.refl _ _) (λ_ _ a b=>a.tr b) (λx wx K hCx hx hK=>?_) λb3 fY Dv jl=>?_
  ·refine pI cj iT (gN (ks:=[.i,.c .ptr]) (t:=(x,some ⟨W.heap.size,0,none⟩,())) ?_);show EW _ _ _ _;unfold EW;have hxE:=gD.2 x hx;have hcx:=hc.aK (Nn.tr hCx) zQ λ_ _=>id;have hcl:=hcx.len;have occ:=oc (k1_10.tr hCx);refine aA rfl (aE (k:=.slice) cX occ (aJ (λcC=>aA rfl (aE (k:=.slice) cX occ ?_)) (λkC=>?_)))
   ·obtain⟨p,hp,hcp⟩:=bP (k:=.bool) (e:=λx=>x) hcx (OP hxE.1 aB);exact⟨⟨hxE.1,cC⟩,aA hp (aE (k:=.bool) (jL c x) hcp (hK wx (aU.refl _ _)))⟩
   ·have:=hK wx (aU.refl _ _);rw[WW aB] at this;exact this
  have K15:=Nn.tr Dv;refine aF (λhb=>?_) (λhb=>?_)
  ·obtain⟨xs,hxs,hsx⟩:=jl.1 hb;obtain⟨hE,hl0⟩:G.mH at_/\G.vH [] d0 at_ l0:=by
    rcases Gy with⟨_,rfl,_⟩|⟨_,hh⟩
    ·cases hxs
    ·exact hh
   have d15:aL fY fY.drew:=aU.drew (aU.refl _ fY);have h15:=h.aO (K15.tr d15);have occ:=oc ((k1_10.tr Dv).tr d15);refine aA rfl (aE (k:=.ptr) (some ⟨E.t.t,0,none⟩) h15.cells.1 (aA rfl (aE (k:=.ptr) (some ⟨E.t.t,0,none⟩) h15.cells.1 (aE (k:=.slice) cX occ (aE (k:=.slice) cX occ ?_)))));refine To_i h15.RQ hN (hc.aK (K15.tr d15) zQ λ_ _=>id) λs7 d1 jN gd v16 Du f16 b16=>?_;have K16:=(K15.tr d15).tr Du;have h16:=h.aO K16;have k1_16:=((k1_10.tr Dv).tr d15).tr Du;have o16:=((o10'.aK Dv id).aK d15 id).aK Du id;have z16:=k1_16.size;refine⟨oc k1_16,h16.cells.1,?_⟩;have tail:∀mG s8 b4 l1,dD mG dG 1 eI s8 l1->(∀b,s8.b=some b->jN.heap.size<=b.block)->aL jN mG->(∀x∈l1,G.mH x)->l1.length<=51->G.zU node at_ c l1 (G.kQ l1) b4 b4->
     aI prog yI ⟨w1.heap.size,0,none⟩ (Value.slice s8.b s8.l s8.c) mG λqB=>aI prog vI ⟨w1.heap.size,2,none⟩ (Value.bool b4) qB λqA=>Aj .bool qA ⟨w1.heap.size,2,none⟩ λ(b5:Bool)=>aI prog vI ⟨w1.heap.size,3,none⟩ (Value.bool b5) qA λBO=>J (()) BO:=by
    intro mG s8 b4 l1 v17 f17 Qm hE1 Ni hA;have nb8:∀b,s8.b=some b->b.block≠w1.heap.size:=λb hb=>by have:=f17 b hb;have:=o16.lt;omega
    refine cH (o:=0) (v:=sv s8) (o16.aK Qm id) oW dN rfl rfl λqB o18 m18 _=>?_;refine cH (o:=2) (v:=.bool b4) o18 iX dN rfl rfl λqA o19 m19 _=>?_;have o19':cU qA w1.heap.size Qw (SK (s8,0,b4,false,())):=o19;have c2:=(Lp o19').2.2.1;rw[lit 2] at c2;refine aE (k:=.bool) b4 c2 ?_;refine cH (o:=3) (v:=.bool b4) o19' iX dN rfl rfl λBO o20 m20 _=>?_;refine qU BO s8 l1 b4 b4 o20 (((v17.aK m18 λb hb e=>nb8 b hb e).aK m19 λb hb e=>nb8 b hb e).aK m20 λb hb e=>nb8 b hb e) hE1 Ni hA (up (up (up (K16.tr Qm) m18) m19) m20) λb hb=>⟨?_,nb8 b hb⟩;have:=f17 b hb;have:=K16.size;omega
   refine aAa h16.RQ gd (v16.rd eX) (hc.aK K16 zQ λ_ _=>id) (λv x hx=>by have:=b16 v x hx;simp only[BW] at*;omega) (λpA=>?_) λl1 s8 mG _ h0 Ni v17 Qm f17=>?_
   ·refine tail jN _ false [] (dD.nil _ _ _ _) (λb hb=>by cases hb) (aU.refl _ _) dN dN (.no λd _ hg=>pA ⟨hE,(ok.FL gd hg).1⟩)
   ·have:=Ni.len ok;exact tail mG s8 true l1 v17 f17 Qm (λx hx=>((Ni.KT ok).2.2.1 x hx).1) aB (.oK hN hE ui gd hl0 ⟨xs,hxs,hsx⟩ Ni)
  ·have pA:∀x∈l0,jL c x=false:=λx hx=>by
    cases hs:jL c x with
    |false=>rfl
    |true=>have:=jl.2 ⟨x,hx,hs⟩;rw[hb] at this;cases this
   refine qU fY s2 l0 b1 false (o10'.aK Dv id) (v10.aK Dv λ_ _=>id) gD.2 gD.1 ?_ K15 λb hb=>⟨by have:=f8 b hb;have:=K2.size;omega,nb b hb⟩;rcases Gy with⟨rfl,rfl,hng⟩|⟨rfl,hE,hl0⟩
   ·exact .no λd _ hg=>hng d (G.Es hg)
   ·exact .kc hN hE ui hl0 pA
 refine aAa (c:=[]) h7.RQ ui (v7.rd eX) (Rd.nil _ _ _) (λv x hx=>?_) (λpA=>?_) λl s2 w8 hE h0 hl v8 k8 f8=>?_
 ·exact hb7 v x hx
 ·refine cJ w7 aZ false [] (dD.nil _ _ _ _) (λb hb=>by cases hb) (aU.refl _ _) (.inl ⟨rfl,rfl,λd hg=>pA ⟨(ok.Hh hg).1,(ok.FL ui hg).1⟩⟩)
 ·exact cJ w8 s2 true l v8 f8 k8 (.inr ⟨rfl,hE,hl⟩)
section
abbrev eSe(e:Nat)(p:FX)(sl:Sl):List Value:=[.pointer (some ⟨e,0,none⟩),aD p.pos,aD p.node,sv sl,.bool p.dK,.bool p.iI]
structure jE(F:Nat->Prop)(W0 w:aH)(s:Nat)(E:qO)(G:Gr)(p:FX):Prop where
 uo:zT W0 E G
 k0:aL W0 w
 lo:W0.heap.size<=s
 gR:∃sl,cU w s Wq (eSe E.e p sl)/\Rd w sl 1 eI p.lR/\∀b,sl.b=some b->¬F b.block/\b.block<w.heap.size
 fs:F s
section
variable{F F':Nat->Prop}{W0 w w':aH}{s:Nat}{E:qO}{G:Gr}{p:FX}
theorem jE.e(h:jE F W0 w s E G p):zT w E G:=h.uo.aO h.k0
theorem jE.aK{M:Nat->Prop}(h:jE F W0 w s E G p)(m:aU M w w')(hM:∀k,M k->k≠s/\(F k\/w.heap.size<=k)/\W0.heap.size<=k):jE F W0 w' s E G p:=by
 obtain⟨sl,h1,h2,h3⟩:=h.gR;refine⟨h.uo,h.k0.fresh m λk hk=>(hM k hk).2.2,h.lo,⟨sl,h1.aK m λhs=>(hM s hs).1 rfl,h2.aK m cI λb hb hm=>?_,λb hb=>⟨(h3 b hb).1,pG (h3 b hb).2 m.size⟩⟩,h.fs⟩;rcases(hM _ hm).2.1 with hf|hf
 ·exact(h3 b hb).1 hf
 ·have:=(h3 b hb).2;omega
theorem jE.aO(h:jE F W0 w s E G p)(k:aL w w'):jE F W0 w' s E G p:=h.aK k λ_ hk=>hk.elim
theorem jE.RW(h:jE F W0 w s E G p)(hF:∀k,F' k->F k\/w.heap.size<=k)(hs:F' s):jE F' W0 w s E G p:=by
 obtain⟨sl,h1,h2,h3⟩:=h.gR;refine⟨h.uo,h.k0,h.lo,⟨sl,h1,h2,λb hb=>⟨λhf=>?_,(h3 b hb).2⟩⟩,hs⟩;rcases hF _ hf with hf|hf
 ·exact(h3 b hb).1 hf
 ·have:=(h3 b hb).2;omega
theorem jE.lt(h:jE F W0 w s E G p):s<w.heap.size:=by obtain⟨sl,h1,_⟩:=h.gR;exact h1.lt
theorem jE.put{sl:Sl}{q:FX}(h:jE F W0 w s E G p)(m:aU (λk=>k=s) w w')(o:cU w' s Wq (eSe E.e q sl))(hr:Rd w' sl 1 eI q.lR)(hb:∀b,sl.b=some b->¬F b.block/\b.block<w'.heap.size):jE F W0 w' s E G q:=
 ⟨h.uo,h.k0.fresh m λk e=>by rw[show k=s from e];exact h.lo,h.lo,⟨sl,o,hr,hb⟩,h.fs⟩
theorem jE.cell(h:jE F W0 w s E G p):w.cell? ((⟨s,0,none⟩:Addr).add 0)=some (.pointer (some ⟨E.e,0,none⟩))/\w.cell? ((⟨s,0,none⟩:Addr).add 1)=some (aD p.pos)/\w.cell? ((⟨s,0,none⟩:Addr).add 2)=some (aD p.node)/\
  w.cell? ((⟨s,0,none⟩:Addr).add 4)=some (.bool p.dK)/\w.cell? ((⟨s,0,none⟩:Addr).add 5)=some (.bool p.iI)/\
  ∃sl,cU w s Wq (eSe E.e p sl)/\w.cell? ((⟨s,0,none⟩:Addr).add 3)=some (sv sl)/\Rd w sl 1 eI p.lR/\∀b,sl.b=some b->¬F b.block/\b.block<w.heap.size:=by
 obtain⟨sl,h1,h2,h3⟩:=h.gR;exact⟨cV h1 rfl,cV h1 rfl,cV h1 rfl,cV h1 rfl,cV h1 rfl,sl,h1,cV h1 rfl,h2,h3⟩
theorem Done_i{Q:Bool->aH->Prop}(h:jE F W0 w s E G p)(hQ:Q p.iI w):HU (some ⟨s,0,none⟩) w Q:=by
 unfold HU;exact aF (λh=>by simp at h) (λ_=>aA rfl (aE (k:=.bool) p.iI h.cell.2.2.2.2.1 hQ))
theorem El{Q:Sl->aH->Prop}(h:jE F W0 w s E G p)(ok:UR G p)(hh:p.dK=true)(hQ:∀ms w',jE F W0 w' s E G (oE G p).1->fP w' (λk=>w.heap.size<=k) ms (oE G p).2->(oE G p).2.length=1->aU (λk=>k=s) w w'->Q ms w'):
  xE (some ⟨s,0,none⟩) w Q:=by
 unfold xE;intro J1 OG;have slt:=h.lt;have qU:∀a w1,w1.cell? (a.add 1)=some (aD (G.to p.pos))->aL w w1->J1 (some a,()) w1:=by
  intro a w1 c1 k1;apply OG;have d1:aL w1 w1.drew:=aU.drew (aU.refl _ w1);have hd:=h.aO (k1.tr d1);refine aA rfl (aE (k:=.i) (G.to p.pos) (d1.cell c1 id) (aA rfl (aE (k:=.i) p.node hd.cell.2.2.1 ?_)));refine aF (λhe=>?_) (λgK=>?_)
  ·have uK:G.to p.pos=p.node:=by simpa using he
   obtain⟨sl,o,hr,hb⟩:=hd.gR;refine aA rfl ?_;rw[aS,gI];refine cH (o:=5) (v:=.bool true) o iX dN rfl rfl λw2 o2 m2 z2=>?_;have h2:jE F W0 w2 s E G {p with iI:=true}:=hd.put m2 o2 (hr.aK m2 cI λb bR e=>(hb b bR).1 (by rw[show b.block=s from e];exact h.fs)) λb bR=>⟨(hb b bR).1,by rw[z2];exact(hb b bR).2⟩;refine bD λw3 o3 k3 z3=>?_;have e:oE G p=({p with iI:=true},[Hy]):=by unfold oE;rw[if_pos uK]
   rw[e] at hQ;have M2:aU (λk=>k=s) w w2:=(aL.aK (k1.tr d1)).tr m2;have z:=M2.size;exact hQ _ w3 (h2.aO k3) (fP.one (x:=(Hy,aZ)) o3 (GP.none rfl) z) rfl (M2.tr k3.wk)
  ·have YS:¬G.to p.pos=p.node:=by simpa using gK
   have e:oE G p=(p,[MD (G.eR p.pos p.lR)]):=by unfold oE;rw[if_neg YS]
   rw[e] at hQ;have d2:aL w1 w1.drew.drew:=d1.tr (aU.drew (aU.refl _ _));have h2:=h.aO (k1.tr d2);obtain⟨c0,c1',_,_,_,sl,_,c3,hr,_⟩:=h2.cell;have he2:=h2.e;refine aA rfl (aE (k:=.ptr) (some ⟨E.e,0,none⟩) c0 (aA rfl (aE (k:=.ptr) (some ⟨E.t.t,0,none⟩) he2.cells.1 (aA rfl (aE (k:=.i) p.pos c1' (aA rfl (aE (k:=.slice) sl c3 ?_)))))));have len:=ok.len;refine⟨?_,?_⟩
   ·refine Hint_i he2.RQ ok.pos (ok.Fs hh) hr aB λw4 k4=>?_;refine fF (vs:=eH (G.eR p.pos p.lR)) BE rfl (oneH _) λw6 o6 k6 _=>?_;refine aX (l:=[.i,.i,.i,.i]) (Rm (G.eR p.pos p.lR)) (Nq o6) ?_;refine bD λw7 o7 k7 z7=>?_;have K6:=((k1.tr d2).tr k4).tr k6;exact hQ _ w7 (h.aO (K6.tr k7)) (fP.one (x:=(MD (G.eR p.pos p.lR),aZ)) o7 (GP.none rfl) K6.size) rfl (K6.tr k7).wk
   ·refine bD λw8 o8 k8 z8=>?_;have o8':cU w8 w1.drew.drew.heap.size Gn (eH ⟨0,0,0,0⟩):=o8;refine⟨k8.cell c3 id,k8.cell c1' id,k8.cell he2.cells.1 id,k8.cell c0 id,?_⟩;refine Hint_i (he2.aO k8).RQ ok.pos (ok.Fs hh) (hr.aK k8 cI λ_ _=>id) aB λw9 k9=>?_;refine eY (vs:=eH (G.eR p.pos p.lR)) (o8'.aK k9 id) BE rfl (oneH _) λeZ Cf UZ _=>?_;refine aX (l:=[.i,.i,.i,.i]) (Rm (G.eR p.pos p.lR)) (Nq Cf) ?_;refine bD λeN o11 LA z11=>?_;have K2:=k1.tr d2;have Nn:aL w eZ:=((K2.tr k8).tr k9).fresh UZ λk e=>by rw[show k=w1.drew.drew.heap.size from e];exact K2.size
    exact hQ _ eN (h.aO (Nn.tr LA)) (fP.one (x:=(MD (G.eR p.pos p.lR),aZ)) o11 (GP.none rfl) Nn.size) rfl (Nn.tr LA).wk
 have d:aL w w.drew:=aU.drew (aU.refl _ w);have hd:=h.aO d;have ed:=hd.e;obtain⟨c0,c1',_⟩:=hd.cell;refine aA rfl (aE (k:=.ptr) (some ⟨E.e,0,none⟩) c0 (aA rfl (aE (k:=.ptr) (some ⟨E.t.t,0,none⟩) ed.cells.1 (aA rfl (aE (k:=.ptr) (some ⟨E.t.H.g,0,none⟩) ed.RQ.cells.1 (aA rfl (aE (k:=.i) p.pos c1' ?_)))))));refine⟨?_,?_⟩
 ·refine JM ed.RQ.IS (λ_ w2 k2=>?_) (λhn=>absurd ok.pos hn);refine fF (vs:=[aD (G.fr p.pos),aD (G.to p.pos),aD (G.wt p.pos)]) jP rfl (by simp[Value.oneCell']) λw3 o3 k3 z3=>?_;exact qU _ w3 (qN o3).2.1 ((d.tr k2).tr k3)
 ·refine bD λw2 o2 k2 z2=>?_;have o2':cU w2 w.drew.heap.size QH [aD 0,aD 0,aD 0]:=o2;refine⟨k2.cell c1' id,k2.cell ed.RQ.cells.1 id,k2.cell ed.cells.1 id,k2.cell c0 id,?_⟩;refine JM (ed.aO k2).RQ.IS (λ_ w3 k3=>?_) (λhn=>absurd ok.pos hn);refine eY (vs:=[aD (G.fr p.pos),aD (G.to p.pos),aD (G.wt p.pos)]) (o2'.aK k3 id) jP rfl (by simp[Value.oneCell']) λw4 o4 m4 _=>?_;exact qU _ w4 (qN o4).2.1 (((d.tr k2).tr k3).fresh m4 λk e=>by rw[show k=w.drew.heap.size from e];exact d.size)
end
end
section
section
variable{F:Nat->Prop}{W0 w:aH}{s:Nat}{E:qO}{G:Gr}{p:FX}
theorem oe{cX:Sl}{c:List Bool}{Q:Sl->aH->Prop}(h:jE F W0 w s E G p)(hp:G.mH p.pos)(hn:G.GB p.node)(hc:Rd w cX 1 eB c)(hF:∀k,F k->k<w.heap.size)
  (hQ:∀z ms w',TA G c p z->jE F W0 w' s E G z.1->UR G z.1->fP w' (λk=>w.heap.size<=k) ms z.2->z.2.length<=2/\1<=z.2.length->aU (λk=>k=s) w w'->Q ms w'):
  xF (some ⟨s,0,none⟩) cX w Q:=by
 unfold xF;have ok:=h.uo.RQ.IS.ok;have slt:=h.lt;intro J1 OG;have lit:∀b k:Nat,((⟨b,0,none⟩:Addr).add k)=⟨b,k,none⟩:=λb k=>by rw[aS,gI]
 have qU:∀b w1 (sl:Sl) wt f r l,cU w1 b Qw (SK (sl,wt,f,r,()))->w.heap.size<=b->G.zU p.node p.pos c l wt f r->dD w1 dG 1 eI sl l->l.length<=51->(∀a,sl.b=some a->w.heap.size<=a.block)->aL w w1->J1 (some ⟨b,0,none⟩,()) w1:=by
  intro b w1 sl wt f r l o1 hb hA v1 hl f1 k1;apply OG;have d1:aL w1 w1.drew:=aU.drew (aU.refl _ w1);have K1:=k1.tr d1;have hd:=h.aO K1;have od:=o1.aK d1 id;have vd:=v1.aK d1 λ_ _=>id;have cd:=Lp od;refine aA rfl (aE (k:=.slice) sl cd.1 (aA rfl (aE (k:=.bool) f cd.2.2.1 ?_)));obtain⟨sl0,o,hr,hb0⟩:=hd.gR;refine aA rfl ?_;rw[lit s 3];refine cH (o:=3) (v:=sv sl) o oW dN rfl rfl λw2 o2 m2 z2=>?_;have bs:b≠s:=aB;have od2:=od.aK m2 bs;refine⟨(Lp od2).2.2.1,?_⟩;refine aA rfl ?_;rw[lit s 4];refine cH (o:=4) (v:=.bool f) o2 iX dN rfl rfl λw3 o3 m3 z3=>?_;have od3:=od2.aK m3 bs;have ns:∀a,sl.b=some a->¬a.block=s:=λa ha e=>by have:=f1 a ha;omega
  have v3:=(vd.aK m2 ns).aK m3 ns;have M3:aU (λk=>k=s) w w3:=(K1.wk.tr m2).tr m3;have h3:jE F W0 w3 s E G {p with lR:=l,dK:=f}:=hd.put (m2.tr m3) o3 (v3.rd eX) λa ha=>⟨λhf=>by have:=f1 a ha;have:=hF _ hf;omega,v3.lt ha⟩;refine aA rfl (aE (k:=.bool) f (Lp od3).2.2.1 ?_);refine aF (λhf=>?_) (λhf=>?_)
  ·have QE:f=false:=by simpa using hf
   refine bD λw4 o4 k4 z4=>?_;subst QE;have e:Ru G p l wt false=({p with lR:=l,dK:=false},[CO]):=by unfold Ru;rw[if_neg dN]
   have hz:TA G c p ({p with lR:=l,dK:=false},[CO]):=⟨l,wt,false,r,hA,e.symm⟩;have oJ:=(ask_ok ok hp hn hA).1;rw[e] at oJ;exact hQ _ _ w4 hz (h3.aO k4) oJ (fP.one (x:=(CO,aZ)) o4 (GP.none rfl) M3.size) dN (M3.tr k4.wk)
  ·have QE:f=true:=by simpa using hf
   subst QE;have oJ:=(ask_ok ok hp hn hA).2 rfl;have e:Ru G p l wt true=((oE G {p with lR:=l,dK:=true}).1,qH l wt::(oE G {p with lR:=l,dK:=true}).2):=by unfold Ru;rw[if_pos rfl]
   have hz:TA G c p ((oE G {p with lR:=l,dK:=true}).1,qH l wt::(oE G {p with lR:=l,dK:=true}).2):=⟨l,wt,true,r,hA,e.symm⟩;have d3:aL w3 w3.drew:=aU.drew (aU.refl _ w3);have odd:=od3.aK d3 id;have La:=h3.aO d3;have M3d:=M3.tr d3.wk;have zz:=M3d.size;refine aA rfl (aE (k:=.slice) sl (Lp odd).1 (aA rfl (aE (k:=.i) wt (Lp odd).2.1 ?_)));refine HM ((v3.aK d3 λ_ _=>id).rd eX) aB λs3 w5 v5 k5 f5=>?_;have o5:=odd.aK k5 id;refine⟨(Lp o5).2.1,?_⟩;have h5:=La.aO k5;have M5:=M3d.tr k5.wk;have z5:=k5.size;have hOk5:UR G (oE G {p with lR:=l,dK:=true}).1:=oJ.oE;have mx:∀{wx:aH} (g:Nat),aU (λk=>k=s) w5 wx->w5.heap.size<=g->GP wx (λk=>w.heap.size<=k/\k≠g) (qH l wt,s3):=λg kx hg=>by
    have vx:=v5.aK kx λa ha e=>by have:=f5 a ha;have e':a.block=s:=e;omega
    exact⟨vx.rd eX,λa ha=>⟨⟨by have:=f5 a ha;omega,by have:=v5.lt ha;omega⟩,vx.lt ha⟩,hl⟩
   have W0le:=h.k0.size;have g5:w5.heap.size≠s:=by have:=M5.size;omega
   refine⟨?_,?_⟩
   ·refine bD λw6 o6 k6 z6=>?_;have h5g:jE (λk=>F k\/k=w5.heap.size) W0 w5 s E G {p with lR:=l,dK:=true}:=h5.RW (λk hk=>hk.elim .inl (λe=>.inr aB)) (.inl h5.fs);refine El (h5g.aO k6) oJ rfl λms w7 h7 q7 hl7 m7=>?_;have z7:=m7.size;refine Hv (x:=(qH l wt,s3)) (P:=λk=>w.heap.size<=k) (o6.aK m7 g5) (mx w5.heap.size (k6.wk.tr m7) (dL _)) aB (λk hk=>aB) (q7.wk λk hk _=>⟨aB,aB⟩) aB λr' w8 q8 m8=>?_;refine hQ _ _ w8 hz ((h7.aK m8 λk hk=>⟨aB,.inl (.inr hk),aB⟩).RW (λk hk=>.inl (.inl hk)) h.fs) hOk5 q8 ⟨by simp[hl7],by simp⟩ ((M5.tr (k6.wk.tr m7)).trans m8 λk hk e=>aB)
   ·refine El h5 oJ rfl λms w9 h9 q9 hl9 m9=>?_;have z9:=m9.size;refine⟨(Lp (o5.aK m9 bs)).2.1,?_⟩;refine bD λeZ Cf IP z10=>?_;have h9g:jE (λk=>F k\/k=w9.heap.size) W0 w9 s E G (oE G {p with lR:=l,dK:=true}).1:=h9.RW (λk hk=>hk.elim .inl (λe=>.inr aB)) (.inl h9.fs);have q9':fP w9 (λk=>w.heap.size<=k/\k≠w9.heap.size) ms (oE G {p with lR:=l,dK:=true}).2:=q9.wk λk hk cC=>⟨aB,aB⟩;refine Hv (x:=(qH l wt,s3)) (P:=λk=>w.heap.size<=k) Cf (mx w9.heap.size (m9.tr IP.wk) z9) aB (λk hk=>aB) (q9'.aO IP) aB λr' eN q11 Kv=>?_;refine hQ _ _ eN hz (((h9g.aO IP).aK Kv λk hk=>⟨aB,.inl (.inr hk),aB⟩).RW (λk hk=>.inl (.inl hk)) h.fs) hOk5 q11 ⟨by simp[hl9],by simp⟩ (((M5.tr m9).tr IP.wk).trans Kv λk hk e=>aB)
 have d:aL w w.drew:=aU.drew (aU.refl _ w);have hd:=h.aO d;obtain⟨c0,c1,c2,_⟩:=hd.cell;have hcd:=hc.aK d zQ λ_ _=>id;refine aA rfl (aE (k:=.ptr) (some ⟨E.e,0,none⟩) c0 (aA rfl (aE (k:=.i) p.pos c1 (aA rfl (aE (k:=.i) p.node c2 ?_)))));refine⟨?_,?_⟩
 ·refine Way_i hd.e hcd λsl wt f r l w1 hA v1 _ hl k1 f1=>?_;refine fF (vs:=SK (sl,wt,f,r,())) MR rfl (Sd _) λw2 o2 k2 z2=>?_;exact qU _ w2 sl wt f r l o2 (by have:=k1.size;have:=d.size;omega) hA (v1.aK k2 λ_ _=>id) hl (λa ha=>by have:=f1 a ha;have:=d.size;omega) ((d.tr k1).tr k2)
 ·refine bD λw1 o1 k1 z1=>?_;have PM:cU w1 w.drew.heap.size Qw (SK (aZ,0,false,false,())):=o1;refine⟨k1.cell c2 id,k1.cell c1 id,k1.cell c0 id,?_⟩;refine Way_i (hd.aO k1).e (hcd.aK k1 zQ λ_ _=>id) λsl wt f r l w2 hA v2 _ hl k2 f2=>?_;refine eY (vs:=SK (sl,wt,f,r,())) (PM.aK k2 id) MR rfl (Sd _) λw3 o3 m3 _=>?_;have ds:=d.size;refine qU _ w3 sl wt f r l o3 ds hA (v2.aK m3 λa ha e=>?_) hl (λa ha=>by have:=f2 a ha;omega) (((d.tr k1).tr k2).fresh m3 λk e=>by rw[show k=w.drew.heap.size from e];exact ds);have:=f2 a ha;omega
end
end
section
abbrev Rb(a v:Int):FX:=⟨a,v,[],false,false⟩
theorem SNew_i{E:qO}{G:Gr}{at_ node:Int}{cX:Sl}{c:List Bool}{W:aH}{Q:cR->Sl->Int->aH->Prop}(h:zT W E G)(hc:Rd W cX 1 eB c)
  (SJ:¬(G.mH at_/\G.GB node)->Q none aZ 1 W)
  (hQ:G.mH at_->G.GB node->∀z ms w',TA G c (Rb at_ node) z->jE (λk=>k<=W.heap.size) W w' W.heap.size E G z.1->UR G z.1->fP w' (λk=>W.heap.size<k) ms (iU::z.2)->z.2.length<=2/\1<=z.2.length->aL W w'->Q (some ⟨W.heap.size,0,none⟩) ms 0 w'):
  tE (some ⟨E.e,0,none⟩) at_ node cX W Q:=by
 unfold tE;refine aF (λh=>by simp at h) (λ_=>aJ (λh0=>SJ λhh=>by have:=hh.1.1;omega) (λh0=>?_));refine aA rfl (aE (k:=.ptr) (some ⟨E.t.t,0,none⟩) h.cells.1 (aA rfl (aE (k:=.ptr) (some ⟨E.t.H.g,0,none⟩) h.RQ.cells.1 (tQ h.RQ.IS ?_))));refine aJ (λh1=>SJ λhh=>by have:=hh.1.2;omega) (λh1=>aJ (λh2=>SJ λhh=>by have:=hh.2.1;omega) (λh2=>?_));refine aA rfl (aE (k:=.ptr) (some ⟨E.t.t,0,none⟩) h.cells.1 (aA rfl (aE (k:=.ptr) (some ⟨E.t.H.g,0,none⟩) h.RQ.cells.1 (ON h.RQ.IS ?_))));refine aJ (λh3=>SJ λhh=>by have:=hh.2.2;omega) (λh3=>?_);have hE:G.mH at_:=⟨aB,aB⟩;have hN:G.GB node:=⟨aB,aB⟩;refine bD λw1 o1 k1 z1=>bD λw2 o2 k2 z2=>?_;have PM:cU w1 W.heap.size Wq (eSe E.e (Rb at_ node) aZ):=o1;have K2:=k1.tr k2;have h2:jE (λk=>k<=w1.heap.size) W w2 W.heap.size E G (Rb at_ node):=⟨h,K2,dL _,⟨aZ,PM.aK k2 id,Rd.nil _ _ _,λb hb=>by cases hb⟩,aB⟩;refine oe h2 hE hN (hc.aK K2 zQ λ_ _=>id) (λk hk=>aB) λz ms w3 hz h3 ok3 q3 l3 m3=>?_;have z3:=m3.size;have g1:w1.heap.size≠W.heap.size:=aB;refine Hv (x:=(iU,aZ)) (P:=λk=>W.heap.size<k) (o2.aK m3 g1) (GP.none rfl) aB (λk hk=>aB) (q3.wk λk hk _=>⟨aB,aB⟩) aB λr w4 q4 m4=>?_;exact hQ hE hN z r w4 hz ((h3.aK m4 λk hk=>⟨aB,.inl aB,aB⟩).RW (λk hk=>.inl aB) (dL _)) ok3 q4 l3 ((K2.fresh m3 λk e=>by rw[show k=W.heap.size from e];exact dL _).fresh m4 λk e=>by rw[show k=w1.heap.size from e];omega)
theorem slice_blk{b:cR}{c l n:Nat}{a:Addr}(h:aR b c l n=some a):∃a0,b=some a0/\a.block=a0.block:=by
 unfold aR at h
 split at h
 ·exact⟨a,h,rfl⟩
 ·cases b with
  |none=>cases h
  |some x=>cases h;exact⟨x,rfl,by simp⟩
section
variable{F:Nat->Prop}{W0 w:aH}{s:Nat}{E:qO}{G:Gr}{p:FX}
theorem Report_i{pos:Int}{cX:Sl}{c:List Bool}{Q:Sl->aH->Prop}(h:jE F W0 w s E G p)(fh:UR G p)(hc:Rd w cX 1 eB c)(Vf:∀b,cX.b=some b->b.block≠s)(hF:∀k,F k->k<w.heap.size)
  (hQ:∀z ms w',mf G c p pos z->jE F W0 w' s E G z.1->UR G z.1->fP w' (λk=>w.heap.size<=k) ms z.2->z.2.length<=2->aU (λk=>k=s) w w'->Q ms w'):
  zG (some ⟨s,0,none⟩) pos cX w Q:=by
 unfold zG;have lit:∀k:Nat,((⟨s,0,none⟩:Addr).add k)=⟨s,k,none⟩:=λk=>by rw[aS,gI]
 refine Done_i h (aF (λft=>?_) (λft=>?_))
 ·exact hQ (p,[]) _ w (by unfold mf;rw[if_pos ft]) h fh fP.nil dN (aU.refl _ _)
 have nov:¬p.iI=true:=by rw[ft];simp
 have he:=h.e;refine aA rfl (aE (k:=.ptr) (some ⟨E.e,0,none⟩) h.cell.1 (aA rfl (aE (k:=.ptr) (some ⟨E.t.t,0,none⟩) he.cells.1 (aA rfl (aE (k:=.ptr) (some ⟨E.t.H.g,0,none⟩) he.RQ.cells.1 ?_)))));refine JM he.RQ.IS (λhE w2 k2=>?_) (λhE w2 k2=>?_)
 ·refine fF (vs:=[aD (G.fr pos),aD (G.to pos),aD (G.wt pos)]) jP rfl (by simp[Value.oneCell']) λw4 o4 k4 z4=>?_;refine aF (λh=>by simp at h) (λ_=>?_);have K4:=k2.tr k4;have h4:=h.aO K4;intro J1 OG;have j1:¬(p.dK=true/\pos=p.pos)->¬(p.dK=true/\p.lR.head? =some pos)->∀w6,aL w w6->J1 () w6:=by
   intro n1 n2 w6 k6;apply OG;obtain⟨sl,o,hr,hb⟩:=(h.aO k6).gR;refine aA rfl ?_;rw[lit 1];refine cH (o:=1) (v:=aD pos) o cZ dN rfl rfl λw7 o7 m7 z7=>?_;have h7:jE F W0 w7 s E G {p with pos:=pos}:=(h.aO k6).put m7 o7 (hr.aK m7 cI λb bR e=>(hb b bR).1 (by rw[show b.block=s from e];exact h.fs)) λb bR=>⟨(hb b bR).1,by rw[z7];exact(hb b bR).2⟩;have s6:=k6.size;refine oe h7 hE fh.node ((hc.aK k6 zQ λ_ _=>id).aK m7 zQ λb bR e=>Vf b bR e) (λk hk=>by have:=hF k hk;omega) λz ms w8 hz h8 ok8 q8 l8 m8=>?_;refine hQ z ms w8 ?_ h8 ok8 (q8.wk λk hk _=>aB) l8.1 ((k6.wk.tr m7).tr m8);unfold mf;rw[if_neg nov,if_neg (by simpa using hE),if_neg n1,if_neg n2];exact hz
  intro J2 Qo;have j2:∀b:Bool,(b=true↔(p.dK=true/\pos=p.pos))->J2 (b,()) w4:=by
   intro b hb;apply Qo;refine aF (λhbt=>?_) (λhbf=>?_)
   ·have hh:=hb.1 hbt;refine El h4 fh hh.1 λms eZ Ea q10 l10 UZ=>?_;refine hQ _ ms eZ ?_ Ea fh.oE (q10.wk λk hk _=>by have:=K4.size;omega) aB (K4.wk.tr UZ);unfold mf;rw[if_neg nov,if_neg (by simpa using hE),if_pos hh]
   ·have n1:¬(p.dK=true/\pos=p.pos):=λhh=>by have hbf':b=false:=hbf;rw[hb.2 hh] at hbf';cases hbf'
    obtain⟨_,_,_,c4,_,sl,o,c3,hr,hbk⟩:=h4.cell;refine aA rfl (aE (k:=.bool) p.dK c4 (aF (λhh=>?_) (λhh=>j1 n1 (λg=>by rw[hh] at g;cases g.1) w4 K4)));have sll:=hr.len;refine aA rfl (aE (k:=.slice) sl c3 (aJ (λcC=>?_) (λkC=>j1 n1 (λg=>?_) w4 K4)))
    ·cases hway:p.lR with
     |nil=>rw[hway] at sll;simp at sll;omega
     |cons x cJ=>
      rw[hway] at hr sll;obtain⟨a,ha,hx⟩:=bP (k:=.i) (e:=λx=>x) hr (show(x::cJ)[0]? =some x from rfl);refine aA rfl (aE (k:=.slice) sl c3 ⟨⟨aB,aB⟩,aA ha (aE (k:=.i) x hx ?_)⟩);refine aF (λhpx=>?_) (λhpx=>j1 n1 (λg=>?_) w4 K4)
      ·have hpx':pos=x:=by simpa using hpx
       have d4:aL w4 w4.drew:=aU.drew (aU.refl _ w4);have h4d:=h4.aO d4;have od:=o.aK d4 id;refine aA rfl (aE (k:=.slice) sl (cV od rfl) ⟨⟨aB,aB⟩,aA rfl ?_⟩);rw[lit 1];refine cH (o:=1) (v:=aD pos) od cZ dN rfl rfl λw5 o5 m5 z5=>?_;refine aA rfl ?_;rw[lit 3]
       let UJ:Sl:=⟨aR sl.b sl.c 1 1,sl.l-1,sl.c-1⟩
       refine cH (o:=3) (v:=sv UJ) o5 oW dN rfl rfl λw6 o6 m6 z6=>?_;have ns:∀b,sl.b=some b->¬b.block=s:=λb bR e=>(hbk b bR).1 (by rw[e];exact h.fs);have hr6:=((hr.aK d4 cI λ_ _=>id).aK m5 cI ns).aK m6 cI ns;have hp6:=hr6.part (i:=1) (j:=sl.l) (c:=sl.c) aB (dL _) hr.cap (dL _);have hrest:((x::cJ).drop 1).take (sl.l-1)=cJ:=by rw[List.drop_one,List.tail_cons,ly6];simp only[mE] at sll;omega
       rw[hrest] at hp6;have h6:jE F W0 w6 s E G {p with pos:=pos,lR:=cJ}:=h4d.put (m5.tr m6) o6 hp6 λb bR=>by
        obtain⟨a0,ha0,e⟩:=slice_blk bR;rw[e];have z4d:w4.drew.heap.size=w4.heap.size:=rfl;exact⟨(hbk a0 ha0).1,by have:=(hbk a0 ha0).2;omega⟩
       have hm:p.dK=true/\p.lR.head? =some pos:=⟨hh,by rw[hway,hpx'];rfl⟩;have tx:=fh.move hE hm;rw[hway,List.tail_cons] at tx;refine El h6 tx hh λms w7 h7 q7 l7 m7=>?_;have M6:aU (λk=>k=s) w w6:=(((K4.tr d4).wk).tr m5).tr m6;refine hQ _ ms w7 ?_ h7 tx.oE (q7.wk λk hk _=>by have:=M6.size;omega) aB (M6.tr m7);unfold mf;rw[if_neg nov,if_neg (by simpa using hE),if_neg n1,if_pos hm,hway,List.tail_cons]
      ·rw[hway] at g;have:x=pos:=by simpa using g.2
       rw[this] at hpx;simp at hpx
    ·rw[List.head?_eq_none_iff.2 (Lu aB)] at g;cases g.2
  refine aA rfl (aE (k:=.bool) p.dK h4.cell.2.2.2.1 (aF (λhh=>aA rfl (aE (k:=.i) p.pos h4.cell.2.1 (j2 _ ?_))) (λhh=>j2 _ ?_)))
  ·have Kw:p.dK=true:=hh;simp[Kw]
  ·have Kw:p.dK=false:=hh;simp[Kw]
 ·refine fF (vs:=[aD 0,aD 0,aD 0]) jP rfl (by simp[Value.oneCell']) λw4 o4 k4 z4=>?_;refine aF (λ_=>?_) (λh=>by simp at h);refine bD λw5 o5 k5 z5=>?_;have K4:=k2.tr k4;refine hQ (p,[na pos]) _ w5 ?_ (h.aO (K4.tr k5)) fh (fP.one (x:=(na pos,aZ)) o5 (GP.none rfl) K4.size) dN (K4.tr k5).wk;unfold mf;rw[if_neg nov,if_pos hE]
end
end
section
theorem Za{sl:Sl}{xs:List Int}{v:Int}{w:aH}{Q:Int->aH->Prop}(hr:Rd w sl 1 eI xs)(hl:xs.length<1000000)(hQ:∀i w',aL w w'->(0<=i↔v∈xs)->Q i w'):kN sl v w Q:=by
 unfold kN;have ub:=hr.len;refine bL (λc t w1=>∃(i:Nat),i<=xs.length/\c=xs.length-i/\t=((i:Int),())/\aL w w1/\v∉xs.take i) xs.length ⟨0,dE _,rfl,rfl,aU.refl _ _,by simp⟩ ?_;rintro c t w1 ⟨i,hi,rfl,rfl,k1,hn⟩ X hX;dsimp only;refine aJ (λcC=>?_) (λkC=>?_)
 ·have dJ:i<xs.length:=aB;have cQ:=cM dJ;have gF:=mX dJ;have sC:=mM dJ;generalize xs[i]=x at*;obtain⟨q,hq,hc⟩:=bP (k:=.i) (e:=λx=>x) (hr.aK k1 cI λ_ _=>id) cQ;rw[dW];refine⟨⟨aB,cC⟩,aA hq (aE (k:=.i) x hc (aF (λh=>hQ _ w1 k1 ⟨λ_=>?_,λ_=>aB⟩) (λh=>?_)))⟩
  ·have:v=x:=by simpa using h
   rw[this];exact gF
  ·have gK:v≠x:=by simpa using h
   rw[pP i aB];refine hX _ _ _ aB ⟨i+1,dJ,rfl,rfl,k1,λhy=>?_⟩;rw[sC] at hy;rcases kE.1 hy with hy|hy
   ·exact hn hy
   ·exact gK (by simpa using hy)
 ·have ei:i=xs.length:=aB;subst ei;rw[oI] at hn;exact hQ (-1) w1 k1 ⟨λh=>aB,λh=>absurd h hn⟩
section
variable{F:Nat->Prop}{W0 w:aH}{s:Nat}{E:qO}{G:Gr}{p:FX}
theorem Changed_i{lU open_ cX:Sl}{sh op:List Int}{c:List Bool}{Q:Sl->aH->Prop}(h:jE F W0 w s E G p)(fh:UR G p)(hsh:Rd w lU 1 eI sh)(hshl:sh.length<1000000)(Fl:Rd w open_ 1 eI op)(hc:Rd w cX 1 eB c)(hF:∀k,F k->k<w.heap.size)
  (hQ:∀z ms w',mg G c p sh op z->jE F W0 w' s E G z.1->UR G z.1->fP w' (λk=>w.heap.size<=k) ms z.2->z.2.length<=2->aU (λk=>k=s) w w'->Q ms w'):
  vT (some ⟨s,0,none⟩) lU open_ cX w Q:=by
 unfold vT;refine bD λw1 o1 k1 z1=>?_;have h1:=h.aO k1;refine Done_i h1 (aF (λft=>?_) (λft=>?_))
 ·exact hQ (p,[]) _ w1 (by unfold mg;rw[if_pos ft]) h1 fh fP.nil dN k1.wk
 have nov:¬p.iI=true:=by rw[ft];simp
 obtain⟨_,_,_,_,_,sl,_,c3,hr,_⟩:=h1.cell;have len:=fh.len;refine aA rfl (aE (k:=.slice) sl c3 ?_);refine NS (p:=λx=>decide (x∈sh)) (C:=λwx=>aL w1 wx) hr aB (aU.refl _ _) (λ_ _ a b=>a.tr b) (λx wx K hCx hx hK=>?_) λb2 w3 k3 PQ=>?_
 ·refine pI Df iT (gN (ks:=[.i,.c .ptr]) (t:=(x,some ⟨w.heap.size,0,none⟩,())) ?_);show tU _ _ _ _;unfold tU gQ;have occ:wx.cell? ⟨w.heap.size,0,none⟩=some (sv lU):=by rw[(o1.aK hCx id).cell];rfl
  refine aA rfl (aE (k:=.slice) lU occ ?_);refine Za ((hsh.aK k1 cI λ_ _=>id).aK hCx cI λ_ _=>id) hshl λi w2 k2 hi=>?_;have e:decide (i>=(0:Int))=decide (x∈sh):=by
   by_cases hm:x∈sh
   ·rw[decide_eq_true hm,decide_eq_true (hi.2 hm)]
   ·rw[decide_eq_false hm,decide_eq_false (λh=>hm (hi.1 h))]
  rw[e];exact hK w2 k2
 have K3:=k1.tr k3;have h3:=h.aO K3;have lj:b2=true↔∃e∈p.lR,e∈sh:=by rw[PQ];simp
 have ask:∀(T:WQ Sl),(∀z ms w',TA G c p z->jE F W0 w' s E G z.1->UR G z.1->fP w' (λk=>w.heap.size<=k) ms z.2->z.2.length<=2/\1<=z.2.length->aU (λk=>k=s) w w'->T ms w')->xF (some ⟨s,0,none⟩) cX w3 T:=λT hT=>by
  have z3:=K3.size;refine oe h3 fh.pos fh.node (hc.aK K3 zQ λ_ _=>id) (λk hk=>by have:=hF k hk;omega) λz ms w4 hz h4 Qj q4 l4 m4=>?_;exact hT z ms w4 hz h4 Qj (q4.wk λk hk _=>aB) l4 (K3.wk.tr m4)
 have opl:=Fl.len;intro J1 OG;have jh:p.dK=true->(∃e∈p.lR,e∈sh)->J1 () w3:=by intro hh hm;apply OG;refine aA rfl (aE (k:=.bool) p.dK h3.cell.2.2.2.1 (ask _ λz ms w4 hz h4 Qj q4 l4 m4=>?_));refine aF (λh=>by rw[hh] at h;cases h) (λ_=>?_);refine hQ z ms w4 ?_ h4 Qj q4 l4.1 m4;unfold mg;rw[if_neg nov,if_pos hh,if_pos hm];exact hz
 have jn:p.dK=false->op≠[]->J1 () w3:=by
  intro hh ho;have nh:¬p.dK=true:=by rw[hh];simp
  apply OG;refine aA rfl (aE (k:=.bool) p.dK h3.cell.2.2.2.1 (ask _ λz ms w4 hz h4 Qj q4 l4 m4=>?_));have hC:mg G c p sh op (z.1,if z.1.dK=true then z.2 else []):=by unfold mg;rw[if_neg nov,if_neg nh,if_neg ho];exact⟨z,hz,rfl⟩
  refine aF (λ_=>?_) (λh=>by rw[hh] at h;cases h);refine aA rfl (aE (k:=.bool) z.1.dK h4.cell.2.2.2.1 (aF (λhf=>?_) (λhf=>?_)))
  ·have QE:z.1.dK=false:=by simpa using hf
   rw[if_neg (by rw[QE];simp)] at hC;exact hQ _ _ w4 hC h4 Qj fP.nil dN m4
  ·have QE:z.1.dK=true:=by simpa using hf
   rw[if_pos QE] at hC;exact hQ _ ms w4 hC h4 Qj q4 l4.1 m4
 have Fu:(p.dK=true/\¬(∃e∈p.lR,e∈sh))\/(p.dK=false/\op=[])->Q aZ w3:=λhs=>by
  refine hQ (p,[]) _ w3 ?_ h3 fh fP.nil dN K3.wk;unfold mg;rw[if_neg nov];rcases hs with⟨a,b⟩|⟨a,b⟩
  ·rw[if_pos a,if_neg b]
  ·rw[if_neg (by rw[a];simp),if_pos b]
 have c4:=h3.cell.2.2.2.1;have nope:p.dK=false->cond ((open_.l:Int)==(0:Int)) (Q aZ w3) (J1 () w3):=λhh=>by
  refine aF (λhz=>Fu (.inr ⟨hh,?_⟩)) (λhz=>jn hh λe=>?_)
  ·exact Lu (by simp at hz;omega)
  ·rw[opl,e] at hz;simp at hz
 refine aA rfl (aE (k:=.bool) p.dK c4 (aF (λhh=>?_) (λhh=>?_)))
 ·have Kw:p.dK=true:=hh;refine aF (λhn=>Fu (.inl ⟨Kw,λhm=>?_⟩)) (λhy=>aA rfl (aE (k:=.bool) p.dK c4 (aF (λh=>by rw[Kw] at h;cases h) (λ_=>jh Kw (lj.1 (by simpa using hy))))));rw[lj.2 hm] at hn;cases hn
 ·have Kw:p.dK=false:=hh;exact aA rfl (aE (k:=.bool) p.dK c4 (aF (λ_=>nope Kw) (λh=>by rw[Kw] at h;cases h)))
end
end
end Go.Proofs.YtihggjgakbgomaaGreat
namespace Go.Proofs.YtihggjgakbgomaaGreat
open Go Go.Den Go.Proofs
section
def AE(a:Nat)(u:List Int):As:=Ex λsl=>bJ (uL a WU [sv sl]) (rS dG 1 eI sl u)
instance{a:Nat}{u:List Int}:bG (AE a u):=by unfold AE;infer_instance
theorem Is{s:Sl}{xs:List Int}{w:aH}{S:BS}{b:Addr}{i:Nat}{x:Int}{K:aH->Prop}(h:rS dG 1 eI s xs w S)(hb:s.b=some b)(hi:i<xs.length)(hK:∀w',rS dG 1 eI s (xs.set i x) w' S->Up S S w w'->K w'):aI Tryz.prog dG (b.add (i*1)) (aD x) w K:=
 h.1.store eX hb hi x (v:=aD x) rfl cZ (FC _) λw' v m _=>hK w' ⟨v,h.2⟩ (Up.at (m.mono λk _ hk=>(h.2 k).2 ⟨b,hb,hk⟩))
theorem Sort1_i{s:Sl}{x:Int}{w:aH}{Q:aH->Prop}(h:dD w dG 1 eI s [x])(hQ:∀w',dD w' dG 1 eI s [x]->aU (λk=>∃b,s.b=some b/\k=b.block) w w'->Q w'):pO s w Q:=by
 obtain⟨sb,sl,sc⟩:=s;rcases h.gR with⟨h1,h2⟩|⟨g,cJ,hb,ho,hl⟩
 ·have e1:sl=1:=h.len;have e2:sl<=sc:=h.cap;have e3:sc=0:=h2;omega
 have bR:sb=some ⟨g,0,none⟩:=hb;subst bR;have gD:sl=1:=h.len;subst gD;have Rl:1<=sc:=h.cap;have Rg:sc<=maxLen:=h.max;have hcur:w.heap[g]? =some (.cells ([x].flatMap eI++cJ).toArray dG (0,0)):=ho;have hl':([x].flatMap eI++cJ).length=sc*1:=hl;have hH:Go.Sort.Holds (Value.int .i64) w g 0 [x].toArray:=holds_of_block_i hcur rfl;have cS:=AnyM.slices_Sort_int sortA g 0 sc [x] w hH ho.lt dN;refine Calls.mono cS ?_;rintro e w' ⟨rfl,n,os,rfl⟩;refine⟨_,rfl,?_⟩;show Q _;have e1:[x].mergeSort (λx y=>decide (x<=y))=[x]:=List.mergeSort_singleton x;rw[e1];have qR:=ownsRow_sorted_i (w:=w) (n:=n) (os:=os) (ss:=[x]) (ts:=[x]) rfl (dE g) hcur Rl Rg (by simpa using hl');have hg:=grownBy_sorted_i (w:=w) (g:=g) (n:=n) (os:=os) [x].toArray;obtain⟨s',e2,hv,_⟩:=yd (nO:=0) (ks:=[x]) qR;have:s'=⟨some ⟨g,0,none⟩,1,sc⟩:=by obtain⟨b,l,c⟩:=s';injection e2 with h1 h2 h3;subst h1;subst h2;subst h3;rfl
 subst this;exact hQ _ hv ⟨hg.os,hg.tape,hg.output,hg.size,λk hk hn=>hg.block k hk λe=>hn ⟨_,rfl,by injection e⟩⟩
section
variable{w:aH}{S:BS}{a:Nat}{u:List Int}
theorem AE.cell(h:AE a u w S):∃sl,w.cell? ((⟨a,0,none⟩:Addr).add 0)=some (sv sl)/\Rd w sl 1 eI u/\sl.l=u.length:=by
 obtain⟨sl,S1,S2,h1,h2,_⟩:=h;exact⟨sl,aP h1 rfl,h2.1.rd eX,h2.1.len⟩
theorem smay_i{cD:Sl}{e:Int}{Q:Bool->aH->Prop}(h:AE a u w S)(hr:Rd w cD 1 eI [e])(he:0<=e/\e<u.length)(hQ:∀w',aL w w'->Q true w'):MZ (some ⟨a,0,none⟩) cD w Q:=by
 unfold MZ;refine cO (cs:=[.pointer (some ⟨a,0,none⟩)]) λw1 b1 k1 z1=>?_;refine aE (k:=.ptr) (some ⟨a,0,none⟩) (by rw[(b1.1).cell];rfl) (aF (λ_=>?_) (λh=>by simp at h));refine NS (p:=λx=>!decide (0<=x/\x<u.length)) (C:=λwx=>aL w1 wx) (hr.aK k1 cI λ_ _=>id) dN (aU.refl _ _) (λ_ _ a b=>a.tr b) (λx wx K hCx hx hK=>?_) λb w2 k2 hb=>?_
 ·refine pI bz iT (gN (ks:=[.i,.c .ptr]) (t:=(x,some ⟨w.heap.size,0,none⟩,())) ?_);show EJ _ _ _ _;unfold EJ;have QB:x=e:=by simpa using hx
  subst QB;have hK':=hK wx (aU.refl _ _);have hp:(!decide (0<=x/\x<(u.length:Int)))=false:=by rw[decide_eq_true he];rfl
  rw[hp] at hK';obtain⟨sl,c,_,l⟩:=(bG.kp h (k1.tr hCx)).cell;refine aJ (λh=>aB) (λ_=>aA rfl (aE (k:=.ptr) (some ⟨a,0,none⟩) (by rw[(b1.1.aK hCx id).cell];rfl) (aA rfl (aE (k:=.slice) sl c ?_))));rw[l,decide_eq_false aB];exact hK'
 ·have:b=false:=by
   cases b with
   |false=>rfl
   |true=>
    obtain⟨x,hx,hp⟩:=hb.1 rfl;have QB:x=e:=by simpa using hx
    subst QB;rw[decide_eq_true he] at hp;cases hp
  rw[this];exact hQ w2 (k1.tr k2)
theorem sset_i{nP:Int}{cD:Sl}{e:Nat}{Q:Sl->aH->Prop}(h:AE a u w S)(hr:Rd w cD 1 eI [(e:Int)])(he:e<u.length)
  (hQ:∀r w' S',bJ (AE a (u.set e nP)) (rS dG 1 eI r (if decide (u[e]>0)==decide (nP>0) then [] else [(e:Int)])) w' S'->Up S S' w w'->Q r w'):MY (some ⟨a,0,none⟩) nP cD w Q:=by
 unfold MY;refine HM hr dN λs1 w1 v1 k1 f1=>?_;refine Sort1_i v1 λw2 v2 m2=>?_;have h1:=bG.kp h k1;have bd:=bG.gX h;have h2:AE a u w2 S:=bG.aK h1 m2 λk hk ⟨b,hb,e⟩=>by have:=bd k hk;have:=f1 b hb;omega
 have U2:Up S S w w2:=⟨k1.wk.trans m2 λk hk ⟨b,hb,e⟩=>by have:=f1 b hb;omega,λk hk=>.inl hk⟩;unfold mP;have l2:s1.l=1:=v2.len;refine aJ (λ_=>?_) (λh=>absurd (by rw[l2];decide) h);dsimp only;rw[l2];have vecN:∀{wx:aH},rS dG 1 eI aZ ([]:List Int) wx (λ_=>False):=λ{wx}=>⟨dD.nil _ _ _ _,λk=>⟨False.elim,λ⟨b,hb,_⟩=>by cases hb⟩⟩;refine bL (λc t w4=>(c=1/\t=(aZ,0,())/\w4=w2)\/(c=0/\t.2.1=1/\Q t.1 w4)) 1 (.inl ⟨rfl,rfl,rfl⟩) ?_;rintro c ⟨r,i,_⟩ w4 (⟨rfl,h,rfl⟩|⟨rfl,h,hq⟩) X hX
 ·cases h;dsimp only;refine aJ (λ_=>?_) (λh=>absurd (by decide) h);obtain⟨b,hb,cb⟩:=bP (k:=.i) (e:=λx=>x) (v2.rd eX) (show [(e:Int)][0]? =some (e:Int) from rfl);obtain⟨sl,S1,S2,hB,hV,d,ee⟩:=h2;have hlu:=hV.1.len;have cQ:=cM he;refine⟨⟨by decide,by decide⟩,aA hb (aE (k:=.i) (e:Int) cb (aA rfl (aE (k:=.slice) sl (aP hB rfl) ?_)))⟩;obtain⟨q,hq,cq⟩:=bP (k:=.i) (e:=λx=>x) (hV.1.rd eX) cQ;rw[dW];refine⟨⟨aB,aB⟩,aA hq (aE (k:=.i) u[e] cq ?_)⟩;have done:∀(r:Sl) (L:List Int) w5 S3,bJ (AE a (u.set e nP)) (rS dG 1 eI r L) w5 S3->Up S S3 w4 w5->L=(if decide (u[e]>0)==decide (nP>0) then [] else [(e:Int)])->X (r,(aQ ((0:Int)+(1:Int))),()) w5:=λr L w5 S3 h5 u5 hL=>by
   subst hL;exact hX 0 _ _ aB (.inr ⟨rfl,by rw[gZ aB aB];rfl,hQ r w5 S3 h5 (U2.tr u5)⟩)
  refine aF (λgK=>?_) (λheq=>?_)
  ·refine cO (cs:=[aD (e:Int)]) λw5 b5 k5 z5=>?_;have hs5:bJ (bJ (uL a WU [sv sl]) (rS dG 1 eI sl u)) (rS dG 1 eI aZ ([]:List Int)) w5 S:=bJ.pR (bG.kp (A:=bJ (uL a WU [sv sl]) (rS dG 1 eI sl u)) ⟨S1,S2,hB,hV,d,ee⟩ k5) vecN;obtain⟨S6,h6,_,MF⟩:=(bJ.r hs5).put;refine WO (x:=⟨some ⟨w4.heap.size,0,none⟩,1,1⟩) iK eX FC h6 (mO eX [(e:Int)] b5 rfl dN) dN aB λr w6 S7 v7 u7=>?_;obtain⟨S8,h8,u8⟩:=MF _ w6 S7 u7 v7;obtain⟨S9,h9,_,Aw⟩:=((bJ.l h8).c λT hT=>bJ.r hT).put;obtain⟨An,Ea,_,_⟩:=((bJ.l h8).c λT hT=>bJ.l hT).put;refine aA rfl (aE (k:=.slice) sl (aP Ea rfl) ⟨⟨aB,aB⟩,aA hq ?_⟩);refine Is h9 hq he λw7 v9 u9=>?_;obtain⟨ie,Vr,ik⟩:=Aw _ w7 _ u9 v9;refine done r [(e:Int)] w7 ie (Vr.mono (λ_ h=>⟨sl,h⟩) λ_ h=>h) (((Up.aO k5).tr u8).tr ik) ?_;rw[if_neg (by simpa using gK)]
  ·obtain⟨S9,h9,_,Aw⟩:=(bJ.r (⟨S1,S2,hB,hV,d,ee⟩:bJ (uL a WU [sv sl]) (rS dG 1 eI sl u) w4 S)).put;refine aA rfl (aE (k:=.slice) sl (aP hB rfl) ⟨⟨aB,aB⟩,aA hq ?_⟩);refine Is h9 hq he λw7 v9 u9=>?_;obtain⟨ie,Vr,ik⟩:=Aw _ w7 _ u9 v9;refine done aZ [] w7 ie (bJ.pR ⟨sl,Vr⟩ vecN) ik ?_;rw[if_pos (by simpa using heq)]
 ·dsimp only at h ⊢;subst h;exact aJ (λh=>absurd h (by decide)) (λ_=>hq)
def Hi(u:List Int)(e:Nat)(t:Int):List Int:=if decide (u[e]?.getD 0>0)==decide (t>0) then [] else [(e:Int)]
theorem SClose_i{nP:Int}{cD:Sl}{e:Nat}{Q:Sl->Int->aH->Prop}(h:AE a u w S)(hr:Rd w cD 1 eI [(e:Int)])(he:e<u.length)(ht:1<=nP/\nP<=1099511627776)
  (hQ:∀r w' S',bJ (AE a (u.set e nP)) (rS dG 1 eI r (Hi u e nP)) w' S'->Up S S' w w'->Q r 0 w'):JT (some ⟨a,0,none⟩) nP cD w Q:=by
 unfold JT;have e1:Hi u e nP=if decide (u[e]>0)==decide (nP>0) then [] else [(e:Int)]:=by unfold Hi;rw[cM he];rfl
 rw[e1] at hQ;refine aJ (λh=>aB) (λ_=>aJ (λh=>aB) (λ_=>?_));refine smay_i h hr ⟨aB,aB⟩ λw1 k1=>aF (λh=>by cases h) (λ_=>?_);exact sset_i (bG.kp h k1) (hr.aK k1 cI λ_ _=>id) he λr w2 S2 h2 u2=>hQ r w2 S2 h2 ((Up.aO k1).tr u2)
def QT(i:Nat):List Int->List (Int×Int)
 | []=>[]
 |x::r=>if x>0 then((i:Int),x)::QT (i+1) r else QT (i+1) r
abbrev DU(u:List Int):List Bool:=u.map λx=>decide (x>0)
theorem Tn{Q:Sl->aH->Prop}(h:AE a u w S)(hu:u.length<=512)(hQ:∀r w',dD w' vI 1 eB r (DU u)->aL w w'->(∀b,r.b=some b->w.heap.size<=b.block)->Q r w'):BI (some ⟨a,0,none⟩) w Q:=by
 unfold BI;obtain⟨sl,c,hr,hl⟩:=h.cell;refine aF (λh=>by simp at h) (λ_=>aA rfl (aE (k:=.slice) sl c ?_));refine bL (λn t w1=>∃(i:Nat) (r:Sl),i<=u.length/\n=u.length-i/\t=(r,(i:Int),())/\dD w1 vI 1 eB r (DU (u.take i))/\aL w w1/\∀b,r.b=some b->w.heap.size<=b.block) u.length
  ⟨0,aZ,dE _,rfl,rfl,dD.nil _ _ _ _,aU.refl _ _,λb hb=>by cases hb⟩ ?_
 rintro n t w1 ⟨i,r,hi,rfl,rfl,v1,k1,f1⟩ X hX;dsimp only;refine aJ (λcC=>?_) (λkC=>?_)
 ·have dJ:i<u.length:=aB;have cQ:=cM dJ;have sC:=mM dJ;generalize u[i]=x at*;have h1:=bG.kp h k1;obtain⟨sl1,c1,hr1,Ni⟩:=h1.cell;obtain⟨q,hq,cq⟩:=bP (k:=.i) (e:=λx=>x) hr1 cQ;have e1:DU (u.take (i+1))=DU (u.take i)++[decide (x>0)]:=by rw[sC];simp
  rw[pP i aB];unfold NO;refine aF (λ_=>aJ (λ_=>aA rfl (aE (k:=.slice) sl1 c1 (aJ (λ_=>aA rfl (aE (k:=.slice) sl1 c1 ?_)) (λh=>aB)))) (λh=>aB)) (λh=>by simp at h);rw[dW];refine⟨⟨aB,aB⟩,aA hq (aE (k:=.i) x cq ?_)⟩;refine cO (cs:=eB (decide (x>0))) λw2 b2 k2 z2=>?_;refine fH UF Ct oneB (x:=⟨some ⟨w1.heap.size,0,none⟩,1,1⟩) (v1.aK k2 λ_ _=>id) (mO Ct [decide (x>0)] b2 rfl dN) (by simp;omega) (by simp;omega) λr' w3 v3 m3 hr3 _=>?_;rw[<-e1] at v3;refine hX _ _ _ aB ⟨i+1,r',dJ,rfl,rfl,v3,(k1.tr k2).fresh m3 λk ⟨b,hb,e⟩=>by rw[e];exact f1 b hb,λb hb=>?_⟩;rcases hr3 with h|⟨b',h,h2⟩
  ·exact f1 b (h.symm.trans hb)
  ·rw[hb] at h;cases h;have:=(k1.tr k2).size;omega
 ·have ei:i=u.length:=aB;subst ei;rw[oI] at v1;exact hQ r w1 v1 k1 f1
end
end
end Go.Proofs.YtihggjgakbgomaaGreat
namespace Go.Proofs.YtihggjgakbgomaaGreat
open Go Go.Den
section
theorem Tm{n:Nat}{w:aH}{Q:cR->aH->Prop}(hn:n<=512)(hQ:∀g w' S',AE g (List.replicate n 0) w' S'->aL w w'->(∀k,S' k->w.heap.size<=k)->Q (some ⟨g,0,none⟩) w'):uX (n:Int) w Q:=by
 unfold uX;refine aJ (λh=>aB) (λ_=>aJ (λh=>aB) (λ_=>?_));refine wW iK (aY:=eI) 0 rfl eX aB (lK _) aB aB λw2 v2 k2=>?_;simp only[dW] at v2 ⊢;have cC:w.heap.size<w2.heap.size:=v2.lt rfl;refine cO (cs:=[sv ⟨some ⟨w.heap.size,0,none⟩,n,n⟩]) λw3 b3 k3 z3=>?_;refine hQ w2.heap.size w3 _ ⟨_,bJ.xR b3 ⟨v2.aK k3 λ_ _=>id,λ_=>Iff.rfl⟩ λk h1 ⟨b,hb,h2⟩=>by cases hb;rw[h2] at h1;have h1':w.heap.size=w2.heap.size:=h1;omega⟩ (k2.tr k3) λk hk=>hk.elim (λh=>aB) λ⟨b,hb,h⟩=>by cases hb;rw[h];exact dL _
def lapU(fR:Int)(u:List Int)(l:List (Int×Int)):List Int:=l.foldl (λu p=>if p.2<=fR then u.set p.1.toNat 0 else u) u
def lapL(fR:Int)(l:List (Int×Int)):List Int:=(l.filter λp=>decide (p.2<=fR)).map (·.1)
section
variable{w:aH}{S:BS}{a:Nat}{u:List Int}
end
end
section
theorem wM.filter{α:Type}{f:α->As}(p:α->Bool):∀{l:List α} {w:aH} {S:BS},wM f l w S->bJ (wM f (l.filter p)) (wM f (l.filter λx=>!p x)) w S
 | [],w,S,h=>⟨S,S,h,h,λk hk=>absurd hk (h k),λk=>⟨.inl,λh=>h.elim id id⟩⟩
 |x::r,w,S,⟨S1,S2,h1,h2,d,e⟩=>by
  obtain⟨T1,T2,g1,g2,d',e'⟩:=wM.filter (f:=f) p h2;cases hp:p x with
  |true=>rw[List.filter_cons_of_pos hp,ly2 (by simp[hp])];exact⟨λk=>S1 k\/T1 k,T2,⟨S1,T1,h1,g1,λk a b=>d k a ((e' k).2 (.inl b)),λ_=>Iff.rfl⟩,g2,λk a b=>a.elim (λa=>d k a ((e' k).2 (.inr b))) λa=>d' k a b,λk=>by rw[e k,e' k,or_assoc]⟩
  |false=>
   rw[ly2 (by simp[hp]),List.filter_cons_of_pos (by simp[hp])];refine⟨T1,λk=>S1 k\/T2 k,g1,⟨S1,T2,h1,g2,λk a b=>d k a ((e' k).2 (.inr b)),λ_=>Iff.rfl⟩,λk a b=>b.elim (λb=>d k b ((e' k).2 (.inl a))) λb=>d' k a b,λk=>?_⟩;rw[e k,e' k]
   constructor
   ·rintro(h|h|h)
    ·exact .inr (.inl h)
    ·exact .inl h
    ·exact .inr (.inr h)
   ·rintro(h|h|h)
    ·exact .inr (.inl h)
    ·exact .inl h
    ·exact .inr (.inr h)
theorem wM.get{α:Type}{f:α->As}:∀{l:List α} {w:aH} {S:BS} {x:α},wM f l w S->x∈l->∃S1,f x w S1/\∀k,S1 k->S k
 |y::r,w,S,x,⟨S1,S2,h1,h2,d,e⟩,hx=>by
  rcases jO.1 hx with rfl|hx
  ·exact⟨S1,h1,λk hk=>(e k).2 (.inl hk)⟩
  ·obtain⟨T,g,hT⟩:=wM.get h2 hx;exact⟨T,g,λk hk=>(e k).2 (.inr (hT k hk))⟩
def vB(ee s:Nat)(p:FX):As:=Ex λsl=>bJ (uL s Wq (eSe ee p sl)) (DQ 1 eI sl p.lR)
instance{ee s:Nat}{p:FX}:bG (vB ee s p):=by unfold vB;infer_instance
structure Bs(W0:aH)(E:qO)(G:Gr)(S:BS)(w:aH):Prop where
 uo:zT W0 E G
 k0:aL W0 w
 lo:∀k,S k->W0.heap.size<=k
section
variable{W0 w w':aH}{E:qO}{G:Gr}{S S' S1:BS}
theorem Bs.up(h:Bs W0 E G S w)(u:Up S S' w w'):Bs W0 E G S' w':=⟨h.uo,h.k0.fresh u.m h.lo,λk hk=>(u.s k hk).elim (h.lo k) λhh=>iR h.k0.size hh⟩
theorem Bs.sub(h:Bs W0 E G S w)(hs:∀k,S' k->S k):Bs W0 E G S' w:=⟨h.uo,h.k0,λk hk=>h.lo k (hs k hk)⟩
theorem Bs.kp(h:Bs W0 E G S w)(k:aL w w'):Bs W0 E G S w':=⟨h.uo,h.k0.tr k,h.lo⟩
theorem Bs.e(h:Bs W0 E G S w):zT w E G:=h.uo.aO h.k0
theorem vB.at{s:Nat}{p:FX}(hb:Bs W0 E G S w)(h:vB E.e s p w S):jE (λk=>k<w.heap.size/\(k=s\/¬S k)) W0 w s E G p:=by
 obtain⟨sl,S1,S2,h1,h2,d,e⟩:=h;have hs:S1 s:=(h1.2 s).2 rfl;refine⟨hb.uo,hb.k0,hb.lo s ((e s).2 (.inl hs)),⟨sl,h1.1,h2.1,λb Kz=>⟨λhf=>?_,h2.2.2.1 b Kz⟩⟩,⟨h1.1.lt,.inl rfl⟩⟩;have hS2:S2 b.block:=(h2.2.2.2 _).2 ⟨b,Kz,rfl⟩;rcases hf.2 with hf|hf
 ·exact d _ (by rw[hf];exact hs) hS2
 ·exact hf ((e _).2 (.inr hS2))
theorem vB.of{s:Nat}{p:FX}(hsw:s<w.heap.size)(hS:S s)(h:jE (λk=>k<w.heap.size/\(k=s\/¬S k)) W0 w' s E G p):∃S',vB E.e s p w' S'/\∀k,S' k->S k\/w.heap.size<=k:=by
 obtain⟨sl,h1,h2,h3⟩:=h.gR;have key:∀b,sl.b=some b->(w.heap.size<=b.block\/(S b.block/\b.block≠s)):=λb hb=>by
  have:=(h3 b hb).1
  by_cases cC:b.block<w.heap.size
  ·refine .inr ⟨?_,λe=>this ⟨cC,.inl e⟩⟩;exact Classical.byContradiction λhn=>this ⟨cC,.inr hn⟩
  ·exact .inl aB
 refine⟨λk=>k=s\/∃b,sl.b=some b/\k=b.block,⟨sl,bJ.xR ⟨h1,λ_=>Iff.rfl⟩ ⟨h2,cI,λb hb=>(h3 b hb).2,λ_=>Iff.rfl⟩ λk hk ⟨b,hb,e⟩=>?_⟩,λk hk=>?_⟩
 ·have lT:k=s:=hk;rcases key b hb with h|h
  ·omega
  ·exact h.2 aB
 ·rcases hk with rfl|⟨b,hb,rfl⟩
  ·exact .inl hS
  ·exact(key b hb).elim .inr λh=>.inl h.1
theorem vB.Vh{ee s:Nat}{p:FX}(h:vB ee s p w S):S s/\s<w.heap.size:=by
 obtain⟨sl,S1,S2,h1,h2,d,e⟩:=h;exact⟨(e s).2 (.inl ((h1.2 s).2 rfl)),h1.1.lt⟩
theorem SRep_i{s:Nat}{p:FX}{pos:Int}{cX:Sl}{c:List Bool}{Q:Sl->aH->Prop}(hb:Bs W0 E G S w)(h:vB E.e s p w S)(fh:UR G p)(hc:Rd w cX 1 eB c)(Vf:∀b,cX.b=some b->¬S b.block)
  (hQ:∀z ms w' S',mf G c p pos z->vB E.e s z.1 w' S'->Up S S' w w'->UR G z.1->fP w' (λk=>w.heap.size<=k) ms z.2->z.2.length<=2->Q ms w'):zG (some ⟨s,0,none⟩) pos cX w Q:=by
 obtain⟨hS,cC⟩:=h.Vh;refine Report_i (h.at hb) fh hc (λb Kz e=>Vf b Kz (by rw[e];exact hS)) (λk hk=>hk.1) λz ms w' hz h' Ql hm hl m=>?_;obtain⟨S',h2,h3⟩:=vB.of cC hS h';exact hQ z ms w' S' hz h2 ⟨m.mono λk _ e=>by rw[show k=s from e];exact hS,h3⟩ Ql hm hl
theorem SChg_i{s:Nat}{p:FX}{lU open_ cX:Sl}{sh op:List Int}{c:List Bool}{Q:Sl->aH->Prop}(hb:Bs W0 E G S w)(h:vB E.e s p w S)(fh:UR G p)(hsh:Rd w lU 1 eI sh)(hshl:sh.length<1000000)(Fl:Rd w open_ 1 eI op)(hc:Rd w cX 1 eB c)
  (hQ:∀z ms w' S',mg G c p sh op z->vB E.e s z.1 w' S'->Up S S' w w'->UR G z.1->fP w' (λk=>w.heap.size<=k) ms z.2->z.2.length<=2->Q ms w'):vT (some ⟨s,0,none⟩) lU open_ cX w Q:=by
 obtain⟨hS,cC⟩:=h.Vh;refine Changed_i (h.at hb) fh hsh hshl Fl hc (λk hk=>hk.1) λz ms w' hz h' Ql hm hl m=>?_;obtain⟨S',h2,h3⟩:=vB.of cC hS h';exact hQ z ms w' S' hz h2 ⟨m.mono λk _ e=>by rw[show k=s from e];exact hS,h3⟩ Ql hm hl
theorem SNewF_i{at_ node:Int}{cX:Sl}{c:List Bool}{Q:cR->Sl->Int->aH->Prop}(hb:Bs W0 E G S w)(hc:Rd w cX 1 eB c)
  (SJ:¬(G.mH at_/\G.GB node)->Q none aZ 1 w)
  (hQ:G.mH at_->G.GB node->∀z ms s w' S',TA G c (Rb at_ node) z->vB E.e s z.1 w' S'->(∀k,S' k->w.heap.size<=k)->UR G z.1->fP w' (λk=>w.heap.size<=k) ms (iU::z.2)->z.2.length<=2/\1<=z.2.length->aL w w'->Q (some ⟨s,0,none⟩) ms 0 w'):
  tE (some ⟨E.e,0,none⟩) at_ node cX w Q:=by
 refine SNew_i hb.e hc SJ λhE hN z ms w' hz h ok hm hl k=>?_;obtain⟨sl,h1,h2,h3⟩:=h.gR;refine hQ hE hN z ms _ w' (λk=>k=w.heap.size\/∃b,sl.b=some b/\k=b.block) hz ⟨sl,bJ.xR ⟨h1,λ_=>Iff.rfl⟩ ⟨h2,cI,λb hb=>(h3 b hb).2,λ_=>Iff.rfl⟩ λk hk ⟨b,hb,e⟩=>?_⟩ (λk hk=>?_) ok (hm.wk λk hk _=>Nat.le_of_lt hk) hl k
 ·have:=(h3 b hb).1;omega
 ·rcases hk with h|⟨b,hb,e⟩
  ·omega
  ·have:=(h3 b hb).1;omega
end
structure cY where
 a:Nat
 cp:Nat
 sp:Nat
 aN:Nat
 aM:Int
 lE:Int
abbrev Wf(e:cY):List Value:=[aD (e.aN:Int),aD e.aM,.pointer (some ⟨e.cp,0,none⟩),.pointer (some ⟨e.sp,0,none⟩),aD e.lE]
def JH(e:cY):As:=uL e.a ZA (Wf e)
instance{e:cY}:bG (JH e):=by unfold JH;infer_instance
structure tO where
 fD:Nat
 bK:List cY
 gr:Int->Option Li.T
abbrev tO.grI(t:tO)(p:Int):Int:=(t.gr p).getD (0:Int)
structure tO.Ok(t:tO):Prop where
 fD:1<=t.fD/\t.fD<=16
 len:t.bK.length<=t.fD
 sO:t.bK.Pairwise λe f=>e.aN<f.aN
 aN:∀e∈t.bK,e.aN<16
def sX(l:List cY):Int->Option qW.T:=λx=>(l.find? λe=>(e.aN:Int)==x).map λe=>some ⟨e.a,0,none⟩
def YX(a m1 m2 ng:Nat)(t:tO):As:=bJ (uL a ml [aD (t.fD:Int),.map (some m1),.map (some m2)]) (bJ (wL m1 FA qW (sX t.bK) t.bK.length) (bJ (wL m2 FA Li t.gr ng) (wM JH t.bK)))
instance{a m1 m2 ng:Nat}{t:tO}:bG (YX a m1 m2 ng t):=by unfold YX;infer_instance
def DG(a:Nat)(t:tO):As:=Ex λm1:Nat=>Ex λm2:Nat=>Ex λng:Nat=>YX a m1 m2 ng t
instance{a:Nat}{t:tO}:bG (DG a t):=by unfold DG;infer_instance
abbrev gy(p:cR):List Value:=[.pointer p]
theorem QO:∀p:cR,(gy p).length=1:=λ_=>rfl
theorem onePt:∀p:cR,∀u∈gy p,u.oneCell'=true:=by intro p u hu;simp at hu;subst hu;rfl
theorem TK(p:cR):gy p≠[]:=by simp
abbrev LC(e:cY):cR:=some ⟨e.a,0,none⟩
section
variable{w:aH}{S:BS}{a m1 m2 ng:Nat}{t:tO}
theorem YX.cells(h:YX a m1 m2 ng t w S):w.cell? ((⟨a,0,none⟩:Addr).add 0)=some (aD (t.fD:Int))/\w.cell? ((⟨a,0,none⟩:Addr).add 1)=some (.map (some m1))/\w.cell? ((⟨a,0,none⟩:Addr).add 2)=some (.map (some m2)):=by
 obtain⟨S1,S2,h1,_⟩:=h;exact⟨aP h1 rfl,aP h1 rfl,aP h1 rfl⟩
theorem YX.map1(h:YX a m1 m2 ng t w S):kV w m1 FA qW (sX t.bK) t.bK.length:=by
 obtain⟨_,_,_,⟨_,_,h,_⟩,_⟩:=h;exact h.1
theorem YX.map2(h:YX a m1 m2 ng t w S):kV w m2 FA Li t.gr ng:=by
 obtain⟨_,_,_,⟨_,_,_,⟨_,_,h,_⟩,_⟩,_⟩:=h;exact h.1
theorem YX.bK(h:YX a m1 m2 ng t w S):∃T,wM JH t.bK w T/\∀k,T k->S k:=by
 obtain⟨_,_,_,⟨_,_,_,⟨_,_,_,h,_,e3⟩,_,e2⟩,_,e1⟩:=h;exact⟨_,h,λk hk=>(e1 k).2 (.inr ((e2 k).2 (.inr ((e3 k).2 (.inr hk)))))⟩
theorem DG.Nk(h:DG a t w S){e:cY}(he:e∈t.bK):cU w e.a ZA (Wf e)/\S e.a:=by
 obtain⟨m1,m2,ng,h⟩:=h;obtain⟨T,hT,hs⟩:=h.bK;obtain⟨S1,h1,xS⟩:=wM.get hT he;exact⟨h1.1,hs _ (xS _ ((h1.2 _).2 rfl))⟩
theorem tO.Ok.inj{t:tO}(ok:t.Ok){e f:cY}(he:e∈t.bK)(hf:f∈t.bK)(hp:e.aN=f.aN):e=f:=by
 have:=ok.sO;generalize t.bK=l at*
 induction l with
 |nil=>cases he
 |cons x r ih=>
  rw[List.pairwise_cons] at this;rcases jO.1 he with e1|uK<;>rcases jO.1 hf with e2|QE
  ·rw[e1,e2]
  ·have:=this.1 f QE;rw[e1] at hp;omega
  ·have:=this.1 e uK;rw[e2] at hp;omega
  ·exact ih uK QE this.2
theorem OV{t:tO}(ok:t.Ok){e:cY}(he:e∈t.bK):sX t.bK (e.aN:Int)=some (LC e):=by
 unfold sX;cases hf:t.bK.find? λx=>(x.aN:Int)==(e.aN:Int) with
 |none=>have:=List.find?_eq_none.1 hf e he;simp at this
 |some f=>
  have h1:=ly9 hf;have h2:=List.find?_some hf;have Qn:(f.aN:Int)=e.aN:=by simpa using h2
  have:f=e:=ok.inj h1 he aB;rw[this];rfl
theorem CP{l:List cY}{x:Int}{p:qW.T}(h:sX l x=some p):∃e∈l,(e.aN:Int)=x/\p=LC e:=by
 unfold sX at h;cases hf:l.find? λe=>(e.aN:Int)==x with
 |none=>rw[hf] at h;cases h
 |some e=>rw[hf] at h;exact⟨e,ly9 hf,by simpa using List.find?_some hf,by cases h;rfl⟩
theorem sorted_eq{l m:List Int}(hl:l.Pairwise (·<·))(hm:m.Pairwise (·<·))(h:∀x,x∈l↔x∈m):l=m:=by
 have nl:l.Nodup:=hl.imp λh e=>aB;have nm:m.Nodup:=hm.imp λh e=>aB;exact List.Perm.eq_of_pairwise (le:=λa b:Int=>a<b) (λa b _ _ h1 h2=>aB) hl hm ((List.perm_ext_iff_of_nodup nl nm).2 h)
theorem oq{Q:Sl->aH->Prop}(h:DG a t w S)(ok:t.Ok)(hQ:∀r w',dD w' Ss 1 gy r (t.bK.map LC)->aL w w'->(∀b,r.b=some b->w.heap.size<=b.block)->Q r w'):yW (some ⟨a,0,none⟩) w Q:=by
 unfold yW;obtain⟨m1,m2,ng,h⟩:=h;refine aF (λh=>by simp at h) (λ_=>aA rfl (aE (k:=.map) (some m1) h.cells.2.1 ?_));have hm:=ok.fD;have hln:=ok.len;refine SortedB_i h.map1 (λx hx=>?_) aB λs1 ks w2 v2 k2 f2 LJ GC jf=>?_
 ·obtain⟨p,hp⟩:=Lt.1 hx;obtain⟨e,he,hep,_⟩:=CP hp;have:=ok.aN e he;exact⟨aB,aB⟩
 have eks:ks=t.bK.map λe=>(e.aN:Int):=by
  refine sorted_eq LJ ?_ λx=>?_
  ·rw[List.pairwise_map];exact ok.sO.imp λh=>aB
  ·rw[GC]
   constructor
   ·intro hx;obtain⟨p,hp⟩:=Lt.1 hx;obtain⟨e,he,hep,_⟩:=CP hp;exact mD.2 ⟨e,he,hep⟩
   ·intro hx;obtain⟨e,he,rfl⟩:=mD.1 hx;rw[OV ok he];rfl
 subst eks;have sl:=v2.len;rw[oH] at sl;have o1:=v2.rd eX;refine bL (λn tt w3=>∃(i:Nat) (r:Sl),i<=t.bK.length/\n=t.bK.length-i/\tt=(r,(i:Int),())/\dD w3 Ss 1 gy r ((t.bK.take i).map LC)/\aL w2 w3/\∀b,r.b=some b->w2.heap.size<=b.block) t.bK.length
  ⟨0,aZ,dE _,rfl,rfl,dD.nil _ _ _ _,aU.refl _ _,λb hb=>by cases hb⟩ ?_
 rintro n tt w3 ⟨i,r,hi,rfl,rfl,v3,k3,f3⟩ X hX;dsimp only;refine aJ (λcC=>?_) (λkC=>?_)
 ·have dJ:i<t.bK.length:=aB;have cQ:=cM dJ;have gF:=mX dJ;have sC:=mM dJ;generalize t.bK[i]=e at*;obtain⟨q,hq,cq⟩:=bP (k:=.i) (e:=λx=>x) (o1.aK k3 cI λ_ _=>id) (show(t.bK.map λe=>(e.aN:Int))[i]? =some (e.aN:Int) by rw[oM,cQ];rfl);have h3:=bG.kp h (k2.tr k3);rw[dW,pP i aB];refine⟨⟨aB,cC⟩,aA hq (aE (k:=.i) (e.aN:Int) cq (aA rfl (aE (k:=.map) (some m1) h3.cells.2.1 ?_)))⟩;refine BG (kn:=qW) OH lF (z:=(none:cR)) EF h3.map1 (e.aN:Int) ?_;have hg:(sX t.bK (e.aN:Int)).getD (none:cR)=LC e:=by rw[OV ok gF];rfl
  rw[hg];refine cO (cs:=gy (LC e)) λw4 b4 k4 z4=>?_;refine fH XW QO onePt (x:=⟨some ⟨w3.heap.size,0,none⟩,1,1⟩) (v3.aK k4 λ_ _=>id) (mO QO [LC e] b4 rfl dN) (by simp;omega) (by simp;omega) λr' w5 v5 m5 hr5 _=>?_;refine hX _ _ _ aB ⟨i+1,r',dJ,rfl,rfl,by rw[sC,wQ];exact v5,(k3.tr k4).fresh m5 λk ⟨b,hb,e⟩=>by rw[e];exact f3 b hb,λb hb=>?_⟩;rcases hr5 with h|⟨b',h,h2⟩
  ·exact f3 b (h.symm.trans hb)
  ·rw[hb] at h;cases h;have:=(k3.tr k4).size;omega
 ·have ei:i=t.bK.length:=aB;subst ei;rw[oI] at v3;exact hQ r w3 v3 (k2.tr k3) λb hb=>by have:=f3 b hb;have:=k2.size;omega
theorem TGet_i{aN:Nat}{aM:Int}{Q:cR->aH->Prop}(h:DG a t w S)(ok:t.Ok)(hQ1:∀e∈t.bK,e.aN=aN->e.aM=aM->Q (LC e) w)(hQ0:(∀e∈t.bK,¬(e.aN=aN/\e.aM=aM))->Q none w):
  XK (some ⟨a,0,none⟩) (aN:Int) aM w Q:=by
 unfold XK;have h0:=h;obtain⟨m1,m2,ng,h⟩:=h;refine aF (λh=>by simp at h) (λ_=>aA rfl (aE (k:=.map) (some m1) h.cells.2.1 ?_));refine BG (kn:=qW) OH lF (z:=(none:cR)) EF h.map1 (aN:Int) ?_;cases hf:sX t.bK (aN:Int) with
 |none=>refine aF (λh=>(by have h':(false:Bool)=true:=h;cases h')) (λ_=>hQ0 λe he hh=>?_);have:=OV ok he;rw[hh.1,hf] at this;cases this
 |some p=>obtain⟨e,he,hep,rfl⟩:=CP hf;refine aF (λ_=>?_) (λh=>(by have h':(true:Bool)=false:=h;cases h'));refine aA rfl (aE (k:=.i) e.aM (cV (h0.Nk he).1 rfl) (aF (λhc=>hQ1 e he aB (by simpa using hc)) (λhc=>hQ0 λf hfm hh=>?_)));have:f=e:=ok.inj hfm he aB;rw[this] at hh;rw[hh.2] at hc;simp at hc
def tO.vF(t:tO)(aN:Nat)(aM:Int):Int:=
 if aM<=t.grI (aN:Int) then 6 else if t.fD<=t.bK.length/\∀e∈t.bK,e.aN≠aN then 5 else 0
theorem TMay_i{aN:Nat}{aM:Int}{Q:Int->aH->Prop}(h:DG a t w S)(ok:t.Ok)(hp:aN<16)(hc:1<=aM/\aM<=2147483648)(hQ:∀w',aL w w'->Q (t.vF aN aM) w'):NC (some ⟨a,0,none⟩) (aN:Int) aM w Q:=by
 unfold NC;obtain⟨m1,m2,ng,h⟩:=h;intro J1 OG;refine aF (λh=>by simp at h) (λ_=>aJ (λh=>aB) (λ_=>aJ (λh=>aB) (λ_=>aJ (λh=>aB) (λ_=>?_))));rw[decide_eq_false aB];apply OG;refine aF (λh=>by cases h) (λ_=>aA rfl (aE (k:=.map) (some m2) h.cells.2.2 ?_));refine BG (kn:=Li) pE lF (z:=(0:Int)) MP h.map2 (aN:Int) ?_;unfold tO.vF at hQ;obtain⟨gv,fy⟩:∃gv:Int,(t.gr (aN:Int)).getD (0:Int)=gv:=⟨_,rfl⟩;have hgv':t.grI (aN:Int)=gv:=fy;rw[hgv'] at hQ;rw[fy];refine aJ (λLK=>?_) (λLK=>?_)
 ·have:=hQ w (aU.refl _ _);rwa[if_pos LK] at this
 have hd:=bG.dr h;have kd:=bY w;refine aA rfl (aE (k:=.map) (some m1) hd.cells.2.1 (aA rfl (aE (k:=.i) (t.fD:Int) hd.cells.1 (Yf OH hd.map1 ⟨hd.cells.1,?_⟩))));have hQ':=hQ w.drew kd;rw[if_neg LK] at hQ';refine aJ (λkC=>aA rfl (aE (k:=.map) (some m1) hd.cells.2.1 ?_)) (λkC=>?_)
 ·refine BG (kn:=qW) OH lF (z:=(none:cR)) EF hd.map1 (aN:Int) ?_;cases hf:sX t.bK (aN:Int) with
  |none=>refine aF (λ_=>?_) (λh=>(by have h':(true:Bool)=false:=h;cases h'));rw[if_pos ⟨aB,λe he Qn=>by have:=OV ok he;rw[Qn,hf] at this;cases this⟩] at hQ';exact hQ'
  |some p=>obtain⟨e,he,hep,rfl⟩:=CP hf;refine aF (λh=>(by have h':(false:Bool)=true:=h;cases h')) (λ_=>?_);rw[if_neg λhh=>hh.2 e he aB] at hQ';exact hQ'
 ·rw[if_neg λhh=>aB] at hQ';exact hQ'
end
end
section
def TabX(a m1 m2 ng n:Nat)(f:Int->Option qW.T)(t:tO):As:=bJ (uL a ml [aD (t.fD:Int),.map (some m1),.map (some m2)]) (bJ (wL m1 FA qW f n) (bJ (wL m2 FA Li t.gr ng) (wM JH t.bK)))
instance{a m1 m2 ng n:Nat}{f:Int->Option qW.T}{t:tO}:bG (TabX a m1 m2 ng n f t):=by unfold TabX;infer_instance
abbrev KX(l:List cY):Prop:=l.Pairwise λe f=>e.aN<f.aN
theorem ya{l:List cY}(h:KX l){e f:cY}(he:e∈l)(hf:f∈l)(hp:e.aN=f.aN):e=f:=by
 induction l with
 |nil=>cases he
 |cons x r ih=>
  rw[KX,List.pairwise_cons] at h;rcases jO.1 he with e1|uK<;>rcases jO.1 hf with e2|QE
  ·rw[e1,e2]
  ·have:=h.1 f QE;rw[e1] at hp;omega
  ·have:=h.1 e uK;rw[e2] at hp;omega
  ·exact ih h.2 uK QE
theorem XD{l:List cY}(h:KX l){x:Int}{p:qW.T}:sX l x=some p↔∃e∈l,(e.aN:Int)=x/\p=LC e:=by
 refine⟨CP,λ⟨e,he,hx,hp⟩=>?_⟩;cases hf:sX l x with
 |none=>have:=List.find?_eq_none.1 (Option.map_eq_none_iff.1 hf) e he;simp[hx] at this
 |some q=>obtain⟨f,hfm,hfx,rfl⟩:=CP hf;rw[hp,ya h hfm he aB]
theorem Ib{l:List cY}(hl:KX l){f:Int->Option qW.T}(h:∀x p,f x=some p↔∃e∈l,(e.aN:Int)=x/\p=LC e)(x:Int):sX l x=f x:=by
 apply Option.ext;intro p;rw[XD hl,h]
theorem Bp{l:List cY}{x:Int}:(sX l x).isSome=true↔∃e∈l,(e.aN:Int)=x:=by
 constructor
 ·intro h;obtain⟨p,hp⟩:=Lt.1 h;obtain⟨e,he,hx,_⟩:=CP hp;exact⟨e,he,hx⟩
 ·rintro⟨e,he,hx⟩;cases hf:sX l x with
  |some p=>rfl
  |none=>have:=List.find?_eq_none.1 (Option.map_eq_none_iff.1 hf) e he;simp[hx] at this
theorem Pb{w:aH}{r n:Nat}{l:List cY}(hl:KX l)(h:kV w r FA qW (sX l) n):n=l.length:=by
 obtain⟨ks,h1,h2,h3⟩:=h.Vy;have e1:(l.map λe=>(e.aN:Int)).Nodup:=by
  have:(l.map λe=>(e.aN:Int)).Pairwise (·<·):=by rw[List.pairwise_map];exact hl.imp λh=>aB
  exact this.imp λh e=>aB
 have:=((List.perm_ext_iff_of_nodup h1 e1).2 λx=>by rw[h3,Bp,mD]).length_eq;rw[oH] at this;omega
def Fz(e:cY)(l:List cY):List cY:=(l.filter λf=>decide (f.aN<e.aN))++e::(l.filter λf=>!decide (f.aN<e.aN)).filter λf=>decide (e.aN<f.aN)
def oldE(p:Nat)(l:List cY):List cY:=(l.filter λf=>!decide (f.aN<p)).filter λf=>!decide (p<f.aN)
theorem oV{e f:cY}{l:List cY}:f∈Fz e l↔f=e\/(f∈l/\f.aN≠e.aN):=by
 unfold Fz;simp only[kE,jI,jO,decide_eq_true_eq,Bool.not_eq_true',decide_eq_false_iff_not]
 constructor
 ·rintro(⟨h1,h2⟩|h|⟨⟨h1,h2⟩,h3⟩)
  ·exact .inr ⟨h1,aB⟩
  ·exact .inl h
  ·exact .inr ⟨h1,aB⟩
 ·rintro(h|⟨h1,h2⟩)
  ·exact .inr (.inl h)
  ·by_cases h:f.aN<e.aN
   ·exact .inl ⟨h1,h⟩
   ·exact .inr (.inr ⟨⟨h1,h⟩,aB⟩)
theorem Hm{e:cY}{l:List cY}(h:KX l):KX (Fz e l):=by
 unfold Fz KX;rw[List.pairwise_append,List.pairwise_cons];refine⟨h.filter _,⟨λf hf=>by simp at hf;omega,(h.filter _).filter _⟩,λa ha b hb=>?_⟩;simp at ha hb;rcases hb with rfl|⟨_,hb⟩
 ·exact ha.2
 ·omega
theorem oldE_mem{p:Nat}{f:cY}{l:List cY}:f∈oldE p l↔f∈l/\f.aN=p:=by
 unfold oldE;simp only[jI,Bool.not_eq_true',decide_eq_false_iff_not]
 constructor
 ·rintro⟨⟨h1,h2⟩,h3⟩;exact⟨h1,aB⟩
 ·rintro⟨h1,h2⟩;exact⟨⟨h1,aB⟩,aB⟩
def Wc(p:Nat)(l:List cY):Bool:=l.any λe=>decide (e.aN=p)
theorem hasP_snoc{p:Nat}{l:List cY}{e:cY}:Wc p (l++[e])=(Wc p l ||decide (e.aN=p)):=by unfold Wc;rw[List.any_append];simp
theorem hasP_iff{p:Nat}{l:List cY}:Wc p l=true↔∃e∈l,e.aN=p:=by unfold Wc;simp
def tO.add(t:tO)(e:cY):tO:=⟨t.fD,Fz e t.bK,λy=>if y=(e.aN:Int) then some e.aM else t.gr y⟩
def tO.drop(t:tO)(p:Nat):tO:=⟨t.fD,t.bK.filter λf=>!decide (f.aN=p),t.gr⟩
theorem WR{α:Type}{f:α->As}:∀{l m:List α} {w:aH} {S:BS},bJ (wM f l) (wM f m) w S->wM f (l++m) w S
 | [],m,w,S,⟨S1,S2,h1,h2,d,e⟩=>As.ext h2 λk=>by
   rw[e k];exact⟨.inr,λh=>h.elim (λh=>absurd h (h1 k)) id⟩
 |x::l,m,w,S,h=>by
  have h':bJ (f x) (bJ (wM f l) (wM f m)) w S:=bJ.asr h;exact h'.mono (λ_ h=>h) λ_ h=>WR h
section
variable{w:aH}{S:BS}{a:Nat}{t:tO}
theorem TNew_i'{fD:Nat}{Q:cR->Int->aH->Prop}(hm:1<=fD/\fD<=16)(hQ:∀g w' S',DG g ⟨fD,[],λ_=>none⟩ w' S'->aL w w'->(∀k,S' k->w.heap.size<=k)->Q (some ⟨g,0,none⟩) 0 w'):EP (fD:Int) w Q:=by
 unfold EP;refine aJ (λh=>aB) (λ_=>aJ (λh=>aB) (λ_=>?_));refine rA (ek:=FA) (kn:=qW) λua k1=>rA (ek:=FA) (kn:=Li) λjd k2=>?_;have z1:(w.alloc (.map #[] 0)).heap.size=w.heap.size+1:=by simp[World.alloc_eq]
 generalize w.alloc (.map #[] 0)=w1 at*;have z2:(w1.alloc (.map #[] 0)).heap.size=w1.heap.size+1:=by simp[World.alloc_eq]
 generalize w1.alloc (.map #[] 0)=w2 at*;refine cO (cs:=[aD (fD:Int),.map (some w.heap.size),.map (some w1.heap.size)]) λw3 b3 k3 z3=>?_;have a1:wL w.heap.size FA qW (sX []) 0 w3 (λk=>k=w.heap.size):=⟨(ua.aK k2 id).aK k3 id,λ_=>Iff.rfl⟩;have a2:wL w1.heap.size FA Li (λ_=>none) 0 w3 (λk=>k=w1.heap.size):=⟨jd.aK k3 id,λ_=>Iff.rfl⟩;refine hQ _ w3 _ ⟨w.heap.size,w1.heap.size,0,bJ.xR b3 (bJ.xR a1 (bJ.emp a2) λk h1 h2=>?_) λk h1 h2=>?_⟩ ((k1.tr k2).tr k3) λk hk=>?_
 ·have h1':k=w.heap.size:=h1;omega
 ·have h1':k=w2.heap.size:=h1;rcases h2 with h2|h2
  ·have h2':k=w.heap.size:=h2;omega
  ·have h2':k=w1.heap.size:=h2;omega
 ·rcases hk with h|h|h
  ·have h':k=w2.heap.size:=h;omega
  ·have h':k=w.heap.size:=h;omega
  ·have h':k=w1.heap.size:=h;omega
theorem tO.may0{t:tO}{aN:Nat}{aM:Int}(h:t.vF aN aM=0):t.grI (aN:Int)<aM/\¬(t.fD<=t.bK.length/\∀e∈t.bK,e.aN≠aN):=by
 unfold tO.vF at h
 split at h
 ·omega
 ·split at h
  ·omega
  ·exact⟨aB,by assumption⟩
theorem tO.Ok.add{t:tO}(ok:t.Ok){e:cY}(hp:e.aN<16)(gD:(Fz e t.bK).length<=t.fD):(t.add e).Ok:=
 ⟨ok.fD,gD,Hm ok.sO,λf hf=>(oV.1 hf).elim (λh=>by rw[h];exact hp) λh=>ok.aN f h.1⟩
theorem tO.Ok.drop{t:tO}(ok:t.Ok)(p:Nat):(t.drop p).Ok:=
 ⟨ok.fD,iR (zL _ _) ok.len,ok.sO.filter _,λf hf=>ok.aN f (jI.1 hf).1⟩
theorem TAdd_i{e:cY}{Q:Int->aH->Prop}(h:bJ (DG a t) (JH e) w S)(ok:t.Ok)(hp:e.aN<16)(hc:1<=e.aM/\e.aM<=2147483648)(hm:t.vF e.aN e.aM=0)
  (hQ:∀w' S',bJ (DG a (t.add e)) (wM JH (oldE e.aN t.bK)) w' S'->Up S S' w w'->(t.add e).Ok->Q 0 w'):ND (some ⟨a,0,none⟩) (LC e) w Q:=by
 unfold ND;have hd:=bG.dr h;have cE:∀{wx:aH} {Sx:BS},bJ (DG a t) (JH e) wx Sx->wx.cell? ((⟨e.a,0,none⟩:Addr).add 0)=some (aD (e.aN:Int))/\wx.cell? ((⟨e.a,0,none⟩:Addr).add 1)=some (aD e.aM):=λhx=>by
  obtain⟨S1,S2,_,h2,_⟩:=hx;exact⟨aP h2 rfl,aP h2 rfl⟩
 refine aF (λh=>by simp at h) (λ_=>aF (λh=>by simp at h) (λ_=>aA rfl (aE (k:=.i) (e.aN:Int) (cE hd).1 (aA rfl (aE (k:=.i) e.aM (cE hd).2 ?_)))));obtain⟨Sx,hx,_,_⟩:=(bJ.l hd).put;refine TMay_i hx ok hp hc λw1 k1=>?_;rw[hm];refine aF (λh=>by cases h) (λ_=>?_);have K:=((bY w).tr k1).tr (bY w1);have h1:=bG.kp h K;obtain⟨SA,SE,⟨m1,m2,ng,hA⟩,hE,dAE,eAE⟩:=h1;have cA:=hA.cells;have c1:w1.drew.cell? ((⟨e.a,0,none⟩:Addr).add 0)=some (aD (e.aN:Int)):=aP hE rfl;have c2:w1.drew.cell? ((⟨e.a,0,none⟩:Addr).add 1)=some (aD e.aM):=aP hE rfl;refine aA rfl (aE (k:=.map) (some m1) cA.2.1 (aA rfl (aE (k:=.i) (e.aN:Int) c1 (aA rfl (aE (k:=.map) (some m2) cA.2.2 (aA rfl (aE (k:=.i) (e.aN:Int) c1 (aA rfl (aE (k:=.i) e.aM c2 ?_)))))))));have h2:bJ (YX a m1 m2 ng t) (JH e) w1.drew S:=⟨SA,SE,hA,hE,dAE,eAE⟩;obtain⟨S3,h3,_,Gz⟩:=((bJ.l h2).c λT hT=>(bJ.r hT).c λT hT=>bJ.l hT).put;refine Th (kn:=qW) OH lF (z:=(none:cR)) EF h3.1 (e.aN:Int) (LC e) λw3 hm3 mm3 _=>?_;obtain⟨S4,h4,u4⟩:=Gz (wL m1 FA qW (λy=>if y=(e.aN:Int) then some (LC e) else sX t.bK y) (if(sX t.bK (e.aN:Int)).isSome then t.bK.length else t.bK.length+1)) w3 S3 (Up.at (mm3.mono λk _ hk=>(h3.2 k).2 hk)) ⟨hm3,h3.2⟩
 obtain⟨S5,h5,_,back5⟩:=((bJ.l h4).c λT hT=>(bJ.r hT).c λT hT=>(bJ.r hT).c λT hT=>bJ.l hT).put;refine Th (kn:=Li) pE lF (z:=(0:Int)) MP h5.1 (e.aN:Int) e.aM λw5 hm5 mm5 _=>?_;obtain⟨S6,h6,u6⟩:=back5 (wL m2 FA Li (λy=>if y=(e.aN:Int) then some e.aM else t.gr y) (if(t.gr (e.aN:Int)).isSome then ng else ng+1)) w5 S5 (Up.at (mm5.mono λk _ hk=>(h5.2 k).2 hk)) ⟨hm5,h5.2⟩
 have sO:=ok.sO;have hf:∀x,sX (Fz e t.bK) x=(λy=>if y=(e.aN:Int) then some (LC e) else sX t.bK y) x:=λx=>by
  refine Ib (f:=λy=>if y=(e.aN:Int) then some (LC e) else sX t.bK y) (Hm sO) (λx p=>?_) x
  by_cases hx:x=(e.aN:Int)
  ·rw[if_pos hx]
   constructor
   ·intro h;cases h;exact⟨e,oV.2 (.inl rfl),hx.symm,rfl⟩
   ·rintro⟨f,hf,hfx,rfl⟩;rcases oV.1 hf with rfl|⟨_,gK⟩
    ·rfl
    ·exact absurd aB gK
  ·rw[if_neg hx,XD sO]
   constructor
   ·rintro⟨f,hf,hfx,rfl⟩;exact⟨f,oV.2 (.inr ⟨hf,λh=>hx (by rw[<-hfx,h])⟩),hfx,rfl⟩
   ·rintro⟨f,hf,hfx,rfl⟩;rcases oV.1 hf with rfl|⟨hf,_⟩
    ·exact absurd hfx.symm hx
    ·exact⟨f,hf,hfx,rfl⟩
 obtain⟨SY,SZ,⟨SB,SR,hB,⟨SM,SQ,hM,⟨SG,SL,hG,hL,dGL,eGL⟩,dM,eM⟩,dB,eB⟩,hE6,dYZ,eYZ⟩:=h6;have hM':=hM.1.congr hf rfl;have hn:=Pb (Hm sO) hM';have gD:(Fz e t.bK).length<=t.fD:=by
  have hm0:=(tO.may0 hm).2;rw[<-hn]
  split
  ·exact ok.len
  ·rename_i hns
   apply Nat.succ_le_of_lt;apply Nat.lt_of_not_le;intro LK;exact hm0 ⟨LK,λf hf Qn=>hns (Bp.2 ⟨f,hf,aB⟩)⟩
 have Ql:(t.add e).Ok:=ok.add hp gD;obtain⟨L1,L2,f1,f2,d12,e12⟩:=wM.filter (λf=>decide (f.aN<e.aN)) hL;obtain⟨L3,L4,f3,f4,d34,Vs⟩:=wM.filter (λf=>decide (e.aN<f.aN)) f2;have nX:∀k,L1 k\/L3 k\/L4 k->SL k:=λk hk=>(e12 k).2 (hk.imp id λh=>(Vs k).2 h);have hEL:∀k,SZ k->SL k->False:=λk hz hl=>dYZ k ((eB k).2 (.inr ((eM k).2 (.inr ((eGL k).2 (.inr hl)))))) hz;have hIns:wM JH (Fz e t.bK) w5 (λk=>L1 k\/(SZ k\/L3 k)):=WR (bJ.xR f1 (show wM JH (e::_) w5 _ from bJ.xR hE6 f3 λk h1 h2=>hEL k h1 (nX k (.inr (.inl h2)))) λk h1 h2=>h2.elim (λh=>hEL k h (nX k (.inl h1))) λh=>d12 k h1 ((Vs k).2 (.inl h)));have inS6:∀k,SB k\/SM k\/SG k\/SL k\/SZ k->S6 k:=λk hk=>(eYZ k).2 (by
  rcases hk with h|h|h|h|h
  ·exact .inl ((eB k).2 (.inl h))
  ·exact .inl ((eB k).2 (.inr ((eM k).2 (.inl h))))
  ·exact .inl ((eB k).2 (.inr ((eM k).2 (.inr ((eGL k).2 (.inl h))))))
  ·exact .inl ((eB k).2 (.inr ((eM k).2 (.inr ((eGL k).2 (.inr h))))))
  ·exact .inr h)
 have notZ:∀k,SB k\/SM k\/SG k->(SL k\/SZ k)->False:=λk hk hl=>by
  rcases hl with hl|hl
  ·rcases hk with h|h|h
   ·exact dB k h ((eM k).2 (.inr ((eGL k).2 (.inr hl))))
   ·exact dM k h ((eGL k).2 (.inr hl))
   ·exact dGL k h hl
  ·refine dYZ k ((eB k).2 ?_) hl;rcases hk with h|h|h
   ·exact .inl h
   ·exact .inr ((eM k).2 (.inl h))
   ·exact .inr ((eM k).2 (.inr ((eGL k).2 (.inl h))))
 have lz:∀k,L1 k\/(SZ k\/L3 k)->SL k\/SZ k:=λk hk=>by
  rcases hk with h|h|h
  ·exact .inl (nX k (.inl h))
  ·exact .inr h
  ·exact .inl (nX k (.inr (.inl h)))
 have hT:DG a (t.add e) w5 (λk=>SB k\/(SM k\/(SG k\/(L1 k\/(SZ k\/L3 k))))):=
  ⟨m1,m2,_,bJ.xR hB (bJ.xR ⟨by rw[hn] at hM';exact hM',hM.2⟩ (bJ.xR hG hIns λk h1 h2=>notZ k (.inr (.inr h1)) (lz k h2)) λk h1 h2=>h2.elim (λh=>dM k h1 ((eGL k).2 (.inl h))) λh=>notZ k (.inr (.inl h1)) (lz k h)) λk h1 h2=>by
   rcases h2 with h|h|h
   ·exact dB k h1 ((eM k).2 (.inl h))
   ·exact dB k h1 ((eM k).2 (.inr ((eGL k).2 (.inl h))))
   ·exact notZ k (.inl h1) (lz k h)⟩
 refine hQ w5 _ (bJ.xR hT f4 λk h1 h2=>?_) ⟨(((Up.aO K).tr u4).tr u6).m,λk hk=>(((Up.aO K).tr u4).tr u6).s k (inS6 k ?_)⟩ Ql
 ·have h4L:=nX k (.inr (.inr h2));rcases h1 with h|h|h|h|h|h
  ·exact notZ k (.inl h) (.inl h4L)
  ·exact notZ k (.inr (.inl h)) (.inl h4L)
  ·exact notZ k (.inr (.inr h)) (.inl h4L)
  ·exact d12 k h ((Vs k).2 (.inr h2))
  ·exact hEL k h h4L
  ·exact d34 k h h2
 ·rcases hk with(h|h|h|h|h|h)|h
  ·exact .inl h
  ·exact .inr (.inl h)
  ·exact .inr (.inr (.inl h))
  ·exact .inr (.inr (.inr (.inl (nX k (.inl h)))))
  ·exact .inr (.inr (.inr (.inr h)))
  ·exact .inr (.inr (.inr (.inl (nX k (.inr (.inl h))))))
  ·exact .inr (.inr (.inr (.inl (nX k (.inr (.inr h))))))
theorem TDrop_i{p:Nat}{QL:Sl}{Q:Sl->aH->Prop}(h:DG a t w S)(ok:t.Ok)(hr:Rd w QL 1 eI [(p:Int)])(ho:LL QL S w)
  (hQ:∀r w' S',bJ (DG a (t.drop p)) (wM JH (t.bK.filter λf=>decide (f.aN=p))) w' S'->Up S S' w w'->Q r w'):xI (some ⟨a,0,none⟩) QL w Q:=by
 unfold xI;refine oq h ok λs1 w1 v1 k1 f1=>?_;have bd:=bG.gX h;obtain⟨m1,m2,ng,h0⟩:=bG.kp h k1;have sl:=v1.len;have ol:=ok.len;have om:=ok.fD;rw[oH] at sl;have o1:LL s1 S w1:=λb hb=>⟨λhk=>by have:=bd _ hk;have:=f1 b hb;omega,v1.lt hb⟩;refine bL (λn tt w3=>∃(i:Nat) (r:Sl) (f:Int->Option qW.T) (nf:Nat),i<=t.bK.length/\n=t.bK.length-i/\tt=(r,(i:Int),())/\TabX a m1 m2 ng nf f t w3 S/\aU S w w3/\(∀y,f y=if y=(p:Int)/\Wc p (t.bK.take i)=true then none else sX t.bK y)/\(∃xs,dD w3 Ss 1 gy r xs/\xs.length<=i)/\(∀b,r.b=some b->w1.heap.size<=b.block)/\Rd w3 s1 1 gy (t.bK.map LC)/\w1.heap.size<=w3.heap.size/\Rd w3 QL 1 eI [(p:Int)]) t.bK.length
  ⟨0,aZ,sX t.bK,t.bK.length,dE _,rfl,rfl,h0,k1.wk,λy=>(by rw[if_neg];rintro⟨_,he⟩;cases he),⟨[],dD.nil _ _ _ _,dL _⟩,λb hb=>(by cases hb),v1.rd QO,dL _,hr.aK k1 cI λ_ _=>id⟩ ?_
 rintro n tt w3 ⟨i,r,f,nf,hi,rfl,rfl,h3,m3,hf,⟨xs,v3,Ak⟩,f3,r3,z3,p3⟩ X hX;dsimp only;refine aJ (λcC=>?_) (λkC=>?_)
 ·have dJ:i<t.bK.length:=aB;have cQ:=cM dJ;have gF:=mX dJ;have sC:=mM dJ;generalize t.bK[i]=e at*;obtain⟨q,hq,cq⟩:=bP (k:=.ptr) (e:=λx=>x) r3 (show(t.bK.map LC)[i]? =some (LC e) by rw[oM,cQ];rfl);rw[dW,pP i aB];refine⟨⟨aB,cC⟩,aA hq (aE (k:=.ptr) (LC e) cq (aA rfl ?_))⟩;have cP:∀{wx},TabX a m1 m2 ng nf f t wx S->wx.cell? ((⟨e.a,0,none⟩:Addr).add 0)=some (aD (e.aN:Int))/\wx.cell? ((⟨a,0,none⟩:Addr).add 1)=some (.map (some m1)):=λhx=>by
   obtain⟨S1,_,hb,⟨_,_,_,⟨_,_,_,hL,_⟩,_⟩,_⟩:=hx;obtain⟨S2,he2,_⟩:=wM.get hL gF;exact⟨aP he2 rfl,aP hb rfl⟩
  refine aE (k:=.i) (e.aN:Int) (cP h3).1 ?_;unfold gQ;refine Za p3 dN λj w4 k4 hj=>?_;have Xc:∀y,(if y=(p:Int)/\Wc p (t.bK.take (i+1))=true then none else sX t.bK y)=if e.aN=p/\y=(p:Int) then none else f y:=λy=>by
   rw[hf y,sC,hasP_snoc]
   by_cases hy:y=(p:Int)
   ·by_cases hep:e.aN=p
    ·rw[if_pos ⟨hy,by simp[hep]⟩,if_pos ⟨hep,hy⟩]
    ·rw[if_neg (c:=e.aN=p/\_) (λh=>hep h.1),decide_eq_false hep,Bool.or_false]
   ·rw[if_neg (λh=>hy h.1),if_neg (λh=>hy h.2),if_neg (λh=>hy h.1)]
  have bd4:∀k,S k->k<w1.heap.size:=λk hk=>pG (bd k hk) k1.size;refine aJ (λhj0=>?_) (λhj0=>?_)
  ·have hep:e.aN=p:=by have:=hj.1 hj0;simp at this;omega
   have h4:=bG.kp h3 (k4.tr (bY w4));have c4:=cP h4;refine aA rfl (aE (k:=.map) (some m1) c4.2 (aA rfl (aE (k:=.i) (e.aN:Int) c4.1 ?_)));obtain⟨SB,SR,hB,⟨SM,SQ,hM,hGL,dM,eM⟩,dB,eB⟩:=h4;refine Yh OH lF hM (e.aN:Int) λw5 hM5 u5=>?_;have h5:TabX a m1 m2 ng (if(f (e.aN:Int)).isSome then nf-1 else nf) (λy=>if y=(e.aN:Int) then none else f y) t w5 S:=⟨SB,SR,bG.aK hB u5.m λk h1 h2=>dB k h1 ((eM k).2 (.inl h2)),⟨SM,SQ,hM5,bG.aK hGL u5.m λk h1 h2=>dM k h2 h1,dM,eM⟩,dB,eB⟩
   have mS:aU S w4.drew w5:=u5.m.mono λk _ hk=>(eB k).2 (.inr ((eM k).2 (.inl hk)));have K4:=k4.tr (bY w4);have r4:=(r3.aK K4 TK λ_ _=>id).aK mS TK λb hb=>(o1 b hb).1;have p4:=(p3.aK K4 cI λ_ _=>id).aK mS cI λb hb=>(ho b hb).1;have v4:=(v3.aK K4 λ_ _=>id).aK mS λb hb hs=>by have:=bd4 _ hs;have:=f3 b hb;omega
   have zz:w3.heap.size<=w5.heap.size:=iR K4.size mS.size;refine cO (cs:=gy (LC e)) λw6 b6 k6 z6=>?_;refine fH XW QO onePt (x:=⟨some ⟨w5.heap.size,0,none⟩,1,1⟩) (v4.aK k6 λ_ _=>id) (mO QO [LC e] b6 rfl dN) (by simp;omega) (by simp;omega) λr' w7 v7 m7 hr7 _=>?_;have n7:∀k,(∃b,r.b=some b/\k=b.block)->w1.heap.size<=k:=λk ⟨b,hb,e⟩=>by rw[e];exact f3 b hb
   refine hX _ _ _ aB ⟨i+1,r',_,_,dJ,rfl,rfl,bG.aK (bG.kp h5 k6) m7 λk hk hn=>by have:=bd4 k hk;have:=n7 k hn;omega,(((m3.trans K4.wk λ_ _ h=>h).trans mS λ_ _ h=>h).trans k6.wk λ_ _ h=>h).trans m7 λk hk hn=>by have:=n7 k hn;have:=k1.size;omega,λy=>?_,⟨_,v7,by simp;omega⟩,λb hb=>?_,((r4.aK k6 TK λ_ _=>id).aK m7 TK λb hb hn=>?_),?_,((p4.aK k6 cI λ_ _=>id).aK m7 cI λb hb hn=>?_)⟩
   ·rw[Xc y,hep];simp
   ·rcases hr7 with h|⟨b',h,h2⟩
    ·exact f3 b (h.symm.trans hb)
    ·rw[hb] at h;cases h;have:=k6.size;omega
   ·have:=n7 _ hn;have:=(o1 b hb).2;omega
   ·have:=k6.size;have:=m7.size;omega
   ·have:=n7 _ hn;have:=(ho b hb).2;have:=k1.size;omega
  ·have hep:¬e.aN=p:=λh=>hj0 (hj.2 (by simp;omega));refine hX _ _ _ aB ⟨i+1,r,f,nf,dJ,rfl,rfl,bG.kp h3 k4,m3.trans k4.wk λ_ _ h=>h,λy=>by rw[Xc y,if_neg λh=>hep h.1],⟨xs,v3.aK k4 λ_ _=>id,aB⟩,f3,r3.aK k4 TK λ_ _=>id,iR z3 k4.size,p3.aK k4 cI λ_ _=>id⟩
 ·have ei:i=t.bK.length:=aB;subst ei;have sO:KX t.bK:=ok.sO;have QE:∀x,sX (t.drop p).bK x=f x:=λx=>by
   refine Ib (f:=f) (sO.filter _) (λx q=>?_) x;rw[hf x,oI]
   by_cases hx:x=(p:Int)/\Wc p t.bK=true
   ·rw[if_pos hx];refine⟨λh=>(by cases h),?_⟩;rintro⟨e,he,hex,_⟩;have:=(jI.1 he).2;simp at this;exact absurd aB this
   ·rw[if_neg hx,XD sO]
    constructor
    ·rintro⟨e,he,hex,rfl⟩;exact⟨e,jI.2 ⟨he,by simp;intro hp;exact hx ⟨aB,hasP_iff.2 ⟨e,he,hp⟩⟩⟩,hex,rfl⟩
    ·rintro⟨e,he,hex,rfl⟩;exact⟨e,(jI.1 he).1,hex,rfl⟩
  obtain⟨SB,SR,hB,⟨SM,SQ,hM,⟨SG,SL,hG,hL,dGL,eGL⟩,dM,eM⟩,dB,eB⟩:=h3;have hM':=hM.1.congr QE rfl;have hn:=Pb (sO.filter _) hM';obtain⟨L1,L2,f1',f2,d12,e12⟩:=wM.filter (λf:cY=>decide (f.aN=p)) hL;refine hQ r w3 S ?_ (Up.at m3);have h1:bJ (uL a ml [aD (t.fD:Int),.map (some m1),.map (some m2)]) (bJ (wL m1 FA qW (sX (t.drop p).bK) (t.drop p).bK.length) (bJ (wL m2 FA Li t.gr ng) (bJ (wM JH (t.drop p).bK) (wM JH (t.bK.filter λf=>decide (f.aN=p)))))) w3 S:=
   ⟨SB,SR,hB,⟨SM,SQ,⟨by rw[hn] at hM';exact hM',hM.2⟩,⟨SG,SL,hG,⟨L2,L1,f2,f1',λk a b=>d12 k b a,λk=>(e12 k).trans Or.comm⟩,dGL,eGL⟩,dM,eM⟩,dB,eB⟩
  have h2:bJ (YX a m1 m2 ng (t.drop p)) (wM JH (t.bK.filter λf=>decide (f.aN=p))) w3 S:=
   (bJ.mono h1 (λ_ h=>h) λ_ h=>(bJ.mono h (λ_ h=>h) λ_ h=>bJ.asl h).asl).asl
  exact h2.mono (λ_ h=>⟨m1,m2,ng,h⟩) λ_ h=>h
end
end
open Tryz (prog)
section
set_option linter.unusedSectionVars false
inductive F2{α β:Type}(R:α->β->Prop):List α->List β->Prop
 |nil:F2 R [] []
 |cons {a b l m}:R a b->F2 R l m->F2 R (a::l) (b::m)
section
variable{α β:Type}{R:α->β->Prop}
theorem F2.len{l:List α}{m:List β}(h:F2 R l m):l.length=m.length:=by
 induction h with
 |nil=>rfl
 |cons _ _ ih=>simp[ih]
theorem F2.app{l l':List α}{m m':List β}(h:F2 R l m)(h':F2 R l' m'):F2 R (l++l') (m++m'):=by
 induction h with
 |nil=>exact h'
 |cons a _ ih=>exact .cons a ih
theorem F2.one{a:α}{b:β}(h:R a b):F2 R [a] [b]:=.cons h .nil
theorem F2.mem{l:List α}{m:List β}(h:F2 R l m){b:β}(hb:b∈m):∃a∈l,R a b:=by
 induction h with
 |nil=>cases hb
 |cons r _ ih=>
  rcases jO.1 hb with rfl|hb
  ·exact⟨_,by simp,r⟩
  ·obtain⟨a,ha,h⟩:=ih hb;exact⟨a,by simp[ha],h⟩
end
class Ay {β:Type} (eb:β->List Value):Prop where
 ne:∀x,eb x≠[]
instance:Ay eU:=⟨fQ⟩
instance:Ay eI:=⟨cI⟩
structure fK{α β:Type}(eb:β->List Value)(ty:TypeId)(n:Nat)(aY:α×Sl->List Value)(zP:α->List β)(lo:Nat)(S:BS)(w:aH)(r:Sl)(ps:List α):Prop where
 ex:∃xs:List (α×Sl),xs.map (·.1)=ps/\dD w ty n aY r xs/\(∀b,r.b=some b->lo<=b.block/\¬S b.block)/\∀x∈xs,Rd w x.2 1 eb (zP x.1)/\∀b,x.2.b=some b->lo<=b.block/\¬S b.block/\b.block<w.heap.size/\∀b',r.b=some b'->b.block≠b'.block
def wU{α β:Type}(eb:β->List Value)(n:Nat)(aY:α×Sl->List Value)(zP:α->List β)(P:BS)(w:aH)(r:Sl)(ps:List α):Prop:=
 ∃xs:List (α×Sl),xs.map (·.1)=ps/\Rd w r n aY xs/\(∀b,r.b=some b->P b.block/\b.block<w.heap.size)/\∀x∈xs,Rd w x.2 1 eb (zP x.1)/\∀b,x.2.b=some b->P b.block/\b.block<w.heap.size
section
variable{α β:Type}{eb:β->List Value}[Ay eb]{ty sty:TypeId}{n:Nat}{aY:α×Sl->List Value}{zP:α->List β}{lo:Nat}{S S' P:BS}{w w':aH}{r:Sl}{ps:List α}
theorem fK.nil:fK eb ty n aY zP lo S w aZ []:=⟨⟨[],rfl,dD.nil _ _ _ _,λb hb=>(by cases hb),λx hx=>(by cases hx)⟩⟩
theorem fK.aK{F:BS}(h:fK eb ty n aY zP lo S w r ps)(m:aU F w w')(hF:∀k,lo<=k->¬S k->k<w.heap.size->¬F k)(hS:∀k,¬S k->k<w.heap.size->¬S' k):fK eb ty n aY zP lo S' w' r ps:=by
 obtain⟨xs,h1,h2,h3,h4⟩:=h.ex;refine⟨xs,h1,h2.aK m λb hb=>hF _ (h3 b hb).1 (h3 b hb).2 (h2.lt hb),λb hb=>⟨(h3 b hb).1,hS _ (h3 b hb).2 (h2.lt hb)⟩,λx hx=>?_⟩;obtain⟨g1,g2⟩:=h4 x hx;exact⟨g1.aK m Ay.ne λb hb=>hF _ (g2 b hb).1 (g2 b hb).2.1 (g2 b hb).2.2.1,λb hb=>⟨(g2 b hb).1,hS _ (g2 b hb).2.1 (g2 b hb).2.2.1,pG (g2 b hb).2.2.1 m.size,(g2 b hb).2.2.2⟩⟩
theorem fK.up(h:fK eb ty n aY zP lo S w r ps)(u:Up S S' w w'):fK eb ty n aY zP lo S' w' r ps:=
 h.aK u.m (λ_ _ h _=>h) λk h1 h2 h3=>(u.s k h3).elim h1 λh=>aB
theorem fK.kp(h:fK eb ty n aY zP lo S w r ps)(k:aL w w'):fK eb ty n aY zP lo S w' r ps:=h.up (Up.aO k)
theorem fK.sub(h:fK eb ty n aY zP lo S w r ps)(hS:∀k,S' k->S k):fK eb ty n aY zP lo S' w r ps:=h.aK (aU.refl (λ_=>False) w) (λ_ _ _ _=>id) λk h1 _ h2=>h1 (hS k h2)
theorem fK.cov(h:fK eb ty n aY zP lo S w r ps)(hS:∀k,S' k->S k\/k<lo):fK eb ty n aY zP lo S' w r ps:=by
 obtain⟨xs,h1,h2,h3,h4⟩:=h.ex;have key:∀k,lo<=k->¬S k->¬S' k:=λk h1 h2 h3=>(hS k h3).elim h2 λh=>aB;exact⟨xs,h1,h2,λb hb=>⟨(h3 b hb).1,key _ (h3 b hb).1 (h3 b hb).2⟩,λx hx=>⟨(h4 x hx).1,λb hb=>⟨((h4 x hx).2 b hb).1,key _ ((h4 x hx).2 b hb).1 ((h4 x hx).2 b hb).2.1,((h4 x hx).2 b hb).2.2⟩⟩⟩
theorem fK.qM{lo':Nat}(h:fK eb ty n aY zP lo S w r ps)(hl:lo'<=lo):fK eb ty n aY zP lo' S w r ps:=by
 obtain⟨xs,h1,h2,h3,h4⟩:=h.ex;exact⟨xs,h1,h2,λb hb=>⟨iR hl (h3 b hb).1,(h3 b hb).2⟩,λx hx=>⟨(h4 x hx).1,λb hb=>⟨iR hl ((h4 x hx).2 b hb).1,((h4 x hx).2 b hb).2⟩⟩⟩
theorem fK.len(h:fK eb ty n aY zP lo S w r ps):r.l=ps.length:=by
 obtain⟨xs,rfl,h2,_⟩:=h.ex;rw[h2.len,oH]
theorem fK.rd(gE:∀x,(aY x).length=n)(h:fK eb ty n aY zP lo S w r ps):wU eb n aY zP (λk=>lo<=k/\¬S k) w r ps:=by
 obtain⟨xs,h1,h2,h3,h4⟩:=h.ex;exact⟨xs,h1,h2.rd gE,λb hb=>⟨h3 b hb,h2.lt hb⟩,λx hx=>⟨(h4 x hx).1,λb hb=>⟨⟨((h4 x hx).2 b hb).1,((h4 x hx).2 b hb).2.1⟩,((h4 x hx).2 b hb).2.2.1⟩⟩⟩
theorem wU.aK{F:BS}(gK:∀x,aY x≠[])(h:wU eb n aY zP P w r ps)(m:aU F w w')(hF:∀k,P k->k<w.heap.size->¬F k):wU eb n aY zP P w' r ps:=by
 obtain⟨xs,h1,h2,h3,h4⟩:=h;exact⟨xs,h1,h2.aK m gK λb hb=>hF _ (h3 b hb).1 (h3 b hb).2,λb hb=>⟨(h3 b hb).1,pG (h3 b hb).2 m.size⟩,λx hx=>⟨(h4 x hx).1.aK m Ay.ne λb hb=>hF _ ((h4 x hx).2 b hb).1 ((h4 x hx).2 b hb).2,λb hb=>⟨((h4 x hx).2 b hb).1,pG ((h4 x hx).2 b hb).2 m.size⟩⟩⟩
theorem wU.wk{P':BS}(h:wU eb n aY zP P w r ps)(hP:∀k,P k->k<w.heap.size->P' k):wU eb n aY zP P' w r ps:=by
 obtain⟨xs,h1,h2,h3,h4⟩:=h;exact⟨xs,h1,h2,λb hb=>⟨hP _ (h3 b hb).1 (h3 b hb).2,(h3 b hb).2⟩,λx hx=>⟨(h4 x hx).1,λb hb=>⟨hP _ ((h4 x hx).2 b hb).1 ((h4 x hx).2 b hb).2,((h4 x hx).2 b hb).2⟩⟩⟩
theorem wU.up(gK:∀x,aY x≠[])(h:wU eb n aY zP (λk=>¬S k) w r ps)(u:Up S S' w w'):wU eb n aY zP (λk=>¬S' k) w' r ps:=by
 have h':wU eb n aY zP (λk=>¬S k/\k<w.heap.size) w r ps:=h.wk λk h1 h2=>⟨h1,h2⟩;exact(h'.aK gK u.m λk h _=>h.1).wk λk h _ hs=>(u.s k hs).elim h.1 λhh=>aB
theorem wU.kp(gK:∀x,aY x≠[])(h:wU eb n aY zP P w r ps)(k:aL w w'):wU eb n aY zP P w' r ps:=h.aK gK k λ_ _ _=>id
theorem wU.len(h:wU eb n aY zP P w r ps):r.l=ps.length:=by
 obtain⟨xs,rfl,h2,_⟩:=h;rw[h2.len,oH]
theorem wU.get(h:wU eb n aY zP P w r ps){i:Nat}{x:α}(hx:ps[i]? =some x):∃a sl,r.b=some a/\bQ w (a.add (i*n)) 0 (aY (x,sl))/\Rd w sl 1 eb (zP x)/\∀b,sl.b=some b->P b.block/\b.block<w.heap.size:=by
 obtain⟨xs,rfl,h2,h3,h4⟩:=h;rw[oM] at hx;cases hy:xs[i]? with
 |none=>rw[hy] at hx;cases hx
 |some y=>rw[hy] at hx;obtain⟨x',sl⟩:=y;cases hx;obtain⟨a,ha,hh⟩:=h2.get i _ hy;have:=h4 _ (lD hy);exact⟨a,sl,ha,hh,this.1,this.2⟩
theorem fK.vu{bytes:Nat}{z:List Value}(hE:sY prog sty ty n bytes z)(gE:∀x,(aY x).length=n)(jB:∀x,∀u∈aY x,u.oneCell'=true)(hb:bytes<=1000)(h:fK eb ty n aY zP lo S w r ps)(hl:ps.length+1<=1000000)(Ll:lo<=w.heap.size)(hS:∀k,S k->k<w.heap.size)(x:α){sl:Sl}(hr:Rd w sl 1 eb (zP x))
  (ho:∀b,sl.b=some b->lo<=b.block/\¬S b.block/\b.block<w.heap.size/\∀b',r.b=some b'->b.block≠b'.block) {K:Sl->aH->Prop}
  (hK:∀r' w',fK eb ty n aY zP lo S w' r' (ps++[x])->aU (λk=>∃a,r.b=some a/\k=a.block) w w'->(∀b,r'.b=some b->(∃a,r.b=some a/\b.block=a.block)\/w.heap.size<=b.block)->K r' w'):aG w (aY (x,sl)).toArray ty λa w1=>aW prog sty sty r (.slice (some a) 1 1) w1 K:=by
 obtain⟨xs,rfl,h2,h3,h4⟩:=h.ex;rw[oH] at hl;refine cO λw1 b1 k1 z1=>?_;have hm:(xs.length+1)*bytes<=1000000*1000:=RX hl hb;refine fH hE gE jB (x:=⟨some ⟨w.heap.size,0,none⟩,1,1⟩) (h2.aK k1 λ_ _=>id) (mO gE [(x,sl)] b1 dN dN) (by simp;omega) (by simp;omega) λr' w2 v2 m2 YI _=>?_;have hF:∀k,(∃a,r.b=some a/\k=a.block)->lo<=k/\¬S k:=λk ⟨a,ha,e⟩=>by rw[e];exact h3 a ha
 have hM:aU (λk=>lo<=k/\¬S k) w w2:=k1.wk.trans (m2.mono λk _ hk=>hF k hk) λ_ _ h=>h;have Vb:∀b,r'.b=some b->(∃a,r.b=some a/\b.block=a.block)\/w1.heap.size<=b.block:=λb hb=>by
  rcases YI with h|⟨a,h,h2⟩
  ·exact .inl ⟨b,h.symm.trans hb,rfl⟩
  ·rw[hb] at h;cases h;exact .inr h2
 have keyB:∀(y:α×Sl),Rd w y.2 1 eb (zP y.1)->(∀b,y.2.b=some b->lo<=b.block/\¬S b.block/\b.block<w.heap.size/\∀b',r.b=some b'->b.block≠b'.block)->Rd w2 y.2 1 eb (zP y.1)/\∀b,y.2.b=some b->lo<=b.block/\¬S b.block/\b.block<w2.heap.size/\∀b',r'.b=some b'->b.block≠b'.block:=λy g1 g2=>by
  refine⟨(g1.aK k1 Ay.ne λ_ _=>id).aK m2 Ay.ne λb hb ⟨a,ha,e⟩=>(g2 b hb).2.2.2 a ha e,λb hb=>⟨(g2 b hb).1,(g2 b hb).2.1,pG (g2 b hb).2.2.1 hM.size,λb' bR e=>?_⟩⟩;rcases Vb b' bR with⟨a,ha,e2⟩|h
  ·exact(g2 b hb).2.2.2 a ha (e.trans e2)
  ·have:=(g2 b hb).2.2.1;omega
 refine hK r' w2 ⟨xs++[(x,sl)],by simp,v2,λb hb=>?_,λy hy=>?_⟩ (k1.wk.trans m2 λ_ _ h=>h) (λb hb=>(Vb b hb).imp id λh=>by have:=k1.size;omega)
 ·rcases Vb b hb with⟨a,ha,e⟩|h
  ·rw[e];exact h3 a ha
  ·exact⟨aB,λhs=>by have:=hS _ hs;omega⟩
 ·rcases kE.1 hy with hy|hy
  ·exact keyB y (h4 y hy).1 (h4 y hy).2
  ·rw[oG.1 hy];exact keyB (x,sl) hr ho
theorem fK.gU{bytes:Nat}{z:List Value}(hE:sY prog sty ty n bytes z)(gE:∀x,(aY x).length=n)(jB:∀x,∀u∈aY x,u.oneCell'=true)(hb:bytes<=1000)(h:fK eb ty n aY zP lo S w r ps)(hl:ps.length+1<=1000000)(Ll:lo<=w.heap.size)(hS:∀k,S k->k<w.heap.size)(x:α){sl:Sl}(hr:Rd w sl 1 eb (zP x))
  (ho:∀b,sl.b=some b->lo<=b.block/\¬S b.block/\b.block<w.heap.size/\∀b',r.b=some b'->b.block≠b'.block) {K:Sl->aH->Prop}
  (hK:∀r' w',fK eb ty n aY zP lo S w' r' (ps++[x])->aU (λk=>lo<=k/\¬S k) w w'->K r' w'):aG w (aY (x,sl)).toArray ty λa w1=>aW prog sty sty r (.slice (some a) 1 1) w1 K:=
 fK.vu hE gE jB hb h hl Ll hS x hr ho λr' w' v m _=>hK r' w' v (m.mono λk _ ⟨a,ha,e⟩=>by
  obtain⟨xs,_,_,h3,_⟩:=h.ex;rw[e];exact h3 a ha)
theorem fK.lx{bytes:Nat}{z:List Value}{r0:Sl}{ps0:List α}{lo1:Nat}(hE:sY prog sty ty n bytes z)(gE:∀x,(aY x).length=n)(jB:∀x,∀u∈aY x,u.oneCell'=true)(hb:bytes<=1000)(h0:fK eb ty n aY zP lo S w r0 ps0)(h:fK eb ty n aY zP lo1 S w r ps)(Ll:lo<=lo1)(hr0:∀b,r0.b=some b->b.block<lo1)(hl:ps0.length+ps.length<=1000000)(hlw:lo<=w.heap.size)(hS:∀k,S k->k<w.heap.size){K:Sl->aH->Prop}
  (hK:∀r' w',fK eb ty n aY zP lo S w' r' (ps0++ps)->aU (λk=>∃a,r0.b=some a/\k=a.block) w w'->(∀b,r'.b=some b->(∃a,r0.b=some a/\b.block=a.block)\/w.heap.size<=b.block)->K r' w'):aW prog sty sty r0 (.slice r.b r.l r.c) w K:=by
 obtain⟨xs0,rfl,h2,h3,h4⟩:=h0.ex;obtain⟨xs,rfl,g2,g3,g4⟩:=h.ex;rw[oH,oH] at hl;have hm:(xs0.length+xs.length)*bytes<=1000000*1000:=RX hl hb;refine fH hE gE jB h2 (g2.rd gE) aB aB λr' w2 v2 m2 YI _=>?_;have hM:aU (λk=>lo<=k/\¬S k) w w2:=m2.mono λk _ ⟨a,ha,e⟩=>by rw[e];exact h3 a ha
 have Vb:∀b,r'.b=some b->(∃a,r0.b=some a/\b.block=a.block)\/w.heap.size<=b.block:=λb hb=>by
  rcases YI with h|⟨a,h,h2⟩
  ·exact .inl ⟨b,h.symm.trans hb,rfl⟩
  ·rw[hb] at h;cases h;exact .inr h2
 have keyB:∀(y:α×Sl),Rd w y.2 1 eb (zP y.1)->(∀b,y.2.b=some b->lo<=b.block/\¬S b.block/\b.block<w.heap.size/\∀b',r0.b=some b'->b.block≠b'.block)->Rd w2 y.2 1 eb (zP y.1)/\∀b,y.2.b=some b->lo<=b.block/\¬S b.block/\b.block<w2.heap.size/\∀b',r'.b=some b'->b.block≠b'.block:=λy g1 g2=>by
  refine⟨g1.aK m2 Ay.ne λb hb ⟨a,ha,e⟩=>(g2 b hb).2.2.2 a ha e,λb hb=>⟨(g2 b hb).1,(g2 b hb).2.1,pG (g2 b hb).2.2.1 hM.size,λb' bR e=>?_⟩⟩;rcases Vb b' bR with⟨a,ha,e2⟩|h
  ·exact(g2 b hb).2.2.2 a ha (e.trans e2)
  ·have:=(g2 b hb).2.2.1;omega
 refine hK r' w2 ⟨xs0++xs,by simp,v2,λb hb=>?_,λy hy=>?_⟩ m2 Vb
 ·rcases Vb b hb with⟨a,ha,e⟩|h
  ·rw[e];exact h3 a ha
  ·exact⟨aB,λhs=>by have:=hS _ hs;omega⟩
 ·rcases kE.1 hy with hy|hy
  ·exact keyB y (h4 y hy).1 (h4 y hy).2
  ·refine keyB y (g4 y hy).1 λb hb=>⟨iR Ll ((g4 y hy).2 b hb).1,((g4 y hy).2 b hb).2.1,((g4 y hy).2 b hb).2.2.1,λb' bR e=>?_⟩;have:=hr0 b' bR;have:=((g4 y hy).2 b hb).1;omega
theorem fK.zR(h:fK eb ty n aY zP lo S w r ps):∀k,(∃a,r.b=some a/\k=a.block)->lo<=k/\¬S k:=λk ⟨a,ha,e⟩=>by
 obtain⟨xs,_,_,h3,_⟩:=h.ex;rw[e];exact h3 a ha
theorem fK.app{bytes:Nat}{z:List Value}{r0:Sl}{ps0:List α}{lo1:Nat}(hE:sY prog sty ty n bytes z)(gE:∀x,(aY x).length=n)(jB:∀x,∀u∈aY x,u.oneCell'=true)(hb:bytes<=1000)(h0:fK eb ty n aY zP lo S w r0 ps0)(h:fK eb ty n aY zP lo1 S w r ps)(Ll:lo<=lo1)(hr0:∀b,r0.b=some b->b.block<lo1)(hl:ps0.length+ps.length<=1000000)(hlw:lo<=w.heap.size)(hS:∀k,S k->k<w.heap.size){K:Sl->aH->Prop}
  (hK:∀r' w',fK eb ty n aY zP lo S w' r' (ps0++ps)->aU (λk=>lo<=k/\¬S k) w w'->K r' w'):aW prog sty sty r0 (.slice r.b r.l r.c) w K:=
 fK.lx hE gE jB hb h0 h Ll hr0 hl hlw hS λr' w' v m _=>hK r' w' v (m.mono λk _ hk=>h0.zR k hk)
theorem fK.lt(h:fK eb ty n aY zP lo S w r ps){b:Addr}(hb:r.b=some b):b.block<w.heap.size:=by
 obtain⟨xs,rfl,h2,_⟩:=h.ex;exact h2.lt hb
end
theorem Up.iI{S0 S:BS}{w0 w w':aH}(u:Up S0 S w0 w)(m:aU (λk=>w0.heap.size<=k/\¬S k) w w'):Up S0 S w0 w':=
 ⟨u.m.trans m λk hk h=>by have:=h.1;omega,u.s⟩
theorem bG.ov{A:As}[bG A]{lo:Nat}{S:BS}{w w':aH}(h:A w S)(m:aU (λk=>lo<=k/\¬S k) w w'):A w' S:=bG.aK h m λk hk hn=>hn.2 hk
abbrev Wk(P:BS)(w:aH)(r:Sl)(gs:List fG):Prop:=wU eU 6 eG fG.body P w r gs
abbrev Gj(P:BS)(w:aH)(r:Sl)(bs:List (List cG)):Prop:=wU eU 1 (λx:List cG×Sl=>eS x.2) id P w r bs
theorem BV.row{w:aH}{T P:BS}{r:Sl}{gs:List fG}(h:BV r gs w T)(hP:∀k,T k->P k):Wk P w r gs:=by
 obtain⟨xs,rfl,S3,S4,h3,h4,d34,Vs⟩:=h;refine⟨xs,rfl,h3.1.rd Vx,λb hb=>⟨hP _ ((Vs _).2 (.inl ((h3.2 _).2 ⟨b,hb,rfl⟩))),h3.1.lt hb⟩,λx hx=>?_⟩;obtain⟨i,hi⟩:=List.getElem?_of_mem hx;have:=h4.2.1 i x.2 x.1.body (by rw[oM,hi];rfl) (by rw[oM,hi];rfl);exact⟨this.1,λb hb=>⟨hP _ ((Vs _).2 (.inr (this.2 b hb))),h4.2.2 _ (this.2 b hb)⟩⟩
theorem VO.row{w:aH}{T P:BS}{r:Sl}{bs:List (List cG)}(h:VO r bs w T)(hP:∀k,T k->P k):Gj P w r bs:=by
 obtain⟨ss,S3,S4,h3,h4,d34,Vs⟩:=h;have BC:=h3.1.rd Gt;refine⟨bs.zip ss,?_,?_,λb hb=>⟨hP _ ((Vs _).2 (.inl ((h3.2 _).2 ⟨b,hb,rfl⟩))),h3.1.lt hb⟩,λx hx=>?_⟩
 ·rw[List.map_fst_zip (by rw[h4.1];exact dL _)]
 ·refine⟨by rw[BC.len,List.length_zip,h4.1,Nat.min_self],BC.cap,λi x hx=>?_⟩;exact BC.get i x.2 (List.getElem?_zip_eq_some.1 hx).2
 ·obtain⟨i,hi⟩:=List.getElem?_of_mem hx;have hz:=List.getElem?_zip_eq_some.1 hi;have:=h4.2.1 i x.2 x.1 hz.2 hz.1;exact⟨this.1,λb hb=>⟨hP _ ((Vs _).2 (.inr (this.2 b hb))),h4.2.2 _ (this.2 b hb)⟩⟩
theorem Tf{A:As}[bG A]{w:aH}{S:BS}{r:Sl}{gs:List fG}(h:bJ A (BV r gs) w S):∃S1,A w S1/\Up S S1 w w/\Wk (λk=>¬S1 k) w r gs:=by
 obtain⟨S1,S2,h1,⟨xs,rfl,S3,S4,h3,h4,d34,Vs⟩,d,e⟩:=h;refine⟨S1,h1,Up.sub w λk hk=>(e k).2 (.inl hk),xs,rfl,h3.1.rd Vx,λb hb=>?_,λx hx=>?_⟩
 ·exact⟨λhk=>d _ hk ((Vs _).2 (.inl ((h3.2 _).2 ⟨b,hb,rfl⟩))),h3.1.lt hb⟩
 ·obtain⟨i,hi⟩:=List.getElem?_of_mem hx;have:=h4.2.1 i x.2 x.1.body (by rw[oM,hi];rfl) (by rw[oM,hi];rfl);exact⟨this.1,λb hb=>⟨λhk=>d _ hk ((Vs _).2 (.inr (this.2 b hb))),h4.2.2 _ (this.2 b hb)⟩⟩
end
section
abbrev Pk:=Int×List cG
abbrev ePk(x:Pk×Sl):List Value:=[aD x.1.1,sv x.2]
theorem VU:∀x:Pk×Sl,(ePk x).length=2:=λ_=>rfl
theorem VS:∀x:Pk×Sl,∀u∈ePk x,u.oneCell'=true:=by intro x u hu;simp at hu;rcases hu with rfl|rfl<;>rfl
theorem ePk_ne(x:Pk×Sl):ePk x≠[]:=by simp
abbrev eD(x:List cG×Sl):List Value:=[sv x.2]
theorem lenD_q:∀x:List cG×Sl,(eD x).length=1:=λ_=>rfl
theorem oneD:∀x:List cG×Sl,∀u∈eD x,u.oneCell'=true:=by intro x u hu;simp at hu;subst hu;rfl
theorem KU(x:List cG×Sl):eD x≠[]:=by simp
abbrev yH:=fK (α:=Pk) eU tPacket 2 ePk Prod.snd
abbrev RowQ:=fK (α:=List cG) eU CB 1 eD id
def GOk(g:fG)(b:List cG):Prop:=b.length<=3000/\(Vi g->b=KR g)
def uv(aN:Int)(g:fG)(p:Pk):Prop:=p.1=aN/\GOk g p.2
section
variable{w:aH}{l:Sl}{gs:List fG}{P:BS}
theorem HO{aN:Int}{Q:Sl->aH->Prop}(h:Wk P w l gs)(hl:gs.length<=1000)(hb:∀g∈gs,g.body.length<=80000)
  (hQ:∀r ps w',aL w w'->yH w.heap.size (λk=>k<w.heap.size) w' r ps->F2 (uv aN) gs ps->Q r w'):gG aN l w Q:=by
 unfold gG;have ub:=h.len;refine bL (λn t w1=>∃(i:Nat) (r:Sl) (ps:List Pk),i<=gs.length/\n=gs.length-i/\t=(r,(i:Int),())/\aL w w1/\yH w.heap.size (λk=>k<w.heap.size) w1 r ps/\F2 (uv aN) (gs.take i) ps) gs.length
  ⟨0,aZ,[],dE _,rfl,rfl,aU.refl _ _,fK.nil,.nil⟩ ?_
 rintro n t w1 ⟨i,r,ps,hi,rfl,rfl,k1,v1,f1⟩ X hX;dsimp only;refine aJ (λcC=>?_) (λkC=>?_)
 ·have dJ:i<gs.length:=aB;have cQ:=cM dJ;have gF:=mX dJ;have sC:=mM dJ;generalize gs[i]=g at*;obtain⟨a,sl,ha,hh,hr,hro⟩:=(h.kp Au k1).get cQ;have fl:=f1.len;rw[sM] at fl;rw[dW,pP i aB];refine⟨⟨aB,cC⟩,aA ha (aX (l:=kG) (JC (g,sl)) hh ?_)⟩;refine fF (zs:=eG (⟨0,0,0,0,0,[]⟩,aZ)) (vs:=eG (g,sl)) rV rfl (Lq _) λw4 o4 k4 z4=>?_;refine aX (l:=kG) (JC (g,sl)) (o4.holds λj v hj=>by rw[gI];exact hj) ?_;have z1:=k1.size;refine pq (hr.aK k4 fQ λ_ _=>id) (hb g gF) λs out e w5 k5 Vl f5 l5 g5=>?_;have v5:=(v1.kp k4).kp k5;refine fK.gU nG VU VS aB v5 (by rw[<-fl];omega) (iR (k1.tr k4).size k5.size) (λk hk=>pG hk (iR (k1.tr k4).size k5.size)) (aN,out) (sl:=s) Vl.1 (λb hb=>⟨by have:=f5 b hb;omega,λhk=>by have:=f5 b hb;omega,Vl.2.2.1 b hb,λb' bR=>?_⟩) λr' w6 v6 m6=>?_
  ·have:=v1.lt bR;have:=f5 b hb;omega
  ·refine hX _ _ _ aB ⟨i+1,r',ps++[(aN,out)],dJ,rfl,rfl,((k1.tr k4).tr k5).fresh m6 λk hk=>hk.1,v6,?_⟩;rw[sC];exact f1.app (.one ⟨rfl,l5,λhw=>(g5 hw).1⟩)
 ·have ei:i=gs.length:=aB;subst ei;rw[oI] at f1;exact hQ r ps w1 k1 v1 f1
theorem Br{Q:Sl->aH->Prop}(h:Wk P w l gs)(hl:gs.length<=1000)(hb:∀g∈gs,g.body.length<=80000)
  (hQ:∀r ps w',aL w w'->RowQ w.heap.size (λk=>k<w.heap.size) w' r ps->F2 GOk gs ps->Q r w'):jR l w Q:=by
 unfold jR;have ub:=h.len;refine bL (λn t w1=>∃(i:Nat) (r:Sl) (ps:List (List cG)),i<=gs.length/\n=gs.length-i/\t=(r,(i:Int),())/\aL w w1/\RowQ w.heap.size (λk=>k<w.heap.size) w1 r ps/\F2 GOk (gs.take i) ps) gs.length
  ⟨0,aZ,[],dE _,rfl,rfl,aU.refl _ _,fK.nil,.nil⟩ ?_
 rintro n t w1 ⟨i,r,ps,hi,rfl,rfl,k1,v1,f1⟩ X hX;dsimp only;refine aJ (λcC=>?_) (λkC=>?_)
 ·have dJ:i<gs.length:=aB;have cQ:=cM dJ;have gF:=mX dJ;have sC:=mM dJ;generalize gs[i]=g at*;obtain⟨a,sl,ha,hh,hr,hro⟩:=(h.kp Au k1).get cQ;have fl:=f1.len;rw[sM] at fl;rw[dW,pP i aB];refine⟨⟨aB,cC⟩,aA ha (aX (l:=kG) (JC (g,sl)) hh ?_)⟩;refine fF (zs:=eG (⟨0,0,0,0,0,[]⟩,aZ)) (vs:=eG (g,sl)) rV rfl (Lq _) λw4 o4 k4 z4=>?_;refine aX (l:=kG) (JC (g,sl)) (o4.holds λj v hj=>by rw[gI];exact hj) ?_;have z1:=k1.size;refine pq (hr.aK k4 fQ λ_ _=>id) (hb g gF) λs out e w5 k5 Vl f5 l5 g5=>?_;have v5:=(v1.kp k4).kp k5;refine fK.gU NL lenD_q oneD aB v5 (by rw[<-fl];omega) (iR (k1.tr k4).size k5.size) (λk hk=>pG hk (iR (k1.tr k4).size k5.size)) out (sl:=s) Vl.1 (λb hb=>⟨by have:=f5 b hb;omega,λhk=>by have:=f5 b hb;omega,Vl.2.2.1 b hb,λb' bR=>?_⟩) λr' w6 v6 m6=>?_
  ·have:=v1.lt bR;have:=f5 b hb;omega
  ·refine hX _ _ _ aB ⟨i+1,r',ps++[out],dJ,rfl,rfl,((k1.tr k4).tr k5).fresh m6 λk hk=>hk.1,v6,?_⟩;rw[sC];exact f1.app (.one ⟨l5,λhw=>(g5 hw).1⟩)
 ·have ei:i=gs.length:=aB;subst ei;rw[oI] at f1;exact hQ r ps w1 k1 v1 f1
theorem reset_i{aN aM code:Int}{Q:Sl->aH->Prop}(hQ:∀r p w',aL w w'->yH w.heap.size (λk=>k<w.heap.size) w' r [p]->uv aN ⟨aM,3,0,0,code,[]⟩ p->Q r w'):fU aN aM code w Q:=by
 unfold fU;refine cO (cs:=eG (⟨aM,3,0,0,code,[]⟩,aZ)) λw1 b1 k1 z1=>?_;have hg:Wk (λ_=>True) w1 ⟨some ⟨w.heap.size,0,none⟩,1,1⟩ [⟨aM,3,0,0,code,[]⟩]:=⟨[(⟨aM,3,0,0,code,[]⟩,aZ)],rfl,mO Vx [(⟨aM,3,0,0,code,[]⟩,aZ)] b1 rfl dN,λb hb=>by cases hb;exact⟨trivial,b1.1.lt⟩,λx hx=>by
  rw[oG.1 hx];exact⟨Rd.nil _ _ _,λb hb=>by cases hb⟩⟩
 refine HO hg dN dN λr ps w2 k2 v2 f2=>?_;cases f2 with
 |cons a b=>cases b;exact hQ r _ w2 (k1.tr k2) ((v2.qM aB).sub λk hk=>aB) a
end
abbrev kP.dl(c:kP):Int:=c.s.next-c.s.n
structure js(c c':kP)(k:Nat):Prop where
 dA:c'.s.dA=c.s.dA
 aM:c'.aM=c.aM
 dl:c'.dl=c.dl
 n:k+c.s.n=c'.s.n
theorem Jh{aM nx:Int}{t:Vj}:∀{l:List (List cG)} {s:RU},js ⟨s,aM,t,l⟩ (kP.PT s aM nx t l).2 (kP.PT s aM nx t l).1.length/\∀g∈(kP.PT s aM nx t l).1,g.body∈l
 | [],s=>⟨⟨rfl,rfl,rfl,gI _⟩,λg hg=>by cases hg⟩
 |b::r,s=>by
  rw[kP.PT]
  split
  ·obtain⟨⟨h1,h2,h3,h4⟩,h5⟩:=Jh (aM:=aM) (nx:=nx) (t:=t) (l:=r) (s:=s.send b);refine⟨⟨h1,h2,h3.trans ?_,?_⟩,λg hg=>?_⟩
   ·show s.next+1-((s.n+1:Nat):Int)=s.next-(s.n:Int)
    omega
   ·have h4':_+(s.n+1)=_:=h4;simp only[mE] at h4' ⊢;omega
   ·rcases jO.1 hg with rfl|hg
    ·simp
    ·exact VG _ (h5 g hg)
  ·exact⟨⟨rfl,rfl,rfl,gI _⟩,λg hg=>by cases hg⟩
theorem kP.TS(c:kP):js c c.rR.2 c.rR.1.length/\∀g∈c.rR.1,g.body∈c.gY:=Jh (s:=c.s) (l:=c.gY)
theorem Jf{c:kP}(ok:c.Ok){b:List cG}(hb:b.length<=70000):js c (c.push b).2.1 (c.push b).1.length/\∀g∈(c.push b).1,g.body.length<=70000:=by
 unfold kP.push
 split
 ·exact⟨⟨rfl,rfl,rfl,gI _⟩,λg hg=>by cases hg⟩
 ·split
  ·exact⟨⟨rfl,rfl,rfl,gI _⟩,λg hg=>by cases hg⟩
  ·obtain⟨⟨h1,h2,h3,h4⟩,h5⟩:=({c with gY:=c.gY++[b]}:kP).TS;refine⟨⟨h1,h2,h3,h4⟩,λg hg=>?_⟩;rcases kE.1 (h5 g hg) with h|h
   ·exact ok.len _ h
   ·rw[oG.1 h];exact hb
theorem js.refl(c:kP):js c c 0:=⟨rfl,rfl,rfl,gI _⟩
theorem js.tr{c c' c'':kP}{k k':Nat}(h:js c c' k)(h':js c' c'' k'):js c c'' (k+k'):=⟨h'.dA.trans h.dA,h'.aM.trans h.aM,h'.dl.trans h.dl,by have:=h.n;have:=h'.n;omega⟩
theorem xJ{c c':kP}{g:fG}{oF:List (List cG)}{gs:List fG}(ok:c.Ok)(h:yO c g oF gs c'):c'.s.dA=c.s.dA/\c'.aM=c.aM/\c'.dl<=c.s.next/\gs.length<=c'.s.n+1/\(∀g∈gs,g.body.length<=70000)/\oF.length<=20/\∀b∈oF,b.length<=5000:=by
 unfold yO at h
 split at h
 ·obtain⟨rfl,rfl,rfl⟩:=h;exact⟨rfl,rfl,by show c'.s.next-_<=_;omega,dE _,λg hg=>(by cases hg),by simp,λb hb=>by cases hb⟩
 ·obtain⟨s1,⟨a1,a2,a3,a4,a5,a6⟩,Qk,h⟩:=h
  split at h
  ·obtain⟨t1,ht,rfl,rfl⟩:=h;obtain⟨⟨h1,h2,h3,h4⟩,h5⟩:=(⟨s1,c.aM,t1,c.gY⟩:kP).TS;refine⟨h1.trans a1,h2,?_,?_,λg hg=>?_,ht.len,ht.lens⟩
   ·rw[h3];show s1.next-(s1.n:Int)<=_;omega
   ·simp only[mE];have h4':_+s1.n=_:=h4;omega
   ·rcases jO.1 hg with rfl|hg
    ·simp
    ·exact ok.len _ (h5 g hg)
  ·obtain⟨rfl,rfl,rfl⟩:=h;obtain⟨⟨h1,h2,h3,h4⟩,h5⟩:=(⟨s1,c.aM,c.t,c.gY⟩:kP).TS;refine⟨h1.trans a1,h2,?_,?_,λg hg=>ok.len _ (h5 g hg),by simp,λb hb=>by cases hb⟩
   ·rw[h3];show s1.next-(s1.n:Int)<=_;omega
   ·have h4':_+s1.n=_:=h4;omega
end
section
theorem Xy:PtrK prog 102:=⟨ZA,5,iT,iT,by decide⟩
structure iQ where
 dO:wV
 sp:Nat
 tp:Nat
 lp:Nat
 fR:Int
 u:List Int
 t:tO
 gv:List Nat
 lf:Nat->Option Ng.T
 ln:Nat
 ch:Nat->kP
 KZ:Nat->FX
def tO.at(t:tO)(p:Nat):Option cY:=t.bK.find? λe=>e.aN==p
def Grv(a:Nat):As:=Ex λcs=>uL a ZA cs
instance{a:Nat}:bG (Grv a):=by unfold Grv;infer_instance
inductive SI|Uw|set|Lg|lost|ch(p:Nat)
 deriving DecidableEq
abbrev Cw(ee:Nat)(v:iQ):List Value:=[.pointer (some ⟨ee,0,none⟩),aD (v.dO.sT:Int),aD (v.dO.dA:Int),aD v.dO.MA,aD v.dO.nO,aD v.dO.cap,aD v.dO.idle,.pointer (some ⟨v.sp,0,none⟩),.pointer (some ⟨v.tp,0,none⟩),aD v.fR,.map (some v.lp)]
def VN(v:iQ):As:=bJ (DG v.tp v.t) (wM Grv v.gv)
instance{v:iQ}:bG (VN v):=by unfold VN;infer_instance
def YK(ee a:Nat)(v:iQ):SI->As
 | .Uw=>uL a EB (Cw ee v)
 | .set=>AE v.sp v.u
 | .Lg=>VN v
 | .lost=>wL v.lp zY Ng v.lf v.ln
 | .ch p=>match v.t.at p with
  |some e=>lW e.cp (v.ch p)
  |none=>DR
instance YK.loc{ee a:Nat}{v:iQ}:∀i,bG (YK ee a v i)
 | .Uw=>inferInstanceAs (bG (uL a EB (Cw ee v)))
 | .set=>inferInstanceAs (bG (AE v.sp v.u))
 | .Lg=>inferInstanceAs (bG (VN v))
 | .lost=>inferInstanceAs (bG (wL v.lp zY Ng v.lf v.ln))
 | .ch p=>by
  show bG (match v.t.at p with|some e=>lW e.cp (v.ch p)|none=>DR)
  split<;>infer_instance
def lM(ee a:Nat)(v:iQ):As:=gS (YK ee a v)
instance{ee a:Nat}{v:iQ}:bG (lM ee a v):=by unfold lM;infer_instance
structure iQ.Ok(G:Gr)(B:Int)(v:iQ):Prop where
 dO:v.dO.Ok
 fR:0<=v.fR/\v.fR<=1000000000
 u:v.u.length=G.E.length/\v.u.length<=512
 t:v.t.Ok
 fD:v.t.fD=v.dO.sT
 ch:∀e∈v.t.bK,(v.ch e.aN).Ok/\(v.ch e.aN).aM=e.aM/\(v.ch e.aN).s.dA=v.dO.dA/\(v.ch e.aN).dl<=B
 KZ:∀e∈v.t.bK,UR G (v.KZ e.aN)
 Nk:∀e∈v.t.bK,(1<=e.aM/\e.aM<=2147483648)/\0<=e.lE/\e.lE<=v.fR
 lost:∀k,(v.lf k).isSome=true->(∃e∈v.t.bK,e.a=k)\/k∈v.gv
theorem tO.at_mem{t:tO}{p:Nat}{e:cY}(h:t.at p=some e):e∈t.bK/\e.aN=p:=⟨ly9 h,by have:=List.find?_some h;simpa using this⟩
theorem tO.TH{t:tO}(ok:t.Ok){e:cY}(he:e∈t.bK):t.at e.aN=some e:=by
 cases h:t.at e.aN with
 |none=>have:=List.find?_eq_none.1 h e he;simp at this
 |some f=>obtain⟨h1,h2⟩:=tO.at_mem h;rw[ok.inj h1 he h2]
section
variable{w:aH}{S:BS}{ee a:Nat}{v:iQ}
theorem lM.Vh(h:lM ee a v w S):∃S1,uL a EB (Cw ee v) w S1/\∀k,S1 k->S k:=gS.get h .Uw
theorem lM.cell(h:lM ee a v w S){k:Nat}{x:Value}(hk:(Cw ee v)[k]? =some x):w.cell? ((⟨a,0,none⟩:Addr).add k)=some x:=by
 obtain⟨S1,h1,_⟩:=h.Vh;exact aP h1 hk
theorem lM.Lg(h:lM ee a v w S):∃S1,DG v.tp v.t w S1/\∀k,S1 k->S k:=by
 obtain⟨S1,⟨S2,S3,h2,h3,d,e⟩,hs⟩:=gS.get h .Lg;exact⟨S2,h2,λk hk=>hs k ((e k).2 (.inl hk))⟩
theorem lM.Nk(h:lM ee a v w S){e:cY}(he:e∈v.t.bK):cU w e.a ZA (Wf e)/\S e.a:=by
 obtain⟨S1,h1,hs⟩:=h.Lg;exact⟨(h1.Nk he).1,hs _ (h1.Nk he).2⟩
theorem lM.Ly(h:lM ee a v w S){e:cY}(he:e∈v.t.bK){k:Nat}{x:Value}(hk:(Wf e)[k]? =some x):w.cell? ((⟨e.a,0,none⟩:Addr).add k)=some x:=cV (h.Nk he).1 hk
theorem lM.Hz{G:Gr}{B:Int}(h:lM ee a v w S)(ok:v.Ok G B):∀k,(v.lf k).isSome=true->zM w k:=λk hk=>by
 obtain⟨S1,⟨S2,S3,h2,h3,d,e⟩,hs⟩:=gS.get h .Lg;rcases ok.lost k hk with⟨e,he,rfl⟩|hg
 ·exact(h2.Nk he).1.Sf
 ·obtain⟨S4,⟨cs,h4⟩,_⟩:=wM.get h3 hg;exact h4.1.Sf
theorem lM.lostMap(h:lM ee a v w S):kV w v.lp zY Ng v.lf v.ln:=by
 obtain⟨S1,h1,_⟩:=gS.get h .lost;exact h1.1
def iQ.oO(v:iQ)(p:Nat)(c:kP):iQ:={v with ch:=λq=>if q=p then c else v.ch q}
def iQ.vN(v:iQ)(p:Nat)(c:FX):iQ:={v with KZ:=λq=>if q=p then c else v.KZ q}
def iQ.setLf(v:iQ)(k:Nat)(b:Bool):iQ:={v with lf:=λy=>if y=k then some b else v.lf y,ln:=if(v.lf k).isSome then v.ln else v.ln+1}
theorem lM.chan(h:lM ee a v w S){e:cY}{p:Nat}(he:v.t.at p=some e):ig w S (lW e.cp (v.ch p)) λX=>gS (FZ (YK ee a v) (.ch p) X):=by
 have h1:=gS.at h (.ch p);have e1:YK ee a v (.ch p)=lW e.cp (v.ch p):=by show(match v.t.at p with|some e=>lW e.cp (v.ch p)|none=>DR)=_;rw[he]
 rwa[e1] at h1
theorem fam_ch{e:cY}{p:Nat}(he:v.t.at p=some e)(c:kP):FZ (YK ee a v) (.ch p) (lW e.cp c)=YK ee a (v.oO p c):=by
 funext i
 show(if i=.ch p then lW e.cp c else YK ee a v i)=_
 split
 ·rename_i h;subst h
  show _=(match v.t.at p with|some e=>lW e.cp (if p=p then c else v.ch p)|none=>DR)
  rw[he,if_pos rfl]
 ·rename_i h
  cases i with
  |ch q=>
   have hq:¬q=p:=λe=>h (by rw[e]);show _=(match v.t.at q with|some e=>lW e.cp (if q=p then c else v.ch q)|none=>DR)
   rw[if_neg hq];rfl
  |_=>rfl
theorem fam_lost(k:Nat)(b:Bool):FZ (YK ee a v) .lost (wL v.lp zY Ng (λy=>if y=k then some b else v.lf y) (if(v.lf k).isSome then v.ln else v.ln+1))=YK ee a (v.setLf k b):=by
 funext i
 cases i<;>rfl
theorem lM.vz(h:lM ee a v w S){e:cY}{p:Nat}(he:v.t.at p=some e):∃S1,lW e.cp (v.ch p) w S1/\(∀k,S1 k->S k)/\∀c D w' T,Up S1 T w w'->bJ (lW e.cp c) D w' T->∃S',bJ (lM ee a (v.oO p c)) D w' S'/\Up S S' w w':=by
 obtain⟨S1,h1,hs,eO⟩:=h.chan he;refine⟨S1,h1,hs,λc D w' T u hT=>?_⟩;obtain⟨S',h',u'⟩:=eO _ D w' T u hT;exact⟨S',h'.mono (λS h=>by unfold lM;rw[<-fam_ch he];exact h) λ_ h=>h,u'⟩
theorem lM.mark{G:Gr}{B:Int}(h:lM ee a v w S)(ok:v.Ok G B){e:cY}(he:e∈v.t.bK)(b:Bool){Q:aH->Prop}(hQ:∀w' S',lM ee a (v.setLf e.a b) w' S'->Up S S' w w'->Q w'):gJ prog 98 (.map (some v.lp)) (.pointer (LC e)) (.bool b) w Q:=by
 obtain⟨S1,h1,_,eO⟩:=(gS.at h .lost).put;refine update_p (kn:=Ng) unLost Xy h1.1 e.a b (h.Hz ok) (h.Nk he).1.Sf λw' je mm' _=>?_;obtain⟨S',h',u'⟩:=eO (wL v.lp zY Ng (λy=>if y=e.a then some b else v.lf y) (if(v.lf e.a).isSome then v.ln else v.ln+1)) w' S1 (Up.at (mm'.mono λk _ hk=>(h1.2 k).2 hk)) ⟨je,h1.2⟩
 exact hQ w' S' (by unfold lM;rw[<-fam_lost];exact h') u'
theorem lM.isLost{G:Gr}{B:Int}(h:lM ee a v w S)(ok:v.Ok G B){e:cY}(he:e∈v.t.bK){Q:Bool->aH->Prop}(hQ:Q ((v.lf e.a).getD (false:Bool)) w):nA prog (.c .bool) 98 (.map (some v.lp)) (.pointer (LC e)) w Q:=
 lookup1_p (kn:=Ng) unLost Xy (z:=false) Oa h.lostMap e.a (h.Hz ok) (h.Nk he).1.Sf hQ
end
def Cp(c:kP):Bool->List (List cG)->List fG×kP×Bool
 |lo,[]=>([],c,lo)
 |true,_::_=>([],c,true)
 |false,b::r=>((c.push b).1++(Cp (c.push b).2.1 ((c.push b).2.2 !=0) r).1,(Cp (c.push b).2.1 ((c.push b).2.2 !=0) r).2)
def BOk(m:gV)(b:List cG):Prop:=sR m->b=kR m
theorem zc:∀l:List gV,F2 BOk l (l.map kR)
 | []=>.nil
 |m::l=>.cons (λ_=>rfl) (zc l)
def iQ.VE(v:iQ)(p:Nat)(c:kP)(lf:Nat->Option Ng.T)(ln:Nat):iQ:={v with ch:=λq=>if q=p then c else v.ch q,lf:=lf,ln:=ln}
theorem qe{v:iQ}{p:Nat}{c c':kP}{lf:Nat->Option Ng.T}{ln:Nat}:(v.VE p c lf ln).oO p c'=v.VE p c' lf ln:=by
 unfold iQ.oO iQ.VE;simp only[iQ.mk.injEq,true_and,and_true]
 funext q
 by_cases hq:q=p<;>simp[hq]
theorem said_self{v:iQ}{p:Nat}:v.VE p (v.ch p) v.lf v.ln=v:=by
 unfold iQ.VE;have:(λq=>if q=p then v.ch p else v.ch q)=v.ch:=by
  funext q
  by_cases hq:q=p<;>simp[hq]
 rw[this]
theorem yc{G:Gr}{B:Int}{v:iQ}(ok:v.Ok G B){e:cY}(he:e∈v.t.bK){c:kP}{lf:Nat->Option Ng.T}{ln k:Nat}(hc:c.Ok)(hs:js (v.ch e.aN) c k)(ud:∀y,y≠e.a->lf y=v.lf y):(v.VE e.aN c lf ln).Ok G B:=by
 refine⟨ok.dO,ok.fR,ok.u,ok.t,ok.fD,λf hf=>?_,ok.KZ,ok.Nk,λy hy=>?_⟩
 ·show(if f.aN=e.aN then c else v.ch f.aN).Ok/\(if f.aN=e.aN then c else v.ch f.aN).aM=f.aM/\(if f.aN=e.aN then c else v.ch f.aN).s.dA=v.dO.dA/\(if f.aN=e.aN then c else v.ch f.aN).dl<=B
  by_cases hp:f.aN=e.aN
  ·rw[if_pos hp];have:=ok.ch e he;rw[ok.t.inj hf he hp];exact⟨hc,hs.aM.trans this.2.1,hs.dA.trans this.2.2.1,by rw[hs.dl];exact this.2.2.2⟩
  ·rw[if_neg hp];exact ok.ch f hf
 ·by_cases hya:y=e.a
  ·exact .inl ⟨e,he,hya.symm⟩
  ·refine ok.lost y ?_;have:lf y=v.lf y:=ud y hya;rw[<-this];exact hy
def yN(v:iQ)(e:cY)(l:List gV)(v':iQ)(ps:List Pk):Prop:=∃bs gs c' lo lf ln,v'=v.VE e.aN c' lf ln/\F2 BOk l bs/\Cp (v.ch e.aN) ((v.lf e.a).getD (false:Bool)) bs=(gs,c',lo)/\F2 (uv e.aN) gs ps/\js (v.ch e.aN) c' gs.length/\(∀y,y≠e.a->lf y=v.lf y)/\(lf e.a).getD (false:Bool)=lo
theorem say_i{G:Gr}{B:Int}{w:aH}{S P:BS}{ee a:Nat}{v:iQ}{e:cY}{ms:Sl}{l:List gV}{Q:Sl->aH->Prop}(h:lM ee a v w S)(ok:v.Ok G B)(he:e∈v.t.bK)(hm:fP w P ms l)(hP:∀k,P k->¬S k)(hl:l.length<=10)
  (hQ:∀r ps v' w' S',lM ee a v' w' S'->Up S S' w w'->yH w.heap.size S' w' r ps->v'.Ok G B->yN v e l v' ps->Q r w'):
  tB (some ⟨a,0,none⟩) (LC e) ms w Q:=by
 unfold tB;have fu:=hm.len;have Fo:=tO.TH ok.t he;have hok0:=ok.ch e he;refine bL (λn t w3=>∃(i:Nat) (r:Sl) (ps:List Pk) (gs:List fG) (bs:List (List cG)) (c:kP) (lo:Bool) (lf:Nat->Option Ng.T) (ln:Nat) (S3:BS),i<=l.length/\n=l.length-i/\t=(r,(i:Int),())/\lM ee a (v.VE e.aN c lf ln) w3 S3/\Up S S3 w w3/\yH w.heap.size S3 w3 r ps/\F2 (uv e.aN) gs ps/\F2 BOk (l.take i) bs/\(∀Nl,Cp (v.ch e.aN) ((v.lf e.a).getD false) (bs++Nl)=(gs++(Cp c lo Nl).1,(Cp c lo Nl).2))/\c.Ok/\js (v.ch e.aN) c gs.length/\(∀y,y≠e.a->lf y=v.lf y)/\(lf e.a).getD false=lo/\fP w3 (λk=>¬S3 k/\k<w.heap.size) ms l) l.length
  ⟨0,aZ,[],[],[],v.ch e.aN,(v.lf e.a).getD false,v.lf,v.ln,S,dE _,rfl,rfl,by rw[said_self];exact h,Up.refl _ _,fK.nil,.nil,.nil,λNl=>rfl,hok0.1,js.refl _,λ_ _=>rfl,rfl,hm.wk λk hk cC=>⟨hP k hk,cC⟩⟩ ?_
 rintro n t w3 ⟨i,r,ps,gs,bs,c,lo,lf,ln,S3,hi,rfl,rfl,h3,u3,v3,f3,b3,hsay,UM,Vf,ud,Ll,m3⟩ X hX;have ok3:=yc ok he (ln:=ln) UM Vf ud;have dQ:∀Nl w4 S4,lM ee a (v.VE e.aN c lf ln) w4 S4->Up S3 S4 w3 w4->F2 BOk (l.drop i) Nl->Cp c lo Nl=([],c,lo)->Q r w4:=λNl w4 S4 h4 u4 hb uK=>by
  refine hQ r ps _ w4 S4 h4 (u3.tr u4) (v3.up u4) ok3 ⟨bs++Nl,gs,c,lo,lf,ln,rfl,?_,?_,f3,Vf,ud,Ll⟩
  ·have:=b3.app hb;rwa[Ls] at this
  ·rw[hsay,uK];simp
 dsimp only;refine aJ (λcC=>?_) (λkC=>?_)
 ·have dJ:i<l.length:=aB;have cQ:=cM dJ;have hdr:=ly4 dJ;have sC:=mM dJ;generalize l[i]=m at*;obtain⟨q,sl,hq,hx,hh,_⟩:=m3.get cQ;rw[dW,pP i aB];refine⟨⟨aB,cC⟩,aA hq (aX (l:=fi) (GJ (m,sl)) hh ?_)⟩;refine fF (zs:=tN (⟨0,0,0,[],0,VZ⟩,aZ)) (vs:=tN (m,sl)) CI rfl (QM _) λw4 o4 k4 z4=>?_;have h4:=bG.kp h3 k4;refine aA rfl (aE (k:=.map) (some v.lp) (h4.cell rfl) ?_);refine h4.isLost ok3 he ?_;have hlo':((v.VE e.aN c lf ln).lf e.a).getD false=lo:=Ll;rw[hlo'];refine aF (λhl=>?_) (λhl=>?_)
  ·refine dQ ((l.drop i).map kR) w4 S3 h4 (Up.aO k4) (zc _) ?_;rw[hdr,hl];rfl
  ·refine aX (l:=fi) (GJ (m,sl)) (o4.holds λj v hj=>by rw[gI];exact hj) ?_;refine Enc_i (hx.rd.aK k4 cI λ_ _=>id) (λb hb=>pG (hx.Vh b hb).2 k4.size) (by have h51:m.cD.length<=51:=hx.len;show m.cD.length<=_;omega) λsb out eb w5 k5 Vl f5 l5 g5=>?_;have hx51:m.cD.length<=51:=hx.len;have K5:=k4.tr (k5.tr (bY w5));have h5:=bG.kp h3 K5;refine aA rfl (aE (k:=.ptr) (some ⟨e.cp,0,none⟩) (h5.Ly he rfl) (aA rfl (aE (k:=.i) v.fR (h5.cell rfl) ?_)));obtain⟨S6,h6,_,MF⟩:=h5.vz Fo;have ech:(v.VE e.aN c lf ln).ch e.aN=c:=by show(if e.aN=e.aN then c else _)=c;rw[if_pos rfl]
   rw[ech] at h6;refine zw h6 UM (Vl.1.aK (bY w5) fQ λ_ _=>id) aB λrg w7 S7 h7 u7 ok7=>?_;obtain⟨S8,h8,u8⟩:=MF _ _ w7 S7 u7 h7;have pf:=Jf UM (b:=out) aB;rw[qe] at h8;obtain⟨S9,h9,u9,g9⟩:=Tf h8;have cs9:js (v.ch e.aN) (c.push out).2.1 (gs.length+(c.push out).1.length):=Vf.tr pf.1;have ok9:=yc ok he (ln:=ln) ok7 cs9 ud;refine aA rfl (aE (k:=.map) (some v.lp) (h9.cell rfl) ?_);refine h9.mark ok9 he _ λeN YP Fp Ff=>?_;have U12:Up S3 YP w3 eN:=(((Up.aO K5).tr u8).tr u9).tr Ff;have h12':lM ee a (v.VE e.aN (c.push out).2.1 (λy=>if y=e.a then some ((c.push out).2.2 !=(0:Int)) else lf y) (if(lf e.a).isSome then ln else ln+1)) eN YP:=Fp
   have g12:=g9.up Au Ff;refine aA rfl (aE (k:=.i) (e.aN:Int) (h12'.Ly he rfl) ?_);have l64:(c.push out).1.length<=1000:=by have h1:=pf.1.n;have h2:=ok7.s.RV;have h3':=ok7.s.dA;omega
   refine HO g12 l64 (λg hg=>by have:=pf.2 g hg;omega) λrp pps gT UO v13 f13=>?_;have um:=bG.kp h12' UO;have v13':yH eN.heap.size YP gT rp pps:=v13.sub λk hk=>bG.gX h12' k hk;have v3':=(v3.up U12).kp UO;have fl:=f3.len;have fl2:=f13.len;have n64:gs.length+(c.push out).1.length<=16:=by have h1:=cs9.n;have h2:=ok7.s.RV;have h3':=ok7.s.dA;omega
   have bd:=bG.gX um;have zz:w.heap.size<=eN.heap.size:=iR u3.size U12.size;refine fK.app nG VU VS aB v3' v13' zz (λb hb=>(v3.up U12).lt hb) aB (iR zz UO.size) bd λr' mL v14 YL=>?_;have U14:Up S YP w mL:=Up.iI ((u3.tr U12).tr (Up.aO UO)) YL;have h14:=bG.ov um YL;have z3:=u3.size;have hm12:fP eN (λk=>¬YP k/\k<w.heap.size) ms l:=(m3.aK U12.m λk hk=>hk.1).wk λk hk _=>⟨λhs=>(U12.s k hs).elim hk.1 λhh=>by have:=hk.2;omega,hk.2⟩;refine hX _ _ _ aB ⟨i+1,r',ps++pps,gs++(c.push out).1,bs++[out],(c.push out).2.1,((c.push out).2.2 !=(0:Int)),_,_,YP,dJ,rfl,rfl,h14,U14,v14,f3.app f13,by rw[sC];exact b3.app (.one λhw=>(g5 hw).1),λNl=>?_,ok7,by rw[fJ];exact cs9,λy hy=>?_,?_,(hm12.aO UO).aK YL λk hk hn=>?_⟩
   ·have h0:=hsay (out::Nl);rw[sL,List.singleton_append,h0,hl];show(gs++((c.push out).1++_),_)=_;rw[sL];rfl
   ·show(if y=e.a then _ else lf y)=_
    rw[if_neg hy];exact ud y hy
   ·show(if e.a=e.a then _ else lf e.a).getD false=_
    rw[if_pos rfl];rfl
   ·have:=hk.2;have:=hn.1;omega
 ·have ei:i=l.length:=aB;subst ei;refine dQ [] w3 S3 h3 (Up.refl _ _) (by rw[List.drop_length];exact .nil) ?_;cases lo<;>rfl
def zZ(ee:Nat)(v:iQ)(p:Nat):As:=match v.t.at p with
 |some e=>vB ee e.sp (v.KZ p)
 |none=>DR
instance zZ.loc{ee:Nat}{v:iQ}(p:Nat):bG (zZ ee v p):=by unfold zZ;split<;>infer_instance
def DH(ee:Nat)(v:iQ):As:=gS (zZ ee v)
instance{ee:Nat}{v:iQ}:bG (DH ee v):=by unfold DH;infer_instance
def jK(ee a:Nat)(v:iQ):As:=bJ (lM ee a v) (DH ee v)
instance{ee a:Nat}{v:iQ}:bG (jK ee a v):=by unfold jK;infer_instance
theorem DH.put{w:aH}{S:BS}{ee:Nat}{v:iQ}(h:DH ee v w S){e:cY}{p:Nat}(he:v.t.at p=some e):∃S1,vB ee e.sp (v.KZ p) w S1/\(∀k,S1 k->S k)/\∀c w' T,Up S1 T w w'->vB ee e.sp c w' T->∃S',DH ee (v.vN p c) w' S'/\Up S S' w w':=by
 have h1:=(gS.at h p).put;have e1:zZ ee v p=vB ee e.sp (v.KZ p):=by unfold zZ;rw[he]
 rw[e1] at h1;obtain⟨S1,h1,hs,eO⟩:=h1;refine⟨S1,h1,hs,λc w' T u hT=>?_⟩;obtain⟨S',h',u'⟩:=eO _ w' T u hT;refine⟨S',?_,u'⟩;have e2:FZ (zZ ee v) p (vB ee e.sp c)=zZ ee (v.vN p c):=by
  funext q
  show(if q=p then vB ee e.sp c else zZ ee v q)=(match v.t.at q with|some e=>vB ee e.sp (if q=p then c else v.KZ q)|none=>DR)
  by_cases hq:q=p
  ·subst hq;rw[if_pos rfl,he,if_pos rfl]
  ·rw[if_neg hq,if_neg hq];rfl
 unfold DH;rw[<-e2];exact h'
end
section
structure vL(v v':iQ):Prop where
 dO:v'.dO=v.dO
 sp:v'.sp=v.sp
 tp:v'.tp=v.tp
 lp:v'.lp=v.lp
 fR:v'.fR=v.fR
 u:v'.u=v.u
 t:v'.t=v.t
 gv:v'.gv=v.gv
theorem vL.refl(v:iQ):vL v v:=⟨rfl,rfl,rfl,rfl,rfl,rfl,rfl,rfl⟩
theorem vL.tr{v v' v'':iQ}(h:vL v v')(h':vL v' v''):vL v v'':=⟨h'.1.trans h.1,h'.2.trans h.2,h'.3.trans h.3,h'.4.trans h.4,h'.5.trans h.5,h'.6.trans h.6,h'.7.trans h.7,h'.8.trans h.8⟩
theorem yN.same{v v':iQ}{e:cY}{l:List gV}{ps:List Pk}(h:yN v e l v' ps):vL v v':=by
 obtain⟨bs,gs,c',lo,lf,ln,rfl,_⟩:=h;exact⟨rfl,rfl,rfl,rfl,rfl,rfl,rfl,rfl⟩
def PkOk(v:iQ)(p:Pk):Prop:=p.2.length<=3000/\∃e∈v.t.bK,p.1=(e.aN:Int)
theorem yN.pks{v v':iQ}{e:cY}{l:List gV}{ps:List Pk}(he:e∈v.t.bK)(h:yN v e l v' ps):∀p∈ps,PkOk v p:=by
 obtain⟨bs,gs,c',lo,lf,ln,rfl,_,_,h4,_⟩:=h;intro p hp;obtain⟨g,_,h1,h2⟩:=h4.mem hp;exact⟨h2.1,e,he,h1⟩
theorem yN.Ec{G:Gr}{B:Int}{v v':iQ}{e:cY}{l:List gV}{ps:List Pk}(he:e∈v.t.bK)(h:yN v e l v' ps)(ok:v'.Ok G B):ps.length+(v.ch e.aN).s.n=(v'.ch e.aN).s.n/\(v'.ch e.aN).s.n<=v.dO.dA:=by
 have hs:=h.same;obtain⟨bs,gs,c',lo,lf,ln,rfl,_,_,h4,h5,_⟩:=h;have:=ok.ch e he;have h6:=this.1.s.RV;rw[this.2.2.1] at h6;have h7:=h5.n;rw[h4.len] at h7;have e1:(v.VE e.aN c' lf ln).ch e.aN=c':=by show(if e.aN=e.aN then c' else _)=c';rw[if_pos rfl]
 rw[e1] at h6 ⊢;exact⟨h7,h6⟩
theorem Hs{α:Type}{n lo:Nat}{aY:α->List Value}{xs:List α}{s:Sl}{S S':BS}{w w' Nc:aH}(gK:∀x,aY x≠[])(hr:Rd w s n aY xs)(ho:LL s S w)(cC:∀b,s.b=some b->b.block<lo)(u:Up S S' w w')(m:aU (λk=>lo<=k/\¬S' k) w' Nc):Rd Nc s n aY xs/\LL s S' Nc:=
 ⟨(ho.rd u hr gK).aK m gK λb hb hk=>by have:=cC b hb;have:=hk.1;omega,λb hb=>⟨(ho.up u b hb).1,pG (ho.up u b hb).2 m.size⟩⟩
section
variable{W0 w:aH}{S:BS}{a:Nat}{v:iQ}{E:qO}{G:Gr}{B:Int}
theorem jK.sesSay(h:jK E.e a v w S)(hb:Bs W0 E G S w)(ok:v.Ok G B){e:cY}(he:e∈v.t.bK):∃S1,vB E.e e.sp (v.KZ e.aN) w S1/\(∀k,S1 k->S k)/\∀(z:FX×List gV) w' T ms,Up S1 T w w'->vB E.e e.sp z.1 w' T->UR G z.1->fP w' (λk=>w.heap.size<=k) ms z.2->z.2.length<=10->
  ∀(K:WQ Sl),(∀r ps v' w2 S',yN (v.vN e.aN z.1) e z.2 v' ps->jK E.e a v' w2 S'->Up S S' w w2->yH w.heap.size S' w2 r ps->v'.Ok G B->K r w2)->tB (some ⟨a,0,none⟩) (LC e) ms w' K:=by
 obtain⟨SC,SS,hC,hS,d,e1⟩:=h;obtain⟨S1,h1,xS,Xi⟩:=DH.put hS (tO.TH ok.t he);refine⟨S1,h1,λk hk=>(e1 k).2 (.inr (xS k hk)),λz w' T ms u hT okz hm hl K hK=>?_⟩;obtain⟨SS',hS',uS⟩:=Xi z.1 w' T u hT;have hC':lM E.e a (v.vN e.aN z.1) w' SC:=bG.aK hC uS.m λk hk lT=>d k hk lT;have Ql:(v.vN e.aN z.1).Ok G B:=⟨ok.dO,ok.fR,ok.u,ok.t,ok.fD,ok.ch,λf hf=>by
  show UR G (if f.aN=e.aN then z.1 else v.KZ f.aN)
  split
  ·exact okz
  ·exact ok.KZ f hf,ok.Nk,ok.lost⟩
 have bC:=bG.gX hC;have bS':=bG.gX hS';have zz:=uS.size;refine say_i (e:=e) hC' Ql he hm (λk hk hc=>by have:=bC k hc;omega) hl λr ps v' w2 SC2 h2 u2 v2 ir hsd=>?_;have hse:=hsd;obtain⟨bs,gs,c',lo,lf,ln,rfl,_⟩:=hse;have dd:∀k,SC k->SS' k->False:=λk hc hs=>(uS.s k hs).elim (λh=>d k hc h) λh=>by have:=bC k hc;omega
 have hS2:DH E.e ((v.vN e.aN z.1).VE e.aN c' lf ln) w2 SS':=bG.aK (A:=DH E.e (v.vN e.aN z.1)) hS' u2.m λk hk lT=>dd k lT hk;have dd2:∀k,SC2 k->SS' k->False:=λk hc hs=>(u2.s k hc).elim (λh=>dd k h hs) λh=>by have:=bS' k hs;omega
 refine hK r ps _ w2 (λk=>SC2 k\/SS' k) hsd (bJ.xR h2 hS2 dd2) ⟨?_,?_⟩ ((v2.cov λk hk=>hk.imp id λh=>bS' k h).qM zz) ir
 ·exact(uS.m.mono λk _ hk=>(e1 k).2 (.inr hk)).trans u2.m λk hk hc=>(e1 k).2 (.inl hc)
 ·rintro k (hk|hk)
  ·exact(u2.s k hk).imp (λh=>(e1 k).2 (.inl h)) λh=>aB
  ·exact(uS.s k hk).imp (λh=>(e1 k).2 (.inr h)) id
theorem jK.qU(h:jK E.e a v w S):∃SC,lM E.e a v w SC/\∀k,SC k->S k:=by
 obtain⟨SC,SS,hC,hS,d,e1⟩:=h;exact⟨SC,hC,λk hk=>(e1 k).2 (.inl hk)⟩
theorem jK.cell(h:jK E.e a v w S){k:Nat}{x:Value}(hk:(Cw E.e v)[k]? =some x):w.cell? ((⟨a,0,none⟩:Addr).add k)=some x:=by
 obtain⟨SC,hC,_⟩:=h.qU;exact hC.cell hk
theorem jK.Ly(h:jK E.e a v w S){e:cY}(he:e∈v.t.bK){k:Nat}{x:Value}(hk:(Wf e)[k]? =some x):w.cell? ((⟨e.a,0,none⟩:Addr).add k)=some x:=by
 obtain⟨SC,hC,_⟩:=h.qU;exact hC.Ly he hk
theorem jK.Lg(h:jK E.e a v w S):∃S1,DG v.tp v.t w S1/\∀k,S1 k->S k:=by
 obtain⟨SC,hC,hs⟩:=h.qU;obtain⟨S1,h1,h2⟩:=hC.Lg;exact⟨S1,h1,λk hk=>hs k (h2 k hk)⟩
theorem jK.sset(h:jK E.e a v w S):∃S1,AE v.sp v.u w S1/\∀k,S1 k->S k:=by
 obtain⟨SC,hC,hs⟩:=h.qU;obtain⟨S1,h1,h2⟩:=gS.get hC .set;exact⟨S1,h1,λk hk=>hs k (h2 k hk)⟩
theorem changed_i{lU op:Sl}{sh opl:List Int}{Q:Sl->aH->Prop}(h:jK E.e a v w S)(hb:Bs W0 E G S w)(ok:v.Ok G B)(hsh:Rd w lU 1 eI sh)(hso:LL lU S w)(Fl:Rd w op 1 eI opl)(hoo:LL op S w)(hl:sh.length<=1000/\opl.length<=1000)
  (hQ:∀r ps v' w' S',jK E.e a v' w' S'->Up S S' w w'->yH w.heap.size S' w' r ps->v'.Ok G B->vL v v'->ps.length<=v.t.bK.length*v.dO.dA->(∀p∈ps,PkOk v p)->((sh=[]/\opl=[])\/v.t.bK=[]->v'=v/\ps=[])->Q r w'):rY (some ⟨a,0,none⟩) lU op w Q:=by
 unfold rY;have lsh:=hsh.len;have lop:=Fl.len;rw[gZ aB aB];refine aF (λh0=>?_) (λh0=>?_)
 ·exact hQ _ [] v w S h (Up.refl _ _) fK.nil ok (vL.refl v) (dE _) (λp hp=>by cases hp) λ_=>⟨rfl,rfl⟩
 have gK:¬(sh=[]/\opl=[]):=λhh=>by rw[lsh,lop,hh.1,hh.2] at h0;simp at h0
 refine aA rfl (aE (k:=.ptr) (some ⟨v.tp,0,none⟩) (h.cell rfl) ?_);obtain⟨S1,hT,hS1⟩:=h.Lg;refine oq hT ok.t λs1 w1 v1 k1 f1=>?_;have bd:=bG.gX h;have sl:=v1.len;rw[oH] at sl;have PV:=ok.dO.dA;have o1:LL s1 S w1:=λb bR=>⟨λhk=>by have:=bd _ hk;have:=f1 b bR;omega,v1.lt bR⟩;have olen:=ok.t.len;have omost:=ok.t.fD;refine bL (λn t w3=>∃(i:Nat) (r:Sl) (ps:List Pk) (v3:iQ) (S3:BS),i<=v.t.bK.length/\n=v.t.bK.length-i/\t=(r,(i:Int),())/\jK E.e a v3 w3 S3/\Up S S3 w w3/\yH w1.heap.size S3 w3 r ps/\v3.Ok G B/\vL v v3/\ps.length<=i*v.dO.dA/\(∀p∈ps,PkOk v p)/\(v.t.bK=[]->v3=v/\ps=[])/\Rd w3 s1 1 gy (v.t.bK.map LC)/\LL s1 S3 w3/\Rd w3 lU 1 eI sh/\LL lU S3 w3/\Rd w3 op 1 eI opl/\LL op S3 w3/\w1.heap.size<=w3.heap.size) v.t.bK.length
  ⟨0,aZ,[],v,S,dE _,rfl,rfl,bG.kp h k1,Up.aO k1,fK.nil,ok,vL.refl v,dE _,λp hp=>(by cases hp),λ_=>⟨rfl,rfl⟩,v1.rd QO,o1,hsh.aK k1 cI λ_ _=>id,hso.kp k1,Fl.aK k1 cI λ_ _=>id,hoo.kp k1,dL _⟩ ?_
 rintro n t w3 ⟨i,r,ps,v3,S3,hi,rfl,rfl,h3,u3,r3,ok3,st3,hpl,hpk,hemp,rd3,os3,rsh,osh,rop,oop,zz3⟩ X hX;dsimp only;refine aJ (λcC=>?_) (λkC=>?_)
 ·have dJ:i<v.t.bK.length:=aB;have cQ:=cM dJ;have gF:=mX dJ;generalize v.t.bK[i]=e at*;have Xe:e∈v3.t.bK:=by rw[st3.t];exact gF
  obtain⟨q,hq,cq⟩:=bP (k:=.ptr) (e:=λx=>x) rd3 (show(v.t.bK.map LC)[i]? =some (LC e) by rw[oM,cQ];rfl);rw[dW,pP i aB];have hd:=bG.dr h3;refine⟨⟨aB,cC⟩,aA hq (aE (k:=.ptr) (LC e) cq (aA rfl (aE (k:=.ptr) (some ⟨e.sp,0,none⟩) (hd.Ly Xe rfl) (aA rfl (aE (k:=.ptr) (some ⟨v3.sp,0,none⟩) (hd.cell rfl) ?_)))))⟩;obtain⟨S4,LH,_⟩:=hd.sset;refine Tn LH ok3.u.2 λmk w4 v4 k4 f4=>?_;have K4:=(bY w3).tr k4;have h4:=bG.kp h3 K4;refine⟨h4.Ly Xe rfl,?_⟩;have hb4:=(hb.up u3).kp K4;obtain⟨S5,h5,hs5,say5⟩:=h4.sesSay hb4 ok3 Xe;have z4:=K4.size;have w3d:w3.drew.heap.size=w3.heap.size:=rfl;refine SChg_i (hb4.sub hs5) h5 (ok3.KZ e Xe) (rsh.aK K4 cI λ_ _=>id) aB (rop.aK K4 cI λ_ _=>id) (v4.rd Ct) λz ms w5 T hz hT uT okz hm jf=>?_;refine say5 z w5 T ms uT hT okz hm aB _ λrs pps v6 w6 S6 hsd h6 u6 r6 tx=>?_;have U6:Up S3 S6 w3 w6:=(Up.aO K4).tr u6;have UT:vL v v6:=st3.tr ((⟨rfl,rfl,rfl,rfl,rfl,rfl,rfl,rfl⟩:vL v3 (v3.vN e.aN z.1)).tr hsd.same);have hmem3':e∈(v3.vN e.aN z.1).t.bK:=Xe;have hcnt:=hsd.Ec hmem3' tx;have hcw:(v6.ch e.aN).s.n<=v.dO.dA:=by have:=hcnt.2;rw[show(v3.vN e.aN z.1).dO=v.dO from st3.dO] at this;exact this
  have r3':=r3.up U6;have bd6:=bG.gX h6;have z3:=u3.size;have im:i*v.dO.dA<=16*16:=RX aB PV.2;refine fK.app nG VU VS aB r3' r6 aB (λb bR=>pG (r3.lt bR) z4) aB (by have:=u6.size;omega) bd6 λr' w7 v7 m7=>?_;have U7:Up S S6 w w7:=Up.iI (u3.tr U6) (m7.mono λk _ hk=>⟨iR k1.size hk.1,hk.2⟩);have h7:=bG.ov h6 m7;obtain⟨x1,x2⟩:=Hs TK rd3 os3 (λb bR=>v1.lt bR) U6 m7;obtain⟨x3,x4⟩:=Hs cI rsh osh (λb bR=>pG (hso b bR).2 k1.size) U6 m7;obtain⟨x5,x6⟩:=Hs cI rop oop (λb bR=>pG (hoo b bR).2 k1.size) U6 m7;refine hX _ _ _ aB ⟨i+1,r',ps++pps,v6,S6,dJ,rfl,rfl,h7,U7,v7,tx,UT,?_,λp hp=>?_,λh0=>(by rw[h0] at gF;cases gF),x1,x2,x3,x4,x5,x6,?_⟩
  ·rw[fJ,Nat.add_mul,Nat.one_mul];omega
  ·rcases kE.1 hp with hp|hp
   ·exact hpk p hp
   ·obtain⟨h1,f,hf,h2⟩:=hsd.pks hmem3' p hp;exact⟨h1,f,by rw[<-st3.t];exact hf,h2⟩
  ·have:=u6.size;have:=m7.size;omega
 ·have ei:i=v.t.bK.length:=aB;subst ei;exact hQ r ps v3 w3 S3 h3 u3 (r3.qM k1.size) ok3 st3 hpl hpk λhh=>hh.elim (λhh=>absurd hh gK) hemp
theorem jK.putSet(h:jK E.e a v w S):∃S1,AE v.sp v.u w S1/\(∀k,S1 k->S k)/\∀u' D w' T,Up S1 T w w'->bJ (AE v.sp u') D w' T->∃S',bJ (jK E.e a {v with u:=u'}) D w' S'/\Up S S' w w':=by
 obtain⟨S1,h1,hs,eO⟩:=(bJ.l h).c λT hT=>gS.at hT .set;refine⟨S1,h1,hs,λu' D w' T u hT=>?_⟩;obtain⟨S',h',u2⟩:=eO _ D w' T u hT;refine⟨S',h'.mono (λ_ h=>h.mono (λS h=>?_) λ_ h=>h) λ_ h=>h,u2⟩;have e:FZ (YK E.e a v) .set (AE v.sp u')=YK E.e a {v with u:=u'}:=by
  funext i
  cases i<;>rfl
 unfold lM;rw[<-e];exact h
def iQ.Vu(v:iQ)(u:List Int):iQ:={v with u:=u}
theorem iQ.Ok.Vu(ok:v.Ok G B){u:List Int}(hu:u.length=v.u.length):(v.Vu u).Ok G B:=⟨ok.dO,ok.fR,⟨hu.trans ok.u.1,by show u.length<=512;rw[hu];exact ok.u.2⟩,ok.t,ok.fD,ok.ch,ok.KZ,ok.Nk,ok.lost⟩
def iQ.MO(v:iQ)(jV wN:Int):List Int:=if 0<=jV/\jV<v.u.length/\1<=wN/\wN<=1048576 then v.u.set jV.toNat (v.fR+wN) else v.u
structure ChgS(G:Gr)(B:Int)(ee a:Nat)(v v1:iQ)(w:aH)(S:BS)(r:Sl)(ps:List Pk)(v':iQ)(w':aH)(S':BS):Prop where
 Uw:jK ee a v' w' S'
 up:Up S S' w w'
 row:yH w.heap.size S' w' r ps
 ok:v'.Ok G B
 same:vL v1 v'
 len:ps.length<=v.t.bK.length*v.dO.dA
 pks:∀p∈ps,PkOk v p
 nil:v.t.bK=[]->v'=v1/\ps=[]
theorem qy{u:List Int}{e:Nat}{t:Int}:(Hi u e t).length<=1:=by unfold Hi;split<;>simp
theorem edges_i{e:Addr->Prop}{Q:Int->aH->Prop}(he:zT w E G)(hQ:Q (G.E.length:Int) w):aC (some ⟨E.e,0,none⟩:cR) λa2=>Aj .ptr w (a2.add 0) λ(p2:cR)=>aC p2 λa3=>Aj .ptr w (a3.add 0) λ(p3:cR)=>gO p3 w Q:=
 aA rfl (aE (k:=.ptr) (some ⟨E.t.t,0,none⟩) he.cells.1 (aA rfl (aE (k:=.ptr) (some ⟨E.t.H.g,0,none⟩) he.RQ.cells.1 (tQ he.RQ.IS hQ))))
theorem VClose_i{jV wN:Int}{Q:Sl->Int->aH->Prop}(h:jK E.e a v w S)(hb:Bs W0 E G S w)(ok:v.Ok G B)
  (hQ:∀r ps er v' w' S',ChgS G B E.e a v (v.Vu (v.MO jV wN)) w S r ps v' w' S'->Q r er w'):JV (some ⟨a,0,none⟩) jV wN w Q:=by
 unfold JV;have no:∀wx,aL w wx->¬(0<=jV/\jV<v.u.length/\1<=wN/\wN<=1048576)->Q aZ 1 wx:=λwx k hn=>by
  have e:v.MO jV wN=v.u:=by unfold iQ.MO;rw[if_neg hn]
  exact hQ _ [] _ v wx S ⟨bG.kp h k,Up.aO k,fK.nil,ok,by rw[e];exact vL.refl v,dE _,λp hp=>(by cases hp),λ_=>⟨by rw[e];rfl,rfl⟩⟩
 have k0:aL w w:=aU.refl _ _;refine aF (λh=>by simp at h) (λ_=>aJ (λh0=>no w k0 λhh=>aB) (λh0=>?_));refine aA rfl (aE (k:=.ptr) (some ⟨E.e,0,none⟩) (h.cell rfl) (edges_i (e:=λ_=>True) hb.e ?_));rw[<-ok.u.1];refine aJ (λh1=>no w k0 λhh=>aB) (λh1=>aJ (λh2=>no w k0 λhh=>aB) (λh2=>aJ (λh3=>no w k0 λhh=>aB) (λh3=>?_)));obtain⟨e,rfl⟩:∃e:Nat,jV=(e:Int):=⟨jV.toNat,aB⟩;have heu:e<v.u.length:=aB;have Re:v.MO (e:Int) wN=v.u.set e (v.fR+wN):=by unfold iQ.MO;rw[if_pos ⟨aB,aB,aB,aB⟩,dW]
 rw[Re] at hQ;have hd:=bG.dr h;refine aA rfl (aE (k:=.ptr) (some ⟨v.sp,0,none⟩) (hd.cell rfl) (aA rfl (aE (k:=.i) v.fR (hd.cell rfl) ?_)));refine cO (cs:=eI (e:Int)) λw2 b2 k2 z2=>?_;have K2:=(bY w).tr k2;have h2:=bG.kp h K2;refine⟨h2.cell rfl,h2.cell rfl,?_⟩;have Cu:=ok.fR;rw[gZ aB aB];obtain⟨S3,h3,Ci,Gz⟩:=h2.putSet;refine SClose_i h3 (mO eX [(e:Int)] b2 rfl dN) heu ⟨aB,aB⟩ λrc w4 S4 h4 u4=>?_;obtain⟨S5,h5,u5⟩:=Gz _ _ w4 S4 u4 h4;obtain⟨S6,S7,h6,h7,d67,e67⟩:=h5;have U6:Up S S6 w w4:=((Up.aO K2).tr u5).tr (Up.sub w4 λk hk=>(e67 k).2 (.inl hk));have tx:(v.Vu (v.u.set e (v.fR+wN))).Ok G B:=ok.Vu dN;have o7:LL rc S6 w4:=λb bR=>⟨λhk=>d67 _ hk ((h7.2 _).2 ⟨b,bR,rfl⟩),h7.1.lt bR⟩;refine changed_i (v:=v.Vu (v.u.set e (v.fR+wN))) h6 (hb.up U6) tx (h7.1.rd eX) o7 (opl:=[]) (Rd.nil _ _ _) (λb bR=>by cases bR) ⟨by have:=qy (u:=v.u) (e:=e) (t:=v.fR+wN);omega,by simp⟩ λr ps v' w' S' g1 g2 g3 g4 g5 g6 g7 g8=>?_;exact hQ r ps _ v' w' S' ⟨g1,U6.tr g2,g3.qM U6.size,g4,g5,g6,g7,λhh=>g8 (.inr hh)⟩
theorem oh{Q:Int->aH->Prop}(h:jK E.e a v w S)(hQ:Q v.fR w):HH (some ⟨a,0,none⟩) w Q:=by
 unfold HH;exact aF (λh=>by simp at h) (λ_=>aA rfl (aE (k:=.i) v.fR (h.cell rfl) hQ))
theorem VLive_i{Q:Sl->aH->Prop}(h:jK E.e a v w S)(ok:v.Ok G B)(hQ:∀r w',dD w' dG 1 eI r (v.t.bK.map λe=>(e.aN:Int))->aL w w'->(∀b,r.b=some b->w.heap.size<=b.block)->Q r w'):OZ (some ⟨a,0,none⟩) w Q:=by
 unfold OZ;obtain⟨S1,hT,_⟩:=h.Lg;refine aF (λh=>by simp at h) (λ_=>aA rfl (aE (k:=.ptr) (some ⟨v.tp,0,none⟩) (h.cell rfl) (oq hT ok.t λs1 w1 v1 k1 f1=>?_)));have sl:=v1.len;rw[oH] at sl;have olen:=ok.t.len;have omost:=ok.t.fD;refine bL (λn t w3=>∃(i:Nat) (r:Sl),i<=v.t.bK.length/\n=v.t.bK.length-i/\t=(r,(i:Int),())/\dD w3 dG 1 eI r ((v.t.bK.take i).map λe=>(e.aN:Int))/\aL w1 w3/\∀b,r.b=some b->w1.heap.size<=b.block) v.t.bK.length
  ⟨0,aZ,dE _,rfl,rfl,dD.nil _ _ _ _,aU.refl _ _,λb hb=>by cases hb⟩ ?_
 rintro n t w3 ⟨i,r,hi,rfl,rfl,v3,k3,f3⟩ X hX;dsimp only;refine aJ (λcC=>?_) (λkC=>?_)
 ·have dJ:i<v.t.bK.length:=aB;have cQ:=cM dJ;have gF:=mX dJ;have sC:=mM dJ;generalize v.t.bK[i]=e at*;obtain⟨q,hq,cq⟩:=bP (k:=.ptr) (e:=λx=>x) ((v1.rd QO).aK k3 TK λ_ _=>id) (show(v.t.bK.map LC)[i]? =some (LC e) by rw[oM,cQ];rfl);rw[dW,pP i aB];refine⟨⟨aB,cC⟩,aA hq (aE (k:=.ptr) (LC e) cq (aA rfl (aE (k:=.i) (e.aN:Int) ((bG.kp h (k1.tr k3)).Ly gF rfl) ?_)))⟩;refine cO (cs:=eI (e.aN:Int)) λw4 b4 k4 z4=>?_;refine fH iK eX FC (x:=⟨some ⟨w3.heap.size,0,none⟩,1,1⟩) (v3.aK k4 λ_ _=>id) (mO eX [(e.aN:Int)] b4 rfl dN) (by simp;omega) (by simp;omega) λr' w5 v5 m5 hr5 _=>?_;refine hX _ _ _ aB ⟨i+1,r',dJ,rfl,rfl,by rw[sC,wQ];exact v5,(k3.tr k4).fresh m5 λk ⟨b,hb,e⟩=>by rw[e];exact f3 b hb,λb hb=>?_⟩;rcases hr5 with h|⟨b',h,h2⟩
  ·exact f3 b (h.symm.trans hb)
  ·rw[hb] at h;cases h;have:=(k3.tr k4).size;omega
 ·have ei:i=v.t.bK.length:=aB;subst ei;rw[oI] at v3;exact hQ r w3 v3 (k1.tr k3) λb hb=>by have:=f3 b hb;have:=k1.size;omega
end
end
section
theorem aw{l:List cY}{p q:Nat}(h:q≠p):(l.filter λf=>!decide (f.aN=p)).find? (λe=>e.aN==q)=l.find? λe=>e.aN==q:=by
 induction l with
 |nil=>rfl
 |cons x l ih=>
  by_cases hx:x.aN=p
  ·rw[ly2 (by simp[hx]),ih,List.find?_cons_of_neg (by simp[hx];omega)]
  ·rw[List.filter_cons_of_pos (by simp[hx])]
   by_cases hq:x.aN=q
   ·rw[List.find?_cons_of_pos (by simp[hq]),List.find?_cons_of_pos (by simp[hq])]
   ·rw[List.find?_cons_of_neg (by simp[hq]),List.find?_cons_of_neg (by simp[hq]),ih]
theorem at_drop{t:tO}{p q:Nat}(h:q≠p):(t.drop p).at q=t.at q:=aw h
theorem XX{t:tO}{p:Nat}:(t.drop p).at p=none:=by
 cases h:(t.drop p).at p with
 |none=>rfl
 |some e=>obtain⟨h1,h2⟩:=tO.at_mem h;have:=(jI.1 h1).2;simp[h2] at this
theorem tO.Sn{t:tO}(ok:t.Ok){p:Nat}{e:cY}:t.at p=some e↔e∈t.bK/\e.aN=p:=⟨tO.at_mem,λ⟨h1,h2⟩=>by rw[<-h2];exact tO.TH ok h1⟩
theorem at_add{t:tO}{e:cY}(ok:t.Ok)(Ql:(t.add e).Ok)(q:Nat):(t.add e).at q=if q=e.aN then some e else t.at q:=by
 apply Option.ext;intro f;rw[tO.Sn Ql];show(f∈Fz e t.bK/\f.aN=q)↔_;rw[oV]
 by_cases hq:q=e.aN
 ·rw[if_pos hq]
  constructor
  ·rintro⟨rfl|⟨_,h⟩,h2⟩
   ·rfl
   ·exact absurd (h2.trans hq) h
  ·intro h;cases h;exact⟨.inl rfl,hq.symm⟩
 ·rw[if_neg hq,tO.Sn ok]
  constructor
  ·rintro⟨rfl|⟨h,_⟩,h2⟩
   ·exact absurd h2.symm hq
   ·exact⟨h,h2⟩
  ·rintro⟨h,h2⟩;exact⟨.inr ⟨h,λh3=>hq (h2.symm.trans h3)⟩,h2⟩
theorem np:∀{l:List cY} {w:aH} {S:BS},wM JH l w S->wM Grv (l.map (·.a)) w S
 | [],_,_,h=>h
 |e::l,_,_,h=>bJ.mono h (λ_ h=>⟨Wf e,h⟩) λ_ h=>np h
structure Nx(v v':iQ)(p:Nat):Prop where
 dO:v'.dO=v.dO
 sp:v'.sp=v.sp
 tp:v'.tp=v.tp
 lp:v'.lp=v.lp
 fR:v'.fR=v.fR
 u:v'.u=v.u
 lf:v'.lf=v.lf
 ln:v'.ln=v.ln
 at':∀q,q≠p->v'.t.at q=v.t.at q
 ch:∀q,q≠p->v'.ch q=v.ch q
 KZ:∀q,q≠p->v'.KZ q=v.KZ q
section
variable{w:aH}{S:BS}{ee a:Nat}{v:iQ}
theorem yv{v':iQ}{p:Nat}(x:Nx v v' p):FZ (FZ (YK ee a v) (.ch p) (YK ee a v' (.ch p))) .Lg (VN v')=YK ee a v':=by
 funext i
 cases i with
 |Uw=>show uL a EB (Cw ee v)=uL a EB (Cw ee v');unfold Cw;rw[x.dO,x.sp,x.tp,x.lp,x.fR]
 |set=>show AE v.sp v.u=AE v'.sp v'.u;rw[x.sp,x.u]
 |Lg=>rfl
 |lost=>show wL v.lp zY Ng v.lf v.ln=wL v'.lp zY Ng v'.lf v'.ln;rw[x.lp,x.lf,x.ln]
 |ch q=>
  show(if SI.ch q=.Lg then VN v' else if SI.ch q=.ch p then YK ee a v' (.ch p) else YK ee a v (.ch q))=_
  rw[if_neg dN]
  by_cases hq:q=p
  ·rw[if_pos (by rw[hq]),hq]
  ·rw[if_neg (by simpa using hq)];show(match v.t.at q with|some e=>lW e.cp (v.ch q)|none=>DR)=(match v'.t.at q with|some e=>lW e.cp (v'.ch q)|none=>DR)
   rw[x.at' q hq,x.ch q hq]
theorem lM.putTab(h:lM ee a v w S)(p:Nat):∃S1,bJ (YK ee a v (.ch p)) (VN v) w S1/\(∀k,S1 k->S k)/\∀v' D w' T,Nx v v' p->Up S1 T w w'->bJ (bJ (YK ee a v' (.ch p)) (VN v')) D w' T->∃S',bJ (lM ee a v') D w' S'/\Up S S' w w':=by
 obtain⟨S1,h1,hs,eO⟩:=gS.at2 (A:=YK ee a v) (i:=SI.ch p) (j:=SI.Lg) h dN;refine⟨S1,h1,hs,λv' D w' T x u hT=>?_⟩;obtain⟨S',h',u'⟩:=eO _ _ D w' T u hT;exact⟨S',h'.mono (λ_ h=>by unfold lM;rw[<-yv x];exact h) λ_ h=>h,u'⟩
theorem yb{v':iQ}{p:Nat}(x:Nx v v' p):FZ (zZ ee v) p (zZ ee v' p)=zZ ee v':=by
 funext q
 show(if q=p then zZ ee v' p else zZ ee v q)=_
 by_cases hq:q=p
 ·rw[if_pos hq,hq]
 ·rw[if_neg hq];unfold zZ;rw[x.at' q hq,x.KZ q hq]
theorem DH.putX(h:DH ee v w S)(p:Nat):∃S1,zZ ee v p w S1/\(∀k,S1 k->S k)/\∀v' w' T,Nx v v' p->Up S1 T w w'->zZ ee v' p w' T->∃S',DH ee v' w' S'/\Up S S' w w':=by
 obtain⟨S1,h1,hs,eO⟩:=(gS.at h p).put;refine⟨S1,h1,hs,λv' w' T x u hT=>?_⟩;obtain⟨S',h',u'⟩:=eO _ w' T u hT;exact⟨S',by unfold DH;rw[<-yb x];exact h',u'⟩
def iQ.jT(v:iQ)(p:Nat):iQ:={v with t:=v.t.drop p,gv:=(v.t.bK.filter λf=>decide (f.aN=p)).map (·.a)++v.gv}
theorem dropE_ok{G:Gr}{B:Int}(ok:v.Ok G B)(p:Nat):(v.jT p).Ok G B:=
 have sub:∀f∈(v.t.drop p).bK,f∈v.t.bK:=λf hf=>(jI.1 hf).1
 ⟨ok.dO,ok.fR,ok.u,ok.t.drop p,ok.fD,λf hf=>ok.ch f (sub f hf),λf hf=>ok.KZ f (sub f hf),λf hf=>ok.Nk f (sub f hf),λk hk=>by
  rcases ok.lost k hk with⟨f,hf,rfl⟩|h
  ·by_cases hp:f.aN=p
   ·exact .inr (List.mem_append_left _ (mD.2 ⟨f,jI.2 ⟨hf,by simp[hp]⟩,rfl⟩))
   ·exact .inl ⟨f,jI.2 ⟨hf,by simp[hp]⟩,rfl⟩
  ·exact .inr (List.mem_append_right _ h)⟩
theorem Ju(v:iQ)(p:Nat):Nx v (v.jT p) p:=⟨rfl,rfl,rfl,rfl,rfl,rfl,rfl,rfl,λq hq=>at_drop hq,λq _=>rfl,λq _=>rfl⟩
theorem VDrop_i{G:Gr}{B:Int}{p:Nat}{QL:Sl}{Q:Sl->aH->Prop}(h:jK ee a v w S)(ok:v.Ok G B)(hr:Rd w QL 1 eI [(p:Int)])(ho:LL QL S w)
  (hQ:∀r w' S',jK ee a (v.jT p) w' S'->Up S S' w w'->(v.jT p).Ok G B->(∀f∈v.t.bK,f.aN=p->cU w' f.a ZA (Wf f))->Q r w'):xI (some ⟨v.tp,0,none⟩) QL w Q:=by
 have bd:=bG.gX h;obtain⟨SC,SS,hC,hS,d,e⟩:=h;obtain⟨S1,h1,xS,Xi⟩:=hC.putTab p;obtain⟨S2,S3,h2,⟨S4,S5,h4,h5,d45,e45⟩,d23,e23⟩:=h1;have inC:∀k,S4 k->SC k:=λk hk=>xS k ((e23 k).2 (.inr ((e45 k).2 (.inl hk))));refine TDrop_i h4 ok.t hr (λb hb=>⟨λhk=>(ho b hb).1 ((e _).2 (.inl (inC _ hk))),(ho b hb).2⟩) λr w' S6 h6 u6=>?_;obtain⟨S7,S8,h7,h8,d78,Qr⟩:=h6;have h5':wM Grv v.gv w' S5:=bG.aK h5 u6.m λk h1 h2=>d45 k h2 h1;have d65:∀k,S6 k->S5 k->False:=u6.lq (λk h1 h2=>d45 k h1 h2) (bG.gX h5);have hT:VN (v.jT p) w' (λk=>S7 k\/(S8 k\/S5 k)):=bJ.xR h7 (WR (bJ.xR (np h8) h5' λk h1 h2=>d65 k ((Qr k).2 (.inr h1)) h2)) λk h1 h2=>h2.elim (d78 k h1) λh=>d65 k ((Qr k).2 (.inl h1)) h;have hE:YK ee a (v.jT p) (.ch p)=DR:=by
  show(match (v.t.drop p).at p with|some e=>_|none=>DR)=_
  rw[XX]
 have hX:bJ (bJ (YK ee a (v.jT p) (.ch p)) (VN (v.jT p))) DR w' (λk=>S7 k\/(S8 k\/S5 k)):=by rw[hE];exact bJ.emp ⟨λ_=>False,_,λ_=>id,hT,λ_ h _=>h,λk=>⟨.inr,λh=>h.elim False.elim id⟩⟩
 have UX:Up S1 (λk=>S7 k\/(S8 k\/S5 k)) w w':=⟨u6.m.mono λk _ hk=>(e23 k).2 (.inr ((e45 k).2 (.inl hk))),λk hk=>by
  rcases hk with hk|hk|hk
  ·exact(u6.s k ((Qr k).2 (.inl hk))).imp (λh=>(e23 k).2 (.inr ((e45 k).2 (.inl h)))) id
  ·exact(u6.s k ((Qr k).2 (.inr hk))).imp (λh=>(e23 k).2 (.inr ((e45 k).2 (.inl h)))) id
  ·exact .inl ((e23 k).2 (.inr ((e45 k).2 (.inr hk))))⟩
 obtain⟨S9,h9,u9⟩:=Xi _ _ w' _ (Ju v p) UX hX;obtain⟨An,Ea,u10⟩:=h9.drop;have UC:Up SC An w w':=u9.tr u10;have hS':DH ee v w' SS:=bG.aK hS UC.m λk h1 h2=>d k h2 h1;obtain⟨ie,Vr,hs11,Hj⟩:=DH.putX hS' p;have hE2:zZ ee (v.jT p) p w' (λ_=>False):=by
  have:zZ ee (v.jT p) p=DR:=by unfold zZ;rw[show(v.jT p).t.at p=none from XX]
  rw[this];exactλ_=>id
 obtain⟨YP,Fp,Ff⟩:=Hj (v.jT p) w' _ (Ju v p) (Up.sub w' λk hk=>hk.elim) hE2;have UK:∀k,YP k->SS k\/w'.heap.size<=k:=Ff.s;have b12:=bG.gX Fp;have sub12:∀k,YP k->SS k:=λk hk=>(UK k hk).resolve_right λh=>by have:=b12 k hk;omega
 refine hQ r w' (λk=>An k\/YP k) (bJ.xR Ea Fp λk h1 h2=>?_) ⟨UC.m.mono λk _ hk=>(e k).2 (.inl hk),λk hk=>?_⟩ (dropE_ok ok p) λf hf hfp=>?_
 ·exact(UC.s k h1).elim (λh=>d k h (sub12 k h2)) λh=>by have:=bd k ((e k).2 (.inr (sub12 k h2)));omega
 ·rcases hk with hk|hk
  ·exact(UC.s k hk).imp (λh=>(e k).2 (.inl h)) id
  ·exact .inl ((e k).2 (.inr (sub12 k hk)))
 ·obtain⟨_,um,_⟩:=wM.get h8 (x:=f) (jI.2 ⟨hf,by simp[hfp]⟩);exact um.1
def iQ.pR(v:iQ)(e:cY)(c:kP)(z:FX):iQ:={v with t:=v.t.add e,gv:=(oldE e.aN v.t.bK).map (·.a)++v.gv,ch:=λq=>if q=e.aN then c else v.ch q,KZ:=λq=>if q=e.aN then z else v.KZ q}
theorem addE_ok{G:Gr}{B:Int}(ok:v.Ok G B){e:cY}{c:kP}{z:FX}(Ql:(v.t.add e).Ok)(hc:c.Ok/\c.aM=e.aM/\c.s.dA=v.dO.dA/\c.dl<=B)(hz:UR G z)(he:(1<=e.aM/\e.aM<=2147483648)/\0<=e.lE/\e.lE<=v.fR):(v.pR e c z).Ok G B:=by
 refine⟨ok.dO,ok.fR,ok.u,Ql,ok.fD,λf hf=>?_,λf hf=>?_,λf hf=>?_,λk hk=>?_⟩
 ·show(if f.aN=e.aN then c else v.ch f.aN).Ok/\(if f.aN=e.aN then c else v.ch f.aN).aM=f.aM/\(if f.aN=e.aN then c else v.ch f.aN).s.dA=v.dO.dA/\(if f.aN=e.aN then c else v.ch f.aN).dl<=B
  rcases oV.1 hf with rfl|⟨h1,h2⟩
  ·rw[if_pos rfl];exact hc
  ·rw[if_neg h2];exact ok.ch f h1
 ·show UR G (if f.aN=e.aN then z else v.KZ f.aN)
  rcases oV.1 hf with rfl|⟨h1,h2⟩
  ·rw[if_pos rfl];exact hz
  ·rw[if_neg h2];exact ok.KZ f h1
 ·rcases oV.1 hf with rfl|⟨h1,_⟩
  ·exact he
  ·exact ok.Nk f h1
 ·rcases ok.lost k hk with⟨f,hf,rfl⟩|h
  ·by_cases hp:f.aN=e.aN
   ·exact .inr (List.mem_append_left _ (mD.2 ⟨f,oldE_mem.2 ⟨hf,hp⟩,rfl⟩))
   ·exact .inl ⟨f,oV.2 (.inr ⟨hf,hp⟩),rfl⟩
  ·exact .inr (List.mem_append_right _ h)
theorem VAdd_i{G:Gr}{B:Int}{SC SS SB SH SZ:BS}{e:cY}{c:kP}{z:FX}{Q:Int->aH->Prop}(hC:lM ee a v w SC)(hS:DH ee v w SS)(hB:JH e w SB)(hH:lW e.cp c w SH)(hZ:vB ee e.sp z w SZ)(dC:∀k,SC k->(SS k\/SB k\/SH k\/SZ k)->False)(dS:∀k,SS k->(SB k\/SH k\/SZ k)->False)(dB:∀k,SB k->(SH k\/SZ k)->False)(dH:∀k,SH k->SZ k->False)
  (ok:v.Ok G B) (hp:e.aN<16) (hm:v.t.vF e.aN e.aM=0) (hc:c.Ok/\c.aM=e.aM/\c.s.dA=v.dO.dA/\c.dl<=B) (hz:UR G z) (he:(1<=e.aM/\e.aM<=2147483648)/\0<=e.lE/\e.lE<=v.fR)
  (hQ:∀w' SA SX,lM ee a (v.pR e c z) w' SA->DH ee (v.pR e c z) w' SX->(∀k,SA k->SX k->False)->(∀k,SA k->SC k\/SB k\/SH k\/w.heap.size<=k)->(∀k,SX k->SS k\/SZ k)->aU (λk=>SC k\/SB k) w w'->(v.pR e c z).Ok G B->Q 0 w'):ND (some ⟨v.tp,0,none⟩) (LC e) w Q:=by
 obtain⟨S1,h1,xS,Xi⟩:=gS.at2X (A:=YK ee a v) (i:=SI.ch e.aN) (j:=SI.Lg) hC dN;obtain⟨S2,S3,h2,⟨S4,S5,h4,h5,d45,e45⟩,d23,e23⟩:=h1;have in4:∀k,S4 k->SC k:=λk hk=>xS k ((e23 k).2 (.inr ((e45 k).2 (.inl hk))));have fm:∀k,S5 k->SC k:=λk hk=>xS k ((e23 k).2 (.inr ((e45 k).2 (.inr hk))));have b5:=bG.gX h5;have bC:=bG.gX hC;have bS:=bG.gX hS;have bH:=bG.gX hH;have bZ:=bG.gX hZ;have hTE:bJ (DG v.tp v.t) (JH e) w (λk=>S4 k\/SB k):=bJ.xR h4 hB λk h1 h2=>dC k (in4 k h1) (.inr (.inl h2));refine TAdd_i hTE ok.t hp he.1 hm λw' S6 h6 u6 tx=>?_;obtain⟨S7,S8,h7,h8,d78,Qr⟩:=h6;have n5:∀k,S5 k->¬(S4 k\/SB k):=λk h h'=>h'.elim (λh1=>d45 k h1 h) λh1=>dC k (fm k h) (.inr (.inl h1));have nH:∀k,SH k->¬(S4 k\/SB k):=λk h h'=>h'.elim (λh1=>dC k (in4 k h1) (.inr (.inr (.inl h)))) λh1=>dB k h1 (.inl h);have nZ:∀k,SZ k->¬(S4 k\/SB k):=λk h h'=>h'.elim (λh1=>dC k (in4 k h1) (.inr (.inr (.inr h)))) λh1=>dB k h1 (.inr h);have nS:∀k,SS k->¬(S4 k\/SB k):=λk h h'=>h'.elim (λh1=>dC k (in4 k h1) (.inl h)) λh1=>dS k h (.inl h1);have h5':wM Grv v.gv w' S5:=bG.aK h5 u6.m n5;have hH':lW e.cp c w' SH:=bG.aK hH u6.m nH;have hZ':vB ee e.sp z w' SZ:=bG.aK hZ u6.m nZ;have d6:∀(T:BS),(∀k,T k->¬(S4 k\/SB k))->(∀k,T k->k<w.heap.size)->∀k,S6 k->T k->False:=λT hn hb k h1 h2=>(u6.s k h1).elim (hn k h2) λh=>by have:=hb k h2;omega
 have hT:VN (v.pR e c z) w' (λk=>S7 k\/(S8 k\/S5 k)):=bJ.xR h7 (WR (bJ.xR (np h8) h5' λk h1 h2=>d6 S5 n5 b5 k ((Qr k).2 (.inr h1)) h2)) λk h1 h2=>h2.elim (d78 k h1) λh=>d6 S5 n5 b5 k ((Qr k).2 (.inl h1)) h;have Fo:(v.t.add e).at e.aN=some e:=by rw[at_add ok.t tx,if_pos rfl]
 have hE:YK ee a (v.pR e c z) (.ch e.aN)=lW e.cp c:=by
  show(match (v.t.add e).at e.aN with|some f=>lW f.cp (if e.aN=e.aN then c else v.ch e.aN)|none=>DR)=_
  rw[Fo,if_pos rfl]
 have x:Nx v (v.pR e c z) e.aN:=⟨rfl,rfl,rfl,rfl,rfl,rfl,rfl,rfl,λq hq=>(at_add ok.t tx q).trans (if_neg hq),λq hq=>if_neg hq,λq hq=>if_neg hq⟩;have hHT:∀k,SH k->(S7 k\/(S8 k\/S5 k))->False:=λk h1 h2=>by
  rcases h2 with h|h|h
  ·exact d6 SH nH bH k ((Qr k).2 (.inl h)) h1
  ·exact d6 SH nH bH k ((Qr k).2 (.inr h)) h1
  ·exact dC k (fm k h) (.inr (.inr (.inl h1)))
 have s6:∀k,S6 k->S4 k\/SB k\/w.heap.size<=k:=λk hk=>(u6.s k hk).elim (λh=>h.imp id .inl) λh=>.inr (.inr h);have inS1:∀k,S4 k->S1 k:=λk h=>(e23 k).2 (.inr ((e45 k).2 (.inl h)));have hX:bJ (YK ee a (v.pR e c z) (.ch e.aN)) (VN (v.pR e c z)) w' (λk=>SH k\/(S7 k\/(S8 k\/S5 k))):=by rw[hE];exact bJ.xR hH' hT hHT
 have TX:∀k,(SH k\/(S7 k\/(S8 k\/S5 k)))->SC k\/SB k\/SH k\/w.heap.size<=k:=λk hk=>by
  have key:S6 k->SC k\/SB k\/SH k\/w.heap.size<=k:=λh=>by
   rcases s6 k h with h|h|h
   ·exact .inl (in4 k h)
   ·exact .inr (.inl h)
   ·exact .inr (.inr (.inr h))
  rcases hk with hk|hk|hk|hk
  ·exact .inr (.inr (.inl hk))
  ·exact key ((Qr k).2 (.inl hk))
  ·exact key ((Qr k).2 (.inr hk))
  ·exact .inl (fm k hk)
 obtain⟨SA,hA,eA⟩:=Xi _ _ _ w' _ u6.m (λk hk=>hk.imp (inS1 k) λh hc=>dC k hc (.inr (.inl h))) (λk hk=>by
  have key:S6 k->S1 k\/¬SC k:=λh=>by
   rcases s6 k h with h|h|h
   ·exact .inl (inS1 k h)
   ·exact .inr λhc=>dC k hc (.inr (.inl h))
   ·exact .inr λhc=>by have:=bC k hc;omega
  rcases hk with hk|hk|hk|hk
  ·exact .inr λhc=>dC k hc (.inr (.inr (.inl hk)))
  ·exact key ((Qr k).2 (.inl hk))
  ·exact key ((Qr k).2 (.inr hk))
  ·exact .inl ((e23 k).2 (.inr ((e45 k).2 (.inr hk))))) hX
 rw[yv x] at hA;have inSA:∀k,SA k->SC k\/SB k\/SH k\/w.heap.size<=k:=λk hk=>((eA k).1 hk).elim (λh=>.inl h.1) (TX k);have hS':DH ee v w' SS:=bG.aK hS u6.m nS;have hYp:zZ ee (v.pR e c z) e.aN w' SZ:=by
  have:zZ ee (v.pR e c z) e.aN=vB ee e.sp z:=by
   show(match (v.t.add e).at e.aN with|some f=>vB ee f.sp (if e.aN=e.aN then z else v.KZ e.aN)|none=>DR)=_
   rw[Fo,if_pos rfl]
  rw[this];exact hZ'
 obtain⟨SX,hSX,eSX⟩:=gS.swap hS' e.aN hYp λk h1 h2=>dS k h1 (.inr (.inr h2));rw[yb x] at hSX;refine hQ w' SA SX hA hSX (λk h1 h2=>?_) inSA eSX (u6.m.mono λk _ hk=>hk.imp (in4 k) id) (addE_ok (z:=z) ok tx hc hz he);rcases eSX k h2 with h|h
 ·rcases inSA k h1 with g|g|g|g
  ·exact dC k g (.inl h)
  ·exact dS k h (.inl g)
  ·exact dS k h (.inr (.inl g))
  ·have:=bS k h;omega
 ·rcases inSA k h1 with g|g|g|g
  ·exact dC k g (.inr (.inr (.inr h)))
  ·exact dB k g (.inr h)
  ·exact dH k g h
  ·have:=bZ k h;omega
end
end
end Go.Proofs.YtihggjgakbgomaaGreat
