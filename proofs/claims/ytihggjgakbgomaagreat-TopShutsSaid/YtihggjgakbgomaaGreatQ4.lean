import Derived.Test.YtihggjgakbgomaaGreatA1
import Derived.Test.YtihggjgakbgomaaGreatF1
import Derived.Test.YtihggjgakbgomaaGreatQ3
import Derived.Test.YtihggjgakbgomaaGreatQ1
import Derived.Test.YtihggjgakbgomaaGreatQ2
import Derived.Test.YtihggjgakbgomaaGreatA2
import Derived.Test.YtihggjgakbgomaaGreatF2
set_option linter.defProp false
namespace Go.Proofs.YtihggjgakbgomaaGreat
open Go Go.Den
structure qB where
 e:Nat
 t:Mx
 L:My
 ord:Sl
abbrev Gr.A(G:Gr):List bP:=(cZ G.m G.ME G.m).all
abbrev Gr.R(G:Gr):cR:=(cZ G.m G.ME G.m).jK
structure AL(w:aH)(E:qB)(G:Gr):Prop where
 head:cX w E.e Tv [.pointer (some ⟨E.t.t,0,none⟩),.pointer (some ⟨E.L.gl,0,none⟩),aW E.ord]
 TJ:sO w E.t G
 lev:pB w E.L G.m (Gr.A G) (Gr.R G)
 ord:∃os:cR,Rd w E.ord 1 eI os/\os.length=G.m/\∀i,i<G.m->∃v:Nat,v<G.m/\os[i]? =some (v:Int)/\cC (Gr.R G) (v:Int)=(G.m:Int)-1-i
 oty:Ty w E.ord
def AL.aO{w w':aH}{E:qB}{G:Gr}(h:AL w E G)(k:aL w w'):AL w' E G:=by
 obtain⟨os,h1,h2⟩:=h.ord;exact⟨h.head.aK k id,h.TJ.aO k,h.lev.aO k,⟨os,h1.aK k cU λ_ _=>id,h2⟩,h.oty.aO k⟩
def AL.cells{w:aH}{E:qB}{G:Gr}(h:AL w E G):w.cell? ((⟨E.e,0,none⟩:Addr).add 0)=some (.pointer (some ⟨E.t.t,0,none⟩))/\w.cell? ((⟨E.e,0,none⟩:Addr).add 1)=some (.pointer (some ⟨E.L.gl,0,none⟩))/\w.cell? ((⟨E.e,0,none⟩:Addr).add 2)=some (aW E.ord):=qM h.head
def ENew_i{g:GT}{G:Gr}{W:aH}{Q:cW->Int->aH->Prop}(h:JY W g G)(ok:sM G)(hQ:∀E w',AL w' E G->aL W w'->Q (some ⟨E.e,0,none⟩) 0 w'):BI g W Q:=by
 unfold BI;have hm:=ok.m1;refine bG λw1 o1 k1 z1=>?_;refine aZ (l:=[.slice,.slice,.slice]) g (qV (g:=g) o1) ?_;refine gNew_i (g:=g) (h.aO k1) ok λH w2 hH k2 _=>?_;refine aF (λh=>by simp at h) (λ_=>?_);refine TNew_i hH λt w3 ht htH k3=>?_;subst htH;refine aA rfl (aE (k:=.ptr) (some ⟨t.H.g,0,none⟩) ht.cells.1 (uB ht.JG ?_));refine Arcs_i ht λs1 w5 v5 k5 f5=>?_;have vt:=G.ah hm.2;refine LB (p:=λx=>x.f==x.t) (C:=λ_=>True) v5 aB trivial (λ_ _ _ _=>trivial) (λx w K _ _ hK=>?_) λs2 w6 v6 m6 e6=>?_
 ·refine pU Ee iZ (gV (ks:=[.agg [.i,.i,.i,.i]]) (t:=(nY x,())) ?_);show uG _ _ _;unfold uG;refine bG λwa oa ka _=>?_;have oa':cX wa w.heap.size iI (dY x):=oa;exact aE (k:=.i) x.f (qX oa').1 (aE (k:=.i) x.t (qX oa').2.1 (hK wa ka))
 have hnet:(G.AQ.filter λx=>!(x.f==x.t))=G.ME:=rfl;rw[hnet] at v6;have k36:aL w3 w6:=k5.fresh m6 λk ⟨b,hb,e⟩=>by rw[e];exact f5 b hb
 have hnl:G.ME.length<=2601:=jB (xG _ _) vt;refine New_i (v6.rd jS) aB (λw7 k7 TY=>?_) λw7 N n0 n1 tH hN k7 _=>?_
 ·exact absurd ⟨aB,aB,λa ha=>by rw[dU];exact(ok.XD a ha).1⟩ TY
 rw[dU,OB (p:=[]) (by simpa using ok.UH),List.nil_append] at hN;have d7:aL w7 w7.drew:=aU.drew (aU.refl _ w7);have k37:=(k36.tr k7).tr d7;have ht7:=ht.aO k37;refine aA rfl (aE (k:=.ptr) (some ⟨t.H.g,0,none⟩) ht7.cells.1 ?_);have mg:∀e∈G.ME,e.w<=40:=λe he=>(ok.XD e he).2.1;refine Build_i (hN.aO d7) hm.2 mg λw8 HL hL k8 _=>?_;have hL':pB w8 HL G.m (Gr.A G) (Gr.R G):=hL;clear hL;have k38:=k37.tr k8;have ht8:=ht.aO k38;refine⟨ht8.cells.1,uB ht8.JG ?_⟩;refine wD iD (aY:=eI) (0:Int) rfl eY aB (lR _) aB aB λfG v10 JE=>?_;simp only[dU] at v10 ⊢;refine bG λeQ o11 LR z11=>?_;have z10:w8.heap.size<fG.heap.size:=v10.lt rfl;generalize Dj:(⟨some ⟨w8.heap.size,0,none⟩,G.m,G.m⟩:Sl)=s3 at*;have s3b:s3.b=some ⟨w8.heap.size,0,none⟩:=by rw[<-Dj]
 have o11':cX eQ fG.heap.size Tv [.pointer (some ⟨t.t,0,none⟩),.pointer (some ⟨HL.gl,0,none⟩),aW s3]:=by have:=o11;rw[<-Dj];exact this
 have k811:=JE.tr LR;have hL11:=hL'.aO k811;have ht11:=ht8.aO k811;have c11:=qM o11';refine aE (k:=.slice) s3 c11.2.2 ?_;have v11:=v10.aK LR λ_ _=>id;have jv:∀v:Int,0<=v->v<G.m->0<=cC (Gr.R G) v/\cC (Gr.R G) v<G.m:=λv h0 h1=>Ix ok.UH mg hm.2 h0 h1;have rne:∀v w:Nat,v<G.m->w<G.m->v≠w->cC (Gr.R G) (v:Int)≠cC (Gr.R G) (w:Int):=λv w hv hw gQ=>Fh ok.UH mg hm.2 aB aB aB aB aB;have ronto:∀{r:Nat},r<G.m->∃v:Nat,v<G.m/\cC (Gr.R G) (v:Int)=(r:Int):=λhr=>rank_onto ok.UH mg hm.2 hr;have s3l:s3.l=G.m:=by rw[<-Dj]
 have KW8:=k1.tr (k2.tr (k3.tr k38));clear hnl hL11 ht11 c11;generalize hRR:Gr.R G=R at*;refine bK (λc s eO=>∃(v:Nat) (os:cR),v<=G.m/\c=G.m-v/\s=((v:Int),())/\aL w8 eO/\cX eO fG.heap.size Tv [.pointer (some ⟨t.t,0,none⟩),.pointer (some ⟨HL.gl,0,none⟩),aW s3]/\dE eO dA 1 eI s3 os/\os.length=G.m/\
   ∀u:Nat,u<v->os[((G.m:Int)-1-cC R (u:Int)).toNat]? =some (u:Int)) G.m ⟨0,_,cY _,rfl,rfl,k811,o11',v11,by simp,λu hu=>aB⟩ ?_
 rintro c s eO ⟨v,os,hv,rfl,rfl,GQ,Em,Dc,gL,hos⟩ X hX;dsimp only;refine aI (λcD=>?_) (λkF=>?_)
 ·have kI:v<G.m:=aB;have d12:aL eO eO.drew:=aU.drew (aU.refl _ eO);have kd:=GQ.tr d12;have od:=Em.aK d12 id;obtain⟨c0,c1,c2⟩:=qM od;have htd:=ht8.aO kd;have hLd:=hL'.aO kd;refine aE (k:=.slice) s3 c2 (aA rfl (aE (k:=.ptr) (some ⟨t.H.g,0,none⟩) htd.cells.1 (aE (k:=.ptr) (some ⟨HL.gl,0,none⟩) c1 (uB htd.JG ⟨c1,c2,?_⟩))));refine Il hLd ⟨c2,?_⟩;obtain⟨r0,r1⟩:=jv (v:Int) aB aB;have wi:aQ ((aQ ((G.m:Int)-(1:Int)))-cC R (v:Int))=(((G.m:Int)-1-cC R (v:Int)).toNat:Int):=by
   rw[iH (n:=(G.m:Int)-1) aB aB,iH aB aB];omega
  rw[wi,dU];have hil:((G.m:Int)-1-cC R (v:Int)).toNat<G.m:=aB;refine⟨⟨aB,aB⟩,aA s3b ?_⟩;refine(Dc.aK d12 λ_ _=>id).store eY s3b (i:=((G.m:Int)-1-cC R (v:Int)).toNat) aB (v:Int) (v:=aD (v:Int)) rfl cV (CI _) λiE v13 jy _=>?_;have m13':aU (λk=>k=w8.heap.size) eO.drew iE:=jy;rw[pI v aB];refine hX _ _ _ aB ⟨v+1,_,kI,rfl,rfl,kd.fresh m13' λk e=>by rw[show k=w8.heap.size from e];exact dN _,od.aK m13' λe=>by have e':fG.heap.size=w8.heap.size:=e;omega,v13,by rw[oE];exact gL,λu hu=>?_⟩;rw[jC]
  by_cases e:u=v
  ·subst e;rw[if_pos rfl,if_pos aB]
  ·have gQ:=rne u v aB kI e;obtain⟨q0,q1⟩:=jv (u:Int) aB aB;rw[if_neg aB];exact hos u aB
 ·have ev:v=G.m:=aB;subst ev;subst hRR;refine hQ ⟨fG.heap.size,t,HL,s3⟩ eO ⟨Em,ht8.aO GQ,hL'.aO GQ,⟨os,Dc.rd eY,gL,λi hi=>?_⟩,dE.Md Dc ⟨by decide,by decide⟩⟩ (KW8.tr GQ);obtain⟨u,hu,hr⟩:=ronto (r:=G.m-1-i) aB;have:=hos u hu;rw[hr,show((G.m:Int)-1-((G.m-1-i:Nat):Int)).toNat=i by omega] at this;exact⟨u,hu,this,by rw[hr];omega⟩
open Tryz (prog)
def far_i{E:qB}{G:Gr}{node:Int}{W:aH}{Q:Sl->aH->Prop}(h:AL W E G)(hQ:∀s ds w',G.pL [] node ds->dE w' dA 1 eI s ds->aL W w'->(∀b,s.b=some b->W.heap.size<=b.block)->(∀(v:Nat) x,ds[v]? =some x->-1<=x/\x<=102*BW)->Q s w'):
  YC (some ⟨E.e,0,none⟩) node W Q:=by
 unfold YC;have ok:=h.TJ.JG.ok;have hm:=ok.m1;have mg:∀e∈G.ME,e.w<=40:=λe he=>(ok.XD e he).2.1;have jv:∀v:Int,0<=v->v<G.m->0<=cC (Gr.R G) v/\cC (Gr.R G) v<G.m:=λv h0 h1=>Ix ok.UH mg hm.2 h0 h1;have rne:∀v w:Nat,v<G.m->w<G.m->v≠w->cC (Gr.R G) (v:Int)≠cC (Gr.R G) (w:Int):=λv w hv hw gQ=>Fh ok.UH mg hm.2 aB aB aB aB aB;have hA:=h.lev.ME.ok;have d:aL W W.drew:=aU.drew (aU.refl _ W);have hd:=h.aO d;refine aA rfl (aE (k:=.ptr) (some ⟨E.L.gl,0,none⟩) hd.cells.2.1 (aA rfl (aE (k:=.ptr) (some ⟨E.t.t,0,none⟩) hd.cells.1 (aA rfl (aE (k:=.ptr) (some ⟨E.t.H.g,0,none⟩) hd.TJ.cells.1 ?_)))));refine gIn_i hd.TJ.JG λs1 w1 v1 k1 f1=>?_;have K1:=d.tr k1;have h1:=h.aO K1;refine⟨h1.cells.2.1,?_⟩;unfold GG;refine sdown_i h1.lev hm.2 (v1.rd eY) (by have:=G.ze node;omega) λs2 sb ds bs w2 hG v2 _ k2 f2 _=>?_;have K2:=K1.tr k2;have h2:=h.aO K2;have hz:=K1.size;refine aA rfl (aE (k:=.slice) E.ord h2.cells.2.2 ?_);obtain⟨os,ho,hol,hos⟩:=h.ord;have hll:=ho.len;rw[hol] at hll;have F0:Mz G.m (Gr.A G) (Gr.R G) (GW (vV G.m (G.Vx node)) (EO (Gr.A G) (Gr.R G)) (λe=>e.f)) 0 ds:=Mz.start hG.pL (λv h0 h1=>(jv v h0 h1).2) hG.iF;generalize hDn:GW (vV G.m (G.Vx node)) (EO (Gr.A G) (Gr.R G)) (λe=>e.f)=Dn at F0;clear hG;have JS:∀b,s2.b=some b->W.heap.size<=b.block:=λb hb=>jB hz (f2 b hb);refine bK (λc s w3=>∃(i:Nat) (ds:cR),i<=G.m/\c=G.m-i/\s=((i:Int),())/\aL W w3/\dE w3 dA 1 eI s2 ds/\Mz G.m (Gr.A G) (Gr.R G) Dn i ds) G.m ⟨0,ds,cY _,rfl,rfl,K2,v2,F0⟩ ?_;clear F0 v2 ds h2;rintro c s w3 ⟨i,ds,hi,rfl,rfl,k3,v3,F⟩ X hX;dsimp only;refine aI (λcD=>?_) (λkF=>?_)
 ·have dL:i<G.m:=aB;obtain⟨v,hv,jb,hrv⟩:=hos i dL;obtain⟨p,hp,hc⟩:=bR (k:=.i) (e:=λx=>x) (ho.aK k3 cU λ_ _=>id) jb;have h3:=h.aO k3;rw[dU];refine⟨⟨aB,cD⟩,aA hp (aE (k:=.i) (v:Int) hc (aA rfl (aE (k:=.ptr) (some ⟨E.L.gl,0,none⟩) h3.cells.2.1 ?_)))⟩;refine Up_i h3.lev λs4 w4 v4 k4 f4=>?_;have l4:=v4.len;have hul:(upL (Gr.A G) (Gr.R G) (v:Int)).length<=262144:=jB (xG _ _) (jB (xG _ _) (hA.len aB));obtain⟨g2,Bk⟩:∃g2,s2.b=some ⟨g2,0,none⟩:=by
   rcases v3.gZ with⟨_,hh⟩|⟨g,_,hb,_⟩
   ·have:=v3.cap;have:=v3.len;have:=F.len;omega
   ·exact⟨g,hb⟩
  have g2lt:g2<w3.heap.size:=v3.lt Bk;have f4':∀b,s4.b=some b->b.block≠g2:=λb hb=>by have:=f4 b hb;omega
  have g2low:W.heap.size<=g2:=JS _ Bk;have hupm:∀e∈upL (Gr.A G) (Gr.R G) (v:Int),FT G.m e/\cC (Gr.R G) (v:Int)<cC (Gr.R G) e.t:=λe he=>by
   unfold upL at he;rw[jR,fD] at he;exact⟨hA.vQ e he.1.1,by simpa using he.2⟩
  obtain⟨x0,Wv⟩:∃x0,ds[v]? =some x0:=⟨_,cL (by rw[F.len];exact hv)⟩;have hL0:gU (λd=>Dn (v:Int) d\/∃e∈(upL (Gr.A G) (Gr.R G) (v:Int)).take 0,∃d',UPD (Gr.A G) (Gr.R G) Dn e.t d'/\d=e.w+d') x0:=(F.dn v x0 Wv aB).congr λk=>by simp
  have hb0:=F.iF v x0 Wv;have hset0:ds.set v x0=ds:=by
   apply yV;intro j;rw[jC]
   by_cases e:v=j
   ·subst e;rw[if_pos rfl,if_pos (by rw[F.len];exact hv),Wv]
   ·rw[if_neg e]
  generalize hU:upL (Gr.A G) (Gr.R G) (v:Int)=us at*;refine bK (λc s w5=>∃(j:Nat) (x:Int),j<=us.length/\c=us.length-j/\s=((j:Int),())/\aL W w5/\dE w5 dA 1 eI s2 (ds.set v x)/\dE w5 iI 4 dY s4 us/\(-1<=x/\x<=(G.m+(i+1:Nat))*BW)/\
    gU (λd=>Dn (v:Int) d\/∃e∈us.take j,∃d',UPD (Gr.A G) (Gr.R G) Dn e.t d'/\d=e.w+d') x) us.length
   ⟨0,x0,cY _,rfl,rfl,k3.tr k4,by rw[hset0];exact v3.aK k4 λ_ _=>id,v4,⟨hb0.1,by simp only[BW] at*;omega⟩,hL0⟩ ?_
  rintro c s w5 ⟨j,x,hj,rfl,rfl,k5,v5,v4',hbx,hL⟩ Y hY;dsimp only;refine aI (λWE=>?_) (λXk=>?_)
  ·have rD:j<us.length:=aB;have cI:=cL rD;obtain⟨tH,hrk⟩:=hupm _ (oF rD);have sZ:=oH rD;generalize us[j]=e at*;obtain⟨pa,hpa,hh⟩:=wC (v4'.rd jS) cI;rw[dU];refine⟨⟨aB,WE⟩,aA hpa (aZ (nY e) hh ?_)⟩;refine DI (x:=e) λw7 k7 o7 _=>?_;refine aE (k:=.i) e.t (qX o7).2.1 ?_;have k57:=k5.tr k7;have v7:=v5.aK k7 λ_ _=>id;have hvt:v≠e.t.toNat:=λh=>by
    have:e.t=(v:Int):=by have:=tH.2.2.1;omega
    rw[this] at hrk;omega
   obtain⟨y,hy⟩:∃y,ds[e.t.toNat]? =some y:=⟨_,cL (by rw[F.len];have:=tH.2.2.1;have:=tH.2.2.2.1;omega)⟩;have hyt:(e.t.toNat:Int)=e.t:=kc tH.2.2.1;have hLy:=F.up e.t.toNat y hy (by rw[hyt];omega);rw[hyt] at hLy;have hby:=F.iF _ y hy;have hys:(ds.set v x)[e.t.toNat]? =some y:=by rw[jC,if_neg hvt];exact hy
   have Ge:(ds.set v x)[v]? =some x:=by rw[jC,if_pos rfl,if_pos (by rw[F.len];exact hv)]
   obtain⟨p1,uv,jf⟩:=bR (k:=.i) (e:=λx=>x) (v7.rd eY) hys;have l7:=v7.len;rw[oE,F.len] at l7;have Vy:=tH.2.2.2.2.2.1;have hw2:=tH.2.2.2.2.2.2.1;have JS:=hL.lower hLy (w:=e.w) aB;have hcon:∀z,gU (λd=>(Dn (v:Int) d\/∃e∈us.take j,∃d',UPD (Gr.A G) (Gr.R G) Dn e.t d'/\d=e.w+d')\/∃d',UPD (Gr.A G) (Gr.R G) Dn e.t d'/\d=e.w+d') z->gU (λd=>Dn (v:Int) d\/∃e∈us.take (j+1),∃d',UPD (Gr.A G) (Gr.R G) Dn e.t d'/\d=e.w+d') z:=λz hz=>hz.congr λk=>by
    rw[sZ]
    constructor
    ·rintro((h1|⟨e',vI,h1⟩)|h1)
     ·exact .inl h1
     ·exact .inr ⟨e',kK.2 (.inl vI),h1⟩
     ·exact .inr ⟨e,by simp,h1⟩
    ·rintro(h1|⟨e',vI,h1⟩)
     ·exact .inl (.inl h1)
     ·rcases kK.1 vI with vI|vI
      ·exact .inl (.inr ⟨e',vI,h1⟩)
      ·have:e'=e:=by simpa using vI
       rw[this] at h1;exact .inr h1
   have It:0<=e.t/\e.t<(s2.l:Int):=⟨tH.2.2.1,by rw[l7];exact tH.2.2.2.1⟩;have Iv:0<=(v:Int)/\(v:Int)<(s2.l:Int):=⟨aB,by rw[l7];omega⟩;have o7':=qX o7;refine⟨It,aA uv (aE (k:=.i) y jf ?_)⟩;have same:∀wz,aL w7 wz->¬(0<=y/\(x<0\/y+e.w<x))->Y (aQ ((j:Int)+1),()) wz:=λwz kz hn=>by
    rw[if_neg hn] at JS;rw[pI j aB];exact hY _ _ _ aB ⟨j+1,x,rD,rfl,rfl,k57.tr kz,v7.aK kz λ_ _=>id,(v4'.aK k7 λ_ _=>id).aK kz λ_ _=>id,hbx,hcon _ JS⟩
   have d7:aL w7 w7.drew:=aU.drew (aU.refl _ w7);have LZ:y+e.w<=(G.m+(i+1:Nat))*BW:=by simp only[BW] at*;omega
   have wsm:0<=y->aQ (y+e.w)=y+e.w:=λh0=>iH aB (by simp only[BW] at*;omega);have put:0<=y->(x<0\/y+e.w<x)->aJ prog dA ((⟨g2,0,none⟩:Addr).add (v*1)) (aD (y+e.w)) w7.drew λw8=>Y (aQ ((j:Int)+1),()) w8:=λh0 hlt3=>by
    rw[if_pos ⟨h0,hlt3⟩] at JS;refine(v7.aK d7 λ_ _=>id).store eY Bk (i:=v) (by rw[oE,F.len];exact hv) (y+e.w) (v:=aD (y+e.w)) rfl cV (CI _) λw8 v8 m8 _=>?_;have m8':aU (λk=>k=g2) w7.drew w8:=m8;rw[List.set_set] at v8;rw[pI j aB];refine hY _ _ _ aB ⟨j+1,y+e.w,rD,rfl,rfl,(k57.tr d7).fresh m8' λk e=>by rw[show k=g2 from e];exact g2low,v8,((v4'.aK k7 λ_ _=>id).aK d7 λ_ _=>id).aK m8' λb hb e=>f4' b hb e,⟨aB,LZ⟩,hcon _ JS⟩
   refine aI (λh0=>?_) (λh0=>same _ d7 λhh=>h0 hh.1);have vw:0<=y:=h0;obtain⟨p2,Dk,QL⟩:=bR (k:=.i) (e:=λx=>x) ((v7.aK d7 λ_ _=>id).rd eY) Ge;have ow:∀{q:Addr},w7.cell? q=some (aD e.w)->w7.drew.cell? q=some (aD e.w):=λhq=>d7.cell hq id;rw[dU];refine⟨Iv,aA Dk (aE (k:=.i) x QL ?_)⟩;refine aI (λFW=>?_) (λhnn=>?_)
   ·refine aE (k:=.i) e.w (ow o7'.2.2.1) ?_;rw[wsm vw];exact⟨Iv,aA Bk (put vw (.inl FW))⟩
   ·refine aE (k:=.i) e.w (ow o7'.2.2.1) ⟨Iv,aA Dk (aE (k:=.i) x QL ?_)⟩;rw[wsm vw];refine aI (λhlt4=>?_) (λhge4=>same _ d7 λhh=>hh.2.elim hnn hge4);refine aE (k:=.i) e.w (ow o7'.2.2.1) ?_;rw[wsm vw];exact⟨Iv,aA Bk (put vw (.inr hlt4))⟩
  ·have ej:j=us.length:=aB;subst ej;rw[oV] at hL;rw[pI i aB];refine hX _ _ _ aB ⟨i+1,_,dL,rfl,rfl,k5,v5,F.step rne hv hrv (hL.congr λk=>by rw[<-hU];exact upd_iff.symm) hbx⟩
 ·have ei:i=G.m:=aB;subst ei;have hf:=F.done λv h0 h1=>(jv v h0 h1).1;rw[<-hDn] at hf;exact hQ s2 ds w3 (ok.qz hf) v3 k3 JS λv x hx=>by have:=F.iF v x hx;simp only[BW] at*;omega
def IndexI_i{s:Sl}{xs:cR}{f:Value}{p:Int->Bool}{w:aH}{Q:Int->aH->Prop}{C:aH->Prop}(hs:Rd w s 1 eI xs)(hl:xs.length<1000000)(hC:C w)(jg:∀w1 w2,C w1->aL w1 w2->C w2)
  (hf:∀x w1 (K:WQ Value),C w1->x∈xs->(∀w2,aL w1 w2->K (.bool (p x)) w2)->lX prog f [aD x] w1 K)
  (hQ:∀i w',aL w w'->(0<=i↔∃x∈xs,p x=true)->Q i w'):iX s f w Q:=by
 unfold iX;have sl:=hs.len;refine bK (λc t w1=>∃(i:Nat),i<=xs.length/\c=xs.length-i/\t=((i:Int),())/\aL w w1/\∀x∈xs.take i,p x=false) xs.length ⟨0,cY _,rfl,rfl,aU.refl _ _,by simp⟩ ?_;rintro c t w1 ⟨i,hi,rfl,rfl,k1,hn⟩ X hX;dsimp only;refine aI (λcD=>?_) (λkF=>?_)
 ·have dL:i<xs.length:=aB;have cI:=cL dL;have gG:=oF dL;have sZ:=oH dL;generalize xs[i]=x at*;obtain⟨q,hq,hc⟩:=bR (k:=.i) (e:=λx=>x) (hs.aK k1 cU λ_ _=>id) cI;rw[dU];refine⟨⟨aB,cD⟩,aA hq (aE (k:=.i) x hc ?_)⟩;refine hf x w1 _ (jg _ _ hC k1) gG λw2 k2=>⟨p x,rfl,?_⟩;refine aF (λhp=>hQ _ w2 (k1.tr k2) ⟨λ_=>⟨x,gG,hp⟩,λ_=>aB⟩) (λhp=>?_);rw[pI i aB];refine hX _ _ _ aB ⟨i+1,dL,rfl,rfl,k1.tr k2,λy hy=>?_⟩;rw[sZ] at hy;rcases kK.1 hy with hy|hy
  ·exact hn y hy
  ·have:y=x:=by simpa using hy
   rw[this];exact hp
 ·have ei:i=xs.length:=aB;subst ei;rw[oV] at hn;exact hQ (-1) w1 k1 ⟨λh=>aB,λ⟨x,hx,hp⟩=>by rw[hn x hx] at hp;cases hp⟩
def OK{s:Sl}{xs:cR}{f:Value}{p:Int->Bool}{w:aH}{Q:Bool->aH->Prop}{C:aH->Prop}(hs:Rd w s 1 eI xs)(hl:xs.length<1000000)(hC:C w)(jg:∀w1 w2,C w1->aL w1 w2->C w2)
  (hf:∀x w1 (K:WQ Value),C w1->x∈xs->(∀w2,aL w1 w2->K (.bool (p x)) w2)->lX prog f [aD x] w1 K)
  (hQ:∀b w',aL w w'->(b=true↔∃x∈xs,p x=true)->Q b w'):dZ s f w Q:=by
 unfold dZ;exact IndexI_i hs hl hC jg hf λi w' k hi=>hQ _ w' k (by rw[<-hi];simp)
abbrev AT:=Sl×Int×Bool×Bool×Unit
abbrev WJ(a:AT):gJ:=[aW a.1,aD a.2.1,.bool a.2.2.1,.bool a.2.2.2.1]
def oz(a:AT):∀u∈WJ a,u.oneCell'=true:=by intro u hu;simp at hu;rcases hu with rfl|rfl|rfl|rfl<;>rfl
def yx{w:aH}{b:Nat}{e:fL}{a:AT}(h:cX w b e (WJ a)):bQ w ⟨b,0,none⟩ 0 (rJ [.slice,.i,.bool,.bool] a):=iW h
def Ml{w:aH}{g:Nat}{e:fL}{x y z u:Value}(h:cX w g e [x,y,z,u]):w.cell? ((⟨g,0,none⟩:Addr).add 0)=some x/\w.cell? ((⟨g,0,none⟩:Addr).add 1)=some y/\w.cell? ((⟨g,0,none⟩:Addr).add 2)=some z/\w.cell? ((⟨g,0,none⟩:Addr).add 3)=some u:=by
 refine⟨?_,?_,?_,?_⟩<;>rw[aS,h.cell]<;>rfl
def ansEnd{T:fL}{w:aH}{b:Nat}{a:AT}{Q:AT->aH->Prop}(hT:(prog.info? T).map (·.size)=some 4)(h:cX w b T (WJ a))(hQ:∀w',cX w' b T (WJ a)->aU (λk=>k=b) w w'->Q a w'):
  fI [.slice,.i,.bool,.bool] w ⟨b,0,none⟩ λ(t1:AT)=>aJ prog T ⟨b,0,none⟩ (Value.agg #[(Value.slice t1.1.b t1.1.l t1.1.c),(aD t1.2.1),(Value.bool t1.2.2.1),(Value.bool t1.2.2.2.1)]) w λw3=>
   fI [.slice,.i,.bool,.bool] w3 ⟨b,0,none⟩ λ(t2:AT)=>Q (t2.1,t2.2.1,t2.2.2.1,t2.2.2.2.1,()) w3:=by
 refine aZ (l:=[.slice,.i,.bool,.bool]) a (yx h) ?_;refine fJ (vs:=WJ a) h hT rfl (oz a) λw3 o3 m3 _=>?_;exact aZ (l:=[.slice,.i,.bool,.bool]) a (yx o3) (hQ w3 o3 m3)
def Way_i{E:qB}{G:Gr}{at_ node:Int}{dD:Sl}{c:rZ}{W:aH}{Q:AT->aH->Prop}(h:AL W E G)(hc:Rd W dD 1 eB c)
  (hQ:∀s wt f r l w',G.LP node at_ c l wt f r->dE w' dA 1 eI s l->(∀x∈l,G.mO x)->l.length<=51->aL W w'->(∀b,s.b=some b->W.heap.size<=b.block)->Q (s,wt,f,r,()) w'):NV (some ⟨E.e,0,none⟩) at_ node dD W Q:=by
 unfold NV;have ok:=h.TJ.JG.ok;have hm:=ok.m1;refine bG λw1 o1 k1 z1=>bG λw2 o2 k2 z2=>?_;have K2:=k1.tr k2;have o2':cX w2 w1.heap.size Ry (WJ (bD,0,false,false,())):=o2;have dX:∀w3,aL w2 w3->¬G.GR node->fI [.slice,.i,.bool,.bool] w3 ⟨w1.heap.size,0,none⟩ λ(t1:AT)=>aJ prog Ry ⟨w1.heap.size,0,none⟩ (Value.agg #[(Value.slice t1.1.b t1.1.l t1.1.c),(aD t1.2.1),(Value.bool t1.2.2.1),(Value.bool t1.2.2.2.1)]) w3 λw4=>
   fI [.slice,.i,.bool,.bool] w4 ⟨w1.heap.size,0,none⟩ λ(t2:AT)=>Q (t2.1,t2.2.1,t2.2.2.1,t2.2.2.2.1,()) w4:=λw3 k3 hn=>by
  refine ansEnd XN (o2'.aK k3 id) λw4 _ m4=>hQ _ _ _ _ [] w4 (.no λd hv=>absurd hv hn) (dE.nil _ _ _ _) dP dP ((K2.tr k3).fresh m4 λk e=>by rw[show k=w1.heap.size from e];omega) λb hb=>by cases hb
 refine aF (λh=>by simp at h) (λ_=>aI (λhn=>dX w2 (aU.refl _ _) λhv=>aB) (λhn0=>?_));have h2:=h.aO K2;refine aA rfl (aE (k:=.ptr) (some ⟨E.t.t,0,none⟩) h2.cells.1 (aA rfl (aE (k:=.ptr) (some ⟨E.t.H.g,0,none⟩) h2.TJ.cells.1 (PE h2.TJ.JG ?_))));refine aI (λhn=>dX w2 (aU.refl _ _) λhv=>aB) (λhn1=>?_);have hN:G.GR node:=⟨aB,aB⟩;have d2:aL w2 w2.drew:=aU.drew (aU.refl _ w2);have hd2:=h2.aO d2;refine aA rfl (aE (k:=.ptr) (some ⟨E.t.t,0,none⟩) hd2.cells.1 ?_);refine far_i hd2 λs1 d0 w7 hd0 v7 k7 f7 b7=>?_;have k27:=d2.tr k7;have h7:=h2.aO k27;refine⟨h7.cells.1,?_⟩;have hb7:∀(v:Nat) x,d0[v]? =some x->-1<=x/\x<=102*BW:=b7;have cO:∀w8 s2 b1 l0,dE w8 dA 1 eI s2 l0->(∀b,s2.b=some b->w7.heap.size<=b.block)->aL w7 w8->((b1=false/\l0=[]/\∀d,¬G.gw [] node at_ d)\/(b1=true/\G.mO at_/\G.vT [] d0 at_ l0))->
   (aJ prog yW ((⟨w1.heap.size,0,none⟩:Addr).add 0) (Value.slice s2.b s2.l s2.c) w8 λw9=>aJ prog tK ((⟨w1.heap.size,0,none⟩:Addr).add 2) (Value.bool b1) w9 λfG=>
    ∀J1:(Unit)->aH->Prop,(∀(t7:Unit) (eQ:aH),(aC (some ⟨E.e,0,none⟩) λa6=>ZA .ptr eQ.drew (a6.add 0) λ(p4:cW)=>ZA .slice eQ.drew ((⟨w1.heap.size,0,none⟩:Addr).add 0) λ(s3:Sl)=>qH p4 s3 eQ.drew λ(x2:Int) (_:Bool) eO=>
     aJ prog dA ((⟨w1.heap.size,0,none⟩:Addr).add 1) (aD x2) eO λiE=>fI [.slice,.i,.bool,.bool] iE ⟨w1.heap.size,0,none⟩ λ(t8:AT)=>aJ prog Ry ⟨w1.heap.size,0,none⟩ (Value.agg #[(Value.slice t8.1.b t8.1.l t8.1.c),(aD t8.2.1),(Value.bool t8.2.2.1),(Value.bool t8.2.2.2.1)]) iE λmX=>
     fI [.slice,.i,.bool,.bool] mX ⟨w1.heap.size,0,none⟩ λ(t9:AT)=>Q (t9.1,t9.2.1,t9.2.2.1,t9.2.2.2.1,()) mX)->J1 t7 eQ)->
    ZA .slice fG ((⟨w1.heap.size,0,none⟩:Addr).add 0) λ(s4:Sl)=>dZ s4 (Value.func (.func Uz) #[] #[(Value.pointer (some ⟨W.heap.size,0,none⟩))]) fG λ(b3:Bool) gB=>
    cond b3 (aC (some ⟨E.e,0,none⟩) λa7=>ZA .ptr gB.drew (a7.add 0) λ(p5:cW)=>aC (some ⟨E.e,0,none⟩) λa8=>ZA .ptr gB.drew (a8.add 0) λ(p6:cW)=>ZA .slice gB.drew ⟨W.heap.size,0,none⟩ λ(s5:Sl)=>ZA .slice gB.drew ⟨W.heap.size,0,none⟩ λ(s6:Sl)=>
     IS p6 node s5 gB.drew λ(s7:Sl) jU=>jU.cell? ⟨W.heap.size,0,none⟩=some (Value.slice s6.b s6.l s6.c)/\jU.cell? (a7.add 0)=some (Value.pointer p5)/\qJ p5 at_ s7 s6 jU λ(s8:Sl) (b4:Bool) mG=>
     aJ prog yW ((⟨w1.heap.size,0,none⟩:Addr).add 0) (Value.slice s8.b s8.l s8.c) mG λqE=>aJ prog tK ((⟨w1.heap.size,0,none⟩:Addr).add 2) (Value.bool b4) qE λqS=>ZA .bool qS ((⟨w1.heap.size,0,none⟩:Addr).add 2) λ(b5:Bool)=>
     aJ prog tK ((⟨w1.heap.size,0,none⟩:Addr).add 3) (Value.bool b5) qS λCG=>J1 (()) CG) (J1 (()) gB)):=by
  intro w8 s2 b1 l0 v8 f8 k8 Hv;have lit:∀k,((⟨w1.heap.size,0,none⟩:Addr).add k)=⟨w1.heap.size,k,none⟩:=λk=>by rw[aS,gK]
  have z27:=k27.size;have o8:=(o2'.aK k27 id).aK k8 id;have K8:=K2.tr (k27.tr k8);rw[lit 0,lit 1,lit 2,lit 3];refine cJ (o:=0) (v:=aW s2) o8 pE dP rfl rfl λw9 o9 m9 z9=>?_;refine cJ (o:=2) (v:=.bool b1) o9 jG dP rfl rfl λfG De VQ z10=>?_;have o10':cX fG w1.heap.size Ry (WJ (s2,0,b1,false,())):=De;have up:∀{wx wy:aH},aL W wx->aU (λk=>k=w1.heap.size) wx wy->aL W wy:=λkx m=>kx.fresh m λk e=>by rw[show k=w1.heap.size from e];omega
  have Ol:=up (up K8 m9) VQ;have nb:∀b,s2.b=some b->b.block≠w1.heap.size:=λb hb=>by have:=f8 b hb;omega
  have v10:=(v8.aK m9 λb hb e=>nb b hb e).aK VQ λb hb e=>nb b hb e;have oc:∀{wx:aH},aL w1 wx->wx.cell? ⟨W.heap.size,0,none⟩=some (aW dD):=λkx=>by
   have:=(o1.aK kx id);rw[this.cell];rfl
  have k1up:∀{wx wy:aH},aL w1 wx->aU (λk=>k=w1.heap.size) wx wy->aL w1 wy:=λkx m=>kx.fresh m λk e=>by rw[show k=w1.heap.size from e];exact dN _
  have k1_10:=k1up (k1up (k2.tr (k27.tr k8)) m9) VQ;intro J hJ;have tJ:∀eQ s l f r,cX eQ w1.heap.size Ry (WJ (s,0,f,r,()))->dE eQ dA 1 eI s l->(∀x∈l,G.mO x)->l.length<=51->G.LP node at_ c l (G.oP l) f r->aL W eQ->(∀b,s.b=some b->W.heap.size<=b.block/\b.block≠w1.heap.size)->J () eQ:=by intro eQ s l f r o11 v11 hE hl hA K11 hf;apply hJ;have d11:aL eQ eQ.drew:=aU.drew (aU.refl _ eQ);have Rq:=h.aO (K11.tr d11);have od:=o11.aK d11 id;refine aA rfl (aE (k:=.ptr) (some ⟨E.t.t,0,none⟩) Rq.cells.1 ?_);have c0:=(Ml od).1;rw[lit 0] at c0;refine aE (k:=.slice) s c0 ?_;refine ai Rq.TJ ((v11.aK d11 λ_ _=>id).rd eY) aB hE λeO GQ=>?_;refine cJ (o:=1) (v:=aD (G.oP l)) (od.aK GQ id) cV dP rfl rfl λiE o13 jy z13=>?_;have o13':cX iE w1.heap.size Ry (WJ (s,G.oP l,f,r,())):=o13;refine ansEnd XN o13' λmX _ ZF=>?_;have v14:=(((v11.aK d11 λ_ _=>id).aK GQ λ_ _=>id).aK jy λb hb e=>(hf b hb).2 e).aK ZF λb hb e=>(hf b hb).2 e;exact hQ s _ f r l mX hA v14 hE hl (up (up ((K11.tr d11).tr GQ) jy) ZF) λb hb=>(hf b hb).1
  have gL:l0.length<=51/\∀x∈l0,G.mO x:=by
   rcases Hv with⟨_,rfl,_⟩|⟨_,_,hl⟩
   ·exact⟨by simp,by simp⟩
   ·have:=hl.len ok;exact⟨aB,λx hx=>((hl.EM ok).2.2.1 x hx).1⟩
  have c0:=(Ml o10').1;rw[lit 0] at c0;refine aE (k:=.slice) s2 c0 ?_;refine OK (p:=kV c) (C:=λwx=>aL fG wx) (v10.rd eY) aB (aU.refl _ _) (λ_ _ a b=>a.tr b) (λx wx K hCx hx hK=>?_) λb3 gB En kr=>?_
  ·refine pU fg iZ (gV (ks:=[.i,.c .ptr]) (t:=(x,some ⟨W.heap.size,0,none⟩,())) ?_);show FK _ _ _ _;unfold FK;have hxE:=gL.2 x hx;have hcx:=hc.aK (Ol.tr hCx) CR λ_ _=>id;have hcl:=hcx.len;have occ:=oc (k1_10.tr hCx);refine aA rfl (aE (k:=.slice) dD occ (aI (λcD=>aA rfl (aE (k:=.slice) dD occ ?_)) (λkF=>?_)))
   ·obtain⟨p,hp,hcp⟩:=bR (k:=.bool) (e:=λx=>x) hcx (PG hxE.1 aB);exact⟨⟨hxE.1,cD⟩,aA hp (aE (k:=.bool) (kV c x) hcp (hK wx (aU.refl _ _)))⟩
   ·have:=hK wx (aU.refl _ _);rw[XO aB] at this;exact this
  have K15:=Ol.tr En;refine aF (λhb=>?_) (λhb=>?_)
  ·obtain⟨xs,hxs,hsx⟩:=kr.1 hb;obtain⟨hE,hl0⟩:G.mO at_/\G.vT [] d0 at_ l0:=by
    rcases Hv with⟨_,rfl,_⟩|⟨_,hh⟩
    ·cases hxs
    ·exact hh
   have d15:aL gB gB.drew:=aU.drew (aU.refl _ gB);have h15:=h.aO (K15.tr d15);have occ:=oc ((k1_10.tr En).tr d15);refine aA rfl (aE (k:=.ptr) (some ⟨E.t.t,0,none⟩) h15.cells.1 (aA rfl (aE (k:=.ptr) (some ⟨E.t.t,0,none⟩) h15.cells.1 (aE (k:=.slice) dD occ (aE (k:=.slice) dD occ ?_)))));refine To_i h15.TJ hN (hc.aK (K15.tr d15) CR λ_ _=>id) λs7 d1 jU hd1 v16 Oe f16 b16=>?_;have K16:=(K15.tr d15).tr Oe;have h16:=h.aO K16;have k1_16:=((k1_10.tr En).tr d15).tr Oe;have o16:=((o10'.aK En id).aK d15 id).aK Oe id;have z16:=k1_16.size;refine⟨oc k1_16,h16.cells.1,?_⟩;have tail:∀mG s8 b4 l1,dE mG dA 1 eI s8 l1->(∀b,s8.b=some b->jU.heap.size<=b.block)->aL jU mG->(∀x∈l1,G.mO x)->l1.length<=51->G.LP node at_ c l1 (G.oP l1) b4 b4->
     aJ prog yW ⟨w1.heap.size,0,none⟩ (Value.slice s8.b s8.l s8.c) mG λqE=>aJ prog tK ⟨w1.heap.size,2,none⟩ (Value.bool b4) qE λqS=>ZA .bool qS ⟨w1.heap.size,2,none⟩ λ(b5:Bool)=>aJ prog tK ⟨w1.heap.size,3,none⟩ (Value.bool b5) qS λCG=>J (()) CG:=by
    intro mG s8 b4 l1 v17 f17 Od hE1 Og hA;have nb8:∀b,s8.b=some b->b.block≠w1.heap.size:=λb hb=>by have:=f17 b hb;have:=o16.lt;omega
    refine cJ (o:=0) (v:=aW s8) (o16.aK Od id) pE dP rfl rfl λqE o18 m18 _=>?_;refine cJ (o:=2) (v:=.bool b4) o18 jG dP rfl rfl λqS o19 m19 _=>?_;have o19':cX qS w1.heap.size Ry (WJ (s8,0,b4,false,())):=o19;have c2:=(Ml o19').2.2.1;rw[lit 2] at c2;refine aE (k:=.bool) b4 c2 ?_;refine cJ (o:=3) (v:=.bool b4) o19' jG dP rfl rfl λCG o20 m20 _=>?_;refine tJ CG s8 l1 b4 b4 o20 (((v17.aK m18 λb hb e=>nb8 b hb e).aK m19 λb hb e=>nb8 b hb e).aK m20 λb hb e=>nb8 b hb e) hE1 Og hA (up (up (up (K16.tr Od) m18) m19) m20) λb hb=>⟨?_,nb8 b hb⟩;have:=f17 b hb;have:=K16.size;omega
   refine aAp h16.TJ hd1 (v16.rd eY) (hc.aK K16 CR λ_ _=>id) (λv x hx=>by have:=b16 v x hx;simp only[BW] at*;omega) (λqU=>?_) λl1 s8 mG _ h0 Og v17 Od f17=>?_
   ·refine tail jU _ false [] (dE.nil _ _ _ _) (λb hb=>by cases hb) (aU.refl _ _) dP dP (.no λd _ hg=>qU ⟨hE,(ok.xO hd1 hg).1⟩)
   ·have:=Og.len ok;exact tail mG s8 true l1 v17 f17 Od (λx hx=>((Og.EM ok).2.2.1 x hx).1) aB (.pL hN hE hd0 hd1 hl0 ⟨xs,hxs,hsx⟩ Og)
  ·have qU:∀x∈l0,kV c x=false:=λx hx=>by
    cases hs:kV c x with
    |false=>rfl
    |true=>have:=kr.2 ⟨x,hx,hs⟩;rw[hb] at this;cases this
   refine tJ gB s2 l0 b1 false (o10'.aK En id) (v10.aK En λ_ _=>id) gL.2 gL.1 ?_ K15 λb hb=>⟨by have:=f8 b hb;have:=K2.size;omega,nb b hb⟩;rcases Hv with⟨rfl,rfl,hng⟩|⟨rfl,hE,hl0⟩
   ·exact .no λd _ hg=>hng d (G.Uf hg)
   ·exact .near hN hE hd0 hl0 qU
 refine aAp (c:=[]) h7.TJ hd0 (v7.rd eY) (Rd.nil _ _ _) (λv x hx=>?_) (λqU=>?_) λl s2 w8 hE h0 hl v8 k8 f8=>?_
 ·exact hb7 v x hx
 ·refine cO w7 bD false [] (dE.nil _ _ _ _) (λb hb=>by cases hb) (aU.refl _ _) (.inl ⟨rfl,rfl,λd hg=>qU ⟨(ok.Ih hg).1,(ok.xO hd0 hg).1⟩⟩)
 ·exact cO w8 s2 true l v8 f8 k8 (.inr ⟨rfl,hE,hl⟩)
section
abbrev eSe(e:Nat)(p:zZ)(sl:Sl):gJ:=[.pointer (some ⟨e,0,none⟩),aD p.pos,aD p.node,aW sl,.bool p.dI,.bool p.iA]
structure jM(F:Nat->Prop)(W0 w:aH)(s:Nat)(E:qB)(G:Gr)(p:zZ):Prop where
 jl:AL W0 E G
 k0:aL W0 w
 lo:W0.heap.size<=s
 gZ:∃sl,cX w s Xy (eSe E.e p sl)/\Rd w sl 1 eI p.jZ/\∀b,sl.b=some b->¬F b.block/\b.block<w.heap.size
 fs:F s
section
variable{F F':Nat->Prop}{W0 w w':aH}{s:Nat}{E:qB}{G:Gr}{p:zZ}
def jM.e(h:jM F W0 w s E G p):AL w E G:=h.jl.aO h.k0
def jM.aK{M:Nat->Prop}(h:jM F W0 w s E G p)(m:aU M w w')(hM:∀k,M k->k≠s/\(F k\/w.heap.size<=k)/\W0.heap.size<=k):jM F W0 w' s E G p:=by
 obtain⟨sl,h1,h2,h3⟩:=h.gZ;refine⟨h.jl,h.k0.fresh m λk hk=>(hM k hk).2.2,h.lo,⟨sl,h1.aK m λhs=>(hM s hs).1 rfl,h2.aK m cU λb hb hm=>?_,λb hb=>⟨(h3 b hb).1,pP (h3 b hb).2 m.size⟩⟩,h.fs⟩;rcases(hM _ hm).2.1 with hf|hf
 ·exact(h3 b hb).1 hf
 ·have:=(h3 b hb).2;omega
def jM.aO(h:jM F W0 w s E G p)(k:aL w w'):jM F W0 w' s E G p:=h.aK k λ_ hk=>hk.elim
def jM.TR(h:jM F W0 w s E G p)(hF:∀k,F' k->F k\/w.heap.size<=k)(hs:F' s):jM F' W0 w s E G p:=by
 obtain⟨sl,h1,h2,h3⟩:=h.gZ;refine⟨h.jl,h.k0,h.lo,⟨sl,h1,h2,λb hb=>⟨λhf=>?_,(h3 b hb).2⟩⟩,hs⟩;rcases hF _ hf with hf|hf
 ·exact(h3 b hb).1 hf
 ·have:=(h3 b hb).2;omega
def jM.lt(h:jM F W0 w s E G p):s<w.heap.size:=by obtain⟨sl,h1,_⟩:=h.gZ;exact h1.lt
def jM.put{sl:Sl}{q:zZ}(h:jM F W0 w s E G p)(m:aU (λk=>k=s) w w')(o:cX w' s Xy (eSe E.e q sl))(hr:Rd w' sl 1 eI q.jZ)(hb:∀b,sl.b=some b->¬F b.block/\b.block<w'.heap.size):jM F W0 w' s E G q:=
 ⟨h.jl,h.k0.fresh m λk e=>by rw[show k=s from e];exact h.lo,h.lo,⟨sl,o,hr,hb⟩,h.fs⟩
def jM.cell(h:jM F W0 w s E G p):w.cell? ((⟨s,0,none⟩:Addr).add 0)=some (.pointer (some ⟨E.e,0,none⟩))/\w.cell? ((⟨s,0,none⟩:Addr).add 1)=some (aD p.pos)/\w.cell? ((⟨s,0,none⟩:Addr).add 2)=some (aD p.node)/\
  w.cell? ((⟨s,0,none⟩:Addr).add 4)=some (.bool p.dI)/\w.cell? ((⟨s,0,none⟩:Addr).add 5)=some (.bool p.iA)/\
  ∃sl,cX w s Xy (eSe E.e p sl)/\w.cell? ((⟨s,0,none⟩:Addr).add 3)=some (aW sl)/\Rd w sl 1 eI p.jZ/\∀b,sl.b=some b->¬F b.block/\b.block<w.heap.size:=by
 obtain⟨sl,h1,h2,h3⟩:=h.gZ;exact⟨dR h1 rfl,dR h1 rfl,dR h1 rfl,dR h1 rfl,dR h1 rfl,sl,h1,dR h1 rfl,h2,h3⟩
def Done_i{Q:Bool->aH->Prop}(h:jM F W0 w s E G p)(hQ:Q p.iA w):II (some ⟨s,0,none⟩) w Q:=by
 unfold II;exact aF (λh=>by simp at h) (λ_=>aA rfl (aE (k:=.bool) p.iA h.cell.2.2.2.2.1 hQ))
def Ff{Q:Sl->aH->Prop}(h:jM F W0 w s E G p)(ok:VL G p)(hh:p.dI=true)(hQ:∀ms w',jM F W0 w' s E G (kX G p).1->fU w' (λk=>w.heap.size<=k) ms (kX G p).2->(kX G p).2.length=1->aU (λk=>k=s) w w'->Q ms w'):
  xV (some ⟨s,0,none⟩) w Q:=by
 unfold xV;intro J1 OV;have slt:=h.lt;have tJ:∀a w1,w1.cell? (a.add 1)=some (aD (G.to p.pos))->aL w w1->J1 (some a,()) w1:=by
  intro a w1 c1 k1;apply OV;have d1:aL w1 w1.drew:=aU.drew (aU.refl _ w1);have hd:=h.aO (k1.tr d1);refine aA rfl (aE (k:=.i) (G.to p.pos) (d1.cell c1 id) (aA rfl (aE (k:=.i) p.node hd.cell.2.2.1 ?_)));refine aF (λhe=>?_) (λgQ=>?_)
  ·have vI:G.to p.pos=p.node:=by simpa using he
   obtain⟨sl,o,hr,hb⟩:=hd.gZ;refine aA rfl ?_;rw[aS,gK];refine cJ (o:=5) (v:=.bool true) o jG dP rfl rfl λw2 o2 m2 z2=>?_;have h2:jM F W0 w2 s E G {p with iA:=true}:=hd.put m2 o2 (hr.aK m2 cU λb bW e=>(hb b bW).1 (by rw[show b.block=s from e];exact h.fs)) λb bW=>⟨(hb b bW).1,by rw[z2];exact(hb b bW).2⟩;refine bG λw3 o3 k3 z3=>?_;have e:kX G p=({p with iA:=true},[XU]):=by unfold kX;rw[if_pos vI]
   rw[e] at hQ;have M2:aU (λk=>k=s) w w2:=(aL.aK (k1.tr d1)).tr m2;have z:=M2.size;exact hQ _ w3 (h2.aO k3) (fU.one (x:=(XU,bD)) o3 (HF.none rfl) z) rfl (M2.tr k3.wk)
  ·have ZO:¬G.to p.pos=p.node:=by simpa using gQ
   have e:kX G p=(p,[LJ (G.eZ p.pos p.jZ)]):=by unfold kX;rw[if_neg ZO]
   rw[e] at hQ;have d2:aL w1 w1.drew.drew:=d1.tr (aU.drew (aU.refl _ _));have h2:=h.aO (k1.tr d2);obtain⟨c0,c1',_,_,_,sl,_,c3,hr,_⟩:=h2.cell;have he2:=h2.e;refine aA rfl (aE (k:=.ptr) (some ⟨E.e,0,none⟩) c0 (aA rfl (aE (k:=.ptr) (some ⟨E.t.t,0,none⟩) he2.cells.1 (aA rfl (aE (k:=.i) p.pos c1' (aA rfl (aE (k:=.slice) sl c3 ?_)))))));have len:=ok.len;refine⟨?_,?_⟩
   ·refine Hint_i he2.TJ ok.pos (ok.Gn hh) hr aB λw4 k4=>?_;refine fM (vs:=eH (G.eZ p.pos p.jZ)) BY rfl (oneH _) λw6 o6 k6 _=>?_;refine aZ (l:=[.i,.i,.i,.i]) (Sp (G.eZ p.pos p.jZ)) (Oq o6) ?_;refine bG λw7 o7 k7 z7=>?_;have K6:=((k1.tr d2).tr k4).tr k6;exact hQ _ w7 (h.aO (K6.tr k7)) (fU.one (x:=(LJ (G.eZ p.pos p.jZ),bD)) o7 (HF.none rfl) K6.size) rfl (K6.tr k7).wk
   ·refine bG λw8 o8 k8 z8=>?_;have o8':cX w8 w1.drew.drew.heap.size Hm (eH ⟨0,0,0,0⟩):=o8;refine⟨k8.cell c3 id,k8.cell c1' id,k8.cell he2.cells.1 id,k8.cell c0 id,?_⟩;refine Hint_i (he2.aO k8).TJ ok.pos (ok.Gn hh) (hr.aK k8 cU λ_ _=>id) aB λw9 k9=>?_;refine fJ (vs:=eH (G.eZ p.pos p.jZ)) (o8'.aK k9 id) BY rfl (oneH _) λfG De VQ _=>?_;refine aZ (l:=[.i,.i,.i,.i]) (Sp (G.eZ p.pos p.jZ)) (Oq De) ?_;refine bG λeQ o11 LR z11=>?_;have K2:=k1.tr d2;have Ol:aL w fG:=((K2.tr k8).tr k9).fresh VQ λk e=>by rw[show k=w1.drew.drew.heap.size from e];exact K2.size
    exact hQ _ eQ (h.aO (Ol.tr LR)) (fU.one (x:=(LJ (G.eZ p.pos p.jZ),bD)) o11 (HF.none rfl) Ol.size) rfl (Ol.tr LR).wk
 have d:aL w w.drew:=aU.drew (aU.refl _ w);have hd:=h.aO d;have ed:=hd.e;obtain⟨c0,c1',_⟩:=hd.cell;refine aA rfl (aE (k:=.ptr) (some ⟨E.e,0,none⟩) c0 (aA rfl (aE (k:=.ptr) (some ⟨E.t.t,0,none⟩) ed.cells.1 (aA rfl (aE (k:=.ptr) (some ⟨E.t.H.g,0,none⟩) ed.TJ.cells.1 (aA rfl (aE (k:=.i) p.pos c1' ?_)))))));refine⟨?_,?_⟩
 ·refine KE ed.TJ.JG (λ_ w2 k2=>?_) (λhn=>absurd ok.pos hn);refine fM (vs:=[aD (G.fr p.pos),aD (G.to p.pos),aD (G.wt p.pos)]) jV rfl (by simp[Value.oneCell']) λw3 o3 k3 z3=>?_;exact tJ _ w3 (qM o3).2.1 ((d.tr k2).tr k3)
 ·refine bG λw2 o2 k2 z2=>?_;have o2':cX w2 w.drew.heap.size RE [aD 0,aD 0,aD 0]:=o2;refine⟨k2.cell c1' id,k2.cell ed.TJ.cells.1 id,k2.cell ed.cells.1 id,k2.cell c0 id,?_⟩;refine KE (ed.aO k2).TJ.JG (λ_ w3 k3=>?_) (λhn=>absurd ok.pos hn);refine fJ (vs:=[aD (G.fr p.pos),aD (G.to p.pos),aD (G.wt p.pos)]) (o2'.aK k3 id) jV rfl (by simp[Value.oneCell']) λw4 o4 m4 _=>?_;exact tJ _ w4 (qM o4).2.1 (((d.tr k2).tr k3).fresh m4 λk e=>by rw[show k=w.drew.heap.size from e];exact d.size)
end
end
section
section
variable{F:Nat->Prop}{W0 w:aH}{s:Nat}{E:qB}{G:Gr}{p:zZ}
def qb{dD:Sl}{c:rZ}{Q:Sl->aH->Prop}(h:jM F W0 w s E G p)(hp:G.mO p.pos)(hn:G.GR p.node)(hc:Rd w dD 1 eB c)(hF:∀k,F k->k<w.heap.size)
  (hQ:∀z ms w',DX G c p z->jM F W0 w' s E G z.1->VL G z.1->fU w' (λk=>w.heap.size<=k) ms z.2->z.2.length<=2/\1<=z.2.length->aU (λk=>k=s) w w'->Q ms w'):
  xW (some ⟨s,0,none⟩) dD w Q:=by
 unfold xW;have ok:=h.jl.TJ.JG.ok;have slt:=h.lt;intro J1 OV;have lit:∀b k:Nat,((⟨b,0,none⟩:Addr).add k)=⟨b,k,none⟩:=λb k=>by rw[aS,gK]
 have tJ:∀b w1 (sl:Sl) wt f r l,cX w1 b Ry (WJ (sl,wt,f,r,()))->w.heap.size<=b->G.LP p.node p.pos c l wt f r->dE w1 dA 1 eI sl l->l.length<=51->(∀a,sl.b=some a->w.heap.size<=a.block)->aL w w1->J1 (some ⟨b,0,none⟩,()) w1:=by
  intro b w1 sl wt f r l o1 hb hA v1 hl f1 k1;apply OV;have d1:aL w1 w1.drew:=aU.drew (aU.refl _ w1);have K1:=k1.tr d1;have hd:=h.aO K1;have od:=o1.aK d1 id;have vd:=v1.aK d1 λ_ _=>id;have cd:=Ml od;refine aA rfl (aE (k:=.slice) sl cd.1 (aA rfl (aE (k:=.bool) f cd.2.2.1 ?_)));obtain⟨sl0,o,hr,hb0⟩:=hd.gZ;refine aA rfl ?_;rw[lit s 3];refine cJ (o:=3) (v:=aW sl) o pE dP rfl rfl λw2 o2 m2 z2=>?_;have bs:b≠s:=aB;have od2:=od.aK m2 bs;refine⟨(Ml od2).2.2.1,?_⟩;refine aA rfl ?_;rw[lit s 4];refine cJ (o:=4) (v:=.bool f) o2 jG dP rfl rfl λw3 o3 m3 z3=>?_;have od3:=od2.aK m3 bs;have ns:∀a,sl.b=some a->¬a.block=s:=λa ha e=>by have:=f1 a ha;omega
  have v3:=(vd.aK m2 ns).aK m3 ns;have M3:aU (λk=>k=s) w w3:=(K1.wk.tr m2).tr m3;have h3:jM F W0 w3 s E G {p with jZ:=l,dI:=f}:=hd.put (m2.tr m3) o3 (v3.rd eY) λa ha=>⟨λhf=>by have:=f1 a ha;have:=hF _ hf;omega,v3.lt ha⟩;refine aA rfl (aE (k:=.bool) f (Ml od3).2.2.1 ?_);refine aF (λhf=>?_) (λhf=>?_)
  ·have ZC:f=false:=by simpa using hf
   refine bG λw4 o4 k4 z4=>?_;subst ZC;have e:QV G p l wt false=({p with jZ:=l,dI:=false},[wI]):=by unfold QV;rw[if_neg dP]
   have hz:DX G c p ({p with jZ:=l,dI:=false},[wI]):=⟨l,wt,false,r,hA,e.symm⟩;have oS:=(ask_ok ok hp hn hA).1;rw[e] at oS;exact hQ _ _ w4 hz (h3.aO k4) oS (fU.one (x:=(wI,bD)) o4 (HF.none rfl) M3.size) dP (M3.tr k4.wk)
  ·have ZC:f=true:=by simpa using hf
   subst ZC;have oS:=(ask_ok ok hp hn hA).2 rfl;have e:QV G p l wt true=((kX G {p with jZ:=l,dI:=true}).1,pS l wt::(kX G {p with jZ:=l,dI:=true}).2):=by unfold QV;rw[if_pos rfl]
   have hz:DX G c p ((kX G {p with jZ:=l,dI:=true}).1,pS l wt::(kX G {p with jZ:=l,dI:=true}).2):=⟨l,wt,true,r,hA,e.symm⟩;have d3:aL w3 w3.drew:=aU.drew (aU.refl _ w3);have odd:=od3.aK d3 id;have Ma:=h3.aO d3;have M3d:=M3.tr d3.wk;have zz:=M3d.size;refine aA rfl (aE (k:=.slice) sl (Ml odd).1 (aA rfl (aE (k:=.i) wt (Ml odd).2.1 ?_)));refine IA ((v3.aK d3 λ_ _=>id).rd eY) aB λs3 w5 v5 k5 f5=>?_;have o5:=odd.aK k5 id;refine⟨(Ml o5).2.1,?_⟩;have h5:=Ma.aO k5;have M5:=M3d.tr k5.wk;have z5:=k5.size;have hOk5:VL G (kX G {p with jZ:=l,dI:=true}).1:=oS.kX;have mx:∀{wx:aH} (g:Nat),aU (λk=>k=s) w5 wx->w5.heap.size<=g->HF wx (λk=>w.heap.size<=k/\k≠g) (pS l wt,s3):=λg kx hg=>by
    have vx:=v5.aK kx λa ha e=>by have:=f5 a ha;have e':a.block=s:=e;omega
    exact⟨vx.rd eY,λa ha=>⟨⟨by have:=f5 a ha;omega,by have:=v5.lt ha;omega⟩,vx.lt ha⟩,hl⟩
   have W0le:=h.k0.size;have g5:w5.heap.size≠s:=by have:=M5.size;omega
   refine⟨?_,?_⟩
   ·refine bG λw6 o6 k6 z6=>?_;have h5g:jM (λk=>F k\/k=w5.heap.size) W0 w5 s E G {p with jZ:=l,dI:=true}:=h5.TR (λk hk=>hk.elim .inl (λe=>.inr aB)) (.inl h5.fs);refine Ff (h5g.aO k6) oS rfl λms w7 h7 q7 hl7 m7=>?_;have z7:=m7.size;refine Jb (x:=(pS l wt,s3)) (P:=λk=>w.heap.size<=k) (o6.aK m7 g5) (mx w5.heap.size (k6.wk.tr m7) (dN _)) aB (λk hk=>aB) (q7.wk λk hk _=>⟨aB,aB⟩) aB λr' w8 q8 m8=>?_;refine hQ _ _ w8 hz ((h7.aK m8 λk hk=>⟨aB,.inl (.inr hk),aB⟩).TR (λk hk=>.inl (.inl hk)) h.fs) hOk5 q8 ⟨by simp[hl7],by simp⟩ ((M5.tr (k6.wk.tr m7)).trans m8 λk hk e=>aB)
   ·refine Ff h5 oS rfl λms w9 h9 q9 hl9 m9=>?_;have z9:=m9.size;refine⟨(Ml (o5.aK m9 bs)).2.1,?_⟩;refine bG λfG De JE z10=>?_;have h9g:jM (λk=>F k\/k=w9.heap.size) W0 w9 s E G (kX G {p with jZ:=l,dI:=true}).1:=h9.TR (λk hk=>hk.elim .inl (λe=>.inr aB)) (.inl h9.fs);have q9':fU w9 (λk=>w.heap.size<=k/\k≠w9.heap.size) ms (kX G {p with jZ:=l,dI:=true}).2:=q9.wk λk hk cD=>⟨aB,aB⟩;refine Jb (x:=(pS l wt,s3)) (P:=λk=>w.heap.size<=k) De (mx w9.heap.size (m9.tr JE.wk) z9) aB (λk hk=>aB) (q9'.aO JE) aB λr' eQ q11 Lv=>?_;refine hQ _ _ eQ hz (((h9g.aO JE).aK Lv λk hk=>⟨aB,.inl (.inr hk),aB⟩).TR (λk hk=>.inl (.inl hk)) h.fs) hOk5 q11 ⟨by simp[hl9],by simp⟩ (((M5.tr m9).tr JE.wk).trans Lv λk hk e=>aB)
 have d:aL w w.drew:=aU.drew (aU.refl _ w);have hd:=h.aO d;obtain⟨c0,c1,c2,_⟩:=hd.cell;have hcd:=hc.aK d CR λ_ _=>id;refine aA rfl (aE (k:=.ptr) (some ⟨E.e,0,none⟩) c0 (aA rfl (aE (k:=.i) p.pos c1 (aA rfl (aE (k:=.i) p.node c2 ?_)))));refine⟨?_,?_⟩
 ·refine Way_i hd.e hcd λsl wt f r l w1 hA v1 _ hl k1 f1=>?_;refine fM (vs:=WJ (sl,wt,f,r,())) XN rfl (oz _) λw2 o2 k2 z2=>?_;exact tJ _ w2 sl wt f r l o2 (by have:=k1.size;have:=d.size;omega) hA (v1.aK k2 λ_ _=>id) hl (λa ha=>by have:=f1 a ha;have:=d.size;omega) ((d.tr k1).tr k2)
 ·refine bG λw1 o1 k1 z1=>?_;have QJ:cX w1 w.drew.heap.size Ry (WJ (bD,0,false,false,())):=o1;refine⟨k1.cell c2 id,k1.cell c1 id,k1.cell c0 id,?_⟩;refine Way_i (hd.aO k1).e (hcd.aK k1 CR λ_ _=>id) λsl wt f r l w2 hA v2 _ hl k2 f2=>?_;refine fJ (vs:=WJ (sl,wt,f,r,())) (QJ.aK k2 id) XN rfl (oz _) λw3 o3 m3 _=>?_;have ds:=d.size;refine tJ _ w3 sl wt f r l o3 ds hA (v2.aK m3 λa ha e=>?_) hl (λa ha=>by have:=f2 a ha;omega) (((d.tr k1).tr k2).fresh m3 λk e=>by rw[show k=w.drew.heap.size from e];exact ds);have:=f2 a ha;omega
end
end
section
abbrev Xd(a v:Int):zZ:=⟨a,v,[],false,false⟩
def SNew_i{E:qB}{G:Gr}{at_ node:Int}{dD:Sl}{c:rZ}{W:aH}{Q:cW->Sl->Int->aH->Prop}(h:AL W E G)(hc:Rd W dD 1 eB c)
  (TY:¬(G.mO at_/\G.GR node)->Q none bD 1 W)
  (hQ:G.mO at_->G.GR node->∀z ms w',DX G c (Xd at_ node) z->jM (λk=>k<=W.heap.size) W w' W.heap.size E G z.1->VL G z.1->fU w' (λk=>W.heap.size<k) ms (jD::z.2)->z.2.length<=2/\1<=z.2.length->aL W w'->Q (some ⟨W.heap.size,0,none⟩) ms 0 w'):
  tQ (some ⟨E.e,0,none⟩) at_ node dD W Q:=by
 unfold tQ;refine aF (λh=>by simp at h) (λ_=>aI (λh0=>TY λhh=>by have:=hh.1.1;omega) (λh0=>?_));refine aA rfl (aE (k:=.ptr) (some ⟨E.t.t,0,none⟩) h.cells.1 (aA rfl (aE (k:=.ptr) (some ⟨E.t.H.g,0,none⟩) h.TJ.cells.1 (uB h.TJ.JG ?_))));refine aI (λh1=>TY λhh=>by have:=hh.1.2;omega) (λh1=>aI (λh2=>TY λhh=>by have:=hh.2.1;omega) (λh2=>?_));refine aA rfl (aE (k:=.ptr) (some ⟨E.t.t,0,none⟩) h.cells.1 (aA rfl (aE (k:=.ptr) (some ⟨E.t.H.g,0,none⟩) h.TJ.cells.1 (PE h.TJ.JG ?_))));refine aI (λh3=>TY λhh=>by have:=hh.2.2;omega) (λh3=>?_);have hE:G.mO at_:=⟨aB,aB⟩;have hN:G.GR node:=⟨aB,aB⟩;refine bG λw1 o1 k1 z1=>bG λw2 o2 k2 z2=>?_;have QJ:cX w1 W.heap.size Xy (eSe E.e (Xd at_ node) bD):=o1;have K2:=k1.tr k2;have h2:jM (λk=>k<=w1.heap.size) W w2 W.heap.size E G (Xd at_ node):=⟨h,K2,dN _,⟨bD,QJ.aK k2 id,Rd.nil _ _ _,λb hb=>by cases hb⟩,aB⟩;refine qb h2 hE hN (hc.aK K2 CR λ_ _=>id) (λk hk=>aB) λz ms w3 hz h3 ok3 q3 l3 m3=>?_;have z3:=m3.size;have g1:w1.heap.size≠W.heap.size:=aB;refine Jb (x:=(jD,bD)) (P:=λk=>W.heap.size<k) (o2.aK m3 g1) (HF.none rfl) aB (λk hk=>aB) (q3.wk λk hk _=>⟨aB,aB⟩) aB λr w4 q4 m4=>?_;exact hQ hE hN z r w4 hz ((h3.aK m4 λk hk=>⟨aB,.inl aB,aB⟩).TR (λk hk=>.inl aB) (dN _)) ok3 q4 l3 ((K2.fresh m3 λk e=>by rw[show k=W.heap.size from e];exact dN _).fresh m4 λk e=>by rw[show k=w1.heap.size from e];omega)
def slice_blk{b:cW}{c l n:Nat}{a:Addr}(h:aR b c l n=some a):∃a0,b=some a0/\a.block=a0.block:=by
 unfold aR at h
 split at h
 ·exact⟨a,h,rfl⟩
 ·cases b with
  |none=>cases h
  |some x=>cases h;exact⟨x,rfl,by simp⟩
section
variable{F:Nat->Prop}{W0 w:aH}{s:Nat}{E:qB}{G:Gr}{p:zZ}
def Report_i{pos:Int}{dD:Sl}{c:rZ}{Q:Sl->aH->Prop}(h:jM F W0 w s E G p)(ir:VL G p)(hc:Rd w dD 1 eB c)(Wh:∀b,dD.b=some b->b.block≠s)(hF:∀k,F k->k<w.heap.size)
  (hQ:∀z ms w',nj G c p pos z->jM F W0 w' s E G z.1->VL G z.1->fU w' (λk=>w.heap.size<=k) ms z.2->z.2.length<=2->aU (λk=>k=s) w w'->Q ms w'):
  zU (some ⟨s,0,none⟩) pos dD w Q:=by
 unfold zU;have lit:∀k:Nat,((⟨s,0,none⟩:Addr).add k)=⟨s,k,none⟩:=λk=>by rw[aS,gK]
 refine Done_i h (aF (λjb=>?_) (λjb=>?_))
 ·exact hQ (p,[]) _ w (by unfold nj;rw[if_pos jb]) h ir fU.nil dP (aU.refl _ _)
 have nov:¬p.iA=true:=by rw[jb];simp
 have he:=h.e;refine aA rfl (aE (k:=.ptr) (some ⟨E.e,0,none⟩) h.cell.1 (aA rfl (aE (k:=.ptr) (some ⟨E.t.t,0,none⟩) he.cells.1 (aA rfl (aE (k:=.ptr) (some ⟨E.t.H.g,0,none⟩) he.TJ.cells.1 ?_)))));refine KE he.TJ.JG (λhE w2 k2=>?_) (λhE w2 k2=>?_)
 ·refine fM (vs:=[aD (G.fr pos),aD (G.to pos),aD (G.wt pos)]) jV rfl (by simp[Value.oneCell']) λw4 o4 k4 z4=>?_;refine aF (λh=>by simp at h) (λ_=>?_);have K4:=k2.tr k4;have h4:=h.aO K4;intro J1 OV;have j1:¬(p.dI=true/\pos=p.pos)->¬(p.dI=true/\p.jZ.head? =some pos)->∀w6,aL w w6->J1 () w6:=by
   intro n1 n2 w6 k6;apply OV;obtain⟨sl,o,hr,hb⟩:=(h.aO k6).gZ;refine aA rfl ?_;rw[lit 1];refine cJ (o:=1) (v:=aD pos) o cV dP rfl rfl λw7 o7 m7 z7=>?_;have h7:jM F W0 w7 s E G {p with pos:=pos}:=(h.aO k6).put m7 o7 (hr.aK m7 cU λb bW e=>(hb b bW).1 (by rw[show b.block=s from e];exact h.fs)) λb bW=>⟨(hb b bW).1,by rw[z7];exact(hb b bW).2⟩;have s6:=k6.size;refine qb h7 hE ir.node ((hc.aK k6 CR λ_ _=>id).aK m7 CR λb bW e=>Wh b bW e) (λk hk=>by have:=hF k hk;omega) λz ms w8 hz h8 ok8 q8 l8 m8=>?_;refine hQ z ms w8 ?_ h8 ok8 (q8.wk λk hk _=>aB) l8.1 ((k6.wk.tr m7).tr m8);unfold nj;rw[if_neg nov,if_neg (by simpa using hE),if_neg n1,if_neg n2];exact hz
  intro J2 Rp;have j2:∀b:Bool,(b=true↔(p.dI=true/\pos=p.pos))->J2 (b,()) w4:=by
   intro b hb;apply Rp;refine aF (λhbt=>?_) (λhbf=>?_)
   ·have hh:=hb.1 hbt;refine Ff h4 ir hh.1 λms fG ZI q10 l10 VQ=>?_;refine hQ _ ms fG ?_ ZI ir.kX (q10.wk λk hk _=>by have:=K4.size;omega) aB (K4.wk.tr VQ);unfold nj;rw[if_neg nov,if_neg (by simpa using hE),if_pos hh]
   ·have n1:¬(p.dI=true/\pos=p.pos):=λhh=>by have hbf':b=false:=hbf;rw[hb.2 hh] at hbf';cases hbf'
    obtain⟨_,_,_,c4,_,sl,o,c3,hr,hbk⟩:=h4.cell;refine aA rfl (aE (k:=.bool) p.dI c4 (aF (λhh=>?_) (λhh=>j1 n1 (λg=>by rw[hh] at g;cases g.1) w4 K4)));have sll:=hr.len;refine aA rfl (aE (k:=.slice) sl c3 (aI (λcD=>?_) (λkF=>j1 n1 (λg=>?_) w4 K4)))
    ·cases hway:p.jZ with
     |nil=>rw[hway] at sll;simp at sll;omega
     |cons x cO=>
      rw[hway] at hr sll;obtain⟨a,ha,hx⟩:=bR (k:=.i) (e:=λx=>x) hr (show(x::cO)[0]? =some x from rfl);refine aA rfl (aE (k:=.slice) sl c3 ⟨⟨aB,aB⟩,aA ha (aE (k:=.i) x hx ?_)⟩);refine aF (λhpx=>?_) (λhpx=>j1 n1 (λg=>?_) w4 K4)
      ·have hpx':pos=x:=by simpa using hpx
       have d4:aL w4 w4.drew:=aU.drew (aU.refl _ w4);have h4d:=h4.aO d4;have od:=o.aK d4 id;refine aA rfl (aE (k:=.slice) sl (dR od rfl) ⟨⟨aB,aB⟩,aA rfl ?_⟩);rw[lit 1];refine cJ (o:=1) (v:=aD pos) od cV dP rfl rfl λw5 o5 m5 z5=>?_;refine aA rfl ?_;rw[lit 3]
       let VH:Sl:=⟨aR sl.b sl.c 1 1,sl.l-1,sl.c-1⟩
       refine cJ (o:=3) (v:=aW VH) o5 pE dP rfl rfl λw6 o6 m6 z6=>?_;have ns:∀b,sl.b=some b->¬b.block=s:=λb bW e=>(hbk b bW).1 (by rw[e];exact h.fs);have hr6:=((hr.aK d4 cU λ_ _=>id).aK m5 cU ns).aK m6 cU ns;have hp6:=hr6.part (i:=1) (j:=sl.l) (c:=sl.c) aB (dN _) hr.cap (dN _);have hrest:((x::cO).drop 1).take (sl.l-1)=cO:=by rw[List.drop_one,List.tail_cons,ly6];simp only[mH] at sll;omega
       rw[hrest] at hp6;have h6:jM F W0 w6 s E G {p with pos:=pos,jZ:=cO}:=h4d.put (m5.tr m6) o6 hp6 λb bW=>by
        obtain⟨a0,ha0,e⟩:=slice_blk bW;rw[e];have z4d:w4.drew.heap.size=w4.heap.size:=rfl;exact⟨(hbk a0 ha0).1,by have:=(hbk a0 ha0).2;omega⟩
       have hm:p.dI=true/\p.jZ.head? =some pos:=⟨hh,by rw[hway,hpx'];rfl⟩;have uq:=ir.move hE hm;rw[hway,List.tail_cons] at uq;refine Ff h6 uq hh λms w7 h7 q7 l7 m7=>?_;have M6:aU (λk=>k=s) w w6:=(((K4.tr d4).wk).tr m5).tr m6;refine hQ _ ms w7 ?_ h7 uq.kX (q7.wk λk hk _=>by have:=M6.size;omega) aB (M6.tr m7);unfold nj;rw[if_neg nov,if_neg (by simpa using hE),if_neg n1,if_pos hm,hway,List.tail_cons]
      ·rw[hway] at g;have:x=pos:=by simpa using g.2
       rw[this] at hpx;simp at hpx
    ·rw[List.head?_eq_none_iff.2 (Mq aB)] at g;cases g.2
  refine aA rfl (aE (k:=.bool) p.dI h4.cell.2.2.2.1 (aF (λhh=>aA rfl (aE (k:=.i) p.pos h4.cell.2.1 (j2 _ ?_))) (λhh=>j2 _ ?_)))
  ·have Gg:p.dI=true:=hh;simp[Gg]
  ·have Gg:p.dI=false:=hh;simp[Gg]
 ·refine fM (vs:=[aD 0,aD 0,aD 0]) jV rfl (by simp[Value.oneCell']) λw4 o4 k4 z4=>?_;refine aF (λ_=>?_) (λh=>by simp at h);refine bG λw5 o5 k5 z5=>?_;have K4:=k2.tr k4;refine hQ (p,[ph pos]) _ w5 ?_ (h.aO (K4.tr k5)) ir (fU.one (x:=(ph pos,bD)) o5 (HF.none rfl) K4.size) dP (K4.tr k5).wk;unfold nj;rw[if_neg nov,if_pos hE]
end
end
section
def al{sl:Sl}{xs:cR}{v:Int}{w:aH}{Q:Int->aH->Prop}(hr:Rd w sl 1 eI xs)(hl:xs.length<1000000)(hQ:∀i w',aL w w'->(0<=i↔v∈xs)->Q i w'):kZ sl v w Q:=by
 unfold kZ;have hll:=hr.len;refine bK (λc t w1=>∃(i:Nat),i<=xs.length/\c=xs.length-i/\t=((i:Int),())/\aL w w1/\v∉xs.take i) xs.length ⟨0,cY _,rfl,rfl,aU.refl _ _,by simp⟩ ?_;rintro c t w1 ⟨i,hi,rfl,rfl,k1,hn⟩ X hX;dsimp only;refine aI (λcD=>?_) (λkF=>?_)
 ·have dL:i<xs.length:=aB;have cI:=cL dL;have gG:=oF dL;have sZ:=oH dL;generalize xs[i]=x at*;obtain⟨q,hq,hc⟩:=bR (k:=.i) (e:=λx=>x) (hr.aK k1 cU λ_ _=>id) cI;rw[dU];refine⟨⟨aB,cD⟩,aA hq (aE (k:=.i) x hc (aF (λh=>hQ _ w1 k1 ⟨λ_=>?_,λ_=>aB⟩) (λh=>?_)))⟩
  ·have:v=x:=by simpa using h
   rw[this];exact gG
  ·have gQ:v≠x:=by simpa using h
   rw[pI i aB];refine hX _ _ _ aB ⟨i+1,dL,rfl,rfl,k1,λhy=>?_⟩;rw[sZ] at hy;rcases kK.1 hy with hy|hy
   ·exact hn hy
   ·exact gQ (by simpa using hy)
 ·have ei:i=xs.length:=aB;subst ei;rw[oV] at hn;exact hQ (-1) w1 k1 ⟨λh=>aB,λh=>absurd h hn⟩
section
variable{F:Nat->Prop}{W0 w:aH}{s:Nat}{E:qB}{G:Gr}{p:zZ}
def Changed_i{oQ open_ dD:Sl}{sh op:cR}{c:rZ}{Q:Sl->aH->Prop}(h:jM F W0 w s E G p)(ir:VL G p)(hsh:Rd w oQ 1 eI sh)(hshl:sh.length<1000000)(Gf:Rd w open_ 1 eI op)(hc:Rd w dD 1 eB c)(hF:∀k,F k->k<w.heap.size)
  (hQ:∀z ms w',nk G c p sh op z->jM F W0 w' s E G z.1->VL G z.1->fU w' (λk=>w.heap.size<=k) ms z.2->z.2.length<=2->aU (λk=>k=s) w w'->Q ms w'):
  wL (some ⟨s,0,none⟩) oQ open_ dD w Q:=by
 unfold wL;refine bG λw1 o1 k1 z1=>?_;have h1:=h.aO k1;refine Done_i h1 (aF (λjb=>?_) (λjb=>?_))
 ·exact hQ (p,[]) _ w1 (by unfold nk;rw[if_pos jb]) h1 ir fU.nil dP k1.wk
 have nov:¬p.iA=true:=by rw[jb];simp
 obtain⟨_,_,_,_,_,sl,_,c3,hr,_⟩:=h1.cell;have len:=ir.len;refine aA rfl (aE (k:=.slice) sl c3 ?_);refine OK (p:=λx=>decide (x∈sh)) (C:=λwx=>aL w1 wx) hr aB (aU.refl _ _) (λ_ _ a b=>a.tr b) (λx wx K hCx hx hK=>?_) λb2 w3 k3 QM=>?_
 ·refine pU Ec iZ (gV (ks:=[.i,.c .ptr]) (t:=(x,some ⟨w.heap.size,0,none⟩,())) ?_);show uD _ _ _ _;unfold uD gY;have occ:wx.cell? ⟨w.heap.size,0,none⟩=some (aW oQ):=by rw[(o1.aK hCx id).cell];rfl
  refine aA rfl (aE (k:=.slice) oQ occ ?_);refine al ((hsh.aK k1 cU λ_ _=>id).aK hCx cU λ_ _=>id) hshl λi w2 k2 hi=>?_;have e:decide (i>=(0:Int))=decide (x∈sh):=by
   by_cases hm:x∈sh
   ·rw[decide_eq_true hm,decide_eq_true (hi.2 hm)]
   ·rw[decide_eq_false hm,decide_eq_false (λh=>hm (hi.1 h))]
  rw[e];exact hK w2 k2
 have K3:=k1.tr k3;have h3:=h.aO K3;have mr:b2=true↔∃e∈p.jZ,e∈sh:=by rw[QM];simp
 have ask:∀(T:WQ Sl),(∀z ms w',DX G c p z->jM F W0 w' s E G z.1->VL G z.1->fU w' (λk=>w.heap.size<=k) ms z.2->z.2.length<=2/\1<=z.2.length->aU (λk=>k=s) w w'->T ms w')->xW (some ⟨s,0,none⟩) dD w3 T:=λT hT=>by
  have z3:=K3.size;refine qb h3 ir.pos ir.node (hc.aK K3 CR λ_ _=>id) (λk hk=>by have:=hF k hk;omega) λz ms w4 hz h4 Rk q4 l4 m4=>?_;exact hT z ms w4 hz h4 Rk (q4.wk λk hk _=>aB) l4 (K3.wk.tr m4)
 have opl:=Gf.len;intro J1 OV;have jh:p.dI=true->(∃e∈p.jZ,e∈sh)->J1 () w3:=by intro hh hm;apply OV;refine aA rfl (aE (k:=.bool) p.dI h3.cell.2.2.2.1 (ask _ λz ms w4 hz h4 Rk q4 l4 m4=>?_));refine aF (λh=>by rw[hh] at h;cases h) (λ_=>?_);refine hQ z ms w4 ?_ h4 Rk q4 l4.1 m4;unfold nk;rw[if_neg nov,if_pos hh,if_pos hm];exact hz
 have jn:p.dI=false->op≠[]->J1 () w3:=by
  intro hh ho;have nh:¬p.dI=true:=by rw[hh];simp
  apply OV;refine aA rfl (aE (k:=.bool) p.dI h3.cell.2.2.2.1 (ask _ λz ms w4 hz h4 Rk q4 l4 m4=>?_));have hC:nk G c p sh op (z.1,if z.1.dI=true then z.2 else []):=by unfold nk;rw[if_neg nov,if_neg nh,if_neg ho];exact⟨z,hz,rfl⟩
  refine aF (λ_=>?_) (λh=>by rw[hh] at h;cases h);refine aA rfl (aE (k:=.bool) z.1.dI h4.cell.2.2.2.1 (aF (λhf=>?_) (λhf=>?_)))
  ·have ZC:z.1.dI=false:=by simpa using hf
   rw[if_neg (by rw[ZC];simp)] at hC;exact hQ _ _ w4 hC h4 Rk fU.nil dP m4
  ·have ZC:z.1.dI=true:=by simpa using hf
   rw[if_pos ZC] at hC;exact hQ _ ms w4 hC h4 Rk q4 l4.1 m4
 have Gp:(p.dI=true/\¬(∃e∈p.jZ,e∈sh))\/(p.dI=false/\op=[])->Q bD w3:=λhs=>by
  refine hQ (p,[]) _ w3 ?_ h3 ir fU.nil dP K3.wk;unfold nk;rw[if_neg nov];rcases hs with⟨a,b⟩|⟨a,b⟩
  ·rw[if_pos a,if_neg b]
  ·rw[if_neg (by rw[a];simp),if_pos b]
 have c4:=h3.cell.2.2.2.1;have nope:p.dI=false->cond ((open_.l:Int)==(0:Int)) (Q bD w3) (J1 () w3):=λhh=>by
  refine aF (λhz=>Gp (.inr ⟨hh,?_⟩)) (λhz=>jn hh λe=>?_)
  ·exact Mq (by simp at hz;omega)
  ·rw[opl,e] at hz;simp at hz
 refine aA rfl (aE (k:=.bool) p.dI c4 (aF (λhh=>?_) (λhh=>?_)))
 ·have Gg:p.dI=true:=hh;refine aF (λhn=>Gp (.inl ⟨Gg,λhm=>?_⟩)) (λhy=>aA rfl (aE (k:=.bool) p.dI c4 (aF (λh=>by rw[Gg] at h;cases h) (λ_=>jh Gg (mr.1 (by simpa using hy))))));rw[mr.2 hm] at hn;cases hn
 ·have Gg:p.dI=false:=hh;exact aA rfl (aE (k:=.bool) p.dI c4 (aF (λ_=>nope Gg) (λh=>by rw[Gg] at h;cases h)))
end
end
end Go.Proofs.YtihggjgakbgomaaGreat
namespace Go.Proofs.YtihggjgakbgomaaGreat
open Go Go.Den Go.Proofs
section
def vS(a:Nat)(u:cR):As:=Ex λsl=>bL (tE a NK [aW sl]) (pK dA 1 eI sl u)
instance{a:Nat}{u:cR}:bJ (vS a u):=by unfold vS;infer_instance
def UO{s:Sl}{xs:cR}{w:aH}{S:BS}{b:Addr}{i:Nat}{x:Int}{K:aH->Prop}(h:pK dA 1 eI s xs w S)(hb:s.b=some b)(hi:i<xs.length)(hK:∀w',pK dA 1 eI s (xs.set i x) w' S->Up S S w w'->K w'):aJ Tryz.prog dA (b.add (i*1)) (aD x) w K:=
 h.1.store eY hb hi x (v:=aD x) rfl cV (CI _) λw' v m _=>hK w' ⟨v,h.2⟩ (Up.at (m.mono λk _ hk=>(h.2 k).2 ⟨b,hb,hk⟩))
def Sort1_i{s:Sl}{x:Int}{w:aH}{Q:aH->Prop}(h:dE w dA 1 eI s [x])(hQ:∀w',dE w' dA 1 eI s [x]->aU (λk=>∃b,s.b=some b/\k=b.block) w w'->Q w'):qA s w Q:=by
 obtain⟨sb,sl,sc⟩:=s;rcases h.gZ with⟨h1,h2⟩|⟨g,cO,hb,ho,hl⟩
 ·have e1:sl=1:=h.len;have e2:sl<=sc:=h.cap;have e3:sc=0:=h2;omega
 have bW:sb=some ⟨g,0,none⟩:=hb;subst bW;have gL:sl=1:=h.len;subst gL;have Sn:1<=sc:=h.cap;have Sg:sc<=maxLen:=h.max;have hcur:w.heap[g]? =some (.cells ([x].flatMap eI++cO).toArray dA (0,0)):=ho;have hl':([x].flatMap eI++cO).length=sc*1:=hl;have hH:Go.Sort.Holds (Value.int .i64) w g 0 [x].toArray:=holds_of_block_i hcur rfl;have cS:=AnyM.slices_Sort_int sortA g 0 sc [x] w hH ho.lt dP;refine Calls.mono cS ?_;rintro e w' ⟨rfl,n,os,rfl⟩;refine⟨_,rfl,?_⟩;show Q _;have e1:[x].mergeSort (λx y=>decide (x<=y))=[x]:=List.mergeSort_singleton x;rw[e1];have pQ:=ownsRow_sorted_i (w:=w) (n:=n) (os:=os) (ss:=[x]) (ts:=[x]) rfl (cY g) hcur Sn Sg (by simpa using hl');have hg:=grownBy_sorted_i (w:=w) (g:=g) (n:=n) (os:=os) [x].toArray;obtain⟨s',e2,hv,_⟩:=yv (oI:=0) (ks:=[x]) pQ;have:s'=⟨some ⟨g,0,none⟩,1,sc⟩:=by obtain⟨b,l,c⟩:=s';injection e2 with h1 h2 h3;subst h1;subst h2;subst h3;rfl
 subst this;exact hQ _ hv ⟨hg.os,hg.tape,hg.output,hg.size,λk hk hn=>hg.block k hk λe=>hn ⟨_,rfl,by injection e⟩⟩
section
variable{w:aH}{S:BS}{a:Nat}{u:cR}
def vS.cell(h:vS a u w S):∃sl,w.cell? ((⟨a,0,none⟩:Addr).add 0)=some (aW sl)/\Rd w sl 1 eI u/\sl.l=u.length:=by
 obtain⟨sl,S1,S2,h1,h2,_⟩:=h;exact⟨sl,aP h1 rfl,h2.1.rd eY,h2.1.len⟩
def smay_i{cF:Sl}{e:Int}{Q:Bool->aH->Prop}(h:vS a u w S)(hr:Rd w cF 1 eI [e])(he:0<=e/\e<u.length)(hQ:∀w',aL w w'->Q true w'):NR (some ⟨a,0,none⟩) cF w Q:=by
 unfold NR;refine cM (cs:=[.pointer (some ⟨a,0,none⟩)]) λw1 b1 k1 z1=>?_;refine aE (k:=.ptr) (some ⟨a,0,none⟩) (by rw[(b1.1).cell];rfl) (aF (λ_=>?_) (λh=>by simp at h));refine OK (p:=λx=>!decide (0<=x/\x<u.length)) (C:=λwx=>aL w1 wx) (hr.aK k1 cU λ_ _=>id) dP (aU.refl _ _) (λ_ _ a b=>a.tr b) (λx wx K hCx hx hK=>?_) λb w2 k2 hb=>?_
 ·refine pU fe iZ (gV (ks:=[.i,.c .ptr]) (t:=(x,some ⟨w.heap.size,0,none⟩,())) ?_);show EX _ _ _ _;unfold EX;have QZ:x=e:=by simpa using hx
  subst QZ;have hK':=hK wx (aU.refl _ _);have hp:(!decide (0<=x/\x<(u.length:Int)))=false:=by rw[decide_eq_true he];rfl
  rw[hp] at hK';obtain⟨sl,c,_,l⟩:=(bJ.kp h (k1.tr hCx)).cell;refine aI (λh=>aB) (λ_=>aA rfl (aE (k:=.ptr) (some ⟨a,0,none⟩) (by rw[(b1.1.aK hCx id).cell];rfl) (aA rfl (aE (k:=.slice) sl c ?_))));rw[l,decide_eq_false aB];exact hK'
 ·have:b=false:=by
   cases b with
   |false=>rfl
   |true=>
    obtain⟨x,hx,hp⟩:=hb.1 rfl;have QZ:x=e:=by simpa using hx
    subst QZ;rw[decide_eq_true he] at hp;cases hp
  rw[this];exact hQ w2 (k1.tr k2)
def sset_i{oJ:Int}{cF:Sl}{e:Nat}{Q:Sl->aH->Prop}(h:vS a u w S)(hr:Rd w cF 1 eI [(e:Int)])(he:e<u.length)
  (hQ:∀r w' S',bL (vS a (u.set e oJ)) (pK dA 1 eI r (if decide (u[e]>0)==decide (oJ>0) then [] else [(e:Int)])) w' S'->Up S S' w w'->Q r w'):NQ (some ⟨a,0,none⟩) oJ cF w Q:=by
 unfold NQ;refine IA hr dP λs1 w1 v1 k1 f1=>?_;refine Sort1_i v1 λw2 v2 m2=>?_;have h1:=bJ.kp h k1;have bd:=bJ.iF h;have h2:vS a u w2 S:=bJ.aK h1 m2 λk hk ⟨b,hb,e⟩=>by have:=bd k hk;have:=f1 b hb;omega
 have U2:Up S S w w2:=⟨k1.wk.trans m2 λk hk ⟨b,hb,e⟩=>by have:=f1 b hb;omega,λk hk=>.inl hk⟩;unfold nA;have l2:s1.l=1:=v2.len;refine aI (λ_=>?_) (λh=>absurd (by rw[l2];decide) h);dsimp only;rw[l2];have vecN:∀{wx:aH},pK dA 1 eI bD ([]:cR) wx (λ_=>False):=λ{wx}=>⟨dE.nil _ _ _ _,λk=>⟨False.elim,λ⟨b,hb,_⟩=>by cases hb⟩⟩;refine bK (λc t w4=>(c=1/\t=(bD,0,())/\w4=w2)\/(c=0/\t.2.1=1/\Q t.1 w4)) 1 (.inl ⟨rfl,rfl,rfl⟩) ?_;rintro c ⟨r,i,_⟩ w4 (⟨rfl,h,rfl⟩|⟨rfl,h,hq⟩) X hX
 ·cases h;dsimp only;refine aI (λ_=>?_) (λh=>absurd (by decide) h);obtain⟨b,hb,cb⟩:=bR (k:=.i) (e:=λx=>x) (v2.rd eY) (show [(e:Int)][0]? =some (e:Int) from rfl);obtain⟨sl,S1,S2,hB,hV,d,ee⟩:=h2;have hlu:=hV.1.len;have cI:=cL he;refine⟨⟨by decide,by decide⟩,aA hb (aE (k:=.i) (e:Int) cb (aA rfl (aE (k:=.slice) sl (aP hB rfl) ?_)))⟩;obtain⟨q,hq,cq⟩:=bR (k:=.i) (e:=λx=>x) (hV.1.rd eY) cI;rw[dU];refine⟨⟨aB,aB⟩,aA hq (aE (k:=.i) u[e] cq ?_)⟩;have done:∀(r:Sl) (L:cR) w5 S3,bL (vS a (u.set e oJ)) (pK dA 1 eI r L) w5 S3->Up S S3 w4 w5->L=(if decide (u[e]>0)==decide (oJ>0) then [] else [(e:Int)])->X (r,(aQ ((0:Int)+(1:Int))),()) w5:=λr L w5 S3 h5 u5 hL=>by
   subst hL;exact hX 0 _ _ aB (.inr ⟨rfl,by rw[iH aB aB];rfl,hQ r w5 S3 h5 (U2.tr u5)⟩)
  refine aF (λgQ=>?_) (λheq=>?_)
  ·refine cM (cs:=[aD (e:Int)]) λw5 b5 k5 z5=>?_;have hs5:bL (bL (tE a NK [aW sl]) (pK dA 1 eI sl u)) (pK dA 1 eI bD ([]:cR)) w5 S:=bL.pR (bJ.kp (A:=bL (tE a NK [aW sl]) (pK dA 1 eI sl u)) ⟨S1,S2,hB,hV,d,ee⟩ k5) vecN;obtain⟨S6,h6,_,HO⟩:=(bL.r hs5).put;refine PD (x:=⟨some ⟨w4.heap.size,0,none⟩,1,1⟩) iD eY CI h6 (lU eY [(e:Int)] b5 rfl dP) dP aB λr w6 S7 v7 u7=>?_;obtain⟨S8,h8,u8⟩:=HO _ w6 S7 u7 v7;obtain⟨S9,h9,_,Bt⟩:=((bL.l h8).c λT hT=>bL.r hT).put;obtain⟨ZD,ZI,_,_⟩:=((bL.l h8).c λT hT=>bL.l hT).put;refine aA rfl (aE (k:=.slice) sl (aP ZI rfl) ⟨⟨aB,aB⟩,aA hq ?_⟩);refine UO h9 hq he λw7 v9 u9=>?_;obtain⟨Ru,Rq,Vw⟩:=Bt _ w7 _ u9 v9;refine done r [(e:Int)] w7 Ru (Rq.mono (λ_ h=>⟨sl,h⟩) λ_ h=>h) (((Up.aO k5).tr u8).tr Vw) ?_;rw[if_neg (by simpa using gQ)]
  ·obtain⟨S9,h9,_,Bt⟩:=(bL.r (⟨S1,S2,hB,hV,d,ee⟩:bL (tE a NK [aW sl]) (pK dA 1 eI sl u) w4 S)).put;refine aA rfl (aE (k:=.slice) sl (aP hB rfl) ⟨⟨aB,aB⟩,aA hq ?_⟩);refine UO h9 hq he λw7 v9 u9=>?_;obtain⟨Ru,Rq,Vw⟩:=Bt _ w7 _ u9 v9;refine done bD [] w7 Ru (bL.pR ⟨sl,Rq⟩ vecN) Vw ?_;rw[if_pos (by simpa using heq)]
 ·dsimp only at h ⊢;subst h;exact aI (λh=>absurd h (by decide)) (λ_=>hq)
def Ii(u:cR)(e:Nat)(t:Int):cR:=if decide (u[e]?.getD 0>0)==decide (t>0) then [] else [(e:Int)]
def SClose_i{oJ:Int}{cF:Sl}{e:Nat}{Q:Sl->Int->aH->Prop}(h:vS a u w S)(hr:Rd w cF 1 eI [(e:Int)])(he:e<u.length)(ht:1<=oJ/\oJ<=1099511627776)
  (hQ:∀r w' S',bL (vS a (u.set e oJ)) (pK dA 1 eI r (Ii u e oJ)) w' S'->Up S S' w w'->Q r 0 w'):KN (some ⟨a,0,none⟩) oJ cF w Q:=by
 unfold KN;have e1:Ii u e oJ=if decide (u[e]>0)==decide (oJ>0) then [] else [(e:Int)]:=by unfold Ii;rw[cL he];rfl
 rw[e1] at hQ;refine aI (λh=>aB) (λ_=>aI (λh=>aB) (λ_=>?_));refine smay_i h hr ⟨aB,aB⟩ λw1 k1=>aF (λh=>by cases h) (λ_=>?_);exact sset_i (bJ.kp h k1) (hr.aK k1 cU λ_ _=>id) he λr w2 S2 h2 u2=>hQ r w2 S2 h2 ((Up.aO k1).tr u2)
abbrev eSh(p:Int×Int):gJ:=[aD p.1,aD p.2]
def xp:∀x:Int×Int,(eSh x).length=2:=λ_=>rfl
def oneSh:∀x:Int×Int,∀v∈eSh x,v.oneCell'=true:=by intro x v hu;simp at hu;rcases hu with rfl|rfl<;>rfl
def eSh_ne(x:Int×Int):eSh x≠[]:=by simp
def gE(i:Nat):cR->List (Int×Int)
 | []=>[]
 |x::r=>if x>0 then((i:Int),x)::gE (i+1) r else gE (i+1) r
def allSh_app(l m:cR):∀i,gE i (l++m)=gE i l++gE (i+l.length) m:=by
 induction l with
 |nil=>intro i;rfl
 |cons a l ih=>
  intro i;rw[List.cons_append,gE,gE,ih,mH,show i+1+l.length=i+(l.length+1) by omega]
  split<;>rfl
def PQ(l:cR):∀i,(gE i l).length<=l.length:=by
 induction l with
 |nil=>intro i;exact dN _
 |cons a l ih=>intro i;have:=ih (i+1);rw[gE];split<;>simp<;>omega
def SAll_i{Q:Sl->aH->Prop}(h:vS a u w S)(hu:u.length<=512)(hQ:∀r w',dE w' tShut 2 eSh r (gE 0 u)->aL w w'->(∀b,r.b=some b->w.heap.size<=b.block)->Q r w'):NS (some ⟨a,0,none⟩) w Q:=by
 unfold NS;obtain⟨sl,c,hr,hl⟩:=h.cell;refine aF (λh=>by simp at h) (λ_=>aA rfl (aE (k:=.slice) sl c ?_));refine bK (λn t w1=>∃(i:Nat) (r:Sl),i<=u.length/\n=u.length-i/\t=(r,(i:Int),())/\dE w1 tShut 2 eSh r (gE 0 (u.take i))/\aL w w1/\∀b,r.b=some b->w.heap.size<=b.block) u.length
  ⟨0,bD,cY _,rfl,rfl,dE.nil _ _ _ _,aU.refl _ _,λb hb=>by cases hb⟩ ?_
 rintro n t w1 ⟨i,r,hi,rfl,rfl,v1,k1,f1⟩ X hX;dsimp only;refine aI (λcD=>?_) (λkF=>?_)
 ·have dL:i<u.length:=aB;have cI:=cL dL;have sZ:=oH dL;generalize u[i]=x at*;obtain⟨q,hq,cq⟩:=bR (k:=.i) (e:=λx=>x) (hr.aK k1 cU λ_ _=>id) cI;have e1:gE 0 (u.take (i+1))=gE 0 (u.take i)++(if x>0 then [((i:Int),x)] else []):=by
   rw[sZ,allSh_app,rA,Nat.min_eq_left hi,gK,gE,gE]
  rw[dU,pI i aB];refine⟨⟨aB,cD⟩,aA hq (aE (k:=.i) x cq (aI (λhx=>?_) (λhx=>?_)))⟩
  ·refine cM (cs:=eSh ((i:Int),x)) λw2 b2 k2 z2=>?_;have vt:=PQ (u.take i) 0;rw[rA] at vt;refine fH sf xp oneSh (x:=⟨some ⟨w1.heap.size,0,none⟩,1,1⟩) (v1.aK k2 λ_ _=>id) (lU xp [((i:Int),x)] b2 rfl dP) (by simp;omega) (by simp;omega) λr' w3 v3 m3 hr3 _=>?_;rw[if_pos hx] at e1;rw[<-e1] at v3;refine hX _ _ _ aB ⟨i+1,r',dL,rfl,rfl,v3,(k1.tr k2).fresh m3 λk ⟨b,hb,e⟩=>by rw[e];exact f1 b hb,λb hb=>?_⟩;rcases hr3 with h|⟨b',h,h2⟩
   ·exact f1 b (h.symm.trans hb)
   ·rw[hb] at h;cases h;have:=(k1.tr k2).size;omega
  ·rw[if_neg hx,rF] at e1;exact hX _ _ _ aB ⟨i+1,r,dL,rfl,rfl,by rw[e1];exact v1,k1,f1⟩
 ·have ei:i=u.length:=aB;subst ei;rw[oV] at v1;exact hQ r w1 v1 k1 f1
abbrev Bo(u:cR):rZ:=u.map λx=>decide (x>0)
def Uq{Q:Sl->aH->Prop}(h:vS a u w S)(hu:u.length<=512)(hQ:∀r w',dE w' tK 1 eB r (Bo u)->aL w w'->(∀b,r.b=some b->w.heap.size<=b.block)->Q r w'):CB (some ⟨a,0,none⟩) w Q:=by
 unfold CB;obtain⟨sl,c,hr,hl⟩:=h.cell;refine aF (λh=>by simp at h) (λ_=>aA rfl (aE (k:=.slice) sl c ?_));refine bK (λn t w1=>∃(i:Nat) (r:Sl),i<=u.length/\n=u.length-i/\t=(r,(i:Int),())/\dE w1 tK 1 eB r (Bo (u.take i))/\aL w w1/\∀b,r.b=some b->w.heap.size<=b.block) u.length
  ⟨0,bD,cY _,rfl,rfl,dE.nil _ _ _ _,aU.refl _ _,λb hb=>by cases hb⟩ ?_
 rintro n t w1 ⟨i,r,hi,rfl,rfl,v1,k1,f1⟩ X hX;dsimp only;refine aI (λcD=>?_) (λkF=>?_)
 ·have dL:i<u.length:=aB;have cI:=cL dL;have sZ:=oH dL;generalize u[i]=x at*;have h1:=bJ.kp h k1;obtain⟨sl1,c1,uu,Og⟩:=h1.cell;obtain⟨q,hq,cq⟩:=bR (k:=.i) (e:=λx=>x) uu cI;have e1:Bo (u.take (i+1))=Bo (u.take i)++[decide (x>0)]:=by rw[sZ];simp
  rw[pI i aB];unfold OH;refine aF (λ_=>aI (λ_=>aA rfl (aE (k:=.slice) sl1 c1 (aI (λ_=>aA rfl (aE (k:=.slice) sl1 c1 ?_)) (λh=>aB)))) (λh=>aB)) (λh=>by simp at h);rw[dU];refine⟨⟨aB,aB⟩,aA hq (aE (k:=.i) x cq ?_)⟩;refine cM (cs:=eB (decide (x>0))) λw2 b2 k2 z2=>?_;refine fH VD Gw oneB (x:=⟨some ⟨w1.heap.size,0,none⟩,1,1⟩) (v1.aK k2 λ_ _=>id) (lU Gw [decide (x>0)] b2 rfl dP) (by simp;omega) (by simp;omega) λr' w3 v3 m3 hr3 _=>?_;rw[<-e1] at v3;refine hX _ _ _ aB ⟨i+1,r',dL,rfl,rfl,v3,(k1.tr k2).fresh m3 λk ⟨b,hb,e⟩=>by rw[e];exact f1 b hb,λb hb=>?_⟩;rcases hr3 with h|⟨b',h,h2⟩
  ·exact f1 b (h.symm.trans hb)
  ·rw[hb] at h;cases h;have:=(k1.tr k2).size;omega
 ·have ei:i=u.length:=aB;subst ei;rw[oV] at v1;exact hQ r w1 v1 k1 f1
end
end
end Go.Proofs.YtihggjgakbgomaaGreat
namespace Go.Proofs.YtihggjgakbgomaaGreat
open Go Go.Den
section
def Uo{n:Nat}{w:aH}{Q:cW->aH->Prop}(hn:n<=512)(hQ:∀g w' S',vS g (List.replicate n 0) w' S'->aL w w'->(∀k,S' k->w.heap.size<=k)->Q (some ⟨g,0,none⟩) w'):vE (n:Int) w Q:=by
 unfold vE;refine aI (λh=>aB) (λ_=>aI (λh=>aB) (λ_=>?_));refine wD iD (aY:=eI) 0 rfl eY aB (lR _) aB aB λw2 v2 k2=>?_;simp only[dU] at v2 ⊢;have cD:w.heap.size<w2.heap.size:=v2.lt rfl;refine cM (cs:=[aW ⟨some ⟨w.heap.size,0,none⟩,n,n⟩]) λw3 b3 k3 z3=>?_;refine hQ w2.heap.size w3 _ ⟨_,bL.yH b3 ⟨v2.aK k3 λ_ _=>id,λ_=>Iff.rfl⟩ λk h1 ⟨b,hb,h2⟩=>by cases hb;rw[h2] at h1;have h1':w.heap.size=w2.heap.size:=h1;omega⟩ (k2.tr k3) λk hk=>hk.elim (λh=>aB) λ⟨b,hb,h⟩=>by cases hb;rw[h];exact dN _
def FV(dQ:Int)(u:cR)(l:List (Int×Int)):cR:=l.foldl (λu p=>if p.2<=dQ then u.set p.1.toNat 0 else u) u
def Zn(dQ:Int):∀(l:List (Int×Int)) (u:cR),(FV dQ u l).length=u.length:=by
 intro l
 induction l with
 |nil=>intro u;rfl
 |cons p l ih=>
  intro u;show(FV dQ _ l).length=_;rw[ih];dsimp only
  split<;>simp
def ZM(dQ:Int)(l:List (Int×Int)):cR:=(l.filter λp=>decide (p.2<=dQ)).map (·.1)
def allSh_mem(u:cR):∀(i:Nat) (p:Int×Int),p∈gE i u->∃j:Nat,p.1=((i+j:Nat):Int)/\u[j]? =some p.2/\p.2>0:=by
 induction u with
 |nil=>intro i p h;cases h
 |cons x r ih=>
  intro i p h;rw[gE] at h;have rec_:p∈gE (i+1) r->∃j:Nat,p.1=((i+j:Nat):Int)/\(x::r)[j]? =some p.2/\p.2>0:=λh=>by
   obtain⟨j,h1,h2,h3⟩:=ih (i+1) p h;exact⟨j+1,by rw[h1];congr 1;omega,by simpa using h2,h3⟩
  split at h
  ·rcases jQ.1 h with rfl|h
   ·exact⟨0,rfl,rfl,by assumption⟩
   ·exact rec_ h
  ·exact rec_ h
def lapU_all(dQ:Int)(u:cR):∀(pre:cR),FV dQ (pre++u) (gE pre.length u)=pre++u.map λx=>if x>0/\x<=dQ then 0 else x:=by
 induction u with
 |nil=>intro pre;rfl
 |cons x r ih=>
  intro pre;have key:∀y:Int,FV dQ (pre++y::r) (gE (pre.length+1) r)=pre++y::r.map λx=>if x>0/\x<=dQ then 0 else x:=λy=>by
   have:=ih (pre++[y]);rw[fN] at this;simpa using this
  rw[gE]
  by_cases hx:x>0
  ·rw[if_pos hx];show FV dQ (if x<=dQ then(pre++x::r).set ((pre.length:Int)).toNat 0 else pre++x::r) _=_
   rw[Dg]
   by_cases hn:x<=dQ
   ·rw[if_pos hn,if_pos ⟨hx,hn⟩,dU,List.set_append_right _ _ (dN _),Nat.sub_self,List.set_cons_zero];exact key 0
   ·rw[if_neg hn,if_neg (λh=>hn h.2)];exact key x
  ·rw[if_neg hx,Dg,if_neg (λh=>hx h.1)];exact key x
section
variable{w:aH}{S:BS}{a:Nat}{u:cR}
def Lapse_i{dQ:Int}{Q:Sl->aH->Prop}(h:vS a u w S)(hu:u.length<=512)
  (hQ:∀r w' S',bL (vS a (FV dQ u (gE 0 u))) (pK dA 1 eI r (ZM dQ (gE 0 u))) w' S'->Up S S' w w'->Q r w'):KL (some ⟨a,0,none⟩) dQ w Q:=by
 unfold KL;refine SAll_i h hu λs1 w1 v1 k1 f1=>?_;have vecN:∀{wx:aH},pK dA 1 eI bD ([]:cR) wx (λ_=>False):=λ{wx}=>⟨dE.nil _ _ _ _,λk=>⟨False.elim,λ⟨b,hb,_⟩=>by cases hb⟩⟩;have gL:=PQ u 0;have gG:=allSh_mem u 0;generalize gE 0 u=Me at*;have o1:JM s1 S w1:=λb hb=>⟨λhk=>by have:=bJ.iF h _ hk;have:=f1 b hb;omega,v1.lt hb⟩;have sl:=v1.len;refine bK (λn t w2=>∃(i:Nat) (r:Sl) (S2:BS),i<=Me.length/\n=Me.length-i/\t=(r,(i:Int),())/\bL (vS a (FV dQ u (Me.take i))) (pK dA 1 eI r (ZM dQ (Me.take i))) w2 S2/\Up S S2 w w2/\Rd w2 s1 2 eSh Me/\JM s1 S2 w2) Me.length
  ⟨0,bD,S,cY _,rfl,rfl,bL.pR (bJ.kp h k1) vecN,Up.aO k1,v1.rd xp,o1⟩ ?_
 rintro n t w2 ⟨i,r,S2,hi,rfl,rfl,h2,u2,r2,o2⟩ X hX;dsimp only;refine aI (λcD=>?_) (λkF=>?_)
 ·have dL:i<Me.length:=aB;have cI:=cL dL;have sZ:=oH dL;have hm:=gG _ (oF dL);generalize Me[i]=p at*;obtain⟨e,t⟩:=p;obtain⟨j,hj1,hj2,hj3⟩:=hm;rw[gK] at hj1;have hj1':e=(j:Int):=hj1;have hju:j<u.length:=(eR.1 hj2).1;subst hj1';obtain⟨q,hq,hh⟩:=r2.get i _ cI;rw[dU,pI i aB];refine⟨⟨aB,cD⟩,aA hq (aZ (l:=[.i,.i]) ((j:Int),t,()) hh ?_)⟩;refine fM (zs:=[aD 0,aD 0]) (vs:=eSh ((j:Int),t)) size_Shut rfl (oneSh _) λw4 o4 k4 z4=>?_;have c4:=Xe o4;have h4:=bJ.kp h2 k4;have dX:∀r' w' S',bL (vS a (FV dQ u (Me.take (i+1)))) (pK dA 1 eI r' (ZM dQ (Me.take (i+1)))) w' S'->Up S2 S' w2 w'->X (r',((i+1:Nat):Int),()) w':=λr' w' S' h' u'=>
   hX _ _ _ aB ⟨i+1,r',S',dL,rfl,rfl,h',u2.tr u',o2.rd u' r2 eSh_ne,o2.up u'⟩
  have eU:FV dQ u (Me.take (i+1))=if t<=dQ then(FV dQ u (Me.take i)).set j 0 else FV dQ u (Me.take i):=by unfold FV;rw[sZ,List.foldl_append];rfl
  have eL:ZM dQ (Me.take (i+1))=ZM dQ (Me.take i)++if t<=dQ then [(j:Int)] else []:=by
   unfold ZM;rw[sZ,TV,xF];congr 1
   by_cases ht:t<=dQ<;>simp[ht]
  refine aE (k:=.i) t c4.2 (aI (λht=>?_) (λht=>?_))
  ·rw[if_pos ht] at eU eL;have kd:=k4.tr (cB w4);have h4d:=bJ.kp h2 kd;have c4d:=(cB w4).cell c4.1 id;obtain⟨SA,SV,⟨sl,SB,SU,hB,hU,dBU,eBU⟩,hV,dAV,eAV⟩:=h4d;have hlu:=hU.1.len;have hj:j<(FV dQ u (Me.take i)).length:=by rw[Zn];exact hju
   have h5:bL (bL (tE a NK [aW sl]) (pK dA 1 eI sl (FV dQ u (Me.take i)))) (pK dA 1 eI r (ZM dQ (Me.take i))) w4.drew S2:=⟨SA,SV,⟨SB,SU,hB,hU,dBU,eBU⟩,hV,dAV,eAV⟩;refine aA rfl (aE (k:=.slice) sl (aP hB rfl) (aE (k:=.i) (j:Int) c4d ⟨⟨aB,aB⟩,?_⟩));rw[dU];obtain⟨S6,h6,_,HO⟩:=((bL.l h5).c λT hT=>bL.r hT).put;obtain⟨b,hb⟩:∃b,sl.b=some b:=by obtain⟨a',mY,_⟩:=(hU.1.rd eY).get j _ (cL hj);exact⟨a',mY⟩
   have bd:=bJ.iF h2;refine aA hb (UO h6 hb hj λw5 v5 u5=>?_);obtain⟨S7,h7,u7⟩:=HO _ w5 _ u5 v5;have c5:w5.cell? ((⟨w2.heap.size,0,none⟩:Addr).add 0)=some (aD (j:Int)):=u7.m.cell c4d λhk=>by
    have lM:S2 w2.heap.size:=hk;have:=bd _ lM;omega
   refine aE (k:=.i) (j:Int) c5 ?_;refine cM (cs:=[aD (j:Int)]) λw6 b6 k6 z6=>?_;obtain⟨S8,h8,_,Yn⟩:=(bL.r (bJ.kp h7 k6)).put;have hLl:(ZM dQ (Me.take i)).length<=512:=by unfold ZM;rw[lT];have:=xG (λp:Int×Int=>decide (p.2<=dQ)) (Me.take i);rw[rA] at this;omega
   refine PD (x:=⟨some ⟨w5.heap.size,0,none⟩,1,1⟩) iD eY CI h8 (lU eY [(j:Int)] b6 rfl dP) (by simp;omega) aB λr' w7 S9 v9 u9=>?_;obtain⟨ZD,ZI,u10⟩:=Yn _ w7 S9 u9 v9;refine dX r' w7 ZD ?_ (((Up.aO kd).tr u7).tr ((Up.aO k6).tr u10));rw[eU,eL];exact ZI.mono (λ_ h=>⟨sl,h⟩) λ_ h=>h
  ·rw[if_neg ht] at eU eL;rw[rF] at eL;refine dX r w4 S2 ?_ (Up.aO k4);rw[eU,eL];exact h4
 ·have ei:i=Me.length:=aB;subst ei;rw[oV] at h2;exact hQ r w2 S2 h2 u2
end
end
section
def xA.filter{α:Type}{f:α->As}(p:α->Bool):∀{l:List α} {w:aH} {S:BS},xA f l w S->bL (xA f (l.filter p)) (xA f (l.filter λx=>!p x)) w S
 | [],w,S,h=>⟨S,S,h,h,λk hk=>absurd hk (h k),λk=>⟨.inl,λh=>h.elim id id⟩⟩
 |x::r,w,S,⟨S1,S2,h1,h2,d,e⟩=>by
  obtain⟨T1,T2,g1,g2,d',e'⟩:=xA.filter (f:=f) p h2;cases hp:p x with
  |true=>rw[List.filter_cons_of_pos hp,ly2 (by simp[hp])];exact⟨λk=>S1 k\/T1 k,T2,⟨S1,T1,h1,g1,λk a b=>d k a ((e' k).2 (.inl b)),λ_=>Iff.rfl⟩,g2,λk a b=>a.elim (λa=>d k a ((e' k).2 (.inr b))) λa=>d' k a b,λk=>by rw[e k,e' k,or_assoc]⟩
  |false=>
   rw[ly2 (by simp[hp]),List.filter_cons_of_pos (by simp[hp])];refine⟨T1,λk=>S1 k\/T2 k,g1,⟨S1,T2,h1,g2,λk a b=>d k a ((e' k).2 (.inr b)),λ_=>Iff.rfl⟩,λk a b=>b.elim (λb=>d k b ((e' k).2 (.inl a))) λb=>d' k a b,λk=>?_⟩;rw[e k,e' k]
   constructor
   ·rintro(h|h|h)
    ·exact .inr (.inl h)
    ·exact .inl h
    ·exact .inr (.inr h)
   ·rintro(h|h|h)
    ·exact .inr (.inl h)
    ·exact .inl h
    ·exact .inr (.inr h)
def xA.get{α:Type}{f:α->As}:∀{l:List α} {w:aH} {S:BS} {x:α},xA f l w S->x∈l->∃S1,f x w S1/\∀k,S1 k->S k
 |y::r,w,S,x,⟨S1,S2,h1,h2,d,e⟩,hx=>by
  rcases jQ.1 hx with rfl|hx
  ·exact⟨S1,h1,λk hk=>(e k).2 (.inl hk)⟩
  ·obtain⟨T,g,hT⟩:=xA.get h2 hx;exact⟨T,g,λk hk=>(e k).2 (.inr (hT k hk))⟩
def vK(ee s:Nat)(p:zZ):As:=Ex λsl=>bL (tE s Xy (eSe ee p sl)) (EG 1 eI sl p.jZ)
instance{ee s:Nat}{p:zZ}:bJ (vK ee s p):=by unfold vK;infer_instance
structure Bs(W0:aH)(E:qB)(G:Gr)(S:BS)(w:aH):Prop where
 jl:AL W0 E G
 k0:aL W0 w
 lo:∀k,S k->W0.heap.size<=k
section
variable{W0 w w':aH}{E:qB}{G:Gr}{S S' S1:BS}
def Bs.up(h:Bs W0 E G S w)(u:Up S S' w w'):Bs W0 E G S' w':=⟨h.jl,h.k0.fresh u.m h.lo,λk hk=>(u.s k hk).elim (h.lo k) λhh=>jB h.k0.size hh⟩
def Bs.sub(h:Bs W0 E G S w)(hs:∀k,S' k->S k):Bs W0 E G S' w:=⟨h.jl,h.k0,λk hk=>h.lo k (hs k hk)⟩
def Bs.kp(h:Bs W0 E G S w)(k:aL w w'):Bs W0 E G S w':=⟨h.jl,h.k0.tr k,h.lo⟩
def Bs.e(h:Bs W0 E G S w):AL w E G:=h.jl.aO h.k0
def vK.at{s:Nat}{p:zZ}(hb:Bs W0 E G S w)(h:vK E.e s p w S):jM (λk=>k<w.heap.size/\(k=s\/¬S k)) W0 w s E G p:=by
 obtain⟨sl,S1,S2,h1,h2,d,e⟩:=h;have hs:S1 s:=(h1.2 s).2 rfl;refine⟨hb.jl,hb.k0,hb.lo s ((e s).2 (.inl hs)),⟨sl,h1.1,h2.1,λb Lz=>⟨λhf=>?_,h2.2.2.1 b Lz⟩⟩,⟨h1.1.lt,.inl rfl⟩⟩;have hS2:S2 b.block:=(h2.2.2.2 _).2 ⟨b,Lz,rfl⟩;rcases hf.2 with hf|hf
 ·exact d _ (by rw[hf];exact hs) hS2
 ·exact hf ((e _).2 (.inr hS2))
def vK.of{s:Nat}{p:zZ}(hsw:s<w.heap.size)(hS:S s)(h:jM (λk=>k<w.heap.size/\(k=s\/¬S k)) W0 w' s E G p):∃S',vK E.e s p w' S'/\∀k,S' k->S k\/w.heap.size<=k:=by
 obtain⟨sl,h1,h2,h3⟩:=h.gZ;have key:∀b,sl.b=some b->(w.heap.size<=b.block\/(S b.block/\b.block≠s)):=λb hb=>by
  have:=(h3 b hb).1
  by_cases cD:b.block<w.heap.size
  ·refine .inr ⟨?_,λe=>this ⟨cD,.inl e⟩⟩;exact Classical.byContradiction λhn=>this ⟨cD,.inr hn⟩
  ·exact .inl aB
 refine⟨λk=>k=s\/∃b,sl.b=some b/\k=b.block,⟨sl,bL.yH ⟨h1,λ_=>Iff.rfl⟩ ⟨h2,cU,λb hb=>(h3 b hb).2,λ_=>Iff.rfl⟩ λk hk ⟨b,hb,e⟩=>?_⟩,λk hk=>?_⟩
 ·have lM:k=s:=hk;rcases key b hb with h|h
  ·omega
  ·exact h.2 aB
 ·rcases hk with rfl|⟨b,hb,rfl⟩
  ·exact .inl hS
  ·exact(key b hb).elim .inr λh=>.inl h.1
def vK.Wl{ee s:Nat}{p:zZ}(h:vK ee s p w S):S s/\s<w.heap.size:=by
 obtain⟨sl,S1,S2,h1,h2,d,e⟩:=h;exact⟨(e s).2 (.inl ((h1.2 s).2 rfl)),h1.1.lt⟩
def SRep_i{s:Nat}{p:zZ}{pos:Int}{dD:Sl}{c:rZ}{Q:Sl->aH->Prop}(hb:Bs W0 E G S w)(h:vK E.e s p w S)(ir:VL G p)(hc:Rd w dD 1 eB c)(Wh:∀b,dD.b=some b->¬S b.block)
  (hQ:∀z ms w' S',nj G c p pos z->vK E.e s z.1 w' S'->Up S S' w w'->VL G z.1->fU w' (λk=>w.heap.size<=k) ms z.2->z.2.length<=2->Q ms w'):zU (some ⟨s,0,none⟩) pos dD w Q:=by
 obtain⟨hS,cD⟩:=h.Wl;refine Report_i (h.at hb) ir hc (λb Lz e=>Wh b Lz (by rw[e];exact hS)) (λk hk=>hk.1) λz ms w' hz h' Rl hm hl m=>?_;obtain⟨S',h2,h3⟩:=vK.of cD hS h';exact hQ z ms w' S' hz h2 ⟨m.mono λk _ e=>by rw[show k=s from e];exact hS,h3⟩ Rl hm hl
def SChg_i{s:Nat}{p:zZ}{oQ open_ dD:Sl}{sh op:cR}{c:rZ}{Q:Sl->aH->Prop}(hb:Bs W0 E G S w)(h:vK E.e s p w S)(ir:VL G p)(hsh:Rd w oQ 1 eI sh)(hshl:sh.length<1000000)(Gf:Rd w open_ 1 eI op)(hc:Rd w dD 1 eB c)
  (hQ:∀z ms w' S',nk G c p sh op z->vK E.e s z.1 w' S'->Up S S' w w'->VL G z.1->fU w' (λk=>w.heap.size<=k) ms z.2->z.2.length<=2->Q ms w'):wL (some ⟨s,0,none⟩) oQ open_ dD w Q:=by
 obtain⟨hS,cD⟩:=h.Wl;refine Changed_i (h.at hb) ir hsh hshl Gf hc (λk hk=>hk.1) λz ms w' hz h' Rl hm hl m=>?_;obtain⟨S',h2,h3⟩:=vK.of cD hS h';exact hQ z ms w' S' hz h2 ⟨m.mono λk _ e=>by rw[show k=s from e];exact hS,h3⟩ Rl hm hl
def SNewF_i{at_ node:Int}{dD:Sl}{c:rZ}{Q:cW->Sl->Int->aH->Prop}(hb:Bs W0 E G S w)(hc:Rd w dD 1 eB c)
  (TY:¬(G.mO at_/\G.GR node)->Q none bD 1 w)
  (hQ:G.mO at_->G.GR node->∀z ms s w' S',DX G c (Xd at_ node) z->vK E.e s z.1 w' S'->(∀k,S' k->w.heap.size<=k)->VL G z.1->fU w' (λk=>w.heap.size<=k) ms (jD::z.2)->z.2.length<=2/\1<=z.2.length->aL w w'->Q (some ⟨s,0,none⟩) ms 0 w'):
  tQ (some ⟨E.e,0,none⟩) at_ node dD w Q:=by
 refine SNew_i hb.e hc TY λhE hN z ms w' hz h ok hm hl k=>?_;obtain⟨sl,h1,h2,h3⟩:=h.gZ;refine hQ hE hN z ms _ w' (λk=>k=w.heap.size\/∃b,sl.b=some b/\k=b.block) hz ⟨sl,bL.yH ⟨h1,λ_=>Iff.rfl⟩ ⟨h2,cU,λb hb=>(h3 b hb).2,λ_=>Iff.rfl⟩ λk hk ⟨b,hb,e⟩=>?_⟩ (λk hk=>?_) ok (hm.wk λk hk _=>Nat.le_of_lt hk) hl k
 ·have:=(h3 b hb).1;omega
 ·rcases hk with h|⟨b,hb,e⟩
  ·omega
  ·have:=(h3 b hb).1;omega
end
structure dF where
 a:Nat
 cp:Nat
 sp:Nat
 aN:Nat
 aM:Int
 lH:Int
abbrev Xo(e:dF):gJ:=[aD (e.aN:Int),aD e.aM,.pointer (some ⟨e.cp,0,none⟩),.pointer (some ⟨e.sp,0,none⟩),aD e.lH]
def JZ(e:dF):As:=tE e.a ZW (Xo e)
instance{e:dF}:bJ (JZ e):=by unfold JZ;infer_instance
structure tD where
 fF:Nat
 bI:List dF
 gr:Int->Option Mh.T
abbrev tD.grI(t:tD)(p:Int):Int:=(t.gr p).getD (0:Int)
structure tD.Ok(t:tD):Prop where
 fF:1<=t.fF/\t.fF<=16
 len:t.bI.length<=t.fF
 sY:t.bI.Pairwise λe f=>e.aN<f.aN
 aN:∀e∈t.bI,e.aN<16
def tI(l:List dF):Int->Option rK.T:=λx=>(l.find? λe=>(e.aN:Int)==x).map λe=>some ⟨e.a,0,none⟩
def ZT(a m1 m2 ng:Nat)(t:tD):As:=bL (tE a ny [aD (t.fF:Int),.map (some m1),.map (some m2)]) (bL (vL m1 FQ rK (tI t.bI) t.bI.length) (bL (vL m2 FQ Mh t.gr ng) (xA JZ t.bI)))
instance{a m1 m2 ng:Nat}{t:tD}:bJ (ZT a m1 m2 ng t):=by unfold ZT;infer_instance
def DV(a:Nat)(t:tD):As:=Ex λm1:Nat=>Ex λm2:Nat=>Ex λng:Nat=>ZT a m1 m2 ng t
instance{a:Nat}{t:tD}:bJ (DV a t):=by unfold DV;infer_instance
abbrev Xa(p:cW):gJ:=[.pointer p]
def MW:∀p:cW,(Xa p).length=1:=λ_=>rfl
def onePt:∀p:cW,∀u∈Xa p,u.oneCell'=true:=by intro p u hu;simp at hu;subst hu;rfl
def UL(p:cW):Xa p≠[]:=by simp
abbrev LW(e:dF):cW:=some ⟨e.a,0,none⟩
section
variable{w:aH}{S:BS}{a m1 m2 ng:Nat}{t:tD}
def ZT.cells(h:ZT a m1 m2 ng t w S):w.cell? ((⟨a,0,none⟩:Addr).add 0)=some (aD (t.fF:Int))/\w.cell? ((⟨a,0,none⟩:Addr).add 1)=some (.map (some m1))/\w.cell? ((⟨a,0,none⟩:Addr).add 2)=some (.map (some m2)):=by
 obtain⟨S1,S2,h1,_⟩:=h;exact⟨aP h1 rfl,aP h1 rfl,aP h1 rfl⟩
def ZT.map1(h:ZT a m1 m2 ng t w S):kT w m1 FQ rK (tI t.bI) t.bI.length:=by
 obtain⟨_,_,_,⟨_,_,h,_⟩,_⟩:=h;exact h.1
def ZT.map2(h:ZT a m1 m2 ng t w S):kT w m2 FQ Mh t.gr ng:=by
 obtain⟨_,_,_,⟨_,_,_,⟨_,_,h,_⟩,_⟩,_⟩:=h;exact h.1
def ZT.bI(h:ZT a m1 m2 ng t w S):∃T,xA JZ t.bI w T/\∀k,T k->S k:=by
 obtain⟨_,_,_,⟨_,_,_,⟨_,_,_,h,_,e3⟩,_,e2⟩,_,e1⟩:=h;exact⟨_,h,λk hk=>(e1 k).2 (.inr ((e2 k).2 (.inr ((e3 k).2 (.inr hk)))))⟩
def DV.VT(h:DV a t w S){e:dF}(he:e∈t.bI):cX w e.a ZW (Xo e)/\S e.a:=by
 obtain⟨m1,m2,ng,h⟩:=h;obtain⟨T,hT,hs⟩:=h.bI;obtain⟨S1,h1,wZ⟩:=xA.get hT he;exact⟨h1.1,hs _ (wZ _ ((h1.2 _).2 rfl))⟩
def tD.Ok.inj{t:tD}(ok:t.Ok){e f:dF}(he:e∈t.bI)(hf:f∈t.bI)(hp:e.aN=f.aN):e=f:=by
 have:=ok.sY;generalize t.bI=l at*
 induction l with
 |nil=>cases he
 |cons x r ih=>
  rw[List.pairwise_cons] at this;rcases jQ.1 he with e1|vI<;>rcases jQ.1 hf with e2|ZC
  ·rw[e1,e2]
  ·have:=this.1 f ZC;rw[e1] at hp;omega
  ·have:=this.1 e vI;rw[e2] at hp;omega
  ·exact ih vI ZC this.2
def PM{t:tD}(ok:t.Ok){e:dF}(he:e∈t.bI):tI t.bI (e.aN:Int)=some (LW e):=by
 unfold tI;cases hf:t.bI.find? λx=>(x.aN:Int)==(e.aN:Int) with
 |none=>have:=List.find?_eq_none.1 hf e he;simp at this
 |some f=>
  have h1:=ly9 hf;have h2:=List.find?_some hf;have Rm:(f.aN:Int)=e.aN:=by simpa using h2
  have:f=e:=ok.inj h1 he aB;rw[this];rfl
def DH{l:List dF}{x:Int}{p:rK.T}(h:tI l x=some p):∃e∈l,(e.aN:Int)=x/\p=LW e:=by
 unfold tI at h;cases hf:l.find? λe=>(e.aN:Int)==x with
 |none=>rw[hf] at h;cases h
 |some e=>rw[hf] at h;exact⟨e,ly9 hf,by simpa using List.find?_some hf,by cases h;rfl⟩
def sorted_eq{l m:cR}(hl:l.Pairwise (·<·))(hm:m.Pairwise (·<·))(h:∀x,x∈l↔x∈m):l=m:=by
 have nl:l.Nodup:=hl.imp λh e=>aB;have nm:m.Nodup:=hm.imp λh e=>aB;exact List.Perm.eq_of_pairwise (le:=λa b:Int=>a<b) (λa b _ _ h1 h2=>aB) hl hm ((List.perm_ext_iff_of_nodup nl nm).2 h)
def Ik{Q:Sl->aH->Prop}(h:DV a t w S)(ok:t.Ok)(hQ:∀r w',dE w' Tu 1 Xa r (t.bI.map LW)->aL w w'->(∀b,r.b=some b->w.heap.size<=b.block)->Q r w'):zN (some ⟨a,0,none⟩) w Q:=by
 unfold zN;obtain⟨m1,m2,ng,h⟩:=h;refine aF (λh=>by simp at h) (λ_=>aA rfl (aE (k:=.map) (some m1) h.cells.2.1 ?_));have hm:=ok.fF;have hln:=ok.len;refine SortedB_i h.map1 (λx hx=>?_) aB λs1 ks w2 v2 k2 f2 LU GS kj=>?_
 ·obtain⟨p,hp⟩:=Mp.1 hx;obtain⟨e,he,hep,_⟩:=DH hp;have:=ok.aN e he;exact⟨aB,aB⟩
 have eks:ks=t.bI.map λe=>(e.aN:Int):=by
  refine sorted_eq LU ?_ λx=>?_
  ·rw[List.pairwise_map];exact ok.sY.imp λh=>aB
  ·rw[GS]
   constructor
   ·intro hx;obtain⟨p,hp⟩:=Mp.1 hx;obtain⟨e,he,hep,_⟩:=DH hp;exact mQ.2 ⟨e,he,hep⟩
   ·intro hx;obtain⟨e,he,rfl⟩:=mQ.1 hx;rw[PM ok he];rfl
 subst eks;have sl:=v2.len;rw[lT] at sl;have o1:=v2.rd eY;refine bK (λn tt w3=>∃(i:Nat) (r:Sl),i<=t.bI.length/\n=t.bI.length-i/\tt=(r,(i:Int),())/\dE w3 Tu 1 Xa r ((t.bI.take i).map LW)/\aL w2 w3/\∀b,r.b=some b->w2.heap.size<=b.block) t.bI.length
  ⟨0,bD,cY _,rfl,rfl,dE.nil _ _ _ _,aU.refl _ _,λb hb=>by cases hb⟩ ?_
 rintro n tt w3 ⟨i,r,hi,rfl,rfl,v3,k3,f3⟩ X hX;dsimp only;refine aI (λcD=>?_) (λkF=>?_)
 ·have dL:i<t.bI.length:=aB;have cI:=cL dL;have gG:=oF dL;have sZ:=oH dL;generalize t.bI[i]=e at*;obtain⟨q,hq,cq⟩:=bR (k:=.i) (e:=λx=>x) (o1.aK k3 cU λ_ _=>id) (show(t.bI.map λe=>(e.aN:Int))[i]? =some (e.aN:Int) by rw[oG,cI];rfl);have h3:=bJ.kp h (k2.tr k3);rw[dU,pI i aB];refine⟨⟨aB,cD⟩,aA hq (aE (k:=.i) (e.aN:Int) cq (aA rfl (aE (k:=.map) (some m1) h3.cells.2.1 ?_)))⟩;refine BZ (kn:=rK) OW lV (z:=(none:cW)) ET h3.map1 (e.aN:Int) ?_;have hg:(tI t.bI (e.aN:Int)).getD (none:cW)=LW e:=by rw[PM ok gG];rfl
  rw[hg];refine cM (cs:=Xa (LW e)) λw4 b4 k4 z4=>?_;refine fH YP MW onePt (x:=⟨some ⟨w3.heap.size,0,none⟩,1,1⟩) (v3.aK k4 λ_ _=>id) (lU MW [LW e] b4 rfl dP) (by simp;omega) (by simp;omega) λr' w5 v5 m5 hr5 _=>?_;refine hX _ _ _ aB ⟨i+1,r',dL,rfl,rfl,by rw[sZ,xF];exact v5,(k3.tr k4).fresh m5 λk ⟨b,hb,e⟩=>by rw[e];exact f3 b hb,λb hb=>?_⟩;rcases hr5 with h|⟨b',h,h2⟩
  ·exact f3 b (h.symm.trans hb)
  ·rw[hb] at h;cases h;have:=(k3.tr k4).size;omega
 ·have ei:i=t.bI.length:=aB;subst ei;rw[oV] at v3;exact hQ r w3 v3 (k2.tr k3) λb hb=>by have:=f3 b hb;have:=k2.size;omega
def TGet_i{aN:Nat}{aM:Int}{Q:cW->aH->Prop}(h:DV a t w S)(ok:t.Ok)(hQ1:∀e∈t.bI,e.aN=aN->e.aM=aM->Q (LW e) w)(hQ0:(∀e∈t.bI,¬(e.aN=aN/\e.aM=aM))->Q none w):
  YD (some ⟨a,0,none⟩) (aN:Int) aM w Q:=by
 unfold YD;have h0:=h;obtain⟨m1,m2,ng,h⟩:=h;refine aF (λh=>by simp at h) (λ_=>aA rfl (aE (k:=.map) (some m1) h.cells.2.1 ?_));refine BZ (kn:=rK) OW lV (z:=(none:cW)) ET h.map1 (aN:Int) ?_;cases hf:tI t.bI (aN:Int) with
 |none=>refine aF (λh=>(by have h':(false:Bool)=true:=h;cases h')) (λ_=>hQ0 λe he hh=>?_);have:=PM ok he;rw[hh.1,hf] at this;cases this
 |some p=>obtain⟨e,he,hep,rfl⟩:=DH hf;refine aF (λ_=>?_) (λh=>(by have h':(true:Bool)=false:=h;cases h'));refine aA rfl (aE (k:=.i) e.aM (dR (h0.VT he).1 rfl) (aF (λhc=>hQ1 e he aB (by simpa using hc)) (λhc=>hQ0 λf hfm hh=>?_)));have:f=e:=ok.inj hfm he aB;rw[this] at hh;rw[hh.2] at hc;simp at hc
def tD.vQ(t:tD)(aN:Nat)(aM:Int):Int:=
 if aM<=t.grI (aN:Int) then 6 else if t.fF<=t.bI.length/\∀e∈t.bI,e.aN≠aN then 5 else 0
def TMay_i{aN:Nat}{aM:Int}{Q:Int->aH->Prop}(h:DV a t w S)(ok:t.Ok)(hp:aN<16)(hc:1<=aM/\aM<=2147483648)(hQ:∀w',aL w w'->Q (t.vQ aN aM) w'):NW (some ⟨a,0,none⟩) (aN:Int) aM w Q:=by
 unfold NW;obtain⟨m1,m2,ng,h⟩:=h;intro J1 OV;refine aF (λh=>by simp at h) (λ_=>aI (λh=>aB) (λ_=>aI (λh=>aB) (λ_=>aI (λh=>aB) (λ_=>?_))));rw[decide_eq_false aB];apply OV;refine aF (λh=>by cases h) (λ_=>aA rfl (aE (k:=.map) (some m2) h.cells.2.2 ?_));refine BZ (kn:=Mh) pN lV (z:=(0:Int)) NI h.map2 (aN:Int) ?_;unfold tD.vQ at hQ;obtain⟨gv,je⟩:∃gv:Int,(t.gr (aN:Int)).getD (0:Int)=gv:=⟨_,rfl⟩;have hgv':t.grI (aN:Int)=gv:=je;rw[hgv'] at hQ;rw[je];refine aI (λLV=>?_) (λLV=>?_)
 ·have:=hQ w (aU.refl _ _);rwa[if_pos LV] at this
 have hd:=bJ.dr h;have kd:=cB w;refine aA rfl (aE (k:=.map) (some m1) hd.cells.2.1 (aA rfl (aE (k:=.i) (t.fF:Int) hd.cells.1 (Zk OW hd.map1 ⟨hd.cells.1,?_⟩))));have hQ':=hQ w.drew kd;rw[if_neg LV] at hQ';refine aI (λkF=>aA rfl (aE (k:=.map) (some m1) hd.cells.2.1 ?_)) (λkF=>?_)
 ·refine BZ (kn:=rK) OW lV (z:=(none:cW)) ET hd.map1 (aN:Int) ?_;cases hf:tI t.bI (aN:Int) with
  |none=>refine aF (λ_=>?_) (λh=>(by have h':(true:Bool)=false:=h;cases h'));rw[if_pos ⟨aB,λe he Rm=>by have:=PM ok he;rw[Rm,hf] at this;cases this⟩] at hQ';exact hQ'
  |some p=>obtain⟨e,he,hep,rfl⟩:=DH hf;refine aF (λh=>(by have h':(false:Bool)=true:=h;cases h')) (λ_=>?_);rw[if_neg λhh=>hh.2 e he aB] at hQ';exact hQ'
 ·rw[if_neg λhh=>aB] at hQ';exact hQ'
end
end
section
def TabX(a m1 m2 ng n:Nat)(f:Int->Option rK.T)(t:tD):As:=bL (tE a ny [aD (t.fF:Int),.map (some m1),.map (some m2)]) (bL (vL m1 FQ rK f n) (bL (vL m2 FQ Mh t.gr ng) (xA JZ t.bI)))
instance{a m1 m2 ng n:Nat}{f:Int->Option rK.T}{t:tD}:bJ (TabX a m1 m2 ng n f t):=by unfold TabX;infer_instance
abbrev LO(l:List dF):Prop:=l.Pairwise λe f=>e.aN<f.aN
def yq{l:List dF}(h:LO l){e f:dF}(he:e∈l)(hf:f∈l)(hp:e.aN=f.aN):e=f:=by
 induction l with
 |nil=>cases he
 |cons x r ih=>
  rw[LO,List.pairwise_cons] at h;rcases jQ.1 he with e1|vI<;>rcases jQ.1 hf with e2|ZC
  ·rw[e1,e2]
  ·have:=h.1 f ZC;rw[e1] at hp;omega
  ·have:=h.1 e vI;rw[e2] at hp;omega
  ·exact ih h.2 vI ZC
def XW{l:List dF}(h:LO l){x:Int}{p:rK.T}:tI l x=some p↔∃e∈l,(e.aN:Int)=x/\p=LW e:=by
 refine⟨DH,λ⟨e,he,hx,hp⟩=>?_⟩;cases hf:tI l x with
 |none=>have:=List.find?_eq_none.1 (Option.map_eq_none_iff.1 hf) e he;simp[hx] at this
 |some q=>obtain⟨f,hfm,hfx,rfl⟩:=DH hf;rw[hp,yq h hfm he aB]
def Jg{l:List dF}(hl:LO l){f:Int->Option rK.T}(h:∀x p,f x=some p↔∃e∈l,(e.aN:Int)=x/\p=LW e)(x:Int):tI l x=f x:=by
 apply Option.ext;intro p;rw[XW hl,h]
def Cm{l:List dF}{x:Int}:(tI l x).isSome=true↔∃e∈l,(e.aN:Int)=x:=by
 constructor
 ·intro h;obtain⟨p,hp⟩:=Mp.1 h;obtain⟨e,he,hx,_⟩:=DH hp;exact⟨e,he,hx⟩
 ·rintro⟨e,he,hx⟩;cases hf:tI l x with
  |some p=>rfl
  |none=>have:=List.find?_eq_none.1 (Option.map_eq_none_iff.1 hf) e he;simp[hx] at this
def Qd{w:aH}{r n:Nat}{l:List dF}(hl:LO l)(h:kT w r FQ rK (tI l) n):n=l.length:=by
 obtain⟨ks,h1,h2,h3⟩:=h.Xi;have e1:(l.map λe=>(e.aN:Int)).Nodup:=by
  have:(l.map λe=>(e.aN:Int)).Pairwise (·<·):=by rw[List.pairwise_map];exact hl.imp λh=>aB
  exact this.imp λh e=>aB
 have:=((List.perm_ext_iff_of_nodup h1 e1).2 λx=>by rw[h3,Cm,mQ]).length_eq;rw[lT] at this;omega
def Gy(e:dF)(l:List dF):List dF:=(l.filter λf=>decide (f.aN<e.aN))++e::(l.filter λf=>!decide (f.aN<e.aN)).filter λf=>decide (e.aN<f.aN)
def oldE(p:Nat)(l:List dF):List dF:=(l.filter λf=>!decide (f.aN<p)).filter λf=>!decide (p<f.aN)
def pD{e f:dF}{l:List dF}:f∈Gy e l↔f=e\/(f∈l/\f.aN≠e.aN):=by
 unfold Gy;simp only[kK,jR,jQ,decide_eq_true_eq,Bool.not_eq_true',decide_eq_false_iff_not]
 constructor
 ·rintro(⟨h1,h2⟩|h|⟨⟨h1,h2⟩,h3⟩)
  ·exact .inr ⟨h1,aB⟩
  ·exact .inl h
  ·exact .inr ⟨h1,aB⟩
 ·rintro(h|⟨h1,h2⟩)
  ·exact .inr (.inl h)
  ·by_cases h:f.aN<e.aN
   ·exact .inl ⟨h1,h⟩
   ·exact .inr (.inr ⟨⟨h1,h⟩,aB⟩)
def Iq{e:dF}{l:List dF}(h:LO l):LO (Gy e l):=by
 unfold Gy LO;rw[List.pairwise_append,List.pairwise_cons];refine⟨h.filter _,⟨λf hf=>by simp at hf;omega,(h.filter _).filter _⟩,λa ha b hb=>?_⟩;simp at ha hb;rcases hb with rfl|⟨_,hb⟩
 ·exact ha.2
 ·omega
def oldE_mem{p:Nat}{f:dF}{l:List dF}:f∈oldE p l↔f∈l/\f.aN=p:=by
 unfold oldE;simp only[jR,Bool.not_eq_true',decide_eq_false_iff_not]
 constructor
 ·rintro⟨⟨h1,h2⟩,h3⟩;exact⟨h1,aB⟩
 ·rintro⟨h1,h2⟩;exact⟨⟨h1,aB⟩,aB⟩
def Xm(p:Nat)(l:List dF):Bool:=l.any λe=>decide (e.aN=p)
def hasP_snoc{p:Nat}{l:List dF}{e:dF}:Xm p (l++[e])=(Xm p l ||decide (e.aN=p)):=by unfold Xm;rw[List.any_append];simp
def hasP_iff{p:Nat}{l:List dF}:Xm p l=true↔∃e∈l,e.aN=p:=by unfold Xm;simp
def tD.add(t:tD)(e:dF):tD:=⟨t.fF,Gy e t.bI,λy=>if y=(e.aN:Int) then some e.aM else t.gr y⟩
def tD.drop(t:tD)(p:Nat):tD:=⟨t.fF,t.bI.filter λf=>!decide (f.aN=p),t.gr⟩
def XJ{α:Type}{f:α->As}:∀{l m:List α} {w:aH} {S:BS},bL (xA f l) (xA f m) w S->xA f (l++m) w S
 | [],m,w,S,⟨S1,S2,h1,h2,d,e⟩=>As.ext h2 λk=>by
   rw[e k];exact⟨.inr,λh=>h.elim (λh=>absurd h (h1 k)) id⟩
 |x::l,m,w,S,h=>by
  have h':bL (f x) (bL (xA f l) (xA f m)) w S:=bL.asr h;exact h'.mono (λ_ h=>h) λ_ h=>XJ h
section
variable{w:aH}{S:BS}{a:Nat}{t:tD}
def TNew_i'{fF:Nat}{Q:cW->Int->aH->Prop}(hm:1<=fF/\fF<=16)(hQ:∀g w' S',DV g ⟨fF,[],λ_=>none⟩ w' S'->aL w w'->(∀k,S' k->w.heap.size<=k)->Q (some ⟨g,0,none⟩) 0 w'):FE (fF:Int) w Q:=by
 unfold FE;refine aI (λh=>aB) (λ_=>aI (λh=>aB) (λ_=>?_));refine rN (ek:=FQ) (kn:=rK) λuw k1=>rN (ek:=FQ) (kn:=Mh) λki k2=>?_;have z1:(w.alloc (.map #[] 0)).heap.size=w.heap.size+1:=by simp[World.alloc_eq]
 generalize w.alloc (.map #[] 0)=w1 at*;have z2:(w1.alloc (.map #[] 0)).heap.size=w1.heap.size+1:=by simp[World.alloc_eq]
 generalize w1.alloc (.map #[] 0)=w2 at*;refine cM (cs:=[aD (fF:Int),.map (some w.heap.size),.map (some w1.heap.size)]) λw3 b3 k3 z3=>?_;have a1:vL w.heap.size FQ rK (tI []) 0 w3 (λk=>k=w.heap.size):=⟨(uw.aK k2 id).aK k3 id,λ_=>Iff.rfl⟩;have a2:vL w1.heap.size FQ Mh (λ_=>none) 0 w3 (λk=>k=w1.heap.size):=⟨ki.aK k3 id,λ_=>Iff.rfl⟩;refine hQ _ w3 _ ⟨w.heap.size,w1.heap.size,0,bL.yH b3 (bL.yH a1 (bL.emp a2) λk h1 h2=>?_) λk h1 h2=>?_⟩ ((k1.tr k2).tr k3) λk hk=>?_
 ·have h1':k=w.heap.size:=h1;omega
 ·have h1':k=w2.heap.size:=h1;rcases h2 with h2|h2
  ·have h2':k=w.heap.size:=h2;omega
  ·have h2':k=w1.heap.size:=h2;omega
 ·rcases hk with h|h|h
  ·have h':k=w2.heap.size:=h;omega
  ·have h':k=w.heap.size:=h;omega
  ·have h':k=w1.heap.size:=h;omega
def tD.may0{t:tD}{aN:Nat}{aM:Int}(h:t.vQ aN aM=0):t.grI (aN:Int)<aM/\¬(t.fF<=t.bI.length/\∀e∈t.bI,e.aN≠aN):=by
 unfold tD.vQ at h
 split at h
 ·omega
 ·split at h
  ·omega
  ·exact⟨aB,by assumption⟩
def tD.Ok.add{t:tD}(ok:t.Ok){e:dF}(hp:e.aN<16)(gL:(Gy e t.bI).length<=t.fF):(t.add e).Ok:=
 ⟨ok.fF,gL,Iq ok.sY,λf hf=>(pD.1 hf).elim (λh=>by rw[h];exact hp) λh=>ok.aN f h.1⟩
def tD.Ok.drop{t:tD}(ok:t.Ok)(p:Nat):(t.drop p).Ok:=
 ⟨ok.fF,jB (xG _ _) ok.len,ok.sY.filter _,λf hf=>ok.aN f (jR.1 hf).1⟩
def TAdd_i{e:dF}{Q:Int->aH->Prop}(h:bL (DV a t) (JZ e) w S)(ok:t.Ok)(hp:e.aN<16)(hc:1<=e.aM/\e.aM<=2147483648)(hm:t.vQ e.aN e.aM=0)
  (hQ:∀w' S',bL (DV a (t.add e)) (xA JZ (oldE e.aN t.bI)) w' S'->Up S S' w w'->(t.add e).Ok->Q 0 w'):NX (some ⟨a,0,none⟩) (LW e) w Q:=by
 unfold NX;have hd:=bJ.dr h;have cE:∀{wx:aH} {Sx:BS},bL (DV a t) (JZ e) wx Sx->wx.cell? ((⟨e.a,0,none⟩:Addr).add 0)=some (aD (e.aN:Int))/\wx.cell? ((⟨e.a,0,none⟩:Addr).add 1)=some (aD e.aM):=λhx=>by
  obtain⟨S1,S2,_,h2,_⟩:=hx;exact⟨aP h2 rfl,aP h2 rfl⟩
 refine aF (λh=>by simp at h) (λ_=>aF (λh=>by simp at h) (λ_=>aA rfl (aE (k:=.i) (e.aN:Int) (cE hd).1 (aA rfl (aE (k:=.i) e.aM (cE hd).2 ?_)))));obtain⟨Sx,hx,_,_⟩:=(bL.l hd).put;refine TMay_i hx ok hp hc λw1 k1=>?_;rw[hm];refine aF (λh=>by cases h) (λ_=>?_);have K:=((cB w).tr k1).tr (cB w1);have h1:=bJ.kp h K;obtain⟨SA,SE,⟨m1,m2,ng,hA⟩,hE,dAE,eAE⟩:=h1;have cA:=hA.cells;have c1:w1.drew.cell? ((⟨e.a,0,none⟩:Addr).add 0)=some (aD (e.aN:Int)):=aP hE rfl;have c2:w1.drew.cell? ((⟨e.a,0,none⟩:Addr).add 1)=some (aD e.aM):=aP hE rfl;refine aA rfl (aE (k:=.map) (some m1) cA.2.1 (aA rfl (aE (k:=.i) (e.aN:Int) c1 (aA rfl (aE (k:=.map) (some m2) cA.2.2 (aA rfl (aE (k:=.i) (e.aN:Int) c1 (aA rfl (aE (k:=.i) e.aM c2 ?_)))))))));have h2:bL (ZT a m1 m2 ng t) (JZ e) w1.drew S:=⟨SA,SE,hA,hE,dAE,eAE⟩;obtain⟨S3,h3,_,Hw⟩:=((bL.l h2).c λT hT=>(bL.r hT).c λT hT=>bL.l hT).put;refine Ui (kn:=rK) OW lV (z:=(none:cW)) ET h3.1 (e.aN:Int) (LW e) λw3 hm3 mm3 _=>?_;obtain⟨S4,h4,u4⟩:=Hw (vL m1 FQ rK (λy=>if y=(e.aN:Int) then some (LW e) else tI t.bI y) (if(tI t.bI (e.aN:Int)).isSome then t.bI.length else t.bI.length+1)) w3 S3 (Up.at (mm3.mono λk _ hk=>(h3.2 k).2 hk)) ⟨hm3,h3.2⟩
 obtain⟨S5,h5,_,back5⟩:=((bL.l h4).c λT hT=>(bL.r hT).c λT hT=>(bL.r hT).c λT hT=>bL.l hT).put;refine Ui (kn:=Mh) pN lV (z:=(0:Int)) NI h5.1 (e.aN:Int) e.aM λw5 hm5 mm5 _=>?_;obtain⟨S6,h6,u6⟩:=back5 (vL m2 FQ Mh (λy=>if y=(e.aN:Int) then some e.aM else t.gr y) (if(t.gr (e.aN:Int)).isSome then ng else ng+1)) w5 S5 (Up.at (mm5.mono λk _ hk=>(h5.2 k).2 hk)) ⟨hm5,h5.2⟩
 have sY:=ok.sY;have hf:∀x,tI (Gy e t.bI) x=(λy=>if y=(e.aN:Int) then some (LW e) else tI t.bI y) x:=λx=>by
  refine Jg (f:=λy=>if y=(e.aN:Int) then some (LW e) else tI t.bI y) (Iq sY) (λx p=>?_) x
  by_cases hx:x=(e.aN:Int)
  ·rw[if_pos hx]
   constructor
   ·intro h;cases h;exact⟨e,pD.2 (.inl rfl),hx.symm,rfl⟩
   ·rintro⟨f,hf,hfx,rfl⟩;rcases pD.1 hf with rfl|⟨_,gQ⟩
    ·rfl
    ·exact absurd aB gQ
  ·rw[if_neg hx,XW sY]
   constructor
   ·rintro⟨f,hf,hfx,rfl⟩;exact⟨f,pD.2 (.inr ⟨hf,λh=>hx (by rw[<-hfx,h])⟩),hfx,rfl⟩
   ·rintro⟨f,hf,hfx,rfl⟩;rcases pD.1 hf with rfl|⟨hf,_⟩
    ·exact absurd hfx.symm hx
    ·exact⟨f,hf,hfx,rfl⟩
 obtain⟨SY,SZ,⟨SB,SR,hB,⟨SM,SQ,hM,⟨SG,SL,hG,hL,dGL,eGL⟩,dM,eM⟩,dB,eB⟩,hE6,dYZ,eYZ⟩:=h6;have hM':=hM.1.congr hf rfl;have hn:=Qd (Iq sY) hM';have gL:(Gy e t.bI).length<=t.fF:=by
  have hm0:=(tD.may0 hm).2;rw[<-hn]
  split
  ·exact ok.len
  ·rename_i hns
   apply Nat.succ_le_of_lt;apply Nat.lt_of_not_le;intro LV;exact hm0 ⟨LV,λf hf Rm=>hns (Cm.2 ⟨f,hf,aB⟩)⟩
 have Rl:(t.add e).Ok:=ok.add hp gL;obtain⟨L1,L2,f1,f2,d12,e12⟩:=xA.filter (λf=>decide (f.aN<e.aN)) hL;obtain⟨L3,L4,f3,f4,d34,Xb⟩:=xA.filter (λf=>decide (e.aN<f.aN)) f2;have oL:∀k,L1 k\/L3 k\/L4 k->SL k:=λk hk=>(e12 k).2 (hk.imp id λh=>(Xb k).2 h);have hEL:∀k,SZ k->SL k->False:=λk hz hl=>dYZ k ((eB k).2 (.inr ((eM k).2 (.inr ((eGL k).2 (.inr hl)))))) hz;have hIns:xA JZ (Gy e t.bI) w5 (λk=>L1 k\/(SZ k\/L3 k)):=XJ (bL.yH f1 (show xA JZ (e::_) w5 _ from bL.yH hE6 f3 λk h1 h2=>hEL k h1 (oL k (.inr (.inl h2)))) λk h1 h2=>h2.elim (λh=>hEL k h (oL k (.inl h1))) λh=>d12 k h1 ((Xb k).2 (.inl h)));have inS6:∀k,SB k\/SM k\/SG k\/SL k\/SZ k->S6 k:=λk hk=>(eYZ k).2 (by
  rcases hk with h|h|h|h|h
  ·exact .inl ((eB k).2 (.inl h))
  ·exact .inl ((eB k).2 (.inr ((eM k).2 (.inl h))))
  ·exact .inl ((eB k).2 (.inr ((eM k).2 (.inr ((eGL k).2 (.inl h))))))
  ·exact .inl ((eB k).2 (.inr ((eM k).2 (.inr ((eGL k).2 (.inr h))))))
  ·exact .inr h)
 have notZ:∀k,SB k\/SM k\/SG k->(SL k\/SZ k)->False:=λk hk hl=>by
  rcases hl with hl|hl
  ·rcases hk with h|h|h
   ·exact dB k h ((eM k).2 (.inr ((eGL k).2 (.inr hl))))
   ·exact dM k h ((eGL k).2 (.inr hl))
   ·exact dGL k h hl
  ·refine dYZ k ((eB k).2 ?_) hl;rcases hk with h|h|h
   ·exact .inl h
   ·exact .inr ((eM k).2 (.inl h))
   ·exact .inr ((eM k).2 (.inr ((eGL k).2 (.inl h))))
 have lz:∀k,L1 k\/(SZ k\/L3 k)->SL k\/SZ k:=λk hk=>by
  rcases hk with h|h|h
  ·exact .inl (oL k (.inl h))
  ·exact .inr h
  ·exact .inl (oL k (.inr (.inl h)))
 have hT:DV a (t.add e) w5 (λk=>SB k\/(SM k\/(SG k\/(L1 k\/(SZ k\/L3 k))))):=
  ⟨m1,m2,_,bL.yH hB (bL.yH ⟨by rw[hn] at hM';exact hM',hM.2⟩ (bL.yH hG hIns λk h1 h2=>notZ k (.inr (.inr h1)) (lz k h2)) λk h1 h2=>h2.elim (λh=>dM k h1 ((eGL k).2 (.inl h))) λh=>notZ k (.inr (.inl h1)) (lz k h)) λk h1 h2=>by
   rcases h2 with h|h|h
   ·exact dB k h1 ((eM k).2 (.inl h))
   ·exact dB k h1 ((eM k).2 (.inr ((eGL k).2 (.inl h))))
   ·exact notZ k (.inl h1) (lz k h)⟩
 refine hQ w5 _ (bL.yH hT f4 λk h1 h2=>?_) ⟨(((Up.aO K).tr u4).tr u6).m,λk hk=>(((Up.aO K).tr u4).tr u6).s k (inS6 k ?_)⟩ Rl
 ·have h4L:=oL k (.inr (.inr h2));rcases h1 with h|h|h|h|h|h
  ·exact notZ k (.inl h) (.inl h4L)
  ·exact notZ k (.inr (.inl h)) (.inl h4L)
  ·exact notZ k (.inr (.inr h)) (.inl h4L)
  ·exact d12 k h ((Xb k).2 (.inr h2))
  ·exact hEL k h h4L
  ·exact d34 k h h2
 ·rcases hk with(h|h|h|h|h|h)|h
  ·exact .inl h
  ·exact .inr (.inl h)
  ·exact .inr (.inr (.inl h))
  ·exact .inr (.inr (.inr (.inl (oL k (.inl h)))))
  ·exact .inr (.inr (.inr (.inr h)))
  ·exact .inr (.inr (.inr (.inl (oL k (.inr (.inl h))))))
  ·exact .inr (.inr (.inr (.inl (oL k (.inr (.inr h))))))
def TDrop_i{p:Nat}{RJ:Sl}{Q:Sl->aH->Prop}(h:DV a t w S)(ok:t.Ok)(hr:Rd w RJ 1 eI [(p:Int)])(ho:JM RJ S w)
  (hQ:∀r w' S',bL (DV a (t.drop p)) (xA JZ (t.bI.filter λf=>decide (f.aN=p))) w' S'->Up S S' w w'->Q r w'):xZ (some ⟨a,0,none⟩) RJ w Q:=by
 unfold xZ;refine Ik h ok λs1 w1 v1 k1 f1=>?_;have bd:=bJ.iF h;obtain⟨m1,m2,ng,h0⟩:=bJ.kp h k1;have sl:=v1.len;have ol:=ok.len;have om:=ok.fF;rw[lT] at sl;have o1:JM s1 S w1:=λb hb=>⟨λhk=>by have:=bd _ hk;have:=f1 b hb;omega,v1.lt hb⟩;refine bK (λn tt w3=>∃(i:Nat) (r:Sl) (f:Int->Option rK.T) (nf:Nat),i<=t.bI.length/\n=t.bI.length-i/\tt=(r,(i:Int),())/\TabX a m1 m2 ng nf f t w3 S/\aU S w w3/\(∀y,f y=if y=(p:Int)/\Xm p (t.bI.take i)=true then none else tI t.bI y)/\(∃xs,dE w3 Tu 1 Xa r xs/\xs.length<=i)/\(∀b,r.b=some b->w1.heap.size<=b.block)/\Rd w3 s1 1 Xa (t.bI.map LW)/\w1.heap.size<=w3.heap.size/\Rd w3 RJ 1 eI [(p:Int)]) t.bI.length
  ⟨0,bD,tI t.bI,t.bI.length,cY _,rfl,rfl,h0,k1.wk,λy=>(by rw[if_neg];rintro⟨_,he⟩;cases he),⟨[],dE.nil _ _ _ _,dN _⟩,λb hb=>(by cases hb),v1.rd MW,dN _,hr.aK k1 cU λ_ _=>id⟩ ?_
 rintro n tt w3 ⟨i,r,f,nf,hi,rfl,rfl,h3,m3,hf,⟨xs,v3,ZG⟩,f3,r3,z3,p3⟩ X hX;dsimp only;refine aI (λcD=>?_) (λkF=>?_)
 ·have dL:i<t.bI.length:=aB;have cI:=cL dL;have gG:=oF dL;have sZ:=oH dL;generalize t.bI[i]=e at*;obtain⟨q,hq,cq⟩:=bR (k:=.ptr) (e:=λx=>x) r3 (show(t.bI.map LW)[i]? =some (LW e) by rw[oG,cI];rfl);rw[dU,pI i aB];refine⟨⟨aB,cD⟩,aA hq (aE (k:=.ptr) (LW e) cq (aA rfl ?_))⟩;have cP:∀{wx},TabX a m1 m2 ng nf f t wx S->wx.cell? ((⟨e.a,0,none⟩:Addr).add 0)=some (aD (e.aN:Int))/\wx.cell? ((⟨a,0,none⟩:Addr).add 1)=some (.map (some m1)):=λhx=>by
   obtain⟨S1,_,hb,⟨_,_,_,⟨_,_,_,hL,_⟩,_⟩,_⟩:=hx;obtain⟨S2,he2,_⟩:=xA.get hL gG;exact⟨aP he2 rfl,aP hb rfl⟩
  refine aE (k:=.i) (e.aN:Int) (cP h3).1 ?_;unfold gY;refine al p3 dP λj w4 k4 hj=>?_;have Yh:∀y,(if y=(p:Int)/\Xm p (t.bI.take (i+1))=true then none else tI t.bI y)=if e.aN=p/\y=(p:Int) then none else f y:=λy=>by
   rw[hf y,sZ,hasP_snoc]
   by_cases hy:y=(p:Int)
   ·by_cases hep:e.aN=p
    ·rw[if_pos ⟨hy,by simp[hep]⟩,if_pos ⟨hep,hy⟩]
    ·rw[if_neg (c:=e.aN=p/\_) (λh=>hep h.1),decide_eq_false hep,Bool.or_false]
   ·rw[if_neg (λh=>hy h.1),if_neg (λh=>hy h.2),if_neg (λh=>hy h.1)]
  have bd4:∀k,S k->k<w1.heap.size:=λk hk=>pP (bd k hk) k1.size;refine aI (λhj0=>?_) (λhj0=>?_)
  ·have hep:e.aN=p:=by have:=hj.1 hj0;simp at this;omega
   have h4:=bJ.kp h3 (k4.tr (cB w4));have c4:=cP h4;refine aA rfl (aE (k:=.map) (some m1) c4.2 (aA rfl (aE (k:=.i) (e.aN:Int) c4.1 ?_)));obtain⟨SB,SR,hB,⟨SM,SQ,hM,hGL,dM,eM⟩,dB,eB⟩:=h4;refine Zm OW lV hM (e.aN:Int) λw5 hM5 u5=>?_;have h5:TabX a m1 m2 ng (if(f (e.aN:Int)).isSome then nf-1 else nf) (λy=>if y=(e.aN:Int) then none else f y) t w5 S:=⟨SB,SR,bJ.aK hB u5.m λk h1 h2=>dB k h1 ((eM k).2 (.inl h2)),⟨SM,SQ,hM5,bJ.aK hGL u5.m λk h1 h2=>dM k h2 h1,dM,eM⟩,dB,eB⟩
   have mS:aU S w4.drew w5:=u5.m.mono λk _ hk=>(eB k).2 (.inr ((eM k).2 (.inl hk)));have K4:=k4.tr (cB w4);have r4:=(r3.aK K4 UL λ_ _=>id).aK mS UL λb hb=>(o1 b hb).1;have p4:=(p3.aK K4 cU λ_ _=>id).aK mS cU λb hb=>(ho b hb).1;have v4:=(v3.aK K4 λ_ _=>id).aK mS λb hb hs=>by have:=bd4 _ hs;have:=f3 b hb;omega
   have zz:w3.heap.size<=w5.heap.size:=jB K4.size mS.size;refine cM (cs:=Xa (LW e)) λw6 b6 k6 z6=>?_;refine fH YP MW onePt (x:=⟨some ⟨w5.heap.size,0,none⟩,1,1⟩) (v4.aK k6 λ_ _=>id) (lU MW [LW e] b6 rfl dP) (by simp;omega) (by simp;omega) λr' w7 v7 m7 hr7 _=>?_;have n7:∀k,(∃b,r.b=some b/\k=b.block)->w1.heap.size<=k:=λk ⟨b,hb,e⟩=>by rw[e];exact f3 b hb
   refine hX _ _ _ aB ⟨i+1,r',_,_,dL,rfl,rfl,bJ.aK (bJ.kp h5 k6) m7 λk hk hn=>by have:=bd4 k hk;have:=n7 k hn;omega,(((m3.trans K4.wk λ_ _ h=>h).trans mS λ_ _ h=>h).trans k6.wk λ_ _ h=>h).trans m7 λk hk hn=>by have:=n7 k hn;have:=k1.size;omega,λy=>?_,⟨_,v7,by simp;omega⟩,λb hb=>?_,((r4.aK k6 UL λ_ _=>id).aK m7 UL λb hb hn=>?_),?_,((p4.aK k6 cU λ_ _=>id).aK m7 cU λb hb hn=>?_)⟩
   ·rw[Yh y,hep];simp
   ·rcases hr7 with h|⟨b',h,h2⟩
    ·exact f3 b (h.symm.trans hb)
    ·rw[hb] at h;cases h;have:=k6.size;omega
   ·have:=n7 _ hn;have:=(o1 b hb).2;omega
   ·have:=k6.size;have:=m7.size;omega
   ·have:=n7 _ hn;have:=(ho b hb).2;have:=k1.size;omega
  ·have hep:¬e.aN=p:=λh=>hj0 (hj.2 (by simp;omega));refine hX _ _ _ aB ⟨i+1,r,f,nf,dL,rfl,rfl,bJ.kp h3 k4,m3.trans k4.wk λ_ _ h=>h,λy=>by rw[Yh y,if_neg λh=>hep h.1],⟨xs,v3.aK k4 λ_ _=>id,aB⟩,f3,r3.aK k4 UL λ_ _=>id,jB z3 k4.size,p3.aK k4 cU λ_ _=>id⟩
 ·have ei:i=t.bI.length:=aB;subst ei;have sY:LO t.bI:=ok.sY;have ZC:∀x,tI (t.drop p).bI x=f x:=λx=>by
   refine Jg (f:=f) (sY.filter _) (λx q=>?_) x;rw[hf x,oV]
   by_cases hx:x=(p:Int)/\Xm p t.bI=true
   ·rw[if_pos hx];refine⟨λh=>(by cases h),?_⟩;rintro⟨e,he,hex,_⟩;have:=(jR.1 he).2;simp at this;exact absurd aB this
   ·rw[if_neg hx,XW sY]
    constructor
    ·rintro⟨e,he,hex,rfl⟩;exact⟨e,jR.2 ⟨he,by simp;intro hp;exact hx ⟨aB,hasP_iff.2 ⟨e,he,hp⟩⟩⟩,hex,rfl⟩
    ·rintro⟨e,he,hex,rfl⟩;exact⟨e,(jR.1 he).1,hex,rfl⟩
  obtain⟨SB,SR,hB,⟨SM,SQ,hM,⟨SG,SL,hG,hL,dGL,eGL⟩,dM,eM⟩,dB,eB⟩:=h3;have hM':=hM.1.congr ZC rfl;have hn:=Qd (sY.filter _) hM';obtain⟨L1,L2,f1',f2,d12,e12⟩:=xA.filter (λf:dF=>decide (f.aN=p)) hL;refine hQ r w3 S ?_ (Up.at m3);have h1:bL (tE a ny [aD (t.fF:Int),.map (some m1),.map (some m2)]) (bL (vL m1 FQ rK (tI (t.drop p).bI) (t.drop p).bI.length) (bL (vL m2 FQ Mh t.gr ng) (bL (xA JZ (t.drop p).bI) (xA JZ (t.bI.filter λf=>decide (f.aN=p)))))) w3 S:=
   ⟨SB,SR,hB,⟨SM,SQ,⟨by rw[hn] at hM';exact hM',hM.2⟩,⟨SG,SL,hG,⟨L2,L1,f2,f1',λk a b=>d12 k b a,λk=>(e12 k).trans Or.comm⟩,dGL,eGL⟩,dM,eM⟩,dB,eB⟩
  have h2:bL (ZT a m1 m2 ng (t.drop p)) (xA JZ (t.bI.filter λf=>decide (f.aN=p))) w3 S:=
   (bL.mono h1 (λ_ h=>h) λ_ h=>(bL.mono h (λ_ h=>h) λ_ h=>bL.asl h).asl).asl
  exact h2.mono (λ_ h=>⟨m1,m2,ng,h⟩) λ_ h=>h
end
end
open Tryz (prog)
section
set_option linter.unusedSectionVars false
inductive F2{α β:Type}(R:α->β->Prop):List α->List β->Prop
 |nil:F2 R [] []
 |cons {a b l m}:R a b->F2 R l m->F2 R (a::l) (b::m)
section
variable{α β:Type}{R:α->β->Prop}
def F2.len{l:List α}{m:List β}(h:F2 R l m):l.length=m.length:=by
 induction h with
 |nil=>rfl
 |cons _ _ ih=>simp[ih]
def F2.app{l l':List α}{m m':List β}(h:F2 R l m)(h':F2 R l' m'):F2 R (l++l') (m++m'):=by
 induction h with
 |nil=>exact h'
 |cons a _ ih=>exact .cons a ih
def F2.one{a:α}{b:β}(h:R a b):F2 R [a] [b]:=.cons h .nil
def F2.mem{l:List α}{m:List β}(h:F2 R l m){b:β}(hb:b∈m):∃a∈l,R a b:=by
 induction h with
 |nil=>cases hb
 |cons r _ ih=>
  rcases jQ.1 hb with rfl|hb
  ·exact⟨_,by simp,r⟩
  ·obtain⟨a,ha,h⟩:=ih hb;exact⟨a,by simp[ha],h⟩
end
class Bv {β:Type} (eb:β->gJ):Prop where
 ne:∀x,eb x≠[]
instance:Bv eU:=⟨fV⟩
instance:Bv eI:=⟨cU⟩
structure fO{α β:Type}(eb:β->gJ)(ty:fL)(n:Nat)(aY:α×Sl->gJ)(AH:α->List β)(lo:Nat)(S:BS)(w:aH)(r:Sl)(ps:List α):Prop where
 ex:∃xs:List (α×Sl),xs.map (·.1)=ps/\dE w ty n aY r xs/\(∀b,r.b=some b->lo<=b.block/\¬S b.block)/\∀x∈xs,Rd w x.2 1 eb (AH x.1)/\∀b,x.2.b=some b->lo<=b.block/\¬S b.block/\b.block<w.heap.size/\∀b',r.b=some b'->b.block≠b'.block
def xK{α β:Type}(eb:β->gJ)(n:Nat)(aY:α×Sl->gJ)(AH:α->List β)(P:BS)(w:aH)(r:Sl)(ps:List α):=
 ∃xs:List (α×Sl),xs.map (·.1)=ps/\Rd w r n aY xs/\(∀b,r.b=some b->P b.block/\b.block<w.heap.size)/\∀x∈xs,Rd w x.2 1 eb (AH x.1)/\∀b,x.2.b=some b->P b.block/\b.block<w.heap.size
section
variable{α β:Type}{eb:β->gJ}[Bv eb]{ty sty:fL}{n:Nat}{aY:α×Sl->gJ}{AH:α->List β}{lo:Nat}{S S' P:BS}{w w':aH}{r:Sl}{ps:List α}
def fO.nil:fO eb ty n aY AH lo S w bD []:=⟨⟨[],rfl,dE.nil _ _ _ _,λb hb=>(by cases hb),λx hx=>(by cases hx)⟩⟩
def fO.aK{F:BS}(h:fO eb ty n aY AH lo S w r ps)(m:aU F w w')(hF:∀k,lo<=k->¬S k->k<w.heap.size->¬F k)(hS:∀k,¬S k->k<w.heap.size->¬S' k):fO eb ty n aY AH lo S' w' r ps:=by
 obtain⟨xs,h1,h2,h3,h4⟩:=h.ex;refine⟨xs,h1,h2.aK m λb hb=>hF _ (h3 b hb).1 (h3 b hb).2 (h2.lt hb),λb hb=>⟨(h3 b hb).1,hS _ (h3 b hb).2 (h2.lt hb)⟩,λx hx=>?_⟩;obtain⟨g1,g2⟩:=h4 x hx;exact⟨g1.aK m Bv.ne λb hb=>hF _ (g2 b hb).1 (g2 b hb).2.1 (g2 b hb).2.2.1,λb hb=>⟨(g2 b hb).1,hS _ (g2 b hb).2.1 (g2 b hb).2.2.1,pP (g2 b hb).2.2.1 m.size,(g2 b hb).2.2.2⟩⟩
def fO.up(h:fO eb ty n aY AH lo S w r ps)(u:Up S S' w w'):fO eb ty n aY AH lo S' w' r ps:=
 h.aK u.m (λ_ _ h _=>h) λk h1 h2 h3=>(u.s k h3).elim h1 λh=>aB
def fO.kp(h:fO eb ty n aY AH lo S w r ps)(k:aL w w'):fO eb ty n aY AH lo S w' r ps:=h.up (Up.aO k)
def fO.sub(h:fO eb ty n aY AH lo S w r ps)(hS:∀k,S' k->S k):fO eb ty n aY AH lo S' w r ps:=h.aK (aU.refl (λ_=>False) w) (λ_ _ _ _=>id) λk h1 _ h2=>h1 (hS k h2)
def fO.cov(h:fO eb ty n aY AH lo S w r ps)(hS:∀k,S' k->S k\/k<lo):fO eb ty n aY AH lo S' w r ps:=by
 obtain⟨xs,h1,h2,h3,h4⟩:=h.ex;have key:∀k,lo<=k->¬S k->¬S' k:=λk h1 h2 h3=>(hS k h3).elim h2 λh=>aB;exact⟨xs,h1,h2,λb hb=>⟨(h3 b hb).1,key _ (h3 b hb).1 (h3 b hb).2⟩,λx hx=>⟨(h4 x hx).1,λb hb=>⟨((h4 x hx).2 b hb).1,key _ ((h4 x hx).2 b hb).1 ((h4 x hx).2 b hb).2.1,((h4 x hx).2 b hb).2.2⟩⟩⟩
def fO.qT{lo':Nat}(h:fO eb ty n aY AH lo S w r ps)(hl:lo'<=lo):fO eb ty n aY AH lo' S w r ps:=by
 obtain⟨xs,h1,h2,h3,h4⟩:=h.ex;exact⟨xs,h1,h2,λb hb=>⟨jB hl (h3 b hb).1,(h3 b hb).2⟩,λx hx=>⟨(h4 x hx).1,λb hb=>⟨jB hl ((h4 x hx).2 b hb).1,((h4 x hx).2 b hb).2⟩⟩⟩
def fO.len(h:fO eb ty n aY AH lo S w r ps):r.l=ps.length:=by
 obtain⟨xs,rfl,h2,_⟩:=h.ex;rw[h2.len,lT]
def fO.rd(gI:∀x,(aY x).length=n)(h:fO eb ty n aY AH lo S w r ps):xK eb n aY AH (λk=>lo<=k/\¬S k) w r ps:=by
 obtain⟨xs,h1,h2,h3,h4⟩:=h.ex;exact⟨xs,h1,h2.rd gI,λb hb=>⟨h3 b hb,h2.lt hb⟩,λx hx=>⟨(h4 x hx).1,λb hb=>⟨⟨((h4 x hx).2 b hb).1,((h4 x hx).2 b hb).2.1⟩,((h4 x hx).2 b hb).2.2.1⟩⟩⟩
def xK.aK{F:BS}(gQ:∀x,aY x≠[])(h:xK eb n aY AH P w r ps)(m:aU F w w')(hF:∀k,P k->k<w.heap.size->¬F k):xK eb n aY AH P w' r ps:=by
 obtain⟨xs,h1,h2,h3,h4⟩:=h;exact⟨xs,h1,h2.aK m gQ λb hb=>hF _ (h3 b hb).1 (h3 b hb).2,λb hb=>⟨(h3 b hb).1,pP (h3 b hb).2 m.size⟩,λx hx=>⟨(h4 x hx).1.aK m Bv.ne λb hb=>hF _ ((h4 x hx).2 b hb).1 ((h4 x hx).2 b hb).2,λb hb=>⟨((h4 x hx).2 b hb).1,pP ((h4 x hx).2 b hb).2 m.size⟩⟩⟩
def xK.wk{P':BS}(h:xK eb n aY AH P w r ps)(hP:∀k,P k->k<w.heap.size->P' k):xK eb n aY AH P' w r ps:=by
 obtain⟨xs,h1,h2,h3,h4⟩:=h;exact⟨xs,h1,h2,λb hb=>⟨hP _ (h3 b hb).1 (h3 b hb).2,(h3 b hb).2⟩,λx hx=>⟨(h4 x hx).1,λb hb=>⟨hP _ ((h4 x hx).2 b hb).1 ((h4 x hx).2 b hb).2,((h4 x hx).2 b hb).2⟩⟩⟩
def xK.up(gQ:∀x,aY x≠[])(h:xK eb n aY AH (λk=>¬S k) w r ps)(u:Up S S' w w'):xK eb n aY AH (λk=>¬S' k) w' r ps:=by
 have h':xK eb n aY AH (λk=>¬S k/\k<w.heap.size) w r ps:=h.wk λk h1 h2=>⟨h1,h2⟩;exact(h'.aK gQ u.m λk h _=>h.1).wk λk h _ hs=>(u.s k hs).elim h.1 λhh=>aB
def xK.kp(gQ:∀x,aY x≠[])(h:xK eb n aY AH P w r ps)(k:aL w w'):xK eb n aY AH P w' r ps:=h.aK gQ k λ_ _ _=>id
def xK.len(h:xK eb n aY AH P w r ps):r.l=ps.length:=by
 obtain⟨xs,rfl,h2,_⟩:=h;rw[h2.len,lT]
def xK.get(h:xK eb n aY AH P w r ps){i:Nat}{x:α}(hx:ps[i]? =some x):∃a sl,r.b=some a/\bQ w (a.add (i*n)) 0 (aY (x,sl))/\Rd w sl 1 eb (AH x)/\∀b,sl.b=some b->P b.block/\b.block<w.heap.size:=by
 obtain⟨xs,rfl,h2,h3,h4⟩:=h;rw[oG] at hx;cases hy:xs[i]? with
 |none=>rw[hy] at hx;cases hx
 |some y=>rw[hy] at hx;obtain⟨x',sl⟩:=y;cases hx;obtain⟨a,ha,hh⟩:=h2.get i _ hy;have:=h4 _ (kR hy);exact⟨a,sl,ha,hh,this.1,this.2⟩
def fO.xh{bytes:Nat}{z:gJ}(hE:sW prog sty ty n bytes z)(gI:∀x,(aY x).length=n)(jL:∀x,∀u∈aY x,u.oneCell'=true)(hb:bytes<=1000)(h:fO eb ty n aY AH lo S w r ps)(hl:ps.length+1<=1000000)(Mj:lo<=w.heap.size)(hS:∀k,S k->k<w.heap.size)(x:α){sl:Sl}(hr:Rd w sl 1 eb (AH x))
  (ho:∀b,sl.b=some b->lo<=b.block/\¬S b.block/\b.block<w.heap.size/\∀b',r.b=some b'->b.block≠b'.block) {K:Sl->aH->Prop}
  (hK:∀r' w',fO eb ty n aY AH lo S w' r' (ps++[x])->aU (λk=>∃a,r.b=some a/\k=a.block) w w'->(∀b,r'.b=some b->(∃a,r.b=some a/\b.block=a.block)\/w.heap.size<=b.block)->K r' w'):aG w (aY (x,sl)).toArray ty λa w1=>aX prog sty sty r (.slice (some a) 1 1) w1 K:=by
 obtain⟨xs,rfl,h2,h3,h4⟩:=h.ex;rw[lT] at hl;refine cM λw1 b1 k1 z1=>?_;have hm:(xs.length+1)*bytes<=1000000*1000:=TS hl hb;refine fH hE gI jL (x:=⟨some ⟨w.heap.size,0,none⟩,1,1⟩) (h2.aK k1 λ_ _=>id) (lU gI [(x,sl)] b1 dP dP) (by simp;omega) (by simp;omega) λr' w2 v2 m2 Bj _=>?_;have hF:∀k,(∃a,r.b=some a/\k=a.block)->lo<=k/\¬S k:=λk ⟨a,ha,e⟩=>by rw[e];exact h3 a ha
 have hM:aU (λk=>lo<=k/\¬S k) w w2:=k1.wk.trans (m2.mono λk _ hk=>hF k hk) λ_ _ h=>h;have Wb:∀b,r'.b=some b->(∃a,r.b=some a/\b.block=a.block)\/w1.heap.size<=b.block:=λb hb=>by
  rcases Bj with h|⟨a,h,h2⟩
  ·exact .inl ⟨b,h.symm.trans hb,rfl⟩
  ·rw[hb] at h;cases h;exact .inr h2
 have keyB:∀(y:α×Sl),Rd w y.2 1 eb (AH y.1)->(∀b,y.2.b=some b->lo<=b.block/\¬S b.block/\b.block<w.heap.size/\∀b',r.b=some b'->b.block≠b'.block)->Rd w2 y.2 1 eb (AH y.1)/\∀b,y.2.b=some b->lo<=b.block/\¬S b.block/\b.block<w2.heap.size/\∀b',r'.b=some b'->b.block≠b'.block:=λy g1 g2=>by
  refine⟨(g1.aK k1 Bv.ne λ_ _=>id).aK m2 Bv.ne λb hb ⟨a,ha,e⟩=>(g2 b hb).2.2.2 a ha e,λb hb=>⟨(g2 b hb).1,(g2 b hb).2.1,pP (g2 b hb).2.2.1 hM.size,λb' bW e=>?_⟩⟩;rcases Wb b' bW with⟨a,ha,e2⟩|h
  ·exact(g2 b hb).2.2.2 a ha (e.trans e2)
  ·have:=(g2 b hb).2.2.1;omega
 refine hK r' w2 ⟨xs++[(x,sl)],by simp,v2,λb hb=>?_,λy hy=>?_⟩ (k1.wk.trans m2 λ_ _ h=>h) (λb hb=>(Wb b hb).imp id λh=>by have:=k1.size;omega)
 ·rcases Wb b hb with⟨a,ha,e⟩|h
  ·rw[e];exact h3 a ha
  ·exact⟨aB,λhs=>by have:=hS _ hs;omega⟩
 ·rcases kK.1 hy with hy|hy
  ·exact keyB y (h4 y hy).1 (h4 y hy).2
  ·rw[mR.1 hy];exact keyB (x,sl) hr ho
def fO.iB{bytes:Nat}{z:gJ}(hE:sW prog sty ty n bytes z)(gI:∀x,(aY x).length=n)(jL:∀x,∀u∈aY x,u.oneCell'=true)(hb:bytes<=1000)(h:fO eb ty n aY AH lo S w r ps)(hl:ps.length+1<=1000000)(Mj:lo<=w.heap.size)(hS:∀k,S k->k<w.heap.size)(x:α){sl:Sl}(hr:Rd w sl 1 eb (AH x))
  (ho:∀b,sl.b=some b->lo<=b.block/\¬S b.block/\b.block<w.heap.size/\∀b',r.b=some b'->b.block≠b'.block) {K:Sl->aH->Prop}
  (hK:∀r' w',fO eb ty n aY AH lo S w' r' (ps++[x])->aU (λk=>lo<=k/\¬S k) w w'->K r' w'):aG w (aY (x,sl)).toArray ty λa w1=>aX prog sty sty r (.slice (some a) 1 1) w1 K:=
 fO.xh hE gI jL hb h hl Mj hS x hr ho λr' w' v m _=>hK r' w' v (m.mono λk _ ⟨a,ha,e⟩=>by
  obtain⟨xs,_,_,h3,_⟩:=h.ex;rw[e];exact h3 a ha)
def fO.na{bytes:Nat}{z:gJ}{r0:Sl}{ps0:List α}{lo1:Nat}(hE:sW prog sty ty n bytes z)(gI:∀x,(aY x).length=n)(jL:∀x,∀u∈aY x,u.oneCell'=true)(hb:bytes<=1000)(h0:fO eb ty n aY AH lo S w r0 ps0)(h:fO eb ty n aY AH lo1 S w r ps)(Mj:lo<=lo1)(hr0:∀b,r0.b=some b->b.block<lo1)(hl:ps0.length+ps.length<=1000000)(hlw:lo<=w.heap.size)(hS:∀k,S k->k<w.heap.size){K:Sl->aH->Prop}
  (hK:∀r' w',fO eb ty n aY AH lo S w' r' (ps0++ps)->aU (λk=>∃a,r0.b=some a/\k=a.block) w w'->(∀b,r'.b=some b->(∃a,r0.b=some a/\b.block=a.block)\/w.heap.size<=b.block)->K r' w'):aX prog sty sty r0 (aW r) w K:=by
 obtain⟨xs0,rfl,h2,h3,h4⟩:=h0.ex;obtain⟨xs,rfl,g2,g3,g4⟩:=h.ex;rw[lT,lT] at hl;have hm:(xs0.length+xs.length)*bytes<=1000000*1000:=TS hl hb;refine fH hE gI jL h2 (g2.rd gI) aB aB λr' w2 v2 m2 Bj _=>?_;have hM:aU (λk=>lo<=k/\¬S k) w w2:=m2.mono λk _ ⟨a,ha,e⟩=>by rw[e];exact h3 a ha
 have Wb:∀b,r'.b=some b->(∃a,r0.b=some a/\b.block=a.block)\/w.heap.size<=b.block:=λb hb=>by
  rcases Bj with h|⟨a,h,h2⟩
  ·exact .inl ⟨b,h.symm.trans hb,rfl⟩
  ·rw[hb] at h;cases h;exact .inr h2
 have keyB:∀(y:α×Sl),Rd w y.2 1 eb (AH y.1)->(∀b,y.2.b=some b->lo<=b.block/\¬S b.block/\b.block<w.heap.size/\∀b',r0.b=some b'->b.block≠b'.block)->Rd w2 y.2 1 eb (AH y.1)/\∀b,y.2.b=some b->lo<=b.block/\¬S b.block/\b.block<w2.heap.size/\∀b',r'.b=some b'->b.block≠b'.block:=λy g1 g2=>by
  refine⟨g1.aK m2 Bv.ne λb hb ⟨a,ha,e⟩=>(g2 b hb).2.2.2 a ha e,λb hb=>⟨(g2 b hb).1,(g2 b hb).2.1,pP (g2 b hb).2.2.1 hM.size,λb' bW e=>?_⟩⟩;rcases Wb b' bW with⟨a,ha,e2⟩|h
  ·exact(g2 b hb).2.2.2 a ha (e.trans e2)
  ·have:=(g2 b hb).2.2.1;omega
 refine hK r' w2 ⟨xs0++xs,by simp,v2,λb hb=>?_,λy hy=>?_⟩ m2 Wb
 ·rcases Wb b hb with⟨a,ha,e⟩|h
  ·rw[e];exact h3 a ha
  ·exact⟨aB,λhs=>by have:=hS _ hs;omega⟩
 ·rcases kK.1 hy with hy|hy
  ·exact keyB y (h4 y hy).1 (h4 y hy).2
  ·refine keyB y (g4 y hy).1 λb hb=>⟨jB Mj ((g4 y hy).2 b hb).1,((g4 y hy).2 b hb).2.1,((g4 y hy).2 b hb).2.2.1,λb' bW e=>?_⟩;have:=hr0 b' bW;have:=((g4 y hy).2 b hb).1;omega
def fO.AJ(h:fO eb ty n aY AH lo S w r ps):∀k,(∃a,r.b=some a/\k=a.block)->lo<=k/\¬S k:=λk ⟨a,ha,e⟩=>by
 obtain⟨xs,_,_,h3,_⟩:=h.ex;rw[e];exact h3 a ha
def fO.app{bytes:Nat}{z:gJ}{r0:Sl}{ps0:List α}{lo1:Nat}(hE:sW prog sty ty n bytes z)(gI:∀x,(aY x).length=n)(jL:∀x,∀u∈aY x,u.oneCell'=true)(hb:bytes<=1000)(h0:fO eb ty n aY AH lo S w r0 ps0)(h:fO eb ty n aY AH lo1 S w r ps)(Mj:lo<=lo1)(hr0:∀b,r0.b=some b->b.block<lo1)(hl:ps0.length+ps.length<=1000000)(hlw:lo<=w.heap.size)(hS:∀k,S k->k<w.heap.size){K:Sl->aH->Prop}
  (hK:∀r' w',fO eb ty n aY AH lo S w' r' (ps0++ps)->aU (λk=>lo<=k/\¬S k) w w'->K r' w'):aX prog sty sty r0 (aW r) w K:=
 fO.na hE gI jL hb h0 h Mj hr0 hl hlw hS λr' w' v m _=>hK r' w' v (m.mono λk _ hk=>h0.AJ k hk)
def fO.lt(h:fO eb ty n aY AH lo S w r ps){b:Addr}(hb:r.b=some b):b.block<w.heap.size:=by
 obtain⟨xs,rfl,h2,_⟩:=h.ex;exact h2.lt hb
end
def Up.iA{S0 S:BS}{w0 w w':aH}(u:Up S0 S w0 w)(m:aU (λk=>w0.heap.size<=k/\¬S k) w w'):Up S0 S w0 w':=
 ⟨u.m.trans m λk hk h=>by have:=h.1;omega,u.s⟩
def bJ.ov{A:As}[bJ A]{lo:Nat}{S:BS}{w w':aH}(h:A w S)(m:aU (λk=>lo<=k/\¬S k) w w'):A w' S:=bJ.aK h m λk hk hn=>hn.2 hk
abbrev Xs(P:BS)(w:aH)(r:Sl)(gs:List fK):Prop:=xK eU 6 eG fK.body P w r gs
abbrev Hi(P:BS)(w:aH)(r:Sl)(bs:List (List cH)):Prop:=xK eU 1 (λx:List cH×Sl=>eS x.2) id P w r bs
def CP.row{w:aH}{T P:BS}{r:Sl}{gs:List fK}(h:CP r gs w T)(hP:∀k,T k->P k):Xs P w r gs:=by
 obtain⟨xs,rfl,S3,S4,h3,h4,d34,Xb⟩:=h;refine⟨xs,rfl,h3.1.rd Xh,λb hb=>⟨hP _ ((Xb _).2 (.inl ((h3.2 _).2 ⟨b,hb,rfl⟩))),h3.1.lt hb⟩,λx hx=>?_⟩;obtain⟨i,hi⟩:=List.getElem?_of_mem hx;have:=h4.2.1 i x.2 x.1.body (by rw[oG,hi];rfl) (by rw[oG,hi];rfl);exact⟨this.1,λb hb=>⟨hP _ ((Xb _).2 (.inr (this.2 b hb))),h4.2.2 _ (this.2 b hb)⟩⟩
def WL.row{w:aH}{T P:BS}{r:Sl}{bs:List (List cH)}(h:WL r bs w T)(hP:∀k,T k->P k):Hi P w r bs:=by
 obtain⟨ss,S3,S4,h3,h4,d34,Xb⟩:=h;have BX:=h3.1.rd Hq;refine⟨bs.zip ss,?_,?_,λb hb=>⟨hP _ ((Xb _).2 (.inl ((h3.2 _).2 ⟨b,hb,rfl⟩))),h3.1.lt hb⟩,λx hx=>?_⟩
 ·rw[List.map_fst_zip (by rw[h4.1];exact dN _)]
 ·refine⟨by rw[BX.len,List.length_zip,h4.1,Nat.min_self],BX.cap,λi x hx=>?_⟩;exact BX.get i x.2 (List.getElem?_zip_eq_some.1 hx).2
 ·obtain⟨i,hi⟩:=List.getElem?_of_mem hx;have hz:=List.getElem?_zip_eq_some.1 hi;have:=h4.2.1 i x.2 x.1 hz.2 hz.1;exact⟨this.1,λb hb=>⟨hP _ ((Xb _).2 (.inr (this.2 b hb))),h4.2.2 _ (this.2 b hb)⟩⟩
def Ug{A:As}[bJ A]{w:aH}{S:BS}{r:Sl}{gs:List fK}(h:bL A (CP r gs) w S):∃S1,A w S1/\Up S S1 w w/\Xs (λk=>¬S1 k) w r gs:=by
 obtain⟨S1,S2,h1,⟨xs,rfl,S3,S4,h3,h4,d34,Xb⟩,d,e⟩:=h;refine⟨S1,h1,Up.sub w λk hk=>(e k).2 (.inl hk),xs,rfl,h3.1.rd Xh,λb hb=>?_,λx hx=>?_⟩
 ·exact⟨λhk=>d _ hk ((Xb _).2 (.inl ((h3.2 _).2 ⟨b,hb,rfl⟩))),h3.1.lt hb⟩
 ·obtain⟨i,hi⟩:=List.getElem?_of_mem hx;have:=h4.2.1 i x.2 x.1.body (by rw[oG,hi];rfl) (by rw[oG,hi];rfl);exact⟨this.1,λb hb=>⟨λhk=>d _ hk ((Xb _).2 (.inr (this.2 b hb))),h4.2.2 _ (this.2 b hb)⟩⟩
end
section
abbrev Pk:=Int×List cH
abbrev ePk(x:Pk×Sl):gJ:=[aD x.1.1,aW x.2]
def WS:∀x:Pk×Sl,(ePk x).length=2:=λ_=>rfl
def WO:∀x:Pk×Sl,∀u∈ePk x,u.oneCell'=true:=by intro x u hu;simp at hu;rcases hu with rfl|rfl<;>rfl
def ePk_ne(x:Pk×Sl):ePk x≠[]:=by simp
abbrev eD(x:List cH×Sl):gJ:=[aW x.2]
def lenD_q:∀x:List cH×Sl,(eD x).length=1:=λ_=>rfl
def oneD:∀x:List cH×Sl,∀u∈eD x,u.oneCell'=true:=by intro x u hu;simp at hu;subst hu;rfl
def LM(x:List cH×Sl):eD x≠[]:=by simp
abbrev xL:=fO (α:=Pk) eU tPacket 2 ePk Prod.snd
abbrev RowQ:=fO (α:=List cH) eU CV 1 eD id
def GOk(g:fK)(b:List cH):=b.length<=3000/\(Wo g->b=LL g)
def wg(aN:Int)(g:fK)(p:Pk):=p.1=aN/\GOk g p.2
section
variable{w:aH}{l:Sl}{gs:List fK}{P:BS}
def IC{aN:Int}{Q:Sl->aH->Prop}(h:Xs P w l gs)(hl:gs.length<=1000)(hb:∀g∈gs,g.body.length<=80000)
  (hQ:∀r ps w',aL w w'->xL w.heap.size (λk=>k<w.heap.size) w' r ps->F2 (wg aN) gs ps->Q r w'):gN aN l w Q:=by
 unfold gN;have hll:=h.len;refine bK (λn t w1=>∃(i:Nat) (r:Sl) (ps:List Pk),i<=gs.length/\n=gs.length-i/\t=(r,(i:Int),())/\aL w w1/\xL w.heap.size (λk=>k<w.heap.size) w1 r ps/\F2 (wg aN) (gs.take i) ps) gs.length
  ⟨0,bD,[],cY _,rfl,rfl,aU.refl _ _,fO.nil,.nil⟩ ?_
 rintro n t w1 ⟨i,r,ps,hi,rfl,rfl,k1,v1,f1⟩ X hX;dsimp only;refine aI (λcD=>?_) (λkF=>?_)
 ·have dL:i<gs.length:=aB;have cI:=cL dL;have gG:=oF dL;have sZ:=oH dL;generalize gs[i]=g at*;obtain⟨a,sl,ha,hh,hr,hro⟩:=(h.kp Bq k1).get cI;have fl:=f1.len;rw[rA] at fl;rw[dU,pI i aB];refine⟨⟨aB,cD⟩,aA ha (aZ (l:=kG) (JT (g,sl)) hh ?_)⟩;refine fM (zs:=eG (⟨0,0,0,0,0,[]⟩,bD)) (vs:=eG (g,sl)) sF rfl (Mm _) λw4 o4 k4 z4=>?_;refine aZ (l:=kG) (JT (g,sl)) (o4.holds λj v hj=>by rw[gK];exact hj) ?_;have z1:=k1.size;refine qk (hr.aK k4 fV λ_ _=>id) (hb g gG) λs out e w5 k5 Wr f5 l5 g5=>?_;have v5:=(v1.kp k4).kp k5;refine fO.iB nP WS WO aB v5 (by rw[<-fl];omega) (jB (k1.tr k4).size k5.size) (λk hk=>pP hk (jB (k1.tr k4).size k5.size)) (aN,out) (sl:=s) Wr.1 (λb hb=>⟨by have:=f5 b hb;omega,λhk=>by have:=f5 b hb;omega,Wr.2.2.1 b hb,λb' bW=>?_⟩) λr' w6 v6 m6=>?_
  ·have:=v1.lt bW;have:=f5 b hb;omega
  ·refine hX _ _ _ aB ⟨i+1,r',ps++[(aN,out)],dL,rfl,rfl,((k1.tr k4).tr k5).fresh m6 λk hk=>hk.1,v6,?_⟩;rw[sZ];exact f1.app (.one ⟨rfl,l5,λhw=>(g5 hw).1⟩)
 ·have ei:i=gs.length:=aB;subst ei;rw[oV] at f1;exact hQ r ps w1 k1 v1 f1
def Co{Q:Sl->aH->Prop}(h:Xs P w l gs)(hl:gs.length<=1000)(hb:∀g∈gs,g.body.length<=80000)
  (hQ:∀r ps w',aL w w'->RowQ w.heap.size (λk=>k<w.heap.size) w' r ps->F2 GOk gs ps->Q r w'):jX l w Q:=by
 unfold jX;have hll:=h.len;refine bK (λn t w1=>∃(i:Nat) (r:Sl) (ps:List (List cH)),i<=gs.length/\n=gs.length-i/\t=(r,(i:Int),())/\aL w w1/\RowQ w.heap.size (λk=>k<w.heap.size) w1 r ps/\F2 GOk (gs.take i) ps) gs.length
  ⟨0,bD,[],cY _,rfl,rfl,aU.refl _ _,fO.nil,.nil⟩ ?_
 rintro n t w1 ⟨i,r,ps,hi,rfl,rfl,k1,v1,f1⟩ X hX;dsimp only;refine aI (λcD=>?_) (λkF=>?_)
 ·have dL:i<gs.length:=aB;have cI:=cL dL;have gG:=oF dL;have sZ:=oH dL;generalize gs[i]=g at*;obtain⟨a,sl,ha,hh,hr,hro⟩:=(h.kp Bq k1).get cI;have fl:=f1.len;rw[rA] at fl;rw[dU,pI i aB];refine⟨⟨aB,cD⟩,aA ha (aZ (l:=kG) (JT (g,sl)) hh ?_)⟩;refine fM (zs:=eG (⟨0,0,0,0,0,[]⟩,bD)) (vs:=eG (g,sl)) sF rfl (Mm _) λw4 o4 k4 z4=>?_;refine aZ (l:=kG) (JT (g,sl)) (o4.holds λj v hj=>by rw[gK];exact hj) ?_;have z1:=k1.size;refine qk (hr.aK k4 fV λ_ _=>id) (hb g gG) λs out e w5 k5 Wr f5 l5 g5=>?_;have v5:=(v1.kp k4).kp k5;refine fO.iB OE lenD_q oneD aB v5 (by rw[<-fl];omega) (jB (k1.tr k4).size k5.size) (λk hk=>pP hk (jB (k1.tr k4).size k5.size)) out (sl:=s) Wr.1 (λb hb=>⟨by have:=f5 b hb;omega,λhk=>by have:=f5 b hb;omega,Wr.2.2.1 b hb,λb' bW=>?_⟩) λr' w6 v6 m6=>?_
  ·have:=v1.lt bW;have:=f5 b hb;omega
  ·refine hX _ _ _ aB ⟨i+1,r',ps++[out],dL,rfl,rfl,((k1.tr k4).tr k5).fresh m6 λk hk=>hk.1,v6,?_⟩;rw[sZ];exact f1.app (.one ⟨l5,λhw=>(g5 hw).1⟩)
 ·have ei:i=gs.length:=aB;subst ei;rw[oV] at f1;exact hQ r ps w1 k1 v1 f1
def reset_i{aN aM code:Int}{Q:Sl->aH->Prop}(hQ:∀r p w',aL w w'->xL w.heap.size (λk=>k<w.heap.size) w' r [p]->wg aN ⟨aM,3,0,0,code,[]⟩ p->Q r w'):fY aN aM code w Q:=by
 unfold fY;refine cM (cs:=eG (⟨aM,3,0,0,code,[]⟩,bD)) λw1 b1 k1 z1=>?_;have hg:Xs (λ_=>True) w1 ⟨some ⟨w.heap.size,0,none⟩,1,1⟩ [⟨aM,3,0,0,code,[]⟩]:=⟨[(⟨aM,3,0,0,code,[]⟩,bD)],rfl,lU Xh [(⟨aM,3,0,0,code,[]⟩,bD)] b1 rfl dP,λb hb=>by cases hb;exact⟨trivial,b1.1.lt⟩,λx hx=>by
  rw[mR.1 hx];exact⟨Rd.nil _ _ _,λb hb=>by cases hb⟩⟩
 refine IC hg dP dP λr ps w2 k2 v2 f2=>?_;cases f2 with
 |cons a b=>cases b;exact hQ r _ w2 (k1.tr k2) ((v2.qT aB).sub λk hk=>aB) a
end
abbrev lE.dl(c:lE):Int:=c.s.next-c.s.n
structure lh(c c':lE)(k:Nat):Prop where
 dG:c'.s.dG=c.s.dG
 aM:c'.aM=c.aM
 dl:c'.dl=c.dl
 n:k+c.s.n=c'.s.n
def Kf{aM nx:Int}{t:Wp}:∀{l:List (List cH)} {s:TO},lh ⟨s,aM,t,l⟩ (lE.QQ s aM nx t l).2 (lE.QQ s aM nx t l).1.length/\∀g∈(lE.QQ s aM nx t l).1,g.body∈l
 | [],s=>⟨⟨rfl,rfl,rfl,gK _⟩,λg hg=>by cases hg⟩
 |b::r,s=>by
  rw[lE.QQ]
  split
  ·obtain⟨⟨h1,h2,h3,h4⟩,h5⟩:=Kf (aM:=aM) (nx:=nx) (t:=t) (l:=r) (s:=s.send b);refine⟨⟨h1,h2,h3.trans ?_,?_⟩,λg hg=>?_⟩
   ·show s.next+1-((s.n+1:Nat):Int)=s.next-(s.n:Int)
    omega
   ·have h4':_+(s.n+1)=_:=h4;simp only[mH] at h4' ⊢;omega
   ·rcases jQ.1 hg with rfl|hg
    ·simp
    ·exact WB _ (h5 g hg)
  ·exact⟨⟨rfl,rfl,rfl,gK _⟩,λg hg=>by cases hg⟩
def lE.US(c:lE):lh c c.sC.2 c.sC.1.length/\∀g∈c.sC.1,g.body∈c.iG:=Kf (s:=c.s) (l:=c.iG)
def Kd{c:lE}(ok:c.Ok){b:List cH}(hb:b.length<=70000):lh c (c.push b).2.1 (c.push b).1.length/\∀g∈(c.push b).1,g.body.length<=70000:=by
 unfold lE.push
 split
 ·exact⟨⟨rfl,rfl,rfl,gK _⟩,λg hg=>by cases hg⟩
 ·split
  ·exact⟨⟨rfl,rfl,rfl,gK _⟩,λg hg=>by cases hg⟩
  ·obtain⟨⟨h1,h2,h3,h4⟩,h5⟩:=({c with iG:=c.iG++[b]}:lE).US;refine⟨⟨h1,h2,h3,h4⟩,λg hg=>?_⟩;rcases kK.1 (h5 g hg) with h|h
   ·exact ok.len _ h
   ·rw[mR.1 h];exact hb
def lh.refl(c:lE):lh c c 0:=⟨rfl,rfl,rfl,gK _⟩
def lh.tr{c c' c'':lE}{k k':Nat}(h:lh c c' k)(h':lh c' c'' k'):lh c c'' (k+k'):=⟨h'.dG.trans h.dG,h'.aM.trans h.aM,h'.dl.trans h.dl,by have:=h.n;have:=h'.n;omega⟩
def yA{c c':lE}{g:fK}{oO:List (List cH)}{gs:List fK}(ok:c.Ok)(h:zE c g oO gs c'):c'.s.dG=c.s.dG/\c'.aM=c.aM/\c'.dl<=c.s.next/\gs.length<=c'.s.n+1/\(∀g∈gs,g.body.length<=70000)/\oO.length<=20/\∀b∈oO,b.length<=5000:=by
 unfold zE at h
 split at h
 ·obtain⟨rfl,rfl,rfl⟩:=h;exact⟨rfl,rfl,by show c'.s.next-_<=_;omega,cY _,λg hg=>(by cases hg),by simp,λb hb=>by cases hb⟩
 ·obtain⟨s1,⟨a1,a2,a3,a4,a5,a6⟩,Lt,h⟩:=h
  split at h
  ·obtain⟨t1,ht,rfl,rfl⟩:=h;obtain⟨⟨h1,h2,h3,h4⟩,h5⟩:=(⟨s1,c.aM,t1,c.iG⟩:lE).US;refine⟨h1.trans a1,h2,?_,?_,λg hg=>?_,ht.len,ht.lens⟩
   ·rw[h3];show s1.next-(s1.n:Int)<=_;omega
   ·simp only[mH];have h4':_+s1.n=_:=h4;omega
   ·rcases jQ.1 hg with rfl|hg
    ·simp
    ·exact ok.len _ (h5 g hg)
  ·obtain⟨rfl,rfl,rfl⟩:=h;obtain⟨⟨h1,h2,h3,h4⟩,h5⟩:=(⟨s1,c.aM,c.t,c.iG⟩:lE).US;refine⟨h1.trans a1,h2,?_,?_,λg hg=>ok.len _ (h5 g hg),by simp,λb hb=>by cases hb⟩
   ·rw[h3];show s1.next-(s1.n:Int)<=_;omega
   ·have h4':_+s1.n=_:=h4;omega
end
section
def Zd:PtrK prog 102:=⟨ZW,5,iZ,iZ,by decide⟩
structure iT where
 dJ:vU
 sp:Nat
 tp:Nat
 lp:Nat
 dQ:Int
 u:cR
 t:tD
 gv:List Nat
 lf:Nat->Option Lw.T
 ln:Nat
 ch:Nat->lE
 JI:Nat->zZ
def tD.at(t:tD)(p:Nat):Option dF:=t.bI.find? λe=>e.aN==p
def Grv(a:Nat):As:=Ex λcs=>tE a ZW cs
instance{a:Nat}:bJ (Grv a):=by unfold Grv;infer_instance
inductive SI|Fy|set|Fx|lost|ch(p:Nat)
 deriving DecidableEq
abbrev WI(ee:Nat)(v:iT):gJ:=[.pointer (some ⟨ee,0,none⟩),aD (v.dJ.sT:Int),aD (v.dJ.dG:Int),aD v.dJ.MR,aD v.dJ.oI,aD v.dJ.cap,aD v.dJ.idle,.pointer (some ⟨v.sp,0,none⟩),.pointer (some ⟨v.tp,0,none⟩),aD v.dQ,.map (some v.lp)]
def WK(v:iT):As:=bL (DV v.tp v.t) (xA Grv v.gv)
instance{v:iT}:bJ (WK v):=by unfold WK;infer_instance
def RC(ee a:Nat)(v:iT):SI->As
 | .Fy=>tE a yI (WI ee v)
 | .set=>vS v.sp v.u
 | .Fx=>WK v
 | .lost=>vL v.lp AA Lw v.lf v.ln
 | .ch p=>match v.t.at p with
  |some e=>mJ e.cp (v.ch p)
  |none=>EH
instance RC.loc{ee a:Nat}{v:iT}:∀i,bJ (RC ee a v i)
 | .Fy=>inferInstanceAs (bJ (tE a yI (WI ee v)))
 | .set=>inferInstanceAs (bJ (vS v.sp v.u))
 | .Fx=>inferInstanceAs (bJ (WK v))
 | .lost=>inferInstanceAs (bJ (vL v.lp AA Lw v.lf v.ln))
 | .ch p=>by
  show bJ (match v.t.at p with|some e=>mJ e.cp (v.ch p)|none=>EH)
  split<;>infer_instance
def lN(ee a:Nat)(v:iT):As:=gS (RC ee a v)
instance{ee a:Nat}{v:iT}:bJ (lN ee a v):=by unfold lN;infer_instance
structure iT.Ok(G:Gr)(B:Int)(v:iT):Prop where
 dJ:v.dJ.Ok
 dQ:0<=v.dQ/\v.dQ<=1000000000
 u:v.u.length=G.E.length/\v.u.length<=512
 t:v.t.Ok
 fF:v.t.fF=v.dJ.sT
 ch:∀e∈v.t.bI,(v.ch e.aN).Ok/\(v.ch e.aN).aM=e.aM/\(v.ch e.aN).s.dG=v.dJ.dG/\(v.ch e.aN).dl<=B
 JI:∀e∈v.t.bI,VL G (v.JI e.aN)
 VT:∀e∈v.t.bI,(1<=e.aM/\e.aM<=2147483648)/\0<=e.lH/\e.lH<=v.dQ
 lost:∀k,(v.lf k).isSome=true->(∃e∈v.t.bI,e.a=k)\/k∈v.gv
def tD.at_mem{t:tD}{p:Nat}{e:dF}(h:t.at p=some e):e∈t.bI/\e.aN=p:=⟨ly9 h,by have:=List.find?_some h;simpa using this⟩
def tD.UI{t:tD}(ok:t.Ok){e:dF}(he:e∈t.bI):t.at e.aN=some e:=by
 cases h:t.at e.aN with
 |none=>have:=List.find?_eq_none.1 h e he;simp at this
 |some f=>obtain⟨h1,h2⟩:=tD.at_mem h;rw[ok.inj h1 he h2]
section
variable{w:aH}{S:BS}{ee a:Nat}{v:iT}
def lN.Wl(h:lN ee a v w S):∃S1,tE a yI (WI ee v) w S1/\∀k,S1 k->S k:=gS.get h .Fy
def lN.cell(h:lN ee a v w S){k:Nat}{x:Value}(hk:(WI ee v)[k]? =some x):w.cell? ((⟨a,0,none⟩:Addr).add k)=some x:=by
 obtain⟨S1,h1,_⟩:=h.Wl;exact aP h1 hk
def lN.Fx(h:lN ee a v w S):∃S1,DV v.tp v.t w S1/\∀k,S1 k->S k:=by
 obtain⟨S1,⟨S2,S3,h2,h3,d,e⟩,hs⟩:=gS.get h .Fx;exact⟨S2,h2,λk hk=>hs k ((e k).2 (.inl hk))⟩
def lN.VT(h:lN ee a v w S){e:dF}(he:e∈v.t.bI):cX w e.a ZW (Xo e)/\S e.a:=by
 obtain⟨S1,h1,hs⟩:=h.Fx;exact⟨(h1.VT he).1,hs _ (h1.VT he).2⟩
def lN.Mu(h:lN ee a v w S){e:dF}(he:e∈v.t.bI){k:Nat}{x:Value}(hk:(Xo e)[k]? =some x):w.cell? ((⟨e.a,0,none⟩:Addr).add k)=some x:=dR (h.VT he).1 hk
def lN.Je{G:Gr}{B:Int}(h:lN ee a v w S)(ok:v.Ok G B):∀k,(v.lf k).isSome=true->AE w k:=λk hk=>by
 obtain⟨S1,⟨S2,S3,h2,h3,d,e⟩,hs⟩:=gS.get h .Fx;rcases ok.lost k hk with⟨e,he,rfl⟩|hg
 ·exact(h2.VT he).1.Ti
 ·obtain⟨S4,⟨cs,h4⟩,_⟩:=xA.get h3 hg;exact h4.1.Ti
def lN.lostMap(h:lN ee a v w S):kT w v.lp AA Lw v.lf v.ln:=by
 obtain⟨S1,h1,_⟩:=gS.get h .lost;exact h1.1
def iT.oY(v:iT)(p:Nat)(c:lE):iT:={v with ch:=λq=>if q=p then c else v.ch q}
def iT.vZ(v:iT)(p:Nat)(c:zZ):iT:={v with JI:=λq=>if q=p then c else v.JI q}
def iT.setLf(v:iT)(k:Nat)(b:Bool):iT:={v with lf:=λy=>if y=k then some b else v.lf y,ln:=if(v.lf k).isSome then v.ln else v.ln+1}
def lN.chan(h:lN ee a v w S){e:dF}{p:Nat}(he:v.t.at p=some e):js w S (mJ e.cp (v.ch p)) λX=>gS (FN (RC ee a v) (.ch p) X):=by
 have h1:=gS.at h (.ch p);have e1:RC ee a v (.ch p)=mJ e.cp (v.ch p):=by show(match v.t.at p with|some e=>mJ e.cp (v.ch p)|none=>EH)=_;rw[he]
 rwa[e1] at h1
def fam_ch{e:dF}{p:Nat}(he:v.t.at p=some e)(c:lE):FN (RC ee a v) (.ch p) (mJ e.cp c)=RC ee a (v.oY p c):=by
 funext i
 show(if i=.ch p then mJ e.cp c else RC ee a v i)=_
 split
 ·rename_i h;subst h
  show _=(match v.t.at p with|some e=>mJ e.cp (if p=p then c else v.ch p)|none=>EH)
  rw[he,if_pos rfl]
 ·rename_i h
  cases i with
  |ch q=>
   have hq:¬q=p:=λe=>h (by rw[e]);show _=(match v.t.at q with|some e=>mJ e.cp (if q=p then c else v.ch q)|none=>EH)
   rw[if_neg hq];rfl
  |_=>rfl
def fam_lost(k:Nat)(b:Bool):FN (RC ee a v) .lost (vL v.lp AA Lw (λy=>if y=k then some b else v.lf y) (if(v.lf k).isSome then v.ln else v.ln+1))=RC ee a (v.setLf k b):=by
 funext i
 cases i<;>rfl
def lN.xk(h:lN ee a v w S){e:dF}{p:Nat}(he:v.t.at p=some e):∃S1,mJ e.cp (v.ch p) w S1/\(∀k,S1 k->S k)/\∀c D w' T,Up S1 T w w'->bL (mJ e.cp c) D w' T->∃S',bL (lN ee a (v.oY p c)) D w' S'/\Up S S' w w':=by
 obtain⟨S1,h1,hs,eJ⟩:=h.chan he;refine⟨S1,h1,hs,λc D w' T u hT=>?_⟩;obtain⟨S',h',u'⟩:=eJ _ D w' T u hT;exact⟨S',h'.mono (λS h=>by unfold lN;rw[<-fam_ch he];exact h) λ_ h=>h,u'⟩
def lN.mark{G:Gr}{B:Int}(h:lN ee a v w S)(ok:v.Ok G B){e:dF}(he:e∈v.t.bI)(b:Bool){Q:aH->Prop}(hQ:∀w' S',lN ee a (v.setLf e.a b) w' S'->Up S S' w w'->Q w'):gP prog 98 (.map (some v.lp)) (.pointer (LW e)) (.bool b) w Q:=by
 obtain⟨S1,h1,_,eJ⟩:=(gS.at h .lost).put;refine update_p (kn:=Lw) nq Zd h1.1 e.a b (h.Je ok) (h.VT he).1.Ti λw' Wy mm' _=>?_;obtain⟨S',h',u'⟩:=eJ (vL v.lp AA Lw (λy=>if y=e.a then some b else v.lf y) (if(v.lf e.a).isSome then v.ln else v.ln+1)) w' S1 (Up.at (mm'.mono λk _ hk=>(h1.2 k).2 hk)) ⟨Wy,h1.2⟩
 exact hQ w' S' (by unfold lN;rw[<-fam_lost];exact h') u'
def lN.isLost{G:Gr}{B:Int}(h:lN ee a v w S)(ok:v.Ok G B){e:dF}(he:e∈v.t.bI){Q:Bool->aH->Prop}(hQ:Q ((v.lf e.a).getD (false:Bool)) w):nK prog (.c .bool) 98 (.map (some v.lp)) (.pointer (LW e)) w Q:=
 lookup1_p (kn:=Lw) nq Zd (z:=false) Pd h.lostMap e.a (h.Je ok) (h.VT he).1.Ti hQ
end
def Dr(c:lE):Bool->List (List cH)->List fK×lE×Bool
 |lo,[]=>([],c,lo)
 |true,_::_=>([],c,true)
 |false,b::r=>((c.push b).1++(Dr (c.push b).2.1 ((c.push b).2.2 !=0) r).1,(Dr (c.push b).2.1 ((c.push b).2.2 !=0) r).2)
def BOk(m:gT)(b:List cH):=tC m->b=lF m
def zx:∀l:List gT,F2 BOk l (l.map lF)
 | []=>.nil
 |m::l=>.cons (λ_=>rfl) (zx l)
def iT.VZ(v:iT)(p:Nat)(c:lE)(lf:Nat->Option Lw.T)(ln:Nat):iT:={v with ch:=λq=>if q=p then c else v.ch q,lf:=lf,ln:=ln}
def qu{v:iT}{p:Nat}{c c':lE}{lf:Nat->Option Lw.T}{ln:Nat}:(v.VZ p c lf ln).oY p c'=v.VZ p c' lf ln:=by
 unfold iT.oY iT.VZ;simp only[iT.mk.injEq,true_and,and_true]
 funext q
 by_cases hq:q=p<;>simp[hq]
def said_self{v:iT}{p:Nat}:v.VZ p (v.ch p) v.lf v.ln=v:=by
 unfold iT.VZ;have:(λq=>if q=p then v.ch p else v.ch q)=v.ch:=by
  funext q
  by_cases hq:q=p<;>simp[hq]
 rw[this]
def yu{G:Gr}{B:Int}{v:iT}(ok:v.Ok G B){e:dF}(he:e∈v.t.bI){c:lE}{lf:Nat->Option Lw.T}{ln k:Nat}(hc:c.Ok)(hs:lh (v.ch e.aN) c k)(jd:∀y,y≠e.a->lf y=v.lf y):(v.VZ e.aN c lf ln).Ok G B:=by
 refine⟨ok.dJ,ok.dQ,ok.u,ok.t,ok.fF,λf hf=>?_,ok.JI,ok.VT,λy hy=>?_⟩
 ·show(if f.aN=e.aN then c else v.ch f.aN).Ok/\(if f.aN=e.aN then c else v.ch f.aN).aM=f.aM/\(if f.aN=e.aN then c else v.ch f.aN).s.dG=v.dJ.dG/\(if f.aN=e.aN then c else v.ch f.aN).dl<=B
  by_cases hp:f.aN=e.aN
  ·rw[if_pos hp];have:=ok.ch e he;rw[ok.t.inj hf he hp];exact⟨hc,hs.aM.trans this.2.1,hs.dG.trans this.2.2.1,by rw[hs.dl];exact this.2.2.2⟩
  ·rw[if_neg hp];exact ok.ch f hf
 ·by_cases hya:y=e.a
  ·exact .inl ⟨e,he,hya.symm⟩
  ·refine ok.lost y ?_;have:lf y=v.lf y:=jd y hya;rw[<-this];exact hy
def zD(v:iT)(e:dF)(l:List gT)(v':iT)(ps:List Pk):=∃bs gs c' lo lf ln,v'=v.VZ e.aN c' lf ln/\F2 BOk l bs/\Dr (v.ch e.aN) ((v.lf e.a).getD (false:Bool)) bs=(gs,c',lo)/\F2 (wg e.aN) gs ps/\lh (v.ch e.aN) c' gs.length/\(∀y,y≠e.a->lf y=v.lf y)/\(lf e.a).getD (false:Bool)=lo
def say_i{G:Gr}{B:Int}{w:aH}{S P:BS}{ee a:Nat}{v:iT}{e:dF}{ms:Sl}{l:List gT}{Q:Sl->aH->Prop}(h:lN ee a v w S)(ok:v.Ok G B)(he:e∈v.t.bI)(hm:fU w P ms l)(hP:∀k,P k->¬S k)(hl:l.length<=10)
  (hQ:∀r ps v' w' S',lN ee a v' w' S'->Up S S' w w'->xL w.heap.size S' w' r ps->v'.Ok G B->zD v e l v' ps->Q r w'):
  tN (some ⟨a,0,none⟩) (LW e) ms w Q:=by
 unfold tN;have jc:=hm.len;have Gi:=tD.UI ok.t he;have hok0:=ok.ch e he;refine bK (λn t w3=>∃(i:Nat) (r:Sl) (ps:List Pk) (gs:List fK) (bs:List (List cH)) (c:lE) (lo:Bool) (lf:Nat->Option Lw.T) (ln:Nat) (S3:BS),i<=l.length/\n=l.length-i/\t=(r,(i:Int),())/\lN ee a (v.VZ e.aN c lf ln) w3 S3/\Up S S3 w w3/\xL w.heap.size S3 w3 r ps/\F2 (wg e.aN) gs ps/\F2 BOk (l.take i) bs/\(∀Oi,Dr (v.ch e.aN) ((v.lf e.a).getD false) (bs++Oi)=(gs++(Dr c lo Oi).1,(Dr c lo Oi).2))/\c.Ok/\lh (v.ch e.aN) c gs.length/\(∀y,y≠e.a->lf y=v.lf y)/\(lf e.a).getD false=lo/\fU w3 (λk=>¬S3 k/\k<w.heap.size) ms l) l.length
  ⟨0,bD,[],[],[],v.ch e.aN,(v.lf e.a).getD false,v.lf,v.ln,S,cY _,rfl,rfl,by rw[said_self];exact h,Up.refl _ _,fO.nil,.nil,.nil,λOi=>rfl,hok0.1,lh.refl _,λ_ _=>rfl,rfl,hm.wk λk hk cD=>⟨hP k hk,cD⟩⟩ ?_
 rintro n t w3 ⟨i,r,ps,gs,bs,c,lo,lf,ln,S3,hi,rfl,rfl,h3,u3,v3,f3,b3,hsay,VJ,Wh,jd,Mj,m3⟩ X hX;have ok3:=yu ok he (ln:=ln) VJ Wh jd;have dX:∀Oi w4 S4,lN ee a (v.VZ e.aN c lf ln) w4 S4->Up S3 S4 w3 w4->F2 BOk (l.drop i) Oi->Dr c lo Oi=([],c,lo)->Q r w4:=λOi w4 S4 h4 u4 hb vI=>by
  refine hQ r ps _ w4 S4 h4 (u3.tr u4) (v3.up u4) ok3 ⟨bs++Oi,gs,c,lo,lf,ln,rfl,?_,?_,f3,Wh,jd,Mj⟩
  ·have:=b3.app hb;rwa[Mo] at this
  ·rw[hsay,vI];simp
 dsimp only;refine aI (λcD=>?_) (λkF=>?_)
 ·have dL:i<l.length:=aB;have cI:=cL dL;have hdr:=ly4 dL;have sZ:=oH dL;generalize l[i]=m at*;obtain⟨q,sl,hq,hx,hh,_⟩:=m3.get cI;rw[dU,pI i aB];refine⟨⟨aB,cD⟩,aA hq (aZ (l:=iu) (GZ (m,sl)) hh ?_)⟩;refine fM (zs:=uA (⟨0,0,0,[],0,WV⟩,bD)) (vs:=uA (m,sl)) DC rfl (RK _) λw4 o4 k4 z4=>?_;have h4:=bJ.kp h3 k4;refine aA rfl (aE (k:=.map) (some v.lp) (h4.cell rfl) ?_);refine h4.isLost ok3 he ?_;have hlo':((v.VZ e.aN c lf ln).lf e.a).getD false=lo:=Mj;rw[hlo'];refine aF (λhl=>?_) (λhl=>?_)
  ·refine dX ((l.drop i).map lF) w4 S3 h4 (Up.aO k4) (zx _) ?_;rw[hdr,hl];rfl
  ·refine aZ (l:=iu) (GZ (m,sl)) (o4.holds λj v hj=>by rw[gK];exact hj) ?_;refine Enc_i (hx.rd.aK k4 cU λ_ _=>id) (λb hb=>pP (hx.Wl b hb).2 k4.size) (by have h51:m.cF.length<=51:=hx.len;show m.cF.length<=_;omega) λsb out eb w5 k5 Wr f5 l5 g5=>?_;have hx51:m.cF.length<=51:=hx.len;have K5:=k4.tr (k5.tr (cB w5));have h5:=bJ.kp h3 K5;refine aA rfl (aE (k:=.ptr) (some ⟨e.cp,0,none⟩) (h5.Mu he rfl) (aA rfl (aE (k:=.i) v.dQ (h5.cell rfl) ?_)));obtain⟨S6,h6,_,HO⟩:=h5.xk Gi;have ech:(v.VZ e.aN c lf ln).ch e.aN=c:=by show(if e.aN=e.aN then c else _)=c;rw[if_pos rfl]
   rw[ech] at h6;refine aAn h6 VJ (Wr.1.aK (cB w5) fV λ_ _=>id) aB λrg w7 S7 h7 u7 Gc=>?_;obtain⟨S8,h8,u8⟩:=HO _ _ w7 S7 u7 h7;have pf:=Kd VJ (b:=out) aB;rw[qu] at h8;obtain⟨S9,h9,u9,g9⟩:=Ug h8;have cs9:lh (v.ch e.aN) (c.push out).2.1 (gs.length+(c.push out).1.length):=Wh.tr pf.1;have ok9:=yu ok he (ln:=ln) Gc cs9 jd;refine aA rfl (aE (k:=.map) (some v.lp) (h9.cell rfl) ?_);refine h9.mark ok9 he _ λeQ ZL Gj Fw=>?_;have U12:Up S3 ZL w3 eQ:=(((Up.aO K5).tr u8).tr u9).tr Fw;have h12':lN ee a (v.VZ e.aN (c.push out).2.1 (λy=>if y=e.a then some ((c.push out).2.2 !=(0:Int)) else lf y) (if(lf e.a).isSome then ln else ln+1)) eQ ZL:=Gj
   have g12:=g9.up Bq Fw;refine aA rfl (aE (k:=.i) (e.aN:Int) (h12'.Mu he rfl) ?_);have l64:(c.push out).1.length<=1000:=by have h1:=pf.1.n;have h2:=Gc.s.TP;have Wk:=Gc.s.dG;omega
   refine IC g12 l64 (λg hg=>by have:=pf.2 g hg;omega) λrp pps iE Di v13 f13=>?_;have vv:=bJ.kp h12' Di;have v13':xL eQ.heap.size ZL iE rp pps:=v13.sub λk hk=>bJ.iF h12' k hk;have v3':=(v3.up U12).kp Di;have fl:=f3.len;have fl2:=f13.len;have n64:gs.length+(c.push out).1.length<=16:=by have h1:=cs9.n;have h2:=Gc.s.TP;have Wk:=Gc.s.dG;omega
   have bd:=bJ.iF vv;have zz:w.heap.size<=eQ.heap.size:=jB u3.size U12.size;refine fO.app nP WS WO aB v3' v13' zz (λb hb=>(v3.up U12).lt hb) aB (jB zz Di.size) bd λr' mX v14 ZF=>?_;have U14:Up S ZL w mX:=Up.iA ((u3.tr U12).tr (Up.aO Di)) ZF;have h14:=bJ.ov vv ZF;have z3:=u3.size;have hm12:fU eQ (λk=>¬ZL k/\k<w.heap.size) ms l:=(m3.aK U12.m λk hk=>hk.1).wk λk hk _=>⟨λhs=>(U12.s k hs).elim hk.1 λhh=>by have:=hk.2;omega,hk.2⟩;refine hX _ _ _ aB ⟨i+1,r',ps++pps,gs++(c.push out).1,bs++[out],(c.push out).2.1,((c.push out).2.2 !=(0:Int)),_,_,ZL,dL,rfl,rfl,h14,U14,v14,f3.app f13,by rw[sZ];exact b3.app (.one λhw=>(g5 hw).1),λOi=>?_,Gc,by rw[fN];exact cs9,λy hy=>?_,?_,(hm12.aO Di).aK ZF λk hk hn=>?_⟩
   ·have h0:=hsay (out::Oi);rw[sV,List.singleton_append,h0,hl];show(gs++((c.push out).1++_),_)=_;rw[sV];rfl
   ·show(if y=e.a then _ else lf y)=_
    rw[if_neg hy];exact jd y hy
   ·show(if e.a=e.a then _ else lf e.a).getD false=_
    rw[if_pos rfl];rfl
   ·have:=hk.2;have:=hn.1;omega
 ·have ei:i=l.length:=aB;subst ei;refine dX [] w3 S3 h3 (Up.refl _ _) (by rw[List.drop_length];exact .nil) ?_;cases lo<;>rfl
def AP(ee:Nat)(v:iT)(p:Nat):As:=match v.t.at p with
 |some e=>vK ee e.sp (v.JI p)
 |none=>EH
instance AP.loc{ee:Nat}{v:iT}(p:Nat):bJ (AP ee v p):=by unfold AP;split<;>infer_instance
def DW(ee:Nat)(v:iT):As:=gS (AP ee v)
instance{ee:Nat}{v:iT}:bJ (DW ee v):=by unfold DW;infer_instance
def iJ(ee a:Nat)(v:iT):As:=bL (lN ee a v) (DW ee v)
instance{ee a:Nat}{v:iT}:bJ (iJ ee a v):=by unfold iJ;infer_instance
def DW.put{w:aH}{S:BS}{ee:Nat}{v:iT}(h:DW ee v w S){e:dF}{p:Nat}(he:v.t.at p=some e):∃S1,vK ee e.sp (v.JI p) w S1/\(∀k,S1 k->S k)/\∀c w' T,Up S1 T w w'->vK ee e.sp c w' T->∃S',DW ee (v.vZ p c) w' S'/\Up S S' w w':=by
 have h1:=(gS.at h p).put;have e1:AP ee v p=vK ee e.sp (v.JI p):=by unfold AP;rw[he]
 rw[e1] at h1;obtain⟨S1,h1,hs,eJ⟩:=h1;refine⟨S1,h1,hs,λc w' T u hT=>?_⟩;obtain⟨S',h',u'⟩:=eJ _ w' T u hT;refine⟨S',?_,u'⟩;have e2:FN (AP ee v) p (vK ee e.sp c)=AP ee (v.vZ p c):=by
  funext q
  show(if q=p then vK ee e.sp c else AP ee v q)=(match v.t.at q with|some e=>vK ee e.sp (if q=p then c else v.JI q)|none=>EH)
  by_cases hq:q=p
  ·subst hq;rw[if_pos rfl,he,if_pos rfl]
  ·rw[if_neg hq,if_neg hq];rfl
 unfold DW;rw[<-e2];exact h'
end
section
structure vX(v v':iT):Prop where
 dJ:v'.dJ=v.dJ
 sp:v'.sp=v.sp
 tp:v'.tp=v.tp
 lp:v'.lp=v.lp
 dQ:v'.dQ=v.dQ
 u:v'.u=v.u
 t:v'.t=v.t
 gv:v'.gv=v.gv
def vX.refl(v:iT):vX v v:=⟨rfl,rfl,rfl,rfl,rfl,rfl,rfl,rfl⟩
def vX.tr{v v' v'':iT}(h:vX v v')(h':vX v' v''):vX v v'':=⟨h'.1.trans h.1,h'.2.trans h.2,h'.3.trans h.3,h'.4.trans h.4,h'.5.trans h.5,h'.6.trans h.6,h'.7.trans h.7,h'.8.trans h.8⟩
def zD.same{v v':iT}{e:dF}{l:List gT}{ps:List Pk}(h:zD v e l v' ps):vX v v':=by
 obtain⟨bs,gs,c',lo,lf,ln,rfl,_⟩:=h;exact⟨rfl,rfl,rfl,rfl,rfl,rfl,rfl,rfl⟩
def PkOk(v:iT)(p:Pk):=p.2.length<=3000/\∃e∈v.t.bI,p.1=(e.aN:Int)
def zD.pks{v v':iT}{e:dF}{l:List gT}{ps:List Pk}(he:e∈v.t.bI)(h:zD v e l v' ps):∀p∈ps,PkOk v p:=by
 obtain⟨bs,gs,c',lo,lf,ln,rfl,_,_,h4,_⟩:=h;intro p hp;obtain⟨g,_,h1,h2⟩:=h4.mem hp;exact⟨h2.1,e,he,h1⟩
def zD.Eu{G:Gr}{B:Int}{v v':iT}{e:dF}{l:List gT}{ps:List Pk}(he:e∈v.t.bI)(h:zD v e l v' ps)(ok:v'.Ok G B):ps.length+(v.ch e.aN).s.n=(v'.ch e.aN).s.n/\(v'.ch e.aN).s.n<=v.dJ.dG:=by
 have hs:=h.same;obtain⟨bs,gs,c',lo,lf,ln,rfl,_,_,h4,h5,_⟩:=h;have:=ok.ch e he;have h6:=this.1.s.TP;rw[this.2.2.1] at h6;have h7:=h5.n;rw[h4.len] at h7;have e1:(v.VZ e.aN c' lf ln).ch e.aN=c':=by show(if e.aN=e.aN then c' else _)=c';rw[if_pos rfl]
 rw[e1] at h6 ⊢;exact⟨h7,h6⟩
def Iy{α:Type}{n lo:Nat}{aY:α->gJ}{xs:List α}{s:Sl}{S S':BS}{w w' Ob:aH}(gQ:∀x,aY x≠[])(hr:Rd w s n aY xs)(ho:JM s S w)(cD:∀b,s.b=some b->b.block<lo)(u:Up S S' w w')(m:aU (λk=>lo<=k/\¬S' k) w' Ob):Rd Ob s n aY xs/\JM s S' Ob:=
 ⟨(ho.rd u hr gQ).aK m gQ λb hb hk=>by have:=cD b hb;have:=hk.1;omega,λb hb=>⟨(ho.up u b hb).1,pP (ho.up u b hb).2 m.size⟩⟩
section
variable{W0 w:aH}{S:BS}{a:Nat}{v:iT}{E:qB}{G:Gr}{B:Int}
def iJ.sesSay(h:iJ E.e a v w S)(hb:Bs W0 E G S w)(ok:v.Ok G B){e:dF}(he:e∈v.t.bI):∃S1,vK E.e e.sp (v.JI e.aN) w S1/\(∀k,S1 k->S k)/\∀(z:zZ×List gT) w' T ms,Up S1 T w w'->vK E.e e.sp z.1 w' T->VL G z.1->fU w' (λk=>w.heap.size<=k) ms z.2->z.2.length<=10->
  ∀(K:WQ Sl),(∀r ps v' w2 S',zD (v.vZ e.aN z.1) e z.2 v' ps->iJ E.e a v' w2 S'->Up S S' w w2->xL w.heap.size S' w2 r ps->v'.Ok G B->K r w2)->tN (some ⟨a,0,none⟩) (LW e) ms w' K:=by
 obtain⟨SC,SS,hC,hS,d,e1⟩:=h;obtain⟨S1,h1,wZ,Yo⟩:=DW.put hS (tD.UI ok.t he);refine⟨S1,h1,λk hk=>(e1 k).2 (.inr (wZ k hk)),λz w' T ms u hT okz hm hl K hK=>?_⟩;obtain⟨SS',hS',uS⟩:=Yo z.1 w' T u hT;have hC':lN E.e a (v.vZ e.aN z.1) w' SC:=bJ.aK hC uS.m λk hk lM=>d k hk lM;have Rl:(v.vZ e.aN z.1).Ok G B:=⟨ok.dJ,ok.dQ,ok.u,ok.t,ok.fF,ok.ch,λf hf=>by
  show VL G (if f.aN=e.aN then z.1 else v.JI f.aN)
  split
  ·exact okz
  ·exact ok.JI f hf,ok.VT,ok.lost⟩
 have bC:=bJ.iF hC;have bS':=bJ.iF hS';have zz:=uS.size;refine say_i (e:=e) hC' Rl he hm (λk hk hc=>by have:=bC k hc;omega) hl λr ps v' w2 SC2 h2 u2 v2 jx hsd=>?_;have hse:=hsd;obtain⟨bs,gs,c',lo,lf,ln,rfl,_⟩:=hse;have dd:∀k,SC k->SS' k->False:=λk hc hs=>(uS.s k hs).elim (λh=>d k hc h) λh=>by have:=bC k hc;omega
 have hS2:DW E.e ((v.vZ e.aN z.1).VZ e.aN c' lf ln) w2 SS':=bJ.aK (A:=DW E.e (v.vZ e.aN z.1)) hS' u2.m λk hk lM=>dd k lM hk;have dd2:∀k,SC2 k->SS' k->False:=λk hc hs=>(u2.s k hc).elim (λh=>dd k h hs) λh=>by have:=bS' k hs;omega
 refine hK r ps _ w2 (λk=>SC2 k\/SS' k) hsd (bL.yH h2 hS2 dd2) ⟨?_,?_⟩ ((v2.cov λk hk=>hk.imp id λh=>bS' k h).qT zz) jx
 ·exact(uS.m.mono λk _ hk=>(e1 k).2 (.inr hk)).trans u2.m λk hk hc=>(e1 k).2 (.inl hc)
 ·rintro k (hk|hk)
  ·exact(u2.s k hk).imp (λh=>(e1 k).2 (.inl h)) λh=>aB
  ·exact(uS.s k hk).imp (λh=>(e1 k).2 (.inr h)) id
def iJ.tJ(h:iJ E.e a v w S):∃SC,lN E.e a v w SC/\∀k,SC k->S k:=by
 obtain⟨SC,SS,hC,hS,d,e1⟩:=h;exact⟨SC,hC,λk hk=>(e1 k).2 (.inl hk)⟩
def iJ.cell(h:iJ E.e a v w S){k:Nat}{x:Value}(hk:(WI E.e v)[k]? =some x):w.cell? ((⟨a,0,none⟩:Addr).add k)=some x:=by
 obtain⟨SC,hC,_⟩:=h.tJ;exact hC.cell hk
def iJ.Mu(h:iJ E.e a v w S){e:dF}(he:e∈v.t.bI){k:Nat}{x:Value}(hk:(Xo e)[k]? =some x):w.cell? ((⟨e.a,0,none⟩:Addr).add k)=some x:=by
 obtain⟨SC,hC,_⟩:=h.tJ;exact hC.Mu he hk
def iJ.Fx(h:iJ E.e a v w S):∃S1,DV v.tp v.t w S1/\∀k,S1 k->S k:=by
 obtain⟨SC,hC,hs⟩:=h.tJ;obtain⟨S1,h1,h2⟩:=hC.Fx;exact⟨S1,h1,λk hk=>hs k (h2 k hk)⟩
def iJ.sset(h:iJ E.e a v w S):∃S1,vS v.sp v.u w S1/\∀k,S1 k->S k:=by
 obtain⟨SC,hC,hs⟩:=h.tJ;obtain⟨S1,h1,h2⟩:=gS.get hC .set;exact⟨S1,h1,λk hk=>hs k (h2 k hk)⟩
def Qj{oQ op:Sl}{sh opl:cR}{Q:Sl->aH->Prop}(h:iJ E.e a v w S)(hb:Bs W0 E G S w)(ok:v.Ok G B)(hsh:Rd w oQ 1 eI sh)(hso:JM oQ S w)(Gf:Rd w op 1 eI opl)(hoo:JM op S w)(hl:sh.length<=1000/\opl.length<=1000)
  (hQ:∀r ps v' w' S',iJ E.e a v' w' S'->Up S S' w w'->xL w.heap.size S' w' r ps->v'.Ok G B->vX v v'->ps.length<=v.t.bI.length*v.dJ.dG->(∀p∈ps,PkOk v p)->((sh=[]/\opl=[])\/v.t.bI=[]->v'=v/\ps=[])->Q r w'):sI (some ⟨a,0,none⟩) oQ op w Q:=by
 unfold sI;have lsh:=hsh.len;have lop:=Gf.len;rw[iH aB aB];refine aF (λh0=>?_) (λh0=>?_)
 ·exact hQ _ [] v w S h (Up.refl _ _) fO.nil ok (vX.refl v) (cY _) (λp hp=>by cases hp) λ_=>⟨rfl,rfl⟩
 have gQ:¬(sh=[]/\opl=[]):=λhh=>by rw[lsh,lop,hh.1,hh.2] at h0;simp at h0
 refine aA rfl (aE (k:=.ptr) (some ⟨v.tp,0,none⟩) (h.cell rfl) ?_);obtain⟨S1,hT,hS1⟩:=h.Fx;refine Ik hT ok.t λs1 w1 v1 k1 f1=>?_;have bd:=bJ.iF h;have sl:=v1.len;rw[lT] at sl;have QS:=ok.dJ.dG;have o1:JM s1 S w1:=λb bW=>⟨λhk=>by have:=bd _ hk;have:=f1 b bW;omega,v1.lt bW⟩;have olen:=ok.t.len;have omost:=ok.t.fF;refine bK (λn t w3=>∃(i:Nat) (r:Sl) (ps:List Pk) (v3:iT) (S3:BS),i<=v.t.bI.length/\n=v.t.bI.length-i/\t=(r,(i:Int),())/\iJ E.e a v3 w3 S3/\Up S S3 w w3/\xL w1.heap.size S3 w3 r ps/\v3.Ok G B/\vX v v3/\ps.length<=i*v.dJ.dG/\(∀p∈ps,PkOk v p)/\(v.t.bI=[]->v3=v/\ps=[])/\Rd w3 s1 1 Xa (v.t.bI.map LW)/\JM s1 S3 w3/\Rd w3 oQ 1 eI sh/\JM oQ S3 w3/\Rd w3 op 1 eI opl/\JM op S3 w3/\w1.heap.size<=w3.heap.size) v.t.bI.length
  ⟨0,bD,[],v,S,cY _,rfl,rfl,bJ.kp h k1,Up.aO k1,fO.nil,ok,vX.refl v,cY _,λp hp=>(by cases hp),λ_=>⟨rfl,rfl⟩,v1.rd MW,o1,hsh.aK k1 cU λ_ _=>id,hso.kp k1,Gf.aK k1 cU λ_ _=>id,hoo.kp k1,dN _⟩ ?_
 rintro n t w3 ⟨i,r,ps,v3,S3,hi,rfl,rfl,h3,u3,r3,ok3,st3,hpl,hpk,hemp,rd3,os3,rsh,osh,rop,oop,zz3⟩ X hX;dsimp only;refine aI (λcD=>?_) (λkF=>?_)
 ·have dL:i<v.t.bI.length:=aB;have cI:=cL dL;have gG:=oF dL;generalize v.t.bI[i]=e at*;have Yj:e∈v3.t.bI:=by rw[st3.t];exact gG
  obtain⟨q,hq,cq⟩:=bR (k:=.ptr) (e:=λx=>x) rd3 (show(v.t.bI.map LW)[i]? =some (LW e) by rw[oG,cI];rfl);rw[dU,pI i aB];have hd:=bJ.dr h3;refine⟨⟨aB,cD⟩,aA hq (aE (k:=.ptr) (LW e) cq (aA rfl (aE (k:=.ptr) (some ⟨e.sp,0,none⟩) (hd.Mu Yj rfl) (aA rfl (aE (k:=.ptr) (some ⟨v3.sp,0,none⟩) (hd.cell rfl) ?_)))))⟩;obtain⟨S4,MA,_⟩:=hd.sset;refine Uq MA ok3.u.2 λmk w4 v4 k4 f4=>?_;have K4:=(cB w3).tr k4;have h4:=bJ.kp h3 K4;refine⟨h4.Mu Yj rfl,?_⟩;have hb4:=(hb.up u3).kp K4;obtain⟨S5,h5,hs5,say5⟩:=h4.sesSay hb4 ok3 Yj;have z4:=K4.size;have w3d:w3.drew.heap.size=w3.heap.size:=rfl;refine SChg_i (hb4.sub hs5) h5 (ok3.JI e Yj) (rsh.aK K4 cU λ_ _=>id) aB (rop.aK K4 cU λ_ _=>id) (v4.rd Gw) λz ms w5 T hz hT uT okz hm kj=>?_;refine say5 z w5 T ms uT hT okz hm aB _ λrs pps v6 w6 S6 hsd h6 u6 r6 uq=>?_;have U6:Up S3 S6 w3 w6:=(Up.aO K4).tr u6;have VN:vX v v6:=st3.tr ((⟨rfl,rfl,rfl,rfl,rfl,rfl,rfl,rfl⟩:vX v3 (v3.vZ e.aN z.1)).tr hsd.same);have hmem3':e∈(v3.vZ e.aN z.1).t.bI:=Yj;have hcnt:=hsd.Eu hmem3' uq;have hcw:(v6.ch e.aN).s.n<=v.dJ.dG:=by have:=hcnt.2;rw[show(v3.vZ e.aN z.1).dJ=v.dJ from st3.dJ] at this;exact this
  have r3':=r3.up U6;have bd6:=bJ.iF h6;have z3:=u3.size;have im:i*v.dJ.dG<=16*16:=TS aB QS.2;refine fO.app nP WS WO aB r3' r6 aB (λb bW=>pP (r3.lt bW) z4) aB (by have:=u6.size;omega) bd6 λr' w7 v7 m7=>?_;have U7:Up S S6 w w7:=Up.iA (u3.tr U6) (m7.mono λk _ hk=>⟨jB k1.size hk.1,hk.2⟩);have h7:=bJ.ov h6 m7;obtain⟨x1,x2⟩:=Iy UL rd3 os3 (λb bW=>v1.lt bW) U6 m7;obtain⟨x3,x4⟩:=Iy cU rsh osh (λb bW=>pP (hso b bW).2 k1.size) U6 m7;obtain⟨x5,x6⟩:=Iy cU rop oop (λb bW=>pP (hoo b bW).2 k1.size) U6 m7;refine hX _ _ _ aB ⟨i+1,r',ps++pps,v6,S6,dL,rfl,rfl,h7,U7,v7,uq,VN,?_,λp hp=>?_,λh0=>(by rw[h0] at gG;cases gG),x1,x2,x3,x4,x5,x6,?_⟩
  ·rw[fN,Nat.add_mul,Nat.one_mul];omega
  ·rcases kK.1 hp with hp|hp
   ·exact hpk p hp
   ·obtain⟨h1,f,hf,h2⟩:=hsd.pks hmem3' p hp;exact⟨h1,f,by rw[<-st3.t];exact hf,h2⟩
  ·have:=u6.size;have:=m7.size;omega
 ·have ei:i=v.t.bI.length:=aB;subst ei;exact hQ r ps v3 w3 S3 h3 u3 (r3.qT k1.size) ok3 st3 hpl hpk λhh=>hh.elim (λhh=>absurd hh gQ) hemp
def iJ.putSet(h:iJ E.e a v w S):∃S1,vS v.sp v.u w S1/\(∀k,S1 k->S k)/\∀u' D w' T,Up S1 T w w'->bL (vS v.sp u') D w' T->∃S',bL (iJ E.e a {v with u:=u'}) D w' S'/\Up S S' w w':=by
 obtain⟨S1,h1,hs,eJ⟩:=(bL.l h).c λT hT=>gS.at hT .set;refine⟨S1,h1,hs,λu' D w' T u hT=>?_⟩;obtain⟨S',h',u2⟩:=eJ _ D w' T u hT;refine⟨S',h'.mono (λ_ h=>h.mono (λS h=>?_) λ_ h=>h) λ_ h=>h,u2⟩;have e:FN (RC E.e a v) .set (vS v.sp u')=RC E.e a {v with u:=u'}:=by
  funext i
  cases i<;>rfl
 unfold lN;rw[<-e];exact h
def iT.Gq(v:iT)(u:cR):iT:={v with u:=u}
def iT.Ok.Gq(ok:v.Ok G B){u:cR}(hu:u.length=v.u.length):(v.Gq u).Ok G B:=⟨ok.dJ,ok.dQ,⟨hu.trans ok.u.1,by show u.length<=512;rw[hu];exact ok.u.2⟩,ok.t,ok.fF,ok.ch,ok.JI,ok.VT,ok.lost⟩
def iT.NH(v:iT)(kL oX:Int):cR:=if 0<=kL/\kL<v.u.length/\1<=oX/\oX<=1048576 then v.u.set kL.toNat (v.dQ+oX) else v.u
structure ChgS(G:Gr)(B:Int)(ee a:Nat)(v v1:iT)(w:aH)(S:BS)(r:Sl)(ps:List Pk)(v':iT)(w':aH)(S':BS):Prop where
 Fy:iJ ee a v' w' S'
 up:Up S S' w w'
 row:xL w.heap.size S' w' r ps
 ok:v'.Ok G B
 same:vX v1 v'
 len:ps.length<=v.t.bI.length*v.dJ.dG
 pks:∀p∈ps,PkOk v p
 nil:v.t.bI=[]->v'=v1/\ps=[]
def so{u:cR}{e:Nat}{t:Int}:(Ii u e t).length<=1:=by unfold Ii;split<;>simp
def edges_i{e:Addr->Prop}{Q:Int->aH->Prop}(he:AL w E G)(hQ:Q (G.E.length:Int) w):aC (some ⟨E.e,0,none⟩:cW) λa2=>ZA .ptr w (a2.add 0) λ(p2:cW)=>aC p2 λa3=>ZA .ptr w (a3.add 0) λ(p3:cW)=>gW p3 w Q:=
 aA rfl (aE (k:=.ptr) (some ⟨E.t.t,0,none⟩) he.cells.1 (aA rfl (aE (k:=.ptr) (some ⟨E.t.H.g,0,none⟩) he.TJ.cells.1 (uB he.TJ.JG hQ))))
def VClose_i{kL oX:Int}{Q:Sl->Int->aH->Prop}(h:iJ E.e a v w S)(hb:Bs W0 E G S w)(ok:v.Ok G B)
  (hQ:∀r ps er v' w' S',ChgS G B E.e a v (v.Gq (v.NH kL oX)) w S r ps v' w' S'->Q r er w'):KP (some ⟨a,0,none⟩) kL oX w Q:=by
 unfold KP;have no:∀wx,aL w wx->¬(0<=kL/\kL<v.u.length/\1<=oX/\oX<=1048576)->Q bD 1 wx:=λwx k hn=>by
  have e:v.NH kL oX=v.u:=by unfold iT.NH;rw[if_neg hn]
  exact hQ _ [] _ v wx S ⟨bJ.kp h k,Up.aO k,fO.nil,ok,by rw[e];exact vX.refl v,cY _,λp hp=>(by cases hp),λ_=>⟨by rw[e];rfl,rfl⟩⟩
 have k0:aL w w:=aU.refl _ _;refine aF (λh=>by simp at h) (λ_=>aI (λh0=>no w k0 λhh=>aB) (λh0=>?_));refine aA rfl (aE (k:=.ptr) (some ⟨E.e,0,none⟩) (h.cell rfl) (edges_i (e:=λ_=>True) hb.e ?_));rw[<-ok.u.1];refine aI (λh1=>no w k0 λhh=>aB) (λh1=>aI (λh2=>no w k0 λhh=>aB) (λh2=>aI (λh3=>no w k0 λhh=>aB) (λh3=>?_)));obtain⟨e,rfl⟩:∃e:Nat,kL=(e:Int):=⟨kL.toNat,aB⟩;have heu:e<v.u.length:=aB;have Sd:v.NH (e:Int) oX=v.u.set e (v.dQ+oX):=by unfold iT.NH;rw[if_pos ⟨aB,aB,aB,aB⟩,dU]
 rw[Sd] at hQ;have hd:=bJ.dr h;refine aA rfl (aE (k:=.ptr) (some ⟨v.sp,0,none⟩) (hd.cell rfl) (aA rfl (aE (k:=.i) v.dQ (hd.cell rfl) ?_)));refine cM (cs:=eI (e:Int)) λw2 b2 k2 z2=>?_;have K2:=(cB w).tr k2;have h2:=bJ.kp h K2;refine⟨h2.cell rfl,h2.cell rfl,?_⟩;have MM:=ok.dQ;rw[iH aB aB];obtain⟨S3,h3,Dj,Hw⟩:=h2.putSet;refine SClose_i h3 (lU eY [(e:Int)] b2 rfl dP) heu ⟨aB,aB⟩ λrc w4 S4 h4 u4=>?_;obtain⟨S5,h5,u5⟩:=Hw _ _ w4 S4 u4 h4;obtain⟨S6,S7,h6,h7,d67,e67⟩:=h5;have U6:Up S S6 w w4:=((Up.aO K2).tr u5).tr (Up.sub w4 λk hk=>(e67 k).2 (.inl hk));have uq:(v.Gq (v.u.set e (v.dQ+oX))).Ok G B:=ok.Gq dP;have o7:JM rc S6 w4:=λb bW=>⟨λhk=>d67 _ hk ((h7.2 _).2 ⟨b,bW,rfl⟩),h7.1.lt bW⟩;refine Qj (v:=v.Gq (v.u.set e (v.dQ+oX))) h6 (hb.up U6) uq (h7.1.rd eY) o7 (opl:=[]) (Rd.nil _ _ _) (λb bW=>by cases bW) ⟨by have:=so (u:=v.u) (e:=e) (t:=v.dQ+oX);omega,by simp⟩ λr ps v' w' S' g1 g2 g3 g4 g5 g6 g7 g8=>?_;exact hQ r ps _ v' w' S' ⟨g1,U6.tr g2,g3.qT U6.size,g4,g5,g6,g7,λhh=>g8 (.inr hh)⟩
def Tp{Q:Int->aH->Prop}(h:iJ E.e a v w S)(hQ:Q v.dQ w):HX (some ⟨a,0,none⟩) w Q:=by
 unfold HX;exact aF (λh=>by simp at h) (λ_=>aA rfl (aE (k:=.i) v.dQ (h.cell rfl) hQ))
def VClosed_i{Q:Sl->aH->Prop}(h:iJ E.e a v w S)(ok:v.Ok G B)(hQ:∀r w',dE w' tShut 2 eSh r (gE 0 v.u)->aL w w'->(∀b,r.b=some b->w.heap.size<=b.block)->Q r w'):FA (some ⟨a,0,none⟩) w Q:=by
 unfold FA;obtain⟨S1,h1,_⟩:=h.sset;exact aF (λh=>by simp at h) (λ_=>aA rfl (aE (k:=.ptr) (some ⟨v.sp,0,none⟩) (h.cell rfl) (SAll_i h1 ok.u.2 hQ)))
def VLive_i{Q:Sl->aH->Prop}(h:iJ E.e a v w S)(ok:v.Ok G B)(hQ:∀r w',dE w' dA 1 eI r (v.t.bI.map λe=>(e.aN:Int))->aL w w'->(∀b,r.b=some b->w.heap.size<=b.block)->Q r w'):PU (some ⟨a,0,none⟩) w Q:=by
 unfold PU;obtain⟨S1,hT,_⟩:=h.Fx;refine aF (λh=>by simp at h) (λ_=>aA rfl (aE (k:=.ptr) (some ⟨v.tp,0,none⟩) (h.cell rfl) (Ik hT ok.t λs1 w1 v1 k1 f1=>?_)));have sl:=v1.len;rw[lT] at sl;have olen:=ok.t.len;have omost:=ok.t.fF;refine bK (λn t w3=>∃(i:Nat) (r:Sl),i<=v.t.bI.length/\n=v.t.bI.length-i/\t=(r,(i:Int),())/\dE w3 dA 1 eI r ((v.t.bI.take i).map λe=>(e.aN:Int))/\aL w1 w3/\∀b,r.b=some b->w1.heap.size<=b.block) v.t.bI.length
  ⟨0,bD,cY _,rfl,rfl,dE.nil _ _ _ _,aU.refl _ _,λb hb=>by cases hb⟩ ?_
 rintro n t w3 ⟨i,r,hi,rfl,rfl,v3,k3,f3⟩ X hX;dsimp only;refine aI (λcD=>?_) (λkF=>?_)
 ·have dL:i<v.t.bI.length:=aB;have cI:=cL dL;have gG:=oF dL;have sZ:=oH dL;generalize v.t.bI[i]=e at*;obtain⟨q,hq,cq⟩:=bR (k:=.ptr) (e:=λx=>x) ((v1.rd MW).aK k3 UL λ_ _=>id) (show(v.t.bI.map LW)[i]? =some (LW e) by rw[oG,cI];rfl);rw[dU,pI i aB];refine⟨⟨aB,cD⟩,aA hq (aE (k:=.ptr) (LW e) cq (aA rfl (aE (k:=.i) (e.aN:Int) ((bJ.kp h (k1.tr k3)).Mu gG rfl) ?_)))⟩;refine cM (cs:=eI (e.aN:Int)) λw4 b4 k4 z4=>?_;refine fH iD eY CI (x:=⟨some ⟨w3.heap.size,0,none⟩,1,1⟩) (v3.aK k4 λ_ _=>id) (lU eY [(e.aN:Int)] b4 rfl dP) (by simp;omega) (by simp;omega) λr' w5 v5 m5 hr5 _=>?_;refine hX _ _ _ aB ⟨i+1,r',dL,rfl,rfl,by rw[sZ,xF];exact v5,(k3.tr k4).fresh m5 λk ⟨b,hb,e⟩=>by rw[e];exact f3 b hb,λb hb=>?_⟩;rcases hr5 with h|⟨b',h,h2⟩
  ·exact f3 b (h.symm.trans hb)
  ·rw[hb] at h;cases h;have:=(k3.tr k4).size;omega
 ·have ei:i=v.t.bI.length:=aB;subst ei;rw[oV] at v3;exact hQ r w3 v3 (k1.tr k3) λb hb=>by have:=f3 b hb;have:=k1.size;omega
end
end
end Go.Proofs.YtihggjgakbgomaaGreat
