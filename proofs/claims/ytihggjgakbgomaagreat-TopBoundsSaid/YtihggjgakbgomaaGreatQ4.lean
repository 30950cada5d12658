import Derived.Test.YtihggjgakbgomaaGreatA1
import Derived.Test.YtihggjgakbgomaaGreatF1
import Derived.Test.YtihggjgakbgomaaGreatQ2
import Derived.Test.YtihggjgakbgomaaGreatQ3
import Derived.Test.YtihggjgakbgomaaGreatA2
import Derived.Test.YtihggjgakbgomaaGreatQ1
import Derived.Test.YtihggjgakbgomaaGreatF2
namespace Go.Proofs.YtihggjgakbgomaaGreat
open Go Go.Den
section
theorem weight_i{w:aH}{t:Lo}{G:Gr}{i:Int}{Q:Int->aH->Prop}(h:rT w t G)(hi:G.qE i)(hQ:∀w',aM w w'->Q (G.wt i) w'):xH (some ⟨t.t,0,none⟩) i w Q:=by
 unfold xH;refine aA rfl (aE (k:=.ptr) (some ⟨t.H.g,0,none⟩) h.cells.1 ?_);exact JM h hi λa w' hc k _=>aE (k:=.i) (G.wt i) hc (hQ w' k)
theorem KQ(b:Bool):eB b≠[]:=by simp
theorem Gn{c:List Bool}{e:Int}(h:(c.length:Int)<=e):qI c e=false:=by
 unfold qI;rw[LP,List.getElem?_eq_none aB];rfl
theorem ZB{c:List Bool}{e:Int}(h0:0<=e)(h:e<c.length):c[e.toNat]? =some (qI c e):=by
 have:e.toNat<c.length:=aB;unfold qI;rw[LP,gS this];rfl
theorem shut_i{w:aH}{s:Sl}{c:List Bool}{e:Int}{Q:Bool->aH->Prop}(hr:Rd w s 1 eB c)(h0:0<=e)(hQ:Q (qI c e) w):EO s e w Q:=by
 unfold EO;have hl:=hr.len;refine aJ (λcJ=>?_) (λkT=>by rw[Gn aB] at hQ;exact hQ);obtain⟨p,hp,hc⟩:=cF (k:=.bool) (e:=λx=>x) hr (ZB h0 aB);exact⟨⟨h0,cJ⟩,aA hp (aE (k:=.bool) (qI c e) hc hQ)⟩
structure DSt(W w:aH)(B g1:Nat)(s1:Sl)(H:HS)(q:List It)(ds:List Int):Prop where
 hp:rI w H q
 hg:H.g=B
 PO:s1.b=some ⟨g1,0,none⟩
 v1:dQ w cY 1 eI s1 ds
 kp:aM W w
 sep:∀k,H.dF k->W.heap.size<=k/\k≠g1
 qF:W.heap.size<=g1
section
variable{W w:aH}{B g1:Nat}{s1:Sl}{H:HS}{q:List It}{ds:List Int}
theorem DSt.aN{w':aH}(h:DSt W w B g1 s1 H q ds)(k:aM w w'):DSt W w' B g1 s1 H q ds:=⟨h.hp.aN k,h.hg,h.PO,h.v1.aK k λ_ _=>id,h.kp.tr k,h.sep,h.qF⟩
theorem DSt.heap{w':aH}{H':HS}{q':List It}(h:DSt W w B g1 s1 H q ds)(hp:oE w' H' q')(hg:H'.g=H.g)(m:aW H.dF w w')(f:∀k,H'.dF k->H.dF k\/w.heap.size<=k):DSt W w' B g1 s1 H' q' ds:=by
 have hg1:=h.v1.lt h.PO;have hk:=h.kp.size;refine⟨.inl hp,hg.trans h.hg,h.PO,h.v1.aK m λa ha hk=>?_,h.kp.fresh m λk hk=>(h.sep k hk).1,λk lD=>?_,h.qF⟩
 ·rw[h.PO] at ha;cases ha;exact(h.sep _ hk).2 rfl
 ·rcases f k lD with h1|h1
  ·exact h.sep k h1
  ·have Af:g1<w.heap.size:=hg1
   exact⟨aB,aB⟩
end
theorem To_i{t:Lo}{G:Gr}{node:Int}{dD:Sl}{c:List Bool}{W:aH}{Q:Sl->aH->Prop}(h:rT W t G)(hN:G.XS node)(hc:Rd W dD 1 eB c)
  (hQ:∀s ds w',G.rZ c node ds->dQ w' cY 1 eI s ds->aM W w'->(∀b,s.b=some b->W.heap.size<=b.block)->(∀(v:Nat) x,ds[v]? =some x->-1<=x/\x<=51*BW)->Q s w'):HX (some ⟨t.t,0,none⟩) node dD W Q:=by
 unfold HX;have ok:=h.IJ.ok;have hm:=ok.m1;have hnx:=ok.nxOk c node;refine aF (λh=>by simp at h) (λ_=>aJ (λh=>aB) (λ_=>?_));refine aA rfl (aE (k:=.ptr) (some ⟨t.H.g,0,none⟩) h.cells.1 (OI h.IJ (aJ (λh=>aB) (λ_=>?_))));unfold NQ;refine bK λw1 o1 k1 z1=>?_;have h1:=h.aN k1;refine aA rfl (aE (k:=.ptr) (some ⟨t.H.g,0,none⟩) h1.cells.1 (sT h1.IJ ?_));refine Xu o1 hm.2 λw3 v3 k3=>?_;generalize tO:(⟨some ⟨w1.heap.size,0,none⟩,G.m,G.m⟩:Sl)=s1 at*;have PO:s1.b=some ⟨w1.heap.size,0,none⟩:=by rw[<-tO]
 refine bK λw4 o4 k4 z4=>?_;have K4:=(k1.tr k3).tr k4;have h4:=h.aN K4;refine aA rfl (aE (k:=.ptr) (some ⟨t.H.g,0,none⟩) h4.cells.1 ?_);refine gIn_i h4.IJ λs2 w5 v5 k5 f5=>?_;have K5:=K4.tr k5;have z13:=v3.lt PO;have zW:=k1.size;have z3:=k3.size;have hl13:w1.heap.size<w3.heap.size:=z13;have St0:DSt W w5 w3.heap.size w1.heap.size s1 ⟨w3.heap.size,w3.heap.size,bD⟩ [] (List.replicate G.m (-1)):=by
  refine⟨.inr ⟨rfl,rfl,rfl,o4.aK k5 id⟩,rfl,PO,(v3.aK k4 λ_ _=>id).aK k5 λ_ _=>id,K5,λk hk=>?_,aB⟩;have:k=w3.heap.size:=by
   rcases hk with hk|hk|⟨a,ha,_⟩
   ·exact hk
   ·exact hk
   ·cases ha
  subst this;exact⟨aB,aB⟩
 have il:=G.tn node;have ye:∀e,e∈G.Tu node↔G.src node e:=λe=>G.ta;have l2:=v5.len;have f5':∀b,s2.b=some b->w4.heap.size<=b.block/\b.block<w5.heap.size:=λb hb=>⟨f5 b hb,v5.lt hb⟩;clear o1 v3 o4 f5;generalize hB:w3.heap.size=B at*;generalize hg1:w1.heap.size=g1 at*;refine bO (λc' t' w6=>∃(i:Nat) (H:HS) (q:List It),i<=(G.Tu node).length/\c'=(G.Tu node).length-i/\t'=((i:Int),())/\DSt W w6 B g1 s1 H q (List.replicate G.m (-1))/\Ca q/\BD q/\dQ w6 cY 1 eI s2 (G.Tu node)/\(∀k,H.dF k->∀b,s2.b=some b->k≠b.block)/\
   (∀y∈q,y.key=0/\G.src node y.id)/\(∀j,j<i->∀v,(G.Tu node)[j]? =some v->∃y∈q,y.id=v)) (G.Tu node).length
  ⟨0,_,[],iG _,rfl,rfl,St0,(λx hx=>by cases hx),List.Pairwise.nil,v5,λk hk b hb e=>?_,(λy hy=>by cases hy),λj hj=>aB⟩ ?_
 ·have hkb:k=B:=by
   rcases hk with hk|hk|⟨a,ha,_⟩
   ·exact hk
   ·exact hk
   ·cases ha
  have:=f5' b hb;omega
 rintro c' t' w6 ⟨i,H,q,hi,rfl,rfl,st,jW,lM,v6,FP,hq,oO⟩ X hX;dsimp only;have qlen:q.length<=G.m:=DV (lZ lM) jW λy hy=>(hq y hy).2.1;refine aJ (λcJ=>?_) (λkT=>?_)
 ·have dJ:i<(G.Tu node).length:=aB
  have cV:=gS dJ;have fP:=nE dJ;generalize (G.Tu node)[i]=v at*;obtain⟨p,hp,hcp⟩:=cF (k:=.i) (e:=λx=>x) (v6.rd fH) cV;rw[kE];refine⟨⟨aB,cJ⟩,aA hp (aE (k:=.i) v hcp ?_)⟩;have hg:=st.hg;rw[<-hg];refine YY st.hp aB λw7 H7 h7 g7 m7 f7=>?_;have XR:=st.heap h7 g7 m7 f7;rw[qA i aB];refine hX _ _ _ aB ⟨i+1,H7,_,dJ,rfl,rfl,XR,CD jW v 0,CC lM v 0,v6.aK m7 λb hb hk=>FP _ hk b hb rfl,λk hk b hb e=>?_,λy hy=>?_,λj hj u hu=>?_⟩
  ·rcases f7 k hk with h1|h1
   ·exact FP k h1 b hb e
   ·have:=v6.lt hb;omega
  ·rcases WC hy with db|rfl
   ·exact hq y db
   ·exact⟨rfl,(ye v).1 fP⟩
  ·rcases Nat.lt_or_ge j i with CR|CR
   ·obtain⟨y,hy,e⟩:=oO j CR u hu
    obtain⟨y',Tv,e',_⟩:=OO jW (v:=v) (k:=0) hy;exact⟨y',Tv,e'.trans e⟩
   ·have:j=i:=aB
    subst this;rw[cV] at hu;cases hu;obtain⟨y,hy,e,_⟩:=WD (q:=q) (v:=v) (k:=0);exact⟨y,hy,e⟩
 have ei:i=(G.Tu node).length:=aB;subst ei;have G0:tI G.m (G.src node) (G.nx c) (λe=>e.f) (λ_ _=>True) (List.replicate G.m (-1)) (List.replicate G.m (-1)) q (λ_=>some (-1)):=tI.start hnx (λy hy=>⟨(hq y hy).1,(hq y hy).2,rfl⟩) λv hv=>by
  obtain⟨j,hj⟩:=oM.1 ((ye v).2 hv);exact oO j (kU.1 hj).1 v hj
 clear hX hq oO qlen kT hi St0 v6 FP f5' v5 l2;generalize hds0:List.replicate G.m (-1:Int)=ds0 at*;refine bO (λc' t' fO=>∃(H:HS) (q:List It) (kn:Int->Option Int) (ds bs:List Int),c'=G.m-met ds/\t'=()/\DSt W fO B g1 s1 H q ds/\Ca q/\BD q/\tI G.m (G.src node) (G.nx c) (λe=>e.f) (λ_ _=>True) ds bs q kn) (G.m-met ds0)
  ⟨H,q,_,ds0,ds0,rfl,rfl,st,jW,lM,G0⟩ ?_
 clear G0 jW lM st;rintro c' t' fO ⟨H,q,kn,ds,bs,rfl,rfl,st,jW,lM,GI⟩ X hX;have hg:=st.hg;rw[<-hg];refine qw st.hp ?_;cases q with
 |nil=>
  refine aJ (λh=>by simp at h) (λ_=>?_);have gr:=GI.done hnx;refine hQ s1 ds fO gr.rZ st.v1 st.kp (λb hb=>?_) λv x hx=>?_
  ·rw[st.PO] at hb;cases hb;exact st.qF
  ·have:=gr.gH v x hx
   simp only[BW] at*;omega
 |cons x q=>
  refine aJ (λ_=>?_) (λh=>absurd (by simp only[nU];omega) h);obtain⟨x0,x1,hxd,hxg,hxb,u,hu,_⟩:=GI.qi x dL;have hxE:G.qE x.id:=⟨x0,x1⟩;have bm:=(hxg.mz hnx).2.2;have qm:(x::q).length<=G.m:=DV (lZ lM) jW λy hy=>⟨(GI.qi y hy).1,(GI.qi y hy).2.1⟩;have hp:oE fO H (x::q):=st.hp.resolve_right λh=>by cases h.1
  refine Pop_i hp (by simp at qm;omega) λiZ H17 h17 g17 f17 vz=>?_;have rA:=st.heap h17 g17 vz λk hk=>.inl ((f17 k).1 hk);obtain⟨G1,hmet⟩:=GI.pop hnx lM jW hu;have hml:=ik (ds.set x.id.toNat x.key);rw[pJ,GI.dl] at hml;have v1l:=rA.v1.len;have dp:=GI.dl;refine⟨⟨x0,aB⟩,aA rA.PO ?_⟩;refine rA.v1.store fH rA.PO (i:=x.id.toNat) aB x.key (v:=aD x.key) rfl cU (EV _) λnM v19 m19 z19=>?_;have KY:aW (λk=>k=g1) iZ nM:=m19;have FU:DSt W nM B g1 s1 H17 q (ds.set x.id.toNat x.key):=⟨rA.hp.aK KY λk hk e=>(rA.sep k hk).2 e,rA.hg,rA.PO,v19,rA.kp.fresh KY λk e=>by rw[show k=g1 from e];exact rA.qF,rA.sep,rA.qF⟩;have hdlt:x.id.toNat<ds.length:=aB;have hself:(ds.set x.id.toNat x.key)[x.id.toNat]? =some x.key:=by rw[vT,if_pos rfl,if_pos hdlt]
  have exi:(x.id.toNat:Int)=x.id:=Int.toNat_of_nonneg x0;have QM:Ca q:=λa ha b hb=>jW a (by simp[ha]) b (by simp[hb]);have qh:BD q:=(List.pairwise_cons.1 lM).2;generalize hds':ds.set x.id.toNat x.key=Kn at*;generalize bs.set x.id.toNat u=Ms at*;refine shut_i (hc.aK FU.kp KQ λ_ _=>id) x0 ?_;refine aF (λhsh=>?_) (λhsh=>?_)
  ·refine hX (G.m-met Kn) _ _ aB ⟨H17,q,kn,Kn,Ms,rfl,rfl,FU,QM,qh,G1.mono λv e he _ ev=>?_⟩
   rw[ev] at he;have:=(G.JG.1 he).1;rw[hsh] at this;cases this
  refine Prev_i (h.aN FU.kp) λs3 AU v21 k21 f21=>?_;have Pw:=FU.aN k21;have l3:=v21.len;have hpl:=G.Ww x.id;have hnxe:G.nx c x.id=(G.nX x.id).map λa=>(⟨a,x.id,G.wt x.id,-1⟩:bQ):=by unfold Gr.nx;rw[if_neg (by rw[hsh];simp)]
  have hpE:∀p∈G.nX x.id,G.qE p:=λp hp=>(G.iI.1 (G.WH.1 hp)).1;have hpN:∀p∈G.nX x.id,(⟨p,x.id,G.wt x.id,-1⟩:bQ)∈G.nx c x.id:=λp hp=>by rw[hnxe];exact lK.2 ⟨p,hp,rfl⟩
  have Tw:=ok.w1 hxE;have fr3:∀b,s3.b=some b->nM.heap.size<=b.block/\b.block<AU.heap.size:=λb hb=>⟨f21 b hb,v21.lt hb⟩;refine bO (λc' t' DH=>∃(i:Nat) (H:HS) (q:List It) (kn:Int->Option Int),i<=(G.nX x.id).length/\c'=(G.nX x.id).length-i/\t'=((i:Int),())/\DSt W DH B g1 s1 H q Kn/\Ca q/\BD q/\
    tI G.m (G.src node) (G.nx c) (λe=>e.f) (λv e=>v≠x.id\/e.f∈(G.nX x.id).take i) Kn Ms q kn/\dQ DH cY 1 eI s3 (G.nX x.id)/\(∀k,H.dF k->∀b,s3.b=some b->k≠b.block)) (G.nX x.id).length
   ⟨0,H17,q,kn,iG _,rfl,rfl,Pw,QM,qh,G1.mono (λv e _ hh=>hh.resolve_right dL),v21,λk hk b hb e=>by have:=(fr3 b hb).1;have:=FU.hp.lt hk;omega⟩ ?_
  rintro c' t' DH ⟨i,H2,q2,kn2,hi,rfl,rfl,st2,KO,QK,G2,v22,sp2⟩ Y hY;dsimp only;have hq2len:q2.length<=G.m:=DV (lZ QK) KO λy hy=>⟨(G2.qi y hy).1,(G2.qi y hy).2.1⟩;refine aJ (λcJ=>?_) (λkT=>?_)
  ·have dJ:i<(G.nX x.id).length:=aB
   have cV:=gS dJ;have fP:=nE dJ;have rV:(G.nX x.id).take (i+1)=(G.nX x.id).take i++[(G.nX x.id)[i]]:=FQ dJ;generalize (G.nX x.id)[i]=p at*;have hp0:=hpE p fP;have hpn:=hpN p fP;obtain⟨pa,hpa,hca⟩:=cF (k:=.i) (e:=λx=>x) (v22.rd fH) cV;have hdl':=G2.dl;obtain⟨y,hy⟩:∃y,Kn[p.toNat]? =some y:=⟨_,gS (show p.toNat<Kn.length by have:=hp0.2;omega)⟩;obtain⟨pb,hpb,hcb⟩:=cF (k:=.i) (e:=λx=>x) (st2.v1.rd fH) hy;rw[kE];refine⟨⟨aB,cJ⟩,aA hpa (aE (k:=.i) p hca ⟨⟨hp0.1,by have:=hp0.2;omega⟩,aA hpb (aE (k:=.i) y hcb ?_)⟩)⟩;have tko:∀v' (e':bQ),e'∈G.nx c v'->(v'≠x.id\/e'.f∈(G.nX x.id).take (i+1))->((v'≠x.id\/e'.f∈(G.nX x.id).take i)\/(v'=x.id/\e'=⟨p,x.id,G.wt x.id,-1⟩)):=λv' e' vV hh=>by
    by_cases hv:v'=x.id
    ·rcases hh with h1|h1
     ·exact absurd hv h1
     ·rw[rV] at h1
      rcases jK.1 h1 with h2|h2
      ·exact .inl (.inr h2)
      ·refine .inr ⟨hv,?_⟩
       have h3:e'.f=p:=by simpa using h2
       rw[hv] at vV;obtain⟨_,_,h4⟩:=G.JG.1 vV;rw[h4,h3]
    ·exact .inl (.inl hv)
   refine aJ (λPT=>?_) (λuR=>?_)
   ·have hy1:y=-1:=by
     rcases G2.Cb _ _ hy with h1|⟨h1,_⟩
     ·exact h1
     ·have hneg':y<0:=PT
      omega
    subst hy1;have hwr:aQ (x.key+G.wt x.id)=x.key+G.wt x.id:=gM (by simp only[BW] at*;omega) (by simp only[BW] at*;omega);refine weight_i (h.aN st2.kp) hxE λEe k23=>?_;have st23:=st2.aN k23;rw[hwr];have hg2':=st23.hg;rw[hg,<-hg2'];refine YY st23.hp aB λau H26 h26 g26 m26 f26=>?_;have st26:=st23.heap h26 g26 m26 f26;have G3:=(G2.push hnx KO (v:=x.id.toNat) (d:=x.key) (e:=⟨p,x.id,G.wt x.id,-1⟩) hself bm (by rw[exi];exact hpn) hy);rw[exi] at G3;rw[qA i aB];refine hY _ _ _ aB ⟨i+1,H26,_,_,dJ,rfl,rfl,st26,CD KO _ _,CC QK _ _,G3.mono tko,(v22.aK k23 λ_ _=>id).aK m26 λb hb hk=>sp2 _ hk b hb rfl,λk hk b hb e=>?_⟩;rcases f26 k hk with h1|h1
    ·exact sp2 k h1 b hb e
    ·have:=v22.lt hb;have:=k23.size;omega
   ·have Fv:0<=y:=by have:¬y<0:=uR;omega
    rw[qA i aB];exact hY _ _ _ aB ⟨i+1,H2,q2,kn2,dJ,rfl,rfl,st2,KO,QK,(G2.skip (v:=x.id) (e:=⟨p,x.id,G.wt x.id,-1⟩) hy Fv).mono tko,v22,sp2⟩
  ·have ei:i=(G.nX x.id).length:=aB
   subst ei;rw[oZ] at G2;refine hX (G.m-met Kn) _ _ aB ⟨H2,q2,kn2,Kn,Ms,rfl,rfl,st2,KO,QK,G2.mono λv e he _=>?_⟩
   by_cases hv:v=x.id
   ·rw[hv] at he
    exact .inr (G.WH.2 (G.JG.1 he).2.1)
   ·exact .inl hv
end
section
theorem ua{p:Int->Bool}{x:Int}:∀{l:List Int} {i:Nat},(∀y∈l.take i,p y=false)->l[i]? =some x->p x=true->l.find? p=some x
 | [],i,_,h,_=>by simp at h
 |y::l,0,_,h,hp=>by simp at h;subst h;rw[List.find?_cons,hp]
 |y::l,i+1,hn,h,hp=>by
  rw[List.find?_cons,hn y dL];exact ua (i:=i) (λz hz=>hn z (by rw[List.take_succ_cons];exact Qb _ hz)) (by simpa using h) hp
theorem Yt(x:Int):MK x x=x:=by unfold MK;split<;>rfl
section
variable{t:Lo}{G:Gr}{rZ dD:Sl}{ds:List Int}{c:List Bool}
theorem step_i{e:Int}{W:aH}{Q:Int->aH->Prop}(h:rT W t G)(hE:G.qE e)(hf:Rd W rZ 1 eI ds)(hl:ds.length=G.m)(hc:Rd W dD 1 eB c)(hb:∀(v:Nat) x,ds[v]? =some x->-1<=x/\x<=102*BW)
  (hQ:∀w',aM W w'->Q (match G.Ak c ds e with|some n=>n|none=>-1) w'):zV (some ⟨t.t,0,none⟩) e rZ dD W Q:=by
 unfold zV;have ok:=h.IJ.ok;have hm:=ok.m1;have QE:=hf.len;have hcl:=hc.len;refine Next_i h λs1 w1 v1 k1 f1=>?_;have l1:=v1.len;have hnl:=G.MU e;have hnE:∀b∈G.kJ e,G.qE b:=λb hb=>(G.iI.1 (G.CE.1 hb)).2.1;have gv:∀{x:Int},G.qE x->ds[x.toNat]? =some (vY ds x):=λ{x} hx=>by
  have:x.toNat<ds.length:=by have:=hx.2;omega
  unfold vY;rw[LP,gS this];rfl
 refine bO (λc' s w2=>∃i:Nat,i<=(G.kJ e).length/\c'=(G.kJ e).length-i/\s=((i:Int),())/\aM w1 w2/\∀x∈(G.kJ e).take i,G.JF c ds e x=false) (G.kJ e).length ⟨0,iG _,rfl,rfl,aW.refl _ _,by simp⟩ ?_;rintro c' s w2 ⟨i,hi,rfl,rfl,k2,vU⟩ X hX;dsimp only;refine aJ (λcJ=>?_) (λkT=>?_)
 ·have dJ:i<(G.kJ e).length:=aB
  have cV:=gS dJ;have Uy:=hnE _ (nE dJ);have rV:=FQ dJ;generalize (G.kJ e)[i]=n at*;obtain⟨p,hp,hcp⟩:=cF (k:=.i) (e:=λx=>x) ((v1.aK k2 λ_ _=>id).rd fH) cV;rw[kE];have h2:=h.aN (k1.tr k2);refine⟨⟨aB,cJ⟩,aA hp (aE (k:=.i) n hcp (aA rfl (aE (k:=.ptr) (some ⟨t.H.g,0,none⟩) h2.cells.1 ?_)))⟩;refine JM h2 Uy λa3 w5 hc5 k5 _=>?_;have Dc:=k2.tr k5;have KW5:=k1.tr Dc;have next:∀wz,aM w1 wz->G.JF c ds e n=false->X (aQ ((i:Int)+1),()) wz:=λwz kz hn=>by
   rw[qA i aB];refine hX _ _ _ aB ⟨i+1,dJ,rfl,rfl,kz,λx hx=>?_⟩;rw[rV] at hx;rcases jK.1 hx with hx|hx
   ·exact vU x hx
   ·have:x=n:=by simpa using hx
    rw[this];exact hn
  intro J hJ;have sF:∀b,b=qI c n->J (b,()) w5:=by
   rintro b rfl;apply hJ;dsimp only;have d5:aM w5 w5.drew:=aW.drew (aW.refl _ w5);have kd:=Dc.tr d5;have hfd:=hf.aK (KW5.tr d5) cR λ_ _=>id;have hcd:=d5.cell hc5 id;obtain⟨pn,hpn,dq⟩:=cF (k:=.i) (e:=λx=>x) hfd (gv Uy);obtain⟨pe,Uj,hce⟩:=cF (k:=.i) (e:=λx=>x) hfd (gv hE);have bn:=hb _ _ (gv Uy);have be:=hb _ _ (gv hE);have hw:=ok.w1 Uy;have In:0<=n/\n<(rZ.l:Int):=⟨Uy.1,by have:=Uy.2;omega⟩;have Ie:0<=e/\e<(rZ.l:Int):=⟨hE.1,by have:=hE.2;omega⟩;refine aF (λhs=>?_) (λhs=>?_)
   ·have QC:qI c n=false:=by simpa using hs
    have okE:G.JF c ds e n=(decide (0<=vY ds n) && decide (vY ds n+G.wt n=vY ds e)):=by unfold Gr.JF;rw[QC];rfl
    refine aJ (λ_=>⟨In,aA hpn (aE (k:=.i) (vY ds n) dq ?_)⟩) (λh=>absurd In.2 h);refine aJ (λh0=>⟨In,aA hpn (aE (k:=.i) (vY ds n) dq ⟨Ie,aA Uj (aE (k:=.i) (vY ds e) hce ?_)⟩)⟩) (λh0=>next _ kd ?_)
    ·refine aJ (λRY=>⟨In,aA hpn (aE (k:=.i) (vY ds n) dq ⟨Ie,aA Uj (aE (k:=.i) (vY ds e) hce (aE (k:=.i) (G.wt n) hcd ?_))⟩)⟩) (λUz=>next _ kd ?_)
     ·rw[gM (n:=vY ds e-G.wt n) (by simp only[BW] at*;omega) (by simp only[BW] at*;omega)]
      refine aF (λheq=>?_) (λgF=>next _ kd ?_)
      ·have heq':vY ds n=vY ds e-G.wt n:=by simpa using heq
       have kH:G.JF c ds e n=true:=by rw[okE];simp only[tE,decide_eq_true_eq];exact⟨h0,aB⟩
       have:=hQ w5.drew (KW5.tr d5);rw[show G.Ak c ds e=some n from ua vU cV kH] at this;exact this
      ·have Fb:¬vY ds n=vY ds e-G.wt n:=by simpa using gF
       rw[okE];simp only[Bool.and_eq_false_iff,decide_eq_false_iff_not];exact .inr aB
     ·have hge2':¬vY ds n<vY ds e:=Uz
      rw[okE];simp only[Bool.and_eq_false_iff,decide_eq_false_iff_not];exact .inr aB
    ·have xk:¬vY ds n>=0:=h0
     rw[okE];simp only[Bool.and_eq_false_iff,decide_eq_false_iff_not];exact .inl aB
   ·have QC:qI c n=true:=by simpa using hs
    exact next _ kd (by unfold Gr.JF;rw[QC];rfl)
  have hc5':=hc.aK KW5 KQ λ_ _=>id;refine aJ (λhlt3=>?_) (λhge3=>sF false (Gn aB).symm);obtain⟨pc,hpc,hcc⟩:=cF (k:=.bool) (e:=λx=>x) hc5' (ZB Uy.1 aB);exact⟨⟨Uy.1,hlt3⟩,aA hpc (aE (k:=.bool) (qI c n) hcc (sF _ rfl))⟩
 ·have ei:i=(G.kJ e).length:=aB
  subst ei;rw[oZ] at vU;have:=hQ w2 (k1.tr k2);rw[show G.Ak c ds e=none from List.find?_eq_none.2 λx hx=>by rw[vU x hx];simp] at this;exact this
theorem vq{v e:Int}{W:aH}{Q:Sl->Bool->aH->Prop}(h:rT W t G)(hd:G.rZ c v ds)(hf:Rd W rZ 1 eI ds)(hc:Rd W dD 1 eB c)(hb:∀(v:Nat) x,ds[v]? =some x->-1<=x/\x<=102*BW)
  (vU:¬(G.qE e/\0<=vY ds e)->Q bD false W) (Qd:∀l s w',G.qE e->0<=vY ds e->G.LX c ds e l->dQ w' cY 1 eI s l->aM W w'->(∀b,s.b=some b->W.heap.size<=b.block)->Q s true w'):
  pT (some ⟨t.t,0,none⟩) e rZ dD W Q:=by
 unfold pT;have ok:=h.IJ.ok;have hm:=ok.m1;have hl:=hd.1;have QE:=hf.len;rw[hl] at QE;refine aF (λh=>by simp at h) (λ_=>aJ (λh=>vU λh'=>aB) (λh0=>?_));refine aA rfl (aE (k:=.ptr) (some ⟨t.H.g,0,none⟩) h.cells.1 (sT h.IJ ?_));rw[QE,Yt];refine aJ (λh=>vU λh'=>aB) (λh1=>?_);have hE:G.qE e:=⟨aB,aB⟩;obtain⟨p,hp,hcp⟩:=cF (k:=.i) (e:=λx=>x) hf (Rw hd hE);refine⟨⟨hE.1,hE.2⟩,aA hp (aE (k:=.i) (vY ds e) hcp (aJ (λPT=>vU λh'=>?_) (λuR=>?_)))⟩
 ·have:vY ds e<0:=PT
  omega
 have Fv:0<=vY ds e:=by have:¬vY ds e<0:=uR;omega
 obtain⟨tot,htot⟩:=ok.tf hd (vY ds e).toNat hE Fv aB;have htl:=htot.len ok;refine bO (λc' s w2=>∃(bP:Int) (l0 l:List Int) (o:Sl),c'=l.length/\s=(bP,o,())/\G.qE bP/\G.LX c ds bP l/\l0++l=tot/\aM W w2/\dQ w2 cY 1 eI o l0/\(∀b,o.b=some b->W.heap.size<=b.block)) tot.length
  ⟨e,[],tot,bD,rfl,rfl,hE,htot,rfl,aW.refl _ _,dQ.nil _ _ _ _,λb hb=>by cases hb⟩ ?_
 rintro c' s w2 ⟨bP,l0,l,o,rfl,rfl,hcE,hlw,hcat,k2,v2,f2⟩ X hX;dsimp only;obtain⟨p2,Ky,hcp2⟩:=cF (k:=.i) (e:=λx=>x) (hf.aK k2 cR λ_ _=>id) (Rw hd hcE);refine⟨⟨hcE.1,hcE.2⟩,aA Ky (aE (k:=.i) (vY ds bP) hcp2 ?_)⟩;cases hlw with
 |nil hz=>
  refine aJ (λh=>absurd (show vY ds bP>0 from h) aB) (λ_=>?_);rw[tD] at hcat;subst hcat;exact Qd _ o w2 hE Fv htot v2 k2 f2
 | @cons _ n l hz ET hlw=>
  refine aJ (λ_=>?_) (λh=>absurd (show vY ds bP>0 from hz) h);refine step_i (h.aN k2) hcE (hf.aK k2 cR λ_ _=>id) hl (hc.aK k2 KQ λ_ _=>id) hb λw3 k3=>?_;rw[ET];dsimp only;have hnE:=(G.iI.1 (G.OK ET).1).2.1;refine aJ (λh=>absurd hnE.1 (by have:n<0:=h;omega)) (λ_=>?_);refine bK λw4 o4 k4 z4=>?_;have k34:=k3.tr k4;have v4:=v2.aK k34 λ_ _=>id;have vx:dQ w4 cY 1 eI ⟨some ⟨w3.heap.size,0,none⟩,1,1⟩ [n]:=dQ.new fH [n] o4 (by simp[maxLen]);have hl0:l0.length<=tot.length:=by rw[<-hcat];simp
  have hz3:=k34.size;have hz2:=k2.size;refine fN iK fH EV v4 (vx.rd fH) (by simp;omega) (by simp;omega) λr w5 v5 m5 f5 _=>?_;refine hX l.length _ _ dL ⟨n,l0++[n],l,r,rfl,rfl,hnE,hlw,by rw[<-hcat];simp,(k2.tr k34).fresh m5 λk ⟨b,hb,e⟩=>by rw[e];exact f2 b hb,v5,λb hb=>?_⟩;rcases f5 with h1|⟨a,ha,cJ⟩
  ·exact f2 b (by rw[<-h1];exact hb)
  ·rw[hb] at ha;cases ha;omega
end
end
section
section
variable{HL:Lp}{n:Nat}{A L:List bQ}{R:List Int}{W:aH}
theorem nx_down{fs:List Int}(hA:rR n A):Qr n (uV n fs) (DR A R) (λe=>e.f):=by
 refine⟨λv h=>h.2,λv e he=>?_⟩;have hm:=hA.vS e (iB.1 (jE.1 he).1).1;exact⟨hm.1,hm.2.1,hm.2.2.2.2.2.1,hm.2.2.2.2.2.2.1⟩
theorem sdown_i{to:Sl}{ts:List Int}{Q:(Sl×Sl×Unit)->aH->Prop}(h:oD W HL n A R)(hn:n<=51)(hf:Rd W to 1 eI ts)(QE:ts.length<=1000)
  (hQ:∀s1 s2 ds bs w',Grown n (uV n ts) (DR A R) (λe=>e.f) ds bs->dQ w' cY 1 eI s1 ds->dQ w' cY 1 eI s2 bs->aM W w'->(∀b,s1.b=some b->W.heap.size<=b.block)->(∀b,s2.b=some b->W.heap.size<=b.block)->Q (s1,s2,()) w'):
  xE (some ⟨HL.gl,0,none⟩) to W Q:=by
 unfold xE;refine bK λw1 o1 k1 z1=>?_;refine grow_i (nx:=DR A R) (en:=λe=>e.f) (h.aN k1) hn (hf.aK k1 cR λ_ _=>id) QE (nx_down h.LL.ok) (λv=>?_) (λv w K hw hK=>?_) (λe w K hK=>?_) λs1 s2 ds bs w2 hG v1 v2 k2 f1 f2=>?_
 ·have:=h.LL.ok.FD v
  have:(DR A R v).length<=(nK A v).length:=vW _ _;omega
 ·refine pB aAz iA (first:=#[.pointer (some ⟨HL.gl,0,none⟩)]) (cap:=#[]) (gI (ks:=[.c .ptr,.i]) (t:=(some ⟨HL.gl,0,none⟩,v,())) ?_)
  show HU (some ⟨HL.gl,0,none⟩) v w λs w'=>K (.slice s.b s.l s.c) w';exact Down_i hw hK
 ·refine pB ZX iA (first:=#[]) (cap:=#[]) (gI (ks:=[.agg [.i,.i,.i,.i]]) (t:=(nN e,())) ?_)
  show rN (nN e) w λx w'=>K (aD x) w';unfold rN;refine bK λw3 oa k3 _=>?_;exact aE (k:=.i) e.f (sS (x:=e) oa).1 (hK w3 k3)
 ·have z:=k1.size
  refine TK (a:=s1) (b:=s2) (o1.aK k2 id) rfl λw3 o3 m3 _=>?_;refine bJ (l:=[.slice,.slice]) (s1,s2,()) (iM o3) ?_;exact hQ s1 s2 ds bs w3 hG (v1.aK m3 λa ha e=>by have:=f1 a ha;have:a.block=W.heap.size:=e;omega) (v2.aK m3 λa ha e=>by have:=f2 a ha;have:a.block=W.heap.size:=e;omega)
   ((k1.tr k2).fresh m3 λk e=>by rw[show k=W.heap.size from e];exact iT _) (λb hb=>by have:=f1 b hb;omega) (λb hb=>by have:=f2 b hb;omega)
end
end
structure uL where
 e:Nat
 t:Lo
 L:Lp
 ord:Sl
abbrev Gr.A(G:Gr):List bQ:=(cZ G.m G.LL G.m).all
abbrev Gr.R(G:Gr):List Int:=(cZ G.m G.LL G.m).jA
structure zE(w:aH)(E:uL)(G:Gr):Prop where
 head:cW w E.e Rm [.pointer (some ⟨E.t.t,0,none⟩),.pointer (some ⟨E.L.gl,0,none⟩),sv E.ord]
 RJ:rT w E.t G
 lev:oD w E.L G.m (Gr.A G) (Gr.R G)
 ord:∃os:List Int,Rd w E.ord 1 eI os/\os.length=G.m/\∀i,i<G.m->∃v:Nat,v<G.m/\os[i]? =some (v:Int)/\cD (Gr.R G) (v:Int)=(G.m:Int)-1-i
 oty:Ty w E.ord
theorem zE.aN{w w':aH}{E:uL}{G:Gr}(h:zE w E G)(k:aM w w'):zE w' E G:=by
 obtain⟨os,h1,h2⟩:=h.ord;exact⟨h.head.aK k id,h.RJ.aN k,h.lev.aN k,⟨os,h1.aK k cR λ_ _=>id,h2⟩,h.oty.aN k⟩
theorem zE.cells{w:aH}{E:uL}{G:Gr}(h:zE w E G):w.cell? ((⟨E.e,0,none⟩:Addr).add 0)=some (.pointer (some ⟨E.t.t,0,none⟩))/\w.cell? ((⟨E.e,0,none⟩:Addr).add 1)=some (.pointer (some ⟨E.L.gl,0,none⟩))/\w.cell? ((⟨E.e,0,none⟩:Addr).add 2)=some (sv E.ord):=FW h.head
theorem ENew_i{g:GT}{G:Gr}{W:aH}{Q:cL->Int->aH->Prop}(h:SK W g G)(ok:zI G)(hQ:∀E w',zE w' E G->aM W w'->Q (some ⟨E.e,0,none⟩) 0 w'):AA g W Q:=by
 unfold AA;have hm:=ok.m1;refine bK λw1 o1 k1 z1=>?_;refine bJ (l:=[.slice,.slice,.slice]) g (GJ (g:=g) o1) ?_;refine gNew_i (g:=g) (h.aN k1) ok λH w2 hH k2 _=>?_;refine aF (λh=>by simp at h) (λ_=>?_);refine TNew_i hH λt w3 ht htH k3=>?_;subst htH;refine aA rfl (aE (k:=.ptr) (some ⟨t.H.g,0,none⟩) ht.cells.1 (sT ht.IJ ?_));refine Arcs_i ht λs1 w5 v5 k5 f5=>?_;have hal:=G.arcs_len hm.2;refine KC (p:=λx=>x.f==x.t) (C:=λ_=>True) v5 aB trivial (λ_ _ _ _=>trivial) (λx w K _ _ hK=>?_) λs2 w6 v6 m6 e6=>?_
 ·refine pB Cp iA (gI (ks:=[.agg [.i,.i,.i,.i]]) (t:=(nN x,())) ?_)
  show tA _ _ _;unfold tA;refine bK λwa oa ka _=>?_;have oa':cW wa w.heap.size iR (eC x):=oa;exact aE (k:=.i) x.f (sS oa').1 (aE (k:=.i) x.t (sS oa').2.1 (hK wa ka))
 have hnet:(G.JA.filter λx=>!(x.f==x.t))=G.LL:=rfl;rw[hnet] at v6;have k36:aM w3 w6:=k5.fresh m6 λk ⟨b,hb,e⟩=>by rw[e];exact f5 b hb
 have hnl:G.LL.length<=2601:=iF (vW _ _) hal;refine New_i (v6.rd kI) aB (λw7 k7 RZ=>?_) λw7 N n0 n1 uH hN k7 _=>?_
 ·exact absurd ⟨aB,aB,λa ha=>by rw[kE];exact(ok.VP a ha).1⟩ RZ
 rw[kE,NI (p:=[]) (by simpa using ok.TF),List.nil_append] at hN;have d7:aM w7 w7.drew:=aW.drew (aW.refl _ w7);have k37:=(k36.tr k7).tr d7;have ht7:=ht.aN k37;refine aA rfl (aE (k:=.ptr) (some ⟨t.H.g,0,none⟩) ht7.cells.1 ?_);have fi:∀e∈G.LL,e.w<=40:=λe he=>(ok.VP e he).2.1;refine Build_i (hN.aN d7) hm.2 fi λw8 HL hL k8 _=>?_;have hL':oD w8 HL G.m (Gr.A G) (Gr.R G):=hL;clear hL;have k38:=k37.tr k8;have ht8:=ht.aN k38;refine⟨ht8.cells.1,sT ht8.IJ ?_⟩;refine BU iK (aY:=eI) (0:Int) rfl fH aB (oY _) aB aB λeV v10 II=>?_;simp only[kE] at v10 ⊢;refine bK λeE o11 KU z11=>?_;have z10:w8.heap.size<eV.heap.size:=v10.lt rfl;generalize Bw:(⟨some ⟨w8.heap.size,0,none⟩,G.m,G.m⟩:Sl)=s3 at*;have s3b:s3.b=some ⟨w8.heap.size,0,none⟩:=by rw[<-Bw]
 have o11':cW eE eV.heap.size Rm [.pointer (some ⟨t.t,0,none⟩),.pointer (some ⟨HL.gl,0,none⟩),sv s3]:=by
  have:=o11;rw[<-Bw];exact this
 have k811:=II.tr KU;have hL11:=hL'.aN k811;have ht11:=ht8.aN k811;have c11:=FW o11';refine aE (k:=.slice) s3 c11.2.2 ?_;have v11:=v10.aK KU λ_ _=>id;have mz:∀v:Int,0<=v->v<G.m->0<=cD (Gr.R G) v/\cD (Gr.R G) v<G.m:=λv h0 h1=>Gv ok.TF fi hm.2 h0 h1;have rne:∀v w:Nat,v<G.m->w<G.m->v≠w->cD (Gr.R G) (v:Int)≠cD (Gr.R G) (w:Int):=λv w hv hw gF=>Dt ok.TF fi hm.2 aB aB aB aB aB;have ronto:∀{r:Nat},r<G.m->∃v:Nat,v<G.m/\cD (Gr.R G) (v:Int)=(r:Int):=λhr=>zn ok.TF fi hm.2 hr;have s3l:s3.l=G.m:=by rw[<-Bw]
 have KW8:=k1.tr (k2.tr (k3.tr k38));clear hnl hL11 ht11 c11;generalize hRR:Gr.R G=R at*;refine bO (λc s eR=>∃(v:Nat) (os:List Int),v<=G.m/\c=G.m-v/\s=((v:Int),())/\aM w8 eR/\cW eR eV.heap.size Rm [.pointer (some ⟨t.t,0,none⟩),.pointer (some ⟨HL.gl,0,none⟩),sv s3]/\dQ eR cY 1 eI s3 os/\os.length=G.m/\
   ∀u:Nat,u<v->os[((G.m:Int)-1-cD R (u:Int)).toNat]? =some (u:Int)) G.m ⟨0,_,iG _,rfl,rfl,k811,o11',v11,by simp,λu hu=>aB⟩ ?_
 rintro c s eR ⟨v,os,hv,rfl,rfl,KH,Db,YA,fU,hos⟩ X hX;dsimp only;refine aJ (λcJ=>?_) (λkT=>?_)
 ·have kF:v<G.m:=aB
  have d12:aM eR eR.drew:=aW.drew (aW.refl _ eR);have kd:=KH.tr d12;have od:=Db.aK d12 id;obtain⟨c0,c1,c2⟩:=FW od;have htd:=ht8.aN kd;have hLd:=hL'.aN kd;refine aE (k:=.slice) s3 c2 (aA rfl (aE (k:=.ptr) (some ⟨t.H.g,0,none⟩) htd.cells.1 (aE (k:=.ptr) (some ⟨HL.gl,0,none⟩) c1 (sT htd.IJ ⟨c1,c2,?_⟩))));refine Gl hLd ⟨c2,?_⟩;obtain⟨r0,r1⟩:=mz (v:Int) aB aB;have wi:aQ ((aQ ((G.m:Int)-(1:Int)))-cD R (v:Int))=(((G.m:Int)-1-cD R (v:Int)).toNat:Int):=by
   rw[gM (n:=(G.m:Int)-1) aB aB,gM aB aB];omega
  rw[wi,kE];have hil:((G.m:Int)-1-cD R (v:Int)).toNat<G.m:=aB;refine⟨⟨aB,aB⟩,aA s3b ?_⟩;refine(YA.aK d12 λ_ _=>id).store fH s3b (i:=((G.m:Int)-1-cD R (v:Int)).toNat) aB (v:Int) (v:=aD (v:Int)) rfl cU (EV _) λgO v13 da _=>?_;have m13':aW (λk=>k=w8.heap.size) eR.drew gO:=da;rw[qA v aB];refine hX _ _ _ aB ⟨v+1,_,kF,rfl,rfl,kd.fresh m13' λk e=>by rw[show k=w8.heap.size from e];exact iT _,od.aK m13' λe=>by have e':eV.heap.size=w8.heap.size:=e;omega,v13,by rw[pJ];exact fU,λu hu=>?_⟩;rw[vT]
  by_cases e:u=v
  ·subst e;rw[if_pos rfl,if_pos aB]
  ·have gF:=rne u v aB kF e
   obtain⟨q0,q1⟩:=mz (u:Int) aB aB;rw[if_neg aB];exact hos u aB
 ·have ev:v=G.m:=aB
  subst ev;subst hRR;refine hQ ⟨eV.heap.size,t,HL,s3⟩ eR ⟨Db,ht8.aN KH,hL'.aN KH,⟨os,YA.rd fH,fU,λi hi=>?_⟩,dQ.Kp YA ⟨by decide,by decide⟩⟩ (KW8.tr KH);obtain⟨u,hu,hr⟩:=ronto (r:=G.m-1-i) aB;have:=hos u hu;rw[hr,show((G.m:Int)-1-((G.m-1-i:Nat):Int)).toNat=i by omega] at this;exact⟨u,hu,this,by rw[hr];omega⟩
open Tryz (prog)
theorem far_i{E:uL}{G:Gr}{node:Int}{W:aH}{Q:Sl->aH->Prop}(h:zE W E G)(hQ:∀s ds w',G.rZ [] node ds->dQ w' cY 1 eI s ds->aM W w'->(∀b,s.b=some b->W.heap.size<=b.block)->(∀(v:Nat) x,ds[v]? =some x->-1<=x/\x<=102*BW)->Q s w'):
  WV (some ⟨E.e,0,none⟩) node W Q:=by
 unfold WV;have ok:=h.RJ.IJ.ok;have hm:=ok.m1;have fi:∀e∈G.LL,e.w<=40:=λe he=>(ok.VP e he).2.1;have mz:∀v:Int,0<=v->v<G.m->0<=cD (Gr.R G) v/\cD (Gr.R G) v<G.m:=λv h0 h1=>Gv ok.TF fi hm.2 h0 h1;have rne:∀v w:Nat,v<G.m->w<G.m->v≠w->cD (Gr.R G) (v:Int)≠cD (Gr.R G) (w:Int):=λv w hv hw gF=>Dt ok.TF fi hm.2 aB aB aB aB aB;have hA:=h.lev.LL.ok;have d:aM W W.drew:=aW.drew (aW.refl _ W);have hd:=h.aN d;refine aA rfl (aE (k:=.ptr) (some ⟨E.L.gl,0,none⟩) hd.cells.2.1 (aA rfl (aE (k:=.ptr) (some ⟨E.t.t,0,none⟩) hd.cells.1 (aA rfl (aE (k:=.ptr) (some ⟨E.t.H.g,0,none⟩) hd.RJ.cells.1 ?_)))));refine gIn_i hd.RJ.IJ λs1 w1 v1 k1 f1=>?_;have K1:=d.tr k1;have h1:=h.aN K1;refine⟨h1.cells.2.1,?_⟩;unfold FI;refine sdown_i h1.lev hm.2 (v1.rd fH) (by have:=G.tn node;omega) λs2 sb ds bs w2 hG v2 _ k2 f2 _=>?_;have K2:=K1.tr k2;have h2:=h.aN K2;have hz:=K1.size;refine aA rfl (aE (k:=.slice) E.ord h2.cells.2.2 ?_);obtain⟨os,ho,hol,hos⟩:=h.ord;have hll:=ho.len;rw[hol] at hll;have F0:Lq G.m (Gr.A G) (Gr.R G) (GW (uV G.m (G.Tu node)) (DR (Gr.A G) (Gr.R G)) (λe=>e.f)) 0 ds:=Lq.start hG.rZ (λv h0 h1=>(mz v h0 h1).2) hG.gH;generalize hDn:GW (uV G.m (G.Tu node)) (DR (Gr.A G) (Gr.R G)) (λe=>e.f)=Dn at F0;clear hG;have LR:∀b,s2.b=some b->W.heap.size<=b.block:=λb hb=>iF hz (f2 b hb);refine bO (λc s w3=>∃(i:Nat) (ds:List Int),i<=G.m/\c=G.m-i/\s=((i:Int),())/\aM W w3/\dQ w3 cY 1 eI s2 ds/\Lq G.m (Gr.A G) (Gr.R G) Dn i ds) G.m ⟨0,ds,iG _,rfl,rfl,K2,v2,F0⟩ ?_;clear F0 v2 ds h2;rintro c s w3 ⟨i,ds,hi,rfl,rfl,k3,v3,F⟩ X hX;dsimp only;refine aJ (λcJ=>?_) (λkT=>?_)
 ·have dJ:i<G.m:=aB
  obtain⟨v,hv,Kc,hrv⟩:=hos i dJ;obtain⟨p,hp,hc⟩:=cF (k:=.i) (e:=λx=>x) (ho.aK k3 cR λ_ _=>id) Kc;have h3:=h.aN k3;rw[kE];refine⟨⟨aB,cJ⟩,aA hp (aE (k:=.i) (v:Int) hc (aA rfl (aE (k:=.ptr) (some ⟨E.L.gl,0,none⟩) h3.cells.2.1 ?_)))⟩;refine Up_i h3.lev λs4 w4 v4 k4 f4=>?_;have l4:=v4.len;have hul:(upL (Gr.A G) (Gr.R G) (v:Int)).length<=262144:=iF (vW _ _) (iF (vW _ _) (hA.len aB));obtain⟨g2,Af⟩:∃g2,s2.b=some ⟨g2,0,none⟩:=by
   rcases v3.gN with⟨_,hh⟩|⟨g,_,hb,_⟩
   ·have:=v3.cap;have:=v3.len;have:=F.len;omega
   ·exact⟨g,hb⟩
  have g2lt:g2<w3.heap.size:=v3.lt Af;have f4':∀b,s4.b=some b->b.block≠g2:=λb hb=>by have:=f4 b hb;omega
  have g2low:W.heap.size<=g2:=LR _ Af;have hupm:∀e∈upL (Gr.A G) (Gr.R G) (v:Int),EW G.m e/\cD (Gr.R G) (v:Int)<cD (Gr.R G) e.t:=λe he=>by
   unfold upL at he;rw[jE,eK] at he;exact⟨hA.vS e he.1.1,by simpa using he.2⟩
  obtain⟨x0,hx0⟩:∃x0,ds[v]? =some x0:=⟨_,gS (by rw[F.len];exact hv)⟩;have hL0:iC (λd=>Dn (v:Int) d\/∃e∈(upL (Gr.A G) (Gr.R G) (v:Int)).take 0,∃d',UPD (Gr.A G) (Gr.R G) Dn e.t d'/\d=e.w+d') x0:=(F.dn v x0 hx0 aB).congr λk=>by simp
  have hb0:=F.gH v x0 hx0;have hset0:ds.set v x0=ds:=by
   apply AZ;intro j;rw[vT]
   by_cases e:v=j
   ·subst e;rw[if_pos rfl,if_pos (by rw[F.len];exact hv),hx0]
   ·rw[if_neg e]
  generalize hU:upL (Gr.A G) (Gr.R G) (v:Int)=us at*;refine bO (λc s w5=>∃(j:Nat) (x:Int),j<=us.length/\c=us.length-j/\s=((j:Int),())/\aM W w5/\dQ w5 cY 1 eI s2 (ds.set v x)/\dQ w5 iR 4 eC s4 us/\(-1<=x/\x<=(G.m+(i+1:Nat))*BW)/\
    iC (λd=>Dn (v:Int) d\/∃e∈us.take j,∃d',UPD (Gr.A G) (Gr.R G) Dn e.t d'/\d=e.w+d') x) us.length
   ⟨0,x0,iG _,rfl,rfl,k3.tr k4,by rw[hset0];exact v3.aK k4 λ_ _=>id,v4,⟨hb0.1,by simp only[BW] at*;omega⟩,hL0⟩ ?_
  rintro c s w5 ⟨j,x,hj,rfl,rfl,k5,v5,v4',hbx,hL⟩ Y hY;dsimp only;refine aJ (λRY=>?_) (λUz=>?_)
  ·have uE:j<us.length:=aB
   have cV:=gS uE;obtain⟨uH,hrk⟩:=hupm _ (nE uE);have rV:=FQ uE;generalize us[j]=e at*;obtain⟨pa,hpa,hh⟩:=wI (v4'.rd kI) cV;rw[kE];refine⟨⟨aB,RY⟩,aA hpa (bJ (nN e) hh ?_)⟩;refine GZ (x:=e) λw7 k7 o7 _=>?_;refine aE (k:=.i) e.t (sS o7).2.1 ?_;have k57:=k5.tr k7;have v7:=v5.aK k7 λ_ _=>id;have hvt:v≠e.t.toNat:=λh=>by
    have:e.t=(v:Int):=by have:=uH.2.2.1;omega
    rw[this] at hrk;omega
   obtain⟨y,hy⟩:∃y,ds[e.t.toNat]? =some y:=⟨_,gS (by rw[F.len];have:=uH.2.2.1;have:=uH.2.2.2.1;omega)⟩;have hyt:(e.t.toNat:Int)=e.t:=Int.toNat_of_nonneg uH.2.2.1;have hLy:=F.up e.t.toNat y hy (by rw[hyt];omega);rw[hyt] at hLy;have hby:=F.gH _ y hy;have hys:(ds.set v x)[e.t.toNat]? =some y:=by rw[vT,if_neg hvt];exact hy
   have Ek:(ds.set v x)[v]? =some x:=by rw[vT,if_pos rfl,if_pos (by rw[F.len];exact hv)]
   obtain⟨p1,hp1,bw⟩:=cF (k:=.i) (e:=λx=>x) (v7.rd fH) hys;have l7:=v7.len;rw[pJ,F.len] at l7;have Tw:=uH.2.2.2.2.2.1;have hw2:=uH.2.2.2.2.2.2.1;have LR:=hL.lower hLy (w:=e.w) aB;have hcon:∀z,iC (λd=>(Dn (v:Int) d\/∃e∈us.take j,∃d',UPD (Gr.A G) (Gr.R G) Dn e.t d'/\d=e.w+d')\/∃d',UPD (Gr.A G) (Gr.R G) Dn e.t d'/\d=e.w+d') z->iC (λd=>Dn (v:Int) d\/∃e∈us.take (j+1),∃d',UPD (Gr.A G) (Gr.R G) Dn e.t d'/\d=e.w+d') z:=λz hz=>hz.congr λk=>by
    rw[rV]
    constructor
    ·rintro((h1|⟨e',vV,h1⟩)|h1)
     ·exact .inl h1
     ·exact .inr ⟨e',jK.2 (.inl vV),h1⟩
     ·exact .inr ⟨e,by simp,h1⟩
    ·rintro(h1|⟨e',vV,h1⟩)
     ·exact .inl (.inl h1)
     ·rcases jK.1 vV with vV|vV
      ·exact .inl (.inr ⟨e',vV,h1⟩)
      ·have:e'=e:=by simpa using vV
       rw[this] at h1;exact .inr h1
   have It:0<=e.t/\e.t<(s2.l:Int):=⟨uH.2.2.1,by rw[l7];exact uH.2.2.2.1⟩;have Iv:0<=(v:Int)/\(v:Int)<(s2.l:Int):=⟨aB,by rw[l7];omega⟩;have o7':=sS o7;refine⟨It,aA hp1 (aE (k:=.i) y bw ?_)⟩;have same:∀wz,aM w7 wz->¬(0<=y/\(x<0\/y+e.w<x))->Y (aQ ((j:Int)+1),()) wz:=λwz kz hn=>by
    rw[if_neg hn] at LR;rw[qA j aB];exact hY _ _ _ aB ⟨j+1,x,uE,rfl,rfl,k57.tr kz,v7.aK kz λ_ _=>id,(v4'.aK k7 λ_ _=>id).aK kz λ_ _=>id,hbx,hcon _ LR⟩
   have d7:aM w7 w7.drew:=aW.drew (aW.refl _ w7);have LA:y+e.w<=(G.m+(i+1:Nat))*BW:=by simp only[BW] at*;omega
   have wsm:0<=y->aQ (y+e.w)=y+e.w:=λh0=>gM aB (by simp only[BW] at*;omega);have put:0<=y->(x<0\/y+e.w<x)->aI prog cY ((⟨g2,0,none⟩:Addr).add (v*1)) (aD (y+e.w)) w7.drew λw8=>Y (aQ ((j:Int)+1),()) w8:=λh0 hlt3=>by
    rw[if_pos ⟨h0,hlt3⟩] at LR;refine(v7.aK d7 λ_ _=>id).store fH Af (i:=v) (by rw[pJ,F.len];exact hv) (y+e.w) (v:=aD (y+e.w)) rfl cU (EV _) λw8 v8 m8 _=>?_;have m8':aW (λk=>k=g2) w7.drew w8:=m8;rw[List.set_set] at v8;rw[qA j aB];refine hY _ _ _ aB ⟨j+1,y+e.w,uE,rfl,rfl,(k57.tr d7).fresh m8' λk e=>by rw[show k=g2 from e];exact g2low,v8,((v4'.aK k7 λ_ _=>id).aK d7 λ_ _=>id).aK m8' λb hb e=>f4' b hb e,⟨aB,LA⟩,hcon _ LR⟩
   refine aJ (λh0=>?_) (λh0=>same _ d7 λhh=>h0 hh.1);have xk:0<=y:=h0;obtain⟨p2,Ky,RP⟩:=cF (k:=.i) (e:=λx=>x) ((v7.aK d7 λ_ _=>id).rd fH) Ek;have ow:∀{q:Addr},w7.cell? q=some (aD e.w)->w7.drew.cell? q=some (aD e.w):=λhq=>d7.cell hq id;rw[kE];refine⟨Iv,aA Ky (aE (k:=.i) x RP ?_)⟩;refine aJ (λPT=>?_) (λhnn=>?_)
   ·refine aE (k:=.i) e.w (ow o7'.2.2.1) ?_
    rw[wsm xk];exact⟨Iv,aA Af (put xk (.inl PT))⟩
   ·refine aE (k:=.i) e.w (ow o7'.2.2.1) ⟨Iv,aA Ky (aE (k:=.i) x RP ?_)⟩
    rw[wsm xk];refine aJ (λhlt4=>?_) (λhge4=>same _ d7 λhh=>hh.2.elim hnn hge4);refine aE (k:=.i) e.w (ow o7'.2.2.1) ?_;rw[wsm xk];exact⟨Iv,aA Af (put xk (.inr hlt4))⟩
  ·have ej:j=us.length:=aB
   subst ej;rw[oZ] at hL;rw[qA i aB];refine hX _ _ _ aB ⟨i+1,_,dJ,rfl,rfl,k5,v5,F.step rne hv hrv (hL.congr λk=>by rw[<-hU];exact upd_iff.symm) hbx⟩
 ·have ei:i=G.m:=aB
  subst ei;have hf:=F.done λv h0 h1=>(mz v h0 h1).1;rw[<-hDn] at hf;exact hQ s2 ds w3 (ok.kg hf) v3 k3 LR λv x hx=>by have:=F.gH v x hx;simp only[BW] at*;omega
theorem IndexI_i{s:Sl}{xs:List Int}{f:Value}{p:Int->Bool}{w:aH}{Q:Int->aH->Prop}{C:aH->Prop}(hs:Rd w s 1 eI xs)(hl:xs.length<1000000)(hC:C w)(cg:∀w1 w2,C w1->aM w1 w2->C w2)
  (hf:∀x w1 (K:WQ Value),C w1->x∈xs->(∀w2,aM w1 w2->K (.bool (p x)) w2)->lI prog f [aD x] w1 K)
  (hQ:∀i w',aM w w'->(0<=i↔∃x∈xs,p x=true)->Q i w'):iN s f w Q:=by
 unfold iN;have sl:=hs.len;refine bO (λc t w1=>∃(i:Nat),i<=xs.length/\c=xs.length-i/\t=((i:Int),())/\aM w w1/\∀x∈xs.take i,p x=false) xs.length ⟨0,iG _,rfl,rfl,aW.refl _ _,by simp⟩ ?_;rintro c t w1 ⟨i,hi,rfl,rfl,k1,hn⟩ X hX;dsimp only;refine aJ (λcJ=>?_) (λkT=>?_)
 ·have dJ:i<xs.length:=aB
  have cV:=gS dJ;have fP:=nE dJ;have rV:=FQ dJ;generalize xs[i]=x at*;obtain⟨q,hq,hc⟩:=cF (k:=.i) (e:=λx=>x) (hs.aK k1 cR λ_ _=>id) cV;rw[kE];refine⟨⟨aB,cJ⟩,aA hq (aE (k:=.i) x hc ?_)⟩;refine hf x w1 _ (cg _ _ hC k1) fP λw2 k2=>⟨p x,rfl,?_⟩;refine aF (λhp=>hQ _ w2 (k1.tr k2) ⟨λ_=>⟨x,fP,hp⟩,λ_=>aB⟩) (λhp=>?_);rw[qA i aB];refine hX _ _ _ aB ⟨i+1,dJ,rfl,rfl,k1.tr k2,λy hy=>?_⟩;rw[rV] at hy;rcases jK.1 hy with hy|hy
  ·exact hn y hy
  ·have:y=x:=by simpa using hy
   rw[this];exact hp
 ·have ei:i=xs.length:=aB
  subst ei;rw[oZ] at hn;exact hQ (-1) w1 k1 ⟨λh=>aB,λ⟨x,hx,hp⟩=>by rw[hn x hx] at hp;cases hp⟩
theorem NR{s:Sl}{xs:List Int}{f:Value}{p:Int->Bool}{w:aH}{Q:Bool->aH->Prop}{C:aH->Prop}(hs:Rd w s 1 eI xs)(hl:xs.length<1000000)(hC:C w)(cg:∀w1 w2,C w1->aM w1 w2->C w2)
  (hf:∀x w1 (K:WQ Value),C w1->x∈xs->(∀w2,aM w1 w2->K (.bool (p x)) w2)->lI prog f [aD x] w1 K)
  (hQ:∀b w',aM w w'->(b=true↔∃x∈xs,p x=true)->Q b w'):dU s f w Q:=by
 unfold dU;exact IndexI_i hs hl hC cg hf λi w' k hi=>hQ _ w' k (by rw[<-hi];simp)
abbrev AT:=Sl×Int×Bool×Bool×Unit
abbrev VA(a:AT):List Value:=[sv a.1,aD a.2.1,.bool a.2.2.1,.bool a.2.2.2.1]
theorem ij(a:AT):∀u∈VA a,u.oneCell'=true:=by intro u hu;simp at hu;rcases hu with rfl|rfl|rfl|rfl<;>rfl
theorem sn{w:aH}{b:Nat}{e:TypeId}{a:AT}(h:cW w b e (VA a)):bY w ⟨b,0,none⟩ 0 (qH [.slice,.i,.bool,.bool] a):=iM h
theorem Ld{w:aH}{g:Nat}{e:TypeId}{x y z u:Value}(h:cW w g e [x,y,z,u]):w.cell? ((⟨g,0,none⟩:Addr).add 0)=some x/\w.cell? ((⟨g,0,none⟩:Addr).add 1)=some y/\w.cell? ((⟨g,0,none⟩:Addr).add 2)=some z/\w.cell? ((⟨g,0,none⟩:Addr).add 3)=some u:=by
 refine⟨?_,?_,?_,?_⟩<;>rw[aS,h.cell]<;>rfl
theorem ansEnd{T:TypeId}{w:aH}{b:Nat}{a:AT}{Q:AT->aH->Prop}(hT:(prog.info? T).map (·.size)=some 4)(h:cW w b T (VA a))(hQ:∀w',cW w' b T (VA a)->aW (λk=>k=b) w w'->Q a w'):
  eY [.slice,.i,.bool,.bool] w ⟨b,0,none⟩ λ(t1:AT)=>aI prog T ⟨b,0,none⟩ (Value.agg #[(Value.slice t1.1.b t1.1.l t1.1.c),(aD t1.2.1),(Value.bool t1.2.2.1),(Value.bool t1.2.2.2.1)]) w λw3=>
   eY [.slice,.i,.bool,.bool] w3 ⟨b,0,none⟩ λ(t2:AT)=>Q (t2.1,t2.2.1,t2.2.2.1,t2.2.2.2.1,()) w3:=by
 refine bJ (l:=[.slice,.i,.bool,.bool]) a (sn h) ?_;refine eO (vs:=VA a) h hT rfl (ij a) λw3 o3 m3 _=>?_;exact bJ (l:=[.slice,.i,.bool,.bool]) a (sn o3) (hQ w3 o3 m3)
theorem Way_i{E:uL}{G:Gr}{at_ node:Int}{dD:Sl}{c:List Bool}{W:aH}{Q:AT->aH->Prop}(h:zE W E G)(hc:Rd W dD 1 eB c)
  (hQ:∀s wt f r l w',G.MG node at_ c l wt f r->dQ w' cY 1 eI s l->(∀x∈l,G.qE x)->l.length<=51->aM W w'->(∀b,s.b=some b->W.heap.size<=b.block)->Q (s,wt,f,r,()) w'):NB (some ⟨E.e,0,none⟩) at_ node dD W Q:=by
 unfold NB;have ok:=h.RJ.IJ.ok;have hm:=ok.m1;refine bK λw1 o1 k1 z1=>bK λw2 o2 k2 z2=>?_;have K2:=k1.tr k2;have o2':cW w2 w1.heap.size Pv (VA (bD,0,false,false,())):=o2;have dR:∀w3,aM w2 w3->¬G.XS node->eY [.slice,.i,.bool,.bool] w3 ⟨w1.heap.size,0,none⟩ λ(t1:AT)=>aI prog Pv ⟨w1.heap.size,0,none⟩ (Value.agg #[(Value.slice t1.1.b t1.1.l t1.1.c),(aD t1.2.1),(Value.bool t1.2.2.1),(Value.bool t1.2.2.2.1)]) w3 λw4=>
   eY [.slice,.i,.bool,.bool] w4 ⟨w1.heap.size,0,none⟩ λ(t2:AT)=>Q (t2.1,t2.2.1,t2.2.2.1,t2.2.2.2.1,()) w4:=λw3 k3 hn=>by
  refine ansEnd WB (o2'.aK k3 id) λw4 _ m4=>hQ _ _ _ _ [] w4 (.no λd hv=>absurd hv hn) (dQ.nil _ _ _ _) dL dL ((K2.tr k3).fresh m4 λk e=>by rw[show k=w1.heap.size from e];omega) λb hb=>by cases hb
 refine aF (λh=>by simp at h) (λ_=>aJ (λhn=>dR w2 (aW.refl _ _) λhv=>aB) (λhn0=>?_));have h2:=h.aN K2;refine aA rfl (aE (k:=.ptr) (some ⟨E.t.t,0,none⟩) h2.cells.1 (aA rfl (aE (k:=.ptr) (some ⟨E.t.H.g,0,none⟩) h2.RJ.cells.1 (OI h2.RJ.IJ ?_))));refine aJ (λhn=>dR w2 (aW.refl _ _) λhv=>aB) (λhn1=>?_);have hN:G.XS node:=⟨aB,aB⟩;have d2:aM w2 w2.drew:=aW.drew (aW.refl _ w2);have hd2:=h2.aN d2;refine aA rfl (aE (k:=.ptr) (some ⟨E.t.t,0,none⟩) hd2.cells.1 ?_);refine far_i hd2 λs1 d0 w7 hd0 v7 k7 f7 b7=>?_;have k27:=d2.tr k7;have h7:=h2.aN k27;refine⟨h7.cells.1,?_⟩;have hb7:∀(v:Nat) x,d0[v]? =some x->-1<=x/\x<=102*BW:=b7;have dE:∀w8 s2 b1 l0,dQ w8 cY 1 eI s2 l0->(∀b,s2.b=some b->w7.heap.size<=b.block)->aM w7 w8->((b1=false/\l0=[]/\∀d,¬G.gw [] node at_ d)\/(b1=true/\G.qE at_/\G.LX [] d0 at_ l0))->
   (aI prog BI ((⟨w1.heap.size,0,none⟩:Addr).add 0) (Value.slice s2.b s2.l s2.c) w8 λw9=>aI prog xR ((⟨w1.heap.size,0,none⟩:Addr).add 2) (Value.bool b1) w9 λeV=>
    ∀J1:(Unit)->aH->Prop,(∀(t7:Unit) (eE:aH),(aC (some ⟨E.e,0,none⟩) λa6=>xL .ptr eE.drew (a6.add 0) λ(p4:cL)=>xL .slice eE.drew ((⟨w1.heap.size,0,none⟩:Addr).add 0) λ(s3:Sl)=>pR p4 s3 eE.drew λ(x2:Int) (_:Bool) eR=>
     aI prog cY ((⟨w1.heap.size,0,none⟩:Addr).add 1) (aD x2) eR λgO=>eY [.slice,.i,.bool,.bool] gO ⟨w1.heap.size,0,none⟩ λ(t8:AT)=>aI prog Pv ⟨w1.heap.size,0,none⟩ (Value.agg #[(Value.slice t8.1.b t8.1.l t8.1.c),(aD t8.2.1),(Value.bool t8.2.2.1),(Value.bool t8.2.2.2.1)]) gO λmC=>
     eY [.slice,.i,.bool,.bool] mC ⟨w1.heap.size,0,none⟩ λ(t9:AT)=>Q (t9.1,t9.2.1,t9.2.2.1,t9.2.2.2.1,()) mC)->J1 t7 eE)->
    xL .slice eV ((⟨w1.heap.size,0,none⟩:Addr).add 0) λ(s4:Sl)=>dU s4 (Value.func (.func Sp) #[] #[(Value.pointer (some ⟨W.heap.size,0,none⟩))]) eV λ(b3:Bool) fO=>
    cond b3 (aC (some ⟨E.e,0,none⟩) λa7=>xL .ptr fO.drew (a7.add 0) λ(p5:cL)=>aC (some ⟨E.e,0,none⟩) λa8=>xL .ptr fO.drew (a8.add 0) λ(p6:cL)=>xL .slice fO.drew ⟨W.heap.size,0,none⟩ λ(s5:Sl)=>xL .slice fO.drew ⟨W.heap.size,0,none⟩ λ(s6:Sl)=>
     HX p6 node s5 fO.drew λ(s7:Sl) gR=>gR.cell? ⟨W.heap.size,0,none⟩=some (Value.slice s6.b s6.l s6.c)/\gR.cell? (a7.add 0)=some (Value.pointer p5)/\pT p5 at_ s7 s6 gR λ(s8:Sl) (b4:Bool) iZ=>
     aI prog BI ((⟨w1.heap.size,0,none⟩:Addr).add 0) (Value.slice s8.b s8.l s8.c) iZ λlE=>aI prog xR ((⟨w1.heap.size,0,none⟩:Addr).add 2) (Value.bool b4) lE λnM=>xL .bool nM ((⟨w1.heap.size,0,none⟩:Addr).add 2) λ(b5:Bool)=>
     aI prog xR ((⟨w1.heap.size,0,none⟩:Addr).add 3) (Value.bool b5) nM λyM=>J1 (()) yM) (J1 (()) fO)):=by
  intro w8 s2 b1 l0 v8 f8 k8 hcase;have lit:∀k,((⟨w1.heap.size,0,none⟩:Addr).add k)=⟨w1.heap.size,k,none⟩:=λk=>by rw[aS,pN]
  have z27:=k27.size;have o8:=(o2'.aK k27 id).aK k8 id;have K8:=K2.tr (k27.tr k8);rw[lit 0,lit 1,lit 2,lit 3];refine cI (o:=0) (v:=sv s2) o8 oG dL rfl rfl λw9 o9 m9 z9=>?_;refine cI (o:=2) (v:=.bool b1) o9 gV dL rfl rfl λeV Bu YC z10=>?_;have o10':cW eV w1.heap.size Pv (VA (s2,0,b1,false,())):=Bu;have up:∀{wx wy:aH},aM W wx->aW (λk=>k=w1.heap.size) wx wy->aM W wy:=λkx m=>kx.fresh m λk e=>by rw[show k=w1.heap.size from e];omega
  have Mx:=up (up K8 m9) YC;have nb:∀b,s2.b=some b->b.block≠w1.heap.size:=λb hb=>by have:=f8 b hb;omega
  have v10:=(v8.aK m9 λb hb e=>nb b hb e).aK YC λb hb e=>nb b hb e;have oc:∀{wx:aH},aM w1 wx->wx.cell? ⟨W.heap.size,0,none⟩=some (sv dD):=λkx=>by
   have:=(o1.aK kx id);rw[this.cell];rfl
  have k1up:∀{wx wy:aH},aM w1 wx->aW (λk=>k=w1.heap.size) wx wy->aM w1 wy:=λkx m=>kx.fresh m λk e=>by rw[show k=w1.heap.size from e];exact iT _
  have k1_10:=k1up (k1up (k2.tr (k27.tr k8)) m9) YC;intro J hJ;have sF:∀eE s l f r,cW eE w1.heap.size Pv (VA (s,0,f,r,()))->dQ eE cY 1 eI s l->(∀x∈l,G.qE x)->l.length<=51->G.MG node at_ c l (G.oX l) f r->aM W eE->(∀b,s.b=some b->W.heap.size<=b.block/\b.block≠w1.heap.size)->J () eE:=by
   intro eE s l f r o11 v11 hE hl hA K11 hf;apply hJ;have d11:aM eE eE.drew:=aW.drew (aW.refl _ eE);have Kk:=h.aN (K11.tr d11);have od:=o11.aK d11 id;refine aA rfl (aE (k:=.ptr) (some ⟨E.t.t,0,none⟩) Kk.cells.1 ?_);have c0:=(Ld od).1;rw[lit 0] at c0;refine aE (k:=.slice) s c0 ?_;refine Xt Kk.RJ ((v11.aK d11 λ_ _=>id).rd fH) aB hE λeR KH=>?_;refine cI (o:=1) (v:=aD (G.oX l)) (od.aK KH id) cU dL rfl rfl λgO o13 da z13=>?_;have o13':cW gO w1.heap.size Pv (VA (s,G.oX l,f,r,())):=o13;refine ansEnd WB o13' λmC _ YB=>?_;have v14:=(((v11.aK d11 λ_ _=>id).aK KH λ_ _=>id).aK da λb hb e=>(hf b hb).2 e).aK YB λb hb e=>(hf b hb).2 e;exact hQ s _ f r l mC hA v14 hE hl (up (up ((K11.tr d11).tr KH) da) YB) λb hb=>(hf b hb).1
  have fU:l0.length<=51/\∀x∈l0,G.qE x:=by
   rcases hcase with⟨_,rfl,_⟩|⟨_,_,hl⟩
   ·exact⟨by simp,by simp⟩
   ·have:=hl.len ok
    exact⟨aB,λx hx=>((hl.VG ok).2.2.1 x hx).1⟩
  have c0:=(Ld o10').1;rw[lit 0] at c0;refine aE (k:=.slice) s2 c0 ?_;refine NR (p:=qI c) (C:=λwx=>aM eV wx) (v10.rd fH) aB (aW.refl _ _) (λ_ _ a b=>a.tr b) (λx wx K hCx hx hK=>?_) λb3 fO Dc La=>?_
  ·refine pB Zp iA (gI (ks:=[.i,.c .ptr]) (t:=(x,some ⟨W.heap.size,0,none⟩,())) ?_)
   show EN _ _ _ _;unfold EN;have hxE:=fU.2 x hx;have hcx:=hc.aK (Mx.tr hCx) KQ λ_ _=>id;have hcl:=hcx.len;have occ:=oc (k1_10.tr hCx);refine aA rfl (aE (k:=.slice) dD occ (aJ (λcJ=>aA rfl (aE (k:=.slice) dD occ ?_)) (λkT=>?_)))
   ·obtain⟨p,hp,hcp⟩:=cF (k:=.bool) (e:=λx=>x) hcx (ZB hxE.1 aB)
    exact⟨⟨hxE.1,cJ⟩,aA hp (aE (k:=.bool) (qI c x) hcp (hK wx (aW.refl _ _)))⟩
   ·have:=hK wx (aW.refl _ _)
    rw[Gn aB] at this;exact this
  have K15:=Mx.tr Dc;refine aF (λhb=>?_) (λhb=>?_)
  ·obtain⟨xs,hxs,hsx⟩:=La.1 hb
   obtain⟨hE,hl0⟩:G.qE at_/\G.LX [] d0 at_ l0:=by
    rcases hcase with⟨_,rfl,_⟩|⟨_,hh⟩
    ·cases hxs
    ·exact hh
   have d15:aM fO fO.drew:=aW.drew (aW.refl _ fO);have h15:=h.aN (K15.tr d15);have occ:=oc ((k1_10.tr Dc).tr d15);refine aA rfl (aE (k:=.ptr) (some ⟨E.t.t,0,none⟩) h15.cells.1 (aA rfl (aE (k:=.ptr) (some ⟨E.t.t,0,none⟩) h15.cells.1 (aE (k:=.slice) dD occ (aE (k:=.slice) dD occ ?_)))));refine To_i h15.RJ hN (hc.aK (K15.tr d15) KQ λ_ _=>id) λs7 d1 gR hd1 v16 Ka f16 b16=>?_;have K16:=(K15.tr d15).tr Ka;have h16:=h.aN K16;have k1_16:=((k1_10.tr Dc).tr d15).tr Ka;have o16:=((o10'.aK Dc id).aK d15 id).aK Ka id;have z16:=k1_16.size;refine⟨oc k1_16,h16.cells.1,?_⟩;have tail:∀iZ s8 b4 l1,dQ iZ cY 1 eI s8 l1->(∀b,s8.b=some b->gR.heap.size<=b.block)->aM gR iZ->(∀x∈l1,G.qE x)->l1.length<=51->G.MG node at_ c l1 (G.oX l1) b4 b4->
     aI prog BI ⟨w1.heap.size,0,none⟩ (Value.slice s8.b s8.l s8.c) iZ λlE=>aI prog xR ⟨w1.heap.size,2,none⟩ (Value.bool b4) lE λnM=>xL .bool nM ⟨w1.heap.size,2,none⟩ λ(b5:Bool)=>aI prog xR ⟨w1.heap.size,3,none⟩ (Value.bool b5) nM λyM=>J (()) yM:=by
    intro iZ s8 b4 l1 v17 f17 Jz hE1 Ke hA;have nb8:∀b,s8.b=some b->b.block≠w1.heap.size:=λb hb=>by have:=f17 b hb;have:=o16.lt;omega
    refine cI (o:=0) (v:=sv s8) (o16.aK Jz id) oG dL rfl rfl λlE o18 m18 _=>?_;refine cI (o:=2) (v:=.bool b4) o18 gV dL rfl rfl λnM o19 m19 _=>?_;have o19':cW nM w1.heap.size Pv (VA (s8,0,b4,false,())):=o19;have c2:=(Ld o19').2.2.1;rw[lit 2] at c2;refine aE (k:=.bool) b4 c2 ?_;refine cI (o:=3) (v:=.bool b4) o19' gV dL rfl rfl λyM o20 m20 _=>?_;refine sF yM s8 l1 b4 b4 o20 (((v17.aK m18 λb hb e=>nb8 b hb e).aK m19 λb hb e=>nb8 b hb e).aK m20 λb hb e=>nb8 b hb e) hE1 Ke hA (up (up (up (K16.tr Jz) m18) m19) m20) λb hb=>⟨?_,nb8 b hb⟩;have:=f17 b hb;have:=K16.size;omega
   refine vq h16.RJ hd1 (v16.rd fH) (hc.aK K16 KQ λ_ _=>id) (λv x hx=>by have:=b16 v x hx;simp only[BW] at*;omega) (λvU=>?_) λl1 s8 iZ _ h0 Ke v17 Jz f17=>?_
   ·refine tail gR _ false [] (dQ.nil _ _ _ _) (λb hb=>by cases hb) (aW.refl _ _) dL dL (.no λd _ hg=>vU ⟨hE,(ok.Rc hd1 hg).1⟩)
   ·have:=Ke.len ok
    exact tail iZ s8 true l1 v17 f17 Jz (λx hx=>((Ke.VG ok).2.2.1 x hx).1) aB (.rZ hN hE hd0 hd1 hl0 ⟨xs,hxs,hsx⟩ Ke)
  ·have vU:∀x∈l0,qI c x=false:=λx hx=>by
    cases hs:qI c x with
    |false=>rfl
    |true=>have:=La.2 ⟨x,hx,hs⟩;rw[hb] at this;cases this
   refine sF fO s2 l0 b1 false (o10'.aK Dc id) (v10.aK Dc λ_ _=>id) fU.2 fU.1 ?_ K15 λb hb=>⟨by have:=f8 b hb;have:=K2.size;omega,nb b hb⟩;rcases hcase with⟨rfl,rfl,hng⟩|⟨rfl,hE,hl0⟩
   ·exact .no λd _ hg=>hng d (G.gw_open hg)
   ·exact .near hN hE hd0 hl0 vU
 refine vq (c:=[]) h7.RJ hd0 (v7.rd fH) (Rd.nil _ _ _) (λv x hx=>?_) (λvU=>?_) λl s2 w8 hE h0 hl v8 k8 f8=>?_
 ·exact hb7 v x hx
 ·refine dE w7 bD false [] (dQ.nil _ _ _ _) (λb hb=>by cases hb) (aW.refl _ _) (.inl ⟨rfl,rfl,λd hg=>vU ⟨(ok.iv hg).1,(ok.Rc hd0 hg).1⟩⟩)
 ·exact dE w8 s2 true l v8 f8 k8 (.inr ⟨rfl,hE,hl⟩)
section
abbrev eSe(e:Nat)(p:LJ)(sl:Sl):List Value:=[.pointer (some ⟨e,0,none⟩),aD p.pos,aD p.node,sv sl,.bool p.dF,.bool p.iH]
structure jD(F:Nat->Prop)(W0 w:aH)(s:Nat)(E:uL)(G:Gr)(p:LJ):Prop where
 xm:zE W0 E G
 k0:aM W0 w
 lo:W0.heap.size<=s
 gN:∃sl,cW w s Vm (eSe E.e p sl)/\Rd w sl 1 eI p.jI/\∀b,sl.b=some b->¬F b.block/\b.block<w.heap.size
 fs:F s
section
variable{F F':Nat->Prop}{W0 w w':aH}{s:Nat}{E:uL}{G:Gr}{p:LJ}
theorem jD.e(h:jD F W0 w s E G p):zE w E G:=h.xm.aN h.k0
theorem jD.aK{M:Nat->Prop}(h:jD F W0 w s E G p)(m:aW M w w')(hM:∀k,M k->k≠s/\(F k\/w.heap.size<=k)/\W0.heap.size<=k):jD F W0 w' s E G p:=by
 obtain⟨sl,h1,h2,h3⟩:=h.gN;refine⟨h.xm,h.k0.fresh m λk hk=>(hM k hk).2.2,h.lo,⟨sl,h1.aK m λhs=>(hM s hs).1 rfl,h2.aK m cR λb hb hm=>?_,λb hb=>⟨(h3 b hb).1,mD (h3 b hb).2 m.size⟩⟩,h.fs⟩;rcases(hM _ hm).2.1 with hf|hf
 ·exact(h3 b hb).1 hf
 ·have:=(h3 b hb).2;omega
theorem jD.aN(h:jD F W0 w s E G p)(k:aM w w'):jD F W0 w' s E G p:=h.aK k λ_ hk=>hk.elim
theorem jD.RT(h:jD F W0 w s E G p)(hF:∀k,F' k->F k\/w.heap.size<=k)(hs:F' s):jD F' W0 w s E G p:=by
 obtain⟨sl,h1,h2,h3⟩:=h.gN;refine⟨h.xm,h.k0,h.lo,⟨sl,h1,h2,λb hb=>⟨λhf=>?_,(h3 b hb).2⟩⟩,hs⟩;rcases hF _ hf with hf|hf
 ·exact(h3 b hb).1 hf
 ·have:=(h3 b hb).2;omega
theorem jD.lt(h:jD F W0 w s E G p):s<w.heap.size:=by obtain⟨sl,h1,_⟩:=h.gN;exact h1.lt
theorem jD.put{sl:Sl}{q:LJ}(h:jD F W0 w s E G p)(m:aW (λk=>k=s) w w')(o:cW w' s Vm (eSe E.e q sl))(hr:Rd w' sl 1 eI q.jI)(hb:∀b,sl.b=some b->¬F b.block/\b.block<w'.heap.size):jD F W0 w' s E G q:=
 ⟨h.xm,h.k0.fresh m λk e=>by rw[show k=s from e];exact h.lo,h.lo,⟨sl,o,hr,hb⟩,h.fs⟩
theorem jD.cell(h:jD F W0 w s E G p):w.cell? ((⟨s,0,none⟩:Addr).add 0)=some (.pointer (some ⟨E.e,0,none⟩))/\w.cell? ((⟨s,0,none⟩:Addr).add 1)=some (aD p.pos)/\w.cell? ((⟨s,0,none⟩:Addr).add 2)=some (aD p.node)/\
  w.cell? ((⟨s,0,none⟩:Addr).add 4)=some (.bool p.dF)/\w.cell? ((⟨s,0,none⟩:Addr).add 5)=some (.bool p.iH)/\
  ∃sl,cW w s Vm (eSe E.e p sl)/\w.cell? ((⟨s,0,none⟩:Addr).add 3)=some (sv sl)/\Rd w sl 1 eI p.jI/\∀b,sl.b=some b->¬F b.block/\b.block<w.heap.size:=by
 obtain⟨sl,h1,h2,h3⟩:=h.gN;exact⟨cM h1 rfl,cM h1 rfl,cM h1 rfl,cM h1 rfl,cM h1 rfl,sl,h1,cM h1 rfl,h2,h3⟩
theorem Done_i{Q:Bool->aH->Prop}(h:jD F W0 w s E G p)(hQ:Q p.iH w):HN (some ⟨s,0,none⟩) w Q:=by
 unfold HN;exact aF (λh=>by simp at h) (λ_=>aA rfl (aE (k:=.bool) p.iH h.cell.2.2.2.2.1 hQ))
theorem Dq{Q:Sl->aH->Prop}(h:jD F W0 w s E G p)(ok:UF G p)(hh:p.dF=true)(hQ:∀ms w',jD F W0 w' s E G (pK G p).1->fL w' (λk=>w.heap.size<=k) ms (pK G p).2->(pK G p).2.length=1->aW (λk=>k=s) w w'->Q ms w'):
  wP (some ⟨s,0,none⟩) w Q:=by
 unfold wP;intro J1 KJ;have slt:=h.lt;have sF:∀a w1,w1.cell? (a.add 1)=some (aD (G.to p.pos))->aM w w1->J1 (some a,()) w1:=by
  intro a w1 c1 k1;apply KJ;have d1:aM w1 w1.drew:=aW.drew (aW.refl _ w1);have hd:=h.aN (k1.tr d1);refine aA rfl (aE (k:=.i) (G.to p.pos) (d1.cell c1 id) (aA rfl (aE (k:=.i) p.node hd.cell.2.2.1 ?_)));refine aF (λhe=>?_) (λgF=>?_)
  ·have vV:G.to p.pos=p.node:=by simpa using he
   obtain⟨sl,o,hr,hb⟩:=hd.gN;refine aA rfl ?_;rw[aS,pN];refine cI (o:=5) (v:=.bool true) o gV dL rfl rfl λw2 o2 m2 z2=>?_;have h2:jD F W0 w2 s E G {p with iH:=true}:=hd.put m2 o2 (hr.aK m2 cR λb bW e=>(hb b bW).1 (by rw[show b.block=s from e];exact h.fs)) λb bW=>⟨(hb b bW).1,by rw[z2];exact(hb b bW).2⟩;refine bK λw3 o3 k3 z3=>?_;have e:pK G p=({p with iH:=true},[Hb]):=by unfold pK;rw[if_pos vV]
   rw[e] at hQ;have M2:aW (λk=>k=s) w w2:=(aM.aK (k1.tr d1)).tr m2;have z:=M2.size;exact hQ _ w3 (h2.aN k3) (fL.one (x:=(Hb,bD)) o3 (GD.none rfl) z) rfl (M2.tr k3.wk)
  ·have Fb:¬G.to p.pos=p.node:=by simpa using gF
   have e:pK G p=(p,[qa (G.eZ p.pos p.jI)]):=by unfold pK;rw[if_neg Fb]
   rw[e] at hQ;have d2:aM w1 w1.drew.drew:=d1.tr (aW.drew (aW.refl _ _));have h2:=h.aN (k1.tr d2);obtain⟨c0,c1',_,_,_,sl,_,c3,hr,_⟩:=h2.cell;have he2:=h2.e;refine aA rfl (aE (k:=.ptr) (some ⟨E.e,0,none⟩) c0 (aA rfl (aE (k:=.ptr) (some ⟨E.t.t,0,none⟩) he2.cells.1 (aA rfl (aE (k:=.i) p.pos c1' (aA rfl (aE (k:=.slice) sl c3 ?_)))))));have len:=ok.len;refine⟨?_,?_⟩
   ·refine Hint_i he2.RJ ok.pos (ok.Er hh) hr aB λw4 k4=>?_
    refine fE (vs:=eH (G.eZ p.pos p.jI)) AK rfl (oneH _) λw6 o6 k6 _=>?_;refine bJ (l:=[.i,.i,.i,.i]) (Ql (G.eZ p.pos p.jI)) (Mz o6) ?_;refine bK λw7 o7 k7 z7=>?_;have K6:=((k1.tr d2).tr k4).tr k6;exact hQ _ w7 (h.aN (K6.tr k7)) (fL.one (x:=(qa (G.eZ p.pos p.jI),bD)) o7 (GD.none rfl) K6.size) rfl (K6.tr k7).wk
   ·refine bK λw8 o8 k8 z8=>?_
    have o8':cW w8 w1.drew.drew.heap.size Fl (eH ⟨0,0,0,0⟩):=o8;refine⟨k8.cell c3 id,k8.cell c1' id,k8.cell he2.cells.1 id,k8.cell c0 id,?_⟩;refine Hint_i (he2.aN k8).RJ ok.pos (ok.Er hh) (hr.aK k8 cR λ_ _=>id) aB λw9 k9=>?_;refine eO (vs:=eH (G.eZ p.pos p.jI)) (o8'.aK k9 id) AK rfl (oneH _) λeV Bu YC _=>?_;refine bJ (l:=[.i,.i,.i,.i]) (Ql (G.eZ p.pos p.jI)) (Mz Bu) ?_;refine bK λeE o11 KU z11=>?_;have K2:=k1.tr d2;have Mx:aM w eV:=((K2.tr k8).tr k9).fresh YC λk e=>by rw[show k=w1.drew.drew.heap.size from e];exact K2.size
    exact hQ _ eE (h.aN (Mx.tr KU)) (fL.one (x:=(qa (G.eZ p.pos p.jI),bD)) o11 (GD.none rfl) Mx.size) rfl (Mx.tr KU).wk
 have d:aM w w.drew:=aW.drew (aW.refl _ w);have hd:=h.aN d;have ed:=hd.e;obtain⟨c0,c1',_⟩:=hd.cell;refine aA rfl (aE (k:=.ptr) (some ⟨E.e,0,none⟩) c0 (aA rfl (aE (k:=.ptr) (some ⟨E.t.t,0,none⟩) ed.cells.1 (aA rfl (aE (k:=.ptr) (some ⟨E.t.H.g,0,none⟩) ed.RJ.cells.1 (aA rfl (aE (k:=.i) p.pos c1' ?_)))))));refine⟨?_,?_⟩
 ·refine JJ ed.RJ.IJ (λ_ w2 k2=>?_) (λhn=>absurd ok.pos hn)
  refine fE (vs:=[aD (G.fr p.pos),aD (G.to p.pos),aD (G.wt p.pos)]) jL rfl (by simp[Value.oneCell']) λw3 o3 k3 z3=>?_;exact sF _ w3 (FW o3).2.1 ((d.tr k2).tr k3)
 ·refine bK λw2 o2 k2 z2=>?_
  have o2':cW w2 w.drew.heap.size QG [aD 0,aD 0,aD 0]:=o2;refine⟨k2.cell c1' id,k2.cell ed.RJ.cells.1 id,k2.cell ed.cells.1 id,k2.cell c0 id,?_⟩;refine JJ (ed.aN k2).RJ.IJ (λ_ w3 k3=>?_) (λhn=>absurd ok.pos hn);refine eO (vs:=[aD (G.fr p.pos),aD (G.to p.pos),aD (G.wt p.pos)]) (o2'.aK k3 id) jL rfl (by simp[Value.oneCell']) λw4 o4 m4 _=>?_;exact sF _ w4 (FW o4).2.1 (((d.tr k2).tr k3).fresh m4 λk e=>by rw[show k=w.drew.heap.size from e];exact d.size)
end
end
section
section
variable{F:Nat->Prop}{W0 w:aH}{s:Nat}{E:uL}{G:Gr}{p:LJ}
theorem je{dD:Sl}{c:List Bool}{Q:Sl->aH->Prop}(h:jD F W0 w s E G p)(hp:G.qE p.pos)(hn:G.XS p.node)(hc:Rd w dD 1 eB c)(hF:∀k,F k->k<w.heap.size)
  (hQ:∀z ms w',Ls G c p z->jD F W0 w' s E G z.1->UF G z.1->fL w' (λk=>w.heap.size<=k) ms z.2->z.2.length<=2/\1<=z.2.length->aW (λk=>k=s) w w'->Q ms w'):
  wQ (some ⟨s,0,none⟩) dD w Q:=by
 unfold wQ;have ok:=h.xm.RJ.IJ.ok;have slt:=h.lt;intro J1 KJ;have lit:∀b k:Nat,((⟨b,0,none⟩:Addr).add k)=⟨b,k,none⟩:=λb k=>by rw[aS,pN]
 have sF:∀b w1 (sl:Sl) wt f r l,cW w1 b Pv (VA (sl,wt,f,r,()))->w.heap.size<=b->G.MG p.node p.pos c l wt f r->dQ w1 cY 1 eI sl l->l.length<=51->(∀a,sl.b=some a->w.heap.size<=a.block)->aM w w1->J1 (some ⟨b,0,none⟩,()) w1:=by
  intro b w1 sl wt f r l o1 hb hA v1 hl f1 k1;apply KJ;have d1:aM w1 w1.drew:=aW.drew (aW.refl _ w1);have K1:=k1.tr d1;have hd:=h.aN K1;have od:=o1.aK d1 id;have vd:=v1.aK d1 λ_ _=>id;have cd:=Ld od;refine aA rfl (aE (k:=.slice) sl cd.1 (aA rfl (aE (k:=.bool) f cd.2.2.1 ?_)));obtain⟨sl0,o,hr,hb0⟩:=hd.gN;refine aA rfl ?_;rw[lit s 3];refine cI (o:=3) (v:=sv sl) o oG dL rfl rfl λw2 o2 m2 z2=>?_;have bs:b≠s:=aB;have od2:=od.aK m2 bs;refine⟨(Ld od2).2.2.1,?_⟩;refine aA rfl ?_;rw[lit s 4];refine cI (o:=4) (v:=.bool f) o2 gV dL rfl rfl λw3 o3 m3 z3=>?_;have od3:=od2.aK m3 bs;have ns:∀a,sl.b=some a->¬a.block=s:=λa ha e=>by have:=f1 a ha;omega
  have v3:=(vd.aK m2 ns).aK m3 ns;have M3:aW (λk=>k=s) w w3:=(K1.wk.tr m2).tr m3;have h3:jD F W0 w3 s E G {p with jI:=l,dF:=f}:=hd.put (m2.tr m3) o3 (v3.rd fH) λa ha=>⟨λhf=>by have:=f1 a ha;have:=hF _ hf;omega,v3.lt ha⟩;refine aA rfl (aE (k:=.bool) f (Ld od3).2.2.1 ?_);refine aF (λhf=>?_) (λhf=>?_)
  ·have XU:f=false:=by simpa using hf
   refine bK λw4 o4 k4 z4=>?_;subst XU;have e:fw G p l wt false=({p with jI:=l,dF:=false},[WI]):=by unfold fw;rw[if_neg dL]
   have hz:Ls G c p ({p with jI:=l,dF:=false},[WI]):=⟨l,wt,false,r,hA,e.symm⟩;have kH:=(ask_ok ok hp hn hA).1;rw[e] at kH;exact hQ _ _ w4 hz (h3.aN k4) kH (fL.one (x:=(WI,bD)) o4 (GD.none rfl) M3.size) dL (M3.tr k4.wk)
  ·have XU:f=true:=by simpa using hf
   subst XU;have kH:=(ask_ok ok hp hn hA).2 rfl;have e:fw G p l wt true=((pK G {p with jI:=l,dF:=true}).1,YU l wt::(pK G {p with jI:=l,dF:=true}).2):=by unfold fw;rw[if_pos rfl]
   have hz:Ls G c p ((pK G {p with jI:=l,dF:=true}).1,YU l wt::(pK G {p with jI:=l,dF:=true}).2):=⟨l,wt,true,r,hA,e.symm⟩;have d3:aM w3 w3.drew:=aW.drew (aW.refl _ w3);have odd:=od3.aK d3 id;have Ag:=h3.aN d3;have M3d:=M3.tr d3.wk;have zz:=M3d.size;refine aA rfl (aE (k:=.slice) sl (Ld odd).1 (aA rfl (aE (k:=.i) wt (Ld odd).2.1 ?_)));refine HE ((v3.aK d3 λ_ _=>id).rd fH) aB λs3 w5 v5 k5 f5=>?_;have o5:=odd.aK k5 id;refine⟨(Ld o5).2.1,?_⟩;have h5:=Ag.aN k5;have M5:=M3d.tr k5.wk;have z5:=k5.size;have hOk5:UF G (pK G {p with jI:=l,dF:=true}).1:=kH.pK;have mx:∀{wx:aH} (g:Nat),aW (λk=>k=s) w5 wx->w5.heap.size<=g->GD wx (λk=>w.heap.size<=k/\k≠g) (YU l wt,s3):=λg kx hg=>by
    have vx:=v5.aK kx λa ha e=>by have:=f5 a ha;have e':a.block=s:=e;omega
    exact⟨vx.rd fH,λa ha=>⟨⟨by have:=f5 a ha;omega,by have:=v5.lt ha;omega⟩,vx.lt ha⟩,hl⟩
   have W0le:=h.k0.size;have g5:w5.heap.size≠s:=by have:=M5.size;omega
   refine⟨?_,?_⟩
   ·refine bK λw6 o6 k6 z6=>?_
    have h5g:jD (λk=>F k\/k=w5.heap.size) W0 w5 s E G {p with jI:=l,dF:=true}:=h5.RT (λk hk=>hk.elim .inl (λe=>.inr aB)) (.inl h5.fs);refine Dq (h5g.aN k6) kH rfl λms w7 h7 q7 hl7 m7=>?_;have z7:=m7.size;refine Ha (x:=(YU l wt,s3)) (P:=λk=>w.heap.size<=k) (o6.aK m7 g5) (mx w5.heap.size (k6.wk.tr m7) (iT _)) aB (λk hk=>aB) (q7.wk λk hk _=>⟨aB,aB⟩) aB λr' w8 q8 m8=>?_;refine hQ _ _ w8 hz ((h7.aK m8 λk hk=>⟨aB,.inl (.inr hk),aB⟩).RT (λk hk=>.inl (.inl hk)) h.fs) hOk5 q8 ⟨by simp[hl7],by simp⟩ ((M5.tr (k6.wk.tr m7)).trans m8 λk hk e=>aB)
   ·refine Dq h5 kH rfl λms w9 h9 q9 hl9 m9=>?_
    have z9:=m9.size;refine⟨(Ld (o5.aK m9 bs)).2.1,?_⟩;refine bK λeV Bu II z10=>?_;have h9g:jD (λk=>F k\/k=w9.heap.size) W0 w9 s E G (pK G {p with jI:=l,dF:=true}).1:=h9.RT (λk hk=>hk.elim .inl (λe=>.inr aB)) (.inl h9.fs);have q9':fL w9 (λk=>w.heap.size<=k/\k≠w9.heap.size) ms (pK G {p with jI:=l,dF:=true}).2:=q9.wk λk hk cJ=>⟨aB,aB⟩;refine Ha (x:=(YU l wt,s3)) (P:=λk=>w.heap.size<=k) Bu (mx w9.heap.size (m9.tr II.wk) z9) aB (λk hk=>aB) (q9'.aN II) aB λr' eE q11 Jx=>?_;refine hQ _ _ eE hz (((h9g.aN II).aK Jx λk hk=>⟨aB,.inl (.inr hk),aB⟩).RT (λk hk=>.inl (.inl hk)) h.fs) hOk5 q11 ⟨by simp[hl9],by simp⟩ (((M5.tr m9).tr II.wk).trans Jx λk hk e=>aB)
 have d:aM w w.drew:=aW.drew (aW.refl _ w);have hd:=h.aN d;obtain⟨c0,c1,c2,_⟩:=hd.cell;have hcd:=hc.aK d KQ λ_ _=>id;refine aA rfl (aE (k:=.ptr) (some ⟨E.e,0,none⟩) c0 (aA rfl (aE (k:=.i) p.pos c1 (aA rfl (aE (k:=.i) p.node c2 ?_)))));refine⟨?_,?_⟩
 ·refine Way_i hd.e hcd λsl wt f r l w1 hA v1 _ hl k1 f1=>?_
  refine fE (vs:=VA (sl,wt,f,r,())) WB rfl (ij _) λw2 o2 k2 z2=>?_;exact sF _ w2 sl wt f r l o2 (by have:=k1.size;have:=d.size;omega) hA (v1.aK k2 λ_ _=>id) hl (λa ha=>by have:=f1 a ha;have:=d.size;omega) ((d.tr k1).tr k2)
 ·refine bK λw1 o1 k1 z1=>?_
  have RL:cW w1 w.drew.heap.size Pv (VA (bD,0,false,false,())):=o1;refine⟨k1.cell c2 id,k1.cell c1 id,k1.cell c0 id,?_⟩;refine Way_i (hd.aN k1).e (hcd.aK k1 KQ λ_ _=>id) λsl wt f r l w2 hA v2 _ hl k2 f2=>?_;refine eO (vs:=VA (sl,wt,f,r,())) (RL.aK k2 id) WB rfl (ij _) λw3 o3 m3 _=>?_;have ds:=d.size;refine sF _ w3 sl wt f r l o3 ds hA (v2.aK m3 λa ha e=>?_) hl (λa ha=>by have:=f2 a ha;omega) (((d.tr k1).tr k2).fresh m3 λk e=>by rw[show k=w.drew.heap.size from e];exact ds);have:=f2 a ha;omega
end
end
section
abbrev xu(a v:Int):LJ:=⟨a,v,[],false,false⟩
theorem SNew_i{E:uL}{G:Gr}{at_ node:Int}{dD:Sl}{c:List Bool}{W:aH}{Q:cL->Sl->Int->aH->Prop}(h:zE W E G)(hc:Rd W dD 1 eB c)
  (RZ:¬(G.qE at_/\G.XS node)->Q none bD 1 W)
  (hQ:G.qE at_->G.XS node->∀z ms w',Ls G c (xu at_ node) z->jD (λk=>k<=W.heap.size) W w' W.heap.size E G z.1->UF G z.1->fL w' (λk=>W.heap.size<k) ms (DW::z.2)->z.2.length<=2/\1<=z.2.length->aM W w'->Q (some ⟨W.heap.size,0,none⟩) ms 0 w'):
  sK (some ⟨E.e,0,none⟩) at_ node dD W Q:=by
 unfold sK;refine aF (λh=>by simp at h) (λ_=>aJ (λh0=>RZ λhh=>by have:=hh.1.1;omega) (λh0=>?_));refine aA rfl (aE (k:=.ptr) (some ⟨E.t.t,0,none⟩) h.cells.1 (aA rfl (aE (k:=.ptr) (some ⟨E.t.H.g,0,none⟩) h.RJ.cells.1 (sT h.RJ.IJ ?_))));refine aJ (λh1=>RZ λhh=>by have:=hh.1.2;omega) (λh1=>aJ (λh2=>RZ λhh=>by have:=hh.2.1;omega) (λh2=>?_));refine aA rfl (aE (k:=.ptr) (some ⟨E.t.t,0,none⟩) h.cells.1 (aA rfl (aE (k:=.ptr) (some ⟨E.t.H.g,0,none⟩) h.RJ.cells.1 (OI h.RJ.IJ ?_))));refine aJ (λh3=>RZ λhh=>by have:=hh.2.2;omega) (λh3=>?_);have hE:G.qE at_:=⟨aB,aB⟩;have hN:G.XS node:=⟨aB,aB⟩;refine bK λw1 o1 k1 z1=>bK λw2 o2 k2 z2=>?_;have RL:cW w1 W.heap.size Vm (eSe E.e (xu at_ node) bD):=o1;have K2:=k1.tr k2;have h2:jD (λk=>k<=w1.heap.size) W w2 W.heap.size E G (xu at_ node):=⟨h,K2,iT _,⟨bD,RL.aK k2 id,Rd.nil _ _ _,λb hb=>by cases hb⟩,aB⟩;refine je h2 hE hN (hc.aK K2 KQ λ_ _=>id) (λk hk=>aB) λz ms w3 hz h3 Kr q3 l3 m3=>?_;have z3:=m3.size;have g1:w1.heap.size≠W.heap.size:=aB;refine Ha (x:=(DW,bD)) (P:=λk=>W.heap.size<k) (o2.aK m3 g1) (GD.none rfl) aB (λk hk=>aB) (q3.wk λk hk _=>⟨aB,aB⟩) aB λr w4 q4 m4=>?_;exact hQ hE hN z r w4 hz ((h3.aK m4 λk hk=>⟨aB,.inl aB,aB⟩).RT (λk hk=>.inl aB) (iT _)) Kr q4 l3 ((K2.fresh m3 λk e=>by rw[show k=W.heap.size from e];exact iT _).fresh m4 λk e=>by rw[show k=w1.heap.size from e];omega)
theorem Nl{b:cL}{c l n:Nat}{a:Addr}(h:aR b c l n=some a):∃a0,b=some a0/\a.block=a0.block:=by
 unfold aR at h
 split at h
 ·exact⟨a,h,rfl⟩
 ·cases b with
  |none=>cases h
  |some x=>cases h;exact⟨x,rfl,by simp⟩
section
variable{F:Nat->Prop}{W0 w:aH}{s:Nat}{E:uL}{G:Gr}{p:LJ}
theorem Report_i{pos:Int}{dD:Sl}{c:List Bool}{Q:Sl->aH->Prop}(h:jD F W0 w s E G p)(bc:UF G p)(hc:Rd w dD 1 eB c)(Tz:∀b,dD.b=some b->b.block≠s)(hF:∀k,F k->k<w.heap.size)
  (hQ:∀z ms w',gf G c p pos z->jD F W0 w' s E G z.1->UF G z.1->fL w' (λk=>w.heap.size<=k) ms z.2->z.2.length<=2->aW (λk=>k=s) w w'->Q ms w'):
  yJ (some ⟨s,0,none⟩) pos dD w Q:=by
 unfold yJ;have lit:∀k:Nat,((⟨s,0,none⟩:Addr).add k)=⟨s,k,none⟩:=λk=>by rw[aS,pN]
 refine Done_i h (aF (λKc=>?_) (λKc=>?_))
 ·exact hQ (p,[]) _ w (by unfold gf;rw[if_pos Kc]) h bc fL.nil dL (aW.refl _ _)
 have nov:¬p.iH=true:=by rw[Kc];simp
 have he:=h.e;refine aA rfl (aE (k:=.ptr) (some ⟨E.e,0,none⟩) h.cell.1 (aA rfl (aE (k:=.ptr) (some ⟨E.t.t,0,none⟩) he.cells.1 (aA rfl (aE (k:=.ptr) (some ⟨E.t.H.g,0,none⟩) he.RJ.cells.1 ?_)))));refine JJ he.RJ.IJ (λhE w2 k2=>?_) (λhE w2 k2=>?_)
 ·refine fE (vs:=[aD (G.fr pos),aD (G.to pos),aD (G.wt pos)]) jL rfl (by simp[Value.oneCell']) λw4 o4 k4 z4=>?_
  refine aF (λh=>by simp at h) (λ_=>?_);have K4:=k2.tr k4;have h4:=h.aN K4;intro J1 KJ;have j1:¬(p.dF=true/\pos=p.pos)->¬(p.dF=true/\p.jI.head? =some pos)->∀w6,aM w w6->J1 () w6:=by
   intro n1 n2 w6 k6;apply KJ;obtain⟨sl,o,hr,hb⟩:=(h.aN k6).gN;refine aA rfl ?_;rw[lit 1];refine cI (o:=1) (v:=aD pos) o cU dL rfl rfl λw7 o7 m7 z7=>?_;have h7:jD F W0 w7 s E G {p with pos:=pos}:=(h.aN k6).put m7 o7 (hr.aK m7 cR λb bW e=>(hb b bW).1 (by rw[show b.block=s from e];exact h.fs)) λb bW=>⟨(hb b bW).1,by rw[z7];exact(hb b bW).2⟩;have s6:=k6.size;refine je h7 hE bc.node ((hc.aK k6 KQ λ_ _=>id).aK m7 KQ λb bW e=>Tz b bW e) (λk hk=>by have:=hF k hk;omega) λz ms w8 hz h8 ok8 q8 l8 m8=>?_;refine hQ z ms w8 ?_ h8 ok8 (q8.wk λk hk _=>aB) l8.1 ((k6.wk.tr m7).tr m8);unfold gf;rw[if_neg nov,if_neg (by simpa using hE),if_neg n1,if_neg n2];exact hz
  intro J2 En;have j2:∀b:Bool,(b=true↔(p.dF=true/\pos=p.pos))->J2 (b,()) w4:=by
   intro b hb;apply En;refine aF (λhbt=>?_) (λhbf=>?_)
   ·have hh:=hb.1 hbt
    refine Dq h4 bc hh.1 λms eV IQ q10 l10 YC=>?_;refine hQ _ ms eV ?_ IQ bc.pK (q10.wk λk hk _=>by have:=K4.size;omega) aB (K4.wk.tr YC);unfold gf;rw[if_neg nov,if_neg (by simpa using hE),if_pos hh]
   ·have n1:¬(p.dF=true/\pos=p.pos):=λhh=>by have hbf':b=false:=hbf;rw[hb.2 hh] at hbf';cases hbf'
    obtain⟨_,_,_,c4,_,sl,o,c3,hr,xf⟩:=h4.cell;refine aA rfl (aE (k:=.bool) p.dF c4 (aF (λhh=>?_) (λhh=>j1 n1 (λg=>by rw[hh] at g;cases g.1) w4 K4)));have sll:=hr.len;refine aA rfl (aE (k:=.slice) sl c3 (aJ (λcJ=>?_) (λkT=>j1 n1 (λg=>?_) w4 K4)))
    ·cases yd:p.jI with
     |nil=>rw[yd] at sll;simp at sll;omega
     |cons x dE=>
      rw[yd] at hr sll;obtain⟨a,ha,hx⟩:=cF (k:=.i) (e:=λx=>x) hr (show(x::dE)[0]? =some x from rfl);refine aA rfl (aE (k:=.slice) sl c3 ⟨⟨aB,aB⟩,aA ha (aE (k:=.i) x hx ?_)⟩);refine aF (λhpx=>?_) (λhpx=>j1 n1 (λg=>?_) w4 K4)
      ·have hpx':pos=x:=by simpa using hpx
       have d4:aM w4 w4.drew:=aW.drew (aW.refl _ w4);have h4d:=h4.aN d4;have od:=o.aK d4 id;refine aA rfl (aE (k:=.slice) sl (cM od rfl) ⟨⟨aB,aB⟩,aA rfl ?_⟩);rw[lit 1];refine cI (o:=1) (v:=aD pos) od cU dL rfl rfl λw5 o5 m5 z5=>?_;refine aA rfl ?_;rw[lit 3]
       let LF:Sl:=⟨aR sl.b sl.c 1 1,sl.l-1,sl.c-1⟩
       refine cI (o:=3) (v:=sv LF) o5 oG dL rfl rfl λw6 o6 m6 z6=>?_;have ns:∀b,sl.b=some b->¬b.block=s:=λb bW e=>(xf b bW).1 (by rw[e];exact h.fs);have hr6:=((hr.aK d4 cR λ_ _=>id).aK m5 cR ns).aK m6 cR ns;have hp6:=hr6.part (i:=1) (j:=sl.l) (c:=sl.c) aB (iT _) hr.cap (iT _);have hrest:((x::dE).drop 1).take (sl.l-1)=dE:=by
        rw[List.drop_one,List.tail_cons,List.take_of_length_le];simp only[nU] at sll;omega
       rw[hrest] at hp6;have h6:jD F W0 w6 s E G {p with pos:=pos,jI:=dE}:=h4d.put (m5.tr m6) o6 hp6 λb bW=>by
        obtain⟨a0,nq,e⟩:=Nl bW;rw[e];have z4d:w4.drew.heap.size=w4.heap.size:=rfl;exact⟨(xf a0 nq).1,by have:=(xf a0 nq).2;omega⟩
       have hm:p.dF=true/\p.jI.head? =some pos:=⟨hh,by rw[yd,hpx'];rfl⟩;have Ts:=bc.move hE hm;rw[yd,List.tail_cons] at Ts;refine Dq h6 Ts hh λms w7 h7 q7 l7 m7=>?_;have M6:aW (λk=>k=s) w w6:=(((K4.tr d4).wk).tr m5).tr m6;refine hQ _ ms w7 ?_ h7 Ts.pK (q7.wk λk hk _=>by have:=M6.size;omega) aB (M6.tr m7);unfold gf;rw[if_neg nov,if_neg (by simpa using hE),if_neg n1,if_pos hm,yd,List.tail_cons]
      ·rw[yd] at g
       have:x=pos:=by simpa using g.2
       rw[this] at hpx;simp at hpx
    ·rw[List.head?_eq_none_iff.2 (Ce aB)] at g
     cases g.2
  refine aA rfl (aE (k:=.bool) p.dF h4.cell.2.2.2.1 (aF (λhh=>aA rfl (aE (k:=.i) p.pos h4.cell.2.1 (j2 _ ?_))) (λhh=>j2 _ ?_)))
  ·have Kf:p.dF=true:=hh
   simp[Kf]
  ·have Kf:p.dF=false:=hh
   simp[Kf]
 ·refine fE (vs:=[aD 0,aD 0,aD 0]) jL rfl (by simp[Value.oneCell']) λw4 o4 k4 z4=>?_
  refine aF (λ_=>?_) (λh=>by simp at h);refine bK λw5 o5 k5 z5=>?_;have K4:=k2.tr k4;refine hQ (p,[iq pos]) _ w5 ?_ (h.aN (K4.tr k5)) bc (fL.one (x:=(iq pos,bD)) o5 (GD.none rfl) K4.size) dL (K4.tr k5).wk;unfold gf;rw[if_neg nov,if_pos hE]
end
end
section
theorem Xv{sl:Sl}{xs:List Int}{v:Int}{w:aH}{Q:Int->aH->Prop}(hr:Rd w sl 1 eI xs)(hl:xs.length<1000000)(hQ:∀i w',aM w w'->(0<=i↔v∈xs)->Q i w'):kM sl v w Q:=by
 unfold kM;have hll:=hr.len;refine bO (λc t w1=>∃(i:Nat),i<=xs.length/\c=xs.length-i/\t=((i:Int),())/\aM w w1/\v∉xs.take i) xs.length ⟨0,iG _,rfl,rfl,aW.refl _ _,by simp⟩ ?_;rintro c t w1 ⟨i,hi,rfl,rfl,k1,hn⟩ X hX;dsimp only;refine aJ (λcJ=>?_) (λkT=>?_)
 ·have dJ:i<xs.length:=aB
  have cV:=gS dJ;have fP:=nE dJ;have rV:=FQ dJ;generalize xs[i]=x at*;obtain⟨q,hq,hc⟩:=cF (k:=.i) (e:=λx=>x) (hr.aK k1 cR λ_ _=>id) cV;rw[kE];refine⟨⟨aB,cJ⟩,aA hq (aE (k:=.i) x hc (aF (λh=>hQ _ w1 k1 ⟨λ_=>?_,λ_=>aB⟩) (λh=>?_)))⟩
  ·have:v=x:=by simpa using h
   rw[this];exact fP
  ·have gF:v≠x:=by simpa using h
   rw[qA i aB];refine hX _ _ _ aB ⟨i+1,dJ,rfl,rfl,k1,λhy=>?_⟩;rw[rV] at hy;rcases jK.1 hy with hy|hy
   ·exact hn hy
   ·exact gF (by simpa using hy)
 ·have ei:i=xs.length:=aB
  subst ei;rw[oZ] at hn;exact hQ (-1) w1 k1 ⟨λh=>aB,λh=>absurd h hn⟩
section
variable{F:Nat->Prop}{W0 w:aH}{s:Nat}{E:uL}{G:Gr}{p:LJ}
theorem aAZ{CU open_ dD:Sl}{sh op:List Int}{c:List Bool}{Q:Sl->aH->Prop}(h:jD F W0 w s E G p)(bc:UF G p)(hsh:Rd w CU 1 eI sh)(hshl:sh.length<1000000)(El:Rd w open_ 1 eI op)(hc:Rd w dD 1 eB c)(hF:∀k,F k->k<w.heap.size)
  (hQ:∀z ms w',gg G c p sh op z->jD F W0 w' s E G z.1->UF G z.1->fL w' (λk=>w.heap.size<=k) ms z.2->z.2.length<=2->aW (λk=>k=s) w w'->Q ms w'):
  vF (some ⟨s,0,none⟩) CU open_ dD w Q:=by
 unfold vF;refine bK λw1 o1 k1 z1=>?_;have h1:=h.aN k1;refine Done_i h1 (aF (λKc=>?_) (λKc=>?_))
 ·exact hQ (p,[]) _ w1 (by unfold gg;rw[if_pos Kc]) h1 bc fL.nil dL k1.wk
 have nov:¬p.iH=true:=by rw[Kc];simp
 obtain⟨_,_,_,_,_,sl,_,c3,hr,_⟩:=h1.cell;have len:=bc.len;refine aA rfl (aE (k:=.slice) sl c3 ?_);refine NR (p:=λx=>decide (x∈sh)) (C:=λwx=>aM w1 wx) hr aB (aW.refl _ _) (λ_ _ a b=>a.tr b) (λx wx K hCx hx hK=>?_) λb2 w3 k3 RQ=>?_
 ·refine pB Cn iA (gI (ks:=[.i,.c .ptr]) (t:=(x,some ⟨w.heap.size,0,none⟩,())) ?_)
  show sW _ _ _ _;unfold sW gL;have occ:wx.cell? ⟨w.heap.size,0,none⟩=some (sv CU):=by rw[(o1.aK hCx id).cell];rfl
  refine aA rfl (aE (k:=.slice) CU occ ?_);refine Xv ((hsh.aK k1 cR λ_ _=>id).aK hCx cR λ_ _=>id) hshl λi w2 k2 hi=>?_;have e:decide (i>=(0:Int))=decide (x∈sh):=by
   by_cases hm:x∈sh
   ·rw[decide_eq_true hm,decide_eq_true (hi.2 hm)]
   ·rw[decide_eq_false hm,decide_eq_false (λh=>hm (hi.1 h))]
  rw[e];exact hK w2 k2
 have K3:=k1.tr k3;have h3:=h.aN K3;have fp:b2=true↔∃e∈p.jI,e∈sh:=by rw[RQ];simp
 have ask:∀(T:WQ Sl),(∀z ms w',Ls G c p z->jD F W0 w' s E G z.1->UF G z.1->fL w' (λk=>w.heap.size<=k) ms z.2->z.2.length<=2/\1<=z.2.length->aW (λk=>k=s) w w'->T ms w')->wQ (some ⟨s,0,none⟩) dD w3 T:=λT hT=>by
  have z3:=K3.size;refine je h3 bc.pos bc.node (hc.aK K3 KQ λ_ _=>id) (λk hk=>by have:=hF k hk;omega) λz ms w4 hz h4 Pj q4 l4 m4=>?_;exact hT z ms w4 hz h4 Pj (q4.wk λk hk _=>aB) l4 (K3.wk.tr m4)
 have opl:=El.len;intro J1 KJ;have jh:p.dF=true->(∃e∈p.jI,e∈sh)->J1 () w3:=by
  intro hh hm;apply KJ;refine aA rfl (aE (k:=.bool) p.dF h3.cell.2.2.2.1 (ask _ λz ms w4 hz h4 Pj q4 l4 m4=>?_));refine aF (λh=>by rw[hh] at h;cases h) (λ_=>?_);refine hQ z ms w4 ?_ h4 Pj q4 l4.1 m4;unfold gg;rw[if_neg nov,if_pos hh,if_pos hm];exact hz
 have jn:p.dF=false->op≠[]->J1 () w3:=by
  intro hh ho;have nh:¬p.dF=true:=by rw[hh];simp
  apply KJ;refine aA rfl (aE (k:=.bool) p.dF h3.cell.2.2.2.1 (ask _ λz ms w4 hz h4 Pj q4 l4 m4=>?_));have hC:gg G c p sh op (z.1,if z.1.dF=true then z.2 else []):=by
   unfold gg;rw[if_neg nov,if_neg nh,if_neg ho];exact⟨z,hz,rfl⟩
  refine aF (λ_=>?_) (λh=>by rw[hh] at h;cases h);refine aA rfl (aE (k:=.bool) z.1.dF h4.cell.2.2.2.1 (aF (λhf=>?_) (λhf=>?_)))
  ·have XU:z.1.dF=false:=by simpa using hf
   rw[if_neg (by rw[XU];simp)] at hC;exact hQ _ _ w4 hC h4 Pj fL.nil dL m4
  ·have XU:z.1.dF=true:=by simpa using hf
   rw[if_pos XU] at hC;exact hQ _ ms w4 hC h4 Pj q4 l4.1 m4
 have dy:(p.dF=true/\¬(∃e∈p.jI,e∈sh))\/(p.dF=false/\op=[])->Q bD w3:=λhs=>by
  refine hQ (p,[]) _ w3 ?_ h3 bc fL.nil dL K3.wk;unfold gg;rw[if_neg nov];rcases hs with⟨a,b⟩|⟨a,b⟩
  ·rw[if_pos a,if_neg b]
  ·rw[if_neg (by rw[a];simp),if_pos b]
 have c4:=h3.cell.2.2.2.1;have nope:p.dF=false->cond ((open_.l:Int)==(0:Int)) (Q bD w3) (J1 () w3):=λhh=>by
  refine aF (λhz=>dy (.inr ⟨hh,?_⟩)) (λhz=>jn hh λe=>?_)
  ·exact Ce (by simp at hz;omega)
  ·rw[opl,e] at hz;simp at hz
 refine aA rfl (aE (k:=.bool) p.dF c4 (aF (λhh=>?_) (λhh=>?_)))
 ·have Kf:p.dF=true:=hh
  refine aF (λhn=>dy (.inl ⟨Kf,λhm=>?_⟩)) (λhy=>aA rfl (aE (k:=.bool) p.dF c4 (aF (λh=>by rw[Kf] at h;cases h) (λ_=>jh Kf (fp.1 (by simpa using hy))))));rw[fp.2 hm] at hn;cases hn
 ·have Kf:p.dF=false:=hh
  exact aA rfl (aE (k:=.bool) p.dF c4 (aF (λ_=>nope Kf) (λh=>by rw[Kf] at h;cases h)))
end
end
end Go.Proofs.YtihggjgakbgomaaGreat
namespace Go.Proofs.YtihggjgakbgomaaGreat
open Go Go.Den Go.Proofs
section
def tG(a:Nat)(u:List Int):As:=Ex λsl=>aZ (sB a MR [sv sl]) (iU cY 1 eI sl u)
instance{a:Nat}{u:List Int}:bF (tG a u):=by unfold tG;infer_instance
theorem TJ{s:Sl}{xs:List Int}{w:aH}{S:BS}{b:Addr}{i:Nat}{x:Int}{K:aH->Prop}(h:iU cY 1 eI s xs w S)(hb:s.b=some b)(hi:i<xs.length)(hK:∀w',iU cY 1 eI s (xs.set i x) w' S->Up S S w w'->K w'):aI Tryz.prog cY (b.add (i*1)) (aD x) w K:=
 h.1.store fH hb hi x (v:=aD x) rfl cU (EV _) λw' v m _=>hK w' ⟨v,h.2⟩ (Up.at (m.mono λk _ hk=>(h.2 k).2 ⟨b,hb,hk⟩))
theorem Sort1_i{s:Sl}{x:Int}{w:aH}{Q:aH->Prop}(h:dQ w cY 1 eI s [x])(hQ:∀w',dQ w' cY 1 eI s [x]->aW (λk=>∃b,s.b=some b/\k=b.block) w w'->Q w'):pH s w Q:=by
 obtain⟨sb,sl,sc⟩:=s;rcases h.gN with⟨h1,h2⟩|⟨g,dE,hb,ho,hl⟩
 ·have e1:sl=1:=h.len;have e2:sl<=sc:=h.cap;have e3:sc=0:=h2;omega
 have bW:sb=some ⟨g,0,none⟩:=hb;subst bW;have fU:sl=1:=h.len;subst fU;have Qj:1<=sc:=h.cap;have Qg:sc<=maxLen:=h.max;have hcur:w.heap[g]? =some (.cells ([x].flatMap eI++dE).toArray cY (0,0)):=ho;have hl':([x].flatMap eI++dE).length=sc*1:=hl;have hH:Go.Sort.Holds (Value.int .i64) w g 0 [x].toArray:=holds_of_block_i hcur rfl;have cS:=AnyM.slices_Sort_int sortA g 0 sc [x] w hH ho.lt dL;refine Calls.mono cS ?_;rintro e w' ⟨rfl,n,os,rfl⟩;refine⟨_,rfl,?_⟩;show Q _;have e1:[x].mergeSort (λx y=>decide (x<=y))=[x]:=List.mergeSort_singleton x;rw[e1];have nO:=ownsRow_sorted_i (w:=w) (n:=n) (os:=os) (ss:=[x]) (ts:=[x]) rfl (iG g) hcur Qj Qg (by simpa using hl');have hg:=grownBy_sorted_i (w:=w) (g:=g) (n:=n) (os:=os) [x].toArray;obtain⟨s',e2,hv,_⟩:=Rq (nF:=0) (ks:=[x]) nO;have:s'=⟨some ⟨g,0,none⟩,1,sc⟩:=by
  obtain⟨b,l,c⟩:=s';injection e2 with h1 h2 h3;subst h1;subst h2;subst h3;rfl
 subst this;exact hQ _ hv ⟨hg.os,hg.tape,hg.output,hg.size,λk hk hn=>hg.block k hk λe=>hn ⟨_,rfl,by injection e⟩⟩
section
variable{w:aH}{S:BS}{a:Nat}{u:List Int}
theorem tG.cell(h:tG a u w S):∃sl,w.cell? ((⟨a,0,none⟩:Addr).add 0)=some (sv sl)/\Rd w sl 1 eI u/\sl.l=u.length:=by
 obtain⟨sl,S1,S2,h1,h2,_⟩:=h;exact⟨sl,aO h1 rfl,h2.1.rd fH,h2.1.len⟩
theorem smay_i{cH:Sl}{e:Int}{Q:Bool->aH->Prop}(h:tG a u w S)(hr:Rd w cH 1 eI [e])(he:0<=e/\e<u.length)(hQ:∀w',aM w w'->Q true w'):MZ (some ⟨a,0,none⟩) cH w Q:=by
 unfold MZ;refine cC (cs:=[.pointer (some ⟨a,0,none⟩)]) λw1 b1 k1 z1=>?_;refine aE (k:=.ptr) (some ⟨a,0,none⟩) (by rw[(b1.1).cell];rfl) (aF (λ_=>?_) (λh=>by simp at h));refine NR (p:=λx=>!decide (0<=x/\x<u.length)) (C:=λwx=>aM w1 wx) (hr.aK k1 cR λ_ _=>id) dL (aW.refl _ _) (λ_ _ a b=>a.tr b) (λx wx K hCx hx hK=>?_) λb w2 k2 hb=>?_
 ·refine pB Zn iA (gI (ks:=[.i,.c .ptr]) (t:=(x,some ⟨w.heap.size,0,none⟩,())) ?_)
  show ED _ _ _ _;unfold ED;have Bv:x=e:=by simpa using hx
  subst Bv;have hK':=hK wx (aW.refl _ _);have hp:(!decide (0<=x/\x<(u.length:Int)))=false:=by rw[decide_eq_true he];rfl
  rw[hp] at hK';obtain⟨sl,c,_,l⟩:=(bF.kp h (k1.tr hCx)).cell;refine aJ (λh=>aB) (λ_=>aA rfl (aE (k:=.ptr) (some ⟨a,0,none⟩) (by rw[(b1.1.aK hCx id).cell];rfl) (aA rfl (aE (k:=.slice) sl c ?_))));rw[l,decide_eq_false aB];exact hK'
 ·have:b=false:=by
   cases b with
   |false=>rfl
   |true=>
    obtain⟨x,hx,hp⟩:=hb.1 rfl;have Bv:x=e:=by simpa using hx
    subst Bv;rw[decide_eq_true he] at hp;cases hp
  rw[this];exact hQ w2 (k1.tr k2)
theorem sset_i{nG:Int}{cH:Sl}{e:Nat}{Q:Sl->aH->Prop}(h:tG a u w S)(hr:Rd w cH 1 eI [(e:Int)])(he:e<u.length)
  (hQ:∀r w' S',aZ (tG a (u.set e nG)) (iU cY 1 eI r (if decide (u[e]>0)==decide (nG>0) then [] else [(e:Int)])) w' S'->Up S S' w w'->Q r w'):MY (some ⟨a,0,none⟩) nG cH w Q:=by
 unfold MY;refine HE hr dL λs1 w1 v1 k1 f1=>?_;refine Sort1_i v1 λw2 v2 m2=>?_;have h1:=bF.kp h k1;have bd:=bF.gH h;have h2:tG a u w2 S:=bF.aK h1 m2 λk hk ⟨b,hb,e⟩=>by have:=bd k hk;have:=f1 b hb;omega
 have U2:Up S S w w2:=⟨k1.wk.trans m2 λk hk ⟨b,hb,e⟩=>by have:=f1 b hb;omega,λk hk=>.inl hk⟩;unfold mI;have l2:s1.l=1:=v2.len;refine aJ (λ_=>?_) (λh=>absurd (by rw[l2];decide) h);dsimp only;rw[l2];have Es:∀{wx:aH},iU cY 1 eI bD ([]:List Int) wx (λ_=>False):=λ{wx}=>⟨dQ.nil _ _ _ _,λk=>⟨False.elim,λ⟨b,hb,_⟩=>by cases hb⟩⟩;refine bO (λc t w4=>(c=1/\t=(bD,0,())/\w4=w2)\/(c=0/\t.2.1=1/\Q t.1 w4)) 1 (.inl ⟨rfl,rfl,rfl⟩) ?_;rintro c ⟨r,i,_⟩ w4 (⟨rfl,h,rfl⟩|⟨rfl,h,hq⟩) X hX
 ·cases h
  dsimp only;refine aJ (λ_=>?_) (λh=>absurd (by decide) h);obtain⟨b,hb,cb⟩:=cF (k:=.i) (e:=λx=>x) (v2.rd fH) (show [(e:Int)][0]? =some (e:Int) from rfl);obtain⟨sl,S1,S2,hB,hV,d,ee⟩:=h2;have hlu:=hV.1.len;have cV:=gS he;refine⟨⟨by decide,by decide⟩,aA hb (aE (k:=.i) (e:Int) cb (aA rfl (aE (k:=.slice) sl (aO hB rfl) ?_)))⟩;obtain⟨q,hq,cq⟩:=cF (k:=.i) (e:=λx=>x) (hV.1.rd fH) cV;rw[kE];refine⟨⟨aB,aB⟩,aA hq (aE (k:=.i) u[e] cq ?_)⟩;have done:∀(r:Sl) (L:List Int) w5 S3,aZ (tG a (u.set e nG)) (iU cY 1 eI r L) w5 S3->Up S S3 w4 w5->L=(if decide (u[e]>0)==decide (nG>0) then [] else [(e:Int)])->X (r,(aQ ((0:Int)+(1:Int))),()) w5:=λr L w5 S3 h5 u5 hL=>by
   subst hL;exact hX 0 _ _ aB (.inr ⟨rfl,by rw[gM aB aB];rfl,hQ r w5 S3 h5 (U2.tr u5)⟩)
  refine aF (λgF=>?_) (λheq=>?_)
  ·refine cC (cs:=[aD (e:Int)]) λw5 b5 k5 z5=>?_
   have hs5:aZ (aZ (sB a MR [sv sl]) (iU cY 1 eI sl u)) (iU cY 1 eI bD ([]:List Int)) w5 S:=aZ.oP (bF.kp (A:=aZ (sB a MR [sv sl]) (iU cY 1 eI sl u)) ⟨S1,S2,hB,hV,d,ee⟩ k5) Es;obtain⟨S6,h6,_,xU⟩:=(aZ.r hs5).put;refine DY (x:=⟨some ⟨w4.heap.size,0,none⟩,1,1⟩) iK fH EV h6 (iV fH [(e:Int)] b5 rfl dL) dL aB λr w6 S7 v7 u7=>?_;obtain⟨S8,h8,u8⟩:=xU _ w6 S7 u7 v7;obtain⟨S9,h9,_,Ar⟩:=((aZ.l h8).c λT hT=>aZ.r hT).put;obtain⟨FR,IQ,_,_⟩:=((aZ.l h8).c λT hT=>aZ.l hT).put;refine aA rfl (aE (k:=.slice) sl (aO IQ rfl) ⟨⟨aB,aB⟩,aA hq ?_⟩);refine TJ h9 hq he λw7 v9 u9=>?_;obtain⟨Mw,Kk,Ko⟩:=Ar _ w7 _ u9 v9;refine done r [(e:Int)] w7 Mw (Kk.mono (λ_ h=>⟨sl,h⟩) λ_ h=>h) (((Up.aN k5).tr u8).tr Ko) ?_;rw[if_neg (by simpa using gF)]
  ·obtain⟨S9,h9,_,Ar⟩:=(aZ.r (⟨S1,S2,hB,hV,d,ee⟩:aZ (sB a MR [sv sl]) (iU cY 1 eI sl u) w4 S)).put
   refine aA rfl (aE (k:=.slice) sl (aO hB rfl) ⟨⟨aB,aB⟩,aA hq ?_⟩);refine TJ h9 hq he λw7 v9 u9=>?_;obtain⟨Mw,Kk,Ko⟩:=Ar _ w7 _ u9 v9;refine done bD [] w7 Mw (aZ.oP ⟨sl,Kk⟩ Es) Ko ?_;rw[if_pos (by simpa using heq)]
 ·dsimp only at h ⊢
  subst h;exact aJ (λh=>absurd h (by decide)) (λ_=>hq)
def MN(u:List Int)(e:Nat)(t:Int):List Int:=if decide (u[e]?.getD 0>0)==decide (t>0) then [] else [(e:Int)]
theorem SClose_i{nG:Int}{cH:Sl}{e:Nat}{Q:Sl->Int->aH->Prop}(h:tG a u w S)(hr:Rd w cH 1 eI [(e:Int)])(he:e<u.length)(ht:1<=nG/\nG<=1099511627776)
  (hQ:∀r w' S',aZ (tG a (u.set e nG)) (iU cY 1 eI r (MN u e nG)) w' S'->Up S S' w w'->Q r 0 w'):JR (some ⟨a,0,none⟩) nG cH w Q:=by
 unfold JR;have e1:MN u e nG=if decide (u[e]>0)==decide (nG>0) then [] else [(e:Int)]:=by unfold MN;rw[gS he];rfl
 rw[e1] at hQ;refine aJ (λh=>aB) (λ_=>aJ (λh=>aB) (λ_=>?_));refine smay_i h hr ⟨aB,aB⟩ λw1 k1=>aF (λh=>by cases h) (λ_=>?_);exact sset_i (bF.kp h k1) (hr.aK k1 cR λ_ _=>id) he λr w2 S2 h2 u2=>hQ r w2 S2 h2 ((Up.aN k1).tr u2)
theorem SOpen_i{cH:Sl}{e:Nat}{Q:Sl->Int->aH->Prop}(h:tG a u w S)(hr:Rd w cH 1 eI [(e:Int)])(he:e<u.length)
  (hQ:∀r w' S',aZ (tG a (u.set e 0)) (iU cY 1 eI r (MN u e 0)) w' S'->Up S S' w w'->Q r 0 w'):OW (some ⟨a,0,none⟩) cH w Q:=by
 unfold OW;have e1:MN u e 0=if decide (u[e]>0)==decide ((0:Int)>0) then [] else [(e:Int)]:=by unfold MN;rw[gS he];rfl
 rw[e1] at hQ;refine smay_i h hr ⟨aB,aB⟩ λw1 k1=>aF (λh=>by cases h) (λ_=>?_);exact sset_i (bF.kp h k1) (hr.aK k1 cR λ_ _=>id) he λr w2 S2 h2 u2=>hQ r w2 S2 h2 ((Up.aN k1).tr u2)
abbrev eSh(p:Int×Int):List Value:=[aD p.1,aD p.2]
theorem lenSh:∀x:Int×Int,(eSh x).length=2:=λ_=>rfl
theorem oneSh:∀x:Int×Int,∀v∈eSh x,v.oneCell'=true:=by intro x v hu;simp at hu;rcases hu with rfl|rfl<;>rfl
theorem eSh_ne(x:Int×Int):eSh x≠[]:=by simp
def mF(i:Nat):List Int->List (Int×Int)
 | []=>[]
 |x::r=>if x>0 then((i:Int),x)::mF (i+1) r else mF (i+1) r
theorem aAv(l m:List Int):∀i,mF i (l++m)=mF i l++mF (i+l.length) m:=by
 induction l with
 |nil=>intro i;rfl
 |cons a l ih=>
  intro i;rw[List.cons_append,mF,mF,ih,nU,show i+1+l.length=i+(l.length+1) by omega]
  split<;>rfl
theorem ZM(l:List Int):∀i,(mF i l).length<=l.length:=by
 induction l with
 |nil=>intro i;exact iT _
 |cons a l ih=>intro i;have:=ih (i+1);rw[mF];split<;>simp<;>omega
theorem SAll_i{Q:Sl->aH->Prop}(h:tG a u w S)(hu:u.length<=512)(hQ:∀r w',dQ w' tShut 2 eSh r (mF 0 u)->aM w w'->(∀b,r.b=some b->w.heap.size<=b.block)->Q r w'):WM (some ⟨a,0,none⟩) w Q:=by
 unfold WM;obtain⟨sl,c,hr,hl⟩:=h.cell;refine aF (λh=>by simp at h) (λ_=>aA rfl (aE (k:=.slice) sl c ?_));refine bO (λn t w1=>∃(i:Nat) (r:Sl),i<=u.length/\n=u.length-i/\t=(r,(i:Int),())/\dQ w1 tShut 2 eSh r (mF 0 (u.take i))/\aM w w1/\∀b,r.b=some b->w.heap.size<=b.block) u.length
  ⟨0,bD,iG _,rfl,rfl,dQ.nil _ _ _ _,aW.refl _ _,λb hb=>by cases hb⟩ ?_
 rintro n t w1 ⟨i,r,hi,rfl,rfl,v1,k1,f1⟩ X hX;dsimp only;refine aJ (λcJ=>?_) (λkT=>?_)
 ·have dJ:i<u.length:=aB
  have cV:=gS dJ;have rV:=FQ dJ;generalize u[i]=x at*;obtain⟨q,hq,cq⟩:=cF (k:=.i) (e:=λx=>x) (hr.aK k1 cR λ_ _=>id) cV;have e1:mF 0 (u.take (i+1))=mF 0 (u.take i)++(if x>0 then [((i:Int),x)] else []):=by
   rw[rV,aAv,pW,Nat.min_eq_left hi,pN,mF,mF]
  rw[kE,qA i aB];refine⟨⟨aB,cJ⟩,aA hq (aE (k:=.i) x cq (aJ (λhx=>?_) (λhx=>?_)))⟩
  ·refine cC (cs:=eSh ((i:Int),x)) λw2 b2 k2 z2=>?_
   have hal:=ZM (u.take i) 0;rw[pW] at hal;refine fN ku lenSh oneSh (x:=⟨some ⟨w1.heap.size,0,none⟩,1,1⟩) (v1.aK k2 λ_ _=>id) (iV lenSh [((i:Int),x)] b2 rfl dL) (by simp;omega) (by simp;omega) λr' w3 v3 m3 hr3 _=>?_;rw[if_pos hx] at e1;rw[<-e1] at v3;refine hX _ _ _ aB ⟨i+1,r',dJ,rfl,rfl,v3,(k1.tr k2).fresh m3 λk ⟨b,hb,e⟩=>by rw[e];exact f1 b hb,λb hb=>?_⟩;rcases hr3 with h|⟨b',h,h2⟩
   ·exact f1 b (h.symm.trans hb)
   ·rw[hb] at h;cases h;have:=(k1.tr k2).size;omega
  ·rw[if_neg hx,tD] at e1
   exact hX _ _ _ aB ⟨i+1,r,dJ,rfl,rfl,by rw[e1];exact v1,k1,f1⟩
 ·have ei:i=u.length:=aB
  subst ei;rw[oZ] at v1;exact hQ r w1 v1 k1 f1
abbrev Vv(u:List Int):List Bool:=u.map λx=>decide (x>0)
theorem Se{Q:Sl->aH->Prop}(h:tG a u w S)(hu:u.length<=512)(hQ:∀r w',dQ w' xR 1 eB r (Vv u)->aM w w'->(∀b,r.b=some b->w.heap.size<=b.block)->Q r w'):AN (some ⟨a,0,none⟩) w Q:=by
 unfold AN;obtain⟨sl,c,hr,hl⟩:=h.cell;refine aF (λh=>by simp at h) (λ_=>aA rfl (aE (k:=.slice) sl c ?_));refine bO (λn t w1=>∃(i:Nat) (r:Sl),i<=u.length/\n=u.length-i/\t=(r,(i:Int),())/\dQ w1 xR 1 eB r (Vv (u.take i))/\aM w w1/\∀b,r.b=some b->w.heap.size<=b.block) u.length
  ⟨0,bD,iG _,rfl,rfl,dQ.nil _ _ _ _,aW.refl _ _,λb hb=>by cases hb⟩ ?_
 rintro n t w1 ⟨i,r,hi,rfl,rfl,v1,k1,f1⟩ X hX;dsimp only;refine aJ (λcJ=>?_) (λkT=>?_)
 ·have dJ:i<u.length:=aB
  have cV:=gS dJ;have rV:=FQ dJ;generalize u[i]=x at*;have h1:=bF.kp h k1;obtain⟨sl1,c1,hr1,Ke⟩:=h1.cell;obtain⟨q,hq,cq⟩:=cF (k:=.i) (e:=λx=>x) hr1 cV;have e1:Vv (u.take (i+1))=Vv (u.take i)++[decide (x>0)]:=by rw[rV];simp
  rw[qA i aB];unfold NP;refine aF (λ_=>aJ (λ_=>aA rfl (aE (k:=.slice) sl1 c1 (aJ (λ_=>aA rfl (aE (k:=.slice) sl1 c1 ?_)) (λh=>aB)))) (λh=>aB)) (λh=>by simp at h);rw[kE];refine⟨⟨aB,aB⟩,aA hq (aE (k:=.i) x cq ?_)⟩;refine cC (cs:=eB (decide (x>0))) λw2 b2 k2 z2=>?_;refine fN Ix Uw oneB (x:=⟨some ⟨w1.heap.size,0,none⟩,1,1⟩) (v1.aK k2 λ_ _=>id) (iV Uw [decide (x>0)] b2 rfl dL) (by simp;omega) (by simp;omega) λr' w3 v3 m3 hr3 _=>?_;rw[<-e1] at v3;refine hX _ _ _ aB ⟨i+1,r',dJ,rfl,rfl,v3,(k1.tr k2).fresh m3 λk ⟨b,hb,e⟩=>by rw[e];exact f1 b hb,λb hb=>?_⟩;rcases hr3 with h|⟨b',h,h2⟩
  ·exact f1 b (h.symm.trans hb)
  ·rw[hb] at h;cases h;have:=(k1.tr k2).size;omega
 ·have ei:i=u.length:=aB
  subst ei;rw[oZ] at v1;exact hQ r w1 v1 k1 f1
end
end
end Go.Proofs.YtihggjgakbgomaaGreat
namespace Go.Proofs.YtihggjgakbgomaaGreat
open Go Go.Den
section
theorem Sd{n:Nat}{w:aH}{Q:cL->aH->Prop}(hn:n<=512)(hQ:∀g w' S',tG g (List.replicate n 0) w' S'->aM w w'->(∀k,S' k->w.heap.size<=k)->Q (some ⟨g,0,none⟩) w'):uB (n:Int) w Q:=by
 unfold uB;refine aJ (λh=>aB) (λ_=>aJ (λh=>aB) (λ_=>?_));refine BU iK (aY:=eI) 0 rfl fH aB (oY _) aB aB λw2 v2 k2=>?_;simp only[kE] at v2 ⊢;have cJ:w.heap.size<w2.heap.size:=v2.lt rfl;refine cC (cs:=[sv ⟨some ⟨w.heap.size,0,none⟩,n,n⟩]) λw3 b3 k3 z3=>?_;refine hQ w2.heap.size w3 _ ⟨_,aZ.vR b3 ⟨v2.aK k3 λ_ _=>id,λ_=>Iff.rfl⟩ λk h1 ⟨b,hb,h2⟩=>by cases hb;rw[h2] at h1;have h1':w.heap.size=w2.heap.size:=h1;omega⟩ (k2.tr k3) λk hk=>hk.elim (λh=>aB) λ⟨b,hb,h⟩=>by cases hb;rw[h];exact iT _
def RW(dO:Int)(u:List Int)(l:List (Int×Int)):List Int:=l.foldl (λu p=>if p.2<=dO then u.set p.1.toNat 0 else u) u
theorem Xf(dO:Int):∀(l:List (Int×Int)) (u:List Int),(RW dO u l).length=u.length:=by
 intro l
 induction l with
 |nil=>intro u;rfl
 |cons p l ih=>
  intro u;show(RW dO _ l).length=_;rw[ih];dsimp only
  split<;>simp
def UT(dO:Int)(l:List (Int×Int)):List Int:=(l.filter λp=>decide (p.2<=dO)).map (·.1)
theorem aAu(u:List Int):∀(i:Nat) (p:Int×Int),p∈mF i u->∃j:Nat,p.1=((i+j:Nat):Int)/\u[j]? =some p.2/\p.2>0:=by
 induction u with
 |nil=>intro i p h;cases h
 |cons x r ih=>
  intro i p h;rw[mF] at h;have rec_:p∈mF (i+1) r->∃j:Nat,p.1=((i+j:Nat):Int)/\(x::r)[j]? =some p.2/\p.2>0:=λh=>by
   obtain⟨j,h1,h2,h3⟩:=ih (i+1) p h;exact⟨j+1,by rw[h1];congr 1;omega,by simpa using h2,h3⟩
  split at h
  ·rcases lL.1 h with rfl|h
   ·exact⟨0,rfl,rfl,by assumption⟩
   ·exact rec_ h
  ·exact rec_ h
section
variable{w:aH}{S:BS}{a:Nat}{u:List Int}
theorem Lapse_i{dO:Int}{Q:Sl->aH->Prop}(h:tG a u w S)(hu:u.length<=512)
  (hQ:∀r w' S',aZ (tG a (RW dO u (mF 0 u))) (iU cY 1 eI r (UT dO (mF 0 u))) w' S'->Up S S' w w'->Q r w'):JQ (some ⟨a,0,none⟩) dO w Q:=by
 unfold JQ;refine SAll_i h hu λs1 w1 v1 k1 f1=>?_;have Es:∀{wx:aH},iU cY 1 eI bD ([]:List Int) wx (λ_=>False):=λ{wx}=>⟨dQ.nil _ _ _ _,λk=>⟨False.elim,λ⟨b,hb,_⟩=>by cases hb⟩⟩;have fU:=ZM u 0;have fP:=aAu u 0;generalize mF 0 u=Kq at*;have o1:AY s1 S w1:=λb hb=>⟨λhk=>by have:=bF.gH h _ hk;have:=f1 b hb;omega,v1.lt hb⟩;have sl:=v1.len;refine bO (λn t w2=>∃(i:Nat) (r:Sl) (S2:BS),i<=Kq.length/\n=Kq.length-i/\t=(r,(i:Int),())/\aZ (tG a (RW dO u (Kq.take i))) (iU cY 1 eI r (UT dO (Kq.take i))) w2 S2/\Up S S2 w w2/\Rd w2 s1 2 eSh Kq/\AY s1 S2 w2) Kq.length
  ⟨0,bD,S,iG _,rfl,rfl,aZ.oP (bF.kp h k1) Es,Up.aN k1,v1.rd lenSh,o1⟩ ?_
 rintro n t w2 ⟨i,r,S2,hi,rfl,rfl,h2,u2,r2,o2⟩ X hX;dsimp only;refine aJ (λcJ=>?_) (λkT=>?_)
 ·have dJ:i<Kq.length:=aB
  have cV:=gS dJ;have rV:=FQ dJ;have hm:=fP _ (nE dJ);generalize Kq[i]=p at*;obtain⟨e,t⟩:=p;obtain⟨j,hj1,hj2,hj3⟩:=hm;rw[pN] at hj1;have hj1':e=(j:Int):=hj1;have hju:j<u.length:=(kU.1 hj2).1;subst hj1';obtain⟨q,hq,hh⟩:=r2.get i _ cV;rw[kE,qA i aB];refine⟨⟨aB,cJ⟩,aA hq (bJ (l:=[.i,.i]) ((j:Int),t,()) hh ?_)⟩;refine fE (zs:=[aD 0,aD 0]) (vs:=eSh ((j:Int),t)) zc rfl (oneSh _) λw4 o4 k4 z4=>?_;have c4:=Pz o4;have h4:=bF.kp h2 k4;have dR:∀r' w' S',aZ (tG a (RW dO u (Kq.take (i+1)))) (iU cY 1 eI r' (UT dO (Kq.take (i+1)))) w' S'->Up S2 S' w2 w'->X (r',((i+1:Nat):Int),()) w':=λr' w' S' h' u'=>
   hX _ _ _ aB ⟨i+1,r',S',dJ,rfl,rfl,h',u2.tr u',o2.rd u' r2 eSh_ne,o2.up u'⟩
  have eU:RW dO u (Kq.take (i+1))=if t<=dO then(RW dO u (Kq.take i)).set j 0 else RW dO u (Kq.take i):=by
   unfold RW;rw[rV,List.foldl_append];rfl
  have eL:UT dO (Kq.take (i+1))=UT dO (Kq.take i)++if t<=dO then [(j:Int)] else []:=by
   unfold UT;rw[rV,IT,yS];congr 1
   by_cases ht:t<=dO<;>simp[ht]
  refine aE (k:=.i) t c4.2 (aJ (λht=>?_) (λht=>?_))
  ·rw[if_pos ht] at eU eL
   have kd:=k4.tr (bN w4);have h4d:=bF.kp h2 kd;have c4d:=(bN w4).cell c4.1 id;obtain⟨SA,SV,⟨sl,SB,SU,hB,hU,dBU,eBU⟩,hV,dAV,eAV⟩:=h4d;have hlu:=hU.1.len;have hj:j<(RW dO u (Kq.take i)).length:=by rw[Xf];exact hju
   have h5:aZ (aZ (sB a MR [sv sl]) (iU cY 1 eI sl (RW dO u (Kq.take i)))) (iU cY 1 eI r (UT dO (Kq.take i))) w4.drew S2:=⟨SA,SV,⟨SB,SU,hB,hU,dBU,eBU⟩,hV,dAV,eAV⟩;refine aA rfl (aE (k:=.slice) sl (aO hB rfl) (aE (k:=.i) (j:Int) c4d ⟨⟨aB,aB⟩,?_⟩));rw[kE];obtain⟨S6,h6,_,xU⟩:=((aZ.l h5).c λT hT=>aZ.r hT).put;obtain⟨b,hb⟩:∃b,sl.b=some b:=by
    obtain⟨a',pI,_⟩:=(hU.1.rd fH).get j _ (gS hj);exact⟨a',pI⟩
   have bd:=bF.gH h2;refine aA hb (TJ h6 hb hj λw5 v5 u5=>?_);obtain⟨S7,h7,u7⟩:=xU _ w5 _ u5 v5;have c5:w5.cell? ((⟨w2.heap.size,0,none⟩:Addr).add 0)=some (aD (j:Int)):=u7.m.cell c4d λhk=>by
    have lD:S2 w2.heap.size:=hk;have:=bd _ lD;omega
   refine aE (k:=.i) (j:Int) c5 ?_;refine cC (cs:=[aD (j:Int)]) λw6 b6 k6 z6=>?_;obtain⟨S8,h8,_,MF⟩:=(aZ.r (bF.kp h7 k6)).put;have hLl:(UT dO (Kq.take i)).length<=512:=by
    unfold UT;rw[oL];have:=vW (λp:Int×Int=>decide (p.2<=dO)) (Kq.take i);rw[pW] at this;omega
   refine DY (x:=⟨some ⟨w5.heap.size,0,none⟩,1,1⟩) iK fH EV h8 (iV fH [(j:Int)] b6 rfl dL) (by simp;omega) aB λr' w7 S9 v9 u9=>?_;obtain⟨FR,IQ,Ef⟩:=MF _ w7 S9 u9 v9;refine dR r' w7 FR ?_ (((Up.aN kd).tr u7).tr ((Up.aN k6).tr Ef));rw[eU,eL];exact IQ.mono (λ_ h=>⟨sl,h⟩) λ_ h=>h
  ·rw[if_neg ht] at eU eL
   rw[tD] at eL;refine dR r w4 S2 ?_ (Up.aN k4);rw[eU,eL];exact h4
 ·have ei:i=Kq.length:=aB
  subst ei;rw[oZ] at h2;exact hQ r w2 S2 h2 u2
end
end
section
theorem vZ.filter{α:Type}{f:α->As}(p:α->Bool):∀{l:List α} {w:aH} {S:BS},vZ f l w S->aZ (vZ f (l.filter p)) (vZ f (l.filter λx=>!p x)) w S
 | [],w,S,h=>⟨S,S,h,h,λk hk=>absurd hk (h k),λk=>⟨.inl,λh=>h.elim id id⟩⟩
 |x::r,w,S,⟨S1,S2,h1,h2,d,e⟩=>by
  obtain⟨T1,T2,g1,g2,d',e'⟩:=vZ.filter (f:=f) p h2;cases hp:p x with
  |true=>
   rw[List.filter_cons_of_pos hp,List.filter_cons_of_neg (by simp[hp])];exact⟨λk=>S1 k\/T1 k,T2,⟨S1,T1,h1,g1,λk a b=>d k a ((e' k).2 (.inl b)),λ_=>Iff.rfl⟩,g2,λk a b=>a.elim (λa=>d k a ((e' k).2 (.inr b))) λa=>d' k a b,λk=>by rw[e k,e' k,or_assoc]⟩
  |false=>
   rw[List.filter_cons_of_neg (by simp[hp]),List.filter_cons_of_pos (by simp[hp])];refine⟨T1,λk=>S1 k\/T2 k,g1,⟨S1,T2,h1,g2,λk a b=>d k a ((e' k).2 (.inr b)),λ_=>Iff.rfl⟩,λk a b=>b.elim (λb=>d k b ((e' k).2 (.inl a))) λb=>d' k a b,λk=>?_⟩;rw[e k,e' k]
   constructor
   ·rintro(h|h|h)
    ·exact .inr (.inl h)
    ·exact .inl h
    ·exact .inr (.inr h)
   ·rintro(h|h|h)
    ·exact .inr (.inl h)
    ·exact .inl h
    ·exact .inr (.inr h)
theorem vZ.get{α:Type}{f:α->As}:∀{l:List α} {w:aH} {S:BS} {x:α},vZ f l w S->x∈l->∃S1,f x w S1/\∀k,S1 k->S k
 |y::r,w,S,x,⟨S1,S2,h1,h2,d,e⟩,hx=>by
  rcases lL.1 hx with rfl|hx
  ·exact⟨S1,h1,λk hk=>(e k).2 (.inl hk)⟩
  ·obtain⟨T,g,hT⟩:=vZ.get h2 hx
   exact⟨T,g,λk hk=>(e k).2 (.inr (hT k hk))⟩
def uI(ee s:Nat)(p:LJ):As:=Ex λsl=>aZ (sB s Vm (eSe ee p sl)) (AX 1 eI sl p.jI)
instance{ee s:Nat}{p:LJ}:bF (uI ee s p):=by unfold uI;infer_instance
structure Bs(W0:aH)(E:uL)(G:Gr)(S:BS)(w:aH):Prop where
 xm:zE W0 E G
 k0:aM W0 w
 lo:∀k,S k->W0.heap.size<=k
section
variable{W0 w w':aH}{E:uL}{G:Gr}{S S' S1:BS}
theorem Bs.up(h:Bs W0 E G S w)(u:Up S S' w w'):Bs W0 E G S' w':=⟨h.xm,h.k0.fresh u.m h.lo,λk hk=>(u.s k hk).elim (h.lo k) λhh=>iF h.k0.size hh⟩
theorem Bs.sub(h:Bs W0 E G S w)(hs:∀k,S' k->S k):Bs W0 E G S' w:=⟨h.xm,h.k0,λk hk=>h.lo k (hs k hk)⟩
theorem Bs.kp(h:Bs W0 E G S w)(k:aM w w'):Bs W0 E G S w':=⟨h.xm,h.k0.tr k,h.lo⟩
theorem Bs.e(h:Bs W0 E G S w):zE w E G:=h.xm.aN h.k0
theorem uI.at{s:Nat}{p:LJ}(hb:Bs W0 E G S w)(h:uI E.e s p w S):jD (λk=>k<w.heap.size/\(k=s\/¬S k)) W0 w s E G p:=by
 obtain⟨sl,S1,S2,h1,h2,d,e⟩:=h;have hs:S1 s:=(h1.2 s).2 rfl;refine⟨hb.xm,hb.k0,hb.lo s ((e s).2 (.inl hs)),⟨sl,h1.1,h2.1,λb LH=>⟨λhf=>?_,h2.2.2.1 b LH⟩⟩,⟨h1.1.lt,.inl rfl⟩⟩;have hS2:S2 b.block:=(h2.2.2.2 _).2 ⟨b,LH,rfl⟩;rcases hf.2 with hf|hf
 ·exact d _ (by rw[hf];exact hs) hS2
 ·exact hf ((e _).2 (.inr hS2))
theorem uI.of{s:Nat}{p:LJ}(hsw:s<w.heap.size)(hS:S s)(h:jD (λk=>k<w.heap.size/\(k=s\/¬S k)) W0 w' s E G p):∃S',uI E.e s p w' S'/\∀k,S' k->S k\/w.heap.size<=k:=by
 obtain⟨sl,h1,h2,h3⟩:=h.gN;have key:∀b,sl.b=some b->(w.heap.size<=b.block\/(S b.block/\b.block≠s)):=λb hb=>by
  have:=(h3 b hb).1
  by_cases cJ:b.block<w.heap.size
  ·refine .inr ⟨?_,λe=>this ⟨cJ,.inl e⟩⟩
   exact Classical.byContradiction λhn=>this ⟨cJ,.inr hn⟩
  ·exact .inl aB
 refine⟨λk=>k=s\/∃b,sl.b=some b/\k=b.block,⟨sl,aZ.vR ⟨h1,λ_=>Iff.rfl⟩ ⟨h2,cR,λb hb=>(h3 b hb).2,λ_=>Iff.rfl⟩ λk hk ⟨b,hb,e⟩=>?_⟩,λk hk=>?_⟩
 ·have lD:k=s:=hk
  rcases key b hb with h|h
  ·omega
  ·exact h.2 aB
 ·rcases hk with rfl|⟨b,hb,rfl⟩
  ·exact .inl hS
  ·exact(key b hb).elim .inr λh=>.inl h.1
theorem uI.Ud{ee s:Nat}{p:LJ}(h:uI ee s p w S):S s/\s<w.heap.size:=by
 obtain⟨sl,S1,S2,h1,h2,d,e⟩:=h;exact⟨(e s).2 (.inl ((h1.2 s).2 rfl)),h1.1.lt⟩
theorem SRep_i{s:Nat}{p:LJ}{pos:Int}{dD:Sl}{c:List Bool}{Q:Sl->aH->Prop}(hb:Bs W0 E G S w)(h:uI E.e s p w S)(bc:UF G p)(hc:Rd w dD 1 eB c)(Tz:∀b,dD.b=some b->¬S b.block)
  (hQ:∀z ms w' S',gf G c p pos z->uI E.e s z.1 w' S'->Up S S' w w'->UF G z.1->fL w' (λk=>w.heap.size<=k) ms z.2->z.2.length<=2->Q ms w'):yJ (some ⟨s,0,none⟩) pos dD w Q:=by
 obtain⟨hS,cJ⟩:=h.Ud;refine Report_i (h.at hb) bc hc (λb LH e=>Tz b LH (by rw[e];exact hS)) (λk hk=>hk.1) λz ms w' hz h' Pm hm hl m=>?_;obtain⟨S',h2,h3⟩:=uI.of cJ hS h';exact hQ z ms w' S' hz h2 ⟨m.mono λk _ e=>by rw[show k=s from e];exact hS,h3⟩ Pm hm hl
theorem SChg_i{s:Nat}{p:LJ}{CU open_ dD:Sl}{sh op:List Int}{c:List Bool}{Q:Sl->aH->Prop}(hb:Bs W0 E G S w)(h:uI E.e s p w S)(bc:UF G p)(hsh:Rd w CU 1 eI sh)(hshl:sh.length<1000000)(El:Rd w open_ 1 eI op)(hc:Rd w dD 1 eB c)
  (hQ:∀z ms w' S',gg G c p sh op z->uI E.e s z.1 w' S'->Up S S' w w'->UF G z.1->fL w' (λk=>w.heap.size<=k) ms z.2->z.2.length<=2->Q ms w'):vF (some ⟨s,0,none⟩) CU open_ dD w Q:=by
 obtain⟨hS,cJ⟩:=h.Ud;refine aAZ (h.at hb) bc hsh hshl El hc (λk hk=>hk.1) λz ms w' hz h' Pm hm hl m=>?_;obtain⟨S',h2,h3⟩:=uI.of cJ hS h';exact hQ z ms w' S' hz h2 ⟨m.mono λk _ e=>by rw[show k=s from e];exact hS,h3⟩ Pm hm hl
theorem SNewF_i{at_ node:Int}{dD:Sl}{c:List Bool}{Q:cL->Sl->Int->aH->Prop}(hb:Bs W0 E G S w)(hc:Rd w dD 1 eB c)
  (RZ:¬(G.qE at_/\G.XS node)->Q none bD 1 w)
  (hQ:G.qE at_->G.XS node->∀z ms s w' S',Ls G c (xu at_ node) z->uI E.e s z.1 w' S'->(∀k,S' k->w.heap.size<=k)->UF G z.1->fL w' (λk=>w.heap.size<=k) ms (DW::z.2)->z.2.length<=2/\1<=z.2.length->aM w w'->Q (some ⟨s,0,none⟩) ms 0 w'):
  sK (some ⟨E.e,0,none⟩) at_ node dD w Q:=by
 refine SNew_i hb.e hc RZ λhE hN z ms w' hz h ok hm hl k=>?_;obtain⟨sl,h1,h2,h3⟩:=h.gN;refine hQ hE hN z ms _ w' (λk=>k=w.heap.size\/∃b,sl.b=some b/\k=b.block) hz ⟨sl,aZ.vR ⟨h1,λ_=>Iff.rfl⟩ ⟨h2,cR,λb hb=>(h3 b hb).2,λ_=>Iff.rfl⟩ λk hk ⟨b,hb,e⟩=>?_⟩ (λk hk=>?_) ok (hm.wk λk hk _=>Nat.le_of_lt hk) hl k
 ·have:=(h3 b hb).1
  omega
 ·rcases hk with h|⟨b,hb,e⟩
  ·omega
  ·have:=(h3 b hb).1;omega
end
structure dG where
 a:Nat
 cp:Nat
 sp:Nat
 aL:Nat
 aP:Int
 kO:Int
abbrev Ve(e:dG):List Value:=[aD (e.aL:Int),aD e.aP,.pointer (some ⟨e.cp,0,none⟩),.pointer (some ⟨e.sp,0,none⟩),aD e.kO]
def JB(e:dG):As:=sB e.a YS (Ve e)
instance{e:dG}:bF (JB e):=by unfold JB;infer_instance
structure sR where
 eQ:Nat
 aT:List dG
 gr:Int->Option Kt.T
abbrev sR.grI(t:sR)(p:Int):Int:=(t.gr p).getD (0:Int)
structure sR.Ok(t:sR):Prop where
 eQ:1<=t.eQ/\t.eQ<=16
 len:t.aT.length<=t.eQ
 rP:t.aT.Pairwise λe f=>e.aL<f.aL
 aL:∀e∈t.aT,e.aL<16
def sE(l:List dG):Int->Option qJ.T:=λx=>(l.find? λe=>(e.aL:Int)==x).map λe=>some ⟨e.a,0,none⟩
def YO(a m1 m2 ng:Nat)(t:sR):As:=aZ (sB a gy [aD (t.eQ:Int),.map (some m1),.map (some m2)]) (aZ (uJ m1 CT qJ (sE t.aT) t.aT.length) (aZ (uJ m2 CT Kt t.gr ng) (vZ JB t.aT)))
instance{a m1 m2 ng:Nat}{t:sR}:bF (YO a m1 m2 ng t):=by unfold YO;infer_instance
def CY(a:Nat)(t:sR):As:=Ex λm1:Nat=>Ex λm2:Nat=>Ex λng:Nat=>YO a m1 m2 ng t
instance{a:Nat}{t:sR}:bF (CY a t):=by unfold CY;infer_instance
abbrev Lb(p:cL):List Value:=[.pointer p]
theorem GL:∀p:cL,(Lb p).length=1:=λ_=>rfl
theorem onePt:∀p:cL,∀u∈Lb p,u.oneCell'=true:=by intro p u hu;simp at hu;subst hu;rfl
theorem FF(p:cL):Lb p≠[]:=by simp
abbrev wZ(e:dG):cL:=some ⟨e.a,0,none⟩
section
variable{w:aH}{S:BS}{a m1 m2 ng:Nat}{t:sR}
theorem YO.cells(h:YO a m1 m2 ng t w S):w.cell? ((⟨a,0,none⟩:Addr).add 0)=some (aD (t.eQ:Int))/\w.cell? ((⟨a,0,none⟩:Addr).add 1)=some (.map (some m1))/\w.cell? ((⟨a,0,none⟩:Addr).add 2)=some (.map (some m2)):=by
 obtain⟨S1,S2,h1,_⟩:=h;exact⟨aO h1 rfl,aO h1 rfl,aO h1 rfl⟩
theorem YO.map1(h:YO a m1 m2 ng t w S):jP w m1 CT qJ (sE t.aT) t.aT.length:=by
 obtain⟨_,_,_,⟨_,_,h,_⟩,_⟩:=h;exact h.1
theorem YO.map2(h:YO a m1 m2 ng t w S):jP w m2 CT Kt t.gr ng:=by
 obtain⟨_,_,_,⟨_,_,_,⟨_,_,h,_⟩,_⟩,_⟩:=h;exact h.1
theorem YO.aT(h:YO a m1 m2 ng t w S):∃T,vZ JB t.aT w T/\∀k,T k->S k:=by
 obtain⟨_,_,_,⟨_,_,_,⟨_,_,_,h,_,e3⟩,_,e2⟩,_,e1⟩:=h;exact⟨_,h,λk hk=>(e1 k).2 (.inr ((e2 k).2 (.inr ((e3 k).2 (.inr hk)))))⟩
theorem CY.Df(h:CY a t w S){e:dG}(he:e∈t.aT):cW w e.a YS (Ve e)/\S e.a:=by
 obtain⟨m1,m2,ng,h⟩:=h;obtain⟨T,hT,hs⟩:=h.aT;obtain⟨S1,h1,tO⟩:=vZ.get hT he;exact⟨h1.1,hs _ (tO _ ((h1.2 _).2 rfl))⟩
theorem sR.Ok.inj{t:sR}(ok:t.Ok){e f:dG}(he:e∈t.aT)(hf:f∈t.aT)(hp:e.aL=f.aL):e=f:=by
 have:=ok.rP;generalize t.aT=l at*
 induction l with
 |nil=>cases he
 |cons x r ih=>
  rw[List.pairwise_cons] at this;rcases lL.1 he with e1|vV<;>rcases lL.1 hf with e2|XU
  ·rw[e1,e2]
  ·have:=this.1 f XU;rw[e1] at hp;omega
  ·have:=this.1 e vV;rw[e2] at hp;omega
  ·exact ih vV XU this.2
theorem OR{t:sR}(ok:t.Ok){e:dG}(he:e∈t.aT):sE t.aT (e.aL:Int)=some (wZ e):=by
 unfold sE;cases hf:t.aT.find? λx=>(x.aL:Int)==(e.aL:Int) with
 |none=>have:=List.find?_eq_none.1 hf e he;simp at this
 |some f=>
  have h1:=List.mem_of_find?_eq_some hf;have h2:=List.find?_some hf;have Uj:(f.aL:Int)=e.aL:=by simpa using h2
  have:f=e:=ok.inj h1 he aB;rw[this];rfl
theorem CG{l:List dG}{x:Int}{p:qJ.T}(h:sE l x=some p):∃e∈l,(e.aL:Int)=x/\p=wZ e:=by
 unfold sE at h;cases hf:l.find? λe=>(e.aL:Int)==x with
 |none=>rw[hf] at h;cases h
 |some e=>
  rw[hf] at h;exact⟨e,List.mem_of_find?_eq_some hf,by simpa using List.find?_some hf,by cases h;rfl⟩
theorem yw{l m:List Int}(hl:l.Pairwise (·<·))(hm:m.Pairwise (·<·))(h:∀x,x∈l↔x∈m):l=m:=by
 have nl:l.Nodup:=hl.imp λh e=>aB;have nm:m.Nodup:=hm.imp λh e=>aB;exact List.Perm.eq_of_pairwise (le:=λa b:Int=>a<b) (λa b _ _ h1 h2=>aB) hl hm ((List.perm_ext_iff_of_nodup nl nm).2 h)
theorem Gj{Q:Sl->aH->Prop}(h:CY a t w S)(ok:t.Ok)(hQ:∀r w',dQ w' Rl 1 Lb r (t.aT.map wZ)->aM w w'->(∀b,r.b=some b->w.heap.size<=b.block)->Q r w'):yC (some ⟨a,0,none⟩) w Q:=by
 unfold yC;obtain⟨m1,m2,ng,h⟩:=h;refine aF (λh=>by simp at h) (λ_=>aA rfl (aE (k:=.map) (some m1) h.cells.2.1 ?_));have hm:=ok.eQ;have hln:=ok.len;refine aAx h.map1 (λx hx=>?_) aB λs1 ks w2 v2 k2 f2 FP DI Ul=>?_
 ·obtain⟨p,hp⟩:=Ew.1 hx
  obtain⟨e,he,xe,_⟩:=CG hp;have:=ok.aL e he;exact⟨aB,aB⟩
 have eks:ks=t.aT.map λe=>(e.aL:Int):=by
  refine yw FP ?_ λx=>?_
  ·rw[List.pairwise_map];exact ok.rP.imp λh=>aB
  ·rw[DI]
   constructor
   ·intro hx
    obtain⟨p,hp⟩:=Ew.1 hx;obtain⟨e,he,xe,_⟩:=CG hp;exact lK.2 ⟨e,he,xe⟩
   ·intro hx
    obtain⟨e,he,rfl⟩:=lK.1 hx;rw[OR ok he];rfl
 subst eks;have sl:=v2.len;rw[oL] at sl;have o1:=v2.rd fH;refine bO (λn tt w3=>∃(i:Nat) (r:Sl),i<=t.aT.length/\n=t.aT.length-i/\tt=(r,(i:Int),())/\dQ w3 Rl 1 Lb r ((t.aT.take i).map wZ)/\aM w2 w3/\∀b,r.b=some b->w2.heap.size<=b.block) t.aT.length
  ⟨0,bD,iG _,rfl,rfl,dQ.nil _ _ _ _,aW.refl _ _,λb hb=>by cases hb⟩ ?_
 rintro n tt w3 ⟨i,r,hi,rfl,rfl,v3,k3,f3⟩ X hX;dsimp only;refine aJ (λcJ=>?_) (λkT=>?_)
 ·have dJ:i<t.aT.length:=aB
  have cV:=gS dJ;have fP:=nE dJ;have rV:=FQ dJ;generalize t.aT[i]=e at*;obtain⟨q,hq,cq⟩:=cF (k:=.i) (e:=λx=>x) (o1.aK k3 cR λ_ _=>id) (show(t.aT.map λe=>(e.aL:Int))[i]? =some (e.aL:Int) by rw[mG,cV];rfl);have h3:=bF.kp h (k2.tr k3);rw[kE,qA i aB];refine⟨⟨aB,cJ⟩,aA hq (aE (k:=.i) (e.aL:Int) cq (aA rfl (aE (k:=.map) (some m1) h3.cells.2.1 ?_)))⟩;refine wM (kn:=qJ) OC kP (z:=(none:cL)) DZ h3.map1 (e.aL:Int) ?_;have hg:(sE t.aT (e.aL:Int)).getD (none:cL)=wZ e:=by rw[OR ok fP];rfl
  rw[hg];refine cC (cs:=Lb (wZ e)) λw4 b4 k4 z4=>?_;refine fN XI GL onePt (x:=⟨some ⟨w3.heap.size,0,none⟩,1,1⟩) (v3.aK k4 λ_ _=>id) (iV GL [wZ e] b4 rfl dL) (by simp;omega) (by simp;omega) λr' w5 v5 m5 hr5 _=>?_;refine hX _ _ _ aB ⟨i+1,r',dJ,rfl,rfl,by rw[rV,yS];exact v5,(k3.tr k4).fresh m5 λk ⟨b,hb,e⟩=>by rw[e];exact f3 b hb,λb hb=>?_⟩;rcases hr5 with h|⟨b',h,h2⟩
  ·exact f3 b (h.symm.trans hb)
  ·rw[hb] at h;cases h;have:=(k3.tr k4).size;omega
 ·have ei:i=t.aT.length:=aB
  subst ei;rw[oZ] at v3;exact hQ r w3 v3 (k2.tr k3) λb hb=>by have:=f3 b hb;have:=k2.size;omega
theorem TGet_i{aL:Nat}{aP:Int}{Q:cL->aH->Prop}(h:CY a t w S)(ok:t.Ok)(hQ1:∀e∈t.aT,e.aL=aL->e.aP=aP->Q (wZ e) w)(hQ0:(∀e∈t.aT,¬(e.aL=aL/\e.aP=aP))->Q none w):
  WW (some ⟨a,0,none⟩) (aL:Int) aP w Q:=by
 unfold WW;have h0:=h;obtain⟨m1,m2,ng,h⟩:=h;refine aF (λh=>by simp at h) (λ_=>aA rfl (aE (k:=.map) (some m1) h.cells.2.1 ?_));refine wM (kn:=qJ) OC kP (z:=(none:cL)) DZ h.map1 (aL:Int) ?_;cases hf:sE t.aT (aL:Int) with
 |none=>
  refine aF (λh=>(by have h':(false:Bool)=true:=h;cases h')) (λ_=>hQ0 λe he hh=>?_);have:=OR ok he;rw[hh.1,hf] at this;cases this
 |some p=>
  obtain⟨e,he,xe,rfl⟩:=CG hf;refine aF (λ_=>?_) (λh=>(by have h':(true:Bool)=false:=h;cases h'));refine aA rfl (aE (k:=.i) e.aP (cM (h0.Df he).1 rfl) (aF (λhc=>hQ1 e he aB (by simpa using hc)) (λhc=>hQ0 λf hfm hh=>?_)));have:f=e:=ok.inj hfm he aB;rw[this] at hh;rw[hh.2] at hc;simp at hc
def sR.vS(t:sR)(aL:Nat)(aP:Int):Int:=
 if aP<=t.grI (aL:Int) then 6 else if t.eQ<=t.aT.length/\∀e∈t.aT,e.aL≠aL then 5 else 0
theorem TMay_i{aL:Nat}{aP:Int}{Q:Int->aH->Prop}(h:CY a t w S)(ok:t.Ok)(hp:aL<16)(hc:1<=aP/\aP<=2147483648)(hQ:∀w',aM w w'->Q (t.vS aL aP) w'):NC (some ⟨a,0,none⟩) (aL:Int) aP w Q:=by
 unfold NC;obtain⟨m1,m2,ng,h⟩:=h;intro J1 KJ;refine aF (λh=>by simp at h) (λ_=>aJ (λh=>aB) (λ_=>aJ (λh=>aB) (λ_=>aJ (λh=>aB) (λ_=>?_))));rw[decide_eq_false aB];apply KJ;refine aF (λh=>by cases h) (λ_=>aA rfl (aE (k:=.map) (some m2) h.cells.2.2 ?_));refine wM (kn:=Kt) oU kP (z:=(0:Int)) MP h.map2 (aL:Int) ?_;unfold sR.vS at hQ;obtain⟨gv,bu⟩:∃gv:Int,(t.gr (aL:Int)).getD (0:Int)=gv:=⟨_,rfl⟩;have hgv':t.grI (aL:Int)=gv:=bu;rw[hgv'] at hQ;rw[bu];refine aJ (λIN=>?_) (λIN=>?_)
 ·have:=hQ w (aW.refl _ _)
  rwa[if_pos IN] at this
 have hd:=bF.dr h;have kd:=bN w;refine aA rfl (aE (k:=.map) (some m1) hd.cells.2.1 (aA rfl (aE (k:=.i) (t.eQ:Int) hd.cells.1 (Xb OC hd.map1 ⟨hd.cells.1,?_⟩))));have nt:=hQ w.drew kd;rw[if_neg IN] at nt;refine aJ (λkT=>aA rfl (aE (k:=.map) (some m1) hd.cells.2.1 ?_)) (λkT=>?_)
 ·refine wM (kn:=qJ) OC kP (z:=(none:cL)) DZ hd.map1 (aL:Int) ?_
  cases hf:sE t.aT (aL:Int) with
  |none=>
   refine aF (λ_=>?_) (λh=>(by have h':(true:Bool)=false:=h;cases h'));rw[if_pos ⟨aB,λe he Uj=>by have:=OR ok he;rw[Uj,hf] at this;cases this⟩] at nt;exact nt
  |some p=>
   obtain⟨e,he,xe,rfl⟩:=CG hf;refine aF (λh=>(by have h':(false:Bool)=true:=h;cases h')) (λ_=>?_);rw[if_neg λhh=>hh.2 e he aB] at nt;exact nt
 ·rw[if_neg λhh=>aB] at nt
  exact nt
end
end
section
def TabX(a m1 m2 ng n:Nat)(f:Int->Option qJ.T)(t:sR):As:=aZ (sB a gy [aD (t.eQ:Int),.map (some m1),.map (some m2)]) (aZ (uJ m1 CT qJ f n) (aZ (uJ m2 CT Kt t.gr ng) (vZ JB t.aT)))
instance{a m1 m2 ng n:Nat}{f:Int->Option qJ.T}{t:sR}:bF (TabX a m1 m2 ng n f t):=by unfold TabX;infer_instance
abbrev DU(l:List dG):Prop:=l.Pairwise λe f=>e.aL<f.aL
theorem ru{l:List dG}(h:DU l){e f:dG}(he:e∈l)(hf:f∈l)(hp:e.aL=f.aL):e=f:=by
 induction l with
 |nil=>cases he
 |cons x r ih=>
  rw[DU,List.pairwise_cons] at h;rcases lL.1 he with e1|vV<;>rcases lL.1 hf with e2|XU
  ·rw[e1,e2]
  ·have:=h.1 f XU;rw[e1] at hp;omega
  ·have:=h.1 e vV;rw[e2] at hp;omega
  ·exact ih h.2 vV XU
theorem WL{l:List dG}(h:DU l){x:Int}{p:qJ.T}:sE l x=some p↔∃e∈l,(e.aL:Int)=x/\p=wZ e:=by
 refine⟨CG,λ⟨e,he,hx,hp⟩=>?_⟩;cases hf:sE l x with
 |none=>
  have:=List.find?_eq_none.1 (Option.map_eq_none_iff.1 hf) e he;simp[hx] at this
 |some q=>
  obtain⟨f,hfm,hfx,rfl⟩:=CG hf;rw[hp,ru h hfm he aB]
theorem He{l:List dG}(hl:DU l){f:Int->Option qJ.T}(h:∀x p,f x=some p↔∃e∈l,(e.aL:Int)=x/\p=wZ e)(x:Int):sE l x=f x:=by
 apply Option.ext;intro p;rw[WL hl,h]
theorem Bi{l:List dG}{x:Int}:(sE l x).isSome=true↔∃e∈l,(e.aL:Int)=x:=by
 constructor
 ·intro h
  obtain⟨p,hp⟩:=Ew.1 h;obtain⟨e,he,hx,_⟩:=CG hp;exact⟨e,he,hx⟩
 ·rintro⟨e,he,hx⟩
  cases hf:sE l x with
  |some p=>rfl
  |none=>
   have:=List.find?_eq_none.1 (Option.map_eq_none_iff.1 hf) e he;simp[hx] at this
theorem Of{w:aH}{r n:Nat}{l:List dG}(hl:DU l)(h:jP w r CT qJ (sE l) n):n=l.length:=by
 obtain⟨ks,h1,h2,h3⟩:=h.Lj;have e1:(l.map λe=>(e.aL:Int)).Nodup:=by
  have:(l.map λe=>(e.aL:Int)).Pairwise (·<·):=by rw[List.pairwise_map];exact hl.imp λh=>aB
  exact this.imp λh e=>aB
 have:=((List.perm_ext_iff_of_nodup h1 e1).2 λx=>by rw[h3,Bi,lK]).length_eq;rw[oL] at this;omega
def Lk(e:dG)(l:List dG):List dG:=(l.filter λf=>decide (f.aL<e.aL))++e::(l.filter λf=>!decide (f.aL<e.aL)).filter λf=>decide (e.aL<f.aL)
def oldE(p:Nat)(l:List dG):List dG:=(l.filter λf=>!decide (f.aL<p)).filter λf=>!decide (p<f.aL)
theorem oF{e f:dG}{l:List dG}:f∈Lk e l↔f=e\/(f∈l/\f.aL≠e.aL):=by
 unfold Lk;simp only[jK,jE,lL,decide_eq_true_eq,Bool.not_eq_true',decide_eq_false_iff_not]
 constructor
 ·rintro(⟨h1,h2⟩|h|⟨⟨h1,h2⟩,h3⟩)
  ·exact .inr ⟨h1,aB⟩
  ·exact .inl h
  ·exact .inr ⟨h1,aB⟩
 ·rintro(h|⟨h1,h2⟩)
  ·exact .inr (.inl h)
  ·by_cases h:f.aL<e.aL
   ·exact .inl ⟨h1,h⟩
   ·exact .inr (.inr ⟨⟨h1,h⟩,aB⟩)
theorem Gm{e:dG}{l:List dG}(h:DU l):DU (Lk e l):=by
 unfold Lk DU;rw[List.pairwise_append,List.pairwise_cons];refine⟨h.filter _,⟨λf hf=>by simp at hf;omega,(h.filter _).filter _⟩,λa ha b hb=>?_⟩;simp at ha hb;rcases hb with rfl|⟨_,hb⟩
 ·exact ha.2
 ·omega
theorem oldE_mem{p:Nat}{f:dG}{l:List dG}:f∈oldE p l↔f∈l/\f.aL=p:=by
 unfold oldE;simp only[jE,Bool.not_eq_true',decide_eq_false_iff_not]
 constructor
 ·rintro⟨⟨h1,h2⟩,h3⟩;exact⟨h1,aB⟩
 ·rintro⟨h1,h2⟩;exact⟨⟨h1,aB⟩,aB⟩
def Vb(p:Nat)(l:List dG):Bool:=l.any λe=>decide (e.aL=p)
theorem aAf{p:Nat}{l:List dG}{e:dG}:Vb p (l++[e])=(Vb p l ||decide (e.aL=p)):=by unfold Vb;rw[List.any_append];simp
theorem hasP_iff{p:Nat}{l:List dG}:Vb p l=true↔∃e∈l,e.aL=p:=by unfold Vb;simp
def sR.add(t:sR)(e:dG):sR:=⟨t.eQ,Lk e t.aT,λy=>if y=(e.aL:Int) then some e.aP else t.gr y⟩
def sR.drop(t:sR)(p:Nat):sR:=⟨t.eQ,t.aT.filter λf=>!decide (f.aL=p),t.gr⟩
theorem VW{α:Type}{f:α->As}:∀{l m:List α} {w:aH} {S:BS},aZ (vZ f l) (vZ f m) w S->vZ f (l++m) w S
 | [],m,w,S,⟨S1,S2,h1,h2,d,e⟩=>As.ext h2 λk=>by
   rw[e k];exact⟨.inr,λh=>h.elim (λh=>absurd h (h1 k)) id⟩
 |x::l,m,w,S,h=>by
  have h':aZ (f x) (aZ (vZ f l) (vZ f m)) w S:=aZ.asr h;exact h'.mono (λ_ h=>h) λ_ h=>VW h
section
variable{w:aH}{S:BS}{a:Nat}{t:sR}
theorem TNew_i'{eQ:Nat}{Q:cL->Int->aH->Prop}(hm:1<=eQ/\eQ<=16)(hQ:∀g w' S',CY g ⟨eQ,[],λ_=>none⟩ w' S'->aM w w'->(∀k,S' k->w.heap.size<=k)->Q (some ⟨g,0,none⟩) 0 w'):EJ (eQ:Int) w Q:=by
 unfold EJ;refine aJ (λh=>aB) (λ_=>aJ (λh=>aB) (λ_=>?_));refine qO (ek:=CT) (kn:=qJ) λhm1 k1=>qO (ek:=CT) (kn:=Kt) λwj k2=>?_;have z1:(w.alloc (.map #[] 0)).heap.size=w.heap.size+1:=by simp[World.alloc_eq]
 generalize w.alloc (.map #[] 0)=w1 at*;have z2:(w1.alloc (.map #[] 0)).heap.size=w1.heap.size+1:=by simp[World.alloc_eq]
 generalize w1.alloc (.map #[] 0)=w2 at*;refine cC (cs:=[aD (eQ:Int),.map (some w.heap.size),.map (some w1.heap.size)]) λw3 b3 k3 z3=>?_;have a1:uJ w.heap.size CT qJ (sE []) 0 w3 (λk=>k=w.heap.size):=⟨(hm1.aK k2 id).aK k3 id,λ_=>Iff.rfl⟩;have a2:uJ w1.heap.size CT Kt (λ_=>none) 0 w3 (λk=>k=w1.heap.size):=⟨wj.aK k3 id,λ_=>Iff.rfl⟩;refine hQ _ w3 _ ⟨w.heap.size,w1.heap.size,0,aZ.vR b3 (aZ.vR a1 (aZ.emp a2) λk h1 h2=>?_) λk h1 h2=>?_⟩ ((k1.tr k2).tr k3) λk hk=>?_
 ·have h1':k=w.heap.size:=h1
  omega
 ·have h1':k=w2.heap.size:=h1
  rcases h2 with h2|h2
  ·have h2':k=w.heap.size:=h2;omega
  ·have h2':k=w1.heap.size:=h2;omega
 ·rcases hk with h|h|h
  ·have h':k=w2.heap.size:=h;omega
  ·have h':k=w.heap.size:=h;omega
  ·have h':k=w1.heap.size:=h;omega
theorem sR.may0{t:sR}{aL:Nat}{aP:Int}(h:t.vS aL aP=0):t.grI (aL:Int)<aP/\¬(t.eQ<=t.aT.length/\∀e∈t.aT,e.aL≠aL):=by
 unfold sR.vS at h
 split at h
 ·omega
 ·split at h
  ·omega
  ·exact⟨aB,by assumption⟩
theorem sR.Ok.add{t:sR}(ok:t.Ok){e:dG}(hp:e.aL<16)(fU:(Lk e t.aT).length<=t.eQ):(t.add e).Ok:=
 ⟨ok.eQ,fU,Gm ok.rP,λf hf=>(oF.1 hf).elim (λh=>by rw[h];exact hp) λh=>ok.aL f h.1⟩
theorem sR.Ok.drop{t:sR}(ok:t.Ok)(p:Nat):(t.drop p).Ok:=
 ⟨ok.eQ,iF (vW _ _) ok.len,ok.rP.filter _,λf hf=>ok.aL f (jE.1 hf).1⟩
theorem TAdd_i{e:dG}{Q:Int->aH->Prop}(h:aZ (CY a t) (JB e) w S)(ok:t.Ok)(hp:e.aL<16)(hc:1<=e.aP/\e.aP<=2147483648)(hm:t.vS e.aL e.aP=0)
  (hQ:∀w' S',aZ (CY a (t.add e)) (vZ JB (oldE e.aL t.aT)) w' S'->Up S S' w w'->(t.add e).Ok->Q 0 w'):ND (some ⟨a,0,none⟩) (wZ e) w Q:=by
 unfold ND;have hd:=bF.dr h;have cE:∀{wx:aH} {Sx:BS},aZ (CY a t) (JB e) wx Sx->wx.cell? ((⟨e.a,0,none⟩:Addr).add 0)=some (aD (e.aL:Int))/\wx.cell? ((⟨e.a,0,none⟩:Addr).add 1)=some (aD e.aP):=λhx=>by
  obtain⟨S1,S2,_,h2,_⟩:=hx;exact⟨aO h2 rfl,aO h2 rfl⟩
 refine aF (λh=>by simp at h) (λ_=>aF (λh=>by simp at h) (λ_=>aA rfl (aE (k:=.i) (e.aL:Int) (cE hd).1 (aA rfl (aE (k:=.i) e.aP (cE hd).2 ?_)))));obtain⟨Sx,hx,_,_⟩:=(aZ.l hd).put;refine TMay_i hx ok hp hc λw1 k1=>?_;rw[hm];refine aF (λh=>by cases h) (λ_=>?_);have K:=((bN w).tr k1).tr (bN w1);have h1:=bF.kp h K;obtain⟨SA,SE,⟨m1,m2,ng,hA⟩,hE,dAE,eAE⟩:=h1;have cA:=hA.cells;have c1:w1.drew.cell? ((⟨e.a,0,none⟩:Addr).add 0)=some (aD (e.aL:Int)):=aO hE rfl;have c2:w1.drew.cell? ((⟨e.a,0,none⟩:Addr).add 1)=some (aD e.aP):=aO hE rfl;refine aA rfl (aE (k:=.map) (some m1) cA.2.1 (aA rfl (aE (k:=.i) (e.aL:Int) c1 (aA rfl (aE (k:=.map) (some m2) cA.2.2 (aA rfl (aE (k:=.i) (e.aL:Int) c1 (aA rfl (aE (k:=.i) e.aP c2 ?_)))))))));have h2:aZ (YO a m1 m2 ng t) (JB e) w1.drew S:=⟨SA,SE,hA,hE,dAE,eAE⟩;obtain⟨S3,h3,_,VH⟩:=((aZ.l h2).c λT hT=>(aZ.r hT).c λT hT=>aZ.l hT).put;refine Rx (kn:=qJ) OC kP (z:=(none:cL)) DZ h3.1 (e.aL:Int) (wZ e) λw3 hm3 mm3 _=>?_;obtain⟨S4,h4,u4⟩:=VH (uJ m1 CT qJ (λy=>if y=(e.aL:Int) then some (wZ e) else sE t.aT y) (if(sE t.aT (e.aL:Int)).isSome then t.aT.length else t.aT.length+1)) w3 S3 (Up.at (mm3.mono λk _ hk=>(h3.2 k).2 hk)) ⟨hm3,h3.2⟩
 obtain⟨S5,h5,_,back5⟩:=((aZ.l h4).c λT hT=>(aZ.r hT).c λT hT=>(aZ.r hT).c λT hT=>aZ.l hT).put;refine Rx (kn:=Kt) oU kP (z:=(0:Int)) MP h5.1 (e.aL:Int) e.aP λw5 Kd mm5 _=>?_;obtain⟨S6,h6,u6⟩:=back5 (uJ m2 CT Kt (λy=>if y=(e.aL:Int) then some e.aP else t.gr y) (if(t.gr (e.aL:Int)).isSome then ng else ng+1)) w5 S5 (Up.at (mm5.mono λk _ hk=>(h5.2 k).2 hk)) ⟨Kd,h5.2⟩
 have rP:=ok.rP;have hf:∀x,sE (Lk e t.aT) x=(λy=>if y=(e.aL:Int) then some (wZ e) else sE t.aT y) x:=λx=>by
  refine He (f:=λy=>if y=(e.aL:Int) then some (wZ e) else sE t.aT y) (Gm rP) (λx p=>?_) x
  by_cases hx:x=(e.aL:Int)
  ·rw[if_pos hx]
   constructor
   ·intro h;cases h;exact⟨e,oF.2 (.inl rfl),hx.symm,rfl⟩
   ·rintro⟨f,hf,hfx,rfl⟩
    rcases oF.1 hf with rfl|⟨_,gF⟩
    ·rfl
    ·exact absurd aB gF
  ·rw[if_neg hx,WL rP]
   constructor
   ·rintro⟨f,hf,hfx,rfl⟩
    exact⟨f,oF.2 (.inr ⟨hf,λh=>hx (by rw[<-hfx,h])⟩),hfx,rfl⟩
   ·rintro⟨f,hf,hfx,rfl⟩
    rcases oF.1 hf with rfl|⟨hf,_⟩
    ·exact absurd hfx.symm hx
    ·exact⟨f,hf,hfx,rfl⟩
 obtain⟨SY,SZ,⟨SB,SR,hB,⟨SM,SQ,hM,⟨SG,SL,hG,hL,dGL,eGL⟩,dM,eM⟩,dB,eB⟩,hE6,dYZ,eYZ⟩:=h6;have hM':=hM.1.congr hf rfl;have hn:=Of (Gm rP) hM';have fU:(Lk e t.aT).length<=t.eQ:=by
  have hm0:=(sR.may0 hm).2;rw[<-hn]
  split
  ·exact ok.len
  ·rename_i hns
   apply Nat.succ_le_of_lt;apply Nat.lt_of_not_le;intro IN;exact hm0 ⟨IN,λf hf Uj=>hns (Bi.2 ⟨f,hf,aB⟩)⟩
 have Pm:(t.add e).Ok:=ok.add hp fU;obtain⟨L1,L2,f1,f2,d12,e12⟩:=vZ.filter (λf=>decide (f.aL<e.aL)) hL;obtain⟨L3,L4,f3,f4,d34,Un⟩:=vZ.filter (λf=>decide (e.aL<f.aL)) f2;have nK:∀k,L1 k\/L3 k\/L4 k->SL k:=λk hk=>(e12 k).2 (hk.imp id λh=>(Un k).2 h);have hEL:∀k,SZ k->SL k->False:=λk hz hl=>dYZ k ((eB k).2 (.inr ((eM k).2 (.inr ((eGL k).2 (.inr hl)))))) hz;have hIns:vZ JB (Lk e t.aT) w5 (λk=>L1 k\/(SZ k\/L3 k)):=VW (aZ.vR f1 (show vZ JB (e::_) w5 _ from aZ.vR hE6 f3 λk h1 h2=>hEL k h1 (nK k (.inr (.inl h2)))) λk h1 h2=>h2.elim (λh=>hEL k h (nK k (.inl h1))) λh=>d12 k h1 ((Un k).2 (.inl h)));have inS6:∀k,SB k\/SM k\/SG k\/SL k\/SZ k->S6 k:=λk hk=>(eYZ k).2 (by
  rcases hk with h|h|h|h|h
  ·exact .inl ((eB k).2 (.inl h))
  ·exact .inl ((eB k).2 (.inr ((eM k).2 (.inl h))))
  ·exact .inl ((eB k).2 (.inr ((eM k).2 (.inr ((eGL k).2 (.inl h))))))
  ·exact .inl ((eB k).2 (.inr ((eM k).2 (.inr ((eGL k).2 (.inr h))))))
  ·exact .inr h)
 have xz:∀k,SB k\/SM k\/SG k->(SL k\/SZ k)->False:=λk hk hl=>by
  rcases hl with hl|hl
  ·rcases hk with h|h|h
   ·exact dB k h ((eM k).2 (.inr ((eGL k).2 (.inr hl))))
   ·exact dM k h ((eGL k).2 (.inr hl))
   ·exact dGL k h hl
  ·refine dYZ k ((eB k).2 ?_) hl
   rcases hk with h|h|h
   ·exact .inl h
   ·exact .inr ((eM k).2 (.inl h))
   ·exact .inr ((eM k).2 (.inr ((eGL k).2 (.inl h))))
 have lz:∀k,L1 k\/(SZ k\/L3 k)->SL k\/SZ k:=λk hk=>by
  rcases hk with h|h|h
  ·exact .inl (nK k (.inl h))
  ·exact .inr h
  ·exact .inl (nK k (.inr (.inl h)))
 have hT:CY a (t.add e) w5 (λk=>SB k\/(SM k\/(SG k\/(L1 k\/(SZ k\/L3 k))))):=
  ⟨m1,m2,_,aZ.vR hB (aZ.vR ⟨by rw[hn] at hM';exact hM',hM.2⟩ (aZ.vR hG hIns λk h1 h2=>xz k (.inr (.inr h1)) (lz k h2)) λk h1 h2=>h2.elim (λh=>dM k h1 ((eGL k).2 (.inl h))) λh=>xz k (.inr (.inl h1)) (lz k h)) λk h1 h2=>by
   rcases h2 with h|h|h
   ·exact dB k h1 ((eM k).2 (.inl h))
   ·exact dB k h1 ((eM k).2 (.inr ((eGL k).2 (.inl h))))
   ·exact xz k (.inl h1) (lz k h)⟩
 refine hQ w5 _ (aZ.vR hT f4 λk h1 h2=>?_) ⟨(((Up.aN K).tr u4).tr u6).m,λk hk=>(((Up.aN K).tr u4).tr u6).s k (inS6 k ?_)⟩ Pm
 ·have h4L:=nK k (.inr (.inr h2))
  rcases h1 with h|h|h|h|h|h
  ·exact xz k (.inl h) (.inl h4L)
  ·exact xz k (.inr (.inl h)) (.inl h4L)
  ·exact xz k (.inr (.inr h)) (.inl h4L)
  ·exact d12 k h ((Un k).2 (.inr h2))
  ·exact hEL k h h4L
  ·exact d34 k h h2
 ·rcases hk with(h|h|h|h|h|h)|h
  ·exact .inl h
  ·exact .inr (.inl h)
  ·exact .inr (.inr (.inl h))
  ·exact .inr (.inr (.inr (.inl (nK k (.inl h)))))
  ·exact .inr (.inr (.inr (.inr h)))
  ·exact .inr (.inr (.inr (.inl (nK k (.inr (.inl h))))))
  ·exact .inr (.inr (.inr (.inl (nK k (.inr (.inr h))))))
theorem TDrop_i{p:Nat}{QJ:Sl}{Q:Sl->aH->Prop}(h:CY a t w S)(ok:t.Ok)(hr:Rd w QJ 1 eI [(p:Int)])(ho:AY QJ S w)
  (hQ:∀r w' S',aZ (CY a (t.drop p)) (vZ JB (t.aT.filter λf=>decide (f.aL=p))) w' S'->Up S S' w w'->Q r w'):pO (some ⟨a,0,none⟩) QJ w Q:=by
 unfold pO;refine Gj h ok λs1 w1 v1 k1 f1=>?_;have bd:=bF.gH h;obtain⟨m1,m2,ng,h0⟩:=bF.kp h k1;have sl:=v1.len;have ol:=ok.len;have om:=ok.eQ;rw[oL] at sl;have o1:AY s1 S w1:=λb hb=>⟨λhk=>by have:=bd _ hk;have:=f1 b hb;omega,v1.lt hb⟩;refine bO (λn tt w3=>∃(i:Nat) (r:Sl) (f:Int->Option qJ.T) (nf:Nat),i<=t.aT.length/\n=t.aT.length-i/\tt=(r,(i:Int),())/\TabX a m1 m2 ng nf f t w3 S/\aW S w w3/\(∀y,f y=if y=(p:Int)/\Vb p (t.aT.take i)=true then none else sE t.aT y)/\(∃xs,dQ w3 Rl 1 Lb r xs/\xs.length<=i)/\(∀b,r.b=some b->w1.heap.size<=b.block)/\Rd w3 s1 1 Lb (t.aT.map wZ)/\w1.heap.size<=w3.heap.size/\Rd w3 QJ 1 eI [(p:Int)]) t.aT.length
  ⟨0,bD,sE t.aT,t.aT.length,iG _,rfl,rfl,h0,k1.wk,λy=>(by rw[if_neg];rintro⟨_,he⟩;cases he),⟨[],dQ.nil _ _ _ _,iT _⟩,λb hb=>(by cases hb),v1.rd GL,iT _,hr.aK k1 cR λ_ _=>id⟩ ?_
 rintro n tt w3 ⟨i,r,f,nf,hi,rfl,rfl,h3,m3,hf,⟨xs,v3,Ae⟩,f3,r3,z3,p3⟩ X hX;dsimp only;refine aJ (λcJ=>?_) (λkT=>?_)
 ·have dJ:i<t.aT.length:=aB
  have cV:=gS dJ;have fP:=nE dJ;have rV:=FQ dJ;generalize t.aT[i]=e at*;obtain⟨q,hq,cq⟩:=cF (k:=.ptr) (e:=λx=>x) r3 (show(t.aT.map wZ)[i]? =some (wZ e) by rw[mG,cV];rfl);rw[kE,qA i aB];refine⟨⟨aB,cJ⟩,aA hq (aE (k:=.ptr) (wZ e) cq (aA rfl ?_))⟩;have cP:∀{wx},TabX a m1 m2 ng nf f t wx S->wx.cell? ((⟨e.a,0,none⟩:Addr).add 0)=some (aD (e.aL:Int))/\wx.cell? ((⟨a,0,none⟩:Addr).add 1)=some (.map (some m1)):=λhx=>by
   obtain⟨S1,_,hb,⟨_,_,_,⟨_,_,_,hL,_⟩,_⟩,_⟩:=hx;obtain⟨S2,he2,_⟩:=vZ.get hL fP;exact⟨aO he2 rfl,aO hb rfl⟩
  refine aE (k:=.i) (e.aL:Int) (cP h3).1 ?_;unfold gL;refine Xv p3 dL λj w4 k4 hj=>?_;have Vz:∀y,(if y=(p:Int)/\Vb p (t.aT.take (i+1))=true then none else sE t.aT y)=if e.aL=p/\y=(p:Int) then none else f y:=λy=>by
   rw[hf y,rV,aAf]
   by_cases hy:y=(p:Int)
   ·by_cases xe:e.aL=p
    ·rw[if_pos ⟨hy,by simp[xe]⟩,if_pos ⟨xe,hy⟩]
    ·rw[if_neg (c:=e.aL=p/\_) (λh=>xe h.1),decide_eq_false xe,Bool.or_false]
   ·rw[if_neg (λh=>hy h.1),if_neg (λh=>hy h.2),if_neg (λh=>hy h.1)]
  have bd4:∀k,S k->k<w1.heap.size:=λk hk=>mD (bd k hk) k1.size;refine aJ (λwu=>?_) (λwu=>?_)
  ·have xe:e.aL=p:=by have:=hj.1 wu;simp at this;omega
   have h4:=bF.kp h3 (k4.tr (bN w4));have c4:=cP h4;refine aA rfl (aE (k:=.map) (some m1) c4.2 (aA rfl (aE (k:=.i) (e.aL:Int) c4.1 ?_)));obtain⟨SB,SR,hB,⟨SM,SQ,hM,hGL,dM,eM⟩,dB,eB⟩:=h4;refine Xd OC kP hM (e.aL:Int) λw5 hM5 u5=>?_;have h5:TabX a m1 m2 ng (if(f (e.aL:Int)).isSome then nf-1 else nf) (λy=>if y=(e.aL:Int) then none else f y) t w5 S:=⟨SB,SR,bF.aK hB u5.m λk h1 h2=>dB k h1 ((eM k).2 (.inl h2)),⟨SM,SQ,hM5,bF.aK hGL u5.m λk h1 h2=>dM k h2 h1,dM,eM⟩,dB,eB⟩
   have mS:aW S w4.drew w5:=u5.m.mono λk _ hk=>(eB k).2 (.inr ((eM k).2 (.inl hk)));have K4:=k4.tr (bN w4);have r4:=(r3.aK K4 FF λ_ _=>id).aK mS FF λb hb=>(o1 b hb).1;have p4:=(p3.aK K4 cR λ_ _=>id).aK mS cR λb hb=>(ho b hb).1;have v4:=(v3.aK K4 λ_ _=>id).aK mS λb hb hs=>by have:=bd4 _ hs;have:=f3 b hb;omega
   have zz:w3.heap.size<=w5.heap.size:=iF K4.size mS.size;refine cC (cs:=Lb (wZ e)) λw6 b6 k6 z6=>?_;refine fN XI GL onePt (x:=⟨some ⟨w5.heap.size,0,none⟩,1,1⟩) (v4.aK k6 λ_ _=>id) (iV GL [wZ e] b6 rfl dL) (by simp;omega) (by simp;omega) λr' w7 v7 m7 hr7 _=>?_;have n7:∀k,(∃b,r.b=some b/\k=b.block)->w1.heap.size<=k:=λk ⟨b,hb,e⟩=>by rw[e];exact f3 b hb
   refine hX _ _ _ aB ⟨i+1,r',_,_,dJ,rfl,rfl,bF.aK (bF.kp h5 k6) m7 λk hk hn=>by have:=bd4 k hk;have:=n7 k hn;omega,(((m3.trans K4.wk λ_ _ h=>h).trans mS λ_ _ h=>h).trans k6.wk λ_ _ h=>h).trans m7 λk hk hn=>by have:=n7 k hn;have:=k1.size;omega,λy=>?_,⟨_,v7,by simp;omega⟩,λb hb=>?_,((r4.aK k6 FF λ_ _=>id).aK m7 FF λb hb hn=>?_),?_,((p4.aK k6 cR λ_ _=>id).aK m7 cR λb hb hn=>?_)⟩
   ·rw[Vz y,xe];simp
   ·rcases hr7 with h|⟨b',h,h2⟩
    ·exact f3 b (h.symm.trans hb)
    ·rw[hb] at h;cases h;have:=k6.size;omega
   ·have:=n7 _ hn;have:=(o1 b hb).2;omega
   ·have:=k6.size;have:=m7.size;omega
   ·have:=n7 _ hn;have:=(ho b hb).2;have:=k1.size;omega
  ·have xe:¬e.aL=p:=λh=>wu (hj.2 (by simp;omega))
   refine hX _ _ _ aB ⟨i+1,r,f,nf,dJ,rfl,rfl,bF.kp h3 k4,m3.trans k4.wk λ_ _ h=>h,λy=>by rw[Vz y,if_neg λh=>xe h.1],⟨xs,v3.aK k4 λ_ _=>id,aB⟩,f3,r3.aK k4 FF λ_ _=>id,iF z3 k4.size,p3.aK k4 cR λ_ _=>id⟩
 ·have ei:i=t.aT.length:=aB
  subst ei;have rP:DU t.aT:=ok.rP;have XU:∀x,sE (t.drop p).aT x=f x:=λx=>by
   refine He (f:=f) (rP.filter _) (λx q=>?_) x;rw[hf x,oZ]
   by_cases hx:x=(p:Int)/\Vb p t.aT=true
   ·rw[if_pos hx]
    refine⟨λh=>(by cases h),?_⟩;rintro⟨e,he,hex,_⟩;have:=(jE.1 he).2;simp at this;exact absurd aB this
   ·rw[if_neg hx,WL rP]
    constructor
    ·rintro⟨e,he,hex,rfl⟩
     exact⟨e,jE.2 ⟨he,by simp;intro hp;exact hx ⟨aB,hasP_iff.2 ⟨e,he,hp⟩⟩⟩,hex,rfl⟩
    ·rintro⟨e,he,hex,rfl⟩
     exact⟨e,(jE.1 he).1,hex,rfl⟩
  obtain⟨SB,SR,hB,⟨SM,SQ,hM,⟨SG,SL,hG,hL,dGL,eGL⟩,dM,eM⟩,dB,eB⟩:=h3;have hM':=hM.1.congr XU rfl;have hn:=Of (rP.filter _) hM';obtain⟨L1,L2,f1',f2,d12,e12⟩:=vZ.filter (λf:dG=>decide (f.aL=p)) hL;refine hQ r w3 S ?_ (Up.at m3);have h1:aZ (sB a gy [aD (t.eQ:Int),.map (some m1),.map (some m2)]) (aZ (uJ m1 CT qJ (sE (t.drop p).aT) (t.drop p).aT.length) (aZ (uJ m2 CT Kt t.gr ng) (aZ (vZ JB (t.drop p).aT) (vZ JB (t.aT.filter λf=>decide (f.aL=p)))))) w3 S:=
   ⟨SB,SR,hB,⟨SM,SQ,⟨by rw[hn] at hM';exact hM',hM.2⟩,⟨SG,SL,hG,⟨L2,L1,f2,f1',λk a b=>d12 k b a,λk=>(e12 k).trans Or.comm⟩,dGL,eGL⟩,dM,eM⟩,dB,eB⟩
  have h2:aZ (YO a m1 m2 ng (t.drop p)) (vZ JB (t.aT.filter λf=>decide (f.aL=p))) w3 S:=
   (aZ.mono h1 (λ_ h=>h) λ_ h=>(aZ.mono h (λ_ h=>h) λ_ h=>aZ.asl h).asl).asl
  exact h2.mono (λ_ h=>⟨m1,m2,ng,h⟩) λ_ h=>h
end
end
open Tryz (prog)
section
set_option linter.unusedSectionVars false
inductive F2{α β:Type}(R:α->β->Prop):List α->List β->Prop
 |nil:F2 R [] []
 |cons {a b l m}:R a b->F2 R l m->F2 R (a::l) (b::m)
section
variable{α β:Type}{R:α->β->Prop}
theorem F2.len{l:List α}{m:List β}(h:F2 R l m):l.length=m.length:=by
 induction h with
 |nil=>rfl
 |cons _ _ ih=>simp[ih]
theorem F2.app{l l':List α}{m m':List β}(h:F2 R l m)(h':F2 R l' m'):F2 R (l++l') (m++m'):=by
 induction h with
 |nil=>exact h'
 |cons a _ ih=>exact .cons a ih
theorem F2.one{a:α}{b:β}(h:R a b):F2 R [a] [b]:=.cons h .nil
theorem F2.mem{l:List α}{m:List β}(h:F2 R l m){b:β}(hb:b∈m):∃a∈l,R a b:=by
 induction h with
 |nil=>cases hb
 |cons r _ ih=>
  rcases lL.1 hb with rfl|hb
  ·exact⟨_,by simp,r⟩
  ·obtain⟨a,ha,h⟩:=ih hb
   exact⟨a,by simp[ha],h⟩
end
class VK {β:Type} (eb:β->List Value):Prop where
 ne:∀x,eb x≠[]
instance:VK eU:=⟨fI⟩
instance:VK eI:=⟨cR⟩
structure eJ{α β:Type}(eb:β->List Value)(ty:TypeId)(n:Nat)(aY:α×Sl->List Value)(xO:α->List β)(lo:Nat)(S:BS)(w:aH)(r:Sl)(ps:List α):Prop where
 ex:∃xs:List (α×Sl),xs.map (·.1)=ps/\dQ w ty n aY r xs/\(∀b,r.b=some b->lo<=b.block/\¬S b.block)/\∀x∈xs,Rd w x.2 1 eb (xO x.1)/\∀b,x.2.b=some b->lo<=b.block/\¬S b.block/\b.block<w.heap.size/\∀b',r.b=some b'->b.block≠b'.block
def vX{α β:Type}(eb:β->List Value)(n:Nat)(aY:α×Sl->List Value)(xO:α->List β)(P:BS)(w:aH)(r:Sl)(ps:List α):Prop:=
 ∃xs:List (α×Sl),xs.map (·.1)=ps/\Rd w r n aY xs/\(∀b,r.b=some b->P b.block/\b.block<w.heap.size)/\∀x∈xs,Rd w x.2 1 eb (xO x.1)/\∀b,x.2.b=some b->P b.block/\b.block<w.heap.size
section
variable{α β:Type}{eb:β->List Value}[VK eb]{ty sty:TypeId}{n:Nat}{aY:α×Sl->List Value}{xO:α->List β}{lo:Nat}{S S' P:BS}{w w':aH}{r:Sl}{ps:List α}
theorem eJ.nil:eJ eb ty n aY xO lo S w bD []:=⟨⟨[],rfl,dQ.nil _ _ _ _,λb hb=>(by cases hb),λx hx=>(by cases hx)⟩⟩
theorem eJ.aK{F:BS}(h:eJ eb ty n aY xO lo S w r ps)(m:aW F w w')(hF:∀k,lo<=k->¬S k->k<w.heap.size->¬F k)(hS:∀k,¬S k->k<w.heap.size->¬S' k):eJ eb ty n aY xO lo S' w' r ps:=by
 obtain⟨xs,h1,h2,h3,h4⟩:=h.ex;refine⟨xs,h1,h2.aK m λb hb=>hF _ (h3 b hb).1 (h3 b hb).2 (h2.lt hb),λb hb=>⟨(h3 b hb).1,hS _ (h3 b hb).2 (h2.lt hb)⟩,λx hx=>?_⟩;obtain⟨g1,g2⟩:=h4 x hx;exact⟨g1.aK m VK.ne λb hb=>hF _ (g2 b hb).1 (g2 b hb).2.1 (g2 b hb).2.2.1,λb hb=>⟨(g2 b hb).1,hS _ (g2 b hb).2.1 (g2 b hb).2.2.1,mD (g2 b hb).2.2.1 m.size,(g2 b hb).2.2.2⟩⟩
theorem eJ.up(h:eJ eb ty n aY xO lo S w r ps)(u:Up S S' w w'):eJ eb ty n aY xO lo S' w' r ps:=
 h.aK u.m (λ_ _ h _=>h) λk h1 h2 h3=>(u.s k h3).elim h1 λh=>aB
theorem eJ.kp(h:eJ eb ty n aY xO lo S w r ps)(k:aM w w'):eJ eb ty n aY xO lo S w' r ps:=h.up (Up.aN k)
theorem eJ.sub(h:eJ eb ty n aY xO lo S w r ps)(hS:∀k,S' k->S k):eJ eb ty n aY xO lo S' w r ps:=h.aK (aW.refl (λ_=>False) w) (λ_ _ _ _=>id) λk h1 _ h2=>h1 (hS k h2)
theorem eJ.cov(h:eJ eb ty n aY xO lo S w r ps)(hS:∀k,S' k->S k\/k<lo):eJ eb ty n aY xO lo S' w r ps:=by
 obtain⟨xs,h1,h2,h3,h4⟩:=h.ex;have key:∀k,lo<=k->¬S k->¬S' k:=λk h1 h2 h3=>(hS k h3).elim h2 λh=>aB;exact⟨xs,h1,h2,λb hb=>⟨(h3 b hb).1,key _ (h3 b hb).1 (h3 b hb).2⟩,λx hx=>⟨(h4 x hx).1,λb hb=>⟨((h4 x hx).2 b hb).1,key _ ((h4 x hx).2 b hb).1 ((h4 x hx).2 b hb).2.1,((h4 x hx).2 b hb).2.2⟩⟩⟩
theorem eJ.qF{lo':Nat}(h:eJ eb ty n aY xO lo S w r ps)(hl:lo'<=lo):eJ eb ty n aY xO lo' S w r ps:=by
 obtain⟨xs,h1,h2,h3,h4⟩:=h.ex;exact⟨xs,h1,h2,λb hb=>⟨iF hl (h3 b hb).1,(h3 b hb).2⟩,λx hx=>⟨(h4 x hx).1,λb hb=>⟨iF hl ((h4 x hx).2 b hb).1,((h4 x hx).2 b hb).2⟩⟩⟩
theorem eJ.len(h:eJ eb ty n aY xO lo S w r ps):r.l=ps.length:=by
 obtain⟨xs,rfl,h2,_⟩:=h.ex;rw[h2.len,oL]
theorem eJ.rd(fZ:∀x,(aY x).length=n)(h:eJ eb ty n aY xO lo S w r ps):vX eb n aY xO (λk=>lo<=k/\¬S k) w r ps:=by
 obtain⟨xs,h1,h2,h3,h4⟩:=h.ex;exact⟨xs,h1,h2.rd fZ,λb hb=>⟨h3 b hb,h2.lt hb⟩,λx hx=>⟨(h4 x hx).1,λb hb=>⟨⟨((h4 x hx).2 b hb).1,((h4 x hx).2 b hb).2.1⟩,((h4 x hx).2 b hb).2.2.1⟩⟩⟩
theorem vX.aK{F:BS}(gF:∀x,aY x≠[])(h:vX eb n aY xO P w r ps)(m:aW F w w')(hF:∀k,P k->k<w.heap.size->¬F k):vX eb n aY xO P w' r ps:=by
 obtain⟨xs,h1,h2,h3,h4⟩:=h;exact⟨xs,h1,h2.aK m gF λb hb=>hF _ (h3 b hb).1 (h3 b hb).2,λb hb=>⟨(h3 b hb).1,mD (h3 b hb).2 m.size⟩,λx hx=>⟨(h4 x hx).1.aK m VK.ne λb hb=>hF _ ((h4 x hx).2 b hb).1 ((h4 x hx).2 b hb).2,λb hb=>⟨((h4 x hx).2 b hb).1,mD ((h4 x hx).2 b hb).2 m.size⟩⟩⟩
theorem vX.wk{P':BS}(h:vX eb n aY xO P w r ps)(hP:∀k,P k->k<w.heap.size->P' k):vX eb n aY xO P' w r ps:=by
 obtain⟨xs,h1,h2,h3,h4⟩:=h;exact⟨xs,h1,h2,λb hb=>⟨hP _ (h3 b hb).1 (h3 b hb).2,(h3 b hb).2⟩,λx hx=>⟨(h4 x hx).1,λb hb=>⟨hP _ ((h4 x hx).2 b hb).1 ((h4 x hx).2 b hb).2,((h4 x hx).2 b hb).2⟩⟩⟩
theorem vX.up(gF:∀x,aY x≠[])(h:vX eb n aY xO (λk=>¬S k) w r ps)(u:Up S S' w w'):vX eb n aY xO (λk=>¬S' k) w' r ps:=by
 have h':vX eb n aY xO (λk=>¬S k/\k<w.heap.size) w r ps:=h.wk λk h1 h2=>⟨h1,h2⟩;exact(h'.aK gF u.m λk h _=>h.1).wk λk h _ hs=>(u.s k hs).elim h.1 λhh=>aB
theorem vX.kp(gF:∀x,aY x≠[])(h:vX eb n aY xO P w r ps)(k:aM w w'):vX eb n aY xO P w' r ps:=h.aK gF k λ_ _ _=>id
theorem vX.len(h:vX eb n aY xO P w r ps):r.l=ps.length:=by
 obtain⟨xs,rfl,h2,_⟩:=h;rw[h2.len,oL]
theorem vX.get(h:vX eb n aY xO P w r ps){i:Nat}{x:α}(hx:ps[i]? =some x):∃a sl,r.b=some a/\bY w (a.add (i*n)) 0 (aY (x,sl))/\Rd w sl 1 eb (xO x)/\∀b,sl.b=some b->P b.block/\b.block<w.heap.size:=by
 obtain⟨xs,rfl,h2,h3,h4⟩:=h;rw[mG] at hx;cases hy:xs[i]? with
 |none=>rw[hy] at hx;cases hx
 |some y=>
  rw[hy] at hx;obtain⟨x',sl⟩:=y;cases hx;obtain⟨a,ha,hh⟩:=h2.get i _ hy;have:=h4 _ (zH hy);exact⟨a,sl,ha,hh,this.1,this.2⟩
theorem eJ.pj{bytes:Nat}{z:List Value}(hE:rE prog sty ty n bytes z)(fZ:∀x,(aY x).length=n)(jW:∀x,∀u∈aY x,u.oneCell'=true)(hb:bytes<=1000)(h:eJ eb ty n aY xO lo S w r ps)(hl:ps.length+1<=1000000)(YD:lo<=w.heap.size)(hS:∀k,S k->k<w.heap.size)(x:α){sl:Sl}(hr:Rd w sl 1 eb (xO x))
  (ho:∀b,sl.b=some b->lo<=b.block/\¬S b.block/\b.block<w.heap.size/\∀b',r.b=some b'->b.block≠b'.block) {K:Sl->aH->Prop}
  (hK:∀r' w',eJ eb ty n aY xO lo S w' r' (ps++[x])->aW (λk=>∃a,r.b=some a/\k=a.block) w w'->(∀b,r'.b=some b->(∃a,r.b=some a/\b.block=a.block)\/w.heap.size<=b.block)->K r' w'):aG w (aY (x,sl)).toArray ty λa w1=>aX prog sty sty r (.slice (some a) 1 1) w1 K:=by
 obtain⟨xs,rfl,h2,h3,h4⟩:=h.ex;rw[oL] at hl;refine cC λw1 b1 k1 z1=>?_;have hm:(xs.length+1)*bytes<=1000000*1000:=EX hl hb;refine fN hE fZ jW (x:=⟨some ⟨w.heap.size,0,none⟩,1,1⟩) (h2.aK k1 λ_ _=>id) (iV fZ [(x,sl)] b1 dL dL) (by simp;omega) (by simp;omega) λr' w2 v2 m2 Po _=>?_;have hF:∀k,(∃a,r.b=some a/\k=a.block)->lo<=k/\¬S k:=λk ⟨a,ha,e⟩=>by rw[e];exact h3 a ha
 have hM:aW (λk=>lo<=k/\¬S k) w w2:=k1.wk.trans (m2.mono λk _ hk=>hF k hk) λ_ _ h=>h;have bp:∀b,r'.b=some b->(∃a,r.b=some a/\b.block=a.block)\/w1.heap.size<=b.block:=λb hb=>by
  rcases Po with h|⟨a,h,h2⟩
  ·exact .inl ⟨b,h.symm.trans hb,rfl⟩
  ·rw[hb] at h;cases h;exact .inr h2
 have keyB:∀(y:α×Sl),Rd w y.2 1 eb (xO y.1)->(∀b,y.2.b=some b->lo<=b.block/\¬S b.block/\b.block<w.heap.size/\∀b',r.b=some b'->b.block≠b'.block)->Rd w2 y.2 1 eb (xO y.1)/\∀b,y.2.b=some b->lo<=b.block/\¬S b.block/\b.block<w2.heap.size/\∀b',r'.b=some b'->b.block≠b'.block:=λy g1 g2=>by
  refine⟨(g1.aK k1 VK.ne λ_ _=>id).aK m2 VK.ne λb hb ⟨a,ha,e⟩=>(g2 b hb).2.2.2 a ha e,λb hb=>⟨(g2 b hb).1,(g2 b hb).2.1,mD (g2 b hb).2.2.1 hM.size,λb' bW e=>?_⟩⟩;rcases bp b' bW with⟨a,ha,e2⟩|h
  ·exact(g2 b hb).2.2.2 a ha (e.trans e2)
  ·have:=(g2 b hb).2.2.1;omega
 refine hK r' w2 ⟨xs++[(x,sl)],by simp,v2,λb hb=>?_,λy hy=>?_⟩ (k1.wk.trans m2 λ_ _ h=>h) (λb hb=>(bp b hb).imp id λh=>by have:=k1.size;omega)
 ·rcases bp b hb with⟨a,ha,e⟩|h
  ·rw[e];exact h3 a ha
  ·exact⟨aB,λhs=>by have:=hS _ hs;omega⟩
 ·rcases jK.1 hy with hy|hy
  ·exact keyB y (h4 y hy).1 (h4 y hy).2
  ·rw[uG.1 hy];exact keyB (x,sl) hr ho
theorem eJ.gW{bytes:Nat}{z:List Value}(hE:rE prog sty ty n bytes z)(fZ:∀x,(aY x).length=n)(jW:∀x,∀u∈aY x,u.oneCell'=true)(hb:bytes<=1000)(h:eJ eb ty n aY xO lo S w r ps)(hl:ps.length+1<=1000000)(YD:lo<=w.heap.size)(hS:∀k,S k->k<w.heap.size)(x:α){sl:Sl}(hr:Rd w sl 1 eb (xO x))
  (ho:∀b,sl.b=some b->lo<=b.block/\¬S b.block/\b.block<w.heap.size/\∀b',r.b=some b'->b.block≠b'.block) {K:Sl->aH->Prop}
  (hK:∀r' w',eJ eb ty n aY xO lo S w' r' (ps++[x])->aW (λk=>lo<=k/\¬S k) w w'->K r' w'):aG w (aY (x,sl)).toArray ty λa w1=>aX prog sty sty r (.slice (some a) 1 1) w1 K:=
 eJ.pj hE fZ jW hb h hl YD hS x hr ho λr' w' v m _=>hK r' w' v (m.mono λk _ ⟨a,ha,e⟩=>by
  obtain⟨xs,_,_,h3,_⟩:=h.ex;rw[e];exact h3 a ha)
theorem eJ.fy{bytes:Nat}{z:List Value}{r0:Sl}{Mp:List α}{lo1:Nat}(hE:rE prog sty ty n bytes z)(fZ:∀x,(aY x).length=n)(jW:∀x,∀u∈aY x,u.oneCell'=true)(hb:bytes<=1000)(h0:eJ eb ty n aY xO lo S w r0 Mp)(h:eJ eb ty n aY xO lo1 S w r ps)(YD:lo<=lo1)(hr0:∀b,r0.b=some b->b.block<lo1)(hl:Mp.length+ps.length<=1000000)(hlw:lo<=w.heap.size)(hS:∀k,S k->k<w.heap.size){K:Sl->aH->Prop}
  (hK:∀r' w',eJ eb ty n aY xO lo S w' r' (Mp++ps)->aW (λk=>∃a,r0.b=some a/\k=a.block) w w'->(∀b,r'.b=some b->(∃a,r0.b=some a/\b.block=a.block)\/w.heap.size<=b.block)->K r' w'):aX prog sty sty r0 (.slice r.b r.l r.c) w K:=by
 obtain⟨xs0,rfl,h2,h3,h4⟩:=h0.ex;obtain⟨xs,rfl,g2,g3,g4⟩:=h.ex;rw[oL,oL] at hl;have hm:(xs0.length+xs.length)*bytes<=1000000*1000:=EX hl hb;refine fN hE fZ jW h2 (g2.rd fZ) aB aB λr' w2 v2 m2 Po _=>?_;have hM:aW (λk=>lo<=k/\¬S k) w w2:=m2.mono λk _ ⟨a,ha,e⟩=>by rw[e];exact h3 a ha
 have bp:∀b,r'.b=some b->(∃a,r0.b=some a/\b.block=a.block)\/w.heap.size<=b.block:=λb hb=>by
  rcases Po with h|⟨a,h,h2⟩
  ·exact .inl ⟨b,h.symm.trans hb,rfl⟩
  ·rw[hb] at h;cases h;exact .inr h2
 have keyB:∀(y:α×Sl),Rd w y.2 1 eb (xO y.1)->(∀b,y.2.b=some b->lo<=b.block/\¬S b.block/\b.block<w.heap.size/\∀b',r0.b=some b'->b.block≠b'.block)->Rd w2 y.2 1 eb (xO y.1)/\∀b,y.2.b=some b->lo<=b.block/\¬S b.block/\b.block<w2.heap.size/\∀b',r'.b=some b'->b.block≠b'.block:=λy g1 g2=>by
  refine⟨g1.aK m2 VK.ne λb hb ⟨a,ha,e⟩=>(g2 b hb).2.2.2 a ha e,λb hb=>⟨(g2 b hb).1,(g2 b hb).2.1,mD (g2 b hb).2.2.1 hM.size,λb' bW e=>?_⟩⟩;rcases bp b' bW with⟨a,ha,e2⟩|h
  ·exact(g2 b hb).2.2.2 a ha (e.trans e2)
  ·have:=(g2 b hb).2.2.1;omega
 refine hK r' w2 ⟨xs0++xs,by simp,v2,λb hb=>?_,λy hy=>?_⟩ m2 bp
 ·rcases bp b hb with⟨a,ha,e⟩|h
  ·rw[e];exact h3 a ha
  ·exact⟨aB,λhs=>by have:=hS _ hs;omega⟩
 ·rcases jK.1 hy with hy|hy
  ·exact keyB y (h4 y hy).1 (h4 y hy).2
  ·refine keyB y (g4 y hy).1 λb hb=>⟨iF YD ((g4 y hy).2 b hb).1,((g4 y hy).2 b hb).2.1,((g4 y hy).2 b hb).2.2.1,λb' bW e=>?_⟩
   have:=hr0 b' bW;have:=((g4 y hy).2 b hb).1;omega
theorem eJ.BK(h:eJ eb ty n aY xO lo S w r ps):∀k,(∃a,r.b=some a/\k=a.block)->lo<=k/\¬S k:=λk ⟨a,ha,e⟩=>by
 obtain⟨xs,_,_,h3,_⟩:=h.ex;rw[e];exact h3 a ha
theorem eJ.app{bytes:Nat}{z:List Value}{r0:Sl}{Mp:List α}{lo1:Nat}(hE:rE prog sty ty n bytes z)(fZ:∀x,(aY x).length=n)(jW:∀x,∀u∈aY x,u.oneCell'=true)(hb:bytes<=1000)(h0:eJ eb ty n aY xO lo S w r0 Mp)(h:eJ eb ty n aY xO lo1 S w r ps)(YD:lo<=lo1)(hr0:∀b,r0.b=some b->b.block<lo1)(hl:Mp.length+ps.length<=1000000)(hlw:lo<=w.heap.size)(hS:∀k,S k->k<w.heap.size){K:Sl->aH->Prop}
  (hK:∀r' w',eJ eb ty n aY xO lo S w' r' (Mp++ps)->aW (λk=>lo<=k/\¬S k) w w'->K r' w'):aX prog sty sty r0 (.slice r.b r.l r.c) w K:=
 eJ.fy hE fZ jW hb h0 h YD hr0 hl hlw hS λr' w' v m _=>hK r' w' v (m.mono λk _ hk=>h0.BK k hk)
theorem eJ.lt(h:eJ eb ty n aY xO lo S w r ps){b:Addr}(hb:r.b=some b):b.block<w.heap.size:=by
 obtain⟨xs,rfl,h2,_⟩:=h.ex;exact h2.lt hb
end
theorem Up.iH{S0 S:BS}{w0 w w':aH}(u:Up S0 S w0 w)(m:aW (λk=>w0.heap.size<=k/\¬S k) w w'):Up S0 S w0 w':=
 ⟨u.m.trans m λk hk h=>by have:=h.1;omega,u.s⟩
theorem bF.ov{A:As}[bF A]{lo:Nat}{S:BS}{w w':aH}(h:A w S)(m:aW (λk=>lo<=k/\¬S k) w w'):A w' S:=bF.aK h m λk hk hn=>hn.2 hk
abbrev Vh(P:BS)(w:aH)(r:Sl)(gs:List gA):Prop:=vX eU 6 eG gA.body P w r gs
abbrev Fj(P:BS)(w:aH)(r:Sl)(bs:List (List dA)):Prop:=vX eU 1 (λx:List dA×Sl=>eS x.2) id P w r bs
theorem uK.row{w:aH}{T P:BS}{r:Sl}{gs:List gA}(h:uK r gs w T)(hP:∀k,T k->P k):Vh P w r gs:=by
 obtain⟨xs,rfl,S3,S4,h3,h4,d34,Un⟩:=h;refine⟨xs,rfl,h3.1.rd Uv,λb hb=>⟨hP _ ((Un _).2 (.inl ((h3.2 _).2 ⟨b,hb,rfl⟩))),h3.1.lt hb⟩,λx hx=>?_⟩;obtain⟨i,hi⟩:=List.getElem?_of_mem hx;have:=h4.2.1 i x.2 x.1.body (by rw[mG,hi];rfl) (by rw[mG,hi];rfl);exact⟨this.1,λb hb=>⟨hP _ ((Un _).2 (.inr (this.2 b hb))),h4.2.2 _ (this.2 b hb)⟩⟩
theorem VC.row{w:aH}{T P:BS}{r:Sl}{bs:List (List dA)}(h:VC r bs w T)(hP:∀k,T k->P k):Fj P w r bs:=by
 obtain⟨ss,S3,S4,h3,h4,d34,Un⟩:=h;have AV:=h3.1.rd Fq;refine⟨bs.zip ss,?_,?_,λb hb=>⟨hP _ ((Un _).2 (.inl ((h3.2 _).2 ⟨b,hb,rfl⟩))),h3.1.lt hb⟩,λx hx=>?_⟩
 ·rw[List.map_fst_zip (by rw[h4.1];exact iT _)]
 ·refine⟨by rw[AV.len,List.length_zip,h4.1,Nat.min_self],AV.cap,λi x hx=>?_⟩
  exact AV.get i x.2 (List.getElem?_zip_eq_some.1 hx).2
 ·obtain⟨i,hi⟩:=List.getElem?_of_mem hx
  have hz:=List.getElem?_zip_eq_some.1 hi;have:=h4.2.1 i x.2 x.1 hz.2 hz.1;exact⟨this.1,λb hb=>⟨hP _ ((Un _).2 (.inr (this.2 b hb))),h4.2.2 _ (this.2 b hb)⟩⟩
theorem VQ{A:As}[bF A]{w:aH}{S:BS}{r:Sl}{gs:List gA}(h:aZ A (uK r gs) w S):∃S1,A w S1/\Up S S1 w w/\Vh (λk=>¬S1 k) w r gs:=by
 obtain⟨S1,S2,h1,⟨xs,rfl,S3,S4,h3,h4,d34,Un⟩,d,e⟩:=h;refine⟨S1,h1,Up.sub w λk hk=>(e k).2 (.inl hk),xs,rfl,h3.1.rd Uv,λb hb=>?_,λx hx=>?_⟩
 ·exact⟨λhk=>d _ hk ((Un _).2 (.inl ((h3.2 _).2 ⟨b,hb,rfl⟩))),h3.1.lt hb⟩
 ·obtain⟨i,hi⟩:=List.getElem?_of_mem hx
  have:=h4.2.1 i x.2 x.1.body (by rw[mG,hi];rfl) (by rw[mG,hi];rfl);exact⟨this.1,λb hb=>⟨λhk=>d _ hk ((Un _).2 (.inr (this.2 b hb))),h4.2.2 _ (this.2 b hb)⟩⟩
end
section
abbrev Pk:=Int×List dA
abbrev ePk(x:Pk×Sl):List Value:=[aD x.1.1,sv x.2]
theorem MD:∀x:Pk×Sl,(ePk x).length=2:=λ_=>rfl
theorem MA:∀x:Pk×Sl,∀u∈ePk x,u.oneCell'=true:=by intro x u hu;simp at hu;rcases hu with rfl|rfl<;>rfl
theorem ePk_ne(x:Pk×Sl):ePk x≠[]:=by simp
abbrev eD(x:List dA×Sl):List Value:=[sv x.2]
theorem lenD_q:∀x:List dA×Sl,(eD x).length=1:=λ_=>rfl
theorem oneD:∀x:List dA×Sl,∀u∈eD x,u.oneCell'=true:=by intro x u hu;simp at hu;subst hu;rfl
theorem KP(x:List dA×Sl):eD x≠[]:=by simp
abbrev rD:=eJ (α:=Pk) eU tPacket 2 ePk Prod.snd
abbrev ym:=eJ (α:=List dA) eU BP 1 eD id
def GOk(g:gA)(b:List dA):Prop:=b.length<=3000/\(WfG g->b=Ap g)
def du(aL:Int)(g:gA)(p:Pk):Prop:=p.1=aL/\GOk g p.2
section
variable{w:aH}{l:Sl}{gs:List gA}{P:BS}
theorem AL{aL:Int}{Q:Sl->aH->Prop}(h:Vh P w l gs)(hl:gs.length<=1000)(hb:∀g∈gs,g.body.length<=80000)
  (hQ:∀r ps w',aM w w'->rD w.heap.size (λk=>k<w.heap.size) w' r ps->F2 (du aL) gs ps->Q r w'):eX aL l w Q:=by
 unfold eX;have hll:=h.len;refine bO (λn t w1=>∃(i:Nat) (r:Sl) (ps:List Pk),i<=gs.length/\n=gs.length-i/\t=(r,(i:Int),())/\aM w w1/\rD w.heap.size (λk=>k<w.heap.size) w1 r ps/\F2 (du aL) (gs.take i) ps) gs.length
  ⟨0,bD,[],iG _,rfl,rfl,aW.refl _ _,eJ.nil,.nil⟩ ?_
 rintro n t w1 ⟨i,r,ps,hi,rfl,rfl,k1,v1,f1⟩ X hX;dsimp only;refine aJ (λcJ=>?_) (λkT=>?_)
 ·have dJ:i<gs.length:=aB
  have cV:=gS dJ;have fP:=nE dJ;have rV:=FQ dJ;generalize gs[i]=g at*;obtain⟨a,sl,ha,hh,hr,hro⟩:=(h.kp QO k1).get cV;have fl:=f1.len;rw[pW] at fl;rw[kE,qA i aB];refine⟨⟨aB,cJ⟩,aA ha (bJ (l:=kG) (IY (g,sl)) hh ?_)⟩;refine fE (zs:=eG (⟨0,0,0,0,0,[]⟩,bD)) (vs:=eG (g,sl)) rJ rfl (Le _) λw4 o4 k4 z4=>?_;refine bJ (l:=kG) (IY (g,sl)) (o4.holds λj v hj=>by rw[pN];exact hj) ?_;have z1:=k1.size;refine jm (hr.aK k4 fI λ_ _=>id) (hb g fP) λs out e w5 k5 Cz f5 l5 g5=>?_;have v5:=(v1.kp k4).kp k5;refine eJ.gW jS MD MA aB v5 (by rw[<-fl];omega) (iF (k1.tr k4).size k5.size) (λk hk=>mD hk (iF (k1.tr k4).size k5.size)) (aL,out) (sl:=s) Cz.1 (λb hb=>⟨by have:=f5 b hb;omega,λhk=>by have:=f5 b hb;omega,Cz.2.2.1 b hb,λb' bW=>?_⟩) λr' w6 v6 m6=>?_
  ·have:=v1.lt bW;have:=f5 b hb;omega
  ·refine hX _ _ _ aB ⟨i+1,r',ps++[(aL,out)],dJ,rfl,rfl,((k1.tr k4).tr k5).fresh m6 λk hk=>hk.1,v6,?_⟩
   rw[rV];exact f1.app (.one ⟨rfl,l5,λhw=>(g5 hw).1⟩)
 ·have ei:i=gs.length:=aB
  subst ei;rw[oZ] at f1;exact hQ r ps w1 k1 v1 f1
theorem NN{Q:Sl->aH->Prop}(h:Vh P w l gs)(hl:gs.length<=1000)(hb:∀g∈gs,g.body.length<=80000)
  (hQ:∀r ps w',aM w w'->ym w.heap.size (λk=>k<w.heap.size) w' r ps->F2 GOk gs ps->Q r w'):jM l w Q:=by
 unfold jM;have hll:=h.len;refine bO (λn t w1=>∃(i:Nat) (r:Sl) (ps:List (List dA)),i<=gs.length/\n=gs.length-i/\t=(r,(i:Int),())/\aM w w1/\ym w.heap.size (λk=>k<w.heap.size) w1 r ps/\F2 GOk (gs.take i) ps) gs.length
  ⟨0,bD,[],iG _,rfl,rfl,aW.refl _ _,eJ.nil,.nil⟩ ?_
 rintro n t w1 ⟨i,r,ps,hi,rfl,rfl,k1,v1,f1⟩ X hX;dsimp only;refine aJ (λcJ=>?_) (λkT=>?_)
 ·have dJ:i<gs.length:=aB
  have cV:=gS dJ;have fP:=nE dJ;have rV:=FQ dJ;generalize gs[i]=g at*;obtain⟨a,sl,ha,hh,hr,hro⟩:=(h.kp QO k1).get cV;have fl:=f1.len;rw[pW] at fl;rw[kE,qA i aB];refine⟨⟨aB,cJ⟩,aA ha (bJ (l:=kG) (IY (g,sl)) hh ?_)⟩;refine fE (zs:=eG (⟨0,0,0,0,0,[]⟩,bD)) (vs:=eG (g,sl)) rJ rfl (Le _) λw4 o4 k4 z4=>?_;refine bJ (l:=kG) (IY (g,sl)) (o4.holds λj v hj=>by rw[pN];exact hj) ?_;have z1:=k1.size;refine jm (hr.aK k4 fI λ_ _=>id) (hb g fP) λs out e w5 k5 Cz f5 l5 g5=>?_;have v5:=(v1.kp k4).kp k5;refine eJ.gW NL lenD_q oneD aB v5 (by rw[<-fl];omega) (iF (k1.tr k4).size k5.size) (λk hk=>mD hk (iF (k1.tr k4).size k5.size)) out (sl:=s) Cz.1 (λb hb=>⟨by have:=f5 b hb;omega,λhk=>by have:=f5 b hb;omega,Cz.2.2.1 b hb,λb' bW=>?_⟩) λr' w6 v6 m6=>?_
  ·have:=v1.lt bW;have:=f5 b hb;omega
  ·refine hX _ _ _ aB ⟨i+1,r',ps++[out],dJ,rfl,rfl,((k1.tr k4).tr k5).fresh m6 λk hk=>hk.1,v6,?_⟩
   rw[rV];exact f1.app (.one ⟨l5,λhw=>(g5 hw).1⟩)
 ·have ei:i=gs.length:=aB
  subst ei;rw[oZ] at f1;exact hQ r ps w1 k1 v1 f1
theorem sj{aL aP code:Int}{Q:Sl->aH->Prop}(hQ:∀r p w',aM w w'->rD w.heap.size (λk=>k<w.heap.size) w' r [p]->du aL ⟨aP,3,0,0,code,[]⟩ p->Q r w'):eN aL aP code w Q:=by
 unfold eN;refine cC (cs:=eG (⟨aP,3,0,0,code,[]⟩,bD)) λw1 b1 k1 z1=>?_;have hg:Vh (λ_=>True) w1 ⟨some ⟨w.heap.size,0,none⟩,1,1⟩ [⟨aP,3,0,0,code,[]⟩]:=⟨[(⟨aP,3,0,0,code,[]⟩,bD)],rfl,iV Uv [(⟨aP,3,0,0,code,[]⟩,bD)] b1 rfl dL,λb hb=>by cases hb;exact⟨trivial,b1.1.lt⟩,λx hx=>by
  rw[uG.1 hx];exact⟨Rd.nil _ _ _,λb hb=>by cases hb⟩⟩
 refine AL hg dL dL λr ps w2 k2 v2 f2=>?_;cases f2 with
 |cons a b=>
  cases b;exact hQ r _ w2 (k1.tr k2) ((v2.qF aB).sub λk hk=>aB) a
end
abbrev lH.dl(c:lH):Int:=c.s.next-c.s.n
structure dw(c c':lH)(k:Nat):Prop where
 cO:c'.s.cO=c.s.cO
 aP:c'.aP=c.aP
 dl:c'.dl=c.dl
 n:k+c.s.n=c'.s.n
theorem Ic{aP nx:Int}{t:Uq}:∀{l:List (List dA)} {s:XY},dw ⟨s,aP,t,l⟩ (lH.UQ s aP nx t l).2 (lH.UQ s aP nx t l).1.length/\∀g∈(lH.UQ s aP nx t l).1,g.body∈l
 | [],s=>⟨⟨rfl,rfl,rfl,pN _⟩,λg hg=>by cases hg⟩
 |b::r,s=>by
  rw[lH.UQ]
  split
  ·obtain⟨⟨h1,h2,h3,h4⟩,h5⟩:=Ic (aP:=aP) (nx:=nx) (t:=t) (l:=r) (s:=s.send b)
   refine⟨⟨h1,h2,h3.trans ?_,?_⟩,λg hg=>?_⟩
   ·show s.next+1-((s.n+1:Nat):Int)=s.next-(s.n:Int)
    omega
   ·have h4':_+(s.n+1)=_:=h4
    simp only[nU] at h4' ⊢;omega
   ·rcases lL.1 hg with rfl|hg
    ·simp
    ·exact Qb _ (h5 g hg)
  ·exact⟨⟨rfl,rfl,rfl,pN _⟩,λg hg=>by cases hg⟩
theorem lH.JN(c:lH):dw c c.nQ.2 c.nQ.1.length/\∀g∈c.nQ.1,g.body∈c.gU:=Ic (s:=c.s) (l:=c.gU)
theorem Ia{c:lH}(ok:c.Ok){b:List dA}(hb:b.length<=70000):dw c (c.push b).2.1 (c.push b).1.length/\∀g∈(c.push b).1,g.body.length<=70000:=by
 unfold lH.push
 split
 ·exact⟨⟨rfl,rfl,rfl,pN _⟩,λg hg=>by cases hg⟩
 ·split
  ·exact⟨⟨rfl,rfl,rfl,pN _⟩,λg hg=>by cases hg⟩
  ·obtain⟨⟨h1,h2,h3,h4⟩,h5⟩:=({c with gU:=c.gU++[b]}:lH).JN
   refine⟨⟨h1,h2,h3,h4⟩,λg hg=>?_⟩;rcases jK.1 (h5 g hg) with h|h
   ·exact ok.len _ h
   ·rw[uG.1 h];exact hb
theorem dw.refl(c:lH):dw c c 0:=⟨rfl,rfl,rfl,pN _⟩
theorem dw.tr{c c' c'':lH}{k k':Nat}(h:dw c c' k)(h':dw c' c'' k'):dw c c'' (k+k'):=⟨h'.cO.trans h.cO,h'.aP.trans h.aP,h'.dl.trans h.dl,by have:=h.n;have:=h'.n;omega⟩
theorem Ih{c c':lH}{gs:List gA}{e:Int}(ok:c.Ok)(h:qv c gs e c'):c'.s.cO=c.s.cO/\c'.aP=c.aP/\c'.dl=c.dl/\gs.length<=c'.s.n/\∀g∈gs,g.body.length<=70000:=by
 obtain⟨s1,L,e0,⟨a1,a2,a3,a4,a5⟩,QB,hL,_,_,h⟩:=h
 split at h
 ·obtain⟨_,rfl,rfl⟩:=h
  obtain⟨⟨h1,h2,h3,h4⟩,h5⟩:=(⟨s1,c.aP,c.t,c.gU⟩:lH).JN;refine⟨h1.trans a1,h2,h3.trans ?_,?_,λg hg=>?_⟩
  ·show s1.next-(s1.n:Int)=c.s.next-(c.s.n:Int)
   simp[*]
  ·rw[mL,oL]
   have h4':_+s1.n=_:=h4;have:s1.n=c.s.n:=by simp[*]
   omega
  ·rcases jK.1 hg with hg|hg
   ·obtain⟨x,_,rfl⟩:=lK.1 hg
    show((s1.f x).getD []).length<=70000;cases hf:s1.f x with
    |none=>simp
    |some bs=>exact(QB.len x bs hf).2.2
   ·exact ok.len _ (h5 g hg)
 ·obtain⟨_,rfl,rfl⟩:=h
  refine⟨a1,rfl,?_,iG _,λg hg=>by cases hg⟩;show s1.next-(s1.n:Int)=c.s.next-(c.s.n:Int)
  simp[*]
theorem wT{c c':lH}{g:gA}{rQ:List (List dA)}{gs:List gA}(ok:c.Ok)(h:VJ c g rQ gs c'):c'.s.cO=c.s.cO/\c'.aP=c.aP/\c'.dl<=c.s.next/\gs.length<=c'.s.n+1/\(∀g∈gs,g.body.length<=70000)/\rQ.length<=20/\∀b∈rQ,b.length<=5000:=by
 unfold VJ at h
 split at h
 ·obtain⟨rfl,rfl,rfl⟩:=h
  exact⟨rfl,rfl,by show c'.s.next-_<=_;omega,iG _,λg hg=>(by cases hg),by simp,λb hb=>by cases hb⟩
 ·obtain⟨s1,⟨a1,a2,a3,a4,a5,a6⟩,QB,h⟩:=h
  split at h
  ·obtain⟨t1,ht,rfl,rfl⟩:=h
   obtain⟨⟨h1,h2,h3,h4⟩,h5⟩:=(⟨s1,c.aP,t1,c.gU⟩:lH).JN;refine⟨h1.trans a1,h2,?_,?_,λg hg=>?_,ht.len,ht.lens⟩
   ·rw[h3];show s1.next-(s1.n:Int)<=_;omega
   ·simp only[nU];have h4':_+s1.n=_:=h4;omega
   ·rcases lL.1 hg with rfl|hg
    ·simp
    ·exact ok.len _ (h5 g hg)
  ·obtain⟨rfl,rfl,rfl⟩:=h
   obtain⟨⟨h1,h2,h3,h4⟩,h5⟩:=(⟨s1,c.aP,c.t,c.gU⟩:lH).JN;refine⟨h1.trans a1,h2,?_,?_,λg hg=>ok.len _ (h5 g hg),by simp,λb hb=>by cases hb⟩
   ·rw[h3];show s1.next-(s1.n:Int)<=_;omega
   ·have h4':_+s1.n=_:=h4;omega
end
end Go.Proofs.YtihggjgakbgomaaGreat
