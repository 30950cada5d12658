import Derived.Test.YtihggjgakbgomaaGreatA1
import Derived.Test.YtihggjgakbgomaaGreatF1
import Derived.Test.YtihggjgakbgomaaGreatQ2
import Derived.Test.YtihggjgakbgomaaGreatQ3
import Derived.Test.YtihggjgakbgomaaGreatA2
import Derived.Test.YtihggjgakbgomaaGreatQ1
import Derived.Test.YtihggjgakbgomaaGreatF2
namespace Go.Proofs.YtihggjgakbgomaaGreat
open Go Go.Den
section
theorem weight_i{w:aH}{t:Lm}{G:Gr}{i:Int}{Q:Int->aH->Prop}(h:rR w t G)(hi:G.qD i)(hQ:∀w',aM w w'->Q (G.wt i) w'):xF (some ⟨t.t,0,none⟩) i w Q:=by
 unfold xF;refine aA rfl (aE (k:=.ptr) (some ⟨t.H.g,0,none⟩) h.cells.1 ?_);exact JK h hi λa w' hc k _=>aE (k:=.i) (G.wt i) hc (hQ w' k)
theorem KO(b:Bool):eB b≠[]:=by simp
theorem Gl{c:List Bool}{e:Int}(h:(c.length:Int)<=e):qH c e=false:=by
 unfold qH;rw[LN,List.getElem?_eq_none aB];rfl
theorem YZ{c:List Bool}{e:Int}(h0:0<=e)(h:e<c.length):c[e.toNat]? =some (qH c e):=by
 have:e.toNat<c.length:=aB;unfold qH;rw[LN,gS this];rfl
theorem shut_i{w:aH}{s:Sl}{c:List Bool}{e:Int}{Q:Bool->aH->Prop}(hr:Rd w s 1 eB c)(h0:0<=e)(hQ:Q (qH c e) w):EL s e w Q:=by
 unfold EL;have hl:=hr.len;refine aJ (λcJ=>?_) (λkT=>by rw[Gl aB] at hQ;exact hQ);obtain⟨p,hp,hc⟩:=cF (k:=.bool) (e:=λx=>x) hr (YZ h0 aB);exact⟨⟨h0,cJ⟩,aA hp (aE (k:=.bool) (qH c e) hc hQ)⟩
structure DSt(W w:aH)(B g1:Nat)(s1:Sl)(H:HS)(q:List It)(ds:List Int):Prop where
 hp:rE w H q
 hg:H.g=B
 PM:s1.b=some ⟨g1,0,none⟩
 v1:dP w cY 1 eI s1 ds
 kp:aM W w
 sep:∀k,H.dF k->W.heap.size<=k/\k≠g1
 qE:W.heap.size<=g1
section
variable{W w:aH}{B g1:Nat}{s1:Sl}{H:HS}{q:List It}{ds:List Int}
theorem DSt.aN{w':aH}(h:DSt W w B g1 s1 H q ds)(k:aM w w'):DSt W w' B g1 s1 H q ds:=⟨h.hp.aN k,h.hg,h.PM,h.v1.aK k λ_ _=>id,h.kp.tr k,h.sep,h.qE⟩
theorem DSt.heap{w':aH}{H':HS}{q':List It}(h:DSt W w B g1 s1 H q ds)(hp:oD w' H' q')(hg:H'.g=H.g)(m:aW H.dF w w')(f:∀k,H'.dF k->H.dF k\/w.heap.size<=k):DSt W w' B g1 s1 H' q' ds:=by
 have hg1:=h.v1.lt h.PM;have hk:=h.kp.size;refine⟨.inl hp,hg.trans h.hg,h.PM,h.v1.aK m λa ha hk=>?_,h.kp.fresh m λk hk=>(h.sep k hk).1,λk lD=>?_,h.qE⟩
 ·rw[h.PM] at ha;cases ha;exact(h.sep _ hk).2 rfl
 ·rcases f k lD with h1|h1
  ·exact h.sep k h1
  ·have Ad:g1<w.heap.size:=hg1
   exact⟨aB,aB⟩
end
theorem To_i{t:Lm}{G:Gr}{node:Int}{dD:Sl}{c:List Bool}{W:aH}{Q:Sl->aH->Prop}(h:rR W t G)(hN:G.XR node)(hc:Rd W dD 1 eB c)
  (hQ:∀s ds w',G.rX c node ds->dP w' cY 1 eI s ds->aM W w'->(∀b,s.b=some b->W.heap.size<=b.block)->(∀(v:Nat) x,ds[v]? =some x->-1<=x/\x<=51*BW)->Q s w'):HV (some ⟨t.t,0,none⟩) node dD W Q:=by
 unfold HV;have ok:=h.IH.ok;have hm:=ok.m1;have hnx:=ok.nxOk c node;refine aF (λh=>by simp at h) (λ_=>aJ (λh=>aB) (λ_=>?_));refine aA rfl (aE (k:=.ptr) (some ⟨t.H.g,0,none⟩) h.cells.1 (OG h.IH (aJ (λh=>aB) (λ_=>?_))));unfold NO;refine bK λw1 o1 k1 z1=>?_;have h1:=h.aN k1;refine aA rfl (aE (k:=.ptr) (some ⟨t.H.g,0,none⟩) h1.cells.1 (sR h1.IH ?_));refine Xt o1 hm.2 λw3 v3 k3=>?_;generalize tM:(⟨some ⟨w1.heap.size,0,none⟩,G.m,G.m⟩:Sl)=s1 at*;have PM:s1.b=some ⟨w1.heap.size,0,none⟩:=by rw[<-tM]
 refine bK λw4 o4 k4 z4=>?_;have K4:=(k1.tr k3).tr k4;have h4:=h.aN K4;refine aA rfl (aE (k:=.ptr) (some ⟨t.H.g,0,none⟩) h4.cells.1 ?_);refine gIn_i h4.IH λs2 w5 v5 k5 f5=>?_;have K5:=K4.tr k5;have z13:=v3.lt PM;have zW:=k1.size;have z3:=k3.size;have hl13:w1.heap.size<w3.heap.size:=z13;have St0:DSt W w5 w3.heap.size w1.heap.size s1 ⟨w3.heap.size,w3.heap.size,bD⟩ [] (List.replicate G.m (-1)):=by
  refine⟨.inr ⟨rfl,rfl,rfl,o4.aK k5 id⟩,rfl,PM,(v3.aK k4 λ_ _=>id).aK k5 λ_ _=>id,K5,λk hk=>?_,aB⟩;have:k=w3.heap.size:=by
   rcases hk with hk|hk|⟨a,ha,_⟩
   ·exact hk
   ·exact hk
   ·cases ha
  subst this;exact⟨aB,aB⟩
 have il:=G.tf node;have yc:∀e,e∈G.Tt node↔G.src node e:=λe=>G.sx;have l2:=v5.len;have f5':∀b,s2.b=some b->w4.heap.size<=b.block/\b.block<w5.heap.size:=λb hb=>⟨f5 b hb,v5.lt hb⟩;clear o1 v3 o4 f5;generalize hB:w3.heap.size=B at*;generalize hg1:w1.heap.size=g1 at*;refine bO (λc' t' w6=>∃(i:Nat) (H:HS) (q:List It),i<=(G.Tt node).length/\c'=(G.Tt node).length-i/\t'=((i:Int),())/\DSt W w6 B g1 s1 H q (List.replicate G.m (-1))/\By q/\BB q/\dP w6 cY 1 eI s2 (G.Tt node)/\(∀k,H.dF k->∀b,s2.b=some b->k≠b.block)/\
   (∀y∈q,y.key=0/\G.src node y.id)/\(∀j,j<i->∀v,(G.Tt node)[j]? =some v->∃y∈q,y.id=v)) (G.Tt node).length
  ⟨0,_,[],iG _,rfl,rfl,St0,(λx hx=>by cases hx),List.Pairwise.nil,v5,λk hk b hb e=>?_,(λy hy=>by cases hy),λj hj=>aB⟩ ?_
 ·have hkb:k=B:=by
   rcases hk with hk|hk|⟨a,ha,_⟩
   ·exact hk
   ·exact hk
   ·cases ha
  have:=f5' b hb;omega
 rintro c' t' w6 ⟨i,H,q,hi,rfl,rfl,st,jW,lM,v6,FM,hq,oM⟩ X hX;dsimp only;have qlen:q.length<=G.m:=DS (lZ lM) jW λy hy=>(hq y hy).2.1;refine aJ (λcJ=>?_) (λkT=>?_)
 ·have dI:i<(G.Tt node).length:=aB
  have cV:=gS dI;have fP:=nC dI;generalize (G.Tt node)[i]=v at*;obtain⟨p,hp,hcp⟩:=cF (k:=.i) (e:=λx=>x) (v6.rd fG) cV;rw[kE];refine⟨⟨aB,cJ⟩,aA hp (aE (k:=.i) v hcp ?_)⟩;have hg:=st.hg;rw[<-hg];refine YW st.hp aB λw7 H7 h7 g7 m7 f7=>?_;have XP:=st.heap h7 g7 m7 f7;rw[pZ i aB];refine hX _ _ _ aB ⟨i+1,H7,_,dI,rfl,rfl,XP,CB jW v 0,CA lM v 0,v6.aK m7 λb hb hk=>FM _ hk b hb rfl,λk hk b hb e=>?_,λy hy=>?_,λj hj u hu=>?_⟩
  ·rcases f7 k hk with h1|h1
   ·exact FM k h1 b hb e
   ·have:=v6.lt hb;omega
  ·rcases WA hy with da|rfl
   ·exact hq y da
   ·exact⟨rfl,(yc v).1 fP⟩
  ·rcases Nat.lt_or_ge j i with CP|CP
   ·obtain⟨y,hy,e⟩:=oM j CP u hu
    obtain⟨y',Tu,e',_⟩:=OM jW (v:=v) (k:=0) hy;exact⟨y',Tu,e'.trans e⟩
   ·have:j=i:=aB
    subst this;rw[cV] at hu;cases hu;obtain⟨y,hy,e,_⟩:=WB (q:=q) (v:=v) (k:=0);exact⟨y,hy,e⟩
 have ei:i=(G.Tt node).length:=aB;subst ei;have G0:tG G.m (G.src node) (G.nx c) (λe=>e.f) (λ_ _=>True) (List.replicate G.m (-1)) (List.replicate G.m (-1)) q (λ_=>some (-1)):=tG.start hnx (λy hy=>⟨(hq y hy).1,(hq y hy).2,rfl⟩) λv hv=>by
  obtain⟨j,hj⟩:=oL.1 ((yc v).2 hv);exact oM j (kU.1 hj).1 v hj
 clear hX hq oM qlen kT hi St0 v6 FM f5' v5 l2;generalize hds0:List.replicate G.m (-1:Int)=ds0 at*;refine bO (λc' t' fO=>∃(H:HS) (q:List It) (kn:Int->Option Int) (ds bs:List Int),c'=G.m-met ds/\t'=()/\DSt W fO B g1 s1 H q ds/\By q/\BB q/\tG G.m (G.src node) (G.nx c) (λe=>e.f) (λ_ _=>True) ds bs q kn) (G.m-met ds0)
  ⟨H,q,_,ds0,ds0,rfl,rfl,st,jW,lM,G0⟩ ?_
 clear G0 jW lM st;rintro c' t' fO ⟨H,q,kn,ds,bs,rfl,rfl,st,jW,lM,GI⟩ X hX;have hg:=st.hg;rw[<-hg];refine qu st.hp ?_;cases q with
 |nil=>
  refine aJ (λh=>by simp at h) (λ_=>?_);have gr:=GI.done hnx;refine hQ s1 ds fO gr.rX st.v1 st.kp (λb hb=>?_) λv x hx=>?_
  ·rw[st.PM] at hb;cases hb;exact st.qE
  ·have:=gr.gH v x hx
   simp only[BW] at*;omega
 |cons x q=>
  refine aJ (λ_=>?_) (λh=>absurd (by simp only[nQ];omega) h);obtain⟨x0,x1,hxd,hxg,hxb,u,hu,_⟩:=GI.qi x dK;have hxE:G.qD x.id:=⟨x0,x1⟩;have bj:=(hxg.mw hnx).2.2;have qk:(x::q).length<=G.m:=DS (lZ lM) jW λy hy=>⟨(GI.qi y hy).1,(GI.qi y hy).2.1⟩;have hp:oD fO H (x::q):=st.hp.resolve_right λh=>by cases h.1
  refine Pop_i hp (by simp at qk;omega) λiZ H17 h17 g17 f17 vv=>?_;have qY:=st.heap h17 g17 vv λk hk=>.inl ((f17 k).1 hk);obtain⟨G1,hmet⟩:=GI.pop hnx lM jW hu;have hml:=ig (ds.set x.id.toNat x.key);rw[pI,GI.dl] at hml;have v1l:=qY.v1.len;have dm:=GI.dl;refine⟨⟨x0,aB⟩,aA qY.PM ?_⟩;refine qY.v1.store fG qY.PM (i:=x.id.toNat) aB x.key (v:=aD x.key) rfl cU (ES _) λnL v19 m19 z19=>?_;have KV:aW (λk=>k=g1) iZ nL:=m19;have FR:DSt W nL B g1 s1 H17 q (ds.set x.id.toNat x.key):=⟨qY.hp.aK KV λk hk e=>(qY.sep k hk).2 e,qY.hg,qY.PM,v19,qY.kp.fresh KV λk e=>by rw[show k=g1 from e];exact qY.qE,qY.sep,qY.qE⟩;have hdlt:x.id.toNat<ds.length:=aB;have hself:(ds.set x.id.toNat x.key)[x.id.toNat]? =some x.key:=by rw[vR,if_pos rfl,if_pos hdlt]
  have exi:(x.id.toNat:Int)=x.id:=Int.toNat_of_nonneg x0;have QK:By q:=λa ha b hb=>jW a (by simp[ha]) b (by simp[hb]);have qf:BB q:=(List.pairwise_cons.1 lM).2;generalize hds':ds.set x.id.toNat x.key=Kl at*;generalize bs.set x.id.toNat u=Mr at*;refine shut_i (hc.aK FR.kp KO λ_ _=>id) x0 ?_;refine aF (λhsh=>?_) (λhsh=>?_)
  ·refine hX (G.m-met Kl) _ _ aB ⟨H17,q,kn,Kl,Mr,rfl,rfl,FR,QK,qf,G1.mono λv e he _ ev=>?_⟩
   rw[ev] at he;have:=(G.JE.1 he).1;rw[hsh] at this;cases this
  refine Prev_i (h.aN FR.kp) λs3 AR v21 k21 f21=>?_;have Pv:=FR.aN k21;have l3:=v21.len;have hpl:=G.Wv x.id;have hnxe:G.nx c x.id=(G.nW x.id).map λa=>(⟨a,x.id,G.wt x.id,-1⟩:bQ):=by unfold Gr.nx;rw[if_neg (by rw[hsh];simp)]
  have hpE:∀p∈G.nW x.id,G.qD p:=λp hp=>(G.iI.1 (G.WE.1 hp)).1;have hpN:∀p∈G.nW x.id,(⟨p,x.id,G.wt x.id,-1⟩:bQ)∈G.nx c x.id:=λp hp=>by rw[hnxe];exact lK.2 ⟨p,hp,rfl⟩
  have Tv:=ok.w1 hxE;have fr3:∀b,s3.b=some b->nL.heap.size<=b.block/\b.block<AR.heap.size:=λb hb=>⟨f21 b hb,v21.lt hb⟩;refine bO (λc' t' DF=>∃(i:Nat) (H:HS) (q:List It) (kn:Int->Option Int),i<=(G.nW x.id).length/\c'=(G.nW x.id).length-i/\t'=((i:Int),())/\DSt W DF B g1 s1 H q Kl/\By q/\BB q/\
    tG G.m (G.src node) (G.nx c) (λe=>e.f) (λv e=>v≠x.id\/e.f∈(G.nW x.id).take i) Kl Mr q kn/\dP DF cY 1 eI s3 (G.nW x.id)/\(∀k,H.dF k->∀b,s3.b=some b->k≠b.block)) (G.nW x.id).length
   ⟨0,H17,q,kn,iG _,rfl,rfl,Pv,QK,qf,G1.mono (λv e _ hh=>hh.resolve_right dK),v21,λk hk b hb e=>by have:=(fr3 b hb).1;have:=FR.hp.lt hk;omega⟩ ?_
  rintro c' t' DF ⟨i,H2,q2,kn2,hi,rfl,rfl,st2,KL,QI,G2,v22,sp2⟩ Y hY;dsimp only;have hq2len:q2.length<=G.m:=DS (lZ QI) KL λy hy=>⟨(G2.qi y hy).1,(G2.qi y hy).2.1⟩;refine aJ (λcJ=>?_) (λkT=>?_)
  ·have dI:i<(G.nW x.id).length:=aB
   have cV:=gS dI;have fP:=nC dI;have rT:(G.nW x.id).take (i+1)=(G.nW x.id).take i++[(G.nW x.id)[i]]:=FO dI;generalize (G.nW x.id)[i]=p at*;have hp0:=hpE p fP;have hpn:=hpN p fP;obtain⟨pa,hpa,hca⟩:=cF (k:=.i) (e:=λx=>x) (v22.rd fG) cV;have hdl':=G2.dl;obtain⟨y,hy⟩:∃y,Kl[p.toNat]? =some y:=⟨_,gS (show p.toNat<Kl.length by have:=hp0.2;omega)⟩;obtain⟨pb,hpb,hcb⟩:=cF (k:=.i) (e:=λx=>x) (st2.v1.rd fG) hy;rw[kE];refine⟨⟨aB,cJ⟩,aA hpa (aE (k:=.i) p hca ⟨⟨hp0.1,by have:=hp0.2;omega⟩,aA hpb (aE (k:=.i) y hcb ?_)⟩)⟩;have tko:∀v' (e':bQ),e'∈G.nx c v'->(v'≠x.id\/e'.f∈(G.nW x.id).take (i+1))->((v'≠x.id\/e'.f∈(G.nW x.id).take i)\/(v'=x.id/\e'=⟨p,x.id,G.wt x.id,-1⟩)):=λv' e' vT hh=>by
    by_cases hv:v'=x.id
    ·rcases hh with h1|h1
     ·exact absurd hv h1
     ·rw[rT] at h1
      rcases jK.1 h1 with h2|h2
      ·exact .inl (.inr h2)
      ·refine .inr ⟨hv,?_⟩
       have h3:e'.f=p:=by simpa using h2
       rw[hv] at vT;obtain⟨_,_,h4⟩:=G.JE.1 vT;rw[h4,h3]
    ·exact .inl (.inl hv)
   refine aJ (λPR=>?_) (λuP=>?_)
   ·have hy1:y=-1:=by
     rcases G2.Bz _ _ hy with h1|⟨h1,_⟩
     ·exact h1
     ·have hneg':y<0:=PR
      omega
    subst hy1;have hwr:aQ (x.key+G.wt x.id)=x.key+G.wt x.id:=gM (by simp only[BW] at*;omega) (by simp only[BW] at*;omega);refine weight_i (h.aN st2.kp) hxE λEc k23=>?_;have st23:=st2.aN k23;rw[hwr];have hg2':=st23.hg;rw[hg,<-hg2'];refine YW st23.hp aB λaq H26 h26 g26 m26 f26=>?_;have st26:=st23.heap h26 g26 m26 f26;have G3:=(G2.push hnx KL (v:=x.id.toNat) (d:=x.key) (e:=⟨p,x.id,G.wt x.id,-1⟩) hself bj (by rw[exi];exact hpn) hy);rw[exi] at G3;rw[pZ i aB];refine hY _ _ _ aB ⟨i+1,H26,_,_,dI,rfl,rfl,st26,CB KL _ _,CA QI _ _,G3.mono tko,(v22.aK k23 λ_ _=>id).aK m26 λb hb hk=>sp2 _ hk b hb rfl,λk hk b hb e=>?_⟩;rcases f26 k hk with h1|h1
    ·exact sp2 k h1 b hb e
    ·have:=v22.lt hb;have:=k23.size;omega
   ·have Fs:0<=y:=by have:¬y<0:=uP;omega
    rw[pZ i aB];exact hY _ _ _ aB ⟨i+1,H2,q2,kn2,dI,rfl,rfl,st2,KL,QI,(G2.skip (v:=x.id) (e:=⟨p,x.id,G.wt x.id,-1⟩) hy Fs).mono tko,v22,sp2⟩
  ·have ei:i=(G.nW x.id).length:=aB
   subst ei;rw[oY] at G2;refine hX (G.m-met Kl) _ _ aB ⟨H2,q2,kn2,Kl,Mr,rfl,rfl,st2,KL,QI,G2.mono λv e he _=>?_⟩
   by_cases hv:v=x.id
   ·rw[hv] at he
    exact .inr (G.WE.2 (G.JE.1 he).2.1)
   ·exact .inl hv
end
section
theorem tx{p:Int->Bool}{x:Int}:∀{l:List Int} {i:Nat},(∀y∈l.take i,p y=false)->l[i]? =some x->p x=true->l.find? p=some x
 | [],i,_,h,_=>by simp at h
 |y::l,0,_,h,hp=>by simp at h;subst h;rw[List.find?_cons,hp]
 |y::l,i+1,hn,h,hp=>by
  rw[List.find?_cons,hn y dK];exact tx (i:=i) (λz hz=>hn z (by rw[List.take_succ_cons];exact Qa _ hz)) (by simpa using h) hp
theorem Ys(x:Int):MI x x=x:=by unfold MI;split<;>rfl
section
variable{t:Lm}{G:Gr}{rX dD:Sl}{ds:List Int}{c:List Bool}
theorem step_i{e:Int}{W:aH}{Q:Int->aH->Prop}(h:rR W t G)(hE:G.qD e)(hf:Rd W rX 1 eI ds)(hl:ds.length=G.m)(hc:Rd W dD 1 eB c)(hb:∀(v:Nat) x,ds[v]? =some x->-1<=x/\x<=102*BW)
  (hQ:∀w',aM W w'->Q (match G.Ai c ds e with|some n=>n|none=>-1) w'):zT (some ⟨t.t,0,none⟩) e rX dD W Q:=by
 unfold zT;have ok:=h.IH.ok;have hm:=ok.m1;have QC:=hf.len;have hcl:=hc.len;refine Next_i h λs1 w1 v1 k1 f1=>?_;have l1:=v1.len;have hnl:=G.MR e;have hnE:∀b∈G.kJ e,G.qD b:=λb hb=>(G.iI.1 (G.CC.1 hb)).2.1;have gv:∀{x:Int},G.qD x->ds[x.toNat]? =some (vW ds x):=λ{x} hx=>by
  have:x.toNat<ds.length:=by have:=hx.2;omega
  unfold vW;rw[LN,gS this];rfl
 refine bO (λc' s w2=>∃i:Nat,i<=(G.kJ e).length/\c'=(G.kJ e).length-i/\s=((i:Int),())/\aM w1 w2/\∀x∈(G.kJ e).take i,G.JD c ds e x=false) (G.kJ e).length ⟨0,iG _,rfl,rfl,aW.refl _ _,by simp⟩ ?_;rintro c' s w2 ⟨i,hi,rfl,rfl,k2,vS⟩ X hX;dsimp only;refine aJ (λcJ=>?_) (λkT=>?_)
 ·have dI:i<(G.kJ e).length:=aB
  have cV:=gS dI;have Ux:=hnE _ (nC dI);have rT:=FO dI;generalize (G.kJ e)[i]=n at*;obtain⟨p,hp,hcp⟩:=cF (k:=.i) (e:=λx=>x) ((v1.aK k2 λ_ _=>id).rd fG) cV;rw[kE];have h2:=h.aN (k1.tr k2);refine⟨⟨aB,cJ⟩,aA hp (aE (k:=.i) n hcp (aA rfl (aE (k:=.ptr) (some ⟨t.H.g,0,none⟩) h2.cells.1 ?_)))⟩;refine JK h2 Ux λa3 w5 hc5 k5 _=>?_;have Da:=k2.tr k5;have KW5:=k1.tr Da;have next:∀wz,aM w1 wz->G.JD c ds e n=false->X (aQ ((i:Int)+1),()) wz:=λwz kz hn=>by
   rw[pZ i aB];refine hX _ _ _ aB ⟨i+1,dI,rfl,rfl,kz,λx hx=>?_⟩;rw[rT] at hx;rcases jK.1 hx with hx|hx
   ·exact vS x hx
   ·have:x=n:=by simpa using hx
    rw[this];exact hn
  intro J hJ;have sD:∀b,b=qH c n->J (b,()) w5:=by
   rintro b rfl;apply hJ;dsimp only;have d5:aM w5 w5.drew:=aW.drew (aW.refl _ w5);have kd:=Da.tr d5;have hfd:=hf.aK (KW5.tr d5) cR λ_ _=>id;have hcd:=d5.cell hc5 id;obtain⟨pn,hpn,dp⟩:=cF (k:=.i) (e:=λx=>x) hfd (gv Ux);obtain⟨pe,Ui,hce⟩:=cF (k:=.i) (e:=λx=>x) hfd (gv hE);have bn:=hb _ _ (gv Ux);have be:=hb _ _ (gv hE);have hw:=ok.w1 Ux;have In:0<=n/\n<(rX.l:Int):=⟨Ux.1,by have:=Ux.2;omega⟩;have Ie:0<=e/\e<(rX.l:Int):=⟨hE.1,by have:=hE.2;omega⟩;refine aF (λhs=>?_) (λhs=>?_)
   ·have QA:qH c n=false:=by simpa using hs
    have okE:G.JD c ds e n=(decide (0<=vW ds n) && decide (vW ds n+G.wt n=vW ds e)):=by unfold Gr.JD;rw[QA];rfl
    refine aJ (λ_=>⟨In,aA hpn (aE (k:=.i) (vW ds n) dp ?_)⟩) (λh=>absurd In.2 h);refine aJ (λh0=>⟨In,aA hpn (aE (k:=.i) (vW ds n) dp ⟨Ie,aA Ui (aE (k:=.i) (vW ds e) hce ?_)⟩)⟩) (λh0=>next _ kd ?_)
    ·refine aJ (λRW=>⟨In,aA hpn (aE (k:=.i) (vW ds n) dp ⟨Ie,aA Ui (aE (k:=.i) (vW ds e) hce (aE (k:=.i) (G.wt n) hcd ?_))⟩)⟩) (λUy=>next _ kd ?_)
     ·rw[gM (n:=vW ds e-G.wt n) (by simp only[BW] at*;omega) (by simp only[BW] at*;omega)]
      refine aF (λheq=>?_) (λgF=>next _ kd ?_)
      ·have heq':vW ds n=vW ds e-G.wt n:=by simpa using heq
       have kH:G.JD c ds e n=true:=by rw[okE];simp only[tC,decide_eq_true_eq];exact⟨h0,aB⟩
       have:=hQ w5.drew (KW5.tr d5);rw[show G.Ai c ds e=some n from tx vS cV kH] at this;exact this
      ·have Ez:¬vW ds n=vW ds e-G.wt n:=by simpa using gF
       rw[okE];simp only[Bool.and_eq_false_iff,decide_eq_false_iff_not];exact .inr aB
     ·have hge2':¬vW ds n<vW ds e:=Uy
      rw[okE];simp only[Bool.and_eq_false_iff,decide_eq_false_iff_not];exact .inr aB
    ·have xi:¬vW ds n>=0:=h0
     rw[okE];simp only[Bool.and_eq_false_iff,decide_eq_false_iff_not];exact .inl aB
   ·have QA:qH c n=true:=by simpa using hs
    exact next _ kd (by unfold Gr.JD;rw[QA];rfl)
  have hc5':=hc.aK KW5 KO λ_ _=>id;refine aJ (λhlt3=>?_) (λhge3=>sD false (Gl aB).symm);obtain⟨pc,hpc,hcc⟩:=cF (k:=.bool) (e:=λx=>x) hc5' (YZ Ux.1 aB);exact⟨⟨Ux.1,hlt3⟩,aA hpc (aE (k:=.bool) (qH c n) hcc (sD _ rfl))⟩
 ·have ei:i=(G.kJ e).length:=aB
  subst ei;rw[oY] at vS;have:=hQ w2 (k1.tr k2);rw[show G.Ai c ds e=none from List.find?_eq_none.2 λx hx=>by rw[vS x hx];simp] at this;exact this
theorem vj{v e:Int}{W:aH}{Q:Sl->Bool->aH->Prop}(h:rR W t G)(hd:G.rX c v ds)(hf:Rd W rX 1 eI ds)(hc:Rd W dD 1 eB c)(hb:∀(v:Nat) x,ds[v]? =some x->-1<=x/\x<=102*BW)
  (vS:¬(G.qD e/\0<=vW ds e)->Q bD false W) (Qc:∀l s w',G.qD e->0<=vW ds e->G.LV c ds e l->dP w' cY 1 eI s l->aM W w'->(∀b,s.b=some b->W.heap.size<=b.block)->Q s true w'):
  pS (some ⟨t.t,0,none⟩) e rX dD W Q:=by
 unfold pS;have ok:=h.IH.ok;have hm:=ok.m1;have hl:=hd.1;have QC:=hf.len;rw[hl] at QC;refine aF (λh=>by simp at h) (λ_=>aJ (λh=>vS λh'=>aB) (λh0=>?_));refine aA rfl (aE (k:=.ptr) (some ⟨t.H.g,0,none⟩) h.cells.1 (sR h.IH ?_));rw[QC,Ys];refine aJ (λh=>vS λh'=>aB) (λh1=>?_);have hE:G.qD e:=⟨aB,aB⟩;obtain⟨p,hp,hcp⟩:=cF (k:=.i) (e:=λx=>x) hf (Rv hd hE);refine⟨⟨hE.1,hE.2⟩,aA hp (aE (k:=.i) (vW ds e) hcp (aJ (λPR=>vS λh'=>?_) (λuP=>?_)))⟩
 ·have:vW ds e<0:=PR
  omega
 have Fs:0<=vW ds e:=by have:¬vW ds e<0:=uP;omega
 obtain⟨tot,htot⟩:=ok.sy hd (vW ds e).toNat hE Fs aB;have htl:=htot.len ok;refine bO (λc' s w2=>∃(bP:Int) (l0 l:List Int) (o:Sl),c'=l.length/\s=(bP,o,())/\G.qD bP/\G.LV c ds bP l/\l0++l=tot/\aM W w2/\dP w2 cY 1 eI o l0/\(∀b,o.b=some b->W.heap.size<=b.block)) tot.length
  ⟨e,[],tot,bD,rfl,rfl,hE,htot,rfl,aW.refl _ _,dP.nil _ _ _ _,λb hb=>by cases hb⟩ ?_
 rintro c' s w2 ⟨bP,l0,l,o,rfl,rfl,hcE,hlw,hcat,k2,v2,f2⟩ X hX;dsimp only;obtain⟨p2,Ku,hcp2⟩:=cF (k:=.i) (e:=λx=>x) (hf.aK k2 cR λ_ _=>id) (Rv hd hcE);refine⟨⟨hcE.1,hcE.2⟩,aA Ku (aE (k:=.i) (vW ds bP) hcp2 ?_)⟩;cases hlw with
 |nil hz=>
  refine aJ (λh=>absurd (show vW ds bP>0 from h) aB) (λ_=>?_);rw[tB] at hcat;subst hcat;exact Qc _ o w2 hE Fs htot v2 k2 f2
 | @cons _ n l hz EP hlw=>
  refine aJ (λ_=>?_) (λh=>absurd (show vW ds bP>0 from hz) h);refine step_i (h.aN k2) hcE (hf.aK k2 cR λ_ _=>id) hl (hc.aK k2 KO λ_ _=>id) hb λw3 k3=>?_;rw[EP];dsimp only;have hnE:=(G.iI.1 (G.OI EP).1).2.1;refine aJ (λh=>absurd hnE.1 (by have:n<0:=h;omega)) (λ_=>?_);refine bK λw4 o4 k4 z4=>?_;have k34:=k3.tr k4;have v4:=v2.aK k34 λ_ _=>id;have vx:dP w4 cY 1 eI ⟨some ⟨w3.heap.size,0,none⟩,1,1⟩ [n]:=dP.new fG [n] o4 (by simp[maxLen]);have hl0:l0.length<=tot.length:=by rw[<-hcat];simp
  have hz3:=k34.size;have hz2:=k2.size;refine fN iK fG ES v4 (vx.rd fG) (by simp;omega) (by simp;omega) λr w5 v5 m5 f5 _=>?_;refine hX l.length _ _ dK ⟨n,l0++[n],l,r,rfl,rfl,hnE,hlw,by rw[<-hcat];simp,(k2.tr k34).fresh m5 λk ⟨b,hb,e⟩=>by rw[e];exact f2 b hb,v5,λb hb=>?_⟩;rcases f5 with h1|⟨a,ha,cJ⟩
  ·exact f2 b (by rw[<-h1];exact hb)
  ·rw[hb] at ha;cases ha;omega
end
end
section
section
variable{HL:Ln}{n:Nat}{A L:List bQ}{R:List Int}{W:aH}
theorem nx_down{fs:List Int}(hA:rP n A):Qq n (uR n fs) (DP A R) (λe=>e.f):=by
 refine⟨λv h=>h.2,λv e he=>?_⟩;have hm:=hA.vQ e (iB.1 (jE.1 he).1).1;exact⟨hm.1,hm.2.1,hm.2.2.2.2.2.1,hm.2.2.2.2.2.2.1⟩
theorem sdown_i{to:Sl}{ts:List Int}{Q:(Sl×Sl×Unit)->aH->Prop}(h:nY W HL n A R)(hn:n<=51)(hf:Rd W to 1 eI ts)(QC:ts.length<=1000)
  (hQ:∀s1 s2 ds bs w',Grown n (uR n ts) (DP A R) (λe=>e.f) ds bs->dP w' cY 1 eI s1 ds->dP w' cY 1 eI s2 bs->aM W w'->(∀b,s1.b=some b->W.heap.size<=b.block)->(∀b,s2.b=some b->W.heap.size<=b.block)->Q (s1,s2,()) w'):
  xC (some ⟨HL.gl,0,none⟩) to W Q:=by
 unfold xC;refine bK λw1 o1 k1 z1=>?_;refine grow_i (nx:=DP A R) (en:=λe=>e.f) (h.aN k1) hn (hf.aK k1 cR λ_ _=>id) QC (nx_down h.LJ.ok) (λv=>?_) (λv w K hw hK=>?_) (λe w K hK=>?_) λs1 s2 ds bs w2 hG v1 v2 k2 f1 f2=>?_
 ·have:=h.LJ.ok.FA v
  have:(DP A R v).length<=(nJ A v).length:=vU _ _;omega
 ·refine pA aAx iA (first:=#[.pointer (some ⟨HL.gl,0,none⟩)]) (cap:=#[]) (gI (ks:=[.c .ptr,.i]) (t:=(some ⟨HL.gl,0,none⟩,v,())) ?_)
  show HR (some ⟨HL.gl,0,none⟩) v w λs w'=>K (.slice s.b s.l s.c) w';exact Down_i hw hK
 ·refine pA ZV iA (first:=#[]) (cap:=#[]) (gI (ks:=[.agg [.i,.i,.i,.i]]) (t:=(nM e,())) ?_)
  show rL (nM e) w λx w'=>K (aD x) w';unfold rL;refine bK λw3 oa k3 _=>?_;exact aE (k:=.i) e.f (sQ (x:=e) oa).1 (hK w3 k3)
 ·have z:=k1.size
  refine TI (a:=s1) (b:=s2) (o1.aK k2 id) rfl λw3 o3 m3 _=>?_;refine bJ (l:=[.slice,.slice]) (s1,s2,()) (iM o3) ?_;exact hQ s1 s2 ds bs w3 hG (v1.aK m3 λa ha e=>by have:=f1 a ha;have:a.block=W.heap.size:=e;omega) (v2.aK m3 λa ha e=>by have:=f2 a ha;have:a.block=W.heap.size:=e;omega)
   ((k1.tr k2).fresh m3 λk e=>by rw[show k=W.heap.size from e];exact iT _) (λb hb=>by have:=f1 b hb;omega) (λb hb=>by have:=f2 b hb;omega)
end
end
structure uJ where
 e:Nat
 t:Lm
 L:Ln
 ord:Sl
abbrev Gr.A(G:Gr):List bQ:=(cZ G.m G.LJ G.m).all
abbrev Gr.R(G:Gr):List Int:=(cZ G.m G.LJ G.m).jA
structure zC(w:aH)(E:uJ)(G:Gr):Prop where
 head:cW w E.e Rl [.pointer (some ⟨E.t.t,0,none⟩),.pointer (some ⟨E.L.gl,0,none⟩),sv E.ord]
 RG:rR w E.t G
 lev:nY w E.L G.m (Gr.A G) (Gr.R G)
 ord:∃os:List Int,Rd w E.ord 1 eI os/\os.length=G.m/\∀i,i<G.m->∃v:Nat,v<G.m/\os[i]? =some (v:Int)/\cD (Gr.R G) (v:Int)=(G.m:Int)-1-i
 oty:Ty w E.ord
theorem zC.aN{w w':aH}{E:uJ}{G:Gr}(h:zC w E G)(k:aM w w'):zC w' E G:=by
 obtain⟨os,h1,h2⟩:=h.ord;exact⟨h.head.aK k id,h.RG.aN k,h.lev.aN k,⟨os,h1.aK k cR λ_ _=>id,h2⟩,h.oty.aN k⟩
theorem zC.cells{w:aH}{E:uJ}{G:Gr}(h:zC w E G):w.cell? ((⟨E.e,0,none⟩:Addr).add 0)=some (.pointer (some ⟨E.t.t,0,none⟩))/\w.cell? ((⟨E.e,0,none⟩:Addr).add 1)=some (.pointer (some ⟨E.L.gl,0,none⟩))/\w.cell? ((⟨E.e,0,none⟩:Addr).add 2)=some (sv E.ord):=FU h.head
theorem ENew_i{g:GT}{G:Gr}{W:aH}{Q:cL->Int->aH->Prop}(h:SF W g G)(ok:zG G)(hQ:∀E w',zC w' E G->aM W w'->Q (some ⟨E.e,0,none⟩) 0 w'):zY g W Q:=by
 unfold zY;have hm:=ok.m1;refine bK λw1 o1 k1 z1=>?_;refine bJ (l:=[.slice,.slice,.slice]) g (GG (g:=g) o1) ?_;refine gNew_i (g:=g) (h.aN k1) ok λH w2 hH k2 _=>?_;refine aF (λh=>by simp at h) (λ_=>?_);refine TNew_i hH λt w3 ht htH k3=>?_;subst htH;refine aA rfl (aE (k:=.ptr) (some ⟨t.H.g,0,none⟩) ht.cells.1 (sR ht.IH ?_));refine Arcs_i ht λs1 w5 v5 k5 f5=>?_;have hal:=G.arcs_len hm.2;refine KA (p:=λx=>x.f==x.t) (C:=λ_=>True) v5 aB trivial (λ_ _ _ _=>trivial) (λx w K _ _ hK=>?_) λs2 w6 v6 m6 e6=>?_
 ·refine pA Cn iA (gI (ks:=[.agg [.i,.i,.i,.i]]) (t:=(nM x,())) ?_)
  show sY _ _ _;unfold sY;refine bK λwa oa ka _=>?_;have oa':cW wa w.heap.size iR (dZ x):=oa;exact aE (k:=.i) x.f (sQ oa').1 (aE (k:=.i) x.t (sQ oa').2.1 (hK wa ka))
 have hnet:(G.IY.filter λx=>!(x.f==x.t))=G.LJ:=rfl;rw[hnet] at v6;have k36:aM w3 w6:=k5.fresh m6 λk ⟨b,hb,e⟩=>by rw[e];exact f5 b hb
 have hnl:G.LJ.length<=2601:=iF (vU _ _) hal;refine New_i (v6.rd kI) aB (λw7 k7 RX=>?_) λw7 N n0 n1 uF hN k7 _=>?_
 ·exact absurd ⟨aB,aB,λa ha=>by rw[kE];exact(ok.VN a ha).1⟩ RX
 rw[kE,NG (p:=[]) (by simpa using ok.TA),List.nil_append] at hN;have d7:aM w7 w7.drew:=aW.drew (aW.refl _ w7);have k37:=(k36.tr k7).tr d7;have ht7:=ht.aN k37;refine aA rfl (aE (k:=.ptr) (some ⟨t.H.g,0,none⟩) ht7.cells.1 ?_);have fh:∀e∈G.LJ,e.w<=40:=λe he=>(ok.VN e he).2.1;refine Build_i (hN.aN d7) hm.2 fh λw8 HL hL k8 _=>?_;have hL':nY w8 HL G.m (Gr.A G) (Gr.R G):=hL;clear hL;have k38:=k37.tr k8;have ht8:=ht.aN k38;refine⟨ht8.cells.1,sR ht8.IH ?_⟩;refine BQ iK (aY:=eI) (0:Int) rfl fG aB (oX _) aB aB λeR v10 IG=>?_;simp only[kE] at v10 ⊢;refine bK λeC o11 KS z11=>?_;have z10:w8.heap.size<eR.heap.size:=v10.lt rfl;generalize Bu:(⟨some ⟨w8.heap.size,0,none⟩,G.m,G.m⟩:Sl)=s3 at*;have s3b:s3.b=some ⟨w8.heap.size,0,none⟩:=by rw[<-Bu]
 have o11':cW eC eR.heap.size Rl [.pointer (some ⟨t.t,0,none⟩),.pointer (some ⟨HL.gl,0,none⟩),sv s3]:=by
  have:=o11;rw[<-Bu];exact this
 have k811:=IG.tr KS;have hL11:=hL'.aN k811;have ht11:=ht8.aN k811;have c11:=FU o11';refine aE (k:=.slice) s3 c11.2.2 ?_;have v11:=v10.aK KS λ_ _=>id;have mw:∀v:Int,0<=v->v<G.m->0<=cD (Gr.R G) v/\cD (Gr.R G) v<G.m:=λv h0 h1=>Gt ok.TA fh hm.2 h0 h1;have rne:∀v w:Nat,v<G.m->w<G.m->v≠w->cD (Gr.R G) (v:Int)≠cD (Gr.R G) (w:Int):=λv w hv hw gF=>Dr ok.TA fh hm.2 aB aB aB aB aB;have ronto:∀{r:Nat},r<G.m->∃v:Nat,v<G.m/\cD (Gr.R G) (v:Int)=(r:Int):=λhr=>zi ok.TA fh hm.2 hr;have s3l:s3.l=G.m:=by rw[<-Bu]
 have KW8:=k1.tr (k2.tr (k3.tr k38));clear hnl hL11 ht11 c11;generalize hRR:Gr.R G=R at*;refine bO (λc s eQ=>∃(v:Nat) (os:List Int),v<=G.m/\c=G.m-v/\s=((v:Int),())/\aM w8 eQ/\cW eQ eR.heap.size Rl [.pointer (some ⟨t.t,0,none⟩),.pointer (some ⟨HL.gl,0,none⟩),sv s3]/\dP eQ cY 1 eI s3 os/\os.length=G.m/\
   ∀u:Nat,u<v->os[((G.m:Int)-1-cD R (u:Int)).toNat]? =some (u:Int)) G.m ⟨0,_,iG _,rfl,rfl,k811,o11',v11,by simp,λu hu=>aB⟩ ?_
 rintro c s eQ ⟨v,os,hv,rfl,rfl,KF,Cz,XZ,fU,hos⟩ X hX;dsimp only;refine aJ (λcJ=>?_) (λkT=>?_)
 ·have kF:v<G.m:=aB
  have d12:aM eQ eQ.drew:=aW.drew (aW.refl _ eQ);have kd:=KF.tr d12;have od:=Cz.aK d12 id;obtain⟨c0,c1,c2⟩:=FU od;have htd:=ht8.aN kd;have hLd:=hL'.aN kd;refine aE (k:=.slice) s3 c2 (aA rfl (aE (k:=.ptr) (some ⟨t.H.g,0,none⟩) htd.cells.1 (aE (k:=.ptr) (some ⟨HL.gl,0,none⟩) c1 (sR htd.IH ⟨c1,c2,?_⟩))));refine Gj hLd ⟨c2,?_⟩;obtain⟨r0,r1⟩:=mw (v:Int) aB aB;have wi:aQ ((aQ ((G.m:Int)-(1:Int)))-cD R (v:Int))=(((G.m:Int)-1-cD R (v:Int)).toNat:Int):=by
   rw[gM (n:=(G.m:Int)-1) aB aB,gM aB aB];omega
  rw[wi,kE];have hil:((G.m:Int)-1-cD R (v:Int)).toNat<G.m:=aB;refine⟨⟨aB,aB⟩,aA s3b ?_⟩;refine(XZ.aK d12 λ_ _=>id).store fG s3b (i:=((G.m:Int)-1-cD R (v:Int)).toNat) aB (v:Int) (v:=aD (v:Int)) rfl cU (ES _) λgO v13 cz _=>?_;have m13':aW (λk=>k=w8.heap.size) eQ.drew gO:=cz;rw[pZ v aB];refine hX _ _ _ aB ⟨v+1,_,kF,rfl,rfl,kd.fresh m13' λk e=>by rw[show k=w8.heap.size from e];exact iT _,od.aK m13' λe=>by have e':eR.heap.size=w8.heap.size:=e;omega,v13,by rw[pI];exact fU,λu hu=>?_⟩;rw[vR]
  by_cases e:u=v
  ·subst e;rw[if_pos rfl,if_pos aB]
  ·have gF:=rne u v aB kF e
   obtain⟨q0,q1⟩:=mw (u:Int) aB aB;rw[if_neg aB];exact hos u aB
 ·have ev:v=G.m:=aB
  subst ev;subst hRR;refine hQ ⟨eR.heap.size,t,HL,s3⟩ eQ ⟨Cz,ht8.aN KF,hL'.aN KF,⟨os,XZ.rd fG,fU,λi hi=>?_⟩,dP.Kn XZ ⟨by decide,by decide⟩⟩ (KW8.tr KF);obtain⟨u,hu,hr⟩:=ronto (r:=G.m-1-i) aB;have:=hos u hu;rw[hr,show((G.m:Int)-1-((G.m-1-i:Nat):Int)).toNat=i by omega] at this;exact⟨u,hu,this,by rw[hr];omega⟩
open Tryz (prog)
theorem far_i{E:uJ}{G:Gr}{node:Int}{W:aH}{Q:Sl->aH->Prop}(h:zC W E G)(hQ:∀s ds w',G.rX [] node ds->dP w' cY 1 eI s ds->aM W w'->(∀b,s.b=some b->W.heap.size<=b.block)->(∀(v:Nat) x,ds[v]? =some x->-1<=x/\x<=102*BW)->Q s w'):
  WT (some ⟨E.e,0,none⟩) node W Q:=by
 unfold WT;have ok:=h.RG.IH.ok;have hm:=ok.m1;have fh:∀e∈G.LJ,e.w<=40:=λe he=>(ok.VN e he).2.1;have mw:∀v:Int,0<=v->v<G.m->0<=cD (Gr.R G) v/\cD (Gr.R G) v<G.m:=λv h0 h1=>Gt ok.TA fh hm.2 h0 h1;have rne:∀v w:Nat,v<G.m->w<G.m->v≠w->cD (Gr.R G) (v:Int)≠cD (Gr.R G) (w:Int):=λv w hv hw gF=>Dr ok.TA fh hm.2 aB aB aB aB aB;have hA:=h.lev.LJ.ok;have d:aM W W.drew:=aW.drew (aW.refl _ W);have hd:=h.aN d;refine aA rfl (aE (k:=.ptr) (some ⟨E.L.gl,0,none⟩) hd.cells.2.1 (aA rfl (aE (k:=.ptr) (some ⟨E.t.t,0,none⟩) hd.cells.1 (aA rfl (aE (k:=.ptr) (some ⟨E.t.H.g,0,none⟩) hd.RG.cells.1 ?_)))));refine gIn_i hd.RG.IH λs1 w1 v1 k1 f1=>?_;have K1:=d.tr k1;have h1:=h.aN K1;refine⟨h1.cells.2.1,?_⟩;unfold FF;refine sdown_i h1.lev hm.2 (v1.rd fG) (by have:=G.tf node;omega) λs2 sb ds bs w2 hG v2 _ k2 f2 _=>?_;have K2:=K1.tr k2;have h2:=h.aN K2;have hz:=K1.size;refine aA rfl (aE (k:=.slice) E.ord h2.cells.2.2 ?_);obtain⟨os,ho,hol,hos⟩:=h.ord;have hll:=ho.len;rw[hol] at hll;have F0:Lo G.m (Gr.A G) (Gr.R G) (GW (uR G.m (G.Tt node)) (DP (Gr.A G) (Gr.R G)) (λe=>e.f)) 0 ds:=Lo.start hG.rX (λv h0 h1=>(mw v h0 h1).2) hG.gH;generalize hDn:GW (uR G.m (G.Tt node)) (DP (Gr.A G) (Gr.R G)) (λe=>e.f)=Dn at F0;clear hG;have LP:∀b,s2.b=some b->W.heap.size<=b.block:=λb hb=>iF hz (f2 b hb);refine bO (λc s w3=>∃(i:Nat) (ds:List Int),i<=G.m/\c=G.m-i/\s=((i:Int),())/\aM W w3/\dP w3 cY 1 eI s2 ds/\Lo G.m (Gr.A G) (Gr.R G) Dn i ds) G.m ⟨0,ds,iG _,rfl,rfl,K2,v2,F0⟩ ?_;clear F0 v2 ds h2;rintro c s w3 ⟨i,ds,hi,rfl,rfl,k3,v3,F⟩ X hX;dsimp only;refine aJ (λcJ=>?_) (λkT=>?_)
 ·have dI:i<G.m:=aB
  obtain⟨v,hv,Jz,hrv⟩:=hos i dI;obtain⟨p,hp,hc⟩:=cF (k:=.i) (e:=λx=>x) (ho.aK k3 cR λ_ _=>id) Jz;have h3:=h.aN k3;rw[kE];refine⟨⟨aB,cJ⟩,aA hp (aE (k:=.i) (v:Int) hc (aA rfl (aE (k:=.ptr) (some ⟨E.L.gl,0,none⟩) h3.cells.2.1 ?_)))⟩;refine Up_i h3.lev λs4 w4 v4 k4 f4=>?_;have l4:=v4.len;have hul:(upL (Gr.A G) (Gr.R G) (v:Int)).length<=262144:=iF (vU _ _) (iF (vU _ _) (hA.len aB));obtain⟨g2,Ad⟩:∃g2,s2.b=some ⟨g2,0,none⟩:=by
   rcases v3.gN with⟨_,hh⟩|⟨g,_,hb,_⟩
   ·have:=v3.cap;have:=v3.len;have:=F.len;omega
   ·exact⟨g,hb⟩
  have g2lt:g2<w3.heap.size:=v3.lt Ad;have f4':∀b,s4.b=some b->b.block≠g2:=λb hb=>by have:=f4 b hb;omega
  have g2low:W.heap.size<=g2:=LP _ Ad;have hupm:∀e∈upL (Gr.A G) (Gr.R G) (v:Int),ET G.m e/\cD (Gr.R G) (v:Int)<cD (Gr.R G) e.t:=λe he=>by
   unfold upL at he;rw[jE,eJ] at he;exact⟨hA.vQ e he.1.1,by simpa using he.2⟩
  obtain⟨x0,hx0⟩:∃x0,ds[v]? =some x0:=⟨_,gS (by rw[F.len];exact hv)⟩;have hL0:iC (λd=>Dn (v:Int) d\/∃e∈(upL (Gr.A G) (Gr.R G) (v:Int)).take 0,∃d',UPD (Gr.A G) (Gr.R G) Dn e.t d'/\d=e.w+d') x0:=(F.dn v x0 hx0 aB).congr λk=>by simp
  have hb0:=F.gH v x0 hx0;have hset0:ds.set v x0=ds:=by
   apply AX;intro j;rw[vR]
   by_cases e:v=j
   ·subst e;rw[if_pos rfl,if_pos (by rw[F.len];exact hv),hx0]
   ·rw[if_neg e]
  generalize hU:upL (Gr.A G) (Gr.R G) (v:Int)=us at*;refine bO (λc s w5=>∃(j:Nat) (x:Int),j<=us.length/\c=us.length-j/\s=((j:Int),())/\aM W w5/\dP w5 cY 1 eI s2 (ds.set v x)/\dP w5 iR 4 dZ s4 us/\(-1<=x/\x<=(G.m+(i+1:Nat))*BW)/\
    iC (λd=>Dn (v:Int) d\/∃e∈us.take j,∃d',UPD (Gr.A G) (Gr.R G) Dn e.t d'/\d=e.w+d') x) us.length
   ⟨0,x0,iG _,rfl,rfl,k3.tr k4,by rw[hset0];exact v3.aK k4 λ_ _=>id,v4,⟨hb0.1,by simp only[BW] at*;omega⟩,hL0⟩ ?_
  rintro c s w5 ⟨j,x,hj,rfl,rfl,k5,v5,v4',hbx,hL⟩ Y hY;dsimp only;refine aJ (λRW=>?_) (λUy=>?_)
  ·have uC:j<us.length:=aB
   have cV:=gS uC;obtain⟨uF,hrk⟩:=hupm _ (nC uC);have rT:=FO uC;generalize us[j]=e at*;obtain⟨pa,hpa,hh⟩:=wG (v4'.rd kI) cV;rw[kE];refine⟨⟨aB,RW⟩,aA hpa (bJ (nM e) hh ?_)⟩;refine GV (x:=e) λw7 k7 o7 _=>?_;refine aE (k:=.i) e.t (sQ o7).2.1 ?_;have k57:=k5.tr k7;have v7:=v5.aK k7 λ_ _=>id;have hvt:v≠e.t.toNat:=λh=>by
    have:e.t=(v:Int):=by have:=uF.2.2.1;omega
    rw[this] at hrk;omega
   obtain⟨y,hy⟩:∃y,ds[e.t.toNat]? =some y:=⟨_,gS (by rw[F.len];have:=uF.2.2.1;have:=uF.2.2.2.1;omega)⟩;have hyt:(e.t.toNat:Int)=e.t:=Int.toNat_of_nonneg uF.2.2.1;have hLy:=F.up e.t.toNat y hy (by rw[hyt];omega);rw[hyt] at hLy;have hby:=F.gH _ y hy;have hys:(ds.set v x)[e.t.toNat]? =some y:=by rw[vR,if_neg hvt];exact hy
   have Ei:(ds.set v x)[v]? =some x:=by rw[vR,if_pos rfl,if_pos (by rw[F.len];exact hv)]
   obtain⟨p1,hp1,bu⟩:=cF (k:=.i) (e:=λx=>x) (v7.rd fG) hys;have l7:=v7.len;rw[pI,F.len] at l7;have Tv:=uF.2.2.2.2.2.1;have hw2:=uF.2.2.2.2.2.2.1;have LP:=hL.lower hLy (w:=e.w) aB;have hcon:∀z,iC (λd=>(Dn (v:Int) d\/∃e∈us.take j,∃d',UPD (Gr.A G) (Gr.R G) Dn e.t d'/\d=e.w+d')\/∃d',UPD (Gr.A G) (Gr.R G) Dn e.t d'/\d=e.w+d') z->iC (λd=>Dn (v:Int) d\/∃e∈us.take (j+1),∃d',UPD (Gr.A G) (Gr.R G) Dn e.t d'/\d=e.w+d') z:=λz hz=>hz.congr λk=>by
    rw[rT]
    constructor
    ·rintro((h1|⟨e',vT,h1⟩)|h1)
     ·exact .inl h1
     ·exact .inr ⟨e',jK.2 (.inl vT),h1⟩
     ·exact .inr ⟨e,by simp,h1⟩
    ·rintro(h1|⟨e',vT,h1⟩)
     ·exact .inl (.inl h1)
     ·rcases jK.1 vT with vT|vT
      ·exact .inl (.inr ⟨e',vT,h1⟩)
      ·have:e'=e:=by simpa using vT
       rw[this] at h1;exact .inr h1
   have It:0<=e.t/\e.t<(s2.l:Int):=⟨uF.2.2.1,by rw[l7];exact uF.2.2.2.1⟩;have Iv:0<=(v:Int)/\(v:Int)<(s2.l:Int):=⟨aB,by rw[l7];omega⟩;have o7':=sQ o7;refine⟨It,aA hp1 (aE (k:=.i) y bu ?_)⟩;have same:∀wz,aM w7 wz->¬(0<=y/\(x<0\/y+e.w<x))->Y (aQ ((j:Int)+1),()) wz:=λwz kz hn=>by
    rw[if_neg hn] at LP;rw[pZ j aB];exact hY _ _ _ aB ⟨j+1,x,uC,rfl,rfl,k57.tr kz,v7.aK kz λ_ _=>id,(v4'.aK k7 λ_ _=>id).aK kz λ_ _=>id,hbx,hcon _ LP⟩
   have d7:aM w7 w7.drew:=aW.drew (aW.refl _ w7);have KY:y+e.w<=(G.m+(i+1:Nat))*BW:=by simp only[BW] at*;omega
   have wsm:0<=y->aQ (y+e.w)=y+e.w:=λh0=>gM aB (by simp only[BW] at*;omega);have put:0<=y->(x<0\/y+e.w<x)->aI prog cY ((⟨g2,0,none⟩:Addr).add (v*1)) (aD (y+e.w)) w7.drew λw8=>Y (aQ ((j:Int)+1),()) w8:=λh0 hlt3=>by
    rw[if_pos ⟨h0,hlt3⟩] at LP;refine(v7.aK d7 λ_ _=>id).store fG Ad (i:=v) (by rw[pI,F.len];exact hv) (y+e.w) (v:=aD (y+e.w)) rfl cU (ES _) λw8 v8 m8 _=>?_;have m8':aW (λk=>k=g2) w7.drew w8:=m8;rw[List.set_set] at v8;rw[pZ j aB];refine hY _ _ _ aB ⟨j+1,y+e.w,uC,rfl,rfl,(k57.tr d7).fresh m8' λk e=>by rw[show k=g2 from e];exact g2low,v8,((v4'.aK k7 λ_ _=>id).aK d7 λ_ _=>id).aK m8' λb hb e=>f4' b hb e,⟨aB,KY⟩,hcon _ LP⟩
   refine aJ (λh0=>?_) (λh0=>same _ d7 λhh=>h0 hh.1);have xi:0<=y:=h0;obtain⟨p2,Ku,RM⟩:=cF (k:=.i) (e:=λx=>x) ((v7.aK d7 λ_ _=>id).rd fG) Ei;have ow:∀{q:Addr},w7.cell? q=some (aD e.w)->w7.drew.cell? q=some (aD e.w):=λhq=>d7.cell hq id;rw[kE];refine⟨Iv,aA Ku (aE (k:=.i) x RM ?_)⟩;refine aJ (λPR=>?_) (λhnn=>?_)
   ·refine aE (k:=.i) e.w (ow o7'.2.2.1) ?_
    rw[wsm xi];exact⟨Iv,aA Ad (put xi (.inl PR))⟩
   ·refine aE (k:=.i) e.w (ow o7'.2.2.1) ⟨Iv,aA Ku (aE (k:=.i) x RM ?_)⟩
    rw[wsm xi];refine aJ (λhlt4=>?_) (λhge4=>same _ d7 λhh=>hh.2.elim hnn hge4);refine aE (k:=.i) e.w (ow o7'.2.2.1) ?_;rw[wsm xi];exact⟨Iv,aA Ad (put xi (.inr hlt4))⟩
  ·have ej:j=us.length:=aB
   subst ej;rw[oY] at hL;rw[pZ i aB];refine hX _ _ _ aB ⟨i+1,_,dI,rfl,rfl,k5,v5,F.step rne hv hrv (hL.congr λk=>by rw[<-hU];exact upd_iff.symm) hbx⟩
 ·have ei:i=G.m:=aB
  subst ei;have hf:=F.done λv h0 h1=>(mw v h0 h1).1;rw[<-hDn] at hf;exact hQ s2 ds w3 (ok.kc hf) v3 k3 LP λv x hx=>by have:=F.gH v x hx;simp only[BW] at*;omega
theorem IndexI_i{s:Sl}{xs:List Int}{f:Value}{p:Int->Bool}{w:aH}{Q:Int->aH->Prop}{C:aH->Prop}(hs:Rd w s 1 eI xs)(hl:xs.length<1000000)(hC:C w)(bz:∀w1 w2,C w1->aM w1 w2->C w2)
  (hf:∀x w1 (K:WQ Value),C w1->x∈xs->(∀w2,aM w1 w2->K (.bool (p x)) w2)->lI prog f [aD x] w1 K)
  (hQ:∀i w',aM w w'->(0<=i↔∃x∈xs,p x=true)->Q i w'):iN s f w Q:=by
 unfold iN;have sl:=hs.len;refine bO (λc t w1=>∃(i:Nat),i<=xs.length/\c=xs.length-i/\t=((i:Int),())/\aM w w1/\∀x∈xs.take i,p x=false) xs.length ⟨0,iG _,rfl,rfl,aW.refl _ _,by simp⟩ ?_;rintro c t w1 ⟨i,hi,rfl,rfl,k1,hn⟩ X hX;dsimp only;refine aJ (λcJ=>?_) (λkT=>?_)
 ·have dI:i<xs.length:=aB
  have cV:=gS dI;have fP:=nC dI;have rT:=FO dI;generalize xs[i]=x at*;obtain⟨q,hq,hc⟩:=cF (k:=.i) (e:=λx=>x) (hs.aK k1 cR λ_ _=>id) cV;rw[kE];refine⟨⟨aB,cJ⟩,aA hq (aE (k:=.i) x hc ?_)⟩;refine hf x w1 _ (bz _ _ hC k1) fP λw2 k2=>⟨p x,rfl,?_⟩;refine aF (λhp=>hQ _ w2 (k1.tr k2) ⟨λ_=>⟨x,fP,hp⟩,λ_=>aB⟩) (λhp=>?_);rw[pZ i aB];refine hX _ _ _ aB ⟨i+1,dI,rfl,rfl,k1.tr k2,λy hy=>?_⟩;rw[rT] at hy;rcases jK.1 hy with hy|hy
  ·exact hn y hy
  ·have:y=x:=by simpa using hy
   rw[this];exact hp
 ·have ei:i=xs.length:=aB
  subst ei;rw[oY] at hn;exact hQ (-1) w1 k1 ⟨λh=>aB,λ⟨x,hx,hp⟩=>by rw[hn x hx] at hp;cases hp⟩
theorem NP{s:Sl}{xs:List Int}{f:Value}{p:Int->Bool}{w:aH}{Q:Bool->aH->Prop}{C:aH->Prop}(hs:Rd w s 1 eI xs)(hl:xs.length<1000000)(hC:C w)(bz:∀w1 w2,C w1->aM w1 w2->C w2)
  (hf:∀x w1 (K:WQ Value),C w1->x∈xs->(∀w2,aM w1 w2->K (.bool (p x)) w2)->lI prog f [aD x] w1 K)
  (hQ:∀b w',aM w w'->(b=true↔∃x∈xs,p x=true)->Q b w'):dR s f w Q:=by
 unfold dR;exact IndexI_i hs hl hC bz hf λi w' k hi=>hQ _ w' k (by rw[<-hi];simp)
abbrev AT:=Sl×Int×Bool×Bool×Unit
abbrev UY(a:AT):List Value:=[sv a.1,aD a.2.1,.bool a.2.2.1,.bool a.2.2.2.1]
theorem ie(a:AT):∀u∈UY a,u.oneCell'=true:=by intro u hu;simp at hu;rcases hu with rfl|rfl|rfl|rfl<;>rfl
theorem sj{w:aH}{b:Nat}{e:TypeId}{a:AT}(h:cW w b e (UY a)):bY w ⟨b,0,none⟩ 0 (qG [.slice,.i,.bool,.bool] a):=iM h
theorem Lb{w:aH}{g:Nat}{e:TypeId}{x y z u:Value}(h:cW w g e [x,y,z,u]):w.cell? ((⟨g,0,none⟩:Addr).add 0)=some x/\w.cell? ((⟨g,0,none⟩:Addr).add 1)=some y/\w.cell? ((⟨g,0,none⟩:Addr).add 2)=some z/\w.cell? ((⟨g,0,none⟩:Addr).add 3)=some u:=by
 refine⟨?_,?_,?_,?_⟩<;>rw[aS,h.cell]<;>rfl
theorem ansEnd{T:TypeId}{w:aH}{b:Nat}{a:AT}{Q:AT->aH->Prop}(hT:(prog.info? T).map (·.size)=some 4)(h:cW w b T (UY a))(hQ:∀w',cW w' b T (UY a)->aW (λk=>k=b) w w'->Q a w'):
  eX [.slice,.i,.bool,.bool] w ⟨b,0,none⟩ λ(t1:AT)=>aI prog T ⟨b,0,none⟩ (Value.agg #[(Value.slice t1.1.b t1.1.l t1.1.c),(aD t1.2.1),(Value.bool t1.2.2.1),(Value.bool t1.2.2.2.1)]) w λw3=>
   eX [.slice,.i,.bool,.bool] w3 ⟨b,0,none⟩ λ(t2:AT)=>Q (t2.1,t2.2.1,t2.2.2.1,t2.2.2.2.1,()) w3:=by
 refine bJ (l:=[.slice,.i,.bool,.bool]) a (sj h) ?_;refine eN (vs:=UY a) h hT rfl (ie a) λw3 o3 m3 _=>?_;exact bJ (l:=[.slice,.i,.bool,.bool]) a (sj o3) (hQ w3 o3 m3)
theorem Way_i{E:uJ}{G:Gr}{at_ node:Int}{dD:Sl}{c:List Bool}{W:aH}{Q:AT->aH->Prop}(h:zC W E G)(hc:Rd W dD 1 eB c)
  (hQ:∀s wt f r l w',G.ME node at_ c l wt f r->dP w' cY 1 eI s l->(∀x∈l,G.qD x)->l.length<=51->aM W w'->(∀b,s.b=some b->W.heap.size<=b.block)->Q (s,wt,f,r,()) w'):MZ (some ⟨E.e,0,none⟩) at_ node dD W Q:=by
 unfold MZ;have ok:=h.RG.IH.ok;have hm:=ok.m1;refine bK λw1 o1 k1 z1=>bK λw2 o2 k2 z2=>?_;have K2:=k1.tr k2;have o2':cW w2 w1.heap.size Pu (UY (bD,0,false,false,())):=o2;have dQ:∀w3,aM w2 w3->¬G.XR node->eX [.slice,.i,.bool,.bool] w3 ⟨w1.heap.size,0,none⟩ λ(t1:AT)=>aI prog Pu ⟨w1.heap.size,0,none⟩ (Value.agg #[(Value.slice t1.1.b t1.1.l t1.1.c),(aD t1.2.1),(Value.bool t1.2.2.1),(Value.bool t1.2.2.2.1)]) w3 λw4=>
   eX [.slice,.i,.bool,.bool] w4 ⟨w1.heap.size,0,none⟩ λ(t2:AT)=>Q (t2.1,t2.2.1,t2.2.2.1,t2.2.2.2.1,()) w4:=λw3 k3 hn=>by
  refine ansEnd VZ (o2'.aK k3 id) λw4 _ m4=>hQ _ _ _ _ [] w4 (.no λd hv=>absurd hv hn) (dP.nil _ _ _ _) dK dK ((K2.tr k3).fresh m4 λk e=>by rw[show k=w1.heap.size from e];omega) λb hb=>by cases hb
 refine aF (λh=>by simp at h) (λ_=>aJ (λhn=>dQ w2 (aW.refl _ _) λhv=>aB) (λhn0=>?_));have h2:=h.aN K2;refine aA rfl (aE (k:=.ptr) (some ⟨E.t.t,0,none⟩) h2.cells.1 (aA rfl (aE (k:=.ptr) (some ⟨E.t.H.g,0,none⟩) h2.RG.cells.1 (OG h2.RG.IH ?_))));refine aJ (λhn=>dQ w2 (aW.refl _ _) λhv=>aB) (λhn1=>?_);have hN:G.XR node:=⟨aB,aB⟩;have d2:aM w2 w2.drew:=aW.drew (aW.refl _ w2);have hd2:=h2.aN d2;refine aA rfl (aE (k:=.ptr) (some ⟨E.t.t,0,none⟩) hd2.cells.1 ?_);refine far_i hd2 λs1 d0 w7 hd0 v7 k7 f7 b7=>?_;have k27:=d2.tr k7;have h7:=h2.aN k27;refine⟨h7.cells.1,?_⟩;have hb7:∀(v:Nat) x,d0[v]? =some x->-1<=x/\x<=102*BW:=b7;have dE:∀w8 s2 b1 l0,dP w8 cY 1 eI s2 l0->(∀b,s2.b=some b->w7.heap.size<=b.block)->aM w7 w8->((b1=false/\l0=[]/\∀d,¬G.gw [] node at_ d)\/(b1=true/\G.qD at_/\G.LV [] d0 at_ l0))->
   (aI prog BG ((⟨w1.heap.size,0,none⟩:Addr).add 0) (Value.slice s2.b s2.l s2.c) w8 λw9=>aI prog xP ((⟨w1.heap.size,0,none⟩:Addr).add 2) (Value.bool b1) w9 λeR=>
    ∀J1:(Unit)->aH->Prop,(∀(t7:Unit) (eC:aH),(aC (some ⟨E.e,0,none⟩) λa6=>xJ .ptr eC.drew (a6.add 0) λ(p4:cL)=>xJ .slice eC.drew ((⟨w1.heap.size,0,none⟩:Addr).add 0) λ(s3:Sl)=>pQ p4 s3 eC.drew λ(x2:Int) (_:Bool) eQ=>
     aI prog cY ((⟨w1.heap.size,0,none⟩:Addr).add 1) (aD x2) eQ λgO=>eX [.slice,.i,.bool,.bool] gO ⟨w1.heap.size,0,none⟩ λ(t8:AT)=>aI prog Pu ⟨w1.heap.size,0,none⟩ (Value.agg #[(Value.slice t8.1.b t8.1.l t8.1.c),(aD t8.2.1),(Value.bool t8.2.2.1),(Value.bool t8.2.2.2.1)]) gO λmC=>
     eX [.slice,.i,.bool,.bool] mC ⟨w1.heap.size,0,none⟩ λ(t9:AT)=>Q (t9.1,t9.2.1,t9.2.2.1,t9.2.2.2.1,()) mC)->J1 t7 eC)->
    xJ .slice eR ((⟨w1.heap.size,0,none⟩:Addr).add 0) λ(s4:Sl)=>dR s4 (Value.func (.func Sn) #[] #[(Value.pointer (some ⟨W.heap.size,0,none⟩))]) eR λ(b3:Bool) fO=>
    cond b3 (aC (some ⟨E.e,0,none⟩) λa7=>xJ .ptr fO.drew (a7.add 0) λ(p5:cL)=>aC (some ⟨E.e,0,none⟩) λa8=>xJ .ptr fO.drew (a8.add 0) λ(p6:cL)=>xJ .slice fO.drew ⟨W.heap.size,0,none⟩ λ(s5:Sl)=>xJ .slice fO.drew ⟨W.heap.size,0,none⟩ λ(s6:Sl)=>
     HV p6 node s5 fO.drew λ(s7:Sl) gR=>gR.cell? ⟨W.heap.size,0,none⟩=some (Value.slice s6.b s6.l s6.c)/\gR.cell? (a7.add 0)=some (Value.pointer p5)/\pS p5 at_ s7 s6 gR λ(s8:Sl) (b4:Bool) iZ=>
     aI prog BG ((⟨w1.heap.size,0,none⟩:Addr).add 0) (Value.slice s8.b s8.l s8.c) iZ λlE=>aI prog xP ((⟨w1.heap.size,0,none⟩:Addr).add 2) (Value.bool b4) lE λnL=>xJ .bool nL ((⟨w1.heap.size,0,none⟩:Addr).add 2) λ(b5:Bool)=>
     aI prog xP ((⟨w1.heap.size,0,none⟩:Addr).add 3) (Value.bool b5) nL λyK=>J1 (()) yK) (J1 (()) fO)):=by
  intro w8 s2 b1 l0 v8 f8 k8 hcase;have lit:∀k,((⟨w1.heap.size,0,none⟩:Addr).add k)=⟨w1.heap.size,k,none⟩:=λk=>by rw[aS,pM]
  have z27:=k27.size;have o8:=(o2'.aK k27 id).aK k8 id;have K8:=K2.tr (k27.tr k8);rw[lit 0,lit 1,lit 2,lit 3];refine cI (o:=0) (v:=sv s2) o8 oF dK rfl rfl λw9 o9 m9 z9=>?_;refine cI (o:=2) (v:=.bool b1) o9 gV dK rfl rfl λeR Br YB z10=>?_;have o10':cW eR w1.heap.size Pu (UY (s2,0,b1,false,())):=Br;have up:∀{wx wy:aH},aM W wx->aW (λk=>k=w1.heap.size) wx wy->aM W wy:=λkx m=>kx.fresh m λk e=>by rw[show k=w1.heap.size from e];omega
  have Mw:=up (up K8 m9) YB;have nb:∀b,s2.b=some b->b.block≠w1.heap.size:=λb hb=>by have:=f8 b hb;omega
  have v10:=(v8.aK m9 λb hb e=>nb b hb e).aK YB λb hb e=>nb b hb e;have oc:∀{wx:aH},aM w1 wx->wx.cell? ⟨W.heap.size,0,none⟩=some (sv dD):=λkx=>by
   have:=(o1.aK kx id);rw[this.cell];rfl
  have k1up:∀{wx wy:aH},aM w1 wx->aW (λk=>k=w1.heap.size) wx wy->aM w1 wy:=λkx m=>kx.fresh m λk e=>by rw[show k=w1.heap.size from e];exact iT _
  have k1_10:=k1up (k1up (k2.tr (k27.tr k8)) m9) YB;intro J hJ;have sD:∀eC s l f r,cW eC w1.heap.size Pu (UY (s,0,f,r,()))->dP eC cY 1 eI s l->(∀x∈l,G.qD x)->l.length<=51->G.ME node at_ c l (G.oW l) f r->aM W eC->(∀b,s.b=some b->W.heap.size<=b.block/\b.block≠w1.heap.size)->J () eC:=by
   intro eC s l f r o11 v11 hE hl hA K11 hf;apply hJ;have d11:aM eC eC.drew:=aW.drew (aW.refl _ eC);have Ki:=h.aN (K11.tr d11);have od:=o11.aK d11 id;refine aA rfl (aE (k:=.ptr) (some ⟨E.t.t,0,none⟩) Ki.cells.1 ?_);have c0:=(Lb od).1;rw[lit 0] at c0;refine aE (k:=.slice) s c0 ?_;refine Xs Ki.RG ((v11.aK d11 λ_ _=>id).rd fG) aB hE λeQ KF=>?_;refine cI (o:=1) (v:=aD (G.oW l)) (od.aK KF id) cU dK rfl rfl λgO o13 cz z13=>?_;have o13':cW gO w1.heap.size Pu (UY (s,G.oW l,f,r,())):=o13;refine ansEnd VZ o13' λmC _ YA=>?_;have v14:=(((v11.aK d11 λ_ _=>id).aK KF λ_ _=>id).aK cz λb hb e=>(hf b hb).2 e).aK YA λb hb e=>(hf b hb).2 e;exact hQ s _ f r l mC hA v14 hE hl (up (up ((K11.tr d11).tr KF) cz) YA) λb hb=>(hf b hb).1
  have fU:l0.length<=51/\∀x∈l0,G.qD x:=by
   rcases hcase with⟨_,rfl,_⟩|⟨_,_,hl⟩
   ·exact⟨by simp,by simp⟩
   ·have:=hl.len ok
    exact⟨aB,λx hx=>((hl.VE ok).2.2.1 x hx).1⟩
  have c0:=(Lb o10').1;rw[lit 0] at c0;refine aE (k:=.slice) s2 c0 ?_;refine NP (p:=qH c) (C:=λwx=>aM eR wx) (v10.rd fG) aB (aW.refl _ _) (λ_ _ a b=>a.tr b) (λx wx K hCx hx hK=>?_) λb3 fO Da Ky=>?_
  ·refine pA Zo iA (gI (ks:=[.i,.c .ptr]) (t:=(x,some ⟨W.heap.size,0,none⟩,())) ?_)
   show EK _ _ _ _;unfold EK;have hxE:=fU.2 x hx;have hcx:=hc.aK (Mw.tr hCx) KO λ_ _=>id;have hcl:=hcx.len;have occ:=oc (k1_10.tr hCx);refine aA rfl (aE (k:=.slice) dD occ (aJ (λcJ=>aA rfl (aE (k:=.slice) dD occ ?_)) (λkT=>?_)))
   ·obtain⟨p,hp,hcp⟩:=cF (k:=.bool) (e:=λx=>x) hcx (YZ hxE.1 aB)
    exact⟨⟨hxE.1,cJ⟩,aA hp (aE (k:=.bool) (qH c x) hcp (hK wx (aW.refl _ _)))⟩
   ·have:=hK wx (aW.refl _ _)
    rw[Gl aB] at this;exact this
  have K15:=Mw.tr Da;refine aF (λhb=>?_) (λhb=>?_)
  ·obtain⟨xs,hxs,hsx⟩:=Ky.1 hb
   obtain⟨hE,hl0⟩:G.qD at_/\G.LV [] d0 at_ l0:=by
    rcases hcase with⟨_,rfl,_⟩|⟨_,hh⟩
    ·cases hxs
    ·exact hh
   have d15:aM fO fO.drew:=aW.drew (aW.refl _ fO);have h15:=h.aN (K15.tr d15);have occ:=oc ((k1_10.tr Da).tr d15);refine aA rfl (aE (k:=.ptr) (some ⟨E.t.t,0,none⟩) h15.cells.1 (aA rfl (aE (k:=.ptr) (some ⟨E.t.t,0,none⟩) h15.cells.1 (aE (k:=.slice) dD occ (aE (k:=.slice) dD occ ?_)))));refine To_i h15.RG hN (hc.aK (K15.tr d15) KO λ_ _=>id) λs7 d1 gR hd1 v16 Jy f16 b16=>?_;have K16:=(K15.tr d15).tr Jy;have h16:=h.aN K16;have k1_16:=((k1_10.tr Da).tr d15).tr Jy;have o16:=((o10'.aK Da id).aK d15 id).aK Jy id;have z16:=k1_16.size;refine⟨oc k1_16,h16.cells.1,?_⟩;have tail:∀iZ s8 b4 l1,dP iZ cY 1 eI s8 l1->(∀b,s8.b=some b->gR.heap.size<=b.block)->aM gR iZ->(∀x∈l1,G.qD x)->l1.length<=51->G.ME node at_ c l1 (G.oW l1) b4 b4->
     aI prog BG ⟨w1.heap.size,0,none⟩ (Value.slice s8.b s8.l s8.c) iZ λlE=>aI prog xP ⟨w1.heap.size,2,none⟩ (Value.bool b4) lE λnL=>xJ .bool nL ⟨w1.heap.size,2,none⟩ λ(b5:Bool)=>aI prog xP ⟨w1.heap.size,3,none⟩ (Value.bool b5) nL λyK=>J (()) yK:=by
    intro iZ s8 b4 l1 v17 f17 Jx hE1 Kc hA;have nb8:∀b,s8.b=some b->b.block≠w1.heap.size:=λb hb=>by have:=f17 b hb;have:=o16.lt;omega
    refine cI (o:=0) (v:=sv s8) (o16.aK Jx id) oF dK rfl rfl λlE o18 m18 _=>?_;refine cI (o:=2) (v:=.bool b4) o18 gV dK rfl rfl λnL o19 m19 _=>?_;have o19':cW nL w1.heap.size Pu (UY (s8,0,b4,false,())):=o19;have c2:=(Lb o19').2.2.1;rw[lit 2] at c2;refine aE (k:=.bool) b4 c2 ?_;refine cI (o:=3) (v:=.bool b4) o19' gV dK rfl rfl λyK o20 m20 _=>?_;refine sD yK s8 l1 b4 b4 o20 (((v17.aK m18 λb hb e=>nb8 b hb e).aK m19 λb hb e=>nb8 b hb e).aK m20 λb hb e=>nb8 b hb e) hE1 Kc hA (up (up (up (K16.tr Jx) m18) m19) m20) λb hb=>⟨?_,nb8 b hb⟩;have:=f17 b hb;have:=K16.size;omega
   refine vj h16.RG hd1 (v16.rd fG) (hc.aK K16 KO λ_ _=>id) (λv x hx=>by have:=b16 v x hx;simp only[BW] at*;omega) (λvS=>?_) λl1 s8 iZ _ h0 Kc v17 Jx f17=>?_
   ·refine tail gR _ false [] (dP.nil _ _ _ _) (λb hb=>by cases hb) (aW.refl _ _) dK dK (.no λd _ hg=>vS ⟨hE,(ok.Rb hd1 hg).1⟩)
   ·have:=Kc.len ok
    exact tail iZ s8 true l1 v17 f17 Jx (λx hx=>((Kc.VE ok).2.2.1 x hx).1) aB (.rX hN hE hd0 hd1 hl0 ⟨xs,hxs,hsx⟩ Kc)
  ·have vS:∀x∈l0,qH c x=false:=λx hx=>by
    cases hs:qH c x with
    |false=>rfl
    |true=>have:=Ky.2 ⟨x,hx,hs⟩;rw[hb] at this;cases this
   refine sD fO s2 l0 b1 false (o10'.aK Da id) (v10.aK Da λ_ _=>id) fU.2 fU.1 ?_ K15 λb hb=>⟨by have:=f8 b hb;have:=K2.size;omega,nb b hb⟩;rcases hcase with⟨rfl,rfl,hng⟩|⟨rfl,hE,hl0⟩
   ·exact .no λd _ hg=>hng d (G.gw_open hg)
   ·exact .near hN hE hd0 hl0 vS
 refine vj (c:=[]) h7.RG hd0 (v7.rd fG) (Rd.nil _ _ _) (λv x hx=>?_) (λvS=>?_) λl s2 w8 hE h0 hl v8 k8 f8=>?_
 ·exact hb7 v x hx
 ·refine dE w7 bD false [] (dP.nil _ _ _ _) (λb hb=>by cases hb) (aW.refl _ _) (.inl ⟨rfl,rfl,λd hg=>vS ⟨(ok.ir hg).1,(ok.Rb hd0 hg).1⟩⟩)
 ·exact dE w8 s2 true l v8 f8 k8 (.inr ⟨rfl,hE,hl⟩)
section
abbrev eSe(e:Nat)(p:LH)(sl:Sl):List Value:=[.pointer (some ⟨e,0,none⟩),aD p.pos,aD p.node,sv sl,.bool p.dF,.bool p.iH]
structure jD(F:Nat->Prop)(W0 w:aH)(s:Nat)(E:uJ)(G:Gr)(p:LH):Prop where
 xj:zC W0 E G
 k0:aM W0 w
 lo:W0.heap.size<=s
 gN:∃sl,cW w s Vl (eSe E.e p sl)/\Rd w sl 1 eI p.jI/\∀b,sl.b=some b->¬F b.block/\b.block<w.heap.size
 fs:F s
section
variable{F F':Nat->Prop}{W0 w w':aH}{s:Nat}{E:uJ}{G:Gr}{p:LH}
theorem jD.e(h:jD F W0 w s E G p):zC w E G:=h.xj.aN h.k0
theorem jD.aK{M:Nat->Prop}(h:jD F W0 w s E G p)(m:aW M w w')(hM:∀k,M k->k≠s/\(F k\/w.heap.size<=k)/\W0.heap.size<=k):jD F W0 w' s E G p:=by
 obtain⟨sl,h1,h2,h3⟩:=h.gN;refine⟨h.xj,h.k0.fresh m λk hk=>(hM k hk).2.2,h.lo,⟨sl,h1.aK m λhs=>(hM s hs).1 rfl,h2.aK m cR λb hb hm=>?_,λb hb=>⟨(h3 b hb).1,mD (h3 b hb).2 m.size⟩⟩,h.fs⟩;rcases(hM _ hm).2.1 with hf|hf
 ·exact(h3 b hb).1 hf
 ·have:=(h3 b hb).2;omega
theorem jD.aN(h:jD F W0 w s E G p)(k:aM w w'):jD F W0 w' s E G p:=h.aK k λ_ hk=>hk.elim
theorem jD.RR(h:jD F W0 w s E G p)(hF:∀k,F' k->F k\/w.heap.size<=k)(hs:F' s):jD F' W0 w s E G p:=by
 obtain⟨sl,h1,h2,h3⟩:=h.gN;refine⟨h.xj,h.k0,h.lo,⟨sl,h1,h2,λb hb=>⟨λhf=>?_,(h3 b hb).2⟩⟩,hs⟩;rcases hF _ hf with hf|hf
 ·exact(h3 b hb).1 hf
 ·have:=(h3 b hb).2;omega
theorem jD.lt(h:jD F W0 w s E G p):s<w.heap.size:=by obtain⟨sl,h1,_⟩:=h.gN;exact h1.lt
theorem jD.put{sl:Sl}{q:LH}(h:jD F W0 w s E G p)(m:aW (λk=>k=s) w w')(o:cW w' s Vl (eSe E.e q sl))(hr:Rd w' sl 1 eI q.jI)(hb:∀b,sl.b=some b->¬F b.block/\b.block<w'.heap.size):jD F W0 w' s E G q:=
 ⟨h.xj,h.k0.fresh m λk e=>by rw[show k=s from e];exact h.lo,h.lo,⟨sl,o,hr,hb⟩,h.fs⟩
theorem jD.cell(h:jD F W0 w s E G p):w.cell? ((⟨s,0,none⟩:Addr).add 0)=some (.pointer (some ⟨E.e,0,none⟩))/\w.cell? ((⟨s,0,none⟩:Addr).add 1)=some (aD p.pos)/\w.cell? ((⟨s,0,none⟩:Addr).add 2)=some (aD p.node)/\
  w.cell? ((⟨s,0,none⟩:Addr).add 4)=some (.bool p.dF)/\w.cell? ((⟨s,0,none⟩:Addr).add 5)=some (.bool p.iH)/\
  ∃sl,cW w s Vl (eSe E.e p sl)/\w.cell? ((⟨s,0,none⟩:Addr).add 3)=some (sv sl)/\Rd w sl 1 eI p.jI/\∀b,sl.b=some b->¬F b.block/\b.block<w.heap.size:=by
 obtain⟨sl,h1,h2,h3⟩:=h.gN;exact⟨cM h1 rfl,cM h1 rfl,cM h1 rfl,cM h1 rfl,cM h1 rfl,sl,h1,cM h1 rfl,h2,h3⟩
theorem Done_i{Q:Bool->aH->Prop}(h:jD F W0 w s E G p)(hQ:Q p.iH w):HK (some ⟨s,0,none⟩) w Q:=by
 unfold HK;exact aF (λh=>by simp at h) (λ_=>aA rfl (aE (k:=.bool) p.iH h.cell.2.2.2.2.1 hQ))
theorem Dm{Q:Sl->aH->Prop}(h:jD F W0 w s E G p)(ok:UB G p)(hh:p.dF=true)(hQ:∀ms w',jD F W0 w' s E G (pJ G p).1->fL w' (λk=>w.heap.size<=k) ms (pJ G p).2->(pJ G p).2.length=1->aW (λk=>k=s) w w'->Q ms w'):
  wN (some ⟨s,0,none⟩) w Q:=by
 unfold wN;intro J1 KH;have slt:=h.lt;have sD:∀a w1,w1.cell? (a.add 1)=some (aD (G.to p.pos))->aM w w1->J1 (some a,()) w1:=by
  intro a w1 c1 k1;apply KH;have d1:aM w1 w1.drew:=aW.drew (aW.refl _ w1);have hd:=h.aN (k1.tr d1);refine aA rfl (aE (k:=.i) (G.to p.pos) (d1.cell c1 id) (aA rfl (aE (k:=.i) p.node hd.cell.2.2.1 ?_)));refine aF (λhe=>?_) (λgF=>?_)
  ·have vT:G.to p.pos=p.node:=by simpa using he
   obtain⟨sl,o,hr,hb⟩:=hd.gN;refine aA rfl ?_;rw[aS,pM];refine cI (o:=5) (v:=.bool true) o gV dK rfl rfl λw2 o2 m2 z2=>?_;have h2:jD F W0 w2 s E G {p with iH:=true}:=hd.put m2 o2 (hr.aK m2 cR λb bW e=>(hb b bW).1 (by rw[show b.block=s from e];exact h.fs)) λb bW=>⟨(hb b bW).1,by rw[z2];exact(hb b bW).2⟩;refine bK λw3 o3 k3 z3=>?_;have e:pJ G p=({p with iH:=true},[Gz]):=by unfold pJ;rw[if_pos vT]
   rw[e] at hQ;have M2:aW (λk=>k=s) w w2:=(aM.aK (k1.tr d1)).tr m2;have z:=M2.size;exact hQ _ w3 (h2.aN k3) (fL.one (x:=(Gz,bD)) o3 (GB.none rfl) z) rfl (M2.tr k3.wk)
  ·have Ez:¬G.to p.pos=p.node:=by simpa using gF
   have e:pJ G p=(p,[pw (G.eY p.pos p.jI)]):=by unfold pJ;rw[if_neg Ez]
   rw[e] at hQ;have d2:aM w1 w1.drew.drew:=d1.tr (aW.drew (aW.refl _ _));have h2:=h.aN (k1.tr d2);obtain⟨c0,c1',_,_,_,sl,_,c3,hr,_⟩:=h2.cell;have he2:=h2.e;refine aA rfl (aE (k:=.ptr) (some ⟨E.e,0,none⟩) c0 (aA rfl (aE (k:=.ptr) (some ⟨E.t.t,0,none⟩) he2.cells.1 (aA rfl (aE (k:=.i) p.pos c1' (aA rfl (aE (k:=.slice) sl c3 ?_)))))));have len:=ok.len;refine⟨?_,?_⟩
   ·refine Hint_i he2.RG ok.pos (ok.Eo hh) hr aB λw4 k4=>?_
    refine fD (vs:=eH (G.eY p.pos p.jI)) AI rfl (oneH _) λw6 o6 k6 _=>?_;refine bJ (l:=[.i,.i,.i,.i]) (Qk (G.eY p.pos p.jI)) (My o6) ?_;refine bK λw7 o7 k7 z7=>?_;have K6:=((k1.tr d2).tr k4).tr k6;exact hQ _ w7 (h.aN (K6.tr k7)) (fL.one (x:=(pw (G.eY p.pos p.jI),bD)) o7 (GB.none rfl) K6.size) rfl (K6.tr k7).wk
   ·refine bK λw8 o8 k8 z8=>?_
    have o8':cW w8 w1.drew.drew.heap.size Fj (eH ⟨0,0,0,0⟩):=o8;refine⟨k8.cell c3 id,k8.cell c1' id,k8.cell he2.cells.1 id,k8.cell c0 id,?_⟩;refine Hint_i (he2.aN k8).RG ok.pos (ok.Eo hh) (hr.aK k8 cR λ_ _=>id) aB λw9 k9=>?_;refine eN (vs:=eH (G.eY p.pos p.jI)) (o8'.aK k9 id) AI rfl (oneH _) λeR Br YB _=>?_;refine bJ (l:=[.i,.i,.i,.i]) (Qk (G.eY p.pos p.jI)) (My Br) ?_;refine bK λeC o11 KS z11=>?_;have K2:=k1.tr d2;have Mw:aM w eR:=((K2.tr k8).tr k9).fresh YB λk e=>by rw[show k=w1.drew.drew.heap.size from e];exact K2.size
    exact hQ _ eC (h.aN (Mw.tr KS)) (fL.one (x:=(pw (G.eY p.pos p.jI),bD)) o11 (GB.none rfl) Mw.size) rfl (Mw.tr KS).wk
 have d:aM w w.drew:=aW.drew (aW.refl _ w);have hd:=h.aN d;have ed:=hd.e;obtain⟨c0,c1',_⟩:=hd.cell;refine aA rfl (aE (k:=.ptr) (some ⟨E.e,0,none⟩) c0 (aA rfl (aE (k:=.ptr) (some ⟨E.t.t,0,none⟩) ed.cells.1 (aA rfl (aE (k:=.ptr) (some ⟨E.t.H.g,0,none⟩) ed.RG.cells.1 (aA rfl (aE (k:=.i) p.pos c1' ?_)))))));refine⟨?_,?_⟩
 ·refine JH ed.RG.IH (λ_ w2 k2=>?_) (λhn=>absurd ok.pos hn)
  refine fD (vs:=[aD (G.fr p.pos),aD (G.to p.pos),aD (G.wt p.pos)]) jL rfl (by simp[Value.oneCell']) λw3 o3 k3 z3=>?_;exact sD _ w3 (FU o3).2.1 ((d.tr k2).tr k3)
 ·refine bK λw2 o2 k2 z2=>?_
  have o2':cW w2 w.drew.heap.size QE [aD 0,aD 0,aD 0]:=o2;refine⟨k2.cell c1' id,k2.cell ed.RG.cells.1 id,k2.cell ed.cells.1 id,k2.cell c0 id,?_⟩;refine JH (ed.aN k2).RG.IH (λ_ w3 k3=>?_) (λhn=>absurd ok.pos hn);refine eN (vs:=[aD (G.fr p.pos),aD (G.to p.pos),aD (G.wt p.pos)]) (o2'.aK k3 id) jL rfl (by simp[Value.oneCell']) λw4 o4 m4 _=>?_;exact sD _ w4 (FU o4).2.1 (((d.tr k2).tr k3).fresh m4 λk e=>by rw[show k=w.drew.heap.size from e];exact d.size)
end
end
section
section
variable{F:Nat->Prop}{W0 w:aH}{s:Nat}{E:uJ}{G:Gr}{p:LH}
theorem jc{dD:Sl}{c:List Bool}{Q:Sl->aH->Prop}(h:jD F W0 w s E G p)(hp:G.qD p.pos)(hn:G.XR p.node)(hc:Rd w dD 1 eB c)(hF:∀k,F k->k<w.heap.size)
  (hQ:∀z ms w',Lr G c p z->jD F W0 w' s E G z.1->UB G z.1->fL w' (λk=>w.heap.size<=k) ms z.2->z.2.length<=2/\1<=z.2.length->aW (λk=>k=s) w w'->Q ms w'):
  wO (some ⟨s,0,none⟩) dD w Q:=by
 unfold wO;have ok:=h.xj.RG.IH.ok;have slt:=h.lt;intro J1 KH;have lit:∀b k:Nat,((⟨b,0,none⟩:Addr).add k)=⟨b,k,none⟩:=λb k=>by rw[aS,pM]
 have sD:∀b w1 (sl:Sl) wt f r l,cW w1 b Pu (UY (sl,wt,f,r,()))->w.heap.size<=b->G.ME p.node p.pos c l wt f r->dP w1 cY 1 eI sl l->l.length<=51->(∀a,sl.b=some a->w.heap.size<=a.block)->aM w w1->J1 (some ⟨b,0,none⟩,()) w1:=by
  intro b w1 sl wt f r l o1 hb hA v1 hl f1 k1;apply KH;have d1:aM w1 w1.drew:=aW.drew (aW.refl _ w1);have K1:=k1.tr d1;have hd:=h.aN K1;have od:=o1.aK d1 id;have vd:=v1.aK d1 λ_ _=>id;have cd:=Lb od;refine aA rfl (aE (k:=.slice) sl cd.1 (aA rfl (aE (k:=.bool) f cd.2.2.1 ?_)));obtain⟨sl0,o,hr,hb0⟩:=hd.gN;refine aA rfl ?_;rw[lit s 3];refine cI (o:=3) (v:=sv sl) o oF dK rfl rfl λw2 o2 m2 z2=>?_;have bs:b≠s:=aB;have od2:=od.aK m2 bs;refine⟨(Lb od2).2.2.1,?_⟩;refine aA rfl ?_;rw[lit s 4];refine cI (o:=4) (v:=.bool f) o2 gV dK rfl rfl λw3 o3 m3 z3=>?_;have od3:=od2.aK m3 bs;have ns:∀a,sl.b=some a->¬a.block=s:=λa ha e=>by have:=f1 a ha;omega
  have v3:=(vd.aK m2 ns).aK m3 ns;have M3:aW (λk=>k=s) w w3:=(K1.wk.tr m2).tr m3;have h3:jD F W0 w3 s E G {p with jI:=l,dF:=f}:=hd.put (m2.tr m3) o3 (v3.rd fG) λa ha=>⟨λhf=>by have:=f1 a ha;have:=hF _ hf;omega,v3.lt ha⟩;refine aA rfl (aE (k:=.bool) f (Lb od3).2.2.1 ?_);refine aF (λhf=>?_) (λhf=>?_)
  ·have XT:f=false:=by simpa using hf
   refine bK λw4 o4 k4 z4=>?_;subst XT;have e:fu G p l wt false=({p with jI:=l,dF:=false},[WG]):=by unfold fu;rw[if_neg dK]
   have hz:Lr G c p ({p with jI:=l,dF:=false},[WG]):=⟨l,wt,false,r,hA,e.symm⟩;have kH:=(ask_ok ok hp hn hA).1;rw[e] at kH;exact hQ _ _ w4 hz (h3.aN k4) kH (fL.one (x:=(WG,bD)) o4 (GB.none rfl) M3.size) dK (M3.tr k4.wk)
  ·have XT:f=true:=by simpa using hf
   subst XT;have kH:=(ask_ok ok hp hn hA).2 rfl;have e:fu G p l wt true=((pJ G {p with jI:=l,dF:=true}).1,YS l wt::(pJ G {p with jI:=l,dF:=true}).2):=by unfold fu;rw[if_pos rfl]
   have hz:Lr G c p ((pJ G {p with jI:=l,dF:=true}).1,YS l wt::(pJ G {p with jI:=l,dF:=true}).2):=⟨l,wt,true,r,hA,e.symm⟩;have d3:aM w3 w3.drew:=aW.drew (aW.refl _ w3);have odd:=od3.aK d3 id;have Ae:=h3.aN d3;have M3d:=M3.tr d3.wk;have zz:=M3d.size;refine aA rfl (aE (k:=.slice) sl (Lb odd).1 (aA rfl (aE (k:=.i) wt (Lb odd).2.1 ?_)));refine HC ((v3.aK d3 λ_ _=>id).rd fG) aB λs3 w5 v5 k5 f5=>?_;have o5:=odd.aK k5 id;refine⟨(Lb o5).2.1,?_⟩;have h5:=Ae.aN k5;have M5:=M3d.tr k5.wk;have z5:=k5.size;have hOk5:UB G (pJ G {p with jI:=l,dF:=true}).1:=kH.pJ;have mx:∀{wx:aH} (g:Nat),aW (λk=>k=s) w5 wx->w5.heap.size<=g->GB wx (λk=>w.heap.size<=k/\k≠g) (YS l wt,s3):=λg kx hg=>by
    have vx:=v5.aK kx λa ha e=>by have:=f5 a ha;have e':a.block=s:=e;omega
    exact⟨vx.rd fG,λa ha=>⟨⟨by have:=f5 a ha;omega,by have:=v5.lt ha;omega⟩,vx.lt ha⟩,hl⟩
   have W0le:=h.k0.size;have g5:w5.heap.size≠s:=by have:=M5.size;omega
   refine⟨?_,?_⟩
   ·refine bK λw6 o6 k6 z6=>?_
    have h5g:jD (λk=>F k\/k=w5.heap.size) W0 w5 s E G {p with jI:=l,dF:=true}:=h5.RR (λk hk=>hk.elim .inl (λe=>.inr aB)) (.inl h5.fs);refine Dm (h5g.aN k6) kH rfl λms w7 h7 q7 hl7 m7=>?_;have z7:=m7.size;refine Gy (x:=(YS l wt,s3)) (P:=λk=>w.heap.size<=k) (o6.aK m7 g5) (mx w5.heap.size (k6.wk.tr m7) (iT _)) aB (λk hk=>aB) (q7.wk λk hk _=>⟨aB,aB⟩) aB λr' w8 q8 m8=>?_;refine hQ _ _ w8 hz ((h7.aK m8 λk hk=>⟨aB,.inl (.inr hk),aB⟩).RR (λk hk=>.inl (.inl hk)) h.fs) hOk5 q8 ⟨by simp[hl7],by simp⟩ ((M5.tr (k6.wk.tr m7)).trans m8 λk hk e=>aB)
   ·refine Dm h5 kH rfl λms w9 h9 q9 hl9 m9=>?_
    have z9:=m9.size;refine⟨(Lb (o5.aK m9 bs)).2.1,?_⟩;refine bK λeR Br IG z10=>?_;have h9g:jD (λk=>F k\/k=w9.heap.size) W0 w9 s E G (pJ G {p with jI:=l,dF:=true}).1:=h9.RR (λk hk=>hk.elim .inl (λe=>.inr aB)) (.inl h9.fs);have q9':fL w9 (λk=>w.heap.size<=k/\k≠w9.heap.size) ms (pJ G {p with jI:=l,dF:=true}).2:=q9.wk λk hk cJ=>⟨aB,aB⟩;refine Gy (x:=(YS l wt,s3)) (P:=λk=>w.heap.size<=k) Br (mx w9.heap.size (m9.tr IG.wk) z9) aB (λk hk=>aB) (q9'.aN IG) aB λr' eC q11 Jv=>?_;refine hQ _ _ eC hz (((h9g.aN IG).aK Jv λk hk=>⟨aB,.inl (.inr hk),aB⟩).RR (λk hk=>.inl (.inl hk)) h.fs) hOk5 q11 ⟨by simp[hl9],by simp⟩ (((M5.tr m9).tr IG.wk).trans Jv λk hk e=>aB)
 have d:aM w w.drew:=aW.drew (aW.refl _ w);have hd:=h.aN d;obtain⟨c0,c1,c2,_⟩:=hd.cell;have hcd:=hc.aK d KO λ_ _=>id;refine aA rfl (aE (k:=.ptr) (some ⟨E.e,0,none⟩) c0 (aA rfl (aE (k:=.i) p.pos c1 (aA rfl (aE (k:=.i) p.node c2 ?_)))));refine⟨?_,?_⟩
 ·refine Way_i hd.e hcd λsl wt f r l w1 hA v1 _ hl k1 f1=>?_
  refine fD (vs:=UY (sl,wt,f,r,())) VZ rfl (ie _) λw2 o2 k2 z2=>?_;exact sD _ w2 sl wt f r l o2 (by have:=k1.size;have:=d.size;omega) hA (v1.aK k2 λ_ _=>id) hl (λa ha=>by have:=f1 a ha;have:=d.size;omega) ((d.tr k1).tr k2)
 ·refine bK λw1 o1 k1 z1=>?_
  have RJ:cW w1 w.drew.heap.size Pu (UY (bD,0,false,false,())):=o1;refine⟨k1.cell c2 id,k1.cell c1 id,k1.cell c0 id,?_⟩;refine Way_i (hd.aN k1).e (hcd.aK k1 KO λ_ _=>id) λsl wt f r l w2 hA v2 _ hl k2 f2=>?_;refine eN (vs:=UY (sl,wt,f,r,())) (RJ.aK k2 id) VZ rfl (ie _) λw3 o3 m3 _=>?_;have ds:=d.size;refine sD _ w3 sl wt f r l o3 ds hA (v2.aK m3 λa ha e=>?_) hl (λa ha=>by have:=f2 a ha;omega) (((d.tr k1).tr k2).fresh m3 λk e=>by rw[show k=w.drew.heap.size from e];exact ds);have:=f2 a ha;omega
end
end
section
abbrev xr(a v:Int):LH:=⟨a,v,[],false,false⟩
theorem SNew_i{E:uJ}{G:Gr}{at_ node:Int}{dD:Sl}{c:List Bool}{W:aH}{Q:cL->Sl->Int->aH->Prop}(h:zC W E G)(hc:Rd W dD 1 eB c)
  (RX:¬(G.qD at_/\G.XR node)->Q none bD 1 W)
  (hQ:G.qD at_->G.XR node->∀z ms w',Lr G c (xr at_ node) z->jD (λk=>k<=W.heap.size) W w' W.heap.size E G z.1->UB G z.1->fL w' (λk=>W.heap.size<k) ms (DT::z.2)->z.2.length<=2/\1<=z.2.length->aM W w'->Q (some ⟨W.heap.size,0,none⟩) ms 0 w'):
  sI (some ⟨E.e,0,none⟩) at_ node dD W Q:=by
 unfold sI;refine aF (λh=>by simp at h) (λ_=>aJ (λh0=>RX λhh=>by have:=hh.1.1;omega) (λh0=>?_));refine aA rfl (aE (k:=.ptr) (some ⟨E.t.t,0,none⟩) h.cells.1 (aA rfl (aE (k:=.ptr) (some ⟨E.t.H.g,0,none⟩) h.RG.cells.1 (sR h.RG.IH ?_))));refine aJ (λh1=>RX λhh=>by have:=hh.1.2;omega) (λh1=>aJ (λh2=>RX λhh=>by have:=hh.2.1;omega) (λh2=>?_));refine aA rfl (aE (k:=.ptr) (some ⟨E.t.t,0,none⟩) h.cells.1 (aA rfl (aE (k:=.ptr) (some ⟨E.t.H.g,0,none⟩) h.RG.cells.1 (OG h.RG.IH ?_))));refine aJ (λh3=>RX λhh=>by have:=hh.2.2;omega) (λh3=>?_);have hE:G.qD at_:=⟨aB,aB⟩;have hN:G.XR node:=⟨aB,aB⟩;refine bK λw1 o1 k1 z1=>bK λw2 o2 k2 z2=>?_;have RJ:cW w1 W.heap.size Vl (eSe E.e (xr at_ node) bD):=o1;have K2:=k1.tr k2;have h2:jD (λk=>k<=w1.heap.size) W w2 W.heap.size E G (xr at_ node):=⟨h,K2,iT _,⟨bD,RJ.aK k2 id,Rd.nil _ _ _,λb hb=>by cases hb⟩,aB⟩;refine jc h2 hE hN (hc.aK K2 KO λ_ _=>id) (λk hk=>aB) λz ms w3 hz h3 Kp q3 l3 m3=>?_;have z3:=m3.size;have g1:w1.heap.size≠W.heap.size:=aB;refine Gy (x:=(DT,bD)) (P:=λk=>W.heap.size<k) (o2.aK m3 g1) (GB.none rfl) aB (λk hk=>aB) (q3.wk λk hk _=>⟨aB,aB⟩) aB λr w4 q4 m4=>?_;exact hQ hE hN z r w4 hz ((h3.aK m4 λk hk=>⟨aB,.inl aB,aB⟩).RR (λk hk=>.inl aB) (iT _)) Kp q4 l3 ((K2.fresh m3 λk e=>by rw[show k=W.heap.size from e];exact iT _).fresh m4 λk e=>by rw[show k=w1.heap.size from e];omega)
theorem Nk{b:cL}{c l n:Nat}{a:Addr}(h:aR b c l n=some a):∃a0,b=some a0/\a.block=a0.block:=by
 unfold aR at h
 split at h
 ·exact⟨a,h,rfl⟩
 ·cases b with
  |none=>cases h
  |some x=>cases h;exact⟨x,rfl,by simp⟩
section
variable{F:Nat->Prop}{W0 w:aH}{s:Nat}{E:uJ}{G:Gr}{p:LH}
theorem Report_i{pos:Int}{dD:Sl}{c:List Bool}{Q:Sl->aH->Prop}(h:jD F W0 w s E G p)(ba:UB G p)(hc:Rd w dD 1 eB c)(Tx:∀b,dD.b=some b->b.block≠s)(hF:∀k,F k->k<w.heap.size)
  (hQ:∀z ms w',fy G c p pos z->jD F W0 w' s E G z.1->UB G z.1->fL w' (λk=>w.heap.size<=k) ms z.2->z.2.length<=2->aW (λk=>k=s) w w'->Q ms w'):
  yH (some ⟨s,0,none⟩) pos dD w Q:=by
 unfold yH;have lit:∀k:Nat,((⟨s,0,none⟩:Addr).add k)=⟨s,k,none⟩:=λk=>by rw[aS,pM]
 refine Done_i h (aF (λJz=>?_) (λJz=>?_))
 ·exact hQ (p,[]) _ w (by unfold fy;rw[if_pos Jz]) h ba fL.nil dK (aW.refl _ _)
 have nov:¬p.iH=true:=by rw[Jz];simp
 have he:=h.e;refine aA rfl (aE (k:=.ptr) (some ⟨E.e,0,none⟩) h.cell.1 (aA rfl (aE (k:=.ptr) (some ⟨E.t.t,0,none⟩) he.cells.1 (aA rfl (aE (k:=.ptr) (some ⟨E.t.H.g,0,none⟩) he.RG.cells.1 ?_)))));refine JH he.RG.IH (λhE w2 k2=>?_) (λhE w2 k2=>?_)
 ·refine fD (vs:=[aD (G.fr pos),aD (G.to pos),aD (G.wt pos)]) jL rfl (by simp[Value.oneCell']) λw4 o4 k4 z4=>?_
  refine aF (λh=>by simp at h) (λ_=>?_);have K4:=k2.tr k4;have h4:=h.aN K4;intro J1 KH;have j1:¬(p.dF=true/\pos=p.pos)->¬(p.dF=true/\p.jI.head? =some pos)->∀w6,aM w w6->J1 () w6:=by
   intro n1 n2 w6 k6;apply KH;obtain⟨sl,o,hr,hb⟩:=(h.aN k6).gN;refine aA rfl ?_;rw[lit 1];refine cI (o:=1) (v:=aD pos) o cU dK rfl rfl λw7 o7 m7 z7=>?_;have h7:jD F W0 w7 s E G {p with pos:=pos}:=(h.aN k6).put m7 o7 (hr.aK m7 cR λb bW e=>(hb b bW).1 (by rw[show b.block=s from e];exact h.fs)) λb bW=>⟨(hb b bW).1,by rw[z7];exact(hb b bW).2⟩;have s6:=k6.size;refine jc h7 hE ba.node ((hc.aK k6 KO λ_ _=>id).aK m7 KO λb bW e=>Tx b bW e) (λk hk=>by have:=hF k hk;omega) λz ms w8 hz h8 ok8 q8 l8 m8=>?_;refine hQ z ms w8 ?_ h8 ok8 (q8.wk λk hk _=>aB) l8.1 ((k6.wk.tr m7).tr m8);unfold fy;rw[if_neg nov,if_neg (by simpa using hE),if_neg n1,if_neg n2];exact hz
  intro J2 El;have j2:∀b:Bool,(b=true↔(p.dF=true/\pos=p.pos))->J2 (b,()) w4:=by
   intro b hb;apply El;refine aF (λhbt=>?_) (λhbf=>?_)
   ·have hh:=hb.1 hbt
    refine Dm h4 ba hh.1 λms eR IN q10 l10 YB=>?_;refine hQ _ ms eR ?_ IN ba.pJ (q10.wk λk hk _=>by have:=K4.size;omega) aB (K4.wk.tr YB);unfold fy;rw[if_neg nov,if_neg (by simpa using hE),if_pos hh]
   ·have n1:¬(p.dF=true/\pos=p.pos):=λhh=>by have hbf':b=false:=hbf;rw[hb.2 hh] at hbf';cases hbf'
    obtain⟨_,_,_,c4,_,sl,o,c3,hr,xd⟩:=h4.cell;refine aA rfl (aE (k:=.bool) p.dF c4 (aF (λhh=>?_) (λhh=>j1 n1 (λg=>by rw[hh] at g;cases g.1) w4 K4)));have sll:=hr.len;refine aA rfl (aE (k:=.slice) sl c3 (aJ (λcJ=>?_) (λkT=>j1 n1 (λg=>?_) w4 K4)))
    ·cases yb:p.jI with
     |nil=>rw[yb] at sll;simp at sll;omega
     |cons x dE=>
      rw[yb] at hr sll;obtain⟨a,ha,hx⟩:=cF (k:=.i) (e:=λx=>x) hr (show(x::dE)[0]? =some x from rfl);refine aA rfl (aE (k:=.slice) sl c3 ⟨⟨aB,aB⟩,aA ha (aE (k:=.i) x hx ?_)⟩);refine aF (λhpx=>?_) (λhpx=>j1 n1 (λg=>?_) w4 K4)
      ·have hpx':pos=x:=by simpa using hpx
       have d4:aM w4 w4.drew:=aW.drew (aW.refl _ w4);have h4d:=h4.aN d4;have od:=o.aK d4 id;refine aA rfl (aE (k:=.slice) sl (cM od rfl) ⟨⟨aB,aB⟩,aA rfl ?_⟩);rw[lit 1];refine cI (o:=1) (v:=aD pos) od cU dK rfl rfl λw5 o5 m5 z5=>?_;refine aA rfl ?_;rw[lit 3]
       let LC:Sl:=⟨aR sl.b sl.c 1 1,sl.l-1,sl.c-1⟩
       refine cI (o:=3) (v:=sv LC) o5 oF dK rfl rfl λw6 o6 m6 z6=>?_;have ns:∀b,sl.b=some b->¬b.block=s:=λb bW e=>(xd b bW).1 (by rw[e];exact h.fs);have hr6:=((hr.aK d4 cR λ_ _=>id).aK m5 cR ns).aK m6 cR ns;have hp6:=hr6.part (i:=1) (j:=sl.l) (c:=sl.c) aB (iT _) hr.cap (iT _);have hrest:((x::dE).drop 1).take (sl.l-1)=dE:=by
        rw[List.drop_one,List.tail_cons,List.take_of_length_le];simp only[nQ] at sll;omega
       rw[hrest] at hp6;have h6:jD F W0 w6 s E G {p with pos:=pos,jI:=dE}:=h4d.put (m5.tr m6) o6 hp6 λb bW=>by
        obtain⟨a0,nk,e⟩:=Nk bW;rw[e];have z4d:w4.drew.heap.size=w4.heap.size:=rfl;exact⟨(xd a0 nk).1,by have:=(xd a0 nk).2;omega⟩
       have hm:p.dF=true/\p.jI.head? =some pos:=⟨hh,by rw[yb,hpx'];rfl⟩;have Tq:=ba.move hE hm;rw[yb,List.tail_cons] at Tq;refine Dm h6 Tq hh λms w7 h7 q7 l7 m7=>?_;have M6:aW (λk=>k=s) w w6:=(((K4.tr d4).wk).tr m5).tr m6;refine hQ _ ms w7 ?_ h7 Tq.pJ (q7.wk λk hk _=>by have:=M6.size;omega) aB (M6.tr m7);unfold fy;rw[if_neg nov,if_neg (by simpa using hE),if_neg n1,if_pos hm,yb,List.tail_cons]
      ·rw[yb] at g
       have:x=pos:=by simpa using g.2
       rw[this] at hpx;simp at hpx
    ·rw[List.head?_eq_none_iff.2 (Cc aB)] at g
     cases g.2
  refine aA rfl (aE (k:=.bool) p.dF h4.cell.2.2.2.1 (aF (λhh=>aA rfl (aE (k:=.i) p.pos h4.cell.2.1 (j2 _ ?_))) (λhh=>j2 _ ?_)))
  ·have Kd:p.dF=true:=hh
   simp[Kd]
  ·have Kd:p.dF=false:=hh
   simp[Kd]
 ·refine fD (vs:=[aD 0,aD 0,aD 0]) jL rfl (by simp[Value.oneCell']) λw4 o4 k4 z4=>?_
  refine aF (λ_=>?_) (λh=>by simp at h);refine bK λw5 o5 k5 z5=>?_;have K4:=k2.tr k4;refine hQ (p,[ij pos]) _ w5 ?_ (h.aN (K4.tr k5)) ba (fL.one (x:=(ij pos,bD)) o5 (GB.none rfl) K4.size) dK (K4.tr k5).wk;unfold fy;rw[if_neg nov,if_pos hE]
end
end
section
theorem Xu{sl:Sl}{xs:List Int}{v:Int}{w:aH}{Q:Int->aH->Prop}(hr:Rd w sl 1 eI xs)(hl:xs.length<1000000)(hQ:∀i w',aM w w'->(0<=i↔v∈xs)->Q i w'):kM sl v w Q:=by
 unfold kM;have hll:=hr.len;refine bO (λc t w1=>∃(i:Nat),i<=xs.length/\c=xs.length-i/\t=((i:Int),())/\aM w w1/\v∉xs.take i) xs.length ⟨0,iG _,rfl,rfl,aW.refl _ _,by simp⟩ ?_;rintro c t w1 ⟨i,hi,rfl,rfl,k1,hn⟩ X hX;dsimp only;refine aJ (λcJ=>?_) (λkT=>?_)
 ·have dI:i<xs.length:=aB
  have cV:=gS dI;have fP:=nC dI;have rT:=FO dI;generalize xs[i]=x at*;obtain⟨q,hq,hc⟩:=cF (k:=.i) (e:=λx=>x) (hr.aK k1 cR λ_ _=>id) cV;rw[kE];refine⟨⟨aB,cJ⟩,aA hq (aE (k:=.i) x hc (aF (λh=>hQ _ w1 k1 ⟨λ_=>?_,λ_=>aB⟩) (λh=>?_)))⟩
  ·have:v=x:=by simpa using h
   rw[this];exact fP
  ·have gF:v≠x:=by simpa using h
   rw[pZ i aB];refine hX _ _ _ aB ⟨i+1,dI,rfl,rfl,k1,λhy=>?_⟩;rw[rT] at hy;rcases jK.1 hy with hy|hy
   ·exact hn hy
   ·exact gF (by simpa using hy)
 ·have ei:i=xs.length:=aB
  subst ei;rw[oY] at hn;exact hQ (-1) w1 k1 ⟨λh=>aB,λh=>absurd h hn⟩
section
variable{F:Nat->Prop}{W0 w:aH}{s:Nat}{E:uJ}{G:Gr}{p:LH}
theorem aAX{CS open_ dD:Sl}{sh op:List Int}{c:List Bool}{Q:Sl->aH->Prop}(h:jD F W0 w s E G p)(ba:UB G p)(hsh:Rd w CS 1 eI sh)(hshl:sh.length<1000000)(Ej:Rd w open_ 1 eI op)(hc:Rd w dD 1 eB c)(hF:∀k,F k->k<w.heap.size)
  (hQ:∀z ms w',Lp G c p sh op z->jD F W0 w' s E G z.1->UB G z.1->fL w' (λk=>w.heap.size<=k) ms z.2->z.2.length<=2->aW (λk=>k=s) w w'->Q ms w'):
  vD (some ⟨s,0,none⟩) CS open_ dD w Q:=by
 unfold vD;refine bK λw1 o1 k1 z1=>?_;have h1:=h.aN k1;refine Done_i h1 (aF (λJz=>?_) (λJz=>?_))
 ·exact hQ (p,[]) _ w1 (by unfold Lp;rw[if_pos Jz]) h1 ba fL.nil dK k1.wk
 have nov:¬p.iH=true:=by rw[Jz];simp
 obtain⟨_,_,_,_,_,sl,_,c3,hr,_⟩:=h1.cell;have len:=ba.len;refine aA rfl (aE (k:=.slice) sl c3 ?_);refine NP (p:=λx=>decide (x∈sh)) (C:=λwx=>aM w1 wx) hr aB (aW.refl _ _) (λ_ _ a b=>a.tr b) (λx wx K hCx hx hK=>?_) λb2 w3 k3 RN=>?_
 ·refine pA Ck iA (gI (ks:=[.i,.c .ptr]) (t:=(x,some ⟨w.heap.size,0,none⟩,())) ?_)
  show sU _ _ _ _;unfold sU gL;have occ:wx.cell? ⟨w.heap.size,0,none⟩=some (sv CS):=by rw[(o1.aK hCx id).cell];rfl
  refine aA rfl (aE (k:=.slice) CS occ ?_);refine Xu ((hsh.aK k1 cR λ_ _=>id).aK hCx cR λ_ _=>id) hshl λi w2 k2 hi=>?_;have e:decide (i>=(0:Int))=decide (x∈sh):=by
   by_cases hm:x∈sh
   ·rw[decide_eq_true hm,decide_eq_true (hi.2 hm)]
   ·rw[decide_eq_false hm,decide_eq_false (λh=>hm (hi.1 h))]
  rw[e];exact hK w2 k2
 have K3:=k1.tr k3;have h3:=h.aN K3;have fo:b2=true↔∃e∈p.jI,e∈sh:=by rw[RN];simp
 have ask:∀(T:WQ Sl),(∀z ms w',Lr G c p z->jD F W0 w' s E G z.1->UB G z.1->fL w' (λk=>w.heap.size<=k) ms z.2->z.2.length<=2/\1<=z.2.length->aW (λk=>k=s) w w'->T ms w')->wO (some ⟨s,0,none⟩) dD w3 T:=λT hT=>by
  have z3:=K3.size;refine jc h3 ba.pos ba.node (hc.aK K3 KO λ_ _=>id) (λk hk=>by have:=hF k hk;omega) λz ms w4 hz h4 Ph q4 l4 m4=>?_;exact hT z ms w4 hz h4 Ph (q4.wk λk hk _=>aB) l4 (K3.wk.tr m4)
 have opl:=Ej.len;intro J1 KH;have jh:p.dF=true->(∃e∈p.jI,e∈sh)->J1 () w3:=by
  intro hh hm;apply KH;refine aA rfl (aE (k:=.bool) p.dF h3.cell.2.2.2.1 (ask _ λz ms w4 hz h4 Ph q4 l4 m4=>?_));refine aF (λh=>by rw[hh] at h;cases h) (λ_=>?_);refine hQ z ms w4 ?_ h4 Ph q4 l4.1 m4;unfold Lp;rw[if_neg nov,if_pos hh,if_pos hm];exact hz
 have jn:p.dF=false->op≠[]->J1 () w3:=by
  intro hh ho;have nh:¬p.dF=true:=by rw[hh];simp
  apply KH;refine aA rfl (aE (k:=.bool) p.dF h3.cell.2.2.2.1 (ask _ λz ms w4 hz h4 Ph q4 l4 m4=>?_));have hC:Lp G c p sh op (z.1,if z.1.dF=true then z.2 else []):=by
   unfold Lp;rw[if_neg nov,if_neg nh,if_neg ho];exact⟨z,hz,rfl⟩
  refine aF (λ_=>?_) (λh=>by rw[hh] at h;cases h);refine aA rfl (aE (k:=.bool) z.1.dF h4.cell.2.2.2.1 (aF (λhf=>?_) (λhf=>?_)))
  ·have XT:z.1.dF=false:=by simpa using hf
   rw[if_neg (by rw[XT];simp)] at hC;exact hQ _ _ w4 hC h4 Ph fL.nil dK m4
  ·have XT:z.1.dF=true:=by simpa using hf
   rw[if_pos XT] at hC;exact hQ _ ms w4 hC h4 Ph q4 l4.1 m4
 have dx:(p.dF=true/\¬(∃e∈p.jI,e∈sh))\/(p.dF=false/\op=[])->Q bD w3:=λhs=>by
  refine hQ (p,[]) _ w3 ?_ h3 ba fL.nil dK K3.wk;unfold Lp;rw[if_neg nov];rcases hs with⟨a,b⟩|⟨a,b⟩
  ·rw[if_pos a,if_neg b]
  ·rw[if_neg (by rw[a];simp),if_pos b]
 have c4:=h3.cell.2.2.2.1;have nope:p.dF=false->cond ((open_.l:Int)==(0:Int)) (Q bD w3) (J1 () w3):=λhh=>by
  refine aF (λhz=>dx (.inr ⟨hh,?_⟩)) (λhz=>jn hh λe=>?_)
  ·exact Cc (by simp at hz;omega)
  ·rw[opl,e] at hz;simp at hz
 refine aA rfl (aE (k:=.bool) p.dF c4 (aF (λhh=>?_) (λhh=>?_)))
 ·have Kd:p.dF=true:=hh
  refine aF (λhn=>dx (.inl ⟨Kd,λhm=>?_⟩)) (λhy=>aA rfl (aE (k:=.bool) p.dF c4 (aF (λh=>by rw[Kd] at h;cases h) (λ_=>jh Kd (fo.1 (by simpa using hy))))));rw[fo.2 hm] at hn;cases hn
 ·have Kd:p.dF=false:=hh
  exact aA rfl (aE (k:=.bool) p.dF c4 (aF (λ_=>nope Kd) (λh=>by rw[Kd] at h;cases h)))
end
end
end Go.Proofs.YtihggjgakbgomaaGreat
namespace Go.Proofs.YtihggjgakbgomaaGreat
open Go Go.Den Go.Proofs
section
def tE(a:Nat)(u:List Int):As:=Ex λsl=>aZ (rY a MP [sv sl]) (iU cY 1 eI sl u)
instance{a:Nat}{u:List Int}:bF (tE a u):=by unfold tE;infer_instance
theorem TH{s:Sl}{xs:List Int}{w:aH}{S:BS}{b:Addr}{i:Nat}{x:Int}{K:aH->Prop}(h:iU cY 1 eI s xs w S)(hb:s.b=some b)(hi:i<xs.length)(hK:∀w',iU cY 1 eI s (xs.set i x) w' S->Up S S w w'->K w'):aI Tryz.prog cY (b.add (i*1)) (aD x) w K:=
 h.1.store fG hb hi x (v:=aD x) rfl cU (ES _) λw' v m _=>hK w' ⟨v,h.2⟩ (Up.at (m.mono λk _ hk=>(h.2 k).2 ⟨b,hb,hk⟩))
theorem Sort1_i{s:Sl}{x:Int}{w:aH}{Q:aH->Prop}(h:dP w cY 1 eI s [x])(hQ:∀w',dP w' cY 1 eI s [x]->aW (λk=>∃b,s.b=some b/\k=b.block) w w'->Q w'):pG s w Q:=by
 obtain⟨sb,sl,sc⟩:=s;rcases h.gN with⟨h1,h2⟩|⟨g,dE,hb,ho,hl⟩
 ·have e1:sl=1:=h.len;have e2:sl<=sc:=h.cap;have e3:sc=0:=h2;omega
 have bW:sb=some ⟨g,0,none⟩:=hb;subst bW;have fU:sl=1:=h.len;subst fU;have Qi:1<=sc:=h.cap;have Qf:sc<=maxLen:=h.max;have hcur:w.heap[g]? =some (.cells ([x].flatMap eI++dE).toArray cY (0,0)):=ho;have hl':([x].flatMap eI++dE).length=sc*1:=hl;have hH:Go.Sort.Holds (Value.int .i64) w g 0 [x].toArray:=holds_of_block_i hcur rfl;have cS:=AnyM.slices_Sort_int sortA g 0 sc [x] w hH ho.lt dK;refine Calls.mono cS ?_;rintro e w' ⟨rfl,n,os,rfl⟩;refine⟨_,rfl,?_⟩;show Q _;have e1:[x].mergeSort (λx y=>decide (x<=y))=[x]:=List.mergeSort_singleton x;rw[e1];have nN:=ownsRow_sorted_i (w:=w) (n:=n) (os:=os) (ss:=[x]) (ts:=[x]) rfl (iG g) hcur Qi Qf (by simpa using hl');have hg:=grownBy_sorted_i (w:=w) (g:=g) (n:=n) (os:=os) [x].toArray;obtain⟨s',e2,hv,_⟩:=Rp (nE:=0) (ks:=[x]) nN;have:s'=⟨some ⟨g,0,none⟩,1,sc⟩:=by
  obtain⟨b,l,c⟩:=s';injection e2 with h1 h2 h3;subst h1;subst h2;subst h3;rfl
 subst this;exact hQ _ hv ⟨hg.os,hg.tape,hg.output,hg.size,λk hk hn=>hg.block k hk λe=>hn ⟨_,rfl,by injection e⟩⟩
section
variable{w:aH}{S:BS}{a:Nat}{u:List Int}
theorem tE.cell(h:tE a u w S):∃sl,w.cell? ((⟨a,0,none⟩:Addr).add 0)=some (sv sl)/\Rd w sl 1 eI u/\sl.l=u.length:=by
 obtain⟨sl,S1,S2,h1,h2,_⟩:=h;exact⟨sl,aO h1 rfl,h2.1.rd fG,h2.1.len⟩
theorem smay_i{cH:Sl}{e:Int}{Q:Bool->aH->Prop}(h:tE a u w S)(hr:Rd w cH 1 eI [e])(he:0<=e/\e<u.length)(hQ:∀w',aM w w'->Q true w'):MW (some ⟨a,0,none⟩) cH w Q:=by
 unfold MW;refine cC (cs:=[.pointer (some ⟨a,0,none⟩)]) λw1 b1 k1 z1=>?_;refine aE (k:=.ptr) (some ⟨a,0,none⟩) (by rw[(b1.1).cell];rfl) (aF (λ_=>?_) (λh=>by simp at h));refine NP (p:=λx=>!decide (0<=x/\x<u.length)) (C:=λwx=>aM w1 wx) (hr.aK k1 cR λ_ _=>id) dK (aW.refl _ _) (λ_ _ a b=>a.tr b) (λx wx K hCx hx hK=>?_) λb w2 k2 hb=>?_
 ·refine pA Zm iA (gI (ks:=[.i,.c .ptr]) (t:=(x,some ⟨w.heap.size,0,none⟩,())) ?_)
  show EA _ _ _ _;unfold EA;have Bt:x=e:=by simpa using hx
  subst Bt;have hK':=hK wx (aW.refl _ _);have hp:(!decide (0<=x/\x<(u.length:Int)))=false:=by rw[decide_eq_true he];rfl
  rw[hp] at hK';obtain⟨sl,c,_,l⟩:=(bF.kp h (k1.tr hCx)).cell;refine aJ (λh=>aB) (λ_=>aA rfl (aE (k:=.ptr) (some ⟨a,0,none⟩) (by rw[(b1.1.aK hCx id).cell];rfl) (aA rfl (aE (k:=.slice) sl c ?_))));rw[l,decide_eq_false aB];exact hK'
 ·have:b=false:=by
   cases b with
   |false=>rfl
   |true=>
    obtain⟨x,hx,hp⟩:=hb.1 rfl;have Bt:x=e:=by simpa using hx
    subst Bt;rw[decide_eq_true he] at hp;cases hp
  rw[this];exact hQ w2 (k1.tr k2)
theorem sset_i{nF:Int}{cH:Sl}{e:Nat}{Q:Sl->aH->Prop}(h:tE a u w S)(hr:Rd w cH 1 eI [(e:Int)])(he:e<u.length)
  (hQ:∀r w' S',aZ (tE a (u.set e nF)) (iU cY 1 eI r (if decide (u[e]>0)==decide (nF>0) then [] else [(e:Int)])) w' S'->Up S S' w w'->Q r w'):MV (some ⟨a,0,none⟩) nF cH w Q:=by
 unfold MV;refine HC hr dK λs1 w1 v1 k1 f1=>?_;refine Sort1_i v1 λw2 v2 m2=>?_;have h1:=bF.kp h k1;have bd:=bF.gH h;have h2:tE a u w2 S:=bF.aK h1 m2 λk hk ⟨b,hb,e⟩=>by have:=bd k hk;have:=f1 b hb;omega
 have U2:Up S S w w2:=⟨k1.wk.trans m2 λk hk ⟨b,hb,e⟩=>by have:=f1 b hb;omega,λk hk=>.inl hk⟩;unfold mH;have l2:s1.l=1:=v2.len;refine aJ (λ_=>?_) (λh=>absurd (by rw[l2];decide) h);dsimp only;rw[l2];have Ep:∀{wx:aH},iU cY 1 eI bD ([]:List Int) wx (λ_=>False):=λ{wx}=>⟨dP.nil _ _ _ _,λk=>⟨False.elim,λ⟨b,hb,_⟩=>by cases hb⟩⟩;refine bO (λc t w4=>(c=1/\t=(bD,0,())/\w4=w2)\/(c=0/\t.2.1=1/\Q t.1 w4)) 1 (.inl ⟨rfl,rfl,rfl⟩) ?_;rintro c ⟨r,i,_⟩ w4 (⟨rfl,h,rfl⟩|⟨rfl,h,hq⟩) X hX
 ·cases h
  dsimp only;refine aJ (λ_=>?_) (λh=>absurd (by decide) h);obtain⟨b,hb,cb⟩:=cF (k:=.i) (e:=λx=>x) (v2.rd fG) (show [(e:Int)][0]? =some (e:Int) from rfl);obtain⟨sl,S1,S2,hB,hV,d,ee⟩:=h2;have hlu:=hV.1.len;have cV:=gS he;refine⟨⟨by decide,by decide⟩,aA hb (aE (k:=.i) (e:Int) cb (aA rfl (aE (k:=.slice) sl (aO hB rfl) ?_)))⟩;obtain⟨q,hq,cq⟩:=cF (k:=.i) (e:=λx=>x) (hV.1.rd fG) cV;rw[kE];refine⟨⟨aB,aB⟩,aA hq (aE (k:=.i) u[e] cq ?_)⟩;have done:∀(r:Sl) (L:List Int) w5 S3,aZ (tE a (u.set e nF)) (iU cY 1 eI r L) w5 S3->Up S S3 w4 w5->L=(if decide (u[e]>0)==decide (nF>0) then [] else [(e:Int)])->X (r,(aQ ((0:Int)+(1:Int))),()) w5:=λr L w5 S3 h5 u5 hL=>by
   subst hL;exact hX 0 _ _ aB (.inr ⟨rfl,by rw[gM aB aB];rfl,hQ r w5 S3 h5 (U2.tr u5)⟩)
  refine aF (λgF=>?_) (λheq=>?_)
  ·refine cC (cs:=[aD (e:Int)]) λw5 b5 k5 z5=>?_
   have hs5:aZ (aZ (rY a MP [sv sl]) (iU cY 1 eI sl u)) (iU cY 1 eI bD ([]:List Int)) w5 S:=aZ.oO (bF.kp (A:=aZ (rY a MP [sv sl]) (iU cY 1 eI sl u)) ⟨S1,S2,hB,hV,d,ee⟩ k5) Ep;obtain⟨S6,h6,_,xS⟩:=(aZ.r hs5).put;refine DV (x:=⟨some ⟨w4.heap.size,0,none⟩,1,1⟩) iK fG ES h6 (iV fG [(e:Int)] b5 rfl dK) dK aB λr w6 S7 v7 u7=>?_;obtain⟨S8,h8,u8⟩:=xS _ w6 S7 u7 v7;obtain⟨S9,h9,_,Ap⟩:=((aZ.l h8).c λT hT=>aZ.r hT).put;obtain⟨FP,IN,_,_⟩:=((aZ.l h8).c λT hT=>aZ.l hT).put;refine aA rfl (aE (k:=.slice) sl (aO IN rfl) ⟨⟨aB,aB⟩,aA hq ?_⟩);refine TH h9 hq he λw7 v9 u9=>?_;obtain⟨Mv,Ki,Km⟩:=Ap _ w7 _ u9 v9;refine done r [(e:Int)] w7 Mv (Ki.mono (λ_ h=>⟨sl,h⟩) λ_ h=>h) (((Up.aN k5).tr u8).tr Km) ?_;rw[if_neg (by simpa using gF)]
  ·obtain⟨S9,h9,_,Ap⟩:=(aZ.r (⟨S1,S2,hB,hV,d,ee⟩:aZ (rY a MP [sv sl]) (iU cY 1 eI sl u) w4 S)).put
   refine aA rfl (aE (k:=.slice) sl (aO hB rfl) ⟨⟨aB,aB⟩,aA hq ?_⟩);refine TH h9 hq he λw7 v9 u9=>?_;obtain⟨Mv,Ki,Km⟩:=Ap _ w7 _ u9 v9;refine done bD [] w7 Mv (aZ.oO ⟨sl,Ki⟩ Ep) Km ?_;rw[if_pos (by simpa using heq)]
 ·dsimp only at h ⊢
  subst h;exact aJ (λh=>absurd h (by decide)) (λ_=>hq)
def ML(u:List Int)(e:Nat)(t:Int):List Int:=if decide (u[e]?.getD 0>0)==decide (t>0) then [] else [(e:Int)]
theorem SClose_i{nF:Int}{cH:Sl}{e:Nat}{Q:Sl->Int->aH->Prop}(h:tE a u w S)(hr:Rd w cH 1 eI [(e:Int)])(he:e<u.length)(ht:1<=nF/\nF<=1099511627776)
  (hQ:∀r w' S',aZ (tE a (u.set e nF)) (iU cY 1 eI r (ML u e nF)) w' S'->Up S S' w w'->Q r 0 w'):JP (some ⟨a,0,none⟩) nF cH w Q:=by
 unfold JP;have e1:ML u e nF=if decide (u[e]>0)==decide (nF>0) then [] else [(e:Int)]:=by unfold ML;rw[gS he];rfl
 rw[e1] at hQ;refine aJ (λh=>aB) (λ_=>aJ (λh=>aB) (λ_=>?_));refine smay_i h hr ⟨aB,aB⟩ λw1 k1=>aF (λh=>by cases h) (λ_=>?_);exact sset_i (bF.kp h k1) (hr.aK k1 cR λ_ _=>id) he λr w2 S2 h2 u2=>hQ r w2 S2 h2 ((Up.aN k1).tr u2)
theorem SOpen_i{cH:Sl}{e:Nat}{Q:Sl->Int->aH->Prop}(h:tE a u w S)(hr:Rd w cH 1 eI [(e:Int)])(he:e<u.length)
  (hQ:∀r w' S',aZ (tE a (u.set e 0)) (iU cY 1 eI r (ML u e 0)) w' S'->Up S S' w w'->Q r 0 w'):OU (some ⟨a,0,none⟩) cH w Q:=by
 unfold OU;have e1:ML u e 0=if decide (u[e]>0)==decide ((0:Int)>0) then [] else [(e:Int)]:=by unfold ML;rw[gS he];rfl
 rw[e1] at hQ;refine smay_i h hr ⟨aB,aB⟩ λw1 k1=>aF (λh=>by cases h) (λ_=>?_);exact sset_i (bF.kp h k1) (hr.aK k1 cR λ_ _=>id) he λr w2 S2 h2 u2=>hQ r w2 S2 h2 ((Up.aN k1).tr u2)
abbrev eSh(p:Int×Int):List Value:=[aD p.1,aD p.2]
theorem lenSh:∀x:Int×Int,(eSh x).length=2:=λ_=>rfl
theorem oneSh:∀x:Int×Int,∀v∈eSh x,v.oneCell'=true:=by intro x v hu;simp at hu;rcases hu with rfl|rfl<;>rfl
theorem eSh_ne(x:Int×Int):eSh x≠[]:=by simp
def mE(i:Nat):List Int->List (Int×Int)
 | []=>[]
 |x::r=>if x>0 then((i:Int),x)::mE (i+1) r else mE (i+1) r
theorem aAt(l m:List Int):∀i,mE i (l++m)=mE i l++mE (i+l.length) m:=by
 induction l with
 |nil=>intro i;rfl
 |cons a l ih=>
  intro i;rw[List.cons_append,mE,mE,ih,nQ,show i+1+l.length=i+(l.length+1) by omega]
  split<;>rfl
theorem ZK(l:List Int):∀i,(mE i l).length<=l.length:=by
 induction l with
 |nil=>intro i;exact iT _
 |cons a l ih=>intro i;have:=ih (i+1);rw[mE];split<;>simp<;>omega
theorem SAll_i{Q:Sl->aH->Prop}(h:tE a u w S)(hu:u.length<=512)(hQ:∀r w',dP w' tShut 2 eSh r (mE 0 u)->aM w w'->(∀b,r.b=some b->w.heap.size<=b.block)->Q r w'):WK (some ⟨a,0,none⟩) w Q:=by
 unfold WK;obtain⟨sl,c,hr,hl⟩:=h.cell;refine aF (λh=>by simp at h) (λ_=>aA rfl (aE (k:=.slice) sl c ?_));refine bO (λn t w1=>∃(i:Nat) (r:Sl),i<=u.length/\n=u.length-i/\t=(r,(i:Int),())/\dP w1 tShut 2 eSh r (mE 0 (u.take i))/\aM w w1/\∀b,r.b=some b->w.heap.size<=b.block) u.length
  ⟨0,bD,iG _,rfl,rfl,dP.nil _ _ _ _,aW.refl _ _,λb hb=>by cases hb⟩ ?_
 rintro n t w1 ⟨i,r,hi,rfl,rfl,v1,k1,f1⟩ X hX;dsimp only;refine aJ (λcJ=>?_) (λkT=>?_)
 ·have dI:i<u.length:=aB
  have cV:=gS dI;have rT:=FO dI;generalize u[i]=x at*;obtain⟨q,hq,cq⟩:=cF (k:=.i) (e:=λx=>x) (hr.aK k1 cR λ_ _=>id) cV;have e1:mE 0 (u.take (i+1))=mE 0 (u.take i)++(if x>0 then [((i:Int),x)] else []):=by
   rw[rT,aAt,pV,Nat.min_eq_left hi,pM,mE,mE]
  rw[kE,pZ i aB];refine⟨⟨aB,cJ⟩,aA hq (aE (k:=.i) x cq (aJ (λhx=>?_) (λhx=>?_)))⟩
  ·refine cC (cs:=eSh ((i:Int),x)) λw2 b2 k2 z2=>?_
   have hal:=ZK (u.take i) 0;rw[pV] at hal;refine fN kq lenSh oneSh (x:=⟨some ⟨w1.heap.size,0,none⟩,1,1⟩) (v1.aK k2 λ_ _=>id) (iV lenSh [((i:Int),x)] b2 rfl dK) (by simp;omega) (by simp;omega) λr' w3 v3 m3 hr3 _=>?_;rw[if_pos hx] at e1;rw[<-e1] at v3;refine hX _ _ _ aB ⟨i+1,r',dI,rfl,rfl,v3,(k1.tr k2).fresh m3 λk ⟨b,hb,e⟩=>by rw[e];exact f1 b hb,λb hb=>?_⟩;rcases hr3 with h|⟨b',h,h2⟩
   ·exact f1 b (h.symm.trans hb)
   ·rw[hb] at h;cases h;have:=(k1.tr k2).size;omega
  ·rw[if_neg hx,tB] at e1
   exact hX _ _ _ aB ⟨i+1,r,dI,rfl,rfl,by rw[e1];exact v1,k1,f1⟩
 ·have ei:i=u.length:=aB
  subst ei;rw[oY] at v1;exact hQ r w1 v1 k1 f1
abbrev Vu(u:List Int):List Bool:=u.map λx=>decide (x>0)
theorem Sd{Q:Sl->aH->Prop}(h:tE a u w S)(hu:u.length<=512)(hQ:∀r w',dP w' xP 1 eB r (Vu u)->aM w w'->(∀b,r.b=some b->w.heap.size<=b.block)->Q r w'):AL (some ⟨a,0,none⟩) w Q:=by
 unfold AL;obtain⟨sl,c,hr,hl⟩:=h.cell;refine aF (λh=>by simp at h) (λ_=>aA rfl (aE (k:=.slice) sl c ?_));refine bO (λn t w1=>∃(i:Nat) (r:Sl),i<=u.length/\n=u.length-i/\t=(r,(i:Int),())/\dP w1 xP 1 eB r (Vu (u.take i))/\aM w w1/\∀b,r.b=some b->w.heap.size<=b.block) u.length
  ⟨0,bD,iG _,rfl,rfl,dP.nil _ _ _ _,aW.refl _ _,λb hb=>by cases hb⟩ ?_
 rintro n t w1 ⟨i,r,hi,rfl,rfl,v1,k1,f1⟩ X hX;dsimp only;refine aJ (λcJ=>?_) (λkT=>?_)
 ·have dI:i<u.length:=aB
  have cV:=gS dI;have rT:=FO dI;generalize u[i]=x at*;have h1:=bF.kp h k1;obtain⟨sl1,c1,hr1,Kc⟩:=h1.cell;obtain⟨q,hq,cq⟩:=cF (k:=.i) (e:=λx=>x) hr1 cV;have e1:Vu (u.take (i+1))=Vu (u.take i)++[decide (x>0)]:=by rw[rT];simp
  rw[pZ i aB];unfold NN;refine aF (λ_=>aJ (λ_=>aA rfl (aE (k:=.slice) sl1 c1 (aJ (λ_=>aA rfl (aE (k:=.slice) sl1 c1 ?_)) (λh=>aB)))) (λh=>aB)) (λh=>by simp at h);rw[kE];refine⟨⟨aB,aB⟩,aA hq (aE (k:=.i) x cq ?_)⟩;refine cC (cs:=eB (decide (x>0))) λw2 b2 k2 z2=>?_;refine fN Iu Uv oneB (x:=⟨some ⟨w1.heap.size,0,none⟩,1,1⟩) (v1.aK k2 λ_ _=>id) (iV Uv [decide (x>0)] b2 rfl dK) (by simp;omega) (by simp;omega) λr' w3 v3 m3 hr3 _=>?_;rw[<-e1] at v3;refine hX _ _ _ aB ⟨i+1,r',dI,rfl,rfl,v3,(k1.tr k2).fresh m3 λk ⟨b,hb,e⟩=>by rw[e];exact f1 b hb,λb hb=>?_⟩;rcases hr3 with h|⟨b',h,h2⟩
  ·exact f1 b (h.symm.trans hb)
  ·rw[hb] at h;cases h;have:=(k1.tr k2).size;omega
 ·have ei:i=u.length:=aB
  subst ei;rw[oY] at v1;exact hQ r w1 v1 k1 f1
end
end
end Go.Proofs.YtihggjgakbgomaaGreat
namespace Go.Proofs.YtihggjgakbgomaaGreat
open Go Go.Den
section
theorem Sc{n:Nat}{w:aH}{Q:cL->aH->Prop}(hn:n<=512)(hQ:∀g w' S',tE g (List.replicate n 0) w' S'->aM w w'->(∀k,S' k->w.heap.size<=k)->Q (some ⟨g,0,none⟩) w'):tZ (n:Int) w Q:=by
 unfold tZ;refine aJ (λh=>aB) (λ_=>aJ (λh=>aB) (λ_=>?_));refine BQ iK (aY:=eI) 0 rfl fG aB (oX _) aB aB λw2 v2 k2=>?_;simp only[kE] at v2 ⊢;have cJ:w.heap.size<w2.heap.size:=v2.lt rfl;refine cC (cs:=[sv ⟨some ⟨w.heap.size,0,none⟩,n,n⟩]) λw3 b3 k3 z3=>?_;refine hQ w2.heap.size w3 _ ⟨_,aZ.vP b3 ⟨v2.aK k3 λ_ _=>id,λ_=>Iff.rfl⟩ λk h1 ⟨b,hb,h2⟩=>by cases hb;rw[h2] at h1;have h1':w.heap.size=w2.heap.size:=h1;omega⟩ (k2.tr k3) λk hk=>hk.elim (λh=>aB) λ⟨b,hb,h⟩=>by cases hb;rw[h];exact iT _
def RU(dN:Int)(u:List Int)(l:List (Int×Int)):List Int:=l.foldl (λu p=>if p.2<=dN then u.set p.1.toNat 0 else u) u
theorem Xe(dN:Int):∀(l:List (Int×Int)) (u:List Int),(RU dN u l).length=u.length:=by
 intro l
 induction l with
 |nil=>intro u;rfl
 |cons p l ih=>
  intro u;show(RU dN _ l).length=_;rw[ih];dsimp only
  split<;>simp
def UR(dN:Int)(l:List (Int×Int)):List Int:=(l.filter λp=>decide (p.2<=dN)).map (·.1)
theorem aAs(u:List Int):∀(i:Nat) (p:Int×Int),p∈mE i u->∃j:Nat,p.1=((i+j:Nat):Int)/\u[j]? =some p.2/\p.2>0:=by
 induction u with
 |nil=>intro i p h;cases h
 |cons x r ih=>
  intro i p h;rw[mE] at h;have rec_:p∈mE (i+1) r->∃j:Nat,p.1=((i+j:Nat):Int)/\(x::r)[j]? =some p.2/\p.2>0:=λh=>by
   obtain⟨j,h1,h2,h3⟩:=ih (i+1) p h;exact⟨j+1,by rw[h1];congr 1;omega,by simpa using h2,h3⟩
  split at h
  ·rcases lL.1 h with rfl|h
   ·exact⟨0,rfl,rfl,by assumption⟩
   ·exact rec_ h
  ·exact rec_ h
section
variable{w:aH}{S:BS}{a:Nat}{u:List Int}
theorem Lapse_i{dN:Int}{Q:Sl->aH->Prop}(h:tE a u w S)(hu:u.length<=512)
  (hQ:∀r w' S',aZ (tE a (RU dN u (mE 0 u))) (iU cY 1 eI r (UR dN (mE 0 u))) w' S'->Up S S' w w'->Q r w'):JO (some ⟨a,0,none⟩) dN w Q:=by
 unfold JO;refine SAll_i h hu λs1 w1 v1 k1 f1=>?_;have Ep:∀{wx:aH},iU cY 1 eI bD ([]:List Int) wx (λ_=>False):=λ{wx}=>⟨dP.nil _ _ _ _,λk=>⟨False.elim,λ⟨b,hb,_⟩=>by cases hb⟩⟩;have fU:=ZK u 0;have fP:=aAs u 0;generalize mE 0 u=Ko at*;have o1:AW s1 S w1:=λb hb=>⟨λhk=>by have:=bF.gH h _ hk;have:=f1 b hb;omega,v1.lt hb⟩;have sl:=v1.len;refine bO (λn t w2=>∃(i:Nat) (r:Sl) (S2:BS),i<=Ko.length/\n=Ko.length-i/\t=(r,(i:Int),())/\aZ (tE a (RU dN u (Ko.take i))) (iU cY 1 eI r (UR dN (Ko.take i))) w2 S2/\Up S S2 w w2/\Rd w2 s1 2 eSh Ko/\AW s1 S2 w2) Ko.length
  ⟨0,bD,S,iG _,rfl,rfl,aZ.oO (bF.kp h k1) Ep,Up.aN k1,v1.rd lenSh,o1⟩ ?_
 rintro n t w2 ⟨i,r,S2,hi,rfl,rfl,h2,u2,r2,o2⟩ X hX;dsimp only;refine aJ (λcJ=>?_) (λkT=>?_)
 ·have dI:i<Ko.length:=aB
  have cV:=gS dI;have rT:=FO dI;have hm:=fP _ (nC dI);generalize Ko[i]=p at*;obtain⟨e,t⟩:=p;obtain⟨j,hj1,hj2,hj3⟩:=hm;rw[pM] at hj1;have hj1':e=(j:Int):=hj1;have hju:j<u.length:=(kU.1 hj2).1;subst hj1';obtain⟨q,hq,hh⟩:=r2.get i _ cV;rw[kE,pZ i aB];refine⟨⟨aB,cJ⟩,aA hq (bJ (l:=[.i,.i]) ((j:Int),t,()) hh ?_)⟩;refine fD (zs:=[aD 0,aD 0]) (vs:=eSh ((j:Int),t)) yz rfl (oneSh _) λw4 o4 k4 z4=>?_;have c4:=Py o4;have h4:=bF.kp h2 k4;have dQ:∀r' w' S',aZ (tE a (RU dN u (Ko.take (i+1)))) (iU cY 1 eI r' (UR dN (Ko.take (i+1)))) w' S'->Up S2 S' w2 w'->X (r',((i+1:Nat):Int),()) w':=λr' w' S' h' u'=>
   hX _ _ _ aB ⟨i+1,r',S',dI,rfl,rfl,h',u2.tr u',o2.rd u' r2 eSh_ne,o2.up u'⟩
  have eU:RU dN u (Ko.take (i+1))=if t<=dN then(RU dN u (Ko.take i)).set j 0 else RU dN u (Ko.take i):=by
   unfold RU;rw[rT,List.foldl_append];rfl
  have eL:UR dN (Ko.take (i+1))=UR dN (Ko.take i)++if t<=dN then [(j:Int)] else []:=by
   unfold UR;rw[rT,IQ,yQ];congr 1
   by_cases ht:t<=dN<;>simp[ht]
  refine aE (k:=.i) t c4.2 (aJ (λht=>?_) (λht=>?_))
  ·rw[if_pos ht] at eU eL
   have kd:=k4.tr (bN w4);have h4d:=bF.kp h2 kd;have c4d:=(bN w4).cell c4.1 id;obtain⟨SA,SV,⟨sl,SB,SU,hB,hU,dBU,eBU⟩,hV,dAV,eAV⟩:=h4d;have hlu:=hU.1.len;have hj:j<(RU dN u (Ko.take i)).length:=by rw[Xe];exact hju
   have h5:aZ (aZ (rY a MP [sv sl]) (iU cY 1 eI sl (RU dN u (Ko.take i)))) (iU cY 1 eI r (UR dN (Ko.take i))) w4.drew S2:=⟨SA,SV,⟨SB,SU,hB,hU,dBU,eBU⟩,hV,dAV,eAV⟩;refine aA rfl (aE (k:=.slice) sl (aO hB rfl) (aE (k:=.i) (j:Int) c4d ⟨⟨aB,aB⟩,?_⟩));rw[kE];obtain⟨S6,h6,_,xS⟩:=((aZ.l h5).c λT hT=>aZ.r hT).put;obtain⟨b,hb⟩:∃b,sl.b=some b:=by
    obtain⟨a',pH,_⟩:=(hU.1.rd fG).get j _ (gS hj);exact⟨a',pH⟩
   have bd:=bF.gH h2;refine aA hb (TH h6 hb hj λw5 v5 u5=>?_);obtain⟨S7,h7,u7⟩:=xS _ w5 _ u5 v5;have c5:w5.cell? ((⟨w2.heap.size,0,none⟩:Addr).add 0)=some (aD (j:Int)):=u7.m.cell c4d λhk=>by
    have lD:S2 w2.heap.size:=hk;have:=bd _ lD;omega
   refine aE (k:=.i) (j:Int) c5 ?_;refine cC (cs:=[aD (j:Int)]) λw6 b6 k6 z6=>?_;obtain⟨S8,h8,_,MD⟩:=(aZ.r (bF.kp h7 k6)).put;have hLl:(UR dN (Ko.take i)).length<=512:=by
    unfold UR;rw[oK];have:=vU (λp:Int×Int=>decide (p.2<=dN)) (Ko.take i);rw[pV] at this;omega
   refine DV (x:=⟨some ⟨w5.heap.size,0,none⟩,1,1⟩) iK fG ES h8 (iV fG [(j:Int)] b6 rfl dK) (by simp;omega) aB λr' w7 S9 v9 u9=>?_;obtain⟨FP,IN,Ed⟩:=MD _ w7 S9 u9 v9;refine dQ r' w7 FP ?_ (((Up.aN kd).tr u7).tr ((Up.aN k6).tr Ed));rw[eU,eL];exact IN.mono (λ_ h=>⟨sl,h⟩) λ_ h=>h
  ·rw[if_neg ht] at eU eL
   rw[tB] at eL;refine dQ r w4 S2 ?_ (Up.aN k4);rw[eU,eL];exact h4
 ·have ei:i=Ko.length:=aB
  subst ei;rw[oY] at h2;exact hQ r w2 S2 h2 u2
end
end
section
theorem vX.filter{α:Type}{f:α->As}(p:α->Bool):∀{l:List α} {w:aH} {S:BS},vX f l w S->aZ (vX f (l.filter p)) (vX f (l.filter λx=>!p x)) w S
 | [],w,S,h=>⟨S,S,h,h,λk hk=>absurd hk (h k),λk=>⟨.inl,λh=>h.elim id id⟩⟩
 |x::r,w,S,⟨S1,S2,h1,h2,d,e⟩=>by
  obtain⟨T1,T2,g1,g2,d',e'⟩:=vX.filter (f:=f) p h2;cases hp:p x with
  |true=>
   rw[List.filter_cons_of_pos hp,List.filter_cons_of_neg (by simp[hp])];exact⟨λk=>S1 k\/T1 k,T2,⟨S1,T1,h1,g1,λk a b=>d k a ((e' k).2 (.inl b)),λ_=>Iff.rfl⟩,g2,λk a b=>a.elim (λa=>d k a ((e' k).2 (.inr b))) λa=>d' k a b,λk=>by rw[e k,e' k,or_assoc]⟩
  |false=>
   rw[List.filter_cons_of_neg (by simp[hp]),List.filter_cons_of_pos (by simp[hp])];refine⟨T1,λk=>S1 k\/T2 k,g1,⟨S1,T2,h1,g2,λk a b=>d k a ((e' k).2 (.inr b)),λ_=>Iff.rfl⟩,λk a b=>b.elim (λb=>d k b ((e' k).2 (.inl a))) λb=>d' k a b,λk=>?_⟩;rw[e k,e' k]
   constructor
   ·rintro(h|h|h)
    ·exact .inr (.inl h)
    ·exact .inl h
    ·exact .inr (.inr h)
   ·rintro(h|h|h)
    ·exact .inr (.inl h)
    ·exact .inl h
    ·exact .inr (.inr h)
theorem vX.get{α:Type}{f:α->As}:∀{l:List α} {w:aH} {S:BS} {x:α},vX f l w S->x∈l->∃S1,f x w S1/\∀k,S1 k->S k
 |y::r,w,S,x,⟨S1,S2,h1,h2,d,e⟩,hx=>by
  rcases lL.1 hx with rfl|hx
  ·exact⟨S1,h1,λk hk=>(e k).2 (.inl hk)⟩
  ·obtain⟨T,g,hT⟩:=vX.get h2 hx
   exact⟨T,g,λk hk=>(e k).2 (.inr (hT k hk))⟩
def uG(ee s:Nat)(p:LH):As:=Ex λsl=>aZ (rY s Vl (eSe ee p sl)) (AV 1 eI sl p.jI)
instance{ee s:Nat}{p:LH}:bF (uG ee s p):=by unfold uG;infer_instance
structure Bs(W0:aH)(E:uJ)(G:Gr)(S:BS)(w:aH):Prop where
 xj:zC W0 E G
 k0:aM W0 w
 lo:∀k,S k->W0.heap.size<=k
section
variable{W0 w w':aH}{E:uJ}{G:Gr}{S S' S1:BS}
theorem Bs.up(h:Bs W0 E G S w)(u:Up S S' w w'):Bs W0 E G S' w':=⟨h.xj,h.k0.fresh u.m h.lo,λk hk=>(u.s k hk).elim (h.lo k) λhh=>iF h.k0.size hh⟩
theorem Bs.sub(h:Bs W0 E G S w)(hs:∀k,S' k->S k):Bs W0 E G S' w:=⟨h.xj,h.k0,λk hk=>h.lo k (hs k hk)⟩
theorem Bs.kp(h:Bs W0 E G S w)(k:aM w w'):Bs W0 E G S w':=⟨h.xj,h.k0.tr k,h.lo⟩
theorem Bs.e(h:Bs W0 E G S w):zC w E G:=h.xj.aN h.k0
theorem uG.at{s:Nat}{p:LH}(hb:Bs W0 E G S w)(h:uG E.e s p w S):jD (λk=>k<w.heap.size/\(k=s\/¬S k)) W0 w s E G p:=by
 obtain⟨sl,S1,S2,h1,h2,d,e⟩:=h;have hs:S1 s:=(h1.2 s).2 rfl;refine⟨hb.xj,hb.k0,hb.lo s ((e s).2 (.inl hs)),⟨sl,h1.1,h2.1,λb LF=>⟨λhf=>?_,h2.2.2.1 b LF⟩⟩,⟨h1.1.lt,.inl rfl⟩⟩;have hS2:S2 b.block:=(h2.2.2.2 _).2 ⟨b,LF,rfl⟩;rcases hf.2 with hf|hf
 ·exact d _ (by rw[hf];exact hs) hS2
 ·exact hf ((e _).2 (.inr hS2))
theorem uG.of{s:Nat}{p:LH}(hsw:s<w.heap.size)(hS:S s)(h:jD (λk=>k<w.heap.size/\(k=s\/¬S k)) W0 w' s E G p):∃S',uG E.e s p w' S'/\∀k,S' k->S k\/w.heap.size<=k:=by
 obtain⟨sl,h1,h2,h3⟩:=h.gN;have key:∀b,sl.b=some b->(w.heap.size<=b.block\/(S b.block/\b.block≠s)):=λb hb=>by
  have:=(h3 b hb).1
  by_cases cJ:b.block<w.heap.size
  ·refine .inr ⟨?_,λe=>this ⟨cJ,.inl e⟩⟩
   exact Classical.byContradiction λhn=>this ⟨cJ,.inr hn⟩
  ·exact .inl aB
 refine⟨λk=>k=s\/∃b,sl.b=some b/\k=b.block,⟨sl,aZ.vP ⟨h1,λ_=>Iff.rfl⟩ ⟨h2,cR,λb hb=>(h3 b hb).2,λ_=>Iff.rfl⟩ λk hk ⟨b,hb,e⟩=>?_⟩,λk hk=>?_⟩
 ·have lD:k=s:=hk
  rcases key b hb with h|h
  ·omega
  ·exact h.2 aB
 ·rcases hk with rfl|⟨b,hb,rfl⟩
  ·exact .inl hS
  ·exact(key b hb).elim .inr λh=>.inl h.1
theorem uG.Uc{ee s:Nat}{p:LH}(h:uG ee s p w S):S s/\s<w.heap.size:=by
 obtain⟨sl,S1,S2,h1,h2,d,e⟩:=h;exact⟨(e s).2 (.inl ((h1.2 s).2 rfl)),h1.1.lt⟩
theorem SRep_i{s:Nat}{p:LH}{pos:Int}{dD:Sl}{c:List Bool}{Q:Sl->aH->Prop}(hb:Bs W0 E G S w)(h:uG E.e s p w S)(ba:UB G p)(hc:Rd w dD 1 eB c)(Tx:∀b,dD.b=some b->¬S b.block)
  (hQ:∀z ms w' S',fy G c p pos z->uG E.e s z.1 w' S'->Up S S' w w'->UB G z.1->fL w' (λk=>w.heap.size<=k) ms z.2->z.2.length<=2->Q ms w'):yH (some ⟨s,0,none⟩) pos dD w Q:=by
 obtain⟨hS,cJ⟩:=h.Uc;refine Report_i (h.at hb) ba hc (λb LF e=>Tx b LF (by rw[e];exact hS)) (λk hk=>hk.1) λz ms w' hz h' Pj hm hl m=>?_;obtain⟨S',h2,h3⟩:=uG.of cJ hS h';exact hQ z ms w' S' hz h2 ⟨m.mono λk _ e=>by rw[show k=s from e];exact hS,h3⟩ Pj hm hl
theorem SChg_i{s:Nat}{p:LH}{CS open_ dD:Sl}{sh op:List Int}{c:List Bool}{Q:Sl->aH->Prop}(hb:Bs W0 E G S w)(h:uG E.e s p w S)(ba:UB G p)(hsh:Rd w CS 1 eI sh)(hshl:sh.length<1000000)(Ej:Rd w open_ 1 eI op)(hc:Rd w dD 1 eB c)
  (hQ:∀z ms w' S',Lp G c p sh op z->uG E.e s z.1 w' S'->Up S S' w w'->UB G z.1->fL w' (λk=>w.heap.size<=k) ms z.2->z.2.length<=2->Q ms w'):vD (some ⟨s,0,none⟩) CS open_ dD w Q:=by
 obtain⟨hS,cJ⟩:=h.Uc;refine aAX (h.at hb) ba hsh hshl Ej hc (λk hk=>hk.1) λz ms w' hz h' Pj hm hl m=>?_;obtain⟨S',h2,h3⟩:=uG.of cJ hS h';exact hQ z ms w' S' hz h2 ⟨m.mono λk _ e=>by rw[show k=s from e];exact hS,h3⟩ Pj hm hl
theorem SNewF_i{at_ node:Int}{dD:Sl}{c:List Bool}{Q:cL->Sl->Int->aH->Prop}(hb:Bs W0 E G S w)(hc:Rd w dD 1 eB c)
  (RX:¬(G.qD at_/\G.XR node)->Q none bD 1 w)
  (hQ:G.qD at_->G.XR node->∀z ms s w' S',Lr G c (xr at_ node) z->uG E.e s z.1 w' S'->(∀k,S' k->w.heap.size<=k)->UB G z.1->fL w' (λk=>w.heap.size<=k) ms (DT::z.2)->z.2.length<=2/\1<=z.2.length->aM w w'->Q (some ⟨s,0,none⟩) ms 0 w'):
  sI (some ⟨E.e,0,none⟩) at_ node dD w Q:=by
 refine SNew_i hb.e hc RX λhE hN z ms w' hz h ok hm hl k=>?_;obtain⟨sl,h1,h2,h3⟩:=h.gN;refine hQ hE hN z ms _ w' (λk=>k=w.heap.size\/∃b,sl.b=some b/\k=b.block) hz ⟨sl,aZ.vP ⟨h1,λ_=>Iff.rfl⟩ ⟨h2,cR,λb hb=>(h3 b hb).2,λ_=>Iff.rfl⟩ λk hk ⟨b,hb,e⟩=>?_⟩ (λk hk=>?_) ok (hm.wk λk hk _=>Nat.le_of_lt hk) hl k
 ·have:=(h3 b hb).1
  omega
 ·rcases hk with h|⟨b,hb,e⟩
  ·omega
  ·have:=(h3 b hb).1;omega
end
structure fK where
 a:Nat
 cp:Nat
 sp:Nat
 aL:Nat
 aP:Int
 kO:Int
abbrev Vd(e:fK):List Value:=[aD (e.aL:Int),aD e.aP,.pointer (some ⟨e.cp,0,none⟩),.pointer (some ⟨e.sp,0,none⟩),aD e.kO]
def IZ(e:fK):As:=rY e.a YQ (Vd e)
instance{e:fK}:bF (IZ e):=by unfold IZ;infer_instance
structure sP where
 eO:Nat
 aT:List fK
 gr:Int->Option Kr.T
abbrev sP.grI(t:sP)(p:Int):Int:=(t.gr p).getD (0:Int)
structure sP.Ok(t:sP):Prop where
 eO:1<=t.eO/\t.eO<=16
 len:t.aT.length<=t.eO
 rN:t.aT.Pairwise λe f=>e.aL<f.aL
 aL:∀e∈t.aT,e.aL<16
def sC(l:List fK):Int->Option XQ.T:=λx=>(l.find? λe=>(e.aL:Int)==x).map λe=>some ⟨e.a,0,none⟩
def YM(a m1 m2 ng:Nat)(t:sP):As:=aZ (rY a gk [aD (t.eO:Int),.map (some m1),.map (some m2)]) (aZ (uH m1 CR XQ (sC t.aT) t.aT.length) (aZ (uH m2 CR Kr t.gr ng) (vX IZ t.aT)))
instance{a m1 m2 ng:Nat}{t:sP}:bF (YM a m1 m2 ng t):=by unfold YM;infer_instance
def CW(a:Nat)(t:sP):As:=Ex λm1:Nat=>Ex λm2:Nat=>Ex λng:Nat=>YM a m1 m2 ng t
instance{a:Nat}{t:sP}:bF (CW a t):=by unfold CW;infer_instance
abbrev Kz(p:cL):List Value:=[.pointer p]
theorem GJ:∀p:cL,(Kz p).length=1:=λ_=>rfl
theorem onePt:∀p:cL,∀u∈Kz p,u.oneCell'=true:=by intro p u hu;simp at hu;subst hu;rfl
theorem FC(p:cL):Kz p≠[]:=by simp
abbrev wX(e:fK):cL:=some ⟨e.a,0,none⟩
section
variable{w:aH}{S:BS}{a m1 m2 ng:Nat}{t:sP}
theorem YM.cells(h:YM a m1 m2 ng t w S):w.cell? ((⟨a,0,none⟩:Addr).add 0)=some (aD (t.eO:Int))/\w.cell? ((⟨a,0,none⟩:Addr).add 1)=some (.map (some m1))/\w.cell? ((⟨a,0,none⟩:Addr).add 2)=some (.map (some m2)):=by
 obtain⟨S1,S2,h1,_⟩:=h;exact⟨aO h1 rfl,aO h1 rfl,aO h1 rfl⟩
theorem YM.map1(h:YM a m1 m2 ng t w S):jP w m1 CR XQ (sC t.aT) t.aT.length:=by
 obtain⟨_,_,_,⟨_,_,h,_⟩,_⟩:=h;exact h.1
theorem YM.map2(h:YM a m1 m2 ng t w S):jP w m2 CR Kr t.gr ng:=by
 obtain⟨_,_,_,⟨_,_,_,⟨_,_,h,_⟩,_⟩,_⟩:=h;exact h.1
theorem YM.aT(h:YM a m1 m2 ng t w S):∃T,vX IZ t.aT w T/\∀k,T k->S k:=by
 obtain⟨_,_,_,⟨_,_,_,⟨_,_,_,h,_,e3⟩,_,e2⟩,_,e1⟩:=h;exact⟨_,h,λk hk=>(e1 k).2 (.inr ((e2 k).2 (.inr ((e3 k).2 (.inr hk)))))⟩
theorem CW.Dd(h:CW a t w S){e:fK}(he:e∈t.aT):cW w e.a YQ (Vd e)/\S e.a:=by
 obtain⟨m1,m2,ng,h⟩:=h;obtain⟨T,hT,hs⟩:=h.aT;obtain⟨S1,h1,tM⟩:=vX.get hT he;exact⟨h1.1,hs _ (tM _ ((h1.2 _).2 rfl))⟩
theorem sP.Ok.inj{t:sP}(ok:t.Ok){e f:fK}(he:e∈t.aT)(hf:f∈t.aT)(hp:e.aL=f.aL):e=f:=by
 have:=ok.rN;generalize t.aT=l at*
 induction l with
 |nil=>cases he
 |cons x r ih=>
  rw[List.pairwise_cons] at this;rcases lL.1 he with e1|vT<;>rcases lL.1 hf with e2|XT
  ·rw[e1,e2]
  ·have:=this.1 f XT;rw[e1] at hp;omega
  ·have:=this.1 e vT;rw[e2] at hp;omega
  ·exact ih vT XT this.2
theorem OP{t:sP}(ok:t.Ok){e:fK}(he:e∈t.aT):sC t.aT (e.aL:Int)=some (wX e):=by
 unfold sC;cases hf:t.aT.find? λx=>(x.aL:Int)==(e.aL:Int) with
 |none=>have:=List.find?_eq_none.1 hf e he;simp at this
 |some f=>
  have h1:=List.mem_of_find?_eq_some hf;have h2:=List.find?_some hf;have Ui:(f.aL:Int)=e.aL:=by simpa using h2
  have:f=e:=ok.inj h1 he aB;rw[this];rfl
theorem CE{l:List fK}{x:Int}{p:XQ.T}(h:sC l x=some p):∃e∈l,(e.aL:Int)=x/\p=wX e:=by
 unfold sC at h;cases hf:l.find? λe=>(e.aL:Int)==x with
 |none=>rw[hf] at h;cases h
 |some e=>
  rw[hf] at h;exact⟨e,List.mem_of_find?_eq_some hf,by simpa using List.find?_some hf,by cases h;rfl⟩
theorem yu{l m:List Int}(hl:l.Pairwise (·<·))(hm:m.Pairwise (·<·))(h:∀x,x∈l↔x∈m):l=m:=by
 have nl:l.Nodup:=hl.imp λh e=>aB;have nm:m.Nodup:=hm.imp λh e=>aB;exact List.Perm.eq_of_pairwise (le:=λa b:Int=>a<b) (λa b _ _ h1 h2=>aB) hl hm ((List.perm_ext_iff_of_nodup nl nm).2 h)
theorem Gh{Q:Sl->aH->Prop}(h:CW a t w S)(ok:t.Ok)(hQ:∀r w',dP w' Rk 1 Kz r (t.aT.map wX)->aM w w'->(∀b,r.b=some b->w.heap.size<=b.block)->Q r w'):yA (some ⟨a,0,none⟩) w Q:=by
 unfold yA;obtain⟨m1,m2,ng,h⟩:=h;refine aF (λh=>by simp at h) (λ_=>aA rfl (aE (k:=.map) (some m1) h.cells.2.1 ?_));have hm:=ok.eO;have hln:=ok.len;refine aAv h.map1 (λx hx=>?_) aB λs1 ks w2 v2 k2 f2 FM DG Uk=>?_
 ·obtain⟨p,hp⟩:=Eu.1 hx
  obtain⟨e,he,wv,_⟩:=CE hp;have:=ok.aL e he;exact⟨aB,aB⟩
 have eks:ks=t.aT.map λe=>(e.aL:Int):=by
  refine yu FM ?_ λx=>?_
  ·rw[List.pairwise_map];exact ok.rN.imp λh=>aB
  ·rw[DG]
   constructor
   ·intro hx
    obtain⟨p,hp⟩:=Eu.1 hx;obtain⟨e,he,wv,_⟩:=CE hp;exact lK.2 ⟨e,he,wv⟩
   ·intro hx
    obtain⟨e,he,rfl⟩:=lK.1 hx;rw[OP ok he];rfl
 subst eks;have sl:=v2.len;rw[oK] at sl;have o1:=v2.rd fG;refine bO (λn tt w3=>∃(i:Nat) (r:Sl),i<=t.aT.length/\n=t.aT.length-i/\tt=(r,(i:Int),())/\dP w3 Rk 1 Kz r ((t.aT.take i).map wX)/\aM w2 w3/\∀b,r.b=some b->w2.heap.size<=b.block) t.aT.length
  ⟨0,bD,iG _,rfl,rfl,dP.nil _ _ _ _,aW.refl _ _,λb hb=>by cases hb⟩ ?_
 rintro n tt w3 ⟨i,r,hi,rfl,rfl,v3,k3,f3⟩ X hX;dsimp only;refine aJ (λcJ=>?_) (λkT=>?_)
 ·have dI:i<t.aT.length:=aB
  have cV:=gS dI;have fP:=nC dI;have rT:=FO dI;generalize t.aT[i]=e at*;obtain⟨q,hq,cq⟩:=cF (k:=.i) (e:=λx=>x) (o1.aK k3 cR λ_ _=>id) (show(t.aT.map λe=>(e.aL:Int))[i]? =some (e.aL:Int) by rw[mF,cV];rfl);have h3:=bF.kp h (k2.tr k3);rw[kE,pZ i aB];refine⟨⟨aB,cJ⟩,aA hq (aE (k:=.i) (e.aL:Int) cq (aA rfl (aE (k:=.map) (some m1) h3.cells.2.1 ?_)))⟩;refine wK (kn:=XQ) OA kP (z:=(none:cL)) DW h3.map1 (e.aL:Int) ?_;have hg:(sC t.aT (e.aL:Int)).getD (none:cL)=wX e:=by rw[OP ok fP];rfl
  rw[hg];refine cC (cs:=Kz (wX e)) λw4 b4 k4 z4=>?_;refine fN XG GJ onePt (x:=⟨some ⟨w3.heap.size,0,none⟩,1,1⟩) (v3.aK k4 λ_ _=>id) (iV GJ [wX e] b4 rfl dK) (by simp;omega) (by simp;omega) λr' w5 v5 m5 hr5 _=>?_;refine hX _ _ _ aB ⟨i+1,r',dI,rfl,rfl,by rw[rT,yQ];exact v5,(k3.tr k4).fresh m5 λk ⟨b,hb,e⟩=>by rw[e];exact f3 b hb,λb hb=>?_⟩;rcases hr5 with h|⟨b',h,h2⟩
  ·exact f3 b (h.symm.trans hb)
  ·rw[hb] at h;cases h;have:=(k3.tr k4).size;omega
 ·have ei:i=t.aT.length:=aB
  subst ei;rw[oY] at v3;exact hQ r w3 v3 (k2.tr k3) λb hb=>by have:=f3 b hb;have:=k2.size;omega
theorem TGet_i{aL:Nat}{aP:Int}{Q:cL->aH->Prop}(h:CW a t w S)(ok:t.Ok)(hQ1:∀e∈t.aT,e.aL=aL->e.aP=aP->Q (wX e) w)(hQ0:(∀e∈t.aT,¬(e.aL=aL/\e.aP=aP))->Q none w):
  WU (some ⟨a,0,none⟩) (aL:Int) aP w Q:=by
 unfold WU;have h0:=h;obtain⟨m1,m2,ng,h⟩:=h;refine aF (λh=>by simp at h) (λ_=>aA rfl (aE (k:=.map) (some m1) h.cells.2.1 ?_));refine wK (kn:=XQ) OA kP (z:=(none:cL)) DW h.map1 (aL:Int) ?_;cases hf:sC t.aT (aL:Int) with
 |none=>
  refine aF (λh=>(by have h':(false:Bool)=true:=h;cases h')) (λ_=>hQ0 λe he hh=>?_);have:=OP ok he;rw[hh.1,hf] at this;cases this
 |some p=>
  obtain⟨e,he,wv,rfl⟩:=CE hf;refine aF (λ_=>?_) (λh=>(by have h':(true:Bool)=false:=h;cases h'));refine aA rfl (aE (k:=.i) e.aP (cM (h0.Dd he).1 rfl) (aF (λhc=>hQ1 e he aB (by simpa using hc)) (λhc=>hQ0 λf hfm hh=>?_)));have:f=e:=ok.inj hfm he aB;rw[this] at hh;rw[hh.2] at hc;simp at hc
def sP.vQ(t:sP)(aL:Nat)(aP:Int):Int:=
 if aP<=t.grI (aL:Int) then 6 else if t.eO<=t.aT.length/\∀e∈t.aT,e.aL≠aL then 5 else 0
theorem TMay_i{aL:Nat}{aP:Int}{Q:Int->aH->Prop}(h:CW a t w S)(ok:t.Ok)(hp:aL<16)(hc:1<=aP/\aP<=2147483648)(hQ:∀w',aM w w'->Q (t.vQ aL aP) w'):NA (some ⟨a,0,none⟩) (aL:Int) aP w Q:=by
 unfold NA;obtain⟨m1,m2,ng,h⟩:=h;intro J1 KH;refine aF (λh=>by simp at h) (λ_=>aJ (λh=>aB) (λ_=>aJ (λh=>aB) (λ_=>aJ (λh=>aB) (λ_=>?_))));rw[decide_eq_false aB];apply KH;refine aF (λh=>by cases h) (λ_=>aA rfl (aE (k:=.map) (some m2) h.cells.2.2 ?_));refine wK (kn:=Kr) oS kP (z:=(0:Int)) MN h.map2 (aL:Int) ?_;unfold sP.vQ at hQ;obtain⟨gv,bt⟩:∃gv:Int,(t.gr (aL:Int)).getD (0:Int)=gv:=⟨_,rfl⟩;have hgv':t.grI (aL:Int)=gv:=bt;rw[hgv'] at hQ;rw[bt];refine aJ (λIL=>?_) (λIL=>?_)
 ·have:=hQ w (aW.refl _ _)
  rwa[if_pos IL] at this
 have hd:=bF.dr h;have kd:=bN w;refine aA rfl (aE (k:=.map) (some m1) hd.cells.2.1 (aA rfl (aE (k:=.i) (t.eO:Int) hd.cells.1 (Xa OA hd.map1 ⟨hd.cells.1,?_⟩))));have np:=hQ w.drew kd;rw[if_neg IL] at np;refine aJ (λkT=>aA rfl (aE (k:=.map) (some m1) hd.cells.2.1 ?_)) (λkT=>?_)
 ·refine wK (kn:=XQ) OA kP (z:=(none:cL)) DW hd.map1 (aL:Int) ?_
  cases hf:sC t.aT (aL:Int) with
  |none=>
   refine aF (λ_=>?_) (λh=>(by have h':(true:Bool)=false:=h;cases h'));rw[if_pos ⟨aB,λe he Ui=>by have:=OP ok he;rw[Ui,hf] at this;cases this⟩] at np;exact np
  |some p=>
   obtain⟨e,he,wv,rfl⟩:=CE hf;refine aF (λh=>(by have h':(false:Bool)=true:=h;cases h')) (λ_=>?_);rw[if_neg λhh=>hh.2 e he aB] at np;exact np
 ·rw[if_neg λhh=>aB] at np
  exact np
end
end
section
def TabX(a m1 m2 ng n:Nat)(f:Int->Option XQ.T)(t:sP):As:=aZ (rY a gk [aD (t.eO:Int),.map (some m1),.map (some m2)]) (aZ (uH m1 CR XQ f n) (aZ (uH m2 CR Kr t.gr ng) (vX IZ t.aT)))
instance{a m1 m2 ng n:Nat}{f:Int->Option XQ.T}{t:sP}:bF (TabX a m1 m2 ng n f t):=by unfold TabX;infer_instance
abbrev FN(l:List fK):Prop:=l.Pairwise λe f=>e.aL<f.aL
theorem rj{l:List fK}(h:FN l){e f:fK}(he:e∈l)(hf:f∈l)(hp:e.aL=f.aL):e=f:=by
 induction l with
 |nil=>cases he
 |cons x r ih=>
  rw[FN,List.pairwise_cons] at h;rcases lL.1 he with e1|vT<;>rcases lL.1 hf with e2|XT
  ·rw[e1,e2]
  ·have:=h.1 f XT;rw[e1] at hp;omega
  ·have:=h.1 e vT;rw[e2] at hp;omega
  ·exact ih h.2 vT XT
theorem WJ{l:List fK}(h:FN l){x:Int}{p:XQ.T}:sC l x=some p↔∃e∈l,(e.aL:Int)=x/\p=wX e:=by
 refine⟨CE,λ⟨e,he,hx,hp⟩=>?_⟩;cases hf:sC l x with
 |none=>
  have:=List.find?_eq_none.1 (Option.map_eq_none_iff.1 hf) e he;simp[hx] at this
 |some q=>
  obtain⟨f,hfm,hfx,rfl⟩:=CE hf;rw[hp,rj h hfm he aB]
theorem Hc{l:List fK}(hl:FN l){f:Int->Option XQ.T}(h:∀x p,f x=some p↔∃e∈l,(e.aL:Int)=x/\p=wX e)(x:Int):sC l x=f x:=by
 apply Option.ext;intro p;rw[WJ hl,h]
theorem Bg{l:List fK}{x:Int}:(sC l x).isSome=true↔∃e∈l,(e.aL:Int)=x:=by
 constructor
 ·intro h
  obtain⟨p,hp⟩:=Eu.1 h;obtain⟨e,he,hx,_⟩:=CE hp;exact⟨e,he,hx⟩
 ·rintro⟨e,he,hx⟩
  cases hf:sC l x with
  |some p=>rfl
  |none=>
   have:=List.find?_eq_none.1 (Option.map_eq_none_iff.1 hf) e he;simp[hx] at this
theorem Oe{w:aH}{r n:Nat}{l:List fK}(hl:FN l)(h:jP w r CR XQ (sC l) n):n=l.length:=by
 obtain⟨ks,h1,h2,h3⟩:=h.Lh;have e1:(l.map λe=>(e.aL:Int)).Nodup:=by
  have:(l.map λe=>(e.aL:Int)).Pairwise (·<·):=by rw[List.pairwise_map];exact hl.imp λh=>aB
  exact this.imp λh e=>aB
 have:=((List.perm_ext_iff_of_nodup h1 e1).2 λx=>by rw[h3,Bg,lK]).length_eq;rw[oK] at this;omega
def Li(e:fK)(l:List fK):List fK:=(l.filter λf=>decide (f.aL<e.aL))++e::(l.filter λf=>!decide (f.aL<e.aL)).filter λf=>decide (e.aL<f.aL)
def oldE(p:Nat)(l:List fK):List fK:=(l.filter λf=>!decide (f.aL<p)).filter λf=>!decide (p<f.aL)
theorem oE{e f:fK}{l:List fK}:f∈Li e l↔f=e\/(f∈l/\f.aL≠e.aL):=by
 unfold Li;simp only[jK,jE,lL,decide_eq_true_eq,Bool.not_eq_true',decide_eq_false_iff_not]
 constructor
 ·rintro(⟨h1,h2⟩|h|⟨⟨h1,h2⟩,h3⟩)
  ·exact .inr ⟨h1,aB⟩
  ·exact .inl h
  ·exact .inr ⟨h1,aB⟩
 ·rintro(h|⟨h1,h2⟩)
  ·exact .inr (.inl h)
  ·by_cases h:f.aL<e.aL
   ·exact .inl ⟨h1,h⟩
   ·exact .inr (.inr ⟨⟨h1,h⟩,aB⟩)
theorem Gk{e:fK}{l:List fK}(h:FN l):FN (Li e l):=by
 unfold Li FN;rw[List.pairwise_append,List.pairwise_cons];refine⟨h.filter _,⟨λf hf=>by simp at hf;omega,(h.filter _).filter _⟩,λa ha b hb=>?_⟩;simp at ha hb;rcases hb with rfl|⟨_,hb⟩
 ·exact ha.2
 ·omega
theorem oldE_mem{p:Nat}{f:fK}{l:List fK}:f∈oldE p l↔f∈l/\f.aL=p:=by
 unfold oldE;simp only[jE,Bool.not_eq_true',decide_eq_false_iff_not]
 constructor
 ·rintro⟨⟨h1,h2⟩,h3⟩;exact⟨h1,aB⟩
 ·rintro⟨h1,h2⟩;exact⟨⟨h1,aB⟩,aB⟩
def Va(p:Nat)(l:List fK):Bool:=l.any λe=>decide (e.aL=p)
theorem aAd{p:Nat}{l:List fK}{e:fK}:Va p (l++[e])=(Va p l ||decide (e.aL=p)):=by unfold Va;rw[List.any_append];simp
theorem hasP_iff{p:Nat}{l:List fK}:Va p l=true↔∃e∈l,e.aL=p:=by unfold Va;simp
def sP.add(t:sP)(e:fK):sP:=⟨t.eO,Li e t.aT,λy=>if y=(e.aL:Int) then some e.aP else t.gr y⟩
def sP.drop(t:sP)(p:Nat):sP:=⟨t.eO,t.aT.filter λf=>!decide (f.aL=p),t.gr⟩
theorem VT{α:Type}{f:α->As}:∀{l m:List α} {w:aH} {S:BS},aZ (vX f l) (vX f m) w S->vX f (l++m) w S
 | [],m,w,S,⟨S1,S2,h1,h2,d,e⟩=>As.ext h2 λk=>by
   rw[e k];exact⟨.inr,λh=>h.elim (λh=>absurd h (h1 k)) id⟩
 |x::l,m,w,S,h=>by
  have h':aZ (f x) (aZ (vX f l) (vX f m)) w S:=aZ.asr h;exact h'.mono (λ_ h=>h) λ_ h=>VT h
section
variable{w:aH}{S:BS}{a:Nat}{t:sP}
theorem TNew_i'{eO:Nat}{Q:cL->Int->aH->Prop}(hm:1<=eO/\eO<=16)(hQ:∀g w' S',CW g ⟨eO,[],λ_=>none⟩ w' S'->aM w w'->(∀k,S' k->w.heap.size<=k)->Q (some ⟨g,0,none⟩) 0 w'):EG (eO:Int) w Q:=by
 unfold EG;refine aJ (λh=>aB) (λ_=>aJ (λh=>aB) (λ_=>?_));refine qM (ek:=CR) (kn:=XQ) λhm1 k1=>qM (ek:=CR) (kn:=Kr) λwg k2=>?_;have z1:(w.alloc (.map #[] 0)).heap.size=w.heap.size+1:=by simp[World.alloc_eq]
 generalize w.alloc (.map #[] 0)=w1 at*;have z2:(w1.alloc (.map #[] 0)).heap.size=w1.heap.size+1:=by simp[World.alloc_eq]
 generalize w1.alloc (.map #[] 0)=w2 at*;refine cC (cs:=[aD (eO:Int),.map (some w.heap.size),.map (some w1.heap.size)]) λw3 b3 k3 z3=>?_;have a1:uH w.heap.size CR XQ (sC []) 0 w3 (λk=>k=w.heap.size):=⟨(hm1.aK k2 id).aK k3 id,λ_=>Iff.rfl⟩;have a2:uH w1.heap.size CR Kr (λ_=>none) 0 w3 (λk=>k=w1.heap.size):=⟨wg.aK k3 id,λ_=>Iff.rfl⟩;refine hQ _ w3 _ ⟨w.heap.size,w1.heap.size,0,aZ.vP b3 (aZ.vP a1 (aZ.emp a2) λk h1 h2=>?_) λk h1 h2=>?_⟩ ((k1.tr k2).tr k3) λk hk=>?_
 ·have h1':k=w.heap.size:=h1
  omega
 ·have h1':k=w2.heap.size:=h1
  rcases h2 with h2|h2
  ·have h2':k=w.heap.size:=h2;omega
  ·have h2':k=w1.heap.size:=h2;omega
 ·rcases hk with h|h|h
  ·have h':k=w2.heap.size:=h;omega
  ·have h':k=w.heap.size:=h;omega
  ·have h':k=w1.heap.size:=h;omega
theorem sP.may0{t:sP}{aL:Nat}{aP:Int}(h:t.vQ aL aP=0):t.grI (aL:Int)<aP/\¬(t.eO<=t.aT.length/\∀e∈t.aT,e.aL≠aL):=by
 unfold sP.vQ at h
 split at h
 ·omega
 ·split at h
  ·omega
  ·exact⟨aB,by assumption⟩
theorem sP.Ok.add{t:sP}(ok:t.Ok){e:fK}(hp:e.aL<16)(fU:(Li e t.aT).length<=t.eO):(t.add e).Ok:=
 ⟨ok.eO,fU,Gk ok.rN,λf hf=>(oE.1 hf).elim (λh=>by rw[h];exact hp) λh=>ok.aL f h.1⟩
theorem sP.Ok.drop{t:sP}(ok:t.Ok)(p:Nat):(t.drop p).Ok:=
 ⟨ok.eO,iF (vU _ _) ok.len,ok.rN.filter _,λf hf=>ok.aL f (jE.1 hf).1⟩
theorem TAdd_i{e:fK}{Q:Int->aH->Prop}(h:aZ (CW a t) (IZ e) w S)(ok:t.Ok)(hp:e.aL<16)(hc:1<=e.aP/\e.aP<=2147483648)(hm:t.vQ e.aL e.aP=0)
  (hQ:∀w' S',aZ (CW a (t.add e)) (vX IZ (oldE e.aL t.aT)) w' S'->Up S S' w w'->(t.add e).Ok->Q 0 w'):NB (some ⟨a,0,none⟩) (wX e) w Q:=by
 unfold NB;have hd:=bF.dr h;have cE:∀{wx:aH} {Sx:BS},aZ (CW a t) (IZ e) wx Sx->wx.cell? ((⟨e.a,0,none⟩:Addr).add 0)=some (aD (e.aL:Int))/\wx.cell? ((⟨e.a,0,none⟩:Addr).add 1)=some (aD e.aP):=λhx=>by
  obtain⟨S1,S2,_,h2,_⟩:=hx;exact⟨aO h2 rfl,aO h2 rfl⟩
 refine aF (λh=>by simp at h) (λ_=>aF (λh=>by simp at h) (λ_=>aA rfl (aE (k:=.i) (e.aL:Int) (cE hd).1 (aA rfl (aE (k:=.i) e.aP (cE hd).2 ?_)))));obtain⟨Sx,hx,_,_⟩:=(aZ.l hd).put;refine TMay_i hx ok hp hc λw1 k1=>?_;rw[hm];refine aF (λh=>by cases h) (λ_=>?_);have K:=((bN w).tr k1).tr (bN w1);have h1:=bF.kp h K;obtain⟨SA,SE,⟨m1,m2,ng,hA⟩,hE,dAE,eAE⟩:=h1;have cA:=hA.cells;have c1:w1.drew.cell? ((⟨e.a,0,none⟩:Addr).add 0)=some (aD (e.aL:Int)):=aO hE rfl;have c2:w1.drew.cell? ((⟨e.a,0,none⟩:Addr).add 1)=some (aD e.aP):=aO hE rfl;refine aA rfl (aE (k:=.map) (some m1) cA.2.1 (aA rfl (aE (k:=.i) (e.aL:Int) c1 (aA rfl (aE (k:=.map) (some m2) cA.2.2 (aA rfl (aE (k:=.i) (e.aL:Int) c1 (aA rfl (aE (k:=.i) e.aP c2 ?_)))))))));have h2:aZ (YM a m1 m2 ng t) (IZ e) w1.drew S:=⟨SA,SE,hA,hE,dAE,eAE⟩;obtain⟨S3,h3,_,VF⟩:=((aZ.l h2).c λT hT=>(aZ.r hT).c λT hT=>aZ.l hT).put;refine Rw (kn:=XQ) OA kP (z:=(none:cL)) DW h3.1 (e.aL:Int) (wX e) λw3 hm3 mm3 _=>?_;obtain⟨S4,h4,u4⟩:=VF (uH m1 CR XQ (λy=>if y=(e.aL:Int) then some (wX e) else sC t.aT y) (if(sC t.aT (e.aL:Int)).isSome then t.aT.length else t.aT.length+1)) w3 S3 (Up.at (mm3.mono λk _ hk=>(h3.2 k).2 hk)) ⟨hm3,h3.2⟩
 obtain⟨S5,h5,_,back5⟩:=((aZ.l h4).c λT hT=>(aZ.r hT).c λT hT=>(aZ.r hT).c λT hT=>aZ.l hT).put;refine Rw (kn:=Kr) oS kP (z:=(0:Int)) MN h5.1 (e.aL:Int) e.aP λw5 Ka mm5 _=>?_;obtain⟨S6,h6,u6⟩:=back5 (uH m2 CR Kr (λy=>if y=(e.aL:Int) then some e.aP else t.gr y) (if(t.gr (e.aL:Int)).isSome then ng else ng+1)) w5 S5 (Up.at (mm5.mono λk _ hk=>(h5.2 k).2 hk)) ⟨Ka,h5.2⟩
 have rN:=ok.rN;have hf:∀x,sC (Li e t.aT) x=(λy=>if y=(e.aL:Int) then some (wX e) else sC t.aT y) x:=λx=>by
  refine Hc (f:=λy=>if y=(e.aL:Int) then some (wX e) else sC t.aT y) (Gk rN) (λx p=>?_) x
  by_cases hx:x=(e.aL:Int)
  ·rw[if_pos hx]
   constructor
   ·intro h;cases h;exact⟨e,oE.2 (.inl rfl),hx.symm,rfl⟩
   ·rintro⟨f,hf,hfx,rfl⟩
    rcases oE.1 hf with rfl|⟨_,gF⟩
    ·rfl
    ·exact absurd aB gF
  ·rw[if_neg hx,WJ rN]
   constructor
   ·rintro⟨f,hf,hfx,rfl⟩
    exact⟨f,oE.2 (.inr ⟨hf,λh=>hx (by rw[<-hfx,h])⟩),hfx,rfl⟩
   ·rintro⟨f,hf,hfx,rfl⟩
    rcases oE.1 hf with rfl|⟨hf,_⟩
    ·exact absurd hfx.symm hx
    ·exact⟨f,hf,hfx,rfl⟩
 obtain⟨SY,SZ,⟨SB,SR,hB,⟨SM,SQ,hM,⟨SG,SL,hG,hL,dGL,eGL⟩,dM,eM⟩,dB,eB⟩,hE6,dYZ,eYZ⟩:=h6;have hM':=hM.1.congr hf rfl;have hn:=Oe (Gk rN) hM';have fU:(Li e t.aT).length<=t.eO:=by
  have hm0:=(sP.may0 hm).2;rw[<-hn]
  split
  ·exact ok.len
  ·rename_i hns
   apply Nat.succ_le_of_lt;apply Nat.lt_of_not_le;intro IL;exact hm0 ⟨IL,λf hf Ui=>hns (Bg.2 ⟨f,hf,aB⟩)⟩
 have Pj:(t.add e).Ok:=ok.add hp fU;obtain⟨L1,L2,f1,f2,d12,e12⟩:=vX.filter (λf=>decide (f.aL<e.aL)) hL;obtain⟨L3,L4,f3,f4,d34,Um⟩:=vX.filter (λf=>decide (e.aL<f.aL)) f2;have nJ:∀k,L1 k\/L3 k\/L4 k->SL k:=λk hk=>(e12 k).2 (hk.imp id λh=>(Um k).2 h);have hEL:∀k,SZ k->SL k->False:=λk hz hl=>dYZ k ((eB k).2 (.inr ((eM k).2 (.inr ((eGL k).2 (.inr hl)))))) hz;have hIns:vX IZ (Li e t.aT) w5 (λk=>L1 k\/(SZ k\/L3 k)):=VT (aZ.vP f1 (show vX IZ (e::_) w5 _ from aZ.vP hE6 f3 λk h1 h2=>hEL k h1 (nJ k (.inr (.inl h2)))) λk h1 h2=>h2.elim (λh=>hEL k h (nJ k (.inl h1))) λh=>d12 k h1 ((Um k).2 (.inl h)));have inS6:∀k,SB k\/SM k\/SG k\/SL k\/SZ k->S6 k:=λk hk=>(eYZ k).2 (by
  rcases hk with h|h|h|h|h
  ·exact .inl ((eB k).2 (.inl h))
  ·exact .inl ((eB k).2 (.inr ((eM k).2 (.inl h))))
  ·exact .inl ((eB k).2 (.inr ((eM k).2 (.inr ((eGL k).2 (.inl h))))))
  ·exact .inl ((eB k).2 (.inr ((eM k).2 (.inr ((eGL k).2 (.inr h))))))
  ·exact .inr h)
 have xx:∀k,SB k\/SM k\/SG k->(SL k\/SZ k)->False:=λk hk hl=>by
  rcases hl with hl|hl
  ·rcases hk with h|h|h
   ·exact dB k h ((eM k).2 (.inr ((eGL k).2 (.inr hl))))
   ·exact dM k h ((eGL k).2 (.inr hl))
   ·exact dGL k h hl
  ·refine dYZ k ((eB k).2 ?_) hl
   rcases hk with h|h|h
   ·exact .inl h
   ·exact .inr ((eM k).2 (.inl h))
   ·exact .inr ((eM k).2 (.inr ((eGL k).2 (.inl h))))
 have lz:∀k,L1 k\/(SZ k\/L3 k)->SL k\/SZ k:=λk hk=>by
  rcases hk with h|h|h
  ·exact .inl (nJ k (.inl h))
  ·exact .inr h
  ·exact .inl (nJ k (.inr (.inl h)))
 have hT:CW a (t.add e) w5 (λk=>SB k\/(SM k\/(SG k\/(L1 k\/(SZ k\/L3 k))))):=
  ⟨m1,m2,_,aZ.vP hB (aZ.vP ⟨by rw[hn] at hM';exact hM',hM.2⟩ (aZ.vP hG hIns λk h1 h2=>xx k (.inr (.inr h1)) (lz k h2)) λk h1 h2=>h2.elim (λh=>dM k h1 ((eGL k).2 (.inl h))) λh=>xx k (.inr (.inl h1)) (lz k h)) λk h1 h2=>by
   rcases h2 with h|h|h
   ·exact dB k h1 ((eM k).2 (.inl h))
   ·exact dB k h1 ((eM k).2 (.inr ((eGL k).2 (.inl h))))
   ·exact xx k (.inl h1) (lz k h)⟩
 refine hQ w5 _ (aZ.vP hT f4 λk h1 h2=>?_) ⟨(((Up.aN K).tr u4).tr u6).m,λk hk=>(((Up.aN K).tr u4).tr u6).s k (inS6 k ?_)⟩ Pj
 ·have h4L:=nJ k (.inr (.inr h2))
  rcases h1 with h|h|h|h|h|h
  ·exact xx k (.inl h) (.inl h4L)
  ·exact xx k (.inr (.inl h)) (.inl h4L)
  ·exact xx k (.inr (.inr h)) (.inl h4L)
  ·exact d12 k h ((Um k).2 (.inr h2))
  ·exact hEL k h h4L
  ·exact d34 k h h2
 ·rcases hk with(h|h|h|h|h|h)|h
  ·exact .inl h
  ·exact .inr (.inl h)
  ·exact .inr (.inr (.inl h))
  ·exact .inr (.inr (.inr (.inl (nJ k (.inl h)))))
  ·exact .inr (.inr (.inr (.inr h)))
  ·exact .inr (.inr (.inr (.inl (nJ k (.inr (.inl h))))))
  ·exact .inr (.inr (.inr (.inl (nJ k (.inr (.inr h))))))
theorem TDrop_i{p:Nat}{QH:Sl}{Q:Sl->aH->Prop}(h:CW a t w S)(ok:t.Ok)(hr:Rd w QH 1 eI [(p:Int)])(ho:AW QH S w)
  (hQ:∀r w' S',aZ (CW a (t.drop p)) (vX IZ (t.aT.filter λf=>decide (f.aL=p))) w' S'->Up S S' w w'->Q r w'):pN (some ⟨a,0,none⟩) QH w Q:=by
 unfold pN;refine Gh h ok λs1 w1 v1 k1 f1=>?_;have bd:=bF.gH h;obtain⟨m1,m2,ng,h0⟩:=bF.kp h k1;have sl:=v1.len;have ol:=ok.len;have om:=ok.eO;rw[oK] at sl;have o1:AW s1 S w1:=λb hb=>⟨λhk=>by have:=bd _ hk;have:=f1 b hb;omega,v1.lt hb⟩;refine bO (λn tt w3=>∃(i:Nat) (r:Sl) (f:Int->Option XQ.T) (nf:Nat),i<=t.aT.length/\n=t.aT.length-i/\tt=(r,(i:Int),())/\TabX a m1 m2 ng nf f t w3 S/\aW S w w3/\(∀y,f y=if y=(p:Int)/\Va p (t.aT.take i)=true then none else sC t.aT y)/\(∃xs,dP w3 Rk 1 Kz r xs/\xs.length<=i)/\(∀b,r.b=some b->w1.heap.size<=b.block)/\Rd w3 s1 1 Kz (t.aT.map wX)/\w1.heap.size<=w3.heap.size/\Rd w3 QH 1 eI [(p:Int)]) t.aT.length
  ⟨0,bD,sC t.aT,t.aT.length,iG _,rfl,rfl,h0,k1.wk,λy=>(by rw[if_neg];rintro⟨_,he⟩;cases he),⟨[],dP.nil _ _ _ _,iT _⟩,λb hb=>(by cases hb),v1.rd GJ,iT _,hr.aK k1 cR λ_ _=>id⟩ ?_
 rintro n tt w3 ⟨i,r,f,nf,hi,rfl,rfl,h3,m3,hf,⟨xs,v3,Ac⟩,f3,r3,z3,p3⟩ X hX;dsimp only;refine aJ (λcJ=>?_) (λkT=>?_)
 ·have dI:i<t.aT.length:=aB
  have cV:=gS dI;have fP:=nC dI;have rT:=FO dI;generalize t.aT[i]=e at*;obtain⟨q,hq,cq⟩:=cF (k:=.ptr) (e:=λx=>x) r3 (show(t.aT.map wX)[i]? =some (wX e) by rw[mF,cV];rfl);rw[kE,pZ i aB];refine⟨⟨aB,cJ⟩,aA hq (aE (k:=.ptr) (wX e) cq (aA rfl ?_))⟩;have cP:∀{wx},TabX a m1 m2 ng nf f t wx S->wx.cell? ((⟨e.a,0,none⟩:Addr).add 0)=some (aD (e.aL:Int))/\wx.cell? ((⟨a,0,none⟩:Addr).add 1)=some (.map (some m1)):=λhx=>by
   obtain⟨S1,_,hb,⟨_,_,_,⟨_,_,_,hL,_⟩,_⟩,_⟩:=hx;obtain⟨S2,he2,_⟩:=vX.get hL fP;exact⟨aO he2 rfl,aO hb rfl⟩
  refine aE (k:=.i) (e.aL:Int) (cP h3).1 ?_;unfold gL;refine Xu p3 dK λj w4 k4 hj=>?_;have Vy:∀y,(if y=(p:Int)/\Va p (t.aT.take (i+1))=true then none else sC t.aT y)=if e.aL=p/\y=(p:Int) then none else f y:=λy=>by
   rw[hf y,rT,aAd]
   by_cases hy:y=(p:Int)
   ·by_cases wv:e.aL=p
    ·rw[if_pos ⟨hy,by simp[wv]⟩,if_pos ⟨wv,hy⟩]
    ·rw[if_neg (c:=e.aL=p/\_) (λh=>wv h.1),decide_eq_false wv,Bool.or_false]
   ·rw[if_neg (λh=>hy h.1),if_neg (λh=>hy h.2),if_neg (λh=>hy h.1)]
  have bd4:∀k,S k->k<w1.heap.size:=λk hk=>mD (bd k hk) k1.size;refine aJ (λwj=>?_) (λwj=>?_)
  ·have wv:e.aL=p:=by have:=hj.1 wj;simp at this;omega
   have h4:=bF.kp h3 (k4.tr (bN w4));have c4:=cP h4;refine aA rfl (aE (k:=.map) (some m1) c4.2 (aA rfl (aE (k:=.i) (e.aL:Int) c4.1 ?_)));obtain⟨SB,SR,hB,⟨SM,SQ,hM,hGL,dM,eM⟩,dB,eB⟩:=h4;refine Xc OA kP hM (e.aL:Int) λw5 hM5 u5=>?_;have h5:TabX a m1 m2 ng (if(f (e.aL:Int)).isSome then nf-1 else nf) (λy=>if y=(e.aL:Int) then none else f y) t w5 S:=⟨SB,SR,bF.aK hB u5.m λk h1 h2=>dB k h1 ((eM k).2 (.inl h2)),⟨SM,SQ,hM5,bF.aK hGL u5.m λk h1 h2=>dM k h2 h1,dM,eM⟩,dB,eB⟩
   have mS:aW S w4.drew w5:=u5.m.mono λk _ hk=>(eB k).2 (.inr ((eM k).2 (.inl hk)));have K4:=k4.tr (bN w4);have r4:=(r3.aK K4 FC λ_ _=>id).aK mS FC λb hb=>(o1 b hb).1;have p4:=(p3.aK K4 cR λ_ _=>id).aK mS cR λb hb=>(ho b hb).1;have v4:=(v3.aK K4 λ_ _=>id).aK mS λb hb hs=>by have:=bd4 _ hs;have:=f3 b hb;omega
   have zz:w3.heap.size<=w5.heap.size:=iF K4.size mS.size;refine cC (cs:=Kz (wX e)) λw6 b6 k6 z6=>?_;refine fN XG GJ onePt (x:=⟨some ⟨w5.heap.size,0,none⟩,1,1⟩) (v4.aK k6 λ_ _=>id) (iV GJ [wX e] b6 rfl dK) (by simp;omega) (by simp;omega) λr' w7 v7 m7 hr7 _=>?_;have n7:∀k,(∃b,r.b=some b/\k=b.block)->w1.heap.size<=k:=λk ⟨b,hb,e⟩=>by rw[e];exact f3 b hb
   refine hX _ _ _ aB ⟨i+1,r',_,_,dI,rfl,rfl,bF.aK (bF.kp h5 k6) m7 λk hk hn=>by have:=bd4 k hk;have:=n7 k hn;omega,(((m3.trans K4.wk λ_ _ h=>h).trans mS λ_ _ h=>h).trans k6.wk λ_ _ h=>h).trans m7 λk hk hn=>by have:=n7 k hn;have:=k1.size;omega,λy=>?_,⟨_,v7,by simp;omega⟩,λb hb=>?_,((r4.aK k6 FC λ_ _=>id).aK m7 FC λb hb hn=>?_),?_,((p4.aK k6 cR λ_ _=>id).aK m7 cR λb hb hn=>?_)⟩
   ·rw[Vy y,wv];simp
   ·rcases hr7 with h|⟨b',h,h2⟩
    ·exact f3 b (h.symm.trans hb)
    ·rw[hb] at h;cases h;have:=k6.size;omega
   ·have:=n7 _ hn;have:=(o1 b hb).2;omega
   ·have:=k6.size;have:=m7.size;omega
   ·have:=n7 _ hn;have:=(ho b hb).2;have:=k1.size;omega
  ·have wv:¬e.aL=p:=λh=>wj (hj.2 (by simp;omega))
   refine hX _ _ _ aB ⟨i+1,r,f,nf,dI,rfl,rfl,bF.kp h3 k4,m3.trans k4.wk λ_ _ h=>h,λy=>by rw[Vy y,if_neg λh=>wv h.1],⟨xs,v3.aK k4 λ_ _=>id,aB⟩,f3,r3.aK k4 FC λ_ _=>id,iF z3 k4.size,p3.aK k4 cR λ_ _=>id⟩
 ·have ei:i=t.aT.length:=aB
  subst ei;have rN:FN t.aT:=ok.rN;have XT:∀x,sC (t.drop p).aT x=f x:=λx=>by
   refine Hc (f:=f) (rN.filter _) (λx q=>?_) x;rw[hf x,oY]
   by_cases hx:x=(p:Int)/\Va p t.aT=true
   ·rw[if_pos hx]
    refine⟨λh=>(by cases h),?_⟩;rintro⟨e,he,hex,_⟩;have:=(jE.1 he).2;simp at this;exact absurd aB this
   ·rw[if_neg hx,WJ rN]
    constructor
    ·rintro⟨e,he,hex,rfl⟩
     exact⟨e,jE.2 ⟨he,by simp;intro hp;exact hx ⟨aB,hasP_iff.2 ⟨e,he,hp⟩⟩⟩,hex,rfl⟩
    ·rintro⟨e,he,hex,rfl⟩
     exact⟨e,(jE.1 he).1,hex,rfl⟩
  obtain⟨SB,SR,hB,⟨SM,SQ,hM,⟨SG,SL,hG,hL,dGL,eGL⟩,dM,eM⟩,dB,eB⟩:=h3;have hM':=hM.1.congr XT rfl;have hn:=Oe (rN.filter _) hM';obtain⟨L1,L2,f1',f2,d12,e12⟩:=vX.filter (λf:fK=>decide (f.aL=p)) hL;refine hQ r w3 S ?_ (Up.at m3);have h1:aZ (rY a gk [aD (t.eO:Int),.map (some m1),.map (some m2)]) (aZ (uH m1 CR XQ (sC (t.drop p).aT) (t.drop p).aT.length) (aZ (uH m2 CR Kr t.gr ng) (aZ (vX IZ (t.drop p).aT) (vX IZ (t.aT.filter λf=>decide (f.aL=p)))))) w3 S:=
   ⟨SB,SR,hB,⟨SM,SQ,⟨by rw[hn] at hM';exact hM',hM.2⟩,⟨SG,SL,hG,⟨L2,L1,f2,f1',λk a b=>d12 k b a,λk=>(e12 k).trans Or.comm⟩,dGL,eGL⟩,dM,eM⟩,dB,eB⟩
  have h2:aZ (YM a m1 m2 ng (t.drop p)) (vX IZ (t.aT.filter λf=>decide (f.aL=p))) w3 S:=
   (aZ.mono h1 (λ_ h=>h) λ_ h=>(aZ.mono h (λ_ h=>h) λ_ h=>aZ.asl h).asl).asl
  exact h2.mono (λ_ h=>⟨m1,m2,ng,h⟩) λ_ h=>h
end
end
open Tryz (prog)
section
set_option linter.unusedSectionVars false
inductive F2{α β:Type}(R:α->β->Prop):List α->List β->Prop
 |nil:F2 R [] []
 |cons {a b l m}:R a b->F2 R l m->F2 R (a::l) (b::m)
section
variable{α β:Type}{R:α->β->Prop}
theorem F2.len{l:List α}{m:List β}(h:F2 R l m):l.length=m.length:=by
 induction h with
 |nil=>rfl
 |cons _ _ ih=>simp[ih]
theorem F2.app{l l':List α}{m m':List β}(h:F2 R l m)(h':F2 R l' m'):F2 R (l++l') (m++m'):=by
 induction h with
 |nil=>exact h'
 |cons a _ ih=>exact .cons a ih
theorem F2.one{a:α}{b:β}(h:R a b):F2 R [a] [b]:=.cons h .nil
theorem F2.mem{l:List α}{m:List β}(h:F2 R l m){b:β}(hb:b∈m):∃a∈l,R a b:=by
 induction h with
 |nil=>cases hb
 |cons r _ ih=>
  rcases lL.1 hb with rfl|hb
  ·exact⟨_,by simp,r⟩
  ·obtain⟨a,ha,h⟩:=ih hb
   exact⟨a,by simp[ha],h⟩
end
class VI {β:Type} (eb:β->List Value):Prop where
 ne:∀x,eb x≠[]
instance:VI eU:=⟨fH⟩
instance:VI eI:=⟨cR⟩
structure eF{α β:Type}(eb:β->List Value)(ty:TypeId)(n:Nat)(aY:α×Sl->List Value)(xL:α->List β)(lo:Nat)(S:BS)(w:aH)(r:Sl)(ps:List α):Prop where
 ex:∃xs:List (α×Sl),xs.map (·.1)=ps/\dP w ty n aY r xs/\(∀b,r.b=some b->lo<=b.block/\¬S b.block)/\∀x∈xs,Rd w x.2 1 eb (xL x.1)/\∀b,x.2.b=some b->lo<=b.block/\¬S b.block/\b.block<w.heap.size/\∀b',r.b=some b'->b.block≠b'.block
def vV{α β:Type}(eb:β->List Value)(n:Nat)(aY:α×Sl->List Value)(xL:α->List β)(P:BS)(w:aH)(r:Sl)(ps:List α):Prop:=
 ∃xs:List (α×Sl),xs.map (·.1)=ps/\Rd w r n aY xs/\(∀b,r.b=some b->P b.block/\b.block<w.heap.size)/\∀x∈xs,Rd w x.2 1 eb (xL x.1)/\∀b,x.2.b=some b->P b.block/\b.block<w.heap.size
section
variable{α β:Type}{eb:β->List Value}[VI eb]{ty sty:TypeId}{n:Nat}{aY:α×Sl->List Value}{xL:α->List β}{lo:Nat}{S S' P:BS}{w w':aH}{r:Sl}{ps:List α}
theorem eF.nil:eF eb ty n aY xL lo S w bD []:=⟨⟨[],rfl,dP.nil _ _ _ _,λb hb=>(by cases hb),λx hx=>(by cases hx)⟩⟩
theorem eF.aK{F:BS}(h:eF eb ty n aY xL lo S w r ps)(m:aW F w w')(hF:∀k,lo<=k->¬S k->k<w.heap.size->¬F k)(hS:∀k,¬S k->k<w.heap.size->¬S' k):eF eb ty n aY xL lo S' w' r ps:=by
 obtain⟨xs,h1,h2,h3,h4⟩:=h.ex;refine⟨xs,h1,h2.aK m λb hb=>hF _ (h3 b hb).1 (h3 b hb).2 (h2.lt hb),λb hb=>⟨(h3 b hb).1,hS _ (h3 b hb).2 (h2.lt hb)⟩,λx hx=>?_⟩;obtain⟨g1,g2⟩:=h4 x hx;exact⟨g1.aK m VI.ne λb hb=>hF _ (g2 b hb).1 (g2 b hb).2.1 (g2 b hb).2.2.1,λb hb=>⟨(g2 b hb).1,hS _ (g2 b hb).2.1 (g2 b hb).2.2.1,mD (g2 b hb).2.2.1 m.size,(g2 b hb).2.2.2⟩⟩
theorem eF.up(h:eF eb ty n aY xL lo S w r ps)(u:Up S S' w w'):eF eb ty n aY xL lo S' w' r ps:=
 h.aK u.m (λ_ _ h _=>h) λk h1 h2 h3=>(u.s k h3).elim h1 λh=>aB
theorem eF.kp(h:eF eb ty n aY xL lo S w r ps)(k:aM w w'):eF eb ty n aY xL lo S w' r ps:=h.up (Up.aN k)
theorem eF.sub(h:eF eb ty n aY xL lo S w r ps)(hS:∀k,S' k->S k):eF eb ty n aY xL lo S' w r ps:=h.aK (aW.refl (λ_=>False) w) (λ_ _ _ _=>id) λk h1 _ h2=>h1 (hS k h2)
theorem eF.cov(h:eF eb ty n aY xL lo S w r ps)(hS:∀k,S' k->S k\/k<lo):eF eb ty n aY xL lo S' w r ps:=by
 obtain⟨xs,h1,h2,h3,h4⟩:=h.ex;have key:∀k,lo<=k->¬S k->¬S' k:=λk h1 h2 h3=>(hS k h3).elim h2 λh=>aB;exact⟨xs,h1,h2,λb hb=>⟨(h3 b hb).1,key _ (h3 b hb).1 (h3 b hb).2⟩,λx hx=>⟨(h4 x hx).1,λb hb=>⟨((h4 x hx).2 b hb).1,key _ ((h4 x hx).2 b hb).1 ((h4 x hx).2 b hb).2.1,((h4 x hx).2 b hb).2.2⟩⟩⟩
theorem eF.qE{lo':Nat}(h:eF eb ty n aY xL lo S w r ps)(hl:lo'<=lo):eF eb ty n aY xL lo' S w r ps:=by
 obtain⟨xs,h1,h2,h3,h4⟩:=h.ex;exact⟨xs,h1,h2,λb hb=>⟨iF hl (h3 b hb).1,(h3 b hb).2⟩,λx hx=>⟨(h4 x hx).1,λb hb=>⟨iF hl ((h4 x hx).2 b hb).1,((h4 x hx).2 b hb).2⟩⟩⟩
theorem eF.len(h:eF eb ty n aY xL lo S w r ps):r.l=ps.length:=by
 obtain⟨xs,rfl,h2,_⟩:=h.ex;rw[h2.len,oK]
theorem eF.rd(fZ:∀x,(aY x).length=n)(h:eF eb ty n aY xL lo S w r ps):vV eb n aY xL (λk=>lo<=k/\¬S k) w r ps:=by
 obtain⟨xs,h1,h2,h3,h4⟩:=h.ex;exact⟨xs,h1,h2.rd fZ,λb hb=>⟨h3 b hb,h2.lt hb⟩,λx hx=>⟨(h4 x hx).1,λb hb=>⟨⟨((h4 x hx).2 b hb).1,((h4 x hx).2 b hb).2.1⟩,((h4 x hx).2 b hb).2.2.1⟩⟩⟩
theorem vV.aK{F:BS}(gF:∀x,aY x≠[])(h:vV eb n aY xL P w r ps)(m:aW F w w')(hF:∀k,P k->k<w.heap.size->¬F k):vV eb n aY xL P w' r ps:=by
 obtain⟨xs,h1,h2,h3,h4⟩:=h;exact⟨xs,h1,h2.aK m gF λb hb=>hF _ (h3 b hb).1 (h3 b hb).2,λb hb=>⟨(h3 b hb).1,mD (h3 b hb).2 m.size⟩,λx hx=>⟨(h4 x hx).1.aK m VI.ne λb hb=>hF _ ((h4 x hx).2 b hb).1 ((h4 x hx).2 b hb).2,λb hb=>⟨((h4 x hx).2 b hb).1,mD ((h4 x hx).2 b hb).2 m.size⟩⟩⟩
theorem vV.wk{P':BS}(h:vV eb n aY xL P w r ps)(hP:∀k,P k->k<w.heap.size->P' k):vV eb n aY xL P' w r ps:=by
 obtain⟨xs,h1,h2,h3,h4⟩:=h;exact⟨xs,h1,h2,λb hb=>⟨hP _ (h3 b hb).1 (h3 b hb).2,(h3 b hb).2⟩,λx hx=>⟨(h4 x hx).1,λb hb=>⟨hP _ ((h4 x hx).2 b hb).1 ((h4 x hx).2 b hb).2,((h4 x hx).2 b hb).2⟩⟩⟩
theorem vV.up(gF:∀x,aY x≠[])(h:vV eb n aY xL (λk=>¬S k) w r ps)(u:Up S S' w w'):vV eb n aY xL (λk=>¬S' k) w' r ps:=by
 have h':vV eb n aY xL (λk=>¬S k/\k<w.heap.size) w r ps:=h.wk λk h1 h2=>⟨h1,h2⟩;exact(h'.aK gF u.m λk h _=>h.1).wk λk h _ hs=>(u.s k hs).elim h.1 λhh=>aB
theorem vV.kp(gF:∀x,aY x≠[])(h:vV eb n aY xL P w r ps)(k:aM w w'):vV eb n aY xL P w' r ps:=h.aK gF k λ_ _ _=>id
theorem vV.len(h:vV eb n aY xL P w r ps):r.l=ps.length:=by
 obtain⟨xs,rfl,h2,_⟩:=h;rw[h2.len,oK]
theorem vV.get(h:vV eb n aY xL P w r ps){i:Nat}{x:α}(hx:ps[i]? =some x):∃a sl,r.b=some a/\bY w (a.add (i*n)) 0 (aY (x,sl))/\Rd w sl 1 eb (xL x)/\∀b,sl.b=some b->P b.block/\b.block<w.heap.size:=by
 obtain⟨xs,rfl,h2,h3,h4⟩:=h;rw[mF] at hx;cases hy:xs[i]? with
 |none=>rw[hy] at hx;cases hx
 |some y=>
  rw[hy] at hx;obtain⟨x',sl⟩:=y;cases hx;obtain⟨a,ha,hh⟩:=h2.get i _ hy;have:=h4 _ (zF hy);exact⟨a,sl,ha,hh,this.1,this.2⟩
theorem eF.pg{bytes:Nat}{z:List Value}(hE:rC prog sty ty n bytes z)(fZ:∀x,(aY x).length=n)(jW:∀x,∀u∈aY x,u.oneCell'=true)(hb:bytes<=1000)(h:eF eb ty n aY xL lo S w r ps)(hl:ps.length+1<=1000000)(YC:lo<=w.heap.size)(hS:∀k,S k->k<w.heap.size)(x:α){sl:Sl}(hr:Rd w sl 1 eb (xL x))
  (ho:∀b,sl.b=some b->lo<=b.block/\¬S b.block/\b.block<w.heap.size/\∀b',r.b=some b'->b.block≠b'.block) {K:Sl->aH->Prop}
  (hK:∀r' w',eF eb ty n aY xL lo S w' r' (ps++[x])->aW (λk=>∃a,r.b=some a/\k=a.block) w w'->(∀b,r'.b=some b->(∃a,r.b=some a/\b.block=a.block)\/w.heap.size<=b.block)->K r' w'):aG w (aY (x,sl)).toArray ty λa w1=>aX prog sty sty r (.slice (some a) 1 1) w1 K:=by
 obtain⟨xs,rfl,h2,h3,h4⟩:=h.ex;rw[oK] at hl;refine cC λw1 b1 k1 z1=>?_;have hm:(xs.length+1)*bytes<=1000000*1000:=EU hl hb;refine fN hE fZ jW (x:=⟨some ⟨w.heap.size,0,none⟩,1,1⟩) (h2.aK k1 λ_ _=>id) (iV fZ [(x,sl)] b1 dK dK) (by simp;omega) (by simp;omega) λr' w2 v2 m2 Pn _=>?_;have hF:∀k,(∃a,r.b=some a/\k=a.block)->lo<=k/\¬S k:=λk ⟨a,ha,e⟩=>by rw[e];exact h3 a ha
 have hM:aW (λk=>lo<=k/\¬S k) w w2:=k1.wk.trans (m2.mono λk _ hk=>hF k hk) λ_ _ h=>h;have bm:∀b,r'.b=some b->(∃a,r.b=some a/\b.block=a.block)\/w1.heap.size<=b.block:=λb hb=>by
  rcases Pn with h|⟨a,h,h2⟩
  ·exact .inl ⟨b,h.symm.trans hb,rfl⟩
  ·rw[hb] at h;cases h;exact .inr h2
 have keyB:∀(y:α×Sl),Rd w y.2 1 eb (xL y.1)->(∀b,y.2.b=some b->lo<=b.block/\¬S b.block/\b.block<w.heap.size/\∀b',r.b=some b'->b.block≠b'.block)->Rd w2 y.2 1 eb (xL y.1)/\∀b,y.2.b=some b->lo<=b.block/\¬S b.block/\b.block<w2.heap.size/\∀b',r'.b=some b'->b.block≠b'.block:=λy g1 g2=>by
  refine⟨(g1.aK k1 VI.ne λ_ _=>id).aK m2 VI.ne λb hb ⟨a,ha,e⟩=>(g2 b hb).2.2.2 a ha e,λb hb=>⟨(g2 b hb).1,(g2 b hb).2.1,mD (g2 b hb).2.2.1 hM.size,λb' bW e=>?_⟩⟩;rcases bm b' bW with⟨a,ha,e2⟩|h
  ·exact(g2 b hb).2.2.2 a ha (e.trans e2)
  ·have:=(g2 b hb).2.2.1;omega
 refine hK r' w2 ⟨xs++[(x,sl)],by simp,v2,λb hb=>?_,λy hy=>?_⟩ (k1.wk.trans m2 λ_ _ h=>h) (λb hb=>(bm b hb).imp id λh=>by have:=k1.size;omega)
 ·rcases bm b hb with⟨a,ha,e⟩|h
  ·rw[e];exact h3 a ha
  ·exact⟨aB,λhs=>by have:=hS _ hs;omega⟩
 ·rcases jK.1 hy with hy|hy
  ·exact keyB y (h4 y hy).1 (h4 y hy).2
  ·rw[uE.1 hy];exact keyB (x,sl) hr ho
theorem eF.gW{bytes:Nat}{z:List Value}(hE:rC prog sty ty n bytes z)(fZ:∀x,(aY x).length=n)(jW:∀x,∀u∈aY x,u.oneCell'=true)(hb:bytes<=1000)(h:eF eb ty n aY xL lo S w r ps)(hl:ps.length+1<=1000000)(YC:lo<=w.heap.size)(hS:∀k,S k->k<w.heap.size)(x:α){sl:Sl}(hr:Rd w sl 1 eb (xL x))
  (ho:∀b,sl.b=some b->lo<=b.block/\¬S b.block/\b.block<w.heap.size/\∀b',r.b=some b'->b.block≠b'.block) {K:Sl->aH->Prop}
  (hK:∀r' w',eF eb ty n aY xL lo S w' r' (ps++[x])->aW (λk=>lo<=k/\¬S k) w w'->K r' w'):aG w (aY (x,sl)).toArray ty λa w1=>aX prog sty sty r (.slice (some a) 1 1) w1 K:=
 eF.pg hE fZ jW hb h hl YC hS x hr ho λr' w' v m _=>hK r' w' v (m.mono λk _ ⟨a,ha,e⟩=>by
  obtain⟨xs,_,_,h3,_⟩:=h.ex;rw[e];exact h3 a ha)
theorem eF.fw{bytes:Nat}{z:List Value}{r0:Sl}{Mo:List α}{lo1:Nat}(hE:rC prog sty ty n bytes z)(fZ:∀x,(aY x).length=n)(jW:∀x,∀u∈aY x,u.oneCell'=true)(hb:bytes<=1000)(h0:eF eb ty n aY xL lo S w r0 Mo)(h:eF eb ty n aY xL lo1 S w r ps)(YC:lo<=lo1)(hr0:∀b,r0.b=some b->b.block<lo1)(hl:Mo.length+ps.length<=1000000)(hlw:lo<=w.heap.size)(hS:∀k,S k->k<w.heap.size){K:Sl->aH->Prop}
  (hK:∀r' w',eF eb ty n aY xL lo S w' r' (Mo++ps)->aW (λk=>∃a,r0.b=some a/\k=a.block) w w'->(∀b,r'.b=some b->(∃a,r0.b=some a/\b.block=a.block)\/w.heap.size<=b.block)->K r' w'):aX prog sty sty r0 (.slice r.b r.l r.c) w K:=by
 obtain⟨xs0,rfl,h2,h3,h4⟩:=h0.ex;obtain⟨xs,rfl,g2,g3,g4⟩:=h.ex;rw[oK,oK] at hl;have hm:(xs0.length+xs.length)*bytes<=1000000*1000:=EU hl hb;refine fN hE fZ jW h2 (g2.rd fZ) aB aB λr' w2 v2 m2 Pn _=>?_;have hM:aW (λk=>lo<=k/\¬S k) w w2:=m2.mono λk _ ⟨a,ha,e⟩=>by rw[e];exact h3 a ha
 have bm:∀b,r'.b=some b->(∃a,r0.b=some a/\b.block=a.block)\/w.heap.size<=b.block:=λb hb=>by
  rcases Pn with h|⟨a,h,h2⟩
  ·exact .inl ⟨b,h.symm.trans hb,rfl⟩
  ·rw[hb] at h;cases h;exact .inr h2
 have keyB:∀(y:α×Sl),Rd w y.2 1 eb (xL y.1)->(∀b,y.2.b=some b->lo<=b.block/\¬S b.block/\b.block<w.heap.size/\∀b',r0.b=some b'->b.block≠b'.block)->Rd w2 y.2 1 eb (xL y.1)/\∀b,y.2.b=some b->lo<=b.block/\¬S b.block/\b.block<w2.heap.size/\∀b',r'.b=some b'->b.block≠b'.block:=λy g1 g2=>by
  refine⟨g1.aK m2 VI.ne λb hb ⟨a,ha,e⟩=>(g2 b hb).2.2.2 a ha e,λb hb=>⟨(g2 b hb).1,(g2 b hb).2.1,mD (g2 b hb).2.2.1 hM.size,λb' bW e=>?_⟩⟩;rcases bm b' bW with⟨a,ha,e2⟩|h
  ·exact(g2 b hb).2.2.2 a ha (e.trans e2)
  ·have:=(g2 b hb).2.2.1;omega
 refine hK r' w2 ⟨xs0++xs,by simp,v2,λb hb=>?_,λy hy=>?_⟩ m2 bm
 ·rcases bm b hb with⟨a,ha,e⟩|h
  ·rw[e];exact h3 a ha
  ·exact⟨aB,λhs=>by have:=hS _ hs;omega⟩
 ·rcases jK.1 hy with hy|hy
  ·exact keyB y (h4 y hy).1 (h4 y hy).2
  ·refine keyB y (g4 y hy).1 λb hb=>⟨iF YC ((g4 y hy).2 b hb).1,((g4 y hy).2 b hb).2.1,((g4 y hy).2 b hb).2.2.1,λb' bW e=>?_⟩
   have:=hr0 b' bW;have:=((g4 y hy).2 b hb).1;omega
theorem eF.BI(h:eF eb ty n aY xL lo S w r ps):∀k,(∃a,r.b=some a/\k=a.block)->lo<=k/\¬S k:=λk ⟨a,ha,e⟩=>by
 obtain⟨xs,_,_,h3,_⟩:=h.ex;rw[e];exact h3 a ha
theorem eF.app{bytes:Nat}{z:List Value}{r0:Sl}{Mo:List α}{lo1:Nat}(hE:rC prog sty ty n bytes z)(fZ:∀x,(aY x).length=n)(jW:∀x,∀u∈aY x,u.oneCell'=true)(hb:bytes<=1000)(h0:eF eb ty n aY xL lo S w r0 Mo)(h:eF eb ty n aY xL lo1 S w r ps)(YC:lo<=lo1)(hr0:∀b,r0.b=some b->b.block<lo1)(hl:Mo.length+ps.length<=1000000)(hlw:lo<=w.heap.size)(hS:∀k,S k->k<w.heap.size){K:Sl->aH->Prop}
  (hK:∀r' w',eF eb ty n aY xL lo S w' r' (Mo++ps)->aW (λk=>lo<=k/\¬S k) w w'->K r' w'):aX prog sty sty r0 (.slice r.b r.l r.c) w K:=
 eF.fw hE fZ jW hb h0 h YC hr0 hl hlw hS λr' w' v m _=>hK r' w' v (m.mono λk _ hk=>h0.BI k hk)
theorem eF.lt(h:eF eb ty n aY xL lo S w r ps){b:Addr}(hb:r.b=some b):b.block<w.heap.size:=by
 obtain⟨xs,rfl,h2,_⟩:=h.ex;exact h2.lt hb
end
theorem Up.iH{S0 S:BS}{w0 w w':aH}(u:Up S0 S w0 w)(m:aW (λk=>w0.heap.size<=k/\¬S k) w w'):Up S0 S w0 w':=
 ⟨u.m.trans m λk hk h=>by have:=h.1;omega,u.s⟩
theorem bF.ov{A:As}[bF A]{lo:Nat}{S:BS}{w w':aH}(h:A w S)(m:aW (λk=>lo<=k/\¬S k) w w'):A w' S:=bF.aK h m λk hk hn=>hn.2 hk
abbrev Vg(P:BS)(w:aH)(r:Sl)(gs:List gA):Prop:=vV eU 6 eG gA.body P w r gs
abbrev Fh(P:BS)(w:aH)(r:Sl)(bs:List (List dA)):Prop:=vV eU 1 (λx:List dA×Sl=>eS x.2) id P w r bs
theorem uI.row{w:aH}{T P:BS}{r:Sl}{gs:List gA}(h:uI r gs w T)(hP:∀k,T k->P k):Vg P w r gs:=by
 obtain⟨xs,rfl,S3,S4,h3,h4,d34,Um⟩:=h;refine⟨xs,rfl,h3.1.rd Uu,λb hb=>⟨hP _ ((Um _).2 (.inl ((h3.2 _).2 ⟨b,hb,rfl⟩))),h3.1.lt hb⟩,λx hx=>?_⟩;obtain⟨i,hi⟩:=List.getElem?_of_mem hx;have:=h4.2.1 i x.2 x.1.body (by rw[mF,hi];rfl) (by rw[mF,hi];rfl);exact⟨this.1,λb hb=>⟨hP _ ((Um _).2 (.inr (this.2 b hb))),h4.2.2 _ (this.2 b hb)⟩⟩
theorem VA.row{w:aH}{T P:BS}{r:Sl}{bs:List (List dA)}(h:VA r bs w T)(hP:∀k,T k->P k):Fh P w r bs:=by
 obtain⟨ss,S3,S4,h3,h4,d34,Um⟩:=h;have AS:=h3.1.rd Fo;refine⟨bs.zip ss,?_,?_,λb hb=>⟨hP _ ((Um _).2 (.inl ((h3.2 _).2 ⟨b,hb,rfl⟩))),h3.1.lt hb⟩,λx hx=>?_⟩
 ·rw[List.map_fst_zip (by rw[h4.1];exact iT _)]
 ·refine⟨by rw[AS.len,List.length_zip,h4.1,Nat.min_self],AS.cap,λi x hx=>?_⟩
  exact AS.get i x.2 (List.getElem?_zip_eq_some.1 hx).2
 ·obtain⟨i,hi⟩:=List.getElem?_of_mem hx
  have hz:=List.getElem?_zip_eq_some.1 hi;have:=h4.2.1 i x.2 x.1 hz.2 hz.1;exact⟨this.1,λb hb=>⟨hP _ ((Um _).2 (.inr (this.2 b hb))),h4.2.2 _ (this.2 b hb)⟩⟩
theorem VO{A:As}[bF A]{w:aH}{S:BS}{r:Sl}{gs:List gA}(h:aZ A (uI r gs) w S):∃S1,A w S1/\Up S S1 w w/\Vg (λk=>¬S1 k) w r gs:=by
 obtain⟨S1,S2,h1,⟨xs,rfl,S3,S4,h3,h4,d34,Um⟩,d,e⟩:=h;refine⟨S1,h1,Up.sub w λk hk=>(e k).2 (.inl hk),xs,rfl,h3.1.rd Uu,λb hb=>?_,λx hx=>?_⟩
 ·exact⟨λhk=>d _ hk ((Um _).2 (.inl ((h3.2 _).2 ⟨b,hb,rfl⟩))),h3.1.lt hb⟩
 ·obtain⟨i,hi⟩:=List.getElem?_of_mem hx
  have:=h4.2.1 i x.2 x.1.body (by rw[mF,hi];rfl) (by rw[mF,hi];rfl);exact⟨this.1,λb hb=>⟨λhk=>d _ hk ((Um _).2 (.inr (this.2 b hb))),h4.2.2 _ (this.2 b hb)⟩⟩
end
section
abbrev Pk:=Int×List dA
abbrev ePk(x:Pk×Sl):List Value:=[aD x.1.1,sv x.2]
theorem MB:∀x:Pk×Sl,(ePk x).length=2:=λ_=>rfl
theorem LY:∀x:Pk×Sl,∀u∈ePk x,u.oneCell'=true:=by intro x u hu;simp at hu;rcases hu with rfl|rfl<;>rfl
theorem ePk_ne(x:Pk×Sl):ePk x≠[]:=by simp
abbrev eD(x:List dA×Sl):List Value:=[sv x.2]
theorem lenD:∀x:List dA×Sl,(eD x).length=1:=λ_=>rfl
theorem oneD:∀x:List dA×Sl,∀u∈eD x,u.oneCell'=true:=by intro x u hu;simp at hu;subst hu;rfl
theorem KN(x:List dA×Sl):eD x≠[]:=by simp
abbrev rA:=eF (α:=Pk) eU tPacket 2 ePk Prod.snd
abbrev yj:=eF (α:=List dA) eU BN 1 eD id
def GOk(g:gA)(b:List dA):Prop:=b.length<=3000/\(WfG g->b=An g)
def dt(aL:Int)(g:gA)(p:Pk):Prop:=p.1=aL/\GOk g p.2
section
variable{w:aH}{l:Sl}{gs:List gA}{P:BS}
theorem AJ{aL:Int}{Q:Sl->aH->Prop}(h:Vg P w l gs)(hl:gs.length<=1000)(hb:∀g∈gs,g.body.length<=80000)
  (hQ:∀r ps w',aM w w'->rA w.heap.size (λk=>k<w.heap.size) w' r ps->F2 (dt aL) gs ps->Q r w'):eV aL l w Q:=by
 unfold eV;have hll:=h.len;refine bO (λn t w1=>∃(i:Nat) (r:Sl) (ps:List Pk),i<=gs.length/\n=gs.length-i/\t=(r,(i:Int),())/\aM w w1/\rA w.heap.size (λk=>k<w.heap.size) w1 r ps/\F2 (dt aL) (gs.take i) ps) gs.length
  ⟨0,bD,[],iG _,rfl,rfl,aW.refl _ _,eF.nil,.nil⟩ ?_
 rintro n t w1 ⟨i,r,ps,hi,rfl,rfl,k1,v1,f1⟩ X hX;dsimp only;refine aJ (λcJ=>?_) (λkT=>?_)
 ·have dI:i<gs.length:=aB
  have cV:=gS dI;have fP:=nC dI;have rT:=FO dI;generalize gs[i]=g at*;obtain⟨a,sl,ha,hh,hr,hro⟩:=(h.kp QM k1).get cV;have fl:=f1.len;rw[pV] at fl;rw[kE,pZ i aB];refine⟨⟨aB,cJ⟩,aA ha (bJ (l:=kG) (IW (g,sl)) hh ?_)⟩;refine fD (zs:=eG (⟨0,0,0,0,0,[]⟩,bD)) (vs:=eG (g,sl)) rF rfl (Lc _) λw4 o4 k4 z4=>?_;refine bJ (l:=kG) (IW (g,sl)) (o4.holds λj v hj=>by rw[pM];exact hj) ?_;have z1:=k1.size;refine jk (hr.aK k4 fH λ_ _=>id) (hb g fP) λs out e w5 k5 Cx f5 l5 g5=>?_;have v5:=(v1.kp k4).kp k5;refine eF.gW jS MB LY aB v5 (by rw[<-fl];omega) (iF (k1.tr k4).size k5.size) (λk hk=>mD hk (iF (k1.tr k4).size k5.size)) (aL,out) (sl:=s) Cx.1 (λb hb=>⟨by have:=f5 b hb;omega,λhk=>by have:=f5 b hb;omega,Cx.2.2.1 b hb,λb' bW=>?_⟩) λr' w6 v6 m6=>?_
  ·have:=v1.lt bW;have:=f5 b hb;omega
  ·refine hX _ _ _ aB ⟨i+1,r',ps++[(aL,out)],dI,rfl,rfl,((k1.tr k4).tr k5).fresh m6 λk hk=>hk.1,v6,?_⟩
   rw[rT];exact f1.app (.one ⟨rfl,l5,λhw=>(g5 hw).1⟩)
 ·have ei:i=gs.length:=aB
  subst ei;rw[oY] at f1;exact hQ r ps w1 k1 v1 f1
theorem NL{Q:Sl->aH->Prop}(h:Vg P w l gs)(hl:gs.length<=1000)(hb:∀g∈gs,g.body.length<=80000)
  (hQ:∀r ps w',aM w w'->yj w.heap.size (λk=>k<w.heap.size) w' r ps->F2 GOk gs ps->Q r w'):jM l w Q:=by
 unfold jM;have hll:=h.len;refine bO (λn t w1=>∃(i:Nat) (r:Sl) (ps:List (List dA)),i<=gs.length/\n=gs.length-i/\t=(r,(i:Int),())/\aM w w1/\yj w.heap.size (λk=>k<w.heap.size) w1 r ps/\F2 GOk (gs.take i) ps) gs.length
  ⟨0,bD,[],iG _,rfl,rfl,aW.refl _ _,eF.nil,.nil⟩ ?_
 rintro n t w1 ⟨i,r,ps,hi,rfl,rfl,k1,v1,f1⟩ X hX;dsimp only;refine aJ (λcJ=>?_) (λkT=>?_)
 ·have dI:i<gs.length:=aB
  have cV:=gS dI;have fP:=nC dI;have rT:=FO dI;generalize gs[i]=g at*;obtain⟨a,sl,ha,hh,hr,hro⟩:=(h.kp QM k1).get cV;have fl:=f1.len;rw[pV] at fl;rw[kE,pZ i aB];refine⟨⟨aB,cJ⟩,aA ha (bJ (l:=kG) (IW (g,sl)) hh ?_)⟩;refine fD (zs:=eG (⟨0,0,0,0,0,[]⟩,bD)) (vs:=eG (g,sl)) rF rfl (Lc _) λw4 o4 k4 z4=>?_;refine bJ (l:=kG) (IW (g,sl)) (o4.holds λj v hj=>by rw[pM];exact hj) ?_;have z1:=k1.size;refine jk (hr.aK k4 fH λ_ _=>id) (hb g fP) λs out e w5 k5 Cx f5 l5 g5=>?_;have v5:=(v1.kp k4).kp k5;refine eF.gW NJ lenD oneD aB v5 (by rw[<-fl];omega) (iF (k1.tr k4).size k5.size) (λk hk=>mD hk (iF (k1.tr k4).size k5.size)) out (sl:=s) Cx.1 (λb hb=>⟨by have:=f5 b hb;omega,λhk=>by have:=f5 b hb;omega,Cx.2.2.1 b hb,λb' bW=>?_⟩) λr' w6 v6 m6=>?_
  ·have:=v1.lt bW;have:=f5 b hb;omega
  ·refine hX _ _ _ aB ⟨i+1,r',ps++[out],dI,rfl,rfl,((k1.tr k4).tr k5).fresh m6 λk hk=>hk.1,v6,?_⟩
   rw[rT];exact f1.app (.one ⟨l5,λhw=>(g5 hw).1⟩)
 ·have ei:i=gs.length:=aB
  subst ei;rw[oY] at f1;exact hQ r ps w1 k1 v1 f1
theorem se{aL aP code:Int}{Q:Sl->aH->Prop}(hQ:∀r p w',aM w w'->rA w.heap.size (λk=>k<w.heap.size) w' r [p]->dt aL ⟨aP,3,0,0,code,[]⟩ p->Q r w'):eK aL aP code w Q:=by
 unfold eK;refine cC (cs:=eG (⟨aP,3,0,0,code,[]⟩,bD)) λw1 b1 k1 z1=>?_;have hg:Vg (λ_=>True) w1 ⟨some ⟨w.heap.size,0,none⟩,1,1⟩ [⟨aP,3,0,0,code,[]⟩]:=⟨[(⟨aP,3,0,0,code,[]⟩,bD)],rfl,iV Uu [(⟨aP,3,0,0,code,[]⟩,bD)] b1 rfl dK,λb hb=>by cases hb;exact⟨trivial,b1.1.lt⟩,λx hx=>by
  rw[uE.1 hx];exact⟨Rd.nil _ _ _,λb hb=>by cases hb⟩⟩
 refine AJ hg dK dK λr ps w2 k2 v2 f2=>?_;cases f2 with
 |cons a b=>
  cases b;exact hQ r _ w2 (k1.tr k2) ((v2.qE aB).sub λk hk=>aB) a
end
abbrev lH.dl(c:lH):Int:=c.s.next-c.s.n
structure du(c c':lH)(k:Nat):Prop where
 cO:c'.s.cO=c.s.cO
 aP:c'.aP=c.aP
 dl:c'.dl=c.dl
 n:k+c.s.n=c'.s.n
theorem Ia{aP nx:Int}{t:Uo}:∀{l:List (List dA)} {s:XX},du ⟨s,aP,t,l⟩ (lH.UO s aP nx t l).2 (lH.UO s aP nx t l).1.length/\∀g∈(lH.UO s aP nx t l).1,g.body∈l
 | [],s=>⟨⟨rfl,rfl,rfl,pM _⟩,λg hg=>by cases hg⟩
 |b::r,s=>by
  rw[lH.UO]
  split
  ·obtain⟨⟨h1,h2,h3,h4⟩,h5⟩:=Ia (aP:=aP) (nx:=nx) (t:=t) (l:=r) (s:=s.send b)
   refine⟨⟨h1,h2,h3.trans ?_,?_⟩,λg hg=>?_⟩
   ·show s.next+1-((s.n+1:Nat):Int)=s.next-(s.n:Int)
    omega
   ·have h4':_+(s.n+1)=_:=h4
    simp only[nQ] at h4' ⊢;omega
   ·rcases lL.1 hg with rfl|hg
    ·simp
    ·exact Qa _ (h5 g hg)
  ·exact⟨⟨rfl,rfl,rfl,pM _⟩,λg hg=>by cases hg⟩
theorem lH.JL(c:lH):du c c.nP.2 c.nP.1.length/\∀g∈c.nP.1,g.body∈c.gU:=Ia (s:=c.s) (l:=c.gU)
theorem Hy{c:lH}(ok:c.Ok){b:List dA}(hb:b.length<=70000):du c (c.push b).2.1 (c.push b).1.length/\∀g∈(c.push b).1,g.body.length<=70000:=by
 unfold lH.push
 split
 ·exact⟨⟨rfl,rfl,rfl,pM _⟩,λg hg=>by cases hg⟩
 ·split
  ·exact⟨⟨rfl,rfl,rfl,pM _⟩,λg hg=>by cases hg⟩
  ·obtain⟨⟨h1,h2,h3,h4⟩,h5⟩:=({c with gU:=c.gU++[b]}:lH).JL
   refine⟨⟨h1,h2,h3,h4⟩,λg hg=>?_⟩;rcases jK.1 (h5 g hg) with h|h
   ·exact ok.len _ h
   ·rw[uE.1 h];exact hb
theorem du.refl(c:lH):du c c 0:=⟨rfl,rfl,rfl,pM _⟩
theorem du.tr{c c' c'':lH}{k k':Nat}(h:du c c' k)(h':du c' c'' k'):du c c'' (k+k'):=⟨h'.cO.trans h.cO,h'.aP.trans h.aP,h'.dl.trans h.dl,by have:=h.n;have:=h'.n;omega⟩
theorem Ic{c c':lH}{gs:List gA}{e:Int}(ok:c.Ok)(h:qt c gs e c'):c'.s.cO=c.s.cO/\c'.aP=c.aP/\c'.dl=c.dl/\gs.length<=c'.s.n/\∀g∈gs,g.body.length<=70000:=by
 obtain⟨s1,L,e0,⟨a1,a2,a3,a4,a5⟩,PZ,hL,_,_,h⟩:=h
 split at h
 ·obtain⟨_,rfl,rfl⟩:=h
  obtain⟨⟨h1,h2,h3,h4⟩,h5⟩:=(⟨s1,c.aP,c.t,c.gU⟩:lH).JL;refine⟨h1.trans a1,h2,h3.trans ?_,?_,λg hg=>?_⟩
  ·show s1.next-(s1.n:Int)=c.s.next-(c.s.n:Int)
   simp[*]
  ·rw[mJ,oK]
   have h4':_+s1.n=_:=h4;have:s1.n=c.s.n:=by simp[*]
   omega
  ·rcases jK.1 hg with hg|hg
   ·obtain⟨x,_,rfl⟩:=lK.1 hg
    show((s1.f x).getD []).length<=70000;cases hf:s1.f x with
    |none=>simp
    |some bs=>exact(PZ.len x bs hf).2.2
   ·exact ok.len _ (h5 g hg)
 ·obtain⟨_,rfl,rfl⟩:=h
  refine⟨a1,rfl,?_,iG _,λg hg=>by cases hg⟩;show s1.next-(s1.n:Int)=c.s.next-(c.s.n:Int)
  simp[*]
theorem wR{c c':lH}{g:gA}{rO:List (List dA)}{gs:List gA}(ok:c.Ok)(h:VH c g rO gs c'):c'.s.cO=c.s.cO/\c'.aP=c.aP/\c'.dl<=c.s.next/\gs.length<=c'.s.n+1/\(∀g∈gs,g.body.length<=70000)/\rO.length<=20/\∀b∈rO,b.length<=5000:=by
 unfold VH at h
 split at h
 ·obtain⟨rfl,rfl,rfl⟩:=h
  exact⟨rfl,rfl,by show c'.s.next-_<=_;omega,iG _,λg hg=>(by cases hg),by simp,λb hb=>by cases hb⟩
 ·obtain⟨s1,⟨a1,a2,a3,a4,a5,a6⟩,PZ,h⟩:=h
  split at h
  ·obtain⟨t1,ht,rfl,rfl⟩:=h
   obtain⟨⟨h1,h2,h3,h4⟩,h5⟩:=(⟨s1,c.aP,t1,c.gU⟩:lH).JL;refine⟨h1.trans a1,h2,?_,?_,λg hg=>?_,ht.len,ht.lens⟩
   ·rw[h3];show s1.next-(s1.n:Int)<=_;omega
   ·simp only[nQ];have h4':_+s1.n=_:=h4;omega
   ·rcases lL.1 hg with rfl|hg
    ·simp
    ·exact ok.len _ (h5 g hg)
  ·obtain⟨rfl,rfl,rfl⟩:=h
   obtain⟨⟨h1,h2,h3,h4⟩,h5⟩:=(⟨s1,c.aP,c.t,c.gU⟩:lH).JL;refine⟨h1.trans a1,h2,?_,?_,λg hg=>ok.len _ (h5 g hg),by simp,λb hb=>by cases hb⟩
   ·rw[h3];show s1.next-(s1.n:Int)<=_;omega
   ·have h4':_+s1.n=_:=h4;omega
end
end Go.Proofs.YtihggjgakbgomaaGreat
