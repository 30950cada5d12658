import Derived.Test.YtihggjgakbgomaaGreatA1
import Derived.Test.YtihggjgakbgomaaGreatF1
import Derived.Test.YtihggjgakbgomaaGreatQ2
import Derived.Test.YtihggjgakbgomaaGreatQ3
import Derived.Test.YtihggjgakbgomaaGreatA2
import Derived.Test.YtihggjgakbgomaaGreatQ1
import Derived.Test.YtihggjgakbgomaaGreatF2
namespace Go.Proofs.YtihggjgakbgomaaGreat
open Go Go.Den
section
theorem weight_i{w:aH}{t:Mg}{G:Gr}{i:Int}{Q:Int->aH->Prop}(h:rY w t G)(hi:G.pP i)(hQ:∀w',aN w w'->Q (G.wt i) w'):xU (some ⟨t.t,0,none⟩) i w Q:=by
 unfold xU;refine aA rfl (aE (k:=.ptr) (some ⟨t.H.g,0,none⟩) h.cells.1 ?_);exact JU h hi λa w' hc k _=>aE (k:=.i) (G.wt i) hc (hQ w' k)
theorem LB(b:Bool):eB b≠[]:=by simp
theorem Hl{c:List Bool}{e:Int}(h:(c.length:Int)<=e):qR c e=false:=by
 unfold qR;rw[LZ,List.getElem?_eq_none aB];rfl
theorem ZK{c:List Bool}{e:Int}(h0:0<=e)(h:e<c.length):c[e.toNat]? =some (qR c e):=by
 have:e.toNat<c.length:=aB;unfold qR;rw[LZ,gU this];rfl
theorem shut_i{w:aH}{s:Sl}{c:List Bool}{e:Int}{Q:Bool->aH->Prop}(hr:Rd w s 1 eB c)(h0:0<=e)(hQ:Q (qR c e) w):ET s e w Q:=by
 unfold ET;have hl:=hr.len;refine aJ (λcL=>?_) (λlK=>by rw[Hl aB] at hQ;exact hQ);obtain⟨p,hp,hc⟩:=cQ (k:=.bool) (e:=λx=>x) hr (ZK h0 aB);exact⟨⟨h0,cL⟩,aA hp (aE (k:=.bool) (qR c e) hc hQ)⟩
structure DSt(W w:aH)(B g1:Nat)(s1:Sl)(H:HS)(q:List It)(ds:List Int):Prop where
 hp:rO w H q
 hg:H.g=B
 ON:s1.b=some ⟨g1,0,none⟩
 v1:dP w cZ 1 eI s1 ds
 kp:aN W w
 sep:∀k,H.dK k->W.heap.size<=k/\k≠g1
 qN:W.heap.size<=g1
section
variable{W w:aH}{B g1:Nat}{s1:Sl}{H:HS}{q:List It}{ds:List Int}
theorem DSt.aO{w':aH}(h:DSt W w B g1 s1 H q ds)(k:aN w w'):DSt W w' B g1 s1 H q ds:=⟨h.hp.aO k,h.hg,h.ON,h.v1.aL k λ_ _=>id,h.kp.tr k,h.sep,h.qN⟩
theorem DSt.heap{w':aH}{H':HS}{q':List It}(h:DSt W w B g1 s1 H q ds)(hp:oO w' H' q')(hg:H'.g=H.g)(m:aY H.dK w w')(f:∀k,H'.dK k->H.dK k\/w.heap.size<=k):DSt W w' B g1 s1 H' q' ds:=by
 have hg1:=h.v1.lt h.ON;have hk:=h.kp.size;refine⟨.inl hp,hg.trans h.hg,h.ON,h.v1.aL m λa ha hk=>?_,h.kp.fresh m λk hk=>(h.sep k hk).1,λk lT=>?_,h.qN⟩
 ·rw[h.ON] at ha;cases ha;exact(h.sep _ hk).2 rfl
 ·rcases f k lT with h1|h1
  ·exact h.sep k h1
  ·have Ap:g1<w.heap.size:=hg1
   exact⟨aB,aB⟩
end
theorem To_i{t:Mg}{G:Gr}{node:Int}{dD:Sl}{c:List Bool}{W:aH}{Q:Sl->aH->Prop}(h:rY W t G)(hN:G.UL node)(hc:Rd W dD 1 eB c)
  (hQ:∀s ds w',G.sE c node ds->dP w' cZ 1 eI s ds->aN W w'->(∀b,s.b=some b->W.heap.size<=b.block)->(∀(v:Nat) x,ds[v]? =some x->-1<=x/\x<=51*BW)->Q s w'):IF (some ⟨t.t,0,none⟩) node dD W Q:=by
 unfold IF;have ok:=h.IU.ok;have hm:=ok.m1;have hnx:=ok.nxOk c node;refine aF (λh=>by simp at h) (λ_=>aJ (λh=>aB) (λ_=>?_));refine aA rfl (aE (k:=.ptr) (some ⟨t.H.g,0,none⟩) h.cells.1 (OX h.IU (aJ (λh=>aB) (λ_=>?_))));unfold OA;refine bP λw1 o1 k1 z1=>?_;have h1:=h.aO k1;refine aA rfl (aE (k:=.ptr) (some ⟨t.H.g,0,none⟩) h1.cells.1 (tG h1.IU ?_));refine Zk o1 hm.2 λw3 v3 k3=>?_;generalize vY:(⟨some ⟨w1.heap.size,0,none⟩,G.m,G.m⟩:Sl)=s1 at*;have ON:s1.b=some ⟨w1.heap.size,0,none⟩:=by rw[<-vY]
 refine bP λw4 o4 k4 z4=>?_;have K4:=(k1.tr k3).tr k4;have h4:=h.aO K4;refine aA rfl (aE (k:=.ptr) (some ⟨t.H.g,0,none⟩) h4.cells.1 ?_);refine gIn_i h4.IU λs2 w5 v5 k5 f5=>?_;have K5:=K4.tr k5;have z13:=v3.lt ON;have zW:=k1.size;have z3:=k3.size;have hl13:w1.heap.size<w3.heap.size:=z13;have St0:DSt W w5 w3.heap.size w1.heap.size s1 ⟨w3.heap.size,w3.heap.size,bD⟩ [] (List.replicate G.m (-1)):=by
  refine⟨.inr ⟨rfl,rfl,rfl,o4.aL k5 id⟩,rfl,ON,(v3.aL k4 λ_ _=>id).aL k5 λ_ _=>id,K5,λk hk=>?_,aB⟩;have:k=w3.heap.size:=by
   rcases hk with hk|hk|⟨a,ha,_⟩
   ·exact hk
   ·exact hk
   ·cases ha
  subst this;exact⟨aB,aB⟩
 have il:=G.xm node;have aAh:∀e,e∈G.Vl node↔G.src node e:=λe=>G.xi;have l2:=v5.len;have f5':∀b,s2.b=some b->w4.heap.size<=b.block/\b.block<w5.heap.size:=λb hb=>⟨f5 b hb,v5.lt hb⟩;clear o1 v3 o4 f5;generalize hB:w3.heap.size=B at*;generalize hg1:w1.heap.size=g1 at*;refine bK (λc' t' w6=>∃(i:Nat) (H:HS) (q:List It),i<=(G.Vl node).length/\c'=(G.Vl node).length-i/\t'=((i:Int),())/\DSt W w6 B g1 s1 H q (List.replicate G.m (-1))/\Co q/\BK q/\dP w6 cZ 1 eI s2 (G.Vl node)/\(∀k,H.dK k->∀b,s2.b=some b->k≠b.block)/\
   (∀y∈q,y.key=0/\G.src node y.id)/\(∀j,j<i->∀v,(G.Vl node)[j]? =some v->∃y∈q,y.id=v)) (G.Vl node).length
  ⟨0,_,[],iF _,rfl,rfl,St0,(λx hx=>by cases hx),List.Pairwise.nil,v5,λk hk b hb e=>?_,(λy hy=>by cases hy),λj hj=>aB⟩ ?_
 ·have hkb:k=B:=by
   rcases hk with hk|hk|⟨a,ha,_⟩
   ·exact hk
   ·exact hk
   ·cases ha
  have:=f5' b hb;omega
 rintro c' t' w6 ⟨i,H,q,hi,rfl,rfl,st,jA,lU,v6,IT,hq,oF⟩ X hX;dsimp only;have qlen:q.length<=G.m:=DZ (mG lU) jA λy hy=>(hq y hy).2.1;refine aJ (λcL=>?_) (λlK=>?_)
 ·have dF:i<(G.Vl node).length:=aB
  have cU:=gU dF;have fP:=oE dF;generalize (G.Vl node)[i]=v at*;obtain⟨p,hp,hcp⟩:=cQ (k:=.i) (e:=λx=>x) (v6.rd fM) cU;rw[lJ];refine⟨⟨aB,cL⟩,aA hp (aE (k:=.i) v hcp ?_)⟩;have hg:=st.hg;rw[<-hg];refine ZH st.hp aB λw7 H7 h7 g7 m7 f7=>?_;have YE:=st.heap h7 g7 m7 f7;rw[qM i aB];refine hX _ _ _ aB ⟨i+1,H7,_,dF,rfl,rfl,YE,CH jA v 0,CG lU v 0,v6.aL m7 λb hb hk=>IT _ hk b hb rfl,λk hk b hb e=>?_,λy hy=>?_,λj hj u hu=>?_⟩
  ·rcases f7 k hk with h1|h1
   ·exact IT k h1 b hb e
   ·have:=v6.lt hb;omega
  ·rcases WR hy with gu|rfl
   ·exact hq y gu
   ·exact⟨rfl,(aAh v).1 fP⟩
  ·rcases Nat.lt_or_ge j i with CV|CV
   ·obtain⟨y,hy,e⟩:=oF j CV u hu
    obtain⟨y',Vm,e',_⟩:=PC jA (v:=v) (k:=0) hy;exact⟨y',Vm,e'.trans e⟩
   ·have:j=i:=aB
    subst this;rw[cU] at hu;cases hu;obtain⟨y,hy,e,_⟩:=WS (q:=q) (v:=v) (k:=0);exact⟨y,hy,e⟩
 have ei:i=(G.Vl node).length:=aB;subst ei;have G0:tS G.m (G.src node) (G.nx c) (λe=>e.f) (λ_ _=>True) (List.replicate G.m (-1)) (List.replicate G.m (-1)) q (λ_=>some (-1)):=tS.start hnx (λy hy=>⟨(hq y hy).1,(hq y hy).2,rfl⟩) λv hv=>by
  obtain⟨j,hj⟩:=oZ.1 ((aAh v).2 hv);exact oF j (kY.1 hj).1 v hj
 clear hX hq oF qlen lK hi St0 v6 IT f5' v5 l2;generalize hds0:List.replicate G.m (-1:Int)=ds0 at*;refine bK (λc' t' fV=>∃(H:HS) (q:List It) (kn:Int->Option Int) (ds bs:List Int),c'=G.m-met ds/\t'=()/\DSt W fV B g1 s1 H q ds/\Co q/\BK q/\tS G.m (G.src node) (G.nx c) (λe=>e.f) (λ_ _=>True) ds bs q kn) (G.m-met ds0)
  ⟨H,q,_,ds0,ds0,rfl,rfl,st,jA,lU,G0⟩ ?_
 clear G0 jA lU st;rintro c' t' fV ⟨H,q,kn,ds,bs,rfl,rfl,st,jA,lU,GI⟩ X hX;have hg:=st.hg;rw[<-hg];refine vf st.hp ?_;cases q with
 |nil=>
  refine aJ (λh=>by simp at h) (λ_=>?_);have gr:=GI.done hnx;refine hQ s1 ds fV gr.sE st.v1 st.kp (λb hb=>?_) λv x hx=>?_
  ·rw[st.ON] at hb;cases hb;exact st.qN
  ·have:=gr.gI v x hx
   simp only[BW] at*;omega
 |cons x q=>
  refine aJ (λ_=>?_) (λh=>absurd (by simp only[mV];omega) h);obtain⟨x0,x1,hxd,hxg,hxb,u,hu,_⟩:=GI.qi x dJ;have hxE:G.pP x.id:=⟨x0,x1⟩;have fh:=(hxg.qw hnx).2.2;have uk:(x::q).length<=G.m:=DZ (mG lU) jA λy hy=>⟨(GI.qi y hy).1,(GI.qi y hy).2.1⟩;have hp:oO fV H (x::q):=st.hp.resolve_right λh=>by cases h.1
  refine Pop_i hp (by simp at uk;omega) λlP H17 h17 g17 f17 yw=>?_;have rJ:=st.heap h17 g17 yw λk hk=>.inl ((f17 k).1 hk);obtain⟨G1,hmet⟩:=GI.pop hnx lU jA hu;have hml:=lh (ds.set x.id.toNat x.key);rw[pR,GI.dl] at hml;have v1l:=rJ.v1.len;have ie:=GI.dl;refine⟨⟨x0,aB⟩,aA rJ.ON ?_⟩;refine rJ.v1.store fM rJ.ON (i:=x.id.toNat) aB x.key (v:=aD x.key) rfl cY (EZ _) λqD v19 m19 z19=>?_;have LI:aY (λk=>k=g1) lP qD:=m19;have GC:DSt W qD B g1 s1 H17 q (ds.set x.id.toNat x.key):=⟨rJ.hp.aL LI λk hk e=>(rJ.sep k hk).2 e,rJ.hg,rJ.ON,v19,rJ.kp.fresh LI λk e=>by rw[show k=g1 from e];exact rJ.qN,rJ.sep,rJ.qN⟩;have hdlt:x.id.toNat<ds.length:=aB;have hself:(ds.set x.id.toNat x.key)[x.id.toNat]? =some x.key:=by rw[wC,if_pos rfl,if_pos hdlt]
  have exi:(x.id.toNat:Int)=x.id:=Int.toNat_of_nonneg x0;have QV:Co q:=λa ha b hb=>jA a (by simp[ha]) b (by simp[hb]);have ug:BK q:=(List.pairwise_cons.1 lU).2;generalize hds':ds.set x.id.toNat x.key=Vx at*;generalize bs.set x.id.toNat u=Ns at*;refine shut_i (hc.aL GC.kp LB λ_ _=>id) x0 ?_;refine aF (λhsh=>?_) (λhsh=>?_)
  ·refine hX (G.m-met Vx) _ _ aB ⟨H17,q,kn,Vx,Ns,rfl,rfl,GC,QV,ug,G1.mono λv e he _ ev=>?_⟩
   rw[ev] at he;have:=(G.JP.1 he).1;rw[hsh] at this;cases this
  refine Prev_i (h.aO GC.kp) λs3 AO v21 k21 f21=>?_;have Ri:=GC.aO k21;have l3:=v21.len;have hpl:=G.Yn x.id;have hnxe:G.nx c x.id=(G.oK x.id).map λa=>(⟨a,x.id,G.wt x.id,-1⟩:bQ):=by unfold Gr.nx;rw[if_neg (by rw[hsh];simp)]
  have hpE:∀p∈G.oK x.id,G.pP p:=λp hp=>(G.iK.1 (G.WV.1 hp)).1;have hpN:∀p∈G.oK x.id,(⟨p,x.id,G.wt x.id,-1⟩:bQ)∈G.nx c x.id:=λp hp=>by rw[hnxe];exact lN.2 ⟨p,hp,rfl⟩
  have Vn:=ok.w1 hxE;have fr3:∀b,s3.b=some b->qD.heap.size<=b.block/\b.block<AO.heap.size:=λb hb=>⟨f21 b hb,v21.lt hb⟩;refine bK (λc' t' EW=>∃(i:Nat) (H:HS) (q:List It) (kn:Int->Option Int),i<=(G.oK x.id).length/\c'=(G.oK x.id).length-i/\t'=((i:Int),())/\DSt W EW B g1 s1 H q Vx/\Co q/\BK q/\
    tS G.m (G.src node) (G.nx c) (λe=>e.f) (λv e=>v≠x.id\/e.f∈(G.oK x.id).take i) Vx Ns q kn/\dP EW cZ 1 eI s3 (G.oK x.id)/\(∀k,H.dK k->∀b,s3.b=some b->k≠b.block)) (G.oK x.id).length
   ⟨0,H17,q,kn,iF _,rfl,rfl,Ri,QV,ug,G1.mono (λv e _ hh=>hh.resolve_right dJ),v21,λk hk b hb e=>by have:=(fr3 b hb).1;have:=GC.hp.lt hk;omega⟩ ?_
  rintro c' t' EW ⟨i,H2,q2,kn2,hi,rfl,rfl,st2,KZ,QU,G2,v22,sp2⟩ Y hY;dsimp only;have hq2len:q2.length<=G.m:=DZ (mG QU) KZ λy hy=>⟨(G2.qi y hy).1,(G2.qi y hy).2.1⟩;refine aJ (λcL=>?_) (λlK=>?_)
  ·have dF:i<(G.oK x.id).length:=aB
   have cU:=gU dF;have fP:=oE dF;have sD:(G.oK x.id).take (i+1)=(G.oK x.id).take i++[(G.oK x.id)[i]]:=FW dF;generalize (G.oK x.id)[i]=p at*;have hp0:=hpE p fP;have hpn:=hpN p fP;obtain⟨pa,hpa,hca⟩:=cQ (k:=.i) (e:=λx=>x) (v22.rd fM) cU;have hdl':=G2.dl;obtain⟨y,hy⟩:∃y,Vx[p.toNat]? =some y:=⟨_,gU (show p.toNat<Vx.length by have:=hp0.2;omega)⟩;obtain⟨pb,hpb,hcb⟩:=cQ (k:=.i) (e:=λx=>x) (st2.v1.rd fM) hy;rw[lJ];refine⟨⟨aB,cL⟩,aA hpa (aE (k:=.i) p hca ⟨⟨hp0.1,by have:=hp0.2;omega⟩,aA hpb (aE (k:=.i) y hcb ?_)⟩)⟩;have tko:∀v' (e':bQ),e'∈G.nx c v'->(v'≠x.id\/e'.f∈(G.oK x.id).take (i+1))->((v'≠x.id\/e'.f∈(G.oK x.id).take i)\/(v'=x.id/\e'=⟨p,x.id,G.wt x.id,-1⟩)):=λv' e' uM hh=>by
    by_cases hv:v'=x.id
    ·rcases hh with h1|h1
     ·exact absurd hv h1
     ·rw[sD] at h1
      rcases jS.1 h1 with h2|h2
      ·exact .inl (.inr h2)
      ·refine .inr ⟨hv,?_⟩
       have h3:e'.f=p:=by simpa using h2
       rw[hv] at uM;obtain⟨_,_,h4⟩:=G.JP.1 uM;rw[h4,h3]
    ·exact .inl (.inl hv)
   refine aJ (λQC=>?_) (λuN=>?_)
   ·have hy1:y=-1:=by
     rcases G2.Cp _ _ hy with h1|⟨h1,_⟩
     ·exact h1
     ·have hneg':y<0:=QC
      omega
    subst hy1;have hwr:aQ (x.key+G.wt x.id)=x.key+G.wt x.id:=gV (by simp only[BW] at*;omega) (by simp only[BW] at*;omega);refine weight_i (h.aO st2.kp) hxE λDj qy=>?_;have st23:=st2.aO qy;rw[hwr];have hg2':=st23.hg;rw[hg,<-hg2'];refine ZH st23.hp aB λQr H26 h26 g26 m26 f26=>?_;have st26:=st23.heap h26 g26 m26 f26;have G3:=(G2.push hnx KZ (v:=x.id.toNat) (d:=x.key) (e:=⟨p,x.id,G.wt x.id,-1⟩) hself fh (by rw[exi];exact hpn) hy);rw[exi] at G3;rw[qM i aB];refine hY _ _ _ aB ⟨i+1,H26,_,_,dF,rfl,rfl,st26,CH KZ _ _,CG QU _ _,G3.mono tko,(v22.aL qy λ_ _=>id).aL m26 λb hb hk=>sp2 _ hk b hb rfl,λk hk b hb e=>?_⟩;rcases f26 k hk with h1|h1
    ·exact sp2 k h1 b hb e
    ·have:=v22.lt hb;have:=qy.size;omega
   ·have Gp:0<=y:=by have:¬y<0:=uN;omega
    rw[qM i aB];exact hY _ _ _ aB ⟨i+1,H2,q2,kn2,dF,rfl,rfl,st2,KZ,QU,(G2.skip (v:=x.id) (e:=⟨p,x.id,G.wt x.id,-1⟩) hy Gp).mono tko,v22,sp2⟩
  ·have ei:i=(G.oK x.id).length:=aB
   subst ei;rw[pF] at G2;refine hX (G.m-met Vx) _ _ aB ⟨H2,q2,kn2,Vx,Ns,rfl,rfl,st2,KZ,QU,G2.mono λv e he _=>?_⟩
   by_cases hv:v=x.id
   ·rw[hv] at he
    exact .inr (G.WV.2 (G.JP.1 he).2.1)
   ·exact .inl hv
end
section
theorem xt{p:Int->Bool}{x:Int}:∀{l:List Int} {i:Nat},(∀y∈l.take i,p y=false)->l[i]? =some x->p x=true->l.find? p=some x
 | [],i,_,h,_=>by simp at h
 |y::l,0,_,h,hp=>by simp at h;subst h;rw[List.find?_cons,hp]
 |y::l,i+1,hn,h,hp=>by
  rw[List.find?_cons,hn y dJ];exact xt (i:=i) (λz hz=>hn z (by rw[List.take_succ_cons];exact VD _ hz)) (by simpa using h) hp
theorem aq(x:Int):MW x x=x:=by unfold MW;split<;>rfl
section
variable{t:Mg}{G:Gr}{sE dD:Sl}{ds:List Int}{c:List Bool}
theorem step_i{e:Int}{W:aH}{Q:Int->aH->Prop}(h:rY W t G)(hE:G.pP e)(hf:Rd W sE 1 eI ds)(hl:ds.length=G.m)(hc:Rd W dD 1 eB c)(hb:∀(v:Nat) x,ds[v]? =some x->-1<=x/\x<=102*BW)
  (hQ:∀w',aN W w'->Q (match G.Ax c ds e with|some n=>n|none=>-1) w'):AA (some ⟨t.t,0,none⟩) e sE dD W Q:=by
 unfold AA;have ok:=h.IU.ok;have hm:=ok.m1;have QN:=hf.len;have hcl:=hc.len;refine Next_i h λs1 w1 v1 k1 f1=>?_;have l1:=v1.len;have hnl:=G.NF e;have hnE:∀b∈G.kN e,G.pP b:=λb hb=>(G.iK.1 (G.CI.1 hb)).2.1;have gv:∀{x:Int},G.pP x->ds[x.toNat]? =some (wH ds x):=λ{x} hx=>by
  have:x.toNat<ds.length:=by have:=hx.2;omega
  unfold wH;rw[LZ,gU this];rfl
 refine bK (λc' s w2=>∃i:Nat,i<=(G.kN e).length/\c'=(G.kN e).length-i/\s=((i:Int),())/\aN w1 w2/\∀x∈(G.kN e).take i,G.JO c ds e x=false) (G.kN e).length ⟨0,iF _,rfl,rfl,aY.refl _ _,by simp⟩ ?_;rintro c' s w2 ⟨i,hi,rfl,rfl,k2,uX⟩ X hX;dsimp only;refine aJ (λcL=>?_) (λlK=>?_)
 ·have dF:i<(G.kN e).length:=aB
  have cU:=gU dF;have Wv:=hnE _ (oE dF);have sD:=FW dF;generalize (G.kN e)[i]=n at*;obtain⟨p,hp,hcp⟩:=cQ (k:=.i) (e:=λx=>x) ((v1.aL k2 λ_ _=>id).rd fM) cU;rw[lJ];have h2:=h.aO (k1.tr k2);refine⟨⟨aB,cL⟩,aA hp (aE (k:=.i) n hcp (aA rfl (aE (k:=.ptr) (some ⟨t.H.g,0,none⟩) h2.cells.1 ?_)))⟩;refine JU h2 Wv λa3 w5 hc5 k5 _=>?_;have Dp:=k2.tr k5;have KW5:=k1.tr Dp;have next:∀wz,aN w1 wz->G.JO c ds e n=false->X (aQ ((i:Int)+1),()) wz:=λwz kz hn=>by
   rw[qM i aB];refine hX _ _ _ aB ⟨i+1,dF,rfl,rfl,kz,λx hx=>?_⟩;rw[sD] at hx;rcases jS.1 hx with hx|hx
   ·exact uX x hx
   ·have:x=n:=by simpa using hx
    rw[this];exact hn
  intro J hJ;have sS:∀b,b=qR c n->J (b,()) w5:=by
   rintro b rfl;apply hJ;dsimp only;have d5:aN w5 w5.drew:=aY.drew (aY.refl _ w5);have kd:=Dp.tr d5;have hfd:=hf.aL (KW5.tr d5) dA λ_ _=>id;have hcd:=d5.cell hc5 id;obtain⟨pn,hpn,YO⟩:=cQ (k:=.i) (e:=λx=>x) hfd (gv Wv);obtain⟨pe,Wj,hce⟩:=cQ (k:=.i) (e:=λx=>x) hfd (gv hE);have bn:=hb _ _ (gv Wv);have be:=hb _ _ (gv hE);have hw:=ok.w1 Wv;have In:0<=n/\n<(sE.l:Int):=⟨Wv.1,by have:=Wv.2;omega⟩;have Ie:0<=e/\e<(sE.l:Int):=⟨hE.1,by have:=hE.2;omega⟩;refine aF (λhs=>?_) (λhs=>?_)
   ·have QL:qR c n=false:=by simpa using hs
    have okE:G.JO c ds e n=(decide (0<=wH ds n) && decide (wH ds n+G.wt n=wH ds e)):=by unfold Gr.JO;rw[QL];rfl
    refine aJ (λ_=>⟨In,aA hpn (aE (k:=.i) (wH ds n) YO ?_)⟩) (λh=>absurd In.2 h);refine aJ (λh0=>⟨In,aA hpn (aE (k:=.i) (wH ds n) YO ⟨Ie,aA Wj (aE (k:=.i) (wH ds e) hce ?_)⟩)⟩) (λh0=>next _ kd ?_)
    ·refine aJ (λFx=>⟨In,aA hpn (aE (k:=.i) (wH ds n) YO ⟨Ie,aA Wj (aE (k:=.i) (wH ds e) hce (aE (k:=.i) (G.wt n) hcd ?_))⟩)⟩) (λjs=>next _ kd ?_)
     ·rw[gV (n:=wH ds e-G.wt n) (by simp only[BW] at*;omega) (by simp only[BW] at*;omega)]
      refine aF (λheq=>?_) (λgH=>next _ kd ?_)
      ·have heq':wH ds n=wH ds e-G.wt n:=by simpa using heq
       have mL:G.JO c ds e n=true:=by rw[okE];simp only[tO,decide_eq_true_eq];exact⟨h0,aB⟩
       have:=hQ w5.drew (KW5.tr d5);rw[show G.Ax c ds e=some n from xt uX cU mL] at this;exact this
      ·have Fw:¬wH ds n=wH ds e-G.wt n:=by simpa using gH
       rw[okE];simp only[Bool.and_eq_false_iff,decide_eq_false_iff_not];exact .inr aB
     ·have hge2':¬wH ds n<wH ds e:=js
      rw[okE];simp only[Bool.and_eq_false_iff,decide_eq_false_iff_not];exact .inr aB
    ·have zi:¬wH ds n>=0:=h0
     rw[okE];simp only[Bool.and_eq_false_iff,decide_eq_false_iff_not];exact .inl aB
   ·have QL:qR c n=true:=by simpa using hs
    exact next _ kd (by unfold Gr.JO;rw[QL];rfl)
  have hc5':=hc.aL KW5 LB λ_ _=>id;refine aJ (λhlt3=>?_) (λhge3=>sS false (Hl aB).symm);obtain⟨pc,hpc,hcc⟩:=cQ (k:=.bool) (e:=λx=>x) hc5' (ZK Wv.1 aB);exact⟨⟨Wv.1,hlt3⟩,aA hpc (aE (k:=.bool) (qR c n) hcc (sS _ rfl))⟩
 ·have ei:i=(G.kN e).length:=aB
  subst ei;rw[pF] at uX;have:=hQ w2 (k1.tr k2);rw[show G.Ax c ds e=none from List.find?_eq_none.2 λx hx=>by rw[uX x hx];simp] at this;exact this
theorem yq{v e:Int}{W:aH}{Q:Sl->Bool->aH->Prop}(h:rY W t G)(hd:G.sE c v ds)(hf:Rd W sE 1 eI ds)(hc:Rd W dD 1 eB c)(hb:∀(v:Nat) x,ds[v]? =some x->-1<=x/\x<=102*BW)
  (uX:¬(G.pP e/\0<=wH ds e)->Q bD false W) (ji:∀l s w',G.pP e->0<=wH ds e->G.MG c ds e l->dP w' cZ 1 eI s l->aN W w'->(∀b,s.b=some b->W.heap.size<=b.block)->Q s true w'):
  qA (some ⟨t.t,0,none⟩) e sE dD W Q:=by
 unfold qA;have ok:=h.IU.ok;have hm:=ok.m1;have hl:=hd.1;have QN:=hf.len;rw[hl] at QN;refine aF (λh=>by simp at h) (λ_=>aJ (λh=>uX λh'=>aB) (λh0=>?_));refine aA rfl (aE (k:=.ptr) (some ⟨t.H.g,0,none⟩) h.cells.1 (tG h.IU ?_));rw[QN,aq];refine aJ (λh=>uX λh'=>aB) (λh1=>?_);have hE:G.pP e:=⟨aB,aB⟩;obtain⟨p,hp,hcp⟩:=cQ (k:=.i) (e:=λx=>x) hf (Tq hd hE);refine⟨⟨hE.1,hE.2⟩,aA hp (aE (k:=.i) (wH ds e) hcp (aJ (λQC=>uX λh'=>?_) (λuN=>?_)))⟩
 ·have:wH ds e<0:=QC
  omega
 have Gp:0<=wH ds e:=by have:¬wH ds e<0:=uN;omega
 obtain⟨tot,htot⟩:=ok.xj hd (wH ds e).toNat hE Gp aB;have htl:=htot.len ok;refine bK (λc' s w2=>∃(bN:Int) (l0 l:List Int) (o:Sl),c'=l.length/\s=(bN,o,())/\G.pP bN/\G.MG c ds bN l/\l0++l=tot/\aN W w2/\dP w2 cZ 1 eI o l0/\(∀b,o.b=some b->W.heap.size<=b.block)) tot.length
  ⟨e,[],tot,bD,rfl,rfl,hE,htot,rfl,aY.refl _ _,dP.nil _ _ _ _,λb hb=>by cases hb⟩ ?_
 rintro c' s w2 ⟨bN,l0,l,o,rfl,rfl,hcE,hlw,hcat,k2,v2,f2⟩ X hX;dsimp only;obtain⟨p2,Ln,hcp2⟩:=cQ (k:=.i) (e:=λx=>x) (hf.aL k2 dA λ_ _=>id) (Tq hd hcE);refine⟨⟨hcE.1,hcE.2⟩,aA Ln (aE (k:=.i) (wH ds bN) hcp2 ?_)⟩;cases hlw with
 |nil hz=>
  refine aJ (λh=>absurd (show wH ds bN>0 from h) aB) (λ_=>?_);rw[sG] at hcat;subst hcat;exact ji _ o w2 hE Gp htot v2 k2 f2
 | @cons _ n l hz BB hlw=>
  refine aJ (λ_=>?_) (λh=>absurd (show wH ds bN>0 from hz) h);refine step_i (h.aO k2) hcE (hf.aL k2 dA λ_ _=>id) hl (hc.aL k2 LB λ_ _=>id) hb λw3 k3=>?_;rw[BB];dsimp only;have hnE:=(G.iK.1 (G.OY BB).1).2.1;refine aJ (λh=>absurd hnE.1 (by have:n<0:=h;omega)) (λ_=>?_);refine bP λw4 o4 k4 z4=>?_;have k34:=k3.tr k4;have v4:=v2.aL k34 λ_ _=>id;have vx:dP w4 cZ 1 eI ⟨some ⟨w3.heap.size,0,none⟩,1,1⟩ [n]:=dP.new fM [n] o4 (by simp[maxLen]);have hl0:l0.length<=tot.length:=by rw[<-hcat];simp
  have hz3:=k34.size;have hz2:=k2.size;refine fO iN fM EZ v4 (vx.rd fM) (by simp;omega) (by simp;omega) λr w5 v5 m5 f5 _=>?_;refine hX l.length _ _ dJ ⟨n,l0++[n],l,r,rfl,rfl,hnE,hlw,by rw[<-hcat];simp,(k2.tr k34).fresh m5 λk ⟨b,hb,e⟩=>by rw[e];exact f2 b hb,v5,λb hb=>?_⟩;rcases f5 with h1|⟨a,ha,cL⟩
  ·exact f2 b (by rw[<-h1];exact hb)
  ·rw[hb] at ha;cases ha;omega
end
end
section
section
variable{HL:Mi}{n:Nat}{A L:List bQ}{R:List Int}{W:aH}
theorem nx_down{fs:List Int}(hA:rV n A):Sb n (vC n fs) (DU A R) (λe=>e.f):=by
 refine⟨λv h=>h.2,λv e he=>?_⟩;have hm:=hA.uV e (iB.1 (jG.1 he).1).1;exact⟨hm.1,hm.2.1,hm.2.2.2.2.2.1,hm.2.2.2.2.2.2.1⟩
theorem sdown_i{to:Sl}{ts:List Int}{Q:(Sl×Sl×Unit)->aH->Prop}(h:oM W HL n A R)(hn:n<=51)(hf:Rd W to 1 eI ts)(QN:ts.length<=1000)
  (hQ:∀s1 s2 ds bs w',Grown n (vC n ts) (DU A R) (λe=>e.f) ds bs->dP w' cZ 1 eI s1 ds->dP w' cZ 1 eI s2 bs->aN W w'->(∀b,s1.b=some b->W.heap.size<=b.block)->(∀b,s2.b=some b->W.heap.size<=b.block)->Q (s1,s2,()) w'):
  xQ (some ⟨HL.gl,0,none⟩) to W Q:=by
 unfold xQ;refine bP λw1 o1 k1 z1=>?_;refine grow_i (nx:=DU A R) (en:=λe=>e.f) (h.aO k1) hn (hf.aL k1 dA λ_ _=>id) QN (nx_down h.LS.ok) (λv=>?_) (λv w K hw hK=>?_) (λe w K hK=>?_) λs1 s2 ds bs w2 hG v1 v2 k2 f1 f2=>?_
 ·have:=h.LS.ok.FH v
  have:(DU A R v).length<=(nQ A v).length:=wD _ _;omega
 ·refine pI aBg iH (first:=#[.pointer (some ⟨HL.gl,0,none⟩)]) (cap:=#[]) (gJ (ks:=[.c .ptr,.i]) (t:=(some ⟨HL.gl,0,none⟩,v,())) ?_)
  show IC (some ⟨HL.gl,0,none⟩) v w λs w'=>K (.slice s.b s.l s.c) w';exact Down_i hw hK
 ·refine pI Ai iH (first:=#[]) (cap:=#[]) (gJ (ks:=[.agg [.i,.i,.i,.i]]) (t:=(nY e,())) ?_)
  show rT (nY e) w λx w'=>K (aD x) w';unfold rT;refine bP λw3 oa k3 _=>?_;exact aE (k:=.i) e.f (tE (x:=e) oa).1 (hK w3 k3)
 ·have z:=k1.size
  refine TP (a:=s1) (b:=s2) (o1.aL k2 id) rfl λw3 o3 m3 _=>?_;refine bJ (l:=[.slice,.slice]) (s1,s2,()) (iP o3) ?_;exact hQ s1 s2 ds bs w3 hG (v1.aL m3 λa ha e=>by have:=f1 a ha;have:a.block=W.heap.size:=e;omega) (v2.aL m3 λa ha e=>by have:=f2 a ha;have:a.block=W.heap.size:=e;omega)
   ((k1.tr k2).fresh m3 λk e=>by rw[show k=W.heap.size from e];exact iX _) (λb hb=>by have:=f1 b hb;omega) (λb hb=>by have:=f2 b hb;omega)
end
end
structure qQ where
 e:Nat
 t:Mg
 L:Mi
 ord:Sl
abbrev Gr.A(G:Gr):List bQ:=(cX G.m G.LS G.m).all
abbrev Gr.R(G:Gr):List Int:=(cX G.m G.LS G.m).iZ
structure zK(w:aH)(E:qQ)(G:Gr):Prop where
 head:cW w E.e Tf [.pointer (some ⟨E.t.t,0,none⟩),.pointer (some ⟨E.L.gl,0,none⟩),sv E.ord]
 RU:rY w E.t G
 lev:oM w E.L G.m (Gr.A G) (Gr.R G)
 ord:∃os:List Int,Rd w E.ord 1 eI os/\os.length=G.m/\∀i,i<G.m->∃v:Nat,v<G.m/\os[i]? =some (v:Int)/\cC (Gr.R G) (v:Int)=(G.m:Int)-1-i
 oty:Ty w E.ord
theorem zK.aO{w w':aH}{E:qQ}{G:Gr}(h:zK w E G)(k:aN w w'):zK w' E G:=by
 obtain⟨os,h1,h2⟩:=h.ord;exact⟨h.head.aL k id,h.RU.aO k,h.lev.aO k,⟨os,h1.aL k dA λ_ _=>id,h2⟩,h.oty.aO k⟩
theorem zK.cells{w:aH}{E:qQ}{G:Gr}(h:zK w E G):w.cell? ((⟨E.e,0,none⟩:Addr).add 0)=some (.pointer (some ⟨E.t.t,0,none⟩))/\w.cell? ((⟨E.e,0,none⟩:Addr).add 1)=some (.pointer (some ⟨E.L.gl,0,none⟩))/\w.cell? ((⟨E.e,0,none⟩:Addr).add 2)=some (sv E.ord):=BG h.head
theorem ENew_i{g:GT}{G:Gr}{W:aH}{Q:cO->Int->aH->Prop}(h:TA W g G)(ok:xJ G)(hQ:∀E w',zK w' E G->aN W w'->Q (some ⟨E.e,0,none⟩) 0 w'):AF g W Q:=by
 unfold AF;have hm:=ok.m1;refine bP λw1 o1 k1 z1=>?_;refine bJ (l:=[.slice,.slice,.slice]) g (KY (g:=g) o1) ?_;refine gNew_i (g:=g) (h.aO k1) ok λH w2 hH k2 _=>?_;refine aF (λh=>by simp at h) (λ_=>?_);refine TNew_i hH λt w3 ht htH k3=>?_;subst htH;refine aA rfl (aE (k:=.ptr) (some ⟨t.H.g,0,none⟩) ht.cells.1 (tG ht.IU ?_));refine Arcs_i ht λs1 w5 v5 k5 f5=>?_;have hal:=G.arcs_len hm.2;refine KN (p:=λx=>x.f==x.t) (C:=λ_=>True) v5 aB trivial (λ_ _ _ _=>trivial) (λx w K _ _ hK=>?_) λs2 w6 v6 m6 e6=>?_
 ·refine pI Dd iH (gJ (ks:=[.agg [.i,.i,.i,.i]]) (t:=(nY x,())) ?_)
  show tL _ _ _;unfold tL;refine bP λwa oa ka _=>?_;have oa':cW wa w.heap.size iT (eC x):=oa;exact aE (k:=.i) x.f (tE oa').1 (aE (k:=.i) x.t (tE oa').2.1 (hK wa ka))
 have hnet:(G.JJ.filter λx=>!(x.f==x.t))=G.LS:=rfl;rw[hnet] at v6;have k36:aN w3 w6:=k5.fresh m6 λk ⟨b,hb,e⟩=>by rw[e];exact f5 b hb
 have hnl:G.LS.length<=2601:=iG (wD _ _) hal;refine New_i (v6.rd kL) aB (λw7 k7 SK=>?_) λw7 N n0 n1 sQ hN k7 _=>?_
 ·exact absurd ⟨aB,aB,λa ha=>by rw[lJ];exact(ok.WD a ha).1⟩ SK
 rw[lJ,NS (p:=[]) (by simpa using ok.TJ),List.nil_append] at hN;have d7:aN w7 w7.drew:=aY.drew (aY.refl _ w7);have k37:=(k36.tr k7).tr d7;have ht7:=ht.aO k37;refine aA rfl (aE (k:=.ptr) (some ⟨t.H.g,0,none⟩) ht7.cells.1 ?_);have jj:∀e∈G.LS,e.w<=40:=λe he=>(ok.WD e he).2.1;refine Build_i (hN.aO d7) hm.2 jj λw8 HL hL k8 _=>?_;have hL':oM w8 HL G.m (Gr.A G) (Gr.R G):=hL;clear hL;have k38:=k37.tr k8;have ht8:=ht.aO k38;refine⟨ht8.cells.1,tG ht8.IU ?_⟩;refine BZ iN (aX:=eI) (0:Int) rfl fM aB (lM _) aB aB λeY v10 IS=>?_;simp only[lJ] at v10 ⊢;refine bP λeN o11 LF z11=>?_;have z10:w8.heap.size<eY.heap.size:=v10.lt rfl;generalize Fc:(⟨some ⟨w8.heap.size,0,none⟩,G.m,G.m⟩:Sl)=s3 at*;have s3b:s3.b=some ⟨w8.heap.size,0,none⟩:=by rw[<-Fc]
 have o11':cW eN eY.heap.size Tf [.pointer (some ⟨t.t,0,none⟩),.pointer (some ⟨HL.gl,0,none⟩),sv s3]:=by
  have:=o11;rw[<-Fc];exact this
 have k811:=IS.tr LF;have hL11:=hL'.aO k811;have ht11:=ht8.aO k811;have c11:=BG o11';refine aE (k:=.slice) s3 c11.2.2 ?_;have v11:=v10.aL LF λ_ _=>id;have qw:∀v:Int,0<=v->v<G.m->0<=cC (Gr.R G) v/\cC (Gr.R G) v<G.m:=λv h0 h1=>Hs ok.TJ jj hm.2 h0 h1;have rne:∀v w:Nat,v<G.m->w<G.m->v≠w->cC (Gr.R G) (v:Int)≠cC (Gr.R G) (w:Int):=λv w hv hw gH=>Eh ok.TJ jj hm.2 aB aB aB aB aB;have ronto:∀{r:Nat},r<G.m->∃v:Nat,v<G.m/\cC (Gr.R G) (v:Int)=(r:Int):=λhr=>aAJ ok.TJ jj hm.2 hr;have s3l:s3.l=G.m:=by rw[<-Fc]
 have KW8:=k1.tr (k2.tr (k3.tr k38));clear hnl hL11 ht11 c11;generalize hRR:Gr.R G=R at*;refine bK (λc s eQ=>∃(v:Nat) (os:List Int),v<=G.m/\c=G.m-v/\s=((v:Int),())/\aN w8 eQ/\cW eQ eY.heap.size Tf [.pointer (some ⟨t.t,0,none⟩),.pointer (some ⟨HL.gl,0,none⟩),sv s3]/\dP eQ cZ 1 eI s3 os/\os.length=G.m/\
   ∀u:Nat,u<v->os[((G.m:Int)-1-cC R (u:Int)).toNat]? =some (u:Int)) G.m ⟨0,_,iF _,rfl,rfl,k811,o11',v11,by simp,λu hu=>aB⟩ ?_
 rintro c s eQ ⟨v,os,hv,rfl,rfl,LO,Dm,YK,fW,hos⟩ X hX;dsimp only;refine aJ (λcL=>?_) (λlK=>?_)
 ·have jY:v<G.m:=aB
  have d12:aN eQ eQ.drew:=aY.drew (aY.refl _ eQ);have kd:=LO.tr d12;have od:=Dm.aL d12 id;obtain⟨c0,c1,c2⟩:=BG od;have htd:=ht8.aO kd;have hLd:=hL'.aO kd;refine aE (k:=.slice) s3 c2 (aA rfl (aE (k:=.ptr) (some ⟨t.H.g,0,none⟩) htd.cells.1 (aE (k:=.ptr) (some ⟨HL.gl,0,none⟩) c1 (tG htd.IU ⟨c1,c2,?_⟩))));refine Hi hLd ⟨c2,?_⟩;obtain⟨r0,r1⟩:=qw (v:Int) aB aB;have wi:aQ ((aQ ((G.m:Int)-(1:Int)))-cC R (v:Int))=(((G.m:Int)-1-cC R (v:Int)).toNat:Int):=by
   rw[gV (n:=(G.m:Int)-1) aB aB,gV aB aB];omega
  rw[wi,lJ];have hil:((G.m:Int)-1-cC R (v:Int)).toNat<G.m:=aB;refine⟨⟨aB,aB⟩,aA s3b ?_⟩;refine(YK.aL d12 λ_ _=>id).store fM s3b (i:=((G.m:Int)-1-cC R (v:Int)).toNat) aB (v:Int) (v:=aD (v:Int)) rfl cY (EZ _) λgQ v13 gk _=>?_;have m13':aY (λk=>k=w8.heap.size) eQ.drew gQ:=gk;rw[qM v aB];refine hX _ _ _ aB ⟨v+1,_,jY,rfl,rfl,kd.fresh m13' λk e=>by rw[show k=w8.heap.size from e];exact iX _,od.aL m13' λe=>by have e':eY.heap.size=w8.heap.size:=e;omega,v13,by rw[pR];exact fW,λu hu=>?_⟩;rw[wC]
  by_cases e:u=v
  ·subst e;rw[if_pos rfl,if_pos aB]
  ·have gH:=rne u v aB jY e
   obtain⟨q0,q1⟩:=qw (u:Int) aB aB;rw[if_neg aB];exact hos u aB
 ·have ev:v=G.m:=aB
  subst ev;subst hRR;refine hQ ⟨eY.heap.size,t,HL,s3⟩ eQ ⟨Dm,ht8.aO LO,hL'.aO LO,⟨os,YK.rd fM,fW,λi hi=>?_⟩,dP.Li YK ⟨by decide,by decide⟩⟩ (KW8.tr LO);obtain⟨u,hu,hr⟩:=ronto (r:=G.m-1-i) aB;have:=hos u hu;rw[hr,show((G.m:Int)-1-((G.m-1-i:Nat):Int)).toNat=i by omega] at this;exact⟨u,hu,this,by rw[hr];omega⟩
open Tryz (prog)
theorem far_i{E:qQ}{G:Gr}{node:Int}{W:aH}{Q:Sl->aH->Prop}(h:zK W E G)(hQ:∀s ds w',G.sE [] node ds->dP w' cZ 1 eI s ds->aN W w'->(∀b,s.b=some b->W.heap.size<=b.block)->(∀(v:Nat) x,ds[v]? =some x->-1<=x/\x<=102*BW)->Q s w'):
  XF (some ⟨E.e,0,none⟩) node W Q:=by
 unfold XF;have ok:=h.RU.IU.ok;have hm:=ok.m1;have jj:∀e∈G.LS,e.w<=40:=λe he=>(ok.WD e he).2.1;have qw:∀v:Int,0<=v->v<G.m->0<=cC (Gr.R G) v/\cC (Gr.R G) v<G.m:=λv h0 h1=>Hs ok.TJ jj hm.2 h0 h1;have rne:∀v w:Nat,v<G.m->w<G.m->v≠w->cC (Gr.R G) (v:Int)≠cC (Gr.R G) (w:Int):=λv w hv hw gH=>Eh ok.TJ jj hm.2 aB aB aB aB aB;have hA:=h.lev.LS.ok;have d:aN W W.drew:=aY.drew (aY.refl _ W);have hd:=h.aO d;refine aA rfl (aE (k:=.ptr) (some ⟨E.L.gl,0,none⟩) hd.cells.2.1 (aA rfl (aE (k:=.ptr) (some ⟨E.t.t,0,none⟩) hd.cells.1 (aA rfl (aE (k:=.ptr) (some ⟨E.t.H.g,0,none⟩) hd.RU.cells.1 ?_)))));refine gIn_i hd.RU.IU λs1 w1 v1 k1 f1=>?_;have K1:=d.tr k1;have h1:=h.aO K1;refine⟨h1.cells.2.1,?_⟩;unfold FN;refine sdown_i h1.lev hm.2 (v1.rd fM) (by have:=G.xm node;omega) λs2 sb ds bs w2 hG v2 _ k2 f2 _=>?_;have K2:=K1.tr k2;have h2:=h.aO K2;have hz:=K1.size;refine aA rfl (aE (k:=.slice) E.ord h2.cells.2.2 ?_);obtain⟨os,ho,hol,hos⟩:=h.ord;have hll:=ho.len;rw[hol] at hll;have F0:Mj G.m (Gr.A G) (Gr.R G) (GW (vC G.m (G.Vl node)) (DU (Gr.A G) (Gr.R G)) (λe=>e.f)) 0 ds:=Mj.start hG.sE (λv h0 h1=>(qw v h0 h1).2) hG.gI;generalize hDn:GW (vC G.m (G.Vl node)) (DU (Gr.A G) (Gr.R G)) (λe=>e.f)=Dn at F0;clear hG;have MB:∀b,s2.b=some b->W.heap.size<=b.block:=λb hb=>iG hz (f2 b hb);refine bK (λc s w3=>∃(i:Nat) (ds:List Int),i<=G.m/\c=G.m-i/\s=((i:Int),())/\aN W w3/\dP w3 cZ 1 eI s2 ds/\Mj G.m (Gr.A G) (Gr.R G) Dn i ds) G.m ⟨0,ds,iF _,rfl,rfl,K2,v2,F0⟩ ?_;clear F0 v2 ds h2;rintro c s w3 ⟨i,ds,hi,rfl,rfl,k3,v3,F⟩ X hX;dsimp only;refine aJ (λcL=>?_) (λlK=>?_)
 ·have dF:i<G.m:=aB
  obtain⟨v,hv,Ky,hrv⟩:=hos i dF;obtain⟨p,hp,hc⟩:=cQ (k:=.i) (e:=λx=>x) (ho.aL k3 dA λ_ _=>id) Ky;have h3:=h.aO k3;rw[lJ];refine⟨⟨aB,cL⟩,aA hp (aE (k:=.i) (v:Int) hc (aA rfl (aE (k:=.ptr) (some ⟨E.L.gl,0,none⟩) h3.cells.2.1 ?_)))⟩;refine Up_i h3.lev λs4 w4 v4 k4 f4=>?_;have l4:=v4.len;have hul:(upL (Gr.A G) (Gr.R G) (v:Int)).length<=262144:=iG (wD _ _) (iG (wD _ _) (hA.len aB));obtain⟨g2,Ap⟩:∃g2,s2.b=some ⟨g2,0,none⟩:=by
   rcases v3.gN with⟨_,hh⟩|⟨g,_,hb,_⟩
   ·have:=v3.cap;have:=v3.len;have:=F.len;omega
   ·exact⟨g,hb⟩
  have g2lt:g2<w3.heap.size:=v3.lt Ap;have f4':∀b,s4.b=some b->b.block≠g2:=λb hb=>by have:=f4 b hb;omega
  have g2low:W.heap.size<=g2:=MB _ Ap;have hupm:∀e∈upL (Gr.A G) (Gr.R G) (v:Int),FA G.m e/\cC (Gr.R G) (v:Int)<cC (Gr.R G) e.t:=λe he=>by
   unfold upL at he;rw[jG,eJ] at he;exact⟨hA.uV e he.1.1,by simpa using he.2⟩
  obtain⟨x0,hx0⟩:∃x0,ds[v]? =some x0:=⟨_,gU (by rw[F.len];exact hv)⟩;have hL0:iC (λd=>Dn (v:Int) d\/∃e∈(upL (Gr.A G) (Gr.R G) (v:Int)).take 0,∃d',UPD (Gr.A G) (Gr.R G) Dn e.t d'/\d=e.w+d') x0:=(F.dn v x0 hx0 aB).congr λk=>by simp
  have hb0:=F.gI v x0 hx0;have hset0:ds.set v x0=ds:=by
   apply BH;intro j;rw[wC]
   by_cases e:v=j
   ·subst e;rw[if_pos rfl,if_pos (by rw[F.len];exact hv),hx0]
   ·rw[if_neg e]
  generalize hU:upL (Gr.A G) (Gr.R G) (v:Int)=us at*;refine bK (λc s w5=>∃(j:Nat) (x:Int),j<=us.length/\c=us.length-j/\s=((j:Int),())/\aN W w5/\dP w5 cZ 1 eI s2 (ds.set v x)/\dP w5 iT 4 eC s4 us/\(-1<=x/\x<=(G.m+(i+1:Nat))*BW)/\
    iC (λd=>Dn (v:Int) d\/∃e∈us.take j,∃d',UPD (Gr.A G) (Gr.R G) Dn e.t d'/\d=e.w+d') x) us.length
   ⟨0,x0,iF _,rfl,rfl,k3.tr k4,by rw[hset0];exact v3.aL k4 λ_ _=>id,v4,⟨hb0.1,by simp only[BW] at*;omega⟩,hL0⟩ ?_
  rintro c s w5 ⟨j,x,hj,rfl,rfl,k5,v5,v4',hbx,hL⟩ Y hY;dsimp only;refine aJ (λFx=>?_) (λjs=>?_)
  ·have wG:j<us.length:=aB
   have cU:=gU wG;obtain⟨sQ,hrk⟩:=hupm _ (oE wG);have sD:=FW wG;generalize us[j]=e at*;obtain⟨pa,hpa,hh⟩:=wR (v4'.rd kL) cU;rw[lJ];refine⟨⟨aB,Fx⟩,aA hpa (bJ (nY e) hh ?_)⟩;refine HH (x:=e) λw7 k7 o7 _=>?_;refine aE (k:=.i) e.t (tE o7).2.1 ?_;have k57:=k5.tr k7;have v7:=v5.aL k7 λ_ _=>id;have hvt:v≠e.t.toNat:=λh=>by
    have:e.t=(v:Int):=by have:=sQ.2.2.1;omega
    rw[this] at hrk;omega
   obtain⟨y,hy⟩:∃y,ds[e.t.toNat]? =some y:=⟨_,gU (by rw[F.len];have:=sQ.2.2.1;have:=sQ.2.2.2.1;omega)⟩;have hyt:(e.t.toNat:Int)=e.t:=Int.toNat_of_nonneg sQ.2.2.1;have hLy:=F.up e.t.toNat y hy (by rw[hyt];omega);rw[hyt] at hLy;have hby:=F.gI _ y hy;have hys:(ds.set v x)[e.t.toNat]? =some y:=by rw[wC,if_neg hvt];exact hy
   have Fb:(ds.set v x)[v]? =some x:=by rw[wC,if_pos rfl,if_pos (by rw[F.len];exact hv)]
   obtain⟨p1,hp1,Vu⟩:=cQ (k:=.i) (e:=λx=>x) (v7.rd fM) hys;have l7:=v7.len;rw[pR,F.len] at l7;have Vn:=sQ.2.2.2.2.2.1;have hw2:=sQ.2.2.2.2.2.2.1;have MB:=hL.lower hLy (w:=e.w) aB;have hcon:∀z,iC (λd=>(Dn (v:Int) d\/∃e∈us.take j,∃d',UPD (Gr.A G) (Gr.R G) Dn e.t d'/\d=e.w+d')\/∃d',UPD (Gr.A G) (Gr.R G) Dn e.t d'/\d=e.w+d') z->iC (λd=>Dn (v:Int) d\/∃e∈us.take (j+1),∃d',UPD (Gr.A G) (Gr.R G) Dn e.t d'/\d=e.w+d') z:=λz hz=>hz.congr λk=>by
    rw[sD]
    constructor
    ·rintro((h1|⟨e',uM,h1⟩)|h1)
     ·exact .inl h1
     ·exact .inr ⟨e',jS.2 (.inl uM),h1⟩
     ·exact .inr ⟨e,by simp,h1⟩
    ·rintro(h1|⟨e',uM,h1⟩)
     ·exact .inl (.inl h1)
     ·rcases jS.1 uM with uM|uM
      ·exact .inl (.inr ⟨e',uM,h1⟩)
      ·have:e'=e:=by simpa using uM
       rw[this] at h1;exact .inr h1
   have It:0<=e.t/\e.t<(s2.l:Int):=⟨sQ.2.2.1,by rw[l7];exact sQ.2.2.2.1⟩;have Iv:0<=(v:Int)/\(v:Int)<(s2.l:Int):=⟨aB,by rw[l7];omega⟩;have o7':=tE o7;refine⟨It,aA hp1 (aE (k:=.i) y Vu ?_)⟩;have same:∀wz,aN w7 wz->¬(0<=y/\(x<0\/y+e.w<x))->Y (aQ ((j:Int)+1),()) wz:=λwz kz hn=>by
    rw[if_neg hn] at MB;rw[qM j aB];exact hY _ _ _ aB ⟨j+1,x,wG,rfl,rfl,k57.tr kz,v7.aL kz λ_ _=>id,(v4'.aL k7 λ_ _=>id).aL kz λ_ _=>id,hbx,hcon _ MB⟩
   have d7:aN w7 w7.drew:=aY.drew (aY.refl _ w7);have LJ:y+e.w<=(G.m+(i+1:Nat))*BW:=by simp only[BW] at*;omega
   have wsm:0<=y->aQ (y+e.w)=y+e.w:=λh0=>gV aB (by simp only[BW] at*;omega);have put:0<=y->(x<0\/y+e.w<x)->aI prog cZ ((⟨g2,0,none⟩:Addr).add (v*1)) (aD (y+e.w)) w7.drew λw8=>Y (aQ ((j:Int)+1),()) w8:=λh0 hlt3=>by
    rw[if_pos ⟨h0,hlt3⟩] at MB;refine(v7.aL d7 λ_ _=>id).store fM Ap (i:=v) (by rw[pR,F.len];exact hv) (y+e.w) (v:=aD (y+e.w)) rfl cY (EZ _) λw8 v8 m8 _=>?_;have m8':aY (λk=>k=g2) w7.drew w8:=m8;rw[List.set_set] at v8;rw[qM j aB];refine hY _ _ _ aB ⟨j+1,y+e.w,wG,rfl,rfl,(k57.tr d7).fresh m8' λk e=>by rw[show k=g2 from e];exact g2low,v8,((v4'.aL k7 λ_ _=>id).aL d7 λ_ _=>id).aL m8' λb hb e=>f4' b hb e,⟨aB,LJ⟩,hcon _ MB⟩
   refine aJ (λh0=>?_) (λh0=>same _ d7 λhh=>h0 hh.1);have zi:0<=y:=h0;obtain⟨p2,Ln,PX⟩:=cQ (k:=.i) (e:=λx=>x) ((v7.aL d7 λ_ _=>id).rd fM) Fb;have ow:∀{q:Addr},w7.cell? q=some (aD e.w)->w7.drew.cell? q=some (aD e.w):=λhq=>d7.cell hq id;rw[lJ];refine⟨Iv,aA Ln (aE (k:=.i) x PX ?_)⟩;refine aJ (λQC=>?_) (λhnn=>?_)
   ·refine aE (k:=.i) e.w (ow o7'.2.2.1) ?_
    rw[wsm zi];exact⟨Iv,aA Ap (put zi (.inl QC))⟩
   ·refine aE (k:=.i) e.w (ow o7'.2.2.1) ⟨Iv,aA Ln (aE (k:=.i) x PX ?_)⟩
    rw[wsm zi];refine aJ (λhlt4=>?_) (λhge4=>same _ d7 λhh=>hh.2.elim hnn hge4);refine aE (k:=.i) e.w (ow o7'.2.2.1) ?_;rw[wsm zi];exact⟨Iv,aA Ap (put zi (.inr hlt4))⟩
  ·have ej:j=us.length:=aB
   subst ej;rw[pF] at hL;rw[qM i aB];refine hX _ _ _ aB ⟨i+1,_,dF,rfl,rfl,k5,v5,F.step rne hv hrv (hL.congr λk=>by rw[<-hU];exact upd_iff.symm) hbx⟩
 ·have ei:i=G.m:=aB
  subst ei;have hf:=F.done λv h0 h1=>(qw v h0 h1).1;rw[<-hDn] at hf;exact hQ s2 ds w3 (ok.oh hf) v3 k3 MB λv x hx=>by have:=F.gI v x hx;simp only[BW] at*;omega
theorem IndexI_i{s:Sl}{xs:List Int}{f:Value}{p:Int->Bool}{w:aH}{Q:Int->aH->Prop}{C:aH->Prop}(hs:Rd w s 1 eI xs)(hl:xs.length<1000000)(hC:C w)(ft:∀w1 w2,C w1->aN w1 w2->C w2)
  (hf:∀x w1 (K:WQ Value),C w1->x∈xs->(∀w2,aN w1 w2->K (.bool (p x)) w2)->lQ prog f [aD x] w1 K)
  (hQ:∀i w',aN w w'->(0<=i↔∃x∈xs,p x=true)->Q i w'):iQ s f w Q:=by
 unfold iQ;have sl:=hs.len;refine bK (λc t w1=>∃(i:Nat),i<=xs.length/\c=xs.length-i/\t=((i:Int),())/\aN w w1/\∀x∈xs.take i,p x=false) xs.length ⟨0,iF _,rfl,rfl,aY.refl _ _,by simp⟩ ?_;rintro c t w1 ⟨i,hi,rfl,rfl,k1,hn⟩ X hX;dsimp only;refine aJ (λcL=>?_) (λlK=>?_)
 ·have dF:i<xs.length:=aB
  have cU:=gU dF;have fP:=oE dF;have sD:=FW dF;generalize xs[i]=x at*;obtain⟨q,hq,hc⟩:=cQ (k:=.i) (e:=λx=>x) (hs.aL k1 dA λ_ _=>id) cU;rw[lJ];refine⟨⟨aB,cL⟩,aA hq (aE (k:=.i) x hc ?_)⟩;refine hf x w1 _ (ft _ _ hC k1) fP λw2 k2=>⟨p x,rfl,?_⟩;refine aF (λhp=>hQ _ w2 (k1.tr k2) ⟨λ_=>⟨x,fP,hp⟩,λ_=>aB⟩) (λhp=>?_);rw[qM i aB];refine hX _ _ _ aB ⟨i+1,dF,rfl,rfl,k1.tr k2,λy hy=>?_⟩;rw[sD] at hy;rcases jS.1 hy with hy|hy
  ·exact hn y hy
  ·have:y=x:=by simpa using hy
   rw[this];exact hp
 ·have ei:i=xs.length:=aB
  subst ei;rw[pF] at hn;exact hQ (-1) w1 k1 ⟨λh=>aB,λ⟨x,hx,hp⟩=>by rw[hn x hx] at hp;cases hp⟩
theorem OD{s:Sl}{xs:List Int}{f:Value}{p:Int->Bool}{w:aH}{Q:Bool->aH->Prop}{C:aH->Prop}(hs:Rd w s 1 eI xs)(hl:xs.length<1000000)(hC:C w)(ft:∀w1 w2,C w1->aN w1 w2->C w2)
  (hf:∀x w1 (K:WQ Value),C w1->x∈xs->(∀w2,aN w1 w2->K (.bool (p x)) w2)->lQ prog f [aD x] w1 K)
  (hQ:∀b w',aN w w'->(b=true↔∃x∈xs,p x=true)->Q b w'):dR s f w Q:=by
 unfold dR;exact IndexI_i hs hl hC ft hf λi w' k hi=>hQ _ w' k (by rw[<-hi];simp)
abbrev AT:=Sl×Int×Bool×Bool×Unit
abbrev VM(a:AT):List Value:=[sv a.1,aD a.2.1,.bool a.2.2.1,.bool a.2.2.2.1]
theorem kv(a:AT):∀u∈VM a,u.oneCell'=true:=by intro u hu;simp at hu;rcases hu with rfl|rfl|rfl|rfl<;>rfl
theorem wv{w:aH}{b:Nat}{e:TypeId}{a:AT}(h:cW w b e (VM a)):bW w ⟨b,0,none⟩ 0 (qP [.slice,.i,.bool,.bool] a):=iP h
theorem Ls{w:aH}{g:Nat}{e:TypeId}{x y z u:Value}(h:cW w g e [x,y,z,u]):w.cell? ((⟨g,0,none⟩:Addr).add 0)=some x/\w.cell? ((⟨g,0,none⟩:Addr).add 1)=some y/\w.cell? ((⟨g,0,none⟩:Addr).add 2)=some z/\w.cell? ((⟨g,0,none⟩:Addr).add 3)=some u:=by
 refine⟨?_,?_,?_,?_⟩<;>rw[aS,h.cell]<;>rfl
theorem ansEnd{T:TypeId}{w:aH}{b:Nat}{a:AT}{Q:AT->aH->Prop}(hT:(prog.info? T).map (·.size)=some 4)(h:cW w b T (VM a))(hQ:∀w',cW w' b T (VM a)->aY (λk=>k=b) w w'->Q a w'):
  fL [.slice,.i,.bool,.bool] w ⟨b,0,none⟩ λ(t1:AT)=>aI prog T ⟨b,0,none⟩ (Value.agg #[(Value.slice t1.1.b t1.1.l t1.1.c),(aD t1.2.1),(Value.bool t1.2.2.1),(Value.bool t1.2.2.2.1)]) w λw3=>
   fL [.slice,.i,.bool,.bool] w3 ⟨b,0,none⟩ λ(t2:AT)=>Q (t2.1,t2.2.1,t2.2.2.1,t2.2.2.2.1,()) w3:=by
 refine bJ (l:=[.slice,.i,.bool,.bool]) a (wv h) ?_;refine fD (vs:=VM a) h hT rfl (kv a) λw3 o3 m3 _=>?_;exact bJ (l:=[.slice,.i,.bool,.bool]) a (wv o3) (hQ w3 o3 m3)
theorem Way_i{E:qQ}{G:Gr}{at_ node:Int}{dD:Sl}{c:List Bool}{W:aH}{Q:AT->aH->Prop}(h:zK W E G)(hc:Rd W dD 1 eB c)
  (hQ:∀s wt f r l w',G.MR node at_ c l wt f r->dP w' cZ 1 eI s l->(∀x∈l,G.pP x)->l.length<=51->aN W w'->(∀b,s.b=some b->W.heap.size<=b.block)->Q (s,wt,f,r,()) w'):NM (some ⟨E.e,0,none⟩) at_ node dD W Q:=by
 unfold NM;have ok:=h.RU.IU.ok;have hm:=ok.m1;refine bP λw1 o1 k1 z1=>bP λw2 o2 k2 z2=>?_;have K2:=k1.tr k2;have o2':cW w2 w1.heap.size Rh (VM (bD,0,false,false,())):=o2;have dW:∀w3,aN w2 w3->¬G.UL node->fL [.slice,.i,.bool,.bool] w3 ⟨w1.heap.size,0,none⟩ λ(t1:AT)=>aI prog Rh ⟨w1.heap.size,0,none⟩ (Value.agg #[(Value.slice t1.1.b t1.1.l t1.1.c),(aD t1.2.1),(Value.bool t1.2.2.1),(Value.bool t1.2.2.2.1)]) w3 λw4=>
   fL [.slice,.i,.bool,.bool] w4 ⟨w1.heap.size,0,none⟩ λ(t2:AT)=>Q (t2.1,t2.2.1,t2.2.2.1,t2.2.2.2.1,()) w4:=λw3 k3 hn=>by
  refine ansEnd WO (o2'.aL k3 id) λw4 _ m4=>hQ _ _ _ _ [] w4 (.no λd hv=>absurd hv hn) (dP.nil _ _ _ _) dJ dJ ((K2.tr k3).fresh m4 λk e=>by rw[show k=w1.heap.size from e];omega) λb hb=>by cases hb
 refine aF (λh=>by simp at h) (λ_=>aJ (λhn=>dW w2 (aY.refl _ _) λhv=>aB) (λhn0=>?_));have h2:=h.aO K2;refine aA rfl (aE (k:=.ptr) (some ⟨E.t.t,0,none⟩) h2.cells.1 (aA rfl (aE (k:=.ptr) (some ⟨E.t.H.g,0,none⟩) h2.RU.cells.1 (OX h2.RU.IU ?_))));refine aJ (λhn=>dW w2 (aY.refl _ _) λhv=>aB) (λhn1=>?_);have hN:G.UL node:=⟨aB,aB⟩;have d2:aN w2 w2.drew:=aY.drew (aY.refl _ w2);have hd2:=h2.aO d2;refine aA rfl (aE (k:=.ptr) (some ⟨E.t.t,0,none⟩) hd2.cells.1 ?_);refine far_i hd2 λs1 d0 w7 hd0 v7 k7 f7 b7=>?_;have k27:=d2.tr k7;have h7:=h2.aO k27;refine⟨h7.cells.1,?_⟩;have hb7:∀(v:Nat) x,d0[v]? =some x->-1<=x/\x<=102*BW:=b7;have cR:∀w8 s2 b1 l0,dP w8 cZ 1 eI s2 l0->(∀b,s2.b=some b->w7.heap.size<=b.block)->aN w7 w8->((b1=false/\l0=[]/\∀d,¬G.gw [] node at_ d)\/(b1=true/\G.pP at_/\G.MG [] d0 at_ l0))->
   (aI prog BP ((⟨w1.heap.size,0,none⟩:Addr).add 0) (Value.slice s2.b s2.l s2.c) w8 λw9=>aI prog yB ((⟨w1.heap.size,0,none⟩:Addr).add 2) (Value.bool b1) w9 λeY=>
    ∀J1:(Unit)->aH->Prop,(∀(t7:Unit) (eN:aH),(aC (some ⟨E.e,0,none⟩) λa6=>xY .ptr eN.drew (a6.add 0) λ(p4:cO)=>xY .slice eN.drew ((⟨w1.heap.size,0,none⟩:Addr).add 0) λ(s3:Sl)=>pY p4 s3 eN.drew λ(x2:Int) (_:Bool) eQ=>
     aI prog cZ ((⟨w1.heap.size,0,none⟩:Addr).add 1) (aD x2) eQ λgQ=>fL [.slice,.i,.bool,.bool] gQ ⟨w1.heap.size,0,none⟩ λ(t8:AT)=>aI prog Rh ⟨w1.heap.size,0,none⟩ (Value.agg #[(Value.slice t8.1.b t8.1.l t8.1.c),(aD t8.2.1),(Value.bool t8.2.2.1),(Value.bool t8.2.2.2.1)]) gQ λmQ=>
     fL [.slice,.i,.bool,.bool] mQ ⟨w1.heap.size,0,none⟩ λ(t9:AT)=>Q (t9.1,t9.2.1,t9.2.2.1,t9.2.2.2.1,()) mQ)->J1 t7 eN)->
    xY .slice eY ((⟨w1.heap.size,0,none⟩:Addr).add 0) λ(s4:Sl)=>dR s4 (Value.func (.func Uk) #[] #[(Value.pointer (some ⟨W.heap.size,0,none⟩))]) eY λ(b3:Bool) fV=>
    cond b3 (aC (some ⟨E.e,0,none⟩) λa7=>xY .ptr fV.drew (a7.add 0) λ(p5:cO)=>aC (some ⟨E.e,0,none⟩) λa8=>xY .ptr fV.drew (a8.add 0) λ(p6:cO)=>xY .slice fV.drew ⟨W.heap.size,0,none⟩ λ(s5:Sl)=>xY .slice fV.drew ⟨W.heap.size,0,none⟩ λ(s6:Sl)=>
     IF p6 node s5 fV.drew λ(s7:Sl) gX=>gX.cell? ⟨W.heap.size,0,none⟩=some (Value.slice s6.b s6.l s6.c)/\gX.cell? (a7.add 0)=some (Value.pointer p5)/\qA p5 at_ s7 s6 gX λ(s8:Sl) (b4:Bool) lP=>
     aI prog BP ((⟨w1.heap.size,0,none⟩:Addr).add 0) (Value.slice s8.b s8.l s8.c) lP λnJ=>aI prog yB ((⟨w1.heap.size,0,none⟩:Addr).add 2) (Value.bool b4) nJ λqD=>xY .bool qD ((⟨w1.heap.size,0,none⟩:Addr).add 2) λ(b5:Bool)=>
     aI prog yB ((⟨w1.heap.size,0,none⟩:Addr).add 3) (Value.bool b5) qD λxX=>J1 (()) xX) (J1 (()) fV)):=by
  intro w8 s2 b1 l0 v8 f8 k8 MO;have lit:∀k,((⟨w1.heap.size,0,none⟩:Addr).add k)=⟨w1.heap.size,k,none⟩:=λk=>by rw[aS,pU]
  have z27:=k27.size;have o8:=(o2'.aL k27 id).aL k8 id;have K8:=K2.tr (k27.tr k8);rw[lit 0,lit 1,lit 2,lit 3];refine cI (o:=0) (v:=sv s2) o8 oQ dJ rfl rfl λw9 o9 m9 z9=>?_;refine cI (o:=2) (v:=.bool b1) o9 iL dJ rfl rfl λeY Ci YN z10=>?_;have o10':cW eY w1.heap.size Rh (VM (s2,0,b1,false,())):=Ci;have up:∀{wx wy:aH},aN W wx->aY (λk=>k=w1.heap.size) wx wy->aN W wy:=λkx m=>kx.fresh m λk e=>by rw[show k=w1.heap.size from e];omega
  have Ny:=up (up K8 m9) YN;have nb:∀b,s2.b=some b->b.block≠w1.heap.size:=λb hb=>by have:=f8 b hb;omega
  have v10:=(v8.aL m9 λb hb e=>nb b hb e).aL YN λb hb e=>nb b hb e;have oc:∀{wx:aH},aN w1 wx->wx.cell? ⟨W.heap.size,0,none⟩=some (sv dD):=λkx=>by
   have:=(o1.aL kx id);rw[this.cell];rfl
  have k1up:∀{wx wy:aH},aN w1 wx->aY (λk=>k=w1.heap.size) wx wy->aN w1 wy:=λkx m=>kx.fresh m λk e=>by rw[show k=w1.heap.size from e];exact iX _
  have k1_10:=k1up (k1up (k2.tr (k27.tr k8)) m9) YN;intro J hJ;have sS:∀eN s l f r,cW eN w1.heap.size Rh (VM (s,0,f,r,()))->dP eN cZ 1 eI s l->(∀x∈l,G.pP x)->l.length<=51->G.MR node at_ c l (G.oY l) f r->aN W eN->(∀b,s.b=some b->W.heap.size<=b.block/\b.block≠w1.heap.size)->J () eN:=by
   intro eN s l f r o11 v11 hE hl hA K11 hf;apply hJ;have d11:aN eN eN.drew:=aY.drew (aY.refl _ eN);have Ld:=h.aO (K11.tr d11);have od:=o11.aL d11 id;refine aA rfl (aE (k:=.ptr) (some ⟨E.t.t,0,none⟩) Ld.cells.1 ?_);have c0:=(Ls od).1;rw[lit 0] at c0;refine aE (k:=.slice) s c0 ?_;refine Zj Ld.RU ((v11.aL d11 λ_ _=>id).rd fM) aB hE λeQ LO=>?_;refine cI (o:=1) (v:=aD (G.oY l)) (od.aL LO id) cY dJ rfl rfl λgQ o13 gk z13=>?_;have o13':cW gQ w1.heap.size Rh (VM (s,G.oY l,f,r,())):=o13;refine ansEnd WO o13' λmQ _ YM=>?_;have v14:=(((v11.aL d11 λ_ _=>id).aL LO λ_ _=>id).aL gk λb hb e=>(hf b hb).2 e).aL YM λb hb e=>(hf b hb).2 e;exact hQ s _ f r l mQ hA v14 hE hl (up (up ((K11.tr d11).tr LO) gk) YM) λb hb=>(hf b hb).1
  have fW:l0.length<=51/\∀x∈l0,G.pP x:=by
   rcases MO with⟨_,rfl,_⟩|⟨_,_,hl⟩
   ·exact⟨by simp,by simp⟩
   ·have:=hl.len ok
    exact⟨aB,λx hx=>((hl.QY ok).2.2.1 x hx).1⟩
  have c0:=(Ls o10').1;rw[lit 0] at c0;refine aE (k:=.slice) s2 c0 ?_;refine OD (p:=qR c) (C:=λwx=>aN eY wx) (v10.rd fM) aB (aY.refl _ _) (λ_ _ a b=>a.tr b) (λx wx K hCx hx hK=>?_) λb3 fV Dp Nq=>?_
  ·refine pI cu iH (gJ (ks:=[.i,.c .ptr]) (t:=(x,some ⟨W.heap.size,0,none⟩,())) ?_)
   show ES _ _ _ _;unfold ES;have hxE:=fW.2 x hx;have hcx:=hc.aL (Ny.tr hCx) LB λ_ _=>id;have hcl:=hcx.len;have occ:=oc (k1_10.tr hCx);refine aA rfl (aE (k:=.slice) dD occ (aJ (λcL=>aA rfl (aE (k:=.slice) dD occ ?_)) (λlK=>?_)))
   ·obtain⟨p,hp,hcp⟩:=cQ (k:=.bool) (e:=λx=>x) hcx (ZK hxE.1 aB)
    exact⟨⟨hxE.1,cL⟩,aA hp (aE (k:=.bool) (qR c x) hcp (hK wx (aY.refl _ _)))⟩
   ·have:=hK wx (aY.refl _ _)
    rw[Hl aB] at this;exact this
  have K15:=Ny.tr Dp;refine aF (λhb=>?_) (λhb=>?_)
  ·obtain⟨xs,hxs,hsx⟩:=Nq.1 hb
   obtain⟨hE,hl0⟩:G.pP at_/\G.MG [] d0 at_ l0:=by
    rcases MO with⟨_,rfl,_⟩|⟨_,hh⟩
    ·cases hxs
    ·exact hh
   have d15:aN fV fV.drew:=aY.drew (aY.refl _ fV);have h15:=h.aO (K15.tr d15);have occ:=oc ((k1_10.tr Dp).tr d15);refine aA rfl (aE (k:=.ptr) (some ⟨E.t.t,0,none⟩) h15.cells.1 (aA rfl (aE (k:=.ptr) (some ⟨E.t.t,0,none⟩) h15.cells.1 (aE (k:=.slice) dD occ (aE (k:=.slice) dD occ ?_)))));refine To_i h15.RU hN (hc.aL (K15.tr d15) LB λ_ _=>id) λs7 d1 gX hd1 v16 Nn f16 b16=>?_;have K16:=(K15.tr d15).tr Nn;have h16:=h.aO K16;have k1_16:=((k1_10.tr Dp).tr d15).tr Nn;have o16:=((o10'.aL Dp id).aL d15 id).aL Nn id;have z16:=k1_16.size;refine⟨oc k1_16,h16.cells.1,?_⟩;have tail:∀lP s8 b4 l1,dP lP cZ 1 eI s8 l1->(∀b,s8.b=some b->gX.heap.size<=b.block)->aN gX lP->(∀x∈l1,G.pP x)->l1.length<=51->G.MR node at_ c l1 (G.oY l1) b4 b4->
     aI prog BP ⟨w1.heap.size,0,none⟩ (Value.slice s8.b s8.l s8.c) lP λnJ=>aI prog yB ⟨w1.heap.size,2,none⟩ (Value.bool b4) nJ λqD=>xY .bool qD ⟨w1.heap.size,2,none⟩ λ(b5:Bool)=>aI prog yB ⟨w1.heap.size,3,none⟩ (Value.bool b5) qD λxX=>J (()) xX:=by
    intro lP s8 b4 l1 v17 f17 Kw hE1 Vs hA;have nb8:∀b,s8.b=some b->b.block≠w1.heap.size:=λb hb=>by have:=f17 b hb;have:=o16.lt;omega
    refine cI (o:=0) (v:=sv s8) (o16.aL Kw id) oQ dJ rfl rfl λnJ o18 m18 _=>?_;refine cI (o:=2) (v:=.bool b4) o18 iL dJ rfl rfl λqD o19 m19 _=>?_;have o19':cW qD w1.heap.size Rh (VM (s8,0,b4,false,())):=o19;have c2:=(Ls o19').2.2.1;rw[lit 2] at c2;refine aE (k:=.bool) b4 c2 ?_;refine cI (o:=3) (v:=.bool b4) o19' iL dJ rfl rfl λxX o20 m20 _=>?_;refine sS xX s8 l1 b4 b4 o20 (((v17.aL m18 λb hb e=>nb8 b hb e).aL m19 λb hb e=>nb8 b hb e).aL m20 λb hb e=>nb8 b hb e) hE1 Vs hA (up (up (up (K16.tr Kw) m18) m19) m20) λb hb=>⟨?_,nb8 b hb⟩;have:=f17 b hb;have:=K16.size;omega
   refine yq h16.RU hd1 (v16.rd fM) (hc.aL K16 LB λ_ _=>id) (λv x hx=>by have:=b16 v x hx;simp only[BW] at*;omega) (λuX=>?_) λl1 s8 lP _ h0 Vs v17 Kw f17=>?_
   ·refine tail gX _ false [] (dP.nil _ _ _ _) (λb hb=>by cases hb) (aY.refl _ _) dJ dJ (.no λd _ hg=>uX ⟨hE,(ok.Ss hd1 hg).1⟩)
   ·have:=Vs.len ok
    exact tail lP s8 true l1 v17 f17 Kw (λx hx=>((Vs.QY ok).2.2.1 x hx).1) aB (.sE hN hE hd0 hd1 hl0 ⟨xs,hxs,hsx⟩ Vs)
  ·have uX:∀x∈l0,qR c x=false:=λx hx=>by
    cases hs:qR c x with
    |false=>rfl
    |true=>have:=Nq.2 ⟨x,hx,hs⟩;rw[hb] at this;cases this
   refine sS fV s2 l0 b1 false (o10'.aL Dp id) (v10.aL Dp λ_ _=>id) fW.2 fW.1 ?_ K15 λb hb=>⟨by have:=f8 b hb;have:=K2.size;omega,nb b hb⟩;rcases MO with⟨rfl,rfl,hng⟩|⟨rfl,hE,hl0⟩
   ·exact .no λd _ hg=>hng d (G.gw_open hg)
   ·exact .near hN hE hd0 hl0 uX
 refine yq (c:=[]) h7.RU hd0 (v7.rd fM) (Rd.nil _ _ _) (λv x hx=>?_) (λuX=>?_) λl s2 w8 hE h0 hl v8 k8 f8=>?_
 ·exact hb7 v x hx
 ·refine cR w7 bD false [] (dP.nil _ _ _ _) (λb hb=>by cases hb) (aY.refl _ _) (.inl ⟨rfl,rfl,λd hg=>uX ⟨(ok.lu hg).1,(ok.Ss hd0 hg).1⟩⟩)
 ·exact cR w8 s2 true l v8 f8 k8 (.inr ⟨rfl,hE,hl⟩)
section
abbrev eSe(e:Nat)(p:FZ)(sl:Sl):List Value:=[.pointer (some ⟨e,0,none⟩),aD p.pos,aD p.node,sv sl,.bool p.dK,.bool p.gE]
structure jE(F:Nat->Prop)(W0 w:aH)(s:Nat)(E:qQ)(G:Gr)(p:FZ):Prop where
 zj:zK W0 E G
 k0:aN W0 w
 lo:W0.heap.size<=s
 gN:∃sl,cW w s Xi (eSe E.e p sl)/\Rd w sl 1 eI p.lL/\∀b,sl.b=some b->¬F b.block/\b.block<w.heap.size
 fs:F s
section
variable{F F':Nat->Prop}{W0 w w':aH}{s:Nat}{E:qQ}{G:Gr}{p:FZ}
theorem jE.e(h:jE F W0 w s E G p):zK w E G:=h.zj.aO h.k0
theorem jE.aL{M:Nat->Prop}(h:jE F W0 w s E G p)(m:aY M w w')(hM:∀k,M k->k≠s/\(F k\/w.heap.size<=k)/\W0.heap.size<=k):jE F W0 w' s E G p:=by
 obtain⟨sl,h1,h2,h3⟩:=h.gN;refine⟨h.zj,h.k0.fresh m λk hk=>(hM k hk).2.2,h.lo,⟨sl,h1.aL m λhs=>(hM s hs).1 rfl,h2.aL m dA λb hb hm=>?_,λb hb=>⟨(h3 b hb).1,nM (h3 b hb).2 m.size⟩⟩,h.fs⟩;rcases(hM _ hm).2.1 with hf|hf
 ·exact(h3 b hb).1 hf
 ·have:=(h3 b hb).2;omega
theorem jE.aO(h:jE F W0 w s E G p)(k:aN w w'):jE F W0 w' s E G p:=h.aL k λ_ hk=>hk.elim
theorem jE.RZ(h:jE F W0 w s E G p)(hF:∀k,F' k->F k\/w.heap.size<=k)(hs:F' s):jE F' W0 w s E G p:=by
 obtain⟨sl,h1,h2,h3⟩:=h.gN;refine⟨h.zj,h.k0,h.lo,⟨sl,h1,h2,λb hb=>⟨λhf=>?_,(h3 b hb).2⟩⟩,hs⟩;rcases hF _ hf with hf|hf
 ·exact(h3 b hb).1 hf
 ·have:=(h3 b hb).2;omega
theorem jE.lt(h:jE F W0 w s E G p):s<w.heap.size:=by obtain⟨sl,h1,_⟩:=h.gN;exact h1.lt
theorem jE.put{sl:Sl}{q:FZ}(h:jE F W0 w s E G p)(m:aY (λk=>k=s) w w')(o:cW w' s Xi (eSe E.e q sl))(hr:Rd w' sl 1 eI q.lL)(hb:∀b,sl.b=some b->¬F b.block/\b.block<w'.heap.size):jE F W0 w' s E G q:=
 ⟨h.zj,h.k0.fresh m λk e=>by rw[show k=s from e];exact h.lo,h.lo,⟨sl,o,hr,hb⟩,h.fs⟩
theorem jE.cell(h:jE F W0 w s E G p):w.cell? ((⟨s,0,none⟩:Addr).add 0)=some (.pointer (some ⟨E.e,0,none⟩))/\w.cell? ((⟨s,0,none⟩:Addr).add 1)=some (aD p.pos)/\w.cell? ((⟨s,0,none⟩:Addr).add 2)=some (aD p.node)/\
  w.cell? ((⟨s,0,none⟩:Addr).add 4)=some (.bool p.dK)/\w.cell? ((⟨s,0,none⟩:Addr).add 5)=some (.bool p.gE)/\
  ∃sl,cW w s Xi (eSe E.e p sl)/\w.cell? ((⟨s,0,none⟩:Addr).add 3)=some (sv sl)/\Rd w sl 1 eI p.lL/\∀b,sl.b=some b->¬F b.block/\b.block<w.heap.size:=by
 obtain⟨sl,h1,h2,h3⟩:=h.gN;exact⟨dO h1 rfl,dO h1 rfl,dO h1 rfl,dO h1 rfl,dO h1 rfl,sl,h1,dO h1 rfl,h2,h3⟩
theorem Done_i{Q:Bool->aH->Prop}(h:jE F W0 w s E G p)(hQ:Q p.gE w):HX (some ⟨s,0,none⟩) w Q:=by
 unfold HX;exact aF (λh=>by simp at h) (λ_=>aA rfl (aE (k:=.bool) p.gE h.cell.2.2.2.2.1 hQ))
theorem Ef{Q:Sl->aH->Prop}(h:jE F W0 w s E G p)(ok:UN G p)(hh:p.dK=true)(hQ:∀ms w',jE F W0 w' s E G (nX G p).1->fJ w' (λk=>w.heap.size<=k) ms (nX G p).2->(nX G p).2.length=1->aY (λk=>k=s) w w'->Q ms w'):
  wY (some ⟨s,0,none⟩) w Q:=by
 unfold wY;intro J1 OP;have slt:=h.lt;have sS:∀a w1,w1.cell? (a.add 1)=some (aD (G.to p.pos))->aN w w1->J1 (some a,()) w1:=by
  intro a w1 c1 k1;apply OP;have d1:aN w1 w1.drew:=aY.drew (aY.refl _ w1);have hd:=h.aO (k1.tr d1);refine aA rfl (aE (k:=.i) (G.to p.pos) (d1.cell c1 id) (aA rfl (aE (k:=.i) p.node hd.cell.2.2.1 ?_)));refine aF (λhe=>?_) (λgH=>?_)
  ·have uM:G.to p.pos=p.node:=by simpa using he
   obtain⟨sl,o,hr,hb⟩:=hd.gN;refine aA rfl ?_;rw[aS,pU];refine cI (o:=5) (v:=.bool true) o iL dJ rfl rfl λw2 o2 m2 z2=>?_;have h2:jE F W0 w2 s E G {p with gE:=true}:=hd.put m2 o2 (hr.aL m2 dA λb bY e=>(hb b bY).1 (by rw[show b.block=s from e];exact h.fs)) λb bY=>⟨(hb b bY).1,by rw[z2];exact(hb b bY).2⟩;refine bP λw3 o3 k3 z3=>?_;have e:nX G p=({p with gE:=true},[Hz]):=by unfold nX;rw[if_pos uM]
   rw[e] at hQ;have M2:aY (λk=>k=s) w w2:=(aN.aL (k1.tr d1)).tr m2;have z:=M2.size;exact hQ _ w3 (h2.aO k3) (fJ.one (x:=(Hz,bD)) o3 (GM.none rfl) z) rfl (M2.tr k3.wk)
  ·have Fw:¬G.to p.pos=p.node:=by simpa using gH
   have e:nX G p=(p,[ML (G.eV p.pos p.lL)]):=by unfold nX;rw[if_neg Fw]
   rw[e] at hQ;have d2:aN w1 w1.drew.drew:=d1.tr (aY.drew (aY.refl _ _));have h2:=h.aO (k1.tr d2);obtain⟨c0,c1',_,_,_,sl,_,c3,hr,_⟩:=h2.cell;have he2:=h2.e;refine aA rfl (aE (k:=.ptr) (some ⟨E.e,0,none⟩) c0 (aA rfl (aE (k:=.ptr) (some ⟨E.t.t,0,none⟩) he2.cells.1 (aA rfl (aE (k:=.i) p.pos c1' (aA rfl (aE (k:=.slice) sl c3 ?_)))))));have len:=ok.len;refine⟨?_,?_⟩
   ·refine Hint_i he2.RU ok.pos (ok.Fj hh) hr aB λw4 k4=>?_
    refine eZ (vs:=eH (G.eV p.pos p.lL)) AP rfl (oneH _) λw6 o6 k6 _=>?_;refine bJ (l:=[.i,.i,.i,.i]) (Ru (G.eV p.pos p.lL)) (Ob o6) ?_;refine bP λw7 o7 k7 z7=>?_;have K6:=((k1.tr d2).tr k4).tr k6;exact hQ _ w7 (h.aO (K6.tr k7)) (fJ.one (x:=(ML (G.eV p.pos p.lL),bD)) o7 (GM.none rfl) K6.size) rfl (K6.tr k7).wk
   ·refine bP λw8 o8 k8 z8=>?_
    have o8':cW w8 w1.drew.drew.heap.size Gg (eH ⟨0,0,0,0⟩):=o8;refine⟨k8.cell c3 id,k8.cell c1' id,k8.cell he2.cells.1 id,k8.cell c0 id,?_⟩;refine Hint_i (he2.aO k8).RU ok.pos (ok.Fj hh) (hr.aL k8 dA λ_ _=>id) aB λw9 k9=>?_;refine fD (vs:=eH (G.eV p.pos p.lL)) (o8'.aL k9 id) AP rfl (oneH _) λeY Ci YN _=>?_;refine bJ (l:=[.i,.i,.i,.i]) (Ru (G.eV p.pos p.lL)) (Ob Ci) ?_;refine bP λeN o11 LF z11=>?_;have K2:=k1.tr d2;have Ny:aN w eY:=((K2.tr k8).tr k9).fresh YN λk e=>by rw[show k=w1.drew.drew.heap.size from e];exact K2.size
    exact hQ _ eN (h.aO (Ny.tr LF)) (fJ.one (x:=(ML (G.eV p.pos p.lL),bD)) o11 (GM.none rfl) Ny.size) rfl (Ny.tr LF).wk
 have d:aN w w.drew:=aY.drew (aY.refl _ w);have hd:=h.aO d;have ed:=hd.e;obtain⟨c0,c1',_⟩:=hd.cell;refine aA rfl (aE (k:=.ptr) (some ⟨E.e,0,none⟩) c0 (aA rfl (aE (k:=.ptr) (some ⟨E.t.t,0,none⟩) ed.cells.1 (aA rfl (aE (k:=.ptr) (some ⟨E.t.H.g,0,none⟩) ed.RU.cells.1 (aA rfl (aE (k:=.i) p.pos c1' ?_)))))));refine⟨?_,?_⟩
 ·refine JR ed.RU.IU (λ_ w2 k2=>?_) (λhn=>absurd ok.pos hn)
  refine eZ (vs:=[aD (G.fr p.pos),aD (G.to p.pos),aD (G.wt p.pos)]) jO rfl (by simp[Value.oneCell']) λw3 o3 k3 z3=>?_;exact sS _ w3 (BG o3).2.1 ((d.tr k2).tr k3)
 ·refine bP λw2 o2 k2 z2=>?_
  have o2':cW w2 w.drew.heap.size QP [aD 0,aD 0,aD 0]:=o2;refine⟨k2.cell c1' id,k2.cell ed.RU.cells.1 id,k2.cell ed.cells.1 id,k2.cell c0 id,?_⟩;refine JR (ed.aO k2).RU.IU (λ_ w3 k3=>?_) (λhn=>absurd ok.pos hn);refine fD (vs:=[aD (G.fr p.pos),aD (G.to p.pos),aD (G.wt p.pos)]) (o2'.aL k3 id) jO rfl (by simp[Value.oneCell']) λw4 o4 m4 _=>?_;exact sS _ w4 (BG o4).2.1 (((d.tr k2).tr k3).fresh m4 λk e=>by rw[show k=w.drew.heap.size from e];exact d.size)
end
end
section
section
variable{F:Nat->Prop}{W0 w:aH}{s:Nat}{E:qQ}{G:Gr}{p:FZ}
theorem mi{dD:Sl}{c:List Bool}{Q:Sl->aH->Prop}(h:jE F W0 w s E G p)(hp:G.pP p.pos)(hn:G.UL p.node)(hc:Rd w dD 1 eB c)(hF:∀k,F k->k<w.heap.size)
  (hQ:∀z ms w',VP G c p z->jE F W0 w' s E G z.1->UN G z.1->fJ w' (λk=>w.heap.size<=k) ms z.2->z.2.length<=2/\1<=z.2.length->aY (λk=>k=s) w w'->Q ms w'):
  wZ (some ⟨s,0,none⟩) dD w Q:=by
 unfold wZ;have ok:=h.zj.RU.IU.ok;have slt:=h.lt;intro J1 OP;have lit:∀b k:Nat,((⟨b,0,none⟩:Addr).add k)=⟨b,k,none⟩:=λb k=>by rw[aS,pU]
 have sS:∀b w1 (sl:Sl) wt f r l,cW w1 b Rh (VM (sl,wt,f,r,()))->w.heap.size<=b->G.MR p.node p.pos c l wt f r->dP w1 cZ 1 eI sl l->l.length<=51->(∀a,sl.b=some a->w.heap.size<=a.block)->aN w w1->J1 (some ⟨b,0,none⟩,()) w1:=by
  intro b w1 sl wt f r l o1 hb hA v1 hl f1 k1;apply OP;have d1:aN w1 w1.drew:=aY.drew (aY.refl _ w1);have K1:=k1.tr d1;have hd:=h.aO K1;have od:=o1.aL d1 id;have vd:=v1.aL d1 λ_ _=>id;have cd:=Ls od;refine aA rfl (aE (k:=.slice) sl cd.1 (aA rfl (aE (k:=.bool) f cd.2.2.1 ?_)));obtain⟨sl0,o,hr,hb0⟩:=hd.gN;refine aA rfl ?_;rw[lit s 3];refine cI (o:=3) (v:=sv sl) o oQ dJ rfl rfl λw2 o2 m2 z2=>?_;have bs:b≠s:=aB;have od2:=od.aL m2 bs;refine⟨(Ls od2).2.2.1,?_⟩;refine aA rfl ?_;rw[lit s 4];refine cI (o:=4) (v:=.bool f) o2 iL dJ rfl rfl λw3 o3 m3 z3=>?_;have od3:=od2.aL m3 bs;have ns:∀a,sl.b=some a->¬a.block=s:=λa ha e=>by have:=f1 a ha;omega
  have v3:=(vd.aL m2 ns).aL m3 ns;have M3:aY (λk=>k=s) w w3:=(K1.wk.tr m2).tr m3;have h3:jE F W0 w3 s E G {p with lL:=l,dK:=f}:=hd.put (m2.tr m3) o3 (v3.rd fM) λa ha=>⟨λhf=>by have:=f1 a ha;have:=hF _ hf;omega,v3.lt ha⟩;refine aA rfl (aE (k:=.bool) f (Ls od3).2.2.1 ?_);refine aF (λhf=>?_) (λhf=>?_)
  ·have YI:f=false:=by simpa using hf
   refine bP λw4 o4 k4 z4=>?_;subst YI;have e:Xc G p l wt false=({p with lL:=l,dK:=false},[HE]):=by unfold Xc;rw[if_neg dJ]
   have hz:VP G c p ({p with lL:=l,dK:=false},[HE]):=⟨l,wt,false,r,hA,e.symm⟩;have mL:=(ask_ok ok hp hn hA).1;rw[e] at mL;exact hQ _ _ w4 hz (h3.aO k4) mL (fJ.one (x:=(HE,bD)) o4 (GM.none rfl) M3.size) dJ (M3.tr k4.wk)
  ·have YI:f=true:=by simpa using hf
   subst YI;have mL:=(ask_ok ok hp hn hA).2 rfl;have e:Xc G p l wt true=((nX G {p with lL:=l,dK:=true}).1,sK l wt::(nX G {p with lL:=l,dK:=true}).2):=by unfold Xc;rw[if_pos rfl]
   have hz:VP G c p ((nX G {p with lL:=l,dK:=true}).1,sK l wt::(nX G {p with lL:=l,dK:=true}).2):=⟨l,wt,true,r,hA,e.symm⟩;have d3:aN w3 w3.drew:=aY.drew (aY.refl _ w3);have odd:=od3.aL d3 id;have Ar:=h3.aO d3;have M3d:=M3.tr d3.wk;have zz:=M3d.size;refine aA rfl (aE (k:=.slice) sl (Ls odd).1 (aA rfl (aE (k:=.i) wt (Ls odd).2.1 ?_)));refine HM ((v3.aL d3 λ_ _=>id).rd fM) aB λs3 w5 v5 k5 f5=>?_;have o5:=odd.aL k5 id;refine⟨(Ls o5).2.1,?_⟩;have h5:=Ar.aO k5;have M5:=M3d.tr k5.wk;have z5:=k5.size;have hOk5:UN G (nX G {p with lL:=l,dK:=true}).1:=mL.nX;have mx:∀{wx:aH} (g:Nat),aY (λk=>k=s) w5 wx->w5.heap.size<=g->GM wx (λk=>w.heap.size<=k/\k≠g) (sK l wt,s3):=λg kx hg=>by
    have vx:=v5.aL kx λa ha e=>by have:=f5 a ha;have e':a.block=s:=e;omega
    exact⟨vx.rd fM,λa ha=>⟨⟨by have:=f5 a ha;omega,by have:=v5.lt ha;omega⟩,vx.lt ha⟩,hl⟩
   have W0le:=h.k0.size;have g5:w5.heap.size≠s:=by have:=M5.size;omega
   refine⟨?_,?_⟩
   ·refine bP λw6 o6 k6 z6=>?_
    have h5g:jE (λk=>F k\/k=w5.heap.size) W0 w5 s E G {p with lL:=l,dK:=true}:=h5.RZ (λk hk=>hk.elim .inl (λe=>.inr aB)) (.inl h5.fs);refine Ef (h5g.aO k6) mL rfl λms w7 h7 q7 hl7 m7=>?_;have z7:=m7.size;refine Hx (x:=(sK l wt,s3)) (P:=λk=>w.heap.size<=k) (o6.aL m7 g5) (mx w5.heap.size (k6.wk.tr m7) (iX _)) aB (λk hk=>aB) (q7.wk λk hk _=>⟨aB,aB⟩) aB λr' w8 q8 m8=>?_;refine hQ _ _ w8 hz ((h7.aL m8 λk hk=>⟨aB,.inl (.inr hk),aB⟩).RZ (λk hk=>.inl (.inl hk)) h.fs) hOk5 q8 ⟨by simp[hl7],by simp⟩ ((M5.tr (k6.wk.tr m7)).trans m8 λk hk e=>aB)
   ·refine Ef h5 mL rfl λms w9 h9 q9 hl9 m9=>?_
    have z9:=m9.size;refine⟨(Ls (o5.aL m9 bs)).2.1,?_⟩;refine bP λeY Ci IS z10=>?_;have h9g:jE (λk=>F k\/k=w9.heap.size) W0 w9 s E G (nX G {p with lL:=l,dK:=true}).1:=h9.RZ (λk hk=>hk.elim .inl (λe=>.inr aB)) (.inl h9.fs);have q9':fJ w9 (λk=>w.heap.size<=k/\k≠w9.heap.size) ms (nX G {p with lL:=l,dK:=true}).2:=q9.wk λk hk cL=>⟨aB,aB⟩;refine Hx (x:=(sK l wt,s3)) (P:=λk=>w.heap.size<=k) Ci (mx w9.heap.size (m9.tr IS.wk) z9) aB (λk hk=>aB) (q9'.aO IS) aB λr' eN q11 Ku=>?_;refine hQ _ _ eN hz (((h9g.aO IS).aL Ku λk hk=>⟨aB,.inl (.inr hk),aB⟩).RZ (λk hk=>.inl (.inl hk)) h.fs) hOk5 q11 ⟨by simp[hl9],by simp⟩ (((M5.tr m9).tr IS.wk).trans Ku λk hk e=>aB)
 have d:aN w w.drew:=aY.drew (aY.refl _ w);have hd:=h.aO d;obtain⟨c0,c1,c2,_⟩:=hd.cell;have hcd:=hc.aL d LB λ_ _=>id;refine aA rfl (aE (k:=.ptr) (some ⟨E.e,0,none⟩) c0 (aA rfl (aE (k:=.i) p.pos c1 (aA rfl (aE (k:=.i) p.node c2 ?_)))));refine⟨?_,?_⟩
 ·refine Way_i hd.e hcd λsl wt f r l w1 hA v1 _ hl k1 f1=>?_
  refine eZ (vs:=VM (sl,wt,f,r,())) WO rfl (kv _) λw2 o2 k2 z2=>?_;exact sS _ w2 sl wt f r l o2 (by have:=k1.size;have:=d.size;omega) hA (v1.aL k2 λ_ _=>id) hl (λa ha=>by have:=f1 a ha;have:=d.size;omega) ((d.tr k1).tr k2)
 ·refine bP λw1 o1 k1 z1=>?_
  have YG:cW w1 w.drew.heap.size Rh (VM (bD,0,false,false,())):=o1;refine⟨k1.cell c2 id,k1.cell c1 id,k1.cell c0 id,?_⟩;refine Way_i (hd.aO k1).e (hcd.aL k1 LB λ_ _=>id) λsl wt f r l w2 hA v2 _ hl k2 f2=>?_;refine fD (vs:=VM (sl,wt,f,r,())) (YG.aL k2 id) WO rfl (kv _) λw3 o3 m3 _=>?_;have ds:=d.size;refine sS _ w3 sl wt f r l o3 ds hA (v2.aL m3 λa ha e=>?_) hl (λa ha=>by have:=f2 a ha;omega) (((d.tr k1).tr k2).fresh m3 λk e=>by rw[show k=w.drew.heap.size from e];exact ds);have:=f2 a ha;omega
end
end
section
abbrev Wq(a v:Int):FZ:=⟨a,v,[],false,false⟩
theorem SNew_i{E:qQ}{G:Gr}{at_ node:Int}{dD:Sl}{c:List Bool}{W:aH}{Q:cO->Sl->Int->aH->Prop}(h:zK W E G)(hc:Rd W dD 1 eB c)
  (SK:¬(G.pP at_/\G.UL node)->Q none bD 1 W)
  (hQ:G.pP at_->G.UL node->∀z ms w',VP G c (Wq at_ node) z->jE (λk=>k<=W.heap.size) W w' W.heap.size E G z.1->UN G z.1->fJ w' (λk=>W.heap.size<k) ms (iU::z.2)->z.2.length<=2/\1<=z.2.length->aN W w'->Q (some ⟨W.heap.size,0,none⟩) ms 0 w'):
  sX (some ⟨E.e,0,none⟩) at_ node dD W Q:=by
 unfold sX;refine aF (λh=>by simp at h) (λ_=>aJ (λh0=>SK λhh=>by have:=hh.1.1;omega) (λh0=>?_));refine aA rfl (aE (k:=.ptr) (some ⟨E.t.t,0,none⟩) h.cells.1 (aA rfl (aE (k:=.ptr) (some ⟨E.t.H.g,0,none⟩) h.RU.cells.1 (tG h.RU.IU ?_))));refine aJ (λh1=>SK λhh=>by have:=hh.1.2;omega) (λh1=>aJ (λh2=>SK λhh=>by have:=hh.2.1;omega) (λh2=>?_));refine aA rfl (aE (k:=.ptr) (some ⟨E.t.t,0,none⟩) h.cells.1 (aA rfl (aE (k:=.ptr) (some ⟨E.t.H.g,0,none⟩) h.RU.cells.1 (OX h.RU.IU ?_))));refine aJ (λh3=>SK λhh=>by have:=hh.2.2;omega) (λh3=>?_);have hE:G.pP at_:=⟨aB,aB⟩;have hN:G.UL node:=⟨aB,aB⟩;refine bP λw1 o1 k1 z1=>bP λw2 o2 k2 z2=>?_;have YG:cW w1 W.heap.size Xi (eSe E.e (Wq at_ node) bD):=o1;have K2:=k1.tr k2;have h2:jE (λk=>k<=w1.heap.size) W w2 W.heap.size E G (Wq at_ node):=⟨h,K2,iX _,⟨bD,YG.aL k2 id,Rd.nil _ _ _,λb hb=>by cases hb⟩,aB⟩;refine mi h2 hE hN (hc.aL K2 LB λ_ _=>id) (λk hk=>aB) λz ms w3 hz h3 gh q3 l3 m3=>?_;have z3:=m3.size;have g1:w1.heap.size≠W.heap.size:=aB;refine Hx (x:=(iU,bD)) (P:=λk=>W.heap.size<k) (o2.aL m3 g1) (GM.none rfl) aB (λk hk=>aB) (q3.wk λk hk _=>⟨aB,aB⟩) aB λr w4 q4 m4=>?_;exact hQ hE hN z r w4 hz ((h3.aL m4 λk hk=>⟨aB,.inl aB,aB⟩).RZ (λk hk=>.inl aB) (iX _)) gh q4 l3 ((K2.fresh m3 λk e=>by rw[show k=W.heap.size from e];exact iX _).fresh m4 λk e=>by rw[show k=w1.heap.size from e];omega)
theorem aAw{b:cO}{c l n:Nat}{a:Addr}(h:aR b c l n=some a):∃a0,b=some a0/\a.block=a0.block:=by
 unfold aR at h
 split at h
 ·exact⟨a,h,rfl⟩
 ·cases b with
  |none=>cases h
  |some x=>cases h;exact⟨x,rfl,by simp⟩
section
variable{F:Nat->Prop}{W0 w:aH}{s:Nat}{E:qQ}{G:Gr}{p:FZ}
theorem Report_i{pos:Int}{dD:Sl}{c:List Bool}{Q:Sl->aH->Prop}(h:jE F W0 w s E G p)(fc:UN G p)(hc:Rd w dD 1 eB c)(Qy:∀b,dD.b=some b->b.block≠s)(hF:∀k,F k->k<w.heap.size)
  (hQ:∀z ms w',jz G c p pos z->jE F W0 w' s E G z.1->UN G z.1->fJ w' (λk=>w.heap.size<=k) ms z.2->z.2.length<=2->aY (λk=>k=s) w w'->Q ms w'):
  yV (some ⟨s,0,none⟩) pos dD w Q:=by
 unfold yV;have lit:∀k:Nat,((⟨s,0,none⟩:Addr).add k)=⟨s,k,none⟩:=λk=>by rw[aS,pU]
 refine Done_i h (aF (λKy=>?_) (λKy=>?_))
 ·exact hQ (p,[]) _ w (by unfold jz;rw[if_pos Ky]) h fc fJ.nil dJ (aY.refl _ _)
 have nov:¬p.gE=true:=by rw[Ky];simp
 have he:=h.e;refine aA rfl (aE (k:=.ptr) (some ⟨E.e,0,none⟩) h.cell.1 (aA rfl (aE (k:=.ptr) (some ⟨E.t.t,0,none⟩) he.cells.1 (aA rfl (aE (k:=.ptr) (some ⟨E.t.H.g,0,none⟩) he.RU.cells.1 ?_)))));refine JR he.RU.IU (λhE w2 k2=>?_) (λhE w2 k2=>?_)
 ·refine eZ (vs:=[aD (G.fr pos),aD (G.to pos),aD (G.wt pos)]) jO rfl (by simp[Value.oneCell']) λw4 o4 k4 z4=>?_
  refine aF (λh=>by simp at h) (λ_=>?_);have K4:=k2.tr k4;have h4:=h.aO K4;intro J1 OP;have j1:¬(p.dK=true/\pos=p.pos)->¬(p.dK=true/\p.lL.head? =some pos)->∀w6,aN w w6->J1 () w6:=by
   intro n1 n2 w6 k6;apply OP;obtain⟨sl,o,hr,hb⟩:=(h.aO k6).gN;refine aA rfl ?_;rw[lit 1];refine cI (o:=1) (v:=aD pos) o cY dJ rfl rfl λw7 o7 m7 z7=>?_;have h7:jE F W0 w7 s E G {p with pos:=pos}:=(h.aO k6).put m7 o7 (hr.aL m7 dA λb bY e=>(hb b bY).1 (by rw[show b.block=s from e];exact h.fs)) λb bY=>⟨(hb b bY).1,by rw[z7];exact(hb b bY).2⟩;have s6:=k6.size;refine mi h7 hE fc.node ((hc.aL k6 LB λ_ _=>id).aL m7 LB λb bY e=>Qy b bY e) (λk hk=>by have:=hF k hk;omega) λz ms w8 hz h8 ok8 q8 l8 m8=>?_;refine hQ z ms w8 ?_ h8 ok8 (q8.wk λk hk _=>aB) l8.1 ((k6.wk.tr m7).tr m8);unfold jz;rw[if_neg nov,if_neg (by simpa using hE),if_neg n1,if_neg n2];exact hz
  intro J2 Ra;have j2:∀b:Bool,(b=true↔(p.dK=true/\pos=p.pos))->J2 (b,()) w4:=by
   intro b hb;apply Ra;refine aF (λhbt=>?_) (λhbf=>?_)
   ·have hh:=hb.1 hbt
    refine Ef h4 fc hh.1 λms eY IX q10 l10 YN=>?_;refine hQ _ ms eY ?_ IX fc.nX (q10.wk λk hk _=>by have:=K4.size;omega) aB (K4.wk.tr YN);unfold jz;rw[if_neg nov,if_neg (by simpa using hE),if_pos hh]
   ·have n1:¬(p.dK=true/\pos=p.pos):=λhh=>by have hbf':b=false:=hbf;rw[hb.2 hh] at hbf';cases hbf'
    obtain⟨_,_,_,c4,_,sl,o,c3,hr,ze⟩:=h4.cell;refine aA rfl (aE (k:=.bool) p.dK c4 (aF (λhh=>?_) (λhh=>j1 n1 (λg=>by rw[hh] at g;cases g.1) w4 K4)));have sll:=hr.len;refine aA rfl (aE (k:=.slice) sl c3 (aJ (λcL=>?_) (λlK=>j1 n1 (λg=>?_) w4 K4)))
    ·cases aAg:p.lL with
     |nil=>rw[aAg] at sll;simp at sll;omega
     |cons x cR=>
      rw[aAg] at hr sll;obtain⟨a,ha,hx⟩:=cQ (k:=.i) (e:=λx=>x) hr (show(x::cR)[0]? =some x from rfl);refine aA rfl (aE (k:=.slice) sl c3 ⟨⟨aB,aB⟩,aA ha (aE (k:=.i) x hx ?_)⟩);refine aF (λhpx=>?_) (λhpx=>j1 n1 (λg=>?_) w4 K4)
      ·have hpx':pos=x:=by simpa using hpx
       have d4:aN w4 w4.drew:=aY.drew (aY.refl _ w4);have h4d:=h4.aO d4;have od:=o.aL d4 id;refine aA rfl (aE (k:=.slice) sl (dO od rfl) ⟨⟨aB,aB⟩,aA rfl ?_⟩);rw[lit 1];refine cI (o:=1) (v:=aD pos) od cY dJ rfl rfl λw5 o5 m5 z5=>?_;refine aA rfl ?_;rw[lit 3]
       let UI:Sl:=⟨aR sl.b sl.c 1 1,sl.l-1,sl.c-1⟩
       refine cI (o:=3) (v:=sv UI) o5 oQ dJ rfl rfl λw6 o6 m6 z6=>?_;have ns:∀b,sl.b=some b->¬b.block=s:=λb bY e=>(ze b bY).1 (by rw[e];exact h.fs);have hr6:=((hr.aL d4 dA λ_ _=>id).aL m5 dA ns).aL m6 dA ns;have hp6:=hr6.part (i:=1) (j:=sl.l) (c:=sl.c) aB (iX _) hr.cap (iX _);have hrest:((x::cR).drop 1).take (sl.l-1)=cR:=by
        rw[List.drop_one,List.tail_cons,List.take_of_length_le];simp only[mV] at sll;omega
       rw[hrest] at hp6;have h6:jE F W0 w6 s E G {p with pos:=pos,lL:=cR}:=h4d.put (m5.tr m6) o6 hp6 λb bY=>by
        obtain⟨a0,ha0,e⟩:=aAw bY;rw[e];have z4d:w4.drew.heap.size=w4.heap.size:=rfl;exact⟨(ze a0 ha0).1,by have:=(ze a0 ha0).2;omega⟩
       have hm:p.dK=true/\p.lL.head? =some pos:=⟨hh,by rw[aAg,hpx'];rfl⟩;have fe:=fc.move hE hm;rw[aAg,List.tail_cons] at fe;refine Ef h6 fe hh λms w7 h7 q7 l7 m7=>?_;have M6:aY (λk=>k=s) w w6:=(((K4.tr d4).wk).tr m5).tr m6;refine hQ _ ms w7 ?_ h7 fe.nX (q7.wk λk hk _=>by have:=M6.size;omega) aB (M6.tr m7);unfold jz;rw[if_neg nov,if_neg (by simpa using hE),if_neg n1,if_pos hm,aAg,List.tail_cons]
      ·rw[aAg] at g
       have:x=pos:=by simpa using g.2
       rw[this] at hpx;simp at hpx
    ·rw[List.head?_eq_none_iff.2 (Ct aB)] at g
     cases g.2
  refine aA rfl (aE (k:=.bool) p.dK h4.cell.2.2.2.1 (aF (λhh=>aA rfl (aE (k:=.i) p.pos h4.cell.2.1 (j2 _ ?_))) (λhh=>j2 _ ?_)))
  ·have La:p.dK=true:=hh
   simp[La]
  ·have La:p.dK=false:=hh
   simp[La]
 ·refine eZ (vs:=[aD 0,aD 0,aD 0]) jO rfl (by simp[Value.oneCell']) λw4 o4 k4 z4=>?_
  refine aF (λ_=>?_) (λh=>by simp at h);refine bP λw5 o5 k5 z5=>?_;have K4:=k2.tr k4;refine hQ (p,[lj pos]) _ w5 ?_ (h.aO (K4.tr k5)) fc (fJ.one (x:=(lj pos,bD)) o5 (GM.none rfl) K4.size) dJ (K4.tr k5).wk;unfold jz;rw[if_neg nov,if_pos hE]
end
end
section
theorem Zl{sl:Sl}{xs:List Int}{v:Int}{w:aH}{Q:Int->aH->Prop}(hr:Rd w sl 1 eI xs)(hl:xs.length<1000000)(hQ:∀i w',aN w w'->(0<=i↔v∈xs)->Q i w'):kQ sl v w Q:=by
 unfold kQ;have hll:=hr.len;refine bK (λc t w1=>∃(i:Nat),i<=xs.length/\c=xs.length-i/\t=((i:Int),())/\aN w w1/\v∉xs.take i) xs.length ⟨0,iF _,rfl,rfl,aY.refl _ _,by simp⟩ ?_;rintro c t w1 ⟨i,hi,rfl,rfl,k1,hn⟩ X hX;dsimp only;refine aJ (λcL=>?_) (λlK=>?_)
 ·have dF:i<xs.length:=aB
  have cU:=gU dF;have fP:=oE dF;have sD:=FW dF;generalize xs[i]=x at*;obtain⟨q,hq,hc⟩:=cQ (k:=.i) (e:=λx=>x) (hr.aL k1 dA λ_ _=>id) cU;rw[lJ];refine⟨⟨aB,cL⟩,aA hq (aE (k:=.i) x hc (aF (λh=>hQ _ w1 k1 ⟨λ_=>?_,λ_=>aB⟩) (λh=>?_)))⟩
  ·have:v=x:=by simpa using h
   rw[this];exact fP
  ·have gH:v≠x:=by simpa using h
   rw[qM i aB];refine hX _ _ _ aB ⟨i+1,dF,rfl,rfl,k1,λhy=>?_⟩;rw[sD] at hy;rcases jS.1 hy with hy|hy
   ·exact hn hy
   ·exact gH (by simpa using hy)
 ·have ei:i=xs.length:=aB
  subst ei;rw[pF] at hn;exact hQ (-1) w1 k1 ⟨λh=>aB,λh=>absurd h hn⟩
section
variable{F:Nat->Prop}{W0 w:aH}{s:Nat}{E:qQ}{G:Gr}{p:FZ}
theorem aBE{CY open_ dD:Sl}{sh op:List Int}{c:List Bool}{Q:Sl->aH->Prop}(h:jE F W0 w s E G p)(fc:UN G p)(hsh:Rd w CY 1 eI sh)(hshl:sh.length<1000000)(Ff:Rd w open_ 1 eI op)(hc:Rd w dD 1 eB c)(hF:∀k,F k->k<w.heap.size)
  (hQ:∀z ms w',kc G c p sh op z->jE F W0 w' s E G z.1->UN G z.1->fJ w' (λk=>w.heap.size<=k) ms z.2->z.2.length<=2->aY (λk=>k=s) w w'->Q ms w'):
  vL (some ⟨s,0,none⟩) CY open_ dD w Q:=by
 unfold vL;refine bP λw1 o1 k1 z1=>?_;have h1:=h.aO k1;refine Done_i h1 (aF (λKy=>?_) (λKy=>?_))
 ·exact hQ (p,[]) _ w1 (by unfold kc;rw[if_pos Ky]) h1 fc fJ.nil dJ k1.wk
 have nov:¬p.gE=true:=by rw[Ky];simp
 obtain⟨_,_,_,_,_,sl,_,c3,hr,_⟩:=h1.cell;have len:=fc.len;refine aA rfl (aE (k:=.slice) sl c3 ?_);refine OD (p:=λx=>decide (x∈sh)) (C:=λwx=>aN w1 wx) hr aB (aY.refl _ _) (λ_ _ a b=>a.tr b) (λx wx K hCx hx hK=>?_) λb2 w3 k3 RX=>?_
 ·refine pI Db iH (gJ (ks:=[.i,.c .ptr]) (t:=(x,some ⟨w.heap.size,0,none⟩,())) ?_)
  show tI _ _ _ _;unfold tI gM;have occ:wx.cell? ⟨w.heap.size,0,none⟩=some (sv CY):=by rw[(o1.aL hCx id).cell];rfl
  refine aA rfl (aE (k:=.slice) CY occ ?_);refine Zl ((hsh.aL k1 dA λ_ _=>id).aL hCx dA λ_ _=>id) hshl λi w2 k2 hi=>?_;have e:decide (i>=(0:Int))=decide (x∈sh):=by
   by_cases hm:x∈sh
   ·rw[decide_eq_true hm,decide_eq_true (hi.2 hm)]
   ·rw[decide_eq_false hm,decide_eq_false (λh=>hm (hi.1 h))]
  rw[e];exact hK w2 k2
 have K3:=k1.tr k3;have h3:=h.aO K3;have jt:b2=true↔∃e∈p.lL,e∈sh:=by rw[RX];simp
 have ask:∀(T:WQ Sl),(∀z ms w',VP G c p z->jE F W0 w' s E G z.1->UN G z.1->fJ w' (λk=>w.heap.size<=k) ms z.2->z.2.length<=2/\1<=z.2.length->aY (λk=>k=s) w w'->T ms w')->wZ (some ⟨s,0,none⟩) dD w3 T:=λT hT=>by
  have z3:=K3.size;refine mi h3 fc.pos fc.node (hc.aL K3 LB λ_ _=>id) (λk hk=>by have:=hF k hk;omega) λz ms w4 hz h4 Qu q4 l4 m4=>?_;exact hT z ms w4 hz h4 Qu (q4.wk λk hk _=>aB) l4 (K3.wk.tr m4)
 have opl:=Ff.len;intro J1 OP;have jh:p.dK=true->(∃e∈p.lL,e∈sh)->J1 () w3:=by
  intro hh hm;apply OP;refine aA rfl (aE (k:=.bool) p.dK h3.cell.2.2.2.1 (ask _ λz ms w4 hz h4 Qu q4 l4 m4=>?_));refine aF (λh=>by rw[hh] at h;cases h) (λ_=>?_);refine hQ z ms w4 ?_ h4 Qu q4 l4.1 m4;unfold kc;rw[if_neg nov,if_pos hh,if_pos hm];exact hz
 have jn:p.dK=false->op≠[]->J1 () w3:=by
  intro hh ho;have nh:¬p.dK=true:=by rw[hh];simp
  apply OP;refine aA rfl (aE (k:=.bool) p.dK h3.cell.2.2.2.1 (ask _ λz ms w4 hz h4 Qu q4 l4 m4=>?_));have hC:kc G c p sh op (z.1,if z.1.dK=true then z.2 else []):=by
   unfold kc;rw[if_neg nov,if_neg nh,if_neg ho];exact⟨z,hz,rfl⟩
  refine aF (λ_=>?_) (λh=>by rw[hh] at h;cases h);refine aA rfl (aE (k:=.bool) z.1.dK h4.cell.2.2.2.1 (aF (λhf=>?_) (λhf=>?_)))
  ·have YI:z.1.dK=false:=by simpa using hf
   rw[if_neg (by rw[YI];simp)] at hC;exact hQ _ _ w4 hC h4 Qu fJ.nil dJ m4
  ·have YI:z.1.dK=true:=by simpa using hf
   rw[if_pos YI] at hC;exact hQ _ ms w4 hC h4 Qu q4 l4.1 m4
 have ir:(p.dK=true/\¬(∃e∈p.lL,e∈sh))\/(p.dK=false/\op=[])->Q bD w3:=λhs=>by
  refine hQ (p,[]) _ w3 ?_ h3 fc fJ.nil dJ K3.wk;unfold kc;rw[if_neg nov];rcases hs with⟨a,b⟩|⟨a,b⟩
  ·rw[if_pos a,if_neg b]
  ·rw[if_neg (by rw[a];simp),if_pos b]
 have c4:=h3.cell.2.2.2.1;have nope:p.dK=false->cond ((open_.l:Int)==(0:Int)) (Q bD w3) (J1 () w3):=λhh=>by
  refine aF (λhz=>ir (.inr ⟨hh,?_⟩)) (λhz=>jn hh λe=>?_)
  ·exact Ct (by simp at hz;omega)
  ·rw[opl,e] at hz;simp at hz
 refine aA rfl (aE (k:=.bool) p.dK c4 (aF (λhh=>?_) (λhh=>?_)))
 ·have La:p.dK=true:=hh
  refine aF (λhn=>ir (.inl ⟨La,λhm=>?_⟩)) (λhy=>aA rfl (aE (k:=.bool) p.dK c4 (aF (λh=>by rw[La] at h;cases h) (λ_=>jh La (jt.1 (by simpa using hy))))));rw[jt.2 hm] at hn;cases hn
 ·have La:p.dK=false:=hh
  exact aA rfl (aE (k:=.bool) p.dK c4 (aF (λ_=>nope La) (λh=>by rw[La] at h;cases h)))
end
end
end Go.Proofs.YtihggjgakbgomaaGreat
namespace Go.Proofs.YtihggjgakbgomaaGreat
open Go Go.Den Go.Proofs
section
def vA(a:Nat)(u:List Int):As:=Ex λsl=>aZ (sM a NC [sv sl]) (jB cZ 1 eI sl u)
instance{a:Nat}{u:List Int}:bF (vA a u):=by unfold vA;infer_instance
theorem TO{s:Sl}{xs:List Int}{w:aH}{S:BS}{b:Addr}{i:Nat}{x:Int}{K:aH->Prop}(h:jB cZ 1 eI s xs w S)(hb:s.b=some b)(hi:i<xs.length)(hK:∀w',jB cZ 1 eI s (xs.set i x) w' S->Up S S w w'->K w'):aI Tryz.prog cZ (b.add (i*1)) (aD x) w K:=
 h.1.store fM hb hi x (v:=aD x) rfl cY (EZ _) λw' v m _=>hK w' ⟨v,h.2⟩ (Up.at (m.mono λk _ hk=>(h.2 k).2 ⟨b,hb,hk⟩))
theorem Sort1_i{s:Sl}{x:Int}{w:aH}{Q:aH->Prop}(h:dP w cZ 1 eI s [x])(hQ:∀w',dP w' cZ 1 eI s [x]->aY (λk=>∃b,s.b=some b/\k=b.block) w w'->Q w'):pO s w Q:=by
 obtain⟨sb,sl,sc⟩:=s;rcases h.gN with⟨h1,h2⟩|⟨g,cR,hb,ho,hl⟩
 ·have e1:sl=1:=h.len;have e2:sl<=sc:=h.cap;have e3:sc=0:=h2;omega
 have bY:sb=some ⟨g,0,none⟩:=hb;subst bY;have fW:sl=1:=h.len;subst fW;have Rs:1<=sc:=h.cap;have Rp:sc<=maxLen:=h.max;have hcur:w.heap[g]? =some (.cells ([x].flatMap eI++cR).toArray cZ (0,0)):=ho;have hl':([x].flatMap eI++cR).length=sc*1:=hl;have hH:Go.Sort.Holds (Value.int .i64) w g 0 [x].toArray:=holds_of_block_i hcur rfl;have cS:=AnyM.slices_Sort_int sortA g 0 sc [x] w hH ho.lt dJ;refine Calls.mono cS ?_;rintro e w' ⟨rfl,n,os,rfl⟩;refine⟨_,rfl,?_⟩;show Q _;have e1:[x].mergeSort (λx y=>decide (x<=y))=[x]:=List.mergeSort_singleton x;rw[e1];have rL:=ownsRow_sorted_i (w:=w) (n:=n) (os:=os) (ss:=[x]) (ts:=[x]) rfl (iF g) hcur Rs Rp (by simpa using hl');have hg:=grownBy_sorted_i (w:=w) (g:=g) (n:=n) (os:=os) [x].toArray;obtain⟨s',e2,hv,_⟩:=Ti (nN:=0) (ks:=[x]) rL;have:s'=⟨some ⟨g,0,none⟩,1,sc⟩:=by
  obtain⟨b,l,c⟩:=s';injection e2 with h1 h2 h3;subst h1;subst h2;subst h3;rfl
 subst this;exact hQ _ hv ⟨hg.os,hg.tape,hg.output,hg.size,λk hk hn=>hg.block k hk λe=>hn ⟨_,rfl,by injection e⟩⟩
section
variable{w:aH}{S:BS}{a:Nat}{u:List Int}
theorem vA.cell(h:vA a u w S):∃sl,w.cell? ((⟨a,0,none⟩:Addr).add 0)=some (sv sl)/\Rd w sl 1 eI u/\sl.l=u.length:=by
 obtain⟨sl,S1,S2,h1,h2,_⟩:=h;exact⟨sl,aP h1 rfl,h2.1.rd fM,h2.1.len⟩
theorem smay_i{cJ:Sl}{e:Int}{Q:Bool->aH->Prop}(h:vA a u w S)(hr:Rd w cJ 1 eI [e])(he:0<=e/\e<u.length)(hQ:∀w',aN w w'->Q true w'):NJ (some ⟨a,0,none⟩) cJ w Q:=by
 unfold NJ;refine cD (cs:=[.pointer (some ⟨a,0,none⟩)]) λw1 b1 k1 z1=>?_;refine aE (k:=.ptr) (some ⟨a,0,none⟩) (by rw[(b1.1).cell];rfl) (aF (λ_=>?_) (λh=>by simp at h));refine OD (p:=λx=>!decide (0<=x/\x<u.length)) (C:=λwx=>aN w1 wx) (hr.aL k1 dA λ_ _=>id) dJ (aY.refl _ _) (λ_ _ a b=>a.tr b) (λx wx K hCx hx hK=>?_) λb w2 k2 hb=>?_
 ·refine pI ck iH (gJ (ks:=[.i,.c .ptr]) (t:=(x,some ⟨w.heap.size,0,none⟩,())) ?_)
  show EH _ _ _ _;unfold EH;have UT:x=e:=by simpa using hx
  subst UT;have hK':=hK wx (aY.refl _ _);have hp:(!decide (0<=x/\x<(u.length:Int)))=false:=by rw[decide_eq_true he];rfl
  rw[hp] at hK';obtain⟨sl,c,_,l⟩:=(bF.kp h (k1.tr hCx)).cell;refine aJ (λh=>aB) (λ_=>aA rfl (aE (k:=.ptr) (some ⟨a,0,none⟩) (by rw[(b1.1.aL hCx id).cell];rfl) (aA rfl (aE (k:=.slice) sl c ?_))));rw[l,decide_eq_false aB];exact hK'
 ·have:b=false:=by
   cases b with
   |false=>rfl
   |true=>
    obtain⟨x,hx,hp⟩:=hb.1 rfl;have UT:x=e:=by simpa using hx
    subst UT;rw[decide_eq_true he] at hp;cases hp
  rw[this];exact hQ w2 (k1.tr k2)
theorem sset_i{nO:Int}{cJ:Sl}{e:Nat}{Q:Sl->aH->Prop}(h:vA a u w S)(hr:Rd w cJ 1 eI [(e:Int)])(he:e<u.length)
  (hQ:∀r w' S',aZ (vA a (u.set e nO)) (jB cZ 1 eI r (if decide (u[e]>0)==decide (nO>0) then [] else [(e:Int)])) w' S'->Up S S' w w'->Q r w'):NI (some ⟨a,0,none⟩) nO cJ w Q:=by
 unfold NI;refine HM hr dJ λs1 w1 v1 k1 f1=>?_;refine Sort1_i v1 λw2 v2 m2=>?_;have h1:=bF.kp h k1;have bd:=bF.gI h;have h2:vA a u w2 S:=bF.aL h1 m2 λk hk ⟨b,hb,e⟩=>by have:=bd k hk;have:=f1 b hb;omega
 have U2:Up S S w w2:=⟨k1.wk.trans m2 λk hk ⟨b,hb,e⟩=>by have:=f1 b hb;omega,λk hk=>.inl hk⟩;unfold mO;have l2:s1.l=1:=v2.len;refine aJ (λ_=>?_) (λh=>absurd (by rw[l2];decide) h);dsimp only;rw[l2];have Fk:∀{wx:aH},jB cZ 1 eI bD ([]:List Int) wx (λ_=>False):=λ{wx}=>⟨dP.nil _ _ _ _,λk=>⟨False.elim,λ⟨b,hb,_⟩=>by cases hb⟩⟩;refine bK (λc t w4=>(c=1/\t=(bD,0,())/\w4=w2)\/(c=0/\t.2.1=1/\Q t.1 w4)) 1 (.inl ⟨rfl,rfl,rfl⟩) ?_;rintro c ⟨r,i,_⟩ w4 (⟨rfl,h,rfl⟩|⟨rfl,h,hq⟩) X hX
 ·cases h
  dsimp only;refine aJ (λ_=>?_) (λh=>absurd (by decide) h);obtain⟨b,hb,cb⟩:=cQ (k:=.i) (e:=λx=>x) (v2.rd fM) (show [(e:Int)][0]? =some (e:Int) from rfl);obtain⟨sl,S1,S2,hB,hV,d,ee⟩:=h2;have hlu:=hV.1.len;have cU:=gU he;refine⟨⟨by decide,by decide⟩,aA hb (aE (k:=.i) (e:Int) cb (aA rfl (aE (k:=.slice) sl (aP hB rfl) ?_)))⟩;obtain⟨q,hq,cq⟩:=cQ (k:=.i) (e:=λx=>x) (hV.1.rd fM) cU;rw[lJ];refine⟨⟨aB,aB⟩,aA hq (aE (k:=.i) u[e] cq ?_)⟩;have done:∀(r:Sl) (L:List Int) w5 S3,aZ (vA a (u.set e nO)) (jB cZ 1 eI r L) w5 S3->Up S S3 w4 w5->L=(if decide (u[e]>0)==decide (nO>0) then [] else [(e:Int)])->X (r,(aQ ((0:Int)+(1:Int))),()) w5:=λr L w5 S3 h5 u5 hL=>by
   subst hL;exact hX 0 _ _ aB (.inr ⟨rfl,by rw[gV aB aB];rfl,hQ r w5 S3 h5 (U2.tr u5)⟩)
  refine aF (λgH=>?_) (λheq=>?_)
  ·refine cD (cs:=[aD (e:Int)]) λw5 b5 k5 z5=>?_
   have hs5:aZ (aZ (sM a NC [sv sl]) (jB cZ 1 eI sl u)) (jB cZ 1 eI bD ([]:List Int)) w5 S:=aZ.oG (bF.kp (A:=aZ (sM a NC [sv sl]) (jB cZ 1 eI sl u)) ⟨S1,S2,hB,hV,d,ee⟩ k5) Fk;obtain⟨S6,h6,_,yF⟩:=(aZ.r hs5).put;refine EC (x:=⟨some ⟨w4.heap.size,0,none⟩,1,1⟩) iN fM EZ h6 (jN fM [(e:Int)] b5 rfl dJ) dJ aB λr w6 S7 v7 u7=>?_;obtain⟨S8,h8,u8⟩:=yF _ w6 S7 u7 v7;obtain⟨S9,h9,_,Be⟩:=((aZ.l h8).c λT hT=>aZ.r hT).put;obtain⟨GA,IX,_,_⟩:=((aZ.l h8).c λT hT=>aZ.l hT).put;refine aA rfl (aE (k:=.slice) sl (aP IX rfl) ⟨⟨aB,aB⟩,aA hq ?_⟩);refine TO h9 hq he λw7 v9 u9=>?_;obtain⟨Nx,Ld,Lh⟩:=Be _ w7 _ u9 v9;refine done r [(e:Int)] w7 Nx (Ld.mono (λ_ h=>⟨sl,h⟩) λ_ h=>h) (((Up.aO k5).tr u8).tr Lh) ?_;rw[if_neg (by simpa using gH)]
  ·obtain⟨S9,h9,_,Be⟩:=(aZ.r (⟨S1,S2,hB,hV,d,ee⟩:aZ (sM a NC [sv sl]) (jB cZ 1 eI sl u) w4 S)).put
   refine aA rfl (aE (k:=.slice) sl (aP hB rfl) ⟨⟨aB,aB⟩,aA hq ?_⟩);refine TO h9 hq he λw7 v9 u9=>?_;obtain⟨Nx,Ld,Lh⟩:=Be _ w7 _ u9 v9;refine done bD [] w7 Nx (aZ.oG ⟨sl,Ld⟩ Fk) Lh ?_;rw[if_pos (by simpa using heq)]
 ·dsimp only at h ⊢
  subst h;exact aJ (λh=>absurd h (by decide)) (λ_=>hq)
def Hd(u:List Int)(e:Nat)(t:Int):List Int:=if decide (u[e]?.getD 0>0)==decide (t>0) then [] else [(e:Int)]
theorem SClose_i{nO:Int}{cJ:Sl}{e:Nat}{Q:Sl->Int->aH->Prop}(h:vA a u w S)(hr:Rd w cJ 1 eI [(e:Int)])(he:e<u.length)(ht:1<=nO/\nO<=1099511627776)
  (hQ:∀r w' S',aZ (vA a (u.set e nO)) (jB cZ 1 eI r (Hd u e nO)) w' S'->Up S S' w w'->Q r 0 w'):JZ (some ⟨a,0,none⟩) nO cJ w Q:=by
 unfold JZ;have e1:Hd u e nO=if decide (u[e]>0)==decide (nO>0) then [] else [(e:Int)]:=by unfold Hd;rw[gU he];rfl
 rw[e1] at hQ;refine aJ (λh=>aB) (λ_=>aJ (λh=>aB) (λ_=>?_));refine smay_i h hr ⟨aB,aB⟩ λw1 k1=>aF (λh=>by cases h) (λ_=>?_);exact sset_i (bF.kp h k1) (hr.aL k1 dA λ_ _=>id) he λr w2 S2 h2 u2=>hQ r w2 S2 h2 ((Up.aO k1).tr u2)
abbrev eSh(p:Int×Int):List Value:=[aD p.1,aD p.2]
theorem lenSh:∀x:Int×Int,(eSh x).length=2:=λ_=>rfl
theorem oneSh:∀x:Int×Int,∀v∈eSh x,v.oneCell'=true:=by intro x v hu;simp at hu;rcases hu with rfl|rfl<;>rfl
theorem eSh_ne(x:Int×Int):eSh x≠[]:=by simp
def jD(i:Nat):List Int->List (Int×Int)
 | []=>[]
 |x::r=>if x>0 then((i:Int),x)::jD (i+1) r else jD (i+1) r
theorem aBb(l m:List Int):∀i,jD i (l++m)=jD i l++jD (i+l.length) m:=by
 induction l with
 |nil=>intro i;rfl
 |cons a l ih=>
  intro i;rw[List.cons_append,jD,jD,ih,mV,show i+1+l.length=i+(l.length+1) by omega]
  split<;>rfl
theorem ZU(l:List Int):∀i,(jD i l).length<=l.length:=by
 induction l with
 |nil=>intro i;exact iX _
 |cons a l ih=>intro i;have:=ih (i+1);rw[jD];split<;>simp<;>omega
theorem SAll_i{Q:Sl->aH->Prop}(h:vA a u w S)(hu:u.length<=512)(hQ:∀r w',dP w' tShut 2 eSh r (jD 0 u)->aN w w'->(∀b,r.b=some b->w.heap.size<=b.block)->Q r w'):WZ (some ⟨a,0,none⟩) w Q:=by
 unfold WZ;obtain⟨sl,c,hr,hl⟩:=h.cell;refine aF (λh=>by simp at h) (λ_=>aA rfl (aE (k:=.slice) sl c ?_));refine bK (λn t w1=>∃(i:Nat) (r:Sl),i<=u.length/\n=u.length-i/\t=(r,(i:Int),())/\dP w1 tShut 2 eSh r (jD 0 (u.take i))/\aN w w1/\∀b,r.b=some b->w.heap.size<=b.block) u.length
  ⟨0,bD,iF _,rfl,rfl,dP.nil _ _ _ _,aY.refl _ _,λb hb=>by cases hb⟩ ?_
 rintro n t w1 ⟨i,r,hi,rfl,rfl,v1,k1,f1⟩ X hX;dsimp only;refine aJ (λcL=>?_) (λlK=>?_)
 ·have dF:i<u.length:=aB
  have cU:=gU dF;have sD:=FW dF;generalize u[i]=x at*;obtain⟨q,hq,cq⟩:=cQ (k:=.i) (e:=λx=>x) (hr.aL k1 dA λ_ _=>id) cU;have e1:jD 0 (u.take (i+1))=jD 0 (u.take i)++(if x>0 then [((i:Int),x)] else []):=by
   rw[sD,aBb,qF,Nat.min_eq_left hi,pU,jD,jD]
  rw[lJ,qM i aB];refine⟨⟨aB,cL⟩,aA hq (aE (k:=.i) x cq (aJ (λhx=>?_) (λhx=>?_)))⟩
  ·refine cD (cs:=eSh ((i:Int),x)) λw2 b2 k2 z2=>?_
   have hal:=ZU (u.take i) 0;rw[qF] at hal;refine fO pr lenSh oneSh (x:=⟨some ⟨w1.heap.size,0,none⟩,1,1⟩) (v1.aL k2 λ_ _=>id) (jN lenSh [((i:Int),x)] b2 rfl dJ) (by simp;omega) (by simp;omega) λr' w3 v3 m3 hr3 _=>?_;rw[if_pos hx] at e1;rw[<-e1] at v3;refine hX _ _ _ aB ⟨i+1,r',dF,rfl,rfl,v3,(k1.tr k2).fresh m3 λk ⟨b,hb,e⟩=>by rw[e];exact f1 b hb,λb hb=>?_⟩;rcases hr3 with h|⟨b',h,h2⟩
   ·exact f1 b (h.symm.trans hb)
   ·rw[hb] at h;cases h;have:=(k1.tr k2).size;omega
  ·rw[if_neg hx,sG] at e1
   exact hX _ _ _ aB ⟨i+1,r,dF,rfl,rfl,by rw[e1];exact v1,k1,f1⟩
 ·have ei:i=u.length:=aB
  subst ei;rw[pF] at v1;exact hQ r w1 v1 k1 f1
abbrev Gk(u:List Int):List Bool:=u.map λx=>decide (x>0)
theorem Ua{Q:Sl->aH->Prop}(h:vA a u w S)(hu:u.length<=512)(hQ:∀r w',dP w' yB 1 eB r (Gk u)->aN w w'->(∀b,r.b=some b->w.heap.size<=b.block)->Q r w'):AS (some ⟨a,0,none⟩) w Q:=by
 unfold AS;obtain⟨sl,c,hr,hl⟩:=h.cell;refine aF (λh=>by simp at h) (λ_=>aA rfl (aE (k:=.slice) sl c ?_));refine bK (λn t w1=>∃(i:Nat) (r:Sl),i<=u.length/\n=u.length-i/\t=(r,(i:Int),())/\dP w1 yB 1 eB r (Gk (u.take i))/\aN w w1/\∀b,r.b=some b->w.heap.size<=b.block) u.length
  ⟨0,bD,iF _,rfl,rfl,dP.nil _ _ _ _,aY.refl _ _,λb hb=>by cases hb⟩ ?_
 rintro n t w1 ⟨i,r,hi,rfl,rfl,v1,k1,f1⟩ X hX;dsimp only;refine aJ (λcL=>?_) (λlK=>?_)
 ·have dF:i<u.length:=aB
  have cU:=gU dF;have sD:=FW dF;generalize u[i]=x at*;have h1:=bF.kp h k1;obtain⟨sl1,c1,yy,Vs⟩:=h1.cell;obtain⟨q,hq,cq⟩:=cQ (k:=.i) (e:=λx=>x) yy cU;have e1:Gk (u.take (i+1))=Gk (u.take i)++[decide (x>0)]:=by rw[sD];simp
  rw[qM i aB];unfold NZ;refine aF (λ_=>aJ (λ_=>aA rfl (aE (k:=.slice) sl1 c1 (aJ (λ_=>aA rfl (aE (k:=.slice) sl1 c1 ?_)) (λh=>aB)))) (λh=>aB)) (λh=>by simp at h);rw[lJ];refine⟨⟨aB,aB⟩,aA hq (aE (k:=.i) x cq ?_)⟩;refine cD (cs:=eB (decide (x>0))) λw2 b2 k2 z2=>?_;refine fO Jv Wu oneB (x:=⟨some ⟨w1.heap.size,0,none⟩,1,1⟩) (v1.aL k2 λ_ _=>id) (jN Wu [decide (x>0)] b2 rfl dJ) (by simp;omega) (by simp;omega) λr' w3 v3 m3 hr3 _=>?_;rw[<-e1] at v3;refine hX _ _ _ aB ⟨i+1,r',dF,rfl,rfl,v3,(k1.tr k2).fresh m3 λk ⟨b,hb,e⟩=>by rw[e];exact f1 b hb,λb hb=>?_⟩;rcases hr3 with h|⟨b',h,h2⟩
  ·exact f1 b (h.symm.trans hb)
  ·rw[hb] at h;cases h;have:=(k1.tr k2).size;omega
 ·have ei:i=u.length:=aB
  subst ei;rw[pF] at v1;exact hQ r w1 v1 k1 f1
end
end
end Go.Proofs.YtihggjgakbgomaaGreat
namespace Go.Proofs.YtihggjgakbgomaaGreat
open Go Go.Den
section
theorem Tz{n:Nat}{w:aH}{Q:cO->aH->Prop}(hn:n<=512)(hQ:∀g w' S',vA g (List.replicate n 0) w' S'->aN w w'->(∀k,S' k->w.heap.size<=k)->Q (some ⟨g,0,none⟩) w'):uJ (n:Int) w Q:=by
 unfold uJ;refine aJ (λh=>aB) (λ_=>aJ (λh=>aB) (λ_=>?_));refine BZ iN (aX:=eI) 0 rfl fM aB (lM _) aB aB λw2 v2 k2=>?_;simp only[lJ] at v2 ⊢;have cL:w.heap.size<w2.heap.size:=v2.lt rfl;refine cD (cs:=[sv ⟨some ⟨w.heap.size,0,none⟩,n,n⟩]) λw3 b3 k3 z3=>?_;refine hQ w2.heap.size w3 _ ⟨_,aZ.vZ b3 ⟨v2.aL k3 λ_ _=>id,λ_=>Iff.rfl⟩ λk h1 ⟨b,hb,h2⟩=>by cases hb;rw[h2] at h1;have h1':w.heap.size=w2.heap.size:=h1;omega⟩ (k2.tr k3) λk hk=>hk.elim (λh=>aB) λ⟨b,hb,h⟩=>by cases hb;rw[h];exact iX _
def SJ(dL:Int)(u:List Int)(l:List (Int×Int)):List Int:=l.foldl (λu p=>if p.2<=dL then u.set p.1.toNat 0 else u) u
theorem Yv(dL:Int):∀(l:List (Int×Int)) (u:List Int),(SJ dL u l).length=u.length:=by
 intro l
 induction l with
 |nil=>intro u;rfl
 |cons p l ih=>
  intro u;show(SJ dL _ l).length=_;rw[ih];dsimp only
  split<;>simp
def VG(dL:Int)(l:List (Int×Int)):List Int:=(l.filter λp=>decide (p.2<=dL)).map (·.1)
theorem aBa(u:List Int):∀(i:Nat) (p:Int×Int),p∈jD i u->∃j:Nat,p.1=((i+j:Nat):Int)/\u[j]? =some p.2/\p.2>0:=by
 induction u with
 |nil=>intro i p h;cases h
 |cons x r ih=>
  intro i p h;rw[jD] at h;have rec_:p∈jD (i+1) r->∃j:Nat,p.1=((i+j:Nat):Int)/\(x::r)[j]? =some p.2/\p.2>0:=λh=>by
   obtain⟨j,h1,h2,h3⟩:=ih (i+1) p h;exact⟨j+1,by rw[h1];congr 1;omega,by simpa using h2,h3⟩
  split at h
  ·rcases jL.1 h with rfl|h
   ·exact⟨0,rfl,rfl,by assumption⟩
   ·exact rec_ h
  ·exact rec_ h
section
variable{w:aH}{S:BS}{a:Nat}{u:List Int}
theorem Lapse_i{dL:Int}{Q:Sl->aH->Prop}(h:vA a u w S)(hu:u.length<=512)
  (hQ:∀r w' S',aZ (vA a (SJ dL u (jD 0 u))) (jB cZ 1 eI r (VG dL (jD 0 u))) w' S'->Up S S' w w'->Q r w'):JY (some ⟨a,0,none⟩) dL w Q:=by
 unfold JY;refine SAll_i h hu λs1 w1 v1 k1 f1=>?_;have Fk:∀{wx:aH},jB cZ 1 eI bD ([]:List Int) wx (λ_=>False):=λ{wx}=>⟨dP.nil _ _ _ _,λk=>⟨False.elim,λ⟨b,hb,_⟩=>by cases hb⟩⟩;have fW:=ZU u 0;have fP:=aBa u 0;generalize jD 0 u=Lj at*;have o1:BD s1 S w1:=λb hb=>⟨λhk=>by have:=bF.gI h _ hk;have:=f1 b hb;omega,v1.lt hb⟩;have sl:=v1.len;refine bK (λn t w2=>∃(i:Nat) (r:Sl) (S2:BS),i<=Lj.length/\n=Lj.length-i/\t=(r,(i:Int),())/\aZ (vA a (SJ dL u (Lj.take i))) (jB cZ 1 eI r (VG dL (Lj.take i))) w2 S2/\Up S S2 w w2/\Rd w2 s1 2 eSh Lj/\BD s1 S2 w2) Lj.length
  ⟨0,bD,S,iF _,rfl,rfl,aZ.oG (bF.kp h k1) Fk,Up.aO k1,v1.rd lenSh,o1⟩ ?_
 rintro n t w2 ⟨i,r,S2,hi,rfl,rfl,h2,u2,r2,o2⟩ X hX;dsimp only;refine aJ (λcL=>?_) (λlK=>?_)
 ·have dF:i<Lj.length:=aB
  have cU:=gU dF;have sD:=FW dF;have hm:=fP _ (oE dF);generalize Lj[i]=p at*;obtain⟨e,t⟩:=p;obtain⟨j,hj1,hj2,hj3⟩:=hm;rw[pU] at hj1;have hj1':e=(j:Int):=hj1;have hju:j<u.length:=(kY.1 hj2).1;subst hj1';obtain⟨q,hq,hh⟩:=r2.get i _ cU;rw[lJ,qM i aB];refine⟨⟨aB,cL⟩,aA hq (bJ (l:=[.i,.i]) ((j:Int),t,()) hh ?_)⟩;refine eZ (zs:=[aD 0,aD 0]) (vs:=eSh ((j:Int),t)) aAA rfl (oneSh _) λw4 o4 k4 z4=>?_;have c4:=Rl o4;have h4:=bF.kp h2 k4;have dW:∀r' w' S',aZ (vA a (SJ dL u (Lj.take (i+1)))) (jB cZ 1 eI r' (VG dL (Lj.take (i+1)))) w' S'->Up S2 S' w2 w'->X (r',((i+1:Nat):Int),()) w':=λr' w' S' h' u'=>
   hX _ _ _ aB ⟨i+1,r',S',dF,rfl,rfl,h',u2.tr u',o2.rd u' r2 eSh_ne,o2.up u'⟩
  have eU:SJ dL u (Lj.take (i+1))=if t<=dL then(SJ dL u (Lj.take i)).set j 0 else SJ dL u (Lj.take i):=by
   unfold SJ;rw[sD,List.foldl_append];rfl
  have eL:VG dL (Lj.take (i+1))=VG dL (Lj.take i)++if t<=dL then [(j:Int)] else []:=by
   unfold VG;rw[sD,JB,yA];congr 1
   by_cases ht:t<=dL<;>simp[ht]
  refine aE (k:=.i) t c4.2 (aJ (λht=>?_) (λht=>?_))
  ·rw[if_pos ht] at eU eL
   have kd:=k4.tr (bO w4);have h4d:=bF.kp h2 kd;have c4d:=(bO w4).cell c4.1 id;obtain⟨SA,SV,⟨sl,SB,SU,hB,hU,dBU,eBU⟩,hV,dAV,eAV⟩:=h4d;have hlu:=hU.1.len;have hj:j<(SJ dL u (Lj.take i)).length:=by rw[Yv];exact hju
   have h5:aZ (aZ (sM a NC [sv sl]) (jB cZ 1 eI sl (SJ dL u (Lj.take i)))) (jB cZ 1 eI r (VG dL (Lj.take i))) w4.drew S2:=⟨SA,SV,⟨SB,SU,hB,hU,dBU,eBU⟩,hV,dAV,eAV⟩;refine aA rfl (aE (k:=.slice) sl (aP hB rfl) (aE (k:=.i) (j:Int) c4d ⟨⟨aB,aB⟩,?_⟩));rw[lJ];obtain⟨S6,h6,_,yF⟩:=((aZ.l h5).c λT hT=>aZ.r hT).put;obtain⟨b,hb⟩:∃b,sl.b=some b:=by
    obtain⟨a',pE,_⟩:=(hU.1.rd fM).get j _ (gU hj);exact⟨a',pE⟩
   have bd:=bF.gI h2;refine aA hb (TO h6 hb hj λw5 v5 u5=>?_);obtain⟨S7,h7,u7⟩:=yF _ w5 _ u5 v5;have c5:w5.cell? ((⟨w2.heap.size,0,none⟩:Addr).add 0)=some (aD (j:Int)):=u7.m.cell c4d λhk=>by
    have lT:S2 w2.heap.size:=hk;have:=bd _ lT;omega
   refine aE (k:=.i) (j:Int) c5 ?_;refine cD (cs:=[aD (j:Int)]) λw6 b6 k6 z6=>?_;obtain⟨S8,h8,_,MP⟩:=(aZ.r (bF.kp h7 k6)).put;have hLl:(VG dL (Lj.take i)).length<=512:=by
    unfold VG;rw[lD];have:=wD (λp:Int×Int=>decide (p.2<=dL)) (Lj.take i);rw[qF] at this;omega
   refine EC (x:=⟨some ⟨w5.heap.size,0,none⟩,1,1⟩) iN fM EZ h8 (jN fM [(j:Int)] b6 rfl dJ) (by simp;omega) aB λr' w7 S9 v9 u9=>?_;obtain⟨GA,IX,Ev⟩:=MP _ w7 S9 u9 v9;refine dW r' w7 GA ?_ (((Up.aO kd).tr u7).tr ((Up.aO k6).tr Ev));rw[eU,eL];exact IX.mono (λ_ h=>⟨sl,h⟩) λ_ h=>h
  ·rw[if_neg ht] at eU eL
   rw[sG] at eL;refine dW r w4 S2 ?_ (Up.aO k4);rw[eU,eL];exact h4
 ·have ei:i=Lj.length:=aB
  subst ei;rw[pF] at h2;exact hQ r w2 S2 h2 u2
end
end
section
theorem wI.filter{α:Type}{f:α->As}(p:α->Bool):∀{l:List α} {w:aH} {S:BS},wI f l w S->aZ (wI f (l.filter p)) (wI f (l.filter λx=>!p x)) w S
 | [],w,S,h=>⟨S,S,h,h,λk hk=>absurd hk (h k),λk=>⟨.inl,λh=>h.elim id id⟩⟩
 |x::r,w,S,⟨S1,S2,h1,h2,d,e⟩=>by
  obtain⟨T1,T2,g1,g2,d',e'⟩:=wI.filter (f:=f) p h2;cases hp:p x with
  |true=>
   rw[List.filter_cons_of_pos hp,List.filter_cons_of_neg (by simp[hp])];exact⟨λk=>S1 k\/T1 k,T2,⟨S1,T1,h1,g1,λk a b=>d k a ((e' k).2 (.inl b)),λ_=>Iff.rfl⟩,g2,λk a b=>a.elim (λa=>d k a ((e' k).2 (.inr b))) λa=>d' k a b,λk=>by rw[e k,e' k,or_assoc]⟩
  |false=>
   rw[List.filter_cons_of_neg (by simp[hp]),List.filter_cons_of_pos (by simp[hp])];refine⟨T1,λk=>S1 k\/T2 k,g1,⟨S1,T2,h1,g2,λk a b=>d k a ((e' k).2 (.inr b)),λ_=>Iff.rfl⟩,λk a b=>b.elim (λb=>d k b ((e' k).2 (.inl a))) λb=>d' k a b,λk=>?_⟩;rw[e k,e' k]
   constructor
   ·rintro(h|h|h)
    ·exact .inr (.inl h)
    ·exact .inl h
    ·exact .inr (.inr h)
   ·rintro(h|h|h)
    ·exact .inr (.inl h)
    ·exact .inl h
    ·exact .inr (.inr h)
theorem wI.get{α:Type}{f:α->As}:∀{l:List α} {w:aH} {S:BS} {x:α},wI f l w S->x∈l->∃S1,f x w S1/\∀k,S1 k->S k
 |y::r,w,S,x,⟨S1,S2,h1,h2,d,e⟩,hx=>by
  rcases jL.1 hx with rfl|hx
  ·exact⟨S1,h1,λk hk=>(e k).2 (.inl hk)⟩
  ·obtain⟨T,g,hT⟩:=wI.get h2 hx
   exact⟨T,g,λk hk=>(e k).2 (.inr (hT k hk))⟩
def uP(ee s:Nat)(p:FZ):As:=Ex λsl=>aZ (sM s Xi (eSe ee p sl)) (CX 1 eI sl p.lL)
instance{ee s:Nat}{p:FZ}:bF (uP ee s p):=by unfold uP;infer_instance
structure Bs(W0:aH)(E:qQ)(G:Gr)(S:BS)(w:aH):Prop where
 zj:zK W0 E G
 k0:aN W0 w
 lo:∀k,S k->W0.heap.size<=k
section
variable{W0 w w':aH}{E:qQ}{G:Gr}{S S' S1:BS}
theorem Bs.up(h:Bs W0 E G S w)(u:Up S S' w w'):Bs W0 E G S' w':=⟨h.zj,h.k0.fresh u.m h.lo,λk hk=>(u.s k hk).elim (h.lo k) λhh=>iG h.k0.size hh⟩
theorem Bs.sub(h:Bs W0 E G S w)(hs:∀k,S' k->S k):Bs W0 E G S' w:=⟨h.zj,h.k0,λk hk=>h.lo k (hs k hk)⟩
theorem Bs.kp(h:Bs W0 E G S w)(k:aN w w'):Bs W0 E G S w':=⟨h.zj,h.k0.tr k,h.lo⟩
theorem Bs.e(h:Bs W0 E G S w):zK w E G:=h.zj.aO h.k0
theorem uP.at{s:Nat}{p:FZ}(hb:Bs W0 E G S w)(h:uP E.e s p w S):jE (λk=>k<w.heap.size/\(k=s\/¬S k)) W0 w s E G p:=by
 obtain⟨sl,S1,S2,h1,h2,d,e⟩:=h;have hs:S1 s:=(h1.2 s).2 rfl;refine⟨hb.zj,hb.k0,hb.lo s ((e s).2 (.inl hs)),⟨sl,h1.1,h2.1,λb Aq=>⟨λhf=>?_,h2.2.2.1 b Aq⟩⟩,⟨h1.1.lt,.inl rfl⟩⟩;have hS2:S2 b.block:=(h2.2.2.2 _).2 ⟨b,Aq,rfl⟩;rcases hf.2 with hf|hf
 ·exact d _ (by rw[hf];exact hs) hS2
 ·exact hf ((e _).2 (.inr hS2))
theorem uP.of{s:Nat}{p:FZ}(hsw:s<w.heap.size)(hS:S s)(h:jE (λk=>k<w.heap.size/\(k=s\/¬S k)) W0 w' s E G p):∃S',uP E.e s p w' S'/\∀k,S' k->S k\/w.heap.size<=k:=by
 obtain⟨sl,h1,h2,h3⟩:=h.gN;have key:∀b,sl.b=some b->(w.heap.size<=b.block\/(S b.block/\b.block≠s)):=λb hb=>by
  have:=(h3 b hb).1
  by_cases cL:b.block<w.heap.size
  ·refine .inr ⟨?_,λe=>this ⟨cL,.inl e⟩⟩
   exact Classical.byContradiction λhn=>this ⟨cL,.inr hn⟩
  ·exact .inl aB
 refine⟨λk=>k=s\/∃b,sl.b=some b/\k=b.block,⟨sl,aZ.vZ ⟨h1,λ_=>Iff.rfl⟩ ⟨h2,dA,λb hb=>(h3 b hb).2,λ_=>Iff.rfl⟩ λk hk ⟨b,hb,e⟩=>?_⟩,λk hk=>?_⟩
 ·have lT:k=s:=hk
  rcases key b hb with h|h
  ·omega
  ·exact h.2 aB
 ·rcases hk with rfl|⟨b,hb,rfl⟩
  ·exact .inl hS
  ·exact(key b hb).elim .inr λh=>.inl h.1
theorem uP.Vy{ee s:Nat}{p:FZ}(h:uP ee s p w S):S s/\s<w.heap.size:=by
 obtain⟨sl,S1,S2,h1,h2,d,e⟩:=h;exact⟨(e s).2 (.inl ((h1.2 s).2 rfl)),h1.1.lt⟩
theorem SRep_i{s:Nat}{p:FZ}{pos:Int}{dD:Sl}{c:List Bool}{Q:Sl->aH->Prop}(hb:Bs W0 E G S w)(h:uP E.e s p w S)(fc:UN G p)(hc:Rd w dD 1 eB c)(Qy:∀b,dD.b=some b->¬S b.block)
  (hQ:∀z ms w' S',jz G c p pos z->uP E.e s z.1 w' S'->Up S S' w w'->UN G z.1->fJ w' (λk=>w.heap.size<=k) ms z.2->z.2.length<=2->Q ms w'):yV (some ⟨s,0,none⟩) pos dD w Q:=by
 obtain⟨hS,cL⟩:=h.Vy;refine Report_i (h.at hb) fc hc (λb Aq e=>Qy b Aq (by rw[e];exact hS)) (λk hk=>hk.1) λz ms w' hz h' Qv hm hl m=>?_;obtain⟨S',h2,h3⟩:=uP.of cL hS h';exact hQ z ms w' S' hz h2 ⟨m.mono λk _ e=>by rw[show k=s from e];exact hS,h3⟩ Qv hm hl
theorem SChg_i{s:Nat}{p:FZ}{CY open_ dD:Sl}{sh op:List Int}{c:List Bool}{Q:Sl->aH->Prop}(hb:Bs W0 E G S w)(h:uP E.e s p w S)(fc:UN G p)(hsh:Rd w CY 1 eI sh)(hshl:sh.length<1000000)(Ff:Rd w open_ 1 eI op)(hc:Rd w dD 1 eB c)
  (hQ:∀z ms w' S',kc G c p sh op z->uP E.e s z.1 w' S'->Up S S' w w'->UN G z.1->fJ w' (λk=>w.heap.size<=k) ms z.2->z.2.length<=2->Q ms w'):vL (some ⟨s,0,none⟩) CY open_ dD w Q:=by
 obtain⟨hS,cL⟩:=h.Vy;refine aBE (h.at hb) fc hsh hshl Ff hc (λk hk=>hk.1) λz ms w' hz h' Qv hm hl m=>?_;obtain⟨S',h2,h3⟩:=uP.of cL hS h';exact hQ z ms w' S' hz h2 ⟨m.mono λk _ e=>by rw[show k=s from e];exact hS,h3⟩ Qv hm hl
theorem SNewF_i{at_ node:Int}{dD:Sl}{c:List Bool}{Q:cO->Sl->Int->aH->Prop}(hb:Bs W0 E G S w)(hc:Rd w dD 1 eB c)
  (SK:¬(G.pP at_/\G.UL node)->Q none bD 1 w)
  (hQ:G.pP at_->G.UL node->∀z ms s w' S',VP G c (Wq at_ node) z->uP E.e s z.1 w' S'->(∀k,S' k->w.heap.size<=k)->UN G z.1->fJ w' (λk=>w.heap.size<=k) ms (iU::z.2)->z.2.length<=2/\1<=z.2.length->aN w w'->Q (some ⟨s,0,none⟩) ms 0 w'):
  sX (some ⟨E.e,0,none⟩) at_ node dD w Q:=by
 refine SNew_i hb.e hc SK λhE hN z ms w' hz h ok hm hl k=>?_;obtain⟨sl,h1,h2,h3⟩:=h.gN;refine hQ hE hN z ms _ w' (λk=>k=w.heap.size\/∃b,sl.b=some b/\k=b.block) hz ⟨sl,aZ.vZ ⟨h1,λ_=>Iff.rfl⟩ ⟨h2,dA,λb hb=>(h3 b hb).2,λ_=>Iff.rfl⟩ λk hk ⟨b,hb,e⟩=>?_⟩ (λk hk=>?_) ok (hm.wk λk hk _=>Nat.le_of_lt hk) hl k
 ·have:=(h3 b hb).1
  omega
 ·rcases hk with h|⟨b,hb,e⟩
  ·omega
  ·have:=(h3 b hb).1;omega
end
structure cV where
 a:Nat
 cp:Nat
 sp:Nat
 aM:Nat
 aK:Int
 kM:Int
abbrev Xa(e:cV):List Value:=[aD (e.aM:Int),aD e.aK,.pointer (some ⟨e.cp,0,none⟩),.pointer (some ⟨e.sp,0,none⟩),aD e.kM]
def JL(e:cV):As:=sM e.a ZB (Xa e)
instance{e:cV}:bF (JL e):=by unfold JL;infer_instance
structure sP where
 eE:Nat
 aT:List cV
 gr:Int->Option Ll.T
abbrev sP.grI(t:sP)(p:Int):Int:=(t.gr p).getD (0:Int)
structure sP.Ok(t:sP):Prop where
 eE:1<=t.eE/\t.eE<=16
 len:t.aT.length<=t.eE
 sC:t.aT.Pairwise λe f=>e.aM<f.aM
 aM:∀e∈t.aT,e.aM<16
def sR(l:List cV):Int->Option qS.T:=λx=>(l.find? λe=>(e.aM:Int)==x).map λe=>some ⟨e.a,0,none⟩
def YX(a m1 m2 ng:Nat)(t:sP):As:=aZ (sM a kj [aD (t.eE:Int),.map (some m1),.map (some m2)]) (aZ (uQ m1 CW qS (sR t.aT) t.aT.length) (aZ (uQ m2 CW Ll t.gr ng) (wI JL t.aT)))
instance{a m1 m2 ng:Nat}{t:sP}:bF (YX a m1 m2 ng t):=by unfold YX;infer_instance
def DC(a:Nat)(t:sP):As:=Ex λm1:Nat=>Ex λm2:Nat=>Ex λng:Nat=>YX a m1 m2 ng t
instance{a:Nat}{t:sP}:bF (DC a t):=by unfold DC;infer_instance
abbrev Lp(p:cO):List Value:=[.pointer p]
theorem GS:∀p:cO,(Lp p).length=1:=λ_=>rfl
theorem onePt:∀p:cO,∀u∈Lp p,u.oneCell'=true:=by intro p u hu;simp at hu;subst hu;rfl
theorem FJ(p:cO):Lp p≠[]:=by simp
abbrev xI(e:cV):cO:=some ⟨e.a,0,none⟩
section
variable{w:aH}{S:BS}{a m1 m2 ng:Nat}{t:sP}
theorem YX.cells(h:YX a m1 m2 ng t w S):w.cell? ((⟨a,0,none⟩:Addr).add 0)=some (aD (t.eE:Int))/\w.cell? ((⟨a,0,none⟩:Addr).add 1)=some (.map (some m1))/\w.cell? ((⟨a,0,none⟩:Addr).add 2)=some (.map (some m2)):=by
 obtain⟨S1,S2,h1,_⟩:=h;exact⟨aP h1 rfl,aP h1 rfl,aP h1 rfl⟩
theorem YX.map1(h:YX a m1 m2 ng t w S):jT w m1 CW qS (sR t.aT) t.aT.length:=by
 obtain⟨_,_,_,⟨_,_,h,_⟩,_⟩:=h;exact h.1
theorem YX.map2(h:YX a m1 m2 ng t w S):jT w m2 CW Ll t.gr ng:=by
 obtain⟨_,_,_,⟨_,_,_,⟨_,_,h,_⟩,_⟩,_⟩:=h;exact h.1
theorem YX.aT(h:YX a m1 m2 ng t w S):∃T,wI JL t.aT w T/\∀k,T k->S k:=by
 obtain⟨_,_,_,⟨_,_,_,⟨_,_,_,h,_,e3⟩,_,e2⟩,_,e1⟩:=h;exact⟨_,h,λk hk=>(e1 k).2 (.inr ((e2 k).2 (.inr ((e3 k).2 (.inr hk)))))⟩
theorem DC.Dv(h:DC a t w S){e:cV}(he:e∈t.aT):cW w e.a ZB (Xa e)/\S e.a:=by
 obtain⟨m1,m2,ng,h⟩:=h;obtain⟨T,hT,hs⟩:=h.aT;obtain⟨S1,h1,vY⟩:=wI.get hT he;exact⟨h1.1,hs _ (vY _ ((h1.2 _).2 rfl))⟩
theorem sP.Ok.inj{t:sP}(ok:t.Ok){e f:cV}(he:e∈t.aT)(hf:f∈t.aT)(hp:e.aM=f.aM):e=f:=by
 have:=ok.sC;generalize t.aT=l at*
 induction l with
 |nil=>cases he
 |cons x r ih=>
  rw[List.pairwise_cons] at this;rcases jL.1 he with e1|uM<;>rcases jL.1 hf with e2|YI
  ·rw[e1,e2]
  ·have:=this.1 f YI;rw[e1] at hp;omega
  ·have:=this.1 e uM;rw[e2] at hp;omega
  ·exact ih uM YI this.2
theorem PF{t:sP}(ok:t.Ok){e:cV}(he:e∈t.aT):sR t.aT (e.aM:Int)=some (xI e):=by
 unfold sR;cases hf:t.aT.find? λx=>(x.aM:Int)==(e.aM:Int) with
 |none=>have:=List.find?_eq_none.1 hf e he;simp at this
 |some f=>
  have h1:=List.mem_of_find?_eq_some hf;have h2:=List.find?_some hf;have Wj:(f.aM:Int)=e.aM:=by simpa using h2
  have:f=e:=ok.inj h1 he aB;rw[this];rfl
theorem CL{l:List cV}{x:Int}{p:qS.T}(h:sR l x=some p):∃e∈l,(e.aM:Int)=x/\p=xI e:=by
 unfold sR at h;cases hf:l.find? λe=>(e.aM:Int)==x with
 |none=>rw[hf] at h;cases h
 |some e=>
  rw[hf] at h;exact⟨e,List.mem_of_find?_eq_some hf,by simpa using List.find?_some hf,by cases h;rfl⟩
theorem aAu{l m:List Int}(hl:l.Pairwise (·<·))(hm:m.Pairwise (·<·))(h:∀x,x∈l↔x∈m):l=m:=by
 have nl:l.Nodup:=hl.imp λh e=>aB;have nm:m.Nodup:=hm.imp λh e=>aB;exact List.Perm.eq_of_pairwise (le:=λa b:Int=>a<b) (λa b _ _ h1 h2=>aB) hl hm ((List.perm_ext_iff_of_nodup nl nm).2 h)
theorem Hh{Q:Sl->aH->Prop}(h:DC a t w S)(ok:t.Ok)(hQ:∀r w',dP w' Te 1 Lp r (t.aT.map xI)->aN w w'->(∀b,r.b=some b->w.heap.size<=b.block)->Q r w'):yP (some ⟨a,0,none⟩) w Q:=by
 unfold yP;obtain⟨m1,m2,ng,h⟩:=h;refine aF (λh=>by simp at h) (λ_=>aA rfl (aE (k:=.map) (some m1) h.cells.2.1 ?_));have hm:=ok.eE;have hln:=ok.len;refine aBe h.map1 (λx hx=>?_) aB λs1 ks w2 v2 k2 f2 IT DL fo=>?_
 ·obtain⟨p,hp⟩:=Fo.1 hx
  obtain⟨e,he,zd,_⟩:=CL hp;have:=ok.aM e he;exact⟨aB,aB⟩
 have eks:ks=t.aT.map λe=>(e.aM:Int):=by
  refine aAu IT ?_ λx=>?_
  ·rw[List.pairwise_map];exact ok.sC.imp λh=>aB
  ·rw[DL]
   constructor
   ·intro hx
    obtain⟨p,hp⟩:=Fo.1 hx;obtain⟨e,he,zd,_⟩:=CL hp;exact lN.2 ⟨e,he,zd⟩
   ·intro hx
    obtain⟨e,he,rfl⟩:=lN.1 hx;rw[PF ok he];rfl
 subst eks;have sl:=v2.len;rw[lD] at sl;have o1:=v2.rd fM;refine bK (λn tt w3=>∃(i:Nat) (r:Sl),i<=t.aT.length/\n=t.aT.length-i/\tt=(r,(i:Int),())/\dP w3 Te 1 Lp r ((t.aT.take i).map xI)/\aN w2 w3/\∀b,r.b=some b->w2.heap.size<=b.block) t.aT.length
  ⟨0,bD,iF _,rfl,rfl,dP.nil _ _ _ _,aY.refl _ _,λb hb=>by cases hb⟩ ?_
 rintro n tt w3 ⟨i,r,hi,rfl,rfl,v3,k3,f3⟩ X hX;dsimp only;refine aJ (λcL=>?_) (λlK=>?_)
 ·have dF:i<t.aT.length:=aB
  have cU:=gU dF;have fP:=oE dF;have sD:=FW dF;generalize t.aT[i]=e at*;obtain⟨q,hq,cq⟩:=cQ (k:=.i) (e:=λx=>x) (o1.aL k3 dA λ_ _=>id) (show(t.aT.map λe=>(e.aM:Int))[i]? =some (e.aM:Int) by rw[mY,cU];rfl);have h3:=bF.kp h (k2.tr k3);rw[lJ,qM i aB];refine⟨⟨aB,cL⟩,aA hq (aE (k:=.i) (e.aM:Int) cq (aA rfl (aE (k:=.map) (some m1) h3.cells.2.1 ?_)))⟩;refine wV (kn:=qS) OR kT (z:=(none:cO)) ED h3.map1 (e.aM:Int) ?_;have hg:(sR t.aT (e.aM:Int)).getD (none:cO)=xI e:=by rw[PF ok fP];rfl
  rw[hg];refine cD (cs:=Lp (xI e)) λw4 b4 k4 z4=>?_;refine fO XT GS onePt (x:=⟨some ⟨w3.heap.size,0,none⟩,1,1⟩) (v3.aL k4 λ_ _=>id) (jN GS [xI e] b4 rfl dJ) (by simp;omega) (by simp;omega) λr' w5 v5 m5 hr5 _=>?_;refine hX _ _ _ aB ⟨i+1,r',dF,rfl,rfl,by rw[sD,yA];exact v5,(k3.tr k4).fresh m5 λk ⟨b,hb,e⟩=>by rw[e];exact f3 b hb,λb hb=>?_⟩;rcases hr5 with h|⟨b',h,h2⟩
  ·exact f3 b (h.symm.trans hb)
  ·rw[hb] at h;cases h;have:=(k3.tr k4).size;omega
 ·have ei:i=t.aT.length:=aB
  subst ei;rw[pF] at v3;exact hQ r w3 v3 (k2.tr k3) λb hb=>by have:=f3 b hb;have:=k2.size;omega
theorem TGet_i{aM:Nat}{aK:Int}{Q:cO->aH->Prop}(h:DC a t w S)(ok:t.Ok)(hQ1:∀e∈t.aT,e.aM=aM->e.aK=aK->Q (xI e) w)(hQ0:(∀e∈t.aT,¬(e.aM=aM/\e.aK=aK))->Q none w):
  XH (some ⟨a,0,none⟩) (aM:Int) aK w Q:=by
 unfold XH;have h0:=h;obtain⟨m1,m2,ng,h⟩:=h;refine aF (λh=>by simp at h) (λ_=>aA rfl (aE (k:=.map) (some m1) h.cells.2.1 ?_));refine wV (kn:=qS) OR kT (z:=(none:cO)) ED h.map1 (aM:Int) ?_;cases hf:sR t.aT (aM:Int) with
 |none=>
  refine aF (λh=>(by have h':(false:Bool)=true:=h;cases h')) (λ_=>hQ0 λe he hh=>?_);have:=PF ok he;rw[hh.1,hf] at this;cases this
 |some p=>
  obtain⟨e,he,zd,rfl⟩:=CL hf;refine aF (λ_=>?_) (λh=>(by have h':(true:Bool)=false:=h;cases h'));refine aA rfl (aE (k:=.i) e.aK (dO (h0.Dv he).1 rfl) (aF (λhc=>hQ1 e he aB (by simpa using hc)) (λhc=>hQ0 λf hfm hh=>?_)));have:f=e:=ok.inj hfm he aB;rw[this] at hh;rw[hh.2] at hc;simp at hc
def sP.uV(t:sP)(aM:Nat)(aK:Int):Int:=
 if aK<=t.grI (aM:Int) then 6 else if t.eE<=t.aT.length/\∀e∈t.aT,e.aM≠aM then 5 else 0
theorem TMay_i{aM:Nat}{aK:Int}{Q:Int->aH->Prop}(h:DC a t w S)(ok:t.Ok)(hp:aM<16)(hc:1<=aK/\aK<=2147483648)(hQ:∀w',aN w w'->Q (t.uV aM aK) w'):NN (some ⟨a,0,none⟩) (aM:Int) aK w Q:=by
 unfold NN;obtain⟨m1,m2,ng,h⟩:=h;intro J1 OP;refine aF (λh=>by simp at h) (λ_=>aJ (λh=>aB) (λ_=>aJ (λh=>aB) (λ_=>aJ (λh=>aB) (λ_=>?_))));rw[decide_eq_false aB];apply OP;refine aF (λh=>by cases h) (λ_=>aA rfl (aE (k:=.map) (some m2) h.cells.2.2 ?_));refine wV (kn:=Ll) pB kT (z:=(0:Int)) NA h.map2 (aM:Int) ?_;unfold sP.uV at hQ;obtain⟨gv,fq⟩:∃gv:Int,(t.gr (aM:Int)).getD (0:Int)=gv:=⟨_,rfl⟩;have hgv':t.grI (aM:Int)=gv:=fq;rw[hgv'] at hQ;rw[fq];refine aJ (λFX=>?_) (λFX=>?_)
 ·have:=hQ w (aY.refl _ _)
  rwa[if_pos FX] at this
 have hd:=bF.dr h;have kd:=bO w;refine aA rfl (aE (k:=.map) (some m1) hd.cells.2.1 (aA rfl (aE (k:=.i) (t.eE:Int) hd.cells.1 (Ys OR hd.map1 ⟨hd.cells.1,?_⟩))));have ru:=hQ w.drew kd;rw[if_neg FX] at ru;refine aJ (λlK=>aA rfl (aE (k:=.map) (some m1) hd.cells.2.1 ?_)) (λlK=>?_)
 ·refine wV (kn:=qS) OR kT (z:=(none:cO)) ED hd.map1 (aM:Int) ?_
  cases hf:sR t.aT (aM:Int) with
  |none=>
   refine aF (λ_=>?_) (λh=>(by have h':(true:Bool)=false:=h;cases h'));rw[if_pos ⟨aB,λe he Wj=>by have:=PF ok he;rw[Wj,hf] at this;cases this⟩] at ru;exact ru
  |some p=>
   obtain⟨e,he,zd,rfl⟩:=CL hf;refine aF (λh=>(by have h':(false:Bool)=true:=h;cases h')) (λ_=>?_);rw[if_neg λhh=>hh.2 e he aB] at ru;exact ru
 ·rw[if_neg λhh=>aB] at ru
  exact ru
end
end
section
def TabX(a m1 m2 ng n:Nat)(f:Int->Option qS.T)(t:sP):As:=aZ (sM a kj [aD (t.eE:Int),.map (some m1),.map (some m2)]) (aZ (uQ m1 CW qS f n) (aZ (uQ m2 CW Ll t.gr ng) (wI JL t.aT)))
instance{a m1 m2 ng n:Nat}{f:Int->Option qS.T}{t:sP}:bF (TabX a m1 m2 ng n f t):=by unfold TabX;infer_instance
abbrev DY(l:List cV):Prop:=l.Pairwise λe f=>e.aM<f.aM
theorem wc{l:List cV}(h:DY l){e f:cV}(he:e∈l)(hf:f∈l)(hp:e.aM=f.aM):e=f:=by
 induction l with
 |nil=>cases he
 |cons x r ih=>
  rw[DY,List.pairwise_cons] at h;rcases jL.1 he with e1|uM<;>rcases jL.1 hf with e2|YI
  ·rw[e1,e2]
  ·have:=h.1 f YI;rw[e1] at hp;omega
  ·have:=h.1 e uM;rw[e2] at hp;omega
  ·exact ih h.2 uM YI
theorem WY{l:List cV}(h:DY l){x:Int}{p:qS.T}:sR l x=some p↔∃e∈l,(e.aM:Int)=x/\p=xI e:=by
 refine⟨CL,λ⟨e,he,hx,hp⟩=>?_⟩;cases hf:sR l x with
 |none=>
  have:=List.find?_eq_none.1 (Option.map_eq_none_iff.1 hf) e he;simp[hx] at this
 |some q=>
  obtain⟨f,hfm,hfx,rfl⟩:=CL hf;rw[hp,wc h hfm he aB]
theorem Ic{l:List cV}(hl:DY l){f:Int->Option qS.T}(h:∀x p,f x=some p↔∃e∈l,(e.aM:Int)=x/\p=xI e)(x:Int):sR l x=f x:=by
 apply Option.ext;intro p;rw[WY hl,h]
theorem Bw{l:List cV}{x:Int}:(sR l x).isSome=true↔∃e∈l,(e.aM:Int)=x:=by
 constructor
 ·intro h
  obtain⟨p,hp⟩:=Fo.1 h;obtain⟨e,he,hx,_⟩:=CL hp;exact⟨e,he,hx⟩
 ·rintro⟨e,he,hx⟩
  cases hf:sR l x with
  |some p=>rfl
  |none=>
   have:=List.find?_eq_none.1 (Option.map_eq_none_iff.1 hf) e he;simp[hx] at this
theorem Po{w:aH}{r n:Nat}{l:List cV}(hl:DY l)(h:jT w r CW qS (sR l) n):n=l.length:=by
 obtain⟨ks,h1,h2,h3⟩:=h.Ly;have e1:(l.map λe=>(e.aM:Int)).Nodup:=by
  have:(l.map λe=>(e.aM:Int)).Pairwise (·<·):=by rw[List.pairwise_map];exact hl.imp λh=>aB
  exact this.imp λh e=>aB
 have:=((List.perm_ext_iff_of_nodup h1 e1).2 λx=>by rw[h3,Bw,lN]).length_eq;rw[lD] at this;omega
def Fu(e:cV)(l:List cV):List cV:=(l.filter λf=>decide (f.aM<e.aM))++e::(l.filter λf=>!decide (f.aM<e.aM)).filter λf=>decide (e.aM<f.aM)
def oldE(p:Nat)(l:List cV):List cV:=(l.filter λf=>!decide (f.aM<p)).filter λf=>!decide (p<f.aM)
theorem oP{e f:cV}{l:List cV}:f∈Fu e l↔f=e\/(f∈l/\f.aM≠e.aM):=by
 unfold Fu;simp only[jS,jG,jL,decide_eq_true_eq,Bool.not_eq_true',decide_eq_false_iff_not]
 constructor
 ·rintro(⟨h1,h2⟩|h|⟨⟨h1,h2⟩,h3⟩)
  ·exact .inr ⟨h1,aB⟩
  ·exact .inl h
  ·exact .inr ⟨h1,aB⟩
 ·rintro(h|⟨h1,h2⟩)
  ·exact .inr (.inl h)
  ·by_cases h:f.aM<e.aM
   ·exact .inl ⟨h1,h⟩
   ·exact .inr (.inr ⟨⟨h1,h⟩,aB⟩)
theorem Hk{e:cV}{l:List cV}(h:DY l):DY (Fu e l):=by
 unfold Fu DY;rw[List.pairwise_append,List.pairwise_cons];refine⟨h.filter _,⟨λf hf=>by simp at hf;omega,(h.filter _).filter _⟩,λa ha b hb=>?_⟩;simp at ha hb;rcases hb with rfl|⟨_,hb⟩
 ·exact ha.2
 ·omega
theorem oldE_mem{p:Nat}{f:cV}{l:List cV}:f∈oldE p l↔f∈l/\f.aM=p:=by
 unfold oldE;simp only[jG,Bool.not_eq_true',decide_eq_false_iff_not]
 constructor
 ·rintro⟨⟨h1,h2⟩,h3⟩;exact⟨h1,aB⟩
 ·rintro⟨h1,h2⟩;exact⟨⟨h1,aB⟩,aB⟩
def Wy(p:Nat)(l:List cV):Bool:=l.any λe=>decide (e.aM=p)
theorem aAU{p:Nat}{l:List cV}{e:cV}:Wy p (l++[e])=(Wy p l ||decide (e.aM=p)):=by unfold Wy;rw[List.any_append];simp
theorem hasP_iff{p:Nat}{l:List cV}:Wy p l=true↔∃e∈l,e.aM=p:=by unfold Wy;simp
def sP.add(t:sP)(e:cV):sP:=⟨t.eE,Fu e t.aT,λy=>if y=(e.aM:Int) then some e.aK else t.gr y⟩
def sP.drop(t:sP)(p:Nat):sP:=⟨t.eE,t.aT.filter λf=>!decide (f.aM=p),t.gr⟩
theorem WK{α:Type}{f:α->As}:∀{l m:List α} {w:aH} {S:BS},aZ (wI f l) (wI f m) w S->wI f (l++m) w S
 | [],m,w,S,⟨S1,S2,h1,h2,d,e⟩=>As.ext h2 λk=>by
   rw[e k];exact⟨.inr,λh=>h.elim (λh=>absurd h (h1 k)) id⟩
 |x::l,m,w,S,h=>by
  have h':aZ (f x) (aZ (wI f l) (wI f m)) w S:=aZ.asr h;exact h'.mono (λ_ h=>h) λ_ h=>WK h
section
variable{w:aH}{S:BS}{a:Nat}{t:sP}
theorem TNew_i'{eE:Nat}{Q:cO->Int->aH->Prop}(hm:1<=eE/\eE<=16)(hQ:∀g w' S',DC g ⟨eE,[],λ_=>none⟩ w' S'->aN w w'->(∀k,S' k->w.heap.size<=k)->Q (some ⟨g,0,none⟩) 0 w'):EN (eE:Int) w Q:=by
 unfold EN;refine aJ (λh=>aB) (λ_=>aJ (λh=>aB) (λ_=>?_));refine qV (ek:=CW) (kn:=qS) λra k1=>qV (ek:=CW) (kn:=Ll) λyz k2=>?_;have z1:(w.alloc (.map #[] 0)).heap.size=w.heap.size+1:=by simp[World.alloc_eq]
 generalize w.alloc (.map #[] 0)=w1 at*;have z2:(w1.alloc (.map #[] 0)).heap.size=w1.heap.size+1:=by simp[World.alloc_eq]
 generalize w1.alloc (.map #[] 0)=w2 at*;refine cD (cs:=[aD (eE:Int),.map (some w.heap.size),.map (some w1.heap.size)]) λw3 b3 k3 z3=>?_;have a1:uQ w.heap.size CW qS (sR []) 0 w3 (λk=>k=w.heap.size):=⟨(ra.aL k2 id).aL k3 id,λ_=>Iff.rfl⟩;have a2:uQ w1.heap.size CW Ll (λ_=>none) 0 w3 (λk=>k=w1.heap.size):=⟨yz.aL k3 id,λ_=>Iff.rfl⟩;refine hQ _ w3 _ ⟨w.heap.size,w1.heap.size,0,aZ.vZ b3 (aZ.vZ a1 (aZ.emp a2) λk h1 h2=>?_) λk h1 h2=>?_⟩ ((k1.tr k2).tr k3) λk hk=>?_
 ·have h1':k=w.heap.size:=h1
  omega
 ·have h1':k=w2.heap.size:=h1
  rcases h2 with h2|h2
  ·have h2':k=w.heap.size:=h2;omega
  ·have h2':k=w1.heap.size:=h2;omega
 ·rcases hk with h|h|h
  ·have h':k=w2.heap.size:=h;omega
  ·have h':k=w.heap.size:=h;omega
  ·have h':k=w1.heap.size:=h;omega
theorem sP.may0{t:sP}{aM:Nat}{aK:Int}(h:t.uV aM aK=0):t.grI (aM:Int)<aK/\¬(t.eE<=t.aT.length/\∀e∈t.aT,e.aM≠aM):=by
 unfold sP.uV at h
 split at h
 ·omega
 ·split at h
  ·omega
  ·exact⟨aB,by assumption⟩
theorem sP.Ok.add{t:sP}(ok:t.Ok){e:cV}(hp:e.aM<16)(fW:(Fu e t.aT).length<=t.eE):(t.add e).Ok:=
 ⟨ok.eE,fW,Hk ok.sC,λf hf=>(oP.1 hf).elim (λh=>by rw[h];exact hp) λh=>ok.aM f h.1⟩
theorem sP.Ok.drop{t:sP}(ok:t.Ok)(p:Nat):(t.drop p).Ok:=
 ⟨ok.eE,iG (wD _ _) ok.len,ok.sC.filter _,λf hf=>ok.aM f (jG.1 hf).1⟩
theorem TAdd_i{e:cV}{Q:Int->aH->Prop}(h:aZ (DC a t) (JL e) w S)(ok:t.Ok)(hp:e.aM<16)(hc:1<=e.aK/\e.aK<=2147483648)(hm:t.uV e.aM e.aK=0)
  (hQ:∀w' S',aZ (DC a (t.add e)) (wI JL (oldE e.aM t.aT)) w' S'->Up S S' w w'->(t.add e).Ok->Q 0 w'):NO (some ⟨a,0,none⟩) (xI e) w Q:=by
 unfold NO;have hd:=bF.dr h;have cE:∀{wx:aH} {Sx:BS},aZ (DC a t) (JL e) wx Sx->wx.cell? ((⟨e.a,0,none⟩:Addr).add 0)=some (aD (e.aM:Int))/\wx.cell? ((⟨e.a,0,none⟩:Addr).add 1)=some (aD e.aK):=λhx=>by
  obtain⟨S1,S2,_,h2,_⟩:=hx;exact⟨aP h2 rfl,aP h2 rfl⟩
 refine aF (λh=>by simp at h) (λ_=>aF (λh=>by simp at h) (λ_=>aA rfl (aE (k:=.i) (e.aM:Int) (cE hd).1 (aA rfl (aE (k:=.i) e.aK (cE hd).2 ?_)))));obtain⟨Sx,hx,_,_⟩:=(aZ.l hd).put;refine TMay_i hx ok hp hc λw1 k1=>?_;rw[hm];refine aF (λh=>by cases h) (λ_=>?_);have K:=((bO w).tr k1).tr (bO w1);have h1:=bF.kp h K;obtain⟨SA,SE,⟨m1,m2,ng,hA⟩,hE,dAE,eAE⟩:=h1;have cA:=hA.cells;have c1:w1.drew.cell? ((⟨e.a,0,none⟩:Addr).add 0)=some (aD (e.aM:Int)):=aP hE rfl;have c2:w1.drew.cell? ((⟨e.a,0,none⟩:Addr).add 1)=some (aD e.aK):=aP hE rfl;refine aA rfl (aE (k:=.map) (some m1) cA.2.1 (aA rfl (aE (k:=.i) (e.aM:Int) c1 (aA rfl (aE (k:=.map) (some m2) cA.2.2 (aA rfl (aE (k:=.i) (e.aM:Int) c1 (aA rfl (aE (k:=.i) e.aK c2 ?_)))))))));have h2:aZ (YX a m1 m2 ng t) (JL e) w1.drew S:=⟨SA,SE,hA,hE,dAE,eAE⟩;obtain⟨S3,h3,_,Gu⟩:=((aZ.l h2).c λT hT=>(aZ.r hT).c λT hT=>aZ.l hT).put;refine Ts (kn:=qS) OR kT (z:=(none:cO)) ED h3.1 (e.aM:Int) (xI e) λw3 hm3 mm3 _=>?_;obtain⟨S4,h4,u4⟩:=Gu (uQ m1 CW qS (λy=>if y=(e.aM:Int) then some (xI e) else sR t.aT y) (if(sR t.aT (e.aM:Int)).isSome then t.aT.length else t.aT.length+1)) w3 S3 (Up.at (mm3.mono λk _ hk=>(h3.2 k).2 hk)) ⟨hm3,h3.2⟩
 obtain⟨S5,h5,_,back5⟩:=((aZ.l h4).c λT hT=>(aZ.r hT).c λT hT=>(aZ.r hT).c λT hT=>aZ.l hT).put;refine Ts (kn:=Ll) pB kT (z:=(0:Int)) NA h5.1 (e.aM:Int) e.aK λw5 Kz mm5 _=>?_;obtain⟨S6,h6,u6⟩:=back5 (uQ m2 CW Ll (λy=>if y=(e.aM:Int) then some e.aK else t.gr y) (if(t.gr (e.aM:Int)).isSome then ng else ng+1)) w5 S5 (Up.at (mm5.mono λk _ hk=>(h5.2 k).2 hk)) ⟨Kz,h5.2⟩
 have sC:=ok.sC;have hf:∀x,sR (Fu e t.aT) x=(λy=>if y=(e.aM:Int) then some (xI e) else sR t.aT y) x:=λx=>by
  refine Ic (f:=λy=>if y=(e.aM:Int) then some (xI e) else sR t.aT y) (Hk sC) (λx p=>?_) x
  by_cases hx:x=(e.aM:Int)
  ·rw[if_pos hx]
   constructor
   ·intro h;cases h;exact⟨e,oP.2 (.inl rfl),hx.symm,rfl⟩
   ·rintro⟨f,hf,hfx,rfl⟩
    rcases oP.1 hf with rfl|⟨_,gH⟩
    ·rfl
    ·exact absurd aB gH
  ·rw[if_neg hx,WY sC]
   constructor
   ·rintro⟨f,hf,hfx,rfl⟩
    exact⟨f,oP.2 (.inr ⟨hf,λh=>hx (by rw[<-hfx,h])⟩),hfx,rfl⟩
   ·rintro⟨f,hf,hfx,rfl⟩
    rcases oP.1 hf with rfl|⟨hf,_⟩
    ·exact absurd hfx.symm hx
    ·exact⟨f,hf,hfx,rfl⟩
 obtain⟨SY,SZ,⟨SB,SR,hB,⟨SM,SQ,hM,⟨SG,SL,hG,hL,dGL,eGL⟩,dM,eM⟩,dB,eB⟩,hE6,dYZ,eYZ⟩:=h6;have hM':=hM.1.congr hf rfl;have hn:=Po (Hk sC) hM';have fW:(Fu e t.aT).length<=t.eE:=by
  have hm0:=(sP.may0 hm).2;rw[<-hn]
  split
  ·exact ok.len
  ·rename_i hns
   apply Nat.succ_le_of_lt;apply Nat.lt_of_not_le;intro FX;exact hm0 ⟨FX,λf hf Wj=>hns (Bw.2 ⟨f,hf,aB⟩)⟩
 have Qv:(t.add e).Ok:=ok.add hp fW;obtain⟨L1,L2,f1,f2,d12,e12⟩:=wI.filter (λf=>decide (f.aM<e.aM)) hL;obtain⟨L3,L4,f3,f4,d34,Wl⟩:=wI.filter (λf=>decide (e.aM<f.aM)) f2;have nQ:∀k,L1 k\/L3 k\/L4 k->SL k:=λk hk=>(e12 k).2 (hk.imp id λh=>(Wl k).2 h);have hEL:∀k,SZ k->SL k->False:=λk hz hl=>dYZ k ((eB k).2 (.inr ((eM k).2 (.inr ((eGL k).2 (.inr hl)))))) hz;have hIns:wI JL (Fu e t.aT) w5 (λk=>L1 k\/(SZ k\/L3 k)):=WK (aZ.vZ f1 (show wI JL (e::_) w5 _ from aZ.vZ hE6 f3 λk h1 h2=>hEL k h1 (nQ k (.inr (.inl h2)))) λk h1 h2=>h2.elim (λh=>hEL k h (nQ k (.inl h1))) λh=>d12 k h1 ((Wl k).2 (.inl h)));have inS6:∀k,SB k\/SM k\/SG k\/SL k\/SZ k->S6 k:=λk hk=>(eYZ k).2 (by
  rcases hk with h|h|h|h|h
  ·exact .inl ((eB k).2 (.inl h))
  ·exact .inl ((eB k).2 (.inr ((eM k).2 (.inl h))))
  ·exact .inl ((eB k).2 (.inr ((eM k).2 (.inr ((eGL k).2 (.inl h))))))
  ·exact .inl ((eB k).2 (.inr ((eM k).2 (.inr ((eGL k).2 (.inr h))))))
  ·exact .inr h)
 have aAc:∀k,SB k\/SM k\/SG k->(SL k\/SZ k)->False:=λk hk hl=>by
  rcases hl with hl|hl
  ·rcases hk with h|h|h
   ·exact dB k h ((eM k).2 (.inr ((eGL k).2 (.inr hl))))
   ·exact dM k h ((eGL k).2 (.inr hl))
   ·exact dGL k h hl
  ·refine dYZ k ((eB k).2 ?_) hl
   rcases hk with h|h|h
   ·exact .inl h
   ·exact .inr ((eM k).2 (.inl h))
   ·exact .inr ((eM k).2 (.inr ((eGL k).2 (.inl h))))
 have lz:∀k,L1 k\/(SZ k\/L3 k)->SL k\/SZ k:=λk hk=>by
  rcases hk with h|h|h
  ·exact .inl (nQ k (.inl h))
  ·exact .inr h
  ·exact .inl (nQ k (.inr (.inl h)))
 have hT:DC a (t.add e) w5 (λk=>SB k\/(SM k\/(SG k\/(L1 k\/(SZ k\/L3 k))))):=
  ⟨m1,m2,_,aZ.vZ hB (aZ.vZ ⟨by rw[hn] at hM';exact hM',hM.2⟩ (aZ.vZ hG hIns λk h1 h2=>aAc k (.inr (.inr h1)) (lz k h2)) λk h1 h2=>h2.elim (λh=>dM k h1 ((eGL k).2 (.inl h))) λh=>aAc k (.inr (.inl h1)) (lz k h)) λk h1 h2=>by
   rcases h2 with h|h|h
   ·exact dB k h1 ((eM k).2 (.inl h))
   ·exact dB k h1 ((eM k).2 (.inr ((eGL k).2 (.inl h))))
   ·exact aAc k (.inl h1) (lz k h)⟩
 refine hQ w5 _ (aZ.vZ hT f4 λk h1 h2=>?_) ⟨(((Up.aO K).tr u4).tr u6).m,λk hk=>(((Up.aO K).tr u4).tr u6).s k (inS6 k ?_)⟩ Qv
 ·have h4L:=nQ k (.inr (.inr h2))
  rcases h1 with h|h|h|h|h|h
  ·exact aAc k (.inl h) (.inl h4L)
  ·exact aAc k (.inr (.inl h)) (.inl h4L)
  ·exact aAc k (.inr (.inr h)) (.inl h4L)
  ·exact d12 k h ((Wl k).2 (.inr h2))
  ·exact hEL k h h4L
  ·exact d34 k h h2
 ·rcases hk with(h|h|h|h|h|h)|h
  ·exact .inl h
  ·exact .inr (.inl h)
  ·exact .inr (.inr (.inl h))
  ·exact .inr (.inr (.inr (.inl (nQ k (.inl h)))))
  ·exact .inr (.inr (.inr (.inr h)))
  ·exact .inr (.inr (.inr (.inl (nQ k (.inr (.inl h))))))
  ·exact .inr (.inr (.inr (.inl (nQ k (.inr (.inr h))))))
theorem TDrop_i{p:Nat}{QS:Sl}{Q:Sl->aH->Prop}(h:DC a t w S)(ok:t.Ok)(hr:Rd w QS 1 eI [(p:Int)])(ho:BD QS S w)
  (hQ:∀r w' S',aZ (DC a (t.drop p)) (wI JL (t.aT.filter λf=>decide (f.aM=p))) w' S'->Up S S' w w'->Q r w'):pV (some ⟨a,0,none⟩) QS w Q:=by
 unfold pV;refine Hh h ok λs1 w1 v1 k1 f1=>?_;have bd:=bF.gI h;obtain⟨m1,m2,ng,h0⟩:=bF.kp h k1;have sl:=v1.len;have ol:=ok.len;have om:=ok.eE;rw[lD] at sl;have o1:BD s1 S w1:=λb hb=>⟨λhk=>by have:=bd _ hk;have:=f1 b hb;omega,v1.lt hb⟩;refine bK (λn tt w3=>∃(i:Nat) (r:Sl) (f:Int->Option qS.T) (nf:Nat),i<=t.aT.length/\n=t.aT.length-i/\tt=(r,(i:Int),())/\TabX a m1 m2 ng nf f t w3 S/\aY S w w3/\(∀y,f y=if y=(p:Int)/\Wy p (t.aT.take i)=true then none else sR t.aT y)/\(∃xs,dP w3 Te 1 Lp r xs/\xs.length<=i)/\(∀b,r.b=some b->w1.heap.size<=b.block)/\Rd w3 s1 1 Lp (t.aT.map xI)/\w1.heap.size<=w3.heap.size/\Rd w3 QS 1 eI [(p:Int)]) t.aT.length
  ⟨0,bD,sR t.aT,t.aT.length,iF _,rfl,rfl,h0,k1.wk,λy=>(by rw[if_neg];rintro⟨_,he⟩;cases he),⟨[],dP.nil _ _ _ _,iX _⟩,λb hb=>(by cases hb),v1.rd GS,iX _,hr.aL k1 dA λ_ _=>id⟩ ?_
 rintro n tt w3 ⟨i,r,f,nf,hi,rfl,rfl,h3,m3,hf,⟨xs,v3,Cj⟩,f3,r3,z3,p3⟩ X hX;dsimp only;refine aJ (λcL=>?_) (λlK=>?_)
 ·have dF:i<t.aT.length:=aB
  have cU:=gU dF;have fP:=oE dF;have sD:=FW dF;generalize t.aT[i]=e at*;obtain⟨q,hq,cq⟩:=cQ (k:=.ptr) (e:=λx=>x) r3 (show(t.aT.map xI)[i]? =some (xI e) by rw[mY,cU];rfl);rw[lJ,qM i aB];refine⟨⟨aB,cL⟩,aA hq (aE (k:=.ptr) (xI e) cq (aA rfl ?_))⟩;have cP:∀{wx},TabX a m1 m2 ng nf f t wx S->wx.cell? ((⟨e.a,0,none⟩:Addr).add 0)=some (aD (e.aM:Int))/\wx.cell? ((⟨a,0,none⟩:Addr).add 1)=some (.map (some m1)):=λhx=>by
   obtain⟨S1,_,hb,⟨_,_,_,⟨_,_,_,hL,_⟩,_⟩,_⟩:=hx;obtain⟨S2,he2,_⟩:=wI.get hL fP;exact⟨aP he2 rfl,aP hb rfl⟩
  refine aE (k:=.i) (e.aM:Int) (cP h3).1 ?_;unfold gM;refine Zl p3 dJ λj w4 k4 hj=>?_;have Xt:∀y,(if y=(p:Int)/\Wy p (t.aT.take (i+1))=true then none else sR t.aT y)=if e.aM=p/\y=(p:Int) then none else f y:=λy=>by
   rw[hf y,sD,aAU]
   by_cases hy:y=(p:Int)
   ·by_cases zd:e.aM=p
    ·rw[if_pos ⟨hy,by simp[zd]⟩,if_pos ⟨zd,hy⟩]
    ·rw[if_neg (c:=e.aM=p/\_) (λh=>zd h.1),decide_eq_false zd,Bool.or_false]
   ·rw[if_neg (λh=>hy h.1),if_neg (λh=>hy h.2),if_neg (λh=>hy h.1)]
  have bd4:∀k,S k->k<w1.heap.size:=λk hk=>nM (bd k hk) k1.size;refine aJ (λhj0=>?_) (λhj0=>?_)
  ·have zd:e.aM=p:=by have:=hj.1 hj0;simp at this;omega
   have h4:=bF.kp h3 (k4.tr (bO w4));have c4:=cP h4;refine aA rfl (aE (k:=.map) (some m1) c4.2 (aA rfl (aE (k:=.i) (e.aM:Int) c4.1 ?_)));obtain⟨SB,SR,hB,⟨SM,SQ,hM,hGL,dM,eM⟩,dB,eB⟩:=h4;refine Yu OR kT hM (e.aM:Int) λw5 hM5 u5=>?_;have h5:TabX a m1 m2 ng (if(f (e.aM:Int)).isSome then nf-1 else nf) (λy=>if y=(e.aM:Int) then none else f y) t w5 S:=⟨SB,SR,bF.aL hB u5.m λk h1 h2=>dB k h1 ((eM k).2 (.inl h2)),⟨SM,SQ,hM5,bF.aL hGL u5.m λk h1 h2=>dM k h2 h1,dM,eM⟩,dB,eB⟩
   have mS:aY S w4.drew w5:=u5.m.mono λk _ hk=>(eB k).2 (.inr ((eM k).2 (.inl hk)));have K4:=k4.tr (bO w4);have r4:=(r3.aL K4 FJ λ_ _=>id).aL mS FJ λb hb=>(o1 b hb).1;have p4:=(p3.aL K4 dA λ_ _=>id).aL mS dA λb hb=>(ho b hb).1;have v4:=(v3.aL K4 λ_ _=>id).aL mS λb hb hs=>by have:=bd4 _ hs;have:=f3 b hb;omega
   have zz:w3.heap.size<=w5.heap.size:=iG K4.size mS.size;refine cD (cs:=Lp (xI e)) λw6 b6 k6 z6=>?_;refine fO XT GS onePt (x:=⟨some ⟨w5.heap.size,0,none⟩,1,1⟩) (v4.aL k6 λ_ _=>id) (jN GS [xI e] b6 rfl dJ) (by simp;omega) (by simp;omega) λr' w7 v7 m7 hr7 _=>?_;have n7:∀k,(∃b,r.b=some b/\k=b.block)->w1.heap.size<=k:=λk ⟨b,hb,e⟩=>by rw[e];exact f3 b hb
   refine hX _ _ _ aB ⟨i+1,r',_,_,dF,rfl,rfl,bF.aL (bF.kp h5 k6) m7 λk hk hn=>by have:=bd4 k hk;have:=n7 k hn;omega,(((m3.trans K4.wk λ_ _ h=>h).trans mS λ_ _ h=>h).trans k6.wk λ_ _ h=>h).trans m7 λk hk hn=>by have:=n7 k hn;have:=k1.size;omega,λy=>?_,⟨_,v7,by simp;omega⟩,λb hb=>?_,((r4.aL k6 FJ λ_ _=>id).aL m7 FJ λb hb hn=>?_),?_,((p4.aL k6 dA λ_ _=>id).aL m7 dA λb hb hn=>?_)⟩
   ·rw[Xt y,zd];simp
   ·rcases hr7 with h|⟨b',h,h2⟩
    ·exact f3 b (h.symm.trans hb)
    ·rw[hb] at h;cases h;have:=k6.size;omega
   ·have:=n7 _ hn;have:=(o1 b hb).2;omega
   ·have:=k6.size;have:=m7.size;omega
   ·have:=n7 _ hn;have:=(ho b hb).2;have:=k1.size;omega
  ·have zd:¬e.aM=p:=λh=>hj0 (hj.2 (by simp;omega))
   refine hX _ _ _ aB ⟨i+1,r,f,nf,dF,rfl,rfl,bF.kp h3 k4,m3.trans k4.wk λ_ _ h=>h,λy=>by rw[Xt y,if_neg λh=>zd h.1],⟨xs,v3.aL k4 λ_ _=>id,aB⟩,f3,r3.aL k4 FJ λ_ _=>id,iG z3 k4.size,p3.aL k4 dA λ_ _=>id⟩
 ·have ei:i=t.aT.length:=aB
  subst ei;have sC:DY t.aT:=ok.sC;have YI:∀x,sR (t.drop p).aT x=f x:=λx=>by
   refine Ic (f:=f) (sC.filter _) (λx q=>?_) x;rw[hf x,pF]
   by_cases hx:x=(p:Int)/\Wy p t.aT=true
   ·rw[if_pos hx]
    refine⟨λh=>(by cases h),?_⟩;rintro⟨e,he,hex,_⟩;have:=(jG.1 he).2;simp at this;exact absurd aB this
   ·rw[if_neg hx,WY sC]
    constructor
    ·rintro⟨e,he,hex,rfl⟩
     exact⟨e,jG.2 ⟨he,by simp;intro hp;exact hx ⟨aB,hasP_iff.2 ⟨e,he,hp⟩⟩⟩,hex,rfl⟩
    ·rintro⟨e,he,hex,rfl⟩
     exact⟨e,(jG.1 he).1,hex,rfl⟩
  obtain⟨SB,SR,hB,⟨SM,SQ,hM,⟨SG,SL,hG,hL,dGL,eGL⟩,dM,eM⟩,dB,eB⟩:=h3;have hM':=hM.1.congr YI rfl;have hn:=Po (sC.filter _) hM';obtain⟨L1,L2,f1',f2,d12,e12⟩:=wI.filter (λf:cV=>decide (f.aM=p)) hL;refine hQ r w3 S ?_ (Up.at m3);have h1:aZ (sM a kj [aD (t.eE:Int),.map (some m1),.map (some m2)]) (aZ (uQ m1 CW qS (sR (t.drop p).aT) (t.drop p).aT.length) (aZ (uQ m2 CW Ll t.gr ng) (aZ (wI JL (t.drop p).aT) (wI JL (t.aT.filter λf=>decide (f.aM=p)))))) w3 S:=
   ⟨SB,SR,hB,⟨SM,SQ,⟨by rw[hn] at hM';exact hM',hM.2⟩,⟨SG,SL,hG,⟨L2,L1,f2,f1',λk a b=>d12 k b a,λk=>(e12 k).trans Or.comm⟩,dGL,eGL⟩,dM,eM⟩,dB,eB⟩
  have h2:aZ (YX a m1 m2 ng (t.drop p)) (wI JL (t.aT.filter λf=>decide (f.aM=p))) w3 S:=
   (aZ.mono h1 (λ_ h=>h) λ_ h=>(aZ.mono h (λ_ h=>h) λ_ h=>aZ.asl h).asl).asl
  exact h2.mono (λ_ h=>⟨m1,m2,ng,h⟩) λ_ h=>h
end
end
open Tryz (prog)
section
set_option linter.unusedSectionVars false
inductive F2{α β:Type}(R:α->β->Prop):List α->List β->Prop
 |nil:F2 R [] []
 |cons {a b l m}:R a b->F2 R l m->F2 R (a::l) (b::m)
section
variable{α β:Type}{R:α->β->Prop}
theorem F2.len{l:List α}{m:List β}(h:F2 R l m):l.length=m.length:=by
 induction h with
 |nil=>rfl
 |cons _ _ ih=>simp[ih]
theorem F2.app{l l':List α}{m m':List β}(h:F2 R l m)(h':F2 R l' m'):F2 R (l++l') (m++m'):=by
 induction h with
 |nil=>exact h'
 |cons a _ ih=>exact .cons a ih
theorem F2.one{a:α}{b:β}(h:R a b):F2 R [a] [b]:=.cons h .nil
theorem F2.mem{l:List α}{m:List β}(h:F2 R l m){b:β}(hb:b∈m):∃a∈l,R a b:=by
 induction h with
 |nil=>cases hb
 |cons r _ ih=>
  rcases jL.1 hb with rfl|hb
  ·exact⟨_,by simp,r⟩
  ·obtain⟨a,ha,h⟩:=ih hb
   exact⟨a,by simp[ha],h⟩
end
class VY {β:Type} (eb:β->List Value):Prop where
 ne:∀x,eb x≠[]
instance:VY eU:=⟨fN⟩
instance:VY eI:=⟨dA⟩
structure eX{α β:Type}(eb:β->List Value)(ty:TypeId)(n:Nat)(aX:α×Sl->List Value)(xZ:α->List β)(lo:Nat)(S:BS)(w:aH)(r:Sl)(ps:List α):Prop where
 ex:∃xs:List (α×Sl),xs.map (·.1)=ps/\dP w ty n aX r xs/\(∀b,r.b=some b->lo<=b.block/\¬S b.block)/\∀x∈xs,Rd w x.2 1 eb (xZ x.1)/\∀b,x.2.b=some b->lo<=b.block/\¬S b.block/\b.block<w.heap.size/\∀b',r.b=some b'->b.block≠b'.block
def zE{α β:Type}(eb:β->List Value)(n:Nat)(aX:α×Sl->List Value)(xZ:α->List β)(P:BS)(w:aH)(r:Sl)(ps:List α):Prop:=
 ∃xs:List (α×Sl),xs.map (·.1)=ps/\Rd w r n aX xs/\(∀b,r.b=some b->P b.block/\b.block<w.heap.size)/\∀x∈xs,Rd w x.2 1 eb (xZ x.1)/\∀b,x.2.b=some b->P b.block/\b.block<w.heap.size
section
variable{α β:Type}{eb:β->List Value}[VY eb]{ty sty:TypeId}{n:Nat}{aX:α×Sl->List Value}{xZ:α->List β}{lo:Nat}{S S' P:BS}{w w':aH}{r:Sl}{ps:List α}
theorem eX.nil:eX eb ty n aX xZ lo S w bD []:=⟨⟨[],rfl,dP.nil _ _ _ _,λb hb=>(by cases hb),λx hx=>(by cases hx)⟩⟩
theorem eX.aL{F:BS}(h:eX eb ty n aX xZ lo S w r ps)(m:aY F w w')(hF:∀k,lo<=k->¬S k->k<w.heap.size->¬F k)(hS:∀k,¬S k->k<w.heap.size->¬S' k):eX eb ty n aX xZ lo S' w' r ps:=by
 obtain⟨xs,h1,h2,h3,h4⟩:=h.ex;refine⟨xs,h1,h2.aL m λb hb=>hF _ (h3 b hb).1 (h3 b hb).2 (h2.lt hb),λb hb=>⟨(h3 b hb).1,hS _ (h3 b hb).2 (h2.lt hb)⟩,λx hx=>?_⟩;obtain⟨g1,g2⟩:=h4 x hx;exact⟨g1.aL m VY.ne λb hb=>hF _ (g2 b hb).1 (g2 b hb).2.1 (g2 b hb).2.2.1,λb hb=>⟨(g2 b hb).1,hS _ (g2 b hb).2.1 (g2 b hb).2.2.1,nM (g2 b hb).2.2.1 m.size,(g2 b hb).2.2.2⟩⟩
theorem eX.up(h:eX eb ty n aX xZ lo S w r ps)(u:Up S S' w w'):eX eb ty n aX xZ lo S' w' r ps:=
 h.aL u.m (λ_ _ h _=>h) λk h1 h2 h3=>(u.s k h3).elim h1 λh=>aB
theorem eX.kp(h:eX eb ty n aX xZ lo S w r ps)(k:aN w w'):eX eb ty n aX xZ lo S w' r ps:=h.up (Up.aO k)
theorem eX.sub(h:eX eb ty n aX xZ lo S w r ps)(hS:∀k,S' k->S k):eX eb ty n aX xZ lo S' w r ps:=h.aL (aY.refl (λ_=>False) w) (λ_ _ _ _=>id) λk h1 _ h2=>h1 (hS k h2)
theorem eX.cov(h:eX eb ty n aX xZ lo S w r ps)(hS:∀k,S' k->S k\/k<lo):eX eb ty n aX xZ lo S' w r ps:=by
 obtain⟨xs,h1,h2,h3,h4⟩:=h.ex;have key:∀k,lo<=k->¬S k->¬S' k:=λk h1 h2 h3=>(hS k h3).elim h2 λh=>aB;exact⟨xs,h1,h2,λb hb=>⟨(h3 b hb).1,key _ (h3 b hb).1 (h3 b hb).2⟩,λx hx=>⟨(h4 x hx).1,λb hb=>⟨((h4 x hx).2 b hb).1,key _ ((h4 x hx).2 b hb).1 ((h4 x hx).2 b hb).2.1,((h4 x hx).2 b hb).2.2⟩⟩⟩
theorem eX.qN{lo':Nat}(h:eX eb ty n aX xZ lo S w r ps)(hl:lo'<=lo):eX eb ty n aX xZ lo' S w r ps:=by
 obtain⟨xs,h1,h2,h3,h4⟩:=h.ex;exact⟨xs,h1,h2,λb hb=>⟨iG hl (h3 b hb).1,(h3 b hb).2⟩,λx hx=>⟨(h4 x hx).1,λb hb=>⟨iG hl ((h4 x hx).2 b hb).1,((h4 x hx).2 b hb).2⟩⟩⟩
theorem eX.len(h:eX eb ty n aX xZ lo S w r ps):r.l=ps.length:=by
 obtain⟨xs,rfl,h2,_⟩:=h.ex;rw[h2.len,lD]
theorem eX.rd(gA:∀x,(aX x).length=n)(h:eX eb ty n aX xZ lo S w r ps):zE eb n aX xZ (λk=>lo<=k/\¬S k) w r ps:=by
 obtain⟨xs,h1,h2,h3,h4⟩:=h.ex;exact⟨xs,h1,h2.rd gA,λb hb=>⟨h3 b hb,h2.lt hb⟩,λx hx=>⟨(h4 x hx).1,λb hb=>⟨⟨((h4 x hx).2 b hb).1,((h4 x hx).2 b hb).2.1⟩,((h4 x hx).2 b hb).2.2.1⟩⟩⟩
theorem zE.aL{F:BS}(gH:∀x,aX x≠[])(h:zE eb n aX xZ P w r ps)(m:aY F w w')(hF:∀k,P k->k<w.heap.size->¬F k):zE eb n aX xZ P w' r ps:=by
 obtain⟨xs,h1,h2,h3,h4⟩:=h;exact⟨xs,h1,h2.aL m gH λb hb=>hF _ (h3 b hb).1 (h3 b hb).2,λb hb=>⟨(h3 b hb).1,nM (h3 b hb).2 m.size⟩,λx hx=>⟨(h4 x hx).1.aL m VY.ne λb hb=>hF _ ((h4 x hx).2 b hb).1 ((h4 x hx).2 b hb).2,λb hb=>⟨((h4 x hx).2 b hb).1,nM ((h4 x hx).2 b hb).2 m.size⟩⟩⟩
theorem zE.wk{P':BS}(h:zE eb n aX xZ P w r ps)(hP:∀k,P k->k<w.heap.size->P' k):zE eb n aX xZ P' w r ps:=by
 obtain⟨xs,h1,h2,h3,h4⟩:=h;exact⟨xs,h1,h2,λb hb=>⟨hP _ (h3 b hb).1 (h3 b hb).2,(h3 b hb).2⟩,λx hx=>⟨(h4 x hx).1,λb hb=>⟨hP _ ((h4 x hx).2 b hb).1 ((h4 x hx).2 b hb).2,((h4 x hx).2 b hb).2⟩⟩⟩
theorem zE.up(gH:∀x,aX x≠[])(h:zE eb n aX xZ (λk=>¬S k) w r ps)(u:Up S S' w w'):zE eb n aX xZ (λk=>¬S' k) w' r ps:=by
 have h':zE eb n aX xZ (λk=>¬S k/\k<w.heap.size) w r ps:=h.wk λk h1 h2=>⟨h1,h2⟩;exact(h'.aL gH u.m λk h _=>h.1).wk λk h _ hs=>(u.s k hs).elim h.1 λhh=>aB
theorem zE.kp(gH:∀x,aX x≠[])(h:zE eb n aX xZ P w r ps)(k:aN w w'):zE eb n aX xZ P w' r ps:=h.aL gH k λ_ _ _=>id
theorem zE.len(h:zE eb n aX xZ P w r ps):r.l=ps.length:=by
 obtain⟨xs,rfl,h2,_⟩:=h;rw[h2.len,lD]
theorem zE.get(h:zE eb n aX xZ P w r ps){i:Nat}{x:α}(hx:ps[i]? =some x):∃a sl,r.b=some a/\bW w (a.add (i*n)) 0 (aX (x,sl))/\Rd w sl 1 eb (xZ x)/\∀b,sl.b=some b->P b.block/\b.block<w.heap.size:=by
 obtain⟨xs,rfl,h2,h3,h4⟩:=h;rw[mY] at hx;cases hy:xs[i]? with
 |none=>rw[hy] at hx;cases hx
 |some y=>
  rw[hy] at hx;obtain⟨x',sl⟩:=y;cases hx;obtain⟨a,ha,hh⟩:=h2.get i _ hy;have:=h4 _ (zN hy);exact⟨a,sl,ha,hh,this.1,this.2⟩
theorem eX.snoc'{bytes:Nat}{z:List Value}(hE:sI prog sty ty n bytes z)(gA:∀x,(aX x).length=n)(jA:∀x,∀u∈aX x,u.oneCell'=true)(hb:bytes<=1000)(h:eX eb ty n aX xZ lo S w r ps)(hl:ps.length+1<=1000000)(Ds:lo<=w.heap.size)(hS:∀k,S k->k<w.heap.size)(x:α){sl:Sl}(hr:Rd w sl 1 eb (xZ x))
  (ho:∀b,sl.b=some b->lo<=b.block/\¬S b.block/\b.block<w.heap.size/\∀b',r.b=some b'->b.block≠b'.block) {K:Sl->aH->Prop}
  (hK:∀r' w',eX eb ty n aX xZ lo S w' r' (ps++[x])->aY (λk=>∃a,r.b=some a/\k=a.block) w w'->(∀b,r'.b=some b->(∃a,r.b=some a/\b.block=a.block)\/w.heap.size<=b.block)->K r' w'):aG w (aX (x,sl)).toArray ty λa w1=>aW prog sty sty r (.slice (some a) 1 1) w1 K:=by
 obtain⟨xs,rfl,h2,h3,h4⟩:=h.ex;rw[lD] at hl;refine cD λw1 b1 k1 z1=>?_;have hm:(xs.length+1)*bytes<=1000000*1000:=JA hl hb;refine fO hE gA jA (x:=⟨some ⟨w.heap.size,0,none⟩,1,1⟩) (h2.aL k1 λ_ _=>id) (jN gA [(x,sl)] b1 dJ dJ) (by simp;omega) (by simp;omega) λr' w2 v2 m2 Fe _=>?_;have hF:∀k,(∃a,r.b=some a/\k=a.block)->lo<=k/\¬S k:=λk ⟨a,ha,e⟩=>by rw[e];exact h3 a ha
 have hM:aY (λk=>lo<=k/\¬S k) w w2:=k1.wk.trans (m2.mono λk _ hk=>hF k hk) λ_ _ h=>h;have No:∀b,r'.b=some b->(∃a,r.b=some a/\b.block=a.block)\/w1.heap.size<=b.block:=λb hb=>by
  rcases Fe with h|⟨a,h,h2⟩
  ·exact .inl ⟨b,h.symm.trans hb,rfl⟩
  ·rw[hb] at h;cases h;exact .inr h2
 have keyB:∀(y:α×Sl),Rd w y.2 1 eb (xZ y.1)->(∀b,y.2.b=some b->lo<=b.block/\¬S b.block/\b.block<w.heap.size/\∀b',r.b=some b'->b.block≠b'.block)->Rd w2 y.2 1 eb (xZ y.1)/\∀b,y.2.b=some b->lo<=b.block/\¬S b.block/\b.block<w2.heap.size/\∀b',r'.b=some b'->b.block≠b'.block:=λy g1 g2=>by
  refine⟨(g1.aL k1 VY.ne λ_ _=>id).aL m2 VY.ne λb hb ⟨a,ha,e⟩=>(g2 b hb).2.2.2 a ha e,λb hb=>⟨(g2 b hb).1,(g2 b hb).2.1,nM (g2 b hb).2.2.1 hM.size,λb' bY e=>?_⟩⟩;rcases No b' bY with⟨a,ha,e2⟩|h
  ·exact(g2 b hb).2.2.2 a ha (e.trans e2)
  ·have:=(g2 b hb).2.2.1;omega
 refine hK r' w2 ⟨xs++[(x,sl)],by simp,v2,λb hb=>?_,λy hy=>?_⟩ (k1.wk.trans m2 λ_ _ h=>h) (λb hb=>(No b hb).imp id λh=>by have:=k1.size;omega)
 ·rcases No b hb with⟨a,ha,e⟩|h
  ·rw[e];exact h3 a ha
  ·exact⟨aB,λhs=>by have:=hS _ hs;omega⟩
 ·rcases jS.1 hy with hy|hy
  ·exact keyB y (h4 y hy).1 (h4 y hy).2
  ·rw[kZ.1 hy];exact keyB (x,sl) hr ho
theorem eX.gS{bytes:Nat}{z:List Value}(hE:sI prog sty ty n bytes z)(gA:∀x,(aX x).length=n)(jA:∀x,∀u∈aX x,u.oneCell'=true)(hb:bytes<=1000)(h:eX eb ty n aX xZ lo S w r ps)(hl:ps.length+1<=1000000)(Ds:lo<=w.heap.size)(hS:∀k,S k->k<w.heap.size)(x:α){sl:Sl}(hr:Rd w sl 1 eb (xZ x))
  (ho:∀b,sl.b=some b->lo<=b.block/\¬S b.block/\b.block<w.heap.size/\∀b',r.b=some b'->b.block≠b'.block) {K:Sl->aH->Prop}
  (hK:∀r' w',eX eb ty n aX xZ lo S w' r' (ps++[x])->aY (λk=>lo<=k/\¬S k) w w'->K r' w'):aG w (aX (x,sl)).toArray ty λa w1=>aW prog sty sty r (.slice (some a) 1 1) w1 K:=
 eX.snoc' hE gA jA hb h hl Ds hS x hr ho λr' w' v m _=>hK r' w' v (m.mono λk _ ⟨a,ha,e⟩=>by
  obtain⟨xs,_,_,h3,_⟩:=h.ex;rw[e];exact h3 a ha)
theorem eX.jy{bytes:Nat}{z:List Value}{r0:Sl}{Nl:List α}{lo1:Nat}(hE:sI prog sty ty n bytes z)(gA:∀x,(aX x).length=n)(jA:∀x,∀u∈aX x,u.oneCell'=true)(hb:bytes<=1000)(h0:eX eb ty n aX xZ lo S w r0 Nl)(h:eX eb ty n aX xZ lo1 S w r ps)(Ds:lo<=lo1)(hr0:∀b,r0.b=some b->b.block<lo1)(hl:Nl.length+ps.length<=1000000)(hlw:lo<=w.heap.size)(hS:∀k,S k->k<w.heap.size){K:Sl->aH->Prop}
  (hK:∀r' w',eX eb ty n aX xZ lo S w' r' (Nl++ps)->aY (λk=>∃a,r0.b=some a/\k=a.block) w w'->(∀b,r'.b=some b->(∃a,r0.b=some a/\b.block=a.block)\/w.heap.size<=b.block)->K r' w'):aW prog sty sty r0 (.slice r.b r.l r.c) w K:=by
 obtain⟨xs0,rfl,h2,h3,h4⟩:=h0.ex;obtain⟨xs,rfl,g2,g3,g4⟩:=h.ex;rw[lD,lD] at hl;have hm:(xs0.length+xs.length)*bytes<=1000000*1000:=JA hl hb;refine fO hE gA jA h2 (g2.rd gA) aB aB λr' w2 v2 m2 Fe _=>?_;have hM:aY (λk=>lo<=k/\¬S k) w w2:=m2.mono λk _ ⟨a,ha,e⟩=>by rw[e];exact h3 a ha
 have No:∀b,r'.b=some b->(∃a,r0.b=some a/\b.block=a.block)\/w.heap.size<=b.block:=λb hb=>by
  rcases Fe with h|⟨a,h,h2⟩
  ·exact .inl ⟨b,h.symm.trans hb,rfl⟩
  ·rw[hb] at h;cases h;exact .inr h2
 have keyB:∀(y:α×Sl),Rd w y.2 1 eb (xZ y.1)->(∀b,y.2.b=some b->lo<=b.block/\¬S b.block/\b.block<w.heap.size/\∀b',r0.b=some b'->b.block≠b'.block)->Rd w2 y.2 1 eb (xZ y.1)/\∀b,y.2.b=some b->lo<=b.block/\¬S b.block/\b.block<w2.heap.size/\∀b',r'.b=some b'->b.block≠b'.block:=λy g1 g2=>by
  refine⟨g1.aL m2 VY.ne λb hb ⟨a,ha,e⟩=>(g2 b hb).2.2.2 a ha e,λb hb=>⟨(g2 b hb).1,(g2 b hb).2.1,nM (g2 b hb).2.2.1 hM.size,λb' bY e=>?_⟩⟩;rcases No b' bY with⟨a,ha,e2⟩|h
  ·exact(g2 b hb).2.2.2 a ha (e.trans e2)
  ·have:=(g2 b hb).2.2.1;omega
 refine hK r' w2 ⟨xs0++xs,by simp,v2,λb hb=>?_,λy hy=>?_⟩ m2 No
 ·rcases No b hb with⟨a,ha,e⟩|h
  ·rw[e];exact h3 a ha
  ·exact⟨aB,λhs=>by have:=hS _ hs;omega⟩
 ·rcases jS.1 hy with hy|hy
  ·exact keyB y (h4 y hy).1 (h4 y hy).2
  ·refine keyB y (g4 y hy).1 λb hb=>⟨iG Ds ((g4 y hy).2 b hb).1,((g4 y hy).2 b hb).2.1,((g4 y hy).2 b hb).2.2.1,λb' bY e=>?_⟩
   have:=hr0 b' bY;have:=((g4 y hy).2 b hb).1;omega
theorem eX.DX(h:eX eb ty n aX xZ lo S w r ps):∀k,(∃a,r.b=some a/\k=a.block)->lo<=k/\¬S k:=λk ⟨a,ha,e⟩=>by
 obtain⟨xs,_,_,h3,_⟩:=h.ex;rw[e];exact h3 a ha
theorem eX.app{bytes:Nat}{z:List Value}{r0:Sl}{Nl:List α}{lo1:Nat}(hE:sI prog sty ty n bytes z)(gA:∀x,(aX x).length=n)(jA:∀x,∀u∈aX x,u.oneCell'=true)(hb:bytes<=1000)(h0:eX eb ty n aX xZ lo S w r0 Nl)(h:eX eb ty n aX xZ lo1 S w r ps)(Ds:lo<=lo1)(hr0:∀b,r0.b=some b->b.block<lo1)(hl:Nl.length+ps.length<=1000000)(hlw:lo<=w.heap.size)(hS:∀k,S k->k<w.heap.size){K:Sl->aH->Prop}
  (hK:∀r' w',eX eb ty n aX xZ lo S w' r' (Nl++ps)->aY (λk=>lo<=k/\¬S k) w w'->K r' w'):aW prog sty sty r0 (.slice r.b r.l r.c) w K:=
 eX.jy hE gA jA hb h0 h Ds hr0 hl hlw hS λr' w' v m _=>hK r' w' v (m.mono λk _ hk=>h0.DX k hk)
theorem eX.lt(h:eX eb ty n aX xZ lo S w r ps){b:Addr}(hb:r.b=some b):b.block<w.heap.size:=by
 obtain⟨xs,rfl,h2,_⟩:=h.ex;exact h2.lt hb
end
theorem Up.gE{S0 S:BS}{w0 w w':aH}(u:Up S0 S w0 w)(m:aY (λk=>w0.heap.size<=k/\¬S k) w w'):Up S0 S w0 w':=
 ⟨u.m.trans m λk hk h=>by have:=h.1;omega,u.s⟩
theorem bF.ov{A:As}[bF A]{lo:Nat}{S:BS}{w w':aH}(h:A w S)(m:aY (λk=>lo<=k/\¬S k) w w'):A w' S:=bF.aL h m λk hk hn=>hn.2 hk
abbrev Xe(P:BS)(w:aH)(r:Sl)(gs:List eR):Prop:=zE eU 6 eG eR.body P w r gs
abbrev Ge(P:BS)(w:aH)(r:Sl)(bs:List (List cH)):Prop:=zE eU 1 (λx:List cH×Sl=>eS x.2) id P w r bs
theorem uR.row{w:aH}{T P:BS}{r:Sl}{gs:List eR}(h:uR r gs w T)(hP:∀k,T k->P k):Xe P w r gs:=by
 obtain⟨xs,rfl,S3,S4,h3,h4,d34,Wl⟩:=h;refine⟨xs,rfl,h3.1.rd Wt,λb hb=>⟨hP _ ((Wl _).2 (.inl ((h3.2 _).2 ⟨b,hb,rfl⟩))),h3.1.lt hb⟩,λx hx=>?_⟩;obtain⟨i,hi⟩:=List.getElem?_of_mem hx;have:=h4.2.1 i x.2 x.1.body (by rw[mY,hi];rfl) (by rw[mY,hi];rfl);exact⟨this.1,λb hb=>⟨hP _ ((Wl _).2 (.inr (this.2 b hb))),h4.2.2 _ (this.2 b hb)⟩⟩
theorem VO.row{w:aH}{T P:BS}{r:Sl}{bs:List (List cH)}(h:VO r bs w T)(hP:∀k,T k->P k):Ge P w r bs:=by
 obtain⟨ss,S3,S4,h3,h4,d34,Wl⟩:=h;have CU:=h3.1.rd Gl;refine⟨bs.zip ss,?_,?_,λb hb=>⟨hP _ ((Wl _).2 (.inl ((h3.2 _).2 ⟨b,hb,rfl⟩))),h3.1.lt hb⟩,λx hx=>?_⟩
 ·rw[List.map_fst_zip (by rw[h4.1];exact iX _)]
 ·refine⟨by rw[CU.len,List.length_zip,h4.1,Nat.min_self],CU.cap,λi x hx=>?_⟩
  exact CU.get i x.2 (List.getElem?_zip_eq_some.1 hx).2
 ·obtain⟨i,hi⟩:=List.getElem?_of_mem hx
  have hz:=List.getElem?_zip_eq_some.1 hi;have:=h4.2.1 i x.2 x.1 hz.2 hz.1;exact⟨this.1,λb hb=>⟨hP _ ((Wl _).2 (.inr (this.2 b hb))),h4.2.2 _ (this.2 b hb)⟩⟩
theorem WE{A:As}[bF A]{w:aH}{S:BS}{r:Sl}{gs:List eR}(h:aZ A (uR r gs) w S):∃S1,A w S1/\Up S S1 w w/\Xe (λk=>¬S1 k) w r gs:=by
 obtain⟨S1,S2,h1,⟨xs,rfl,S3,S4,h3,h4,d34,Wl⟩,d,e⟩:=h;refine⟨S1,h1,Up.sub w λk hk=>(e k).2 (.inl hk),xs,rfl,h3.1.rd Wt,λb hb=>?_,λx hx=>?_⟩
 ·exact⟨λhk=>d _ hk ((Wl _).2 (.inl ((h3.2 _).2 ⟨b,hb,rfl⟩))),h3.1.lt hb⟩
 ·obtain⟨i,hi⟩:=List.getElem?_of_mem hx
  have:=h4.2.1 i x.2 x.1.body (by rw[mY,hi];rfl) (by rw[mY,hi];rfl);exact⟨this.1,λb hb=>⟨λhk=>d _ hk ((Wl _).2 (.inr (this.2 b hb))),h4.2.2 _ (this.2 b hb)⟩⟩
end
section
abbrev Pk:=Int×List cH
abbrev ePk(x:Pk×Sl):List Value:=[aD x.1.1,sv x.2]
theorem MN:∀x:Pk×Sl,(ePk x).length=2:=λ_=>rfl
theorem MJ:∀x:Pk×Sl,∀u∈ePk x,u.oneCell'=true:=by intro x u hu;simp at hu;rcases hu with rfl|rfl<;>rfl
theorem ePk_ne(x:Pk×Sl):ePk x≠[]:=by simp
abbrev eD(x:List cH×Sl):List Value:=[sv x.2]
theorem lenD_q:∀x:List cH×Sl,(eD x).length=1:=λ_=>rfl
theorem oneD:∀x:List cH×Sl,∀u∈eD x,u.oneCell'=true:=by intro x u hu;simp at hu;subst hu;rfl
theorem LA(x:List cH×Sl):eD x≠[]:=by simp
abbrev rM:=eX (α:=Pk) eU tPacket 2 ePk Prod.snd
abbrev RowQ:=eX (α:=List cH) eU BV 1 eD id
def GOk(g:eR)(b:List cH):Prop:=b.length<=3000/\(Re g->b=GU g)
def Wn(aM:Int)(g:eR)(p:Pk):Prop:=p.1=aM/\GOk g p.2
section
variable{w:aH}{l:Sl}{gs:List eR}{P:BS}
theorem AQ{aM:Int}{Q:Sl->aH->Prop}(h:Xe P w l gs)(hl:gs.length<=1000)(hb:∀g∈gs,g.body.length<=80000)
  (hQ:∀r ps w',aN w w'->rM w.heap.size (λk=>k<w.heap.size) w' r ps->F2 (Wn aM) gs ps->Q r w'):eO aM l w Q:=by
 unfold eO;have hll:=h.len;refine bK (λn t w1=>∃(i:Nat) (r:Sl) (ps:List Pk),i<=gs.length/\n=gs.length-i/\t=(r,(i:Int),())/\aN w w1/\rM w.heap.size (λk=>k<w.heap.size) w1 r ps/\F2 (Wn aM) (gs.take i) ps) gs.length
  ⟨0,bD,[],iF _,rfl,rfl,aY.refl _ _,eX.nil,.nil⟩ ?_
 rintro n t w1 ⟨i,r,ps,hi,rfl,rfl,k1,v1,f1⟩ X hX;dsimp only;refine aJ (λcL=>?_) (λlK=>?_)
 ·have dF:i<gs.length:=aB
  have cU:=gU dF;have fP:=oE dF;have sD:=FW dF;generalize gs[i]=g at*;obtain⟨a,sl,ha,hh,hr,hro⟩:=(h.kp QZ k1).get cU;have fl:=f1.len;rw[qF] at fl;rw[lJ,qM i aB];refine⟨⟨aB,cL⟩,aA ha (bJ (l:=kG) (JG (g,sl)) hh ?_)⟩;refine eZ (zs:=eG (⟨0,0,0,0,0,[]⟩,bD)) (vs:=eG (g,sl)) rP rfl (Lt _) λw4 o4 k4 z4=>?_;refine bJ (l:=kG) (JG (g,sl)) (o4.holds λj v hj=>by rw[pU];exact hj) ?_;have z1:=k1.size;refine mw (hr.aL k4 fN λ_ _=>id) (hb g fP) λs out e w5 k5 Dl f5 l5 g5=>?_;have v5:=(v1.kp k4).kp k5;refine eX.gS jW MN MJ aB v5 (by rw[<-fl];omega) (iG (k1.tr k4).size k5.size) (λk hk=>nM hk (iG (k1.tr k4).size k5.size)) (aM,out) (sl:=s) Dl.1 (λb hb=>⟨by have:=f5 b hb;omega,λhk=>by have:=f5 b hb;omega,Dl.2.2.1 b hb,λb' bY=>?_⟩) λr' w6 v6 m6=>?_
  ·have:=v1.lt bY;have:=f5 b hb;omega
  ·refine hX _ _ _ aB ⟨i+1,r',ps++[(aM,out)],dF,rfl,rfl,((k1.tr k4).tr k5).fresh m6 λk hk=>hk.1,v6,?_⟩
   rw[sD];exact f1.app (.one ⟨rfl,l5,λhw=>(g5 hw).1⟩)
 ·have ei:i=gs.length:=aB
  subst ei;rw[pF] at f1;exact hQ r ps w1 k1 v1 f1
theorem NX{Q:Sl->aH->Prop}(h:Xe P w l gs)(hl:gs.length<=1000)(hb:∀g∈gs,g.body.length<=80000)
  (hQ:∀r ps w',aN w w'->RowQ w.heap.size (λk=>k<w.heap.size) w' r ps->F2 GOk gs ps->Q r w'):jP l w Q:=by
 unfold jP;have hll:=h.len;refine bK (λn t w1=>∃(i:Nat) (r:Sl) (ps:List (List cH)),i<=gs.length/\n=gs.length-i/\t=(r,(i:Int),())/\aN w w1/\RowQ w.heap.size (λk=>k<w.heap.size) w1 r ps/\F2 GOk (gs.take i) ps) gs.length
  ⟨0,bD,[],iF _,rfl,rfl,aY.refl _ _,eX.nil,.nil⟩ ?_
 rintro n t w1 ⟨i,r,ps,hi,rfl,rfl,k1,v1,f1⟩ X hX;dsimp only;refine aJ (λcL=>?_) (λlK=>?_)
 ·have dF:i<gs.length:=aB
  have cU:=gU dF;have fP:=oE dF;have sD:=FW dF;generalize gs[i]=g at*;obtain⟨a,sl,ha,hh,hr,hro⟩:=(h.kp QZ k1).get cU;have fl:=f1.len;rw[qF] at fl;rw[lJ,qM i aB];refine⟨⟨aB,cL⟩,aA ha (bJ (l:=kG) (JG (g,sl)) hh ?_)⟩;refine eZ (zs:=eG (⟨0,0,0,0,0,[]⟩,bD)) (vs:=eG (g,sl)) rP rfl (Lt _) λw4 o4 k4 z4=>?_;refine bJ (l:=kG) (JG (g,sl)) (o4.holds λj v hj=>by rw[pU];exact hj) ?_;have z1:=k1.size;refine mw (hr.aL k4 fN λ_ _=>id) (hb g fP) λs out e w5 k5 Dl f5 l5 g5=>?_;have v5:=(v1.kp k4).kp k5;refine eX.gS NV lenD_q oneD aB v5 (by rw[<-fl];omega) (iG (k1.tr k4).size k5.size) (λk hk=>nM hk (iG (k1.tr k4).size k5.size)) out (sl:=s) Dl.1 (λb hb=>⟨by have:=f5 b hb;omega,λhk=>by have:=f5 b hb;omega,Dl.2.2.1 b hb,λb' bY=>?_⟩) λr' w6 v6 m6=>?_
  ·have:=v1.lt bY;have:=f5 b hb;omega
  ·refine hX _ _ _ aB ⟨i+1,r',ps++[out],dF,rfl,rfl,((k1.tr k4).tr k5).fresh m6 λk hk=>hk.1,v6,?_⟩
   rw[sD];exact f1.app (.one ⟨l5,λhw=>(g5 hw).1⟩)
 ·have ei:i=gs.length:=aB
  subst ei;rw[pF] at f1;exact hQ r ps w1 k1 v1 f1
theorem wo{aM aK code:Int}{Q:Sl->aH->Prop}(hQ:∀r p w',aN w w'->rM w.heap.size (λk=>k<w.heap.size) w' r [p]->Wn aM ⟨aK,3,0,0,code,[]⟩ p->Q r w'):eK aM aK code w Q:=by
 unfold eK;refine cD (cs:=eG (⟨aK,3,0,0,code,[]⟩,bD)) λw1 b1 k1 z1=>?_;have hg:Xe (λ_=>True) w1 ⟨some ⟨w.heap.size,0,none⟩,1,1⟩ [⟨aK,3,0,0,code,[]⟩]:=⟨[(⟨aK,3,0,0,code,[]⟩,bD)],rfl,jN Wt [(⟨aK,3,0,0,code,[]⟩,bD)] b1 rfl dJ,λb hb=>by cases hb;exact⟨trivial,b1.1.lt⟩,λx hx=>by
  rw[kZ.1 hx];exact⟨Rd.nil _ _ _,λb hb=>by cases hb⟩⟩
 refine AQ hg dJ dJ λr ps w2 k2 v2 f2=>?_;cases f2 with
 |cons a b=>
  cases b;exact hQ r _ w2 (k1.tr k2) ((v2.qN aB).sub λk hk=>aB) a
end
abbrev jH.dl(c:jH):Int:=c.s.next-c.s.n
structure ik(c c':jH)(k:Nat):Prop where
 cM:c'.s.cM=c.s.cM
 aK:c'.aK=c.aK
 dl:c'.dl=c.dl
 n:k+c.s.n=c'.s.n
theorem Jh{aK nx:Int}{t:Vz}:∀{l:List (List cH)} {s:OQ},ik ⟨s,aK,t,l⟩ (jH.LX s aK nx t l).2 (jH.LX s aK nx t l).1.length/\∀g∈(jH.LX s aK nx t l).1,g.body∈l
 | [],s=>⟨⟨rfl,rfl,rfl,pU _⟩,λg hg=>by cases hg⟩
 |b::r,s=>by
  rw[jH.LX]
  split
  ·obtain⟨⟨h1,h2,h3,h4⟩,h5⟩:=Jh (aK:=aK) (nx:=nx) (t:=t) (l:=r) (s:=s.send b)
   refine⟨⟨h1,h2,h3.trans ?_,?_⟩,λg hg=>?_⟩
   ·show s.next+1-((s.n+1:Nat):Int)=s.next-(s.n:Int)
    omega
   ·have h4':_+(s.n+1)=_:=h4
    simp only[mV] at h4' ⊢;omega
   ·rcases jL.1 hg with rfl|hg
    ·simp
    ·exact VD _ (h5 g hg)
  ·exact⟨⟨rfl,rfl,rfl,pU _⟩,λg hg=>by cases hg⟩
theorem jH.JV(c:jH):ik c c.oD.2 c.oD.1.length/\∀g∈c.oD.1,g.body∈c.gB:=Jh (s:=c.s) (l:=c.gB)
theorem Jf{c:jH}(ok:c.Ok){b:List cH}(hb:b.length<=70000):ik c (c.push b).2.1 (c.push b).1.length/\∀g∈(c.push b).1,g.body.length<=70000:=by
 unfold jH.push
 split
 ·exact⟨⟨rfl,rfl,rfl,pU _⟩,λg hg=>by cases hg⟩
 ·split
  ·exact⟨⟨rfl,rfl,rfl,pU _⟩,λg hg=>by cases hg⟩
  ·obtain⟨⟨h1,h2,h3,h4⟩,h5⟩:=({c with gB:=c.gB++[b]}:jH).JV
   refine⟨⟨h1,h2,h3,h4⟩,λg hg=>?_⟩;rcases jS.1 (h5 g hg) with h|h
   ·exact ok.len _ h
   ·rw[kZ.1 h];exact hb
theorem ik.refl(c:jH):ik c c 0:=⟨rfl,rfl,rfl,pU _⟩
theorem ik.tr{c c' c'':jH}{k k':Nat}(h:ik c c' k)(h':ik c' c'' k'):ik c c'' (k+k'):=⟨h'.cM.trans h.cM,h'.aK.trans h.aK,h'.dl.trans h.dl,by have:=h.n;have:=h'.n;omega⟩
theorem Ji{c c':jH}{gs:List eR}{e:Int}(ok:c.Ok)(h:va c gs e c'):c'.s.cM=c.s.cM/\c'.aK=c.aK/\c'.dl=c.dl/\gs.length<=c'.s.n/\∀g∈gs,g.body.length<=70000:=by
 obtain⟨s1,L,e0,⟨a1,a2,a3,a4,a5⟩,LN,hL,_,_,h⟩:=h
 split at h
 ·obtain⟨_,rfl,rfl⟩:=h
  obtain⟨⟨h1,h2,h3,h4⟩,h5⟩:=(⟨s1,c.aK,c.t,c.gB⟩:jH).JV;refine⟨h1.trans a1,h2,h3.trans ?_,?_,λg hg=>?_⟩
  ·show s1.next-(s1.n:Int)=c.s.next-(c.s.n:Int)
   simp[*]
  ·rw[mH,lD]
   have h4':_+s1.n=_:=h4;have:s1.n=c.s.n:=by simp[*]
   omega
  ·rcases jS.1 hg with hg|hg
   ·obtain⟨x,_,rfl⟩:=lN.1 hg
    show((s1.f x).getD []).length<=70000;cases hf:s1.f x with
    |none=>simp
    |some bs=>exact(LN.len x bs hf).2.2
   ·exact ok.len _ (h5 g hg)
 ·obtain⟨_,rfl,rfl⟩:=h
  refine⟨a1,rfl,?_,iF _,λg hg=>by cases hg⟩;show s1.next-(s1.n:Int)=c.s.next-(c.s.n:Int)
  simp[*]
theorem xC{c c':jH}{g:eR}{nU:List (List cH)}{gs:List eR}(ok:c.Ok)(h:yH c g nU gs c'):c'.s.cM=c.s.cM/\c'.aK=c.aK/\c'.dl<=c.s.next/\gs.length<=c'.s.n+1/\(∀g∈gs,g.body.length<=70000)/\nU.length<=20/\∀b∈nU,b.length<=5000:=by
 unfold yH at h
 split at h
 ·obtain⟨rfl,rfl,rfl⟩:=h
  exact⟨rfl,rfl,by show c'.s.next-_<=_;omega,iF _,λg hg=>(by cases hg),by simp,λb hb=>by cases hb⟩
 ·obtain⟨s1,⟨a1,a2,a3,a4,a5,a6⟩,LN,h⟩:=h
  split at h
  ·obtain⟨t1,ht,rfl,rfl⟩:=h
   obtain⟨⟨h1,h2,h3,h4⟩,h5⟩:=(⟨s1,c.aK,t1,c.gB⟩:jH).JV;refine⟨h1.trans a1,h2,?_,?_,λg hg=>?_,ht.len,ht.lens⟩
   ·rw[h3];show s1.next-(s1.n:Int)<=_;omega
   ·simp only[mV];have h4':_+s1.n=_:=h4;omega
   ·rcases jL.1 hg with rfl|hg
    ·simp
    ·exact ok.len _ (h5 g hg)
  ·obtain⟨rfl,rfl,rfl⟩:=h
   obtain⟨⟨h1,h2,h3,h4⟩,h5⟩:=(⟨s1,c.aK,c.t,c.gB⟩:jH).JV;refine⟨h1.trans a1,h2,?_,?_,λg hg=>ok.len _ (h5 g hg),by simp,λb hb=>by cases hb⟩
   ·rw[h3];show s1.next-(s1.n:Int)<=_;omega
   ·have h4':_+s1.n=_:=h4;omega
end
end Go.Proofs.YtihggjgakbgomaaGreat
