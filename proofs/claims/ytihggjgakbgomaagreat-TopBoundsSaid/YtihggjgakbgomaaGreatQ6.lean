import Derived.Test.YtihggjgakbgomaaGreatA1
import Derived.Test.YtihggjgakbgomaaGreatQ5
import Derived.Test.YtihggjgakbgomaaGreatF2
import Derived.Test.YtihggjgakbgomaaGreatF1
import Derived.Test.YtihggjgakbgomaaGreatA3
import Derived.Test.YtihggjgakbgomaaGreatQ2
import Derived.Test.YtihggjgakbgomaaGreatQ1
import Derived.Test.YtihggjgakbgomaaGreatQ4
namespace Go.Proofs.YtihggjgakbgomaaGreat
open Go Go.Den
open Tryz (prog)
section
structure BC where
 d:Int
 up:Bool
 data:List dA
abbrev By(x:BC×Sl):List Value:=[aD x.1.d,.bool x.1.up,sv x.2]
theorem VF:∀x:BC×Sl,(By x).length=3:=λ_=>rfl
theorem Vt:∀x:BC×Sl,∀u∈By x,u.oneCell'=true:=by intro x u hu;simp at hu;rcases hu with rfl|rfl|rfl<;>rfl
theorem eUn_ne(x:BC×Sl):By x≠[]:=by simp
structure oW where
 v:iQ
 ds:List (Nat×CS)
 lU:List BC
 row:Sl
abbrev RS(ds:List (Nat×CS)):List cL:=ds.map λp=>some ⟨p.1,0,none⟩
abbrev eW(a:Nat)(IK wF:Sl):List Value:=[.pointer (some ⟨a,0,none⟩),sv IK,sv wF]
def Vf(p:Nat×CS):As:=uU p.1 p.2
instance{p:Nat×CS}:bF (Vf p):=by unfold Vf;infer_instance
def Vg(ee a wa:Nat)(IK wF:Sl)(xs:List (BC×Sl))(v:iQ)(ds:List (Nat×CS)):As:=
 aZ (gC ee a v) (aZ (sB wa Qu (eW a IK wF)) (aZ (iU MQ 1 Lb IK (RS ds)) (aZ (vZ Vf ds) (iU MH 3 By wF xs))))
instance{ee a wa:Nat}{IK wF:Sl}{xs:List (BC×Sl)}{v:iQ}{ds:List (Nat×CS)}:bF (Vg ee a wa IK wF xs v ds):=by unfold Vg;infer_instance
structure LW(N:BS)(s:Sl)(S:BS)(w:aH):Prop where
 o:AY s S w
 n:∀b,s.b=some b->¬N b.block
theorem LW.up{N:BS}{s:Sl}{S S':BS}{w w':aH}(h:LW N s S w)(u:Up S S' w w'):LW N s S' w':=⟨h.o.up u,h.n⟩
theorem LW.rd{N:BS}{α:Type}{n:Nat}{aY:α->List Value}{xs:List α}{s:Sl}{S S':BS}{w w':aH}(h:LW N s S w)(u:Up S S' w w')(hr:Rd w s n aY xs)(gF:∀x,aY x≠[]):Rd w' s n aY xs:=h.o.rd u hr gF
theorem LW.kp{N:BS}{s:Sl}{S:BS}{w w':aH}(h:LW N s S w)(k:aM w w'):LW N s S w':=⟨h.o.kp k,h.n⟩
structure iS(N:BS)(ee a wa:Nat)(W:oW)(w:aH)(S:BS):Prop where
 ex:∃wF xs,xs.map (·.1)=W.lU/\Vg ee a wa W.row wF xs W.v W.ds w S/\∀x∈xs,Rd w x.2 1 eU x.1.data/\LW N x.2 S w
theorem aZ.unemp{A:As}{w:aH}{S:BS}(h:aZ A DK w S):A w S:=aZ.emp_l h.cm
theorem OD{N:BS}{xs:List (BC×Sl)}{S S':BS}{w w':aH}(h:∀x∈xs,Rd w x.2 1 eU x.1.data/\LW N x.2 S w)(u:Up S S' w w'):∀x∈xs,Rd w' x.2 1 eU x.1.data/\LW N x.2 S' w':=λx hx=>⟨(h x hx).2.rd u (h x hx).1 fI,(h x hx).2.up u⟩
section
variable{N:BS}{ee a wa:Nat}{W:oW}{w:aH}{S:BS}
theorem iS.lt(h:iS N ee a wa W w S):∀k,S k->k<w.heap.size:=by
 obtain⟨_,_,_,h,_⟩:=h.ex;exact bF.gH h
theorem iS.kp{w':aH}(h:iS N ee a wa W w S)(k:aM w w'):iS N ee a wa W w' S:=by
 obtain⟨wF,xs,h1,h2,h3⟩:=h.ex;exact⟨wF,xs,h1,bF.kp h2 k,OD h3 (Up.aN k)⟩
theorem iS.Bt(h:iS N ee a wa W w S):∃S1,gC ee a W.v w S1/\(∀k,S1 k->S k)/\w.cell? ((⟨wa,0,none⟩:Addr).add 0)=some (.pointer (some ⟨a,0,none⟩))/\∀v' w' AW,gC ee a v' w' AW->Up S1 AW w w'->∃S',iS N ee a wa {W with v:=v'} w' S'/\Up S S' w w'/\∀k,S' k->AW k\/k<w.heap.size:=by
 have hb:=h.lt;obtain⟨wF,xs,h1,h2,h3⟩:=h.ex;obtain⟨_,S0,_,⟨S01,S02,BA,_⟩,_⟩:=id h2;have c0:=aO BA (k:=0) rfl;obtain⟨S1,hS,hs,dN⟩:=aZ.lG h2;refine⟨S1,hS,hs,c0,λv' w' AW hv u=>?_⟩;obtain⟨S',h',e'⟩:=dN (gC ee a v') DK S1 w' AW u.m (λk hk=>.inl hk) (λk hk=>(u.s k hk).imp id λh hs=>by have:=hb k hs;omega) (aZ.emp hv);have h'':=aZ.unemp h';have U:Up S S' w w':=⟨u.m.mono λk _ hk=>hs k hk,λk hk=>by
  rcases e' k hk with h|h
  ·exact .inl h.1
  ·exact(u.s k h).imp (hs k) id⟩
 exact⟨S',⟨wF,xs,h1,h'',OD h3 U⟩,U,λk hk=>(e' k hk).elim (λh=>.inr (hb k h.1)) .inl⟩
theorem iS.drv(h:iS N ee a wa W w S){i:Nat}{d:Nat}{dv:CS}(hi:W.ds[i]? =some (d,dv)):∃S1,uU d dv w S1/\(∀k,S1 k->S k)/\∀xM w' AW,uU d xM w' AW->Up S1 AW w w'->∃S',iS N ee a wa {W with ds:=W.ds.set i (d,xM)} w' S'/\Up S S' w w'/\∀k,S' k->AW k\/k<w.heap.size:=by
 have hb:=h.lt;have cJ:=(kU.1 hi).1;obtain⟨wF,xs,h1,h2,h3⟩:=h.ex;obtain⟨S1,hS,hs,dN⟩:=(aZ.rG h2).c λT hT=>(aZ.rG hT).c λT hT=>(aZ.rG hT).c λT hT=>(aZ.lG hT).c λT hT=>vZ.atG hT hi;refine⟨S1,hS,hs,λxM w' AW hv u=>?_⟩;obtain⟨S',h',e'⟩:=dN (Vf (d,xM)) DK S1 w' AW u.m (λk hk=>.inl hk) (λk hk=>(u.s k hk).imp id λh hs=>by have:=hb k hs;omega) (aZ.emp hv);have h'':=aZ.unemp h';have U:Up S S' w w':=⟨u.m.mono λk _ hk=>hs k hk,λk hk=>by
  rcases e' k hk with h|h
  ·exact .inl h.1
  ·exact(u.s k h).imp (hs k) id⟩
 have ep:RS (W.ds.set i (d,xM))=RS W.ds:=by
  show(W.ds.set i (d,xM)).map _=_;rw[List.map_set];apply AZ;intro j;rw[vT]
  by_cases hj:i=j
  ·subst hj
   rw[if_pos rfl,if_pos (by simpa using cJ),mG,hi];rfl
  ·rw[if_neg hj]
 refine⟨S',⟨wF,xs,h1,h''.mono (λ_ h=>h) λ_ h=>h.mono (λ_ h=>h) λ_ h=>h.mono (λ_ h=>?_) λ_ h=>h.mono (λ_ h=>Av.set cJ h) λ_ h=>h,OD h3 U⟩,U,λk hk=>(e' k hk).elim (λh=>.inr (hb k h.1)) .inl⟩;show iU MQ 1 Lb W.row (RS (W.ds.set i (d,xM))) _ _;rw[ep];exact h
theorem iS.OH(h:iS N ee a wa W w S):∃wF,w.cell? ((⟨wa,0,none⟩:Addr).add 2)=some (sv wF)/\wF.l=W.lU.length/\vX eU 3 By BC.data (λk=>k<w.heap.size) w wF W.lU/\∃xs,xs.map (·.1)=W.lU/\Vg ee a wa W.row wF xs W.v W.ds w S/\∀x∈xs,Rd w x.2 1 eU x.1.data/\LW N x.2 S w:=by
 obtain⟨wF,xs,h1,h2,h3⟩:=h.ex;obtain⟨_,_,_,⟨S01,S02,BA,⟨_,_,_,⟨_,_,_,hv,_⟩,_⟩,_⟩,_⟩:=id h2;refine⟨wF,aO BA rfl,by rw[<-h1,oL];exact hv.1.len,⟨xs,h1,hv.1.rd VF,λb hb=>⟨hv.1.lt hb,hv.1.lt hb⟩,λx hx=>⟨(h3 x hx).1,λb hb=>⟨((h3 x hx).2.o b hb).2,((h3 x hx).2.o b hb).2⟩⟩⟩,xs,h1,h2,h3⟩
theorem uk{IK wF YN:Sl}{xs Ju:List (BC×Sl)}{v:iQ}{ds:List (Nat×CS)}{M SV':BS}{w':aH}{K:aH->Prop}(h:Vg ee a wa IK wF xs v ds w S)(hm:aW M w w')(hM:∀k,M k->BL wF k)(hv:iU MH 3 By YN Ju w' SV')(hs:∀k,SV' k->BL wF k\/w.heap.size<=k)
  (hK:∀w2 S',Vg ee a wa IK YN Ju v ds w2 S'->Up S S' w w2->aW (λk=>k=wa) w' w2->K w2):aI prog Dl ((⟨wa,0,none⟩:Addr).add 2) (sv YN) w' K:=by
 have hb:=bF.gH h;obtain⟨S1,hV,tO,dN⟩:=(aZ.rG h).c λT hT=>(aZ.rG hT).c λT hT=>(aZ.rG hT).c λT hT=>aZ.rG hT;have KI:∀k,BL wF k->S1 k:=λk ⟨b,bW,e⟩=>(hV.2 k).2 ⟨b,bW,e⟩;obtain⟨S2,h2,e2⟩:=dN (iU MH 3 By YN Ju) DK M w' SV' hm (λk hk=>.inl (KI k (hM k hk))) (λk hk=>(hs k hk).imp (KI k) λh hs=>by have:=hb k hs;omega) (aZ.emp hv);have h2':=aZ.unemp h2;obtain⟨S3,h3,_,VH⟩:=((aZ.r h2').c λT hT=>aZ.l hT).put;refine pA h3 Yh dL rfl rfl λw2 b2 u2=>?_;obtain⟨S4,h4,u4⟩:=VH (sB wa Qu (eW a IK YN)) w2 S3 u2 b2;refine hK w2 S4 h4 ⟨(hm.mono λk _ hk=>tO k (KI k (hM k hk))).trans u4.m λk hk DI=>?_,λk hk=>?_⟩ (u2.m.mono λk _ hk=>(h3.2 k).1 hk)
 ·rcases e2 k DI with h|h
  ·exact h.1
  ·exact(hs k h).elim (λh=>tO k (KI k h)) λh=>aB
 ·rcases u4.s k hk with h|h
  ·rcases e2 k h with h|h
   ·exact .inl h.1
   ·exact(hs k h).imp (λh=>tO k (KI k h)) id
  ·exact .inr (iF hm.size h)
theorem Hg{IK wF:Sl}{xs:List (BC×Sl)}{v:iQ}{ds:List (Nat×CS)}{u:BC}{sl:Sl}{g:Nat}{K:aH->Prop}(h:Vg ee a wa IK wF xs v ds w S)(ho:∀x∈xs,Rd w x.2 1 eU x.1.data/\LW N x.2 S w)(hg:cW w g MH (By (u,sl)))(hr:Rd w sl 1 eU u.data)(hso:LW N sl S w)(hl:xs.length+1<=1000000)
  (hK:∀w2 S',iS N ee a wa ⟨v,ds,(xs++[(u,sl)]).map (·.1),IK⟩ w2 S'->Up S S' w w2->K w2):aX prog Dl Dl wF (.slice (some ⟨g,0,none⟩) 1 1) w λs3 w2=>aI prog Dl ((⟨wa,0,none⟩:Addr).add 2) (sv s3) w2 K:=by
 obtain⟨_,_,_,⟨S01,S02,BA,⟨_,_,_,⟨_,_,_,hv,_⟩,_⟩,_⟩,_⟩:=id h;have hx:Rd w ⟨some ⟨g,0,none⟩,1,1⟩ 3 By [(u,sl)]:=(dQ.new VF [(u,sl)] (by simpa using hg) (by simp[maxLen])).rd VF;refine fN EC VF Vt (x:=⟨some ⟨g,0,none⟩,1,1⟩) hv.1 hx (by simp;omega) (by simp;omega) λs3 w2 v3 m3 hr3 _=>?_;refine uk (YN:=s3) (Ju:=xs++[(u,sl)]) h m3 (λk hk=>hk) (SV':=λk=>BL s3 k) ⟨v3,λk=>Iff.rfl⟩ (λk ⟨b,hb,e⟩=>?_) λw4 S4 h4 u4 m4=>?_
 ·rcases hr3 with h|⟨b',h,h2⟩
  ·exact .inl ⟨b,h.symm.trans hb,e⟩
  ·rw[hb] at h;cases h;exact .inr (by rw[e];exact h2)
 ·refine hK w4 S4 ⟨s3,xs++[(u,sl)],rfl,h4,λx hx=>?_⟩ u4
  have hh:Rd w x.2 1 eU x.1.data/\LW N x.2 S w:=by
   rcases jK.1 hx with hx|hx
   ·exact ho x hx
   ·rw[uG.1 hx];exact⟨hr,hso⟩
  exact⟨hh.2.rd u4 hh.1 fI,hh.2.up u4⟩
def Ps(p:Pk):BC:=⟨p.1,false,p.2⟩
def av(d:Int)(b:List dA):BC:=⟨d,true,b⟩
def oW.add(W:oW)(l:List BC):oW:={W with lU:=W.lU++l}
theorem Rz{l:Sl}{ps:List Pk}{Q:aH->Prop}(h:iS N ee a wa W w S)(hr:vX eU 2 ePk Prod.snd (λk=>¬S k/\k<w.heap.size/\¬N k) w l ps)(hl:W.lU.length+ps.length<=900000)
  (hQ:∀w' S',iS N ee a wa (W.add (ps.map Ps)) w' S'->Up S S' w w'->Q w'):qT (some ⟨wa,0,none⟩) l w Q:=by
 unfold qT;have hll:=hr.len;refine bO (λn t w1=>∃(i:Nat) (S1:BS),i<=ps.length/\n=ps.length-i/\t=((i:Int),())/\iS N ee a wa (W.add ((ps.take i).map Ps)) w1 S1/\Up S S1 w w1) ps.length
  ⟨0,S,iG _,rfl,rfl,by
   have:W.add (([]:List Pk).map Ps)=W:=by unfold oW.add;simp
   rw[List.take_zero,this];exact h,Up.refl _ _⟩ ?_
 rintro n t w1 ⟨i,S1,hi,rfl,rfl,h1,u1⟩ X hX;dsimp only;refine aJ (λcJ=>?_) (λkT=>?_)
 ·have dJ:i<ps.length:=aB
  have cV:=gS dJ;have rV:=FQ dJ;generalize ps[i]=p at*;obtain⟨q,sl,hq,hh,AV,Em⟩:=(hr.aK ePk_ne u1.m λk hk _=>hk.1).get cV;have hos:LW N sl S1 w1:=⟨λb hb=>⟨λhs=>(u1.s _ hs).elim (Em b hb).1.1 λh=>by have:=(Em b hb).1.2.1;omega,(Em b hb).2⟩,λb hb=>(Em b hb).1.2.2⟩;rw[kE,qA i aB];refine⟨⟨aB,cJ⟩,aA hq (bJ (l:=[.i,.slice]) (p.1,sl,()) hh ?_)⟩;refine fE (zs:=ePk ((0,[]),bD)) (vs:=ePk (p,sl)) Yi rfl (MA _) λw4 o4 k4 z4=>?_;have K4:=k4.tr (bN w4);have h4:=h1.kp K4;have o4d:=o4.aK (bN w4) id;obtain⟨wF,c2,lb,_,_⟩:=h4.OH;refine aA rfl (aE (k:=.slice) wF c2 (aE (k:=.i) p.1 (cM o4d rfl) (aE (k:=.slice) sl (cM o4d rfl) ?_)));refine cC (cs:=By (Ps p,sl)) λw6 b6 k6 z6=>?_;have K6:=K4.tr k6;have h6:=h1.kp K6;obtain⟨YN,c2',lb',_,xs,Dd,we,hx3⟩:=h6.OH;have e:YN=wF:=by have:=c2'.symm.trans ((k6.cell c2 id));injection this with this;injection this with h1 h2 h3;cases wF;cases YN;simp_all
  subst e;refine⟨c2',?_⟩;have xl:xs.length=W.lU.length+i:=by
   have:=congrArg List.length Dd;simp[oW.add] at this;omega
  refine Hg we hx3 b6.1 (AV.aK K6 fI λ_ _=>id) (hos.kp K6) aB λw8 S8 h8 u8=>?_;refine hX _ _ _ aB ⟨i+1,S8,dJ,rfl,rfl,?_,u1.tr ((Up.aN K6).tr u8)⟩;have e2:(⟨(W.add ((ps.take i).map Ps)).v,(W.add ((ps.take i).map Ps)).ds,(xs++[(Ps p,sl)]).map (·.1),(W.add ((ps.take i).map Ps)).row⟩:oW)=W.add ((ps.take (i+1)).map Ps):=by
   unfold oW.add;rw[rV,yS,yS,Dd];simp[oW.add]
  rw[e2] at h8;exact h8
 ·have ei:i=ps.length:=aB
  subst ei;rw[oZ] at h1;exact hQ w1 S1 h1 u1
theorem oq{d:Int}{l:Sl}{bs:List (List dA)}{Q:aH->Prop}(h:iS N ee a wa W w S)(hr:Fj (λk=>¬S k/\k<w.heap.size/\¬N k) w l bs)(hl:W.lU.length+bs.length<=900000)
  (hQ:∀w' S',iS N ee a wa (W.add (bs.map (av d))) w' S'->Up S S' w w'->Q w'):CH (some ⟨wa,0,none⟩) d l w Q:=by
 unfold CH;have hll:=hr.len;refine bO (λn t w1=>∃(i:Nat) (S1:BS),i<=bs.length/\n=bs.length-i/\t=((i:Int),())/\iS N ee a wa (W.add ((bs.take i).map (av d))) w1 S1/\Up S S1 w w1) bs.length
  ⟨0,S,iG _,rfl,rfl,by
   have:W.add (([]:List (List dA)).map (av d))=W:=by unfold oW.add;simp
   rw[List.take_zero,this];exact h,Up.refl _ _⟩ ?_
 rintro n t w1 ⟨i,S1,hi,rfl,rfl,h1,u1⟩ X hX;dsimp only;refine aJ (λcJ=>?_) (λkT=>?_)
 ·have dJ:i<bs.length:=aB
  have cV:=gS dJ;have rV:=FQ dJ;generalize bs[i]=p at*;obtain⟨q,sl,hq,hh,AV,Em⟩:=(hr.aK KP u1.m λk hk _=>hk.1).get cV;have hos:LW N sl S1 w1:=⟨λb hb=>⟨λhs=>(u1.s _ hs).elim (Em b hb).1.1 λh=>by have:=(Em b hb).1.2.1;omega,(Em b hb).2⟩,λb hb=>(Em b hb).1.2.2⟩;rw[kE,qA i aB];have cq:w1.cell? (q.add (i*1))=some (sv sl):=by have:=hh.1;rwa[add_add,Nat.add_zero] at this
  obtain⟨wF,c2,lb,_,_⟩:=h1.OH;refine⟨⟨aB,cJ⟩,aA hq (aE (k:=.slice) sl cq (aA rfl (aE (k:=.slice) wF c2 ?_)))⟩;refine cC (cs:=By (av d p,sl)) λw6 b6 k6 z6=>?_;have h6:=h1.kp k6;obtain⟨YN,c2',lb',_,xs,Dd,we,hx3⟩:=h6.OH;have e:YN=wF:=by have:=c2'.symm.trans ((k6.cell c2 id));injection this with this;injection this with h1 h2 h3;cases wF;cases YN;simp_all
  subst e;have xl:xs.length=W.lU.length+i:=by
   have:=congrArg List.length Dd;simp[oW.add] at this;omega
  refine Hg we hx3 b6.1 (AV.aK k6 fI λ_ _=>id) (hos.kp k6) aB λw8 S8 h8 u8=>?_;refine hX _ _ _ aB ⟨i+1,S8,dJ,rfl,rfl,?_,u1.tr ((Up.aN k6).tr u8)⟩;have e2:(⟨(W.add ((bs.take i).map (av d))).v,(W.add ((bs.take i).map (av d))).ds,(xs++[(av d p,sl)]).map (·.1),(W.add ((bs.take i).map (av d))).row⟩:oW)=W.add ((bs.take (i+1)).map (av d)):=by
   unfold oW.add;rw[rV,yS,yS,Dd];simp[oW.add]
  rw[e2] at h8;exact h8
 ·have ei:i=bs.length:=aB
  subst ei;rw[oZ] at h1;exact hQ w1 S1 h1 u1
theorem iS.rowAt(h:iS N ee a wa W w S):w.cell? ((⟨wa,0,none⟩:Addr).add 1)=some (sv W.row)/\Rd w W.row 1 Lb (RS W.ds):=by
 obtain⟨wF,xs,h1,h2,h3⟩:=h.ex;obtain⟨_,_,_,⟨_,_,BA,⟨_,_,hv,_⟩,_⟩,_⟩:=id h2;exact⟨aO BA rfl,hv.1.rd GL⟩
theorem Oo{x:Int}{Q:cL->aH->Prop}(h:iS N ee a wa W w S)(hl:W.ds.length<=16)(hQ1:∀d dv,0<=x->W.ds[x.toNat]? =some (d,dv)->Q (some ⟨d,0,none⟩) w)(hQ0:¬(0<=x/\x<W.ds.length)->Q none w):yI (some ⟨wa,0,none⟩) x w Q:=by
 unfold yI;obtain⟨wF,xs,h1,h2,h3⟩:=h.ex;obtain⟨_,_,_,⟨_,_,BA,⟨_,_,hv,_⟩,_⟩,_⟩:=id h2;have c1:w.cell? ((⟨wa,0,none⟩:Addr).add 1)=some (sv W.row):=aO BA rfl;have ll:=hv.1.len;rw[oL] at ll;refine aF (λh=>by simp at h) (λ_=>aJ (λh=>hQ0 λhh=>aB) (λh0=>aA rfl (aE (k:=.slice) W.row c1 (aJ (λh=>hQ0 λhh=>aB) (λh1'=>aA rfl (aE (k:=.slice) W.row c1 ?_))))));have cJ:x.toNat<W.ds.length:=aB;have cV:=gS cJ;obtain⟨d,dv⟩:Nat×CS:=W.ds[x.toNat];generalize W.ds[x.toNat]=p at*;obtain⟨q,hq,cq⟩:=cF (k:=.ptr) (e:=λx=>x) (hv.1.rd GL) (show(RS W.ds)[x.toNat]? =some (some ⟨p.1,0,none⟩) by rw[mG,cV];rfl);exact⟨⟨aB,aB⟩,aA hq (aE (k:=.ptr) (some ⟨p.1,0,none⟩) cq (hQ1 p.1 p.2 aB cV))⟩
end
end
section
theorem kh(xs:List (BC×Sl)):(xs.flatMap By).length=xs.length*3:=bI VF xs
theorem DelUn_i{s:Sl}{xs:List (BC×Sl)}{i:Nat}{w:aH}{Q:Sl->aH->Prop}(hs:dQ w MH 3 By s xs)(hi:i<xs.length)(hb:xs.length<1099511627776)
  (hQ:∀s' w',dQ w' MH 3 By s' (xs.take i++xs.drop (i+1))->aW (λk=>∃b,s.b=some b/\k=b.block) w w'->s'.b=s.b->Q s' w'):
  iD s (i:Int) ((i:Int)+1) w Q:=by
 unfold iD;have hl:=hs.len;have Qj:=hs.cap;have Qg:=hs.max;rcases hs.gN with⟨_,h0⟩|⟨g,dE,Kj,ho,fU⟩
 ·omega
 refine⟨⟨aB,aB⟩,⟨aB,by simp;omega⟩,⟨aB,aB⟩,?_⟩;refine aF (λh=>by simp at h;omega) (λ_=>?_);refine⟨⟨aB,aB⟩,⟨aB,aB⟩,?_⟩;have hd:aM w w.drew:=aW.drew (aW.refl _ w);have ti:Int.toNat (i:Int)=i:=rfl;have tj:Int.toNat ((i:Int)+1)=i+1:=rfl;rw[oI,ti,tj,Nat.sub_zero,Nat.sub_zero];have hvd:=hs.aK hd (λ_ _=>id);have df:=hvd.take (i:=i) aB;have Po:=(hvd.rd VF).part (i:=i+1) (j:=s.l) (c:=s.c) aB aB aB aB;rw[List.take_of_length_le (by simp;omega)] at Po;have LA:(xs.take i).length+(xs.drop (i+1)).length=xs.length-1:=by simp;omega
 refine Hh EC VF Vt df Po (by rw[LA];omega) (by rw[LA];omega) λr w1 hr hm Kv hrn PU=>?_;have Ke:=hr.len;rw[mL,LA] at Ke;have bw:=hr.cap;have tl:Int.toNat (s.l:Int)=s.l:=rfl;have tr:Int.toNat (r.l:Int)=r.l:=rfl;rw[tl,tr];obtain rfl:=PU (by rw[LA];show _<=s.c;omega);have e1:i+(s.l-(i+1))=xs.length-1:=aB;simp only[e1] at hr Ke bw tr ⊢;refine⟨⟨aB,aB⟩,⟨aB,aB⟩,?_⟩;rw[Kj,lJ (show xs.length-1<s.c by omega)];rcases hr.gN with⟨h0,_⟩|⟨g',Vp,hbg',ho',QN⟩
 ·rw[Kj] at h0;cases h0
 have:g'=g:=by rw[Kj] at hbg';cases hbg';rfl
 subst this;have QE:((xs.take i++xs.drop (i+1)).flatMap By).length=(xs.length-1)*3:=by rw[kh,mL,LA]
 have xT:((xs.take i++xs.drop (i+1)).flatMap By++Vp).length=s.c*3:=QN;have h4:xs.length*3<=s.c*3:=RV 3 aB;refine ZI EC (by simp[Value.oneCell']) ho' (by rw[xT];omega) λw2 zs hz di m2 _=>?_;have IM:s.l-(xs.length-1)=1:=aB;rw[IM] at hz di;rw[Dm QE] at di;refine hQ _ w2 ⟨by rw[mL,LA],by show xs.length-1<=s.c;omega,Qg,.inr ⟨g',zs++((xs.take i++xs.drop (i+1)).flatMap By++Vp).drop ((xs.length-1)*3+1*3),rfl,by simpa using di,?_⟩⟩ ?_ Kj.symm
 ·show _=s.c*3
  simp only[mL,QE,List.length_drop,hz];rw[mL,QE] at xT;omega
 ·exact((aM.aK hd).tr hm).tr (m2.mono λk _ hk=>⟨_,Kj,hk⟩)
structure XX(G:Gr)(B:Int)(n:Nat)(W:oW):Prop where
 v:W.v.Ok G B
 b0:0<=B
 len:W.ds.length=n/\1<=n/\n<=16
 ds:∀p∈W.ds,p.2.Ok B/\p.2.cQ=W.v.cQ
 lU:∀u∈W.lU,u.data.length<=3000/\(u.up=true->0<=u.d/\u.d<n)
 aT:∀e∈W.v.t.aT,e.aL<n
theorem WA{G:Gr}{B B':Int}{v:iQ}(ok:v.Ok G B)(h:B<=B'):v.Ok G B':=⟨ok.cQ,ok.dO,ok.u,ok.t,ok.eQ,λe he=>by have:=ok.ch e he;exact⟨this.1,this.2.1,this.2.2.1,aB⟩,ok.yN,ok.Df,ok.lost⟩
theorem XX.mono{G:Gr}{B B':Int}{n:Nat}{W:oW}(h:XX G B n W)(hB:B<=B'):XX G B' n W:=⟨WA h.v hB,by have:=h.b0;omega,h.len,λp hp=>⟨(h.ds p hp).1.mono hB,(h.ds p hp).2⟩,h.lU,h.aT⟩
structure zC(N:BS)(G:Gr)(B:Int)(n:Nat)(ee a wa:Nat)(W:oW)(w:aH)(S:BS)(rh:Sl)(hs:List yW)(k:Nat)(W':oW)(w':aH)(S':BS):Prop where
 x:iS N ee a wa W' w' S'
 up:Up S S' w w'
 AV:Qq w.heap.size S' w' rh hs
 ok:XX G (B+16) n W'
 cQ:W'.v.cQ=W.v.cQ
 len:W'.lU.length<=W.lU.length+k
 dO:W'.v.dO<=W.v.dO+1
 hl:hs.length<=20
def ArrR(G:Gr)(W:oW)(u:BC)(W':oW)(hs:List yW):Prop:=
 if u.up=true then∃v' ps,Wj G W.v u.d u.data v' ps hs/\W'=({W with v:=v'}:oW).add (ps.map Ps)
 else(¬(0<=u.d/\u.d<W.ds.length)/\W'=W/\hs=[])\/∃d dv xM ds ms,W.ds[u.d.toNat]? =some (d,dv)/\0<=u.d/\DRecvR dv u.data xM ds ms/\W'=({W with ds:=W.ds.set u.d.toNat (d,xM)}:oW).add (ds.map (av u.d))/\hs=ms.map λm=>⟨u.d,xM.aP,false,m⟩
theorem Rs{N:BS}{lo:Nat}{S:BS}{w:aH}{r:Sl}{ps:List Pk}(h:rD lo S w r ps)(hN:∀k,N k->k<lo):vX eU 2 ePk Prod.snd (λk=>¬S k/\k<w.heap.size/\¬N k) w r ps:=(h.rd MD).wk λk h1 h2=>⟨h1.2,h2,λh=>by have:=hN k h;have:=h1.1;omega⟩
theorem Rr{N:BS}{lo:Nat}{S:BS}{w:aH}{r:Sl}{ps:List (List dA)}(h:ym lo S w r ps)(hN:∀k,N k->k<lo):Fj (λk=>¬S k/\k<w.heap.size/\¬N k) w r ps:=(h.rd lenD_q).wk λk h1 h2=>⟨h1.2,h2,λh=>by have:=hN k h;have:=h1.1;omega⟩
section
variable{N:BS}{W0 w:aH}{S:BS}{a wa n:Nat}{W:oW}{E:uL}{G:Gr}{B:Int}
theorem TE{l:List BC}(ok:XX G B n W)(h:∀u∈l,u.data.length<=3000/\(u.up=true->0<=u.d/\u.d<n)):XX G B n (W.add l):=
 ⟨ok.v,ok.b0,ok.len,ok.ds,λu hu=>(jK.1 hu).elim (ok.lU u) (h u),ok.aT⟩
theorem sx{d:Int}{sl:Sl}{bs:List dA}{Q:Sl->aH->Prop}(h:iS N E.e a wa W w S)(hN:∀k,N k->k<w.heap.size)(hb:Bs W0 E G S w)(ok:XX G B n W)(hB:B<=100000000000000)(hd:0<=d/\d<n)(KI:W.lU.length<=800000)(hr:Rd w sl 1 eU bs)(ho:AY sl S w)(hl:bs.length<=5000)
  (hQ:∀rh hs v' ps w' S',zC N G B n E.e a wa W w S rh hs (W.v.cQ.cO+1) (({W with v:=v'}:oW).add (ps.map Ps)) w' S'->Wj G W.v d bs v' ps hs->Q rh w'):CO (some ⟨wa,0,none⟩) d sl w Q:=by
 unfold CO;obtain⟨S1,h1,tO,c0,dN⟩:=h.Bt;refine aA rfl (aE (k:=.ptr) (some ⟨a,0,none⟩) c0 ?_);refine VRecv_i h1 (hb.sub tO) ok.v ⟨ok.b0,hB⟩ hr (λb bW=>⟨λhk=>(ho b bW).1 (tO _ hk),(ho b bW).2⟩) hl λr rh ps hs v' w1 AW g=>?_;obtain⟨S2,h2,u2,e2⟩:=dN v' w1 AW g.Bt g.up;have CV:=ok.v.cQ.cO;have gl:=g.len;have rp:rD w.heap.size S2 w1 r ps:=g.row.cov e2;refine Rz h2 (Rs rp hN) (by show W.lU.length+_<=_;omega) λw3 S3 h3 u3=>?_;have okn:XX G (B+16) n ({W with v:=v'}:oW):=⟨g.ok,by have:=ok.b0;omega,ok.len,λp hp=>⟨((ok.ds p hp).1).mono aB,((ok.ds p hp).2).trans g.dy.cQ.symm⟩,ok.lU,λe he=>?_⟩
 ·refine hQ rh hs v' ps w3 S3 ⟨h3,u2.tr u3,(g.AV.cov e2).up u3,TE okn λu hu=>?_,g.dy.cQ,by show(W.lU++_).length<=_;simp;omega,by show v'.dO<=_;rw[g.dy.dO];omega,g.hl⟩ g.rel
  obtain⟨p,hp,rfl⟩:=lK.1 hu;exact⟨g.vv p hp,λh=>by cases h⟩
 ·rcases g.dy.aT e he with⟨f,hf,hp⟩|hp
  ·rw[<-hp];exact ok.aT f hf
  ·omega
theorem arrive_i{u:BC}{sl:Sl}{Q:Sl->aH->Prop}(h:iS N E.e a wa W w S)(hN:∀k,N k->k<w.heap.size)(hb:Bs W0 E G S w)(ok:XX G B n W)(hB:B<=100000000000000)(KI:W.lU.length<=800000)(hu:u.data.length<=3000/\(u.up=true->0<=u.d/\u.d<n))(hr:Rd w sl 1 eU u.data)(ho:AY sl S w)
  (hQ:∀rh hs W' w' S',zC N G B n E.e a wa W w S rh hs (W.v.cQ.cO+1) W' w' S'->ArrR G W u W' hs->Q rh w'):EF (some ⟨wa,0,none⟩) (u.d,u.up,sl,()) w Q:=by
 unfold EF;have lt0:=h.lt;refine cC (cs:=By (u,sl)) λw1 b1 k1 z1=>aE (k:=.bool) u.up (aO b1 rfl) ?_;have h1:=h.kp k1;refine aF (λnj=>?_) (λnj=>?_)
 ·refine aE (k:=.i) u.d (aO b1 rfl) (aE (k:=.slice) sl (aO b1 rfl) ?_)
  refine sx h1 (λk hk=>mD (hN k hk) k1.size) (hb.kp k1) ok hB (hu.2 nj) KI (hr.aK k1 fI λ_ _=>id) (ho.kp k1) aB λrh hs v' ps w' S' g xP=>?_;exact hQ rh hs _ w' S' ⟨g.x,(Up.aN k1).tr g.up,g.AV.qF k1.size,g.ok,g.cQ,g.len,g.dO,g.hl⟩ (by unfold ArrR;rw[if_pos nj];exact⟨v',ps,xP,rfl⟩)
 ·have hup':¬u.up=true:=by rw[nj];simp
  refine aE (k:=.i) u.d (aO b1 rfl) ?_;have hn:=ok.len;have K1d:=k1.tr (bN w1);have xi:=h.kp K1d;have b1d:=bF.dr b1;obtain⟨S1,bz,tO,c0,_⟩:=xi.Bt;refine Oo h1 aB (λd dv h0 hi=>?_) (λvU=>?_)
  ·refine aA rfl (aE (k:=.ptr) (some ⟨a,0,none⟩) c0 (aE (k:=.slice) sl (aO b1d rfl) (Rh bz ⟨aO b1d rfl,?_⟩)))
   obtain⟨S2,hD,FP,dN⟩:=xi.drv hi;have hm:=zH hi;have Uf:=ok.ds _ hm;refine DRecv_i hD Uf.1 ⟨ok.b0,hB⟩ (hr.aK K1d fI λ_ _=>id) (λb bW=>⟨λhk=>(ho b bW).1 (FP _ hk),by have:=(ho b bW).2;have:=K1d.size;omega⟩) aB λr rm ds ms xM w5 S2' g hrm xP=>?_;obtain⟨S5,h5,u5,e5⟩:=dN xM w5 S2' g.drv g.up;have CV:=ok.v.cQ.cO;have gl:=g.len;rw[Uf.2] at gl;have rq:=Rr (N:=N) (g.row.cov e5) (λk hk=>mD (hN k hk) K1d.size);have rmm:vX eI 9 tC lO.cH (λk=>¬S5 k/\k<w5.heap.size/\w.heap.size<=k) w5 rm ms:=((hrm.cov e5).rd Fs).wk λk h1 h2=>⟨h1.2,h2,by have:=h1.1;have:=K1d.size;omega⟩;have lrm:=rmm.len;have zw1:w1.drew.heap.size=w1.heap.size:=rfl;have nS1:¬S w.heap.size:=λhs=>by have:=lt0 _ hs;omega
   have U5:Up S S5 w w5:=(Up.aN K1d).tr u5;have o5:cW w5 w.heap.size MH (By (u,sl)):=b1d.1.aK u5.m nS1;have Mt:=h5.lt;have z5:=u5.size;have Uk:ms.length<=20:=by
    obtain⟨g',e',_,hc⟩:=xP;rcases hc with⟨_,_,_,rfl⟩|⟨_,_,_,_,rfl⟩|⟨_,_,p,c,rQ,gs,c',XW,jI,dF,Ki,YI,_,_,hF,Uk,_⟩
    ·simp
    ·simp
    ·have rf:=wT (Uf.1.ch _ Ki).1 YI
     have h1:=hF.len;rw[Uk];unfold Gg;rw[oL];have:=vW (λx:lO×Int=>decide (x.2=0)) XW;omega
   refine bO (λc t w6=>∃(i:Nat) (rh:Sl),i<=ms.length/\c=ms.length-i/\t=(rh,(i:Int),())/\aM w5 w6/\Qq w.heap.size S5 w6 rh ((ms.take i).map λm=>⟨u.d,xM.aP,false,m⟩)/\(∀b,rh.b=some b->w5.heap.size<=b.block)) ms.length
    ⟨0,bD,iG _,rfl,rfl,aW.refl _ _,eJ.nil,λb bW=>(by cases bW)⟩ ?_
   rintro c t w6 ⟨i,rh,hi6,rfl,rfl,k6,q6,f6⟩ X hX;dsimp only;have h6:=h5.kp k6;have m6:=rmm.kp eMX_ne k6;have o6:=o5.aK k6 id;have z6:=k6.size;refine aJ (λcJ=>?_) (λkT=>?_)
   ·have dJ:i<ms.length:=aB
    have cV:=gS dJ;have rV:=FQ dJ;generalize ms[i]=m at*;obtain⟨q,aw,hq,hh,AV,Em⟩:=m6.get cV;rw[kE,qA i aB];refine⟨⟨aB,cJ⟩,aA hq (bJ (l:=bf) (FX (m,aw)) hh ?_)⟩;refine fE (zs:=tC (⟨0,0,0,[],0,ME⟩,bD)) (vs:=tC (m,aw)) CA rfl (VE _) λw8 o8 k8 z8=>?_;have K8:=k8.tr (bN w8);have h8:=h6.kp K8;have o8d:=o8.aK (bN w8) id;have o6d:=o6.aK K8 id;have FZ:({W with ds:=W.ds.set u.d.toNat (d,xM)}:oW).ds[u.d.toNat]? =some (d,xM):=by
     show(W.ds.set u.d.toNat (d,xM))[u.d.toNat]? =_;rw[vT];have:=(kU.1 hi).1;simp[this]
    obtain⟨_,hD8,_,_⟩:=h8.drv FZ;refine aE (k:=.i) u.d (cM o6d rfl) (bJ (l:=bf) (FX (m,aw)) (o8d.holds λj v hj=>by rw[pN];exact hj) (DConn_i hD8 ⟨o8d.holds λj v hj=>by rw[pN];exact hj,cM o6d rfl,?_⟩));have z8d:=K8.size;refine eJ.pj NM qc oneHd aB (q6.kp K8) (by simp;omega) aB (λk hk=>by have:=Mt k hk;omega) ⟨u.d,xM.aP,false,m⟩ (sl:=aw) (AV.aK K8 cR λ_ _=>id) (λb bW=>⟨(Em b bW).1.2.2,(Em b bW).1.1,by have:=(Em b bW).2;omega,λb' Qk e=>by have:=f6 b' Qk;have:=(Em b bW).1.2.1;omega⟩) λrh' eV v10 YC nb10=>?_;refine hX _ _ _ aB ⟨i+1,rh',dJ,rfl,rfl,(k6.tr K8).fresh YC λk ⟨b,bW,e⟩=>by rw[e];exact f6 b bW,by rw[rV,yS];exact v10,λb bW=>?_⟩;rcases nb10 b bW with⟨a',pI,e⟩|h
    ·rw[e];exact f6 a' pI
    ·omega
   ·have ei:i=ms.length:=aB
    subst ei;rw[oZ] at q6;refine aE (k:=.i) u.d (cM o6 rfl) ?_;have e0:(u.d.toNat:Int)=u.d:=aB;refine oq h6 ((rq.kp KP k6).wk λk h1 h2=>⟨h1.1,h2,h1.2.2⟩) (by show W.lU.length+ds.length<=_;omega) λw8 S8 h8 u8=>?_;have okn:XX G (B+16) n ({W with ds:=W.ds.set u.d.toNat (d,xM)}:oW):=⟨WA ok.v aB,by have:=ok.b0;omega,⟨by show(W.ds.set _ _).length=n;rw[pJ];exact ok.len.1,ok.len.2⟩,λp hp=>?_,ok.lU,ok.aT⟩
    ·refine hQ rh _ _ w8 S8 ⟨h8,(U5.tr (Up.aN k6)).tr u8,q6.up u8,TE okn λx hx=>?_,rfl,by show(W.lU++_).length<=_;simp;omega,by show W.v.dO<=_;omega,by rw[oL];exact Uk⟩ ?_
     ·obtain⟨bb,LH,rfl⟩:=lK.1 hx
      have GA:=(kU.1 hi).1;exact⟨g.vv bb LH,λ_=>⟨h0,by show u.d<n;omega⟩⟩
     ·unfold ArrR
      rw[if_neg hup'];exact .inr ⟨d,dv,xM,ds,ms,hi,h0,xP,rfl,rfl⟩
    ·rcases List.mem_or_eq_of_mem_set hp with hp|rfl
     ·exact⟨(ok.ds p hp).1.mono aB,(ok.ds p hp).2⟩
     ·exact⟨g.ok,g.cQ.trans Uf.2⟩
  ·refine aA rfl (aE (k:=.ptr) (some ⟨a,0,none⟩) c0 (aE (k:=.slice) sl (aO b1d rfl) (Rh bz ⟨aO b1d rfl,?_⟩)))
   refine mv (hr.aK K1d fI λ_ _=>id) aB λw5 k5=>?_;have b5:=bF.kp b1d k5;refine bO (λc t w6=>c=0/\t=(bD,(0:Int),())/\w6=w5) 0 ⟨rfl,rfl,rfl⟩ ?_;rintro c t w6 ⟨rfl,rfl,rfl⟩ X hX;dsimp only;refine aJ (λcJ=>by simp at cJ) (λ_=>aE (k:=.i) u.d (aO b5 rfl) ?_);have h5:=xi.kp k5;refine oq (bs:=[]) (l:=bD) h5 ⟨[],rfl,Rd.nil _ _ _,λb bW=>(by cases bW),λx hx=>by cases hx⟩ (by simp;omega) λw8 S8 h8 u8=>?_;have e:W.add (([]:List (List dA)).map (av u.d))=W:=by unfold oW.add;simp
   rw[e] at h8;refine hQ _ [] W w8 S8 ⟨h8,(Up.aN (K1d.tr k5)).tr u8,eJ.nil,ok.mono aB,rfl,aB,aB,iG _⟩ ?_;unfold ArrR;rw[if_neg hup'];exact .inl ⟨vU,rfl,rfl⟩
end
end
section
structure RR where
 kind:Int
 d:Int
 n:Int
 m:Int
 Jw:List dA
abbrev Uc(x:RR×Sl):List Value:=[aD x.1.kind,aD x.1.d,aD x.1.n,aD x.1.m,sv x.2]
abbrev kEv:List CK:=[.i,.i,.i,.i,.slice]
abbrev Et(x:RR×Sl):Int×Int×Int×Int×Sl×Unit:=(x.1.kind,x.1.d,x.1.n,x.1.m,x.2,())
theorem qd:∀x:RR×Sl,(Uc x).length=5:=λ_=>rfl
theorem oneEv:∀x:RR×Sl,∀u∈Uc x,u.oneCell'=true:=by intro x u hu;simp at hu;rcases hu with rfl|rfl|rfl|rfl|rfl<;>rfl
theorem Gh(x:RR×Sl):Uc x≠[]:=by simp
def Ux(n:Int)(l:Nat):Nat:=(Int.tmod (Int.tmod n l+l) l).toNat
theorem idxB_lt{n:Int}{l:Nat}(hl:0<l)(hm:l<=1000000):Ux n l<l/\Int.tmod (aQ (Int.tmod n (l:Int)+(l:Int))) (l:Int)=((Ux n l:Nat):Int):=by
 have h1:(Int.tmod n (l:Int)).natAbs=n.natAbs%l:=by rw[Int.natAbs_tmod];rfl
 have h2:=Nat.mod_lt n.natAbs hl;rw[<-h1] at h2;have h3:0<=Int.tmod n (l:Int)+l:=aB;have h4:=Int.tmod_nonneg (b:=(l:Int)) h3;have h5:=Int.tmod_lt_of_pos (Int.tmod n (l:Int)+l) (show(0:Int)<l by omega);rw[gM aB aB];unfold Ux;exact⟨aB,aB⟩
def oW.rem(W:oW)(i:Nat):oW:={W with lU:=W.lU.take i++W.lU.drop (i+1)}
def BetR(G:Gr)(W:oW)(ev:RR)(W':oW)(hs:List yW):Prop:=
 (W.lU=[]/\W'=W/\hs=[])\/∃u,W.lU[Ux ev.n W.lU.length]? =some u/\if ev.kind=3 then W'=W.add [u]/\hs=[] else if ev.kind=2 then W'=W.rem (Ux ev.n W.lU.length)/\hs=[] else ArrR G (W.rem (Ux ev.n W.lU.length)) u W' hs
section
variable{N:BS}{W0 w:aH}{S:BS}{a wa n:Nat}{W:oW}{E:uL}{G:Gr}{B:Int}
theorem zC.same(h:iS N E.e a wa W w S)(ok:XX G B n W){w':aH}(k:aM w w')(c:Nat):zC N G B n E.e a wa W w S bD [] c W w' S:=
 ⟨h.kp k,Up.aN k,eJ.nil,ok.mono aB,rfl,aB,aB,iG _⟩
theorem aAs{ev:RR}{sl:Sl}{Q:Sl->aH->Prop}(h:iS N E.e a wa W w S)(hN:∀k,N k->k<w.heap.size)(hb:Bs W0 E G S w)(ok:XX G B n W)(hB:B<=100000000000000)(KI:W.lU.length<=800000)
  (hQ:∀rh hs W' w' S',zC N G B n E.e a wa W w S rh hs (W.v.cQ.cO+1) W' w' S'->BetR G W ev W' hs->Q rh w'):zN (some ⟨wa,0,none⟩) (Et (ev,sl)) w Q:=by
 unfold zN;have lt0:=h.lt;refine cC (cs:=Uc (ev,sl)) λw1 b1 k1 z1=>aA rfl ?_;have h1:=h.kp k1;obtain⟨wF,c2,lb,nO,xs,Dd,we,hx3⟩:=h1.OH;refine aE (k:=.slice) wF c2 (aF (λh0=>?_) (λh0=>?_))
 ·have hl:W.lU.length=0:=by simp at h0;omega
  exact hQ _ [] W w1 S (zC.same h ok k1 _) (.inl ⟨Ce hl,rfl,rfl⟩)
 have hl:0<W.lU.length:=by simp at h0;omega
 obtain⟨hi,hix⟩:=idxB_lt (n:=ev.n) (l:=wF.l) aB aB;refine aE (k:=.i) ev.n (aO b1 rfl) ⟨aB,aB,aA rfl (aE (k:=.slice) wF c2 ?_)⟩;rw[hix,kE];have xl:xs.length=W.lU.length:=by rw[<-Dd,oL]
 obtain⟨i,hie⟩:∃i,i=Ux ev.n W.lU.length:=⟨_,rfl⟩;have hie2:Ux ev.n wF.l=i:=by rw[hie,lb]
 rw[hie2] at hi ⊢;have hgx:=gS (show i<xs.length by omega);generalize xs[i]=y at*;obtain⟨u,slu⟩:=y;have hgu:W.lU[i]? =some u:=by rw[<-Dd,mG,hgx];rfl
 have fP:=zH hgx;have hu:=ok.lU u (zH hgu);obtain⟨hru,hou⟩:=hx3 _ fP;obtain⟨_,_,_,⟨S01,S02,BA,⟨_,_,_,⟨_,_,_,hv,_⟩,_⟩,_⟩,_⟩:=id we;obtain⟨q,hq,hh⟩:=(hv.1.rd VF).get i _ hgx;refine⟨⟨aB,aB⟩,aA hq (bJ (l:=[.i,.bool,.slice]) (u.d,u.up,slu,()) hh ?_)⟩;refine fE (zs:=By (⟨0,false,[]⟩,bD)) (vs:=By (u,slu)) Hw rfl (Vt _) λw3 o3 k3 z3=>?_;have b3:=bF.kp b1 k3;have K3:=k1.tr k3;refine aE (k:=.i) ev.kind (aO b3 rfl) (aF (λhk=>?_) (λhk=>?_))
 ·have np:ev.kind=3:=by simpa using hk
  have kd:=k3.tr (bN w3);have Ks:=o3.aK (bN w3) id;have c23:=kd.cell c2 id;refine aA rfl (aE (k:=.slice) wF c23 (aE (k:=.i) u.d (cM Ks rfl) (aE (k:=.bool) u.up (cM Ks rfl) (aE (k:=.slice) slu (cM Ks rfl) ?_))));refine vD (hru.aK kd fI λ_ _=>id) (show u.data.length<=1000000 by omega) λr w4 S4 _ k4 _ rd4 f4=>?_;have o4:=Ks.aK k4 id;have c24:=k4.cell c23 id;refine⟨cM o4 rfl,cM o4 rfl,c24,?_⟩;refine cC (cs:=By (u,r)) λw5 b5 k5 z5=>⟨k5.cell c24 id,?_⟩;have K5:=kd.tr (k4.tr k5);have zz:=kd.size;have bd:=bF.gH we;refine Hg (u:=u) (sl:=r) (bF.kp we K5) (OD hx3 (Up.aN K5)) b5.1 ((bF.kp rd4 k5).1) ⟨λb bW=>⟨λhs=>by have:=bd _ hs;have:=f4 b bW;omega,(bF.kp rd4 k5).2.2.1 b bW⟩,λb bW hn=>by have:=hN _ hn;have:=f4 b bW;have:=k1.size;omega⟩ aB λw8 S8 h8 u8=>hQ _ [] (W.add [u]) w8 S8 ⟨by
    have e2:(⟨W.v,W.ds,(xs++[(u,r)]).map (·.1),W.row⟩:oW)=W.add [u]:=by unfold oW.add;rw[yS,Dd];rfl
    rw[e2] at h8;exact h8,((Up.aN (k1.tr K5)).tr u8),eJ.nil,TE (ok.mono aB) λx hx=>by rw[uG.1 hx];exact hu,rfl,by show(W.lU++[u]).length<=_;rw[mL,List.length_singleton];omega,by show W.v.dO<=_;omega,iG _⟩ (.inr ⟨u,by rw[<-hie];exact hgu,by rw[if_pos np];exact⟨rfl,rfl⟩⟩)
 ·have np:¬ev.kind=3:=by simpa using hk
  have h3:=bF.kp we k3;have v3:=hv.1.aK k3 λ_ _=>id;refine aA rfl (aE (k:=.slice) wF (k3.cell c2 id) ?_);rw[gM aB aB];refine DelUn_i v3 aB aB λs8 w8 v8 m8 hs8=>aA rfl ?_;have hBL:∀k,BL s8 k->BL wF k:=λk ⟨b,bW,e⟩=>⟨b,hs8.symm.trans bW,e⟩;have ou3:=OD hx3 (Up.aN (S:=S) k3);refine uk (YN:=s8) (SV':=λk=>BL s8 k) h3 m8 (λk hk=>hk) ⟨v8,λk=>Iff.rfl⟩ (λk hk=>.inl (hBL k hk)) λw9 S9 h9 u9 m9=>?_;have e2:(⟨W.v,W.ds,(xs.take i++xs.drop (i+1)).map (·.1),W.row⟩:oW)=W.rem i:=by unfold oW.rem;rw[yS,List.map_take,List.map_drop,Dd]
  have h9':iS N E.e a wa (W.rem i) w9 S9:=by
   rw[<-e2];exact⟨s8,_,rfl,h9,OD (λx hx=>ou3 x ((jK.1 hx).elim List.mem_of_mem_take List.mem_of_mem_drop)) u9⟩
  have U9:Up S S9 w w9:=(Up.aN K3).tr u9;have okr:XX G B n (W.rem i):=⟨ok.v,ok.b0,ok.len,ok.ds,λx hx=>ok.lU x ((jK.1 hx).elim List.mem_of_mem_take List.mem_of_mem_drop),ok.aT⟩;have lr:(W.rem i).lU.length+1=W.lU.length:=by show(W.lU.take i++W.lU.drop (i+1)).length+1=_;simp;omega
  have cK:w9.cell? ((⟨w.heap.size,0,none⟩:Addr).add 0)=some (aD ev.kind):=by
   have:=(b3.1).aK u9.m (λhs=>by have:=lt0 _ hs;omega);exact cM this rfl
  refine aE (k:=.i) ev.kind cK (aF (λDI=>?_) (λDI=>?_))
  ·have hk2':ev.kind=2:=by simpa using DI
   exact hQ _ [] (W.rem i) w9 S9 ⟨h9',U9,eJ.nil,okr.mono aB,rfl,aB,by show W.v.dO<=_;omega,iG _⟩ (.inr ⟨u,by rw[<-hie];exact hgu,by rw[if_neg np,if_pos hk2',<-hie];exact⟨rfl,rfl⟩⟩)
  ·have hk2':¬ev.kind=2:=by simpa using DI
   have o9:=o3.aK u9.m (λhs=>by have:=lt0 _ hs;have:=k1.size;omega);have ho3:=ou3 _ fP;refine bJ (l:=[.i,.bool,.slice]) (u.d,u.up,slu,()) (o9.holds λj v hj=>by rw[pN];exact hj) ?_;refine arrive_i h9' (λk hk=>mD (hN k hk) U9.size) (hb.up U9) okr hB aB hu (ho3.2.rd u9 ho3.1 fI) (ho3.2.up u9).o λrh hs W' w' S' g xP=>?_;exact hQ rh hs W' w' S' ⟨g.x,U9.tr g.up,g.AV.qF U9.size,g.ok,g.cQ,by have:=g.len;have e:(W.rem i).v=W.v:=rfl;rw[e] at this;omega,g.dO,g.hl⟩ (.inr ⟨u,by rw[<-hie];exact hgu,by rw[if_neg np,if_neg hk2',<-hie];exact xP⟩)
end
end
section
def DrvsR(G:Gr)(W:oW)(ev:RR)(W':oW)(hs:List yW):Prop:=0<=ev.d/\ev.d<W.ds.length->
 (ev.kind=7->∃d dv xM ds,W.ds[ev.d.toNat]? =some (d,dv)/\Gk dv ev.m ev.n xM ds/\W'=({W with ds:=W.ds.set ev.d.toNat (d,xM)}:oW).add (ds.map (av ev.d))/\hs=[])/\
 (ev.kind=11->∃v' ps,Wj G W.v ev.d ev.Jw v' ps hs/\W'=({W with v:=v'}:oW).add (ps.map Ps))
structure TickV(v v':iQ)(ps:List Pk):Prop where
 cQ:v'.cQ=v.cQ
 dO:v'.dO=v.dO+1
 u:v'.u=RW (v.dO+1) v.u (mF 0 v.u)
 aT:∀f∈v'.t.aT,f∈v.t.aT
 q:jj v->(UT (v.dO+1) (mF 0 v.u)=[]\/v.t.aT=[])->v'.t.aT=v.t.aT.filter (λe=>!Vd v e)/\v'.t.gr=v.t.gr/\F2 (λe p=>du (e.aL:Int) ⟨e.aP,3,0,0,3,[]⟩ p) (v.t.aT.filter λe=>Vd v e) ps/\(∀e∈v.t.aT,dx (v.ch e.aL) (v'.ch e.aL))/\v'.yN=v.yN/\∀k,(v'.lf k).getD (false:Bool)=false
def TickR(W W':oW):Prop:=∃ps ups,TickV W.v W'.v ps/\W'.lU=W.lU++ps.map Ps++ups/\W'.ds.length=W.ds.length/\(∀(i:Nat) d dv,W.ds[i]? =some (d,dv)->∃xM ds,W'.ds[i]? =some (d,xM)/\MO dv xM ds)/\((∀(i:Nat) d dv xM ds,W.ds[i]? =some (d,dv)->MO dv xM ds->ds=[])->ups=[])
section
variable{N:BS}{W0 w:aH}{S:BS}{a wa n:Nat}{W:oW}{E:uL}{G:Gr}{B:Int}
theorem drv_sent{i:Nat}{d:Nat}{dv xM:CS}{w':aH}{S1 S2':BS}{r:Sl}{ds:List (List dA)}{Q:aH->Prop}(h:iS N E.e a wa W w S)(hi:W.ds[i]? =some (d,dv))(ok:XX G B n W)(KI:W.lU.length<=800000)(hN:∀k,N k->k<w.heap.size)
  (dN:∀xM w' AW,uU d xM w' AW->Up S1 AW w w'->∃S',iS N E.e a wa {W with ds:=W.ds.set i (d,xM)} w' S'/\Up S S' w w'/\∀k,S' k->AW k\/k<w.heap.size) (g:JC B d dv w S1 r ds xM w' S2')
  (hQ:∀w2 S3,iS N E.e a wa (({W with ds:=W.ds.set i (d,xM)}:oW).add (ds.map (av (i:Int)))) w2 S3->Up S S3 w w2->XX G (B+16) n (({W with ds:=W.ds.set i (d,xM)}:oW).add (ds.map (av (i:Int))))->ds.length<=W.v.cQ.cO+1->Q w2):CH (some ⟨wa,0,none⟩) (i:Int) r w' Q:=by
 obtain⟨S2,h2,u2,e2⟩:=dN xM w' S2' g.drv g.up;have Uf:=ok.ds _ (zH hi);have gl:=g.len;rw[Uf.2] at gl;have CV:=ok.v.cQ.cO;refine oq h2 (Rr (g.row.cov e2) hN) (by show W.lU.length+_<=_;omega) λw4 S4 h4 u4=>?_;have cJ:=(kU.1 hi).1;have hln:=ok.len;refine hQ w4 S4 h4 (u2.tr u4) (TE ⟨WA ok.v aB,by have:=ok.b0;omega,⟨by show(W.ds.set _ _).length=n;rw[pJ];exact ok.len.1,ok.len.2⟩,λp hp=>?_,ok.lU,ok.aT⟩ λx hx=>?_) gl
 ·rcases List.mem_or_eq_of_mem_set hp with hp|rfl
  ·exact⟨(ok.ds p hp).1.mono aB,(ok.ds p hp).2⟩
  ·exact⟨g.ok,g.cQ.trans Uf.2⟩
 ·obtain⟨bb,LH,rfl⟩:=lK.1 hx
  exact⟨g.vv bb LH,λ_=>⟨by show(0:Int)<=(i:Int);omega,by show(i:Int)<n;omega⟩⟩
theorem drives_i{ev:RR}{sl:Sl}{Q:Sl->aH->Prop}(h:iS N E.e a wa W w S)(hN:∀k,N k->k<w.heap.size)(hb:Bs W0 E G S w)(ok:XX G B n W)(hB:B<=1000000000)(KI:W.lU.length<=800000)(hr:Rd w sl 1 eU ev.Jw)(ho:AY sl S w)(hl:ev.Jw.length<=5000)
  (hQ:∀rh hs W' w' S',zC N G B n E.e a wa W w S rh hs (W.v.cQ.cO+1) W' w' S'->DrvsR G W ev W' hs->Q rh w'):EE (some ⟨wa,0,none⟩) (Et (ev,sl)) w Q:=by
 unfold EE;have lt0:=h.lt;have hn:=ok.len;refine cC (cs:=Uc (ev,sl)) λw1 b1 k1 z1=>aE (k:=.i) ev.d (aO b1 rfl) ?_;have h1:=h.kp k1;refine Oo h1 aB (λd dv h0 hi=>?_) (λvU=>?_)
 ·refine aF (λh=>by simp at h) (λ_=>?_)
  obtain⟨S1,bz,tO,c0,_⟩:=h1.Bt;refine aA rfl (aE (k:=.ptr) (some ⟨a,0,none⟩) c0 (Rh bz ?_));obtain⟨S2,hD,FP,dN⟩:=h1.drv hi;have Uf:=ok.ds _ (zH hi);obtain⟨i,hie⟩:∃i:Nat,ev.d=(i:Int):=⟨ev.d.toNat,aB⟩;have hti:ev.d.toNat=i:=aB;rw[hti] at hi dN;intro J1 KJ;have j1:∀r ds xM w6 S6,JC B d dv w1 S2 r ds xM w6 S6->(ev.kind=11->False)->(ev.kind=7->Gk dv ev.m ev.n xM ds)->J1 (r,()) w6:=λr ds xM w6 S6 g Kk h7=>by
   apply KJ;have ob:cW w6 w.heap.size YR (Uc (ev,sl)):=b1.1.aK g.up.m λhs=>by have:=lt0 _ (FP _ hs);omega
   refine aE (k:=.i) ev.d (cM ob rfl) ?_;rw[hie];refine drv_sent h1 hi ok KI (λk hk=>mD (hN k hk) k1.size) dN g λw7 S7 h7' u7 cy l7=>?_;refine hQ _ [] _ w7 S7 ⟨h7',(Up.aN k1).tr u7,eJ.nil,cy,rfl,by show(W.lU++_).length<=_;simp;omega,by show W.v.dO<=_;omega,iG _⟩ λ_=>⟨λhk=>⟨d,dv,xM,ds,by rw[hti];exact hi,h7 hk,by rw[hti,hie],rfl⟩,λhk=>(Kk hk).elim⟩
  have same:JC B d dv w1 S2 bD [] dv w1 S2:=JC.same hD Uf.1 (aW.refl _ _);refine aE (k:=.i) ev.kind (aO b1 rfl) (aF (λhk=>?_) (λhk7=>aF (λhk=>?_) (λhk8=>aF (λhk=>?_) (λhk9=>aF (λhk=>?_) (λhk10=>aF (λhk=>?_) (λhk11=>?_))))))
  ·have lD:ev.kind=7:=by simpa using hk
   refine aE (k:=.i) ev.m (aO b1 rfl) (aE (k:=.i) ev.n (aO b1 rfl) (DStart_i hD Uf.1 ⟨ok.b0,aB⟩ λr ds e v' w6 S6 g ET=>j1 r ds v' w6 S6 g (λh=>aB) λ_=>ET))
  ·have lD:ev.kind=8:=by simpa using hk
   exact aE (k:=.i) ev.n (aO b1 rfl) (Pg hD Uf.1 ok.b0 λr ds e v' w6 S6 g=>j1 r ds v' w6 S6 g (λh=>aB) λh=>aB)
  ·have lD:ev.kind=9:=by simpa using hk
   exact aAY hD Uf.1 ok.b0 λr ds e v' w6 S6 g=>j1 r ds v' w6 S6 g (λh=>aB) λh=>aB
  ·have lD:ev.kind=10:=by simpa using hk
   exact DStop_i hD Uf.1 ok.b0 λr ds e v' w6 S6 g=>j1 r ds v' w6 S6 g (λh=>aB) λh=>aB
  ·have lD:ev.kind=11:=by simpa using hk
   refine aE (k:=.i) ev.d (aO b1 rfl) (aE (k:=.slice) sl (aO b1 rfl) ?_);have cJ:=(kU.1 hi).1;refine sx h1 (λk hk=>mD (hN k hk) k1.size) (hb.kp k1) ok aB ⟨h0,aB⟩ KI (hr.aK k1 fI λ_ _=>id) (ho.kp k1) hl λrh hs v' ps w' S' g xP=>?_;exact hQ rh hs _ w' S' ⟨g.x,(Up.aN k1).tr g.up,g.AV.qF k1.size,g.ok,g.cQ,g.len,g.dO,g.hl⟩ λ_=>⟨λh=>aB,λ_=>⟨v',ps,xP,rfl⟩⟩
  ·have n7:¬ev.kind=7:=by simpa using hk7
   have n11:¬ev.kind=11:=by simpa using hk11
   exact j1 _ [] dv w1 S2 same (λh=>n11 h) λh=>absurd h n7
 ·exact aF (λ_=>hQ _ [] W w1 S (zC.same h ok k1 _) λhh=>absurd hh vU) (λh=>by simp at h)
theorem tick_i{Q:aH->Prop}(h:iS N E.e a wa W w S)(hN:∀k,N k->k<w.heap.size)(hb:Bs W0 E G S w)(ok:XX G B n W)(hB:B<=1000000000)(KI:W.lU.length<=800000)(RX:W.v.dO<1000000000)
  (hQ:∀W' w' S',zC N G B n E.e a wa W w S bD [] (W.v.cQ.kV*(2*W.v.cQ.cO+1)+n*(W.v.cQ.cO+1)) W' w' S'->TickR W W'->Q w'):OX (some ⟨wa,0,none⟩) w Q:=by
 unfold OX;have hn:=ok.len;have CV:=ok.v.cQ.cO;have hsess:=ok.v.cQ.kV;obtain⟨S1,bz,tO,c0,dN⟩:=h.Bt;refine aA rfl (aE (k:=.ptr) (some ⟨a,0,none⟩) c0 (VTick_i bz (hb.sub tO) ok.v RX λr ps v' w1 AW g=>?_));obtain⟨S2,h2,u2,e2⟩:=dN v' w1 AW g.Bt g.up;have lw:W.v.cQ.kV*(2*W.v.cQ.cO+1)<=16*33:=EX hsess.2 aB;have gl:=g.len;refine Rz h2 (Rs (g.row.cov e2) hN) (by show W.lU.length+_<=_;omega) λw3 S3 h3 u3=>?_;have U3:=u2.tr u3;have Kr:XX G B n (({W with v:=v'}:oW).add (ps.map Ps)):=TE ⟨g.ok,ok.b0,ok.len,λp hp=>⟨(ok.ds p hp).1,((ok.ds p hp).2).trans g.cQ.symm⟩,ok.lU,λe he=>ok.aT e (g.aT e he)⟩ λx hx=>by
  obtain⟨p,hp,rfl⟩:=lK.1 hx;exact⟨g.vv p hp,λh=>by cases h⟩
 have tv:TickV W.v v' ps:=⟨g.cQ,g.dO,g.u,g.aT,g.q⟩;obtain⟨c1,Wa⟩:=h3.rowAt;refine aA rfl (aE (k:=.slice) W.row c1 ?_);have ll:=Wa.len;rw[oL] at ll;have ldl:W.row.l=n:=ll.trans hn.1;refine bO (λc t w5=>∃(i:Nat) (W5:oW) (S5:BS) (ups:List BC),i<=n/\c=n-i/\t=((i:Int),())/\iS N E.e a wa W5 w5 S5/\Up S S5 w w5/\XX G B n W5/\W5.v=v'/\W5.row=W.row/\W5.lU=W.lU++ps.map Ps++ups/\ups.length<=i*(W.v.cQ.cO+1)/\(∀(j:Nat) d dv,W.ds[j]? =some (d,dv)->if j<i then∃xM ds,W5.ds[j]? =some (d,xM)/\MO dv xM ds else W5.ds[j]? =some (d,dv))/\((∀(i:Nat) d dv xM ds,W.ds[i]? =some (d,dv)->MO dv xM ds->ds=[])->ups=[])) n
  ⟨0,_,S3,[],iG _,rfl,rfl,h3,U3,Kr,rfl,rfl,by show W.lU++ps.map Ps=_;rw[tD],by simp,λj d dv hj=>(by rw[if_neg aB];exact hj),λ_=>rfl⟩ ?_
 rintro c t w5 ⟨i,W5,S5,ups,hi,rfl,rfl,h5,u5,LK,ni,QL,qo,hul,hds5,hq5⟩ X hX;dsimp only;have iw:i*(W.v.cQ.cO+1)<=16*17:=EX aB aB;have hpl:ps.length<=528:=aB;refine aJ (λcJ=>?_) (λkT=>?_)
 ·have dJ:i<n:=aB
  have hiw:i<W.ds.length:=aB;obtain⟨⟨d,dv⟩,Kh⟩:∃p,W.ds[i]? =some p:=⟨_,gS hiw⟩;have hg5:W5.ds[i]? =some (d,dv):=by have:=hds5 i d dv Kh;rw[if_neg aB] at this;exact this
  obtain⟨_,hrd5⟩:=h5.rowAt;rw[QL] at hrd5;obtain⟨q,hq,cq⟩:=cF (k:=.ptr) (e:=λx=>x) hrd5 (show(RS W5.ds)[i]? =some (some ⟨d,0,none⟩) by rw[mG,hg5];rfl);obtain⟨S6,hS6,Pn,c6,_⟩:=h5.Bt;rw[kE,qA i aB];refine⟨⟨aB,cJ⟩,aA hq (aE (k:=.ptr) (some ⟨d,0,none⟩) cq (aA rfl (aE (k:=.ptr) (some ⟨a,0,none⟩) c6 (Rh hS6 ?_))))⟩;obtain⟨S7,hD,hs7,back7⟩:=h5.drv hg5;have Uf:=LK.ds _ (zH hg5);refine DTick_i hD Uf.1 ok.b0 λr ds xM w7 S7' gd okB xP=>?_;have hl5:W5.lU.length<=801000:=by rw[qo];simp;omega
  obtain⟨S8,h8,u8,e8⟩:=back7 xM w7 S7' gd.drv gd.up;have gdl:=gd.len;rw[Uf.2,ni,g.cQ] at gdl;refine oq h8 (Rr (gd.row.cov e8) λk hk=>mD (hN k hk) u5.size) (by show W5.lU.length+_<=_;omega) λw9 S9 h9 u9=>?_;have hlt5:=(kU.1 hg5).1;refine hX _ _ _ aB ⟨i+1,_,S9,ups++ds.map (av (i:Int)),dJ,rfl,rfl,h9,u5.tr (u8.tr u9),TE ⟨LK.v,LK.b0,⟨by show(W5.ds.set _ _).length=n;rw[pJ];exact LK.len.1,LK.len.2⟩,λp hp=>?_,LK.lU,LK.aT⟩ λx hx=>?_,ni,QL,by show W5.lU++_=_;rw[qo,sD],by rw[mL,oL,Nat.add_mul,Nat.one_mul];omega,λj d2 dv2 hj=>?_,λoO=>?_⟩
  ·rcases List.mem_or_eq_of_mem_set hp with hp|rfl
   ·exact LK.ds p hp
   ·exact⟨okB,gd.cQ.trans Uf.2⟩
  ·obtain⟨bb,LH,rfl⟩:=lK.1 hx
   exact⟨gd.vv bb LH,λ_=>⟨by show(0:Int)<=(i:Int);omega,by show(i:Int)<n;omega⟩⟩
  ·by_cases CR:j=i
   ·subst CR
    rw[Kh] at hj;cases hj;rw[if_pos aB];refine⟨xM,ds,?_,xP⟩;show(W5.ds.set j (d,xM))[j]? =_;rw[vT];simp[hlt5]
   ·have h0:=hds5 j d2 dv2 hj
    have FZ:(({W5 with ds:=W5.ds.set i (d,xM)}:oW).add (ds.map (av (i:Int)))).ds[j]? =W5.ds[j]?:=by
     show(W5.ds.set i (d,xM))[j]? =_;rw[vT,if_neg (λh=>CR h.symm)]
    rw[FZ]
    by_cases GA:j<i
    ·rw[if_pos GA] at h0;rw[if_pos aB];exact h0
    ·rw[if_neg GA] at h0;rw[if_neg aB];exact h0
  ·rw[hq5 oO,oO i d dv xM ds Kh xP];rfl
 ·have ei:i=n:=aB
  subst ei;refine hQ W5 w5 S5 ⟨h5,u5,eJ.nil,LK.mono aB,by rw[ni];exact g.cQ,by rw[qo];simp;omega,by rw[ni,g.dO];omega,iG _⟩ ⟨ps,ups,by rw[ni];exact tv,qo,by rw[LK.len.1,hn.1],λj d dv hj=>?_,hq5⟩;have XT:=(kU.1 hj).1;have:=hds5 j d dv hj;rw[if_pos aB] at this;exact this
end
end
section
def ChgR_q(v v1:iQ)(W W':oW)(hs:List yW):Prop:=∃v' ps,qL v1 v'/\(v.t.aT=[]->v'=v1/\ps=[])/\W'=({W with v:=v'}:oW).add (ps.map Ps)/\hs=[]
def yo(G:Gr)(W:oW)(ev:RR)(W':oW)(hs:List yW):Prop:=
 ((ev.kind=1\/ev.kind=2\/ev.kind=3)->BetR G W ev W' hs)/\(ev.kind=4->TickR W W'/\hs=[])/\(ev.kind=5->ChgR_q W.v (W.v.UN (W.v.YX ev.n ev.m)) W W' hs)/\
 ((ev.kind=7\/ev.kind=11)->DrvsR G W ev W' hs)
def BJ(c:yX)(n:Nat):Nat:=c.kV*(2*c.cO+2)+n*(2*c.cO+1)
theorem Xa{c:yX}{n:Nat}(ok:c.Ok)(hn:1<=n):c.cO+1<=BJ c n/\c.kV*c.cO<=BJ c n/\c.kV*(2*c.cO+1)+n*(c.cO+1)<=BJ c n:=by
 unfold BJ;have h1:c.kV*(2*c.cO+2)=c.kV*(2*c.cO+1)+c.kV:=by rw[show 2*c.cO+2=2*c.cO+1+1 from rfl,Nat.mul_add,Nat.mul_one]
 have h2:n*(2*c.cO+1)=n*(c.cO+1)+n*c.cO:=by rw[<-Nat.mul_add];congr 1;omega
 have h3:1*(c.cO+1)<=n*(c.cO+1):=RV _ hn;have h4:c.kV*(2*c.cO+1)=c.kV*c.cO+c.kV*(c.cO+1):=by rw[<-Nat.mul_add];congr 1;omega
 omega
section
variable{N:BS}{W0 w:aH}{S:BS}{a wa n:Nat}{W:oW}{E:uL}{G:Gr}{B:Int}
theorem zC.RT{rh:Sl}{hs:List yW}{k k':Nat}{W':oW}{w':aH}{S':BS}(g:zC N G B n E.e a wa W w S rh hs k W' w' S')(h:k<=k'):zC N G B n E.e a wa W w S rh hs k' W' w' S':=⟨g.x,g.up,g.AV,g.ok,g.cQ,by have:=g.len;omega,g.dO,g.hl⟩
theorem Wr{v1 v':iQ}{w1:aH}{S1 AW:BS}{r:Sl}{ps:List Pk}{Q:aH->Prop}(h:iS N E.e a wa W w S)(ok:XX G B n W)(KI:W.lU.length<=800000)(hN:∀k,N k->k<w.heap.size)
  (dN:∀v' w' AW,gC E.e a v' w' AW->Up S1 AW w w'->∃S',iS N E.e a wa {W with v:=v'} w' S'/\Up S S' w w'/\∀k,S' k->AW k\/k<w.heap.size) (g:ChgS G B E.e a W.v v1 w S1 r ps v' w1 AW) (df:v1.cQ=W.v.cQ/\v1.t=W.v.t/\v1.dO=W.v.dO)
  (hQ:∀w2 S3,zC N G B n E.e a wa W w S bD [] (BJ W.v.cQ n) (({W with v:=v'}:oW).add (ps.map Ps)) w2 S3->ChgR_q W.v v1 W (({W with v:=v'}:oW).add (ps.map Ps)) []->Q w2):qT (some ⟨wa,0,none⟩) r w1 Q:=by
 obtain⟨S2,h2,u2,e2⟩:=dN v' w1 AW g.Bt g.up;have hn:=ok.len;have CV:=ok.v.cQ.cO;have gl:=g.len;have l1:W.v.t.aT.length<=W.v.cQ.kV:=by have:=ok.v.t.len;have:=ok.v.eQ;omega
 have l2:W.v.t.aT.length*W.v.cQ.cO<=W.v.cQ.kV*W.v.cQ.cO:=RV _ l1;have l3:=(Xa ok.v.cQ hn.2.1).2.1;have lw:W.v.cQ.kV*W.v.cQ.cO<=16*16:=EX ok.v.cQ.kV.2 CV.2;have ec:v'.cQ=W.v.cQ:=g.same.cQ.trans df.1;have et:v'.t=W.v.t:=g.same.t.trans df.2.1;refine Rz h2 (Rs (g.row.cov e2) hN) (by show W.lU.length+_<=_;omega) λw4 S4 h4 u4=>?_;refine hQ w4 S4 ⟨h4,u2.tr u4,eJ.nil,TE ⟨WA g.ok aB,by have:=ok.b0;omega,ok.len,λp hp=>⟨(ok.ds p hp).1.mono aB,(ok.ds p hp).2.trans ec.symm⟩,ok.lU,λe he=>ok.aT e (by rw[<-et];exact he)⟩ λx hx=>?_,ec,by show(W.lU++_).length<=_;rw[mL,oL];omega,by show v'.dO<=_;rw[g.same.dO,df.2.2];omega,iG _⟩ ⟨v',ps,g.same,g.nil,rfl,rfl⟩;obtain⟨p,hp,rfl⟩:=lK.1 hx;exact⟨(g.vv p hp).1,λh=>by cases h⟩
theorem one_i{ev:RR}{sl:Sl}{Q:Sl->aH->Prop}(h:iS N E.e a wa W w S)(hN:∀k,N k->k<w.heap.size)(hb:Bs W0 E G S w)(ok:XX G B n W)(hB:B<=1000000000)(KI:W.lU.length<=800000)(RX:W.v.dO<1000000000)(hr:Rd w sl 1 eU ev.Jw)(ho:AY sl S w)(hl:ev.Jw.length<=5000)
  (hQ:∀rh hs W' w' S',zC N G B n E.e a wa W w S rh hs (BJ W.v.cQ n) W' w' S'->yo G W ev W' hs->Q rh w'):WN (some ⟨wa,0,none⟩) (Et (ev,sl)) w Q:=by
 unfold WN;have hn:=ok.len;have hmu:=Xa ok.v.cQ hn.2.1;refine cC (cs:=Uc (ev,sl)) λw1 b1 k1 z1=>aE (k:=.i) ev.kind (aO b1 rfl) ?_;have h1:=h.kp k1;have YE:=hb.kp k1;have hN1:∀k,N k->k<w1.heap.size:=λk hk=>mD (hN k hk) k1.size;have tev:bY w1 ⟨w.heap.size,0,none⟩ 0 (qH kEv (Et (ev,sl))):=b1.1.holds λj v hj=>by rw[pN];exact hj
 have dR:∀rh hs W' w' S',zC N G B n E.e a wa W w1 S rh hs (BJ W.v.cQ n) W' w' S'->yo G W ev W' hs->Q rh w':=λrh hs W' w' S' g xP=>hQ rh hs W' w' S' ⟨g.x,(Up.aN k1).tr g.up,g.AV.qF k1.size,g.ok,g.cQ,g.len,g.dO,g.hl⟩ xP;intro J1 KJ;have j1:∀b:Bool,(b=true↔(ev.kind=1\/ev.kind=2\/ev.kind=3))->J1 (b,()) w1:=λb xf=>by
  apply KJ;refine aF (λhbt=>?_) (λhbf=>?_)
  ·have hk:=xf.1 hbt
   refine bJ (l:=kEv) (Et (ev,sl)) tev (aAs h1 hN1 YE ok aB KI λrh hs W' w' S' g xP=>?_);exact dR rh hs W' w' S' (g.RT hmu.1) ⟨λ_=>xP,λh=>aB,λh=>aB,λh=>aB⟩
  ·have hk:¬(ev.kind=1\/ev.kind=2\/ev.kind=3):=λh=>by have hbf':b=false:=hbf;rw[xf.2 h] at hbf';cases hbf'
   refine aF (λhk4=>?_) (λhk4=>aF (λMr=>?_) (λMr=>aF (λhk6=>?_) (λhk6=>?_)))
   ·have hk4':ev.kind=4:=by simpa using hk4
    refine tick_i h1 hN1 YE ok hB KI RX λW' w' S' g xP=>?_;exact dR _ [] W' w' S' (g.RT hmu.2.2) ⟨λh=>absurd h hk,λ_=>⟨xP,rfl⟩,λh=>aB,λh=>aB⟩
   ·have hk5':ev.kind=5:=by simpa using Mr
    have xi:=h1.kp (bN w1);have b1d:=bF.dr b1;obtain⟨S1,bz,tO,c0,dN⟩:=xi.Bt;refine aA rfl (aE (k:=.ptr) (some ⟨a,0,none⟩) c0 (aE (k:=.i) ev.n (aO b1d rfl) (aE (k:=.i) ev.m (aO b1d rfl) ?_)));refine VClose_i bz ((YE.kp (bN w1)).sub tO) ok.v λr ps er v' w5 S5 g=>?_;refine Wr xi ok KI hN1 dN g ⟨rfl,rfl,rfl⟩ λw7 S7 g7 xP=>?_;exact dR _ [] _ w7 S7 ⟨g7.x,(Up.aN (bN w1)).tr g7.up,eJ.nil,g7.ok,g7.cQ,g7.len,g7.dO,g7.hl⟩ ⟨λh=>absurd h hk,λh=>aB,λ_=>xP,λh=>aB⟩
   ·have hk6':ev.kind=6:=by simpa using hk6
    have xi:=h1.kp (bN w1);have b1d:=bF.dr b1;obtain⟨S1,bz,tO,c0,dN⟩:=xi.Bt;refine aA rfl (aE (k:=.ptr) (some ⟨a,0,none⟩) c0 (aE (k:=.i) ev.n (aO b1d rfl) ?_));refine VOpen_i bz ((YE.kp (bN w1)).sub tO) ok.v λr ps er v' w5 S5 g=>?_;refine Wr xi ok KI hN1 dN g ⟨rfl,rfl,rfl⟩ λw7 S7 g7 xP=>?_;exact dR _ [] _ w7 S7 ⟨g7.x,(Up.aN (bN w1)).tr g7.up,eJ.nil,g7.ok,g7.cQ,g7.len,g7.dO,g7.hl⟩ ⟨λh=>absurd h hk,λh=>aB,λh=>aB,λh=>aB⟩
   ·have n4:¬ev.kind=4:=by simpa using hk4
    have n5:¬ev.kind=5:=by simpa using Mr
    intro J2 En;have j2:∀b2:Bool,(b2=false->¬ev.kind=7/\¬ev.kind=11)->J2 (b2,()) w1:=λb2 RQ=>by
     apply En;refine aF (λhbt=>?_) (λhbf=>?_)
     ·refine bJ (l:=kEv) (Et (ev,sl)) tev (drives_i h1 hN1 YE ok hB KI (hr.aK k1 fI λ_ _=>id) (ho.kp k1) hl λrh hs W' w' S' g xP=>?_)
      exact dR rh hs W' w' S' (g.RT hmu.1) ⟨λh=>absurd h hk,λh=>absurd h n4,λh=>absurd h n5,λ_=>xP⟩
     ·have:=RQ hbf
      exact dR _ [] W w1 S (zC.same h1 ok (aW.refl _ _) _) ⟨λh=>absurd h hk,λh=>absurd h n4,λh=>absurd h n5,λh=>aB⟩
    have tr:∀k:Int,(ev.kind==k)=true->J2 ((ev.kind==k),()) w1:=λk hk=>j2 _ λh=>by rw[hk] at h;cases h
    refine aF (λh=>tr 7 h) (λh7=>aF (λh=>tr 8 h) (λ_=>aF (λh=>tr 9 h) (λ_=>aF (λh=>tr 10 h) (λ_=>j2 _ λh=>⟨by simpa using h7,by simpa using h⟩))))
 refine aF (λhk=>j1 _ ?_) (λQD=>aF (λhk=>j1 _ ?_) (λDI=>j1 _ ?_))
 ·simp at hk ⊢;omega
 ·simp at hk ⊢;omega
 ·simp at QD DI ⊢;omega
inductive DoR(G:Gr):oW->List RR->oW->List yW->Prop
 |nil {W:oW}:DoR G W [] W []
 |gW {W:oW} {PQ:List RR} {W1:oW} {hs:List yW} {ev:RR} {W2:oW} {FP:List yW}:DoR G W PQ W1 hs->yo G W1 ev W2 FP->DoR G W (PQ++[ev]) W2 (hs++FP)
abbrev RowE:=vX (α:=RR) eU 5 Uc RR.Jw
structure DoO(N:BS)(G:Gr)(B:Int)(n:Nat)(ee a wa:Nat)(W:oW)(w:aH)(S:BS)(rh:Sl)(hs:List yW)(c:Nat)(W':oW)(w':aH)(S':BS):Prop where
 x:iS N ee a wa W' w' S'
 up:Up S S' w w'
 AV:Qq w.heap.size S' w' rh hs
 ok:XX G (B+16*c) n W'
 cQ:W'.v.cQ=W.v.cQ
 len:W'.lU.length<=W.lU.length+c*BJ W.v.cQ n
 dO:W'.v.dO<=W.v.dO+c
theorem iS.SF{N':BS}(h:iS N E.e a wa W w S)(hb:W.lU=[]):iS N' E.e a wa W w S:=by
 obtain⟨wF,xs,h1,h2,h3⟩:=h.ex;rw[hb] at h1;have:xs=[]:=List.map_eq_nil_iff.1 h1;subst this;exact⟨wF,[],by rw[hb];rfl,h2,λx hx=>by cases hx⟩
theorem iS.weak{N':BS}(h:iS N E.e a wa W w S)(hN:∀k,N' k->N k\/w.heap.size<=k):iS N' E.e a wa W w S:=by
 obtain⟨wF,xs,h1,h2,h3⟩:=h.ex;exact⟨wF,xs,h1,h2,λx hx=>⟨(h3 x hx).1,(h3 x hx).2.o,λb hb hn=>(hN _ hn).elim ((h3 x hx).2.n b hb) λh=>by have:=((h3 x hx).2.o b hb).2;omega⟩⟩
theorem iS.ov{w':aH}{F:BS}(h:iS N E.e a wa W w S)(m:aW F w w')(hF:∀k,F k->N k/\¬S k):iS N E.e a wa W w' S:=by
 obtain⟨wF,xs,h1,h2,h3⟩:=h.ex;exact⟨wF,xs,h1,bF.aK h2 m λk hk hf=>(hF k hf).2 hk,λx hx=>⟨(h3 x hx).1.aK m fI λb hb hf=>(h3 x hx).2.n b hb (hF _ hf).1,λb hb=>⟨((h3 x hx).2.o b hb).1,mD ((h3 x hx).2.o b hb).2 m.size⟩,(h3 x hx).2.n⟩⟩
theorem do_i{PQ:Sl}{l:List RR}{Q:Sl->aH->Prop}(h:iS N E.e a wa W w S)(hN:∀k,N k->k<w.heap.size)(hb:Bs W0 E G S w)(ok:XX G B n W)(hB:B+16*l.length<=1000000000)(hll:l.length<=100)(KI:W.lU.length+l.length*2000<=800000)(RX:W.v.dO+l.length<=1000000000)(hr:RowE (λk=>¬S k/\k<w.heap.size) w PQ l)(hl:∀ev∈l,ev.Jw.length<=5000)
  (hQ:∀rh hs W' w' S',DoO N G B n E.e a wa W w S rh hs l.length W' w' S'->DoR G W l W' hs->Q rh w'):OJ (some ⟨wa,0,none⟩) PQ w Q:=by
 unfold OJ;have hlr:=hr.len;have hn:=ok.len;have hmu:BJ W.v.cQ n<=2000:=by
  unfold BJ;have h1:=ok.v.cQ.kV;have h2:=ok.v.cQ.cO;have h3:W.v.cQ.kV*(2*W.v.cQ.cO+2)<=16*34:=EX h1.2 aB;have h4:n*(2*W.v.cQ.cO+1)<=16*33:=EX aB aB;omega
 refine aF (λh=>by simp at h) (λ_=>?_);refine bO (λc t w1=>∃(i:Nat) (rh:Sl) (hs:List yW) (W1:oW) (S1:BS),i<=l.length/\c=l.length-i/\t=(rh,(i:Int),())/\DoO (λk=>N k\/BL rh k) G B n E.e a wa W w S rh hs i W1 w1 S1/\DoR G W (l.take i) W1 hs/\hs.length<=i*20) l.length
  ⟨0,bD,[],W,S,iG _,rfl,rfl,⟨h.weak λk hk=>hk.elim .inl λ⟨b,bW,_⟩=>(by cases bW),Up.refl _ _,eJ.nil,ok.mono aB,rfl,by simp,aB⟩,.nil,iG _⟩ ?_
 rintro c t w1 ⟨i,rh,hs,W1,S1,hi,rfl,rfl,g,hdo,hhl⟩ X hX;dsimp only;refine aJ (λcJ=>?_) (λkT=>?_)
 ·have dJ:i<l.length:=aB
  have cV:=gS dJ;have fP:=nE dJ;have rV:=FQ dJ;generalize l[i]=ev at*;obtain⟨q,sl,hq,hh,AV,Em⟩:=(hr.aK Gh g.up.m λk hk _=>hk.1).get cV;have z1:=g.up.size;rw[kE,qA i aB];refine⟨⟨aB,cJ⟩,aA hq (bJ (l:=kEv) (Et (ev,sl)) hh ?_)⟩;refine fE (zs:=Uc (⟨0,0,0,0,[]⟩,bD)) (vs:=Uc (ev,sl)) Hx rfl (oneEv _) λw3 o3 k3 z3=>?_;refine bJ (l:=kEv) (Et (ev,sl)) (o3.holds λj v hj=>by rw[pN];exact hj) ?_;have hos:AY sl S1 w1:=λb bW=>⟨λhs=>(g.up.s _ hs).elim (Em b bW).1.1 λh=>by have:=(Em b bW).1.2;omega,(Em b bW).2⟩;have glen:=g.len;have im:i*BJ W.v.cQ n<=i*2000:=Nat.mul_le_mul_left _ hmu;have gnow:=g.dO;refine one_i (g.x.kp k3) (λk hk=>hk.elim (λh=>by have:=hN k h;have:=k3.size;omega) λ⟨b,bW,e⟩=>by have:=g.AV.lt bW;have:=k3.size;omega) ((hb.up g.up).kp k3) g.ok aB aB aB (AV.aK k3 fI λ_ _=>id) (hos.kp k3) (hl ev fP) λrh2 FP W2 w4 S4 g4 xP=>?_;have U4:Up S1 S4 w1 w4:=(Up.aN k3).tr g4.up;have bd4:=g4.x.lt;have ghl:=g4.hl;have z4:=g4.up.size;have h0:=g.AV.up U4;refine eJ.fy NM qc oneHd aB h0 (g4.AV) aB (λb bW=>by have:=g.AV.lt bW;omega) aB aB bd4 λr' w5 v5 m5 nb5=>?_;have nS:∀k,BL rh k->¬S4 k:=λk hk=>(h0.BK k hk).2;have x4:=g4.x.weak (N':=λk=>BL rh k\/(N k\/BL r' k)) λk hk=>hk.elim (λh=>.inl (.inr h)) λhk=>hk.elim (λh=>.inl (.inl h)) λ⟨b,bW,e⟩=>(nb5 b bW).imp (λ⟨a',pI,e2⟩=>.inr ⟨a',pI,by rw[e,e2]⟩) λh=>aB;have x5:=(x4.ov m5 λk hk=>⟨.inl hk,nS k hk⟩).weak (N':=λk=>N k\/BL r' k) λk hk=>.inl (.inr hk)
  ·have m5':=m5.mono (G:=λk=>w.heap.size<=k/\¬S4 k) λk _ hk=>h0.BK k hk
   have g4len:=g4.len;have g4now:=g4.dO;rw[g.cQ] at g4len;have e1:(i+1)*BJ W.v.cQ n=i*BJ W.v.cQ n+BJ W.v.cQ n:=by rw[Nat.add_mul,Nat.one_mul]
   refine hX _ _ _ aB ⟨i+1,r',hs++FP,W2,S4,dJ,rfl,rfl,⟨x5,Up.iH (g.up.tr U4) m5',v5,g4.ok.mono aB,g4.cQ.trans g.cQ,aB,aB⟩,by rw[rV];exact .gW hdo xP,by rw[mL];omega⟩
 ·have ei:i=l.length:=aB
  subst ei;rw[oZ] at hdo;exact hQ rh hs W1 w1 S1 ⟨g.x.weak λ_ h=>.inl (.inl h),g.up,g.AV,g.ok,g.cQ,g.len,g.dO⟩ hdo
end
end
section
abbrev RowU:=eJ (α:=BC) eU MH 3 By BC.data
section
variable{N:BS}{W0 w:aH}{S:BS}{a wa n:Nat}{W:oW}{E:uL}{G:Gr}{B:Int}
theorem OU{Q:cL->aH->Prop}(h:iS N E.e a wa W w S)(hQ:Q (some ⟨a,0,none⟩) w):qV (some ⟨wa,0,none⟩) w Q:=by
 unfold qV;obtain⟨S1,_,_,c0,_⟩:=h.Bt;exact aF (λh=>by simp at h) (λ_=>aA rfl (aE (k:=.ptr) (some ⟨a,0,none⟩) c0 hQ))
theorem jf{Q:Sl->aH->Prop}(h:iS N E.e a wa W w S)(hl:W.lU.length<=900000)(hd:∀u∈W.lU,u.data.length<=3000)(hQ:∀r w',RowU w.heap.size (λk=>k<w.heap.size) w' r W.lU->aM w w'->Q r w'):HA (some ⟨wa,0,none⟩) w Q:=by
 unfold HA;obtain⟨wF,c2,lb,nO,_⟩:=h.OH;refine aF (λh=>by simp at h) (λ_=>aA rfl (aE (k:=.slice) wF c2 ?_));refine bO (λc t w1=>∃(i:Nat) (r:Sl),i<=W.lU.length/\c=W.lU.length-i/\t=(r,(i:Int),())/\aM w w1/\RowU w.heap.size (λk=>k<w.heap.size) w1 r (W.lU.take i)) W.lU.length
  ⟨0,bD,iG _,rfl,rfl,aW.refl _ _,eJ.nil⟩ ?_
 rintro c t w1 ⟨i,r,hi,rfl,rfl,k1,v1⟩ X hX;dsimp only;refine aJ (λcJ=>?_) (λkT=>?_)
 ·have dJ:i<W.lU.length:=aB
  have cV:=gS dJ;have fP:=nE dJ;have rV:=FQ dJ;generalize W.lU[i]=u at*;have hdu:=hd u fP;obtain⟨q,sl,hq,hh,AV,Em⟩:=(nO.kp eUn_ne k1).get cV;rw[kE,qA i aB];refine⟨⟨aB,aB⟩,aA hq (bJ (l:=[.i,.bool,.slice]) (u.d,u.up,sl,()) hh ?_)⟩;refine fE (zs:=By (⟨0,false,[]⟩,bD)) (vs:=By (u,sl)) Hw rfl (Vt _) λw3 o3 k3 z3=>?_;have k3d:=k3.tr (bN w3);have Ks:=o3.aK (bN w3) id;refine aE (k:=.i) u.d (cM Ks rfl) (aE (k:=.bool) u.up (cM Ks rfl) (aE (k:=.slice) sl (cM Ks rfl) ?_));refine vD (AV.aK k3d fI λ_ _=>id) (show u.data.length<=1000000 by omega) λrc w4 S4 _ k4 _ rd4 f4=>?_;have o4:=Ks.aK k4 id;refine⟨cM o4 rfl,cM o4 rfl,?_⟩;have K4:=k3d.tr k4;have z1:=k1.size;have z3':=k3d.size;have z4:=k4.size;refine eJ.gW EC VF Vt aB (v1.kp K4) (by rw[pW];omega) aB (λk hk=>aB) u (sl:=rc) rd4.1 (λb hb=>⟨by have:=f4 b hb;omega,λhk=>by have:=f4 b hb;omega,rd4.2.2.1 b hb,λb' bW e=>by have:=v1.lt bW;have:=f4 b hb;omega⟩) λr' w6 v6 m6=>?_;refine hX _ _ _ aB ⟨i+1,r',dJ,rfl,rfl,(k1.tr K4).fresh m6 λk hk=>hk.1,by rw[rV];exact v6⟩
 ·have ei:i=W.lU.length:=aB
  subst ei;rw[oZ] at v1;exact hQ r w1 v1 k1
end
def WldR(ee a wa:Nat)(IK:Sl)(rs:List cL)(v:iQ)(ds:List (Nat×CS)):As:=
 aZ (gC ee a v) (aZ (sB wa Qu (eW a IK bD)) (aZ (iU MQ 1 Lb IK rs) (vZ Vf ds)))
instance{ee a wa:Nat}{IK:Sl}{rs:List cL}{v:iQ}{ds:List (Nat×CS)}:bF (WldR ee a wa IK rs v ds):=by unfold WldR;infer_instance
theorem Wp{α:Type}{e:TypeId}{n:Nat}{aY:α->List Value}{w:aH}:iU e n aY bD ([]:List α) w (λ_=>False):=⟨dQ.nil _ _ _ _,λk=>⟨False.elim,λ⟨b,hb,_⟩=>by cases hb⟩⟩
theorem WNew_i{g:GT}{G:Gr}{c:yX}{n:Nat}{w:aH}{Q:cL->Int->aH->Prop}(hg:SK w g G)(ok:zI G)(IL:c.Ok)(hn:1<=n/\n<=16)
  (hQ:∀E a wa sp tp lp W0 IK ds w' S',iS (λ_=>False) E.e a wa ⟨IS c G.m sp tp lp,ds,[],IK⟩ w' S'->Bs W0 E G S' w'->aM w w'->aM w W0->XX G 0 n ⟨IS c G.m sp tp lp,ds,[],IK⟩->(∀k,S' k->w.heap.size<=k)->ds.map (·.2)=List.replicate n (YL c)->Q (some ⟨wa,0,none⟩) 0 w'):yH g (xQ c) (n:Int) w Q:=by
 unfold yH;refine bK λw1 o1 k1 z1=>?_;refine cC (cs:=CW c) λw2 b2 k2 z2=>?_;have tc:∀{wx:aH},sB w1.heap.size uZ (CW c) wx (λk=>k=w1.heap.size)->bY wx ⟨w1.heap.size,0,none⟩ 0 (qH IX (xQ c)):=λb=>b.1.holds λj v hj=>by rw[pN];exact hj
 refine aJ (λh=>aB) (λ_=>aJ (λh=>aB) (λ_=>?_));refine bJ (l:=[.slice,.slice,.slice]) g (GJ (g:=g) (o1.aK k2 id)) (bJ (l:=IX) (xQ c) (tc b2) ?_);have K2:=k1.tr k2;refine VNew_i (hg.aN K2) ok IL λE a sp tp lp W0 w3 S3 h3 La kW k3 lo3=>aF (λh=>by cases h) (λ_=>?_);have b3:=bF.kp b2 k3;refine cC (cs:=eW a bD bD) λw4 b4 k4 z4=>?_;have bd3:=bF.gH h3;have z2':=K2.size;have z3:=k3.size;have h4:WldR E.e a w3.heap.size bD [] (IS c G.m sp tp lp) [] w4 (λk=>S3 k\/(k=w3.heap.size\/(False\/False))):=
  aZ.vR (bF.kp h3 k4) (aZ.vR b4 (aZ.vR Wp (show vZ Vf [] w4 (λ_=>False) fromλ_=>id) λ_ h _=>h) λ_ _ h=>h.elim id id) λk h1 h2=>h2.elim (λe=>by have:=bd3 k h1;omega) λh=>h.elim id id
 have b4':=bF.kp b3 k4;refine bO (λcc t w5=>∃(i:Nat) (IK:Sl) (ds:List (Nat×CS)) (S5:BS),i<=n/\cc=n-i/\t=((i:Int),())/\WldR E.e a w3.heap.size IK (RS ds) (IS c G.m sp tp lp) ds w5 S5/\Up S3 S5 w3 w5/\ds.map (·.2)=List.replicate i (YL c)/\sB w1.heap.size uZ (CW c) w5 (λk=>k=w1.heap.size)) n
  ⟨0,bD,[],_,iG _,rfl,rfl,h4,Up.new k4 λk hk=>by
   rcases hk with h|h|h
   ·exact .inl h
   ·exact .inr aB
   ·exact(h.elim id id).elim,rfl,b4'⟩ ?_
 rintro cc t w5 ⟨i,IK,ds,S5,hi,rfl,rfl,h5,u5,hds,b5⟩ X hX;dsimp only;have z5:=u5.size;have S5lo:∀k,S5 k->w2.heap.size<=k:=λk hk=>(u5.s k hk).elim (lo3 k) λh=>aB;have n1:¬S5 w1.heap.size:=λh=>by have:=S5lo _ h;omega
 have dl:ds.length=i:=by have:=congrArg List.length hds;simpa using this
 refine aJ (λcJ=>?_) (λkT=>?_)
 ·refine bJ (l:=IX) (xQ c) (tc b5) (DNew_i IL λw6 h6 hlt6 k6 hlo6=>?_)
  obtain⟨d,hd⟩:∃d,d=w6.heap.size-1:=⟨_,rfl⟩;rw[<-hd] at h6 hlo6 ⊢;have Mt:=bF.gH h5;obtain⟨SV,SQ,hV,⟨SB,SR,hBl,⟨SW,SD,hRow,hAll,dWD,eWD⟩,dBR,eBR⟩,dVQ,eVQ⟩:=bF.kp h5 k6;have bj:∀k,SB k\/SW k\/SD k->S5 k:=λk hk=>(eVQ k).2 (.inr ((eBR k).2 (hk.imp id λh=>(eWD k).2 h)));have c1:w6.cell? ((⟨w3.heap.size,0,none⟩:Addr).add 1)=some (sv IK):=aO hBl rfl;refine aE (k:=.slice) IK c1 ?_;refine cC (cs:=Lb (some ⟨d,0,none⟩)) λw7 b7 k7 z7=>?_;have Ke:(RS ds).length=i:=by simpa using dl
  refine fN Ly GL onePt (x:=⟨some ⟨w6.heap.size,0,none⟩,1,1⟩) ((hRow.1.aK k7 λ_ _=>id)) (iV GL [some ⟨d,0,none⟩] b7 rfl dL) (by simp;omega) (by simp;omega) λs2 w8 v8 m8 hr8 _=>?_;have mW:∀k,BL IK k->SW k:=λk ⟨b,hb,e⟩=>(hRow.2 k).2 ⟨b,hb,e⟩;have nB:∀k,SB k->¬BL IK k:=λk h1 h2=>dBR k h1 ((eWD k).2 (.inl (mW k h2)));have nD:∀k,SD k->¬BL IK k:=λk h1 h2=>dWD k (mW k h2) h1;have nV:∀k,SV k->¬BL IK k:=λk h1 h2=>dVQ k h1 ((eBR k).2 (.inr ((eWD k).2 (.inl (mW k h2)))));have n5:∀k,BL IK k->k<w5.heap.size:=λk h=>Mt k (bj k (.inr (.inl (mW k h))));have hBl8:sB w3.heap.size Qu (eW a IK bD) w8 SB:=bF.aK (bF.kp hBl k7) m8 nB;have hAll8:vZ Vf ds w8 SD:=bF.aK (bF.kp hAll k7) m8 nD;have hV8:gC E.e a (IS c G.m sp tp lp) w8 SV:=bF.aK (bF.kp hV k7) m8 nV;have h68:uU d (YL c) w8 (λk=>k=d):=bF.aK (bF.kp h6 k7) m8 λk (e:k=d) h=>by have:=n5 k h;omega
  have hR8:iU MQ 1 Lb s2 (RS ds++[some ⟨d,0,none⟩]) w8 (λk=>BL s2 k):=⟨v8,λk=>Iff.rfl⟩;have xw:∀k,BL s2 k->BL IK k\/w7.heap.size<=k:=λk ⟨b,hb,e⟩=>by
   rcases hr8 with h|⟨b',h,h2⟩
   ·exact .inl ⟨b,h.symm.trans hb,e⟩
   ·rw[hb] at h;cases h;exact .inr (by rw[e];exact h2)
  refine pA hBl8 (t:=yv) Lt dL rfl rfl λw9 b9 u9=>?_;have d8:d<w6.heap.size:=aB;have hds':vZ Vf (ds++[(d,YL c)]) w9 (λk=>SD k\/(k=d\/False)):=VW (aZ.vR (bF.aK hAll8 u9.m λk h1 h2=>dBR k h2 ((eWD k).2 (.inr h1))) (aZ.vR (bF.aK h68 u9.m λk (e:k=d) h=>by have:=Mt k (bj k (.inl h));omega) (show DK w9 (λ_=>False) fromλ_=>id) λ_ _ h=>h) λk h1 h2=>h2.elim (λe=>by have:=Mt k (bj k (.inr (.inr h1)));omega) id);have hR9:iU MQ 1 Lb s2 (RS (ds++[(d,YL c)])) w9 (λk=>BL s2 k):=by
   have e:RS (ds++[(d,YL c)])=RS ds++[some ⟨d,0,none⟩]:=by simp[RS]
   rw[e];exact bF.aK hR8 u9.m λk h1 h2=>(xw k h1).elim (nB k h2) λh=>by have:=Mt k (bj k (.inl h2));omega
  have hV9:gC E.e a (IS c G.m sp tp lp) w9 SV:=bF.aK hV8 u9.m λk h1 h2=>dVQ k h1 ((eBR k).2 (.inl h2));have bV:=λk (h:SV k)=>Mt k ((eVQ k).2 (.inl h));have h9:WldR E.e a w3.heap.size s2 (RS (ds++[(d,YL c)])) (IS c G.m sp tp lp) (ds++[(d,YL c)]) w9 (λk=>SV k\/(SB k\/(BL s2 k\/(SD k\/(k=d\/False))))):=
   aZ.vR hV9 (aZ.vR b9 (aZ.vR hR9 hds' λk h1 h2=>by
    rcases h2 with h2|h2|h2
    ·exact(xw k h1).elim (nD k h2) λh=>by have:=Mt k (bj k (.inr (.inr h2)));omega
    ·exact(xw k h1).elim (λh=>by have:=n5 k h;omega) λh=>aB
    ·exact h2) λk h1 h2=>by
    rcases h2 with h2|h2|h2|h2
    ·exact(xw k h2).elim (nB k h1) λh=>by have:=Mt k (bj k (.inl h1));omega
    ·exact dBR k h1 ((eWD k).2 (.inr h2))
    ·have:=Mt k (bj k (.inl h1));omega
    ·exact h2) λk h1 h2=>by
    rcases h2 with h2|h2|h2|h2|h2
    ·exact dVQ k h1 ((eBR k).2 (.inl h2))
    ·exact(xw k h2).elim (nV k h1) λh=>by have:=bV k h1;omega
    ·exact dVQ k h1 ((eBR k).2 (.inr ((eWD k).2 (.inr h2))))
    ·have:=bV k h1;omega
    ·exact h2
  have U9:Up S5 (λk=>SV k\/(SB k\/(BL s2 k\/(SD k\/(k=d\/False))))) w5 w9:=by
   refine⟨(((k6.tr k7).wk).trans m8 λk _ hk=>bj k (.inr (.inl (mW k hk)))).trans u9.m λk _ hk=>bj k (.inl hk),λk hk=>?_⟩;rcases hk with h|h|h|h|h|h
   ·exact .inl ((eVQ k).2 (.inl h))
   ·exact .inl (bj k (.inl h))
   ·exact(xw k h).imp (λh=>bj k (.inr (.inl (mW k h)))) λh=>aB
   ·exact .inl (bj k (.inr (.inr h)))
   ·exact .inr aB
   ·exact h.elim
  rw[qA i aB];refine hX _ _ _ aB ⟨i+1,s2,ds++[(d,YL c)],_,aB,rfl,rfl,h9,u5.tr U9,by rw[yS,hds,List.replicate_succ'];rfl,bF.aK b5 U9.m λk (e:k=w1.heap.size) h=>n1 (e▸h)⟩
 ·have ei:i=n:=aB
  subst ei;have hfin:Vg E.e a w3.heap.size IK bD [] (IS c G.m sp tp lp) ds w5 S5:=by
   obtain⟨SV,SQ,hV,⟨SB,SR,hBl,⟨SW,SD,hRow,hAll,dWD,eWD⟩,dBR,eBR⟩,dVQ,eVQ⟩:=h5;exact⟨SV,SQ,hV,⟨SB,SR,hBl,⟨SW,SD,hRow,⟨SD,λ_=>False,hAll,Wp,λ_ _ h=>h,λk=>⟨.inl,λh=>h.elim id False.elim⟩⟩,dWD,eWD⟩,dBR,eBR⟩,dVQ,eVQ⟩
  have YD:∀k,S5 k->w.heap.size<=k:=λk hk=>iF z2' (S5lo k hk);have kk:aM w w5:=(K2.tr k3).fresh u5.m λk hk=>iF z2' (lo3 k hk);refine hQ E a w3.heap.size sp tp lp W0 IK ds w5 S5 ⟨bD,[],rfl,hfin,λx hx=>by cases hx⟩ (La.up u5) kk (K2.tr kW) ⟨srv0_ok ok IL sp tp lp,aB,⟨dl,hn⟩,λp hp=>?_,λu hu=>(by cases hu),λe he=>(by cases he)⟩ YD hds;have:p.2∈ds.map (·.2):=lK.2 ⟨p,hp,rfl⟩;rw[hds] at this;have e2:=(List.mem_replicate.1 this).2;rw[e2];exact⟨drv0_ok IL,rfl⟩
end
section
structure pL(W w:aH)(A:Nat)(g:GT)(N:List (Int×Int))(E:List R3)(B:List (Int×Int)):Prop where
 gN:cW w A gG (Ah g)
 vn:dQ w ot 2 eP g.1 N
 ve:dQ w QG 3 cu g.2.1 E
 vb:dQ w tBan 2 eP g.2.2.1 B
 n1:∀a,g.1.b=some a->a.block≠A/\W.heap.size<=a.block
 n2:∀a,g.2.1.b=some a->a.block≠A/\W.heap.size<=a.block
 n3:∀a,g.2.2.1.b=some a->a.block≠A/\W.heap.size<=a.block
 n12:∀a b,g.1.b=some a->g.2.1.b=some b->a.block≠b.block
 n13:∀a b,g.1.b=some a->g.2.2.1.b=some b->a.block≠b.block
 n23:∀a b,g.2.1.b=some a->g.2.2.1.b=some b->a.block≠b.block
 Lg:W.heap.size<=A
 kp:aM W w
section
variable{W w:aH}{A:Nat}{g:GT}{N:List (Int×Int)}{E:List R3}{B:List (Int×Int)}
theorem pL.aN{w':aH}(h:pL W w A g N E B)(k:aM w w'):pL W w' A g N E B:=
 ⟨h.gN.aK k id,h.vn.aK k λ_ _=>id,h.ve.aK k λ_ _=>id,h.vb.aK k λ_ _=>id,h.n1,h.n2,h.n3,h.n12,h.n13,h.n23,h.Lg,h.kp.tr k⟩
theorem pL.pushN(h:pL W w A g N E B)(hl:N.length<=100000)(x:Int×Int){K:aH->Prop}(hK:∀w' s,pL W w' A (s,g.2.1,g.2.2.1,()) (N++[x]) E B->aW (λk=>k=A\/∃a,g.1.b=some a/\k=a.block) w w'->(∀a,s.b=some a->g.1.b=some a\/w.heap.size<=a.block)->K w'):
  aG w (eP x).toArray ot λa5 nM=>nM.cell? ((⟨A,0,none⟩:Addr).add 0)=some (Value.slice g.1.b g.1.l g.1.c)/\aX prog gk gk g.1 (Value.slice (some a5) 1 1) nM λ(s4:Sl) yM=>aI prog gk ((⟨A,0,none⟩:Addr).add 0) (Value.slice s4.b s4.l s4.c) yM K:=by
 refine bK λw1 o1 k1 z1=>?_;have h1:=h.aN k1;refine⟨?_,?_⟩
 ·rw[aS,h1.gN.cell];rfl
 have vx:dQ w1 ot 2 eP ⟨some ⟨w.heap.size,0,none⟩,1,1⟩ [x]:=dQ.new US [x] (by simpa using o1) (by simp[maxLen]);refine fN Is US oneP h1.vn (vx.rd US) (by simp;omega) (by simp;omega) λr w2 v2 m2 f2 _=>?_;have hA:=h.gN.lt;have hW:=h.kp.size;have lit:((⟨A,0,none⟩:Addr).add 0)=⟨A,0,none⟩:=by rw[aS,pN]
 rw[lit];have o2:=h1.gN.aK m2 λ⟨a,ha,e⟩=>(h.n1 a ha).1 e.symm;refine cI (o:=0) (v:=sv r) o2 ju dL rfl rfl λw3 o3 m3 _=>?_;have fr:∀a,r.b=some a->g.1.b=some a\/w.heap.size<=a.block:=λa ha=>by
  rcases f2 with h2|⟨b,hb,cJ⟩
  ·exact .inl (by rw[<-h2];exact ha)
  ·rw[ha] at hb;cases hb;exact .inr aB
 have nr:∀a,r.b=some a->a.block≠A/\W.heap.size<=a.block:=λa ha=>by
  rcases fr a ha with h2|h2
  ·exact h.n1 a h2
  ·exact⟨aB,aB⟩
 refine hK w3 r ⟨o3,v2.aK m3 λa ha e=>(nr a ha).1 e,(h1.ve.aK m2 λa ha ⟨b,hb,e⟩=>h.n12 b a hb ha e.symm).aK m3 λa ha e=>(h.n2 a ha).1 e,(h1.vb.aK m2 λa ha ⟨b,hb,e⟩=>h.n13 b a hb ha e.symm).aK m3 λa ha e=>(h.n3 a ha).1 e,nr,h.n2,h.n3,λa b ha hb=>by have:=h.ve.lt hb;rcases fr a ha with h2|h2;exact h.n12 a b h2 hb;omega,λa b ha hb=>by have:=h.vb.lt hb;rcases fr a ha with h2|h2;exact h.n13 a b h2 hb;omega,h.n23,h.Lg,((h.kp.tr k1).fresh m2 λk ⟨a,ha,e⟩=>by rw[e];exact(h.n1 a ha).2).fresh m3 λk e=>by rw[show k=A from e];exact h.Lg⟩ ?_ fr;exact((k1.wk.trans m2 λk _ hk=>.inr hk).trans m3 λk _ e=>.inl e)
theorem pL.pushE(h:pL W w A g N E B)(hl:E.length<=100000)(x:R3){K:aH->Prop}(hK:∀w' s,pL W w' A (g.1,s,g.2.2.1,()) N (E++[x]) B->aW (λk=>k=A\/∃a,g.2.1.b=some a/\k=a.block) w w'->(∀a,s.b=some a->g.2.1.b=some a\/w.heap.size<=a.block)->K w'):
  aG w (cu x).toArray QG λa5 nM=>nM.cell? ((⟨A,0,none⟩:Addr).add 1)=some (Value.slice g.2.1.b g.2.1.l g.2.1.c)/\aX prog gu gu g.2.1 (Value.slice (some a5) 1 1) nM λ(s4:Sl) yM=>aI prog gu ((⟨A,0,none⟩:Addr).add 1) (Value.slice s4.b s4.l s4.c) yM K:=by
 refine bK λw1 o1 k1 z1=>?_;have h1:=h.aN k1;refine⟨?_,?_⟩
 ·rw[aS,h1.gN.cell];rfl
 have vx:dQ w1 QG 3 cu ⟨some ⟨w.heap.size,0,none⟩,1,1⟩ [x]:=dQ.new FC [x] (by simpa using o1) (by simp[maxLen]);refine fN Iw FC oneR3 h1.ve (vx.rd FC) (by simp;omega) (by simp;omega) λr w2 v2 m2 f2 _=>?_;have hA:=h.gN.lt;have hW:=h.kp.size;have lit:((⟨A,0,none⟩:Addr).add 1)=⟨A,1,none⟩:=by rw[aS,pN]
 rw[lit];have o2:=h1.gN.aK m2 λ⟨a,ha,e⟩=>(h.n2 a ha).1 e.symm;refine cI (o:=1) (v:=sv r) o2 Hv dL rfl rfl λw3 o3 m3 _=>?_;have fr:∀a,r.b=some a->g.2.1.b=some a\/w.heap.size<=a.block:=λa ha=>by
  rcases f2 with h2|⟨b,hb,cJ⟩
  ·exact .inl (by rw[<-h2];exact ha)
  ·rw[ha] at hb;cases hb;exact .inr aB
 have nr:∀a,r.b=some a->a.block≠A/\W.heap.size<=a.block:=λa ha=>by
  rcases fr a ha with h2|h2
  ·exact h.n2 a h2
  ·exact⟨aB,aB⟩
 refine hK w3 r ⟨o3,(h1.vn.aK m2 λa ha ⟨b,hb,e⟩=>h.n12 a b ha hb e).aK m3 λa ha e=>(h.n1 a ha).1 e,v2.aK m3 λa ha e=>(nr a ha).1 e,(h1.vb.aK m2 λa ha ⟨b,hb,e⟩=>h.n23 b a hb ha e.symm).aK m3 λa ha e=>(h.n3 a ha).1 e,h.n1,nr,h.n3,λa b ha hb=>by have:=h.vn.lt ha;rcases fr b hb with h2|h2;exact h.n12 a b ha h2;omega,h.n13,λa b ha hb=>by have:=h.vb.lt hb;rcases fr a ha with h2|h2;exact h.n23 a b h2 hb;omega,h.Lg,((h.kp.tr k1).fresh m2 λk ⟨a,ha,e⟩=>by rw[e];exact(h.n2 a ha).2).fresh m3 λk e=>by rw[show k=A from e];exact h.Lg⟩ ?_ fr;exact((k1.wk.trans m2 λk _ hk=>.inr hk).trans m3 λk _ e=>.inl e)
theorem pL.pushB(h:pL W w A g N E B)(hl:B.length<=100000)(x:Int×Int){K:aH->Prop}(hK:∀w' s,pL W w' A (g.1,g.2.1,s,()) N E (B++[x])->aW (λk=>k=A\/∃a,g.2.2.1.b=some a/\k=a.block) w w'->(∀a,s.b=some a->g.2.2.1.b=some a\/w.heap.size<=a.block)->K w'):
  aG w (eP x).toArray tBan λa5 nM=>aX prog tsBan tsBan g.2.2.1 (Value.slice (some a5) 1 1) nM λ(s4:Sl) yM=>aI prog tsBan ((⟨A,0,none⟩:Addr).add 2) (Value.slice s4.b s4.l s4.c) yM K:=by
 refine bK λw1 o1 k1 z1=>?_;have h1:=h.aN k1;have vx:dQ w1 tBan 2 eP ⟨some ⟨w.heap.size,0,none⟩,1,1⟩ [x]:=dQ.new US [x] (by simpa using o1) (by simp[maxLen]);refine fN Oh US oneP h1.vb (vx.rd US) (by simp;omega) (by simp;omega) λr w2 v2 m2 f2 _=>?_;have hA:=h.gN.lt;have hW:=h.kp.size;have lit:((⟨A,0,none⟩:Addr).add 2)=⟨A,2,none⟩:=by rw[aS,pN]
 rw[lit];have o2:=h1.gN.aK m2 λ⟨a,ha,e⟩=>(h.n3 a ha).1 e.symm;refine cI (o:=2) (v:=sv r) o2 yy dL rfl rfl λw3 o3 m3 _=>?_;have fr:∀a,r.b=some a->g.2.2.1.b=some a\/w.heap.size<=a.block:=λa ha=>by
  rcases f2 with h2|⟨b,hb,cJ⟩
  ·exact .inl (by rw[<-h2];exact ha)
  ·rw[ha] at hb;cases hb;exact .inr aB
 have nr:∀a,r.b=some a->a.block≠A/\W.heap.size<=a.block:=λa ha=>by
  rcases fr a ha with h2|h2
  ·exact h.n3 a h2
  ·exact⟨aB,aB⟩
 refine hK w3 r ⟨o3,(h1.vn.aK m2 λa ha ⟨b,hb,e⟩=>h.n13 a b ha hb e).aK m3 λa ha e=>(h.n1 a ha).1 e,(h1.ve.aK m2 λa ha ⟨b,hb,e⟩=>h.n23 a b ha hb e).aK m3 λa ha e=>(h.n2 a ha).1 e,v2.aK m3 λa ha e=>(nr a ha).1 e,h.n1,h.n2,nr,h.n12,λa b ha hb=>by have:=h.vn.lt ha;rcases fr b hb with h2|h2;exact h.n13 a b ha h2;omega,λa b ha hb=>by have:=h.ve.lt ha;rcases fr b hb with h2|h2;exact h.n23 a b ha h2;omega,h.Lg,((h.kp.tr k1).fresh m2 λk ⟨a,ha,e⟩=>by rw[e];exact(h.n3 a ha).2).fresh m3 λk e=>by rw[show k=A from e];exact h.Lg⟩ ?_ fr;exact((k1.wk.trans m2 λk _ hk=>.inr hk).trans m3 λk _ e=>.inl e)
end
theorem OV{k n:Int}{w:aH}{Q:Int->aH->Prop}(hn:0<n)(h63:n<=1000000)(hQ:∀x,0<=x->x<n->Q x w):nJ k n w Q:=by
 unfold nJ;have h1:=Int.lt_tmod_of_pos k hn;have h2:=Int.tmod_lt_of_pos k hn;refine⟨aB,aJ (λh=>?_) (λh=>?_)⟩
 ·rw[gM (n:=Int.tmod k n+n) aB aB]
  exact hQ _ aB aB
 ·have h':¬Int.tmod k n<0:=h
  exact hQ _ aB h2
theorem LS{l:Sl}{xs:List Int}{i n:Int}{w:aH}{Q:Int->aH->Prop}(hl:Rd w l 1 eI xs)(h0:0<=i)(h1:i<=1000000)(hn:0<n)(h63:n<=1000000)(hQ:∀x w',0<=x->x<n->aM w w'->Q x w'):fR l i n w Q:=by
 unfold fR;have hll:=hl.len;refine aF (λh=>hQ 0 w (oY _) hn (aW.refl _ _)) (λh=>?_);have gF:¬(l.l:Int)=0:=by simpa using h
 have uR:0<(l.l:Int):=aB;have d:aM w w.drew:=aW.drew (aW.refl _ w);have m0:0<=Int.tmod i (l.l:Int):=Int.tmod_nonneg _ h0;have m1:=Int.tmod_lt_of_pos i uR;have cV:=gS (show(Int.tmod i (l.l:Int)).toNat<xs.length by omega);obtain⟨p,hp,hc⟩:=cF (k:=.i) (e:=λx=>x) (hl.aK d cR λ_ _=>id) cV;exact⟨gF,⟨m0,m1⟩,aA hp (aE (k:=.i) _ hc ⟨by decide,gF,OV hn h63 λx x0 x1=>hQ x _ x0 x1 d⟩)⟩
def RM(wn hn i:Nat)(k:Nat):Int:=if k=0 then(if i%wn<wn-1 then((i+1:Nat):Int) else-1) else(if i/wn<hn-1 then((i+wn:Nat):Int) else-1)
def LZ(wn hn i k:Nat):List (Nat×Nat):=DQ wn hn i++(if 1<=k then GN wn hn i 0 else [])++(if 2<=k then GN wn hn i 1 else [])
theorem Wx{wn hn i k:Nat}(hk:k<2):LZ wn hn i (k+1)=LZ wn hn i k++GN wn hn i k:=by
 unfold LZ;have:k=0\/k=1:=aB;rcases this with rfl|rfl<;>simp
theorem full_nxt{wn hn i k:Nat}(hk:k<2):(RM wn hn i k<0/\GN wn hn i k=[])\/∃j:Nat,RM wn hn i k=(j:Int)/\GN wn hn i k=[(i,j),(j,i)]:=by
 unfold RM;have:k=0\/k=1:=aB;rcases this with rfl|rfl
 ·by_cases h:i%wn<wn-1
  ·exact .inr ⟨i+1,by simp[h],by simp[GN,h]⟩
  ·exact .inl ⟨by simp[h],by simp[GN,h]⟩
 ·by_cases h:i/wn<hn-1
  ·exact .inr ⟨i+wn,by simp[h],by simp[GN,h]⟩
  ·exact .inl ⟨by simp[h],by simp[GN,h]⟩
theorem Town_i{l:Sl}{xs:List Int}{W:aH}{Q:GT->aH->Prop}(hl:Rd W l 1 eI xs)(hQ:∀g G w',SK w' g G->zI G->G.n<=16->aM W w'->Q g w'):zQ l W Q:=by
 unfold zQ;refine bK λw1 o1 k1 z1=>bK λw2 o2 k2 z2=>?_;have K2:=k1.tr k2;have st2:pL W w2 w1.heap.size (bD,bD,bD,()) [] [] []:=
  ⟨o2,dQ.nil _ _ _ _,dQ.nil _ _ _ _,dQ.nil _ _ _ _,(λa ha=>by cases ha),(λa ha=>by cases ha),(λa ha=>by cases ha),(λa b ha=>by cases ha),(λa b ha=>by cases ha),(λa b ha=>by cases ha),aB,K2⟩
 have hA1:W.heap.size<w1.heap.size:=aB;generalize hA:w1.heap.size=A at*;have RL:cW w2 W.heap.size gG (Ah (bD,bD,bD,())):=o1.aK k2 id;have nk:∀{wx:aH},aM W wx->Rd wx l 1 eI xs:=λkx=>hl.aK kx cR λ_ _=>id;refine LS (nk K2) (by decide) (by decide) (by decide) (by decide) λx1 w3 rY xK k3=>?_;refine LS (nk (K2.tr k3)) (by decide) (by decide) (by decide) (by decide) λx2 w4 x20 x21 k4=>?_;obtain⟨wn,hwn⟩:∃wn:Nat,(1:Int)+x1=(wn:Int):=⟨(1+x1).toNat,aB⟩;obtain⟨hn,hhn⟩:∃hn:Nat,(1:Int)+x2=(hn:Int):=⟨(1+x2).toNat,aB⟩;have wr1:aQ ((1:Int)+x1)=(wn:Int):=by rw[gM aB aB,hwn]
 have wr2:aQ ((1:Int)+x2)=(hn:Int):=by rw[gM aB aB,hhn]
 have wn1:1<=wn/\wn<=4:=aB;have hn1:1<=hn/\hn<=4:=aB;have hM:wn*hn<=4*4:=EX wn1.2 hn1.2;have hM1:1*1<=wn*hn:=EX wn1.1 hn1.1;have wrM:aQ ((wn:Int)*(hn:Int))=((wn*hn:Nat):Int):=by
  rw[<-Int.natCast_mul,gM aB aB]
 rw[wr1,wr2,wrM];generalize hMM:wn*hn=M at*;have tm:∀i:Nat,Int.tmod (i:Int) (wn:Int)=((i%wn:Nat):Int):=λi=>(Int.ofNat_tmod i wn).symm;have td:∀i:Nat,Int.tdiv (i:Int) (wn:Int)=((i/wn:Nat):Int):=λi=>(Int.ofNat_tdiv i wn).symm;have gF:¬(wn:Int)=0:=aB;have st4:=(st2.aN k3).aN k4;refine bO (λc t w5=>∃(i:Nat) (g:GT) (N:List (Int×Int)),i<=M/\c=M-i/\t=((i:Int),())/\pL W w5 A g N [] []/\N.length=i/\(∀p∈N,(0<=p.1/\p.1<=4095)/\0<=p.2/\p.2<=4095)/\cW w5 W.heap.size gG (Ah (bD,bD,bD,()))/\(∀a,g.1.b=some a->a.block≠W.heap.size)/\g.2.1.b=none/\g.2.2.1.b=none) M
  ⟨0,_,[],iG _,rfl,rfl,st4,rfl,by simp,(RL.aK k3 id).aK k4 id,(λa ha=>by cases ha),rfl,rfl⟩ ?_
 clear st2 st4 RL o1 o2;rintro c t w5 ⟨i,g,N,hi,rfl,rfl,st,hNl,hNo,oR,nR,eb2,Kl⟩ X hX;dsimp only;refine aJ (λcJ=>?_) (λkT=>?_)
 ·have dJ:i<M:=aB
  have d5:aM w5 w5.drew:=aW.drew (aW.refl _ w5);have Tq:=st.aN d5;have lit0:∀{wx:aH},cW wx A gG (Ah g)->wx.cell? ((⟨A,0,none⟩:Addr).add 0)=some (sv g.1):=λh=>by rw[aS,h.cell];rfl
  refine aE (k:=.slice) g.1 (lit0 Tq.gN) ⟨gF,gF,?_⟩;rw[gM (n:=(2:Int)+(i:Int)) aB aB];refine LS (nk Tq.kp) aB aB (by decide) (by decide) λx3 w6 x30 x31 k6=>?_;have UH:=Tq.aN k6;refine⟨lit0 UH.gN,?_⟩;have hmod:i%wn<wn:=Nat.mod_lt _ aB;have hdiv:i/wn<=i:=Nat.div_le_self _ _;rw[tm,td];generalize i/wn=q at*;generalize i%wn=r at*;rw[gM (n:=(q:Int)) aB aB,gM (n:=(100:Int)*(q:Int)) aB aB,gM (n:=(100:Int)*(r:Int)) aB aB,gM (n:=(100:Int)*(q:Int)+x3) aB aB];refine UH.pushN (x:=((100:Int)*(r:Int),(100:Int)*(q:Int)+x3)) aB λw8 s st8 m8 f8=>?_;rw[qA i aB];have zk:=UH.kp.size;have oR6:=(oR.aK d5 id).aK k6 id;refine hX _ _ _ aB ⟨i+1,_,_,dJ,rfl,rfl,st8,by simp[hNl],λp hp=>?_,oR6.aK m8 λhh=>?_,λa ha e=>?_,eb2,Kl⟩
  ·rcases jK.1 hp with hp|hp
   ·exact hNo p hp
   ·have:p=((100:Int)*(r:Int),(100:Int)*(q:Int)+x3):=by simpa using hp
    subst this;exact⟨⟨by show 0<=(100:Int)*_;omega,by show(100:Int)*_<=4095;omega⟩,by show 0<=(100:Int)*_+x3;omega,by show(100:Int)*_+x3<=4095;omega⟩
  ·rcases hh with e|⟨a,ha,e⟩
   ·omega
   ·exact nR a ha e.symm
  ·rcases f8 a ha with h1|h1
   ·exact nR a h1 e
   ·have:=oR6.lt;omega
 have ei:M=i:=aB;subst ei;clear hX kT hi;refine bO (λc t w5=>∃(i:Nat) (g:GT) (E:List R3),i<=M/\c=M-i/\t=((i:Int),())/\pL W w5 A g N E []/\BO wn hn (DQ wn hn i) E/\E.length<=2*2*i/\cW w5 W.heap.size gG (Ah (bD,bD,bD,()))/\(∀a,g.1.b=some a->a.block≠W.heap.size)/\(∀a,g.2.1.b=some a->a.block≠W.heap.size)/\g.2.2.1.b=none) M
  ⟨0,g,[],iG _,rfl,rfl,st,BO.nil _ _ _,by simp,oR,nR,(λa ha=>by rw[eb2] at ha;cases ha),Kl⟩ ?_
 clear st oR nR eb2 Kl g;rintro c t w5 ⟨i,g,E,hi,rfl,rfl,st,hG,hEl,oR,nR,Mq,Kl⟩ X hX;dsimp only;refine aJ (λcJ=>?_) (λkT=>?_)
 ·have dJ:i<M:=aB
  refine fE (vs:=[aD (-1),aD (-1)]) ze rfl (by simp[Value.oneCell']) λeR Db KH z12=>?_;have eh:=st.aN KH;have oR12:=oR.aK KH id;have hAlt:=st.gN.lt;have up:∀{wx wy:aH} {g':GT} {E':List R3} {B':List (Int×Int)},pL W wx A g' N E' B'->aW (λk=>k=w5.heap.size) wx wy->(∀a,g'.1.b=some a->a.block≠w5.heap.size)->(∀a,g'.2.1.b=some a->a.block≠w5.heap.size)->(∀a,g'.2.2.1.b=some a->a.block≠w5.heap.size)->pL W wy A g' N E' B':=λh m h1 h2 h3=>
   ⟨h.gN.aK m λe=>aB,h.vn.aK m λa ha e=>h1 a ha e,h.ve.aK m λa ha e=>h2 a ha e,h.vb.aK m λa ha e=>h3 a ha e,h.n1,h.n2,h.n3,h.n12,h.n13,h.n23,h.Lg,h.kp.fresh m λk e=>by rw[show k=w5.heap.size from e];exact st.kp.size⟩
  have n1:∀a,g.1.b=some a->a.block≠w5.heap.size:=λa ha e=>by have:=st.vn.lt ha;omega
  have n2:∀a,g.2.1.b=some a->a.block≠w5.heap.size:=λa ha e=>by have:=st.ve.lt ha;omega
  have n3:∀a,g.2.2.1.b=some a->a.block≠w5.heap.size:=λa ha=>by rw[Kl] at ha;cases ha
  have upR:∀{wx wy:aH},cW wx W.heap.size gG (Ah (bD,bD,bD,()))->aW (λk=>k=w5.heap.size) wx wy->cW wy W.heap.size gG (Ah (bD,bD,bD,())):=λo m=>o.aK m λe=>aB;intro J1 KJ;have core1:∀gO,pL W gO A g N E []->cW gO W.heap.size gG (Ah (bD,bD,bD,()))->cW gO w5.heap.size Vn [aD (RM wn hn i 0),aD (-1)]->J1 () gO:=by
   intro gO st13 oR13 o13;apply KJ;intro J2 En;have core2:∀mC,pL W mC A g N E []->cW mC W.heap.size gG (Ah (bD,bD,bD,()))->cW mC w5.heap.size Vn [aD (RM wn hn i 0),aD (RM wn hn i 1)]->J2 () mC:=by
    intro mC st14 oR14 o14;apply En;have h0:BO wn hn (LZ wn hn i 0) E:=by unfold LZ;simpa using hG
    refine bO (λc t fO=>∃(k:Nat) (g:GT) (E:List R3),k<=2/\c=2-k/\t=((k:Int),())/\pL W fO A g N E []/\BO wn hn (LZ wn hn i k) E/\E.length<=2*2*i+2*k/\cW fO W.heap.size gG (Ah (bD,bD,bD,()))/\
      cW fO w5.heap.size Vn [aD (RM wn hn i 0),aD (RM wn hn i 1)]/\(∀a,g.1.b=some a->a.block≠W.heap.size/\a.block≠w5.heap.size)/\(∀a,g.2.1.b=some a->a.block≠W.heap.size/\a.block≠w5.heap.size)/\g.2.2.1.b=none) 2
     ⟨0,g,E,aB,rfl,rfl,st14,h0,aB,oR14,o14,λa ha=>⟨nR a ha,n1 a ha⟩,λa ha=>⟨Mq a ha,n2 a ha⟩,Kl⟩ ?_
    clear st14 oR14 o14 h0;rintro c t fO ⟨k,g,E,hk,rfl,rfl,st,hG,hEl,oR,oN,m1,m2,Kl⟩ Y hY;dsimp only;refine aJ (λRY=>?_) (λUz=>?_)
    ·have lD:k<2:=aB
     have cN:∀{wx:aH},cW wx w5.heap.size Vn [aD (RM wn hn i 0),aD (RM wn hn i 1)]->wx.cell? ((⟨w5.heap.size,0,none⟩:Addr).add (k*1))=some (aD (RM wn hn i k)):=λh=>by
      rw[aS,h.cell];have:k=0\/k=1:=aB;rcases this with rfl|rfl<;>rfl
     have B2:0<=(k:Int)/\(k:Int)<((2:Nat):Int):=⟨aB,aB⟩;rw[kE];refine⟨B2,aE (k:=.i) (RM wn hn i k) (cN oN) ?_⟩;rcases full_nxt (wn:=wn) (hn:=hn) (i:=i) lD with⟨PT,hfull⟩|⟨j,hj,hfull⟩
     ·refine aJ (λ_=>?_) (λh=>absurd PT h)
      rw[qA k aB];exact hY _ _ _ aB ⟨k+1,g,E,lD,rfl,rfl,st,by rw[Wx lD];exact hG.RT,aB,oR,oN,m1,m2,Kl⟩
     refine aJ (λh=>absurd (show RM wn hn i k<0 from h) aB) (λ_=>?_);rw[gM (n:=(3:Int)*(i:Int)) aB aB,gM (n:=(20:Int)+(3:Int)*(i:Int)) aB aB,gM (n:=(20:Int)+(3:Int)*(i:Int)+(k:Int)) aB aB];refine LS (nk st.kp) aB aB (by decide) (by decide) λx5 gR _ _ Ka=>?_;have st16:=st.aN Ka;have oR16:=oR.aK Ka id;have oN16:=oN.aK Ka id;rw[gM (n:=(90:Int)+(i:Int)) aB aB,gM (n:=(90:Int)+(i:Int)+(k:Int)) aB aB,gM (n:=(60:Int)+(i:Int)) aB aB,gM (n:=(60:Int)+(i:Int)+(k:Int)) aB aB];intro J3 hJ3;have core3:∀iZ g' E',pL W iZ A g' N E' []->BO wn hn (LZ wn hn i k++[(i,j)]) E'->E'.length<=2*2*i+2*k+1->cW iZ W.heap.size gG (Ah (bD,bD,bD,()))->cW iZ w5.heap.size Vn [aD (RM wn hn i 0),aD (RM wn hn i 1)]->
       (∀a,g'.1.b=some a->a.block≠W.heap.size/\a.block≠w5.heap.size)->(∀a,g'.2.1.b=some a->a.block≠W.heap.size/\a.block≠w5.heap.size)->g'.2.2.1.b=none->J3 () iZ:=by
      intro iZ g' E' rA hG17 hEl17 oR17 oN17 vz m27 eb17;apply hJ3;have pk:LZ wn hn i (k+1)=LZ wn hn i k++[(i,j)]++[(j,i)]:=by rw[Wx lD,hfull];simp
      refine aF (λ_=>?_) (λ_=>?_)
      ·have d17:aM iZ iZ.drew:=aW.drew (aW.refl _ iZ)
       have Fo:=rA.aN d17;have Lh:∀{wx:aH} {g':GT},cW wx A gG (Ah g')->wx.cell? ((⟨A,0,none⟩:Addr).add 1)=some (sv g'.2.1):=λh=>by rw[aS,h.cell];rfl
       refine aE (k:=.slice) g'.2.1 (Lh Fo.gN) ⟨B2,aE (k:=.i) (RM wn hn i k) (cN (oN17.aK d17 id)) ?_⟩;refine LS (nk Fo.kp) aB aB (by decide) (by decide) λx7 lE x70 x71 Tt=>?_;have st18:=Fo.aN Tt;refine⟨cN ((oN17.aK d17 id).aK Tt id),Lh st18.gN,?_⟩;rw[gM (n:=(1:Int)+x7) aB aB,hj];refine st18.pushE (x:=((j:Int),(i:Int),(1:Int)+x7)) aB λAU s Pw vw f21=>?_;have o5:=((oN17.aK d17 id).aK Tt id);have oR5:=((oR17.aK d17 id).aK Tt id);rw[qA k aB];refine hY _ _ _ aB ⟨k+1,_,_,lD,rfl,rfl,Pw,by rw[pk];exact hG17.push aB aB,by rw[mL,List.length_singleton];omega,oR5.aK vw λhh=>?_,o5.aK vw λhh=>?_,vz,λa ha=>?_,eb17⟩
       ·rcases hh with e|⟨a,ha,e⟩
        ·omega
        ·exact(m27 a ha).1 e.symm
       ·rcases hh with e|⟨a,ha,e⟩
        ·omega
        ·exact(m27 a ha).2 e.symm
       ·rcases f21 a ha with h1|h1
        ·exact m27 a h1
        ·have:=oR5.lt;have:=o5.lt;exact⟨aB,aB⟩
      ·rw[qA k aB]
       exact hY _ _ _ aB ⟨k+1,_,_,lD,rfl,rfl,rA,by rw[pk];exact hG17.RT,aB,oR17,oN17,vz,m27,eb17⟩
     refine aF (λ_=>?_) (λ_=>?_)
     ·have d17:aM gR gR.drew:=aW.drew (aW.refl _ gR)
      have Fo:=st16.aN d17;have Lh:∀{wx:aH} {g':GT},cW wx A gG (Ah g')->wx.cell? ((⟨A,0,none⟩:Addr).add 1)=some (sv g'.2.1):=λh=>by rw[aS,h.cell];rfl
      refine aE (k:=.slice) g.2.1 (Lh Fo.gN) ⟨B2,aE (k:=.i) (RM wn hn i k) (cN (oN16.aK d17 id)) ?_⟩;refine LS (nk Fo.kp) aB aB (by decide) (by decide) λx9 lE x70 x71 Tt=>?_;have st18:=Fo.aN Tt;refine⟨cN ((oN16.aK d17 id).aK Tt id),Lh st18.gN,?_⟩;rw[gM (n:=(1:Int)+x9) aB aB,hj];refine st18.pushE (x:=((i:Int),(j:Int),(1:Int)+x9)) aB λAU s Pw vw f21=>?_;have o5:=((oN16.aK d17 id).aK Tt id);have oR5:=((oR16.aK d17 id).aK Tt id);refine core3 AU _ _ Pw (hG.push aB aB) (by rw[mL,List.length_singleton];omega) (oR5.aK vw λhh=>?_) (o5.aK vw λhh=>?_) m1 (λa ha=>?_) Kl
      ·rcases hh with e|⟨a,ha,e⟩
       ·omega
       ·exact(m2 a ha).1 e.symm
      ·rcases hh with e|⟨a,ha,e⟩
       ·omega
       ·exact(m2 a ha).2 e.symm
      ·rcases f21 a ha with h1|h1
       ·exact m2 a h1
       ·have:=oR5.lt;have:=o5.lt;exact⟨aB,aB⟩
     ·exact core3 gR g E st16 hG.RT aB oR16 oN16 m1 m2 Kl
    ·have ek:k=2:=aB
     subst ek;rw[qA i aB];have e2:LZ wn hn i 2=DQ wn hn (i+1):=by unfold LZ;rw[km];simp
     rw[e2] at hG;exact hX _ _ _ aB ⟨i+1,g,E,dJ,rfl,rfl,st,hG,aB,oR,λa ha=>(m1 a ha).1,λa ha=>(m2 a ha).1,Kl⟩
   refine⟨gF,?_⟩;have q0:(0:Int)<=((i/wn:Nat):Int):=Int.natCast_nonneg _;rw[td,gM (n:=((i/wn:Nat):Int)) aB (by have:=Nat.div_le_self i wn;omega),gM (n:=(hn:Int)-1) aB aB];refine aJ (λhc=>⟨by decide,?_⟩) (λhc=>?_)
   ·have Ua:i/wn<hn-1:=by have:((i/wn:Nat):Int)<(hn:Int)-1:=hc;omega
    rw[show Int.toNat (1:Int)*1=1 from rfl,show((⟨w5.heap.size,0,none⟩:Addr).add 1)=⟨w5.heap.size,1,none⟩ by rw[aS],gM (n:=(i:Int)+(wn:Int)) aB aB];refine cI (o:=1) (v:=aD ((i:Int)+(wn:Int))) o13 cU dL rfl rfl λmC o14 YB _=>?_;refine core2 mC (up st13 YB n1 n2 n3) (upR oR13 YB) ?_;have:RM wn hn i 1=(i:Int)+(wn:Int):=by unfold RM;simp[Ua]
    rw[this];exact o14
   ·have Ua:¬i/wn<hn-1:=by have:¬((i/wn:Nat):Int)<(hn:Int)-1:=hc;omega
    refine core2 gO st13 oR13 ?_;have:RM wn hn i 1=-1:=by unfold RM;simp[Ua]
    rw[this];exact o13
  refine⟨gF,?_⟩;rw[tm,gM (n:=(wn:Int)-1) aB aB];have hmod:i%wn<wn:=Nat.mod_lt _ aB;refine aJ (λhc=>⟨by decide,?_⟩) (λhc=>?_)
  ·have Ua:i%wn<wn-1:=by have:((i%wn:Nat):Int)<(wn:Int)-1:=hc;omega
   rw[show Int.toNat (0:Int)*1=0 from rfl,add_zero,gM (n:=(i:Int)+(1:Int)) aB aB];refine cI (o:=0) (v:=aD ((i:Int)+1)) Db cU dL rfl rfl λgO o13 da _=>?_;refine core1 gO (up eh da n1 n2 n3) (upR oR12 da) ?_;have:RM wn hn i 0=(i:Int)+1:=by unfold RM;simp[Ua]
   rw[this];exact o13
  ·have Ua:¬i%wn<wn-1:=by have:¬((i%wn:Nat):Int)<(wn:Int)-1:=hc;omega
   refine core1 eR eh oR12 ?_;have:RM wn hn i 0=-1:=by unfold RM;simp[Ua]
   rw[this];exact Db
 have ei:M=i:=aB;subst ei;have T0:BM M 0 E:=by rw[<-hMM];rw[<-hMM] at hG;exact hG.town aB aB
 have t0l:=T0.len;clear hX kT hi hG hEl;refine bO (λc t w5=>∃(k:Nat) (g:GT) (E:List R3),k<=3/\c=4-k/\t=((k:Int),())/\pL W w5 A g N E []/\BM M k E/\cW w5 W.heap.size gG (Ah (bD,bD,bD,()))/\(∀a,g.1.b=some a->a.block≠W.heap.size)/\(∀a,g.2.1.b=some a->a.block≠W.heap.size)/\g.2.2.1.b=none) 4
  ⟨0,g,E,aB,rfl,rfl,st,T0,oR,nR,Mq,Kl⟩ ?_
 clear st oR nR Mq Kl T0 t0l g E;rintro c t w5 ⟨k,g,E,hk,rfl,rfl,st,T,oR,nR,Mq,Kl⟩ X hX;dsimp only;refine LS (nk st.kp) (by decide) (by decide) (by decide) (by decide) λrY w6 xa xb k6=>?_;have UH:=st.aN k6;have oR6:=oR.aK k6 id;have tl:=T.len;refine aJ (λcJ=>?_) (λkT=>?_)
 ·have lD:k<3:=by have:(k:Int)<rY:=cJ;omega
  have d6:aM w6 w6.drew:=aW.drew (aW.refl _ w6);have st6d:=UH.aN d6;have Lh:∀{wx:aH},cW wx A gG (Ah g)->wx.cell? ((⟨A,0,none⟩:Addr).add 1)=some (sv g.2.1):=λh=>by rw[aS,h.cell];rfl
  refine aE (k:=.slice) g.2.1 (Lh st6d.gN) ?_;rw[gM (n:=(4:Int)+(k:Int)) aB aB,gM (n:=(8:Int)+(k:Int)) aB aB,gM (n:=(12:Int)+(k:Int)) aB aB];refine LS (nk st6d.kp) aB aB aB aB λxK w7 a0 a1 k7=>?_;have XR:=st6d.aN k7;refine⟨Lh XR.gN,LS (nk XR.kp) aB aB aB aB λJv w8 b0 b1 k8=>?_⟩;have st8:=XR.aN k8;refine⟨Lh st8.gN,LS (nk st8.kp) aB aB (by decide) (by decide) λTp w9 c0 c1 k9=>?_⟩;have st9:=st8.aN k9;refine⟨Lh st9.gN,?_⟩;rw[gM (n:=(1:Int)+Tp) aB aB];have oR9:=(((oR6.aK d6 id).aK k7 id).aK k8 id).aK k9 id;refine st9.pushE (x:=(xK,Jv,(1:Int)+Tp)) aB λAU s Pw vw f21=>?_;rw[qA k aB];refine hX (4-(k+1)) _ _ aB ⟨k+1,_,_,lD,rfl,rfl,Pw,T.push ⟨⟨a0,a1⟩,⟨b0,b1⟩,by show 1<=(1:Int)+Tp;omega,by show(1:Int)+Tp<=40;omega⟩,oR9.aK vw λhh=>?_,nR,λa ha e=>?_,Kl⟩
  ·rcases hh with e|⟨a,ha,e⟩
   ·omega
   ·exact Mq a ha e.symm
  ·rcases f21 a ha with h1|h1
   ·exact Mq a h1 e
   ·have:=oR9.lt;omega
 have T3:=T.RT hk;clear hX kT;intro J hJ;have sF:∀w9 g E,pL W w9 A g N E []->BM M 3 E->E≠[]->cW w9 W.heap.size gG (Ah (bD,bD,bD,()))->(∀a,g.1.b=some a->a.block≠W.heap.size)->(∀a,g.2.1.b=some a->a.block≠W.heap.size)->g.2.2.1.b=none->J () w9:=by
  clear st UH oR oR6 nR Mq Kl T T3 tl g E;intro w9 g E st T hE1 oR nR Mq Kl;apply hJ;have tl:=T.len;have B0:GQ E 0 0 []:=⟨by simp,by simp,List.Pairwise.nil,by simp⟩;have cells:∀{wx:aH} {g':GT},cW wx A gG (Ah g')->_:=λ{wx g'} h=>FW (x:=sv g'.1) (y:=sv g'.2.1) (z:=sv g'.2.2.1) h;refine bO (λc t w5=>∃(a:Nat) (g:GT) (B:List (Int×Int)),a<=E.length/\c=E.length-a/\t=((a:Int),())/\pL W w5 A g N E B/\GQ E a 0 B/\cW w5 W.heap.size gG (Ah (bD,bD,bD,()))/\(∀a,g.1.b=some a->a.block≠W.heap.size)/\(∀a,g.2.1.b=some a->a.block≠W.heap.size)/\(∀a,g.2.2.1.b=some a->a.block≠W.heap.size)) E.length
   ⟨0,g,[],iG _,rfl,rfl,st,B0,oR,nR,Mq,λa ha=>by rw[Kl] at ha;cases ha⟩ ?_
  clear st oR nR Mq Kl B0 g;rintro c t w5 ⟨a,g,B,ha,rfl,rfl,st,hB,oR,nR,Mq,nR3⟩ X hX;dsimp only;have el:=st.ve.len;refine aE (k:=.slice) g.2.1 (cells st.gN).2.1 (aJ (λcJ=>?_) (λkT=>?_))
  ·have pI:a<E.length:=aB
   refine bO (λc t w6=>∃(b:Nat) (g:GT) (B:List (Int×Int)),b<=E.length/\c=E.length-b/\t=((b:Int),())/\pL W w6 A g N E B/\GQ E a b B/\cW w6 W.heap.size gG (Ah (bD,bD,bD,()))/\(∀a,g.1.b=some a->a.block≠W.heap.size)/\(∀a,g.2.1.b=some a->a.block≠W.heap.size)/\(∀a,g.2.2.1.b=some a->a.block≠W.heap.size)) E.length
    ⟨0,g,B,iG _,rfl,rfl,st,hB,oR,nR,Mq,nR3⟩ ?_
   clear st oR nR Mq nR3 hB el g B cJ;rintro c t w6 ⟨b,g,B,hb,rfl,rfl,st,hB,oR,nR,Mq,nR3⟩ Y hY;dsimp only;have el:=st.ve.len;refine aE (k:=.slice) g.2.1 (cells st.gN).2.1 (aJ (λRY=>?_) (λUz=>?_))
   ·have bW:b<E.length:=aB
    have d6:aM w6 w6.drew:=aW.drew (aW.refl _ w6);have UH:=st.aN d6;have oR6:=oR.aK d6 id;have hga:=gS pI;have hgb:=gS bW;have ea:E.getD a (0,0,0)=E[a]:=by rw[LP,hga];rfl
    have eb:E.getD b (0,0,0)=E[b]:=by rw[LP,hgb];rfl
    obtain⟨p,hp,_,_,ct,_⟩:=rd3 (UH.ve.rd FC) hga;obtain⟨q,hq,_,cf,_,_⟩:=rd3 (UH.ve.rd FC) hgb;rw[kE,kE];refine aE (k:=.slice) g.2.1 (cells UH.gN).2.1 ⟨⟨aB,aB⟩,aA hp (aE (k:=.i) _ ct (aE (k:=.slice) g.2.1 (cells UH.gN).2.1 ⟨⟨aB,aB⟩,aA hq (aE (k:=.i) _ cf ?_)⟩))⟩;rw[qA b aB];refine aF (λhe=>?_) (λhe=>?_)
    ·have vV:(E.getD a (0,0,0)).2.1=(E.getD b (0,0,0)).1:=by rw[ea,eb];simpa using he
     rw[gM (n:=(7:Int)*(a:Int)) aB aB,gM (n:=(7:Int)*(a:Int)+(b:Int)) aB aB];refine LS (nk UH.kp) aB aB (by decide) (by decide) λx16 w7 _ _ k7=>?_;have XR:=UH.aN k7;have oR7:=oR6.aK k7 id;refine aF (λ_=>?_) (λ_=>?_)
     ·have bl:=hB.len
      have fl:=vW (λi=>decide ((E.getD i.toNat (0,0,0)).1=(E.getD a (0,0,0)).2.1)) (nW b);rw[vC] at fl;refine aE (k:=.slice) g.2.2.1 (cells XR.gN).2.2 ?_;refine XR.pushB (x:=((a:Int),(b:Int))) aB λw8 s st8 m8 f8=>?_;refine hY _ _ _ aB ⟨b+1,_,_,bW,rfl,rfl,st8,hB.push pI bW vV,oR7.aK m8 λhh=>?_,nR,Mq,λc hc e=>?_⟩
      ·rcases hh with e|⟨c,hc,e⟩
       ·omega
       ·exact nR3 c hc e.symm
      ·rcases f8 c hc with h1|h1
       ·exact nR3 c h1 e
       ·have:=oR7.lt;omega
     ·exact hY _ _ _ aB ⟨b+1,g,B,bW,rfl,rfl,XR,hB.skip,oR7,nR,Mq,nR3⟩
    ·exact hY _ _ _ aB ⟨b+1,g,B,bW,rfl,rfl,UH,hB.skip,oR6,nR,Mq,nR3⟩
   ·have eb:b=E.length:=aB
    subst eb;rw[qA a aB];exact hX _ _ _ aB ⟨a+1,g,B,pI,rfl,rfl,st,hB.next T,oR,nR,Mq,nR3⟩
  ·have ea:a=E.length:=aB
   subst ea;refine bJ (l:=[.slice,.slice,.slice]) g (GJ (g:=g) st.gN) ?_;refine eO (vs:=Ah g) oR yD rfl (We g) λw43 o43 m43 _=>?_;refine bJ (l:=[.slice,.slice,.slice]) g (GJ (g:=g) o43) ?_;refine hQ g ⟨N,E,B⟩ w43 ⟨(st.vn.aK m43 λa ha e=>nR a ha e).rd US,(st.ve.aK m43 λa ha e=>Mq a ha e).rd FC,(st.vb.aK m43 λa ha e=>nR3 a ha e).rd US⟩ (town_ok ⟨aB,aB⟩ hNl hNo T hE1 hB) (by show N.length<=16;omega) (st.kp.fresh m43 λk e=>by rw[show k=W.heap.size from e];exact iT _)
 have el:=UH.ve.len;refine aE (k:=.slice) g.2.1 (by rw[aS,UH.gN.cell];rfl) (aF (λh0=>?_) (λh0=>?_))
 ·have hl0:(g.2.1.l:Int)=0:=by simpa using h0
  refine bK λw7 o7 k7 z7=>?_;have XR:=UH.aN k7;have oR7:=oR6.aK k7 id;rw[show((⟨A,0,none⟩:Addr).add 1)=⟨A,1,none⟩ by rw[aS]];have hAlt:=UH.gN.lt;refine cI (o:=1) (v:=.slice (some ⟨w6.heap.size,0,none⟩) 1 1) XR.gN Hv dL rfl rfl λw8 o8 m8 _=>?_;have ve:dQ w7 QG 3 cu ⟨some ⟨w6.heap.size,0,none⟩,1,1⟩ [((0:Int),(0:Int),(3:Int))]:=dQ.new FC [_] o7 (by simp[maxLen]);refine sF w8 (g.1,⟨some ⟨w6.heap.size,0,none⟩,1,1⟩,g.2.2.1,()) [((0:Int),(0:Int),(3:Int))] ⟨o8,XR.vn.aK m8 λa ha e=>(XR.n1 a ha).1 e,ve.aK m8 λa ha e=>?_,XR.vb.aK m8 λa ha e=>(XR.n3 a ha).1 e,XR.n1,λa ha=>?_,XR.n3,λa b ha hb=>?_,XR.n13,λa b ha hb=>?_,XR.Lg,XR.kp.fresh m8 λk e=>by rw[show k=A from e];exact XR.Lg⟩ (BM.one aB) dL (oR7.aK m8 λe=>aB) nR (λa ha e=>?_) Kl
  ·cases ha;have e':w6.heap.size=A:=e;omega
  ·cases ha;exact⟨by show w6.heap.size≠A;omega,UH.kp.size⟩
  ·cases hb;have:=UH.vn.lt ha;show a.block≠w6.heap.size;omega
  ·rw[Kl] at hb;cases hb
  ·cases ha;have e':w6.heap.size=W.heap.size:=e;have:=oR6.lt;omega
 ·have hE0:E≠[]:=λh=>by
   have h1:¬(g.2.1.l:Int)=0:=by simpa using h0
   rw[h] at el;simp at el;omega
  exact sF w6 g E UH T3 hE0 oR6 nR Mq Kl
end
theorem Small_i{l:Sl}{xs:List Int}{w:aH}{Q:Int×Int×Int×Int×Int×Int×Unit->aH->Prop}(hl:Rd w l 1 eI xs)(hQ:∀c w',c.Ok->aM w w'->Q (xQ c) w'):xF l w Q:=by
 unfold xF;refine cC (cs:=CW ⟨0,0,0,0,0,0⟩) λw1 b1 k1 z1=>?_;refine LS (hl.aK k1 cR λ_ _=>id) (by decide) (by decide) (by decide) (by decide) λx1 w2 a1 c1 k2=>?_;have K2:=k1.tr k2;refine LS (hl.aK K2 cR λ_ _=>id) (by decide) (by decide) (by decide) (by decide) λx2 w3 a2 c2 k3=>?_;have K3:=K2.tr k3;refine LS (hl.aK K3 cR λ_ _=>id) (by decide) (by decide) (by decide) (by decide) λx3 w4 a3 c3 k4=>?_;have K4:=K3.tr k4;refine LS (hl.aK K4 cR λ_ _=>id) (by decide) (by decide) (by decide) (by decide) λx4 w5 a4 c4 k5=>?_;have K5:=K4.tr k5;rw[gM aB aB,gM aB aB,gM aB aB];refine fE (zs:=CW ⟨0,0,0,0,0,0⟩) (vs:=[aD (1+x1),aD (1+x2),aD x3,aD (1+x4),aD 0,aD 0]) tZ rfl (by simp[Value.oneCell']) λw7 o7 k7 z7=>?_;have o7d:=o7.aK (bN w7) id;have K7:=(K5.tr k7).tr (bN w7);refine aE (k:=.i) (1+x4) (cM o7d rfl) ?_;refine LS (hl.aK K7 cR λ_ _=>id) (by decide) (by decide) (by decide) (by decide) λx6 w8 a6 c6 k8=>?_;have o8:=o7d.aK k8 id;refine⟨cM o8 rfl,?_⟩;rw[gM aB aB];have b8:sB w5.heap.size uZ _ w8 (λk=>k=w5.heap.size):=⟨o8,λ_=>Iff.rfl⟩;refine pA b8 cU dL rfl rfl λw9 b9 u9=>?_;have K8:=K7.tr k8;have z5:w.heap.size<=w5.heap.size:=K5.size;have K9:aM w w9:=K8.fresh u9.m λk (e:k=w5.heap.size)=>aB;refine LS (hl.aK K9 cR λ_ _=>id) (by decide) (by decide) (by decide) (by decide) λx7 eV a7 c7 II=>?_;rw[gM aB aB];refine pA (bF.kp b9 II) cU dL rfl rfl λeE b11 Ko=>?_;have K11:aM w eE:=(K9.tr II).fresh Ko.m λk (e:k=w5.heap.size)=>aB
 let c:yX:=⟨(1+x1).toNat,(1+x2).toNat,x3,1+x4,1+x4+x6,5+x7⟩
 have bw:((1+x1).toNat:Int)=1+x1:=aB;have RP:((1+x2).toNat:Int)=1+x2:=aB;have tup:xQ c=(1+x1,1+x2,x3,1+x4,1+x4+x6,5+x7,()):=by show(((1+x1).toNat:Int),((1+x2).toNat:Int),_,_,_,_,())=_;rw[bw,RP]
 refine bJ (l:=IX) (1+x1,1+x2,x3,1+x4,1+x4+x6,5+x7,()) (b11.1.holds λj v hj=>by rw[pN];exact hj) ?_;have n15:¬w.heap.size=w5.heap.size:=by have:=(k2.tr (k3.tr (k4.tr k5))).size;omega
 have o1:cW eE w.heap.size uZ (CW ⟨0,0,0,0,0,0⟩):=by
  have x1:=b1.1.aK (k2.tr (k3.tr (k4.tr k5))) id;have x2:=((x1.aK k7 id).aK (bN w7) id).aK k8 id;exact((x2.aK u9.m n15).aK II id).aK Ko.m n15
 refine eO (vs:=[aD (1+x1),aD (1+x2),aD x3,aD (1+x4),aD (1+x4+x6),aD (5+x7)]) o1 tZ rfl (by simp[Value.oneCell']) λeR Db Ad _=>?_;refine bJ (l:=IX) (1+x1,1+x2,x3,1+x4,1+x4+x6,5+x7,()) (Db.holds λj v hj=>by rw[pN];exact hj) ?_;have:=hQ c eR ⟨by show 1<=(1+x1).toNat/\(1+x1).toNat<=16;omega,by show 1<=(1+x2).toNat/\(1+x2).toNat<=16;omega,by show 0<=x3/\x3<=20;omega,by show 1<=1+x4/\1+x4<=1000;omega,by show 1+x4<=1+x4+x6/\1+x4+x6<=1000;omega,by show 1<=5+x7/\5+x7<=1000;omega⟩ (K11.fresh Ad λk (e:k=w.heap.size)=>aB);rw[tup] at this;exact this
structure Made(E:uL)(G:Gr)(a wa n:Nat)(c:yX)(w0 W0 w':aH)(S':BS)(W:oW):Prop where
 x:iS (λ_=>False) E.e a wa W w' S'
 b:Bs W0 E G S' w'
 k:aM w0 w'
 ok:XX G 0 n W
 lo:∀k,S' k->w0.heap.size<=k
 w:∃sp tp lp IK ds,W=⟨IS c G.m sp tp lp,ds,[],IK⟩/\ds.map (·.2)=List.replicate n (YL c)
theorem Made.aN{E:uL}{G:Gr}{a wa n:Nat}{c:yX}{w0 W0 w' w2:aH}{S':BS}{W:oW}(h:Made E G a wa n c w0 W0 w' S' W)(k:aM w' w2):Made E G a wa n c w0 W0 w2 S' W:=⟨h.x.kp k,h.b.kp k,h.k.tr k,h.ok,h.lo,h.w⟩
theorem Made.lU{E:uL}{G:Gr}{a wa n:Nat}{c:yX}{w0 W0 w':aH}{S':BS}{W:oW}(h:Made E G a wa n c w0 W0 w' S' W):W.lU=[]:=by
 obtain⟨_,_,_,_,_,rfl,_⟩:=h.w;rfl
theorem NewW_i{g:GT}{G:Gr}{c:yX}{n:Nat}{w:aH}{Q:cL->Int->aH->Prop}(hg:SK w g G)(ok:zI G)(IL:c.Ok)(hn:1<=n/\n<=16)
  (hQ:∀E a wa W0 w' S' W,Made E G a wa n c w W0 w' S' W->aM w W0->Q (some ⟨wa,0,none⟩) 0 w'):yH g (xQ c) (n:Int) w Q:=
 WNew_i hg ok IL hn λE a wa sp tp lp W0 IK ds w' S' h1 h2 h3 XV h4 h5 h6=>hQ E a wa W0 w' S' _ ⟨h1,h2,h3,h4,h5,sp,tp,lp,IK,ds,rfl,h6⟩ XV
section
theorem ig{w:aH}{a b:Nat}{e e':TypeId}{cs ds:List Value}(o:cW w a e cs)(o':cW w b e' ds)(gF:e≠e'):a≠b:=λh=>by
 subst h;have h1:w.heap[a]? =some (.cells cs.toArray e (0,0)):=o;have h2:w.heap[a]? =some (.cells ds.toArray e' (0,0)):=o';rw[h1] at h2;cases h2;exact gF rfl
def Sls(w:aH)(a:Nat)(t:TypeId):Prop:=∃cs,cW w a t cs/\∀v∈cs,∃s:Sl,v=sv s
section
variable{w w':aH}{a:Nat}
variable{G:Gr}(m:aW (λk=>k=a) w w')(o:Sls w a gG)
include m o
end
def Cfb(w:aH)(a:Nat):Prop:=∃T cs,cW w a T cs/\(T=uZ\/T=gG)
section
variable{w w':aH}{a:Nat}{G:Gr}(m:aW (λk=>k=a) w w')(o:Cfb w a)
include m o
set_option linter.unusedSectionVars false
theorem ty_ne{s:Sl}(h:Ty w s):∀b,s.b=some b->¬b.block=a:=λb hb e=>by
 obtain⟨T,cs,oo,hT⟩:=o;obtain⟨t,ds,o2,h1,h2⟩:=h b hb;refine ig o2 oo (λet=>?_) e;rcases hT with rfl|rfl
 ·exact h1 et
 ·exact h2 et
theorem JE{s:Sl}(h:Ty w s):Ty w' s:=λb hb=>by
 have hn:=ty_ne m o h b hb;obtain⟨t,ds,o2,h1⟩:=h b hb;exact⟨t,ds,o2.aK m hn,h1⟩
theorem MI{α:Type}{n:Nat}{aY:α->List Value}{s:Sl}{xs:List α}(h:Rd w s n aY xs)(gF:∀x,aY x≠[])(ht:Ty w s):Rd w' s n aY xs:=h.aK m gF (ty_ne m o ht)
theorem Du{b:Nat}{e:TypeId}{cs:List Value}(h:cW w b e cs)(h1:e≠uZ)(h2:e≠gG):cW w' b e cs:=by
 obtain⟨T,ds,oo,hT⟩:=o;refine h.aK m λeb=>ig h oo (λet=>?_) eb;rcases hT with rfl|rfl
 ·exact h1 et
 ·exact h2 et
theorem ug{row first:Sl}{n mm:Nat}{key:Int->Int}(h:ByN w row first n mm key)(h1:Ty w row)(h2:Ty w first):ByN w' row first n mm key:=by
 obtain⟨fs,rs,g1,g2,g3⟩:=h;exact⟨fs,rs,MI m o g1 cR h2,MI m o g2 cR h1,g3⟩
theorem gra_cfg{H:Qs}(h:uX w H G):uX w' H G:=by
 obtain⟨t1,t2,t3,t4,t5,t6,t7⟩:=h.Kp;exact⟨h.ok,Du m o h.head (by decide) (by decide),⟨MI m o h.val.nd GO t1,MI m o h.val.ed YW t2,MI m o h.val.bn GO t3⟩,ug m o h.out t4 t6,ug m o h.LM t5 t7,JE m o t1,JE m o t2,JE m o t3,JE m o t4,JE m o t5,JE m o t6,JE m o t7⟩
theorem Np{s:Sl}{dW:List (List Int)}(h:QQ w s dW)(ht:∀b,s.b=some b->∃cs,cW w b.block BI cs):QQ w' s dW:=by
 obtain⟨ss,h1,h2,h3,h4⟩:=h;have hs:Ty w s:=λb hb=>by obtain⟨cs,o2⟩:=ht b hb;exact⟨BI,cs,o2,by decide,by decide⟩
 refine⟨ss,MI m o h1 eS_ne hs,h2,λi x r hx hr=>MI m o (h3 i x r hx hr) cR (h4 x (zH hx)),λx hx=>JE m o (h4 x hx)⟩
theorem tur_cfg{t:Lo}(h:rT w t G):rT w' t G:=
 ⟨Du m o h.head (by decide) (by decide),gra_cfg m o h.IJ,Np m o h.RM λb hb=>h.Kp b (.inl hb),Np m o h.prv λb hb=>h.Kp b (.inr hb),λb hb=>by obtain⟨cs,oo⟩:=h.Kp b hb;exact⟨cs,Du m o oo (by decide) (by decide)⟩⟩
theorem lev_cfg{H:Lp}{n:Nat}{A:List bQ}{R:List Int}(h:oD w H n A R):oD w' H n A R:=by
 have on:∀{k:Nat} {e:TypeId} {cs:List Value},cW w k e cs->e≠uZ->e≠gG->¬k=a:=λh h1 h2 eb=>by
  obtain⟨T,ds,oo,hT⟩:=o;refine ig h oo (λet=>?_) eb;rcases hT with rfl|rfl
  ·exact h1 et
  ·exact h2 et
 refine h.aK m λk hk=>?_;rcases hk with rfl|hk|⟨b,hb,xf⟩
 ·exact on h.head (by decide) (by decide)
 ·have hn:=h.LL.at_
  rcases hk with rfl|rfl|rfl|⟨i,s,b,h1,h2,xf⟩
  ·exact on hn.head (by decide) (by decide)
  ·exact on hn.rW (by decide) (by decide)
  ·exact on hn.KV (by decide) (by decide)
  ·obtain⟨cs,o2⟩:=Dk (hn.row i s h1) h2
   have:=on o2 (by decide) (by decide)
   first|(rw[xf];exact this)|(rw[<-xf];exact this)
 ·obtain⟨cs,o2⟩:=Dk h.jA hb
  have:=on o2 (by decide) (by decide)
  first|(rw[xf];exact this)|(rw[<-xf];exact this)
theorem eng_cfg{E:uL}(h:zE w E G):zE w' E G:=by
 obtain⟨os,h1,h2⟩:=h.ord;exact⟨Du m o h.head (by decide) (by decide),tur_cfg m o h.RJ,lev_cfg m o h.lev,⟨os,MI m o h1 cR h.oty,h2⟩,JE m o h.oty⟩
end
end
open Go.IntKind (wrap)
theorem Bs.chg{W0 w w2:aH}{E:uL}{G:Gr}{S:BS}{g:Nat}(h:Bs W0 E G S w)(m:aW (λk=>k=g) w w2)(o:Cfb W0 g):∃W0',Bs W0' E G S w2/\W0'.heap.size=W0.heap.size:=by
 have hg:g<W0.heap.size:=by obtain⟨T,cs,oo,_⟩:=o;exact oo.lt
 have Af:g<w2.heap.size:=mD hg (iF h.k0.size m.size);obtain⟨ob,Em⟩:∃ob,w2.heap[g]? =some ob:=⟨_,Array.getElem?_eq_getElem Af⟩
 let W0':aH:={W0 with heap:=W0.heap.setIfInBounds g ob}
 have m0:aW (λk=>k=g) W0 W0':=kR W0 g ob;have LG:W0'.heap.size=W0.heap.size:=by simp[W0']
 refine⟨W0',⟨eng_cfg m0 o h.xm,⟨m.os.trans h.k0.os,m.tape.trans h.k0.tape,m.output.trans h.k0.output,by rw[LG];exact iF h.k0.size m.size,λk hk _=>?_⟩,λk hk=>by rw[LG];exact h.lo k hk⟩,LG⟩;rw[LG] at hk
 by_cases hkg:k=g
 ·subst hkg
  rw[Em];show _=(W0.heap.setIfInBounds k ob)[k]?;rw[Array.getElem?_setIfInBounds];simp[hk]
 ·rw[m.block k (mD hk h.k0.size) hkg,h.k0.block k hk id]
  show _=(W0.heap.setIfInBounds g ob)[k]?;rw[Array.getElem?_setIfInBounds,if_neg (λe=>hkg e.symm)]
theorem Made.cQ{E:uL}{G:Gr}{a wa n g:Nat}{c:yX}{w0 w1 W0 w' w2:aH}{S':BS}{W:oW}(h:Made E G a wa n c w1 W0 w' S' W)(m:aW (λk=>k=g) w' w2)(o:Cfb W0 g)(hg:g<w1.heap.size)(h0:w0.heap.size<=g)(hk:aM w0 w1):∃W0',Made E G a wa n c w0 W0' w2 S' W/\W0'.heap.size=W0.heap.size:=by
 obtain⟨W0',hb,LG⟩:=h.b.chg m o;have hx:iS (λk=>k=g) E.e a wa W w' S':=h.x.SF h.lU;exact⟨W0',⟨(hx.ov m λk hk=>⟨hk,λhs=>by have:=h.lo k hs;have lD:k=g:=hk;omega⟩).SF h.lU,hb,(hk.tr h.k).fresh m λk e=>by rw[show k=g from e];exact h0,h.ok,λk lD=>iF hk.size (h.lo k lD),h.w⟩,LG⟩
theorem Oq{l cQ:Sl}{xs cs:List Int}{gQ:Int}{w:aH}{Q:GT->Int×Int×Int×Int×Int×Int×Unit->cL->Int->aH->Prop}(hl:Rd w l 1 eI xs)(hc:Rd w cQ 1 eI cs)
  (hQ:∀(g:GT) G c n E a wa W0 w' S' W,(g.1.l=G.n/\g.2.1.l=G.m)->zI G->c.Ok->Made E G a wa n c w W0 w' S' W->1<=n/\n<=4->(n:Int)=1+gQ%4->Q g (xQ c) (some ⟨wa,0,none⟩) (n:Int) w'):CP l cQ gQ w Q:=by
 unfold CP;refine bK λw1 o1 k1 z1=>?_;refine cC (cs:=CW ⟨0,0,0,0,0,0⟩) λw2 b2 k2 z2=>?_;have K2:=k1.tr k2;refine Town_i (hl.aK K2 cR λ_ _=>id) λg G w3 hg ok hn k3=>?_;refine Small_i (hc.aK (K2.tr k3) cR λ_ _=>id) λc w4 IL k4=>?_;refine bK λw5 o5 k5 z5=>?_;refine cC (cs:=CW ⟨0,0,0,0,0,0⟩) λw6 b6 k6 z6=>?_;refine eO (vs:=Ah g) (o5.aK k6 id) yD rfl (We g) λw7 o7 m7 _=>?_;refine eO (vs:=CW c) ((b6.1).aK m7 λe=>by have e':w5.heap.size=w4.heap.size:=e;omega) tZ rfl (by intro u hu;simp at hu;rcases hu with rfl|rfl|rfl|rfl|rfl|rfl<;>rfl) λw8 o8 m8 _=>?_;have o7':=o7.aK m8 λe=>by have e':w4.heap.size=w5.heap.size:=e;omega
 have K8:aM w4 w8:=((k5.tr k6).fresh m7 λk (e:k=w4.heap.size)=>aB).fresh m8 λk (e:k=w5.heap.size)=>aB;refine Round_i aB aB ?_;have hd0:=Int.emod_nonneg gQ (show(4:Int)≠0 by omega);obtain⟨n,gF⟩:∃n:Nat,(n:Int)=1+gQ%4:=⟨(1+gQ%4).toNat,aB⟩;rw[gM aB aB,<-gF];refine bJ (l:=[.slice,.slice,.slice]) g (GJ (g:=g) o7') (bJ (l:=IX) (xQ c) (o8.holds λj v hj=>by rw[pN];exact hj) ?_);have Kg:=k4.tr K8;have KW:=(k3.tr k4).tr K8;refine NewW_i (g:=g) (hg.aN Kg) ok IL aB λE a wa W0 eV FR W hM kW0=>aF (λh=>by cases h) (λ_=>?_);have KM:=hM.k;have d10:=bN eV;have hM1:=hM.aN d10;have o7d:=(o7'.aK KM id).aK d10 id;have o8d:=(o8.aK KM id).aK d10 id;refine bJ (l:=[.slice,.slice,.slice]) g (GJ (g:=g) o7d) (bJ (l:=IX) (xQ c) (o8d.holds λj v hj=>by rw[pN];exact hj) ?_);have o1W:cW W0 w.heap.size gG [sv bD,sv bD,sv bD]:=(((o1.aK k2 id).aK KW id).aK kW0 id);have o1x:cW eV.drew w.heap.size gG [sv bD,sv bD,sv bD]:=((((o1.aK k2 id).aK KW id).aK KM id).aK d10 id);have zz:=KW.size;have z34:=k4.size;have z3:=k3.size;refine eO (vs:=Ah g) o1x yD rfl (We g) λgO o13 da _=>?_;obtain⟨W1,hM2,tO⟩:=hM1.cQ (w0:=w) da ⟨_,_,o1W,.inr rfl⟩ aB (iT _) (K2.tr KW);refine⟨(o8d.aK da λe=>by have e':w5.heap.size=w.heap.size:=e;omega).holds λj v hj=>by rw[pN];exact hj,?_⟩;have b2x:cW gO w1.heap.size uZ (CW ⟨0,0,0,0,0,0⟩):=((((b2.1).aK KW id).aK KM id).aK d10 id).aK da λe=>by have e':w1.heap.size=w.heap.size:=e;omega
 have b2W:cW W1 w1.heap.size uZ (CW ⟨0,0,0,0,0,0⟩):=by
  have h1:w1.heap.size<W1.heap.size:=by rw[tO];have:=kW0.size;omega
  have:=hM2.b.k0.block w1.heap.size h1 id;unfold cW;rw[<-this];exact b2x
 refine eO (vs:=CW c) b2x tZ rfl (by intro u hu;simp at hu;rcases hu with rfl|rfl|rfl|rfl|rfl|rfl<;>rfl) λmC o14 YB _=>?_;obtain⟨W2,RQ,FP⟩:=hM2.b.chg YB ⟨_,_,b2W,.inl rfl⟩;have hx14:iS (λk=>k=w1.heap.size) E.e a wa W gO FR:=hM2.x.SF hM2.lU;have S10lo:∀k,FR k->w8.heap.size<=k:=hM.lo;have hM3:Made E G a wa n c w W2 mC FR W:=⟨(hx14.ov YB λk hk=>⟨hk,λhs=>by have:=S10lo k hs;have lD:k=w1.heap.size:=hk;omega⟩).SF hM2.lU,RQ,hM2.k.fresh YB λk e=>by rw[show k=w1.heap.size from e];omega,hM2.ok,hM2.lo,hM2.w⟩;have o13':=o13.aK YB λe=>by have e':w.heap.size=w1.heap.size:=e;omega
 refine bJ (l:=[.slice,.slice,.slice]) g (GJ (g:=g) o13') (bJ (l:=IX) (xQ c) (o14.holds λj v hj=>by rw[pN];exact hj) ?_);exact hQ g G c n E a wa W2 mC FR W ⟨hg.nd.len,hg.ed.len⟩ ok IL hM3 aB gF
theorem ev_row{g:Nat}{ev:RR}{sl:Sl}{w:aH}{P:BS}(o:cW w g YR (Uc (ev,sl)))(hr:Rd w sl 1 eU ev.Jw)(hs:∀b,sl.b=some b->P b.block/\b.block<w.heap.size)(hg:P g):RowE P w ⟨some ⟨g,0,none⟩,1,1⟩ [ev]:=
 ⟨[(ev,sl)],rfl,(dQ.new qd [(ev,sl)] (by simpa using o) (by simp[maxLen])).rd qd,λb hb=>by cases hb;exact⟨hg,o.lt⟩,λx hx=>by rw[uG.1 hx];exact⟨hr,hs⟩⟩
theorem DoR.one{G:Gr}{W:oW}{ev:RR}{W':oW}{hs:List yW}(h:DoR G W [ev] W' hs):yo G W ev W' hs:=by
 generalize hl:[ev]=l at h;cases h with
 |nil=>cases hl
 | @gW PQ W1 tO ev2 W2 FP h1 h2=>
  have fU:PQ=[]:=by
   have:=congrArg List.length hl;simp at this;exact this
  subst fU;have:ev=ev2:=by simpa using hl
  subst this;generalize he:([]:List RR)=l' at h1;cases h1 with
  |nil=>simpa using h2
  |gW a b=>simp at he
theorem ke{G:Gr}{W:oW}{ev:RR}{W':oW}{hs:List yW}{x:dA}{r:List dA}(h:yo G W ev W' hs)(hk:ev.kind=11)(hd:ev.d=0)(hds:0<W.ds.length)(hr:ev.Jw=x::r)(hx:x≠BitVec.ofNat 8 77):W'=W/\hs=[]:=by
 obtain⟨v',ps,YI,rfl⟩:=(h.2.2.2 (.inr hk) ⟨aB,aB⟩).2 hk;rcases YI with⟨hn,_⟩|⟨g,e,Kh,hc⟩
 ·exact absurd ⟨aB,aB⟩ hn
 ·rcases hc with⟨_,rfl,rfl,rfl⟩|⟨hg,_⟩
  ·exact⟨by unfold oW.add;simp,rfl⟩
  ·exact absurd hg.1 (Kh.nf x r hr hx)
theorem Ea{w:aH}{Q:Bool->aH->Prop}(hQ:∀w',aM w w'->Q true w'):qW w Q:=by
 unfold qW;refine cC (cs:=[aD 3,aD 3,aD 5]) λw1 b1 k1 z1=>?_;refine cC (cs:=[aD 1,aD 2,aD 3]) λw2 b2 k2 z2=>?_;refine Oq (iV fH [3,3,5] (bF.kp b1 k2) rfl dL) (iV fH [1,2,3] b2 rfl dL) λg G c n E a wa W0 w3 S3 W hg ok IL hM hn gF=>?_;refine bK λw4 o4 k4 z4=>?_;refine cC (cs:=CW ⟨0,0,0,0,0,0⟩) λw5 b5 k5 z5=>?_;refine eO (vs:=Ah g) (o4.aK k5 id) yD rfl (We g) λw6 o6 m6 _=>?_;refine eO (vs:=CW c) ((b5.1).aK m6 λe=>by have e':w4.heap.size=w3.heap.size:=e;omega) tZ rfl (by intro u hu;simp at hu;rcases hu with rfl|rfl|rfl|rfl|rfl|rfl<;>rfl) λw7 o7 m7 _=>?_;have K7:aM w3 w7:=((k4.tr k5).fresh m6 λk (e:k=w3.heap.size)=>aB).fresh m7 λk (e:k=w4.heap.size)=>aB;have hM7:=hM.aN K7;have hn2:n=2:=aB;subst hn2;refine aF (λh=>by cases h) (λ_=>?_);refine BU CN (aY:=eU) (0:dA) rfl Li aB (oY _) aB aB λw8 v8 k8=>?_;have e200:Int.toNat 200=200:=rfl;rw[e200] at v8 ⊢;obtain⟨s1,tO⟩:∃s1:Sl,s1=⟨some ⟨w7.heap.size,0,none⟩,200,200⟩:=⟨_,rfl⟩;rw[<-tO] at v8 ⊢;have PO:s1.b=some ⟨w7.heap.size,0,none⟩:=by rw[tO]
 have s1l:s1.l=200:=by rw[tO]
 have hM8:=hM7.aN k8;have SF:=hM.lU;have IK:W.ds.length=2:=hM.ok.len.1;have lt3:=hM.x.lt;have z7:=K7.size;obtain⟨sp,tp,lp,dsl0,ds0,hWe,hds0⟩:=hM.w;have GM:W.v.t.aT=[]:=by rw[hWe];rfl
 have RX:W.v.dO=0:=by rw[hWe];rfl
 have n8:∀k,BL s1 k->¬S3 k:=λk ⟨b,hb,e⟩ hs=>by rw[PO] at hb;cases hb;have:=lt3 k hs;have e':k=w7.heap.size:=e;omega
 refine bO (λcc t w9=>∃(i:Nat) (bs:List dA) (S9:BS),i<=5/\cc=5-i/\t=((i:Int),())/\iS (λ_=>False) E.e a wa W w9 S9/\Bs W0 E G S9 w9/\XX G (16*i) 2 W/\dQ w9 Fm 1 eU s1 bs/\bs.length=200/\(∀k,BL s1 k->¬S9 k)/\aM w w9/\(∀k,S9 k->w.heap.size<=k)) 5
  ⟨0,List.replicate 200 0,S3,aB,rfl,rfl,hM8.x,hM8.b,hM.ok.mono aB,v8,List.length_replicate,n8,((k1.tr k2).tr hM.k).tr (K7.tr k8),λk hk=>iF (k1.tr k2).size (hM.lo k hk)⟩ ?_
 rintro cc t w9 ⟨i,bs,S9,hi,rfl,rfl,x9,b9,ok9,v9,KI,n9,kw9,lo9⟩ X hX;dsimp only;refine aJ (λcJ=>?_) (λkT=>?_)
 ·have hi5:i<5:=aB
  refine⟨⟨aB,by rw[s1l];omega⟩,aA PO ?_⟩;have hw:wrap .u8 (i:Int)=(((BitVec.ofNat 8 i).toNat:Nat):Int):=by
   have:i=0\/i=1\/i=2\/i=3\/i=4:=aB;rcases this with rfl|rfl|rfl|rfl|rfl<;>rfl
  rw[hw];refine v9.store Li PO (i:=0) aB (BitVec.ofNat 8 i) (v:=.int .u8 (((BitVec.ofNat 8 i).toNat:Nat):Int)) rfl zd (oneU _) λeV v10 YC _=>?_;have mB:∀k,k=w7.heap.size->BL s1 k:=λk e=>⟨_,PO,e⟩;have yb:aW (BL s1) w9 eV:=YC.mono λk _ hk=>mB k hk;have xN:iS (BL s1) E.e a wa W w9 S9:=x9.SF SF;have rY:iS (λ_=>False) E.e a wa W eV S9:=(xN.ov yb λk hk=>⟨hk,n9 k hk⟩).SF SF;have zb:W0.heap.size<=w7.heap.size:=iF hM.b.k0.size z7;have b10:Bs W0 E G S9 eV:=⟨b9.xm,b9.k0.fresh YC λk hk=>by rw[show k=w7.heap.size from hk];exact zb,b9.lo⟩
  let ev:RR:=⟨11,0,0,0,bs.set 0 (BitVec.ofNat 8 i)⟩
  refine cC (cs:=Uc (ev,s1)) λeE b11 KU z11=>?_;have xK:=rY.kp KU;have lt9:=rY.lt;have v11:=v10.aK KU λ_ _=>id;have nO:RowE (λk=>¬S9 k/\k<eE.heap.size) eE ⟨some ⟨eV.heap.size,0,none⟩,1,1⟩ [ev]:=ev_row b11.1 (v11.rd Li) (λb hb=>⟨⟨n9 _ ⟨b,hb,rfl⟩,v11.lt hb⟩,v11.lt hb⟩) ⟨λhs=>by have:=lt9 _ hs;omega,aB⟩;refine do_i xK (λ_ h=>h.elim) (b10.kp KU) ok9 (by simp;omega) dL (by rw[SF];simp) (by rw[RX];simp) nO (λe he=>by rw[uG.1 he];show(bs.set 0 _).length<=5000;rw[pJ];omega) λrh hs W' eR XZ g12 hdo=>?_;have h1:=hdo.one;have hne0:bs≠[]:=λh=>by rw[h] at KI;simp at KI
  obtain⟨rfl,rfl⟩:=ke h1 rfl rfl aB (x:=BitVec.ofNat 8 i) (r:=bs.tail) (by show bs.set 0 _=_;cases bs with
   |nil=>exact absurd rfl hne0
   |cons y ys=>rfl) (by
    have:i=0\/i=1\/i=2\/i=3\/i=4:=aB;rcases this with rfl|rfl|rfl|rfl|rfl<;>decide)
  have hrl:rh.l=0:=g12.AV.len;refine aF (λh=>by rw[hrl] at h;simp at h) (λ_=>?_);rw[qA i aB];refine hX _ _ _ aB ⟨i+1,bs.set 0 (BitVec.ofNat 8 i),XZ,aB,rfl,rfl,g12.x,(b10.kp KU).up g12.up,g12.ok.mono (by simp;omega),v11.aK g12.up.m λb hb=>n9 _ ⟨b,hb,rfl⟩,by rw[pJ];exact KI,λk hk hs=>?_,((kw9.fresh YC λk hk=>by rw[show k=w7.heap.size from hk];exact iF ((k1.tr k2).tr hM.k).size z7).tr KU).fresh g12.up.m λk hk=>lo9 k hk,λk hk=>(g12.up.s k hk).elim (lo9 k) λh=>iF (iF (iF kw9.size YC.size) KU.size) h⟩;rcases g12.up.s k hs with h|h
  ·exact n9 k hk h
  ·obtain⟨b,hb,e⟩:=hk
   have:=v11.lt hb;omega
 ·refine OU x9 (aF (λ_=>OU x9 ?_) (λh=>by cases h))
  obtain⟨S1,bz,_⟩:=x9.Bt;refine uq bz ok9.v λr eE v11 KU f11=>?_;have hrl:r.l=0:=by rw[v11.len,GM];rfl
  refine aF (λ_=>?_) (λh=>by rw[hrl] at h;simp at h);refine jf (x9.kp KU) (by rw[SF];simp) (by rw[SF];simp) λr2 eR YA KH=>?_;have Po:r2.l=0:=by rw[YA.len,SF];rfl
  rw[Po];exact hQ eR ((kw9.tr KU).tr KH)
abbrev RowEv:=eJ (α:=RR) eU YR 5 Uc RR.Jw
theorem u8v(x:Int):∃b:dA,(Value.int .u8 (wrap .u8 x))=Value.int .u8 (b.toNat:Int):=by
 refine⟨BitVec.ofNat 8 (x%256).toNat,?_⟩;have h0:=Int.emod_nonneg x (show(256:Int)≠0 by omega);rw[IntKind.wrap_u8,BitVec.toNat_ofNat,Nat.mod_eq_of_lt aB];congr 1;omega
theorem aAB{g:GT}{gQ:Int}{x:Int×Int×Int×Unit}{W:aH}{Q:Int×Int×Int×Int×Sl×Unit->aH->Prop}(hdr:0<gQ/\gQ<=16)(hg:g.2.1.l<=100000/\1<=g.1.l/\g.1.l<=100000)
  (hQ:∀(ev:RR) (sl:Sl) w',aM W w'->Rd w' sl 1 eU ev.Jw->(∀b,sl.b=some b->W.heap.size<=b.block/\b.block<w'.heap.size)->ev.Jw.length<=5->Q (Et (ev,sl)) w'):sX g gQ x W Q:=by
 unfold sX;refine bK λw1 o1 k1 z1=>?_;refine bK λw2 o2 k2 z2=>?_;refine bK λw3 o3 k3 z3=>?_;have K3:=(k1.tr k2).tr k3;have o2':=o2.aK k3 id;have RL:=o1.aK (k2.tr k3) id;have dR:∀(ev:RR) (sl:Sl) (w6:aH),aM w3 w6->Rd w6 sl 1 eU ev.Jw->(∀b,sl.b=some b->W.heap.size<=b.block/\b.block<w6.heap.size/\b.block≠w2.heap.size)->ev.Jw.length<=5->
   aI prog YR ⟨w2.heap.size,0,none⟩ (Value.agg #[aD ev.kind,aD ev.d,aD ev.n,aD ev.m,.slice sl.b sl.l sl.c]) w6 λw7=>eY kEv w7 ⟨w2.heap.size,0,none⟩ λt=>Q (t.1,t.2.1,t.2.2.1,t.2.2.2.1,t.2.2.2.2.1,()) w7:=by
  intro ev sl w6 k6 hr hb hl;refine eO (vs:=Uc (ev,sl)) (o3.aK k6 id) Hx rfl (oneEv _) λw7 o7 m7 _=>?_;refine bJ (l:=kEv) (Et (ev,sl)) (o7.holds λj v hj=>by rw[pN];exact hj) ?_;refine hQ ev sl w7 ((K3.tr k6).fresh m7 λk (e:k=w2.heap.size)=>aB) (hr.aK m7 fI λb bW e=>(hb b bW).2.2 e) (λb bW=>⟨(hb b bW).1,mD (hb b bW).2.1 m7.size⟩) hl
 have Fe:∀(k d n m:Int) (w6:aH),aM w3 w6->aI prog YR ⟨w2.heap.size,0,none⟩ (Value.agg #[aD k,aD d,aD n,aD m,.slice none 0 0]) w6 λw7=>eY kEv w7 ⟨w2.heap.size,0,none⟩ λt=>Q (t.1,t.2.1,t.2.2.1,t.2.2.2.1,t.2.2.2.2.1,()) w7:=
  λk d n m w6 k6=>dR ⟨k,d,n,m,[]⟩ bD w6 k6 (Rd.nil _ _ _) (λb hb=>by cases hb) (iG _)
 have c2:∀{k:Nat} {v:Value} {w6:aH},([aD x.1,aD x.2.1,aD x.2.2.1])[k]? =some v->aM w3 w6->w6.cell? ((⟨w1.heap.size,0,none⟩:Addr).add k)=some v:=λhk k6=>cM (o2'.aK k6 id) hk;have c1:∀{w6:aH},aM w3 w6->w6.cell? ((⟨W.heap.size,0,none⟩:Addr).add 1)=some (.slice g.2.1.b g.2.1.l g.2.1.c)/\w6.cell? ((⟨W.heap.size,0,none⟩:Addr).add 0)=some (.slice g.1.b g.1.l g.1.c):=λk6=>⟨cM (RL.aK k6 id) rfl,cM (RL.aK k6 id) rfl⟩;have r3:=aW.refl (λ_=>False) w3;refine⟨aB,aE (k:=.i) x.1 (c2 rfl r3) (OV hdr.1 aB λx2 a2 b2=>?_)⟩;refine⟨aB,aE (k:=.i) x.2.2.1 (c2 rfl r3) (OV aB aB λx4 a4 b4=>?_)⟩;intro J1 KJ;have j1:∀w6,aM w3 w6->J1 () w6:=λw6 k6=>by
  apply KJ;refine⟨aB,aF (λ_=>Fe 10 x2 0 0 w6 k6) (λ_=>⟨aB,aB,aB,?_⟩)⟩;obtain⟨p,hp⟩:=u8v (Int.tmod x4 4);obtain⟨q,hq⟩:=u8v (Int.tmod (aQ (Int.tdiv x4 4)) 3);rw[hp,hq];refine cC (cs:=[.int .u8 77,.int .u8 3,.int .u8 (p.toNat:Int),.int .u8 0,.int .u8 (q.toNat:Int)]) λw8 b8 k8 z8=>?_;have z6:=k6.size;refine dR ⟨11,x2,0,0,[BitVec.ofNat 8 77,BitVec.ofNat 8 3,p,BitVec.ofNat 8 0,q]⟩ ⟨some ⟨w6.heap.size,0,none⟩,5,5⟩ w8 (k6.tr k8) (iV Li [BitVec.ofNat 8 77,BitVec.ofNat 8 3,p,BitVec.ofNat 8 0,q] b8 rfl dL) (λb hb=>by cases hb;exact⟨by show W.heap.size<=w6.heap.size;omega,by show w6.heap.size<w8.heap.size;omega,by show w6.heap.size≠w2.heap.size;omega⟩) dL
 refine⟨aB,aE (k:=.i) x.2.1 (c2 rfl r3) (OV aB aB λx6 a6 b6=>?_)⟩;have Ke:aQ ((g.2.1.l:Int)+1)=(g.2.1.l:Int)+1:=gM aB aB;have Ul:aQ ((g.2.1.l:Int)+2)=(g.2.1.l:Int)+2:=gM aB aB;intro J2 En;have j2:∀b w6,aM w3 w6->J2 (b,()) w6:=λb w6 k6=>by
  apply En;refine aF (λ_=>⟨aB,Fe _ _ _ _ _ k6⟩) (λ_=>aF (λ_=>⟨aB,Fe _ _ _ _ _ k6⟩) (λ_=>aF (λ_=>⟨aB,Fe _ _ _ _ _ k6⟩) (λ_=>?_)));intro J3 hJ3;have j3:∀b,J3 (b,()) w6:=λb=>by
   apply hJ3;refine aF (λ_=>Fe _ _ _ _ _ k6) (λ_=>aF (λ_=>aE (k:=.slice) g.2.1 (c1 k6).1 ⟨by rw[Ke];omega,aB,Fe _ _ _ _ _ k6⟩) (λ_=>aF (λ_=>aE (k:=.slice) g.2.1 (c1 k6).1 ⟨by rw[Ke];omega,Fe _ _ _ _ _ k6⟩) (λ_=>?_)));intro J4 hJ4;have j4:∀b,J4 (b,()) w6:=λb=>by
    apply hJ4;have k6d:=k6.tr (bN w6);refine aF (λ_=>aE (k:=.slice) g.2.1 (c1 k6d).1 ⟨by rw[Ke];omega,aB,aE (k:=.slice) g.1 (c1 k6d).2 ⟨aB,Fe _ _ _ _ _ k6d⟩⟩) (λ_=>aF (λ_=>aE (k:=.slice) g.2.1 (c1 k6).1 ⟨by rw[Ul];omega,Fe _ _ _ _ _ k6⟩) (λ_=>?_));exact aF (λ_=>aF (λ_=>Fe _ _ _ _ _ k6) (λ_=>j1 _ k6)) (λ_=>aF (λ_=>Fe _ _ _ _ _ k6) (λ_=>j1 _ k6))
   exact aF (λ_=>j4 _) (λ_=>j4 _)
  exact aF (λ_=>j3 _) (λ_=>j3 _)
 exact aF (λ_=>j2 _ _ r3) (λ_=>aF (λ_=>j2 _ _ r3) (λ_=>aF (λ_=>j2 _ _ r3) (λ_=>j2 _ _ r3)))
theorem Play_i{g:GT}{gQ:Int}{l:Sl}{xs:List R3}{W:aH}{Q:Sl->aH->Prop}(hdr:0<gQ/\gQ<=16)(hg:g.2.1.l<=100000/\1<=g.1.l/\g.1.l<=100000)(hl:Rd W l 3 cu xs)(Ae:xs.length<=1000)
  (hQ:∀r PQ w',RowEv W.heap.size (λ_=>False) w' r PQ->(∀ev∈PQ,ev.Jw.length<=5)->PQ.length=xs.length->aM W w'->Q r w'):zR g gQ l W Q:=by
 unfold zR;refine bK λw1 o1 k1 z1=>?_;have ll:=hl.len;refine bO (λc t w2=>∃(i:Nat) (r:Sl) (PQ:List RR),i<=xs.length/\c=xs.length-i/\t=(r,(i:Int),())/\RowEv W.heap.size (λ_=>False) w2 r PQ/\PQ.length=i/\(∀ev∈PQ,ev.Jw.length<=5)/\aM W w2/\cW w2 W.heap.size gG [.slice g.1.b g.1.l g.1.c,.slice g.2.1.b g.2.1.l g.2.1.c,.slice g.2.2.1.b g.2.2.1.l g.2.2.1.c]/\w1.heap.size<=w2.heap.size/\(∀b,r.b=some b->b.block≠W.heap.size)) xs.length
  ⟨0,bD,[],iG _,rfl,rfl,eJ.nil,rfl,(λev he=>by cases he),k1,o1,iT _,λb hb=>by cases hb⟩ ?_
 rintro c t w2 ⟨i,r,PQ,hi,rfl,rfl,nO,hel,her,kw,og,zw,Kv⟩ X hX;dsimp only;refine aJ (λcJ=>?_) (λkT=>?_)
 ·have dJ:i<xs.length:=aB
  have d2:=bN w2;obtain⟨b,hb,hh⟩:=(hl.aK (kw.tr d2) (λx=>by simp) λ_ _=>id).get i _ (gS dJ);refine bJ (l:=[.slice,.slice,.slice]) g (GJ (g:=g) (og.aK d2 id)) ⟨aB,aA hb ?_⟩;rw[kE];refine bJ (l:=[.i,.i,.i]) (xs[i].1,xs[i].2.1,xs[i].2.2,()) hh ?_;refine aAB (g:=g) hdr hg λev sl w3 k3 hr3 La hl3=>?_;have K3:=d2.tr k3;have z3:=K3.size;refine eJ.pj Ze qd oneEv aB (nO.kp K3) aB aB (λk h=>h.elim) ev (sl:=sl) hr3 (λb hb=>⟨?_,id,(La b hb).2,λb' bW=>?_⟩) λr' w5 QL m5 hr5=>?_
  ·have:=(La b hb).1
   have e:w2.drew.heap.size=w2.heap.size:=rfl;omega
  ·have h1:=(La b hb).1
   have h2:=nO.lt bW;have e:w2.drew.heap.size=w2.heap.size:=rfl;omega
  ·rw[qA i aB]
   refine hX _ _ _ aB ⟨i+1,r',PQ++[ev],dJ,rfl,rfl,QL,by simp[hel],?_,(kw.tr K3).fresh m5 ?_,(og.aK K3 id).aK m5 ?_,?_,?_⟩
   ·intro e he
    rcases jK.1 he with he|he
    ·exact her e he
    ·rw[uG.1 he];exact hl3
   ·rintro k ⟨b,bW,rfl⟩
    exact((nO.kp K3).BK _ ⟨b,bW,rfl⟩).1
   ·rintro⟨b,bW,e⟩
    exact Kv b bW e.symm
   ·have:=m5.size;omega
   ·intro b bW
    rcases hr5 b bW with⟨a,ha,e⟩|h
    ·rw[e];exact Kv a ha
    ·omega
 ·exact hQ r PQ w2 nO her aB kw
theorem zt{c:yX}{n:Nat}(ok:c.Ok)(hn:n<=4):c.kV*(2*c.cO+2)<=544/\n*(2*c.cO+1)<=132:=by
 have h1:=ok.kV.2;have h2:=ok.cO.2;have h3:2*c.cO+2<=34:=aB;have h4:2*c.cO+1<=33:=aB;exact⟨EX h1 h3,EX hn h4⟩
theorem Xe{l:List dG}{j:Nat}(h:j<l.length):(l.map λe=>(e.aL:Int))[j]? =some (l[j].aL:Int):=by rw[mG,gS h];rfl
theorem do_row{N:BS}{W0 w:aH}{S:BS}{a wa n i:Nat}{W:oW}{E:uL}{G:Gr}{B:Int}{s1:Sl}{PQ:List RR}{Q:Sl->aH->Prop}(h:iS N E.e a wa W w S)(hN:∀k,N k->k<w.heap.size)(hb:Bs W0 E G S w)(ok:XX G B n W)(hB:B+16<=1000000000)(KI:W.lU.length+2000<=800000)(RX:W.v.dO+1<=1000000000)
  (hr:vX eU 5 Uc RR.Jw (λk=>¬S k) w s1 PQ) (hi:i<PQ.length) (hl:∀ev∈PQ,ev.Jw.length<=5000)
  (hQ:∀rh hs W' w1 w' S',aM w w1->DoO N G B n E.e a wa W w1 S rh hs 1 W' w' S'->yo G W PQ[i] W' hs->Q rh w'):
  aC s1.b λa3=>eY [.i,.i,.i,.i,.slice] w (a3.add (i*5)) λ(t5:Int×Int×Int×Int×Sl×Unit)=>
   aG w #[aD t5.1,aD t5.2.1,aD t5.2.2.1,aD t5.2.2.2.1,Value.slice t5.2.2.2.2.1.b t5.2.2.2.2.1.l t5.2.2.2.2.1.c] YR λa4 eR=>OJ (some ⟨wa,0,none⟩) ⟨(some a4),1,1⟩ eR Q:=by
 have lt:=h.lt;obtain⟨b,sl,YE,hh,AV,LH⟩:=hr.get (gS hi);refine aA YE (bJ (l:=kEv) (Et (PQ[i],sl)) hh ?_);refine cC (cs:=Uc (PQ[i],sl)) λw1 b1 k1 z1=>?_;have z1':=k1.size;refine do_i (h.kp k1) (λk hk=>mD (hN k hk) z1') (hb.kp k1) ok (by simp;omega) dL (by simp;omega) (by simp;omega) (ev_row (P:=λk=>¬S k/\k<w1.heap.size) b1.1 (AV.aK k1 fI λ_ _=>id) (λb hb=>⟨⟨(LH b hb).1,mD (LH b hb).2 z1'⟩,mD (LH b hb).2 z1'⟩) ⟨λhs=>by have:=lt _ hs;omega,aB⟩) (λe he=>by rw[uG.1 he];exact hl _ (nE hi)) λrh hs W' w' S' g hdo=>?_;exact hQ rh hs W' w1 w' S' k1 g hdo.one
set_option maxHeartbeats 1000000 in
theorem Zi{l cQ JI:Sl}{xs cs:List Int}{es:List R3}{gQ:Int}{W:aH}{Q:Bool->aH->Prop}(hl:Rd W l 1 eI xs)(hc:Rd W cQ 1 eI cs)(he:Rd W JI 3 cu es)(hQ:∀w',aM W w'->Q true w'):sV l cQ gQ JI W Q:=by
 unfold sV;have hel:=he.len;refine aJ (λ_=>Ea hQ) (λ_=>aJ (λ_=>Ea hQ) (λ_=>aJ (λ_=>Ea hQ) (λh120=>?_)));refine Oq hl hc λg G c n E a wa W0 w4 S4 Wd hg ok IL hM hn gF=>?_;refine bK λw5 o5 k5 z5=>?_;refine cC (cs:=CW ⟨0,0,0,0,0,0⟩) λw6 b6 k6 z6=>?_;refine eO (vs:=Ah g) (o5.aK k6 id) yD rfl (We g) λw7 o7 m7 _=>?_;refine eO (vs:=CW c) ((b6.1).aK m7 λe=>by have e':w5.heap.size=w4.heap.size:=e;omega) tZ rfl (by intro u hu;simp at hu;rcases hu with rfl|rfl|rfl|rfl|rfl|rfl<;>rfl) λw8 o8 m8 _=>?_;have K8:aM w4 w8:=((k5.tr k6).fresh m7 λk (e:k=w4.heap.size)=>aB).fresh m8 λk (e:k=w5.heap.size)=>aB;have o7':=o7.aK m8 λe=>by have e':w4.heap.size=w5.heap.size:=e;omega
 refine aF (λh=>by cases h) (λ_=>?_);refine bJ (l:=[.slice,.slice,.slice]) g (GJ (g:=g) o7') ?_;have hm1:=ok.m1;have hn1:=ok.n1;have KW8:=hM.k.tr K8;refine Play_i (g:=g) ⟨aB,aB⟩ ⟨aB,aB,aB⟩ (he.aK KW8 (λx=>by simp) λ_ _=>id) aB λs1 PQ w9 nO her hevl k9=>?_;have hx9:=(hM.x.kp K8).kp k9;have lt4:=hM.x.lt;have o8':=o8.aK k9 id;have ql:vX eU 5 Uc RR.Jw (λk=>¬S4 k) w9 s1 PQ:=(nO.rd qd).wk λk hk _ hs=>by have:=lt4 k hs;have:=hk.1;omega
 have IM:s1.l=PQ.length:=nO.len;obtain⟨q1,q2⟩:=zt (n:=n) IL aB;have SF:=hM.lU;obtain⟨sp,tp,lp,dsl0,ds0,hWe,hds0⟩:=hM.w;have hcfg0:Wd.v.cQ=c:=by rw[hWe];rfl
 have hnow0:Wd.v.dO=0:=by rw[hWe];rfl
 have hMU:BJ c n=c.kV*(2*c.cO+2)+n*(2*c.cO+1):=rfl;have hsess:=IL.kV;have CV:=IL.cO;refine bO (λcc t w=>∃(i:Nat) (Wi:oW) (S:BS),i<=PQ.length/\cc=PQ.length-i/\t=((i:Int),())/\iS (λ_=>False) E.e a wa Wi w S/\Bs W0 E G S w/\XX G (16*i) n Wi/\Wi.lU.length<=i*700/\Wi.v.dO<=i/\Wi.v.cQ=c/\vX eU 5 Uc RR.Jw (λk=>¬S k) w s1 PQ/\cW w w5.heap.size uZ (CW c)/\¬S w5.heap.size/\aM W w/\(∀k,S k->W.heap.size<=k)) PQ.length
  ⟨0,Wd,S4,iG _,rfl,rfl,hx9,(hM.b.kp K8).kp k9,hM.ok.mono aB,by rw[SF];simp,by rw[hnow0];omega,hcfg0,ql,o8',λhs=>by have:=lt4 _ hs;have:=k5.size;omega,KW8.tr k9,hM.lo⟩ ?_
 rintro cc t w ⟨i,Wi,S,hi,rfl,rfl,hx,hb,kH,hbag,RX,hcfg,hrw,oc,nc,kW,YD⟩ X hX;dsimp only;refine aJ (λcJ=>?_) (λkT=>Ea λw' k'=>hQ w' (kW.tr k'));have dJ:i<PQ.length:=aB;refine jf hx aB (λu hu=>(kH.lU u hu).1) λs2 eE v2 k2=>?_;have FP:s2.l=Wi.lU.length:=v2.len;rw[kE];refine⟨⟨aB,cJ⟩,?_⟩;refine do_row (hx.kp k2) (λ_ h=>h.elim) (hb.kp k2) kH aB aB aB (hrw.kp Gh k2) dJ (λev hev=>iF (her ev hev) aB) λrh hs W' eR gO S' KH g jW=>?_;have Kw:=k2.tr KH;have oc13:=(oc.aK Kw id).aK g.up.m nc;have hcfg':W'.v.cQ=c:=g.cQ.trans hcfg;refine OU g.x (aF (λh=>by cases h) (λ_=>OU g.x ?_));obtain⟨S1,bz,_⟩:=g.x.Bt;refine uq bz g.ok.v λr gR v16 Ka f16=>?_;have okv:=g.ok.v;have hrl:r.l=W'.v.t.aT.length:=by rw[v16.len,oL]
 have IN:W'.v.t.aT.length<=c.kV:=by have:=okv.t.len;rw[okv.eQ,hcfg'] at this;exact this
 have oc16:=oc13.aK Ka id;refine aE (k:=.i) (c.kV:Int) (cM oc16 rfl) (aJ (λh=>aB) (λ_=>?_));have hnext:∀lE,aM gR lE->X ((aQ ((i:Int)+1)),()) lE:=λlE Tt=>by
  rw[qA i aB];have K18:=Ka.tr Tt;have fU:=g.len;rw[hcfg] at fU;have hnw:=g.dO;refine hX _ _ _ aB ⟨i+1,W',S',dJ,rfl,rfl,g.x.kp K18,((hb.kp Kw).up g.up).kp K18,g.ok.mono aB,aB,aB,hcfg',?_,oc13.aK K18 id,λhs=>?_,((kW.tr Kw).fresh g.up.m YD).tr K18,λk hk=>?_⟩
  ·exact((hrw.kp Gh Kw).up Gh g.up).kp Gh K18
  ·rcases g.up.s _ hs with h|h
   ·exact nc h
   ·have:=oc.lt;have:=Kw.size;omega
  ·rcases g.up.s _ hk with h|h
   ·exact YD k h
   ·have:=kW.size;have:=Kw.size;omega
 refine bO (λcc t iZ=>∃(j:Nat),j<=W'.v.t.aT.length/\cc=W'.v.t.aT.length-j/\t=((j:Int),())/\aM gR iZ) W'.v.t.aT.length
  ⟨0,iG _,rfl,rfl,aW.refl _ _⟩ ?_
 rintro cc t iZ ⟨j,hj,rfl,rfl,Jz⟩ X2 hX2;dsimp only;have d17:=Jz.tr (bN iZ);have rdL:=(v16.rd fH).aK d17 cR λ_ _=>id;refine aJ (λRY=>?_) (λUz=>?_)
 ·have uE:j<W'.v.t.aT.length:=aB
  obtain⟨b,LH,cb⟩:=cF (k:=.i) (e:=λx=>x) rdL (i:=j) (x:=(W'.v.t.aT[j].aL:Int)) (Xe uE);have hp:=g.ok.aT _ (nE uE);rw[kE];have nx:X2 ((aQ ((j:Int)+1)),()) iZ.drew:=by
   rw[qA j aB];exact hX2 _ _ _ aB ⟨j+1,uE,rfl,rfl,d17⟩
  refine⟨⟨aB,RY⟩,aA LH (aE (k:=.i) (W'.v.t.aT[j].aL:Int) cb (aJ (λh=>aB) (λ_=>?_)))⟩;refine⟨⟨aB,RY⟩,aA LH (aE (k:=.i) (W'.v.t.aT[j].aL:Int) cb (aJ (λh=>aB) (λ_=>?_)))⟩;refine aJ (λwu=>?_) (λ_=>nx);obtain⟨k,rfl⟩:∃k,j=k+1:=⟨j-1,aB⟩;have lD:k<W'.v.t.aT.length:=aB;rw[show aQ (((k+1:Nat):Int)-1)=(k:Int) by rw[gM aB aB];omega,kE];obtain⟨b',hbb',cb'⟩:=cF (k:=.i) (e:=λx=>x) rdL (i:=k) (x:=(W'.v.t.aT[k].aL:Int)) (Xe lD);have hs:=Qc.1 okv.t.rP k (k+1) lD uE aB;refine⟨⟨aB,aB⟩,aA hbb' (aE (k:=.i) (W'.v.t.aT[k].aL:Int) cb' ⟨⟨aB,RY⟩,aA LH (aE (k:=.i) (W'.v.t.aT[k+1].aL:Int) cb (aJ (λh=>aB) (λ_=>nx)))⟩)⟩
 ·have oc17:=oc16.aK d17 id
  refine aE (k:=.i) (c.kV:Int) (cM oc17 rfl) (aE (k:=.i) (c.cO:Int) (cM oc17 rfl) (aE (k:=.i) (c.cO:Int) (cM oc17 rfl) ?_));have fU:=g.len;rw[hcfg] at fU;refine jf (g.x.kp (Ka.tr d17)) aB (λu hu=>(g.ok.lU u hu).1) λs5 lE v5 k5=>?_;have hs5:s5.l=W'.lU.length:=v5.len;have oc18:=oc17.aK k5 id;refine⟨cM oc18 rfl,cM oc18 rfl,cM oc18 rfl,?_⟩;have e1:aQ ((c.kV:Int)*aQ (aQ ((2:Int)*(c.cO:Int))+2))=((c.kV*(2*c.cO+2):Nat):Int):=by
   rw[gM (n:=(2:Int)*(c.cO:Int)) aB aB,gM (n:=(2:Int)*(c.cO:Int)+2) aB aB];have:(c.kV:Int)*((2:Int)*(c.cO:Int)+2)=((c.kV*(2*c.cO+2):Nat):Int):=by push_cast;rfl
   rw[this,gM aB aB]
  have e2:aQ ((n:Int)*aQ (aQ ((2:Int)*(c.cO:Int))+1))=((n*(2*c.cO+1):Nat):Int):=by
   rw[gM (n:=(2:Int)*(c.cO:Int)) aB aB,gM (n:=(2:Int)*(c.cO:Int)+1) aB aB];have:(n:Int)*((2:Int)*(c.cO:Int)+1)=((n*(2*c.cO+1):Nat):Int):=by push_cast;rfl
   rw[this,gM aB aB]
  rw[e1,e2,hs5,FP];refine aJ (λh=>?_) (λ_=>hnext _ (d17.tr k5));rw[gM aB aB,gM aB aB] at h;omega
end Go.Proofs.YtihggjgakbgomaaGreat
namespace Go.Proofs.YtihggjgakbgomaaGreat
open Go Go.Den Go.ChangeShapes Go.WideShapes Go.ChangeAt Go.RowKit
open Tryz (prog)
theorem gN:ownKnob prog.godebug=none:=iA
theorem laid:laidOutB prog=true:=iA
theorem call_of{g:FuncId}{T:Tr}(hS:oS prog g T){args:List Value}{W:aH}(h:T args W λv w'=>v=.bool true/\Nd W w'):Calls prog g args.toArray W λe w'=>e=.returned (.bool true)/\Nd W w':=
 (hS args W _ h).mono λe w' ⟨v,he,hv,hs⟩=>⟨by rw[he,hv],hs⟩
end Go.Proofs.YtihggjgakbgomaaGreat
namespace Go.Proofs.YtihggjgakbgomaaGreat
open Go Go.Den Go.ChangeShapes Go.WideShapes Go.ChangeAt Go.RowKit
open Tryz (prog)
def r3Of:List Int->R3
 | [x,y,z]=>(x,y,z)
 |_=>(0,0,0)
theorem r3Of_enc{r:List Int}(h:r.length=3):cu (r3Of r)=r.map (Value.int .i64):=by
 match r,h with
 | [x,y,z],_=>rfl
def i1Of:List Int->Int
 | [x]=>x
 |_=>0
theorem i1Of_enc{r:List Int}(h:r.length=1):eI (i1Of r)=r.map (Value.int .i64):=by
 match r,h with
 | [x],_=>rfl
set_option maxRecDepth 100000 in
theorem arg_r3{H:Type}{aY:TypeId×Value->H}{W:aH}{t b:Nat}{v:Value}{d:DataW H}{ps:List MemPlace}(ht:prog.underlying t=some (.slice tArr3))(Qe:Value.okWide prog W .any b t v)(h:DataW.Trod aY prog W 0 (λ_=>true) true t v d ps):
  ∃(s:Sl) (xs:List R3),v=.slice s.b s.l s.c/\Rd W s 3 cu xs:=by
 obtain⟨s,dW,rfl,hr,hl⟩:=Xs (m:=3) ht iA iA Qe h;exact⟨s,dW.map r3Of,rfl,hr.map r3Of λr hr=>r3Of_enc (hl r hr)⟩
set_option maxRecDepth 100000 in
theorem arg_is{H:Type}{aY:TypeId×Value->H}{W:aH}{t b:Nat}{v:Value}{d:DataW H}{ps:List MemPlace}(ht:prog.underlying t=some (.slice cY))(Qe:Value.okWide prog W .any b t v)(h:DataW.Trod aY prog W 0 (λ_=>true) true t v d ps):
  ∃(s:Sl) (xs:List Int),v=.slice s.b s.l s.c/\Rd W s 1 eI xs:=by
 obtain⟨s,dW,rfl,hr,hl⟩:=Xs (m:=1) ht iA iA Qe h;exact⟨s,dW.map i1Of,rfl,hr.map i1Of λr hr=>i1Of_enc (hl r hr)⟩
end Go.Proofs.YtihggjgakbgomaaGreat
namespace Go.Proofs.YtihggjgakbgomaaGreat
open Go Go.Den Go.ChangeShapes Go.WideShapes Go.ChangeAt Go.RowKit

end Go.Proofs.YtihggjgakbgomaaGreat
