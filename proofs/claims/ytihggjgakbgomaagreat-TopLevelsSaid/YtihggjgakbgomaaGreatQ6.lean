import Derived.Test.YtihggjgakbgomaaGreatA1
import Derived.Test.YtihggjgakbgomaaGreatQ4
import Derived.Test.YtihggjgakbgomaaGreatQ5
import Derived.Test.YtihggjgakbgomaaGreatF1
import Derived.Test.YtihggjgakbgomaaGreatQ2
import Derived.Test.YtihggjgakbgomaaGreatQ1
import Derived.Test.YtihggjgakbgomaaGreatQ3
import Derived.Test.YtihggjgakbgomaaGreatA2
import Derived.Test.YtihggjgakbgomaaGreatA3
namespace Go.Proofs.YtihggjgakbgomaaGreat
open Go Go.Den
section
theorem mz{w:aH}{a b:Nat}{e e':TypeId}{cs ds:List Value}(o:cU w a e cs)(o':cU w b e' ds)(gK:e≠e'):a≠b:=λh=>by
 subst h;have h1:w.heap[a]? =some (.cells cs.toArray e (0,0)):=o;have h2:w.heap[a]? =some (.cells ds.toArray e' (0,0)):=o';rw[h1] at h2;cases h2;exact gK rfl
def Sls(w:aH)(a:Nat)(t:TypeId):Prop:=∃cs,cU w a t cs/\∀v∈cs,∃s:Sl,v=sv s
section
variable{w w':aH}{a:Nat}
variable{G:Gr}(m:aU (λk=>k=a) w w')(o:Sls w a gC)
include m o
end
def Cfb(w:aH)(a:Nat):Prop:=∃T cs,cU w a T cs/\(T=xU\/T=gC)
section
variable{w w':aH}{a:Nat}{G:Gr}(m:aU (λk=>k=a) w w')(o:Cfb w a)
include m o
set_option linter.unusedSectionVars false
theorem ty_ne{s:Sl}(h:Ty w s):∀b,s.b=some b->¬b.block=a:=λb hb e=>by
 obtain⟨T,cs,oo,hT⟩:=o;obtain⟨t,ds,o2,h1,h2⟩:=h b hb;refine mz o2 oo (λet=>?_) e;rcases hT with rfl|rfl
 ·exact h1 et
 ·exact h2 et
theorem JJ{s:Sl}(h:Ty w s):Ty w' s:=λb hb=>by
 have hn:=ty_ne m o h b hb;obtain⟨t,ds,o2,h1⟩:=h b hb;exact⟨t,ds,o2.aK m hn,h1⟩
theorem MK{α:Type}{n:Nat}{aY:α->List Value}{s:Sl}{xs:List α}(h:Rd w s n aY xs)(gK:∀x,aY x≠[])(ht:Ty w s):Rd w' s n aY xs:=h.aK m gK (ty_ne m o ht)
theorem Eo{b:Nat}{e:TypeId}{cs:List Value}(h:cU w b e cs)(h1:e≠xU)(h2:e≠gC):cU w' b e cs:=by
 obtain⟨T,ds,oo,hT⟩:=o;refine h.aK m λeb=>mz h oo (λet=>?_) eb;rcases hT with rfl|rfl
 ·exact h1 et
 ·exact h2 et
theorem za{row first:Sl}{n mm:Nat}{key:Int->Int}(h:ByN w row first n mm key)(h1:Ty w row)(h2:Ty w first):ByN w' row first n mm key:=by
 obtain⟨fs,rs,g1,g2,g3⟩:=h;exact⟨fs,rs,MK m o g1 cI h2,MK m o g2 cI h1,g3⟩
theorem gra_cfg{H:Rw}(h:vM w H G):vM w' H G:=by
 obtain⟨t1,t2,t3,t4,t5,t6,t7⟩:=h.Lf;exact⟨h.ok,Eo m o h.head (by decide) (by decide),⟨MK m o h.val.nd DY t1,MK m o h.val.ed ZE t2,MK m o h.val.bn DY t3⟩,za m o h.out t4 t6,za m o h.LN t5 t7,JJ m o t1,JJ m o t2,JJ m o t3,JJ m o t4,JJ m o t5,JJ m o t6,JJ m o t7⟩
theorem Oj{s:Sl}{dZ:List (List Int)}(h:QU w s dZ)(ht:∀b,s.b=some b->∃cs,cU w b.block yI cs):QU w' s dZ:=by
 obtain⟨ss,h1,h2,h3,h4⟩:=h;have hs:Ty w s:=λb hb=>by obtain⟨cs,o2⟩:=ht b hb;exact⟨yI,cs,o2,by decide,by decide⟩
 refine⟨ss,MK m o h1 eS_ne hs,h2,λi x r hx hr=>MK m o (h3 i x r hx hr) cI (h4 x (lD hx)),λx hx=>JJ m o (h4 x hx)⟩
theorem tur_cfg{t:Mb}(h:sF w t G):sF w' t G:=
 ⟨Eo m o h.head (by decide) (by decide),gra_cfg m o h.IS,Oj m o h.RS λb hb=>h.Lf b (.inl hb),Oj m o h.prv λb hb=>h.Lf b (.inr hb),λb hb=>by obtain⟨cs,oo⟩:=h.Lf b hb;exact⟨cs,Eo m o oo (by decide) (by decide)⟩⟩
theorem lev_cfg{H:Mc}{n:Nat}{A:List bO}{R:List Int}(h:oS w H n A R):oS w' H n A R:=by
 have on:∀{k:Nat} {e:TypeId} {cs:List Value},cU w k e cs->e≠xU->e≠gC->¬k=a:=λh h1 h2 eb=>by
  obtain⟨T,ds,oo,hT⟩:=o;refine mz h oo (λet=>?_) eb;rcases hT with rfl|rfl
  ·exact h1 et
  ·exact h2 et
 refine h.aK m λk hk=>?_;rcases hk with rfl|hk|⟨b,hb,hbk⟩
 ·exact on h.head (by decide) (by decide)
 ·have hn:=h.LM.at_;rcases hk with rfl|rfl|rfl|⟨i,s,b,h1,h2,hbk⟩
  ·exact on hn.head (by decide) (by decide)
  ·exact on hn.sK (by decide) (by decide)
  ·exact on hn.LB (by decide) (by decide)
  ·obtain⟨cs,o2⟩:=Eh (hn.row i s h1) h2;have:=on o2 (by decide) (by decide)
   first|(rw[hbk];exact this)|(rw[<-hbk];exact this)
 ·obtain⟨cs,o2⟩:=Eh h.iZ hb;have:=on o2 (by decide) (by decide)
  first|(rw[hbk];exact this)|(rw[<-hbk];exact this)
theorem eng_cfg{E:qO}(h:zT w E G):zT w' E G:=by
 obtain⟨os,h1,h2⟩:=h.ord;exact⟨Eo m o h.head (by decide) (by decide),tur_cfg m o h.RQ,lev_cfg m o h.lev,⟨os,MK m o h1 cI h.oty,h2⟩,JJ m o h.oty⟩
end
end
open Go.IntKind (wrap)
theorem Bs.chg{W0 w w2:aH}{E:qO}{G:Gr}{S:BS}{g:Nat}(h:Bs W0 E G S w)(m:aU (λk=>k=g) w w2)(o:Cfb W0 g):∃W0',Bs W0' E G S w2/\W0'.heap.size=W0.heap.size:=by
 have hg:g<W0.heap.size:=by obtain⟨T,cs,oo,_⟩:=o;exact oo.lt
 have Al:g<w2.heap.size:=pG hg (iR h.k0.size m.size);obtain⟨ob,YJ⟩:∃ob,w2.heap[g]? =some ob:=⟨_,Array.getElem?_eq_getElem Al⟩
 let W0':aH:={W0 with heap:=W0.heap.setIfInBounds g ob}
 have m0:aU (λk=>k=g) W0 W0':=lZ W0 g ob;have PN:W0'.heap.size=W0.heap.size:=by simp[W0']
 refine⟨W0',⟨eng_cfg m0 o h.uo,⟨m.os.trans h.k0.os,m.tape.trans h.k0.tape,m.output.trans h.k0.output,by rw[PN];exact iR h.k0.size m.size,λk hk _=>?_⟩,λk hk=>by rw[PN];exact h.lo k hk⟩,PN⟩;rw[PN] at hk
 by_cases hkg:k=g
 ·subst hkg;rw[YJ];show _=(W0.heap.setIfInBounds k ob)[k]?;rw[Array.getElem?_setIfInBounds];simp[hk]
 ·rw[m.block k (pG hk h.k0.size) hkg,h.k0.block k hk id];show _=(W0.heap.setIfInBounds g ob)[k]?;rw[Array.getElem?_setIfInBounds,if_neg (λe=>hkg e.symm)]
theorem Made.dO{E:qO}{G:Gr}{a wa n g:Nat}{c:wV}{w0 w1 W0 w' w2:aH}{S':BS}{W:jD}(h:Made E G a wa n c w1 W0 w' S' W)(m:aU (λk=>k=g) w' w2)(o:Cfb W0 g)(hg:g<w1.heap.size)(h0:w0.heap.size<=g)(hk:aL w0 w1):∃W0',Made E G a wa n c w0 W0' w2 S' W/\W0'.heap.size=W0.heap.size:=by
 obtain⟨W0',hb,PN⟩:=h.b.chg m o;have hx:iS (λk=>k=g) E.e a wa W w' S':=h.x.SN h.jU;exact⟨W0',⟨(hx.ov m λk hk=>⟨hk,λhs=>by have:=h.lo k hs;have lT:k=g:=hk;omega⟩).SN h.jU,hb,(hk.tr h.k).fresh m λk e=>by rw[show k=g from e];exact h0,h.ok,λk lT=>iR hk.size (h.lo k lT),h.w⟩,PN⟩
theorem TopMade_i{l dO:Sl}{xs cs:List Int}{tP:Int}{w:aH}{Q:GT->Int×Int×Int×Int×Int×Int×Unit->cR->Int->aH->Prop}(hl:Rd w l 1 eI xs)(hc:Rd w dO 1 eI cs)
  (hQ:∀(g:GT) G c n E a wa W0 w' S' W,(g.1.l=G.n/\g.2.1.l=G.m)->sS G->c.Ok->Made E G a wa n c w W0 w' S' W->1<=n/\n<=4->(n:Int)=1+tP%4->Q g (wS c) (some ⟨wa,0,none⟩) (n:Int) w'):JW l dO tP w Q:=by
 unfold JW;refine bD λw1 o1 k1 z1=>?_;refine cO (cs:=JD ⟨0,0,0,0,0,0⟩) λw2 b2 k2 z2=>?_;have K2:=k1.tr k2;refine Town_i (hl.aK K2 cI λ_ _=>id) λg G w3 hg ok hn k3=>?_;refine Small_i (hc.aK (K2.tr k3) cI λ_ _=>id) λc w4 UM k4=>?_;refine bD λw5 o5 k5 z5=>?_;refine cO (cs:=JD ⟨0,0,0,0,0,0⟩) λw6 b6 k6 z6=>?_;refine eY (vs:=UQ g) (o5.aK k6 id) yY rfl (Xg g) λw7 o7 m7 _=>?_;refine eY (vs:=JD c) ((b6.1).aK m7 λe=>by have e':w5.heap.size=w4.heap.size:=e;omega) yX rfl (by intro u hu;simp at hu;rcases hu with rfl|rfl|rfl|rfl|rfl|rfl<;>rfl) λw8 o8 m8 _=>?_;have o7':=o7.aK m8 λe=>by have e':w4.heap.size=w5.heap.size:=e;omega
 have K8:aL w4 w8:=((k5.tr k6).fresh m7 λk (e:k=w4.heap.size)=>aB).fresh m8 λk (e:k=w5.heap.size)=>aB;refine Ez aB aB ?_;have ui:=Int.emod_nonneg tP (show(4:Int)≠0 by omega);have gd:=Int.emod_lt_of_pos tP (show(0:Int)<4 by omega);obtain⟨n,gK⟩:∃n:Nat,(n:Int)=1+tP%4:=⟨(1+tP%4).toNat,aB⟩;rw[gZ aB aB,<-gK];refine aX (l:=[.slice,.slice,.slice]) g (mJ (g:=g) o7') (aX (l:=JA) (wS c) (o8.holds λj v hj=>by rw[gI];exact hj) ?_);have Kg:=k4.tr K8;have KW:=(k3.tr k4).tr K8;refine NewW_i (g:=g) (hg.aO Kg) ok UM aB λE a wa W0 eZ An W hM kW0=>aF (λh=>by cases h) (λ_=>?_);have KM:=hM.k;have d10:=bY eZ;have hM1:=hM.aO d10;have o7d:=(o7'.aK KM id).aK d10 id;have o8d:=(o8.aK KM id).aK d10 id;refine aX (l:=[.slice,.slice,.slice]) g (mJ (g:=g) o7d) (aX (l:=JA) (wS c) (o8d.holds λj v hj=>by rw[gI];exact hj) ?_);have o1W:cU W0 w.heap.size gC [sv aZ,sv aZ,sv aZ]:=(((o1.aK k2 id).aK KW id).aK kW0 id);have o1x:cU eZ.drew w.heap.size gC [sv aZ,sv aZ,sv aZ]:=((((o1.aK k2 id).aK KW id).aK KM id).aK d10 id);have zz:=KW.size;have z48:=K8.size;have z34:=k4.size;have z3:=k3.size;refine eY (vs:=UQ g) o1x yY rfl (Xg g) λgT o13 iu _=>?_;obtain⟨W1,hM2,xS⟩:=hM1.dO (w0:=w) iu ⟨_,_,o1W,.inr rfl⟩ aB (dL _) (K2.tr KW);refine⟨(o8d.aK iu λe=>by have e':w5.heap.size=w.heap.size:=e;omega).holds λj v hj=>by rw[gI];exact hj,?_⟩;have b2x:cU gT w1.heap.size xU (JD ⟨0,0,0,0,0,0⟩):=((((b2.1).aK KW id).aK KM id).aK d10 id).aK iu λe=>by have e':w1.heap.size=w.heap.size:=e;omega
 have b2W:cU W1 w1.heap.size xU (JD ⟨0,0,0,0,0,0⟩):=by
  have h1:w1.heap.size<W1.heap.size:=by rw[xS];have:=kW0.size;omega
  have:=hM2.b.k0.block w1.heap.size h1 id;unfold cU;rw[<-this];exact b2x
 refine eY (vs:=JD c) b2x yX rfl (by intro u hu;simp at hu;rcases hu with rfl|rfl|rfl|rfl|rfl|rfl<;>rfl) λmL o14 YL _=>?_;obtain⟨W2,PQ,LJ⟩:=hM2.b.chg YL ⟨_,_,b2W,.inl rfl⟩;have hx14:iS (λk=>k=w1.heap.size) E.e a wa W gT An:=hM2.x.SN hM2.jU;have S10lo:∀k,An k->w8.heap.size<=k:=hM.lo;have hM3:Made E G a wa n c w W2 mL An W:=⟨(hx14.ov YL λk hk=>⟨hk,λhs=>by have:=S10lo k hs;have lT:k=w1.heap.size:=hk;omega⟩).SN hM2.jU,PQ,hM2.k.fresh YL λk e=>by rw[show k=w1.heap.size from e];omega,hM2.ok,hM2.lo,hM2.w⟩;have o13':=o13.aK YL λe=>by have e':w.heap.size=w1.heap.size:=e;omega
 refine aX (l:=[.slice,.slice,.slice]) g (mJ (g:=g) o13') (aX (l:=JA) (wS c) (o14.holds λj v hj=>by rw[gI];exact hj) ?_);exact hQ g G c n E a wa W2 mL An W ⟨hg.nd.len,hg.ed.len⟩ ok UM hM3 aB gK
theorem ev_row{g:Nat}{ev:GF}{sl:Sl}{w:aH}{P:BS}(o:cU w g Sb (uq (ev,sl)))(hr:Rd w sl 1 eU ev.Vm)(hs:∀b,sl.b=some b->P b.block/\b.block<w.heap.size)(hg:P g):RowE P w ⟨some ⟨g,0,none⟩,1,1⟩ [ev]:=
 ⟨[(ev,sl)],rfl,(dD.new wh [(ev,sl)] (by simpa using o) (by simp[maxLen])).rd wh,λb hb=>by cases hb;exact⟨hg,o.lt⟩,λx hx=>by rw[oG.1 hx];exact⟨hr,hs⟩⟩
theorem jq.one{G:Gr}{W:jD}{ev:GF}{W':jD}{hs:List qV}(h:jq G W [ev] W' hs):LZ G W ev W' hs:=by
 generalize hl:[ev]=l at h;cases h with
 |nil=>cases hl
 | @gU QF W1 xS ev2 W2 LJ h1 h2=>
  have gD:QF=[]:=by have:=congrArg List.length hl;simp at this;exact this
  subst gD;have:ev=ev2:=by simpa using hl
  subst this;generalize he:([]:List GF)=l' at h1;cases h1 with
  |nil=>simpa using h2
  |gU a b=>simp at he
theorem qj{G:Gr}{W:jD}{ev:GF}{W':jD}{hs:List qV}{x:cG}{r:List cG}(h:LZ G W ev W' hs)(hk:ev.kind=11)(hd:ev.d=0)(YN:0<W.ds.length)(hr:ev.Vm=x::r)(hx:x≠BitVec.ofNat 8 77):W'=W/\hs=[]:=by
 obtain⟨v',ps,YR,rfl⟩:=(h.2.2.2 (.inr hk) ⟨aB,aB⟩).2 hk;rcases YR with⟨hn,_⟩|⟨g,e,Nj,hc⟩
 ·exact absurd ⟨aB,aB⟩ hn
 ·rcases hc with⟨_,rfl,rfl,rfl⟩|⟨hg,_⟩
  ·exact⟨by unfold jD.add;simp,rfl⟩
  ·exact absurd hg.1 (Nj.nf x r hr hx)
theorem Ey{K:jD->GF->Prop}(jB:Xl K)(hK:∀W ev,ev.kind=11->K W ev){w:aH}{Q:Bool->aH->Prop}(hQ:∀w',aL w w'->Q true w'):rL w Q:=by
 unfold rL;refine cO (cs:=[aD 3,aD 3,aD 5]) λw1 b1 k1 z1=>?_;refine cO (cs:=[aD 1,aD 2,aD 3]) λw2 b2 k2 z2=>?_;refine TopMade_i (mO eX [3,3,5] (bG.kp b1 k2) rfl dN) (mO eX [1,2,3] b2 rfl dN) λg G c n E a wa W0 w3 S3 W hg ok UM hM hn gK=>?_;refine bD λw4 o4 k4 z4=>?_;refine cO (cs:=JD ⟨0,0,0,0,0,0⟩) λw5 b5 k5 z5=>?_;refine eY (vs:=UQ g) (o4.aK k5 id) yY rfl (Xg g) λw6 o6 m6 _=>?_;refine eY (vs:=JD c) ((b5.1).aK m6 λe=>by have e':w4.heap.size=w3.heap.size:=e;omega) yX rfl (by intro u hu;simp at hu;rcases hu with rfl|rfl|rfl|rfl|rfl|rfl<;>rfl) λw7 o7 m7 _=>?_;have K7:aL w3 w7:=((k4.tr k5).fresh m6 λk (e:k=w3.heap.size)=>aB).fresh m7 λk (e:k=w4.heap.size)=>aB;have hM7:=hM.aO K7;have hn2:n=2:=aB;subst hn2;refine aF (λh=>by cases h) (λ_=>?_);refine wW CW (aY:=eU) (0:cG) rfl Rc aB (lK _) aB aB λw8 v8 k8=>?_;have e200:Int.toNat 200=200:=rfl;rw[e200] at v8 ⊢;obtain⟨s1,xS⟩:∃s1:Sl,s1=⟨some ⟨w7.heap.size,0,none⟩,200,200⟩:=⟨_,rfl⟩;rw[<-xS] at v8 ⊢;have OC:s1.b=some ⟨w7.heap.size,0,none⟩:=by rw[xS]
 have s1l:s1.l=200:=by rw[xS]
 have hM8:=hM7.aO k8;have z8:w7.heap.size<w8.heap.size:=v8.lt OC;have SN:=hM.jU;have GD:W.ds.length=2:=hM.ok.len.1;have lt3:=hM.x.lt;have z7:=K7.size;obtain⟨sp,tp,lp,dsl0,ds0,hWe,hds0⟩:=hM.w;have WA:W.v.t.bK=[]:=by rw[hWe];rfl
 have Cu:W.v.fR=0:=by rw[hWe];rfl
 have n8:∀k,BL s1 k->¬S3 k:=λk ⟨b,hb,e⟩ hs=>by rw[OC] at hb;cases hb;have:=lt3 k hs;have e':k=w7.heap.size:=e;omega
 refine bL (λcc t w9=>∃(i:Nat) (bs:List cG) (S9:BS),i<=5/\cc=5-i/\t=((i:Int),())/\iS (λ_=>False) E.e a wa W w9 S9/\Bs W0 E G S9 w9/\Am G (16*i) 2 W/\dD w9 Gp 1 eU s1 bs/\bs.length=200/\(∀k,BL s1 k->¬S9 k)/\aL w w9/\(∀k,S9 k->w.heap.size<=k)) 5
  ⟨0,List.replicate 200 0,S3,aB,rfl,rfl,hM8.x,hM8.b,hM.ok.mono aB,v8,List.length_replicate,n8,((k1.tr k2).tr hM.k).tr (K7.tr k8),λk hk=>iR (k1.tr k2).size (hM.lo k hk)⟩ ?_
 rintro cc t w9 ⟨i,bs,S9,hi,rfl,rfl,x9,b9,ok9,v9,FW,n9,kw9,lo9⟩ X hX;dsimp only;refine aJ (λcC=>?_) (λkC=>?_)
 ·have hi5:i<5:=aB;refine⟨⟨aB,by rw[s1l];omega⟩,aA OC ?_⟩;have hw:wrap .u8 (i:Int)=(((BitVec.ofNat 8 i).toNat:Nat):Int):=by
   have:i=0\/i=1\/i=2\/i=3\/i=4:=aB;rcases this with rfl|rfl|rfl|rfl|rfl<;>rfl
  rw[hw];refine v9.store Rc OC (i:=0) aB (BitVec.ofNat 8 i) (v:=.int .u8 (((BitVec.ofNat 8 i).toNat:Nat):Int)) rfl size_Byte (oneU _) λeZ v10 UZ _=>?_;have mB:∀k,k=w7.heap.size->BL s1 k:=λk e=>⟨_,OC,e⟩;have m10':aU (BL s1) w9 eZ:=UZ.mono λk _ hk=>mB k hk;have xN:iS (BL s1) E.e a wa W w9 S9:=x9.SN SN;have sI:iS (λ_=>False) E.e a wa W eZ S9:=(xN.ov m10' λk hk=>⟨hk,n9 k hk⟩).SN SN;have zb:W0.heap.size<=w7.heap.size:=iR hM.b.k0.size z7;have b10:Bs W0 E G S9 eZ:=⟨b9.uo,b9.k0.fresh UZ λk hk=>by rw[show k=w7.heap.size from hk];exact zb,b9.lo⟩
  let ev:GF:=⟨11,0,0,0,bs.set 0 (BitVec.ofNat 8 i)⟩
  refine cO (cs:=uq (ev,s1)) λeN b11 LA z11=>?_;have xQ:=sI.kp LA;have lt9:=sI.lt;have v11:=v10.aK LA λ_ _=>id;have qR:RowE (λk=>¬S9 k/\k<eN.heap.size) eN ⟨some ⟨eZ.heap.size,0,none⟩,1,1⟩ [ev]:=ev_row b11.1 (v11.rd Rc) (λb hb=>⟨⟨n9 _ ⟨b,hb,rfl⟩,v11.lt hb⟩,v11.lt hb⟩) ⟨λhs=>by have:=lt9 _ hs;omega,aB⟩;refine do_i jB (λW1 e he _=>hK _ _ (by rw[oG.1 he])) xQ (λ_ h=>h.elim) (b10.kp LA) ok9 (by simp;omega) dN (by rw[SN];simp) (by rw[Cu];simp) qR (λe he=>by rw[oG.1 he];show(bs.set 0 _).length<=5000;rw[nN];omega) λrh hs W' eE YP g12 hdo=>?_;have h1:=hdo.one;have hne0:bs≠[]:=λh=>by rw[h] at FW;simp at FW
  obtain⟨rfl,rfl⟩:=qj h1 rfl rfl aB (x:=BitVec.ofNat 8 i) (r:=bs.tail) (by show bs.set 0 _=_;cases bs with
   |nil=>exact absurd rfl hne0
   |cons y ys=>rfl) (by
    have:i=0\/i=1\/i=2\/i=3\/i=4:=aB;rcases this with rfl|rfl|rfl|rfl|rfl<;>decide)
  have hrl:rh.l=0:=g12.BC.len;refine aF (λh=>by rw[hrl] at h;simp at h) (λ_=>?_);rw[pP i aB];refine hX _ _ _ aB ⟨i+1,bs.set 0 (BitVec.ofNat 8 i),YP,aB,rfl,rfl,g12.x,(b10.kp LA).up g12.up,g12.ok.mono (by simp;omega),v11.aK g12.up.m λb hb=>n9 _ ⟨b,hb,rfl⟩,by rw[nN];exact FW,λk hk hs=>?_,((kw9.fresh UZ λk hk=>by rw[show k=w7.heap.size from hk];exact iR ((k1.tr k2).tr hM.k).size z7).tr LA).fresh g12.up.m λk hk=>lo9 k hk,λk hk=>(g12.up.s k hk).elim (lo9 k) λh=>iR (iR (iR kw9.size UZ.size) LA.size) h⟩;rcases g12.up.s k hs with h|h
  ·exact n9 k hk h
  ·obtain⟨b,hb,e⟩:=hk;have:=v11.lt hb;omega
 ·refine Po x9 (aF (λ_=>Po x9 ?_) (λh=>by cases h));obtain⟨S1,hS1,_⟩:=x9.Uw;refine VLive_i hS1 ok9.v λr eN v11 LA f11=>?_;have hrl:r.l=0:=by rw[v11.len,WA];rfl
  refine aF (λ_=>?_) (λh=>by rw[hrl] at h;simp at h);refine WBag_i (x9.kp LA) (by rw[SN];simp) (by rw[SN];simp) λr2 eE Ce GA=>?_;have YI:r2.l=0:=by rw[Ce.len,SN];rfl
  rw[YI];exact hQ eE ((kw9.tr LA).tr GA)
theorem clsP_rng(ax ay bx mC:Int):0<=Rq ax ay bx mC/\Rq ax ay bx mC<=8:=by
 unfold Rq
 repeat' split
 all_goals omega
theorem Ou{G:Gr}(ok:sS G):∀(l:List Int) (a:Int),(∀x∈l,G.mH x)->(0<=(G.kF a l).1/\(G.kF a l).1<=9)/\(-1<=(G.kF a l).2.1/\(G.kF a l).2.1<51)/\0<=(G.kF a l).2.2/\(G.kF a l).2.2<=40*l.length
 | [],a,_=>by
  show((0:Int)<=9/\(9:Int)<=9)/\((-1:Int)<=-1/\(-1:Int)<51)/\(0:Int)<=0/\(0:Int)<=40*(0:Nat);omega
 |e::l,a,h=>by
  have he:=h e (ly61 ..);obtain⟨i1,i2,i3⟩:=Ou ok l e λx hx=>h x (VG _ hx);have w1:=ok.w1 he;have hm:=ok.m1;have hb:0<=G.Rt a e/\G.Rt a e<=8:=clsP_rng _ _ _ _;have uK:0<=e/\e<(G.m:Int):=he;rw[Gr.kF,mE]
  split
  ·show(0<=G.Rt a e/\G.Rt a e<=9)/\(-1<=e/\e<51)/\(0:Int)<=0/\(0:Int)<=40*((l.length+1:Nat):Int);omega
  ·show(0<=(G.kF e l).1/\(G.kF e l).1<=9)/\(-1<=(G.kF e l).2.1/\(G.kF e l).2.1<51)/\0<=G.wt e+(G.kF e l).2.2/\G.wt e+(G.kF e l).2.2<=40*((l.length+1:Nat):Int);omega
theorem Ef{k:Int}(h:k=4\/k=6\/k=8):sR (QN k):=by
 rcases h with rfl|rfl|rfl<;>exact⟨by simp[QN],by simp[QN],by simp[QN],by simp[QN],by simp[QN],by simp[QN]⟩
theorem wf_open{a n:Int}(ha:u16 a)(hn:u16 n):sR (GY a n):=
 ⟨by simp,by simpa using ha,by simpa using hn,by simp,by simp,by simp⟩
theorem wf_route{l:List Int}{w:Int}(hl:l.length<=51)(hE:∀e∈l,u16 e)(hw:u40 w):sR (qH l w):=
 ⟨by simp[qH],by simp[qH],by simp[qH],by simp only[qH];rw[if_pos trivial];exact⟨aB,hE⟩,by simpa [qH] using hw,by simp[qH]⟩
theorem wf_next{h:MH}(h1:0<=h.cls/\h.cls<256)(h2:u16 (h.jV+1))(h3:u40 h.oK)(h4:u40 h.left):sR (MD h):=
 ⟨by simp[MD],by simp[MD],by simp[MD],by simp[MD],by simp[MD],by simp only[MD];rw[if_pos trivial];exact⟨h1,h2,h3,h4⟩⟩
def Sm(m:gV):Prop:=sR m/\m.cD.length<=51
theorem hintS_wf{G:Gr}(ok:sS G){p:FX}(hE:∀x∈p.lR,G.mH x)(hl:p.lR.length<=51):∃m,(oE G p).2=[m]/\Sm m:=by
 unfold oE
 split
 ·exact⟨_,rfl,Ef (.inr (.inr rfl)),dE _⟩
 ·obtain⟨h1,h2,h3⟩:=Ou ok p.lR p.pos hE;have h4:=Hl ok hE;refine⟨_,rfl,wf_next ⟨h1.1,?_⟩ ⟨?_,?_⟩ ⟨h3.1,?_⟩ ⟨h4.1,?_⟩,dE _⟩
  ·show(G.kF p.pos p.lR).1<256;omega
  ·show 0<=(G.kF p.pos p.lR).2.1+1;omega
  ·show(G.kF p.pos p.lR).2.1+1<65536;omega
  ·show(G.kF p.pos p.lR).2.2<1099511627776;omega
  ·show G.kQ p.lR<1099511627776;omega
theorem ask_wf{G:Gr}(ok:sS G){c:List Bool}{p:FX}{z:FX×List gV}(h:TA G c p z):z.2=[CO]/\Sm CO\/∃l w m,z.2=[qH l w,m]/\Sm (qH l w)/\Sm m:=by
 obtain⟨l,w,f,r,ha,rfl⟩:=h;obtain⟨f1,f2,f3,f4⟩:=ha.KT ok;unfold Ru;cases f with
 |false=>exact .inl ⟨rfl,Ef (.inr (.inl rfl)),dE _⟩
 |true=>
  have h4:=Hl ok f1;obtain⟨m,hm,sm⟩:=hintS_wf ok (p:={p with lR:=l,dK:=true}) f1 f2;have ua:=ok.m1;refine .inr ⟨l,w,m,?_,⟨wf_route f2 (λe he=>?_) ?_,f2⟩,sm⟩
  ·show qH l w::(oE G {p with lR:=l,dK:=true}).2=_;rw[hm]
  ·have:=f1 e he;have e':0<=e/\e<(G.m:Int):=this;exact⟨e'.1,aB⟩
  ·have hw:=(f3 rfl).2;rw[hw];exact⟨h4.1,aB⟩
theorem Hw{m:gV}(h:Sm m):(kR m).length<=200:=by
 unfold kR;rw[fJ,pH];have:=h.2
 repeat' split
 all_goals simp only[fJ,pH,Ox,RZ]
 all_goals omega
abbrev Wh(aM a:Int):fG:=⟨aM,2,0,a,0,[]⟩
abbrev Ma(aM k nx:Int)(b:List cG):fG:=⟨aM,1,k,nx,0,b⟩
theorem mh{aM a:Int}(hc:u32 aM)(ha:u32 a):Vi (Wh aM a):=⟨.inr (.inl rfl),hc,by simp,by simpa using ha,by simp,by simp⟩
theorem Rx{aM k nx:Int}{b:List cG}(hc:u32 aM)(hk:u32 k)(hn:u32 nx)(hb:b.length<=200):Vi (Ma aM k nx b):=⟨.inl rfl,hc,by simpa using hk,by simpa using hn,by simp,by simp only;rw[if_pos trivial];omega⟩
theorem Je{c:kP}(h1:c.s.iI=false)(h2:c.gY=[])(h3:c.s.n<c.s.dA)(b:List cG):c.push b=([⟨c.aM,1,c.s.next,c.t.next,0,b⟩],⟨c.s.send b,c.aM,c.t,[]⟩,0):=by
 unfold kP.push;rw[if_neg (by rw[h1];simp),if_neg (by rw[h2];simp)];have hp:({c with gY:=c.gY++[b]}:kP).rR=([⟨c.aM,1,c.s.next,c.t.next,0,b⟩],⟨c.s.send b,c.aM,c.t,[]⟩):=by
  show kP.PT c.s c.aM c.t.next c.t (c.gY++[b])=_
  rw[h2];show kP.PT c.s c.aM c.t.next c.t [b]=_
  rw[kP.PT,if_pos ⟨h1,h3⟩];rfl
 rw[hp]
def WB(aM nx:Int):Int->List (List cG)->List fG
 |_,[]=>[]
 |k,b::r=>Ma aM k nx b::WB aM nx (k+1) r
def VR:RU->List (List cG)->RU
 |s,[]=>s
 |s,b::r=>VR (s.send b) r
theorem Bg:∀(bs:List (List cG)) (s:RU),(VR s bs).iI=s.iI/\(VR s bs).dA=s.dA/\(VR s bs).next=s.next+bs.length
 | [],s=>⟨rfl,rfl,by simp[VR]⟩
 |b::r,s=>by
  obtain⟨h1,h2,h3⟩:=Bg r (s.send b);refine⟨h1,h2,?_⟩;show(VR (s.send b) r).next=_
  rw[h3,mE];show s.next+1+(r.length:Int)=_
  omega
theorem Xu:∀(bs:List (List cG)) (s:RU) (aM:Int) (t:Vj),s.iI=false->s.n+bs.length<=s.dA->Cp ⟨s,aM,t,[]⟩ false bs=(WB aM t.next s.next bs,⟨VR s bs,aM,t,[]⟩,false)
 | [],s,aM,t,_,_=>rfl
 |b::r,s,aM,t,h1,h2=>by
  rw[mE] at h2;rw[Cp,Je (c:=⟨s,aM,t,[]⟩) h1 rfl (by show s.n<s.dA;omega)];have ih:=Xu r (s.send b) aM t h1 (by show s.n+1+r.length<=s.dA;omega);show([Ma aM s.next t.next b]++(Cp ⟨s.send b,aM,t,[]⟩ false r).1,(Cp ⟨s.send b,aM,t,[]⟩ false r).2)=_
  rw[ih];rfl
structure Gm(aM nx nt lo:Int)(c:kP):Prop where
 iI:c.s.iI=false
 gY:c.gY=[]
 aM:c.aM=aM
 next:c.s.next=nx
 tn:c.t.next=nt
 tf:∀x,c.t.f x=none
 tw:0<c.t.dA
 IQ:∀x,c.s.IQ x->lo<=x/\x<nx
theorem Gm.ackd{aM nx nt lo a:Int}{c:kP}{s1:RU}(h:Gm aM nx nt lo c)(ha:a<=nx)(hr:AckR c.s a s1)(ok:s1.Ok):s1.iI=false/\s1.next=nx/\∀x,s1.IQ x->a<=x/\x<nx:=by
 obtain⟨h1,h2,h3,h4,h5,h6⟩:=hr;have hn:s1.next=nx:=h2.trans h.next
 refine⟨h3.trans h.iI,hn,λx hx=>?_⟩;have cC:=h6 (by rw[h.next];omega) x hx
 cases hf:s1.f x with
 |none=>have:=ok.IQ x hx;rw[hf] at this;cases this
 |some bs=>have:=(ok.len x bs hf).2.1;omega
theorem Gm.KO{aM nx nt lo a:Int}{c c':kP}{oF:List (List cG)}{gs:List fG}(h:Gm aM nx nt lo c)(ha:a<=nx)(hr:yO c (Wh aM a) oF gs c'):oF=[]/\gs=[]/\Gm aM nx nt a c':=by
 unfold yO at hr;rw[if_neg (by rw[h.iI];simp[h.aM])] at hr;obtain⟨s1,hs,Qk,jg⟩:=hr;rw[if_neg (by show¬(2:Int)=1;omega),h.gY] at jg;obtain⟨rfl,h1,rfl⟩:=jg;obtain⟨g1,g2,g3⟩:=h.ackd ha hs Qk;exact⟨rfl,h1,g1,rfl,h.aM,g2,h.tn,h.tf,h.tw,g3⟩
theorem Gm.data{aM nx nt lo a:Int}{b:List cG}{c c':kP}{oF:List (List cG)}{gs:List fG}(h:Gm aM nx nt lo c)(ha:a<=nx)(hr:yO c (Ma aM nt a b) oF gs c'):oF=[b]/\gs=[Wh aM (nt+1)]/\Gm aM nx (nt+1) a c':=by
 unfold yO at hr;rw[if_neg (by rw[h.iI];simp[h.aM])] at hr;obtain⟨s1,hs,Qk,jg⟩:=hr;rw[if_pos rfl,h.gY] at jg;obtain⟨t1,ht,h1,rfl⟩:=jg;obtain⟨g1,g2,g3⟩:=h.ackd ha hs Qk;obtain⟨e1,e2,e3⟩:=ht.one h.tf h.tn.symm h.tw;have en:t1.next=nt+1:=by rw[e2,h.tn]
 refine⟨e1,?_,g1,rfl,h.aM,g2,en,e3,?_,g3⟩
 ·rw[h1,en,h.aM];rfl
 ·show 0<t1.dA;rw[ht.dA];exact h.tw
theorem chn0_i{dA:Nat}{aM:Int}(hw:1<=dA):Gm aM 0 0 0 (vA dA aM):=⟨rfl,rfl,rfl,rfl,rfl,λ_=>rfl,hw,λ_ h=>h.elim⟩
abbrev dnG(g:fG):wT:=⟨0,false,KR g⟩
abbrev upG(g:fG):wT:=⟨0,true,KR g⟩
theorem pok_dn{gs:List fG}{ps:List Pk}(h:F2 (uv (0:Int)) gs ps):(∀g∈gs,Vi g)->ps.map Qs=gs.map dnG:=by
 induction h with
 |nil=>intro _;rfl
 | @cons g p l m h1 _ ih=>intro hw;rw[Dt,Dt,ih λg hg=>hw g (VG _ hg)];obtain⟨p1,p2⟩:=p;obtain⟨e1,e2,e3⟩:=h1;have e4:=e3 (hw _ (ly61 ..));cases e1;cases e4;rfl
theorem gok_up{gs:List fG}{ds:List (List cG)}(h:F2 GOk gs ds):(∀g∈gs,Vi g)->ds.map (Uv 0)=gs.map upG:=by
 induction h with
 |nil=>intro _;rfl
 | @cons g p l m h1 _ ih=>intro hw;rw[Dt,Dt,ih λg hg=>hw g (VG _ hg)];obtain⟨e2,e3⟩:=h1;have e4:=e3 (hw _ (ly61 ..));cases e4;rfl
section
theorem recv_n{c c':kP}{g:fG}{oF:List (List cG)}{gs:List fG}(ho:c.gY=[])(hr:yO c g oF gs c'):c'.s.n<=c.s.n/\c'.s.dA=c.s.dA:=by
 unfold yO at hr
 split at hr
 ·obtain⟨_,_,rfl⟩:=hr;exact⟨dL _,rfl⟩
 ·obtain⟨s1,hs,_,jg⟩:=hr;have hw:s1.n<=c.s.n/\s1.dA=c.s.dA:=⟨hs.2.2.2.1,hs.1⟩;rw[ho] at jg
  split at jg
  ·obtain⟨t1,_,_,rfl⟩:=jg;exact hw
  ·obtain⟨_,_,rfl⟩:=jg;exact hw
theorem qd{V:iQ}{p:Nat}{c:kP}(h:V.ch p=c):V.oO p c=V:=by
 subst h;have:(λq=>if q=p then V.ch p else V.ch q)=V.ch:=by
  funext q
  by_cases hq:q=p
  ·rw[if_pos hq,hq]
  ·rw[if_neg hq]
 show({V with ch:=λq=>if q=p then V.ch p else V.ch q}:iQ)=V
 rw[this]
theorem setCh_at{V:iQ}{p:Nat}{c:kP}:(V.oO p c).ch p=c:=if_pos rfl
theorem idx0{l:Nat}(h:0<l):Ga 0 l=0:=by
 unfold Ga;rw[Int.zero_tmod,Int.zero_add,Int.tmod_self];rfl
abbrev DX:GF:=⟨1,0,0,0,[]⟩
abbrev Eu(a v:Int):GF:=⟨7,0,v,a,[]⟩
abbrev Sh(e m:Int):GF:=⟨5,0,e,m,[]⟩
section
variable{G:Gr}{W W':jD}{hs:List qV}{u:wT}{cJ:List wT}{d:Nat}
theorem Tj(h:LZ G W DX W' hs)(hb:W.jU=u::cJ):Mf G {W with jU:=cJ} u W' hs:=by
 rcases h.1 (.inl rfl) with⟨h0,_⟩|⟨u',hu,jg⟩
 ·rw[hb] at h0;cases h0
 ·have hi:Ga DX.n W.jU.length=0:=idx0 (by rw[hb];simp);rw[hi] at hu jg;rw[if_neg (show¬(1:Int)=3 by omega),if_neg (show¬(1:Int)=2 by omega)] at jg;rw[hb] at hu;cases hu;have:W.rem 0={W with jU:=cJ}:=by unfold jD.rem;rw[hb];rfl
  rw[this] at jg;exact jg
theorem arr_dn{dv:BD}(h:Mf G W u W' hs)(hu:u.up=false)(hd:u.d=0)(YN:W.ds=[(d,dv)]):∃yF ds ms,Sr dv u.data yF ds ms/\W'=({W with ds:=[(d,yF)]}:jD).add (ds.map (Uv 0))/\hs=ms.map λm=>⟨0,yF.aM,false,m⟩:=by
 unfold Mf at h;rw[if_neg (by rw[hu];simp),hd,YN] at h;rcases h with⟨h1,_⟩|⟨d1,dv1,yF,ds,ms,h1,_,h2,h3,h4⟩
 ·exact absurd ⟨lK _,by simp⟩ h1
 ·have h1':some (d,dv)=some (d1,dv1):=h1;cases h1';exact⟨yF,ds,ms,h2,h3,h4⟩
theorem arr_up(h:Mf G W u W' hs)(hu:u.up=true):∃v' ps,Hd G W.v u.d u.data v' ps hs/\W'=({W with v:=v'}:jD).add (ps.map Qs):=by
 unfold Mf at h;rwa[if_pos hu] at h
theorem Yp{dv yF:BD}{g0:fG}{ds:List (List cG)}{ms:List gV}{p:Nat}{c:kP}(h:Sr dv (KR g0) yF ds ms)(wf:Vi g0)(hl:dv.pQ=true)(hc:g0.aM=dv.aM)(hk:g0.kind≠3)(uj:dv.ch=some (p,c)):
  ∃oF gs c' LO lR dK,yO c g0 oF gs c'/\F2 GOk gs ds/\F2 (λb x=>MDec b x.1 x.2) oF LO/\ms=TI LO/\yF=({dv with ch:=some (p,c')}:BD).No lR dK:=by
 obtain⟨g,e,hg,Gy⟩:=h;obtain⟨rfl,rfl⟩:=hg.ok _ wf rfl;have Ro:Ny dv g 0:=⟨rfl,hl,hc⟩;rcases Gy with⟨hn,_⟩|⟨_,h3,_⟩|⟨_,_,p1,c1,oF,gs,c',LO,lR,dK,h1,h2,_,h4,h5,h6,h7⟩
 ·exact absurd Ro hn
 ·exact absurd h3 hk
 ·rw[uj] at h1;cases h1;exact⟨oF,gs,c',LO,lR,dK,h2,h4,h5,h6,h7⟩
structure Cv(V:iQ)(aM:Int)(L:Nat)(i la j:Int)(d:Nat)(W:jD):Prop where
 ds:∃dv p c,W.ds=[(d,dv)]/\dv.pQ=true/\dv.aM=aM/\dv.ch=some (p,c)/\Gm aM 1 i la c
 v:∃c,W.v=V.oO 0 c/\Gm aM L 1 j c
structure VI(V:iQ)(aM:Int)(en:cY):Prop where
 bK:V.t.bK=[en]
 aN:en.aN=0
 cn:en.aM=aM
 c32:1<=aM/\aM<=1000001
theorem lv{aM:Int}(h:1<=aM/\aM<=1000001):u32 aM:=⟨aB,aB⟩
variable{V:iQ}{aM:Int}{en:cY}{L:Nat}{i la j:Int}
theorem cv_ack(vi:VI V aM en)(h:Cv V aM L i la j d W)(hb:W.jU=dnG (Wh aM 1)::cJ)(ho:LZ G W DX W' hs):Cv V aM L i 1 j d W'/\W'.jU=cJ/\hs=[]:=by
 obtain⟨⟨dv,p,c,YN,hl,Fm,uj,hi⟩,hv⟩:=h;obtain⟨yF,ds,ms,hr,rfl,rfl⟩:=arr_dn (Tj ho hb) rfl rfl YN;obtain⟨oF,gs,c',LO,lR,dK,YI,uf,hdec,rfl,rfl⟩:=Yp hr (mh (lv vi.c32) ⟨aB,aB⟩) hl Fm.symm (by show(2:Int)≠3;omega) uj;obtain⟨rfl,rfl,dJ⟩:=hi.KO (lK 1) YI;cases uf;cases hdec;exact⟨⟨⟨_,p,c',rfl,hl,Fm,rfl,dJ⟩,hv⟩,by simp[jD.add],rfl⟩
theorem cv_data{m:gV}(vi:VI V aM en)(h:Cv V aM L i la j d W)(hi0:0<=i/\i<1000)(hm:Sm m)(hb:W.jU=dnG (Ma aM i 1 (kR m))::cJ)(ho:LZ G W DX W' hs):Cv V aM L (i+1) 1 j d W'/\W'.jU=cJ++[upG (Wh aM (i+1))]/\hs=[⟨0,aM,false,m⟩]:=by
 obtain⟨⟨dv,p,c,YN,hl,Fm,uj,hi⟩,hv⟩:=h;obtain⟨yF,ds,ms,hr,rfl,rfl⟩:=arr_dn (Tj ho hb) rfl rfl YN;have fu:=Hw hm;obtain⟨oF,gs,c',LO,lR,dK,YI,uf,hdec,rfl,rfl⟩:=Yp hr (Rx (lv vi.c32) ⟨aB,aB⟩ ⟨aB,aB⟩ fu) hl Fm.symm (by show(1:Int)≠3;omega) uj;obtain⟨rfl,rfl,dJ⟩:=hi.data (lK 1) YI;have Uz:=gok_up uf λg hg=>by rw[oG.1 hg];exact mh (lv vi.c32) ⟨aB,aB⟩
 cases hdec with
 |cons h1 h2=>
  cases h2;obtain⟨e1,e2⟩:=h1.ok _ hm.1 rfl;refine⟨⟨⟨_,p,c',rfl,hl,Fm,rfl,dJ⟩,hv⟩,?_,?_⟩
  ·show cJ++ds.map (Uv 0)=_;rw[Uz];rfl
  ·unfold TI;rw[IX,if_pos (by rw[e2];rfl)];show [(⟨0,dv.aM,false,Prod.fst _⟩:qV)]=_;rw[e1,Fm]
end
def ly(aM:Int):Nat->Nat->List wT
 |_,0=>[]
 |j,n+1=>upG (Wh aM ((j+1:Nat):Int))::ly aM (j+1) n
theorem Pn(aM:Int):∀n j,ly aM j n++[upG (Wh aM ((j+n+1:Nat):Int))]=ly aM j (n+1)
 |0,j=>rfl
 |n+1,j=>by
  have e:j+(n+1)+1=j+1+n+1:=aB;rw[e];show _::(ly aM (j+1) n++_)=_::ly aM (j+1) (n+1);rw[Pn aM n (j+1)]
theorem Pg{aM nx:Int}:∀{k:Int} (l:List (List cG)),(WB aM nx k l).length=l.length
 |_,[]=>rfl
 |_,_::r=>by show(WB aM nx _ r).length+1=_;rw[Pg r];rfl
structure PhA(V:iQ)(aM:Int)(d:Nat)(ms:List gV)(W:jD):Prop where
 cv:Cv V aM ms.length 0 0 0 d W
 jU:W.jU=dnG (Wh aM 1)::(WB aM 1 0 (ms.map kR)).map dnG
structure PhB(V:iQ)(aM:Int)(d:Nat)(ms:List gV)(i:Nat)(W:jD):Prop where
 le:i<=ms.length
 cv:Cv V aM ms.length i 1 0 d W
 jU:W.jU=(WB aM 1 i ((ms.drop i).map kR)).map dnG++ly aM 0 i
structure PhC(V:iQ)(aM:Int)(d:Nat)(ms:List gV)(j:Nat)(W:jD):Prop where
 le:j<=ms.length
 cv:Cv V aM ms.length ms.length 1 j d W
 jU:W.jU=ly aM j (ms.length-j)
section
variable{G:Gr}{W W':jD}{hs:List qV}{d:Nat}{V:iQ}{aM:Int}{en:cY}{ms:List gV}
theorem PhA.step(vi:VI V aM en)(h:PhA V aM d ms W)(ho:LZ G W DX W' hs):PhB V aM d ms 0 W'/\hs=[]:=by
 obtain⟨h1,h2,h3⟩:=cv_ack vi h.cv h.jU ho;exact⟨⟨dE _,h1,by rw[h2];show _=_++[];rw[uA];rfl⟩,h3⟩
theorem PhB.step{i:Nat}(vi:VI V aM en)(h:PhB V aM d ms i W)(hm:∀m∈ms,Sm m)(hl:ms.length<=10)(hi:i<ms.length)(ho:LZ G W DX W' hs):PhB V aM d ms (i+1) W'/\∃m,ms[i]? =some m/\hs=[⟨0,aM,false,m⟩]:=by
 obtain⟨LK,hcv,Gb⟩:=h;have hd:ms.drop i=ms[i]::ms.drop (i+1):=(List.getElem_cons_drop (h:=hi)).symm;rw[hd,Dt,WB,Dt,List.cons_append] at Gb;obtain⟨h1,h2,h3⟩:=cv_data vi hcv ⟨aB,aB⟩ (hm _ (mX hi)) Gb ho;have e:((i+1:Nat):Int)=(i:Int)+1:=aB;refine⟨⟨hi,?_,?_⟩,ms[i],cM hi,h3⟩
 ·rw[e];exact h1
 ·rw[h2,sL,<-Pn,e,gI,e]
theorem jq.snoc_inv{l:List GF}{ev:GF}(h:jq G W (l++[ev]) W' hs):∃W1 h1 h2,jq G W l W1 h1/\LZ G W1 ev W' h2/\hs=h1++h2:=by
 generalize he:l++[ev]=l' at h;cases h with
 |nil=>exact absurd he dN
 |gU h1 h2=>obtain⟨rfl,h3⟩:=List.append_inj' he rfl;cases h3;exact⟨_,_,_,h1,h2,rfl⟩
theorem jq.two{e1 e2:GF}(h:jq G W [e1,e2] W' hs):∃W1 h1 h2,LZ G W e1 W1 h1/\LZ G W1 e2 W' h2/\hs=h1++h2:=by
 obtain⟨W1,h1,h2,a,b,e⟩:=jq.snoc_inv (l:=[e1]) h;exact⟨W1,h1,h2,a.one,b,e⟩
set_option maxHeartbeats 1000000 in
theorem begin_run(ok:sS G){dv:BD}{a v:Int}(h:jq G W [Eu a v,DX] W' hs)(Gb:W.jU=[])(YN:W.ds=[(d,dv)])(WA:W.v.t.bK=[])(hm:1<=W.v.t.fD)(hgr:W.v.t.grI 0<dv.aM+1)(hcfg:dv.dO.dA=W.v.dO.dA)(PV:3<=W.v.dO.dA)(Fm:0<=dv.aM/\dv.aM<=1000000)(ha:G.mH a)(hv:G.GB v)(ud:∀k,(W.v.lf k).getD (false:Bool)=false):
  ∃z en V,TA G (DU W.v.u) (Rb a v) z/\PhA V (dv.aM+1) d (iU::z.2) W'/\VI V (dv.aM+1) en/\en.lE=W.v.fR/\V.fR=W.v.fR/\V.u=W.v.u/\V.dO=W.v.dO/\V.t.grI 0=dv.aM+1/\V.t.fD=W.v.t.fD/\∀k,(V.lf k).getD (false:Bool)=false:=by
 have ua:=ok.m1;have hn1:=ok.n1;have mU:0<=a/\a<(G.m:Int):=ha;have jZ:0<=v/\v<(G.n:Int):=hv;obtain⟨W1,h1,h2,ho1,Vc,_⟩:=h.two;obtain⟨d1,dv1,yF,ds,hg,vE,rfl,_⟩:=(ho1.2.2.2 (.inl rfl) ⟨lK _,by rw[YN];simp⟩).1 rfl;rw[YN] at hg;have ji:some (d,dv)=some (d1,dv1):=hg;cases ji;unfold ZF at vE;rw[if_pos (show(0<=a/\a<=65535)/\0<=v/\v<=65535 by omega)] at vE;obtain⟨p,b,hb,rfl,uf⟩:=vE;have sm0:Sm (GY a v):=⟨wf_open ⟨mU.1,aB⟩ ⟨jZ.1,aB⟩,dE _⟩;have bR:=hb sm0.1;subst bR;have FW:=Hw sm0;rw[Je (c:=vA dv.dO.dA (dv.aM+1)) rfl rfl (by show 0<dv.dO.dA;omega)] at uf Vc;have c32:1<=dv.aM+1/\dv.aM+1<=1000001:=aB;have Uz:=gok_up uf λg hg=>by
  rw[oG.1 hg];exact Rx (aM:=dv.aM+1) (k:=0) (nx:=0) (lv c32) ⟨aB,aB⟩ ⟨aB,aB⟩ FW
 have hW1:(({W with ds:=W.ds.set (0:Int).toNat (d,(⟨dv.dO,some (p,⟨(snd0 dv.dO.dA).send (kR (GY a v)),dv.aM+1,tkr0 dv.dO.dA,[]⟩),dv.aM+1,true,0,a,[],false⟩:BD))}:jD).add (ds.map (Uv 0)))=⟨W.v,[(d,⟨dv.dO,some (p,⟨(snd0 dv.dO.dA).send (kR (GY a v)),dv.aM+1,tkr0 dv.dO.dA,[]⟩),dv.aM+1,true,0,a,[],false⟩)],[upG (Ma (dv.aM+1) 0 0 (kR (GY a v)))],W.row⟩:=by rw[Uz,YN];show(⟨W.v,_,W.jU++_,W.row⟩:jD)=_;rw[Gb];rfl
 have ho2':LZ G ⟨W.v,[(d,⟨dv.dO,some (p,⟨(snd0 dv.dO.dA).send (kR (GY a v)),dv.aM+1,tkr0 dv.dO.dA,[]⟩),dv.aM+1,true,0,a,[],false⟩)],[upG (Ma (dv.aM+1) 0 0 (kR (GY a v)))],W.row⟩ DX W' h2:=by rw[<-hW1];exact Vc
 obtain⟨v',ps,hr,rfl⟩:=arr_up (Tj ho2' rfl) rfl;have Vb:Hd G W.v 0 (KR (Ma (dv.aM+1) 0 0 (kR (GY a v)))) v' ps h2:=hr;rcases Vb with⟨hn,_⟩|⟨g,e,Nj,Gy⟩
 ·exact absurd ⟨lK _,aB⟩ hn
 obtain⟨rfl,rfl⟩:=Nj.ok _ (Rx (lv c32) ⟨aB,aB⟩ ⟨aB,aB⟩ FW) rfl;rcases Gy with⟨hn,_⟩|⟨_,⟨_,hB⟩|hE⟩
 ·exact absurd ⟨rfl,by show(1:Int)≠3;omega,by show 1<=dv.aM+1;omega,by show dv.aM+1<=2147483648;omega⟩ hn
 ·obtain⟨m,e,hmd,PO⟩:=hB;obtain⟨rfl,rfl⟩:=hmd.ok _ sm0.1 rfl;have sW:W.v.t.vF 0 (dv.aM+1)=0:=by
   unfold tO.vF;rw[if_neg (by show¬dv.aM+1<=W.v.t.grI 0;omega),if_neg (by rw[WA];simp;omega)]
  have Ro:BegC G W.v 0 (Ma (dv.aM+1) 0 0 (kR (GY a v))) (GY a v) 0:=⟨rfl,rfl,rfl,rfl,sW,ha,hv⟩;rcases PO with⟨hn,_⟩|⟨_,en,z,oF,Qp,c1,UL,Fh,e1,e2,e3,e4,hask,hrv,tz,Lr,hsaid,z2,z1,rfl,rfl⟩
  ·exact absurd Ro hn
  have e1':en.aN=0:=e1;have hask':TA G (DU W.v.u) (Rb a v) z:=hask;have hrv':yO (vA W.v.dO.dA (dv.aM+1)) (Ma (dv.aM+1) 0 0 (kR (GY a v))) oF Qp c1:=hrv;obtain⟨rfl,rfl,gf⟩:=(chn0_i (dA:=W.v.dO.dA) (aM:=dv.aM+1) aB).data (lK 0) hrv';have hcn1:=recv_n rfl hrv';have hsm:∀m∈iU::z.2,Sm m:=by
   intro m hm;rcases jO.1 hm with rfl|hm
   ·exact⟨Ef (.inl rfl),dE _⟩
   ·rcases ask_wf ok hask' with⟨e,s⟩|⟨l,w,m2,e,s1,s2⟩<;>rw[e] at hm
    ·rw[oG.1 hm];exact s
    ·rcases jO.1 hm with rfl|hm
     ·exact s1
     ·rw[oG.1 hm];exact s2
  obtain⟨bs,gs,c',lo,lf,ln,Dx,hbs,hsay,hps2,hchs,hlf1,hlf2⟩:=hsaid;have hbs':bs=(iU::z.2).map kR:=by
   clear hsay;have:∀{l:List gV} {bs:List (List cG)},F2 BOk l bs->(∀m∈l,Sm m)->bs=l.map kR:=by
    intro l bs h
    induction h with
    |nil=>intro _;rfl
    |cons h1 _ ih=>intro hw;rw[Dt,ih λm hm=>hw m (VG _ hm),h1 (hw _ (ly61 ..)).1]
   exact this hbs hsm
  subst hbs';obtain⟨s1,cn1,t1,ow1⟩:=c1;obtain⟨i1,i2,i3,i4,i5,i6,i7,i8⟩:=gf;cases i2;have i3':cn1=dv.aM+1:=i3;subst i3';have hsay':Cp ⟨s1,dv.aM+1,t1,[]⟩ false ((iU::z.2).map kR)=(gs,c',lo):=by
   rw[<-hsay];have q1:(((W.v.pR en (vA W.v.dO.dA (dv.aM+1)) z.1).oO (0:Int).toNat ⟨s1,dv.aM+1,t1,[]⟩).ch en.aN)=⟨s1,dv.aM+1,t1,[]⟩:=by rw[e1'];exact setCh_at
   rw[q1];have q2:(((W.v.pR en (vA W.v.dO.dA (dv.aM+1)) z.1).oO (0:Int).toNat ⟨s1,dv.aM+1,t1,[]⟩).lf en.a)=W.v.lf en.a:=rfl;rw[q2,e4]
  have hzl:(iU::z.2).length<=3:=by rw[mE];omega
  have hnw:s1.n+((iU::z.2).map kR).length<=s1.dA:=by have q1:s1.n=0:=Nat.le_zero.1 hcn1.1;have q2:s1.dA=W.v.dO.dA:=hcn1.2;rw[q1,q2,oH];omega
  rw[Xu _ _ _ _ i1 hnw] at hsay';cases hsay';have it:t1.next=0+1:=i5
  have is:s1.next=0:=i4
  rw[it,is] at hps2;have hdn2:=pok_dn (gs:=WB (dv.aM+1) (0+1) 0 ((iU::z.2).map kR)) (ps:=Fh) (by rw[e1'] at hps2;exact hps2) (by
   have:∀(l:List gV) (k:Nat),(∀m∈l,Sm m)->k+l.length<=100->∀g∈WB (dv.aM+1) (0+1) k (l.map kR),Vi g:=by
    intro l
    induction l with
    |nil=>intro k _ _ g hg;cases hg
    |cons m r ih=>
     intro k hw hk g hg;rw[mE] at hk;rcases jO.1 hg with rfl|hg
     ·exact Rx (lv c32) ⟨aB,aB⟩ ⟨aB,aB⟩ (Hw (hw m (ly61 ..)))
     ·refine ih (k+1) (λm hm=>hw m (VG _ hm)) aB g ?_;rw[show((k+1:Nat):Int)=(k:Int)+1 by omega];exact hg
   exact this (iU::z.2) 0 hsm aB)
  have hdn1:=pok_dn tz (by
   intro g hg;rw[oG.1 hg];exact mh (aM:=dv.aM+1) (a:=0+1) (lv c32) ⟨aB,aB⟩)
  obtain⟨g1,g2,g3⟩:=Bg ((iU::z.2).map kR) s1;refine⟨z,en,v',hask',⟨⟨⟨_,p,_,rfl,rfl,rfl,rfl,?_⟩,⟨VR s1 ((iU::z.2).map kR),dv.aM+1,t1,[]⟩,?_,?_⟩,?_⟩,⟨?_,e1',e2,c32⟩,e3,?_,?_,?_,?_,?_,λk=>?_⟩
  ·exact⟨rfl,rfl,rfl,rfl,rfl,λ_=>rfl,by show 0<dv.dO.dA;omega,λx hx=>by
    have QB:x=0\/False:=hx;rcases QB with rfl|QB
    ·omega
    ·exact QB.elim⟩
  ·show v'=v'.oO 0 _;rw[qd];rw[Dx,e1'];rfl
  ·refine⟨g1.trans i1,rfl,rfl,by rw[g3,is,oH];omega,by rw[it];rfl,i6,i7,λx hx=>?_⟩;have hids:∀(bs:List (List cG)) (s:RU),(VR s bs).IQ x->s.IQ x\/(s.next<=x/\x<s.next+bs.length):=by
    intro bs
    induction bs with
    |nil=>intro s h;exact .inl h
    |cons b r ih=>
     intro s h;rw[mE];rcases ih _ h with h|h
     ·have h':x=s.next\/s.IQ x:=h
      rcases h' with h'|h'
      ·exact .inr aB
      ·exact .inl h'
     ·have h':s.next+1<=x/\x<s.next+1+(r.length:Int):=h
      exact .inr aB
   rcases hids _ _ hx with h|h
   ·have:=i8 x h;omega
   ·rw[is,oH] at h;omega
  ·show []++(UL++Fh).map Qs=_;rw[List.nil_append,wQ,hdn1,hdn2];rfl
  ·rw[Dx];show Fz en W.v.t.bK=_;rw[WA];rfl
  ·rw[Dx];rfl
  ·rw[Dx];rfl
  ·rw[Dx];rfl
  ·have hq:v'.t.gr 0=some en.aM:=by
    rw[Dx];exact if_pos (show(0:Int)=(en.aN:Int) by rw[e1'];rfl)
   show(v'.t.gr 0).getD (0:Int)=_;rw[hq];exact e2
  ·rw[Dx];rfl
  ·rw[Dx];show((lf k).getD (false:Bool))=false
   by_cases hk:k=en.a
   ·rw[hk];exact hlf2
   ·rw[hlf1 k hk];exact ud k
 ·obtain⟨f,hf,_⟩:=hE;rw[WA] at hf;cases hf
end
end
section
section
variable{G:Gr}{W W':jD}{hs:List qV}{d:Nat}{V:iQ}{aM:Int}{en:cY}{ms:List gV}
structure Qt(V:iQ)(aM:Int)(en:cY)(d:Nat)(W:jD):Prop where
 ds:∃dv p c,W.ds=[(d,dv)]/\dv.pQ=true/\dv.aM=aM/\dv.ch=some (p,c)/\Quiet c
 bK:W.v.t.bK=[en]
 q:oz W.v
 jU:W.jU=[]
 u:QT 0 W.v.u=[]
 gr:W.v.t.gr=V.t.gr
 dO:W.v.dO=V.dO
theorem said_wf{c:List Bool}{p:FX}{z:FX×List gV}(ok:sS G)(h:TA G c p z):(∀m∈iU::z.2,Sm m)/\2<=(iU::z.2).length/\(iU::z.2).length<=3:=by
 have h0:Sm iU:=⟨Ef (.inl rfl),dE _⟩;rcases ask_wf ok h with⟨e,s⟩|⟨l,w,m2,e,s1,s2⟩<;>rw[e]
 ·refine⟨λm hm=>?_,by simp,by simp⟩;rcases jO.1 hm with rfl|hm
  ·exact h0
  ·rw[oG.1 hm];exact s
 ·refine⟨λm hm=>?_,by simp,by simp⟩;rcases jO.1 hm with rfl|hm
  ·exact h0
  ·rcases jO.1 hm with rfl|hm
   ·exact s1
   ·rw[oG.1 hm];exact s2
end
end
section
abbrev ev0(ev:GF):GF×Sl:=(ev,aZ)
theorem lits_row{g:Nat}{QF:List GF}{w:aH}{P:BS}(o:cU w g Sb (QF.flatMap λev=>uq (ev0 ev)))(hraw:∀ev∈QF,ev.Vm=[])(hl:QF.length<=1000)(hg:P g):RowE P w ⟨some ⟨g,0,none⟩,QF.length,QF.length⟩ QF:=by
 have hv:=(dD.new wh (QF.map ev0) (by rw[List.flatMap_map];exact o) (by rw[oH];simp only[maxLen];omega)).rd wh;rw[oH] at hv;refine⟨QF.map ev0,by rw[List.map_map];exact List.map_id _,hv,λb hb=>by cases hb;exact⟨hg,o.lt⟩,λx hx=>?_⟩;obtain⟨ev,he,rfl⟩:=mD.1 hx;refine⟨?_,λb hb=>by cases hb⟩;show Rd w aZ 1 eU ev.Vm;rw[hraw ev he];exact Rd.nil _ _ _
structure Wx(N:BS)(E:qO)(G:Gr)(a wa n:Nat)(W0 w0:aH)(B:Int)(W:jD)(w:aH)(S:BS):Prop where
 x:iS N E.e a wa W w S
 b:Bs W0 E G S w
 ok:Am G B n W
 k:aL w0 w
 lo:∀k,S k->w0.heap.size<=k
section
variable{N:BS}{E:qO}{G:Gr}{a wa n:Nat}{W0 w0 w w':aH}{B:Int}{W:jD}{S:BS}
theorem Wx.kp(h:Wx N E G a wa n W0 w0 B W w S)(k:aL w w'):Wx N E G a wa n W0 w0 B W w' S:=⟨h.x.kp k,h.b.kp k,h.ok,h.k.tr k,h.lo⟩
theorem nc{K:jD->GF->Prop}(jB:Xl K){QF:List GF}{Q:Sl->aH->Prop}(hK:∀W1 ev,ev∈QF->(QF.length=1->W1=W)->K W1 ev)(h:Wx N E G a wa n W0 w0 B W w S)(hN:∀k,N k->k<w.heap.size)(hraw:∀ev∈QF,ev.Vm=[])(hl:QF.length<=10)(hB:B<=100000)(FW:W.jU.length<=200000)(Cu:W.v.fR<=100000)
  (hQ:∀rh hs W' w1 w' S',aL w w1->Wx N E G a wa n W0 w0 (B+16*QF.length) W' w' S'->Up S S' w1 w'->Gi w1.heap.size S' w' rh hs->jq G W QF W' hs->W'.v.dO=W.v.dO->W'.jU.length<=W.jU.length+QF.length*yK W.v.dO n->hs.length<=QF.length*20/\W'.v.fR<=W.v.fR+QF.length->Q rh w'):
  aG w (QF.flatMap λev=>uq (ev0 ev)).toArray Sb λa4 eE=>EE (some ⟨wa,0,none⟩) ⟨(some a4),QF.length,QF.length⟩ eE Q:=by
 have lt:=h.x.lt;refine cO λw1 b1 k1 z1=>?_;have h1:=h.kp k1;refine do_i jB hK h1.x (λk hk=>pG (hN k hk) k1.size) h1.b h1.ok aB aB aB aB (lits_row b1.1 hraw aB ⟨λhs=>by have:=lt _ hs;omega,b1.1.lt⟩) (λev he=>by rw[hraw ev he];simp) λrh hs W' w' S' g hdo=>?_;have z1':=h1.k.size;exact hQ rh hs W' w1 w' S' k1 ⟨g.x,h1.b.up g.up,g.ok,h1.k.fresh g.up.m h1.lo,λk hk=>(g.up.s k hk).elim (h1.lo k) λh=>aB⟩ g.up g.BC hdo g.dO g.len ⟨g.hl,g.fR⟩
end
end
section
def KS(T:Prop)(C:jD->Prop)(W:jD)(ev:GF):Prop:=ev.kind=1\/(T/\C W/\ev.kind=4)\/ev.kind=5\/ev.kind=7\/ev.kind=11
def TickOk(C:jD->Prop):Prop:=∀(N:BS) (W0 w:aH) (S:BS) (a wa n:Nat) (W:jD) (E:qO) (G:Gr) (B:Int) (Q:aH->Prop),C W->iS N E.e a wa W w S->(∀k,N k->k<w.heap.size)->Bs W0 E G S w->Am G B n W->B<=1000000000->W.jU.length<=800000->W.v.fR<1000000000->
 (∀W' w' S',yM N G B n E.e a wa W w S aZ [] (W.v.dO.sT*(2*W.v.dO.dA+1)+n*(W.v.dO.dA+1)) W' w' S'->TickR W W'->Q w')->ZT (some ⟨wa,0,none⟩) w Q
section
variable{N:BS}{W0 w:aH}{S:BS}{a wa n:Nat}{W:jD}{E:qO}{G:Gr}{B:Int}
theorem drivesS_i{ev:GF}{sl:Sl}{Q:Sl->aH->Prop}(h:iS N E.e a wa W w S)(hN:∀k,N k->k<w.heap.size)(hb:Bs W0 E G S w)(ok:Am G B n W)(hB:B<=1000000000)(FW:W.jU.length<=800000)(hr:Rd w sl 1 eU ev.Vm)(ho:LL sl S w)(hl:ev.Vm.length<=5000)(hk711:ev.kind=7\/ev.kind=11)
  (hQ:∀rh hs W' w' S',yM N G B n E.e a wa W w S rh hs (W.v.dO.dA+1) W' w' S'->DrvsR G W ev W' hs->Q rh w'):EK (some ⟨wa,0,none⟩) (Qv (ev,sl)) w Q:=by
 unfold EK;have lt0:=h.lt;have hn:=ok.len;refine cO (cs:=uq (ev,sl)) λw1 b1 k1 z1=>aE (k:=.i) ev.d (aP b1 rfl) ?_;have h1:=h.kp k1;refine Pp h1 aB (λd dv h0 hi=>?_) (λpA=>?_)
 ·refine aF (λh=>by simp at h) (λ_=>?_);obtain⟨S1,hS1,xS,c0,_⟩:=h1.Uw;refine aA rfl (aE (k:=.ptr) (some ⟨a,0,none⟩) c0 (oh hS1 ?_));obtain⟨S2,hD,LJ,eO⟩:=h1.drv hi;have okd:=ok.ds _ (lD hi);obtain⟨i,hie⟩:∃i:Nat,ev.d=(i:Int):=⟨ev.d.toNat,aB⟩;have hti:ev.d.toNat=i:=aB;rw[hti] at hi eO;intro J1 OG;have j1:∀r ds yF w6 S6,Wm B d dv w1 S2 r ds yF w6 S6->(ev.kind=11->False)->(ev.kind=7->ZF dv ev.m ev.n yF ds)->J1 (r,()) w6:=λr ds yF w6 S6 g Vr h7=>by
   apply OG;have ob:cU w6 w.heap.size Sb (uq (ev,sl)):=b1.1.aK g.up.m λhs=>by have:=lt0 _ (LJ _ hs);omega
   refine aE (k:=.i) ev.d (cV ob rfl) ?_;rw[hie];refine drv_sent h1 hi ok FW (λk hk=>pG (hN k hk) k1.size) eO g λw7 S7 h7' u7 ok7 l7=>?_;refine hQ _ [] _ w7 S7 ⟨h7',(Up.aO k1).tr u7,fK.nil,ok7,rfl,by show(W.jU++_).length<=_;simp;omega,by show W.v.fR<=_;omega,dE _⟩ λ_=>⟨λhk=>⟨d,dv,yF,ds,by rw[hti];exact hi,h7 hk,by rw[hti,hie],rfl⟩,λhk=>(Vr hk).elim⟩
  refine aE (k:=.i) ev.kind (aP b1 rfl) (aF (λhk=>?_) (λhk7=>aF (λhk=>?_) (λhk8=>aF (λhk=>?_) (λhk9=>aF (λhk=>?_) (λhk10=>aF (λhk=>?_) (λhk11=>?_))))))
  ·have lT:ev.kind=7:=by simpa using hk
   refine aE (k:=.i) ev.m (aP b1 rfl) (aE (k:=.i) ev.n (aP b1 rfl) (DStart_i hD okd.1 ⟨ok.b0,aB⟩ λr ds e v' w6 S6 g vE=>j1 r ds v' w6 S6 g (λh=>aB) λ_=>vE))
  ·have lT:ev.kind=8:=by simpa using hk
   omega
  ·have lT:ev.kind=9:=by simpa using hk
   omega
  ·have lT:ev.kind=10:=by simpa using hk
   omega
  ·have lT:ev.kind=11:=by simpa using hk
   refine aE (k:=.i) ev.d (aP b1 rfl) (aE (k:=.slice) sl (aP b1 rfl) ?_);have cC:=(eQ.1 hi).1;refine yi h1 (λk hk=>pG (hN k hk) k1.size) (hb.kp k1) ok aB ⟨h0,aB⟩ FW (hr.aK k1 fQ λ_ _=>id) (ho.kp k1) hl λrh hs v' ps w' S' g DD=>?_;exact hQ rh hs _ w' S' ⟨g.x,(Up.aO k1).tr g.up,g.BC.qM k1.size,g.ok,g.dO,g.len,g.fR,g.hl⟩ λ_=>⟨λh=>aB,λ_=>⟨v',ps,DD,rfl⟩⟩
  ·have n7:¬ev.kind=7:=by simpa using hk7
   have n11:¬ev.kind=11:=by simpa using hk11
   omega
 ·exact aF (λ_=>hQ _ [] W w1 S (yM.same h ok k1 _) λhh=>absurd hh pA) (λh=>by simp at h)
theorem oneS_1{T:Prop}{C:jD->Prop}(tk:T->TickOk C){ev:GF}{sl:Sl}{Q:Sl->aH->Prop}(hks:KS T C W ev)(h:iS N E.e a wa W w S)(hN:∀k,N k->k<w.heap.size)(hb:Bs W0 E G S w)(ok:Am G B n W)(hB:B<=1000000000)(FW:W.jU.length<=800000)(Cu:W.v.fR<1000000000)(hr:Rd w sl 1 eU ev.Vm)(ho:LL sl S w)(hl:ev.Vm.length<=5000)
  (hQ:∀rh hs W' w' S',yM N G B n E.e a wa W w S rh hs (yK W.v.dO n) W' w' S'->LZ G W ev W' hs->Q rh w'):NA (some ⟨wa,0,none⟩) (Qv (ev,sl)) w Q:=by
 unfold NA;have hn:=ok.len;have hmu:=Ye ok.v.dO hn.2.1;refine cO (cs:=uq (ev,sl)) λw1 b1 k1 z1=>aE (k:=.i) ev.kind (aP b1 rfl) ?_;have h1:=h.kp k1;have UP:=hb.kp k1;have hN1:∀k,N k->k<w1.heap.size:=λk hk=>pG (hN k hk) k1.size;have tev:bQ w1 ⟨w.heap.size,0,none⟩ 0 (qT kEv (Qv (ev,sl))):=b1.1.holds λj v hj=>by rw[gI];exact hj
 have dQ:∀rh hs W' w' S',yM N G B n E.e a wa W w1 S rh hs (yK W.v.dO n) W' w' S'->LZ G W ev W' hs->Q rh w':=λrh hs W' w' S' g DD=>hQ rh hs W' w' S' ⟨g.x,(Up.aO k1).tr g.up,g.BC.qM k1.size,g.ok,g.dO,g.len,g.fR,g.hl⟩ DD;intro J1 OG;have j1:∀b:Bool,(b=true↔(ev.kind=1\/ev.kind=2\/ev.kind=3))->J1 (b,()) w1:=λb hbk=>by
  apply OG;refine aF (λhbt=>?_) (λhbf=>?_)
  ·have hk:=hbk.1 hbt;refine aX (l:=kEv) (Qv (ev,sl)) tev (between_i h1 hN1 UP ok aB FW λrh hs W' w' S' g DD=>?_);exact dQ rh hs W' w' S' (g.RW hmu.1) ⟨λ_=>DD,λh=>aB,λh=>aB,λh=>aB⟩
  ·have hk:¬(ev.kind=1\/ev.kind=2\/ev.kind=3):=λh=>by have hbf':b=false:=hbf;rw[hbk.2 h] at hbf';cases hbf'
   refine aF (λhk4=>?_) (λhk4=>aF (λVq=>?_) (λVq=>aF (λhk6=>?_) (λhk6=>?_)))
   ·have hk4':ev.kind=4:=by simpa using hk4
    obtain⟨hT,hC⟩:T/\C W:=by
     rcases hks with h|⟨h,h',_⟩|h|h|h
     ·omega
     ·exact⟨h,h'⟩
     ·omega
     ·omega
     ·omega
    refine tk hT _ _ _ _ _ _ _ _ _ _ _ _ hC h1 hN1 UP ok hB FW Cu λW' w' S' g DD=>?_;exact dQ _ [] W' w' S' (g.RW hmu.2.2) ⟨λh=>absurd h hk,λ_=>⟨DD,rfl⟩,λh=>aB,λh=>aB⟩
   ·have hk5':ev.kind=5:=by simpa using Vq
    have h1d:=h1.kp (bY w1);have b1d:=bG.dr b1;obtain⟨S1,hS1,xS,c0,eO⟩:=h1d.Uw;refine aA rfl (aE (k:=.ptr) (some ⟨a,0,none⟩) c0 (aE (k:=.i) ev.n (aP b1d rfl) (aE (k:=.i) ev.m (aP b1d rfl) ?_)));refine VClose_i hS1 ((UP.kp (bY w1)).sub xS) ok.v λr ps er v' w5 S5 g=>?_;refine srv_sent h1d ok FW hN1 eO g ⟨rfl,rfl,rfl⟩ λw7 S7 g7 DD=>?_;exact dQ _ [] _ w7 S7 ⟨g7.x,(Up.aO (bY w1)).tr g7.up,fK.nil,g7.ok,g7.dO,g7.len,g7.fR,g7.hl⟩ ⟨λh=>absurd h hk,λh=>aB,λ_=>DD,λh=>aB⟩
   ·have hk6':ev.kind=6:=by simpa using hk6
    have h4:¬ev.kind=4:=by simpa using hk4
    rcases hks with h|⟨_,_,h⟩|h|h|h<;>omega
   ·have n4:¬ev.kind=4:=by simpa using hk4
    have n5:¬ev.kind=5:=by simpa using Vq
    intro J2 Qo;have j2:∀b2:Bool,(b2=false->¬ev.kind=7/\¬ev.kind=11)->J2 (b2,()) w1:=λb2 PQ=>by
     apply Qo;refine aF (λhbt=>?_) (λhbf=>?_)
     ·refine aX (l:=kEv) (Qv (ev,sl)) tev (drivesS_i h1 hN1 UP ok hB FW (hr.aK k1 fQ λ_ _=>id) (ho.kp k1) hl (by rcases hks with h|⟨_,_,h⟩|h|h|h<;>omega) λrh hs W' w' S' g DD=>?_);exact dQ rh hs W' w' S' (g.RW hmu.1) ⟨λh=>absurd h hk,λh=>absurd h n4,λh=>absurd h n5,λ_=>DD⟩
     ·have:=PQ hbf;exact dQ _ [] W w1 S (yM.same h1 ok (aU.refl _ _) _) ⟨λh=>absurd h hk,λh=>absurd h n4,λh=>absurd h n5,λh=>aB⟩
    have tr:∀k:Int,(ev.kind==k)=true->J2 ((ev.kind==k),()) w1:=λk hk=>j2 _ λh=>by rw[hk] at h;cases h
    refine aF (λh=>tr 7 h) (λh7=>aF (λh=>tr 8 h) (λ_=>aF (λh=>tr 9 h) (λ_=>aF (λh=>tr 10 h) (λ_=>j2 _ λh=>⟨by simpa using h7,by simpa using h⟩))))
 refine aF (λhk=>j1 _ ?_) (λQD=>aF (λhk=>j1 _ ?_) (λGC=>j1 _ ?_))
 ·simp at hk ⊢;omega
 ·simp at hk ⊢;omega
 ·simp at QD GC ⊢;omega
end
theorem oneS_i{T:Prop}{C:jD->Prop}(tk:T->TickOk C):Xl (KS T C):=λ_ _ _ _ _ _ _ _ _ _ _ _ _ _ hks h hN hb ok hB FW Cu hr ho hl hQ=>oneS_1 tk hks h hN hb ok hB FW Cu hr ho hl hQ
end
open Tryz (prog)
def JL(m:Nat)(u:List Int)(xs:List Int):List Int:=xs.foldl (λu x=>u.set (x%(m:Int)).toNat 50) u
def VQ(m:Nat)(c:List Bool)(xs:List Int):List Bool:=xs.foldl (λc x=>c.set (x%(m:Int)).toNat true) c
theorem Jl(m:Nat):∀(xs u:List Int),DU (JL m u xs)=VQ m (DU u) xs
 | [],u=>rfl
 |x::xs,u=>by
  show DU (JL m (u.set (x%(m:Int)).toNat 50) xs)=VQ m ((DU u).set (x%(m:Int)).toNat true) xs;rw[Jl m xs];have:DU (u.set (x%(m:Int)).toNat 50)=(DU u).set (x%(m:Int)).toNat true:=by show(u.set _ 50).map _=_;rw[List.map_set];rfl
  rw[this]
theorem mask_zero(m:Nat):DU (List.replicate m 0)=List.replicate m false:=by
 show(List.replicate m (0:Int)).map _=_;rw[List.map_replicate];rfl
theorem bc(m:Nat)(u xs:List Int)(x:Int):JL m u (xs++[x])=(JL m u xs).set (x%(m:Int)).toNat 50:=by
 unfold JL;rw[List.foldl_append];rfl
theorem Jb(m:Nat)(u:List Bool)(xs:List Int)(x:Int):VQ m u (xs++[x])=(VQ m u xs).set (x%(m:Int)).toNat true:=by
 unfold VQ;rw[List.foldl_append];rfl
theorem Jw(m:Nat):∀(xs u:List Int),(JL m u xs).length=u.length
 | [],u=>rfl
 |x::xs,u=>by
  show(JL m (u.set (x%(m:Int)).toNat 50) xs).length=_;rw[Jw m xs,nN]
theorem Round24_e{k n:Int}{w:aH}{Q:Int->aH->Prop}(hn:0<n)(h63:n<=1000000)(hQ:Q (k%n) w):nU k n w Q:=by
 unfold nU;have h1:=Int.emod_nonneg k (b:=n) aB;have h2:=Int.emod_lt_of_pos k hn;have h3:k.tmod n=if 0<=k then k%n else if k%n=0 then 0 else k%n-n:=by
  rw[Int.tmod_eq_emod];have hd:n ∣ k↔k%n=0:=Int.dvd_iff_emod_eq_zero
  by_cases h0:0<=k
  ·simp[h0]
  ·by_cases hz:k%n=0
   ·simp[h0,hz,hd]
   ·have:(n.natAbs:Int)=n:=aB;simp[h0,hz,hd,this]
 refine⟨aB,aJ (λh=>?_) (λh=>?_)⟩
 ·have h':k.tmod n<0:=h;have e:k.tmod n+n=k%n:=by rw[h3] at h' ⊢;split at h'<;>rename_i h0<;>simp only[h0,if_true,if_false] at h' ⊢<;>(try split at h')<;>(try split)<;>omega
  rw[e,gZ aB aB];exact hQ
 ·have h':¬k.tmod n<0:=h;have e:k.tmod n=k%n:=by rw[h3] at h' ⊢;split at h'<;>rename_i h0<;>simp only[h0,if_true,if_false] at h' ⊢<;>(try split at h')<;>(try split)<;>omega
  rw[e];exact hQ
theorem Shut_e{g:GT}{G:Gr}{l:Sl}{xs:List Int}{W:aH}{Q:Sl->aH->Prop}(h:GQ W g G)(ok:sS G)(hl:Rd W l 1 eI xs)(gD:xs.length<=1000)(hQ:∀s w',dD w' vI 1 eB s (VQ G.m (List.replicate G.m false) xs)->aL W w'->(∀b,s.b=some b->W.heap.size<=b.block)->Q s w'):AL g l W Q:=by
 unfold AL;have hm:=ok.m1;have hel:g.2.1.l=G.m:=h.ed.len;have ub:=hl.len;refine bD λw1 o1 k1 z1=>?_;refine aE (k:=.slice) g.2.1 (qN o1).2.1 ?_;rw[hel];refine wW UF (aY:=eB) false rfl Ct aB (lK _) aB aB λw2 v2 k2=>?_;simp only[dW] at v2 ⊢;have K2:=k1.tr k2;refine bL (λc t w3=>∃(i:Nat),i<=xs.length/\c=xs.length-i/\t=((i:Int),())/\dD w3 vI 1 eB ⟨some ⟨w1.heap.size,0,none⟩,G.m,G.m⟩ (VQ G.m (List.replicate G.m false) (xs.take i))/\(VQ G.m (List.replicate G.m false) (xs.take i)).length=G.m/\aL W w3) xs.length ⟨0,dE _,rfl,rfl,v2,by rw[List.take_zero];simp[VQ],K2⟩ ?_;rintro c t w3 ⟨i,hi,rfl,rfl,v3,FW,k3⟩ X hX;dsimp only;refine aJ (λcC=>?_) (λkC=>?_)
 ·have dJ:i<xs.length:=aB;have cQ:=cM dJ;have sC:=mM dJ;generalize xs[i]=x at*;obtain⟨p,hp,hc⟩:=bP (k:=.i) (e:=λx=>x) (hl.aK k3 cI λ_ _=>id) cQ;rw[dW];refine⟨⟨aB,cC⟩,aA hp (aE (k:=.i) x hc ?_)⟩;have h0:=Int.emod_nonneg x (show(G.m:Int)≠0 by omega);have h1:=Int.emod_lt_of_pos x (show(0:Int)<G.m by omega);refine Round24_e aB aB ⟨⟨h0,h1⟩,aA rfl ?_⟩;refine v3.store Ct rfl (i:=(x%(G.m:Int)).toNat) aB true (v:=.bool true) rfl iX (oneB _) λw4 v4 m4 _=>?_;have m4':aU (λk=>k=w1.heap.size) w3 w4:=m4;refine hX (xs.length-(i+1)) _ _ aB ⟨i+1,dJ,rfl,?_,?_,?_,k3.fresh m4' λk e=>by rw[show k=w1.heap.size from e];exact k1.size⟩
  ·rw[pP i aB]
  ·rw[sC,Jb];exact v4
  ·rw[sC,Jb,nN];exact FW
 ·have ei:i=xs.length:=aB;subst ei;rw[oI] at v3;exact hQ _ w3 v3 k3 λb hb=>by cases hb;exact k1.size
inductive Dels(G:Gr)(W:jD):Nat->jD->List gV->Prop
 |zero:Dels G W 0 W []
 |succ {i:Nat} {W1 W2:jD} {gs:List gV} {hs:List qV}:Dels G W i W1 gs->LZ G W1 DX W2 hs->Dels G W (i+1) W2 (gs++hs.map λh=>h.Cg)
theorem dels_pre{G:Gr}{V:iQ}{aM:Int}{en:cY}{d:Nat}{m0 m1:gV}{tl:List gV}{W W':jD}{gs:List gV}{n:Nat}(vi:VI V aM en)(hA:PhA V aM d (m0::m1::tl) W)(hm:∀m∈m0::m1::tl,Sm m)(hl:(m0::m1::tl).length<=10)(h:Dels G W n W' gs):
  (n=0/\gs=[]/\PhA V aM d (m0::m1::tl) W')\/(n=1/\gs=[]/\PhB V aM d (m0::m1::tl) 0 W')\/(n=2/\gs=[m0]/\PhB V aM d (m0::m1::tl) 1 W')\/(3<=n/\∃cJ,gs=m0::m1::cJ):=by
 induction h with
 |zero=>exact .inl ⟨rfl,rfl,hA⟩
 | @succ i W1 W2 gs hs h1 ho ih=>
  rcases ih with⟨rfl,rfl,h⟩|⟨rfl,rfl,h⟩|⟨rfl,rfl,h⟩|⟨hn,cJ,rfl⟩
  ·obtain⟨h',rfl⟩:=h.step vi ho;exact .inr (.inl ⟨rfl,rfl,h'⟩)
  ·obtain⟨h',m,je,rfl⟩:=h.step vi hm hl dN ho;have e:m0=m:=by simpa using je
   subst e;exact .inr (.inr (.inl ⟨rfl,rfl,h'⟩))
  ·obtain⟨h',m,je,rfl⟩:=h.step vi hm hl dN ho;have e:m1=m:=by simpa using je
   subst e;exact .inr (.inr (.inr ⟨aB,[],rfl⟩))
  ·exact .inr (.inr (.inr ⟨aB,cJ++hs.map λh=>h.Cg,by simp⟩))
abbrev BLs(r:Sl):BS:=λk=>∃a,r.b=some a/\k=a.block
theorem take_i{E:qO}{a wa:Nat}{W:jD}{w:aH}{S:BS}{r s6:Sl}{gs:List gV}{hs:List qV}{lo lo2:Nat}{Qx:(Sl×Int×Unit)->aH->Prop}(h:iS (BLs r) E.e a wa W w S)(qR:me lo S w r gs)(hh:Gi lo2 S w s6 hs)(Ll:lo<=lo2/\lo2<=w.heap.size)(hr:∀b,r.b=some b->b.block<lo2)(hl:gs.length+hs.length<=10000)
  (hQ:∀r' w' i,iS (BLs r') E.e a wa W w' S->me lo S w' r' (gs++hs.map λh=>h.Cg)->aU (λk=>lo<=k/\¬S k) w w'->Qx (r',i,()) w'):
  ∀X3:(Sl×Int×Unit)->aH->Prop,(∀(t6:Sl×Int×Unit) (qA:aH),(
  cond (decide (t6.2.1<(s6.l:Int)))
  ((0<=t6.2.1/\t6.2.1<(s6.l:Int))/\
  aC s6.b λa6=>
  eV [.i,.i,.i,.slice,.i,.i,.i,.i,.i] qA ((a6.add (Int.toNat t6.2.1*12)).add 3) λ(t7:Int×Int×Int×Sl×Int×Int×Int×Int×Int×Unit)=>
  aG qA #[aD t7.1,aD t7.2.1,aD t7.2.2.1,Value.slice t7.2.2.2.1.b t7.2.2.2.1.l t7.2.2.2.1.c,aD t7.2.2.2.2.1,aD t7.2.2.2.2.2.1,aD t7.2.2.2.2.2.2.1,aD t7.2.2.2.2.2.2.2.1,aD t7.2.2.2.2.2.2.2.2.1] mV λa7 BO=>
  aW prog ux ux t6.1 (Value.slice (some a7) 1 1) BO λ(s7:Sl) DA=>
  X3 (s7,(aQ (t6.2.1+(1:Int))),()) DA)
  (Qx t6 qA))->X3 t6 qA)->X3 (r,(0:Int),()) w:=by
 have hb:=h.lt;have QC:s6.l=hs.length:=hh.len;have hP:wU eI 12 eHd (λh:qV=>h.Cg.cD) (λk=>lo2<=k/\¬S k/\k<w.heap.size) w s6 hs:=(hh.rd Wz).wk λk hk cC=>⟨hk.1,hk.2,cC⟩;refine bL (λc t w1=>∃(j:Nat) (r1:Sl),j<=hs.length/\c=hs.length-j/\t=(r1,(j:Int),())/\iS (BLs r1) E.e a wa W w1 S/\me lo S w1 r1 (gs++(hs.take j).map λh=>h.Cg)/\wU eI 12 eHd (λh:qV=>h.Cg.cD) (λk=>lo2<=k/\¬S k/\k<w.heap.size) w1 s6 hs/\aU (λk=>lo<=k/\¬S k) w w1/\(∀b,r1.b=some b->b.block<lo2\/w.heap.size<=b.block)) hs.length
  ⟨0,r,dE _,rfl,rfl,h,by rw[List.take_zero,List.map_nil,uA];exact qR,hP,aU.refl _ _,λb hb=>.inl (hr b hb)⟩ ?_
 rintro c t w1 ⟨j,r1,hj,rfl,rfl,h1,row1,hh1,m1,hr1⟩ X hX;dsimp only;have z1:=m1.size;refine aJ (λcC=>?_) (λkC=>?_)
 ·have qP:j<hs.length:=aB;have cQ:=cM qP;have sC:=mM qP;generalize hs[j]=x at*;obtain⟨q,sl,hq,hq2,BC,YJ⟩:=hh1.get cQ;rw[dW,pP j aB];refine⟨⟨aB,cC⟩,aA hq (aX (l:=[.i,.i,.i,.slice,.i,.i,.i,.i,.i]) (x.Cg.kind,x.Cg.pos,x.Cg.JE,sl,x.Cg.kS,x.Cg.eR.cls,x.Cg.eR.jV,x.Cg.eR.oK,x.Cg.eR.left,()) (Bj.2 (iB.2 λk v hk=>?_)) ?_)⟩
  ·have h3:(eHd (x,sl))[3+k]? =some v:=by
    have e:(eHd (x,sl)).drop 3=tN (x.Cg,sl):=rfl;rw[<-ly7,e];exact hk
   have:=iB.1 hq2 (3+k) v h3;rw[gI] at this;rw[show 3+0+k=3+k by omega];exact this
  ·refine fK.vu ZP VW QM aB row1 (by simp;omega) aB h1.lt x.Cg (sl:=sl) BC (λb bR=>⟨by have:=(YJ b bR).1.1;omega,(YJ b bR).1.2.1,(YJ b bR).2,λb' PQ e=>?_⟩) λr' w2 row2 m2 YI=>?_
   ·have h3:=(YJ b bR).1;rcases hr1 b' PQ with h4|h4<;>omega
   ·have x4:=h1.jt (N':=λk=>BLs r1 k\/w1.heap.size<=k) λk hk=>hk;have x5:=(x4.ov m2 λk hk=>⟨.inl hk,λhs=>(row1.zR k hk).2 hs⟩).jt (N':=BLs r') λk ⟨b,bR,e⟩=>by
     rcases YI b bR with⟨a',mU,e2⟩|h
     ·exact .inl (.inl ⟨a',mU,by rw[e,e2]⟩)
     ·exact .inl (.inr (by rw[e];exact h))
    refine hX _ _ _ aB ⟨j+1,r',qP,rfl,rfl,x5,?_,hh1.aK eHd_ne m2 λk hk _ ⟨b,bR,e⟩=>?_,m1.trans m2 λk _ hk=>?_,λb bR=>?_⟩
    ·rw[sC,wQ,<-sL];exact row2
    ·rcases hr1 b bR with h4|h4<;>omega
    ·exact row1.zR k hk
    ·rcases YI b bR with⟨a',mU,e2⟩|h
     ·rw[e2];exact hr1 a' mU
     ·exact .inr aB
 ·have ej:j=hs.length:=aB;subst ej;rw[oI] at row1;exact hQ r1 w1 _ h1 row1 m1
theorem Made.one{E:qO}{G:Gr}{a wa:Nat}{c:wV}{w0 W0 w':aH}{S':BS}{W:jD}(h:Made E G a wa 1 c w0 W0 w' S' W):∃d,W.ds=[(d,PX c)]/\W.v.t.bK=[]/\W.v.t.grI 0=0/\QT 0 W.v.u=[]/\(∀k,(W.v.lf k).getD (false:Bool)=false)/\W.v.fR=0/\W.v.dO=c/\W.v.u=List.replicate G.m 0:=by
 obtain⟨sp,tp,lp,GD,ds,rfl,YN⟩:=h.w;obtain⟨p,rfl⟩:∃p,ds=[p]:=by have:=congrArg List.length YN;simp at this;exact List.length_eq_one_iff.1 this
 obtain⟨d,dv⟩:=p;have e:dv=PX c:=by have:=congrArg List.head? YN;simp[List.replicate] at this;exact this
 subst e;refine⟨d,rfl,rfl,rfl,?_,λ_=>rfl,rfl,rfl,rfl⟩;have:∀(n i:Nat),QT i (List.replicate n 0)=[]:=by
  intro n
  induction n with
  |zero=>intro i;rfl
  |succ n ih=>intro i;rw[List.replicate_succ,QT,ih];rfl
 exact this G.m 0
theorem raw2(x y:Int):∀ev∈[Eu x y,DX],ev.Vm=[]:=by
 intro ev he;rcases jO.1 he with rfl|he
 ·rfl
 ·rw[oG.1 he]
theorem ks2{T:Prop}{C:jD->Prop}{W:jD}{x y:Int}{e:GF}(he:e∈[Eu x y,DX]):KS T C W e:=by
 rcases jO.1 he with rfl|he
 ·exact .inr (.inr (.inr (.inl rfl)))
 ·rw[oG.1 he];exact .inl rfl
theorem ks11{T:Prop}{C:jD->Prop}{W:jD}{e:GF}(h:e.kind=11):KS T C W e:=.inr (.inr (.inr (.inr h)))
section
theorem Oi{n qM high:Int}{w:aH}{Q:Bool->aH->Prop}(hQ:Q (decide (qM<=n/\n<=high)) w):tF n qM high w Q:=by
 unfold tF;refine aJ (λh=>?_) (λh=>?_)
 ·have e:decide (n<=high)=decide (qM<=n/\n<=high):=by
   by_cases h2:n<=high
   ·rw[decide_eq_true h2,decide_eq_true ⟨aB,h2⟩]
   ·rw[decide_eq_false h2,decide_eq_false (λh'=>h2 h'.2)]
  rw[e];exact hQ
 ·rw[decide_eq_false (λh'=>h aB)] at hQ;exact hQ
section
variable{g:GT}{G:Gr}{w:aH}(h:GQ w g G)(ok:sS G)
include h ok
theorem Fa{e:Int}{Q:Bool->aH->Prop}(hQ:∀w',aL w w'->Q (decide (G.mH e)) w'):rM g e w Q:=by
 unfold rM;have hm:=ok.m1;have hl:g.2.1.l=G.m:=h.ed.len;refine bD λw1 o1 k1 z1=>aE (k:=.slice) g.2.1 (qN o1).2.1 (Oi ?_);rw[gZ (n:=(g.2.1.l:Int)-1) aB aB,hl];have:decide (0<=e/\e<=(G.m:Int)-1)=decide (G.mH e):=by have:(0<=e/\e<=(G.m:Int)-1)↔G.mH e:=⟨λh=>⟨h.1,aB⟩,λh=>⟨h.1,by have:=h.2;omega⟩⟩;simp only[this]
 rw[this];exact hQ w1 k1
theorem zj{e:Int}{Q:Bool->aH->Prop}(hQ:∀w',aL w w'->Q (decide (G.GB e)) w'):zH g e w Q:=by
 unfold zH;have hm:=ok.n1;have hl:g.1.l=G.n:=h.nd.len;refine bD λw1 o1 k1 z1=>aE (k:=.slice) g.1 (qN o1).1 (Oi ?_);rw[gZ (n:=(g.1.l:Int)-1) aB aB,hl];have:decide (0<=e/\e<=(G.n:Int)-1)=decide (G.GB e):=by have:(0<=e/\e<=(G.n:Int)-1)↔G.GB e:=⟨λh=>⟨h.1,aB⟩,λh=>⟨h.1,by have:=h.2;omega⟩⟩;simp only[this]
 rw[this];exact hQ w1 k1
omit ok in
theorem RBanned_i{a b:Int}{Q:Bool->aH->Prop}(FW:G.B.length<=1024)(hQ:∀w',aL w w'->Q (decide ((a,b)∈G.B)) w'):yA g a b w Q:=by
 unfold yA;have hl:g.2.2.1.l=G.B.length:=h.bn.len;refine bD λw1 o1 k1 z1=>?_;refine bL (λc t w2=>∃i:Nat,i<=G.B.length/\c=G.B.length-i/\t=((i:Int),())/\aL w1 w2/\(a,b)∉G.B.take i) G.B.length ⟨0,dE _,rfl,rfl,aU.refl _ _,by simp⟩ ?_;rintro c t w2 ⟨i,hi,rfl,rfl,k2,pA⟩ X hX;dsimp only;have c2:=(qN (o1.aK k2 id)).2.2;refine aE (k:=.slice) g.2.2.1 c2 (aJ (λcC=>?_) (λkC=>?_))
 ·have dJ:i<G.B.length:=aB;have cQ:=cM dJ;have gF:=mX dJ;have sC:=mM dJ;generalize G.B[i]=x at*;obtain⟨p,hp,_,q1,q2⟩:=Nd (h.bn.aK (k1.tr k2) DY λ_ _=>id) cQ;rw[dW];have next:x≠(a,b)->X (aQ ((i:Int)+1),()) w2:=λgK=>by
   rw[pP i aB];refine hX _ _ _ aB ⟨i+1,dJ,rfl,rfl,k2,λhm=>?_⟩;rw[sC] at hm;rcases kE.1 hm with h1|h1
   ·exact pA h1
   ·have:(a,b)=x:=by simpa using h1
    exact gK this.symm
  have gX:0<=(i:Int)/\(i:Int)<(g.2.2.1.l:Int):=⟨aB,cC⟩;refine aE (k:=.slice) g.2.2.1 c2 ⟨gX,aA hp (aE (k:=.i) x.1 q1 (aF (λh1=>?_) (λh1=>next λe=>?_)))⟩
  ·refine aE (k:=.slice) g.2.2.1 c2 ⟨gX,aA hp (aE (k:=.i) x.2 q2 (aF (λh2=>?_) (λh2=>next λe=>?_)))⟩
   ·have e:x=(a,b):=Prod.ext (by simpa using h1) (by simpa using h2);have:=hQ w2 (k1.tr k2);rw[decide_eq_true (by rw[<-e];exact gF)] at this;exact this
   ·rw[e] at h2;simp at h2
  ·rw[e] at h1;simp at h1
 ·have ei:i=G.B.length:=aB;subst ei;rw[oI] at pA;have:=hQ w2 (k1.tr k2);rw[decide_eq_false pA] at this;exact this
theorem RTurn_i{a b:Int}{Q:Bool->aH->Prop}(hQ:∀w',aL w w'->Q (G.sJ a b) w'):ER g a b w Q:=by
 unfold ER;have hm:=ok.m1;have hl:g.2.1.l=G.m:=h.ed.len;refine bD λw1 o1 k1 z1=>?_;have d1:aL w1 w1.drew:=aU.drew (aU.refl _ w1);have PM:∀{wx:aH},aL w1 wx->cU wx w.heap.size gC (UQ g):=λkx=>o1.aK kx id;refine aX (l:=[.slice,.slice,.slice]) g (mJ (PM d1)) ?_;refine Fa (h.aO (k1.tr d1)) ok λw2 k2=>?_;have GA:=d1.tr k2;refine aJ (λha=>?_) (λha=>?_)
 ·refine aX (l:=[.slice,.slice,.slice]) g (mJ (PM GA)) ?_;refine Fa (h.aO (k1.tr GA)) ok λw3 k3=>?_;have UO:=GA.tr k3;have h3:=h.aO (k1.tr UO);refine aJ (λhb=>?_) (λhb=>?_)
  ·have c3:=(qN (PM UO)).2.1;obtain⟨p1,tz,_,_,t1,_⟩:=h3.jV ha;obtain⟨p2,Cj,_,f2,_,_⟩:=h3.jV hb;refine aE (k:=.slice) g.2.1 c3 ⟨⟨ha.1,by rw[hl];exact ha.2⟩,aA tz (aE (k:=.i) (G.to a) t1 ?_)⟩;refine aE (k:=.slice) g.2.1 c3 ⟨⟨hb.1,by rw[hl];exact hb.2⟩,aA Cj (aE (k:=.i) (G.fr b) f2 ?_)⟩;refine aF (λhe=>?_) (λhe=>?_)
   ·refine aX (l:=[.slice,.slice,.slice]) g (mJ (PM UO)) ?_;refine RBanned_i h3 ok.bl λw4 k4=>?_;have:=hQ w4 (k1.tr (UO.tr k4));unfold Gr.sJ at this;have uK:G.to a=G.fr b:=by simpa using he
    rw[decide_eq_true ha,decide_eq_true hb,decide_eq_true uK] at this;exact this
   ·have:=hQ w3 (k1.tr UO);have uK:¬G.to a=G.fr b:=by simpa using he
    unfold Gr.sJ at this;rw[decide_eq_true ha,decide_eq_true hb,decide_eq_false uK] at this;exact this
  ·have:=hQ w3 (k1.tr UO);unfold Gr.sJ at this;rw[decide_eq_true ha,decide_eq_false hb] at this;exact this
 ·have:=hQ w2 (k1.tr GA);unfold Gr.sJ at this;rw[decide_eq_false ha] at this;exact this
theorem zn{e:Int}{Q:Sl->aH->Prop}(hQ:∀s w',dD w' dG 1 eI s (G.gL e)->aL w w'->(∀b,s.b=some b->w.heap.size<=b.block)->Q s w'):zI g e w Q:=by
 unfold zI;have hm:=ok.m1;have hl:g.2.1.l=G.m:=h.ed.len;refine bD λw1 o1 k1 z1=>?_;refine bL (λc t w2=>∃(i:Nat) (o:Sl),i<=G.m/\c=G.m-i/\t=(o,(i:Int),())/\aL w1 w2/\dD w2 dG 1 eI o ((kL i).filter λb=>G.sJ e b)/\(∀b,o.b=some b->w1.heap.size<=b.block)) G.m
  ⟨0,aZ,dE _,rfl,rfl,aU.refl _ _,dD.nil _ _ _ _,λb hb=>by cases hb⟩ ?_
 rintro c t w2 ⟨i,o,hi,rfl,rfl,k2,v2,f2⟩ X hX;dsimp only;have o2:=o1.aK k2 id;refine aE (k:=.slice) g.2.1 (qN o2).2.1 (aJ (λcC=>?_) (λkC=>?_))
 ·have dJ:i<G.m:=aB;refine aX (l:=[.slice,.slice,.slice]) g (mJ (g:=g) o2) ?_;refine RTurn_i (h.aO (k1.tr k2)) ok λw3 k3=>?_;have v3:=v2.aK k3 λ_ _=>id;have wv:(kL (i+1)).filter (λb=>G.sJ e b)=(kL i).filter (λb=>G.sJ e b)++if G.sJ e (i:Int)=true then [(i:Int)] else []:=by
   rw[xB,VH];congr 1
   by_cases ht:G.sJ e (i:Int)=true<;>simp[ht]
  have IV:((kL i).filter λb=>G.sJ e b).length<=51:=by have:=zL (λb=>G.sJ e b) (kL i);rw[rC] at this;omega
  rw[pP i aB];refine aF (λht=>?_) (λht=>?_)
  ·rw[if_pos ht] at wv;refine bD λw4 o4 k4 z4=>?_;have vx:dD w4 dG 1 eI ⟨some ⟨w3.heap.size,0,none⟩,1,1⟩ [(i:Int)]:=dD.new eX [(i:Int)] o4 (by simp[maxLen]);have z12:=k2.size;have z23:=k3.size;have z34:=k4.size;refine fH iK eX FC (v3.aK k4 λ_ _=>id) (vx.rd eX) (by simp only[mE,RZ];omega) (by simp only[mE,RZ];omega) λr w5 v5 m5 f5 _=>?_;refine hX _ _ _ aB ⟨i+1,r,dJ,rfl,rfl,((k2.tr k3).tr k4).fresh m5 λk ⟨b,hb,e⟩=>by rw[e];exact f2 b hb,by rw[wv];exact v5,λb hb=>?_⟩;rcases f5 with h1|⟨a,ha,GM⟩
   ·exact f2 b (by rw[<-h1];exact hb)
   ·rw[hb] at ha;cases ha;omega
  ·rw[if_neg (by rw[ht];simp),uA] at wv;exact hX _ _ _ aB ⟨i+1,o,dJ,rfl,rfl,k2.tr k3,by rw[wv];exact v3,f2⟩
 ·have ei:i=G.m:=aB;subst ei;exact hQ o w2 v2 (k1.tr k2) λb hb=>by have:=f2 b hb;omega
theorem RArcs_i{Q:Sl->aH->Prop}(hQ:∀s w',dD w' iA 4 dU s G.AB->aL w w'->(∀b,s.b=some b->w.heap.size<=b.block)->Q s w'):ES g w Q:=by
 unfold ES;have hm:=ok.m1;have hl:g.2.1.l=G.m:=h.ed.len;generalize hgg:(λa:Int=>(G.gL a).map λb=>(⟨a,b,G.wt b,-1⟩:bO))=gg at*;have hG:G.AB=(kL G.m).flatMap gg:=by rw[<-hgg];rfl
 have pre:∀a:Nat,a<=G.m->((kL a).flatMap gg).length<=2601:=λa ha=>by
  have:=MV gg 51 (kL a) λx _=>by rw[<-hgg];simp only[oH];have:=G.yP x;omega
  rw[rC] at this;have h2:a*51<=51*51:=PU _ aB;omega
 refine bD λw1 o1 k1 z1=>?_;refine bL (λc s w2=>∃(a:Nat) (o:Sl),a<=G.m/\c=G.m-a/\s=(o,(a:Int),())/\aL w1 w2/\dD w2 iA 4 dU o ((kL a).flatMap gg)/\(∀b,o.b=some b->w1.heap.size<=b.block)) G.m
  ⟨0,aZ,dE _,rfl,rfl,aU.refl _ _,dD.nil _ _ _ _,λb hb=>by cases hb⟩ ?_
 rintro c s w2 ⟨a,o,ha,rfl,rfl,k2,v2,f2⟩ X hX;dsimp only;have o2:=o1.aK k2 id;refine aE (k:=.slice) g.2.1 (qN o2).2.1 (aJ (λcC=>?_) (λkC=>?_))
 ·have mU:a<G.m:=aB;refine aX (l:=[.slice,.slice,.slice]) g (mJ (g:=g) o2) ?_;refine zn (h.aO (k1.tr k2)) ok λs2 w3 v3 k3 f3=>?_;have Vd:=G.yP (a:Int);have hnE:∀b∈G.gL (a:Int),G.mH b:=λb hb=>(G.fN.1 (G.tA.1 hb)).2.1;have ug:gg (a:Int)=(G.gL (a:Int)).map λb=>(⟨(a:Int),b,G.wt b,-1⟩:bO):=by rw[<-hgg]
  generalize G.gL (a:Int)=l at*;have Ak:=v3.len;have tz:=pre a aB;have ne2:∀b,s2.b=some b->∀b',o.b=some b'->b.block≠b'.block:=λb hb b' bR e=>by have:=f3 b hb;have:=v2.lt bR;omega
  have z12:=k2.size;have gu:∀b,s2.b=some b->b.block<w3.heap.size:=λb hb=>v3.lt hb;refine bL (λc s w4=>∃(j:Nat) (o:Sl),j<=l.length/\c=l.length-j/\s=(o,(j:Int),())/\aL w1 w4/\dD w4 iA 4 dU o ((kL a).flatMap gg++(l.take j).map λb=>(⟨(a:Int),b,G.wt b,-1⟩:bO))/\(∀b,o.b=some b->w1.heap.size<=b.block)/\dD w4 dG 1 eI s2 l/\
    (∀b,s2.b=some b->∀b',o.b=some b'->b.block≠b'.block)/\w3.heap.size<=w4.heap.size) l.length
   ⟨0,o,dE _,rfl,rfl,k2.tr k3,by simpa using v2.aK k3 λ_ _=>id,f2,v3,ne2,dL _⟩ ?_
  clear v2 f2 ne2 v3;rintro c s w4 ⟨j,o,hj,rfl,rfl,k4,v4,f4,vs4,ne4,z4⟩ Y hY;dsimp only;refine aJ (λSF=>?_) (λWa=>?_)
  ·have qP:j<l.length:=aB;have cQ:=cM qP;have hEj:=hnE _ (mX qP);have sC:=mM qP;generalize l[j]=b at*;have d4:aL w4 w4.drew:=aU.drew (aU.refl _ w4);have kd:=k4.tr d4;obtain⟨q,hq,hcq⟩:=bP (k:=.i) (e:=λx=>x) ((vs4.aK d4 λ_ _=>id).rd eX) cQ;obtain⟨p,hp,_,_,_,cw⟩:=(h.aO (k1.tr kd)).jV hEj;rw[dW];have gX:0<=(j:Int)/\(j:Int)<(s2.l:Int):=⟨aB,SF⟩;refine⟨gX,aA hq (aE (k:=.i) b hcq (aE (k:=.slice) g.2.1 (qN (o1.aK kd id)).2.1 ⟨gX,aA hq (aE (k:=.i) b hcq ⟨⟨hEj.1,by rw[hl];exact hEj.2⟩,aA hp (aE (k:=.i) (G.wt b) cw ?_)⟩)⟩))⟩;refine bD λw6 o6 k6 z6=>?_;have v6:=(v4.aK d4 λ_ _=>id).aK k6 λ_ _=>id;have vx:dD w6 iA 4 dU ⟨some ⟨w4.drew.heap.size,0,none⟩,1,1⟩ [(⟨(a:Int),b,G.wt b,-1⟩:bO)]:=dD.new jJ [_] o6 (by simp[maxLen]);have z46:=(d4.tr k6).size;have z14:=k4.size;have gD:((kL a).flatMap gg++(l.take j).map λb=>(⟨(a:Int),b,G.wt b,-1⟩:bO)).length<=3000:=by rw[fJ,oH,sM];omega
   refine fH jQ jJ Cq v6 (vx.rd jJ) (by show _+1<=_;omega) (by show(_+1)*32<=_;omega) λr w7 v7 m7 f7 _=>?_;have K7:aL w1 w7:=(kd.tr k6).fresh m7 λk ⟨b',bR,e⟩=>by rw[e];exact f4 b' bR
   have z7:=m7.size;rw[pP j aB];refine hY _ _ _ aB ⟨j+1,r,qP,rfl,rfl,K7,by rw[sC,wQ,<-sL];exact v7,λb' bR=>?_,((vs4.aK d4 λ_ _=>id).aK k6 λ_ _=>id).aK m7 λb' bR ⟨b'',VM,e⟩=>ne4 b' bR b'' VM e,λb' bR b'' VM=>?_,aB⟩
   ·rcases f7 with h1|⟨a',mU,GM⟩
    ·exact f4 b' (by rw[<-h1];exact bR)
    ·rw[bR] at mU;cases mU;omega
   ·rcases f7 with h1|⟨a',mU,GM⟩
    ·exact ne4 b' bR b'' (by rw[<-h1];exact VM)
    ·rw[VM] at mU;cases mU;have:=gu b' bR;omega
  ·have ej:j=l.length:=aB;subst ej;rw[oI,<-ug] at v4;rw[pP a aB];exact hX _ _ _ aB ⟨a+1,o,mU,rfl,rfl,k4,by rw[xB,GK];simpa using v4,f4⟩
 ·have ea:a=G.m:=aB;subst ea;exact hQ o w2 (by rw[hG];exact v2) (k1.tr k2) λb hb=>by have:=f2 b hb;omega
theorem RWeight_i{es:Sl}{l:List Int}{Q:Int->Bool->aH->Prop}(hr:Rd w es 1 eI l)(gD:l.length<=100000)(hE:∀x∈l,G.mH x)(hQ:∀w',aL w w'->Q (G.kQ l) true w'):xZ g es w Q:=by
 unfold xZ;have hm:=ok.m1;have hl:g.2.1.l=G.m:=h.ed.len;have ub:=hr.len;have gX:∀i,i<=l.length->0<=G.kQ (l.take i)/\G.kQ (l.take i)<=40*i:=λi=>by
  induction i with
  |zero=>intro _;simp[Gr.kQ]
  |succ i ih=>intro hi;have:=ih aB;rw[mM (show i<l.length by omega)];have hw:=ok.w1 (hE _ (mX (show i<l.length by omega)));unfold Gr.kQ at this ⊢;rw[wQ,List.sum_append];simp only[Dt,List.map_nil,List.sum_cons,List.sum_nil];omega
 refine bD λw1 o1 k1 z1=>?_;refine bL (λc s w2=>∃i:Nat,i<=l.length/\c=l.length-i/\s=(G.kQ (l.take i),(i:Int),())/\aL w1 w2) l.length ⟨0,dE _,rfl,rfl,aU.refl _ _⟩ ?_;rintro c s w2 ⟨i,hi,rfl,rfl,k2⟩ X hX;dsimp only;refine aJ (λcC=>?_) (λkC=>?_)
 ·have dJ:i<l.length:=aB;have cQ:=cM dJ;have hEi:=hE _ (mX dJ);have sC:=mM dJ;have hb:=gX i aB;have hw:=ok.w1 hEi;generalize l[i]=x at*;have d2:aL w2 w2.drew:=aU.drew (aU.refl _ w2);have kd:=k2.tr d2;obtain⟨p,hp,hc⟩:=bP (k:=.i) (e:=λx=>x) (hr.aK (k1.tr kd) cI λ_ _=>id) cQ;rw[dW];have B:0<=(i:Int)/\(i:Int)<(es.l:Int):=⟨aB,cC⟩;refine aX (l:=[.slice,.slice,.slice]) g (mJ (g:=g) (o1.aK kd id)) ⟨B,aA hp (aE (k:=.i) x hc ?_)⟩;refine Fa (h.aO (k1.tr kd)) ok λw3 k3=>?_;rw[decide_eq_true hEi];refine aF (λh=>by simp at h) (λ_=>?_);have d3:aL w3 w3.drew:=aU.drew (aU.refl _ w3);have UO:=(kd.tr k3).tr d3;obtain⟨p',hp',Dz⟩:=bP (k:=.i) (e:=λx=>x) (hr.aK (k1.tr UO) cI λ_ _=>id) cQ;obtain⟨q,hq,_,_,_,cw⟩:=(h.aO (k1.tr UO)).jV hEi;refine aE (k:=.slice) g.2.1 (qN (o1.aK UO id)).2.1 ⟨B,aA hp' (aE (k:=.i) x Dz ⟨⟨hEi.1,by rw[hl];exact hEi.2⟩,aA hq (aE (k:=.i) (G.wt x) cw ?_)⟩)⟩;rw[pP i aB,gZ (n:=G.kQ (l.take i)+G.wt x) aB aB];refine hX _ _ _ aB ⟨i+1,dJ,rfl,?_,UO⟩;rw[sC];unfold Gr.kQ;simp
 ·have:i=l.length:=aB;subst this;rw[oI];exact hQ w2 (k1.tr k2)
end
theorem Yt{w:aH}{s:Sl}{c:List Bool}{e:Int}{Q:Bool->aH->Prop}(hr:Rd w s 1 eB c)(h0:0<=e)(hQ:Q (jL c e) w):tG s e w Q:=by
 unfold tG;have hl:=hr.len;refine aJ (λ_=>aJ (λcC=>?_) (λkC=>by rw[WW aB] at hQ;exact hQ)) (λh=>absurd h0 h);obtain⟨p,hp,hc⟩:=bP (k:=.bool) (e:=λx=>x) hr (OP h0 aB);exact⟨⟨h0,cC⟩,aA hp (aE (k:=.bool) (jL c e) hc hQ)⟩
end
section
theorem met_pos{ds:List Int}{v:Nat}{d:Int}(h:ds[v]? =some d)(h0:0<=d):1<=met ds:=by
 unfold met;exact List.length_pos_of_mem (jI.2 ⟨lD h,by simpa using h0⟩)
section
variable{g:GT}{G:Gr}{W:aH}(h:GQ W g G)(ok:sS G)
include h ok
theorem RTo_i{node:Int}{lU:Sl}{c:List Bool}{Q:Sl->aH->Prop}(hN:G.GB node)(hc:Rd W lU 1 eB c)
  (hQ:∀s ds w',G.oK c node ds->dD w' dG 1 eI s ds->aL W w'->(∀b,s.b=some b->W.heap.size<=b.block)->(∀(v:Nat) x,ds[v]? =some x->-1<=x/\x<=51*BW)->Q s w'):PC g node lU W Q:=by
 unfold PC;have hm:=ok.m1;have hl:g.2.1.l=G.m:=h.ed.len;have hN':=ok.nxOk c node;refine bD λw1 o1 k1 z1=>?_;refine aX (l:=[.slice,.slice,.slice]) g (mJ (g:=g) o1) ?_;refine zj (h.aO k1) ok λw2 k2=>?_;rw[decide_eq_true hN];refine aF (λh=>by simp at h) (λ_=>?_);have og:∀{wx:aH},aL w1 wx->cU wx W.heap.size gC (UQ g):=λkx=>o1.aK kx id;refine aE (k:=.slice) g.2.1 (qN (og k2)).2.1 ?_;rw[hl];refine wW iK (aY:=eI) (0:Int) rfl eX aB (lK _) aB aB λw3 v3 k3=>?_;simp only[dW] at v3 ⊢;have zB:w2.heap.size<w3.heap.size:=v3.lt rfl;have K3:=k2.tr k3;have zW1:W.heap.size<=w1.heap.size:=k1.size;have z12:=k2.size;generalize hB:w2.heap.size=B at*;have hBW:w1.heap.size<=B:=aB;have fresh:∀b,(⟨some ⟨B,0,none⟩,G.m,G.m⟩:Sl).b=some b->W.heap.size<=b.block:=λb hb=>by cases hb;show W.heap.size<=B;omega
 have put:∀{wx:aH} {ds:List Int} {i:Nat} {x:Int} {K:aH->Prop},aL w1 wx->dD wx dG 1 eI ⟨some ⟨B,0,none⟩,G.m,G.m⟩ ds->i<ds.length->(∀wy,dD wy dG 1 eI ⟨some ⟨B,0,none⟩,G.m,G.m⟩ (ds.set i x)->aL w1 wy->aU (λk=>k=B) wx wy->K wy)->
   aI prog dG ((⟨B,0,none⟩:Addr).add (i*1)) (aD x) wx K:=λ{wx ds i x K} kx vx hi hK=>
  vx.store eX rfl (i:=i) hi x (v:=aD x) rfl cZ (FC _) λwy vy my _=>hK wy vy (kx.fresh my λk e=>by rw[show k=B from e];exact hBW) my
 refine bL (λc' t w4=>∃(i:Nat) (ds:List Int),i<=G.m/\c'=G.m-i/\t=((i:Int),())/\ds.length=G.m/\(∀j:Nat,j<i->ds[j]? =some (if G.to (j:Int)=node then 0 else-1))/\dD w4 dG 1 eI ⟨some ⟨B,0,none⟩,G.m,G.m⟩ ds/\aL w1 w4) G.m
  ⟨0,List.replicate G.m 0,dE _,rfl,rfl,by simp,λj hj=>aB,v3,K3⟩ ?_
 clear v3 K3 k3;rintro c' t w4 ⟨i,ds,hi,rfl,rfl,dl,YN,v4,k4⟩ X hX;dsimp only;refine aJ (λcC=>?_) (λkC=>?_)
 ·have dJ:i<G.m:=aB;have hE:G.mH (i:Int):=⟨aB,aB⟩;refine⟨⟨aB,cC⟩,aA rfl ?_⟩;rw[dW];refine put k4 v4 aB λw5 v5 k5 m5=>?_;obtain⟨p,hp,_,_,ct,_⟩:=(h.aO (k1.tr k5)).jV hE;refine aE (k:=.slice) g.2.1 (qN (og k5)).2.1 ⟨⟨aB,aB⟩,aA hp (aE (k:=.i) (G.to (i:Int)) ct ?_)⟩;rw[pP i aB];have dQ:∀wy x,dD wy dG 1 eI ⟨some ⟨B,0,none⟩,G.m,G.m⟩ (ds.set i x)->aL w1 wy->x=(if G.to (i:Int)=node then 0 else-1)->X (((i+1:Nat):Int),()) wy:=λwy x vy ky hx=>by
   refine hX _ _ _ aB ⟨i+1,_,dJ,rfl,rfl,by rw[nN];exact dl,λj hj=>?_,vy,ky⟩;rw[jA]
   by_cases e:i=j
   ·subst e;rw[if_pos rfl,if_pos aB,hx]
   ·rw[if_neg e];exact YN j aB
  refine aF (λhe=>?_) (λhe=>?_)
  ·have uK:G.to (i:Int)=node:=by simpa using he
   refine⟨⟨aB,aB⟩,aA rfl ?_⟩;refine put k5 v5 (by rw[nN];omega) λw6 v6 k6 m6=>?_;rw[List.set_set] at v6;exact dQ w6 0 v6 k6 (by rw[if_pos uK])
  ·have uK:¬G.to (i:Int)=node:=by simpa using he
   exact dQ w5 (-1) v5 k5 (by rw[if_neg uK])
 have ei:i=G.m:=aB;subst ei;have b0:Wn G.m (G.src node) (G.nx c) (λe=>e.f) ds:=by
  refine⟨dl,λv hv=>?_,λv d hd=>?_⟩
  ·have hvE:=hv.1;rw[YN v.toNat (by have:=hvE.2;omega),iw hvE.1,if_pos hv.2]
  ·have hv:=(eQ.1 hd).1;have h1:=YN v aB;rw[hd] at h1;have h2:=tZ h1
   by_cases e:G.to (v:Int)=node
   ·rw[if_pos e] at h2;have:=met_pos hd aB;exact .inr ⟨aB,by rw[h2];exact .nil ⟨⟨aB,aB⟩,e⟩,by simp only[BW];omega⟩
   ·rw[if_neg e] at h2;exact .inl h2
 clear hX YN kC;refine aX (l:=[.slice,.slice,.slice]) g (mJ (g:=g) (og k4)) ?_;refine RArcs_i (h.aO (k1.tr k4)) ok λs4 w7 va7 k7 f7=>?_;have v7:=v4.aK k7 λ_ _=>id;have K7:=k4.tr k7;have hal:=G.Yw hm.2;have la:=va7.len;have nB:∀b,s4.b=some b->¬b.block=B:=λb hb e=>by have:=f7 b hb;have:=v4.lt (a:=⟨B,0,none⟩) rfl;have h3:B<w4.heap.size:=this;omega
 have hmemA:∀e∈G.AB,G.sJ e.f e.t=true/\e=⟨e.f,e.t,G.wt e.t,-1⟩:=λe he=>by
  obtain⟨h1,h2,h3⟩:=G.Hx.1 he;exact⟨h1,by cases e;simp_all⟩
 have hnxA:∀(b:Int) (e:bO),e∈G.nx c b->e∈G.AB/\e.t=b/\jL c b=false:=λb e he=>by
  obtain⟨h1,h2,h3⟩:=G.CD.1 he;have ht:e.t=b:=by rw[h3]
  exact⟨G.Hx.2 ⟨by rw[ht];exact h2,by rw[h3],by rw[h3]⟩,ht,h1⟩
 generalize hA:G.AB=A at*;refine bL (λc' t w8=>∃(ag:Bool) (ds:List Int),t=(ag,())/\c'=(if ag then total ds+1 else 0)/\Wn G.m (G.src node) (G.nx c) (λe=>e.f) ds/\dD w8 dG 1 eI ⟨some ⟨B,0,none⟩,G.m,G.m⟩ ds/\aL w1 w8/\dD w8 iA 4 dU s4 A/\
   (ag=false->∀e∈A,jL c e.t=false->∀x y,ds[e.t.toNat]? =some x->0<=x->ds[e.f.toNat]? =some y->0<=y/\y<=x+e.w)) (total ds+1)
  ⟨true,ds,rfl,rfl,b0,v7,K7,va7,λh=>by cases h⟩ ?_
 clear b0 v7 K7 va7 v4 k4 k7 f7;rintro c' t w8 ⟨ag,ds,rfl,rfl,b8,v8,k8,va8,hfix⟩ Y hY;dsimp only;cases ag with
 |false=>
  refine aF (λh=>by cases h) (λ_=>?_);refine hQ _ ds w8 (b8.done hN' λv x y e hx Lj he hy=>?_) v8 (k1.tr k8) fresh (λv x hx=>?_)
  ·obtain⟨h1,h2,h3⟩:=hnxA _ e he;exact hfix rfl e h1 (by rw[h2];exact h3) x y (by rw[h2,dW];exact hx) Lj hy
  ·have fu:=ZC ds;rw[b8.len] at fu;rcases b8.val v x hx with h1|⟨h0,_,h1⟩
   ·simp only[BW];omega
   ·simp only[BW] at*;omega
 |true=>
  refine aF (λ_=>?_) (λh=>by cases h);simp only[if_true] at hY;refine bL (λc' t w9=>∃(j:Nat) (ag:Bool) (VA:List Int),j<=A.length/\c'=A.length-j/\t=(ag,(j:Int),())/\Wn G.m (G.src node) (G.nx c) (λe=>e.f) VA/\dD w9 dG 1 eI ⟨some ⟨B,0,none⟩,G.m,G.m⟩ VA/\aL w1 w9/\dD w9 iA 4 dU s4 A/\(ag=true->total VA<total ds)/\
    (ag=false->VA=ds/\∀e∈A.take j,jL c e.t=false->∀x y,ds[e.t.toNat]? =some x->0<=x->ds[e.f.toNat]? =some y->0<=y/\y<=x+e.w)) A.length
   ⟨0,false,ds,dE _,rfl,rfl,b8,v8,k8,va8,(λh=>by cases h),λ_=>⟨rfl,by simp⟩⟩ ?_
  rintro c' t w9 ⟨j,ag,VA,hj,rfl,rfl,b9,v9,k9,va9,Vg,pA⟩ Z hZ;dsimp only;rw[pP j aB];refine aJ (λcC=>?_) (λhge3=>?_)
  ·have qP:j<A.length:=aB;have cQ:=cM qP;have gF:=mX qP;have sC:=mM qP;generalize A[j]=e at*;obtain⟨hturn,he⟩:=hmemA e gF;obtain⟨eF,eT,_⟩:=G.fN.1 hturn;obtain⟨p,hp,hh⟩:=vO (va9.rd jJ) cQ;rw[dW];refine⟨⟨aB,cC⟩,aA hp (aX (nM e) hh ?_)⟩;refine CQ (x:=e) λeN LA o11 _=>?_;have oa:=qJ o11;have k9_11:=k9.tr LA;have v11:=v9.aK LA λ_ _=>id;have va11:=va9.aK LA λ_ _=>id;refine aE (k:=.i) e.t oa.2.1 ?_;refine Yt (hc.aK (k1.tr k9_11) zQ λ_ _=>id) eT.1 ?_;have take1:∀e'∈A.take (j+1),e'∈A.take j\/e'=e:=λe' uK=>by
    rw[sC] at uK;rcases kE.1 uK with h1|h1
    ·exact .inl h1
    ·exact .inr (by simpa using h1)
   have Fu:∀wz,aL eN wz->(VA=ds->jL c e.t=false->∀x y,ds[e.t.toNat]? =some x->0<=x->ds[e.f.toNat]? =some y->0<=y/\y<=x+e.w)->Z (ag,((j+1:Nat):Int),()) wz:=λwz kz oJ=>by
    refine hZ _ _ _ aB ⟨j+1,ag,VA,qP,rfl,rfl,b9,v11.aK kz λ_ _=>id,k9_11.tr kz,va11.aK kz λ_ _=>id,Vg,λhf=>⟨(pA hf).1,λe' uK=>?_⟩⟩;rcases take1 e' uK with h1|rfl
    ·exact(pA hf).2 e' h1
    ·exact oJ (pA hf).1
   refine aF (λhs=>Fu _ (aU.refl _ _) λ_ hf=>by rw[hs] at hf;cases hf) (λhs=>?_);have dl9:=b9.len;obtain⟨x,hx⟩:∃x,VA[e.t.toNat]? =some x:=⟨_,cM (by have:=eT.2;omega)⟩;obtain⟨y,hy⟩:∃y,VA[e.f.toNat]? =some y:=⟨_,cM (by have:=eF.2;omega)⟩;have d11:aL eN eN.drew:=aU.drew (aU.refl _ eN);have vD:=v11.aK d11 λ_ _=>id;obtain⟨px,hpx,cx⟩:=bP (k:=.i) (e:=λx=>x) (v11.rd eX) hx;obtain⟨px',hpx',cx'⟩:=bP (k:=.i) (e:=λx=>x) (vD.rd eX) hx;obtain⟨py,hpy,cy⟩:=bP (k:=.i) (e:=λx=>x) (vD.rd eX) hy;have oD:=qJ (o11.aK d11 id);have It:0<=e.t/\e.t<(G.m:Int):=eT;have If:0<=e.f/\e.f<(G.m:Int):=eF;refine aE (k:=.i) e.t oa.2.1 ⟨It,aA hpx (aE (k:=.i) x cx (aJ (λLj=>Fu _ (aU.refl _ _) λhd _ x' y' QB h0 _=>?_) (λLj=>?_)))⟩
   ·rw[hd] at hx;rw[hx] at QB;cases QB;have:x<0:=Lj;omega
   have hx0':0<=x:=by have:¬x<0:=Lj;omega
   have xb:x<=51*BW:=by
    have fu:=ZC VA;rw[b9.len] at fu;rcases b9.val _ _ hx with h1|⟨_,_,h1⟩
    ·omega
    ·simp only[BW] at*;omega
   have hw:=ok.w1 eT;have hew:e.w=G.wt e.t:=by rw[he]
   have wxw:aQ (x+e.w)=x+e.w:=gZ (by simp only[BW] at*;omega) (by simp only[BW] at*;omega);refine aE (k:=.i) e.t oD.2.1 ⟨It,aA hpx' (aE (k:=.i) x cx' (aE (k:=.i) e.w oD.2.2.1 (aE (k:=.i) e.f oD.1 ⟨If,aA hpy (aE (k:=.i) y cy ?_)⟩)))⟩;rw[wxw];have Vd:e∈G.nx c (e.t.toNat:Int):=by rw[iw eT.1];exact G.CD.2 ⟨hs,hturn,he⟩
   have go:(y<0\/x+e.w<y)->aI prog dG ((⟨B,0,none⟩:Addr).add (e.f.toNat*1)) (aD (x+e.w)) eN.drew λgT=>Z (true,((j+1:Nat):Int),()) gT:=λJB=>by
    refine put (k9_11.tr d11) vD (by have:=eF.2;omega) λwb vb kb mb=>?_;obtain⟨b13,t13⟩:=b9.lower hN' aB hx hx0' Vd hy JB;refine hZ _ _ _ aB ⟨j+1,true,_,qP,rfl,rfl,b13,vb,kb,(va11.aK d11 λ_ _=>id).aK mb λb hb=>nB b hb,λ_=>?_,λh=>by cases h⟩;cases ag with
    |true=>have:=Vg rfl;omega
    |false=>have:=(pA rfl).1;rw[this] at t13;rw[this];exact t13
   refine aJ (λDE=>?_) (λhnn=>?_)
   ·exact aE (k:=.i) e.f oD.1 ⟨If,aA rfl (go (.inl DE))⟩
   ·refine aE (k:=.i) e.f oD.1 ⟨If,aA hpy (aE (k:=.i) y cy ?_)⟩;refine aJ (λhgt=>aE (k:=.i) e.f oD.1 ⟨If,aA rfl (go (.inr hgt))⟩) (λLK=>?_);refine Fu _ d11 λhd _ x' y' QB h0 Dw=>?_;rw[hd] at hx hy;rw[hx] at QB;rw[hy] at Dw;cases QB;cases Dw;have h1:¬y<0:=hnn;have h2:¬y>x+e.w:=LK;omega
  ·have ej:j=A.length:=aB;subst ej;rw[oI] at pA;refine hY (if ag then total VA+1 else 0) _ _ ?_ ⟨ag,VA,rfl,rfl,b9,v9,k9,va9,λhf=>?_⟩
   ·cases ag with
    |true=>have:=Vg rfl;simp;omega
    |false=>simp
   ·rw[(pA hf).1];exact(pA hf).2
end
end
section
theorem RCmp_i{a b:Sl}{xs ys:List Int}{w:aH}{Q:Int->aH->Prop}(ha:Rd w a 1 eI xs)(hb:Rd w b 1 eI ys)(hl:xs.length<1000000)(hQ:∀r w',aL w w'->(r=0↔xs=ys)->Q r w'):JX a b w Q:=by
 unfold JX;have la:=ha.len;have lb:=hb.len;intro J hJ;have qU:∀w1,aL w w1->(∀i,i<xs.length->i<ys.length->xs[i]? =ys[i]?)->J () w1:=by
  intro w1 k1 hs;apply hJ;refine aJ (λh=>hQ _ w1 k1 ⟨λh'=>aB,λe=>by rw[e] at la;omega⟩) (λh1=>aJ (λh=>hQ _ w1 k1 ⟨λh'=>aB,λe=>by rw[e] at la;omega⟩) (λh2=>hQ _ w1 k1 ⟨λ_=>?_,λ_=>rfl⟩));apply yG;intro i
  by_cases hi:i<xs.length
  ·exact hs i hi aB
  ·rw[List.getElem?_eq_none aB,List.getElem?_eq_none aB]
 refine bL (λc t w1=>∃i:Nat,i<=xs.length/\c=xs.length-i/\t=((i:Int),())/\aL w w1/\∀j,j<i->xs[j]? =ys[j]?) xs.length ⟨0,dE _,rfl,rfl,aU.refl _ _,λj hj=>aB⟩ ?_;rintro c t w1 ⟨i,hi,rfl,rfl,k1,hs⟩ X hX;dsimp only;refine aJ (λcC=>?_) (λkC=>qU w1 k1 λj h1 h2=>hs j aB);refine aJ (λSF=>?_) (λkC=>qU w1 k1 λj h1 h2=>hs j aB);have d1:aL w1 w1.drew:=aU.drew (aU.refl _ w1);have d2:aL w1.drew w1.drew.drew:=aU.drew (aU.refl _ w1.drew);have hx:=cM (show i<xs.length by omega);have hy:=cM (show i<ys.length by omega);generalize xs[i]=x at*;generalize ys[i]=y at*;obtain⟨p,hp,hc⟩:=bP (k:=.i) (e:=λx=>x) (ha.aK (k1.tr d1) cI λ_ _=>id) hx;obtain⟨q,hq,hcq⟩:=bP (k:=.i) (e:=λx=>x) (hb.aK (k1.tr d1) cI λ_ _=>id) hy;obtain⟨p',hp',Dz⟩:=bP (k:=.i) (e:=λx=>x) (ha.aK ((k1.tr d1).tr d2) cI λ_ _=>id) hx;obtain⟨q',hq',hcq'⟩:=bP (k:=.i) (e:=λx=>x) (hb.aK ((k1.tr d1).tr d2) cI λ_ _=>id) hy;rw[dW];have ba:0<=(i:Int)/\(i:Int)<(a.l:Int):=⟨aB,cC⟩;have bb:0<=(i:Int)/\(i:Int)<(b.l:Int):=⟨aB,SF⟩;have neq:x≠y->¬xs=ys:=λgK e=>by rw[e,hy] at hx;cases hx;exact gK rfl
 refine⟨ba,aA hp (aE (k:=.i) x hc ⟨bb,aA hq (aE (k:=.i) y hcq ?_)⟩)⟩;refine aJ (λh=>hQ _ _ (k1.tr d1) ⟨λh'=>aB,λe=>absurd e (neq (Int.ne_of_lt h))⟩) (λh1=>?_);refine⟨ba,aA hp' (aE (k:=.i) x Dz ⟨bb,aA hq' (aE (k:=.i) y hcq' ?_)⟩)⟩;refine aJ (λh=>hQ _ _ ((k1.tr d1).tr d2) ⟨λh'=>aB,λe=>absurd e (neq (Int.ne_of_gt h))⟩) (λh2=>?_);rw[pP i aB];refine hX _ _ _ aB ⟨i+1,aB,rfl,rfl,(k1.tr d1).tr d2,λj hj=>?_⟩;rcases Nat.lt_or_ge j i with h'|h'
 ·exact hs j h'
 ·have:j=i:=aB;subst this;rw[hx,hy];have h1':¬x<y:=h1;have h2':¬x>y:=h2;have:x=y:=aB;rw[this]
section
variable{g:GT}{G:Gr}{W:aH}(h:GQ W g G)(ok:sS G)
include h ok
theorem RWay_i{e node:Int}{lU:Sl}{c:List Bool}{Q:Sl->Bool->aH->Prop}(hc:Rd W lU 1 eB c)
  (pA:∀w',aL W w'->(∀d,G.GB node->¬G.gw c node e d)->Q aZ false w')
  (Re:∀d1 l s w',G.mH e->G.GB node->G.oK c node d1->G.vH c d1 e l->dD w' dG 1 eI s l->aL W w'->(∀b,s.b=some b->W.heap.size<=b.block)->Q s true w'):CY g e node lU W Q:=by
 unfold CY;have hm:=ok.m1;have hl:g.2.1.l=G.m:=h.ed.len;refine bD λw1 o1 k1 z1=>?_;have og:∀{wx:aH},aL w1 wx->cU wx W.heap.size gC (UQ g):=λkx=>o1.aK kx id;refine aX (l:=[.slice,.slice,.slice]) g (mJ (g:=g) o1) ?_;refine Fa (h.aO k1) ok λw2 k2=>aF (λhn=>pA w2 (k1.tr k2) λd _ hg=>?_) (λhy=>?_)
 ·have:=(ok.Hh hg).1;rw[decide_eq_true this] at hn;cases hn
 have hE:G.mH e:=by simpa using hy
 refine aX (l:=[.slice,.slice,.slice]) g (mJ (g:=g) (og k2)) ?_;refine zj (h.aO (k1.tr k2)) ok λw3 k3=>aF (λhn=>pA w3 (k1.tr (k2.tr k3)) λd hN _=>?_) (λhy=>?_)
 ·rw[decide_eq_true hN] at hn;cases hn
 have hN:G.GB node:=by simpa using hy
 have UO:=k2.tr k3;refine aX (l:=[.slice,.slice,.slice]) g (mJ (g:=g) (og UO)) ?_;refine RTo_i (h.aO (k1.tr UO)) ok hN (hc.aK (k1.tr UO) zQ λ_ _=>id) λs1 ds w4 hd v4 k4 f4 b4=>?_;have Ch:=UO.tr k4;have IV:=v4.len;rw[hd.1] at IV;obtain⟨p,hp,hcp⟩:=bP (k:=.i) (e:=λx=>x) (v4.rd eX) (ED hd hE);refine⟨⟨hE.1,by rw[IV];exact hE.2⟩,aA hp (aE (k:=.i) (pB ds e) hcp (aJ (λDE=>pA w4 (k1.tr Ch) λd _ hg=>?_) (λuB=>?_)))⟩
 ·have:=(ok.FL hd hg).1;have h':pB ds e<0:=DE;omega
 have VX:0<=pB ds e:=by have:¬pB ds e<0:=uB;omega
 obtain⟨tot,kq⟩:=ok.Td hd (pB ds e).toNat hE VX aB;have htl:=kq.len ok;have zW:=(k1.tr Ch).size;refine bL (λc' s w5=>∃(bI:Int) (l0 l:List Int) (o:Sl),c'=l.length/\s=(bI,o,())/\G.mH bI/\G.vH c ds bI l/\l0++l=tot/\aL w4 w5/\dD w5 dG 1 eI o l0/\(∀b,o.b=some b->w4.heap.size<=b.block)) tot.length
  ⟨e,[],tot,aZ,rfl,rfl,hE,kq,rfl,aU.refl _ _,dD.nil _ _ _ _,λb hb=>by cases hb⟩ ?_
 rintro c' s w5 ⟨bI,l0,l,o,rfl,rfl,hcE,hlw,Rk,fj,vo,fo⟩ X hX;dsimp only;have k5:=Ch.tr fj;have v5:=v4.aK fj λ_ _=>id;obtain⟨p2,Cj,hcp2⟩:=bP (k:=.i) (e:=λx=>x) (v5.rd eX) (ED hd hcE);refine⟨⟨hcE.1,by rw[IV];exact hcE.2⟩,aA Cj (aE (k:=.i) (pB ds bI) hcp2 ?_)⟩;cases hlw with
 |nil hz=>refine aJ (λh=>absurd (show pB ds bI>0 from h) aB) (λ_=>?_);rw[uA] at Rk;subst Rk;exact Re ds _ o w5 hE hN hd kq vo (k1.tr k5) λb hb=>by have:=fo b hb;omega
 | @cons _ n l hz vE hlw=>
  refine aJ (λ_=>?_) (λh=>absurd (show pB ds bI>0 from hz) h);refine aX (l:=[.slice,.slice,.slice]) g (mJ (g:=g) (og k5)) ?_;refine zn (h.aO (k1.tr k5)) ok λs2 w6 v6 k6 f6=>?_;have K6:=k5.tr k6;have l2:=v6.len;have hnl:=G.yP bI;have hnE:∀b∈G.gL bI,G.mH b:=λb hb=>(G.fN.1 (G.tA.1 hb)).2.1;have nE:=(G.fN.1 (G.wY vE).1).2.1;have vs6:=v5.aK k6 λ_ _=>id;have vo6:=vo.aK k6 λ_ _=>id;have l0l:l0.length<=tot.length:=by rw[<-Rk];simp
  have z45:=fj.size;have z56:=k6.size;have app:∀w7,aL w6 w7->(cond (decide (n<(0:Int))) (Q aZ false w7) (aG w7 #[aD n] dG λa9 w9=>aW prog yI yI o (Value.slice (some a9) 1 1) w9 λ(s4:Sl) eZ=>X (n,s4,()) eZ)):=λw7 k7=>by
   refine aJ (λh=>absurd nE.1 (by have:n<0:=h;omega)) (λ_=>?_);refine bD λw9 o9 k9 z9=>?_;have k69:=k7.tr k9;have vx:dD w9 dG 1 eI ⟨some ⟨w7.heap.size,0,none⟩,1,1⟩ [n]:=dD.new eX [n] o9 (by simp[maxLen]);have z69:=k69.size;refine fH iK eX FC (vo6.aK k69 λ_ _=>id) (vx.rd eX) (by simp;omega) (by simp;omega) λr eZ v10 UZ f10 _=>?_;refine hX l.length _ _ dN ⟨n,l0++[n],l,r,rfl,rfl,nE,hlw,by rw[<-Rk];simp,((fj.tr k6).tr k69).fresh UZ λk ⟨b,hb,e⟩=>by rw[e];exact fo b hb,v10,λb hb=>?_⟩;rcases f10 with h1|⟨a,ha,cC⟩
   ·exact fo b (by rw[<-h1];exact hb)
   ·rw[hb] at ha;cases ha;omega
  have B1:0<=bI/\bI<(s1.l:Int):=⟨hcE.1,by rw[IV];exact hcE.2⟩;refine bL (λc' s w7=>∃(i:Nat) (nx:Int),i<=(G.gL bI).length/\c'=(G.gL bI).length-i/\s=(nx,(i:Int),())/\aL w6 w7/\((nx=-1/\∀x∈(G.gL bI).take i,G.qG c ds bI x=false)\/nx=n)) (G.gL bI).length
   ⟨0,-1,dE _,rfl,rfl,aU.refl _ _,.inl ⟨rfl,by simp⟩⟩ ?_
  rintro c' s w7 ⟨i,nx,hi,rfl,rfl,k7,Vd⟩ Y hY;dsimp only;refine aJ (λcC=>?_) (λkC=>?_)
  ·refine aJ (λDE=>?_) (λhnn=>?_)
   ·obtain⟨rfl,hno'⟩:nx=-1/\∀x∈(G.gL bI).take i,G.qG c ds bI x=false:=by
     rcases Vd with h1|h1
     ·exact h1
     ·have:nx<0:=DE;have:=nE.1;omega
    have dJ:i<(G.gL bI).length:=aB;have cQ:=cM dJ;have hfE:=hnE _ (mX dJ);have sC:=mM dJ;generalize (G.gL bI)[i]=f at*;obtain⟨q,hq,hcq⟩:=bP (k:=.i) (e:=λx=>x) ((v6.aK k7 λ_ _=>id).rd eX) cQ;rw[dW,pP i aB];have d7:aL w7 w7.drew:=aU.drew (aU.refl _ w7);have k7d:=k7.tr d7;have K7:=K6.tr k7d;refine⟨⟨aB,cC⟩,aA hq (aE (k:=.i) f hcq ?_)⟩;refine Yt (hc.aK (k1.tr K7) zQ λ_ _=>id) hfE.1 ?_;have next:∀nx',((nx'=-1/\G.qG c ds bI f=false)\/nx'=n)->Y (nx',((i+1:Nat):Int),()) w7.drew:=λnx' hh=>by
     refine hY _ _ _ aB ⟨i+1,nx',dJ,rfl,rfl,k7d,hh.imp (λh1=>⟨h1.1,λx hx=>?_⟩) id⟩;rw[sC] at hx;rcases kE.1 hx with hx|hx
     ·exact hno' x hx
     ·have:x=f:=by simpa using hx
      rw[this];exact h1.2
    have vd:=(vs6.aK k7 λ_ _=>id).aK d7 λ_ _=>id;obtain⟨pf,hpf,hcf⟩:=bP (k:=.i) (e:=λx=>x) (vd.rd eX) (ED hd hfE);obtain⟨pe,Qn,hce⟩:=bP (k:=.i) (e:=λx=>x) (vd.rd eX) (ED hd hcE);obtain⟨pg,hpg,_,_,_,cw⟩:=(h.aO (k1.tr K7)).jV hfE;have bf:=b4 _ _ (ED hd hfE);have hw:=ok.w1 hfE;have Bf:0<=f/\f<(s1.l:Int):=⟨hfE.1,by rw[IV];exact hfE.2⟩;refine aF (λhs=>?_) (λhs=>?_)
    ·have DB:jL c f=false:=by simpa using hs
     have okE:G.qG c ds bI f=(decide (0<=pB ds f) && decide (pB ds f+G.wt f=pB ds bI)):=by unfold Gr.qG;rw[DB];rfl
     refine⟨Bf,aA hpf (aE (k:=.i) (pB ds f) hcf (aJ (λh0=>?_) (λh0=>next _ (.inl ⟨rfl,?_⟩))))⟩
     ·refine⟨Bf,aA hpf (aE (k:=.i) (pB ds f) hcf (aE (k:=.slice) g.2.1 (qN (og K7)).2.1 ⟨⟨hfE.1,by rw[hl];exact hfE.2⟩,aA hpg (aE (k:=.i) (G.wt f) cw ⟨B1,aA Qn (aE (k:=.i) (pB ds bI) hce ?_)⟩)⟩))⟩;rw[gZ (n:=pB ds f+G.wt f) (by simp only[BW] at*;omega) (by simp only[BW] at*;omega)];refine aF (λheq=>next _ (.inr ?_)) (λgK=>next _ (.inl ⟨rfl,?_⟩))
      ·have Rj:pB ds f+G.wt f=pB ds bI:=by simpa using heq
       have oJ:G.qG c ds bI f=true:=by rw[okE];simp only[sV,decide_eq_true_eq];exact⟨h0,Rj⟩
       have:=Tg hno' cQ oJ;unfold Gr.QJ at vE;rw[vE] at this;exact(tZ this).symm
      ·have YS:¬pB ds f+G.wt f=pB ds bI:=by simpa using gK
       rw[okE];simp only[Bool.and_eq_false_iff,decide_eq_false_iff_not];exact .inr YS
     ·have Lb:¬pB ds f>=0:=h0;rw[okE];simp only[Bool.and_eq_false_iff,decide_eq_false_iff_not];exact .inl aB
    ·have DB:jL c f=true:=by simpa using hs
     exact next _ (.inl ⟨rfl,by unfold Gr.qG;rw[DB];rfl⟩)
   ·rcases Vd with⟨h1,_⟩|rfl
    ·exact absurd (show nx<0 by omega) hnn
    ·exact app w7 k7
  ·rcases Vd with⟨rfl,hno'⟩|rfl
   ·have ei:i=(G.gL bI).length:=aB;subst ei;rw[oI] at hno';unfold Gr.QJ at vE;rw[List.find?_eq_none.2 λx hx=>by rw[hno' x hx];simp] at vE;cases vE
   ·exact app w7 k7
end
end
section
section
variable{g:GT}{G:Gr}{W:aH}(h:GQ W g G)(ok:sS G)
include h ok
theorem RAsk_i{at_ node:Int}{lU:Sl}{c:List Bool}{Q:AT->aH->Prop}(hc:Rd W lU 1 eB c)
  (hQ:∀s wt f r l w',G.zU node at_ c l wt f r->dD w' dG 1 eI s l->l.length<=51->(∀b,s.b=some b->W.heap.size<=b.block)->aL W w'->Q (s,wt,f,r,()) w'):JY g at_ node lU W Q:=by
 unfold JY;have hm:=ok.m1;refine bD λw1 o1 k1 z1=>bD λw2 o2 k2 z2=>?_;have K2:=k1.tr k2;have hW1:W.heap.size<w1.heap.size:=aB;have og:∀{wx:aH},aL w1 wx->cU wx W.heap.size gC (UQ g):=λkx=>o1.aK kx id;have dQ:∀w3 s wt f r l,aL w2 w3->G.zU node at_ c l wt f r->dD w3 dG 1 eI s l->(∀b,s.b=some b->w2.heap.size<=b.block)->l.length<=51->aI prog tRAns ⟨w1.heap.size,0,none⟩ (Value.agg #[(Value.slice s.b s.l s.c),(aD wt),(Value.bool f),(Value.bool r)]) w3 λw4=>
   eV [.slice,.i,.bool,.bool] w4 ⟨w1.heap.size,0,none⟩ λ(t2:AT)=>Q (t2.1,t2.2.1,t2.2.2.1,t2.2.2.2.1,()) w4:=by
  intro w3 s wt f r l k3 hA v3 f3 hl;have o3:=o2.aK k3 id;refine eY (vs:=SK (s,wt,f,r,())) o3 Of rfl (Sd _) λw4 o4 m4 _=>?_;refine aX (l:=[.slice,.i,.bool,.bool]) (s,wt,f,r,()) (Sz o4) ?_;refine hQ s wt f r l w4 hA (v3.aK m4 λb hb e=>?_) hl (λb hb=>by have:=f3 b hb;have:=K2.size;omega) ((K2.tr k3).fresh m4 λk e=>by rw[show k=w1.heap.size from e];omega);have:=f3 b hb;have e':b.block=w1.heap.size:=e;omega
 refine aX (l:=[.slice,.slice,.slice]) g (mJ (g:=g) (og k2)) ?_;refine RWay_i (h.aO K2) ok (hc.aK K2 zQ λ_ _=>id) (λw3 k3 pA=>?_) λd1 l s1 w3 hE hN gd hl v3 k3 f3=>?_
 ·refine aF (λ_=>?_) (λh=>by simp at h);exact dQ w3 aZ 0 false false [] k3 (.no pA) (dD.nil _ _ _ _) (λb hb=>by cases hb) dN
 refine aF (λh=>by simp at h) (λ_=>?_);have ub:=hl.len ok;have nk:=hl.KT ok;have hl51:l.length<=51:=aB;have K3:=k2.tr k3;refine aX (l:=[.slice,.slice,.slice]) g (mJ (g:=g) (og K3)) ?_;refine RWeight_i (h.aO (k1.tr K3)) ok (v3.rd eX) aB (λx hx=>(nk.2.2.1 x hx).1) λw5 k5=>?_;have K5:=K3.tr k5;refine aX (l:=[.slice,.slice,.slice]) g (mJ (g:=g) (og K5)) ?_;have hg1:=ok.Tc gd hE hl λx hx=>(nk.2.2.1 x hx).2;refine RWay_i (c:=[]) (h.aO (k1.tr K5)) ok (Rd.nil _ _ _) (λw6 k6 pA=>absurd (G.Es hg1) (pA _ hN)) λd0 l0 s2 w6 _ _ ui hl0 v6 k6 f6=>?_;refine aF (λh=>by simp at h) (λ_=>?_);have hl0l:=hl0.len ok;have v36:=(v3.aK k5 λ_ _=>id).aK k6 λ_ _=>id;refine RCmp_i (v36.rd eX) (v6.rd eX) aB λx w8 k8 hx=>?_;have kk:aL w2 w8:=((k3.tr k5).tr k6).tr k8
 by_cases e:l=l0
 ·have Lj:x=0:=hx.2 e;subst Lj;subst e;exact dQ w8 s1 (G.kQ l) true _ l kk (.kc hN hE ui hl0 λx hx=>(nk.2.2.1 x hx).2) (v36.aK k8 λ_ _=>id) f3 hl51
 ·have Lj:(x !=0)=true:=by
   have:x≠0:=λh=>e (hx.1 h);simpa using this
  rw[Lj];refine dQ w8 s1 (G.kQ l) true true l kk (.oK hN hE ui gd hl0 ?_ hl) (v36.aK k8 λ_ _=>id) f3 hl51;refine Classical.byContradiction λhn=>e ?_;have hs:∀x∈l0,jL c x=false:=λx hx=>by
   cases hs:jL c x with
   |false=>rfl
   |true=>exact absurd ⟨x,hx,hs⟩ hn
  exact hl.uniq (ok.lway_same ui gd hE hl0 hs).1
end
end
theorem Ints_i{a b:Sl}{xs ys:List Int}{w:aH}{Q:Bool->aH->Prop}(ha:Rd w a 1 eI xs)(hb:Rd w b 1 eI ys)(hl:xs.length<1000000)(hQ:∀(r:Bool) w',aL w w'->(r=true↔xs=ys)->Q r w'):vY a b w Q:=by
 unfold vY;have la:=ha.len;have lb:=hb.len;refine aF (λh=>?_) (λh=>?_)
 ·refine hQ false w (aU.refl _ _) ⟨λh=>(by cases h),λe=>?_⟩;rw[la,lb,e] at h;simp at h
 ·have uk:xs.length=ys.length:=by simp at h;omega
  refine bL (λc t w1=>∃(i:Nat),i<=xs.length/\c=xs.length-i/\t=((i:Int),())/\aL w w1/\∀j,j<i->xs[j]? =ys[j]?) xs.length ⟨0,dE _,rfl,rfl,aU.refl _ _,λj hj=>aB⟩ ?_;rintro c t w1 ⟨i,hi,rfl,rfl,k1,he⟩ X hX;dsimp only;refine aJ (λcC=>?_) (λkC=>?_)
  ·have hx:=cM (show i<xs.length by omega);have hy:=cM (show i<ys.length by omega);have d1:aL w1 w1.drew:=aU.drew (aU.refl _ w1);have K1:=k1.tr d1;obtain⟨p,hp,hc⟩:=bP (k:=.i) (e:=λx=>x) (ha.aK K1 cI λ_ _=>id) hx;obtain⟨p',hp',Dz⟩:=bP (k:=.i) (e:=λx=>x) (hb.aK K1 cI λ_ _=>id) hy;rw[dW];refine⟨⟨aB,cC⟩,aA hp (aE (k:=.i) xs[i] hc ⟨⟨aB,aB⟩,aA hp' (aE (k:=.i) ys[i] Dz ?_)⟩)⟩;refine aF (λgK=>?_) (λheq=>?_)
   ·refine hQ false _ K1 ⟨λh=>(by cases h),λe=>?_⟩;subst e;exact absurd gK (by show¬((xs[i] !=xs[i])=true);simp)
   ·have Rj:xs[i]=ys[i]:=by
     have:(xs[i] !=ys[i])=false:=heq;simpa using this
    rw[gZ aB aB];refine hX (xs.length-(i+1)) _ _ aB ⟨i+1,aB,rfl,rfl,K1,λj hj=>?_⟩;rcases Nat.lt_or_ge j i with h|h
    ·exact he j h
    ·have:j=i:=aB;subst this;rw[hx,hy,Rj]
  ·refine hQ true w1 k1 ⟨λ_=>?_,λ_=>rfl⟩;apply yG;intro j
   by_cases hj:j<xs.length
   ·exact he j aB
   ·rw[List.getElem?_eq_none aB,List.getElem?_eq_none aB]
theorem shut_one{G:Gr}{W W':jD}{hs:List qV}{e m:Int}(h:LZ G W (Sh e m) W' hs)(WA:W.v.t.bK=[])(Gb:W.jU=[])(he:0<=e/\e<W.v.u.length)(hm:1<=m/\m<=1048576):W'={W with v:=W.v.Vu (W.v.u.set e.toNat (W.v.fR+m))}:=by
 obtain⟨v',ps,vE,hnil,rfl,_⟩:=h.2.2.1 rfl;obtain⟨rfl,rfl⟩:=hnil WA;have:W.v.MO (Sh e m).n (Sh e m).m=W.v.u.set e.toNat (W.v.fR+m):=by unfold iQ.MO;rw[if_pos ⟨he.1,he.2,hm.1,hm.2⟩]
 rw[this];show(⟨_,W.ds,W.jU++[],W.row⟩:jD)=_;rw[uA]
theorem ask_told{G:Gr}(ok:sS G){c:List Bool}{a v:Int}{z:FX×List gV}{l:List Int}{wt:Int}{f r:Bool}(h:TA G c (Rb a v) z)(ha:G.zU v a c l wt f r):∃m1 tl,z.2=m1::tl/\(f=true->m1=qH l wt)/\(f=false->m1=CO):=by
 obtain⟨l',w',f',r',h1,rfl⟩:=h;obtain⟨rfl,rfl,rfl,_⟩:=ok.Yx ha h1;unfold Ru;cases f with
 |true=>exact⟨_,_,rfl,λ_=>rfl,λh=>(by cases h)⟩
 |false=>exact⟨_,_,rfl,λh=>(by cases h),λ_=>rfl⟩
theorem JO:Xl (KS False λ_=>False):=oneS_i λh=>h.elim
set_option maxHeartbeats 4000000 in
theorem bp{l lU:Sl}{xs ss:List Int}{at_ node:Int}{W:aH}{Q:Bool->aH->Prop}(hl:Rd W l 1 eI xs)(hs:Rd W lU 1 eI ss)(hQ:∀w',aL W w'->Q true w'):tT l at_ node lU W Q:=by
 unfold tT;have QC:=hs.len;refine aJ (λ_=>Ey JO (λ_ _=>ks11) hQ) (λ_=>aJ (λ_=>Ey JO (λ_ _=>ks11) hQ) (λh30=>?_));refine Town_i hl λg G w3 hg ok hn16 k3=>?_;refine bD λw4 o4 k4 z4=>?_;refine eY (vs:=UQ g) o4 yY rfl (Xg g) λw5 o5 m5 _=>?_;have K5:aL w3 w5:=k4.fresh m5 λk (e:k=w3.heap.size)=>aB;refine aX (l:=[.slice,.slice,.slice]) g (mJ (g:=g) o5) ?_;refine ENew_i (g:=g) (hg.aO K5) ok λE1 w6 hE1 k6=>?_;have o6:=o5.aK k6 id;have hg6:=(hg.aO K5).aO k6;have K6:=(k3.tr K5).tr k6;have Nh:=hs.aK K6 cI λ_ _=>id;refine aX (l:=[.slice,.slice,.slice]) g (mJ (g:=g) o6) ?_;have UM:(⟨1,4,0,9,9,100⟩:wV).Ok:=⟨⟨dL _,by show 1<=16;omega⟩,⟨by show 1<=4;omega,by show 4<=16;omega⟩,by show(0:Int)<=0/\(0:Int)<=20;omega,by show(1:Int)<=9/\(9:Int)<=1000;omega,by show(9:Int)<=9/\(9:Int)<=1000;omega,by show(1:Int)<=100/\(100:Int)<=1000;omega⟩;obtain⟨c,hc⟩:∃c:wV,c=⟨1,4,0,9,9,100⟩:=⟨_,rfl⟩;rw[<-hc] at UM;have hcw:c.dA=4:=by rw[hc]
 have hmu:yK c 1<=2000:=by rw[hc];decide
 have htup:((1:Int),(4:Int),(0:Int),(9:Int),(9:Int),(100:Int),())=wS c:=by rw[hc];rfl
 rw[htup];refine NewW_i (g:=g) (c:=c) (n:=1) hg6 ok UM ⟨aB,aB⟩ λE a wa W0 w7 S7 Wd hM kW0=>aF (λh=>by cases h) (λ_=>aF (λh=>by cases h) (λ_=>aF (λh=>by cases h) (λ_=>aF (λh=>by cases h) (λ_=>?_))));obtain⟨d,YN,WA,hgr,hu0,ud,hnow0,hcfg0,hu00⟩:=hM.one;have ua:=ok.m1;have hn1:=ok.n1;have gl:g.2.1.l=G.m:=hg.ed.len;have gn:g.1.l=G.n:=hg.nd.len;have KM:=hM.k;have d7:=bY w7;have o0:=(o6.aK KM id).aK d7 id;refine aE (k:=.slice) g.2.1 (qN o0).2.1 (aE (k:=.slice) g.1 (qN o0).1 ?_);rw[gl,gn];refine Ez aB aB ⟨by rw[<-gn];exact(qN o0).1,Ez aB aB ?_⟩;have ha:G.mH (at_%(G.m:Int)):=⟨Int.emod_nonneg _ aB,Int.emod_lt_of_pos _ aB⟩;have hv:G.GB (node%(G.n:Int)):=⟨Int.emod_nonneg _ aB,Int.emod_lt_of_pos _ aB⟩;generalize at_%(G.m:Int)=x3 at*;generalize node%(G.n:Int)=x4 at*;have Lj:Wx (λ_=>False) E G a wa 1 W0 w6 0 Wd w7.drew S7:=⟨hM.x.kp d7,hM.b.kp d7,hM.ok,KM.tr d7,hM.lo⟩;have SN:=hM.jU;have ul0:∀i,(JL G.m (List.replicate G.m 0) (ss.take i)).length=G.m:=λi=>by rw[Jw,List.length_replicate]
 refine bL (λcc t w=>∃(i:Nat) (B:Int) (Wi:jD) (S:BS),i<=ss.length/\cc=ss.length-i/\t=((i:Int),())/\Wx (λ_=>False) E G a wa 1 W0 w6 B Wi w S/\(0<=B/\B<=16*i)/\Wi.jU=[]/\Wi.ds=[(d,PX c)]/\Wi.v.t.bK=[]/\Wi.v.t.grI 0=0/\(∀k,(Wi.v.lf k).getD (false:Bool)=false)/\Wi.v.fR=0/\Wi.v.dO=c/\Wi.v.u=JL G.m (List.replicate G.m 0) (ss.take i)) ss.length
  ⟨0,0,Wd,S7,dE _,rfl,rfl,Lj,aB,SN,YN,WA,hgr,ud,hnow0,hcfg0,by rw[hu00,List.take_zero];rfl⟩ ?_
 rintro cc t w ⟨i,B,Wi,S,hi,rfl,rfl,hx,hB,Gb,hdsi,hent,hgri,hlfi,hnowi,xj,hui⟩ X1 hX1;dsimp only;refine aJ (λcC=>?_) (λkC=>?_)
 ·have dJ:i<ss.length:=aB;have cQ:=cM dJ;have sC:=mM dJ;generalize ss[i]=x at*;have kd:=hx.k.tr (bY w);obtain⟨p,hp,wO⟩:=bP (k:=.i) (e:=λx=>x) (Nh.aK kd cI λ_ _=>id) cQ;rw[dW];refine⟨⟨aB,cC⟩,aA hp (aE (k:=.i) x wO (aE (k:=.slice) g.2.1 (qN (o6.aK kd id)).2.1 ?_))⟩;rw[gl];refine Ez aB aB ?_;have h0:=Int.emod_nonneg x (show(G.m:Int)≠0 by omega);have h1:=Int.emod_lt_of_pos x (show(0:Int)<G.m by omega);refine nc JO (QF:=[Sh (x%(G.m:Int)) 50]) (λ_ e he _=>by rw[oG.1 he];exact .inr (.inr (.inl rfl))) (hx.kp (bY w)) (λ_ h=>h.elim) (λev he=>by rw[oG.1 he]) dN aB (by rw[Gb];simp) aB λrh DB W1 w1 gT S13 k1 OF u1 hr1 hdo hcfg1 hbl1 _=>?_;have e:=shut_one hdo.one hent Gb ⟨h0,by rw[hui,ul0];exact h1⟩ aB;subst e;rw[pP i aB];refine hX1 (ss.length-(i+1)) _ _ aB ⟨i+1,B+16*1,_,S13,dJ,rfl,rfl,OF,aB,Gb,hdsi,hent,hgri,hlfi,hnowi,xj,?_⟩;rw[sC,bc,<-hui];show Wi.v.u.set _ (Wi.v.fR+50)=_;rw[hnowi];rfl
 ·have ei:i=ss.length:=aB;subst ei;rw[oI] at hui;refine nc JO (QF:=[Eu x3 x4,DX]) (λ_ e he _=>ks2 he) hx (λ_ h=>h.elim) (raw2 _ _) dN aB (by rw[Gb];simp) aB λrh DB W1 w1 fY S15 k1 OF u1 hr1 hdo hcfg1 hbl1 hnw1=>?_;obtain⟨z,en,V,hask,hA,vi,VY,hVnow,hVu,hVcfg,hVgr,hVmost,hVlf⟩:=begin_run ok hdo Gb hdsi hent hx.ok.v.t.fD.1 (by rw[hgri];show(0:Int)<0+1;omega) (by rw[xj];rfl) (by rw[xj,hcw];omega) (by show(0:Int)<=0/\(0:Int)<=1000000;omega) ha hv hlfi;obtain⟨hsm,jf,hl3⟩:=said_wf ok hask;rw[hui,Jl,mask_zero] at hask;have b1l:W1.jU.length<=4:=by rw[hA.jU,mE,oH,Pg,oH];omega
  have c1:W1.v.dO=c:=hcfg1.trans xj;have n1:W1.v.fR<=2:=by have:=hnw1.2;rw[hnowi] at this;simpa using this
  have zW0:W0.heap.size<=fY.heap.size:=OF.b.k0.size;have z6:w6.heap.size<=fY.heap.size:=OF.k.size;have row0:me fY.heap.size S15 fY aZ []:=fK.nil;refine bL (λcc t w=>∃(i:Nat) (B:Int) (Wi:jD) (S:BS) (r:Sl) (gs:List gV),i<=6/\cc=6-i/\t=(r,(i:Int),())/\Wx (BLs r) E G a wa 1 W0 w6 B Wi w S/\(0<=B/\B<=1000+16*i)/\Dels G W1 i Wi gs/\me fY.heap.size S w r gs/\gs.length<=i*20/\Wi.jU.length<=4+i*2000/\Wi.v.fR<=2+i/\Wi.v.dO=c/\fY.heap.size<=w.heap.size) 6
   ⟨0,B+16*2,W1,S15,aZ,[],aB,rfl,rfl,⟨OF.x.jt λk ⟨b,hb,_⟩=>(by cases hb),OF.b,OF.ok,OF.k,OF.lo⟩,aB,.zero,row0,by simp,aB,aB,c1,dL _⟩ ?_
  rintro cc t jN ⟨i,B2,W2,S2,r,gs,hi6,rfl,rfl,fq,hB2,hdels,qR,hgl,hbl2,hnow2,hcfg2,hz2⟩ X2 hX2;dsimp only;refine aJ (λhlt6=>?_) (λhge6=>?_)
  ·refine nc JO (QF:=[DX]) (λ_ e he _=>by rw[oG.1 he];exact .inl rfl) fq (λk ⟨b,hb,e⟩=>by rw[e];exact qR.lt hb) (λev he=>by rw[oG.1 he]) dN aB aB aB λrh3 Ci W3 mG qB jo Qm kl u18 hr18 hdo3 hcfg3 hbl3 hhn3=>?_;obtain⟨hhl3,hnw3⟩:=hhn3;have Ni:([DX]:List GF).length=1:=rfl;rw[Ni] at hhl3 hnw3 hbl3;rw[hcfg2] at hbl3;have row18:=(qR.kp Qm).up u18;have z17:=Qm.size;have z18:=u18.size;refine take_i (lo:=fY.heap.size) (lo2:=mG.heap.size) kl.x row18 hr18 ⟨aB,z18⟩ (λb hb=>by have:=qR.lt hb;omega) aB λr' w' i' QB row' m'=>?_;rw[pP i aB];refine hX2 (6-(i+1)) _ _ aB ⟨i+1,B2+16*1,W3,jo,r',_,aB,rfl,rfl,⟨QB,⟨kl.b.uo,kl.b.k0.fresh m' λk hk=>by have:=hk.1;omega,kl.b.lo⟩,kl.ok,kl.k.fresh m' λk hk=>by have:=hk.1;omega,kl.lo⟩,aB,.succ hdels hdo3.one,row',by rw[fJ,oH];omega,aB,aB,hcfg3.trans hcfg2,by have:=m'.size;omega⟩
  ·have ei:i=6:=aB;subst ei;obtain⟨m1,tl,hz2'⟩:∃m1 tl,z.2=m1::tl:=by
    cases hz:z.2 with
    |nil=>rw[hz] at jf;simp at jf
    |cons x y=>exact⟨x,y,rfl⟩
   obtain⟨m0,hm0⟩:∃m0,m0=iU:=⟨_,rfl⟩;rw[hz2',<-hm0] at hA hsm hl3;obtain⟨cJ,rfl⟩:∃cJ,gs=m0::m1::cJ:=by
    rcases dels_pre vi hA hsm aB hdels with⟨h,_⟩|⟨h,_⟩|⟨h,_⟩|⟨_,h⟩
    ·omega
    ·omega
    ·omega
    ·exact h
   have Du:=fq.k;refine aX (l:=[.slice,.slice,.slice]) g (mJ (g:=g) (o6.aK Du id)) ?_;refine Shut_e (hg6.aO Du) ok (Nh.aK Du cI λ_ _=>id) aB λs8 FY v8 k22 f22=>?_;refine aX (l:=[.slice,.slice,.slice]) g (mJ (g:=g) (o6.aK (Du.tr k22) id)) ?_;refine RAsk_i (g:=g) (hg6.aO (Du.tr k22)) ok (v8.rd Ct) λsa wt f rr la Le hA1 va la51 fa iz=>?_;refine fF (zs:=[sv aZ,aD 0,.bool false,.bool false]) (vs:=[sv sa,aD wt,.bool f,.bool rr]) Of rfl (by intro u hu;simp at hu;rcases hu with rfl|rfl|rfl|rfl<;>rfl) λCd o25 k25 z25=>?_;have K25:=(k22.tr iz).tr k25;refine Way_i (hE1.aO (Du.tr K25)) ((v8.aK (iz.tr k25) λ_ _=>id).rd Ct) λsb wt' f' rr' lb Qi hA2 vb _ lb51 k26 fb=>?_;obtain⟨rfl,rfl,rfl,rfl⟩:=ok.Yx hA1 hA2;obtain⟨m1',tl',hz3,ht1,ht2⟩:=ask_told ok hask hA1;have e1:m1=m1':=by rw[hz2'] at hz3;cases hz3;rfl
   subst e1;refine fF (zs:=[sv aZ,aD 0,.bool false,.bool false]) (vs:=[sv sb,aD wt,.bool f,.bool rr]) MR rfl (by intro u hu;simp at hu;rcases hu with rfl|rfl|rfl|rfl<;>rfl) λKN o28 k28 z28=>?_;have K28:=(K25.tr k26).tr k28;have o8:=o25.aK (k26.tr k28) id;have kAll:=K6.tr (Du.tr K28);have hrl:=qR.len;have hrr:=(qR.rd VW).kp Si K28;refine aJ (λh=>by simp at hrl;omega) (λ_=>?_);obtain⟨aa,sl0,hb0,hh0,_⟩:=hrr.get (i:=0) (x:=m0) rfl;obtain⟨ab,sl1,UP,hh1,hrd1,_⟩:=hrr.get (i:=1) (x:=m1) rfl;rw[hb0] at UP;cases UP;simp only[mE] at hrl;refine⟨⟨aB,aB⟩,aA hb0 (aE (k:=.i) m0.kind (iB.1 hh0 0 _ rfl) (aF (λh=>by rw[hm0] at h;cases h) (λ_=>?_)))⟩;refine aE (k:=.bool) f (cV o28 rfl) (aE (k:=.bool) f (cV o8 rfl) (aF (λh=>by simp at h) (λ_=>?_)));refine aE (k:=.i) wt (cV o28 rfl) (aE (k:=.i) wt (cV o8 rfl) (aF (λh=>by simp at h) (λ_=>?_)));refine aE (k:=.bool) f (cV o8 rfl) (aF (λhf=>?_) (λhf=>?_))
   ·have QE:f=false:=by simpa using hf
    have hm:=ht2 QE;refine⟨⟨aB,aB⟩,aA hb0 (aE (k:=.i) m1.kind (iB.1 hh1 0 _ rfl) (aF (λ_=>Ey JO (λ_ _=>ks11) λw' k'=>hQ w' (kAll.tr k')) (λh=>by rw[hm] at h;cases h)))⟩
   ·have QE:f=true:=by simpa using hf
    have hm:=ht1 QE;have dd:=bY KN;have hh1d:=(hrr.kp Si dd);obtain⟨ab,sl1,UP,hh1,hrd1,_⟩:=hh1d.get (i:=1) (x:=m1) rfl;rw[hb0] at UP;cases UP;have o8d:=o8.aK dd id;refine⟨⟨aB,aB⟩,aA hb0 (aE (k:=.i) m1.kind (iB.1 hh1 0 _ rfl) (aF (λ_=>?_) (λh=>by rw[hm] at h;cases h)))⟩;refine⟨⟨aB,aB⟩,aA hb0 (aE (k:=.i) m1.kS (iB.1 hh1 4 _ rfl) (aE (k:=.i) wt (cV o8d rfl) (aF (λ_=>?_) (λh=>by rw[hm] at h;simp[qH] at h))))⟩;refine⟨⟨aB,aB⟩,aA hb0 (aE (k:=.slice) sl1 (iB.1 hh1 3 _ rfl) (aE (k:=.slice) sa (cV o8d rfl) ?_))⟩;have va':=(va.aK ((k25.tr k26).tr k28) λ_ _=>id).aK dd λ_ _=>id;have vb':=(vb.aK k28 λ_ _=>id).aK dd λ_ _=>id;have o28d:=o28.aK dd id;have he:m1.cD=la:=by rw[hm];rfl
    rw[he] at hrd1;refine Ints_i hrd1 (va'.rd eX) aB λr1 tv k30 hr1'=>aF (λ_=>?_) (λh=>by rw[hr1'.2 rfl] at h;cases h);refine aE (k:=.slice) sb (cV (o28d.aK k30 id) rfl) (aE (k:=.slice) sa (cV (o8d.aK k30 id) rfl) ?_);refine Ints_i ((vb'.aK k30 λ_ _=>id).rd eX) ((va'.aK k30 λ_ _=>id).rd eX) aB λr2 w31 k31 YI=>aF (λ_=>?_) (λh=>by rw[YI.2 rfl] at h;cases h);exact Ey JO (λ_ _=>ks11) λw' k'=>hQ w' ((((kAll.tr dd).tr k30).tr k31).tr k')
end Go.Proofs.YtihggjgakbgomaaGreat
namespace Go.Proofs.YtihggjgakbgomaaGreat
open Go Go.Den Go.ChangeShapes Go.WideShapes Go.ChangeAt Go.RowKit
open Tryz (prog)
theorem gR:ownKnob prog.godebug=none:=iT
theorem laid:laidOutB prog=true:=iT
theorem call_of{g:FuncId}{T:Tr}(hS:pD prog g T){args:List Value}{W:aH}(h:T args W λv w'=>v=.bool true/\Nw W w'):Calls prog g args.toArray W λe w'=>e=.returned (.bool true)/\Nw W w':=
 (hS args W _ h).mono λe w' ⟨v,he,hv,hs⟩=>⟨by rw[he,hv],hs⟩
end Go.Proofs.YtihggjgakbgomaaGreat
namespace Go.Proofs.YtihggjgakbgomaaGreat
open Go Go.Den Go.ChangeShapes Go.WideShapes Go.ChangeAt Go.RowKit
open Tryz (prog)
def i1Of:List Int->Int
 | [x]=>x
 |_=>0
theorem i1Of_enc{r:List Int}(h:r.length=1):eI (i1Of r)=r.map (Value.int .i64):=by
 match r,h with
 | [x],_=>rfl
set_option maxRecDepth 100000 in
theorem arg_is{H:Type}{aY:TypeId×Value->H}{W:aH}{t b:Nat}{v:Value}{d:DataW H}{ps:List MemPlace}(ht:prog.underlying t=some (.slice dG))(ko:Value.okWide prog W .any b t v)(h:DataW.Trod aY prog W 0 (λ_=>true) true t v d ps):
  ∃(s:Sl) (xs:List Int),v=.slice s.b s.l s.c/\Rd W s 1 eI xs:=by
 obtain⟨s,dZ,rfl,hr,hl⟩:=arg_rows (m:=1) ht iT iT ko h;exact⟨s,dZ.map i1Of,rfl,hr.map i1Of λr hr=>i1Of_enc (hl r hr)⟩
end Go.Proofs.YtihggjgakbgomaaGreat
namespace Go.Proofs.YtihggjgakbgomaaGreat
open Go Go.Den Go.ChangeShapes Go.WideShapes Go.ChangeAt Go.RowKit

end Go.Proofs.YtihggjgakbgomaaGreat
