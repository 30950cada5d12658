import Derived.Test.YtihggjgakbgomaaGreatA1
import Derived.Test.YtihggjgakbgomaaGreatQ4
namespace Go.Proofs.YtihggjgakbgomaaGreat
open Go Go.Den
open Tryz (prog)
section
theorem Wu:yk prog 102:=⟨YQ,5,iA,iA,by decide⟩
structure iQ where
 cQ:yV
 sp:Nat
 tp:Nat
 lp:Nat
 dN:Int
 u:List Int
 t:sP
 gv:List Nat
 lf:Nat->Option Jw.T
 ln:Nat
 ch:Nat->lH
 yL:Nat->LH
def sP.at(t:sP)(p:Nat):Option fK:=t.aT.find? λe=>e.aL==p
def Grv(a:Nat):As:=Ex λcs=>rY a YQ cs
instance{a:Nat}:bF (Grv a):=by unfold Grv;infer_instance
inductive SI|Bq|set|Ee|lost|ch(p:Nat)
 deriving DecidableEq
abbrev UW(ee:Nat)(v:iQ):List Value:=[.pointer (some ⟨ee,0,none⟩),aD (v.cQ.kV:Int),aD (v.cQ.cO:Int),aD v.cQ.LW,aD v.cQ.nE,aD v.cQ.cap,aD v.cQ.idle,.pointer (some ⟨v.sp,0,none⟩),.pointer (some ⟨v.tp,0,none⟩),aD v.dN,.map (some v.lp)]
def UZ(v:iQ):As:=aZ (CW v.tp v.t) (vX Grv v.gv)
instance{v:iQ}:bF (UZ v):=by unfold UZ;infer_instance
def QD(ee a:Nat)(v:iQ):SI->As
 | .Bq=>rY a wY (UW ee v)
 | .set=>tE v.sp v.u
 | .Ee=>UZ v
 | .lost=>uH v.lp yN Jw v.lf v.ln
 | .ch p=>match v.t.at p with
  |some e=>jQ e.cp (v.ch p)
  |none=>DI
instance QD.loc{ee a:Nat}{v:iQ}:∀i,bF (QD ee a v i)
 | .Bq=>inferInstanceAs (bF (rY a wY (UW ee v)))
 | .set=>inferInstanceAs (bF (tE v.sp v.u))
 | .Ee=>inferInstanceAs (bF (UZ v))
 | .lost=>inferInstanceAs (bF (uH v.lp yN Jw v.lf v.ln))
 | .ch p=>by
  show bF (match v.t.at p with|some e=>jQ e.cp (v.ch p)|none=>DI)
  split<;>infer_instance
def kX(ee a:Nat)(v:iQ):As:=gE (QD ee a v)
instance{ee a:Nat}{v:iQ}:bF (kX ee a v):=by unfold kX;infer_instance
structure iQ.Ok(G:Gr)(B:Int)(v:iQ):Prop where
 cQ:v.cQ.Ok
 dN:0<=v.dN/\v.dN<=1000000000
 u:v.u.length=G.E.length/\v.u.length<=512
 t:v.t.Ok
 eO:v.t.eO=v.cQ.kV
 ch:∀e∈v.t.aT,(v.ch e.aL).Ok/\(v.ch e.aL).aP=e.aP/\(v.ch e.aL).s.cO=v.cQ.cO/\(v.ch e.aL).dl<=B
 yL:∀e∈v.t.aT,UB G (v.yL e.aL)
 Dd:∀e∈v.t.aT,(1<=e.aP/\e.aP<=2147483648)/\0<=e.kO/\e.kO<=v.dN
 lost:∀k,(v.lf k).isSome=true->(∃e∈v.t.aT,e.a=k)\/k∈v.gv
theorem sP.at_mem{t:sP}{p:Nat}{e:fK}(h:t.at p=some e):e∈t.aT/\e.aL=p:=⟨List.mem_of_find?_eq_some h,by have:=List.find?_some h;simpa using this⟩
theorem sP.MJ{t:sP}(ok:t.Ok){e:fK}(he:e∈t.aT):t.at e.aL=some e:=by
 cases h:t.at e.aL with
 |none=>have:=List.find?_eq_none.1 h e he;simp at this
 |some f=>
  obtain⟨h1,h2⟩:=sP.at_mem h;rw[ok.inj h1 he h2]
section
variable{w:aH}{S:BS}{ee a:Nat}{v:iQ}
theorem kX.Uc(h:kX ee a v w S):∃S1,rY a wY (UW ee v) w S1/\∀k,S1 k->S k:=gE.get h .Bq
theorem kX.cell(h:kX ee a v w S){k:Nat}{x:Value}(hk:(UW ee v)[k]? =some x):w.cell? ((⟨a,0,none⟩:Addr).add k)=some x:=by
 obtain⟨S1,h1,_⟩:=h.Uc;exact aO h1 hk
theorem kX.Ee(h:kX ee a v w S):∃S1,CW v.tp v.t w S1/\∀k,S1 k->S k:=by
 obtain⟨S1,⟨S2,S3,h2,h3,d,e⟩,hs⟩:=gE.get h .Ee;exact⟨S2,h2,λk hk=>hs k ((e k).2 (.inl hk))⟩
theorem kX.Dd(h:kX ee a v w S){e:fK}(he:e∈v.t.aT):cW w e.a YQ (Vd e)/\S e.a:=by
 obtain⟨S1,h1,hs⟩:=h.Ee;exact⟨(h1.Dd he).1,hs _ (h1.Dd he).2⟩
theorem kX.UT(h:kX ee a v w S){e:fK}(he:e∈v.t.aT){k:Nat}{x:Value}(hk:(Vd e)[k]? =some x):w.cell? ((⟨e.a,0,none⟩:Addr).add k)=some x:=cM (h.Dd he).1 hk
theorem kX.Ha{G:Gr}{B:Int}(h:kX ee a v w S)(ok:v.Ok G B):∀k,(v.lf k).isSome=true->yW w k:=λk hk=>by
 obtain⟨S1,⟨S2,S3,h2,h3,d,e⟩,hs⟩:=gE.get h .Ee;rcases ok.lost k hk with⟨e,he,rfl⟩|hg
 ·exact(h2.Dd he).1.Qz
 ·obtain⟨S4,⟨cs,h4⟩,_⟩:=vX.get h3 hg
  exact h4.1.Qz
theorem kX.lostMap(h:kX ee a v w S):jP w v.lp yN Jw v.lf v.ln:=by
 obtain⟨S1,h1,_⟩:=gE.get h .lost;exact h1.1
def iQ.oP(v:iQ)(p:Nat)(c:lH):iQ:={v with ch:=λq=>if q=p then c else v.ch q}
def iQ.uW(v:iQ)(p:Nat)(c:LH):iQ:={v with yL:=λq=>if q=p then c else v.yL q}
def iQ.Aj(v:iQ)(k:Nat)(b:Bool):iQ:={v with lf:=λy=>if y=k then some b else v.lf y,ln:=if(v.lf k).isSome then v.ln else v.ln+1}
theorem kX.chan(h:kX ee a v w S){e:fK}{p:Nat}(he:v.t.at p=some e):Ur w S (jQ e.cp (v.ch p)) λX=>gE (EO (QD ee a v) (.ch p) X):=by
 have h1:=gE.at h (.ch p);have e1:QD ee a v (.ch p)=jQ e.cp (v.ch p):=by show(match v.t.at p with|some e=>jQ e.cp (v.ch p)|none=>DI)=_;rw[he]
 rwa[e1] at h1
theorem fam_ch{e:fK}{p:Nat}(he:v.t.at p=some e)(c:lH):EO (QD ee a v) (.ch p) (jQ e.cp c)=QD ee a (v.oP p c):=by
 funext i
 show(if i=.ch p then jQ e.cp c else QD ee a v i)=_
 split
 ·rename_i h;subst h
  show _=(match v.t.at p with|some e=>jQ e.cp (if p=p then c else v.ch p)|none=>DI)
  rw[he,if_pos rfl]
 ·rename_i h
  cases i with
  |ch q=>
   have hq:¬q=p:=λe=>h (by rw[e]);show _=(match v.t.at q with|some e=>jQ e.cp (if q=p then c else v.ch q)|none=>DI)
   rw[if_neg hq];rfl
  |_=>rfl
theorem fam_lost(k:Nat)(b:Bool):EO (QD ee a v) .lost (uH v.lp yN Jw (λy=>if y=k then some b else v.lf y) (if(v.lf k).isSome then v.ln else v.ln+1))=QD ee a (v.Aj k b):=by
 funext i
 cases i<;>rfl
theorem kX.Vp(h:kX ee a v w S){e:fK}{p:Nat}(he:v.t.at p=some e):∃S1,jQ e.cp (v.ch p) w S1/\(∀k,S1 k->S k)/\∀c D w' T,Up S1 T w w'->aZ (jQ e.cp c) D w' T->∃S',aZ (kX ee a (v.oP p c)) D w' S'/\Up S S' w w':=by
 obtain⟨S1,h1,hs,dL⟩:=h.chan he;refine⟨S1,h1,hs,λc D w' T u hT=>?_⟩;obtain⟨S',h',u'⟩:=dL _ D w' T u hT;exact⟨S',h'.mono (λS h=>by unfold kX;rw[<-fam_ch he];exact h) λ_ h=>h,u'⟩
theorem kX.mark{G:Gr}{B:Int}(h:kX ee a v w S)(ok:v.Ok G B){e:fK}(he:e∈v.t.aT)(b:Bool){Q:aH->Prop}(hQ:∀w' S',kX ee a (v.Aj e.a b) w' S'->Up S S' w w'->Q w'):fE prog 98 (.map (some v.lp)) (.pointer (wX e)) (.bool b) w Q:=by
 obtain⟨S1,h1,_,dL⟩:=(gE.at h .lost).put;refine update_p (kn:=Jw) gg Wu h1.1 e.a b (h.Ha ok) (h.Dd he).1.Qz λw' wh mm' _=>?_;obtain⟨S',h',u'⟩:=dL (uH v.lp yN Jw (λy=>if y=e.a then some b else v.lf y) (if(v.lf e.a).isSome then v.ln else v.ln+1)) w' S1 (Up.at (mm'.mono λk _ hk=>(h1.2 k).2 hk)) ⟨wh,h1.2⟩
 exact hQ w' S' (by unfold kX;rw[<-fam_lost];exact h') u'
theorem kX.Gc{G:Gr}{B:Int}(h:kX ee a v w S)(ok:v.Ok G B){e:fK}(he:e∈v.t.aT){Q:Bool->aH->Prop}(hQ:Q ((v.lf e.a).getD (false:Bool)) w):jY prog (.c .bool) 98 (.map (some v.lp)) (.pointer (wX e)) w Q:=
 zr (kn:=Jw) gg Wu (z:=false) Ng h.lostMap e.a (h.Ha ok) (h.Dd he).1.Qz hQ
end
def eh(c:lH):Bool->List (List dA)->List gA×lH×Bool
 |lo,[]=>([],c,lo)
 |true,_::_=>([],c,true)
 |false,b::r=>((c.push b).1++(eh (c.push b).2.1 ((c.push b).2.2 !=0) r).1,(eh (c.push b).2.1 ((c.push b).2.2 !=0) r).2)
def BOk(m:lO)(b:List dA):Prop:=uM m->b=uD m
theorem uf:∀l:List lO,F2 BOk l (l.map uD)
 | []=>.nil
 |m::l=>.cons (λ_=>rfl) (uf l)
def iQ.UM(v:iQ)(p:Nat)(c:lH)(lf:Nat->Option Jw.T)(ln:Nat):iQ:={v with ch:=λq=>if q=p then c else v.ch q,lf:=lf,ln:=ln}
theorem ju{v:iQ}{p:Nat}{c c':lH}{lf:Nat->Option Jw.T}{ln:Nat}:(v.UM p c lf ln).oP p c'=v.UM p c' lf ln:=by
 unfold iQ.oP iQ.UM;simp only[iQ.mk.injEq,true_and,and_true]
 funext q
 by_cases hq:q=p<;>simp[hq]
theorem zf{v:iQ}{p:Nat}:v.UM p (v.ch p) v.lf v.ln=v:=by
 unfold iQ.UM;have:(λq=>if q=p then v.ch p else v.ch q)=v.ch:=by
  funext q
  by_cases hq:q=p<;>simp[hq]
 rw[this]
theorem rz{G:Gr}{B:Int}{v:iQ}(ok:v.Ok G B){e:fK}(he:e∈v.t.aT){c:lH}{lf:Nat->Option Jw.T}{ln k:Nat}(hc:c.Ok)(hs:du (v.ch e.aL) c k)(hlf:∀y,y≠e.a->lf y=v.lf y):(v.UM e.aL c lf ln).Ok G B:=by
 refine⟨ok.cQ,ok.dN,ok.u,ok.t,ok.eO,λf hf=>?_,ok.yL,ok.Dd,λy hy=>?_⟩
 ·show(if f.aL=e.aL then c else v.ch f.aL).Ok/\(if f.aL=e.aL then c else v.ch f.aL).aP=f.aP/\(if f.aL=e.aL then c else v.ch f.aL).s.cO=v.cQ.cO/\(if f.aL=e.aL then c else v.ch f.aL).dl<=B
  by_cases hp:f.aL=e.aL
  ·rw[if_pos hp]
   have:=ok.ch e he;rw[ok.t.inj hf he hp];exact⟨hc,hs.aP.trans this.2.1,hs.cO.trans this.2.2.1,by rw[hs.dl];exact this.2.2.2⟩
  ·rw[if_neg hp];exact ok.ch f hf
 ·by_cases hya:y=e.a
  ·exact .inl ⟨e,he,hya.symm⟩
  ·refine ok.lost y ?_
   have:lf y=v.lf y:=hlf y hya;rw[<-this];exact hy
def xT(v:iQ)(e:fK)(l:List lO)(v':iQ)(ps:List Pk):Prop:=∃bs gs c' lo lf ln,v'=v.UM e.aL c' lf ln/\F2 BOk l bs/\eh (v.ch e.aL) ((v.lf e.a).getD (false:Bool)) bs=(gs,c',lo)/\F2 (dt e.aL) gs ps/\du (v.ch e.aL) c' gs.length/\(∀y,y≠e.a->lf y=v.lf y)/\(lf e.a).getD (false:Bool)=lo
theorem say_i{G:Gr}{B:Int}{w:aH}{S P:BS}{ee a:Nat}{v:iQ}{e:fK}{ms:Sl}{l:List lO}{Q:Sl->aH->Prop}(h:kX ee a v w S)(ok:v.Ok G B)(he:e∈v.t.aT)(hm:fL w P ms l)(hP:∀k,P k->¬S k)(hl:l.length<=10)
  (hQ:∀r ps v' w' S',kX ee a v' w' S'->Up S S' w w'->rA w.heap.size S' w' r ps->v'.Ok G B->xT v e l v' ps->Q r w'):
  sF (some ⟨a,0,none⟩) (wX e) ms w Q:=by
 unfold sF;have hml:=hm.len;have Ua:=sP.MJ ok.t he;have hok0:=ok.ch e he;refine bO (λn t w3=>∃(i:Nat) (r:Sl) (ps:List Pk) (gs:List gA) (bs:List (List dA)) (c:lH) (lo:Bool) (lf:Nat->Option Jw.T) (ln:Nat) (S3:BS),i<=l.length/\n=l.length-i/\t=(r,(i:Int),())/\kX ee a (v.UM e.aL c lf ln) w3 S3/\Up S S3 w w3/\rA w.heap.size S3 w3 r ps/\F2 (dt e.aL) gs ps/\F2 BOk (l.take i) bs/\(∀Mr,eh (v.ch e.aL) ((v.lf e.a).getD false) (bs++Mr)=(gs++(eh c lo Mr).1,(eh c lo Mr).2))/\c.Ok/\du (v.ch e.aL) c gs.length/\(∀y,y≠e.a->lf y=v.lf y)/\(lf e.a).getD false=lo/\fL w3 (λk=>¬S3 k/\k<w.heap.size) ms l) l.length
  ⟨0,bD,[],[],[],v.ch e.aL,(v.lf e.a).getD false,v.lf,v.ln,S,iG _,rfl,rfl,by rw[zf];exact h,Up.refl _ _,eF.nil,.nil,.nil,λMr=>rfl,hok0.1,du.refl _,λ_ _=>rfl,rfl,hm.wk λk hk cJ=>⟨hP k hk,cJ⟩⟩ ?_
 rintro n t w3 ⟨i,r,ps,gs,bs,c,lo,lf,ln,S3,hi,rfl,rfl,h3,u3,v3,f3,b3,hsay,IJ,Tx,hlf,YC,m3⟩ X hX;have Kp:=rz ok he (ln:=ln) IJ Tx hlf;have dQ:∀Mr w4 S4,kX ee a (v.UM e.aL c lf ln) w4 S4->Up S3 S4 w3 w4->F2 BOk (l.drop i) Mr->eh c lo Mr=([],c,lo)->Q r w4:=λMr w4 S4 h4 u4 hb vT=>by
  refine hQ r ps _ w4 S4 h4 (u3.tr u4) (v3.up u4) Kp ⟨bs++Mr,gs,c,lo,lf,ln,rfl,?_,?_,f3,Tx,hlf,YC⟩
  ·have:=b3.app hb
   rwa[Cb] at this
  ·rw[hsay,vT];simp
 dsimp only;refine aJ (λcJ=>?_) (λkT=>?_)
 ·have dI:i<l.length:=aB
  have cV:=gS dI;have hdr:=List.drop_eq_getElem_cons dI;have rT:=FO dI;generalize l[i]=m at*;obtain⟨q,sl,hq,hx,hh,_⟩:=m3.get cV;rw[kE,pZ i aB];refine⟨⟨aB,cJ⟩,aA hq (bJ (l:=bc) (FV (m,sl)) hh ?_)⟩;refine fD (zs:=tA (⟨0,0,0,[],0,MC⟩,bD)) (vs:=tA (m,sl)) BY rfl (VC _) λw4 o4 k4 z4=>?_;have h4:=bF.kp h3 k4;refine aA rfl (aE (k:=.map) (some v.lp) (h4.cell rfl) ?_);refine h4.Gc Kp he ?_;have hlo':((v.UM e.aL c lf ln).lf e.a).getD false=lo:=YC;rw[hlo'];refine aF (λhl=>?_) (λhl=>?_)
  ·refine dQ ((l.drop i).map uD) w4 S3 h4 (Up.aN k4) (uf _) ?_
   rw[hdr,hl];rfl
  ·refine bJ (l:=bc) (FV (m,sl)) (o4.holds λj v hj=>by rw[pM];exact hj) ?_
   refine Enc_i (hx.rd.aK k4 cR λ_ _=>id) (λb hb=>mD (hx.Uc b hb).2 k4.size) (by have h51:m.cH.length<=51:=hx.len;show m.cH.length<=_;omega) λsb out eb w5 k5 Cx f5 l5 g5=>?_;have hx51:m.cH.length<=51:=hx.len;have K5:=k4.tr (k5.tr (bN w5));have h5:=bF.kp h3 K5;refine aA rfl (aE (k:=.ptr) (some ⟨e.cp,0,none⟩) (h5.UT he rfl) (aA rfl (aE (k:=.i) v.dN (h5.cell rfl) ?_)));obtain⟨S6,h6,_,xS⟩:=h5.Vp Ua;have ech:(v.UM e.aL c lf ln).ch e.aL=c:=by show(if e.aL=e.aL then c else _)=c;rw[if_pos rfl]
   rw[ech] at h6;refine uz h6 IJ (Cx.1.aK (bN w5) fH λ_ _=>id) aB λrg w7 S7 h7 u7 cx=>?_;obtain⟨S8,h8,u8⟩:=xS _ _ w7 S7 u7 h7;have pf:=Hy IJ (b:=out) aB;rw[ju] at h8;obtain⟨S9,h9,u9,g9⟩:=VO h8;have cs9:du (v.ch e.aL) (c.push out).2.1 (gs.length+(c.push out).1.length):=Tx.tr pf.1;have ok9:=rz ok he (ln:=ln) cx cs9 hlf;refine aA rfl (aE (k:=.map) (some v.lp) (h9.cell rfl) ?_);refine h9.mark ok9 he _ λeC XY Bv Bp=>?_;have U12:Up S3 XY w3 eC:=(((Up.aN K5).tr u8).tr u9).tr Bp;have h12':kX ee a (v.UM e.aL (c.push out).2.1 (λy=>if y=e.a then some ((c.push out).2.2 !=(0:Int)) else lf y) (if(lf e.a).isSome then ln else ln+1)) eC XY:=Bv
   have g12:=g9.up QM Bp;refine aA rfl (aE (k:=.i) (e.aL:Int) (h12'.UT he rfl) ?_);have l64:(c.push out).1.length<=1000:=by
    have h1:=pf.1.n;have h2:=cx.s.yP;have XU:=cx.s.cO;omega
   refine AJ g12 l64 (λg hg=>by have:=pf.2 g hg;omega) λrp pps gO vw v13 f13=>?_;have cg:=bF.kp h12' vw;have v13':rA eC.heap.size XY gO rp pps:=v13.sub λk hk=>bF.gH h12' k hk;have v3':=(v3.up U12).kp vw;have fl:=f3.len;have fl2:=f13.len;have n64:gs.length+(c.push out).1.length<=16:=by
    have h1:=cs9.n;have h2:=cx.s.yP;have XU:=cx.s.cO;omega
   have bd:=bF.gH cg;have zz:w.heap.size<=eC.heap.size:=iF u3.size U12.size;refine eF.app jS MB LY aB v3' v13' zz (λb hb=>(v3.up U12).lt hb) aB (iF zz vw.size) bd λr' mC v14 YA=>?_;have U14:Up S XY w mC:=Up.iH ((u3.tr U12).tr (Up.aN vw)) YA;have h14:=bF.ov cg YA;have z3:=u3.size;have yd:fL eC (λk=>¬XY k/\k<w.heap.size) ms l:=(m3.aK U12.m λk hk=>hk.1).wk λk hk _=>⟨λhs=>(U12.s k hs).elim hk.1 λhh=>by have:=hk.2;omega,hk.2⟩;refine hX _ _ _ aB ⟨i+1,r',ps++pps,gs++(c.push out).1,bs++[out],(c.push out).2.1,((c.push out).2.2 !=(0:Int)),_,_,XY,dI,rfl,rfl,h14,U14,v14,f3.app f13,by rw[rT];exact b3.app (.one λhw=>(g5 hw).1),λMr=>?_,cx,by rw[mJ];exact cs9,λy hy=>?_,?_,(yd.aN vw).aK YA λk hk hn=>?_⟩
   ·have h0:=hsay (out::Mr)
    rw[sB,List.singleton_append,h0,hl];show(gs++((c.push out).1++_),_)=_;rw[sB];rfl
   ·show(if y=e.a then _ else lf y)=_
    rw[if_neg hy];exact hlf y hy
   ·show(if e.a=e.a then _ else lf e.a).getD false=_
    rw[if_pos rfl];rfl
   ·have:=hk.2;have:=hn.1;omega
 ·have ei:i=l.length:=aB
  subst ei;refine dQ [] w3 S3 h3 (Up.refl _ _) (by rw[List.drop_length];exact .nil) ?_;cases lo<;>rfl
def zH(ee:Nat)(v:iQ)(p:Nat):As:=match v.t.at p with
 |some e=>uG ee e.sp (v.yL p)
 |none=>DI
instance zH.loc{ee:Nat}{v:iQ}(p:Nat):bF (zH ee v p):=by unfold zH;split<;>infer_instance
def CX(ee:Nat)(v:iQ):As:=gE (zH ee v)
instance{ee:Nat}{v:iQ}:bF (CX ee v):=by unfold CX;infer_instance
def gC(ee a:Nat)(v:iQ):As:=aZ (kX ee a v) (CX ee v)
instance{ee a:Nat}{v:iQ}:bF (gC ee a v):=by unfold gC;infer_instance
theorem CX.put{w:aH}{S:BS}{ee:Nat}{v:iQ}(h:CX ee v w S){e:fK}{p:Nat}(he:v.t.at p=some e):∃S1,uG ee e.sp (v.yL p) w S1/\(∀k,S1 k->S k)/\∀c w' T,Up S1 T w w'->uG ee e.sp c w' T->∃S',CX ee (v.uW p c) w' S'/\Up S S' w w':=by
 have h1:=(gE.at h p).put;have e1:zH ee v p=uG ee e.sp (v.yL p):=by unfold zH;rw[he]
 rw[e1] at h1;obtain⟨S1,h1,hs,dL⟩:=h1;refine⟨S1,h1,hs,λc w' T u hT=>?_⟩;obtain⟨S',h',u'⟩:=dL _ w' T u hT;refine⟨S',?_,u'⟩;have e2:EO (zH ee v) p (uG ee e.sp c)=zH ee (v.uW p c):=by
  funext q
  show(if q=p then uG ee e.sp c else zH ee v q)=(match v.t.at q with|some e=>uG ee e.sp (if q=p then c else v.yL q)|none=>DI)
  by_cases hq:q=p
  ·subst hq;rw[if_pos rfl,he,if_pos rfl]
  ·rw[if_neg hq,if_neg hq];rfl
 unfold CX;rw[<-e2];exact h'
end
section
structure qJ(v v':iQ):Prop where
 cQ:v'.cQ=v.cQ
 sp:v'.sp=v.sp
 tp:v'.tp=v.tp
 lp:v'.lp=v.lp
 dN:v'.dN=v.dN
 u:v'.u=v.u
 t:v'.t=v.t
 gv:v'.gv=v.gv
theorem qJ.refl(v:iQ):qJ v v:=⟨rfl,rfl,rfl,rfl,rfl,rfl,rfl,rfl⟩
theorem qJ.tr{v v' v'':iQ}(h:qJ v v')(h':qJ v' v''):qJ v v'':=⟨h'.1.trans h.1,h'.2.trans h.2,h'.3.trans h.3,h'.4.trans h.4,h'.5.trans h.5,h'.6.trans h.6,h'.7.trans h.7,h'.8.trans h.8⟩
theorem xT.same{v v':iQ}{e:fK}{l:List lO}{ps:List Pk}(h:xT v e l v' ps):qJ v v':=by
 obtain⟨bs,gs,c',lo,lf,ln,rfl,_⟩:=h;exact⟨rfl,rfl,rfl,rfl,rfl,rfl,rfl,rfl⟩
def PkOk(v:iQ)(p:Pk):Prop:=p.2.length<=3000/\∃e∈v.t.aT,p.1=(e.aL:Int)
theorem xT.vt{v v':iQ}{e:fK}{l:List lO}{ps:List Pk}(he:e∈v.t.aT)(h:xT v e l v' ps):∀p∈ps,PkOk v p:=by
 obtain⟨bs,gs,c',lo,lf,ln,rfl,_,_,h4,_⟩:=h;intro p hp;obtain⟨g,_,h1,h2⟩:=h4.mem hp;exact⟨h2.1,e,he,h1⟩
theorem xT.YE{G:Gr}{B:Int}{v v':iQ}{e:fK}{l:List lO}{ps:List Pk}(he:e∈v.t.aT)(h:xT v e l v' ps)(ok:v'.Ok G B):ps.length+(v.ch e.aL).s.n=(v'.ch e.aL).s.n/\(v'.ch e.aL).s.n<=v.cQ.cO:=by
 have hs:=h.same;obtain⟨bs,gs,c',lo,lf,ln,rfl,_,_,h4,h5,_⟩:=h;have:=ok.ch e he;have h6:=this.1.s.yP;rw[this.2.2.1] at h6;have h7:=h5.n;rw[h4.len] at h7;have e1:(v.UM e.aL c' lf ln).ch e.aL=c':=by show(if e.aL=e.aL then c' else _)=c';rw[if_pos rfl]
 rw[e1] at h6 ⊢;exact⟨h7,h6⟩
theorem Gv{α:Type}{n lo:Nat}{aY:α->List Value}{xs:List α}{s:Sl}{S S':BS}{w w' Cw:aH}(gF:∀x,aY x≠[])(hr:Rd w s n aY xs)(ho:AW s S w)(cJ:∀b,s.b=some b->b.block<lo)(u:Up S S' w w')(m:aW (λk=>lo<=k/\¬S' k) w' Cw):Rd Cw s n aY xs/\AW s S' Cw:=
 ⟨(ho.rd u hr gF).aK m gF λb hb hk=>by have:=cJ b hb;have:=hk.1;omega,λb hb=>⟨(ho.up u b hb).1,mD (ho.up u b hb).2 m.size⟩⟩
section
variable{W0 w:aH}{S:BS}{a:Nat}{v:iQ}{E:uJ}{G:Gr}{B:Int}
theorem gC.sesSay(h:gC E.e a v w S)(hb:Bs W0 E G S w)(ok:v.Ok G B){e:fK}(he:e∈v.t.aT):∃S1,uG E.e e.sp (v.yL e.aL) w S1/\(∀k,S1 k->S k)/\∀(z:LH×List lO) w' T ms,Up S1 T w w'->uG E.e e.sp z.1 w' T->UB G z.1->fL w' (λk=>w.heap.size<=k) ms z.2->z.2.length<=10->
  ∀(K:WQ Sl),(∀r ps v' w2 S',xT (v.uW e.aL z.1) e z.2 v' ps->gC E.e a v' w2 S'->Up S S' w w2->rA w.heap.size S' w2 r ps->v'.Ok G B->K r w2)->sF (some ⟨a,0,none⟩) (wX e) ms w' K:=by
 obtain⟨SC,SS,hC,hS,d,e1⟩:=h;obtain⟨S1,h1,tM,Wf⟩:=CX.put hS (sP.MJ ok.t he);refine⟨S1,h1,λk hk=>(e1 k).2 (.inr (tM k hk)),λz w' T ms u hT okz hm hl K hK=>?_⟩;obtain⟨SS',hS',uS⟩:=Wf z.1 w' T u hT;have hC':kX E.e a (v.uW e.aL z.1) w' SC:=bF.aK hC uS.m λk hk lD=>d k hk lD;have Pj:(v.uW e.aL z.1).Ok G B:=⟨ok.cQ,ok.dN,ok.u,ok.t,ok.eO,ok.ch,λf hf=>by
  show UB G (if f.aL=e.aL then z.1 else v.yL f.aL)
  split
  ·exact okz
  ·exact ok.yL f hf,ok.Dd,ok.lost⟩
 have bC:=bF.gH hC;have bS':=bF.gH hS';have zz:=uS.size;refine say_i (e:=e) hC' Pj he hm (λk hk hc=>by have:=bC k hc;omega) hl λr ps v' w2 SC2 h2 u2 v2 cy hsd=>?_;have hse:=hsd;obtain⟨bs,gs,c',lo,lf,ln,rfl,_⟩:=hse;have dd:∀k,SC k->SS' k->False:=λk hc hs=>(uS.s k hs).elim (λh=>d k hc h) λh=>by have:=bC k hc;omega
 have hS2:CX E.e ((v.uW e.aL z.1).UM e.aL c' lf ln) w2 SS':=bF.aK (A:=CX E.e (v.uW e.aL z.1)) hS' u2.m λk hk lD=>dd k lD hk;have dd2:∀k,SC2 k->SS' k->False:=λk hc hs=>(u2.s k hc).elim (λh=>dd k h hs) λh=>by have:=bS' k hs;omega
 refine hK r ps _ w2 (λk=>SC2 k\/SS' k) hsd (aZ.vP h2 hS2 dd2) ⟨?_,?_⟩ ((v2.cov λk hk=>hk.imp id λh=>bS' k h).qE zz) cy
 ·exact(uS.m.mono λk _ hk=>(e1 k).2 (.inr hk)).trans u2.m λk hk hc=>(e1 k).2 (.inl hc)
 ·rintro k (hk|hk)
  ·exact(u2.s k hk).imp (λh=>(e1 k).2 (.inl h)) λh=>aB
  ·exact(uS.s k hk).imp (λh=>(e1 k).2 (.inr h)) id
theorem gC.sD(h:gC E.e a v w S):∃SC,kX E.e a v w SC/\∀k,SC k->S k:=by
 obtain⟨SC,SS,hC,hS,d,e1⟩:=h;exact⟨SC,hC,λk hk=>(e1 k).2 (.inl hk)⟩
theorem gC.cell(h:gC E.e a v w S){k:Nat}{x:Value}(hk:(UW E.e v)[k]? =some x):w.cell? ((⟨a,0,none⟩:Addr).add k)=some x:=by
 obtain⟨SC,hC,_⟩:=h.sD;exact hC.cell hk
theorem gC.UT(h:gC E.e a v w S){e:fK}(he:e∈v.t.aT){k:Nat}{x:Value}(hk:(Vd e)[k]? =some x):w.cell? ((⟨e.a,0,none⟩:Addr).add k)=some x:=by
 obtain⟨SC,hC,_⟩:=h.sD;exact hC.UT he hk
theorem gC.Ee(h:gC E.e a v w S):∃S1,CW v.tp v.t w S1/\∀k,S1 k->S k:=by
 obtain⟨SC,hC,hs⟩:=h.sD;obtain⟨S1,h1,h2⟩:=hC.Ee;exact⟨S1,h1,λk hk=>hs k (h2 k hk)⟩
theorem gC.sset(h:gC E.e a v w S):∃S1,tE v.sp v.u w S1/\∀k,S1 k->S k:=by
 obtain⟨SC,hC,hs⟩:=h.sD;obtain⟨S1,h1,h2⟩:=gE.get hC .set;exact⟨S1,h1,λk hk=>hs k (h2 k hk)⟩
theorem ZH{CS op:Sl}{sh opl:List Int}{Q:Sl->aH->Prop}(h:gC E.e a v w S)(hb:Bs W0 E G S w)(ok:v.Ok G B)(hsh:Rd w CS 1 eI sh)(hso:AW CS S w)(Ej:Rd w op 1 eI opl)(hoo:AW op S w)(hl:sh.length<=1000/\opl.length<=1000)
  (hQ:∀r ps v' w' S',gC E.e a v' w' S'->Up S S' w w'->rA w.heap.size S' w' r ps->v'.Ok G B->qJ v v'->ps.length<=v.t.aT.length*v.cQ.cO->(∀p∈ps,PkOk v p)->((sh=[]/\opl=[])\/v.t.aT=[]->v'=v/\ps=[])->Q r w'):rK (some ⟨a,0,none⟩) CS op w Q:=by
 unfold rK;have lsh:=hsh.len;have lop:=Ej.len;rw[gM aB aB];refine aF (λh0=>?_) (λh0=>?_)
 ·exact hQ _ [] v w S h (Up.refl _ _) eF.nil ok (qJ.refl v) (iG _) (λp hp=>by cases hp) λ_=>⟨rfl,rfl⟩
 have gF:¬(sh=[]/\opl=[]):=λhh=>by rw[lsh,lop,hh.1,hh.2] at h0;simp at h0
 refine aA rfl (aE (k:=.ptr) (some ⟨v.tp,0,none⟩) (h.cell rfl) ?_);obtain⟨S1,hT,bw⟩:=h.Ee;refine Gh hT ok.t λs1 w1 v1 k1 f1=>?_;have bd:=bF.gH h;have sl:=v1.len;rw[oK] at sl;have CT:=ok.cQ.cO;have o1:AW s1 S w1:=λb bW=>⟨λhk=>by have:=bd _ hk;have:=f1 b bW;omega,v1.lt bW⟩;have olen:=ok.t.len;have pr:=ok.t.eO;refine bO (λn t w3=>∃(i:Nat) (r:Sl) (ps:List Pk) (v3:iQ) (S3:BS),i<=v.t.aT.length/\n=v.t.aT.length-i/\t=(r,(i:Int),())/\gC E.e a v3 w3 S3/\Up S S3 w w3/\rA w1.heap.size S3 w3 r ps/\v3.Ok G B/\qJ v v3/\ps.length<=i*v.cQ.cO/\(∀p∈ps,PkOk v p)/\(v.t.aT=[]->v3=v/\ps=[])/\Rd w3 s1 1 Kz (v.t.aT.map wX)/\AW s1 S3 w3/\Rd w3 CS 1 eI sh/\AW CS S3 w3/\Rd w3 op 1 eI opl/\AW op S3 w3/\w1.heap.size<=w3.heap.size) v.t.aT.length
  ⟨0,bD,[],v,S,iG _,rfl,rfl,bF.kp h k1,Up.aN k1,eF.nil,ok,qJ.refl v,iG _,λp hp=>(by cases hp),λ_=>⟨rfl,rfl⟩,v1.rd GJ,o1,hsh.aK k1 cR λ_ _=>id,hso.kp k1,Ej.aK k1 cR λ_ _=>id,hoo.kp k1,iT _⟩ ?_
 rintro n t w3 ⟨i,r,ps,v3,S3,hi,rfl,rfl,h3,u3,r3,Kp,st3,hpl,hpk,hemp,rd3,os3,rsh,osh,rop,oop,zz3⟩ X hX;dsimp only;refine aJ (λcJ=>?_) (λkT=>?_)
 ·have dI:i<v.t.aT.length:=aB
  have cV:=gS dI;have fP:=nC dI;generalize v.t.aT[i]=e at*;have Wa:e∈v3.t.aT:=by rw[st3.t];exact fP
  obtain⟨q,hq,cq⟩:=cF (k:=.ptr) (e:=λx=>x) rd3 (show(v.t.aT.map wX)[i]? =some (wX e) by rw[mF,cV];rfl);rw[kE,pZ i aB];have hd:=bF.dr h3;refine⟨⟨aB,cJ⟩,aA hq (aE (k:=.ptr) (wX e) cq (aA rfl (aE (k:=.ptr) (some ⟨e.sp,0,none⟩) (hd.UT Wa rfl) (aA rfl (aE (k:=.ptr) (some ⟨v3.sp,0,none⟩) (hd.cell rfl) ?_)))))⟩;obtain⟨S4,FX,_⟩:=hd.sset;refine Sd FX Kp.u.2 λmk w4 v4 k4 f4=>?_;have K4:=(bN w3).tr k4;have h4:=bF.kp h3 K4;refine⟨h4.UT Wa rfl,?_⟩;have hb4:=(hb.up u3).kp K4;obtain⟨S5,h5,hs5,say5⟩:=h4.sesSay hb4 Kp Wa;have z4:=K4.size;have w3d:w3.drew.heap.size=w3.heap.size:=rfl;refine SChg_i (hb4.sub hs5) h5 (Kp.yL e Wa) (rsh.aK K4 cR λ_ _=>id) aB (rop.aK K4 cR λ_ _=>id) (v4.rd Uv) λz ms w5 T hz hT uT okz hm Uk=>?_;refine say5 z w5 T ms uT hT okz hm aB _ λrs pps v6 w6 S6 hsd h6 u6 r6 Tq=>?_;have U6:Up S3 S6 w3 w6:=(Up.aN K4).tr u6;have UF:qJ v v6:=st3.tr ((⟨rfl,rfl,rfl,rfl,rfl,rfl,rfl,rfl⟩:qJ v3 (v3.uW e.aL z.1)).tr hsd.same);have hmem3':e∈(v3.uW e.aL z.1).t.aT:=Wa;have ye:=hsd.YE hmem3' Tq;have hcw:(v6.ch e.aL).s.n<=v.cQ.cO:=by have:=ye.2;rw[show(v3.uW e.aL z.1).cQ=v.cQ from st3.cQ] at this;exact this
  have r3':=r3.up U6;have bd6:=bF.gH h6;have z3:=u3.size;have im:i*v.cQ.cO<=16*16:=EU aB CT.2;refine eF.app jS MB LY aB r3' r6 aB (λb bW=>mD (r3.lt bW) z4) aB (by have:=u6.size;omega) bd6 λr' w7 v7 m7=>?_;have U7:Up S S6 w w7:=Up.iH (u3.tr U6) (m7.mono λk _ hk=>⟨iF k1.size hk.1,hk.2⟩);have h7:=bF.ov h6 m7;obtain⟨x1,x2⟩:=Gv FC rd3 os3 (λb bW=>v1.lt bW) U6 m7;obtain⟨x3,x4⟩:=Gv cR rsh osh (λb bW=>mD (hso b bW).2 k1.size) U6 m7;obtain⟨x5,x6⟩:=Gv cR rop oop (λb bW=>mD (hoo b bW).2 k1.size) U6 m7;refine hX _ _ _ aB ⟨i+1,r',ps++pps,v6,S6,dI,rfl,rfl,h7,U7,v7,Tq,UF,?_,λp hp=>?_,λh0=>(by rw[h0] at fP;cases fP),x1,x2,x3,x4,x5,x6,?_⟩
  ·rw[mJ,Nat.add_mul,Nat.one_mul];omega
  ·rcases jK.1 hp with hp|hp
   ·exact hpk p hp
   ·obtain⟨h1,f,hf,h2⟩:=hsd.vt hmem3' p hp
    exact⟨h1,f,by rw[<-st3.t];exact hf,h2⟩
  ·have:=u6.size;have:=m7.size;omega
 ·have ei:i=v.t.aT.length:=aB
  subst ei;exact hQ r ps v3 w3 S3 h3 u3 (r3.qE k1.size) Kp st3 hpl hpk λhh=>hh.elim (λhh=>absurd hh gF) hemp
theorem gC.ia(h:gC E.e a v w S):∃S1,tE v.sp v.u w S1/\(∀k,S1 k->S k)/\∀u' D w' T,Up S1 T w w'->aZ (tE v.sp u') D w' T->∃S',aZ (gC E.e a {v with u:=u'}) D w' S'/\Up S S' w w':=by
 obtain⟨S1,h1,hs,dL⟩:=(aZ.l h).c λT hT=>gE.at hT .set;refine⟨S1,h1,hs,λu' D w' T u hT=>?_⟩;obtain⟨S',h',u2⟩:=dL _ D w' T u hT;refine⟨S',h'.mono (λ_ h=>h.mono (λS h=>?_) λ_ h=>h) λ_ h=>h,u2⟩;have e:EO (QD E.e a v) .set (tE v.sp u')=QD E.e a {v with u:=u'}:=by
  funext i
  cases i<;>rfl
 unfold kX;rw[<-e];exact h
def iQ.UL(v:iQ)(u:List Int):iQ:={v with u:=u}
theorem iQ.Ok.UL(ok:v.Ok G B){u:List Int}(hu:u.length=v.u.length):(v.UL u).Ok G B:=⟨ok.cQ,ok.dN,⟨hu.trans ok.u.1,by show u.length<=512;rw[hu];exact ok.u.2⟩,ok.t,ok.eO,ok.ch,ok.yL,ok.Dd,ok.lost⟩
def iQ.YV(v:iQ)(jB vY:Int):List Int:=if 0<=jB/\jB<v.u.length/\1<=vY/\vY<=1048576 then v.u.set jB.toNat (v.dN+vY) else v.u
def iQ.Vr(v:iQ)(jB:Int):List Int:=if 0<=jB/\jB<v.u.length then v.u.set jB.toNat 0 else v.u
structure ChgS(G:Gr)(B:Int)(ee a:Nat)(v v1:iQ)(w:aH)(S:BS)(r:Sl)(ps:List Pk)(v':iQ)(w':aH)(S':BS):Prop where
 Bq:gC ee a v' w' S'
 up:Up S S' w w'
 row:rA w.heap.size S' w' r ps
 ok:v'.Ok G B
 same:qJ v1 v'
 len:ps.length<=v.t.aT.length*v.cQ.cO
 vt:∀p∈ps,PkOk v p
 nil:v.t.aT=[]->v'=v1/\ps=[]
theorem Iy{u:List Int}{e:Nat}{t:Int}:(ML u e t).length<=1:=by unfold ML;split<;>simp
theorem ua{e:Addr->Prop}{Q:Int->aH->Prop}(he:zC w E G)(hQ:Q (G.E.length:Int) w):aC (some ⟨E.e,0,none⟩:cL) λa2=>xJ .ptr w (a2.add 0) λ(p2:cL)=>aC p2 λa3=>xJ .ptr w (a3.add 0) λ(p3:cL)=>gJ p3 w Q:=
 aA rfl (aE (k:=.ptr) (some ⟨E.t.t,0,none⟩) he.cells.1 (aA rfl (aE (k:=.ptr) (some ⟨E.t.H.g,0,none⟩) he.RG.cells.1 (sR he.RG.IH hQ))))
theorem VClose_i{jB vY:Int}{Q:Sl->Int->aH->Prop}(h:gC E.e a v w S)(hb:Bs W0 E G S w)(ok:v.Ok G B)
  (hQ:∀r ps er v' w' S',ChgS G B E.e a v (v.UL (v.YV jB vY)) w S r ps v' w' S'->Q r er w'):JR (some ⟨a,0,none⟩) jB vY w Q:=by
 unfold JR;have no:∀wx,aM w wx->¬(0<=jB/\jB<v.u.length/\1<=vY/\vY<=1048576)->Q bD 1 wx:=λwx k hn=>by
  have e:v.YV jB vY=v.u:=by unfold iQ.YV;rw[if_neg hn]
  exact hQ _ [] _ v wx S ⟨bF.kp h k,Up.aN k,eF.nil,ok,by rw[e];exact qJ.refl v,iG _,λp hp=>(by cases hp),λ_=>⟨by rw[e];rfl,rfl⟩⟩
 have k0:aM w w:=aW.refl _ _;refine aF (λh=>by simp at h) (λ_=>aJ (λh0=>no w k0 λhh=>aB) (λh0=>?_));refine aA rfl (aE (k:=.ptr) (some ⟨E.e,0,none⟩) (h.cell rfl) (ua (e:=λ_=>True) hb.e ?_));rw[<-ok.u.1];refine aJ (λh1=>no w k0 λhh=>aB) (λh1=>aJ (λh2=>no w k0 λhh=>aB) (λh2=>aJ (λh3=>no w k0 λhh=>aB) (λh3=>?_)));obtain⟨e,rfl⟩:∃e:Nat,jB=(e:Int):=⟨jB.toNat,aB⟩;have heu:e<v.u.length:=aB;have Qc:v.YV (e:Int) vY=v.u.set e (v.dN+vY):=by unfold iQ.YV;rw[if_pos ⟨aB,aB,aB,aB⟩,kE]
 rw[Qc] at hQ;have hd:=bF.dr h;refine aA rfl (aE (k:=.ptr) (some ⟨v.sp,0,none⟩) (hd.cell rfl) (aA rfl (aE (k:=.i) v.dN (hd.cell rfl) ?_)));refine cC (cs:=eI (e:Int)) λw2 b2 k2 z2=>?_;have K2:=(bN w).tr k2;have h2:=bF.kp h K2;refine⟨h2.cell rfl,h2.cell rfl,?_⟩;have RV:=ok.dN;rw[gM aB aB];obtain⟨S3,h3,Bu,VF⟩:=h2.ia;refine SClose_i h3 (iV fG [(e:Int)] b2 rfl dK) heu ⟨aB,aB⟩ λrc w4 S4 h4 u4=>?_;obtain⟨S5,h5,u5⟩:=VF _ _ w4 S4 u4 h4;obtain⟨S6,S7,h6,h7,d67,e67⟩:=h5;have U6:Up S S6 w w4:=((Up.aN K2).tr u5).tr (Up.sub w4 λk hk=>(e67 k).2 (.inl hk));have Tq:(v.UL (v.u.set e (v.dN+vY))).Ok G B:=ok.UL dK;have o7:AW rc S6 w4:=λb bW=>⟨λhk=>d67 _ hk ((h7.2 _).2 ⟨b,bW,rfl⟩),h7.1.lt bW⟩;refine ZH (v:=v.UL (v.u.set e (v.dN+vY))) h6 (hb.up U6) Tq (h7.1.rd fG) o7 (opl:=[]) (Rd.nil _ _ _) (λb bW=>by cases bW) ⟨by have:=Iy (u:=v.u) (e:=e) (t:=v.dN+vY);omega,by simp⟩ λr ps v' w' S' g1 g2 g3 g4 g5 g6 g7 g8=>?_;exact hQ r ps _ v' w' S' ⟨g1,U6.tr g2,g3.qE U6.size,g4,g5,g6,g7,λhh=>g8 (.inr hh)⟩
theorem VOpen_i{jB:Int}{Q:Sl->Int->aH->Prop}(h:gC E.e a v w S)(hb:Bs W0 E G S w)(ok:v.Ok G B)
  (hQ:∀r ps er v' w' S',ChgS G B E.e a v (v.UL (v.Vr jB)) w S r ps v' w' S'->Q r er w'):OY (some ⟨a,0,none⟩) jB w Q:=by
 unfold OY;have no:∀wx,aM w wx->¬(0<=jB/\jB<v.u.length)->Q bD 1 wx:=λwx k hn=>by
  have e:v.Vr jB=v.u:=by unfold iQ.Vr;rw[if_neg hn]
  exact hQ _ [] _ v wx S ⟨bF.kp h k,Up.aN k,eF.nil,ok,by rw[e];exact qJ.refl v,iG _,λp hp=>(by cases hp),λ_=>⟨by rw[e];rfl,rfl⟩⟩
 have k0:aM w w:=aW.refl _ _;refine aF (λh=>by simp at h) (λ_=>aJ (λh0=>no w k0 λhh=>aB) (λh0=>?_));refine aA rfl (aE (k:=.ptr) (some ⟨E.e,0,none⟩) (h.cell rfl) (ua (e:=λ_=>True) hb.e ?_));rw[<-ok.u.1];refine aJ (λh1=>no w k0 λhh=>aB) (λh1=>?_);obtain⟨e,rfl⟩:∃e:Nat,jB=(e:Int):=⟨jB.toNat,aB⟩;have heu:e<v.u.length:=aB;have Qc:v.Vr (e:Int)=v.u.set e 0:=by unfold iQ.Vr;rw[if_pos ⟨aB,aB⟩,kE]
 rw[Qc] at hQ;refine aA rfl (aE (k:=.ptr) (some ⟨v.sp,0,none⟩) (h.cell rfl) ?_);refine cC (cs:=eI (e:Int)) λw2 b2 k2 z2=>?_;have h2:=bF.kp h k2;obtain⟨S3,h3,Bu,VF⟩:=h2.ia;refine SOpen_i h3 (iV fG [(e:Int)] b2 rfl dK) heu λrc w4 S4 h4 u4=>?_;obtain⟨S5,h5,u5⟩:=VF _ _ w4 S4 u4 h4;obtain⟨S6,S7,h6,h7,d67,e67⟩:=h5;have U6:Up S S6 w w4:=((Up.aN k2).tr u5).tr (Up.sub w4 λk hk=>(e67 k).2 (.inl hk));have Tq:(v.UL (v.u.set e 0)).Ok G B:=ok.UL dK;have o7:AW rc S6 w4:=λb bW=>⟨λhk=>d67 _ hk ((h7.2 _).2 ⟨b,bW,rfl⟩),h7.1.lt bW⟩;refine ZH (v:=v.UL (v.u.set e 0)) h6 (hb.up U6) Tq (sh:=[]) (Rd.nil _ _ _) (λb bW=>by cases bW) (h7.1.rd fG) o7 ⟨by simp,by have:=Iy (u:=v.u) (e:=e) (t:=0);omega⟩ λr ps v' w' S' g1 g2 g3 g4 g5 g6 g7 g8=>?_;exact hQ r ps _ v' w' S' ⟨g1,U6.tr g2,g3.qE U6.size,g4,g5,g6,g7,λhh=>g8 (.inr hh)⟩
theorem Rg{Q:Int->aH->Prop}(h:gC E.e a v w S)(hQ:Q v.dN w):GZ (some ⟨a,0,none⟩) w Q:=by
 unfold GZ;exact aF (λh=>by simp at h) (λ_=>aA rfl (aE (k:=.i) v.dN (h.cell rfl) hQ))
theorem um{Q:Sl->aH->Prop}(h:gC E.e a v w S)(ok:v.Ok G B)(hQ:∀r w',dP w' cY 1 eI r (v.t.aT.map λe=>(e.aL:Int))->aM w w'->(∀b,r.b=some b->w.heap.size<=b.block)->Q r w'):HI (some ⟨a,0,none⟩) w Q:=by
 unfold HI;obtain⟨S1,hT,_⟩:=h.Ee;refine aF (λh=>by simp at h) (λ_=>aA rfl (aE (k:=.ptr) (some ⟨v.tp,0,none⟩) (h.cell rfl) (Gh hT ok.t λs1 w1 v1 k1 f1=>?_)));have sl:=v1.len;rw[oK] at sl;have olen:=ok.t.len;have pr:=ok.t.eO;refine bO (λn t w3=>∃(i:Nat) (r:Sl),i<=v.t.aT.length/\n=v.t.aT.length-i/\t=(r,(i:Int),())/\dP w3 cY 1 eI r ((v.t.aT.take i).map λe=>(e.aL:Int))/\aM w1 w3/\∀b,r.b=some b->w1.heap.size<=b.block) v.t.aT.length
  ⟨0,bD,iG _,rfl,rfl,dP.nil _ _ _ _,aW.refl _ _,λb hb=>by cases hb⟩ ?_
 rintro n t w3 ⟨i,r,hi,rfl,rfl,v3,k3,f3⟩ X hX;dsimp only;refine aJ (λcJ=>?_) (λkT=>?_)
 ·have dI:i<v.t.aT.length:=aB
  have cV:=gS dI;have fP:=nC dI;have rT:=FO dI;generalize v.t.aT[i]=e at*;obtain⟨q,hq,cq⟩:=cF (k:=.ptr) (e:=λx=>x) ((v1.rd GJ).aK k3 FC λ_ _=>id) (show(v.t.aT.map wX)[i]? =some (wX e) by rw[mF,cV];rfl);rw[kE,pZ i aB];refine⟨⟨aB,cJ⟩,aA hq (aE (k:=.ptr) (wX e) cq (aA rfl (aE (k:=.i) (e.aL:Int) ((bF.kp h (k1.tr k3)).UT fP rfl) ?_)))⟩;refine cC (cs:=eI (e.aL:Int)) λw4 b4 k4 z4=>?_;refine fN iK fG ES (x:=⟨some ⟨w3.heap.size,0,none⟩,1,1⟩) (v3.aK k4 λ_ _=>id) (iV fG [(e.aL:Int)] b4 rfl dK) (by simp;omega) (by simp;omega) λr' w5 v5 m5 hr5 _=>?_;refine hX _ _ _ aB ⟨i+1,r',dI,rfl,rfl,by rw[rT,yQ];exact v5,(k3.tr k4).fresh m5 λk ⟨b,hb,e⟩=>by rw[e];exact f3 b hb,λb hb=>?_⟩;rcases hr5 with h|⟨b',h,h2⟩
  ·exact f3 b (h.symm.trans hb)
  ·rw[hb] at h;cases h;have:=(k3.tr k4).size;omega
 ·have ei:i=v.t.aT.length:=aB
  subst ei;rw[oY] at v3;exact hQ r w3 v3 (k1.tr k3) λb hb=>by have:=f3 b hb;have:=k1.size;omega
end
end
section
theorem Zc{l:List fK}{p q:Nat}(h:q≠p):(l.filter λf=>!decide (f.aL=p)).find? (λe=>e.aL==q)=l.find? λe=>e.aL==q:=by
 induction l with
 |nil=>rfl
 |cons x l ih=>
  by_cases hx:x.aL=p
  ·rw[List.filter_cons_of_neg (by simp[hx]),ih,List.find?_cons_of_neg (by simp[hx];omega)]
  ·rw[List.filter_cons_of_pos (by simp[hx])]
   by_cases hq:x.aL=q
   ·rw[List.find?_cons_of_pos (by simp[hq]),List.find?_cons_of_pos (by simp[hq])]
   ·rw[List.find?_cons_of_neg (by simp[hq]),List.find?_cons_of_neg (by simp[hq]),ih]
theorem at_drop{t:sP}{p q:Nat}(h:q≠p):(t.drop p).at q=t.at q:=Zc h
theorem XH{t:sP}{p:Nat}:(t.drop p).at p=none:=by
 cases h:(t.drop p).at p with
 |none=>rfl
 |some e=>
  obtain⟨h1,h2⟩:=sP.at_mem h;have:=(jE.1 h1).2;simp[h2] at this
theorem sP.Rf{t:sP}(ok:t.Ok){p:Nat}{e:fK}:t.at p=some e↔e∈t.aT/\e.aL=p:=⟨sP.at_mem,λ⟨h1,h2⟩=>by rw[<-h2];exact sP.MJ ok h1⟩
theorem at_add{t:sP}{e:fK}(ok:t.Ok)(Pj:(t.add e).Ok)(q:Nat):(t.add e).at q=if q=e.aL then some e else t.at q:=by
 apply Option.ext;intro f;rw[sP.Rf Pj];show(f∈Li e t.aT/\f.aL=q)↔_;rw[oE]
 by_cases hq:q=e.aL
 ·rw[if_pos hq]
  constructor
  ·rintro⟨rfl|⟨_,h⟩,h2⟩
   ·rfl
   ·exact absurd (h2.trans hq) h
  ·intro h;cases h;exact⟨.inl rfl,hq.symm⟩
 ·rw[if_neg hq,sP.Rf ok]
  constructor
  ·rintro⟨rfl|⟨h,_⟩,h2⟩
   ·exact absurd h2.symm hq
   ·exact⟨h,h2⟩
  ·rintro⟨h,h2⟩;exact⟨.inr ⟨h,λh3=>hq (h2.symm.trans h3)⟩,h2⟩
theorem iu:∀{l:List fK} {w:aH} {S:BS},vX IZ l w S->vX Grv (l.map (·.a)) w S
 | [],_,_,h=>h
 |e::l,_,_,h=>aZ.mono h (λ_ h=>⟨Vd e,h⟩) λ_ h=>iu h
structure Nd(v v':iQ)(p:Nat):Prop where
 cQ:v'.cQ=v.cQ
 sp:v'.sp=v.sp
 tp:v'.tp=v.tp
 lp:v'.lp=v.lp
 dN:v'.dN=v.dN
 u:v'.u=v.u
 lf:v'.lf=v.lf
 ln:v'.ln=v.ln
 nu:∀q,q≠p->v'.t.at q=v.t.at q
 ch:∀q,q≠p->v'.ch q=v.ch q
 yL:∀q,q≠p->v'.yL q=v.yL q
section
variable{w:aH}{S:BS}{ee a:Nat}{v:iQ}
theorem tz{v':iQ}{p:Nat}(x:Nd v v' p):EO (EO (QD ee a v) (.ch p) (QD ee a v' (.ch p))) .Ee (UZ v')=QD ee a v':=by
 funext i
 cases i with
 |Bq=>show rY a wY (UW ee v)=rY a wY (UW ee v');unfold UW;rw[x.cQ,x.sp,x.tp,x.lp,x.dN]
 |set=>show tE v.sp v.u=tE v'.sp v'.u;rw[x.sp,x.u]
 |Ee=>rfl
 |lost=>show uH v.lp yN Jw v.lf v.ln=uH v'.lp yN Jw v'.lf v'.ln;rw[x.lp,x.lf,x.ln]
 |ch q=>
  show(if SI.ch q=.Ee then UZ v' else if SI.ch q=.ch p then QD ee a v' (.ch p) else QD ee a v (.ch q))=_
  rw[if_neg dK]
  by_cases hq:q=p
  ·rw[if_pos (by rw[hq]),hq]
  ·rw[if_neg (by simpa using hq)]
   show(match v.t.at q with|some e=>jQ e.cp (v.ch q)|none=>DI)=(match v'.t.at q with|some e=>jQ e.cp (v'.ch q)|none=>DI)
   rw[x.nu q hq,x.ch q hq]
theorem kX.putTab(h:kX ee a v w S)(p:Nat):∃S1,aZ (QD ee a v (.ch p)) (UZ v) w S1/\(∀k,S1 k->S k)/\∀v' D w' T,Nd v v' p->Up S1 T w w'->aZ (aZ (QD ee a v' (.ch p)) (UZ v')) D w' T->∃S',aZ (kX ee a v') D w' S'/\Up S S' w w':=by
 obtain⟨S1,h1,hs,dL⟩:=gE.at2 (A:=QD ee a v) (i:=SI.ch p) (j:=SI.Ee) h dK;refine⟨S1,h1,hs,λv' D w' T x u hT=>?_⟩;obtain⟨S',h',u'⟩:=dL _ _ D w' T u hT;exact⟨S',h'.mono (λ_ h=>by unfold kX;rw[<-tz x];exact h) λ_ h=>h,u'⟩
theorem ry{v':iQ}{p:Nat}(x:Nd v v' p):EO (zH ee v) p (zH ee v' p)=zH ee v':=by
 funext q
 show(if q=p then zH ee v' p else zH ee v q)=_
 by_cases hq:q=p
 ·rw[if_pos hq,hq]
 ·rw[if_neg hq];unfold zH;rw[x.nu q hq,x.yL q hq]
theorem CX.putX(h:CX ee v w S)(p:Nat):∃S1,zH ee v p w S1/\(∀k,S1 k->S k)/\∀v' w' T,Nd v v' p->Up S1 T w w'->zH ee v' p w' T->∃S',CX ee v' w' S'/\Up S S' w w':=by
 obtain⟨S1,h1,hs,dL⟩:=(gE.at h p).put;refine⟨S1,h1,hs,λv' w' T x u hT=>?_⟩;obtain⟨S',h',u'⟩:=dL _ w' T u hT;exact⟨S',by unfold CX;rw[<-ry x];exact h',u'⟩
def iQ.jO(v:iQ)(p:Nat):iQ:={v with t:=v.t.drop p,gv:=(v.t.aT.filter λf=>decide (f.aL=p)).map (·.a)++v.gv}
theorem dropE_ok{G:Gr}{B:Int}(ok:v.Ok G B)(p:Nat):(v.jO p).Ok G B:=
 have sub:∀f∈(v.t.drop p).aT,f∈v.t.aT:=λf hf=>(jE.1 hf).1
 ⟨ok.cQ,ok.dN,ok.u,ok.t.drop p,ok.eO,λf hf=>ok.ch f (sub f hf),λf hf=>ok.yL f (sub f hf),λf hf=>ok.Dd f (sub f hf),λk hk=>by
  rcases ok.lost k hk with⟨f,hf,rfl⟩|h
  ·by_cases hp:f.aL=p
   ·exact .inr (List.mem_append_left _ (lK.2 ⟨f,jE.2 ⟨hf,by simp[hp]⟩,rfl⟩))
   ·exact .inl ⟨f,jE.2 ⟨hf,by simp[hp]⟩,rfl⟩
  ·exact .inr (List.mem_append_right _ h)⟩
theorem Iw(v:iQ)(p:Nat):Nd v (v.jO p) p:=⟨rfl,rfl,rfl,rfl,rfl,rfl,rfl,rfl,λq hq=>at_drop hq,λq _=>rfl,λq _=>rfl⟩
theorem uo{G:Gr}{B:Int}{p:Nat}{QH:Sl}{Q:Sl->aH->Prop}(h:gC ee a v w S)(ok:v.Ok G B)(hr:Rd w QH 1 eI [(p:Int)])(ho:AW QH S w)
  (hQ:∀r w' S',gC ee a (v.jO p) w' S'->Up S S' w w'->(v.jO p).Ok G B->(∀f∈v.t.aT,f.aL=p->cW w' f.a YQ (Vd f))->Q r w'):pN (some ⟨v.tp,0,none⟩) QH w Q:=by
 have bd:=bF.gH h;obtain⟨SC,SS,hC,hS,d,e⟩:=h;obtain⟨S1,h1,tM,Wf⟩:=hC.putTab p;obtain⟨S2,S3,h2,⟨S4,S5,h4,h5,d45,e45⟩,d23,e23⟩:=h1;have inC:∀k,S4 k->SC k:=λk hk=>tM k ((e23 k).2 (.inr ((e45 k).2 (.inl hk))));refine TDrop_i h4 ok.t hr (λb hb=>⟨λhk=>(ho b hb).1 ((e _).2 (.inl (inC _ hk))),(ho b hb).2⟩) λr w' S6 h6 u6=>?_;obtain⟨S7,S8,h7,h8,d78,Kk⟩:=h6;have h5':vX Grv v.gv w' S5:=bF.aK h5 u6.m λk h1 h2=>d45 k h2 h1;have d65:∀k,S6 k->S5 k->False:=u6.fq (λk h1 h2=>d45 k h1 h2) (bF.gH h5);have hT:UZ (v.jO p) w' (λk=>S7 k\/(S8 k\/S5 k)):=aZ.vP h7 (VT (aZ.vP (iu h8) h5' λk h1 h2=>d65 k ((Kk k).2 (.inr h1)) h2)) λk h1 h2=>h2.elim (d78 k h1) λh=>d65 k ((Kk k).2 (.inl h1)) h;have hE:QD ee a (v.jO p) (.ch p)=DI:=by
  show(match (v.t.drop p).at p with|some e=>_|none=>DI)=_
  rw[XH]
 have hX:aZ (aZ (QD ee a (v.jO p) (.ch p)) (UZ (v.jO p))) DI w' (λk=>S7 k\/(S8 k\/S5 k)):=by
  rw[hE];exact aZ.emp ⟨λ_=>False,_,λ_=>id,hT,λ_ h _=>h,λk=>⟨.inr,λh=>h.elim False.elim id⟩⟩
 have UX:Up S1 (λk=>S7 k\/(S8 k\/S5 k)) w w':=⟨u6.m.mono λk _ hk=>(e23 k).2 (.inr ((e45 k).2 (.inl hk))),λk hk=>by
  rcases hk with hk|hk|hk
  ·exact(u6.s k ((Kk k).2 (.inl hk))).imp (λh=>(e23 k).2 (.inr ((e45 k).2 (.inl h)))) id
  ·exact(u6.s k ((Kk k).2 (.inr hk))).imp (λh=>(e23 k).2 (.inr ((e45 k).2 (.inl h)))) id
  ·exact .inl ((e23 k).2 (.inr ((e45 k).2 (.inr hk))))⟩
 obtain⟨S9,h9,u9⟩:=Wf _ _ w' _ (Iw v p) UX hX;obtain⟨FP,IN,Ed⟩:=h9.drop;have UC:Up SC FP w w':=u9.tr Ed;have hS':CX ee v w' SS:=bF.aK hS UC.m λk h1 h2=>d k h2 h1;obtain⟨Mv,Ki,hs11,Gg⟩:=CX.putX hS' p;have hE2:zH ee (v.jO p) p w' (λ_=>False):=by
  have:zH ee (v.jO p) p=DI:=by unfold zH;rw[show(v.jO p).t.at p=none from XH]
  rw[this];exactλ_=>id
 obtain⟨XY,Bv,Bp⟩:=Gg (v.jO p) w' _ (Iw v p) (Up.sub w' λk hk=>hk.elim) hE2;have PY:∀k,XY k->SS k\/w'.heap.size<=k:=Bp.s;have b12:=bF.gH Bv;have sub12:∀k,XY k->SS k:=λk hk=>(PY k hk).resolve_right λh=>by have:=b12 k hk;omega
 refine hQ r w' (λk=>FP k\/XY k) (aZ.vP IN Bv λk h1 h2=>?_) ⟨UC.m.mono λk _ hk=>(e k).2 (.inl hk),λk hk=>?_⟩ (dropE_ok ok p) λf hf hfp=>?_
 ·exact(UC.s k h1).elim (λh=>d k h (sub12 k h2)) λh=>by have:=bd k ((e k).2 (.inr (sub12 k h2)));omega
 ·rcases hk with hk|hk
  ·exact(UC.s k hk).imp (λh=>(e k).2 (.inl h)) id
  ·exact .inl ((e k).2 (.inr (sub12 k hk)))
 ·obtain⟨_,cg,_⟩:=vX.get h8 (x:=f) (jE.2 ⟨hf,by simp[hfp]⟩)
  exact cg.1
def iQ.oO(v:iQ)(e:fK)(c:lH)(z:LH):iQ:={v with t:=v.t.add e,gv:=(oldE e.aL v.t.aT).map (·.a)++v.gv,ch:=λq=>if q=e.aL then c else v.ch q,yL:=λq=>if q=e.aL then z else v.yL q}
theorem addE_ok{G:Gr}{B:Int}(ok:v.Ok G B){e:fK}{c:lH}{z:LH}(Pj:(v.t.add e).Ok)(hc:c.Ok/\c.aP=e.aP/\c.s.cO=v.cQ.cO/\c.dl<=B)(hz:UB G z)(he:(1<=e.aP/\e.aP<=2147483648)/\0<=e.kO/\e.kO<=v.dN):(v.oO e c z).Ok G B:=by
 refine⟨ok.cQ,ok.dN,ok.u,Pj,ok.eO,λf hf=>?_,λf hf=>?_,λf hf=>?_,λk hk=>?_⟩
 ·show(if f.aL=e.aL then c else v.ch f.aL).Ok/\(if f.aL=e.aL then c else v.ch f.aL).aP=f.aP/\(if f.aL=e.aL then c else v.ch f.aL).s.cO=v.cQ.cO/\(if f.aL=e.aL then c else v.ch f.aL).dl<=B
  rcases oE.1 hf with rfl|⟨h1,h2⟩
  ·rw[if_pos rfl];exact hc
  ·rw[if_neg h2];exact ok.ch f h1
 ·show UB G (if f.aL=e.aL then z else v.yL f.aL)
  rcases oE.1 hf with rfl|⟨h1,h2⟩
  ·rw[if_pos rfl];exact hz
  ·rw[if_neg h2];exact ok.yL f h1
 ·rcases oE.1 hf with rfl|⟨h1,_⟩
  ·exact he
  ·exact ok.Dd f h1
 ·rcases ok.lost k hk with⟨f,hf,rfl⟩|h
  ·by_cases hp:f.aL=e.aL
   ·exact .inr (List.mem_append_left _ (lK.2 ⟨f,oldE_mem.2 ⟨hf,hp⟩,rfl⟩))
   ·exact .inl ⟨f,oE.2 (.inr ⟨hf,hp⟩),rfl⟩
  ·exact .inr (List.mem_append_right _ h)
theorem VAdd_i{G:Gr}{B:Int}{SC SS SB SH SZ:BS}{e:fK}{c:lH}{z:LH}{Q:Int->aH->Prop}(hC:kX ee a v w SC)(hS:CX ee v w SS)(hB:IZ e w SB)(hH:jQ e.cp c w SH)(hZ:uG ee e.sp z w SZ)(dC:∀k,SC k->(SS k\/SB k\/SH k\/SZ k)->False)(dS:∀k,SS k->(SB k\/SH k\/SZ k)->False)(dB:∀k,SB k->(SH k\/SZ k)->False)(dH:∀k,SH k->SZ k->False)
  (ok:v.Ok G B) (hp:e.aL<16) (hm:v.t.vQ e.aL e.aP=0) (hc:c.Ok/\c.aP=e.aP/\c.s.cO=v.cQ.cO/\c.dl<=B) (hz:UB G z) (he:(1<=e.aP/\e.aP<=2147483648)/\0<=e.kO/\e.kO<=v.dN)
  (hQ:∀w' SA SX,kX ee a (v.oO e c z) w' SA->CX ee (v.oO e c z) w' SX->(∀k,SA k->SX k->False)->(∀k,SA k->SC k\/SB k\/SH k\/w.heap.size<=k)->(∀k,SX k->SS k\/SZ k)->aW (λk=>SC k\/SB k) w w'->(v.oO e c z).Ok G B->Q 0 w'):NB (some ⟨v.tp,0,none⟩) (wX e) w Q:=by
 obtain⟨S1,h1,tM,Wf⟩:=gE.at2X (A:=QD ee a v) (i:=SI.ch e.aL) (j:=SI.Ee) hC dK;obtain⟨S2,S3,h2,⟨S4,S5,h4,h5,d45,e45⟩,d23,e23⟩:=h1;have in4:∀k,S4 k->SC k:=λk hk=>tM k ((e23 k).2 (.inr ((e45 k).2 (.inl hk))));have bf:∀k,S5 k->SC k:=λk hk=>tM k ((e23 k).2 (.inr ((e45 k).2 (.inr hk))));have b5:=bF.gH h5;have bC:=bF.gH hC;have bS:=bF.gH hS;have bH:=bF.gH hH;have bZ:=bF.gH hZ;have hTE:aZ (CW v.tp v.t) (IZ e) w (λk=>S4 k\/SB k):=aZ.vP h4 hB λk h1 h2=>dC k (in4 k h1) (.inr (.inl h2));refine TAdd_i hTE ok.t hp he.1 hm λw' S6 h6 u6 Tq=>?_;obtain⟨S7,S8,h7,h8,d78,Kk⟩:=h6;have n5:∀k,S5 k->¬(S4 k\/SB k):=λk h h'=>h'.elim (λh1=>d45 k h1 h) λh1=>dC k (bf k h) (.inr (.inl h1));have nH:∀k,SH k->¬(S4 k\/SB k):=λk h h'=>h'.elim (λh1=>dC k (in4 k h1) (.inr (.inr (.inl h)))) λh1=>dB k h1 (.inl h);have nZ:∀k,SZ k->¬(S4 k\/SB k):=λk h h'=>h'.elim (λh1=>dC k (in4 k h1) (.inr (.inr (.inr h)))) λh1=>dB k h1 (.inr h);have nS:∀k,SS k->¬(S4 k\/SB k):=λk h h'=>h'.elim (λh1=>dC k (in4 k h1) (.inl h)) λh1=>dS k h (.inl h1);have h5':vX Grv v.gv w' S5:=bF.aK h5 u6.m n5;have hH':jQ e.cp c w' SH:=bF.aK hH u6.m nH;have hZ':uG ee e.sp z w' SZ:=bF.aK hZ u6.m nZ;have d6:∀(T:BS),(∀k,T k->¬(S4 k\/SB k))->(∀k,T k->k<w.heap.size)->∀k,S6 k->T k->False:=λT hn hb k h1 h2=>(u6.s k h1).elim (hn k h2) λh=>by have:=hb k h2;omega
 have hT:UZ (v.oO e c z) w' (λk=>S7 k\/(S8 k\/S5 k)):=aZ.vP h7 (VT (aZ.vP (iu h8) h5' λk h1 h2=>d6 S5 n5 b5 k ((Kk k).2 (.inr h1)) h2)) λk h1 h2=>h2.elim (d78 k h1) λh=>d6 S5 n5 b5 k ((Kk k).2 (.inl h1)) h;have Ua:(v.t.add e).at e.aL=some e:=by rw[at_add ok.t Tq,if_pos rfl]
 have hE:QD ee a (v.oO e c z) (.ch e.aL)=jQ e.cp c:=by
  show(match (v.t.add e).at e.aL with|some f=>jQ f.cp (if e.aL=e.aL then c else v.ch e.aL)|none=>DI)=_
  rw[Ua,if_pos rfl]
 have x:Nd v (v.oO e c z) e.aL:=⟨rfl,rfl,rfl,rfl,rfl,rfl,rfl,rfl,λq hq=>(at_add ok.t Tq q).trans (if_neg hq),λq hq=>if_neg hq,λq hq=>if_neg hq⟩;have hHT:∀k,SH k->(S7 k\/(S8 k\/S5 k))->False:=λk h1 h2=>by
  rcases h2 with h|h|h
  ·exact d6 SH nH bH k ((Kk k).2 (.inl h)) h1
  ·exact d6 SH nH bH k ((Kk k).2 (.inr h)) h1
  ·exact dC k (bf k h) (.inr (.inr (.inl h1)))
 have s6:∀k,S6 k->S4 k\/SB k\/w.heap.size<=k:=λk hk=>(u6.s k hk).elim (λh=>h.imp id .inl) λh=>.inr (.inr h);have inS1:∀k,S4 k->S1 k:=λk h=>(e23 k).2 (.inr ((e45 k).2 (.inl h)));have hX:aZ (QD ee a (v.oO e c z) (.ch e.aL)) (UZ (v.oO e c z)) w' (λk=>SH k\/(S7 k\/(S8 k\/S5 k))):=by
  rw[hE];exact aZ.vP hH' hT hHT
 have TX:∀k,(SH k\/(S7 k\/(S8 k\/S5 k)))->SC k\/SB k\/SH k\/w.heap.size<=k:=λk hk=>by
  have key:S6 k->SC k\/SB k\/SH k\/w.heap.size<=k:=λh=>by
   rcases s6 k h with h|h|h
   ·exact .inl (in4 k h)
   ·exact .inr (.inl h)
   ·exact .inr (.inr (.inr h))
  rcases hk with hk|hk|hk|hk
  ·exact .inr (.inr (.inl hk))
  ·exact key ((Kk k).2 (.inl hk))
  ·exact key ((Kk k).2 (.inr hk))
  ·exact .inl (bf k hk)
 obtain⟨SA,hA,eA⟩:=Wf _ _ _ w' _ u6.m (λk hk=>hk.imp (inS1 k) λh hc=>dC k hc (.inr (.inl h))) (λk hk=>by
  have key:S6 k->S1 k\/¬SC k:=λh=>by
   rcases s6 k h with h|h|h
   ·exact .inl (inS1 k h)
   ·exact .inr λhc=>dC k hc (.inr (.inl h))
   ·exact .inr λhc=>by have:=bC k hc;omega
  rcases hk with hk|hk|hk|hk
  ·exact .inr λhc=>dC k hc (.inr (.inr (.inl hk)))
  ·exact key ((Kk k).2 (.inl hk))
  ·exact key ((Kk k).2 (.inr hk))
  ·exact .inl ((e23 k).2 (.inr ((e45 k).2 (.inr hk))))) hX
 rw[tz x] at hA;have inSA:∀k,SA k->SC k\/SB k\/SH k\/w.heap.size<=k:=λk hk=>((eA k).1 hk).elim (λh=>.inl h.1) (TX k);have hS':CX ee v w' SS:=bF.aK hS u6.m nS;have hYp:zH ee (v.oO e c z) e.aL w' SZ:=by
  have:zH ee (v.oO e c z) e.aL=uG ee e.sp z:=by
   show(match (v.t.add e).at e.aL with|some f=>uG ee f.sp (if e.aL=e.aL then z else v.yL e.aL)|none=>DI)=_
   rw[Ua,if_pos rfl]
  rw[this];exact hZ'
 obtain⟨SX,hSX,eSX⟩:=gE.swap hS' e.aL hYp λk h1 h2=>dS k h1 (.inr (.inr h2));rw[ry x] at hSX;refine hQ w' SA SX hA hSX (λk h1 h2=>?_) inSA eSX (u6.m.mono λk _ hk=>hk.imp (in4 k) id) (addE_ok (z:=z) ok Tq hc hz he);rcases eSX k h2 with h|h
 ·rcases inSA k h1 with g|g|g|g
  ·exact dC k g (.inl h)
  ·exact dS k h (.inl g)
  ·exact dS k h (.inr (.inl g))
  ·have:=bS k h;omega
 ·rcases inSA k h1 with g|g|g|g
  ·exact dC k g (.inr (.inr (.inr h)))
  ·exact dB k g (.inr h)
  ·exact dH k g h
  ·have:=bZ k h;omega
end
end
section
structure yU where
 d:Int
 aP:Int
 up:Bool
 msg:lO
abbrev eHd(x:yU×Sl):List Value:=[aD x.1.d,aD x.1.aP,.bool x.1.up,aD x.1.msg.kind,aD x.1.msg.pos,aD x.1.msg.LA,sv x.2,aD x.1.msg.lX,aD x.1.msg.eY.cls,aD x.1.msg.eY.jB,aD x.1.msg.eY.rX,aD x.1.msg.eY.left]
theorem qa:∀x:yU×Sl,(eHd x).length=12:=λ_=>rfl
theorem oneHd:∀x:yU×Sl,∀u∈eHd x,u.oneCell'=true:=by intro x u hu;simp at hu;rcases hu with rfl|rfl|rfl|rfl|rfl|rfl|rfl|rfl|rfl|rfl|rfl|rfl<;>rfl
abbrev Qp:=eF (α:=yU) eI tHeard 12 eHd λh=>h.msg.cH
theorem Gm{G:Gr}{B B':Int}{v:iQ}(ok:v.Ok G B){e:fK}(he:e∈v.t.aT){c:lH}(hc:c.Ok/\c.aP=e.aP/\c.s.cO=v.cQ.cO/\c.dl<=B')(hB:B<=B'):(v.oP e.aL c).Ok G B':=by
 refine⟨ok.cQ,ok.dN,ok.u,ok.t,ok.eO,λf hf=>?_,ok.yL,ok.Dd,ok.lost⟩;show(if f.aL=e.aL then c else v.ch f.aL).Ok/\(if f.aL=e.aL then c else v.ch f.aL).aP=f.aP/\(if f.aL=e.aL then c else v.ch f.aL).s.cO=v.cQ.cO/\(if f.aL=e.aL then c else v.ch f.aL).dl<=B'
 by_cases hp:f.aL=e.aL
 ·rw[if_pos hp,ok.t.inj hf he hp];exact hc
 ·rw[if_neg hp];have:=ok.ch f hf;exact⟨this.1,this.2.1,this.2.2.1,aB⟩
theorem aZ.drop2{A B C:As}{w:aH}{S:BS}(h:aZ A (aZ B C) w S):∃S',aZ A C w S'/\Up S S' w w:=by
 obtain⟨S1,S2,h1,⟨S3,S4,h3,h4,d34,Um⟩,d,e⟩:=h;exact⟨λk=>S1 k\/S4 k,aZ.vP h1 h4 λk a b=>d k a ((Um k).2 (.inr b)),Up.sub w λk hk=>(e k).2 (hk.imp id λh=>(Um k).2 (.inr h))⟩
def BegC(G:Gr)(v:iQ)(aL:Nat)(g:gA)(m:lO)(e:Int):Prop:=g.kind=1/\g.seq=0/\e=0/\m.kind=1/\v.t.vQ aL g.aP=0/\G.qD m.pos/\G.XR m.LA
def BegR(G:Gr)(v:iQ)(aL:Nat)(g:gA)(v':iQ)(ps:List Pk)(hs:List yU):Prop:=∃m e,MDec g.body m e/\
  ((¬BegC G v aL g m e/\v'=v/\hs=[]/\∃p code,ps=[p]/\dt aL ⟨g.aP,3,0,0,code,[]⟩ p)\/
   (BegC G v aL g m e/\∃(en:fK) (z:LH×List lO) (rO:List (List dA)) (Ul:List gA) (c1:lH) (RH Cy:List Pk),en.aL=aL/\en.aP=g.aP/\en.kO=v.dN/\(v.lf en.a).getD (false:Bool)=false/\Lr G (Vu v.u) (xr m.pos m.LA) z/\VH (yT v.cQ.cO g.aP) g rO Ul c1/\F2 (dt aL) Ul RH/\c1.Ok/\xT ((v.oO en (yT v.cQ.cO g.aP) z.1).oP aL c1) en (DT::z.2) v' Cy/\z.2.length<=2/\1<=z.2.length/\ps=RH++Cy/\hs=[⟨aL,g.aP,true,m⟩]))
section
variable{W0 w:aH}{S:BS}{a:Nat}{v:iQ}{E:uJ}{G:Gr}{B:Int}
theorem gC.cfgAt(h:gC E.e a v w S):bY w ((⟨a,0,none⟩:Addr).add 1) 0 (qG IV (xO v.cQ)):=by
 refine oG.2 λk x hk=>?_;have:(UW E.e v)[1+k]? =some x:=by
  match k,hk with
  |0,hk=>exact hk
  |1,hk=>exact hk
  |2,hk=>exact hk
  |3,hk=>exact hk
  |4,hk=>exact hk
  |5,hk=>exact hk
  |k+6,hk=>simp[qG] at hk
 have c:=h.cell this;rw[aS] at c ⊢;rw[aS,show 0+1+(0+k)=0+(1+k) by omega];exact c
theorem begin_i{aL:Nat}{g:gA}{cj:Sl}{Q:Sl->Sl->aH->Prop}(h:gC E.e a v w S)(hb:Bs W0 E G S w)(ok:v.Ok G B)(hB:0<=B)(hp:aL<16)(hg:Rd w cj 1 eU g.body)(hgo:AW cj S w)(hl:g.body.length<=5000)(hs:u32 g.seq)(dp:1<=g.aP/\g.aP<=2147483648)
  (hQ:∀r rh ps hs v' w' S',gC E.e a v' w' S'->Up S S' w w'->rA w.heap.size S' w' r ps->Qp w.heap.size S' w' rh hs->v'.Ok G B->BegR G v aL g v' ps hs->Q r rh w'):JQ (some ⟨a,0,none⟩) (aL:Int) (IW (g,cj)) w Q:=by
 unfold JQ;have bd:=bF.gH h;refine cC (cs:=eG (g,cj)) λw1 b1 k1 z1=>aE (k:=.slice) cj (aO b1 rfl) ?_;refine jj (hg.aK k1 fH λ_ _=>id) hl λm sl e w2 k2 Pg f2 hmd=>?_;refine fD (zs:=tA (⟨0,0,0,[],0,MC⟩,bD)) (vs:=tA (m,sl)) BY rfl (VC _) λw4 o4 k4 z4=>?_;have b4:=bF.kp (bF.kp b1 k2) k4;have K4:aM w w4:=(k1.tr k2).tr k4;have rej:∀(code:Int) (wx:aH),aM w wx->¬BegC G v aL g m e->eK (aL:Int) g.aP code wx λs2 w5=>Q s2 bD w5:=λcode wx kx hn=>
  se λr p w5 k5 v5 hp5=>by
   have K5:=kx.tr k5;exact hQ r _ [p] [] v w5 S (bF.kp h K5) (Up.aN K5) ((v5.qE kx.size).sub λk hk=>mD (bd k hk) kx.size) eF.nil ok ⟨m,e,hmd,.inl ⟨hn,rfl,rfl,p,code,rfl,hp5⟩⟩
 refine aE (k:=.i) g.kind (aO b4 rfl) (aF (λhk=>aE (k:=.i) g.aP (aO b4 rfl) (rej 2 w4 K4 λhc=>?_)) (λhk=>?_))
 ·have:=hc.1;simp[this] at hk
 have QB:g.kind=1:=by simpa using hk
 refine aE (k:=.i) g.seq (aO b4 rfl) (aF (λhk=>aE (k:=.i) g.aP (aO b4 rfl) (rej 2 w4 K4 λhc=>?_)) (λhk=>?_))
 ·have:=hc.2.1;simp[this] at hk
 have hsq:g.seq=0:=by simpa using hk
 refine aF (λhk=>aE (k:=.i) g.aP (aO b4 rfl) (rej 2 w4 K4 λhc=>?_)) (λhk=>?_)
 ·have:=hc.2.2.1;simp[this] at hk
 have he0:e=0:=by simpa using hk
 refine aE (k:=.i) m.kind (cM o4 rfl) (aF (λhk=>aE (k:=.i) g.aP (aO b4 rfl) (rej 2 w4 K4 λhc=>?_)) (λhk=>?_))
 ·have:=hc.2.2.2.1;simp[this] at hk
 have hm1:m.kind=1:=by simpa using hk
 have K4d:=K4.tr (bN w4);have h4:=bF.kp h K4d;refine aA rfl (aE (k:=.ptr) (some ⟨v.tp,0,none⟩) (h4.cell rfl) (aE (k:=.i) g.aP (aO (bF.dr b4) rfl) ?_));obtain⟨ST,hT,_⟩:=h4.Ee;refine TMay_i hT ok.t hp dp λw9 k9=>?_;have K9:=K4d.tr k9;refine aF (λuF=>?_) (λuF=>?_)
 ·have hmay0:v.t.vQ aL g.aP=0:=by simpa using uF
  have K9d:=K9.tr (bN w9);have h9:=bF.kp h K9d;have b9:=bF.kp b4 ((bN w4).tr (k9.tr (bN w9)));have o9:=o4.aK ((bN w4).tr (k9.tr (bN w9))) id;refine aA rfl (aE (k:=.ptr) (some ⟨E.e,0,none⟩) (h9.cell rfl) (aE (k:=.i) m.pos (cM o9 rfl) (aE (k:=.i) m.LA (cM o9 rfl) (aA rfl (aE (k:=.ptr) (some ⟨v.sp,0,none⟩) (h9.cell rfl) ?_)))));obtain⟨SU,hU,_⟩:=h9.sset;refine Sd hU ok.u.2 λmk eR v10 IG f10=>?_;have Mw:=K9d.tr IG;have IN:=bF.kp h Mw;have b10:=bF.kp b9 IG;have Br:=o9.aK IG id;refine⟨cM Br rfl,cM Br rfl,IN.cell rfl,?_⟩;have hb10:=hb.kp Mw;refine SNewF_i hb10 (v10.rd Uv) (λRX=>?_) λhE hN z ms s eC SZ hz hZ hZlo okz Uj Uk KS=>?_
  ·refine aF (λ_=>aE (k:=.i) g.aP (aO b10 rfl) (rej 4 eR Mw λhc=>RX hc.2.2.2.2.2)) (λh=>by cases h)
  refine aF (λh=>by cases h) (λ_=>?_);have K11d:=(Mw.tr KS).tr (bN eC);have Ki:=bF.kp h K11d;have b11:=bF.kp b10 (KS.tr (bN eC));refine aA rfl (bJ (l:=IV) (xO v.cQ) Ki.cfgAt (aE (k:=.i) g.aP (aO b11 rfl) ?_));refine CNew_i ok.cQ dp λcp gO SH hH vw Fa=>?_;have K13:=(K11d.tr vw).tr (bN gO);have cg:=bF.kp h K13;have b13:=bF.kp b11 (vw.tr (bN gO));refine aE (k:=.i) g.aP (aO b13 rfl) (aA rfl (aE (k:=.i) v.dN (cg.cell rfl) ?_))
  let en:fK:=⟨gO.drew.heap.size,cp,s,aL,g.aP,v.dN⟩
  refine cC (cs:=Vd en) λmC bE Ks z14=>?_;have K14:=K13.tr Ks;have h14:=bF.kp h K14;refine aA rfl (aE (k:=.ptr) (some ⟨v.tp,0,none⟩) (h14.cell rfl) ?_);have dj:(v.lf en.a).getD (false:Bool)=false:=by
   obtain⟨SC0,hC0,_⟩:=h.sD;cases hlf:v.lf en.a with
   |none=>rfl
   |some b=>
    obtain⟨cs,e',hc⟩:=hC0.Ha ok en.a (by rw[hlf];rfl);have h1:en.a<w.heap.size:=(Array.getElem?_eq_some_iff.1 hc).1;have h2:w.heap.size<=en.a:=K13.size;omega
  have zk2:=k2.size;have zk10:w4.heap.size<=eR.heap.size:=((bN w4).tr (k9.tr ((bN w9).tr IG))).size;have z11:=KS.size;have z11d:eC.drew.heap.size=eC.heap.size:=rfl;have z13:=vw.size;have z13d:gO.drew.heap.size=gO.heap.size:=rfl;have bZ:=bF.gH hZ;have bH:=bF.gH hH;obtain⟨SC,SS,hC,hS,dCS,eCS⟩:=h14;have lC:∀k,SC k->k<w.heap.size:=λk hk=>bd k ((eCS k).2 (.inl hk));have lS:∀k,SS k->k<w.heap.size:=λk hk=>bd k ((eCS k).2 (.inr hk));have RV:=ok.dN;have CT:=ok.cQ.cO;refine VAdd_i (e:=en) (c:=yT v.cQ.cO g.aP) (z:=z.1) (SB:=λk=>k=gO.drew.heap.size) hC hS bE (bF.kp hH ((bN gO).tr Ks)) (bF.kp hZ (((bN eC).tr vw).tr ((bN gO).tr Ks))) (λk h1 h2=>?_) (λk h1 h2=>?_) (λk h1 h2=>?_) (λk h1 h2=>by have:=Fa k h1;have:=bZ k h2;omega) ok hp hmay0 ⟨OE CT.2,rfl,rfl,hB⟩ okz ⟨dp,RV.1,oX _⟩ λfO SA SX hA hX dAX inA inX Eh ok15=>?_
  ·have:=lC k h1
   rcases h2 with h|h|h|h
   ·exact dCS k h1 h
   ·omega
   ·have:=Fa k h;omega
   ·have:=hZlo k h;omega
  ·have:=lS k h1
   rcases h2 with h|h|h
   ·omega
   ·have:=Fa k h;omega
   ·have:=hZlo k h;omega
  ·have h1':k=gO.drew.heap.size:=h1
   rcases h2 with h|h
   ·have:=bH k h;omega
   ·have:=bZ k h;omega
  have mid:∀k,w.heap.size<=k->k<eC.heap.size->¬SA k:=λk h1 h2 h3=>by
   rcases inA k h3 with g|g|g|g
   ·have:=lC k g;omega
   ·omega
   ·have:=Fa k g;omega
   ·omega
  have ou:∀k,w.heap.size<=k->k<eC.heap.size->¬(SC k\/k=gO.drew.heap.size):=λk h1 h2 h3=>h3.elim (λh=>by have:=lC k h;omega) λh=>aB;have M14d:=Eh.trans (F:=λk=>SC k\/k=gO.drew.heap.size) ((bN fO).wk) λ_ _ h=>h;have b14:=bF.kp b13 Ks;have o1:=(b14.1).aK M14d (ou _ (iT _) aB);have o2:=(((((Br.aK KS id).aK (bN eC) id).aK vw id).aK (bN gO) id).aK Ks id).aK M14d (ou _ (by have:=k1.size;have:=k2.size;omega) (by have:=k4.size;omega));have hA':=bF.dr hA;have fP:en∈(v.oO en (yT v.cQ.cO g.aP) z.1).t.aT:=oE.2 (.inl rfl);have Ua:(v.oO en (yT v.cQ.cO g.aP) z.1).t.at aL=some en:=sP.MJ ok15.t fP;refine aA rfl (aE (k:=.i) v.dN (hA'.cell rfl) ?_);refine bJ (l:=kG) (IW (g,cj)) (o1.holds λj v hj=>by rw[pM];exact hj) ?_;obtain⟨S6,h6,Pm,xS⟩:=hA'.Vp Ua;have ech:(v.oO en (yT v.cQ.cO g.aP) z.1).ch aL=yT v.cQ.cO g.aP:=if_pos rfl;rw[ech] at h6;have K15:∀k,k<w.heap.size->¬SC k->¬(SC k\/k=gO.drew.heap.size):=λk h1 h2 h3=>h3.elim h2 λh=>aB;have hgo15:Rd fO.drew cj 1 eU g.body:=((hg.aK K14 fH λ_ _=>id).aK Eh fH λb bW=>K15 _ (hgo b bW).2 λh=>(hgo b bW).1 ((eCS _).2 (.inl h))).aK (bN fO) fH λ_ _=>id;have zz15:=Eh.size;refine Sh h6 (OE CT.2) (by show(0:Int)<=_;omega) hgo15 (λb bW=>⟨λhk=>?_,?_⟩) aB hs λYH rO rg Ul c1 gR S7 h7 u7 YG Pz=>?_
  ·have cJ:=(hgo b bW).2
   rcases inA _ (Pm _ hk) with g|g|g|g
   ·exact(hgo b bW).1 ((eCS _).2 (.inl g))
   ·omega
   ·have:=Fa _ g;omega
   ·have:=Ks.size;omega
  ·have:=(hgo b bW).2
   have:fO.drew.heap.size=fO.heap.size:=rfl;omega
  obtain⟨S8,h8,u8⟩:=xS _ _ gR S7 u7 h7;obtain⟨S9,h9',u9⟩:=aZ.drop2 h8;obtain⟨S16,h16,u16,g16⟩:=VO h9';have U16:Up SA S16 fO.drew gR.drew:=((u8.tr u9).tr u16).tr (Up.aN (bN gR));have hv2:=Gm (c:=c1) (B':=B) ok15 fP (by
   have:=wR (OE CT.2) YG;exact⟨Pz,this.2.1,this.1,Int.le_trans this.2.2.1 hB⟩) (oX _)
  have rf:=wR (OE (aP:=g.aP) CT.2) YG;have h16':=bF.dr h16;have g16':=g16.kp QM (bN gR);have b16:=bF.gH h16';have Vt:∀k,w.heap.size<=k->k<eC.heap.size->¬S16 k:=λk h1 h2 h3=>(U16.s k h3).elim (mid k h1 h2) λh=>by have:fO.drew.heap.size=fO.heap.size:=rfl;omega
  have RJ:=o1.aK U16.m (mid _ (iT _) aB);have o2':=o2.aK U16.m (mid _ (by have:=k1.size;have:=k2.size;omega) (by have:=k4.size;omega));have hms16:fL gR.drew (λk=>eR.heap.size<=k/\k<eC.heap.size) ms (DT::z.2):=
   ((((Uj.wk λk h1 h2=>⟨h1,h2⟩).aN ((bN eC).tr (vw.tr ((bN gO).tr Ks)))).aK M14d λk hk=>ou k aB hk.2).aK U16.m λk hk=>mid k aB hk.2)
  have rd16:Rd gR.drew sl 1 eI m.cH:=by
   have IM:∀b,sl.b=some b->w.heap.size<=b.block/\b.block<eC.heap.size:=λb bW=>⟨by have:=f2 b bW;omega,by have:=Pg.2.2.1 b bW;have:=k4.size;omega⟩;exact((Pg.1.aK ((k4.tr ((bN w4).tr (k9.tr ((bN w9).tr IG)))).tr (KS.tr ((bN eC).tr (vw.tr ((bN gO).tr Ks))))) cR λ_ _=>id).aK M14d cR λb bW=>ou _ (IM b bW).1 (IM b bW).2).aK U16.m cR λb bW=>mid _ (IM b bW).1 (IM b bW).2
  have Pw:∀b,sl.b=some b->w.heap.size<=b.block/\b.block<eC.heap.size:=λb bW=>⟨by have:=f2 b bW;omega,by have:=Pg.2.2.1 b bW;have:=k4.size;omega⟩;have zz16:fO.heap.size<=gR.drew.heap.size:=U16.size;have l64:Ul.length<=1000:=by
   have h2:=Pz.s.yP;have XU:=Pz.s.cO;omega
  have inW:∀wx Sx,Up S16 Sx gR.drew wx->bY wx ⟨w2.heap.size,0,none⟩ 0 (tA (m,sl))/\wx.cell? ((⟨w.heap.size,0,none⟩:Addr).add 0)=some (aD g.aP):=λwx Sx u=>
   ⟨(o2'.aK u.m (Vt _ (by have:=k1.size;have:=k2.size;omega) (by have:=k4.size;omega))).holds λj v hj=>by rw[pM];exact hj,cM (RJ.aK u.m (Vt _ (iT _) aB)) rfl⟩
  have dQ:∀(r:Sl) (RH Cy:List Pk) (v':iQ) (wz:aH) (Sy:BS) (gb:Nat),kX E.e a v' wz Sy->Up S16 Sy gR.drew wz->rA gR.drew.heap.size Sy wz r (RH++Cy)->v'.Ok G B->F2 (dt aL) Ul RH->xT ((v.oO en (yT v.cQ.cO g.aP) z.1).oP aL c1) en (DT::z.2) v' Cy->cW wz gb tHeard (eHd (⟨aL,g.aP,true,m⟩,sl))->gR.drew.heap.size<=gb->¬Sy gb->Q r ⟨some ⟨gb,0,none⟩,1,1⟩ wz:=by
   intro r RH Cy v' wz Sy gb hy uy vy oky f1 sd og lgb ngb;have UA:=U16.tr uy;have hX':CX E.e (v.oO en (yT v.cQ.cO g.aP) z.1) wz SX:=bF.aK (bF.dr hX) UA.m λk h1 h2=>dAX k h2 h1;have bX:=bF.gH hX;have dd:∀k,Sy k->SX k->False:=UA.fq dAX λk hk=>bX k hk;have hsv:gC E.e a v' wz (λk=>Sy k\/SX k):=by
    have hse:=sd;obtain⟨bs,gs,c',lo,lf,ln,rfl,_⟩:=hse;exact aZ.vP hy hX' dd
   have lSy:∀k,Sy k->S k\/w.heap.size<=k:=λk hk=>by
    rcases UA.s k hk with h|h
    ·rcases inA k h with g|g|g|g
     ·exact .inl ((eCS k).2 (.inl g))
     ·exact .inr aB
     ·exact .inr (by have:=Fa k g;omega)
     ·exact .inr (by have:=Ks.size;omega)
    ·exact .inr (by have:fO.drew.heap.size=fO.heap.size:=rfl;have:=Ks.size;omega)
   have lSX:∀k,SX k->S k\/w.heap.size<=k:=λk hk=>(inX k hk).imp (λh=>(eCS k).2 (.inr h)) λh=>by have:=hZlo k h;omega
   have na:Up S (λk=>Sy k\/SX k) w wz:=by
    refine⟨((K14.wk.trans Eh λk h1 h2=>?_).trans (bN fO).wk λ_ _ h=>h).trans UA.m λk h1 h2=>?_,λk hk=>hk.elim (lSy k) (lSX k)⟩
    ·exact h2.elim (λh=>(eCS k).2 (.inl h)) λh=>by have h':k=gO.drew.heap.size:=h;omega
    ·rcases inA k h2 with g|g|g|g
     ·exact(eCS k).2 (.inl g)
     ·omega
     ·have:=Fa k g;omega
     ·have:=Ks.size;omega
   have uszz:=uy.size;refine hQ r _ (RH++Cy) [⟨aL,g.aP,true,m⟩] v' wz _ hsv na ((vy.cov λk hk=>hk.imp id λh=>by have:=bX k h;omega).qE (by have:=Ks.size;omega)) ?_ oky ⟨m,e,hmd,.inr ⟨⟨QB,hsq,he0,hm1,hmay0,hE,hN⟩,en,z,rO,Ul,c1,RH,Cy,rfl,rfl,rfl,dj,hz,YG,f1,Pz,sd,Uk.1,Uk.2,rfl,rfl⟩⟩;refine⟨[(⟨aL,g.aP,true,m⟩,sl)],rfl,dP.new qa [(⟨aL,g.aP,true,m⟩,sl)] (by simpa using og) (by simp[maxLen]),λb bW=>by cases bW;exact⟨by have:=Ks.size;show w.heap.size<=gb;omega,λh=>h.elim ngb λh=>by have:=bX _ h;have h':gb<fO.heap.size:=this;omega⟩,λx hx=>?_⟩;rw[uE.1 hx];refine⟨rd16.aK uy.m cR λb bW=>Vt _ (Pw b bW).1 (Pw b bW).2,λb bW=>⟨(Pw b bW).1,λh=>?_,?_,λb' Qj e=>?_⟩⟩
   ·rcases h with h|h
    ·exact(uy.s _ h).elim (Vt _ (Pw b bW).1 (Pw b bW).2) λh=>by have:=(Pw b bW).2;omega
    ·have h2:=Pg.2.2.1 b bW
     rcases inX _ h with h|h
     ·have:=lS _ h;have:=(Pw b bW).1;omega
     ·have:=hZlo _ h;omega
   ·have:=(Pw b bW).2;omega
   ·cases Qj
    have:=(Pw b bW).2;have e':b.block=gb:=e;omega
  have hbd:∀g∈Ul,g.body.length<=80000:=λg hg=>by have:=rf.2.2.2.2.1 g hg;omega
  have sayP:∀wx,aM gR.drew wx->∀(K:WQ Sl),(∀r ps v' wy Sy,kX E.e a v' wy Sy->Up S16 Sy wx wy->rA wx.heap.size Sy wy r ps->v'.Ok G B->xT ((v.oO en (yT v.cQ.cO g.aP) z.1).oP aL c1) en (DT::z.2) v' ps->K r wy)->sF (some ⟨a,0,none⟩) (wX en) ms wx K:=λwx kx K hK=>
   say_i (bF.kp h16' kx) hv2 fP (hms16.aN kx) (λk hk=>Vt k aB hk.2) (by simp;omega) λr ps v' wy Sy g1 g2 g3 g4 g5=>hK r ps v' wy Sy g1 g2 g3 g4 g5
  have YE:∀(v':iQ) (RH Cy:List Pk),F2 (dt aL) Ul RH->xT ((v.oO en (yT v.cQ.cO g.aP) z.1).oP aL c1) en (DT::z.2) v' Cy->v'.Ok G B->RH.length+Cy.length<=1000000:=λv' RH Cy f1 sd Pj=>by
   have wg:en∈((v.oO en (yT v.cQ.cO g.aP) z.1).oP aL c1).t.aT:=fP;have h1:=xT.YE wg sd Pj;have hr5:=Pz.s.yP;have hr6:=Pz.s.cO;have h2:=f1.len;have h4:(((v.oO en (yT v.cQ.cO g.aP) z.1).oP aL c1).cQ).cO=v.cQ.cO:=rfl;omega
  have o1k:∀wx,aM gR.drew wx->bY wx ⟨w2.heap.size,0,none⟩ 0 (tA (m,sl))/\wx.cell? ((⟨w.heap.size,0,none⟩:Addr).add 0)=some (aD g.aP):=λwx kx=>inW wx S16 (Up.aN kx);obtain⟨hMa,hMb⟩:=o1k _ (aW.refl _ _);refine aE (k:=.i) g.aP hMb (bJ (l:=bc) (FV (m,sl)) hMa ⟨?_,?_⟩)
  ·refine AJ g16' l64 hbd λr1 RH iZ Jx v17 f17=>⟨(o1k iZ Jx).1,(o1k iZ Jx).2,?_,?_⟩
   ·refine sayP iZ Jx _ λr2 Cy v' lE Ud xh u18 v18 xw sd=>?_
    have U18:=(Up.aN Jx).tr u18;have La:rA gR.drew.heap.size Ud lE r1 RH:=(v17.sub λk hk=>b16 k hk).up u18;have b18:=bF.gH xh;have z17:=Jx.size;have z18:=u18.size;have r1b:∀b,r1.b=some b->b.block<iZ.heap.size:=λb bW=>v17.lt bW;refine⟨(inW lE Ud U18).1,(inW lE Ud U18).2,?_,?_⟩
    ·refine eF.fw jS MB LY aB La v18 z17 r1b (YE _ _ _ f17 sd xw) aB b18 λr' nL v19 m19 _=>?_
     have KV:=m19.mono (G:=λk=>gR.drew.heap.size<=k/\¬Ud k) λk _ hk=>La.BI k hk;have U19:=Up.iH U18 KV;have h19:=bF.ov xh KV;refine⟨(inW nL Ud U19).1,(inW nL Ud U19).2,?_⟩;refine cC (cs:=eHd (⟨aL,g.aP,true,m⟩,sl)) λyK b20 k20 z20=>?_;have z19:=U19.size;refine dQ r' RH Cy v' yK Ud nL.heap.size (bF.kp h19 k20) (U19.tr (Up.aN k20)) (v19.kp k20) xw f17 sd b20.1 z19 λhs=>?_;have:=bF.gH h19 _ hs;omega
    ·refine cC (cs:=eHd (⟨aL,g.aP,true,m⟩,sl)) λAR b21 k21 z21=>?_
     have z21:=k21.size;refine eF.fw jS MB LY aB (La.kp k21) (v18.kp k21) z17 r1b (YE _ _ _ f17 sd xw) aB (λk hk=>mD (b18 k hk) z21) λr' DF v22 m22 _=>?_;have m22':=m22.mono (G:=λk=>gR.drew.heap.size<=k/\¬Ud k) λk _ hk=>La.BI k hk;have U22:=Up.iH (U18.tr (Up.aN k21)) m22';refine dQ r' RH Cy v' DF Ud lE.heap.size (bF.ov (bF.kp xh k21) m22') U22 v22 xw f17 sd (b21.1.aK m22 λ⟨b,bW,e⟩=>by have:=r1b b bW;omega) aB λhs=>by have:=b18 _ hs;omega
   ·refine cC (cs:=eHd (⟨aL,g.aP,true,m⟩,sl)) λEc b23 k23 z23=>?_
    have K23:=Jx.tr k23;refine sayP Ec K23 _ λr2 Cy v' ZZ S24 h24 u24 v24 ok24 sd=>?_;have U24:=(Up.aN K23).tr u24;have La:rA gR.drew.heap.size S24 ZZ r1 RH:=((v17.sub λk hk=>b16 k hk).kp k23).up u24;have b24:=bF.gH h24;have z17:=Jx.size;have z24:=u24.size;have r1b:∀b,r1.b=some b->b.block<iZ.heap.size:=λb bW=>v17.lt bW;refine eF.fw jS MB LY aB La v24 aB (λb bW=>by have:=r1b b bW;omega) (YE _ _ _ f17 sd ok24) aB b24 λr' ZY v25 m25 _=>?_;have m25':=m25.mono (G:=λk=>gR.drew.heap.size<=k/\¬S24 k) λk _ hk=>La.BI k hk;have U25:=Up.iH U24 m25';refine dQ r' RH Cy v' ZY S24 iZ.heap.size (bF.ov h24 m25') U25 v25 ok24 f17 sd ((b23.1.aK u24.m λhs=>by have:=b16 _ hs;omega).aK m25 λ⟨b,bW,e⟩=>by have:=r1b b bW;omega) z17 λhs=>(u24.s _ hs).elim (λh=>by have:=b16 _ h;omega) λh=>aB
  ·refine cC (cs:=eHd (⟨aL,g.aP,true,m⟩,sl)) λaq b26 k26 z26=>?_
   refine AJ (g16'.kp QM k26) l64 hbd λr1 RH cw k27 v27 f27=>?_;have K27:=k26.tr k27;refine sayP cw K27 _ λr2 Cy v' mv S28 h28 u28 v28 ok28 sd=>?_;have U28:=(Up.aN K27).tr u28;have z26':=k26.size;have z27:=k27.size;have z28:=u28.size;have La:rA gR.drew.heap.size S28 mv r1 RH:=((v27.qE z26').sub λk hk=>mD (b16 k hk) z26').up u28;have b28:=bF.gH h28;have r1b:∀b,r1.b=some b->b.block<cw.heap.size:=λb bW=>v27.lt bW;refine eF.fw jS MB LY aB La v28 aB r1b (YE _ _ _ f27 sd ok28) aB b28 λr' vq v29 m29 _=>?_;have m29':=m29.mono (G:=λk=>gR.drew.heap.size<=k/\¬S28 k) λk _ hk=>La.BI k hk;have U29:=Up.iH U28 m29';refine dQ r' RH Cy v' vq S28 gR.drew.heap.size (bF.ov h28 m29') U29 v29 ok28 f27 sd (((b26.1.aK k27 id).aK u28.m λhs=>by have:=b16 _ hs;omega).aK m29 λ⟨b,bW,e⟩=>?_) (iT _) λhs=>(u28.s _ hs).elim (λh=>by have:=b16 _ h;omega) λh=>aB;have:=(v27.BI _ ⟨b,bW,rfl⟩).1;omega
 ·refine aF (λh5=>aE (k:=.i) g.aP (aO (bF.kp b4 ((bN w4).tr k9)) rfl) (rej 1 w9 K9 λhc=>?_)) (λh5=>aE (k:=.i) g.aP (aO (bF.kp b4 ((bN w4).tr k9)) rfl) (rej 2 w9 K9 λhc=>?_))
  ·have:=hc.2.2.2.2.1;rw[this] at uF;cases uF
  ·have:=hc.2.2.2.2.1;rw[this] at uF;cases uF
end
end
section
def iQ.KJ(v:iQ)(i:Nat)(e:fK):iQ:={v with t:=⟨v.t.eO,v.t.aT.set i e,v.t.gr⟩}
theorem ze{l:List fK}{i:Nat}{e e':fK}(h:l[i]? =some e)(hp:e'.aL=e.aL):(l.set i e').map (·.aL)=l.map (·.aL):=by
 apply AX;intro j;rw[mF,mF,vR]
 by_cases hj:i=j
 ·subst hj
  have cJ:=(kU.1 h).1;rw[if_pos rfl,if_pos cJ,h];simp[hp]
 ·rw[if_neg hj]
theorem Ro{l:List fK}{i:Nat}{e e':fK}(hs:FN l)(h:l[i]? =some e)(hp:e'.aL=e.aL):FN (l.set i e'):=by
 have h1:(l.map (·.aL)).Pairwise (·<·):=by rw[List.pairwise_map];exact hs
 rw[<-ze h hp,List.pairwise_map] at h1;exact h1
theorem sE{l:List fK}{i:Nat}{e e' f:fK}(hs:FN l)(h:l[i]? =some e)(hp:e'.aL=e.aL):f∈l.set i e'↔f=e'\/(f∈l/\f.aL≠e.aL):=by
 have cJ:=(kU.1 h).1;have vT:e'∈l.set i e':=zF (i:=i) (by rw[vR];simp[cJ])
 constructor
 ·intro hf
  by_cases hfe:f=e'
  ·exact .inl hfe
  ·refine .inr ⟨(List.mem_or_eq_of_mem_set hf).resolve_right hfe,λUi=>hfe (rj (Ro hs h hp) hf vT (by rw[Ui,hp]))⟩
 ·rintro(rfl|⟨hf,gF⟩)
  ·exact vT
  ·obtain⟨j,hj⟩:=List.getElem?_of_mem hf
   refine zF (i:=j) ?_;rw[vR,if_neg,hj];intro e;subst e;rw[h] at hj;cases hj;exact gF rfl
theorem Wp{t:sP}(ok:t.Ok){i:Nat}{e e':fK}(h:t.aT[i]? =some e)(hp:e'.aL=e.aL)(Pj:(⟨t.eO,t.aT.set i e',t.gr⟩:sP).Ok)(q:Nat):(⟨t.eO,t.aT.set i e',t.gr⟩:sP).at q=if q=e.aL then some e' else t.at q:=by
 apply Option.ext;intro f;rw[sP.Rf Pj];show(f∈t.aT.set i e'/\f.aL=q)↔_;rw[sE ok.rN h hp]
 by_cases hq:q=e.aL
 ·rw[if_pos hq]
  constructor
  ·rintro⟨rfl|⟨_,gF⟩,h2⟩
   ·rfl
   ·exact absurd (h2.trans hq) gF
  ·intro h;cases h;exact⟨.inl rfl,by rw[hp,hq]⟩
 ·rw[if_neg hq,sP.Rf ok]
  constructor
  ·rintro⟨rfl|⟨hf,_⟩,h2⟩
   ·exact absurd (h2.symm.trans hp) hq
   ·exact⟨hf,h2⟩
  ·rintro⟨hf,h2⟩;exact⟨.inr ⟨hf,λh3=>hq (h2.symm.trans h3)⟩,h2⟩
theorem Ni{t:sP}(ok:t.Ok){i:Nat}{e e':fK}(h:t.aT[i]? =some e)(hp:e'.aL=e.aL):(⟨t.eO,t.aT.set i e',t.gr⟩:sP).Ok:=
 ⟨ok.eO,by show(t.aT.set i e').length<=_;rw[pI];exact ok.len,Ro ok.rN h hp,λf hf=>by
  rcases(sE ok.rN h hp).1 hf with rfl|⟨hf,_⟩
  ·rw[hp];exact ok.aL e (zF h)
  ·exact ok.aL f hf⟩
section
variable{W0 w:aH}{S:BS}{a:Nat}{v:iQ}{E:uJ}{G:Gr}{B:Int}{ee:Nat}
theorem touch_ok(ok:v.Ok G B){i:Nat}{e e':fK}(h:v.t.aT[i]? =some e)(hp:e'.aL=e.aL)(ha:e'.a=e.a)(hc:e'.aP=e.aP)(hl:0<=e'.kO/\e'.kO<=v.dN):(v.KJ i e').Ok G B:=by
 have he:=zF h;have mem:∀f∈(v.KJ i e').t.aT,f=e'\/(f∈v.t.aT/\f.aL≠e.aL):=λf hf=>(sE ok.t.rN h hp).1 hf;refine⟨ok.cQ,ok.dN,ok.u,Ni ok.t h hp,ok.eO,λf hf=>?_,λf hf=>?_,λf hf=>?_,λk hk=>?_⟩
 ·rcases mem f hf with rfl|⟨hf,_⟩
  ·have:=ok.ch e he;show(v.ch f.aL).Ok/\(v.ch f.aL).aP=f.aP/\(v.ch f.aL).s.cO=v.cQ.cO/\(v.ch f.aL).dl<=B;rw[hp,hc];exact this
  ·exact ok.ch f hf
 ·rcases mem f hf with rfl|⟨hf,_⟩
  ·show UB G (v.yL f.aL);rw[hp];exact ok.yL e he
  ·exact ok.yL f hf
 ·rcases mem f hf with rfl|⟨hf,_⟩
  ·rw[hc];exact⟨(ok.Dd e he).1,hl⟩
  ·exact ok.Dd f hf
 ·rcases ok.lost k hk with⟨f,hf,rfl⟩|hg
  ·by_cases hpf:f.aL=e.aL
   ·have:=ok.t.inj hf he hpf
    subst this;exact .inl ⟨e',(sE ok.t.rN h hp).2 (.inl rfl),ha⟩
   ·exact .inl ⟨f,(sE ok.t.rN h hp).2 (.inr ⟨hf,hpf⟩),rfl⟩
  ·exact .inr hg
theorem gC.kO(h:gC ee a v w S)(ok:v.Ok G B){i:Nat}{e:fK}(hi:v.t.aT[i]? =some e){Q:aH->Prop}(hQ:∀w' S',gC ee a (v.KJ i {e with kO:=v.dN}) w' S'->Up S S' w w'->Q w'):aI prog cY ((⟨e.a,0,none⟩:Addr).add 4) (aD v.dN) w Q:=by
 have cJ:=(kU.1 hi).1;have lM:=ok.t.rN
 let e':fK:={e with kO:=v.dN}
 have oktt:=Ni (e':=e') ok.t hi rfl;have ef:∀x,sC (v.t.aT.set i e') x=sC v.t.aT x:=λx=>by
  refine Hc (f:=sC v.t.aT) (Ro (e':=e') lM hi rfl) (λx p=>?_) x;rw[WJ lM]
  constructor
  ·rintro⟨f,hf,hx,hp⟩
   by_cases hfe:f.aL=e.aL
   ·have:=ok.t.inj hf (zF hi) hfe
    subst this;exact⟨e',(sE (e':=e') lM hi rfl).2 (.inl rfl),hx,hp⟩
   ·exact⟨f,(sE (e':=e') lM hi rfl).2 (.inr ⟨hf,hfe⟩),hx,hp⟩
  ·rintro⟨f,hf,hx,hp⟩
   rcases(sE (e':=e') lM hi rfl).1 hf with rfl|⟨hf,_⟩
   ·exact⟨e,zF hi,hx,hp⟩
   ·exact⟨f,hf,hx,hp⟩
 have efun:sC (v.t.aT.set i e')=sC v.t.aT:=funext ef;have f0:=(aZ.l h).c λT hT=>gE.at hT .Ee;have f1:Ur w S (CW v.tp v.t) _:=f0.c λT hT=>aZ.l hT;obtain⟨S1,⟨m1,m2,ng,hT⟩,tM,dL⟩:=f1.put;obtain⟨S2,hL,FM,GN⟩:=(((aZ.r hT).c λT hT=>aZ.r hT).c λT hT=>(aZ.r hT).c λT hT=>vX.at hT hi).put;refine oZ hL cU dK rfl rfl λw' b' u'=>?_;obtain⟨S3,h3,u3⟩:=GN (IZ e') w' S2 u' b';have hT3:CW v.tp (v.KJ i e').t w' S3:=by
  refine⟨m1,m2,ng,h3.mono (λ_ h=>h) λ_ h=>h.mono (λ_ h=>?_) λ_ h=>h.mono (λ_ h=>h) λ_ h=>Ar.set cJ h⟩;show uH m1 CR XQ (sC (v.t.aT.set i e')) (v.t.aT.set i e').length _ _;rw[efun,pI];exact h
 obtain⟨S4,h4,u4⟩:=dL _ w' S3 u3 hT3;refine hQ w' S4 (h4.mono (λ_ h=>?_) λ_ h=>?_) u4
 ·have efam:EO (QD ee a v) .Ee (aZ (CW v.tp (v.KJ i e').t) (vX Grv v.gv))=QD ee a (v.KJ i e'):=by
   funext j
   cases j with
   |ch q=>
    show(match v.t.at q with|some e=>jQ e.cp (v.ch q)|none=>DI)=(match (v.KJ i e').t.at q with|some e=>jQ e.cp (v.ch q)|none=>DI)
    rw[show(v.KJ i e').t.at q=if q=e.aL then some e' else v.t.at q from Wp (e':=e') ok.t hi rfl oktt q]
    by_cases hq:q=e.aL
    ·rw[if_pos hq,hq,sP.MJ ok.t (zF hi)]
    ·rw[if_neg hq]
   |_=>rfl
  unfold kX;rw[<-efam];exact h
 ·have es:zH ee (v.KJ i e')=zH ee v:=by
   funext q
   show(match (v.KJ i e').t.at q with|some e=>uG ee e.sp (v.yL q)|none=>DI)=(match v.t.at q with|some e=>uG ee e.sp (v.yL q)|none=>DI)
   rw[show(v.KJ i e').t.at q=if q=e.aL then some e' else v.t.at q from Wp (e':=e') ok.t hi rfl oktt q]
   by_cases hq:q=e.aL
   ·rw[if_pos hq,hq,sP.MJ ok.t (zF hi)]
   ·rw[if_neg hq]
  unfold CX;rw[es];exact h
theorem gC.Vp(h:gC ee a v w S){e:fK}{p:Nat}(he:v.t.at p=some e):∃S1,jQ e.cp (v.ch p) w S1/\(∀k,S1 k->S k)/\∀c D w' T,Up S1 T w w'->aZ (jQ e.cp c) D w' T->∃S',aZ (gC ee a (v.oP p c)) D w' S'/\Up S S' w w':=by
 obtain⟨S1,h1,hs,dL⟩:=(aZ.l h).c λT hT=>kX.chan hT he;refine⟨S1,h1,hs,λc D w' T u hT=>?_⟩;obtain⟨S',h',u'⟩:=dL _ D w' T u hT;exact⟨S',h'.mono (λS h=>h.mono (λ_ h=>by unfold kX;rw[<-fam_ch he];exact h) λ_ h=>h) λ_ h=>h,u'⟩
end
end
section
abbrev BL(r:Sl):BS:=λk=>∃a,r.b=some a/\k=a.block
def EntR(v:iQ)(p:Nat)(g:gA)(v':iQ)(ps:List Pk)(hs:List yU):Prop:=∃e∈v.t.aT,e.aL=p/\e.aP=g.aP/\∃rO Ul c1,VH (v.ch p) g rO Ul c1/\(rO=[]->v'=v.oP p c1/\F2 (dt p) Ul ps/\hs=[])
def qv(g:gA)(e:Int):Prop:=e=0/\g.kind≠3/\1<=g.aP/\g.aP<=2147483648
def Wh(G:Gr)(v:iQ)(p:Int)(bs:List dA)(v':iQ)(ps:List Pk)(hs:List yU):Prop:=
 (¬(0<=p/\p<16)/\v'=v/\ps=[]/\hs=[])\/∃g e,GDec bs g e/\((¬qv g e/\v'=v/\ps=[]/\hs=[])\/(qv g e/\((∀f∈v.t.aT,¬(f.aL=p.toNat/\f.aP=g.aP))/\BegR G v p.toNat g v' ps hs\/EntR v p.toNat g v' ps hs)))
structure Aq(v v':iQ)(p:Int):Prop where
 cQ:v'.cQ=v.cQ
 u:v'.u=v.u
 dN:v'.dN=v.dN
 aT:∀f∈v'.t.aT,(∃f0∈v.t.aT,f0.aL=f.aL)\/(f.aL:Int)=p
theorem Aq.refl(v:iQ)(p:Int):Aq v v p:=⟨rfl,rfl,rfl,λf hf=>.inl ⟨f,hf,rfl⟩⟩
structure RcvO(G:Gr)(B:Int)(ee a:Nat)(v:iQ)(p:Int)(bs:List dA)(w:aH)(S:BS)(r rh:Sl)(ps:List Pk)(hs:List yU)(v':iQ)(w':aH)(S':BS):Prop where
 Bq:gC ee a v' w' S'
 up:Up S S' w w'
 row:rA w.heap.size S' w' r ps
 AS:Qp w.heap.size S' w' rh hs
 ok:v'.Ok G (B+16)
 len:ps.length<=v.cQ.cO+1
 vt:∀q∈ps,q.2.length<=3000
 dx:Aq v v' p
 rel:Wh G v p bs v' ps hs
 hl:hs.length<=20
theorem BegR.YE{G:Gr}{B:Int}{v v':iQ}{p:Nat}{g:gA}{ps:List Pk}{hs:List yU}(hw:v.cQ.cO<=16)(h:BegR G v p g v' ps hs)(ok:v'.Ok G B):ps.length<=v.cQ.cO+1/\(∀q∈ps,q.2.length<=3000)/\Aq v v' p/\hs.length<=20:=by
 obtain⟨m,e,_,⟨_,rfl,rfl,q,code,rfl,hq⟩|⟨_,en,z,rO,Ul,c1,RH,Cy,h1,h2,h3,h4,h5,h6,h7,h8,h9,IN,Ki,rfl,rfl⟩⟩:=h
 ·exact⟨by simp,λx hx=>by rw[uE.1 hx];exact hq.2.1,Aq.refl _ _,by simp⟩
 ·have hm:en∈((v.oO en (yT v.cQ.cO g.aP) z.1).oP p c1).t.aT:=oE.2 (.inl rfl)
  have hc:=xT.YE hm h9 ok;have RM:(v'.ch en.aL).s.n<=v.cQ.cO:=hc.2;have rf:=wR (OE hw) h6;have e1:((v.oO en (yT v.cQ.cO g.aP) z.1).oP p c1).ch en.aL=c1:=by
   show(if en.aL=p then c1 else _)=c1
   rw[if_pos h1]
  have bu:=hc.1;rw[e1] at bu;have hl:=h7.len;have sm:=h9.same;refine⟨by rw[mJ];omega,λq hq=>?_,⟨sm.cQ,sm.u,sm.dN,λf hf=>?_⟩,by simp⟩
  ·rcases jK.1 hq with hq|hq
   ·obtain⟨_,_,hp⟩:=h7.mem hq
    exact hp.2.1
   ·exact(xT.vt hm h9 q hq).1
  ·rw[sm.t] at hf
   rcases oE.1 hf with rfl|⟨hf,_⟩
   ·exact .inr (by rw[h1])
   ·exact .inl ⟨f,hf,rfl⟩
section
variable{W0 w:aH}{S:BS}{a:Nat}{v:iQ}{E:uJ}{G:Gr}{B:Int}
theorem VRecv_i{p:Int}{b:Sl}{bs:List dA}{Q:Sl->Sl->aH->Prop}(h:gC E.e a v w S)(hb:Bs W0 E G S w)(ok:v.Ok G B)(hB:0<=B/\B<=100000000000000)(hr:Rd w b 1 eU bs)(hro:AW b S w)(hl:bs.length<=5000)
  (hQ:∀r rh ps hs v' w' S',RcvO G B E.e a v p bs w S r rh ps hs v' w' S'->Q r rh w'):OX (some ⟨a,0,none⟩) p b w Q:=by
 unfold OX;have bd:=bF.gH h;have okB:v.Ok G (B+16):=⟨ok.cQ,ok.dN,ok.u,ok.t,ok.eO,λe he=>by have:=ok.ch e he;exact⟨this.1,this.2.1,this.2.2.1,aB⟩,ok.yL,ok.Dd,ok.lost⟩;have no:∀wx,aM w wx->Wh G v p bs v [] []->Q bD bD wx:=λwx k xM=>hQ _ _ [] [] v wx S ⟨bF.kp h k,Up.aN k,eF.nil,eF.nil,okB,iG _,λq hq=>(by cases hq),Aq.refl v p,xM,iG _⟩;refine aF (λh=>by simp at h) (λ_=>aJ (λh0=>no w (aW.refl _ _) (.inl ⟨λhh=>aB,rfl,rfl,rfl⟩)) (λh0=>aJ (λh1=>no w (aW.refl _ _) (.inl ⟨λhh=>aB,rfl,rfl,rfl⟩)) (λh1=>?_)));obtain⟨pn,rfl⟩:∃pn:Nat,p=(pn:Int):=⟨p.toNat,aB⟩;have hp16:pn<16:=aB;refine jl hr hl λg sl e w1 k1 rd1 f1 Ke=>?_;refine fD (zs:=eG (⟨0,0,0,0,0,[]⟩,bD)) (vs:=eG (g,sl)) rF rfl (Lc _) λw3 o3 k3 z3=>?_;have K3:=k1.tr k3;have UI:¬qv g e->Q bD bD w3:=λhn=>no w3 K3 (.inr ⟨g,e,Ke,.inl ⟨hn,rfl,rfl,rfl⟩⟩);refine aF (λhe=>UI λhh=>by have:=hh.1;simp[this] at he) (λhe=>?_);have he0:e=0:=by simpa using he
 refine aE (k:=.i) g.kind (cM o3 rfl) (aF (λhk=>UI λhh=>hh.2.1 (by simpa using hk)) (λhk=>?_));have nj:g.kind≠3:=by simpa using hk
 refine aE (k:=.i) g.aP (cM o3 rfl) (aJ (λhc=>UI λhh=>by have:=hh.2.2.1;omega) (λbu=>?_));refine aE (k:=.i) g.aP (cM o3 rfl) (aJ (λhc=>UI λhh=>by have:=hh.2.2.2;omega) (λRM=>?_));have Wb:qv g e:=⟨he0,nj,aB,aB⟩;have K3d:=K3.tr (bN w3);have h3:=bF.kp h K3d;have Kq:=o3.aK (bN w3) id;refine aA rfl (aE (k:=.ptr) (some ⟨v.tp,0,none⟩) (h3.cell rfl) (aE (k:=.i) g.aP (cM Kq rfl) ?_));obtain⟨ST,hT,_⟩:=h3.Ee;have lgb:g.body.length<=5000:=iF Ke.len hl;have rdg:Rd w3.drew sl 1 eU g.body:=(rd1.1.aK k3 fH λ_ _=>id).aK (bN w3) fH λ_ _=>id;have z1:=k1.size;have cj:∀b,sl.b=some b->w.heap.size<=b.block/\b.block<w3.drew.heap.size:=λb bW=>⟨f1 b bW,by have:=rd1.2.2.1 b bW;have:w3.drew.heap.size=w3.heap.size:=rfl;omega⟩;have og:AW sl S w3.drew:=λb bW=>⟨λhs=>by have:=bd _ hs;have:=(cj b bW).1;omega,(cj b bW).2⟩;have tg:bY w3.drew ⟨w1.heap.size,0,none⟩ 0 (qG kG (IW (g,sl))):=Kq.holds λj v hj=>by rw[pM];exact hj
 refine TGet_i hT ok.t (λen dj Ui hce=>?_) (λvS=>?_)
 ·refine aF (λh=>by simp at h) (λ_=>?_)
  subst Ui;have Kb:=K3d.tr (bN w3.drew);obtain⟨wb,hwb⟩:∃wb,wb=w3.drew.drew:=⟨_,rfl⟩;have kb:aM w3.drew wb:=by rw[hwb];exact bN w3.drew
  rw[<-hwb] at Kb ⊢;have hd:=bF.kp h Kb;have Ua:=sP.MJ ok.t dj;have ob:=Kq.aK kb id;have kH:=ok.ch en dj;have DM:=kH.1.s.yP;have CT:=ok.cQ.cO;have zb:=kb.size;refine aA rfl (aE (k:=.ptr) (some ⟨en.cp,0,none⟩) (hd.UT dj rfl) (aA rfl (aE (k:=.i) v.dN (hd.cell rfl) (bJ (l:=kG) (IW (g,sl)) (ob.holds λj v hj=>by rw[pM];exact hj) ?_))));obtain⟨S6,h6,Pm,xS⟩:=hd.Vp Ua;have hnx:(v.ch en.aL).s.next<=B+16:=by have h1:=kH.2.2.2;have h2:=kH.2.2.1;have h3:(v.ch en.aL).s.next-((v.ch en.aL).s.n:Int)<=B:=h1;omega
  refine Sh h6 kH.1 aB (rdg.aK kb fH λ_ _=>id) (λb bW=>⟨λhk=>(og b bW).1 (Pm _ hk),by have:=(og b bW).2;omega⟩) lgb Ke.seq λYH rO rg Ul c1 w6 S7 h7 u7 YG Pz=>?_;obtain⟨S8,h8,u8⟩:=xS _ _ w6 S7 u7 h7;obtain⟨SA,SR,hA,⟨SB,SG,hBs,hGs,dBG,eBG⟩,dAR,eAR⟩:=h8;have rowD:Fh (λk=>¬SA k) w6 YH rO:=hBs.row λk hk hs=>dAR k hs ((eBG k).2 (.inl hk));have rowG:Vg (λk=>¬SA k) w6 rg Ul:=hGs.row λk hk hs=>dAR k hs ((eBG k).2 (.inr hk));have UA:Up S SA wb w6:=u8.tr (Up.sub w6 λk hk=>(eAR k).2 (.inl hk));have rf:=wR kH.1 YG;have okv1:(v.oP en.aL c1).Ok G (B+16):=Gm ok dj ⟨Pz,rf.2.1.trans kH.2.1,rf.1.trans kH.2.2.1,aB⟩ aB;have l64:Ul.length<=17:=by
   have h2:=Pz.s.yP;omega
  have dQ:∀(r rh:Sl) ps hs v' w' S',gC E.e a v' w' S'->Up S S' wb w'->rA w6.heap.size S' w' r ps->Qp w6.heap.size S' w' rh hs->v'.Ok G (B+16)->ps.length<=v.cQ.cO+1->(∀q∈ps,q.2.length<=3000)->Aq v v' (en.aL:Int)->(rO=[]->v'=v.oP en.aL c1/\F2 (dt en.aL) Ul ps/\hs=[])->hs.length<=20->Q r rh w':=λr rh ps hs v' w' S' g1 g2 g3 g4 g5 g6 g7 g8 g9 g10=>by
   have zz:w.heap.size<=w6.heap.size:=by have:=UA.size;have:=Kb.size;omega
   exact hQ r rh ps hs v' w' S' ⟨g1,(Up.aN Kb).tr g2,g3.qE zz,g4.qE zz,g5,g6,g7,g8,.inr ⟨g,e,Ke,.inr ⟨Wb,.inr ⟨en,dj,rfl,hce,rO,Ul,c1,YG,λh0=>g9 h0⟩⟩⟩,g10⟩
  refine AJ rowG aB (λx hx=>by have:=rf.2.2.2.2.1 x hx;omega) λr1 RH w7 k7 v7 f7=>?_;have fl7:=f7.len;have lbs:=rf.2.2.2.2.2.2;have hpk1:∀q∈RH,q.2.length<=3000:=λq hq=>by obtain⟨_,_,hp⟩:=f7.mem hq;exact hp.2.1
  intro J1 KH;have j1:∀v2 w8 S8,gC E.e a v2 w8 S8->Up S S8 wb w8->rA w6.heap.size S8 w8 r1 RH->v2.Ok G (B+16)->Fh (λk=>¬S8 k/\k<w6.heap.size) w8 YH rO->(∃Pp∈v2.t.aT,Pp.a=en.a/\Pp.aL=en.aL/\Pp.sp=en.sp)->v2.cQ=v.cQ->v2.u=v.u->v2.dN=v.dN->(∀f∈v2.t.aT,∃f0∈v.t.aT,f0.aL=f.aL)->v2.ch en.aL=c1->(rO=[]->v2=v.oP en.aL c1)->w6.heap.size<=w8.heap.size->J1 () w8:=by
   intro v2 w8 S8 h8 u8 r8 ok8 d8 hen2 e1 e2 e3 e4 e5 e6 zz8;obtain⟨Pp,hen2,ha2,Ku,hsp2⟩:=hen2;have eadr:wX en=wX Pp:=by rw[show wX Pp=some ⟨Pp.a,0,none⟩ from rfl,ha2]
   apply KH;have ld:=d8.len;refine bO (λn t w9=>∃(i:Nat) (r rh:Sl) (ps:List Pk) (hs:List yU) (v5:iQ) (S5:BS),i<=rO.length/\n=rO.length-i/\t=(r,rh,(i:Int),())/\gC E.e a v5 w9 S5/\Up S S5 wb w9/\rA w6.heap.size (λk=>S5 k\/BL rh k) w9 r ps/\Qp w6.heap.size (λk=>S5 k\/BL r k) w9 rh hs/\v5.Ok G (B+16)/\qJ v2 v5/\ps.length<=(v5.ch en.aL).s.n+1/\hs.length<=i/\(∀q∈ps,q.2.length<=3000)/\Fh (λk=>¬S5 k/\k<w6.heap.size) w9 YH rO/\(i=0->v5=v2/\ps=RH/\hs=[])/\w6.heap.size<=w9.heap.size) rO.length
    ⟨0,r1,bD,RH,[],v2,S8,iG _,rfl,rfl,h8,u8,r8.cov λk hk=>hk.elim .inl λ⟨a,ha,_⟩=>(by cases ha),eF.nil,ok8,qJ.refl v2,by rw[e5];omega,iT _,hpk1,d8,λ_=>⟨rfl,rfl,rfl⟩,zz8⟩ ?_
   rintro n t w9 ⟨i,r,rh,ps,hs,v5,S5,hi,rfl,rfl,h5,u5,r5,q5,LI,Tp,hn5,hl5,Mq,d5,hz5,zz5⟩ X hX;dsimp only;have Ka:Pp∈v5.t.aT:=by rw[Tp.t];exact hen2
   have wc:(v5.ch en.aL).s.n<=v.cQ.cO:=by
    have h1:=LI.ch Pp Ka;rw[Ku] at h1;have h2:=h1.1.s.yP;rw[h1.2.2.1,Tp.cQ,e1] at h2;exact h2
   have Vn:Aq v v5 (en.aL:Int):=⟨Tp.cQ.trans e1,Tp.u.trans e2,Tp.dN.trans e3,λf hf=>.inl (e4 f (by rw[<-Tp.t];exact hf))⟩;have Ms:=bF.gH h5;refine aJ (λcJ=>?_) (λkT=>?_)
   ·have dI:i<rO.length:=aB
    have cV:=gS dI;have fP:=nC dI;generalize rO[i]=body at*;obtain⟨q,slb,hq,hh,Kt,Ek⟩:=d5.get cV;rw[kE,pZ i aB];have cq:w9.cell? (q.add (i*1))=some (sv slb):=by have:=hh.1;rwa[add_add,Nat.add_zero] at this
    refine⟨⟨aB,cJ⟩,aA hq (aE (k:=.slice) slb cq ?_)⟩;refine jj Kt (lbs _ fP) λm av em eR IG rd10 f10 hmd=>?_;refine fD (zs:=tA (⟨0,0,0,[],0,MC⟩,bD)) (vs:=tA (m,av)) BY rfl (VC _) λeQ Cz KF z12=>?_;have ny:=IG.tr KF;have Bv:=bF.kp h5 ny;have z10:=IG.size;have z12':=KF.size;have skip:X (r,rh,((i+1:Nat):Int),()) eQ:=hX _ _ _ aB ⟨i+1,r,rh,ps,hs,v5,S5,dI,rfl,rfl,Bv,u5.tr (Up.aN ny),r5.kp ny,q5.kp ny,LI,Tp,hn5,aB,Mq,d5.kp KN ny,λh0=>aB,aB⟩;intro J2 El;have j2:J2 () eQ:=by
     apply El;have o1:cW eQ w1.heap.size GC (eG (g,sl)):=(ob.aK u5.m λhs=>by have:=bd _ hs;omega).aK ny id;refine aE (k:=.i) g.aP (cM o1 rfl) (bJ (l:=bc) (FV (m,av)) (Cz.holds λj v hj=>by rw[pM];exact hj) ?_);have rlt:∀b,r.b=some b->b.block<w9.heap.size:=λb bW=>r5.lt bW;have rhlt:∀b,rh.b=some b->b.block<w9.heap.size:=λb bW=>q5.lt bW;have bSr:∀k,S5 k\/BL r k->k<eQ.heap.size:=λk hk=>hk.elim (λh=>by have:=Ms k h;omega) λ⟨b,bW,e⟩=>by have:=rlt b bW;omega
     refine eF.pg NK qa oneHd aB (q5.kp ny) aB aB bSr ⟨en.aL,g.aP,true,m⟩ (sl:=av) (rd10.1.aK KF cR λ_ _=>id) (λb bW=>⟨by have:=f10 b bW;omega,λhs=>?_,by have:=rd10.2.2.1 b bW;omega,λb' Qj e=>?_⟩) λrh' fO q15 Eh nb15=>?_
     ·have:=f10 b bW
      rcases hs with hs|⟨b',Qj,e⟩
      ·have:=Ms _ hs;omega
      ·have:=rlt b' Qj;omega
     ·have:=f10 b bW;have:=rhlt b' Qj;omega
     have z15:=Eh.size;have nS:∀k,S5 k->¬BL rh k:=λk hk ⟨b,bW,e⟩=>((q5.BI k ⟨b,bW,e⟩).2) (.inl hk);have h15:gC E.e a v5 fO S5:=bF.aK Bv Eh nS;have m15':=Eh.mono (G:=λk=>wb.heap.size<=k/\¬S5 k) λk _ hk=>⟨by have:=(q5.BI k hk).1;have:=UA.size;omega,λhs=>nS k hs hk⟩;have u15:Up S S5 wb fO:=Up.iH (u5.tr (Up.aN ny)) m15';have r15:rA w6.heap.size (λk=>S5 k\/BL rh' k) fO r ps:=(r5.kp ny).aK Eh (λk _ hk _ h=>hk (.inr h)) λk hk cJ hs=>by
      rcases hs with hs|⟨b,bW,e⟩
      ·exact hk (.inl hs)
      ·rcases nb15 b bW with⟨a',pH,e2⟩|h
       ·exact hk (.inr ⟨a',pH,by rw[e,e2]⟩)
       ·omega
     have d15:Fh (λk=>¬S5 k/\k<w6.heap.size) fO YH rO:=(d5.kp KN ny).aK KN Eh λk hk _ h=>by have:=(q5.BI k h).1;omega
     have o15:=Cz.aK Eh λ⟨b,bW,e⟩=>by have:=rhlt b bW;omega
     have hl15:(hs++[(⟨en.aL,g.aP,true,m⟩:yU)]).length<=i+1:=by simp;omega
     refine aE (k:=.i) m.kind (cM o15 rfl) (aF (λhbye=>?_) (λ_=>?_))
     ·refine aA rfl (aE (k:=.ptr) (some ⟨v5.tp,0,none⟩) (h15.cell rfl) ?_)
      refine cC (cs:=eI (en.aL:Int)) λgR b16 Jy z16=>?_;have bd15:=bF.gH h15;refine uo (bF.kp h15 Jy) LI (iV fG [(en.aL:Int)] b16 rfl dK) (λb bW=>by cases bW;exact⟨λhs=>by have h1:fO.heap.size<fO.heap.size:=bd15 _ hs;omega,b16.1.lt⟩) λ_ iZ S17 h17 u17 ok17 _=>?_;have U17:=(Up.aN (S:=S5) Jy).tr u17;refine dQ r rh' ps _ _ iZ S17 h17 (u15.tr U17) ((r15.sub λk hk=>.inl hk).up U17) ((q15.sub λk hk=>.inl hk).up U17) ok17 aB Mq ⟨Vn.cQ,Vn.u,Vn.dN,λf hf=>Vn.aT f (jE.1 hf).1⟩ (λh0=>by rw[h0] at dI;simp at dI) aB
     ·have h15d:=bF.dr h15
      have o15d:=o15.aK (bN fO) id;have csp:=h15d.UT Ka (k:=3) rfl;have cel:fO.drew.cell? ((⟨en.a,0,none⟩:Addr).add 3)=some (.pointer (some ⟨Pp.sp,0,none⟩)):=by rw[<-ha2];exact csp
      refine aA rfl (aE (k:=.ptr) (some ⟨Pp.sp,0,none⟩) cel (aE (k:=.i) m.pos (cM o15d rfl) (aA rfl (aE (k:=.ptr) (some ⟨v5.sp,0,none⟩) (h15d.cell rfl) ?_))));obtain⟨SU,hU,_⟩:=h15d.sset;refine Sd hU LI.u.2 λmk lE v18 Ts f18=>?_;have K18:=(bN fO).tr Ts;have xh:=bF.kp h15 K18;have o18:=o15.aK K18 id;have cel18:lE.cell? ((⟨en.a,0,none⟩:Addr).add 3)=some (.pointer (some ⟨Pp.sp,0,none⟩)):=by rw[<-ha2];exact xh.UT Ka (k:=3) rfl
      refine⟨cM o18 rfl,cel18,?_⟩;have U18:Up S S5 wb lE:=u15.tr (Up.aN K18);have hb18:Bs W0 E G S5 lE:=(hb.kp Kb).up U18;obtain⟨S9,h9,hs9,say9⟩:=xh.sesSay hb18 LI Ka;have bd15:=bF.gH h15;have z18:=K18.size;have wd:fO.drew.heap.size=fO.heap.size:=rfl;refine SRep_i (hb18.sub hs9) h9 (LI.yL Pp Ka) (v18.rd Uv) (λb bW hs=>by have:=bd15 _ (hs9 _ hs);have:=f18 b bW;omega) λz ms nL T hz hT uT okz Uj Uk=>?_;rw[eadr];refine say9 z nL T ms uT hT okz Uj aB _ λrs pps v6 yK S20 hsd h20 u20 r20 ok20=>?_;have UU:Up S5 S20 fO yK:=(Up.aN K18).tr u20;have r20':=r15.aK (S':=λk=>S20 k\/BL rh' k) UU.m (λk _ hk _ h=>hk (.inl h)) λk hk cJ hs=>hs.elim (λhs=>(UU.s k hs).elim (λh=>hk (.inl h)) λh=>aB) λhs=>hk (.inr hs);have rhlt':∀b,rh'.b=some b->b.block<fO.heap.size:=λb bW=>q15.lt bW;have rs20:rA lE.heap.size (λk=>S20 k\/BL rh' k) yK rs pps:=r20.cov λk hk=>hk.imp id λ⟨b,bW,e⟩=>by have:=rhlt' b bW;omega
      have hm5':Pp∈(v5.uW Pp.aL z.1).t.aT:=Ka;have ye:=xT.YE hm5' hsd ok20;have e7:((v5.uW Pp.aL z.1).ch Pp.aL)=v5.ch en.aL:=by show v5.ch Pp.aL=_;rw[Ku]
      rw[e7,Ku] at ye;have ew:(v5.uW en.aL z.1).cQ.cO=v.cQ.cO:=by show v5.cQ.cO=_;rw[Tp.cQ,e1]
      have hcw:=ye.2;rw[ew] at hcw;have z20:=UU.size;have bd20:=bF.gH h20;have r5lt:∀b,r.b=some b->b.block<fO.heap.size:=λb bW=>r15.lt bW;have lsum:ps.length+pps.length<=1000000:=by have:=ye.1;omega
      refine eF.fw jS MB LY aB r20' rs20 aB (λb bW=>by have:=r5lt b bW;omega) lsum aB (λk hk=>hk.elim (bd20 k) λ⟨b,bW,e⟩=>by have:=rhlt' b bW;omega) λr' AR v21 vu nb21=>?_;have nR:∀k,S20 k->¬BL r k:=λk hk h=>(r20'.BI k h).2 (.inl hk);have h21:gC E.e a v6 AR S20:=bF.aK h20 vu nR;have m21':=vu.mono (G:=λk=>wb.heap.size<=k/\¬S20 k) λk _ hk=>⟨by have:=(r20'.BI k hk).1;have:=UA.size;omega,λhs=>nR k hs hk⟩;have u21:Up S S20 wb AR:=Up.iH (u15.tr UU) m21';have q20:Qp w6.heap.size (λk=>S20 k\/BL r k) yK rh' (hs++[⟨en.aL,g.aP,true,m⟩]):=q15.aK (S':=λk=>S20 k\/BL r k) UU.m (λk _ hk _ h=>hk (.inl h)) λk hk cJ hs=>hs.elim (λhs=>(UU.s k hs).elim (λh=>hk (.inl h)) λh=>aB) λhs=>hk (.inr hs);have q21:Qp w6.heap.size (λk=>S20 k\/BL r' k) AR rh' (hs++[⟨en.aL,g.aP,true,m⟩]):=q20.aK vu (λk _ hk _ h=>hk (.inr h)) λk hk cJ hs=>by
       rcases hs with hs|⟨b,bW,e⟩
       ·exact hk (.inl hs)
       ·rcases nb21 b bW with⟨a',pH,e2⟩|h
        ·exact hk (.inr ⟨a',pH,by rw[e,e2]⟩)
        ·omega
      have d21:Fh (λk=>¬S20 k/\k<w6.heap.size) AR YH rO:=((d15.aK KN UU.m λk hk _=>hk.1).wk λk hk _=>⟨λhs=>(UU.s k hs).elim hk.1 λh=>by have:=hk.2;omega,hk.2⟩).aK KN vu λk hk _ h=>by have:=(r20'.BI k h).1;have:=hk.2;omega
      have z21:=vu.size;refine hX _ _ _ aB ⟨i+1,r',rh',ps++pps,_,v6,S20,dI,rfl,rfl,h21,u21,v21,q21,ok20,Tp.tr ((⟨rfl,rfl,rfl,rfl,rfl,rfl,rfl,rfl⟩:qJ v5 (v5.uW Pp.aL z.1)).tr hsd.same),by rw[mJ];have:=ye.1;omega,hl15,λx hx=>?_,d21,λh0=>aB,aB⟩;rcases jK.1 hx with hx|hx
      ·exact Mq x hx
      ·exact(xT.vt hm5' hsd x hx).1
    refine aF (λ_=>skip) (λ_=>aE (k:=.i) m.kind (cM Cz rfl) (aF (λ_=>aE (k:=.i) m.kind (cM Cz rfl) (aF (λ_=>skip) (λ_=>j2))) (λ_=>j2)))
   ·have ei:i=rO.length:=aB
    subst ei;refine dQ r rh ps hs v5 w9 S5 h5 u5 (r5.sub λk hk=>.inl hk) (q5.sub λk hk=>.inl hk) LI aB Mq Vn (λh0=>?_) aB;obtain⟨x1,x2,x3⟩:=hz5 (by rw[h0];rfl);exact⟨x1.trans (e6 h0),by rw[x2];exact f7,x3⟩
  have z7:=k7.size;have hA7:=bF.kp hA k7;have bA:=bF.gH hA;have v7':rA w6.heap.size SA w7 r1 RH:=v7.sub λk hk=>bA k hk;have d7:Fh (λk=>¬SA k/\k<w6.heap.size) w7 YH rO:=(rowD.wk λk h1 h2=>⟨h1,h2⟩).kp KN k7;have ech:(v.oP en.aL c1).ch en.aL=c1:=if_pos rfl;have U7:=UA.tr (Up.aN k7);have ldg:=rowD.len;refine aJ (λuP=>?_) (λhz=>?_)
  ·refine aA rfl (aE (k:=.i) v.dN (hA7.cell rfl) (aA rfl ?_))
   obtain⟨ix,hix⟩:=List.getElem?_of_mem dj;refine hA7.kO okv1 (i:=ix) (e:=en) hix λDF S22 h22 u22=>?_;have hent:=ok.Dd en dj;have RV:=ok.dN;refine j1 ((v.oP en.aL c1).KJ ix {en with kO:=v.dN}) DF S22 h22 (U7.tr u22) (v7'.up u22) (touch_ok okv1 (e:=en) hix rfl rfl rfl ⟨RV.1,oX _⟩) ((d7.aK KN u22.m λk hk _=>hk.1).wk λk hk _=>⟨λhs=>(u22.s k hs).elim hk.1 λh=>by have:=hk.2;omega,hk.2⟩) ⟨{en with kO:=v.dN},(sE (e':={en with kO:=v.dN}) ok.t.rN hix rfl).2 (.inl rfl),rfl,rfl,rfl⟩ rfl rfl rfl (λf hf=>?_) ech (λh0=>?_) (by have:=u22.size;omega)
   ·rcases(sE (e':={en with kO:=v.dN}) ok.t.rN hix rfl).1 hf with rfl|⟨hf,_⟩
    ·exact⟨en,dj,rfl⟩
    ·exact⟨f,hf,rfl⟩
   ·rw[h0] at ldg;simp at ldg;omega
  ·exact j1 (v.oP en.aL c1) w7 SA hA7 U7 v7' okv1 d7 ⟨en,dj,rfl,rfl,rfl⟩ rfl rfl rfl (λf hf=>⟨f,hf,rfl⟩) ech (λ_=>rfl) z7
 ·refine aF (λ_=>bJ (l:=kG) (IW (g,sl)) tg ?_) (λh=>by cases h)
  refine begin_i h3 (hb.kp K3d) okB aB hp16 rdg og lgb Ke.seq ⟨aB,aB⟩ λr rh ps hs v' w5 S5 g1 g2 g3 g4 g5 g6=>?_;have cn:=g6.YE ok.cQ.cO.2 g5;exact hQ r rh ps hs v' w5 S5 ⟨g1,(Up.aN K3d).tr g2,g3.qE K3d.size,g4.qE K3d.size,g5,cn.1,cn.2.1,cn.2.2.1,.inr ⟨g,e,Ke,.inr ⟨Wb,.inl ⟨by rw[kE];exact vS,by rw[kE];exact g6⟩⟩⟩,cn.2.2.2⟩
end
end
section
structure Quiet(c:lH):Prop where
 iH:c.s.iH=false
 yM:∀x,¬c.s.yM x
 gU:c.gU=[]
structure dw(c c':lH):Prop where
 cO:c'.s.cO=c.s.cO
 next:c'.s.next=c.s.next
 f:c'.s.f=c.s.f
 n:c'.s.n=c.s.n
 aP:c'.aP=c.aP
 t:c'.t=c.t
 q:Quiet c'
theorem dw.refl{c:lH}(h:Quiet c):dw c c:=⟨rfl,rfl,rfl,rfl,rfl,rfl,h⟩
theorem dw.tr{c c' c'':lH}(h:dw c c')(h':dw c' c''):dw c c'':=⟨h'.cO.trans h.cO,h'.next.trans h.next,h'.f.trans h.f,h'.n.trans h.n,h'.aP.trans h.aP,h'.t.trans h.t,h'.q⟩
theorem Ib{c c':lH}{gs:List gA}{e:Int}(q:Quiet c)(h:qt c gs e c'):gs=[]/\e=0/\dw c c':=by
 obtain⟨s1,L,e0,⟨a1,a2,a3,a4,a5⟩,PZ,hL,h4,h5,h⟩:=h;obtain⟨rfl,rfl⟩:=h4 q.iH q.yM;rw[if_pos rfl] at h;obtain⟨rfl,rfl,rfl⟩:=h;have hp:(⟨s1,c.aP,c.t,c.gU⟩:lH).nP=([],⟨s1,c.aP,c.t,[]⟩):=by
  show lH.UO s1 c.aP c.t.next c.t c.gU=_
  rw[q.gU];rfl
 rw[hp];exact⟨rfl,rfl,a1,a2,a3,a4,rfl,rfl,(h5 rfl).trans q.iH,λx hx=>q.yM x (a5 x hx),rfl⟩
def jg(v:iQ):Prop:=(∀e∈v.t.aT,Quiet (v.ch e.aL))/\∀k,(v.lf k).getD (false:Bool)=false
def Vc(v:iQ)(e:fK):Bool:=decide (e.kO+v.cQ.idle<=v.dN+1)
structure TickO(G:Gr)(B:Int)(ee a:Nat)(v:iQ)(w:aH)(S:BS)(r:Sl)(ps:List Pk)(v':iQ)(w':aH)(S':BS):Prop where
 Bq:gC ee a v' w' S'
 up:Up S S' w w'
 row:rA w.heap.size S' w' r ps
 ok:v'.Ok G B
 cQ:v'.cQ=v.cQ
 dN:v'.dN=v.dN+1
 u:v'.u=RU (v.dN+1) v.u (mE 0 v.u)
 aT:∀f∈v'.t.aT,f∈v.t.aT
 len:ps.length<=v.cQ.kV*(2*v.cQ.cO+1)
 vt:∀q∈ps,q.2.length<=3000
 q:jg v->(UR (v.dN+1) (mE 0 v.u)=[]\/v.t.aT=[])->v'.t.aT=v.t.aT.filter (λe=>!Vc v e)/\v'.t.gr=v.t.gr/\F2 (λe p=>dt (e.aL:Int) ⟨e.aP,3,0,0,3,[]⟩ p) (v.t.aT.filter λe=>Vc v e) ps/\(∀e∈v.t.aT,dw (v.ch e.aL) (v'.ch e.aL))/\v'.yL=v.yL/\∀k,(v'.lf k).getD (false:Bool)=false
def iQ.SN(v:iQ)(n:Int):iQ:={v with dN:=n}
theorem setLf_ok{G:Gr}{B:Int}{v:iQ}(ok:v.Ok G B){e:fK}(he:e∈v.t.aT)(b:Bool):(v.Aj e.a b).Ok G B:=
 ⟨ok.cQ,ok.dN,ok.u,ok.t,ok.eO,ok.ch,ok.yL,ok.Dd,λk hk=>by
  by_cases h:k=e.a
  ·exact .inl ⟨e,he,h.symm⟩
  ·refine ok.lost k ?_
   have:(v.Aj e.a b).lf k=v.lf k:=if_neg h;rw[<-this];exact hk⟩
section
variable{W0 w:aH}{S:BS}{a:Nat}{v:iQ}{E:uJ}{G:Gr}{B:Int}{ee:Nat}
theorem gC.Gc(h:gC ee a v w S)(ok:v.Ok G B){e:fK}(he:e∈v.t.aT){Q:Bool->aH->Prop}(hQ:Q ((v.lf e.a).getD (false:Bool)) w):jY prog (.c .bool) 98 (.map (some v.lp)) (.pointer (wX e)) w Q:=by
 obtain⟨SC,SS,hC,_⟩:=h;exact hC.Gc ok he hQ
theorem gC.mark(h:gC ee a v w S)(ok:v.Ok G B){e:fK}(he:e∈v.t.aT)(b:Bool){Q:aH->Prop}(hQ:∀w' S',gC ee a (v.Aj e.a b) w' S'->Up S S' w w'->Q w'):fE prog 98 (.map (some v.lp)) (.pointer (wX e)) (.bool b) w Q:=by
 obtain⟨S1,h1,_,dL⟩:=(aZ.l h).put;refine h1.mark ok he b λw' S' h' u'=>?_;obtain⟨S2,h2,u2⟩:=dL _ w' S' u' h';exact hQ w' S2 h2 u2
theorem gC.tick(h:gC ee a v w S)(n:Int){Q:aH->Prop}(hQ:∀w' S',gC ee a (v.SN n) w' S'->Up S S' w w'->Q w'):aI prog cY ((⟨a,0,none⟩:Addr).add 9) (aD n) w Q:=by
 obtain⟨S1,h1,_,dL⟩:=((aZ.l h).c λT hT=>gE.at hT .Bq).put;refine oZ h1 cU dK rfl rfl λw' b' u'=>?_;obtain⟨S2,h2,u2⟩:=dL (rY a wY (UW ee (v.SN n))) w' S1 u' b';refine hQ w' S2 (h2.mono (λ_ h=>?_) λ_ h=>h) u2;have e:EO (QD ee a v) .Bq (rY a wY (UW ee (v.SN n)))=QD ee a (v.SN n):=by
  funext i
  cases i<;>rfl
 unfold kX;rw[<-e];exact h
theorem gC.clear(h:gC ee a v w S){Q:aH->Prop}(hQ:∀w' S',gC ee a {v with lf:=λ_=>none,ln:=0} w' S'->Up S S' w w'->Q w'):BU prog 98 (.map (some v.lp)) w Q:=by
 obtain⟨S1,h1,_,dL⟩:=((aZ.l h).c λT hT=>gE.at hT .lost).put;refine aAl gg h1.1 λw' wh mm' _=>?_;obtain⟨S2,h2,u2⟩:=dL (uH v.lp yN Jw (λ_=>none) 0) w' S1 (Up.at (mm'.mono λk _ hk=>(h1.2 k).2 hk)) ⟨wh,h1.2⟩;refine hQ w' S2 (h2.mono (λ_ h=>?_) λ_ h=>h) u2;have e:EO (QD ee a v) .lost (uH v.lp yN Jw (λ_=>none) 0)=QD ee a {v with lf:=λ_=>none,ln:=0}:=by
  funext i
  cases i<;>rfl
 unfold kX;rw[<-e];exact h
theorem eF.upX{α β:Type}{eb:β->List Value}[VI eb]{ty:TypeId}{n lo:Nat}{aY:α×Sl->List Value}{xL:α->List β}{S S' X:BS}{w w':aH}{r:Sl}{ps:List α}(h:eF eb ty n aY xL lo (λk=>S k\/X k) w r ps)(u:Up S S' w w'):eF eb ty n aY xL lo (λk=>S' k\/X k) w' r ps:=
 h.aK u.m (λk _ hk _ h=>hk (.inl h)) λk hk cJ hs=>hs.elim (λhs=>(u.s k hs).elim (λh=>hk (.inl h)) λh=>aB) λhs=>hk (.inr hs)
theorem Ns{α:Type}{n lo:Nat}{aY:α->List Value}{xs:List α}{s:Sl}{S S':BS}{w w' Cw:aH}(gF:∀x,aY x≠[])(hr:Rd w s n aY xs)(ho:AW s S w)(u:Up S S' w w')(m:aW (λk=>lo<=k/\¬(S' k\/BL s k)) w' Cw):Rd Cw s n aY xs/\AW s S' Cw:=
 ⟨(ho.rd u hr gF).aK m gF λb hb hk=>hk.2 (.inr ⟨b,hb,rfl⟩),λb hb=>⟨(ho.up u b hb).1,mD (ho.up u b hb).2 m.size⟩⟩
theorem passes_i{v0:iQ}{HQ:Prop}{s3:Sl}{lo c0:Nat}{S0:BS}{w0:aH}{r0:Sl}{Mo:List Pk}{Q:Sl×Int×Unit->aH->Prop}(h:gC E.e a v w S)(u0:Up S0 S w0 w)(hlo0:w0.heap.size<=lo)(YC:lo<=w.heap.size)(ok:v.Ok G B)(nN:rA lo (λk=>S k\/BL s3 k) w r0 Mo)(hc0:Mo.length<=c0)(bu:c0<=1000)(hpk:∀q∈Mo,q.2.length<=3000)(hr:Rd w s3 1 Kz (v.t.aT.map wX))(hro:AW s3 S w)
  (hq0:HQ->Mo=[]/\(∀e∈v.t.aT,dw (v0.ch e.aL) (v.ch e.aL))/\v.yL=v0.yL/\∀k,(v.lf k).getD (false:Bool)=false)
  (hQ:∀r ps v' w' S',gC E.e a v' w' S'->Up S0 S' w0 w'->rA lo S' w' r ps->v'.Ok G B->qJ v v'->ps.length<=c0+v.t.aT.length*v.cQ.cO->(∀q∈ps,q.2.length<=3000)->(HQ->ps=[]/\(∀e∈v.t.aT,dw (v0.ch e.aL) (v'.ch e.aL))/\v'.yL=v0.yL/\∀k,(v'.lf k).getD (false:Bool)=false)->lo<=w'.heap.size->Q (r,(v.t.aT.length:Int),()) w'):
  ∀X1:(Sl×Int×Unit)->aH->Prop,(∀(t1:Sl×Int×Unit) (w5:aH),(
 cond (decide (t1.2.1<(s3.l:Int)))
 ((0<=t1.2.1/\t1.2.1<(s3.l:Int))/\
 aC s3.b λa6=>
 xJ .ptr w5 (a6.add (Int.toNat t1.2.1*1)) λ(p3:cL)=>
 aC p3 λa7=>
 xJ .ptr w5.drew (a7.add 2) λ(p4:cL)=>
 aC (some ⟨a,0,none⟩:cL) λa8=>
 xJ .i w5.drew (a8.add 9) λ(x3:Int)=>
 AQ p4 x3 w5.drew λ(s4:Sl) (x4:Int) w6=>
 aC (some ⟨a,0,none⟩:cL) λa9=>
 xJ .map w6.drew (a9.add 10) λ(m1:Option Nat)=>
 aC (some ⟨a,0,none⟩:cL) λtN=>
 xJ .map w6.drew (tN.add 10) λ(m2:Option Nat)=>
 jY prog (.c .bool) 98 (Value.map m2) (Value.pointer p3) w6.drew λ(x5:Bool) w7=>
 w7.cell? (a9.add 10)=some (Value.map m1)/\
 cond x5
 (fE prog 98 (Value.map m1) (Value.pointer p3) (Value.bool true) w7 λw8=>
 aC p3 λDH=>
 xJ .i w8 (DH.add 0) λ(x6:Int)=>
 eV x6 s4 w8 λ(s5:Sl) w9=>
 aX prog 155 155 t1.1 (Value.slice s5.b s5.l s5.c) w9 λ(s6:Sl) eR=>
 X1 (s6,(aQ (t1.2.1+(1:Int))),()) eR)
 (fE prog 98 (Value.map m1) (Value.pointer p3) (Value.bool (x4 !=(0:Int))) w7 λeC=>
 aC p3 λKI=>
 xJ .i eC (KI.add 0) λ(x7:Int)=>
 eV x7 s4 eC λ(s7:Sl) eQ=>
 aX prog 155 155 t1.1 (Value.slice s7.b s7.l s7.c) eQ λ(s8:Sl) gO=>
 X1 (s8,(aQ (t1.2.1+(1:Int))),()) gO))
 (Q t1 w5))->X1 t1 w5)->
 X1 (r0,(0:Int),()) w:=by
 have sl:=hr.len;rw[oK] at sl;have olen:=ok.t.len;have pr:=ok.t.eO;have CT:=ok.cQ.cO;refine bO (λn t w5=>∃(i:Nat) (r:Sl) (ps:List Pk) (v5:iQ) (S5:BS),i<=v.t.aT.length/\n=v.t.aT.length-i/\t=(r,(i:Int),())/\gC E.e a v5 w5 S5/\Up S0 S5 w0 w5/\rA lo (λk=>S5 k\/BL s3 k) w5 r ps/\v5.Ok G B/\qJ v v5/\ps.length<=c0+i*v.cQ.cO/\(∀q∈ps,q.2.length<=3000)/\(HQ->ps=[]/\(∀e∈v.t.aT,dw (v0.ch e.aL) (v5.ch e.aL))/\v5.yL=v0.yL/\∀k,(v5.lf k).getD (false:Bool)=false)/\Rd w5 s3 1 Kz (v.t.aT.map wX)/\AW s3 S5 w5/\lo<=w5.heap.size) v.t.aT.length
  ⟨0,r0,Mo,v,S,iG _,rfl,rfl,h,u0,nN,ok,qJ.refl v,aB,hpk,hq0,hr,hro,YC⟩ ?_
 rintro n t w5 ⟨i,r,ps,v5,S5,hi,rfl,rfl,h5,u5,r5,LI,Tp,hl5,Mq,hq5,Cx,os5,zz5⟩ X hX;dsimp only;refine aJ (λcJ=>?_) (λkT=>?_)
 ·have dI:i<v.t.aT.length:=aB
  have cV:=gS dI;have fP:=nC dI;generalize v.t.aT[i]=e at*;have Ka:e∈v5.t.aT:=by rw[Tp.t];exact fP
  obtain⟨q,hq,cq⟩:=cF (k:=.ptr) (e:=λx=>x) Cx (show(v.t.aT.map wX)[i]? =some (wX e) by rw[mF,cV];rfl);rw[kE,pZ i aB];have hd:=bF.dr h5;have Ua:=sP.MJ LI.t Ka;refine⟨⟨aB,cJ⟩,aA hq (aE (k:=.ptr) (wX e) cq (aA rfl (aE (k:=.ptr) (some ⟨e.cp,0,none⟩) (hd.UT Ka rfl) (aA rfl (aE (k:=.i) v5.dN (hd.cell rfl) ?_)))))⟩;obtain⟨S6,h6,Pm,xS⟩:=hd.Vp Ua;have kH:=LI.ch e Ka;refine va h6 kH.1 λrg gs x4 c' w6 S7 h7 u7 Uh IJ=>?_;obtain⟨S8,h8,u8⟩:=xS _ _ w6 S7 u7 h7;obtain⟨S9,h9,u9,g9⟩:=VO h8;have pf:=Ic kH.1 Uh;have ok9:(v5.oP e.aL c').Ok G B:=Gm LI Ka ⟨IJ,pf.2.1.trans kH.2.1,pf.1.trans kH.2.2.1,by rw[pf.2.2.1];exact kH.2.2.2⟩ (oX _);have hm9:e∈(v5.oP e.aL c').t.aT:=Ka;have h9d:=bF.dr h9;have U9:Up S5 S9 w5 w6.drew:=(((Up.aN (bN w5)).tr u8).tr u9).tr (Up.aN (bN w6));have g9d:=g9.kp QM (bN w6);refine aA rfl (aE (k:=.map) (some v5.lp) (h9d.cell rfl) (aA rfl (aE (k:=.map) (some v5.lp) (h9d.cell rfl) ?_)));refine h9d.Gc ok9 hm9 ⟨h9d.cell rfl,?_⟩;have l16:gs.length<=v.cQ.cO:=by
   have h2:=IJ.s.yP;rw[pf.1,kH.2.2.1,Tp.cQ] at h2;omega
  have go:∀bb:Bool,(HQ->bb=false)->fE prog 98 (Value.map (some v5.lp)) (Value.pointer (wX e)) (Value.bool bb) w6.drew λw8=>aC (wX e) λDH=>xJ .i w8 (DH.add 0) λ(x6:Int)=>eV x6 rg w8 λ(s5:Sl) w9=>aX prog 155 155 r (Value.slice s5.b s5.l s5.c) w9 λ(s6:Sl) eR=>X (s6,((i+1:Nat):Int),()) eR:=λbb LF=>by
   refine h9d.mark ok9 hm9 bb λw8 FP IN Ed=>?_;have Ld:=setLf_ok ok9 hm9 bb;have hm10:e∈((v5.oP e.aL c').Aj e.a bb).t.aT:=Ka;refine aA rfl (aE (k:=.i) (e.aL:Int) (IN.UT hm10 rfl) ?_);refine AJ (g9d.up QM Ed) aB (λg hg=>by have:=pf.2.2.2.2 g hg;omega) λrp pps eC KS v11 f11=>?_;have U11:Up S5 FP w5 eC:=(U9.tr Ed).tr (Up.aN KS);have Ki:=bF.kp IN KS;have bd10:=bF.gH IN;have z8:=(U9.tr Ed).size;have z11:=KS.size;have fl:=f11.len;have im:i*v.cQ.cO<=16*16:=EU aB CT.2;refine eF.app jS MB LY aB (r5.upX U11) (v11.sub λk hk=>hk.elim (bd10 k) λ⟨b,hb,e⟩=>by have:=(os5 b hb).2;omega) aB (λb hb=>mD (r5.lt hb) z8) aB aB (λk hk=>hk.elim (bF.gH Ki k) λ⟨b,hb,e⟩=>by have:=(os5 b hb).2;omega) λr' eQ XZ mX=>?_;have Ab:=mX.mono (G:=λk=>lo<=k/\¬FP k) λk _ hk=>⟨hk.1,λh=>hk.2 (.inl h)⟩;have U12:Up S0 FP w0 eQ:=Up.iH (u5.tr U11) (Ab.mono λk _ hk=>⟨by have:=hk.1;omega,hk.2⟩);obtain⟨x1,x2⟩:=Ns FC Cx os5 U11 mX;refine hX _ _ _ aB ⟨i+1,r',ps++pps,_,FP,dI,rfl,rfl,bF.ov Ki Ab,U12,XZ,Ld,Tp.tr ⟨rfl,rfl,rfl,rfl,rfl,rfl,rfl,rfl⟩,?_,λq hq=>?_,λnp=>?_,x1,x2,by have:=Ab.size;omega⟩
   ·rw[mJ,Nat.add_mul,Nat.one_mul];omega
   ·rcases jK.1 hq with hq|hq
    ·exact Mq q hq
    ·obtain⟨_,_,hp⟩:=f11.mem hq;exact hp.2.1
   ·obtain⟨y1,y2,y3,y4⟩:=hq5 np
    have pq:=Ib (y2 e fP).q Uh;have hpps:pps=[]:=by
     rw[pq.1] at fl;exact Cc fl.symm
    refine⟨by rw[y1,hpps];rfl,λf hf=>?_,y3,λk=>?_⟩
    ·show dw _ (if f.aL=e.aL then c' else v5.ch f.aL)
     by_cases hfe:f.aL=e.aL
     ·rw[if_pos hfe]
      have:=y2 e fP;rw[<-hfe] at this pq;exact this.tr pq.2.2
     ·rw[if_neg hfe];exact y2 f hf
    ·by_cases hk:k=e.a
     ·have e1:((v5.oP e.aL c').Aj e.a bb).lf k=some bb:=if_pos hk
      rw[e1];exact LF np
     ·have e1:((v5.oP e.aL c').Aj e.a bb).lf k=v5.lf k:=if_neg hk
      rw[e1];exact y4 k
  refine aF (λhx=>go true λnp=>?_) (λ_=>go (x4 !=(0:Int)) λnp=>?_)
  ·have:=(hq5 np).2.2.2 e.a
   have Bt:(v5.lf e.a).getD (false:Bool)=true:=hx;rw[this] at Bt;cases Bt
  ·have:=(Ib ((hq5 np).2.1 e fP).q Uh).2.1
   rw[this];rfl
 ·have ei:i=v.t.aT.length:=aB
  subst ei;exact hQ r ps v5 w5 S5 h5 u5 (r5.sub λk hk=>.inl hk) LI Tp hl5 Mq hq5 zz5
def gone(v:iQ)(e:fK):Bool:=(v.lf e.a).getD (false:Bool) ||decide (e.kO+v.cQ.idle<=v.dN)
theorem drops_i{s9:Sl}{lo c0:Nat}{S0:BS}{w0:aH}{r0:Sl}{Mo:List Pk}{Q:Sl->aH->Prop}(h:gC E.e a v w S)(u0:Up S0 S w0 w)(hlo0:w0.heap.size<=lo)(YC:lo<=w.heap.size)(ok:v.Ok G B)(nN:rA lo (λk=>S k\/BL s9 k) w r0 Mo)(hc0:Mo.length<=c0)(bu:c0<=1000)(hpk:∀q∈Mo,q.2.length<=3000)(hr:Rd w s9 1 Kz (v.t.aT.map wX))(hro:AW s9 S w)
  (hQ:∀r ps v' w' S',gC E.e a v' w' S'->Up S0 S' w0 w'->rA lo S' w' r (Mo++ps)->v'.Ok G B->v'.cQ=v.cQ->v'.dN=v.dN->v'.u=v.u->v'.t.gr=v.t.gr->v'.ch=v.ch->v'.yL=v.yL->v'.lf=v.lf->v'.t.aT=v.t.aT.filter (λe=>!gone v e)->F2 (λe p=>dt (e.aL:Int) ⟨e.aP,3,0,0,3,[]⟩ p) (v.t.aT.filter λe=>gone v e) ps->lo<=w'.heap.size->aC (some ⟨a,0,none⟩:cL) λa29=>xJ .map w' (a29.add 10) λ(m4:Option Nat)=>BU prog 98 (Value.map m4) w' λZY=>Q r ZY):
  ∀X2:(Sl×Int×Unit)->aH->Prop,(∀(t2:Sl×Int×Unit) (fO:aH),(
 cond (decide (t2.2.1<(s9.l:Int)))
 ((0<=t2.2.1/\t2.2.1<(s9.l:Int))/\
 aC s9.b λUJ=>
 xJ .ptr fO (UJ.add (Int.toNat t2.2.1*1)) λ(p6:cL)=>
 aC (some ⟨a,0,none⟩:cL) λEm=>
 xJ .map fO.drew (Em.add 10) λ(m3:Option Nat)=>
 jY prog (.c .bool) 98 (Value.map m3) (Value.pointer p6) fO.drew λ(x8:Bool) gR=>
 cond x8
 (aC (some ⟨a,0,none⟩:cL) λYF=>
 xJ .ptr gR.drew (YF.add 8) λ(p7:cL)=>
 aC p6 λMu=>
 xJ .i gR.drew (Mu.add 0) λ(x9:Int)=>
 aG gR.drew #[aD x9] 3 λMt iZ=>
 iZ.cell? (YF.add 8)=some (Value.pointer p7)/\
 pN p7 ⟨(some Mt),1,1⟩ iZ λ(_:Sl) lE=>
 aC p6 λa19=>
 xJ .i lE.drew (a19.add 0) λ(rW:Int)=>
 aC p6 λxk=>
 xJ .i lE.drew (xk.add 1) λ(xI:Int)=>
 eK rW xI (3:Int) lE.drew λ(KR:Sl) nL=>
 aX prog 155 155 t2.1 (Value.slice KR.b KR.l KR.c) nL λ(PY:Sl) yK=>
 X2 (PY,(aQ (t2.2.1+(1:Int))),()) yK)
 (aC p6 λa21=>
 xJ .i gR (a21.add 4) λ(Jt:Int)=>
 aC (some ⟨a,0,none⟩:cL) λa22=>
 xJ .i gR ((a22.add 1).add 5) λ(To:Int)=>
 aC (some ⟨a,0,none⟩:cL) λa23=>
 xJ .i gR (a23.add 9) λ(x14:Int)=>
 cond (decide ((aQ (Jt+To))<=x14))
 (aC (some ⟨a,0,none⟩:cL) λa24=>
 xJ .ptr gR.drew (a24.add 8) λ(p8:cL)=>
 aC p6 λa25=>
 xJ .i gR.drew (a25.add 0) λ(x15:Int)=>
 aG gR.drew #[aD x15] 3 λa26 AR=>
 AR.cell? (a24.add 8)=some (Value.pointer p8)/\
 pN p8 ⟨(some a26),1,1⟩ AR λ(_:Sl) DF=>
 aC p6 λa27=>
 xJ .i DF.drew (a27.add 0) λ(x16:Int)=>
 aC p6 λa28=>
 xJ .i DF.drew (a28.add 1) λ(x17:Int)=>
 eK x16 x17 (3:Int) DF.drew λ(Mn:Sl) Ec=>
 aX prog 155 155 t2.1 (Value.slice Mn.b Mn.l Mn.c) Ec λ(s15:Sl) ZZ=>
 X2 (s15,(aQ (t2.2.1+(1:Int))),()) ZZ)
 (X2 (t2.1,(aQ (t2.2.1+(1:Int))),()) gR)))
 (aC (some ⟨a,0,none⟩:cL) λa29=>
 xJ .map fO (a29.add 10) λ(m4:Option Nat)=>
 BU prog 98 (Value.map m4) fO λZY=>
 Q t2.1 ZY))->X2 t2 fO)->
 X2 (r0,(0:Int),()) w:=by
 have sl:=hr.len;rw[oK] at sl;have olen:=ok.t.len;have pr:=ok.t.eO;have RV:=ok.dN;have hidle:=ok.cQ.idle;have lM:FN v.t.aT:=ok.t.rN;refine bO (λn t w5=>∃(i:Nat) (r:Sl) (ps:List Pk) (v5:iQ) (S5:BS),i<=v.t.aT.length/\n=v.t.aT.length-i/\t=(r,(i:Int),())/\gC E.e a v5 w5 S5/\Up S0 S5 w0 w5/\rA lo (λk=>S5 k\/BL s9 k) w5 r (Mo++ps)/\v5.Ok G B/\(v5.cQ=v.cQ/\v5.dN=v.dN/\v5.u=v.u/\v5.t.gr=v.t.gr/\v5.ch=v.ch/\v5.yL=v.yL/\v5.lf=v.lf)/\v5.t.aT=(v.t.aT.take i).filter (λe=>!gone v e)++v.t.aT.drop i/\F2 (λe p=>dt (e.aL:Int) ⟨e.aP,3,0,0,3,[]⟩ p) ((v.t.aT.take i).filter λe=>gone v e) ps/\Rd w5 s9 1 Kz (v.t.aT.map wX)/\AW s9 S5 w5/\lo<=w5.heap.size) v.t.aT.length
  ⟨0,r0,[],v,S,iG _,rfl,rfl,h,u0,by rw[tB];exact nN,ok,⟨rfl,rfl,rfl,rfl,rfl,rfl,rfl⟩,by simp,.nil,hr,hro,YC⟩ ?_
 rintro n t w5 ⟨i,r,ps,v5,S5,hi,rfl,rfl,h5,u5,r5,LI,⟨e1,e2,e3,e4,e5,e6,e7⟩,GK,f5,Cx,os5,zz5⟩ X hX;dsimp only;refine aJ (λcJ=>?_) (λkT=>?_)
 ·have dI:i<v.t.aT.length:=aB
  have cV:=gS dI;have fP:=nC dI;have rT:=FO dI;have hdr:=List.drop_eq_getElem_cons dI;generalize v.t.aT[i]=e at*;have Ka:e∈v5.t.aT:=by rw[GK,hdr];simp
  obtain⟨q,hq,cq⟩:=cF (k:=.ptr) (e:=λx=>x) Cx (show(v.t.aT.map wX)[i]? =some (wX e) by rw[mF,cV];rfl);rw[kE,pZ i aB];have hd:=bF.dr h5;refine⟨⟨aB,cJ⟩,aA hq (aE (k:=.ptr) (wX e) cq (aA rfl (aE (k:=.map) (some v5.lp) (hd.cell rfl) ?_)))⟩;refine hd.Gc LI Ka ?_;rw[e7];have fl:=f5.len;have pl:ps.length<=i:=by
   rw[<-fl];refine iF (vU _ _) ?_;rw[pV];omega
  have hent:=ok.Dd e fP;have go:gone v e=true->∀gR,aM w5 gR->aC (some ⟨a,0,none⟩:cL) λYF=>xJ .ptr gR.drew (YF.add 8) λ(p7:cL)=>aC (wX e) λMu=>xJ .i gR.drew (Mu.add 0) λ(x9:Int)=>aG gR.drew #[aD x9] 3 λMt iZ=>iZ.cell? (YF.add 8)=some (Value.pointer p7)/\pN p7 ⟨(some Mt),1,1⟩ iZ λ(_:Sl) lE=>aC (wX e) λa19=>xJ .i lE.drew (a19.add 0) λ(rW:Int)=>aC (wX e) λxk=>xJ .i lE.drew (xk.add 1) λ(xI:Int)=>eK rW xI (3:Int) lE.drew λ(KR:Sl) nL=>aX prog 155 155 r (Value.slice KR.b KR.l KR.c) nL λ(PY:Sl) yK=>X (PY,((i+1:Nat):Int),()) yK:=λhg gR Jy=>by
   have K16:=Jy.tr (bN gR);have h16:=bF.kp h5 K16;refine aA rfl (aE (k:=.ptr) (some ⟨v5.tp,0,none⟩) (h16.cell rfl) (aA rfl (aE (k:=.i) (e.aL:Int) (h16.UT Ka rfl) ?_)));refine cC (cs:=eI (e.aL:Int)) λiZ b17 Jx z17=>?_;have bd16:=bF.gH h16;have h17:=bF.kp h16 Jx;refine⟨h17.cell rfl,?_⟩;refine uo h17 LI (iV fG [(e.aL:Int)] b17 rfl dK) (λb hb=>by cases hb;exact⟨λhs=>by have h1:gR.drew.heap.size<gR.drew.heap.size:=bd16 _ hs;omega,b17.1.lt⟩) λ_ lE Ud xh u18 xw own18=>?_;have oe:=(own18 e Ka rfl).aK (bN lE) id;refine aA rfl (aE (k:=.i) (e.aL:Int) (cM oe rfl) (aA rfl (aE (k:=.i) e.aP (cM oe rfl) ?_)));refine se λrp p nL k19 v19 p19=>?_;have K19:=(bN lE).tr k19;have U19:Up S5 Ud w5 nL:=((Up.aN (K16.tr Jx)).tr u18).tr (Up.aN K19);have h19:=bF.kp xh K19;have bd18:=bF.gH xh;have z18:=((Up.aN (S:=S5) (K16.tr Jx)).tr u18).size;have z19:=k19.size;have wd:lE.drew.heap.size=lE.heap.size:=rfl;refine eF.app jS MB LY aB (r5.upX U19) (v19.sub λk hk=>hk.elim (bd18 k) λ⟨b,hb,e⟩=>by have:=(os5 b hb).2;omega) aB (λb hb=>mD (r5.lt hb) z18) (by rw[mJ,List.length_singleton];omega) aB (λk hk=>hk.elim (bF.gH h19 k) λ⟨b,hb,e⟩=>by have:=(os5 b hb).2;omega) λr' yK v20 mX=>?_;have m20:=mX.mono (G:=λk=>lo<=k/\¬Ud k) λk _ hk=>⟨hk.1,λh=>hk.2 (.inl h)⟩;rw[sB] at v20;have U20:Up S0 Ud w0 yK:=Up.iH (u5.tr U19) (m20.mono λk _ hk=>⟨by have:=hk.1;omega,hk.2⟩);obtain⟨x1,x2⟩:=Ns FC Cx os5 U19 mX;refine hX _ _ _ aB ⟨i+1,r',ps++[p],_,Ud,dI,rfl,rfl,bF.ov h19 m20,U20,v20,xw,⟨e1,e2,e3,e4,e5,e6,e7⟩,?_,?_,x1,x2,by have:=m20.size;omega⟩
   ·show v5.t.aT.filter (λf=>!decide (f.aL=e.aL))=_
    rw[GK,rT,hdr];have hpw:=lM;rw[<-Cb i v.t.aT,hdr,FN,List.pairwise_append,List.pairwise_cons] at hpw;rw[IQ,List.filter_cons_of_neg dK,IQ];have g1:((v.t.aT.take i).filter λe=>!gone v e).filter (λf=>!decide (f.aL=e.aL))=(v.t.aT.take i).filter λe=>!gone v e:=by
     rw[List.filter_eq_self];intro f hf;have:=hpw.2.2 f (jE.1 hf).1 e dK;simp;omega
    have g2:(v.t.aT.drop (i+1)).filter (λf=>!decide (f.aL=e.aL))=v.t.aT.drop (i+1):=by
     rw[List.filter_eq_self];intro f hf;have:=hpw.2.1.1 f hf;simp;omega
    rw[g1,g2,List.filter_cons_of_neg (by simp[hg])];simp
   ·rw[rT,IQ,List.filter_cons_of_pos (by simp[hg])]
    exact f5.app (.one p19)
  refine aF (λhx=>go (by unfold gone;rw[show(v.lf e.a).getD (false:Bool)=true from hx];rfl) _ (bN w5)) (λhx=>?_);have c6:w5.drew.cell? (((⟨a,0,none⟩:Addr).add 1).add 5)=some (aD v.cQ.idle):=by
   have:=hd.cell (k:=6) (x:=aD v5.cQ.idle) rfl;rw[e1] at this;rw[aS] at this ⊢;rw[aS];exact this
  have c9:w5.drew.cell? ((⟨a,0,none⟩:Addr).add 9)=some (aD v.dN):=by
   have:=hd.cell (k:=9) (x:=aD v5.dN) rfl;rw[e2] at this;exact this
  refine aA rfl (aE (k:=.i) e.kO (hd.UT Ka rfl) (aA rfl (aE (k:=.i) v.cQ.idle c6 (aA rfl (aE (k:=.i) v.dN c9 ?_)))));rw[gM aB aB];have Bt:(v.lf e.a).getD (false:Bool)=false:=hx;refine aJ (λIL=>go (by unfold gone;rw[decide_eq_true IL];exact Bool.or_true _) _ (bN w5)) (λIL=>?_);have hg:gone v e=false:=by unfold gone;rw[Bt,decide_eq_false IL];rfl
  refine hX _ _ _ aB ⟨i+1,r,ps,v5,S5,dI,rfl,rfl,hd,u5.tr (Up.aN (bN w5)),r5.kp (bN w5),LI,⟨e1,e2,e3,e4,e5,e6,e7⟩,?_,?_,Cx.aK (bN w5) FC λ_ _=>id,os5.kp (bN w5),zz5⟩
  ·rw[GK,rT,hdr,IQ,List.filter_cons_of_pos (by simp[hg])];simp
  ·rw[rT,IQ,List.filter_cons_of_neg (by simp[hg])];simpa using f5
 ·have ei:i=v.t.aT.length:=aB
  subst ei;rw[oY] at GK f5;rw[List.drop_length,tB] at GK;exact hQ r ps v5 w5 S5 h5 u5 (r5.sub λk hk=>.inl hk) LI e1 e2 e3 e4 e5 e6 e7 GK f5 zz5
theorem VTick_i{Q:Sl->aH->Prop}(h:gC E.e a v w S)(hb:Bs W0 E G S w)(ok:v.Ok G B)(hn:v.dN<1000000000)
  (hQ:∀r ps v' w' S',TickO G B E.e a v w S r ps v' w' S'->Q r w'):OW (some ⟨a,0,none⟩) w Q:=by
 unfold OW;have RV:=ok.dN;have CT:=ok.cQ.cO;refine aF (λh=>by simp at h) (λ_=>aA rfl (aE (k:=.i) v.dN (h.cell rfl) (aA rfl ?_)));rw[gM aB aB];refine h.tick (v.dN+1) λw1 S1 h1 u1=>?_;have PZ:(v.SN (v.dN+1)).Ok G B:=⟨ok.cQ,⟨by show(0:Int)<=v.dN+1;omega,by show v.dN+1<=_;omega⟩,ok.u,ok.t,ok.eO,ok.ch,ok.yL,λe he=>by have:=ok.Dd e he;exact⟨this.1,this.2.1,by show e.kO<=v.dN+1;omega⟩,ok.lost⟩;have xf:=bF.dr h1;refine aA rfl (aE (k:=.ptr) (some ⟨v.sp,0,none⟩) (xf.cell rfl) (aA rfl (aE (k:=.i) (v.dN+1) (xf.cell rfl) ?_)));obtain⟨S2,h2,FM,GN⟩:=xf.ia;refine Lapse_i h2 PZ.u.2 λrl w3 S3 h3 u3=>?_;obtain⟨S4,h4,u4⟩:=GN _ _ w3 S3 u3 h3;obtain⟨S5,S6,h5,h6,d56,e56⟩:=h4;have U5:Up S S5 w w3:=((u1.tr (Up.aN (bN w1))).tr u4).tr (Up.sub w3 λk hk=>(e56 k).2 (.inl hk));have o6:AW rl S5 w3:=λb bW=>⟨λhk=>d56 _ hk ((h6.2 _).2 ⟨b,bW,rfl⟩),h6.1.lt bW⟩;have LI:((v.SN (v.dN+1)).UL (RU (v.dN+1) v.u (mE 0 v.u))).Ok G B:=PZ.UL (Xe _ _ _);have lll:(UR (v.dN+1) (mE 0 v.u)).length<=1000:=by
  unfold UR;rw[oK];have h1:=vU (λp:Int×Int=>decide (p.2<=v.dN+1)) (mE 0 v.u);have h2:=ZK v.u 0;have h3:=ok.u.2;omega
 refine ZH (v:=(v.SN (v.dN+1)).UL (RU (v.dN+1) v.u (mE 0 v.u))) h5 (hb.up U5) LI (sh:=[]) (Rd.nil _ _ _) (λb bW=>by cases bW) (h6.1.rd fG) o6 ⟨by simp,lll⟩ λr1 RH v3 w4 S7 h7 u7 v7 cx XP hl7 pk7 nil7=>?_;have U7:=U5.tr u7;have hv3:v3.t=v.t:=XP.t;refine aA rfl (aE (k:=.ptr) (some ⟨v3.tp,0,none⟩) (h7.cell rfl) ?_);obtain⟨ST,hT,_⟩:=h7.Ee;refine Gh hT cx.t λs3 w5 v5 k5 f5=>?_;have bd7:=bF.gH h7;have z5:=k5.size;have olen:=ok.t.len;have pr:=ok.t.eO;have l1:v.t.aT.length<=v.cQ.kV:=by have:=ok.eO;omega
 have lw:v.t.aT.length*v.cQ.cO<=16*16:=EU aB CT.2;have z34:=u7.size;have row5:rA w3.heap.size (λk=>S7 k\/BL s3 k) w5 r1 RH:=v7.aK k5 (λ_ _ _ _=>id) λk h1 h2 h3=>h3.elim h1 λ⟨b,bW,e⟩=>by have:=f5 b bW;omega
 refine passes_i (v0:=v) (HQ:=jg v/\(UR (v.dN+1) (mE 0 v.u)=[]\/v.t.aT=[])) (lo:=w3.heap.size) (c0:=v.t.aT.length*v.cQ.cO) (Mo:=RH) (bF.kp h7 k5) (U7.tr (Up.aN k5)) U5.size aB cx row5 hl7 aB (λq hq=>(pk7 q hq).1) (v5.rd GJ) (λb bW=>⟨λhs=>by have:=bd7 _ hs;have:=f5 b bW;omega,v5.lt bW⟩) (λhq=>?_) λr2 Cy v8 w8 S8 h8 u8 r8 ok8 st8 hl8 hk8 hq8 z8=>?_
 ·have hn7:=nil7 (hq.2.imp (λh=>⟨rfl,h⟩) id)
  rw[hn7.1];exact⟨hn7.2,λe he=>dw.refl (hq.1.1 e he),rfl,hq.1.2⟩
 have st38:=XP.tr st8;have hv8:v8.t=v.t:=st38.t;refine aA rfl (aE (k:=.ptr) (some ⟨v8.tp,0,none⟩) (h8.cell rfl) ?_);obtain⟨ST8,hT8,_⟩:=h8.Ee;refine Gh hT8 ok8.t λs9 w9 v9 k9 f9=>?_;have bd8:=bF.gH h8;have z9:=k9.size;have row9:rA w3.heap.size (λk=>S8 k\/BL s9 k) w9 r2 Cy:=r8.aK k9 (λ_ _ _ _=>id) λk h1 h2 h3=>h3.elim h1 λ⟨b,bW,e⟩=>by have:=f9 b bW;omega
 have hl8':Cy.length<=2*(v.t.aT.length*v.cQ.cO):=by
  have e1:v3.t.aT.length=v.t.aT.length:=by rw[hv3]
  have e2:v3.cQ=v.cQ:=XP.cQ;rw[e1,e2] at hl8;omega
 refine drops_i (lo:=w3.heap.size) (c0:=2*(v.t.aT.length*v.cQ.cO)) (bF.kp h8 k9) (u8.tr (Up.aN k9)) U5.size aB ok8 row9 hl8' aB hk8 (v9.rd GJ) (λb bW=>⟨λhs=>by have:=bd8 _ hs;have:=f9 b bW;omega,v9.lt bW⟩) λr3 ps3 v10 eR FP IN Ed r10 Ld e1 e2 e3 e4 e5 e6 e7 GK f10 z10=>?_;refine aA rfl (aE (k:=.map) (some v10.lp) (IN.cell rfl) (IN.clear λeC Mv Ki Km=>?_));have fl:=f10.len;have flf:=vU (λe=>gone v8 e) v8.t.aT;rw[hv8] at flf;rw[hv8] at GK f10 fl;have st8c:v8.cQ=v.cQ:=st38.cQ;have st8n:v8.dN=v.dN+1:=st38.dN;refine hQ r3 (Cy++ps3) _ eC Mv ⟨Ki,Ed.tr Km,(r10.up Km).qE U5.size,⟨Ld.cQ,Ld.dN,Ld.u,Ld.t,Ld.eO,Ld.ch,Ld.yL,Ld.Dd,λk hk=>by cases hk⟩,e1.trans st8c,e2.trans st8n,e3.trans st38.u,λf hf=>?_,?_,λq hq=>?_,λhq hlap=>?_⟩
 ·rw[show({v10 with lf:=λ_=>none,ln:=0}:iQ).t.aT=v10.t.aT from rfl,GK] at hf
  exact(jE.1 hf).1
 ·rw[mJ]
  have h1:v.t.aT.length*v.cQ.cO<=v.cQ.kV*v.cQ.cO:=RT _ l1;have h2:v.cQ.kV*(2*v.cQ.cO+1)=2*(v.cQ.kV*v.cQ.cO)+v.cQ.kV:=by rw[Nat.mul_add,Nat.mul_one,Nat.mul_left_comm]
  omega
 ·rcases jK.1 hq with hq|hq
  ·exact hk8 q hq
  ·obtain⟨_,_,hp⟩:=f10.mem hq
   exact hp.2.1
 ·obtain⟨y1,y2,y3,y4⟩:=hq8 ⟨hq,hlap⟩
  have eg:∀e,gone v8 e=Vc v e:=λe=>by
   unfold gone Vc;rw[y4 e.a,st8c,st8n];rfl
  have eg2:(λe=>gone v8 e)=λe=>Vc v e:=funext eg;have eg3:(λe=>!gone v8 e)=λe=>!Vc v e:=funext λe=>by rw[eg e]
  rw[eg3] at GK;rw[eg2] at f10;refine⟨GK,?_,by rw[y1];exact f10,λe he=>?_,?_,λk=>rfl⟩
  ·show v10.t.gr=v.t.gr
   rw[e4,hv8]
  ·show dw (v.ch e.aL) (v10.ch e.aL)
   rw[e5];exact y2 e (by rw[hv3];exact he)
  ·show v10.yL=v.yL
   rw[e6];exact y3
end
end
def IP(c:yV)(m sp tp lp:Nat):iQ:=⟨c,sp,tp,lp,0,List.replicate m 0,⟨c.kV,[],λ_=>none⟩,[],λ_=>none,0,λ_=>yT 0 0,λ_=>xr 0 0⟩
theorem srv0_ok{G:Gr}{c:yV}(okG:zG G)(IJ:c.Ok){B:Int}(sp tp lp:Nat):(IP c G.m sp tp lp).Ok G B:=
 ⟨IJ,by show(0:Int)<=0/\(0:Int)<=1000000000;omega,by
  show(List.replicate G.m (0:Int)).length=G.E.length/\(List.replicate G.m (0:Int)).length<=512;have:=okG.m1;rw[List.length_replicate];exact⟨rfl,aB⟩,⟨IJ.kV,iG _,List.Pairwise.nil,λe he=>by cases he⟩,rfl,λe he=>(by cases he),λe he=>(by cases he),λe he=>(by cases he),λk hk=>(by cases hk)⟩
theorem jq{ee a sp tp lp m:Nat}{c:yV}{w:aH}{S1 S2:BS}(h1:tE sp (List.replicate m 0) w S1)(h2:CW tp ⟨c.kV,[],λ_=>none⟩ w S2)(h3:uH lp yN Jw (λ_=>none) 0 w (λk=>k=lp))(h4:rY a wY (UW ee (IP c m sp tp lp)) w (λk=>k=a))(d12:∀k,S1 k->S2 k->False)(d1:¬S1 lp/\¬S1 a)(d2:¬S2 lp/\¬S2 a)(d3:lp≠a):gC ee a (IP c m sp tp lp) w (λk=>((S1 k\/S2 k)\/k=lp)\/k=a):=by
 have p0:=gE.nil (ι:=SI) w;have p1:=gE.put p0 (i:=.set) (by rfl) h1 λk h _=>h;have hG:UZ (IP c m sp tp lp) w S2:=aZ.emp h2;have p2:=gE.put p1 (i:=.Ee) (by rfl) hG λk h h'=>h.elim id λh=>d12 k h h';have p3:=gE.put p2 (i:=.lost) (by rfl) h3 λk h (h':k=lp)=>h.elim (λh=>h.elim id λh=>d1.1 (h'▸h)) λh=>d2.1 (h'▸h);have p4:=gE.put p3 (i:=.Bq) (by rfl) h4 λk h (h':k=a)=>h.elim (λh=>h.elim (λh=>h.elim id λh=>d1.2 (h'▸h)) λh=>d2.2 (h'▸h)) λ(h:k=lp)=>d3 (h.symm.trans h');have e:EO (EO (EO (EO (λ_:SI=>DI) .set (tE sp (List.replicate m 0))) .Ee (UZ (IP c m sp tp lp))) .lost (uH lp yN Jw (λ_=>none) 0)) .Bq (rY a wY (UW ee (IP c m sp tp lp)))=QD ee a (IP c m sp tp lp):=by
  funext i
  cases i<;>rfl
 rw[e] at p4;have es:CX ee (IP c m sp tp lp) w (λ_=>False):=gE.nil (ι:=Nat) w;exact⟨_,_,As.ext p4 (T:=λk=>((S1 k\/S2 k)\/k=lp)\/k=a) λk=>⟨λh=>h.elim (λh=>h.elim (λh=>h.elim (λh=>h.elim False.elim λh=>.inl (.inl (.inl h))) λh=>.inl (.inl (.inr h))) λh=>.inl (.inr h)) .inr,λh=>h.elim (λh=>h.elim (λh=>h.elim (λh=>.inl (.inl (.inl (.inr h)))) λh=>.inl (.inl (.inr h))) λh=>.inl (.inr h)) .inr⟩,es,λk _ h=>h,λk=>⟨.inl,λh=>h.elim id False.elim⟩⟩
theorem VNew_i{g:GT}{G:Gr}{c:yV}{w:aH}{Q:cL->Int->aH->Prop}(hg:SF w g G)(ok:zG G)(IJ:c.Ok)
  (hQ:∀E a sp tp lp W0 w' S',gC E.e a (IP c G.m sp tp lp) w' S'->Bs W0 E G S' w'->aM w W0->aM w w'->(∀k,S' k->w.heap.size<=k)->Q (some ⟨a,0,none⟩) 0 w'):zM g (xO c) w Q:=by
 unfold zM;refine bK λw1 o1 k1 z1=>?_;refine cC (cs:=CU c) λw2 b2 k2 z2=>?_;refine bJ (l:=[.slice,.slice,.slice]) g (GG (g:=g) (o1.aK k2 id)) ?_;refine ENew_i (g:=g) (hg.aN (k1.tr k2)) ok λE w3 hE k3=>?_;refine aF (λh=>by cases h) (λ_=>?_);have b3:=bF.kp b2 k3;have tc:∀{wx:aH},rY w1.heap.size uX (CU c) wx (λk=>k=w1.heap.size)->bY wx ⟨w1.heap.size,0,none⟩ 0 (qG IV (xO c)):=λb=>b.1.holds λj v hj=>by rw[pM];exact hj
 refine bJ (l:=IV) (xO c) (tc b3) (Sg IJ λw4 k4=>aF (λh=>by cases h) (λ_=>?_));have b4:=bF.kp b3 k4;refine aE (k:=.i) (c.kV:Int) (aO b4 rfl) ?_;refine TNew_i' IJ.kV λtp w5 ST hT k5 hTlo=>?_;have K5:=k4.tr (k5.tr (bN w5));have hE5:=hE.aN K5;have b5:=bF.kp b4 (k5.tr (bN w5));have hT5:=bF.dr hT;have bT:=bF.gH hT5;have hm:=ok.m1;have z3:=k3.size;have z4:=k4.size;have z5:=k5.size;have wd:w5.drew.heap.size=w5.heap.size:=rfl;have dQ:∀wy sp lp SU,aM w5.drew wy->tE sp (List.replicate G.m 0) wy SU->uH lp yN Jw (λ_=>none) 0 wy (λk=>k=lp)->(∀k,SU k->w5.heap.size<=k)->¬SU lp->w5.heap.size<=lp->aG wy (UW E.e (IP c G.m sp tp lp)).toArray wY λa w9=>Q (some a) 0 w9:=by
  intro wy sp lp SU ky hS hM hSlo hn hlp;have bS:=bF.gH hS;have bM:=bF.gH hM lp rfl;refine cC λw9 b9 k9 z9=>?_;have zy:=ky.size;have oM:=jq (ee:=E.e) (c:=c) (bF.kp hS k9) (bF.kp hT5 (ky.tr k9)) (bF.kp hM k9) b9 (λk h1 h2=>by have:=hSlo k h1;have:=bT k h2;omega) ⟨hn,λh=>by have:=bS _ h;omega⟩ ⟨λh=>by have:=bT _ h;omega,λh=>by have:=bT _ h;omega⟩ aB;have lo3:∀k,(((SU k\/ST k)\/k=lp)\/k=wy.heap.size)->w3.heap.size<=k:=λk hk=>by
   rcases hk with((hk|hk)|hk)|hk
   ·have:=hSlo k hk;omega
   ·have:=hTlo k hk;omega
   ·omega
   ·omega
  exact hQ E _ sp tp lp w3 w9 _ oM ⟨hE,(K5.tr ky).tr k9,lo3⟩ ((k1.tr k2).tr k3) ((((k1.tr k2).tr k3).tr (K5.tr ky)).tr k9) λk hk=>by have:=lo3 k hk;have:=k1.size;have:=k2.size;omega
 refine bJ (l:=IV) (xO c) (tc b5) (aA rfl (aE (k:=.ptr) (some ⟨E.t.t,0,none⟩) hE5.cells.1 (aA rfl (aE (k:=.ptr) (some ⟨E.t.H.g,0,none⟩) hE5.RG.cells.1 ⟨sR hE5.RG.IH ⟨tc b5,?_,?_⟩,?_⟩))))
 ·refine Sc aB λsp w7 SU hU k7 fp=>⟨tc (bF.kp b5 k7),?_⟩
  refine qM (ek:=yN) (kn:=Jw) λhm8 k8=>?_;have bU:=bF.gH hU;have z7:=k7.size;refine⟨tc (bF.kp b5 (k7.tr k8)),dQ _ sp w7.heap.size SU (k7.tr k8) (bF.kp hU k8) ⟨hm8,λ_=>Iff.rfl⟩ (λk hk=>by have:=fp k hk;omega) (λh=>by have:=bU _ h;omega) aB⟩
 ·refine qM (ek:=yN) (kn:=Jw) λhm8 k8=>⟨tc (bF.kp b5 k8),?_⟩
  have zm:(w5.drew.alloc (.map #[] 0)).heap.size=w5.drew.heap.size+1:=by simp
  refine Sc aB λsp w7 SU hU k7 fp=>⟨tc (bF.kp b5 (k8.tr k7)),?_⟩;exact dQ _ sp w5.drew.heap.size SU (k8.tr k7) hU ⟨hm8.aK k7 id,λ_=>Iff.rfl⟩ (λk hk=>by have:=fp k hk;omega) (λh=>by have:=fp _ h;omega) aB
 ·refine qM (ek:=yN) (kn:=Jw) λhm8 k8=>?_
  have zm:(w5.drew.alloc (.map #[] 0)).heap.size=w5.drew.heap.size+1:=by simp
  have hE8:=hE5.aN k8;refine⟨hE8.RG.cells.1,hE8.cells.1,tc (bF.kp b5 k8),sR hE8.RG.IH ⟨tc (bF.kp b5 k8),?_⟩⟩;refine Sc aB λsp w7 SU hU k7 fp=>⟨tc (bF.kp b5 (k8.tr k7)),?_⟩;exact dQ _ sp w5.drew.heap.size SU (k8.tr k7) hU ⟨hm8.aK k7 id,λ_=>Iff.rfl⟩ (λk hk=>by have:=fp k hk;omega) (λh=>by have:=fp _ h;omega) aB
structure CQ where
 cQ:yV
 ch:Option (Nat×lH)
 aP:Int
 jV:Bool
 cv:Int
 nu:Int
 jI:List Int
 dF:Bool
abbrev Ce(v:CQ)(uK:Sl):List Value:=[aD (v.cQ.kV:Int),aD (v.cQ.cO:Int),aD v.cQ.LW,aD v.cQ.nE,aD v.cQ.cap,aD v.cQ.idle,.pointer (v.ch.map λp=>⟨p.1,0,none⟩),aD v.aP,.bool v.jV,aD v.cv,aD v.nu,sv uK,.bool v.dF]
def chO:Option (Nat×lH)->As
 |none=>DI
 |some p=>jQ p.1 p.2
instance chO.loc:∀{o:Option (Nat×lH)},bF (chO o)
 |none=>inferInstanceAs (bF DI)
 |some p=>inferInstanceAs (bF (jQ p.1 p.2))
def LB(d:Nat)(uK:Sl)(v:CQ):As:=aZ (rY d Rm (Ce v uK)) (aZ (chO v.ch) (AV 1 eI uK v.jI))
instance{d:Nat}{uK:Sl}{v:CQ}:bF (LB d uK v):=by unfold LB;infer_instance
def uQ(d:Nat)(v:CQ):As:=Ex λuK:Sl=>LB d uK v
instance{d:Nat}{v:CQ}:bF (uQ d v):=by unfold uQ;infer_instance
structure CQ.Ok(B:Int)(v:CQ):Prop where
 cQ:v.cQ.Ok
 aP:0<=v.aP/\v.aP<=B
 jI:v.jI.length<=70000
 jV:v.jV=true->v.ch≠none
 ch:∀p,v.ch=some p->p.2.Ok/\p.2.s.cO=v.cQ.cO/\p.2.dl<=B/\(v.jV=true->p.2.aP=v.aP)
def YJ(c:yV):CQ:=⟨c,none,0,false,0,-1,[],false⟩
theorem drv0_ok{c:yV}(ok:c.Ok):(YJ c).Ok 0:=⟨ok,by show(0:Int)<=0/\(0:Int)<=0;omega,iG _,λh=>(by cases h),λp h=>by cases h⟩
theorem CQ.Ok.mono{B B':Int}{v:CQ}(h:v.Ok B)(hB:B<=B'):v.Ok B':=⟨h.cQ,by have:=h.aP;omega,h.jI,h.jV,λp hp=>by have:=h.ch p hp;exact⟨this.1,this.2.1,aB,this.2.2.2⟩⟩
theorem Dq{α:Type}{n:Nat}{aY:α->List Value}(gF:∀x,aY x≠[]){w:aH}:AV n aY bD ([]:List α) w (λ_=>False):=⟨Rd.nil _ _ _,gF,λb hb=>(by cases hb),λk=>⟨False.elim,λ⟨b,hb,_⟩=>by cases hb⟩⟩
theorem DNew_i{c:yV}{w:aH}{Q:cL->Int->aH->Prop}(ok:c.Ok)(hQ:∀w',uQ (w'.heap.size-1) (YJ c) w' (λk=>k=w'.heap.size-1)->w.heap.size<w'.heap.size->aM w w'->w.heap.size<=w'.heap.size-1->Q (some ⟨w'.heap.size-1,0,none⟩) 0 w'):zZ (xO c) w Q:=by
 unfold zZ;refine cC (cs:=CU c) λw1 b1 k1 z1=>?_;refine bJ (l:=IV) (xO c) (b1.1.holds λj v hj=>by rw[pM];exact hj) (Sg ok λw2 k2=>aF (λh=>by cases h) (λ_=>?_));have b2:=bF.kp b1 k2;refine bJ (l:=IV) (xO c) (b2.1.holds λj v hj=>by rw[pM];exact hj) ?_;refine cC (cs:=Ce (YJ c) bD) λw3 b3 k3 z3=>?_;have z2:=k2.size;have e:w3.heap.size-1=w2.heap.size:=aB;have:=hQ w3;rw[e] at this;exact this ⟨bD,_,_,b3,⟨_,_,(show chO none w3 (λ_=>False) fromλ_=>id),Dq cR,λ_ h _=>h,λ_=>Iff.rfl⟩,λ_ _ h=>h.elim id id,λk=>⟨.inl,λh=>h.elim id λh=>h.elim False.elim False.elim⟩⟩ aB ((k1.tr k2).tr k3) aB
section
theorem iz{d:Nat}{v:CQ}{uK:Sl}{w:aH}{SC SR:BS}(h1:rY d Rm (Ce v uK) w (λk=>k=d))(h2:chO v.ch w SC)(h3:AV 1 eI uK v.jI w SR)(d1:¬SC d)(d2:¬SR d)(d3:∀k,SC k->SR k->False):LB d uK v w (λk=>k=d\/(SC k\/SR k)):=
 aZ.vP h1 (aZ.vP h2 h3 d3) λk (e:k=d) h=>h.elim (λh=>d1 (e▸h)) λh=>d2 (e▸h)
theorem LB.parts{d:Nat}{v:CQ}{uK:Sl}{w:aH}{S:BS}(h:LB d uK v w S):∃SC SR,rY d Rm (Ce v uK) w (λk=>k=d)/\chO v.ch w SC/\AV 1 eI uK v.jI w SR/\¬SC d/\¬SR d/\(∀k,SC k->SR k->False)/\∀k,S k↔k=d\/SC k\/SR k:=by
 obtain⟨S1,S2,h1,⟨SC,SR,h2,h3,d3,e3⟩,dd,e⟩:=h;have hd:S1 d:=(h1.2 d).2 rfl;exact⟨SC,SR,⟨h1.1,λ_=>Iff.rfl⟩,h2,h3,λh=>dd d hd ((e3 d).2 (.inl h)),λh=>dd d hd ((e3 d).2 (.inr h)),d3,λk=>by rw[e k,h1.2 k,e3 k]⟩
section
variable{d:Nat}{v:CQ}{uK:Sl}{w:aH}{S:BS}{B:Int}
theorem LB.cell(h:LB d uK v w S){k:Nat}{x:Value}(hk:(Ce v uK)[k]? =some x):w.cell? ((⟨d,0,none⟩:Addr).add k)=some x:=by
 obtain⟨S1,S2,h1,_⟩:=h;exact aO h1 hk
theorem LB.set{t:TypeId}{o:Nat}{x:Value}{v':CQ}{K:aH->Prop}(h:LB d uK v w S)(hi:(prog.info? t).map (·.size)=some 1)(ho:o<13)(hx:x.cells=#[x])(h1:x.oneCell'=true)(he:(Ce v uK).set o x=Ce v' uK)(Kf:v'.ch=v.ch)(hw:v'.jI=v.jI)(hK:∀w',LB d uK v' w' S->Up S S w w'->K w'):aI prog t ((⟨d,0,none⟩:Addr).add o) x w K:=by
 obtain⟨SC,SR,hB,hC,hR,d1,d2,d3,e⟩:=h.parts;refine oZ hB hi (by simpa using ho) hx h1 λw' b' u'=>?_;rw[he] at b';have hm:∀k,SC k\/SR k->¬k=d:=λk hk e=>hk.elim (λh=>d1 (e▸h)) λh=>d2 (e▸h);have hC':chO v'.ch w' SC:=by rw[Kf];exact bF.aK hC u'.m λk hk=>hm k (.inl hk)
 have hR':AV 1 eI uK v'.jI w' SR:=by rw[hw];exact bF.aK hR u'.m λk hk=>hm k (.inr hk)
 exact hK w' (As.ext (iz b' hC' hR' d1 d2 d3) λk=>(e k).symm) (Up.at (u'.m.mono λk _ hk=>(e k).2 (.inl hk)))
theorem LB.Qw{Us:List Int}{LC:Sl}{SR':BS}{K:aH->Prop}(h:LB d uK v w S)(hr:AV 1 eI LC Us w SR')(hR':∀k,SR' k->¬S k\/BL uK k)(hK:∀w' S',LB d LC {v with jI:=Us} w' S'->aW (λk=>k=d) w w'->(∀k,S' k->S k\/SR' k)->K w'):aI prog BG ((⟨d,0,none⟩:Addr).add 11) (sv LC) w K:=by
 obtain⟨SC,SR,hB,hC,hR,d1,d2,d3,e⟩:=h.parts;have key:∀k,SR' k->¬k=d/\¬SC k:=λk hk=>by
  rcases hR' k hk with h|h
  ·exact⟨λh'=>h ((e k).2 (.inl h')),λh'=>h ((e k).2 (.inr (.inl h')))⟩
  ·have hs:SR k:=(hR.2.2.2 k).2 h
   exact⟨λh'=>d2 (h'▸hs),λh'=>d3 k h' hs⟩
 refine oZ hB oF dK rfl rfl λw' b' u'=>?_;have hC':chO v.ch w' SC:=bF.aK hC u'.m λk hk e=>d1 (e▸hk);have bm:AV 1 eI LC Us w' SR':=bF.aK hr u'.m λk hk=>(key k hk).1;exact hK w' _ (iz (v:={v with jI:=Us}) b' hC' bm d1 (λh=>(key d h).1 rfl) λk h1 h2=>(key k h2).2 h1) u'.m λk hk=>by
  rcases hk with hk|hk|hk
  ·exact .inl ((e k).2 (.inl hk))
  ·exact .inl ((e k).2 (.inr (.inl hk)))
  ·exact .inr hk
theorem VW{Q:Bool->aH->Prop}(h:uQ d v w S)(hQ:Q v.jV w):rJ (some ⟨d,0,none⟩) w Q:=by
 unfold rJ;obtain⟨uK,h⟩:=h;exact aF (λ_=>aA rfl (aE (k:=.bool) v.jV (h.cell rfl) hQ)) (λh=>by simp at h)
theorem DConn_i{Q:Int->aH->Prop}(h:uQ d v w S)(hQ:Q v.aP w):PI (some ⟨d,0,none⟩) w Q:=by
 unfold PI;obtain⟨uK,h⟩:=h;exact aF (λh=>by simp at h) (λ_=>aA rfl (aE (k:=.i) v.aP (h.cell rfl) hQ))
theorem ZF{n:Int}{Q:Bool->aH->Prop}(hQ:Q (decide (0<=n/\n<=65535)) w):mM n w Q:=by
 unfold mM;refine aJ (λh=>?_) (λh=>?_)
 ·have:decide (0<=n/\n<=65535)=decide (n<=65535):=by
   by_cases h2:n<=65535
   ·rw[decide_eq_true h2,decide_eq_true ⟨aB,h2⟩]
   ·rw[decide_eq_false h2,decide_eq_false λh=>h2 h.2]
  rw[this] at hQ;exact hQ
 ·rw[decide_eq_false λh'=>h h'.1] at hQ;exact hQ
theorem uQ.chan(h:uQ d v w S){p:Nat}{c:lH}(hc:v.ch=some (p,c)):∃S1,jQ p c w S1/\(∀k,S1 k->S k)/\w.cell? ((⟨d,0,none⟩:Addr).add 6)=some (.pointer (some ⟨p,0,none⟩))/\∀c' D w' T,Up S1 T w w'->aZ (jQ p c') D w' T->∃S',aZ (uQ d {v with ch:=some (p,c')}) D w' S'/\Up S S' w w':=by
 obtain⟨uK,h⟩:=h;have c6:=h.cell (k:=6) rfl;rw[hc] at c6;have f:=(aZ.r h).c λT hT=>aZ.l hT;rw[hc] at f;obtain⟨S1,h1,hs,dL⟩:=f;refine⟨S1,h1,hs,c6,λc' D w' T u hT=>?_⟩;obtain⟨S',h',u'⟩:=dL _ D w' T u hT;refine⟨S',h'.mono (λ_ h=>⟨uK,h.mono (λ_ h=>?_) λ_ h=>h⟩) λ_ h=>h,u'⟩;have e:Ce {v with ch:=some (p,c')} uK=Ce v uK:=by unfold Ce;rw[hc];rfl
 rw[e];exact h
theorem Rx{p:Nat}{c:lH}{dN:Int}{m:lO}{Q:Sl->Int->aH->Prop}(h:uQ d v w S)(hc:v.ch=some (p,c))(IJ:c.Ok)(hm:m.cH=[])
  (hQ:∀r ds b w' S',uQ d {v with ch:=some (p,(c.push b).2.1)} w' S'->Up S S' w w'->yj w.heap.size S' w' r ds->(c.push b).2.1.Ok->du c (c.push b).2.1 (c.push b).1.length->BOk m b->F2 GOk (c.push b).1 ds->Q r (c.push b).2.2 w'):AM (some ⟨d,0,none⟩) dN (FV (m,bD)) w Q:=by
 unfold AM;refine cC (cs:=tA (m,bD)) λw1 b1 k1 z1=>?_;refine bJ (l:=bc) (FV (m,bD)) (b1.1.holds λj v hj=>by rw[pM];exact hj) ?_;refine Enc_i (by rw[hm];exact Rd.nil _ _ _) (λb hb=>by cases hb) (by rw[hm];simp) λsb out eb w2 k2 Pg f2 l2 g2=>?_;have K2:=k1.tr k2;obtain⟨S1,h1,tM,c6,dL⟩:=(bF.kp h K2).chan hc;rw[hm] at l2;have l60:out.length<=60:=by simpa using l2
 refine aA rfl (aE (k:=.ptr) (some ⟨p,0,none⟩) c6 (uz h1 IJ Pg.1 aB λrg w3 S3 h3 u3 Kp=>?_));obtain⟨S4,h4,u4⟩:=dL _ _ w3 S3 u3 h3;obtain⟨S5,h5,u5,g5⟩:=VO h4;have pf:=Hy IJ (b:=out) aB;have l16:(c.push out).1.length<=1000:=by
  have h1:=pf.1.n;have h2:=Kp.s.yP;have XU:=Kp.s.cO;omega
 refine NL g5 l16 (λg hg=>by have:=pf.2 g hg;omega) λr ds w6 k6 v6 f6=>?_;have U6:Up S S5 w w6:=(((Up.aN K2).tr u4).tr u5).tr (Up.aN k6);have Ms:=bF.gH h5;have zz:=K2.size;have zu:=u4.size;exact hQ r ds out w6 S5 (bF.kp h5 k6) U6 ((v6.sub λk hk=>Ms k hk).qE aB) Kp pf.1 (λhw=>(g2 hw).1) f6
structure JA(B:Int)(d:Nat)(v:CQ)(w:aH)(S:BS)(r:Sl)(ds:List (List dA))(v':CQ)(w':aH)(S':BS):Prop where
 drv:uQ d v' w' S'
 up:Up S S' w w'
 row:yj w.heap.size S' w' r ds
 ok:v'.Ok (B+16)
 cQ:v'.cQ=v.cQ
 len:ds.length<=v.cQ.cO+1
 vt:∀x∈ds,x.length<=3000
theorem JA.same(h:uQ d v w S)(ok:v.Ok B){w':aH}(k:aM w w'):JA B d v w S bD [] v w' S:=
 ⟨bF.kp h k,Up.aN k,eF.nil,ok.mono aB,rfl,iG _,λx hx=>by cases hx⟩
theorem VP{gs:List gA}{ds:List (List dA)}(h:F2 GOk gs ds):∀x∈ds,x.length<=3000:=λx hx=>by obtain⟨_,_,hp⟩:=h.mem hx;exact hp.1
abbrev mOpen(a n:Int):lO:=⟨1,a,n,[],0,MC⟩
def Gi(v:CQ)(a n:Int)(v':CQ)(ds:List (List dA)):Prop:=
 if(0<=a/\a<=65535)/\0<=n/\n<=65535 then∃p b,BOk (mOpen a n) b/\v'=⟨v.cQ,some (p,((yT v.cQ.cO (v.aP+1)).push b).2.1),v.aP+1,true,0,a,[],false⟩/\F2 GOk ((yT v.cQ.cO (v.aP+1)).push b).1 ds else v'=v/\ds=[]
theorem drvCfg(h:LB d uK v w S):bY w ((⟨d,0,none⟩:Addr).add 0) 0 (qG IV (xO v.cQ)):=by
 refine oG.2 λk x hk=>?_;have:(Ce v uK)[k]? =some x:=by
  match k,hk with
  |0,hk=>exact hk
  |1,hk=>exact hk
  |2,hk=>exact hk
  |3,hk=>exact hk
  |4,hk=>exact hk
  |5,hk=>exact hk
  |k+6,hk=>simp[qG] at hk
 have c:=h.cell this;rw[aS] at c ⊢;rw[aS,show 0+0+(0+k)=0+k by omega];exact c
theorem DStart_i{dN at_ node:Int}{Q:Sl->Int->aH->Prop}(h:uQ d v w S)(ok:v.Ok B)(hB:0<=B/\B<=2000000000)
  (hQ:∀r ds e v' w' S',JA B d v w S r ds v' w' S'->Gi v at_ node v' ds->Q r e w'):JY (some ⟨d,0,none⟩) dN at_ node w Q:=by
 unfold JY;have no:¬((0<=at_/\at_<=65535)/\0<=node/\node<=65535)->Q bD 1 w:=λhn=>hQ _ [] _ v w S (JA.same h ok (aW.refl _ _)) (by unfold Gi;rw[if_neg hn];exact⟨rfl,rfl⟩);refine aF (λh=>by simp at h) (λ_=>ZF (aF (λhb=>no λhh=>by rw[decide_eq_true hh.1] at hb;cases hb) (λhb=>?_)));have ha:0<=at_/\at_<=65535:=by simpa using hb
 refine ZF (aF (λhb=>no λhh=>by rw[decide_eq_true hh.2] at hb;cases hb) (λhb=>?_));have hn:0<=node/\node<=65535:=by simpa using hb
 obtain⟨uK,h⟩:=h;have hd:=bF.dr h;have hconn:=ok.aP;have CT:=ok.cQ.cO;refine aA rfl (bJ (l:=IV) (xO v.cQ) (drvCfg hd) (aA rfl (aE (k:=.i) v.aP (hd.cell rfl) ?_)));rw[gM aB aB];refine CNew_i ok.cQ ⟨aB,aB⟩ λcp w3 SH hH k3 Fa=>aF (λh=>by cases h) (λ_=>?_);have K3:=((bN w).tr k3).tr (bN w3);have h3:=bF.kp h K3;refine aA rfl (bJ (l:=IV) (xO v.cQ) (drvCfg h3) (aA rfl (aE (k:=.i) v.aP (h3.cell rfl) (aA rfl ?_))));rw[gM aB aB];obtain⟨SC,SR,hB3,hC,hR,d1,d2,d3,e⟩:=h3.parts
 let v1:CQ:=⟨v.cQ,some (cp,yT v.cQ.cO (v.aP+1)),v.aP+1,true,0,at_,[],false⟩
 have bd:=bF.gH h;have hdw:d<w.heap.size:=bd d ((e d).2 (.inl rfl));have wd:w.drew.heap.size=w.heap.size:=rfl;refine eN (vs:=Ce v1 bD) hB3.1 Yi rfl (by intro u hu;simp at hu;rcases hu with rfl|rfl|rfl|rfl|rfl|rfl|rfl|rfl|rfl|rfl|rfl|rfl|rfl<;>rfl) λw4 o4 m4 _=>?_;have hH4:jQ cp (yT v.cQ.cO (v.aP+1)) w4 SH:=bF.aK (bF.dr hH) m4 λk hk e=>by have:=Fa k hk;omega
 have h4:uQ d v1 w4 (λk=>k=d\/(SH k\/False)):=⟨bD,iz (v:=v1) ⟨o4,λ_=>Iff.rfl⟩ hH4 (Dq cR) (λh=>by have:=Fa d h;omega) id λ_ _ h=>h⟩;have U4:Up S (λk=>k=d\/(SH k\/False)) w w4:=⟨K3.wk.trans m4 λk _ hk=>(e k).2 (.inl hk),λk hk=>by
  rcases hk with hk|hk|hk
  ·exact .inl ((e k).2 (.inl hk))
  ·exact .inr (by have:=Fa k hk;omega)
  ·exact hk.elim⟩
 refine Rx (m:=mOpen at_ node) h4 rfl (OE CT.2) rfl λr ds b w5 S5 h5 u5 r5 LI cs5 hb5 f5=>?_;have hn5:=cs5.n;have hr5:=LI.s.yP;have wc:=cs5.cO;have dm:((yT v.cQ.cO (v.aP+1)).push b).2.1.dl=0:=cs5.dl;have hc5:((yT v.cQ.cO (v.aP+1)).push b).2.1.aP=v.aP+1:=cs5.aP;have hww:(yT v.cQ.cO (v.aP+1)).s.cO=v.cQ.cO:=rfl;rw[hww] at wc;refine hQ r ds _ _ w5 S5 ⟨h5,U4.tr u5,r5.qE U4.size,⟨ok.cQ,⟨by show 0<=v.aP+1;omega,by show v.aP+1<=B+16;omega⟩,iG _,λ_=>by simp,λq hq=>?_⟩,rfl,?_,VP f5⟩ ?_
 ·cases hq
  exact⟨LI,wc,by rw[dm];omega,λ_=>hc5⟩
 ·rw[<-f5.len];omega
 ·unfold Gi
  rw[if_pos ⟨ha,hn⟩];exact⟨cp,b,hb5,rfl,f5⟩
theorem rdA_tail{x:Int}{r:List Int}{sl:Sl}{S:BS}(h:AV 1 eI sl (x::r) w S):∃SR',AV 1 eI ⟨aR sl.b sl.c 1 1,sl.l-1,sl.c-1⟩ r w SR'/\∀k,SR' k->BL sl k:=by
 obtain⟨h1,h2,h3,h4⟩:=h;have hl:=h1.len;simp only[nQ] at hl;have hp:=h1.part (i:=1) (j:=sl.l) (c:=sl.c) aB (iT _) h1.cap (iT _);have e:((x::r).drop 1).take (sl.l-1)=r:=by
  rw[List.drop_one,List.tail_cons,List.take_of_length_le];omega
 rw[e] at hp;have key:∀b,aR sl.b sl.c 1 1=some b->BL sl b.block:=λb hb=>by
  obtain⟨a0,nk,e2⟩:=Nk hb;exact⟨a0,nk,e2⟩
 exact⟨λk=>∃b,aR sl.b sl.c 1 1=some b/\k=b.block,⟨hp,h2,λb hb=>by obtain⟨a0,nk,e2⟩:=key b hb;rw[e2];exact h3 a0 nk,λ_=>Iff.rfl⟩,λk ⟨b,hb,e⟩=>by rw[e];exact key b hb⟩
theorem Pf{dN pos:Int}{Q:Sl->Int->aH->Prop}(h:uQ d v w S)(ok:v.Ok B)(hB:0<=B)
  (hQ:∀r ds e v' w' S',JA B d v w S r ds v' w' S'->Q r e w'):yJ (some ⟨d,0,none⟩) dN pos w Q:=by
 unfold yJ;refine VW h (aF (λ_=>hQ _ [] _ v w S (JA.same h ok (aW.refl _ _))) (λdi=>?_));have DN:v.jV=true:=by simpa using di
 refine ZF (aF (λ_=>hQ _ [] _ v w S (JA.same h ok (aW.refl _ _))) (λ_=>?_));cases Kf:v.ch with
 |none=>exact absurd Kf (ok.jV DN)
 |some pc=>
  obtain⟨p,c⟩:=pc;have kH:=ok.ch _ Kf;have hlv':=kH.2.2.2 DN;refine Rx (m:=⟨2,pos,0,[],0,MC⟩) h Kf kH.1 rfl λr ds b w3 S3 h3 u3 r3 Kp cs3 Ky f3=>?_;have hn5:=cs3.n;have hr5:=Kp.s.yP;have wc:=cs3.cO;have e2w:c.s.cO=v.cQ.cO:=kH.2.1;rw[e2w] at wc;have hds:ds.length<=v.cQ.cO+1:=by rw[<-f3.len];omega
  have okv:∀at_ jI dF,jI.length<=70000->(⟨v.cQ,some (p,(c.push b).2.1),v.aP,v.jV,v.cv,at_,jI,dF⟩:CQ).Ok (B+16):=λat_ jI dF hw=>⟨ok.cQ,by have:=ok.aP;exact⟨this.1,by show v.aP<=B+16;omega⟩,hw,λ_=>by simp,λq hq=>by
   cases hq;exact⟨Kp,wc,by rw[cs3.dl];have:c.dl<=B:=kH.2.2.1;omega,λ_=>cs3.aP.trans hlv'⟩⟩
  have dQ:∀(r':Sl) Kl e at_ jI dF w' S',uQ d ⟨v.cQ,some (p,(c.push b).2.1),v.aP,v.jV,v.cv,at_,jI,dF⟩ w' S'->Up S S' w w'->yj w.heap.size S' w' r' Kl->jI.length<=70000->(∀x∈Kl,x∈ds)->Kl.length<=ds.length->Q r' e w':=λr' Kl e at_ jI dF w' S' g1 g2 g3 g4 g5 g6=>hQ r' Kl e _ w' S' ⟨g1,g2,g3,okv at_ jI dF g4,rfl,aB,λx hx=>VP f3 x (g5 x hx)⟩;refine aF (λ_=>dQ _ [] _ v.nu v.jI v.dF w3 S3 h3 u3 eF.nil ok.jI (λx hx=>by cases hx) (iG _)) (λ_=>?_);obtain⟨uK,h3⟩:=h3;have XU:LB d uK ⟨v.cQ,some (p,(c.push b).2.1),v.aP,v.jV,v.cv,v.nu,v.jI,v.dF⟩ w3 S3:=h3;intro J1 KH;have j1:∀LC jI dF w4 S4,LB d LC ⟨v.cQ,some (p,(c.push b).2.1),v.aP,v.jV,v.cv,v.nu,jI,dF⟩ w4 S4->Up S3 S4 w3 w4->jI.length<=70000->J1 () w4:=λLC jI dF w4 S4 h4 u4 hw=>by
   apply KH;refine aA rfl (h4.set (v':=⟨v.cQ,some (p,(c.push b).2.1),v.aP,v.jV,v.cv,pos,jI,dF⟩) cU (by decide) rfl rfl rfl rfl rfl λw5 h5 u5=>?_);exact dQ r ds 0 pos jI dF w5 S4 ⟨LC,h5⟩ ((u3.tr u4).tr u5) ((r3.up u4).up u5) hw (λx hx=>hx) (iT _)
  intro J2 El;have j2:∀bb:Bool,(bb=true->∃x r',v.jI=x::r')->J2 (bb,()) w3:=λbb LF=>by
   apply El;refine aF (λhb=>?_) (λ_=>?_)
   ·obtain⟨x,r',hw⟩:=LF hb
    obtain⟨SC,SR,hB3,hC,hR,d1,d2,d3,e⟩:=XU.parts;have hR2:=hR;rw[show(⟨v.cQ,some (p,(c.push b).2.1),v.aP,v.jV,v.cv,v.nu,v.jI,v.dF⟩:CQ).jI=x::r' from hw] at hR2;have hl:=hR2.1.len;simp only[nQ] at hl;obtain⟨SR',hR',yR⟩:=rdA_tail hR2;refine aA rfl (aE (k:=.slice) uK (XU.cell rfl) ⟨⟨aB,aB⟩,aA rfl ?_⟩);rw[show Int.toNat (1:Int)=1 from rfl];refine XU.Qw (LC:=⟨aR uK.b uK.c 1 1,uK.l-1,uK.c-1⟩) (Us:=r') hR' (λk hk=>.inr (yR k hk)) λw4 S4 h4 m4 s4=>?_;have inS:∀k,BL uK k->S3 k:=λk hk=>(e k).2 (.inr (.inr ((hR.2.2.2 k).2 hk)));refine j1 _ r' v.dF w4 S4 h4 ⟨m4.mono λk _ hk=>(e k).2 (.inl hk),λk hk=>.inl ((s4 k hk).elim id λh=>inS k (yR k h))⟩ (by have:=ok.jI;rw[hw] at this;simp only[nQ] at this;omega)
   ·refine aA rfl (aE (k:=.i) v.nu (XU.cell rfl) (aF (λ_=>?_) (λ_=>j1 uK v.jI v.dF w3 S3 XU (Up.refl _ _) ok.jI)))
    refine aA rfl (XU.Qw (LC:=bD) (Us:=[]) (Dq cR) (λk hk=>hk.elim) λw4 S4 h4 m4 s4=>?_);have h4':LB d bD ⟨v.cQ,some (p,(c.push b).2.1),v.aP,v.jV,v.cv,v.nu,[],v.dF⟩ w4 S4:=h4;obtain⟨_,_,_,_,_,_,_,_,e⟩:=XU.parts;have u4:Up S3 S4 w3 w4:=⟨m4.mono λk _ hk=>(e k).2 (.inl hk),λk hk=>.inl ((s4 k hk).elim id λh=>h.elim)⟩;refine aA rfl (h4'.set (v':=⟨v.cQ,some (p,(c.push b).2.1),v.aP,v.jV,v.cv,v.nu,[],false⟩) gV (by decide) rfl rfl rfl rfl rfl λw5 h5 u5=>?_);exact j1 _ [] false w5 S4 h5 (u4.tr u5) (iG _)
  have c11:w3.cell? ((⟨d,0,none⟩:Addr).add 11)=some (sv uK):=XU.cell rfl;refine aA rfl (aE (k:=.bool) v.dF (XU.cell rfl) (aF (λ_=>?_) (λ_=>j2 false λh=>by cases h)));refine aA rfl (aE (k:=.slice) uK c11 (aJ (λhgt=>?_) (λ_=>j2 false λh=>by cases h)));obtain⟨SC,SR,hB3,hC,hR,d1,d2,d3,e⟩:=XU.parts;have hl:uK.l=v.jI.length:=hR.1.len;cases hw:v.jI with
  |nil=>rw[hw] at hl;simp at hl;omega
  |cons x r'=>
   obtain⟨a,ha,hx⟩:=cF (k:=.i) (e:=λx=>x) hR.1 (show v.jI[0]? =some x by rw[hw];rfl);refine aA rfl (aE (k:=.slice) uK c11 ⟨⟨aB,aB⟩,aA ha (aE (k:=.i) x hx (j2 _ λ_=>⟨x,r',hw⟩))⟩)
theorem aAW{dN:Int}{Q:Sl->Int->aH->Prop}(h:uQ d v w S)(ok:v.Ok B)(hB:0<=B)
  (hQ:∀r ds e v' w' S',JA B d v w S r ds v' w' S'->Q r e w'):EM (some ⟨d,0,none⟩) dN w Q:=by
 unfold EM;have no:=λe=>hQ bD [] e v w S (JA.same h ok (aW.refl _ _));refine VW h (aF (λ_=>no _) (λdi=>?_));obtain⟨uK,h0⟩:=h;obtain⟨SC,SR,hB3,hC,hR,d1,d2,d3,e⟩:=h0.parts;have hl:=hR.1.len;have c11:w.cell? ((⟨d,0,none⟩:Addr).add 11)=some (sv uK):=h0.cell rfl;refine aA rfl (aE (k:=.slice) uK c11 (aF (λ_=>no _) (λhz=>?_)));cases hw:v.jI with
 |nil=>rw[hw] at hl;rw[hl] at hz;simp at hz
 |cons x r'=>
  obtain⟨a,ha,hx⟩:=cF (k:=.i) (e:=λx=>x) hR.1 (show v.jI[0]? =some x by rw[hw];rfl);rw[hw] at hl;simp only[nQ] at hl;refine aA rfl (aE (k:=.slice) uK c11 ⟨⟨aB,aB⟩,aA ha (aE (k:=.i) x hx (Pf ⟨uK,h0⟩ ok hB λr ds e v' w' S' g=>hQ r ds e v' w' S' g))⟩)
theorem DStop_i{dN:Int}{Q:Sl->Int->aH->Prop}(h:uQ d v w S)(ok:v.Ok B)(hB:0<=B)
  (hQ:∀r ds e v' w' S',JA B d v w S r ds v' w' S'->Q r e w'):PH (some ⟨d,0,none⟩) dN w Q:=by
 unfold PH;refine VW h (aF (λ_=>hQ _ [] _ v w S (JA.same h ok (aW.refl _ _))) (λdi=>?_));have DN:v.jV=true:=by simpa using di
 cases Kf:v.ch with
 |none=>exact absurd Kf (ok.jV DN)
 |some pc=>
  obtain⟨p,c⟩:=pc;have kH:=ok.ch _ Kf;have hlv':=kH.2.2.2 DN;refine Rx (m:=⟨3,0,0,[],0,MC⟩) h Kf kH.1 rfl λr ds b w3 S3 h3 u3 r3 Kp cs3 Ky f3=>?_;have hn5:=cs3.n;have hr5:=Kp.s.yP;have wc:=cs3.cO;have e2w:c.s.cO=v.cQ.cO:=kH.2.1;rw[e2w] at wc;refine hQ r ds _ _ w3 S3 ⟨h3,u3,r3,⟨ok.cQ,by have:=ok.aP;exact⟨this.1,by show v.aP<=B+16;omega⟩,ok.jI,λ_=>by simp,λq hq=>?_⟩,rfl,by rw[<-f3.len];omega,VP f3⟩;cases hq;exact⟨Kp,wc,by rw[cs3.dl];have:c.dl<=B:=kH.2.2.1;omega,λ_=>cs3.aP.trans hlv'⟩
def MM(v v':CQ)(ds:List (List dA)):Prop:=
 if v.jV=true then∃p c gs e c',v.ch=some (p,c)/\qt c gs e c'/\if e=0 then v'={v with ch:=some (p,c')}/\F2 GOk gs ds else v'={v with ch:=some (p,c'),jV:=false,cv:=0}/\ds=[] else v'=v/\ds=[]
theorem DTick_i{dN:Int}{Q:Sl->aH->Prop}(h:uQ d v w S)(ok:v.Ok B)(hB:0<=B)
  (hQ:∀r ds v' w' S',JA B d v w S r ds v' w' S'->v'.Ok B->MM v v' ds->Q r w'):PG (some ⟨d,0,none⟩) dN w Q:=by
 unfold PG;refine VW h (aF (λdi=>hQ _ [] v w S (JA.same h ok (aW.refl _ _)) ok ?_) (λdi=>?_))
 ·have:v.jV=false:=by simpa using di
  unfold MM;rw[if_neg (by rw[this];simp)];exact⟨rfl,rfl⟩
 have DN:v.jV=true:=by simpa using di
 cases Kf:v.ch with
 |none=>exact absurd Kf (ok.jV DN)
 |some pc=>
  obtain⟨p,c⟩:=pc;have kH:=ok.ch _ Kf;obtain⟨S1,h1,tM,c6,dL⟩:=h.chan Kf;refine aA rfl (aE (k:=.ptr) (some ⟨p,0,none⟩) c6 (va h1 kH.1 λrg gs e c' w2 S2 h2 u2 Uh IJ=>?_));obtain⟨S3,h3,u3⟩:=dL _ _ w2 S2 u2 h2;obtain⟨S4,h4,u4,g4⟩:=VO h3;have pf:=Ic kH.1 Uh;have e2w:c.s.cO=v.cQ.cO:=kH.2.1;have hnw:c'.s.n<=v.cQ.cO:=by have:=IJ.s.yP;rw[pf.1,e2w] at this;exact this
  have hlv':=kH.2.2.2 DN;have okv:∀lv wy,(lv=true->lv=v.jV)->(⟨v.cQ,some (p,c'),v.aP,lv,wy,v.nu,v.jI,v.dF⟩:CQ).Ok B:=λlv wy _=>⟨ok.cQ,ok.aP,ok.jI,λ_=>by simp,λq hq=>by
   cases hq;exact⟨IJ,pf.1.trans e2w,by rw[pf.2.2.1];exact kH.2.2.1,λ_=>pf.2.1.trans hlv'⟩⟩
  have U4:=u3.tr u4;refine aF (λhe=>?_) (λhe=>?_)
  ·have vT:¬e=0:=by simpa using he
   obtain⟨uK,h4⟩:=h4;refine aA rfl (h4.set (v':=⟨v.cQ,some (p,c'),v.aP,false,v.cv,v.nu,v.jI,v.dF⟩) gV (by decide) rfl rfl rfl rfl rfl λw5 h5 u5=>?_);refine aA rfl (h5.set (v':=⟨v.cQ,some (p,c'),v.aP,false,0,v.nu,v.jI,v.dF⟩) cU (by decide) rfl rfl rfl rfl rfl λw6 h6 u6=>?_);refine hQ _ [] _ w6 S4 ⟨⟨uK,h6⟩,(U4.tr u5).tr u6,eF.nil,(okv false 0 λh=>by cases h).mono aB,rfl,iG _,λx hx=>by cases hx⟩ (okv false 0 λh=>by cases h) ?_;unfold MM;rw[if_pos DN];exact⟨p,c,gs,e,c',Kf,Uh,by rw[if_neg vT];exact⟨rfl,rfl⟩⟩
  ·have vT:e=0:=by simpa using he
   refine NL g4 (by have:=pf.2.2.2.1;have:=IJ.s.cO;have:=IJ.s.yP;omega) (λg hg=>by have:=pf.2.2.2.2 g hg;omega) λr ds w5 k5 v5 f5=>?_;have bd4:=bF.gH h4;have zz:=U4.size;refine hQ r ds _ w5 S4 ⟨bF.kp h4 k5,U4.tr (Up.aN k5),(v5.sub λk hk=>bd4 k hk).qE aB,(okv v.jV v.cv λ_=>rfl).mono aB,rfl,by rw[<-f5.len];have:=pf.2.2.2.1;omega,VP f5⟩ (okv v.jV v.cv λ_=>rfl) ?_;unfold MM;rw[if_pos DN];exact⟨p,c,gs,e,c',Kf,Uh,by rw[if_pos vT];exact⟨rfl,f5⟩⟩
end
end
section
abbrev RowM:=eF (α:=lO) eI nA 9 tA lO.cH
def CQ.Vi(v:CQ)(jI:List Int)(dF:Bool):CQ:={v with jI:=jI,dF:=dF}
def Ge(XV:List (lO×Int)):List lO:=(XV.filter λx=>decide (x.2=0)).map (·.1)
def Wl(v:CQ)(g:gA)(e:Int):Prop:=e=0/\v.jV=true/\g.aP=v.aP
def DRecvR(v:CQ)(bs:List dA)(v':CQ)(ds:List (List dA))(ms:List lO):Prop:=∃g e,GDec bs g e/\
  ((¬Wl v g e/\v'=v/\ds=[]/\ms=[])\/(Wl v g e/\g.kind=3/\v'={v with jV:=false,cv:=g.code}/\ds=[]/\ms=[])\/
   (Wl v g e/\g.kind≠3/\∃p c rO gs c' XV jI dF,v.ch=some (p,c)/\VH c g rO gs c'/\c'.Ok/\F2 GOk gs ds/\F2 (λb x=>MDec b x.1 x.2) rO XV/\ms=Ge XV/\v'=({v with ch:=some (p,c')}:CQ).Vi jI dF))
section
variable{d:Nat}{v:CQ}{w:aH}{S:BS}{B:Int}
theorem hears_i{m:lO}{sl:Sl}{Q:aH->Prop}(h:uQ d v w S)(hr:Rd w sl 1 eI m.cH)(hl:m.cH.length<=70000)(hw:v.jI.length<=70000)
  (hQ:∀w' S' jI dF,uQ d (v.Vi jI dF) w' S'->Up S S' w w'->jI.length<=70000->Q w'):JX (some ⟨d,0,none⟩) (FV (m,sl)) w Q:=by
 unfold JX;refine cC (cs:=tA (m,sl)) λw1 b1 k1 z1=>?_;have h1:=bF.kp h k1;have bd:=bF.gH h;refine aE (k:=.i) m.kind (aO b1 rfl) (aF (λ_=>?_) (λ_=>aF (λ_=>?_) (λ_=>hQ w1 S v.jI v.dF h1 (Up.aN k1) hw)))
 ·refine aE (k:=.slice) sl (aO b1 rfl) (HC (hr.aK k1 cR λ_ _=>id) aB λs2 w2 v2 k2 f2=>aA rfl ?_)
  obtain⟨uK,h2⟩:=bF.kp h1 k2;have AS:AV 1 eI s2 m.cH w2 (λk=>∃b,s2.b=some b/\k=b.block):=⟨v2.rd fG,cR,λb hb=>v2.lt hb,λ_=>Iff.rfl⟩;refine h2.Qw (Us:=m.cH) AS (λk ⟨b,hb,e⟩=>.inl λhs=>by have:=bd _ hs;have:=f2 b hb;omega) λw3 S3 h3 m3 s3=>?_;obtain⟨_,_,_,_,_,_,_,_,e⟩:=h2.parts;have u3:Up S S3 w w3:=⟨((k1.tr k2).wk).trans m3 λk _ hk=>(e k).2 (.inl hk),λk hk=>(s3 k hk).imp id λ⟨b,hb,e⟩=>by have:=f2 b hb;omega⟩;refine aA rfl (h3.set (v':=v.Vi m.cH true) gV (by decide) rfl rfl rfl rfl rfl λw4 h4 u4=>?_);exact hQ w4 S3 m.cH true ⟨s2,h4⟩ (u3.tr u4) hl
 ·obtain⟨uK,h2⟩:=h1
  refine aA rfl (h2.Qw (LC:=bD) (Us:=[]) (Dq cR) (λk hk=>hk.elim) λw3 S3 h3 m3 s3=>?_);obtain⟨_,_,_,_,_,_,_,_,e⟩:=h2.parts;have u3:Up S S3 w w3:=⟨(k1.wk).trans m3 λk _ hk=>(e k).2 (.inl hk),λk hk=>(s3 k hk).imp id False.elim⟩;refine aA rfl (h3.set (v':=v.Vi [] false) gV (by decide) rfl rfl rfl rfl rfl λw4 h4 u4=>?_);exact hQ w4 S3 [] false ⟨_,h4⟩ (u3.tr u4) (iG _)
theorem mr{dN:Int}{b:Sl}{bs:List dA}{Q:Sl->Sl->aH->Prop}(hr:Rd w b 1 eU bs)(hl:bs.length<=5000)(hQ:∀w',aM w w'->Q bD bD w'):AN none dN b w Q:=by
 unfold AN;refine jl hr hl λg sl e w1 k1 rd1 f1 Ke=>?_;refine fD (zs:=eG (⟨0,0,0,0,0,[]⟩,bD)) (vs:=eG (g,sl)) rF rfl (Lc _) λw3 o3 k3 z3=>?_;have K:=(k1.tr k3).tr (bN w3);refine aF (λ_=>hQ _ K) (λ_=>?_);unfold rJ;exact aF (λh=>by cases h) (λ_=>aF (λ_=>hQ _ K) (λh=>by cases h))
theorem DRecv_i{dN:Int}{b:Sl}{bs:List dA}{Q:Sl->Sl->aH->Prop}(h:uQ d v w S)(ok:v.Ok B)(hB:0<=B/\B<=100000000000000)(hr:Rd w b 1 eU bs)(hro:AW b S w)(hl:bs.length<=5000)
  (hQ:∀r rm ds ms v' w' S',JA B d v w S r ds v' w' S'->RowM w.heap.size S' w' rm ms->DRecvR v bs v' ds ms->Q r rm w'):AN (some ⟨d,0,none⟩) dN b w Q:=by
 unfold AN;have bd:=bF.gH h;refine jl hr hl λg sl e w1 k1 rd1 f1 Ke=>?_;refine fD (zs:=eG (⟨0,0,0,0,0,[]⟩,bD)) (vs:=eG (g,sl)) rF rfl (Lc _) λw3 o3 k3 z3=>?_;have K3:=(k1.tr k3).tr (bN w3);have h3:=bF.kp h K3;have Kq:=o3.aK (bN w3) id;have UI:¬Wl v g e->Q bD bD w3.drew:=λhn=>hQ _ _ [] [] v _ S (JA.same h ok K3) eF.nil ⟨g,e,Ke,.inl ⟨hn,rfl,rfl,rfl⟩⟩;refine aF (λhe=>UI λhh=>by have:=hh.1;simp[this] at he) (λhe=>?_);have he0:e=0:=by simpa using he
 refine VW h3 (aF (λdi=>UI λhh=>by have:=hh.2.1;rw[this] at di;cases di) (λdi=>?_));have DN:v.jV=true:=by simpa using di
 obtain⟨uK,h3m⟩:=h3;refine aE (k:=.i) g.aP (cM Kq rfl) (aA rfl (aE (k:=.i) v.aP (h3m.cell rfl) (aF (λhc=>UI λhh=>by have:=hh.2.2;simp[this] at hc) (λhc=>?_))));have dp:g.aP=v.aP:=by simpa using hc
 have Wb:Wl v g e:=⟨he0,DN,dp⟩;have hconn:=ok.aP;refine aE (k:=.i) g.kind (cM Kq rfl) (aF (λhk=>?_) (λhk=>?_))
 ·have nj:g.kind=3:=by simpa using hk
  have h4:=bF.dr h3m;have o4:=Kq.aK (bN w3.drew) id;refine aE (k:=.i) g.code (cM o4 rfl) (aA rfl ?_);refine h4.set (v':={v with jV:=false}) gV (by decide) rfl rfl rfl rfl rfl λw5 h5 u5=>?_;have n1:¬S w1.heap.size:=λhs=>by have:=bd _ hs;have:=k1.size;omega
  refine⟨cM (o4.aK u5.m n1) rfl,aA rfl ?_⟩;refine h5.set (v':={v with jV:=false,cv:=g.code}) cU (by decide) rfl rfl rfl rfl rfl λw6 h6 u6=>?_;refine hQ _ _ [] [] _ w6 S ⟨⟨uK,h6⟩,((Up.aN (K3.tr (bN w3.drew))).tr u5).tr u6,eF.nil,⟨ok.cQ,by show 0<=v.aP/\v.aP<=B+16;omega,ok.jI,λh=>(by cases h),λp hp=>?_⟩,rfl,iG _,λx hx=>by cases hx⟩ eF.nil ⟨g,e,Ke,.inr (.inl ⟨Wb,nj,rfl,rfl,rfl⟩)⟩;have:=ok.ch p hp;exact⟨this.1,this.2.1,aB,λh=>by cases h⟩
 ·have nj:g.kind≠3:=by simpa using hk
  cases Kf:v.ch with
  |none=>exact absurd Kf (ok.jV DN)
  |some pc=>
   obtain⟨p,c⟩:=pc;have kH:c.Ok/\c.s.cO=v.cQ.cO/\c.s.next-(c.s.n:Int)<=B/\(v.jV=true->c.aP=v.aP):=ok.ch _ Kf
   have DM:=kH.1.s.yP;have CT:=kH.1.s.cO;have lgb:g.body.length<=5000:=iF Ke.len hl;have h4:uQ d v w3.drew.drew S:=bF.dr ⟨uK,h3m⟩;have K4:=K3.tr (bN w3.drew);have o4:=Kq.aK (bN w3.drew) id;obtain⟨S1,h1,tM,c6,dL⟩:=h4.chan Kf;have wd:w3.drew.drew.heap.size=w3.heap.size:=rfl;have rdg:Rd w3.drew.drew sl 1 eU g.body:=((rd1.1.aK k3 fH λ_ _=>id).aK (bN w3) fH λ_ _=>id).aK (bN w3.drew) fH λ_ _=>id;refine aA rfl (aE (k:=.ptr) (some ⟨p,0,none⟩) c6 (bJ (l:=kG) (IW (g,sl)) (o4.holds λj v hj=>by rw[pM];exact hj) ?_));refine Sh h1 kH.1 aB rdg (λb bW=>⟨λhk=>by have:=bd _ (tM _ hk);have:=f1 b bW;omega,by have:=rd1.2.2.1 b bW;omega⟩) lgb Ke.seq λYH rO rg gs c' w7 S7 h7 u7 YG IJ=>?_;obtain⟨S8,h8,u8⟩:=dL _ _ w7 S7 u7 h7;obtain⟨SA,SR,hA,⟨SB,SG,hBs,hGs,dBG,eBG⟩,dAR,eAR⟩:=h8;have rf:=wR kH.1 YG;have rowD:Fh (λk=>¬SA k/\k<w7.heap.size) w7 YH rO:=(hBs.row (P:=λk=>¬SA k) λk hk hs=>dAR k hs ((eBG k).2 (.inl hk))).wk λk h1 h2=>⟨h1,h2⟩;have rowG:Vg (λk=>¬SA k/\k<w7.heap.size) w7 rg gs:=(hGs.row (P:=λk=>¬SA k) λk hk hs=>dAR k hs ((eBG k).2 (.inr hk))).wk λk h1 h2=>⟨h1,h2⟩;have UA:Up S SA w w7:=((Up.aN K4).tr u8).tr (Up.sub w7 λk hk=>(eAR k).2 (.inl hk));have e2w:c.s.cO=v.cQ.cO:=kH.2.1;have hnw:c'.s.n<=v.cQ.cO:=by have:=IJ.s.yP;rw[rf.1,e2w] at this;exact this
   have hlc:=kH.2.2.2 DN;have ldb:=rowD.len;have lbs:=rf.2.2.2.2.2.2;have zA:=UA.size;refine bO (λn t w8=>∃(i:Nat) (rm:Sl) (ms:List lO) (XV:List (lO×Int)) (jI:List Int) (dF:Bool) (S5:BS),i<=rO.length/\n=rO.length-i/\t=(rm,(i:Int),())/\uQ d (({v with ch:=some (p,c')}:CQ).Vi jI dF) w8 S5/\Up S S5 w w8/\RowM w7.heap.size S5 w8 rm ms/\jI.length<=70000/\F2 (λb x=>MDec b x.1 x.2) (rO.take i) XV/\ms=Ge XV/\ms.length<=i/\Fh (λk=>¬S5 k/\k<w7.heap.size) w8 YH rO/\Vg (λk=>¬S5 k/\k<w7.heap.size) w8 rg gs/\w7.heap.size<=w8.heap.size) rO.length
    ⟨0,bD,[],[],v.jI,v.dF,SA,iG _,rfl,rfl,hA,UA,eF.nil,ok.jI,.nil,rfl,iT _,rowD,rowG,iT _⟩ ?_
   rintro n t w8 ⟨i,rm,ms,XV,jI,dF,S5,hi,rfl,rfl,h5,u5,r5,wc,f5,Uj,hml,d5,g5,zz5⟩ X hX;dsimp only;have Ms:=bF.gH h5;refine aJ (λcJ=>?_) (λkT=>?_)
   ·have dI:i<rO.length:=aB
    have cV:=gS dI;have fP:=nC dI;have rT:=FO dI;generalize rO[i]=body at*;obtain⟨q,slb,hq,hh,Kt,Ek⟩:=d5.get cV;rw[kE,pZ i aB];have cq:w8.cell? (q.add (i*1))=some (sv slb):=by have:=hh.1;rwa[add_add,Nat.add_zero] at this
    refine⟨⟨aB,cJ⟩,aA hq (aE (k:=.slice) slb cq ?_)⟩;refine jj Kt (lbs _ fP) λm av em w9 k9 rd9 f9 hmd=>?_;refine fD (zs:=tA (⟨0,0,0,[],0,MC⟩,bD)) (vs:=tA (m,av)) BY rfl (VC _) λeC o11 KS z11=>?_;have K11:=k9.tr KS;have Ki:=bF.kp h5 K11;have z9:=k9.size;have rd11:=rd9.1.aK KS cR λ_ _=>id;have hF:F2 (λb x=>MDec b x.1 x.2) (rO.take (i+1)) (XV++[(m,em)]):=by rw[rT];exact f5.app (.one hmd)
    refine aF (λhe=>?_) (λhe=>?_)
    ·have hem:em=0:=by simpa using he
     refine bJ (l:=bc) (FV (m,av)) (o11.holds λj v hj=>by rw[pM];exact hj) ?_;refine hears_i Ki rd11 hmd.len wc λeQ XY way2 has2 Bv Bp hw12=>?_;have Cz:=o11.aK Bp.m λhs=>by have:=Ms _ hs;omega
     refine bJ (l:=bc) (FV (m,av)) (Cz.holds λj v hj=>by rw[pM];exact hj) ?_;have UU:Up S5 XY w8 eQ:=(Up.aN K11).tr Bp;have bd12:=bF.gH Bv;have z12:=Bp.size;have xq:∀b,av.b=some b->w8.heap.size<=b.block/\b.block<w9.heap.size:=λb bW=>⟨f9 b bW,rd9.2.2.1 b bW⟩;have nS:∀b,av.b=some b->¬XY b.block:=λb bW hs=>by
      rcases Bp.s _ hs with h|h
      ·have:=Ms _ h;have:=(xq b bW).1;omega
      ·have:=(xq b bW).2;omega
     have n5:∀b,av.b=some b->¬S5 b.block:=λb bW hs=>by have:=Ms _ hs;have:=(xq b bW).1;omega
     have rmlt:∀b,rm.b=some b->b.block<w8.heap.size:=λb bW=>r5.lt bW;refine eF.gW Of Fp VC aB (r5.up UU) aB aB bd12 m (sl:=av) (rd11.aK Bp.m cR λb bW=>n5 b bW) (λb bW=>⟨by have:=(xq b bW).1;omega,nS b bW,by have:=(xq b bW).2;omega,λb' Qj e=>by have:=(xq b bW).1;have:=rmlt b' Qj;omega⟩) λrm' mC v14 YA=>?_;have U14:Up S XY w mC:=Up.iH (u5.tr UU) (YA.mono λk _ hk=>⟨by have:=hk.1;omega,hk.2⟩);refine hX _ _ _ aB ⟨i+1,rm',ms++[m],XV++[(m,em)],way2,has2,XY,dI,rfl,rfl,bF.ov Bv YA,U14,v14,hw12,hF,?_,by simp;omega,((d5.aK KN UU.m λk hk _=>hk.1).wk λk hk _=>⟨λhs=>(UU.s k hs).elim hk.1 λh=>by have:=hk.2;omega,hk.2⟩).aK KN YA λk hk _ h=>by have:=hk.2;have:=h.1;omega,((g5.aK QM UU.m λk hk _=>hk.1).wk λk hk _=>⟨λhs=>(UU.s k hs).elim hk.1 λh=>by have:=hk.2;omega,hk.2⟩).aK QM YA λk hk _ h=>by have:=hk.2;have:=h.1;omega,by have:=YA.size;omega⟩;rw[Uj];unfold Ge;rw[IQ,yQ,List.filter_cons_of_pos (by simp[hem])];rfl
    ·have hem:em≠0:=by simpa using he
     refine hX _ _ _ aB ⟨i+1,rm,ms,XV++[(m,em)],jI,dF,S5,dI,rfl,rfl,Ki,u5.tr (Up.aN K11),r5.kp K11,wc,hF,?_,aB,d5.kp KN K11,g5.kp QM K11,aB⟩;rw[Uj];unfold Ge;rw[IQ,yQ,List.filter_cons_of_neg (by simp[hem])];simp
   ·have ei:i=rO.length:=aB
    subst ei;rw[oY] at f5;refine NL g5 (by have:=rf.2.2.2.1;omega) (λx hx=>by have:=rf.2.2.2.2.1 x hx;omega) λr ds fO Da v15 f15=>?_;refine hQ r rm ds ms _ fO S5 ⟨bF.kp h5 Da,u5.tr (Up.aN Da),(v15.sub λk hk=>Ms k hk).qE aB,⟨ok.cQ,by show 0<=v.aP/\v.aP<=B+16;omega,wc,λ_=>by show(some (p,c'):Option (Nat×lH))≠none;simp,λq hq=>?_⟩,rfl,by rw[<-f15.len];have:=rf.2.2.2.1;omega,VP f15⟩ ((r5.kp Da).qE zA) ⟨g,e,Ke,.inr (.inr ⟨Wb,nj,p,c,rO,gs,c',XV,jI,dF,Kf,YG,IJ,f15,f5,Uj,rfl⟩)⟩;cases hq;exact⟨IJ,rf.1.trans e2w,by have h27:c'.dl<=c.s.next:=rf.2.2.1;show c'.dl<=B+16;omega,λ_=>rf.2.1.trans hlc⟩
end
end
end Go.Proofs.YtihggjgakbgomaaGreat
