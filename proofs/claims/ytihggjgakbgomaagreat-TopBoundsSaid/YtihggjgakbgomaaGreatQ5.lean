import Derived.Test.YtihggjgakbgomaaGreatA1
import Derived.Test.YtihggjgakbgomaaGreatQ4
namespace Go.Proofs.YtihggjgakbgomaaGreat
open Go Go.Den
open Tryz (prog)
section
theorem Wv:yn prog 102:=⟨YS,5,iA,iA,by decide⟩
structure iQ where
 cQ:yX
 sp:Nat
 tp:Nat
 lp:Nat
 dO:Int
 u:List Int
 t:sR
 gv:List Nat
 lf:Nat->Option Jy.T
 ln:Nat
 ch:Nat->lH
 yN:Nat->LJ
def sR.at(t:sR)(p:Nat):Option dG:=t.aT.find? λe=>e.aL==p
def Grv(a:Nat):As:=Ex λcs=>sB a YS cs
instance{a:Nat}:bF (Grv a):=by unfold Grv;infer_instance
inductive SI|Bt|set|Eg|lost|ch(p:Nat)
 deriving DecidableEq
abbrev UZ(ee:Nat)(v:iQ):List Value:=[.pointer (some ⟨ee,0,none⟩),aD (v.cQ.kV:Int),aD (v.cQ.cO:Int),aD v.cQ.LY,aD v.cQ.nF,aD v.cQ.cap,aD v.cQ.idle,.pointer (some ⟨v.sp,0,none⟩),.pointer (some ⟨v.tp,0,none⟩),aD v.dO,.map (some v.lp)]
def VB(v:iQ):As:=aZ (CY v.tp v.t) (vZ Grv v.gv)
instance{v:iQ}:bF (VB v):=by unfold VB;infer_instance
def QF(ee a:Nat)(v:iQ):SI->As
 | .Bt=>sB a xA (UZ ee v)
 | .set=>tG v.sp v.u
 | .Eg=>VB v
 | .lost=>uJ v.lp yP Jy v.lf v.ln
 | .ch p=>match v.t.at p with
  |some e=>jQ e.cp (v.ch p)
  |none=>DK
instance QF.loc{ee a:Nat}{v:iQ}:∀i,bF (QF ee a v i)
 | .Bt=>inferInstanceAs (bF (sB a xA (UZ ee v)))
 | .set=>inferInstanceAs (bF (tG v.sp v.u))
 | .Eg=>inferInstanceAs (bF (VB v))
 | .lost=>inferInstanceAs (bF (uJ v.lp yP Jy v.lf v.ln))
 | .ch p=>by
  show bF (match v.t.at p with|some e=>jQ e.cp (v.ch p)|none=>DK)
  split<;>infer_instance
def kX(ee a:Nat)(v:iQ):As:=gE (QF ee a v)
instance{ee a:Nat}{v:iQ}:bF (kX ee a v):=by unfold kX;infer_instance
structure iQ.Ok(G:Gr)(B:Int)(v:iQ):Prop where
 cQ:v.cQ.Ok
 dO:0<=v.dO/\v.dO<=1000000000
 u:v.u.length=G.E.length/\v.u.length<=512
 t:v.t.Ok
 eQ:v.t.eQ=v.cQ.kV
 ch:∀e∈v.t.aT,(v.ch e.aL).Ok/\(v.ch e.aL).aP=e.aP/\(v.ch e.aL).s.cO=v.cQ.cO/\(v.ch e.aL).dl<=B
 yN:∀e∈v.t.aT,UF G (v.yN e.aL)
 Df:∀e∈v.t.aT,(1<=e.aP/\e.aP<=2147483648)/\0<=e.kO/\e.kO<=v.dO
 lost:∀k,(v.lf k).isSome=true->(∃e∈v.t.aT,e.a=k)\/k∈v.gv
theorem sR.at_mem{t:sR}{p:Nat}{e:dG}(h:t.at p=some e):e∈t.aT/\e.aL=p:=⟨List.mem_of_find?_eq_some h,by have:=List.find?_some h;simpa using this⟩
theorem sR.ML{t:sR}(ok:t.Ok){e:dG}(he:e∈t.aT):t.at e.aL=some e:=by
 cases h:t.at e.aL with
 |none=>have:=List.find?_eq_none.1 h e he;simp at this
 |some f=>
  obtain⟨h1,h2⟩:=sR.at_mem h;rw[ok.inj h1 he h2]
section
variable{w:aH}{S:BS}{ee a:Nat}{v:iQ}
theorem kX.Ud(h:kX ee a v w S):∃S1,sB a xA (UZ ee v) w S1/\∀k,S1 k->S k:=gE.get h .Bt
theorem kX.cell(h:kX ee a v w S){k:Nat}{x:Value}(hk:(UZ ee v)[k]? =some x):w.cell? ((⟨a,0,none⟩:Addr).add k)=some x:=by
 obtain⟨S1,h1,_⟩:=h.Ud;exact aO h1 hk
theorem kX.Eg(h:kX ee a v w S):∃S1,CY v.tp v.t w S1/\∀k,S1 k->S k:=by
 obtain⟨S1,⟨S2,S3,h2,h3,d,e⟩,hs⟩:=gE.get h .Eg;exact⟨S2,h2,λk hk=>hs k ((e k).2 (.inl hk))⟩
theorem kX.Df(h:kX ee a v w S){e:dG}(he:e∈v.t.aT):cW w e.a YS (Ve e)/\S e.a:=by
 obtain⟨S1,h1,hs⟩:=h.Eg;exact⟨(h1.Df he).1,hs _ (h1.Df he).2⟩
theorem kX.UY(h:kX ee a v w S){e:dG}(he:e∈v.t.aT){k:Nat}{x:Value}(hk:(Ve e)[k]? =some x):w.cell? ((⟨e.a,0,none⟩:Addr).add k)=some x:=cM (h.Df he).1 hk
theorem kX.Hc{G:Gr}{B:Int}(h:kX ee a v w S)(ok:v.Ok G B):∀k,(v.lf k).isSome=true->yY w k:=λk hk=>by
 obtain⟨S1,⟨S2,S3,h2,h3,d,e⟩,hs⟩:=gE.get h .Eg;rcases ok.lost k hk with⟨e,he,rfl⟩|hg
 ·exact(h2.Df he).1.Ra
 ·obtain⟨S4,⟨cs,h4⟩,_⟩:=vZ.get h3 hg
  exact h4.1.Ra
theorem kX.lostMap(h:kX ee a v w S):jP w v.lp yP Jy v.lf v.ln:=by
 obtain⟨S1,h1,_⟩:=gE.get h .lost;exact h1.1
def iQ.oQ(v:iQ)(p:Nat)(c:lH):iQ:={v with ch:=λq=>if q=p then c else v.ch q}
def iQ.uY(v:iQ)(p:Nat)(c:LJ):iQ:={v with yN:=λq=>if q=p then c else v.yN q}
def iQ.Al(v:iQ)(k:Nat)(b:Bool):iQ:={v with lf:=λy=>if y=k then some b else v.lf y,ln:=if(v.lf k).isSome then v.ln else v.ln+1}
theorem kX.chan(h:kX ee a v w S){e:dG}{p:Nat}(he:v.t.at p=some e):Us w S (jQ e.cp (v.ch p)) λX=>gE (ES (QF ee a v) (.ch p) X):=by
 have h1:=gE.at h (.ch p);have e1:QF ee a v (.ch p)=jQ e.cp (v.ch p):=by show(match v.t.at p with|some e=>jQ e.cp (v.ch p)|none=>DK)=_;rw[he]
 rwa[e1] at h1
theorem fam_ch{e:dG}{p:Nat}(he:v.t.at p=some e)(c:lH):ES (QF ee a v) (.ch p) (jQ e.cp c)=QF ee a (v.oQ p c):=by
 funext i
 show(if i=.ch p then jQ e.cp c else QF ee a v i)=_
 split
 ·rename_i h;subst h
  show _=(match v.t.at p with|some e=>jQ e.cp (if p=p then c else v.ch p)|none=>DK)
  rw[he,if_pos rfl]
 ·rename_i h
  cases i with
  |ch q=>
   have hq:¬q=p:=λe=>h (by rw[e]);show _=(match v.t.at q with|some e=>jQ e.cp (if q=p then c else v.ch q)|none=>DK)
   rw[if_neg hq];rfl
  |_=>rfl
theorem fam_lost(k:Nat)(b:Bool):ES (QF ee a v) .lost (uJ v.lp yP Jy (λy=>if y=k then some b else v.lf y) (if(v.lf k).isSome then v.ln else v.ln+1))=QF ee a (v.Al k b):=by
 funext i
 cases i<;>rfl
theorem kX.Vq(h:kX ee a v w S){e:dG}{p:Nat}(he:v.t.at p=some e):∃S1,jQ e.cp (v.ch p) w S1/\(∀k,S1 k->S k)/\∀c D w' T,Up S1 T w w'->aZ (jQ e.cp c) D w' T->∃S',aZ (kX ee a (v.oQ p c)) D w' S'/\Up S S' w w':=by
 obtain⟨S1,h1,hs,dN⟩:=h.chan he;refine⟨S1,h1,hs,λc D w' T u hT=>?_⟩;obtain⟨S',h',u'⟩:=dN _ D w' T u hT;exact⟨S',h'.mono (λS h=>by unfold kX;rw[<-fam_ch he];exact h) λ_ h=>h,u'⟩
theorem kX.mark{G:Gr}{B:Int}(h:kX ee a v w S)(ok:v.Ok G B){e:dG}(he:e∈v.t.aT)(b:Bool){Q:aH->Prop}(hQ:∀w' S',kX ee a (v.Al e.a b) w' S'->Up S S' w w'->Q w'):fF prog 98 (.map (some v.lp)) (.pointer (wZ e)) (.bool b) w Q:=by
 obtain⟨S1,h1,_,dN⟩:=(gE.at h .lost).put;refine update_p (kn:=Jy) gj Wv h1.1 e.a b (h.Hc ok) (h.Df he).1.Ra λw' wo mm' _=>?_;obtain⟨S',h',u'⟩:=dN (uJ v.lp yP Jy (λy=>if y=e.a then some b else v.lf y) (if(v.lf e.a).isSome then v.ln else v.ln+1)) w' S1 (Up.at (mm'.mono λk _ hk=>(h1.2 k).2 hk)) ⟨wo,h1.2⟩
 exact hQ w' S' (by unfold kX;rw[<-fam_lost];exact h') u'
theorem kX.Ge{G:Gr}{B:Int}(h:kX ee a v w S)(ok:v.Ok G B){e:dG}(he:e∈v.t.aT){Q:Bool->aH->Prop}(hQ:Q ((v.lf e.a).getD (false:Bool)) w):jY prog (.c .bool) 98 (.map (some v.lp)) (.pointer (wZ e)) w Q:=
 zx (kn:=Jy) gj Wv (z:=false) Nh h.lostMap e.a (h.Hc ok) (h.Df he).1.Ra hQ
end
def eo(c:lH):Bool->List (List dA)->List gA×lH×Bool
 |lo,[]=>([],c,lo)
 |true,_::_=>([],c,true)
 |false,b::r=>((c.push b).1++(eo (c.push b).2.1 ((c.push b).2.2 !=0) r).1,(eo (c.push b).2.1 ((c.push b).2.2 !=0) r).2)
def BOk(m:lO)(b:List dA):Prop:=uO m->b=uF m
theorem ui:∀l:List lO,F2 BOk l (l.map uF)
 | []=>.nil
 |m::l=>.cons (λ_=>rfl) (ui l)
def iQ.UO(v:iQ)(p:Nat)(c:lH)(lf:Nat->Option Jy.T)(ln:Nat):iQ:={v with ch:=λq=>if q=p then c else v.ch q,lf:=lf,ln:=ln}
theorem jx{v:iQ}{p:Nat}{c c':lH}{lf:Nat->Option Jy.T}{ln:Nat}:(v.UO p c lf ln).oQ p c'=v.UO p c' lf ln:=by
 unfold iQ.oQ iQ.UO;simp only[iQ.mk.injEq,true_and,and_true]
 funext q
 by_cases hq:q=p<;>simp[hq]
theorem zi{v:iQ}{p:Nat}:v.UO p (v.ch p) v.lf v.ln=v:=by
 unfold iQ.UO;have:(λq=>if q=p then v.ch p else v.ch q)=v.ch:=by
  funext q
  by_cases hq:q=p<;>simp[hq]
 rw[this]
theorem sf{G:Gr}{B:Int}{v:iQ}(ok:v.Ok G B){e:dG}(he:e∈v.t.aT){c:lH}{lf:Nat->Option Jy.T}{ln k:Nat}(hc:c.Ok)(hs:dw (v.ch e.aL) c k)(hlf:∀y,y≠e.a->lf y=v.lf y):(v.UO e.aL c lf ln).Ok G B:=by
 refine⟨ok.cQ,ok.dO,ok.u,ok.t,ok.eQ,λf hf=>?_,ok.yN,ok.Df,λy hy=>?_⟩
 ·show(if f.aL=e.aL then c else v.ch f.aL).Ok/\(if f.aL=e.aL then c else v.ch f.aL).aP=f.aP/\(if f.aL=e.aL then c else v.ch f.aL).s.cO=v.cQ.cO/\(if f.aL=e.aL then c else v.ch f.aL).dl<=B
  by_cases hp:f.aL=e.aL
  ·rw[if_pos hp]
   have:=ok.ch e he;rw[ok.t.inj hf he hp];exact⟨hc,hs.aP.trans this.2.1,hs.cO.trans this.2.2.1,by rw[hs.dl];exact this.2.2.2⟩
  ·rw[if_neg hp];exact ok.ch f hf
 ·by_cases hya:y=e.a
  ·exact .inl ⟨e,he,hya.symm⟩
  ·refine ok.lost y ?_
   have:lf y=v.lf y:=hlf y hya;rw[<-this];exact hy
def xV(v:iQ)(e:dG)(l:List lO)(v':iQ)(ps:List Pk):Prop:=∃bs gs c' lo lf ln,v'=v.UO e.aL c' lf ln/\F2 BOk l bs/\eo (v.ch e.aL) ((v.lf e.a).getD (false:Bool)) bs=(gs,c',lo)/\F2 (du e.aL) gs ps/\dw (v.ch e.aL) c' gs.length/\(∀y,y≠e.a->lf y=v.lf y)/\(lf e.a).getD (false:Bool)=lo
theorem say_i{G:Gr}{B:Int}{w:aH}{S P:BS}{ee a:Nat}{v:iQ}{e:dG}{ms:Sl}{l:List lO}{Q:Sl->aH->Prop}(h:kX ee a v w S)(ok:v.Ok G B)(he:e∈v.t.aT)(hm:fL w P ms l)(hP:∀k,P k->¬S k)(hl:l.length<=10)
  (hQ:∀r ps v' w' S',kX ee a v' w' S'->Up S S' w w'->rD w.heap.size S' w' r ps->v'.Ok G B->xV v e l v' ps->Q r w'):
  sH (some ⟨a,0,none⟩) (wZ e) ms w Q:=by
 unfold sH;have hml:=hm.len;have Ub:=sR.ML ok.t he;have hok0:=ok.ch e he;refine bO (λn t w3=>∃(i:Nat) (r:Sl) (ps:List Pk) (gs:List gA) (bs:List (List dA)) (c:lH) (lo:Bool) (lf:Nat->Option Jy.T) (ln:Nat) (S3:BS),i<=l.length/\n=l.length-i/\t=(r,(i:Int),())/\kX ee a (v.UO e.aL c lf ln) w3 S3/\Up S S3 w w3/\rD w.heap.size S3 w3 r ps/\F2 (du e.aL) gs ps/\F2 BOk (l.take i) bs/\(∀Ms,eo (v.ch e.aL) ((v.lf e.a).getD false) (bs++Ms)=(gs++(eo c lo Ms).1,(eo c lo Ms).2))/\c.Ok/\dw (v.ch e.aL) c gs.length/\(∀y,y≠e.a->lf y=v.lf y)/\(lf e.a).getD false=lo/\fL w3 (λk=>¬S3 k/\k<w.heap.size) ms l) l.length
  ⟨0,bD,[],[],[],v.ch e.aL,(v.lf e.a).getD false,v.lf,v.ln,S,iG _,rfl,rfl,by rw[zi];exact h,Up.refl _ _,eJ.nil,.nil,.nil,λMs=>rfl,hok0.1,dw.refl _,λ_ _=>rfl,rfl,hm.wk λk hk cJ=>⟨hP k hk,cJ⟩⟩ ?_
 rintro n t w3 ⟨i,r,ps,gs,bs,c,lo,lf,ln,S3,hi,rfl,rfl,h3,u3,v3,f3,b3,hsay,IL,Tz,hlf,YD,m3⟩ X hX;have Kr:=sf ok he (ln:=ln) IL Tz hlf;have dR:∀Ms w4 S4,kX ee a (v.UO e.aL c lf ln) w4 S4->Up S3 S4 w3 w4->F2 BOk (l.drop i) Ms->eo c lo Ms=([],c,lo)->Q r w4:=λMs w4 S4 h4 u4 hb vV=>by
  refine hQ r ps _ w4 S4 h4 (u3.tr u4) (v3.up u4) Kr ⟨bs++Ms,gs,c,lo,lf,ln,rfl,?_,?_,f3,Tz,hlf,YD⟩
  ·have:=b3.app hb
   rwa[Cd] at this
  ·rw[hsay,vV];simp
 dsimp only;refine aJ (λcJ=>?_) (λkT=>?_)
 ·have dJ:i<l.length:=aB
  have cV:=gS dJ;have hdr:=List.drop_eq_getElem_cons dJ;have rV:=FQ dJ;generalize l[i]=m at*;obtain⟨q,sl,hq,hx,hh,_⟩:=m3.get cV;rw[kE,qA i aB];refine⟨⟨aB,cJ⟩,aA hq (bJ (l:=bf) (FX (m,sl)) hh ?_)⟩;refine fE (zs:=tC (⟨0,0,0,[],0,ME⟩,bD)) (vs:=tC (m,sl)) CA rfl (VE _) λw4 o4 k4 z4=>?_;have h4:=bF.kp h3 k4;refine aA rfl (aE (k:=.map) (some v.lp) (h4.cell rfl) ?_);refine h4.Ge Kr he ?_;have hlo':((v.UO e.aL c lf ln).lf e.a).getD false=lo:=YD;rw[hlo'];refine aF (λhl=>?_) (λhl=>?_)
  ·refine dR ((l.drop i).map uF) w4 S3 h4 (Up.aN k4) (ui _) ?_
   rw[hdr,hl];rfl
  ·refine bJ (l:=bf) (FX (m,sl)) (o4.holds λj v hj=>by rw[pN];exact hj) ?_
   refine Enc_i (hx.rd.aK k4 cR λ_ _=>id) (λb hb=>mD (hx.Ud b hb).2 k4.size) (by have h51:m.cH.length<=51:=hx.len;show m.cH.length<=_;omega) λsb out eb w5 k5 Cz f5 l5 g5=>?_;have hx51:m.cH.length<=51:=hx.len;have K5:=k4.tr (k5.tr (bN w5));have h5:=bF.kp h3 K5;refine aA rfl (aE (k:=.ptr) (some ⟨e.cp,0,none⟩) (h5.UY he rfl) (aA rfl (aE (k:=.i) v.dO (h5.cell rfl) ?_)));obtain⟨S6,h6,_,xU⟩:=h5.Vq Ub;have ech:(v.UO e.aL c lf ln).ch e.aL=c:=by show(if e.aL=e.aL then c else _)=c;rw[if_pos rfl]
   rw[ech] at h6;refine vf h6 IL (Cz.1.aK (bN w5) fI λ_ _=>id) aB λrg w7 S7 h7 u7 cy=>?_;obtain⟨S8,h8,u8⟩:=xU _ _ w7 S7 u7 h7;have pf:=Ia IL (b:=out) aB;rw[jx] at h8;obtain⟨S9,h9,u9,g9⟩:=VQ h8;have cs9:dw (v.ch e.aL) (c.push out).2.1 (gs.length+(c.push out).1.length):=Tz.tr pf.1;have ok9:=sf ok he (ln:=ln) cy cs9 hlf;refine aA rfl (aE (k:=.map) (some v.lp) (h9.cell rfl) ?_);refine h9.mark ok9 he _ λeE XZ Bx Br=>?_;have U12:Up S3 XZ w3 eE:=(((Up.aN K5).tr u8).tr u9).tr Br;have h12':kX ee a (v.UO e.aL (c.push out).2.1 (λy=>if y=e.a then some ((c.push out).2.2 !=(0:Int)) else lf y) (if(lf e.a).isSome then ln else ln+1)) eE XZ:=Bx
   have g12:=g9.up QO Br;refine aA rfl (aE (k:=.i) (e.aL:Int) (h12'.UY he rfl) ?_);have l64:(c.push out).1.length<=1000:=by
    have h1:=pf.1.n;have h2:=cy.s.yR;have XV:=cy.s.cO;omega
   refine AL g12 l64 (λg hg=>by have:=pf.2 g hg;omega) λrp pps gO wc v13 f13=>?_;have cj:=bF.kp h12' wc;have v13':rD eE.heap.size XZ gO rp pps:=v13.sub λk hk=>bF.gH h12' k hk;have v3':=(v3.up U12).kp wc;have fl:=f3.len;have fl2:=f13.len;have n64:gs.length+(c.push out).1.length<=16:=by
    have h1:=cs9.n;have h2:=cy.s.yR;have XV:=cy.s.cO;omega
   have bd:=bF.gH cj;have zz:w.heap.size<=eE.heap.size:=iF u3.size U12.size;refine eJ.app jS MD MA aB v3' v13' zz (λb hb=>(v3.up U12).lt hb) aB (iF zz wc.size) bd λr' mC v14 YB=>?_;have U14:Up S XZ w mC:=Up.iH ((u3.tr U12).tr (Up.aN wc)) YB;have h14:=bF.ov cj YB;have z3:=u3.size;have yf:fL eE (λk=>¬XZ k/\k<w.heap.size) ms l:=(m3.aK U12.m λk hk=>hk.1).wk λk hk _=>⟨λhs=>(U12.s k hs).elim hk.1 λhh=>by have:=hk.2;omega,hk.2⟩;refine hX _ _ _ aB ⟨i+1,r',ps++pps,gs++(c.push out).1,bs++[out],(c.push out).2.1,((c.push out).2.2 !=(0:Int)),_,_,XZ,dJ,rfl,rfl,h14,U14,v14,f3.app f13,by rw[rV];exact b3.app (.one λhw=>(g5 hw).1),λMs=>?_,cy,by rw[mL];exact cs9,λy hy=>?_,?_,(yf.aN wc).aK YB λk hk hn=>?_⟩
   ·have h0:=hsay (out::Ms)
    rw[sD,List.singleton_append,h0,hl];show(gs++((c.push out).1++_),_)=_;rw[sD];rfl
   ·show(if y=e.a then _ else lf y)=_
    rw[if_neg hy];exact hlf y hy
   ·show(if e.a=e.a then _ else lf e.a).getD false=_
    rw[if_pos rfl];rfl
   ·have:=hk.2;have:=hn.1;omega
 ·have ei:i=l.length:=aB
  subst ei;refine dR [] w3 S3 h3 (Up.refl _ _) (by rw[List.drop_length];exact .nil) ?_;cases lo<;>rfl
def zJ(ee:Nat)(v:iQ)(p:Nat):As:=match v.t.at p with
 |some e=>uI ee e.sp (v.yN p)
 |none=>DK
instance zJ.loc{ee:Nat}{v:iQ}(p:Nat):bF (zJ ee v p):=by unfold zJ;split<;>infer_instance
def CZ(ee:Nat)(v:iQ):As:=gE (zJ ee v)
instance{ee:Nat}{v:iQ}:bF (CZ ee v):=by unfold CZ;infer_instance
def gC(ee a:Nat)(v:iQ):As:=aZ (kX ee a v) (CZ ee v)
instance{ee a:Nat}{v:iQ}:bF (gC ee a v):=by unfold gC;infer_instance
theorem CZ.put{w:aH}{S:BS}{ee:Nat}{v:iQ}(h:CZ ee v w S){e:dG}{p:Nat}(he:v.t.at p=some e):∃S1,uI ee e.sp (v.yN p) w S1/\(∀k,S1 k->S k)/\∀c w' T,Up S1 T w w'->uI ee e.sp c w' T->∃S',CZ ee (v.uY p c) w' S'/\Up S S' w w':=by
 have h1:=(gE.at h p).put;have e1:zJ ee v p=uI ee e.sp (v.yN p):=by unfold zJ;rw[he]
 rw[e1] at h1;obtain⟨S1,h1,hs,dN⟩:=h1;refine⟨S1,h1,hs,λc w' T u hT=>?_⟩;obtain⟨S',h',u'⟩:=dN _ w' T u hT;refine⟨S',?_,u'⟩;have e2:ES (zJ ee v) p (uI ee e.sp c)=zJ ee (v.uY p c):=by
  funext q
  show(if q=p then uI ee e.sp c else zJ ee v q)=(match v.t.at q with|some e=>uI ee e.sp (if q=p then c else v.yN q)|none=>DK)
  by_cases hq:q=p
  ·subst hq;rw[if_pos rfl,he,if_pos rfl]
  ·rw[if_neg hq,if_neg hq];rfl
 unfold CZ;rw[<-e2];exact h'
end
section
structure qL(v v':iQ):Prop where
 cQ:v'.cQ=v.cQ
 sp:v'.sp=v.sp
 tp:v'.tp=v.tp
 lp:v'.lp=v.lp
 dO:v'.dO=v.dO
 u:v'.u=v.u
 t:v'.t=v.t
 gv:v'.gv=v.gv
theorem qL.refl(v:iQ):qL v v:=⟨rfl,rfl,rfl,rfl,rfl,rfl,rfl,rfl⟩
theorem qL.tr{v v' v'':iQ}(h:qL v v')(h':qL v' v''):qL v v'':=⟨h'.1.trans h.1,h'.2.trans h.2,h'.3.trans h.3,h'.4.trans h.4,h'.5.trans h.5,h'.6.trans h.6,h'.7.trans h.7,h'.8.trans h.8⟩
theorem xV.same{v v':iQ}{e:dG}{l:List lO}{ps:List Pk}(h:xV v e l v' ps):qL v v':=by
 obtain⟨bs,gs,c',lo,lf,ln,rfl,_⟩:=h;exact⟨rfl,rfl,rfl,rfl,rfl,rfl,rfl,rfl⟩
def PkOk(v:iQ)(p:Pk):Prop:=p.2.length<=3000/\∃e∈v.t.aT,p.1=(e.aL:Int)
theorem xV.vv{v v':iQ}{e:dG}{l:List lO}{ps:List Pk}(he:e∈v.t.aT)(h:xV v e l v' ps):∀p∈ps,PkOk v p:=by
 obtain⟨bs,gs,c',lo,lf,ln,rfl,_,_,h4,_⟩:=h;intro p hp;obtain⟨g,_,h1,h2⟩:=h4.mem hp;exact⟨h2.1,e,he,h1⟩
theorem xV.YF{G:Gr}{B:Int}{v v':iQ}{e:dG}{l:List lO}{ps:List Pk}(he:e∈v.t.aT)(h:xV v e l v' ps)(ok:v'.Ok G B):ps.length+(v.ch e.aL).s.n=(v'.ch e.aL).s.n/\(v'.ch e.aL).s.n<=v.cQ.cO:=by
 have hs:=h.same;obtain⟨bs,gs,c',lo,lf,ln,rfl,_,_,h4,h5,_⟩:=h;have:=ok.ch e he;have h6:=this.1.s.yR;rw[this.2.2.1] at h6;have h7:=h5.n;rw[h4.len] at h7;have e1:(v.UO e.aL c' lf ln).ch e.aL=c':=by show(if e.aL=e.aL then c' else _)=c';rw[if_pos rfl]
 rw[e1] at h6 ⊢;exact⟨h7,h6⟩
theorem Gx{α:Type}{n lo:Nat}{aY:α->List Value}{xs:List α}{s:Sl}{S S':BS}{w w' Cy:aH}(gF:∀x,aY x≠[])(hr:Rd w s n aY xs)(ho:AY s S w)(cJ:∀b,s.b=some b->b.block<lo)(u:Up S S' w w')(m:aW (λk=>lo<=k/\¬S' k) w' Cy):Rd Cy s n aY xs/\AY s S' Cy:=
 ⟨(ho.rd u hr gF).aK m gF λb hb hk=>by have:=cJ b hb;have:=hk.1;omega,λb hb=>⟨(ho.up u b hb).1,mD (ho.up u b hb).2 m.size⟩⟩
section
variable{W0 w:aH}{S:BS}{a:Nat}{v:iQ}{E:uL}{G:Gr}{B:Int}
theorem gC.sesSay(h:gC E.e a v w S)(hb:Bs W0 E G S w)(ok:v.Ok G B){e:dG}(he:e∈v.t.aT):∃S1,uI E.e e.sp (v.yN e.aL) w S1/\(∀k,S1 k->S k)/\∀(z:LJ×List lO) w' T ms,Up S1 T w w'->uI E.e e.sp z.1 w' T->UF G z.1->fL w' (λk=>w.heap.size<=k) ms z.2->z.2.length<=10->
  ∀(K:WQ Sl),(∀r ps v' w2 S',xV (v.uY e.aL z.1) e z.2 v' ps->gC E.e a v' w2 S'->Up S S' w w2->rD w.heap.size S' w2 r ps->v'.Ok G B->K r w2)->sH (some ⟨a,0,none⟩) (wZ e) ms w' K:=by
 obtain⟨SC,SS,hC,hS,d,e1⟩:=h;obtain⟨S1,h1,tO,Wg⟩:=CZ.put hS (sR.ML ok.t he);refine⟨S1,h1,λk hk=>(e1 k).2 (.inr (tO k hk)),λz w' T ms u hT okz hm hl K hK=>?_⟩;obtain⟨SS',hS',uS⟩:=Wg z.1 w' T u hT;have hC':kX E.e a (v.uY e.aL z.1) w' SC:=bF.aK hC uS.m λk hk lD=>d k hk lD;have Pm:(v.uY e.aL z.1).Ok G B:=⟨ok.cQ,ok.dO,ok.u,ok.t,ok.eQ,ok.ch,λf hf=>by
  show UF G (if f.aL=e.aL then z.1 else v.yN f.aL)
  split
  ·exact okz
  ·exact ok.yN f hf,ok.Df,ok.lost⟩
 have bC:=bF.gH hC;have bS':=bF.gH hS';have zz:=uS.size;refine say_i (e:=e) hC' Pm he hm (λk hk hc=>by have:=bC k hc;omega) hl λr ps v' w2 SC2 h2 u2 v2 cz hsd=>?_;have hse:=hsd;obtain⟨bs,gs,c',lo,lf,ln,rfl,_⟩:=hse;have dd:∀k,SC k->SS' k->False:=λk hc hs=>(uS.s k hs).elim (λh=>d k hc h) λh=>by have:=bC k hc;omega
 have hS2:CZ E.e ((v.uY e.aL z.1).UO e.aL c' lf ln) w2 SS':=bF.aK (A:=CZ E.e (v.uY e.aL z.1)) hS' u2.m λk hk lD=>dd k lD hk;have dd2:∀k,SC2 k->SS' k->False:=λk hc hs=>(u2.s k hc).elim (λh=>dd k h hs) λh=>by have:=bS' k hs;omega
 refine hK r ps _ w2 (λk=>SC2 k\/SS' k) hsd (aZ.vR h2 hS2 dd2) ⟨?_,?_⟩ ((v2.cov λk hk=>hk.imp id λh=>bS' k h).qF zz) cz
 ·exact(uS.m.mono λk _ hk=>(e1 k).2 (.inr hk)).trans u2.m λk hk hc=>(e1 k).2 (.inl hc)
 ·rintro k (hk|hk)
  ·exact(u2.s k hk).imp (λh=>(e1 k).2 (.inl h)) λh=>aB
  ·exact(uS.s k hk).imp (λh=>(e1 k).2 (.inr h)) id
theorem gC.sF(h:gC E.e a v w S):∃SC,kX E.e a v w SC/\∀k,SC k->S k:=by
 obtain⟨SC,SS,hC,hS,d,e1⟩:=h;exact⟨SC,hC,λk hk=>(e1 k).2 (.inl hk)⟩
theorem gC.cell(h:gC E.e a v w S){k:Nat}{x:Value}(hk:(UZ E.e v)[k]? =some x):w.cell? ((⟨a,0,none⟩:Addr).add k)=some x:=by
 obtain⟨SC,hC,_⟩:=h.sF;exact hC.cell hk
theorem gC.UY(h:gC E.e a v w S){e:dG}(he:e∈v.t.aT){k:Nat}{x:Value}(hk:(Ve e)[k]? =some x):w.cell? ((⟨e.a,0,none⟩:Addr).add k)=some x:=by
 obtain⟨SC,hC,_⟩:=h.sF;exact hC.UY he hk
theorem gC.Eg(h:gC E.e a v w S):∃S1,CY v.tp v.t w S1/\∀k,S1 k->S k:=by
 obtain⟨SC,hC,hs⟩:=h.sF;obtain⟨S1,h1,h2⟩:=hC.Eg;exact⟨S1,h1,λk hk=>hs k (h2 k hk)⟩
theorem gC.sset(h:gC E.e a v w S):∃S1,tG v.sp v.u w S1/\∀k,S1 k->S k:=by
 obtain⟨SC,hC,hs⟩:=h.sF;obtain⟨S1,h1,h2⟩:=gE.get hC .set;exact⟨S1,h1,λk hk=>hs k (h2 k hk)⟩
theorem ZJ{CU op:Sl}{sh opl:List Int}{Q:Sl->aH->Prop}(h:gC E.e a v w S)(hb:Bs W0 E G S w)(ok:v.Ok G B)(hsh:Rd w CU 1 eI sh)(hso:AY CU S w)(El:Rd w op 1 eI opl)(hoo:AY op S w)(hl:sh.length<=1000/\opl.length<=1000)
  (hQ:∀r ps v' w' S',gC E.e a v' w' S'->Up S S' w w'->rD w.heap.size S' w' r ps->v'.Ok G B->qL v v'->ps.length<=v.t.aT.length*v.cQ.cO->(∀p∈ps,PkOk v p)->((sh=[]/\opl=[])\/v.t.aT=[]->v'=v/\ps=[])->Q r w'):rM (some ⟨a,0,none⟩) CU op w Q:=by
 unfold rM;have lsh:=hsh.len;have lop:=El.len;rw[gM aB aB];refine aF (λh0=>?_) (λh0=>?_)
 ·exact hQ _ [] v w S h (Up.refl _ _) eJ.nil ok (qL.refl v) (iG _) (λp hp=>by cases hp) λ_=>⟨rfl,rfl⟩
 have gF:¬(sh=[]/\opl=[]):=λhh=>by rw[lsh,lop,hh.1,hh.2] at h0;simp at h0
 refine aA rfl (aE (k:=.ptr) (some ⟨v.tp,0,none⟩) (h.cell rfl) ?_);obtain⟨S1,hT,bz⟩:=h.Eg;refine Gj hT ok.t λs1 w1 v1 k1 f1=>?_;have bd:=bF.gH h;have sl:=v1.len;rw[oL] at sl;have CV:=ok.cQ.cO;have o1:AY s1 S w1:=λb bW=>⟨λhk=>by have:=bd _ hk;have:=f1 b bW;omega,v1.lt bW⟩;have olen:=ok.t.len;have pw:=ok.t.eQ;refine bO (λn t w3=>∃(i:Nat) (r:Sl) (ps:List Pk) (v3:iQ) (S3:BS),i<=v.t.aT.length/\n=v.t.aT.length-i/\t=(r,(i:Int),())/\gC E.e a v3 w3 S3/\Up S S3 w w3/\rD w1.heap.size S3 w3 r ps/\v3.Ok G B/\qL v v3/\ps.length<=i*v.cQ.cO/\(∀p∈ps,PkOk v p)/\(v.t.aT=[]->v3=v/\ps=[])/\Rd w3 s1 1 Lb (v.t.aT.map wZ)/\AY s1 S3 w3/\Rd w3 CU 1 eI sh/\AY CU S3 w3/\Rd w3 op 1 eI opl/\AY op S3 w3/\w1.heap.size<=w3.heap.size) v.t.aT.length
  ⟨0,bD,[],v,S,iG _,rfl,rfl,bF.kp h k1,Up.aN k1,eJ.nil,ok,qL.refl v,iG _,λp hp=>(by cases hp),λ_=>⟨rfl,rfl⟩,v1.rd GL,o1,hsh.aK k1 cR λ_ _=>id,hso.kp k1,El.aK k1 cR λ_ _=>id,hoo.kp k1,iT _⟩ ?_
 rintro n t w3 ⟨i,r,ps,v3,S3,hi,rfl,rfl,h3,u3,r3,Kr,st3,hpl,hpk,hemp,rd3,os3,rsh,osh,rop,oop,zz3⟩ X hX;dsimp only;refine aJ (λcJ=>?_) (λkT=>?_)
 ·have dJ:i<v.t.aT.length:=aB
  have cV:=gS dJ;have fP:=nE dJ;generalize v.t.aT[i]=e at*;have Wb:e∈v3.t.aT:=by rw[st3.t];exact fP
  obtain⟨q,hq,cq⟩:=cF (k:=.ptr) (e:=λx=>x) rd3 (show(v.t.aT.map wZ)[i]? =some (wZ e) by rw[mG,cV];rfl);rw[kE,qA i aB];have hd:=bF.dr h3;refine⟨⟨aB,cJ⟩,aA hq (aE (k:=.ptr) (wZ e) cq (aA rfl (aE (k:=.ptr) (some ⟨e.sp,0,none⟩) (hd.UY Wb rfl) (aA rfl (aE (k:=.ptr) (some ⟨v3.sp,0,none⟩) (hd.cell rfl) ?_)))))⟩;obtain⟨S4,FZ,_⟩:=hd.sset;refine Se FZ Kr.u.2 λmk w4 v4 k4 f4=>?_;have K4:=(bN w3).tr k4;have h4:=bF.kp h3 K4;refine⟨h4.UY Wb rfl,?_⟩;have hb4:=(hb.up u3).kp K4;obtain⟨S5,h5,hs5,say5⟩:=h4.sesSay hb4 Kr Wb;have z4:=K4.size;have w3d:w3.drew.heap.size=w3.heap.size:=rfl;refine SChg_i (hb4.sub hs5) h5 (Kr.yN e Wb) (rsh.aK K4 cR λ_ _=>id) aB (rop.aK K4 cR λ_ _=>id) (v4.rd Uw) λz ms w5 T hz hT uT okz hm Ul=>?_;refine say5 z w5 T ms uT hT okz hm aB _ λrs pps v6 w6 S6 hsd h6 u6 r6 Ts=>?_;have U6:Up S3 S6 w3 w6:=(Up.aN K4).tr u6;have UH:qL v v6:=st3.tr ((⟨rfl,rfl,rfl,rfl,rfl,rfl,rfl,rfl⟩:qL v3 (v3.uY e.aL z.1)).tr hsd.same);have hmem3':e∈(v3.uY e.aL z.1).t.aT:=Wb;have yg:=hsd.YF hmem3' Ts;have hcw:(v6.ch e.aL).s.n<=v.cQ.cO:=by have:=yg.2;rw[show(v3.uY e.aL z.1).cQ=v.cQ from st3.cQ] at this;exact this
  have r3':=r3.up U6;have bd6:=bF.gH h6;have z3:=u3.size;have im:i*v.cQ.cO<=16*16:=EX aB CV.2;refine eJ.app jS MD MA aB r3' r6 aB (λb bW=>mD (r3.lt bW) z4) aB (by have:=u6.size;omega) bd6 λr' w7 v7 m7=>?_;have U7:Up S S6 w w7:=Up.iH (u3.tr U6) (m7.mono λk _ hk=>⟨iF k1.size hk.1,hk.2⟩);have h7:=bF.ov h6 m7;obtain⟨x1,x2⟩:=Gx FF rd3 os3 (λb bW=>v1.lt bW) U6 m7;obtain⟨x3,x4⟩:=Gx cR rsh osh (λb bW=>mD (hso b bW).2 k1.size) U6 m7;obtain⟨x5,x6⟩:=Gx cR rop oop (λb bW=>mD (hoo b bW).2 k1.size) U6 m7;refine hX _ _ _ aB ⟨i+1,r',ps++pps,v6,S6,dJ,rfl,rfl,h7,U7,v7,Ts,UH,?_,λp hp=>?_,λh0=>(by rw[h0] at fP;cases fP),x1,x2,x3,x4,x5,x6,?_⟩
  ·rw[mL,Nat.add_mul,Nat.one_mul];omega
  ·rcases jK.1 hp with hp|hp
   ·exact hpk p hp
   ·obtain⟨h1,f,hf,h2⟩:=hsd.vv hmem3' p hp
    exact⟨h1,f,by rw[<-st3.t];exact hf,h2⟩
  ·have:=u6.size;have:=m7.size;omega
 ·have ei:i=v.t.aT.length:=aB
  subst ei;exact hQ r ps v3 w3 S3 h3 u3 (r3.qF k1.size) Kr st3 hpl hpk λhh=>hh.elim (λhh=>absurd hh gF) hemp
theorem gC.ic(h:gC E.e a v w S):∃S1,tG v.sp v.u w S1/\(∀k,S1 k->S k)/\∀u' D w' T,Up S1 T w w'->aZ (tG v.sp u') D w' T->∃S',aZ (gC E.e a {v with u:=u'}) D w' S'/\Up S S' w w':=by
 obtain⟨S1,h1,hs,dN⟩:=(aZ.l h).c λT hT=>gE.at hT .set;refine⟨S1,h1,hs,λu' D w' T u hT=>?_⟩;obtain⟨S',h',u2⟩:=dN _ D w' T u hT;refine⟨S',h'.mono (λ_ h=>h.mono (λS h=>?_) λ_ h=>h) λ_ h=>h,u2⟩;have e:ES (QF E.e a v) .set (tG v.sp u')=QF E.e a {v with u:=u'}:=by
  funext i
  cases i<;>rfl
 unfold kX;rw[<-e];exact h
def iQ.UN(v:iQ)(u:List Int):iQ:={v with u:=u}
theorem iQ.Ok.UN(ok:v.Ok G B){u:List Int}(hu:u.length=v.u.length):(v.UN u).Ok G B:=⟨ok.cQ,ok.dO,⟨hu.trans ok.u.1,by show u.length<=512;rw[hu];exact ok.u.2⟩,ok.t,ok.eQ,ok.ch,ok.yN,ok.Df,ok.lost⟩
def iQ.YX(v:iQ)(jB wC:Int):List Int:=if 0<=jB/\jB<v.u.length/\1<=wC/\wC<=1048576 then v.u.set jB.toNat (v.dO+wC) else v.u
def iQ.Vs(v:iQ)(jB:Int):List Int:=if 0<=jB/\jB<v.u.length then v.u.set jB.toNat 0 else v.u
structure ChgS(G:Gr)(B:Int)(ee a:Nat)(v v1:iQ)(w:aH)(S:BS)(r:Sl)(ps:List Pk)(v':iQ)(w':aH)(S':BS):Prop where
 Bt:gC ee a v' w' S'
 up:Up S S' w w'
 row:rD w.heap.size S' w' r ps
 ok:v'.Ok G B
 same:qL v1 v'
 len:ps.length<=v.t.aT.length*v.cQ.cO
 vv:∀p∈ps,PkOk v p
 nil:v.t.aT=[]->v'=v1/\ps=[]
theorem Ja{u:List Int}{e:Nat}{t:Int}:(MN u e t).length<=1:=by unfold MN;split<;>simp
theorem uc{e:Addr->Prop}{Q:Int->aH->Prop}(he:zE w E G)(hQ:Q (G.E.length:Int) w):aC (some ⟨E.e,0,none⟩:cL) λa2=>xL .ptr w (a2.add 0) λ(p2:cL)=>aC p2 λa3=>xL .ptr w (a3.add 0) λ(p3:cL)=>gJ p3 w Q:=
 aA rfl (aE (k:=.ptr) (some ⟨E.t.t,0,none⟩) he.cells.1 (aA rfl (aE (k:=.ptr) (some ⟨E.t.H.g,0,none⟩) he.RJ.cells.1 (sT he.RJ.IJ hQ))))
theorem VClose_i{jB wC:Int}{Q:Sl->Int->aH->Prop}(h:gC E.e a v w S)(hb:Bs W0 E G S w)(ok:v.Ok G B)
  (hQ:∀r ps er v' w' S',ChgS G B E.e a v (v.UN (v.YX jB wC)) w S r ps v' w' S'->Q r er w'):JT (some ⟨a,0,none⟩) jB wC w Q:=by
 unfold JT;have no:∀wx,aM w wx->¬(0<=jB/\jB<v.u.length/\1<=wC/\wC<=1048576)->Q bD 1 wx:=λwx k hn=>by
  have e:v.YX jB wC=v.u:=by unfold iQ.YX;rw[if_neg hn]
  exact hQ _ [] _ v wx S ⟨bF.kp h k,Up.aN k,eJ.nil,ok,by rw[e];exact qL.refl v,iG _,λp hp=>(by cases hp),λ_=>⟨by rw[e];rfl,rfl⟩⟩
 have k0:aM w w:=aW.refl _ _;refine aF (λh=>by simp at h) (λ_=>aJ (λh0=>no w k0 λhh=>aB) (λh0=>?_));refine aA rfl (aE (k:=.ptr) (some ⟨E.e,0,none⟩) (h.cell rfl) (uc (e:=λ_=>True) hb.e ?_));rw[<-ok.u.1];refine aJ (λh1=>no w k0 λhh=>aB) (λh1=>aJ (λh2=>no w k0 λhh=>aB) (λh2=>aJ (λh3=>no w k0 λhh=>aB) (λh3=>?_)));obtain⟨e,rfl⟩:∃e:Nat,jB=(e:Int):=⟨jB.toNat,aB⟩;have heu:e<v.u.length:=aB;have Qd:v.YX (e:Int) wC=v.u.set e (v.dO+wC):=by unfold iQ.YX;rw[if_pos ⟨aB,aB,aB,aB⟩,kE]
 rw[Qd] at hQ;have hd:=bF.dr h;refine aA rfl (aE (k:=.ptr) (some ⟨v.sp,0,none⟩) (hd.cell rfl) (aA rfl (aE (k:=.i) v.dO (hd.cell rfl) ?_)));refine cC (cs:=eI (e:Int)) λw2 b2 k2 z2=>?_;have K2:=(bN w).tr k2;have h2:=bF.kp h K2;refine⟨h2.cell rfl,h2.cell rfl,?_⟩;have RX:=ok.dO;rw[gM aB aB];obtain⟨S3,h3,Bw,VH⟩:=h2.ic;refine SClose_i h3 (iV fH [(e:Int)] b2 rfl dL) heu ⟨aB,aB⟩ λrc w4 S4 h4 u4=>?_;obtain⟨S5,h5,u5⟩:=VH _ _ w4 S4 u4 h4;obtain⟨S6,S7,h6,h7,d67,e67⟩:=h5;have U6:Up S S6 w w4:=((Up.aN K2).tr u5).tr (Up.sub w4 λk hk=>(e67 k).2 (.inl hk));have Ts:(v.UN (v.u.set e (v.dO+wC))).Ok G B:=ok.UN dL;have o7:AY rc S6 w4:=λb bW=>⟨λhk=>d67 _ hk ((h7.2 _).2 ⟨b,bW,rfl⟩),h7.1.lt bW⟩;refine ZJ (v:=v.UN (v.u.set e (v.dO+wC))) h6 (hb.up U6) Ts (h7.1.rd fH) o7 (opl:=[]) (Rd.nil _ _ _) (λb bW=>by cases bW) ⟨by have:=Ja (u:=v.u) (e:=e) (t:=v.dO+wC);omega,by simp⟩ λr ps v' w' S' g1 g2 g3 g4 g5 g6 g7 g8=>?_;exact hQ r ps _ v' w' S' ⟨g1,U6.tr g2,g3.qF U6.size,g4,g5,g6,g7,λhh=>g8 (.inr hh)⟩
theorem VOpen_i{jB:Int}{Q:Sl->Int->aH->Prop}(h:gC E.e a v w S)(hb:Bs W0 E G S w)(ok:v.Ok G B)
  (hQ:∀r ps er v' w' S',ChgS G B E.e a v (v.UN (v.Vs jB)) w S r ps v' w' S'->Q r er w'):PA (some ⟨a,0,none⟩) jB w Q:=by
 unfold PA;have no:∀wx,aM w wx->¬(0<=jB/\jB<v.u.length)->Q bD 1 wx:=λwx k hn=>by
  have e:v.Vs jB=v.u:=by unfold iQ.Vs;rw[if_neg hn]
  exact hQ _ [] _ v wx S ⟨bF.kp h k,Up.aN k,eJ.nil,ok,by rw[e];exact qL.refl v,iG _,λp hp=>(by cases hp),λ_=>⟨by rw[e];rfl,rfl⟩⟩
 have k0:aM w w:=aW.refl _ _;refine aF (λh=>by simp at h) (λ_=>aJ (λh0=>no w k0 λhh=>aB) (λh0=>?_));refine aA rfl (aE (k:=.ptr) (some ⟨E.e,0,none⟩) (h.cell rfl) (uc (e:=λ_=>True) hb.e ?_));rw[<-ok.u.1];refine aJ (λh1=>no w k0 λhh=>aB) (λh1=>?_);obtain⟨e,rfl⟩:∃e:Nat,jB=(e:Int):=⟨jB.toNat,aB⟩;have heu:e<v.u.length:=aB;have Qd:v.Vs (e:Int)=v.u.set e 0:=by unfold iQ.Vs;rw[if_pos ⟨aB,aB⟩,kE]
 rw[Qd] at hQ;refine aA rfl (aE (k:=.ptr) (some ⟨v.sp,0,none⟩) (h.cell rfl) ?_);refine cC (cs:=eI (e:Int)) λw2 b2 k2 z2=>?_;have h2:=bF.kp h k2;obtain⟨S3,h3,Bw,VH⟩:=h2.ic;refine SOpen_i h3 (iV fH [(e:Int)] b2 rfl dL) heu λrc w4 S4 h4 u4=>?_;obtain⟨S5,h5,u5⟩:=VH _ _ w4 S4 u4 h4;obtain⟨S6,S7,h6,h7,d67,e67⟩:=h5;have U6:Up S S6 w w4:=((Up.aN k2).tr u5).tr (Up.sub w4 λk hk=>(e67 k).2 (.inl hk));have Ts:(v.UN (v.u.set e 0)).Ok G B:=ok.UN dL;have o7:AY rc S6 w4:=λb bW=>⟨λhk=>d67 _ hk ((h7.2 _).2 ⟨b,bW,rfl⟩),h7.1.lt bW⟩;refine ZJ (v:=v.UN (v.u.set e 0)) h6 (hb.up U6) Ts (sh:=[]) (Rd.nil _ _ _) (λb bW=>by cases bW) (h7.1.rd fH) o7 ⟨by simp,by have:=Ja (u:=v.u) (e:=e) (t:=0);omega⟩ λr ps v' w' S' g1 g2 g3 g4 g5 g6 g7 g8=>?_;exact hQ r ps _ v' w' S' ⟨g1,U6.tr g2,g3.qF U6.size,g4,g5,g6,g7,λhh=>g8 (.inr hh)⟩
theorem Rh{Q:Int->aH->Prop}(h:gC E.e a v w S)(hQ:Q v.dO w):HB (some ⟨a,0,none⟩) w Q:=by
 unfold HB;exact aF (λh=>by simp at h) (λ_=>aA rfl (aE (k:=.i) v.dO (h.cell rfl) hQ))
theorem uq{Q:Sl->aH->Prop}(h:gC E.e a v w S)(ok:v.Ok G B)(hQ:∀r w',dQ w' cY 1 eI r (v.t.aT.map λe=>(e.aL:Int))->aM w w'->(∀b,r.b=some b->w.heap.size<=b.block)->Q r w'):HK (some ⟨a,0,none⟩) w Q:=by
 unfold HK;obtain⟨S1,hT,_⟩:=h.Eg;refine aF (λh=>by simp at h) (λ_=>aA rfl (aE (k:=.ptr) (some ⟨v.tp,0,none⟩) (h.cell rfl) (Gj hT ok.t λs1 w1 v1 k1 f1=>?_)));have sl:=v1.len;rw[oL] at sl;have olen:=ok.t.len;have pw:=ok.t.eQ;refine bO (λn t w3=>∃(i:Nat) (r:Sl),i<=v.t.aT.length/\n=v.t.aT.length-i/\t=(r,(i:Int),())/\dQ w3 cY 1 eI r ((v.t.aT.take i).map λe=>(e.aL:Int))/\aM w1 w3/\∀b,r.b=some b->w1.heap.size<=b.block) v.t.aT.length
  ⟨0,bD,iG _,rfl,rfl,dQ.nil _ _ _ _,aW.refl _ _,λb hb=>by cases hb⟩ ?_
 rintro n t w3 ⟨i,r,hi,rfl,rfl,v3,k3,f3⟩ X hX;dsimp only;refine aJ (λcJ=>?_) (λkT=>?_)
 ·have dJ:i<v.t.aT.length:=aB
  have cV:=gS dJ;have fP:=nE dJ;have rV:=FQ dJ;generalize v.t.aT[i]=e at*;obtain⟨q,hq,cq⟩:=cF (k:=.ptr) (e:=λx=>x) ((v1.rd GL).aK k3 FF λ_ _=>id) (show(v.t.aT.map wZ)[i]? =some (wZ e) by rw[mG,cV];rfl);rw[kE,qA i aB];refine⟨⟨aB,cJ⟩,aA hq (aE (k:=.ptr) (wZ e) cq (aA rfl (aE (k:=.i) (e.aL:Int) ((bF.kp h (k1.tr k3)).UY fP rfl) ?_)))⟩;refine cC (cs:=eI (e.aL:Int)) λw4 b4 k4 z4=>?_;refine fN iK fH EV (x:=⟨some ⟨w3.heap.size,0,none⟩,1,1⟩) (v3.aK k4 λ_ _=>id) (iV fH [(e.aL:Int)] b4 rfl dL) (by simp;omega) (by simp;omega) λr' w5 v5 m5 hr5 _=>?_;refine hX _ _ _ aB ⟨i+1,r',dJ,rfl,rfl,by rw[rV,yS];exact v5,(k3.tr k4).fresh m5 λk ⟨b,hb,e⟩=>by rw[e];exact f3 b hb,λb hb=>?_⟩;rcases hr5 with h|⟨b',h,h2⟩
  ·exact f3 b (h.symm.trans hb)
  ·rw[hb] at h;cases h;have:=(k3.tr k4).size;omega
 ·have ei:i=v.t.aT.length:=aB
  subst ei;rw[oZ] at v3;exact hQ r w3 v3 (k1.tr k3) λb hb=>by have:=f3 b hb;have:=k1.size;omega
end
end
section
theorem Zd{l:List dG}{p q:Nat}(h:q≠p):(l.filter λf=>!decide (f.aL=p)).find? (λe=>e.aL==q)=l.find? λe=>e.aL==q:=by
 induction l with
 |nil=>rfl
 |cons x l ih=>
  by_cases hx:x.aL=p
  ·rw[List.filter_cons_of_neg (by simp[hx]),ih,List.find?_cons_of_neg (by simp[hx];omega)]
  ·rw[List.filter_cons_of_pos (by simp[hx])]
   by_cases hq:x.aL=q
   ·rw[List.find?_cons_of_pos (by simp[hq]),List.find?_cons_of_pos (by simp[hq])]
   ·rw[List.find?_cons_of_neg (by simp[hq]),List.find?_cons_of_neg (by simp[hq]),ih]
theorem at_drop{t:sR}{p q:Nat}(h:q≠p):(t.drop p).at q=t.at q:=Zd h
theorem XJ{t:sR}{p:Nat}:(t.drop p).at p=none:=by
 cases h:(t.drop p).at p with
 |none=>rfl
 |some e=>
  obtain⟨h1,h2⟩:=sR.at_mem h;have:=(jE.1 h1).2;simp[h2] at this
theorem sR.Rg{t:sR}(ok:t.Ok){p:Nat}{e:dG}:t.at p=some e↔e∈t.aT/\e.aL=p:=⟨sR.at_mem,λ⟨h1,h2⟩=>by rw[<-h2];exact sR.ML ok h1⟩
theorem at_add{t:sR}{e:dG}(ok:t.Ok)(Pm:(t.add e).Ok)(q:Nat):(t.add e).at q=if q=e.aL then some e else t.at q:=by
 apply Option.ext;intro f;rw[sR.Rg Pm];show(f∈Lk e t.aT/\f.aL=q)↔_;rw[oF]
 by_cases hq:q=e.aL
 ·rw[if_pos hq]
  constructor
  ·rintro⟨rfl|⟨_,h⟩,h2⟩
   ·rfl
   ·exact absurd (h2.trans hq) h
  ·intro h;cases h;exact⟨.inl rfl,hq.symm⟩
 ·rw[if_neg hq,sR.Rg ok]
  constructor
  ·rintro⟨rfl|⟨h,_⟩,h2⟩
   ·exact absurd h2.symm hq
   ·exact⟨h,h2⟩
  ·rintro⟨h,h2⟩;exact⟨.inr ⟨h,λh3=>hq (h2.symm.trans h3)⟩,h2⟩
theorem iz:∀{l:List dG} {w:aH} {S:BS},vZ JB l w S->vZ Grv (l.map (·.a)) w S
 | [],_,_,h=>h
 |e::l,_,_,h=>aZ.mono h (λ_ h=>⟨Ve e,h⟩) λ_ h=>iz h
structure Nf(v v':iQ)(p:Nat):Prop where
 cQ:v'.cQ=v.cQ
 sp:v'.sp=v.sp
 tp:v'.tp=v.tp
 lp:v'.lp=v.lp
 dO:v'.dO=v.dO
 u:v'.u=v.u
 lf:v'.lf=v.lf
 ln:v'.ln=v.ln
 ny:∀q,q≠p->v'.t.at q=v.t.at q
 ch:∀q,q≠p->v'.ch q=v.ch q
 yN:∀q,q≠p->v'.yN q=v.yN q
section
variable{w:aH}{S:BS}{ee a:Nat}{v:iQ}
theorem ub{v':iQ}{p:Nat}(x:Nf v v' p):ES (ES (QF ee a v) (.ch p) (QF ee a v' (.ch p))) .Eg (VB v')=QF ee a v':=by
 funext i
 cases i with
 |Bt=>show sB a xA (UZ ee v)=sB a xA (UZ ee v');unfold UZ;rw[x.cQ,x.sp,x.tp,x.lp,x.dO]
 |set=>show tG v.sp v.u=tG v'.sp v'.u;rw[x.sp,x.u]
 |Eg=>rfl
 |lost=>show uJ v.lp yP Jy v.lf v.ln=uJ v'.lp yP Jy v'.lf v'.ln;rw[x.lp,x.lf,x.ln]
 |ch q=>
  show(if SI.ch q=.Eg then VB v' else if SI.ch q=.ch p then QF ee a v' (.ch p) else QF ee a v (.ch q))=_
  rw[if_neg dL]
  by_cases hq:q=p
  ·rw[if_pos (by rw[hq]),hq]
  ·rw[if_neg (by simpa using hq)]
   show(match v.t.at q with|some e=>jQ e.cp (v.ch q)|none=>DK)=(match v'.t.at q with|some e=>jQ e.cp (v'.ch q)|none=>DK)
   rw[x.ny q hq,x.ch q hq]
theorem kX.putTab(h:kX ee a v w S)(p:Nat):∃S1,aZ (QF ee a v (.ch p)) (VB v) w S1/\(∀k,S1 k->S k)/\∀v' D w' T,Nf v v' p->Up S1 T w w'->aZ (aZ (QF ee a v' (.ch p)) (VB v')) D w' T->∃S',aZ (kX ee a v') D w' S'/\Up S S' w w':=by
 obtain⟨S1,h1,hs,dN⟩:=gE.at2 (A:=QF ee a v) (i:=SI.ch p) (j:=SI.Eg) h dL;refine⟨S1,h1,hs,λv' D w' T x u hT=>?_⟩;obtain⟨S',h',u'⟩:=dN _ _ D w' T u hT;exact⟨S',h'.mono (λ_ h=>by unfold kX;rw[<-ub x];exact h) λ_ h=>h,u'⟩
theorem se{v':iQ}{p:Nat}(x:Nf v v' p):ES (zJ ee v) p (zJ ee v' p)=zJ ee v':=by
 funext q
 show(if q=p then zJ ee v' p else zJ ee v q)=_
 by_cases hq:q=p
 ·rw[if_pos hq,hq]
 ·rw[if_neg hq];unfold zJ;rw[x.ny q hq,x.yN q hq]
theorem CZ.putX(h:CZ ee v w S)(p:Nat):∃S1,zJ ee v p w S1/\(∀k,S1 k->S k)/\∀v' w' T,Nf v v' p->Up S1 T w w'->zJ ee v' p w' T->∃S',CZ ee v' w' S'/\Up S S' w w':=by
 obtain⟨S1,h1,hs,dN⟩:=(gE.at h p).put;refine⟨S1,h1,hs,λv' w' T x u hT=>?_⟩;obtain⟨S',h',u'⟩:=dN _ w' T u hT;exact⟨S',by unfold CZ;rw[<-se x];exact h',u'⟩
def iQ.jO(v:iQ)(p:Nat):iQ:={v with t:=v.t.drop p,gv:=(v.t.aT.filter λf=>decide (f.aL=p)).map (·.a)++v.gv}
theorem dropE_ok{G:Gr}{B:Int}(ok:v.Ok G B)(p:Nat):(v.jO p).Ok G B:=
 have sub:∀f∈(v.t.drop p).aT,f∈v.t.aT:=λf hf=>(jE.1 hf).1
 ⟨ok.cQ,ok.dO,ok.u,ok.t.drop p,ok.eQ,λf hf=>ok.ch f (sub f hf),λf hf=>ok.yN f (sub f hf),λf hf=>ok.Df f (sub f hf),λk hk=>by
  rcases ok.lost k hk with⟨f,hf,rfl⟩|h
  ·by_cases hp:f.aL=p
   ·exact .inr (List.mem_append_left _ (lK.2 ⟨f,jE.2 ⟨hf,by simp[hp]⟩,rfl⟩))
   ·exact .inl ⟨f,jE.2 ⟨hf,by simp[hp]⟩,rfl⟩
  ·exact .inr (List.mem_append_right _ h)⟩
theorem Iy(v:iQ)(p:Nat):Nf v (v.jO p) p:=⟨rfl,rfl,rfl,rfl,rfl,rfl,rfl,rfl,λq hq=>at_drop hq,λq _=>rfl,λq _=>rfl⟩
theorem ur{G:Gr}{B:Int}{p:Nat}{QJ:Sl}{Q:Sl->aH->Prop}(h:gC ee a v w S)(ok:v.Ok G B)(hr:Rd w QJ 1 eI [(p:Int)])(ho:AY QJ S w)
  (hQ:∀r w' S',gC ee a (v.jO p) w' S'->Up S S' w w'->(v.jO p).Ok G B->(∀f∈v.t.aT,f.aL=p->cW w' f.a YS (Ve f))->Q r w'):pO (some ⟨v.tp,0,none⟩) QJ w Q:=by
 have bd:=bF.gH h;obtain⟨SC,SS,hC,hS,d,e⟩:=h;obtain⟨S1,h1,tO,Wg⟩:=hC.putTab p;obtain⟨S2,S3,h2,⟨S4,S5,h4,h5,d45,e45⟩,d23,e23⟩:=h1;have inC:∀k,S4 k->SC k:=λk hk=>tO k ((e23 k).2 (.inr ((e45 k).2 (.inl hk))));refine TDrop_i h4 ok.t hr (λb hb=>⟨λhk=>(ho b hb).1 ((e _).2 (.inl (inC _ hk))),(ho b hb).2⟩) λr w' S6 h6 u6=>?_;obtain⟨S7,S8,h7,h8,d78,Km⟩:=h6;have h5':vZ Grv v.gv w' S5:=bF.aK h5 u6.m λk h1 h2=>d45 k h2 h1;have d65:∀k,S6 k->S5 k->False:=u6.ft (λk h1 h2=>d45 k h1 h2) (bF.gH h5);have hT:VB (v.jO p) w' (λk=>S7 k\/(S8 k\/S5 k)):=aZ.vR h7 (VW (aZ.vR (iz h8) h5' λk h1 h2=>d65 k ((Km k).2 (.inr h1)) h2)) λk h1 h2=>h2.elim (d78 k h1) λh=>d65 k ((Km k).2 (.inl h1)) h;have hE:QF ee a (v.jO p) (.ch p)=DK:=by
  show(match (v.t.drop p).at p with|some e=>_|none=>DK)=_
  rw[XJ]
 have hX:aZ (aZ (QF ee a (v.jO p) (.ch p)) (VB (v.jO p))) DK w' (λk=>S7 k\/(S8 k\/S5 k)):=by
  rw[hE];exact aZ.emp ⟨λ_=>False,_,λ_=>id,hT,λ_ h _=>h,λk=>⟨.inr,λh=>h.elim False.elim id⟩⟩
 have UX:Up S1 (λk=>S7 k\/(S8 k\/S5 k)) w w':=⟨u6.m.mono λk _ hk=>(e23 k).2 (.inr ((e45 k).2 (.inl hk))),λk hk=>by
  rcases hk with hk|hk|hk
  ·exact(u6.s k ((Km k).2 (.inl hk))).imp (λh=>(e23 k).2 (.inr ((e45 k).2 (.inl h)))) id
  ·exact(u6.s k ((Km k).2 (.inr hk))).imp (λh=>(e23 k).2 (.inr ((e45 k).2 (.inl h)))) id
  ·exact .inl ((e23 k).2 (.inr ((e45 k).2 (.inr hk))))⟩
 obtain⟨S9,h9,u9⟩:=Wg _ _ w' _ (Iy v p) UX hX;obtain⟨FR,IQ,Ef⟩:=h9.drop;have UC:Up SC FR w w':=u9.tr Ef;have hS':CZ ee v w' SS:=bF.aK hS UC.m λk h1 h2=>d k h2 h1;obtain⟨Mw,Kk,hs11,Gi⟩:=CZ.putX hS' p;have hE2:zJ ee (v.jO p) p w' (λ_=>False):=by
  have:zJ ee (v.jO p) p=DK:=by unfold zJ;rw[show(v.jO p).t.at p=none from XJ]
  rw[this];exactλ_=>id
 obtain⟨XZ,Bx,Br⟩:=Gi (v.jO p) w' _ (Iy v p) (Up.sub w' λk hk=>hk.elim) hE2;have QA:∀k,XZ k->SS k\/w'.heap.size<=k:=Br.s;have b12:=bF.gH Bx;have sub12:∀k,XZ k->SS k:=λk hk=>(QA k hk).resolve_right λh=>by have:=b12 k hk;omega
 refine hQ r w' (λk=>FR k\/XZ k) (aZ.vR IQ Bx λk h1 h2=>?_) ⟨UC.m.mono λk _ hk=>(e k).2 (.inl hk),λk hk=>?_⟩ (dropE_ok ok p) λf hf hfp=>?_
 ·exact(UC.s k h1).elim (λh=>d k h (sub12 k h2)) λh=>by have:=bd k ((e k).2 (.inr (sub12 k h2)));omega
 ·rcases hk with hk|hk
  ·exact(UC.s k hk).imp (λh=>(e k).2 (.inl h)) id
  ·exact .inl ((e k).2 (.inr (sub12 k hk)))
 ·obtain⟨_,cj,_⟩:=vZ.get h8 (x:=f) (jE.2 ⟨hf,by simp[hfp]⟩)
  exact cj.1
def iQ.oP(v:iQ)(e:dG)(c:lH)(z:LJ):iQ:={v with t:=v.t.add e,gv:=(oldE e.aL v.t.aT).map (·.a)++v.gv,ch:=λq=>if q=e.aL then c else v.ch q,yN:=λq=>if q=e.aL then z else v.yN q}
theorem addE_ok{G:Gr}{B:Int}(ok:v.Ok G B){e:dG}{c:lH}{z:LJ}(Pm:(v.t.add e).Ok)(hc:c.Ok/\c.aP=e.aP/\c.s.cO=v.cQ.cO/\c.dl<=B)(hz:UF G z)(he:(1<=e.aP/\e.aP<=2147483648)/\0<=e.kO/\e.kO<=v.dO):(v.oP e c z).Ok G B:=by
 refine⟨ok.cQ,ok.dO,ok.u,Pm,ok.eQ,λf hf=>?_,λf hf=>?_,λf hf=>?_,λk hk=>?_⟩
 ·show(if f.aL=e.aL then c else v.ch f.aL).Ok/\(if f.aL=e.aL then c else v.ch f.aL).aP=f.aP/\(if f.aL=e.aL then c else v.ch f.aL).s.cO=v.cQ.cO/\(if f.aL=e.aL then c else v.ch f.aL).dl<=B
  rcases oF.1 hf with rfl|⟨h1,h2⟩
  ·rw[if_pos rfl];exact hc
  ·rw[if_neg h2];exact ok.ch f h1
 ·show UF G (if f.aL=e.aL then z else v.yN f.aL)
  rcases oF.1 hf with rfl|⟨h1,h2⟩
  ·rw[if_pos rfl];exact hz
  ·rw[if_neg h2];exact ok.yN f h1
 ·rcases oF.1 hf with rfl|⟨h1,_⟩
  ·exact he
  ·exact ok.Df f h1
 ·rcases ok.lost k hk with⟨f,hf,rfl⟩|h
  ·by_cases hp:f.aL=e.aL
   ·exact .inr (List.mem_append_left _ (lK.2 ⟨f,oldE_mem.2 ⟨hf,hp⟩,rfl⟩))
   ·exact .inl ⟨f,oF.2 (.inr ⟨hf,hp⟩),rfl⟩
  ·exact .inr (List.mem_append_right _ h)
theorem VAdd_i{G:Gr}{B:Int}{SC SS SB SH SZ:BS}{e:dG}{c:lH}{z:LJ}{Q:Int->aH->Prop}(hC:kX ee a v w SC)(hS:CZ ee v w SS)(hB:JB e w SB)(hH:jQ e.cp c w SH)(hZ:uI ee e.sp z w SZ)(dC:∀k,SC k->(SS k\/SB k\/SH k\/SZ k)->False)(dS:∀k,SS k->(SB k\/SH k\/SZ k)->False)(dB:∀k,SB k->(SH k\/SZ k)->False)(dH:∀k,SH k->SZ k->False)
  (ok:v.Ok G B) (hp:e.aL<16) (hm:v.t.vS e.aL e.aP=0) (hc:c.Ok/\c.aP=e.aP/\c.s.cO=v.cQ.cO/\c.dl<=B) (hz:UF G z) (he:(1<=e.aP/\e.aP<=2147483648)/\0<=e.kO/\e.kO<=v.dO)
  (hQ:∀w' SA SX,kX ee a (v.oP e c z) w' SA->CZ ee (v.oP e c z) w' SX->(∀k,SA k->SX k->False)->(∀k,SA k->SC k\/SB k\/SH k\/w.heap.size<=k)->(∀k,SX k->SS k\/SZ k)->aW (λk=>SC k\/SB k) w w'->(v.oP e c z).Ok G B->Q 0 w'):ND (some ⟨v.tp,0,none⟩) (wZ e) w Q:=by
 obtain⟨S1,h1,tO,Wg⟩:=gE.at2X (A:=QF ee a v) (i:=SI.ch e.aL) (j:=SI.Eg) hC dL;obtain⟨S2,S3,h2,⟨S4,S5,h4,h5,d45,e45⟩,d23,e23⟩:=h1;have in4:∀k,S4 k->SC k:=λk hk=>tO k ((e23 k).2 (.inr ((e45 k).2 (.inl hk))));have bj:∀k,S5 k->SC k:=λk hk=>tO k ((e23 k).2 (.inr ((e45 k).2 (.inr hk))));have b5:=bF.gH h5;have bC:=bF.gH hC;have bS:=bF.gH hS;have bH:=bF.gH hH;have bZ:=bF.gH hZ;have hTE:aZ (CY v.tp v.t) (JB e) w (λk=>S4 k\/SB k):=aZ.vR h4 hB λk h1 h2=>dC k (in4 k h1) (.inr (.inl h2));refine TAdd_i hTE ok.t hp he.1 hm λw' S6 h6 u6 Ts=>?_;obtain⟨S7,S8,h7,h8,d78,Km⟩:=h6;have n5:∀k,S5 k->¬(S4 k\/SB k):=λk h h'=>h'.elim (λh1=>d45 k h1 h) λh1=>dC k (bj k h) (.inr (.inl h1));have nH:∀k,SH k->¬(S4 k\/SB k):=λk h h'=>h'.elim (λh1=>dC k (in4 k h1) (.inr (.inr (.inl h)))) λh1=>dB k h1 (.inl h);have nZ:∀k,SZ k->¬(S4 k\/SB k):=λk h h'=>h'.elim (λh1=>dC k (in4 k h1) (.inr (.inr (.inr h)))) λh1=>dB k h1 (.inr h);have nS:∀k,SS k->¬(S4 k\/SB k):=λk h h'=>h'.elim (λh1=>dC k (in4 k h1) (.inl h)) λh1=>dS k h (.inl h1);have h5':vZ Grv v.gv w' S5:=bF.aK h5 u6.m n5;have hH':jQ e.cp c w' SH:=bF.aK hH u6.m nH;have hZ':uI ee e.sp z w' SZ:=bF.aK hZ u6.m nZ;have d6:∀(T:BS),(∀k,T k->¬(S4 k\/SB k))->(∀k,T k->k<w.heap.size)->∀k,S6 k->T k->False:=λT hn hb k h1 h2=>(u6.s k h1).elim (hn k h2) λh=>by have:=hb k h2;omega
 have hT:VB (v.oP e c z) w' (λk=>S7 k\/(S8 k\/S5 k)):=aZ.vR h7 (VW (aZ.vR (iz h8) h5' λk h1 h2=>d6 S5 n5 b5 k ((Km k).2 (.inr h1)) h2)) λk h1 h2=>h2.elim (d78 k h1) λh=>d6 S5 n5 b5 k ((Km k).2 (.inl h1)) h;have Ub:(v.t.add e).at e.aL=some e:=by rw[at_add ok.t Ts,if_pos rfl]
 have hE:QF ee a (v.oP e c z) (.ch e.aL)=jQ e.cp c:=by
  show(match (v.t.add e).at e.aL with|some f=>jQ f.cp (if e.aL=e.aL then c else v.ch e.aL)|none=>DK)=_
  rw[Ub,if_pos rfl]
 have x:Nf v (v.oP e c z) e.aL:=⟨rfl,rfl,rfl,rfl,rfl,rfl,rfl,rfl,λq hq=>(at_add ok.t Ts q).trans (if_neg hq),λq hq=>if_neg hq,λq hq=>if_neg hq⟩;have hHT:∀k,SH k->(S7 k\/(S8 k\/S5 k))->False:=λk h1 h2=>by
  rcases h2 with h|h|h
  ·exact d6 SH nH bH k ((Km k).2 (.inl h)) h1
  ·exact d6 SH nH bH k ((Km k).2 (.inr h)) h1
  ·exact dC k (bj k h) (.inr (.inr (.inl h1)))
 have s6:∀k,S6 k->S4 k\/SB k\/w.heap.size<=k:=λk hk=>(u6.s k hk).elim (λh=>h.imp id .inl) λh=>.inr (.inr h);have inS1:∀k,S4 k->S1 k:=λk h=>(e23 k).2 (.inr ((e45 k).2 (.inl h)));have hX:aZ (QF ee a (v.oP e c z) (.ch e.aL)) (VB (v.oP e c z)) w' (λk=>SH k\/(S7 k\/(S8 k\/S5 k))):=by
  rw[hE];exact aZ.vR hH' hT hHT
 have TX:∀k,(SH k\/(S7 k\/(S8 k\/S5 k)))->SC k\/SB k\/SH k\/w.heap.size<=k:=λk hk=>by
  have key:S6 k->SC k\/SB k\/SH k\/w.heap.size<=k:=λh=>by
   rcases s6 k h with h|h|h
   ·exact .inl (in4 k h)
   ·exact .inr (.inl h)
   ·exact .inr (.inr (.inr h))
  rcases hk with hk|hk|hk|hk
  ·exact .inr (.inr (.inl hk))
  ·exact key ((Km k).2 (.inl hk))
  ·exact key ((Km k).2 (.inr hk))
  ·exact .inl (bj k hk)
 obtain⟨SA,hA,eA⟩:=Wg _ _ _ w' _ u6.m (λk hk=>hk.imp (inS1 k) λh hc=>dC k hc (.inr (.inl h))) (λk hk=>by
  have key:S6 k->S1 k\/¬SC k:=λh=>by
   rcases s6 k h with h|h|h
   ·exact .inl (inS1 k h)
   ·exact .inr λhc=>dC k hc (.inr (.inl h))
   ·exact .inr λhc=>by have:=bC k hc;omega
  rcases hk with hk|hk|hk|hk
  ·exact .inr λhc=>dC k hc (.inr (.inr (.inl hk)))
  ·exact key ((Km k).2 (.inl hk))
  ·exact key ((Km k).2 (.inr hk))
  ·exact .inl ((e23 k).2 (.inr ((e45 k).2 (.inr hk))))) hX
 rw[ub x] at hA;have inSA:∀k,SA k->SC k\/SB k\/SH k\/w.heap.size<=k:=λk hk=>((eA k).1 hk).elim (λh=>.inl h.1) (TX k);have hS':CZ ee v w' SS:=bF.aK hS u6.m nS;have hYp:zJ ee (v.oP e c z) e.aL w' SZ:=by
  have:zJ ee (v.oP e c z) e.aL=uI ee e.sp z:=by
   show(match (v.t.add e).at e.aL with|some f=>uI ee f.sp (if e.aL=e.aL then z else v.yN e.aL)|none=>DK)=_
   rw[Ub,if_pos rfl]
  rw[this];exact hZ'
 obtain⟨SX,hSX,eSX⟩:=gE.swap hS' e.aL hYp λk h1 h2=>dS k h1 (.inr (.inr h2));rw[se x] at hSX;refine hQ w' SA SX hA hSX (λk h1 h2=>?_) inSA eSX (u6.m.mono λk _ hk=>hk.imp (in4 k) id) (addE_ok (z:=z) ok Ts hc hz he);rcases eSX k h2 with h|h
 ·rcases inSA k h1 with g|g|g|g
  ·exact dC k g (.inl h)
  ·exact dS k h (.inl g)
  ·exact dS k h (.inr (.inl g))
  ·have:=bS k h;omega
 ·rcases inSA k h1 with g|g|g|g
  ·exact dC k g (.inr (.inr (.inr h)))
  ·exact dB k g (.inr h)
  ·exact dH k g h
  ·have:=bZ k h;omega
end
end
section
structure yW where
 d:Int
 aP:Int
 up:Bool
 msg:lO
abbrev eHd(x:yW×Sl):List Value:=[aD x.1.d,aD x.1.aP,.bool x.1.up,aD x.1.msg.kind,aD x.1.msg.pos,aD x.1.msg.LC,sv x.2,aD x.1.msg.lX,aD x.1.msg.eZ.cls,aD x.1.msg.eZ.jB,aD x.1.msg.eZ.rZ,aD x.1.msg.eZ.left]
theorem qc:∀x:yW×Sl,(eHd x).length=12:=λ_=>rfl
theorem oneHd:∀x:yW×Sl,∀u∈eHd x,u.oneCell'=true:=by intro x u hu;simp at hu;rcases hu with rfl|rfl|rfl|rfl|rfl|rfl|rfl|rfl|rfl|rfl|rfl|rfl<;>rfl
abbrev Qq:=eJ (α:=yW) eI tHeard 12 eHd λh=>h.msg.cH
theorem Gp{G:Gr}{B B':Int}{v:iQ}(ok:v.Ok G B){e:dG}(he:e∈v.t.aT){c:lH}(hc:c.Ok/\c.aP=e.aP/\c.s.cO=v.cQ.cO/\c.dl<=B')(hB:B<=B'):(v.oQ e.aL c).Ok G B':=by
 refine⟨ok.cQ,ok.dO,ok.u,ok.t,ok.eQ,λf hf=>?_,ok.yN,ok.Df,ok.lost⟩;show(if f.aL=e.aL then c else v.ch f.aL).Ok/\(if f.aL=e.aL then c else v.ch f.aL).aP=f.aP/\(if f.aL=e.aL then c else v.ch f.aL).s.cO=v.cQ.cO/\(if f.aL=e.aL then c else v.ch f.aL).dl<=B'
 by_cases hp:f.aL=e.aL
 ·rw[if_pos hp,ok.t.inj hf he hp];exact hc
 ·rw[if_neg hp];have:=ok.ch f hf;exact⟨this.1,this.2.1,this.2.2.1,aB⟩
theorem aZ.drop2{A B C:As}{w:aH}{S:BS}(h:aZ A (aZ B C) w S):∃S',aZ A C w S'/\Up S S' w w:=by
 obtain⟨S1,S2,h1,⟨S3,S4,h3,h4,d34,Un⟩,d,e⟩:=h;exact⟨λk=>S1 k\/S4 k,aZ.vR h1 h4 λk a b=>d k a ((Un k).2 (.inr b)),Up.sub w λk hk=>(e k).2 (hk.imp id λh=>(Un k).2 (.inr h))⟩
def BegC(G:Gr)(v:iQ)(aL:Nat)(g:gA)(m:lO)(e:Int):Prop:=g.kind=1/\g.seq=0/\e=0/\m.kind=1/\v.t.vS aL g.aP=0/\G.qE m.pos/\G.XS m.LC
def BegR(G:Gr)(v:iQ)(aL:Nat)(g:gA)(v':iQ)(ps:List Pk)(hs:List yW):Prop:=∃m e,MDec g.body m e/\
  ((¬BegC G v aL g m e/\v'=v/\hs=[]/\∃p code,ps=[p]/\du aL ⟨g.aP,3,0,0,code,[]⟩ p)\/
   (BegC G v aL g m e/\∃(en:dG) (z:LJ×List lO) (rQ:List (List dA)) (Um:List gA) (c1:lH) (RK Da:List Pk),en.aL=aL/\en.aP=g.aP/\en.kO=v.dO/\(v.lf en.a).getD (false:Bool)=false/\Ls G (Vv v.u) (xu m.pos m.LC) z/\VJ (yV v.cQ.cO g.aP) g rQ Um c1/\F2 (du aL) Um RK/\c1.Ok/\xV ((v.oP en (yV v.cQ.cO g.aP) z.1).oQ aL c1) en (DW::z.2) v' Da/\z.2.length<=2/\1<=z.2.length/\ps=RK++Da/\hs=[⟨aL,g.aP,true,m⟩]))
section
variable{W0 w:aH}{S:BS}{a:Nat}{v:iQ}{E:uL}{G:Gr}{B:Int}
theorem gC.cfgAt(h:gC E.e a v w S):bY w ((⟨a,0,none⟩:Addr).add 1) 0 (qH IX (xQ v.cQ)):=by
 refine oH.2 λk x hk=>?_;have:(UZ E.e v)[1+k]? =some x:=by
  match k,hk with
  |0,hk=>exact hk
  |1,hk=>exact hk
  |2,hk=>exact hk
  |3,hk=>exact hk
  |4,hk=>exact hk
  |5,hk=>exact hk
  |k+6,hk=>simp[qH] at hk
 have c:=h.cell this;rw[aS] at c ⊢;rw[aS,show 0+1+(0+k)=0+(1+k) by omega];exact c
theorem begin_i{aL:Nat}{g:gA}{ck:Sl}{Q:Sl->Sl->aH->Prop}(h:gC E.e a v w S)(hb:Bs W0 E G S w)(ok:v.Ok G B)(hB:0<=B)(hp:aL<16)(hg:Rd w ck 1 eU g.body)(hgo:AY ck S w)(hl:g.body.length<=5000)(hs:u32 g.seq)(dq:1<=g.aP/\g.aP<=2147483648)
  (hQ:∀r rh ps hs v' w' S',gC E.e a v' w' S'->Up S S' w w'->rD w.heap.size S' w' r ps->Qq w.heap.size S' w' rh hs->v'.Ok G B->BegR G v aL g v' ps hs->Q r rh w'):JS (some ⟨a,0,none⟩) (aL:Int) (IY (g,ck)) w Q:=by
 unfold JS;have bd:=bF.gH h;refine cC (cs:=eG (g,ck)) λw1 b1 k1 z1=>aE (k:=.slice) ck (aO b1 rfl) ?_;refine jl (hg.aK k1 fI λ_ _=>id) hl λm sl e w2 k2 Ph f2 hmd=>?_;refine fE (zs:=tC (⟨0,0,0,[],0,ME⟩,bD)) (vs:=tC (m,sl)) CA rfl (VE _) λw4 o4 k4 z4=>?_;have b4:=bF.kp (bF.kp b1 k2) k4;have K4:aM w w4:=(k1.tr k2).tr k4;have rej:∀(code:Int) (wx:aH),aM w wx->¬BegC G v aL g m e->eN (aL:Int) g.aP code wx λs2 w5=>Q s2 bD w5:=λcode wx kx hn=>
  sj λr p w5 k5 v5 hp5=>by
   have K5:=kx.tr k5;exact hQ r _ [p] [] v w5 S (bF.kp h K5) (Up.aN K5) ((v5.qF kx.size).sub λk hk=>mD (bd k hk) kx.size) eJ.nil ok ⟨m,e,hmd,.inl ⟨hn,rfl,rfl,p,code,rfl,hp5⟩⟩
 refine aE (k:=.i) g.kind (aO b4 rfl) (aF (λhk=>aE (k:=.i) g.aP (aO b4 rfl) (rej 2 w4 K4 λhc=>?_)) (λhk=>?_))
 ·have:=hc.1;simp[this] at hk
 have QD:g.kind=1:=by simpa using hk
 refine aE (k:=.i) g.seq (aO b4 rfl) (aF (λhk=>aE (k:=.i) g.aP (aO b4 rfl) (rej 2 w4 K4 λhc=>?_)) (λhk=>?_))
 ·have:=hc.2.1;simp[this] at hk
 have hsq:g.seq=0:=by simpa using hk
 refine aF (λhk=>aE (k:=.i) g.aP (aO b4 rfl) (rej 2 w4 K4 λhc=>?_)) (λhk=>?_)
 ·have:=hc.2.2.1;simp[this] at hk
 have he0:e=0:=by simpa using hk
 refine aE (k:=.i) m.kind (cM o4 rfl) (aF (λhk=>aE (k:=.i) g.aP (aO b4 rfl) (rej 2 w4 K4 λhc=>?_)) (λhk=>?_))
 ·have:=hc.2.2.2.1;simp[this] at hk
 have hm1:m.kind=1:=by simpa using hk
 have K4d:=K4.tr (bN w4);have h4:=bF.kp h K4d;refine aA rfl (aE (k:=.ptr) (some ⟨v.tp,0,none⟩) (h4.cell rfl) (aE (k:=.i) g.aP (aO (bF.dr b4) rfl) ?_));obtain⟨ST,hT,_⟩:=h4.Eg;refine TMay_i hT ok.t hp dq λw9 k9=>?_;have K9:=K4d.tr k9;refine aF (λuH=>?_) (λuH=>?_)
 ·have hmay0:v.t.vS aL g.aP=0:=by simpa using uH
  have K9d:=K9.tr (bN w9);have h9:=bF.kp h K9d;have b9:=bF.kp b4 ((bN w4).tr (k9.tr (bN w9)));have o9:=o4.aK ((bN w4).tr (k9.tr (bN w9))) id;refine aA rfl (aE (k:=.ptr) (some ⟨E.e,0,none⟩) (h9.cell rfl) (aE (k:=.i) m.pos (cM o9 rfl) (aE (k:=.i) m.LC (cM o9 rfl) (aA rfl (aE (k:=.ptr) (some ⟨v.sp,0,none⟩) (h9.cell rfl) ?_)))));obtain⟨SU,hU,_⟩:=h9.sset;refine Se hU ok.u.2 λmk eV v10 II f10=>?_;have Mx:=K9d.tr II;have IQ:=bF.kp h Mx;have b10:=bF.kp b9 II;have Bu:=o9.aK II id;refine⟨cM Bu rfl,cM Bu rfl,IQ.cell rfl,?_⟩;have hb10:=hb.kp Mx;refine SNewF_i hb10 (v10.rd Uw) (λRZ=>?_) λhE hN z ms s eE SZ hz hZ hZlo okz Uk Ul KU=>?_
  ·refine aF (λ_=>aE (k:=.i) g.aP (aO b10 rfl) (rej 4 eV Mx λhc=>RZ hc.2.2.2.2.2)) (λh=>by cases h)
  refine aF (λh=>by cases h) (λ_=>?_);have K11d:=(Mx.tr KU).tr (bN eE);have Kk:=bF.kp h K11d;have b11:=bF.kp b10 (KU.tr (bN eE));refine aA rfl (bJ (l:=IX) (xQ v.cQ) Kk.cfgAt (aE (k:=.i) g.aP (aO b11 rfl) ?_));refine CNew_i ok.cQ dq λcp gO SH hH wc Fc=>?_;have K13:=(K11d.tr wc).tr (bN gO);have cj:=bF.kp h K13;have b13:=bF.kp b11 (wc.tr (bN gO));refine aE (k:=.i) g.aP (aO b13 rfl) (aA rfl (aE (k:=.i) v.dO (cj.cell rfl) ?_))
  let en:dG:=⟨gO.drew.heap.size,cp,s,aL,g.aP,v.dO⟩
  refine cC (cs:=Ve en) λmC bE Ku z14=>?_;have K14:=K13.tr Ku;have h14:=bF.kp h K14;refine aA rfl (aE (k:=.ptr) (some ⟨v.tp,0,none⟩) (h14.cell rfl) ?_);have dm:(v.lf en.a).getD (false:Bool)=false:=by
   obtain⟨SC0,hC0,_⟩:=h.sF;cases hlf:v.lf en.a with
   |none=>rfl
   |some b=>
    obtain⟨cs,e',hc⟩:=hC0.Hc ok en.a (by rw[hlf];rfl);have h1:en.a<w.heap.size:=(Array.getElem?_eq_some_iff.1 hc).1;have h2:w.heap.size<=en.a:=K13.size;omega
  have zk2:=k2.size;have zk10:w4.heap.size<=eV.heap.size:=((bN w4).tr (k9.tr ((bN w9).tr II))).size;have z11:=KU.size;have z11d:eE.drew.heap.size=eE.heap.size:=rfl;have z13:=wc.size;have z13d:gO.drew.heap.size=gO.heap.size:=rfl;have bZ:=bF.gH hZ;have bH:=bF.gH hH;obtain⟨SC,SS,hC,hS,dCS,eCS⟩:=h14;have lC:∀k,SC k->k<w.heap.size:=λk hk=>bd k ((eCS k).2 (.inl hk));have lS:∀k,SS k->k<w.heap.size:=λk hk=>bd k ((eCS k).2 (.inr hk));have RX:=ok.dO;have CV:=ok.cQ.cO;refine VAdd_i (e:=en) (c:=yV v.cQ.cO g.aP) (z:=z.1) (SB:=λk=>k=gO.drew.heap.size) hC hS bE (bF.kp hH ((bN gO).tr Ku)) (bF.kp hZ (((bN eE).tr wc).tr ((bN gO).tr Ku))) (λk h1 h2=>?_) (λk h1 h2=>?_) (λk h1 h2=>?_) (λk h1 h2=>by have:=Fc k h1;have:=bZ k h2;omega) ok hp hmay0 ⟨OG CV.2,rfl,rfl,hB⟩ okz ⟨dq,RX.1,oY _⟩ λfO SA SX hA hX dAX inA inX Ej ok15=>?_
  ·have:=lC k h1
   rcases h2 with h|h|h|h
   ·exact dCS k h1 h
   ·omega
   ·have:=Fc k h;omega
   ·have:=hZlo k h;omega
  ·have:=lS k h1
   rcases h2 with h|h|h
   ·omega
   ·have:=Fc k h;omega
   ·have:=hZlo k h;omega
  ·have h1':k=gO.drew.heap.size:=h1
   rcases h2 with h|h
   ·have:=bH k h;omega
   ·have:=bZ k h;omega
  have mid:∀k,w.heap.size<=k->k<eE.heap.size->¬SA k:=λk h1 h2 h3=>by
   rcases inA k h3 with g|g|g|g
   ·have:=lC k g;omega
   ·omega
   ·have:=Fc k g;omega
   ·omega
  have pg:∀k,w.heap.size<=k->k<eE.heap.size->¬(SC k\/k=gO.drew.heap.size):=λk h1 h2 h3=>h3.elim (λh=>by have:=lC k h;omega) λh=>aB;have M14d:=Ej.trans (F:=λk=>SC k\/k=gO.drew.heap.size) ((bN fO).wk) λ_ _ h=>h;have b14:=bF.kp b13 Ku;have o1:=(b14.1).aK M14d (pg _ (iT _) aB);have o2:=(((((Bu.aK KU id).aK (bN eE) id).aK wc id).aK (bN gO) id).aK Ku id).aK M14d (pg _ (by have:=k1.size;have:=k2.size;omega) (by have:=k4.size;omega));have hA':=bF.dr hA;have fP:en∈(v.oP en (yV v.cQ.cO g.aP) z.1).t.aT:=oF.2 (.inl rfl);have Ub:(v.oP en (yV v.cQ.cO g.aP) z.1).t.at aL=some en:=sR.ML ok15.t fP;refine aA rfl (aE (k:=.i) v.dO (hA'.cell rfl) ?_);refine bJ (l:=kG) (IY (g,ck)) (o1.holds λj v hj=>by rw[pN];exact hj) ?_;obtain⟨S6,h6,Pn,xU⟩:=hA'.Vq Ub;have ech:(v.oP en (yV v.cQ.cO g.aP) z.1).ch aL=yV v.cQ.cO g.aP:=if_pos rfl;rw[ech] at h6;have K15:∀k,k<w.heap.size->¬SC k->¬(SC k\/k=gO.drew.heap.size):=λk h1 h2 h3=>h3.elim h2 λh=>aB;have hgo15:Rd fO.drew ck 1 eU g.body:=((hg.aK K14 fI λ_ _=>id).aK Ej fI λb bW=>K15 _ (hgo b bW).2 λh=>(hgo b bW).1 ((eCS _).2 (.inl h))).aK (bN fO) fI λ_ _=>id;have zz15:=Ej.size;refine Si h6 (OG CV.2) (by show(0:Int)<=_;omega) hgo15 (λb bW=>⟨λhk=>?_,?_⟩) aB hs λYJ rQ rg Um c1 gR S7 h7 u7 YI Qa=>?_
  ·have cJ:=(hgo b bW).2
   rcases inA _ (Pn _ hk) with g|g|g|g
   ·exact(hgo b bW).1 ((eCS _).2 (.inl g))
   ·omega
   ·have:=Fc _ g;omega
   ·have:=Ku.size;omega
  ·have:=(hgo b bW).2
   have:fO.drew.heap.size=fO.heap.size:=rfl;omega
  obtain⟨S8,h8,u8⟩:=xU _ _ gR S7 u7 h7;obtain⟨S9,h9',u9⟩:=aZ.drop2 h8;obtain⟨S16,h16,u16,g16⟩:=VQ h9';have U16:Up SA S16 fO.drew gR.drew:=((u8.tr u9).tr u16).tr (Up.aN (bN gR));have hv2:=Gp (c:=c1) (B':=B) ok15 fP (by
   have:=wT (OG CV.2) YI;exact⟨Qa,this.2.1,this.1,Int.le_trans this.2.2.1 hB⟩) (oY _)
  have rf:=wT (OG (aP:=g.aP) CV.2) YI;have h16':=bF.dr h16;have g16':=g16.kp QO (bN gR);have b16:=bF.gH h16';have Vu:∀k,w.heap.size<=k->k<eE.heap.size->¬S16 k:=λk h1 h2 h3=>(U16.s k h3).elim (mid k h1 h2) λh=>by have:fO.drew.heap.size=fO.heap.size:=rfl;omega
  have RL:=o1.aK U16.m (mid _ (iT _) aB);have o2':=o2.aK U16.m (mid _ (by have:=k1.size;have:=k2.size;omega) (by have:=k4.size;omega));have hms16:fL gR.drew (λk=>eV.heap.size<=k/\k<eE.heap.size) ms (DW::z.2):=
   ((((Uk.wk λk h1 h2=>⟨h1,h2⟩).aN ((bN eE).tr (wc.tr ((bN gO).tr Ku)))).aK M14d λk hk=>pg k aB hk.2).aK U16.m λk hk=>mid k aB hk.2)
  have rd16:Rd gR.drew sl 1 eI m.cH:=by
   have IP:∀b,sl.b=some b->w.heap.size<=b.block/\b.block<eE.heap.size:=λb bW=>⟨by have:=f2 b bW;omega,by have:=Ph.2.2.1 b bW;have:=k4.size;omega⟩;exact((Ph.1.aK ((k4.tr ((bN w4).tr (k9.tr ((bN w9).tr II)))).tr (KU.tr ((bN eE).tr (wc.tr ((bN gO).tr Ku))))) cR λ_ _=>id).aK M14d cR λb bW=>pg _ (IP b bW).1 (IP b bW).2).aK U16.m cR λb bW=>mid _ (IP b bW).1 (IP b bW).2
  have Px:∀b,sl.b=some b->w.heap.size<=b.block/\b.block<eE.heap.size:=λb bW=>⟨by have:=f2 b bW;omega,by have:=Ph.2.2.1 b bW;have:=k4.size;omega⟩;have zz16:fO.heap.size<=gR.drew.heap.size:=U16.size;have l64:Um.length<=1000:=by
   have h2:=Qa.s.yR;have XV:=Qa.s.cO;omega
  have inW:∀wx Sx,Up S16 Sx gR.drew wx->bY wx ⟨w2.heap.size,0,none⟩ 0 (tC (m,sl))/\wx.cell? ((⟨w.heap.size,0,none⟩:Addr).add 0)=some (aD g.aP):=λwx Sx u=>
   ⟨(o2'.aK u.m (Vu _ (by have:=k1.size;have:=k2.size;omega) (by have:=k4.size;omega))).holds λj v hj=>by rw[pN];exact hj,cM (RL.aK u.m (Vu _ (iT _) aB)) rfl⟩
  have dR:∀(r:Sl) (RK Da:List Pk) (v':iQ) (wz:aH) (Sy:BS) (gb:Nat),kX E.e a v' wz Sy->Up S16 Sy gR.drew wz->rD gR.drew.heap.size Sy wz r (RK++Da)->v'.Ok G B->F2 (du aL) Um RK->xV ((v.oP en (yV v.cQ.cO g.aP) z.1).oQ aL c1) en (DW::z.2) v' Da->cW wz gb tHeard (eHd (⟨aL,g.aP,true,m⟩,sl))->gR.drew.heap.size<=gb->¬Sy gb->Q r ⟨some ⟨gb,0,none⟩,1,1⟩ wz:=by
   intro r RK Da v' wz Sy gb hy uy vy oky f1 sd og lgb ngb;have UA:=U16.tr uy;have hX':CZ E.e (v.oP en (yV v.cQ.cO g.aP) z.1) wz SX:=bF.aK (bF.dr hX) UA.m λk h1 h2=>dAX k h2 h1;have bX:=bF.gH hX;have dd:∀k,Sy k->SX k->False:=UA.ft dAX λk hk=>bX k hk;have hsv:gC E.e a v' wz (λk=>Sy k\/SX k):=by
    have hse:=sd;obtain⟨bs,gs,c',lo,lf,ln,rfl,_⟩:=hse;exact aZ.vR hy hX' dd
   have lSy:∀k,Sy k->S k\/w.heap.size<=k:=λk hk=>by
    rcases UA.s k hk with h|h
    ·rcases inA k h with g|g|g|g
     ·exact .inl ((eCS k).2 (.inl g))
     ·exact .inr aB
     ·exact .inr (by have:=Fc k g;omega)
     ·exact .inr (by have:=Ku.size;omega)
    ·exact .inr (by have:fO.drew.heap.size=fO.heap.size:=rfl;have:=Ku.size;omega)
   have lSX:∀k,SX k->S k\/w.heap.size<=k:=λk hk=>(inX k hk).imp (λh=>(eCS k).2 (.inr h)) λh=>by have:=hZlo k h;omega
   have nj:Up S (λk=>Sy k\/SX k) w wz:=by
    refine⟨((K14.wk.trans Ej λk h1 h2=>?_).trans (bN fO).wk λ_ _ h=>h).trans UA.m λk h1 h2=>?_,λk hk=>hk.elim (lSy k) (lSX k)⟩
    ·exact h2.elim (λh=>(eCS k).2 (.inl h)) λh=>by have h':k=gO.drew.heap.size:=h;omega
    ·rcases inA k h2 with g|g|g|g
     ·exact(eCS k).2 (.inl g)
     ·omega
     ·have:=Fc k g;omega
     ·have:=Ku.size;omega
   have uszz:=uy.size;refine hQ r _ (RK++Da) [⟨aL,g.aP,true,m⟩] v' wz _ hsv nj ((vy.cov λk hk=>hk.imp id λh=>by have:=bX k h;omega).qF (by have:=Ku.size;omega)) ?_ oky ⟨m,e,hmd,.inr ⟨⟨QD,hsq,he0,hm1,hmay0,hE,hN⟩,en,z,rQ,Um,c1,RK,Da,rfl,rfl,rfl,dm,hz,YI,f1,Qa,sd,Ul.1,Ul.2,rfl,rfl⟩⟩;refine⟨[(⟨aL,g.aP,true,m⟩,sl)],rfl,dQ.new qc [(⟨aL,g.aP,true,m⟩,sl)] (by simpa using og) (by simp[maxLen]),λb bW=>by cases bW;exact⟨by have:=Ku.size;show w.heap.size<=gb;omega,λh=>h.elim ngb λh=>by have:=bX _ h;have h':gb<fO.heap.size:=this;omega⟩,λx hx=>?_⟩;rw[uG.1 hx];refine⟨rd16.aK uy.m cR λb bW=>Vu _ (Px b bW).1 (Px b bW).2,λb bW=>⟨(Px b bW).1,λh=>?_,?_,λb' Qk e=>?_⟩⟩
   ·rcases h with h|h
    ·exact(uy.s _ h).elim (Vu _ (Px b bW).1 (Px b bW).2) λh=>by have:=(Px b bW).2;omega
    ·have h2:=Ph.2.2.1 b bW
     rcases inX _ h with h|h
     ·have:=lS _ h;have:=(Px b bW).1;omega
     ·have:=hZlo _ h;omega
   ·have:=(Px b bW).2;omega
   ·cases Qk
    have:=(Px b bW).2;have e':b.block=gb:=e;omega
  have hbd:∀g∈Um,g.body.length<=80000:=λg hg=>by have:=rf.2.2.2.2.1 g hg;omega
  have sayP:∀wx,aM gR.drew wx->∀(K:WQ Sl),(∀r ps v' wy Sy,kX E.e a v' wy Sy->Up S16 Sy wx wy->rD wx.heap.size Sy wy r ps->v'.Ok G B->xV ((v.oP en (yV v.cQ.cO g.aP) z.1).oQ aL c1) en (DW::z.2) v' ps->K r wy)->sH (some ⟨a,0,none⟩) (wZ en) ms wx K:=λwx kx K hK=>
   say_i (bF.kp h16' kx) hv2 fP (hms16.aN kx) (λk hk=>Vu k aB hk.2) (by simp;omega) λr ps v' wy Sy g1 g2 g3 g4 g5=>hK r ps v' wy Sy g1 g2 g3 g4 g5
  have YF:∀(v':iQ) (RK Da:List Pk),F2 (du aL) Um RK->xV ((v.oP en (yV v.cQ.cO g.aP) z.1).oQ aL c1) en (DW::z.2) v' Da->v'.Ok G B->RK.length+Da.length<=1000000:=λv' RK Da f1 sd Pm=>by
   have wj:en∈((v.oP en (yV v.cQ.cO g.aP) z.1).oQ aL c1).t.aT:=fP;have h1:=xV.YF wj sd Pm;have hr5:=Qa.s.yR;have hr6:=Qa.s.cO;have h2:=f1.len;have h4:(((v.oP en (yV v.cQ.cO g.aP) z.1).oQ aL c1).cQ).cO=v.cQ.cO:=rfl;omega
  have o1k:∀wx,aM gR.drew wx->bY wx ⟨w2.heap.size,0,none⟩ 0 (tC (m,sl))/\wx.cell? ((⟨w.heap.size,0,none⟩:Addr).add 0)=some (aD g.aP):=λwx kx=>inW wx S16 (Up.aN kx);obtain⟨hMa,hMb⟩:=o1k _ (aW.refl _ _);refine aE (k:=.i) g.aP hMb (bJ (l:=bf) (FX (m,sl)) hMa ⟨?_,?_⟩)
  ·refine AL g16' l64 hbd λr1 RK iZ Jz v17 f17=>⟨(o1k iZ Jz).1,(o1k iZ Jz).2,?_,?_⟩
   ·refine sayP iZ Jz _ λr2 Da v' lE Ue xj u18 v18 xy sd=>?_
    have U18:=(Up.aN Jz).tr u18;have Lc:rD gR.drew.heap.size Ue lE r1 RK:=(v17.sub λk hk=>b16 k hk).up u18;have b18:=bF.gH xj;have z17:=Jz.size;have z18:=u18.size;have r1b:∀b,r1.b=some b->b.block<iZ.heap.size:=λb bW=>v17.lt bW;refine⟨(inW lE Ue U18).1,(inW lE Ue U18).2,?_,?_⟩
    ·refine eJ.fy jS MD MA aB Lc v18 z17 r1b (YF _ _ _ f17 sd xy) aB b18 λr' nM v19 m19 _=>?_
     have KY:=m19.mono (G:=λk=>gR.drew.heap.size<=k/\¬Ue k) λk _ hk=>Lc.BK k hk;have U19:=Up.iH U18 KY;have h19:=bF.ov xj KY;refine⟨(inW nM Ue U19).1,(inW nM Ue U19).2,?_⟩;refine cC (cs:=eHd (⟨aL,g.aP,true,m⟩,sl)) λyM b20 k20 z20=>?_;have z19:=U19.size;refine dR r' RK Da v' yM Ue nM.heap.size (bF.kp h19 k20) (U19.tr (Up.aN k20)) (v19.kp k20) xy f17 sd b20.1 z19 λhs=>?_;have:=bF.gH h19 _ hs;omega
    ·refine cC (cs:=eHd (⟨aL,g.aP,true,m⟩,sl)) λAU b21 k21 z21=>?_
     have z21:=k21.size;refine eJ.fy jS MD MA aB (Lc.kp k21) (v18.kp k21) z17 r1b (YF _ _ _ f17 sd xy) aB (λk hk=>mD (b18 k hk) z21) λr' DH v22 m22 _=>?_;have m22':=m22.mono (G:=λk=>gR.drew.heap.size<=k/\¬Ue k) λk _ hk=>Lc.BK k hk;have U22:=Up.iH (U18.tr (Up.aN k21)) m22';refine dR r' RK Da v' DH Ue lE.heap.size (bF.ov (bF.kp xj k21) m22') U22 v22 xy f17 sd (b21.1.aK m22 λ⟨b,bW,e⟩=>by have:=r1b b bW;omega) aB λhs=>by have:=b18 _ hs;omega
   ·refine cC (cs:=eHd (⟨aL,g.aP,true,m⟩,sl)) λEe b23 k23 z23=>?_
    have K23:=Jz.tr k23;refine sayP Ee K23 _ λr2 Da v' Ab S24 h24 u24 v24 ok24 sd=>?_;have U24:=(Up.aN K23).tr u24;have Lc:rD gR.drew.heap.size S24 Ab r1 RK:=((v17.sub λk hk=>b16 k hk).kp k23).up u24;have b24:=bF.gH h24;have z17:=Jz.size;have z24:=u24.size;have r1b:∀b,r1.b=some b->b.block<iZ.heap.size:=λb bW=>v17.lt bW;refine eJ.fy jS MD MA aB Lc v24 aB (λb bW=>by have:=r1b b bW;omega) (YF _ _ _ f17 sd ok24) aB b24 λr' Aa v25 m25 _=>?_;have m25':=m25.mono (G:=λk=>gR.drew.heap.size<=k/\¬S24 k) λk _ hk=>Lc.BK k hk;have U25:=Up.iH U24 m25';refine dR r' RK Da v' Aa S24 iZ.heap.size (bF.ov h24 m25') U25 v25 ok24 f17 sd ((b23.1.aK u24.m λhs=>by have:=b16 _ hs;omega).aK m25 λ⟨b,bW,e⟩=>by have:=r1b b bW;omega) z17 λhs=>(u24.s _ hs).elim (λh=>by have:=b16 _ h;omega) λh=>aB
  ·refine cC (cs:=eHd (⟨aL,g.aP,true,m⟩,sl)) λau b26 k26 z26=>?_
   refine AL (g16'.kp QO k26) l64 hbd λr1 RK cx k27 v27 f27=>?_;have K27:=k26.tr k27;refine sayP cx K27 _ λr2 Da v' my S28 h28 u28 v28 ok28 sd=>?_;have U28:=(Up.aN K27).tr u28;have z26':=k26.size;have z27:=k27.size;have z28:=u28.size;have Lc:rD gR.drew.heap.size S28 my r1 RK:=((v27.qF z26').sub λk hk=>mD (b16 k hk) z26').up u28;have b28:=bF.gH h28;have r1b:∀b,r1.b=some b->b.block<cx.heap.size:=λb bW=>v27.lt bW;refine eJ.fy jS MD MA aB Lc v28 aB r1b (YF _ _ _ f27 sd ok28) aB b28 λr' vu v29 m29 _=>?_;have m29':=m29.mono (G:=λk=>gR.drew.heap.size<=k/\¬S28 k) λk _ hk=>Lc.BK k hk;have U29:=Up.iH U28 m29';refine dR r' RK Da v' vu S28 gR.drew.heap.size (bF.ov h28 m29') U29 v29 ok28 f27 sd (((b26.1.aK k27 id).aK u28.m λhs=>by have:=b16 _ hs;omega).aK m29 λ⟨b,bW,e⟩=>?_) (iT _) λhs=>(u28.s _ hs).elim (λh=>by have:=b16 _ h;omega) λh=>aB;have:=(v27.BK _ ⟨b,bW,rfl⟩).1;omega
 ·refine aF (λh5=>aE (k:=.i) g.aP (aO (bF.kp b4 ((bN w4).tr k9)) rfl) (rej 1 w9 K9 λhc=>?_)) (λh5=>aE (k:=.i) g.aP (aO (bF.kp b4 ((bN w4).tr k9)) rfl) (rej 2 w9 K9 λhc=>?_))
  ·have:=hc.2.2.2.2.1;rw[this] at uH;cases uH
  ·have:=hc.2.2.2.2.1;rw[this] at uH;cases uH
end
end
section
def iQ.KN(v:iQ)(i:Nat)(e:dG):iQ:={v with t:=⟨v.t.eQ,v.t.aT.set i e,v.t.gr⟩}
theorem zh{l:List dG}{i:Nat}{e e':dG}(h:l[i]? =some e)(hp:e'.aL=e.aL):(l.set i e').map (·.aL)=l.map (·.aL):=by
 apply AZ;intro j;rw[mG,mG,vT]
 by_cases hj:i=j
 ·subst hj
  have cJ:=(kU.1 h).1;rw[if_pos rfl,if_pos cJ,h];simp[hp]
 ·rw[if_neg hj]
theorem Rp{l:List dG}{i:Nat}{e e':dG}(hs:DU l)(h:l[i]? =some e)(hp:e'.aL=e.aL):DU (l.set i e'):=by
 have h1:(l.map (·.aL)).Pairwise (·<·):=by rw[List.pairwise_map];exact hs
 rw[<-zh h hp,List.pairwise_map] at h1;exact h1
theorem sG{l:List dG}{i:Nat}{e e' f:dG}(hs:DU l)(h:l[i]? =some e)(hp:e'.aL=e.aL):f∈l.set i e'↔f=e'\/(f∈l/\f.aL≠e.aL):=by
 have cJ:=(kU.1 h).1;have vV:e'∈l.set i e':=zH (i:=i) (by rw[vT];simp[cJ])
 constructor
 ·intro hf
  by_cases hfe:f=e'
  ·exact .inl hfe
  ·refine .inr ⟨(List.mem_or_eq_of_mem_set hf).resolve_right hfe,λUj=>hfe (ru (Rp hs h hp) hf vV (by rw[Uj,hp]))⟩
 ·rintro(rfl|⟨hf,gF⟩)
  ·exact vV
  ·obtain⟨j,hj⟩:=List.getElem?_of_mem hf
   refine zH (i:=j) ?_;rw[vT,if_neg,hj];intro e;subst e;rw[h] at hj;cases hj;exact gF rfl
theorem Wq{t:sR}(ok:t.Ok){i:Nat}{e e':dG}(h:t.aT[i]? =some e)(hp:e'.aL=e.aL)(Pm:(⟨t.eQ,t.aT.set i e',t.gr⟩:sR).Ok)(q:Nat):(⟨t.eQ,t.aT.set i e',t.gr⟩:sR).at q=if q=e.aL then some e' else t.at q:=by
 apply Option.ext;intro f;rw[sR.Rg Pm];show(f∈t.aT.set i e'/\f.aL=q)↔_;rw[sG ok.rP h hp]
 by_cases hq:q=e.aL
 ·rw[if_pos hq]
  constructor
  ·rintro⟨rfl|⟨_,gF⟩,h2⟩
   ·rfl
   ·exact absurd (h2.trans hq) gF
  ·intro h;cases h;exact⟨.inl rfl,by rw[hp,hq]⟩
 ·rw[if_neg hq,sR.Rg ok]
  constructor
  ·rintro⟨rfl|⟨hf,_⟩,h2⟩
   ·exact absurd (h2.symm.trans hp) hq
   ·exact⟨hf,h2⟩
  ·rintro⟨hf,h2⟩;exact⟨.inr ⟨hf,λh3=>hq (h2.symm.trans h3)⟩,h2⟩
theorem Nj{t:sR}(ok:t.Ok){i:Nat}{e e':dG}(h:t.aT[i]? =some e)(hp:e'.aL=e.aL):(⟨t.eQ,t.aT.set i e',t.gr⟩:sR).Ok:=
 ⟨ok.eQ,by show(t.aT.set i e').length<=_;rw[pJ];exact ok.len,Rp ok.rP h hp,λf hf=>by
  rcases(sG ok.rP h hp).1 hf with rfl|⟨hf,_⟩
  ·rw[hp];exact ok.aL e (zH h)
  ·exact ok.aL f hf⟩
section
variable{W0 w:aH}{S:BS}{a:Nat}{v:iQ}{E:uL}{G:Gr}{B:Int}{ee:Nat}
theorem touch_ok(ok:v.Ok G B){i:Nat}{e e':dG}(h:v.t.aT[i]? =some e)(hp:e'.aL=e.aL)(ha:e'.a=e.a)(hc:e'.aP=e.aP)(hl:0<=e'.kO/\e'.kO<=v.dO):(v.KN i e').Ok G B:=by
 have he:=zH h;have mem:∀f∈(v.KN i e').t.aT,f=e'\/(f∈v.t.aT/\f.aL≠e.aL):=λf hf=>(sG ok.t.rP h hp).1 hf;refine⟨ok.cQ,ok.dO,ok.u,Nj ok.t h hp,ok.eQ,λf hf=>?_,λf hf=>?_,λf hf=>?_,λk hk=>?_⟩
 ·rcases mem f hf with rfl|⟨hf,_⟩
  ·have:=ok.ch e he;show(v.ch f.aL).Ok/\(v.ch f.aL).aP=f.aP/\(v.ch f.aL).s.cO=v.cQ.cO/\(v.ch f.aL).dl<=B;rw[hp,hc];exact this
  ·exact ok.ch f hf
 ·rcases mem f hf with rfl|⟨hf,_⟩
  ·show UF G (v.yN f.aL);rw[hp];exact ok.yN e he
  ·exact ok.yN f hf
 ·rcases mem f hf with rfl|⟨hf,_⟩
  ·rw[hc];exact⟨(ok.Df e he).1,hl⟩
  ·exact ok.Df f hf
 ·rcases ok.lost k hk with⟨f,hf,rfl⟩|hg
  ·by_cases hpf:f.aL=e.aL
   ·have:=ok.t.inj hf he hpf
    subst this;exact .inl ⟨e',(sG ok.t.rP h hp).2 (.inl rfl),ha⟩
   ·exact .inl ⟨f,(sG ok.t.rP h hp).2 (.inr ⟨hf,hpf⟩),rfl⟩
  ·exact .inr hg
theorem gC.kO(h:gC ee a v w S)(ok:v.Ok G B){i:Nat}{e:dG}(hi:v.t.aT[i]? =some e){Q:aH->Prop}(hQ:∀w' S',gC ee a (v.KN i {e with kO:=v.dO}) w' S'->Up S S' w w'->Q w'):aI prog cY ((⟨e.a,0,none⟩:Addr).add 4) (aD v.dO) w Q:=by
 have cJ:=(kU.1 hi).1;have lM:=ok.t.rP
 let e':dG:={e with kO:=v.dO}
 have oktt:=Nj (e':=e') ok.t hi rfl;have ef:∀x,sE (v.t.aT.set i e') x=sE v.t.aT x:=λx=>by
  refine He (f:=sE v.t.aT) (Rp (e':=e') lM hi rfl) (λx p=>?_) x;rw[WL lM]
  constructor
  ·rintro⟨f,hf,hx,hp⟩
   by_cases hfe:f.aL=e.aL
   ·have:=ok.t.inj hf (zH hi) hfe
    subst this;exact⟨e',(sG (e':=e') lM hi rfl).2 (.inl rfl),hx,hp⟩
   ·exact⟨f,(sG (e':=e') lM hi rfl).2 (.inr ⟨hf,hfe⟩),hx,hp⟩
  ·rintro⟨f,hf,hx,hp⟩
   rcases(sG (e':=e') lM hi rfl).1 hf with rfl|⟨hf,_⟩
   ·exact⟨e,zH hi,hx,hp⟩
   ·exact⟨f,hf,hx,hp⟩
 have efun:sE (v.t.aT.set i e')=sE v.t.aT:=funext ef;have f0:=(aZ.l h).c λT hT=>gE.at hT .Eg;have f1:Us w S (CY v.tp v.t) _:=f0.c λT hT=>aZ.l hT;obtain⟨S1,⟨m1,m2,ng,hT⟩,tO,dN⟩:=f1.put;obtain⟨S2,hL,FP,GP⟩:=(((aZ.r hT).c λT hT=>aZ.r hT).c λT hT=>(aZ.r hT).c λT hT=>vZ.at hT hi).put;refine pA hL cU dL rfl rfl λw' b' u'=>?_;obtain⟨S3,h3,u3⟩:=GP (JB e') w' S2 u' b';have hT3:CY v.tp (v.KN i e').t w' S3:=by
  refine⟨m1,m2,ng,h3.mono (λ_ h=>h) λ_ h=>h.mono (λ_ h=>?_) λ_ h=>h.mono (λ_ h=>h) λ_ h=>Av.set cJ h⟩;show uJ m1 CT qJ (sE (v.t.aT.set i e')) (v.t.aT.set i e').length _ _;rw[efun,pJ];exact h
 obtain⟨S4,h4,u4⟩:=dN _ w' S3 u3 hT3;refine hQ w' S4 (h4.mono (λ_ h=>?_) λ_ h=>?_) u4
 ·have efam:ES (QF ee a v) .Eg (aZ (CY v.tp (v.KN i e').t) (vZ Grv v.gv))=QF ee a (v.KN i e'):=by
   funext j
   cases j with
   |ch q=>
    show(match v.t.at q with|some e=>jQ e.cp (v.ch q)|none=>DK)=(match (v.KN i e').t.at q with|some e=>jQ e.cp (v.ch q)|none=>DK)
    rw[show(v.KN i e').t.at q=if q=e.aL then some e' else v.t.at q from Wq (e':=e') ok.t hi rfl oktt q]
    by_cases hq:q=e.aL
    ·rw[if_pos hq,hq,sR.ML ok.t (zH hi)]
    ·rw[if_neg hq]
   |_=>rfl
  unfold kX;rw[<-efam];exact h
 ·have es:zJ ee (v.KN i e')=zJ ee v:=by
   funext q
   show(match (v.KN i e').t.at q with|some e=>uI ee e.sp (v.yN q)|none=>DK)=(match v.t.at q with|some e=>uI ee e.sp (v.yN q)|none=>DK)
   rw[show(v.KN i e').t.at q=if q=e.aL then some e' else v.t.at q from Wq (e':=e') ok.t hi rfl oktt q]
   by_cases hq:q=e.aL
   ·rw[if_pos hq,hq,sR.ML ok.t (zH hi)]
   ·rw[if_neg hq]
  unfold CZ;rw[es];exact h
theorem gC.Vq(h:gC ee a v w S){e:dG}{p:Nat}(he:v.t.at p=some e):∃S1,jQ e.cp (v.ch p) w S1/\(∀k,S1 k->S k)/\∀c D w' T,Up S1 T w w'->aZ (jQ e.cp c) D w' T->∃S',aZ (gC ee a (v.oQ p c)) D w' S'/\Up S S' w w':=by
 obtain⟨S1,h1,hs,dN⟩:=(aZ.l h).c λT hT=>kX.chan hT he;refine⟨S1,h1,hs,λc D w' T u hT=>?_⟩;obtain⟨S',h',u'⟩:=dN _ D w' T u hT;exact⟨S',h'.mono (λS h=>h.mono (λ_ h=>by unfold kX;rw[<-fam_ch he];exact h) λ_ h=>h) λ_ h=>h,u'⟩
end
end
section
abbrev BL(r:Sl):BS:=λk=>∃a,r.b=some a/\k=a.block
def EntR(v:iQ)(p:Nat)(g:gA)(v':iQ)(ps:List Pk)(hs:List yW):Prop:=∃e∈v.t.aT,e.aL=p/\e.aP=g.aP/\∃rQ Um c1,VJ (v.ch p) g rQ Um c1/\(rQ=[]->v'=v.oQ p c1/\F2 (du p) Um ps/\hs=[])
def qx(g:gA)(e:Int):Prop:=e=0/\g.kind≠3/\1<=g.aP/\g.aP<=2147483648
def Wj(G:Gr)(v:iQ)(p:Int)(bs:List dA)(v':iQ)(ps:List Pk)(hs:List yW):Prop:=
 (¬(0<=p/\p<16)/\v'=v/\ps=[]/\hs=[])\/∃g e,GDec bs g e/\((¬qx g e/\v'=v/\ps=[]/\hs=[])\/(qx g e/\((∀f∈v.t.aT,¬(f.aL=p.toNat/\f.aP=g.aP))/\BegR G v p.toNat g v' ps hs\/EntR v p.toNat g v' ps hs)))
structure Au(v v':iQ)(p:Int):Prop where
 cQ:v'.cQ=v.cQ
 u:v'.u=v.u
 dO:v'.dO=v.dO
 aT:∀f∈v'.t.aT,(∃f0∈v.t.aT,f0.aL=f.aL)\/(f.aL:Int)=p
theorem Au.refl(v:iQ)(p:Int):Au v v p:=⟨rfl,rfl,rfl,λf hf=>.inl ⟨f,hf,rfl⟩⟩
structure RcvO(G:Gr)(B:Int)(ee a:Nat)(v:iQ)(p:Int)(bs:List dA)(w:aH)(S:BS)(r rh:Sl)(ps:List Pk)(hs:List yW)(v':iQ)(w':aH)(S':BS):Prop where
 Bt:gC ee a v' w' S'
 up:Up S S' w w'
 row:rD w.heap.size S' w' r ps
 AV:Qq w.heap.size S' w' rh hs
 ok:v'.Ok G (B+16)
 len:ps.length<=v.cQ.cO+1
 vv:∀q∈ps,q.2.length<=3000
 dy:Au v v' p
 rel:Wj G v p bs v' ps hs
 hl:hs.length<=20
theorem BegR.YF{G:Gr}{B:Int}{v v':iQ}{p:Nat}{g:gA}{ps:List Pk}{hs:List yW}(hw:v.cQ.cO<=16)(h:BegR G v p g v' ps hs)(ok:v'.Ok G B):ps.length<=v.cQ.cO+1/\(∀q∈ps,q.2.length<=3000)/\Au v v' p/\hs.length<=20:=by
 obtain⟨m,e,_,⟨_,rfl,rfl,q,code,rfl,hq⟩|⟨_,en,z,rQ,Um,c1,RK,Da,h1,h2,h3,h4,h5,h6,h7,h8,h9,IQ,Kk,rfl,rfl⟩⟩:=h
 ·exact⟨by simp,λx hx=>by rw[uG.1 hx];exact hq.2.1,Au.refl _ _,by simp⟩
 ·have hm:en∈((v.oP en (yV v.cQ.cO g.aP) z.1).oQ p c1).t.aT:=oF.2 (.inl rfl)
  have hc:=xV.YF hm h9 ok;have RP:(v'.ch en.aL).s.n<=v.cQ.cO:=hc.2;have rf:=wT (OG hw) h6;have e1:((v.oP en (yV v.cQ.cO g.aP) z.1).oQ p c1).ch en.aL=c1:=by
   show(if en.aL=p then c1 else _)=c1
   rw[if_pos h1]
  have bw:=hc.1;rw[e1] at bw;have hl:=h7.len;have sm:=h9.same;refine⟨by rw[mL];omega,λq hq=>?_,⟨sm.cQ,sm.u,sm.dO,λf hf=>?_⟩,by simp⟩
  ·rcases jK.1 hq with hq|hq
   ·obtain⟨_,_,hp⟩:=h7.mem hq
    exact hp.2.1
   ·exact(xV.vv hm h9 q hq).1
  ·rw[sm.t] at hf
   rcases oF.1 hf with rfl|⟨hf,_⟩
   ·exact .inr (by rw[h1])
   ·exact .inl ⟨f,hf,rfl⟩
section
variable{W0 w:aH}{S:BS}{a:Nat}{v:iQ}{E:uL}{G:Gr}{B:Int}
theorem VRecv_i{p:Int}{b:Sl}{bs:List dA}{Q:Sl->Sl->aH->Prop}(h:gC E.e a v w S)(hb:Bs W0 E G S w)(ok:v.Ok G B)(hB:0<=B/\B<=100000000000000)(hr:Rd w b 1 eU bs)(hro:AY b S w)(hl:bs.length<=5000)
  (hQ:∀r rh ps hs v' w' S',RcvO G B E.e a v p bs w S r rh ps hs v' w' S'->Q r rh w'):OZ (some ⟨a,0,none⟩) p b w Q:=by
 unfold OZ;have bd:=bF.gH h;have okB:v.Ok G (B+16):=⟨ok.cQ,ok.dO,ok.u,ok.t,ok.eQ,λe he=>by have:=ok.ch e he;exact⟨this.1,this.2.1,this.2.2.1,aB⟩,ok.yN,ok.Df,ok.lost⟩;have no:∀wx,aM w wx->Wj G v p bs v [] []->Q bD bD wx:=λwx k xP=>hQ _ _ [] [] v wx S ⟨bF.kp h k,Up.aN k,eJ.nil,eJ.nil,okB,iG _,λq hq=>(by cases hq),Au.refl v p,xP,iG _⟩;refine aF (λh=>by simp at h) (λ_=>aJ (λh0=>no w (aW.refl _ _) (.inl ⟨λhh=>aB,rfl,rfl,rfl⟩)) (λh0=>aJ (λh1=>no w (aW.refl _ _) (.inl ⟨λhh=>aB,rfl,rfl,rfl⟩)) (λh1=>?_)));obtain⟨pn,rfl⟩:∃pn:Nat,p=(pn:Int):=⟨p.toNat,aB⟩;have hp16:pn<16:=aB;refine jo hr hl λg sl e w1 k1 rd1 f1 Kh=>?_;refine fE (zs:=eG (⟨0,0,0,0,0,[]⟩,bD)) (vs:=eG (g,sl)) rJ rfl (Le _) λw3 o3 k3 z3=>?_;have K3:=k1.tr k3;have UK:¬qx g e->Q bD bD w3:=λhn=>no w3 K3 (.inr ⟨g,e,Kh,.inl ⟨hn,rfl,rfl,rfl⟩⟩);refine aF (λhe=>UK λhh=>by have:=hh.1;simp[this] at he) (λhe=>?_);have he0:e=0:=by simpa using he
 refine aE (k:=.i) g.kind (cM o3 rfl) (aF (λhk=>UK λhh=>hh.2.1 (by simpa using hk)) (λhk=>?_));have np:g.kind≠3:=by simpa using hk
 refine aE (k:=.i) g.aP (cM o3 rfl) (aJ (λhc=>UK λhh=>by have:=hh.2.2.1;omega) (λbw=>?_));refine aE (k:=.i) g.aP (cM o3 rfl) (aJ (λhc=>UK λhh=>by have:=hh.2.2.2;omega) (λRP=>?_));have Wc:qx g e:=⟨he0,np,aB,aB⟩;have K3d:=K3.tr (bN w3);have h3:=bF.kp h K3d;have Ks:=o3.aK (bN w3) id;refine aA rfl (aE (k:=.ptr) (some ⟨v.tp,0,none⟩) (h3.cell rfl) (aE (k:=.i) g.aP (cM Ks rfl) ?_));obtain⟨ST,hT,_⟩:=h3.Eg;have lgb:g.body.length<=5000:=iF Kh.len hl;have rdg:Rd w3.drew sl 1 eU g.body:=(rd1.1.aK k3 fI λ_ _=>id).aK (bN w3) fI λ_ _=>id;have z1:=k1.size;have ck:∀b,sl.b=some b->w.heap.size<=b.block/\b.block<w3.drew.heap.size:=λb bW=>⟨f1 b bW,by have:=rd1.2.2.1 b bW;have:w3.drew.heap.size=w3.heap.size:=rfl;omega⟩;have og:AY sl S w3.drew:=λb bW=>⟨λhs=>by have:=bd _ hs;have:=(ck b bW).1;omega,(ck b bW).2⟩;have tg:bY w3.drew ⟨w1.heap.size,0,none⟩ 0 (qH kG (IY (g,sl))):=Ks.holds λj v hj=>by rw[pN];exact hj
 refine TGet_i hT ok.t (λen dm Uj hce=>?_) (λvU=>?_)
 ·refine aF (λh=>by simp at h) (λ_=>?_)
  subst Uj;have Kb:=K3d.tr (bN w3.drew);obtain⟨wb,hwb⟩:∃wb,wb=w3.drew.drew:=⟨_,rfl⟩;have kb:aM w3.drew wb:=by rw[hwb];exact bN w3.drew
  rw[<-hwb] at Kb ⊢;have hd:=bF.kp h Kb;have Ub:=sR.ML ok.t dm;have ob:=Ks.aK kb id;have kH:=ok.ch en dm;have DO:=kH.1.s.yR;have CV:=ok.cQ.cO;have zb:=kb.size;refine aA rfl (aE (k:=.ptr) (some ⟨en.cp,0,none⟩) (hd.UY dm rfl) (aA rfl (aE (k:=.i) v.dO (hd.cell rfl) (bJ (l:=kG) (IY (g,sl)) (ob.holds λj v hj=>by rw[pN];exact hj) ?_))));obtain⟨S6,h6,Pn,xU⟩:=hd.Vq Ub;have hnx:(v.ch en.aL).s.next<=B+16:=by have h1:=kH.2.2.2;have h2:=kH.2.2.1;have h3:(v.ch en.aL).s.next-((v.ch en.aL).s.n:Int)<=B:=h1;omega
  refine Si h6 kH.1 aB (rdg.aK kb fI λ_ _=>id) (λb bW=>⟨λhk=>(og b bW).1 (Pn _ hk),by have:=(og b bW).2;omega⟩) lgb Kh.seq λYJ rQ rg Um c1 w6 S7 h7 u7 YI Qa=>?_;obtain⟨S8,h8,u8⟩:=xU _ _ w6 S7 u7 h7;obtain⟨SA,SR,hA,⟨SB,SG,hBs,hGs,dBG,eBG⟩,dAR,eAR⟩:=h8;have rowD:Fj (λk=>¬SA k) w6 YJ rQ:=hBs.row λk hk hs=>dAR k hs ((eBG k).2 (.inl hk));have rowG:Vh (λk=>¬SA k) w6 rg Um:=hGs.row λk hk hs=>dAR k hs ((eBG k).2 (.inr hk));have UA:Up S SA wb w6:=u8.tr (Up.sub w6 λk hk=>(eAR k).2 (.inl hk));have rf:=wT kH.1 YI;have okv1:(v.oQ en.aL c1).Ok G (B+16):=Gp ok dm ⟨Qa,rf.2.1.trans kH.2.1,rf.1.trans kH.2.2.1,aB⟩ aB;have l64:Um.length<=17:=by
   have h2:=Qa.s.yR;omega
  have dR:∀(r rh:Sl) ps hs v' w' S',gC E.e a v' w' S'->Up S S' wb w'->rD w6.heap.size S' w' r ps->Qq w6.heap.size S' w' rh hs->v'.Ok G (B+16)->ps.length<=v.cQ.cO+1->(∀q∈ps,q.2.length<=3000)->Au v v' (en.aL:Int)->(rQ=[]->v'=v.oQ en.aL c1/\F2 (du en.aL) Um ps/\hs=[])->hs.length<=20->Q r rh w':=λr rh ps hs v' w' S' g1 g2 g3 g4 g5 g6 g7 g8 g9 g10=>by
   have zz:w.heap.size<=w6.heap.size:=by have:=UA.size;have:=Kb.size;omega
   exact hQ r rh ps hs v' w' S' ⟨g1,(Up.aN Kb).tr g2,g3.qF zz,g4.qF zz,g5,g6,g7,g8,.inr ⟨g,e,Kh,.inr ⟨Wc,.inr ⟨en,dm,rfl,hce,rQ,Um,c1,YI,λh0=>g9 h0⟩⟩⟩,g10⟩
  refine AL rowG aB (λx hx=>by have:=rf.2.2.2.2.1 x hx;omega) λr1 RK w7 k7 v7 f7=>?_;have fl7:=f7.len;have lbs:=rf.2.2.2.2.2.2;have hpk1:∀q∈RK,q.2.length<=3000:=λq hq=>by obtain⟨_,_,hp⟩:=f7.mem hq;exact hp.2.1
  intro J1 KJ;have j1:∀v2 w8 S8,gC E.e a v2 w8 S8->Up S S8 wb w8->rD w6.heap.size S8 w8 r1 RK->v2.Ok G (B+16)->Fj (λk=>¬S8 k/\k<w6.heap.size) w8 YJ rQ->(∃Pq∈v2.t.aT,Pq.a=en.a/\Pq.aL=en.aL/\Pq.sp=en.sp)->v2.cQ=v.cQ->v2.u=v.u->v2.dO=v.dO->(∀f∈v2.t.aT,∃f0∈v.t.aT,f0.aL=f.aL)->v2.ch en.aL=c1->(rQ=[]->v2=v.oQ en.aL c1)->w6.heap.size<=w8.heap.size->J1 () w8:=by
   intro v2 w8 S8 h8 u8 r8 ok8 d8 hen2 e1 e2 e3 e4 e5 e6 zz8;obtain⟨Pq,hen2,ha2,Ky,hsp2⟩:=hen2;have eadr:wZ en=wZ Pq:=by rw[show wZ Pq=some ⟨Pq.a,0,none⟩ from rfl,ha2]
   apply KJ;have ld:=d8.len;refine bO (λn t w9=>∃(i:Nat) (r rh:Sl) (ps:List Pk) (hs:List yW) (v5:iQ) (S5:BS),i<=rQ.length/\n=rQ.length-i/\t=(r,rh,(i:Int),())/\gC E.e a v5 w9 S5/\Up S S5 wb w9/\rD w6.heap.size (λk=>S5 k\/BL rh k) w9 r ps/\Qq w6.heap.size (λk=>S5 k\/BL r k) w9 rh hs/\v5.Ok G (B+16)/\qL v2 v5/\ps.length<=(v5.ch en.aL).s.n+1/\hs.length<=i/\(∀q∈ps,q.2.length<=3000)/\Fj (λk=>¬S5 k/\k<w6.heap.size) w9 YJ rQ/\(i=0->v5=v2/\ps=RK/\hs=[])/\w6.heap.size<=w9.heap.size) rQ.length
    ⟨0,r1,bD,RK,[],v2,S8,iG _,rfl,rfl,h8,u8,r8.cov λk hk=>hk.elim .inl λ⟨a,ha,_⟩=>(by cases ha),eJ.nil,ok8,qL.refl v2,by rw[e5];omega,iT _,hpk1,d8,λ_=>⟨rfl,rfl,rfl⟩,zz8⟩ ?_
   rintro n t w9 ⟨i,r,rh,ps,hs,v5,S5,hi,rfl,rfl,h5,u5,r5,q5,LK,Tq,hn5,hl5,Mr,d5,hz5,zz5⟩ X hX;dsimp only;have Kd:Pq∈v5.t.aT:=by rw[Tq.t];exact hen2
   have wg:(v5.ch en.aL).s.n<=v.cQ.cO:=by
    have h1:=LK.ch Pq Kd;rw[Ky] at h1;have h2:=h1.1.s.yR;rw[h1.2.2.1,Tq.cQ,e1] at h2;exact h2
   have Vo:Au v v5 (en.aL:Int):=⟨Tq.cQ.trans e1,Tq.u.trans e2,Tq.dO.trans e3,λf hf=>.inl (e4 f (by rw[<-Tq.t];exact hf))⟩;have Mt:=bF.gH h5;refine aJ (λcJ=>?_) (λkT=>?_)
   ·have dJ:i<rQ.length:=aB
    have cV:=gS dJ;have fP:=nE dJ;generalize rQ[i]=body at*;obtain⟨q,slb,hq,hh,Kv,Em⟩:=d5.get cV;rw[kE,qA i aB];have cq:w9.cell? (q.add (i*1))=some (sv slb):=by have:=hh.1;rwa[add_add,Nat.add_zero] at this
    refine⟨⟨aB,cJ⟩,aA hq (aE (k:=.slice) slb cq ?_)⟩;refine jl Kv (lbs _ fP) λm aw em eV II rd10 f10 hmd=>?_;refine fE (zs:=tC (⟨0,0,0,[],0,ME⟩,bD)) (vs:=tC (m,aw)) CA rfl (VE _) λeR Db KH z12=>?_;have oh:=II.tr KH;have Bx:=bF.kp h5 oh;have z10:=II.size;have z12':=KH.size;have skip:X (r,rh,((i+1:Nat):Int),()) eR:=hX _ _ _ aB ⟨i+1,r,rh,ps,hs,v5,S5,dJ,rfl,rfl,Bx,u5.tr (Up.aN oh),r5.kp oh,q5.kp oh,LK,Tq,hn5,aB,Mr,d5.kp KP oh,λh0=>aB,aB⟩;intro J2 En;have j2:J2 () eR:=by
     apply En;have o1:cW eR w1.heap.size GF (eG (g,sl)):=(ob.aK u5.m λhs=>by have:=bd _ hs;omega).aK oh id;refine aE (k:=.i) g.aP (cM o1 rfl) (bJ (l:=bf) (FX (m,aw)) (Db.holds λj v hj=>by rw[pN];exact hj) ?_);have rlt:∀b,r.b=some b->b.block<w9.heap.size:=λb bW=>r5.lt bW;have rhlt:∀b,rh.b=some b->b.block<w9.heap.size:=λb bW=>q5.lt bW;have bSr:∀k,S5 k\/BL r k->k<eR.heap.size:=λk hk=>hk.elim (λh=>by have:=Mt k h;omega) λ⟨b,bW,e⟩=>by have:=rlt b bW;omega
     refine eJ.pj NM qc oneHd aB (q5.kp oh) aB aB bSr ⟨en.aL,g.aP,true,m⟩ (sl:=aw) (rd10.1.aK KH cR λ_ _=>id) (λb bW=>⟨by have:=f10 b bW;omega,λhs=>?_,by have:=rd10.2.2.1 b bW;omega,λb' Qk e=>?_⟩) λrh' fO q15 Ej nb15=>?_
     ·have:=f10 b bW
      rcases hs with hs|⟨b',Qk,e⟩
      ·have:=Mt _ hs;omega
      ·have:=rlt b' Qk;omega
     ·have:=f10 b bW;have:=rhlt b' Qk;omega
     have z15:=Ej.size;have nS:∀k,S5 k->¬BL rh k:=λk hk ⟨b,bW,e⟩=>((q5.BK k ⟨b,bW,e⟩).2) (.inl hk);have h15:gC E.e a v5 fO S5:=bF.aK Bx Ej nS;have m15':=Ej.mono (G:=λk=>wb.heap.size<=k/\¬S5 k) λk _ hk=>⟨by have:=(q5.BK k hk).1;have:=UA.size;omega,λhs=>nS k hs hk⟩;have u15:Up S S5 wb fO:=Up.iH (u5.tr (Up.aN oh)) m15';have r15:rD w6.heap.size (λk=>S5 k\/BL rh' k) fO r ps:=(r5.kp oh).aK Ej (λk _ hk _ h=>hk (.inr h)) λk hk cJ hs=>by
      rcases hs with hs|⟨b,bW,e⟩
      ·exact hk (.inl hs)
      ·rcases nb15 b bW with⟨a',pI,e2⟩|h
       ·exact hk (.inr ⟨a',pI,by rw[e,e2]⟩)
       ·omega
     have d15:Fj (λk=>¬S5 k/\k<w6.heap.size) fO YJ rQ:=(d5.kp KP oh).aK KP Ej λk hk _ h=>by have:=(q5.BK k h).1;omega
     have o15:=Db.aK Ej λ⟨b,bW,e⟩=>by have:=rhlt b bW;omega
     have hl15:(hs++[(⟨en.aL,g.aP,true,m⟩:yW)]).length<=i+1:=by simp;omega
     refine aE (k:=.i) m.kind (cM o15 rfl) (aF (λhbye=>?_) (λ_=>?_))
     ·refine aA rfl (aE (k:=.ptr) (some ⟨v5.tp,0,none⟩) (h15.cell rfl) ?_)
      refine cC (cs:=eI (en.aL:Int)) λgR b16 Ka z16=>?_;have bd15:=bF.gH h15;refine ur (bF.kp h15 Ka) LK (iV fH [(en.aL:Int)] b16 rfl dL) (λb bW=>by cases bW;exact⟨λhs=>by have h1:fO.heap.size<fO.heap.size:=bd15 _ hs;omega,b16.1.lt⟩) λ_ iZ S17 h17 u17 ok17 _=>?_;have U17:=(Up.aN (S:=S5) Ka).tr u17;refine dR r rh' ps _ _ iZ S17 h17 (u15.tr U17) ((r15.sub λk hk=>.inl hk).up U17) ((q15.sub λk hk=>.inl hk).up U17) ok17 aB Mr ⟨Vo.cQ,Vo.u,Vo.dO,λf hf=>Vo.aT f (jE.1 hf).1⟩ (λh0=>by rw[h0] at dJ;simp at dJ) aB
     ·have h15d:=bF.dr h15
      have o15d:=o15.aK (bN fO) id;have csp:=h15d.UY Kd (k:=3) rfl;have cel:fO.drew.cell? ((⟨en.a,0,none⟩:Addr).add 3)=some (.pointer (some ⟨Pq.sp,0,none⟩)):=by rw[<-ha2];exact csp
      refine aA rfl (aE (k:=.ptr) (some ⟨Pq.sp,0,none⟩) cel (aE (k:=.i) m.pos (cM o15d rfl) (aA rfl (aE (k:=.ptr) (some ⟨v5.sp,0,none⟩) (h15d.cell rfl) ?_))));obtain⟨SU,hU,_⟩:=h15d.sset;refine Se hU LK.u.2 λmk lE v18 Tt f18=>?_;have K18:=(bN fO).tr Tt;have xj:=bF.kp h15 K18;have o18:=o15.aK K18 id;have cel18:lE.cell? ((⟨en.a,0,none⟩:Addr).add 3)=some (.pointer (some ⟨Pq.sp,0,none⟩)):=by rw[<-ha2];exact xj.UY Kd (k:=3) rfl
      refine⟨cM o18 rfl,cel18,?_⟩;have U18:Up S S5 wb lE:=u15.tr (Up.aN K18);have hb18:Bs W0 E G S5 lE:=(hb.kp Kb).up U18;obtain⟨S9,h9,hs9,say9⟩:=xj.sesSay hb18 LK Kd;have bd15:=bF.gH h15;have z18:=K18.size;have wd:fO.drew.heap.size=fO.heap.size:=rfl;refine SRep_i (hb18.sub hs9) h9 (LK.yN Pq Kd) (v18.rd Uw) (λb bW hs=>by have:=bd15 _ (hs9 _ hs);have:=f18 b bW;omega) λz ms nM T hz hT uT okz Uk Ul=>?_;rw[eadr];refine say9 z nM T ms uT hT okz Uk aB _ λrs pps v6 yM S20 hsd h20 u20 r20 ok20=>?_;have UU:Up S5 S20 fO yM:=(Up.aN K18).tr u20;have r20':=r15.aK (S':=λk=>S20 k\/BL rh' k) UU.m (λk _ hk _ h=>hk (.inl h)) λk hk cJ hs=>hs.elim (λhs=>(UU.s k hs).elim (λh=>hk (.inl h)) λh=>aB) λhs=>hk (.inr hs);have rhlt':∀b,rh'.b=some b->b.block<fO.heap.size:=λb bW=>q15.lt bW;have rs20:rD lE.heap.size (λk=>S20 k\/BL rh' k) yM rs pps:=r20.cov λk hk=>hk.imp id λ⟨b,bW,e⟩=>by have:=rhlt' b bW;omega
      have hm5':Pq∈(v5.uY Pq.aL z.1).t.aT:=Kd;have yg:=xV.YF hm5' hsd ok20;have e7:((v5.uY Pq.aL z.1).ch Pq.aL)=v5.ch en.aL:=by show v5.ch Pq.aL=_;rw[Ky]
      rw[e7,Ky] at yg;have ew:(v5.uY en.aL z.1).cQ.cO=v.cQ.cO:=by show v5.cQ.cO=_;rw[Tq.cQ,e1]
      have hcw:=yg.2;rw[ew] at hcw;have z20:=UU.size;have bd20:=bF.gH h20;have r5lt:∀b,r.b=some b->b.block<fO.heap.size:=λb bW=>r15.lt bW;have lsum:ps.length+pps.length<=1000000:=by have:=yg.1;omega
      refine eJ.fy jS MD MA aB r20' rs20 aB (λb bW=>by have:=r5lt b bW;omega) lsum aB (λk hk=>hk.elim (bd20 k) λ⟨b,bW,e⟩=>by have:=rhlt' b bW;omega) λr' AU v21 vw nb21=>?_;have nR:∀k,S20 k->¬BL r k:=λk hk h=>(r20'.BK k h).2 (.inl hk);have h21:gC E.e a v6 AU S20:=bF.aK h20 vw nR;have m21':=vw.mono (G:=λk=>wb.heap.size<=k/\¬S20 k) λk _ hk=>⟨by have:=(r20'.BK k hk).1;have:=UA.size;omega,λhs=>nR k hs hk⟩;have u21:Up S S20 wb AU:=Up.iH (u15.tr UU) m21';have q20:Qq w6.heap.size (λk=>S20 k\/BL r k) yM rh' (hs++[⟨en.aL,g.aP,true,m⟩]):=q15.aK (S':=λk=>S20 k\/BL r k) UU.m (λk _ hk _ h=>hk (.inl h)) λk hk cJ hs=>hs.elim (λhs=>(UU.s k hs).elim (λh=>hk (.inl h)) λh=>aB) λhs=>hk (.inr hs);have q21:Qq w6.heap.size (λk=>S20 k\/BL r' k) AU rh' (hs++[⟨en.aL,g.aP,true,m⟩]):=q20.aK vw (λk _ hk _ h=>hk (.inr h)) λk hk cJ hs=>by
       rcases hs with hs|⟨b,bW,e⟩
       ·exact hk (.inl hs)
       ·rcases nb21 b bW with⟨a',pI,e2⟩|h
        ·exact hk (.inr ⟨a',pI,by rw[e,e2]⟩)
        ·omega
      have d21:Fj (λk=>¬S20 k/\k<w6.heap.size) AU YJ rQ:=((d15.aK KP UU.m λk hk _=>hk.1).wk λk hk _=>⟨λhs=>(UU.s k hs).elim hk.1 λh=>by have:=hk.2;omega,hk.2⟩).aK KP vw λk hk _ h=>by have:=(r20'.BK k h).1;have:=hk.2;omega
      have z21:=vw.size;refine hX _ _ _ aB ⟨i+1,r',rh',ps++pps,_,v6,S20,dJ,rfl,rfl,h21,u21,v21,q21,ok20,Tq.tr ((⟨rfl,rfl,rfl,rfl,rfl,rfl,rfl,rfl⟩:qL v5 (v5.uY Pq.aL z.1)).tr hsd.same),by rw[mL];have:=yg.1;omega,hl15,λx hx=>?_,d21,λh0=>aB,aB⟩;rcases jK.1 hx with hx|hx
      ·exact Mr x hx
      ·exact(xV.vv hm5' hsd x hx).1
    refine aF (λ_=>skip) (λ_=>aE (k:=.i) m.kind (cM Db rfl) (aF (λ_=>aE (k:=.i) m.kind (cM Db rfl) (aF (λ_=>skip) (λ_=>j2))) (λ_=>j2)))
   ·have ei:i=rQ.length:=aB
    subst ei;refine dR r rh ps hs v5 w9 S5 h5 u5 (r5.sub λk hk=>.inl hk) (q5.sub λk hk=>.inl hk) LK aB Mr Vo (λh0=>?_) aB;obtain⟨x1,x2,x3⟩:=hz5 (by rw[h0];rfl);exact⟨x1.trans (e6 h0),by rw[x2];exact f7,x3⟩
  have z7:=k7.size;have hA7:=bF.kp hA k7;have bA:=bF.gH hA;have v7':rD w6.heap.size SA w7 r1 RK:=v7.sub λk hk=>bA k hk;have d7:Fj (λk=>¬SA k/\k<w6.heap.size) w7 YJ rQ:=(rowD.wk λk h1 h2=>⟨h1,h2⟩).kp KP k7;have ech:(v.oQ en.aL c1).ch en.aL=c1:=if_pos rfl;have U7:=UA.tr (Up.aN k7);have ldg:=rowD.len;refine aJ (λuR=>?_) (λhz=>?_)
  ·refine aA rfl (aE (k:=.i) v.dO (hA7.cell rfl) (aA rfl ?_))
   obtain⟨ix,hix⟩:=List.getElem?_of_mem dm;refine hA7.kO okv1 (i:=ix) (e:=en) hix λDH S22 h22 u22=>?_;have hent:=ok.Df en dm;have RX:=ok.dO;refine j1 ((v.oQ en.aL c1).KN ix {en with kO:=v.dO}) DH S22 h22 (U7.tr u22) (v7'.up u22) (touch_ok okv1 (e:=en) hix rfl rfl rfl ⟨RX.1,oY _⟩) ((d7.aK KP u22.m λk hk _=>hk.1).wk λk hk _=>⟨λhs=>(u22.s k hs).elim hk.1 λh=>by have:=hk.2;omega,hk.2⟩) ⟨{en with kO:=v.dO},(sG (e':={en with kO:=v.dO}) ok.t.rP hix rfl).2 (.inl rfl),rfl,rfl,rfl⟩ rfl rfl rfl (λf hf=>?_) ech (λh0=>?_) (by have:=u22.size;omega)
   ·rcases(sG (e':={en with kO:=v.dO}) ok.t.rP hix rfl).1 hf with rfl|⟨hf,_⟩
    ·exact⟨en,dm,rfl⟩
    ·exact⟨f,hf,rfl⟩
   ·rw[h0] at ldg;simp at ldg;omega
  ·exact j1 (v.oQ en.aL c1) w7 SA hA7 U7 v7' okv1 d7 ⟨en,dm,rfl,rfl,rfl⟩ rfl rfl rfl (λf hf=>⟨f,hf,rfl⟩) ech (λ_=>rfl) z7
 ·refine aF (λ_=>bJ (l:=kG) (IY (g,sl)) tg ?_) (λh=>by cases h)
  refine begin_i h3 (hb.kp K3d) okB aB hp16 rdg og lgb Kh.seq ⟨aB,aB⟩ λr rh ps hs v' w5 S5 g1 g2 g3 g4 g5 g6=>?_;have cn:=g6.YF ok.cQ.cO.2 g5;exact hQ r rh ps hs v' w5 S5 ⟨g1,(Up.aN K3d).tr g2,g3.qF K3d.size,g4.qF K3d.size,g5,cn.1,cn.2.1,cn.2.2.1,.inr ⟨g,e,Kh,.inr ⟨Wc,.inl ⟨by rw[kE];exact vU,by rw[kE];exact g6⟩⟩⟩,cn.2.2.2⟩
end
end
section
structure Quiet(c:lH):Prop where
 iH:c.s.iH=false
 yO:∀x,¬c.s.yO x
 gU:c.gU=[]
structure dx(c c':lH):Prop where
 cO:c'.s.cO=c.s.cO
 next:c'.s.next=c.s.next
 f:c'.s.f=c.s.f
 n:c'.s.n=c.s.n
 aP:c'.aP=c.aP
 t:c'.t=c.t
 q:Quiet c'
theorem dx.refl{c:lH}(h:Quiet c):dx c c:=⟨rfl,rfl,rfl,rfl,rfl,rfl,h⟩
theorem dx.tr{c c' c'':lH}(h:dx c c')(h':dx c' c''):dx c c'':=⟨h'.cO.trans h.cO,h'.next.trans h.next,h'.f.trans h.f,h'.n.trans h.n,h'.aP.trans h.aP,h'.t.trans h.t,h'.q⟩
theorem Ig{c c':lH}{gs:List gA}{e:Int}(q:Quiet c)(h:qv c gs e c'):gs=[]/\e=0/\dx c c':=by
 obtain⟨s1,L,e0,⟨a1,a2,a3,a4,a5⟩,QB,hL,h4,h5,h⟩:=h;obtain⟨rfl,rfl⟩:=h4 q.iH q.yO;rw[if_pos rfl] at h;obtain⟨rfl,rfl,rfl⟩:=h;have hp:(⟨s1,c.aP,c.t,c.gU⟩:lH).nQ=([],⟨s1,c.aP,c.t,[]⟩):=by
  show lH.UQ s1 c.aP c.t.next c.t c.gU=_
  rw[q.gU];rfl
 rw[hp];exact⟨rfl,rfl,a1,a2,a3,a4,rfl,rfl,(h5 rfl).trans q.iH,λx hx=>q.yO x (a5 x hx),rfl⟩
def jj(v:iQ):Prop:=(∀e∈v.t.aT,Quiet (v.ch e.aL))/\∀k,(v.lf k).getD (false:Bool)=false
def Vd(v:iQ)(e:dG):Bool:=decide (e.kO+v.cQ.idle<=v.dO+1)
structure TickO(G:Gr)(B:Int)(ee a:Nat)(v:iQ)(w:aH)(S:BS)(r:Sl)(ps:List Pk)(v':iQ)(w':aH)(S':BS):Prop where
 Bt:gC ee a v' w' S'
 up:Up S S' w w'
 row:rD w.heap.size S' w' r ps
 ok:v'.Ok G B
 cQ:v'.cQ=v.cQ
 dO:v'.dO=v.dO+1
 u:v'.u=RW (v.dO+1) v.u (mF 0 v.u)
 aT:∀f∈v'.t.aT,f∈v.t.aT
 len:ps.length<=v.cQ.kV*(2*v.cQ.cO+1)
 vv:∀q∈ps,q.2.length<=3000
 q:jj v->(UT (v.dO+1) (mF 0 v.u)=[]\/v.t.aT=[])->v'.t.aT=v.t.aT.filter (λe=>!Vd v e)/\v'.t.gr=v.t.gr/\F2 (λe p=>du (e.aL:Int) ⟨e.aP,3,0,0,3,[]⟩ p) (v.t.aT.filter λe=>Vd v e) ps/\(∀e∈v.t.aT,dx (v.ch e.aL) (v'.ch e.aL))/\v'.yN=v.yN/\∀k,(v'.lf k).getD (false:Bool)=false
def iQ.TA(v:iQ)(n:Int):iQ:={v with dO:=n}
theorem setLf_ok{G:Gr}{B:Int}{v:iQ}(ok:v.Ok G B){e:dG}(he:e∈v.t.aT)(b:Bool):(v.Al e.a b).Ok G B:=
 ⟨ok.cQ,ok.dO,ok.u,ok.t,ok.eQ,ok.ch,ok.yN,ok.Df,λk hk=>by
  by_cases h:k=e.a
  ·exact .inl ⟨e,he,h.symm⟩
  ·refine ok.lost k ?_
   have:(v.Al e.a b).lf k=v.lf k:=if_neg h;rw[<-this];exact hk⟩
section
variable{W0 w:aH}{S:BS}{a:Nat}{v:iQ}{E:uL}{G:Gr}{B:Int}{ee:Nat}
theorem gC.Ge(h:gC ee a v w S)(ok:v.Ok G B){e:dG}(he:e∈v.t.aT){Q:Bool->aH->Prop}(hQ:Q ((v.lf e.a).getD (false:Bool)) w):jY prog (.c .bool) 98 (.map (some v.lp)) (.pointer (wZ e)) w Q:=by
 obtain⟨SC,SS,hC,_⟩:=h;exact hC.Ge ok he hQ
theorem gC.mark(h:gC ee a v w S)(ok:v.Ok G B){e:dG}(he:e∈v.t.aT)(b:Bool){Q:aH->Prop}(hQ:∀w' S',gC ee a (v.Al e.a b) w' S'->Up S S' w w'->Q w'):fF prog 98 (.map (some v.lp)) (.pointer (wZ e)) (.bool b) w Q:=by
 obtain⟨S1,h1,_,dN⟩:=(aZ.l h).put;refine h1.mark ok he b λw' S' h' u'=>?_;obtain⟨S2,h2,u2⟩:=dN _ w' S' u' h';exact hQ w' S2 h2 u2
theorem gC.tick(h:gC ee a v w S)(n:Int){Q:aH->Prop}(hQ:∀w' S',gC ee a (v.TA n) w' S'->Up S S' w w'->Q w'):aI prog cY ((⟨a,0,none⟩:Addr).add 9) (aD n) w Q:=by
 obtain⟨S1,h1,_,dN⟩:=((aZ.l h).c λT hT=>gE.at hT .Bt).put;refine pA h1 cU dL rfl rfl λw' b' u'=>?_;obtain⟨S2,h2,u2⟩:=dN (sB a xA (UZ ee (v.TA n))) w' S1 u' b';refine hQ w' S2 (h2.mono (λ_ h=>?_) λ_ h=>h) u2;have e:ES (QF ee a v) .Bt (sB a xA (UZ ee (v.TA n)))=QF ee a (v.TA n):=by
  funext i
  cases i<;>rfl
 unfold kX;rw[<-e];exact h
theorem gC.clear(h:gC ee a v w S){Q:aH->Prop}(hQ:∀w' S',gC ee a {v with lf:=λ_=>none,ln:=0} w' S'->Up S S' w w'->Q w'):BX prog 98 (.map (some v.lp)) w Q:=by
 obtain⟨S1,h1,_,dN⟩:=((aZ.l h).c λT hT=>gE.at hT .lost).put;refine aAn gj h1.1 λw' wo mm' _=>?_;obtain⟨S2,h2,u2⟩:=dN (uJ v.lp yP Jy (λ_=>none) 0) w' S1 (Up.at (mm'.mono λk _ hk=>(h1.2 k).2 hk)) ⟨wo,h1.2⟩;refine hQ w' S2 (h2.mono (λ_ h=>?_) λ_ h=>h) u2;have e:ES (QF ee a v) .lost (uJ v.lp yP Jy (λ_=>none) 0)=QF ee a {v with lf:=λ_=>none,ln:=0}:=by
  funext i
  cases i<;>rfl
 unfold kX;rw[<-e];exact h
theorem eJ.upX{α β:Type}{eb:β->List Value}[VK eb]{ty:TypeId}{n lo:Nat}{aY:α×Sl->List Value}{xO:α->List β}{S S' X:BS}{w w':aH}{r:Sl}{ps:List α}(h:eJ eb ty n aY xO lo (λk=>S k\/X k) w r ps)(u:Up S S' w w'):eJ eb ty n aY xO lo (λk=>S' k\/X k) w' r ps:=
 h.aK u.m (λk _ hk _ h=>hk (.inl h)) λk hk cJ hs=>hs.elim (λhs=>(u.s k hs).elim (λh=>hk (.inl h)) λh=>aB) λhs=>hk (.inr hs)
theorem Nt{α:Type}{n lo:Nat}{aY:α->List Value}{xs:List α}{s:Sl}{S S':BS}{w w' Cy:aH}(gF:∀x,aY x≠[])(hr:Rd w s n aY xs)(ho:AY s S w)(u:Up S S' w w')(m:aW (λk=>lo<=k/\¬(S' k\/BL s k)) w' Cy):Rd Cy s n aY xs/\AY s S' Cy:=
 ⟨(ho.rd u hr gF).aK m gF λb hb hk=>hk.2 (.inr ⟨b,hb,rfl⟩),λb hb=>⟨(ho.up u b hb).1,mD (ho.up u b hb).2 m.size⟩⟩
theorem passes_i{v0:iQ}{HQ:Prop}{s3:Sl}{lo c0:Nat}{S0:BS}{w0:aH}{r0:Sl}{Mp:List Pk}{Q:Sl×Int×Unit->aH->Prop}(h:gC E.e a v w S)(u0:Up S0 S w0 w)(hlo0:w0.heap.size<=lo)(YD:lo<=w.heap.size)(ok:v.Ok G B)(nO:rD lo (λk=>S k\/BL s3 k) w r0 Mp)(hc0:Mp.length<=c0)(bw:c0<=1000)(hpk:∀q∈Mp,q.2.length<=3000)(hr:Rd w s3 1 Lb (v.t.aT.map wZ))(hro:AY s3 S w)
  (hq0:HQ->Mp=[]/\(∀e∈v.t.aT,dx (v0.ch e.aL) (v.ch e.aL))/\v.yN=v0.yN/\∀k,(v.lf k).getD (false:Bool)=false)
  (hQ:∀r ps v' w' S',gC E.e a v' w' S'->Up S0 S' w0 w'->rD lo S' w' r ps->v'.Ok G B->qL v v'->ps.length<=c0+v.t.aT.length*v.cQ.cO->(∀q∈ps,q.2.length<=3000)->(HQ->ps=[]/\(∀e∈v.t.aT,dx (v0.ch e.aL) (v'.ch e.aL))/\v'.yN=v0.yN/\∀k,(v'.lf k).getD (false:Bool)=false)->lo<=w'.heap.size->Q (r,(v.t.aT.length:Int),()) w'):
  ∀X1:(Sl×Int×Unit)->aH->Prop,(∀(t1:Sl×Int×Unit) (w5:aH),(
 cond (decide (t1.2.1<(s3.l:Int)))
 ((0<=t1.2.1/\t1.2.1<(s3.l:Int))/\
 aC s3.b λa6=>
 xL .ptr w5 (a6.add (Int.toNat t1.2.1*1)) λ(p3:cL)=>
 aC p3 λa7=>
 xL .ptr w5.drew (a7.add 2) λ(p4:cL)=>
 aC (some ⟨a,0,none⟩:cL) λa8=>
 xL .i w5.drew (a8.add 9) λ(x3:Int)=>
 AS p4 x3 w5.drew λ(s4:Sl) (x4:Int) w6=>
 aC (some ⟨a,0,none⟩:cL) λa9=>
 xL .map w6.drew (a9.add 10) λ(m1:Option Nat)=>
 aC (some ⟨a,0,none⟩:cL) λtP=>
 xL .map w6.drew (tP.add 10) λ(m2:Option Nat)=>
 jY prog (.c .bool) 98 (Value.map m2) (Value.pointer p3) w6.drew λ(x5:Bool) w7=>
 w7.cell? (a9.add 10)=some (Value.map m1)/\
 cond x5
 (fF prog 98 (Value.map m1) (Value.pointer p3) (Value.bool true) w7 λw8=>
 aC p3 λDJ=>
 xL .i w8 (DJ.add 0) λ(x6:Int)=>
 eX x6 s4 w8 λ(s5:Sl) w9=>
 aX prog 155 155 t1.1 (Value.slice s5.b s5.l s5.c) w9 λ(s6:Sl) eV=>
 X1 (s6,(aQ (t1.2.1+(1:Int))),()) eV)
 (fF prog 98 (Value.map m1) (Value.pointer p3) (Value.bool (x4 !=(0:Int))) w7 λeE=>
 aC p3 λKL=>
 xL .i eE (KL.add 0) λ(x7:Int)=>
 eX x7 s4 eE λ(s7:Sl) eR=>
 aX prog 155 155 t1.1 (Value.slice s7.b s7.l s7.c) eR λ(s8:Sl) gO=>
 X1 (s8,(aQ (t1.2.1+(1:Int))),()) gO))
 (Q t1 w5))->X1 t1 w5)->
 X1 (r0,(0:Int),()) w:=by
 have sl:=hr.len;rw[oL] at sl;have olen:=ok.t.len;have pw:=ok.t.eQ;have CV:=ok.cQ.cO;refine bO (λn t w5=>∃(i:Nat) (r:Sl) (ps:List Pk) (v5:iQ) (S5:BS),i<=v.t.aT.length/\n=v.t.aT.length-i/\t=(r,(i:Int),())/\gC E.e a v5 w5 S5/\Up S0 S5 w0 w5/\rD lo (λk=>S5 k\/BL s3 k) w5 r ps/\v5.Ok G B/\qL v v5/\ps.length<=c0+i*v.cQ.cO/\(∀q∈ps,q.2.length<=3000)/\(HQ->ps=[]/\(∀e∈v.t.aT,dx (v0.ch e.aL) (v5.ch e.aL))/\v5.yN=v0.yN/\∀k,(v5.lf k).getD (false:Bool)=false)/\Rd w5 s3 1 Lb (v.t.aT.map wZ)/\AY s3 S5 w5/\lo<=w5.heap.size) v.t.aT.length
  ⟨0,r0,Mp,v,S,iG _,rfl,rfl,h,u0,nO,ok,qL.refl v,aB,hpk,hq0,hr,hro,YD⟩ ?_
 rintro n t w5 ⟨i,r,ps,v5,S5,hi,rfl,rfl,h5,u5,r5,LK,Tq,hl5,Mr,hq5,Cz,os5,zz5⟩ X hX;dsimp only;refine aJ (λcJ=>?_) (λkT=>?_)
 ·have dJ:i<v.t.aT.length:=aB
  have cV:=gS dJ;have fP:=nE dJ;generalize v.t.aT[i]=e at*;have Kd:e∈v5.t.aT:=by rw[Tq.t];exact fP
  obtain⟨q,hq,cq⟩:=cF (k:=.ptr) (e:=λx=>x) Cz (show(v.t.aT.map wZ)[i]? =some (wZ e) by rw[mG,cV];rfl);rw[kE,qA i aB];have hd:=bF.dr h5;have Ub:=sR.ML LK.t Kd;refine⟨⟨aB,cJ⟩,aA hq (aE (k:=.ptr) (wZ e) cq (aA rfl (aE (k:=.ptr) (some ⟨e.cp,0,none⟩) (hd.UY Kd rfl) (aA rfl (aE (k:=.i) v5.dO (hd.cell rfl) ?_)))))⟩;obtain⟨S6,h6,Pn,xU⟩:=hd.Vq Ub;have kH:=LK.ch e Kd;refine vj h6 kH.1 λrg gs x4 c' w6 S7 h7 u7 Ui IL=>?_;obtain⟨S8,h8,u8⟩:=xU _ _ w6 S7 u7 h7;obtain⟨S9,h9,u9,g9⟩:=VQ h8;have pf:=Ih kH.1 Ui;have ok9:(v5.oQ e.aL c').Ok G B:=Gp LK Kd ⟨IL,pf.2.1.trans kH.2.1,pf.1.trans kH.2.2.1,by rw[pf.2.2.1];exact kH.2.2.2⟩ (oY _);have hm9:e∈(v5.oQ e.aL c').t.aT:=Kd;have h9d:=bF.dr h9;have U9:Up S5 S9 w5 w6.drew:=(((Up.aN (bN w5)).tr u8).tr u9).tr (Up.aN (bN w6));have g9d:=g9.kp QO (bN w6);refine aA rfl (aE (k:=.map) (some v5.lp) (h9d.cell rfl) (aA rfl (aE (k:=.map) (some v5.lp) (h9d.cell rfl) ?_)));refine h9d.Ge ok9 hm9 ⟨h9d.cell rfl,?_⟩;have l16:gs.length<=v.cQ.cO:=by
   have h2:=IL.s.yR;rw[pf.1,kH.2.2.1,Tq.cQ] at h2;omega
  have go:∀bb:Bool,(HQ->bb=false)->fF prog 98 (Value.map (some v5.lp)) (Value.pointer (wZ e)) (Value.bool bb) w6.drew λw8=>aC (wZ e) λDJ=>xL .i w8 (DJ.add 0) λ(x6:Int)=>eX x6 rg w8 λ(s5:Sl) w9=>aX prog 155 155 r (Value.slice s5.b s5.l s5.c) w9 λ(s6:Sl) eV=>X (s6,((i+1:Nat):Int),()) eV:=λbb LH=>by
   refine h9d.mark ok9 hm9 bb λw8 FR IQ Ef=>?_;have Lf:=setLf_ok ok9 hm9 bb;have hm10:e∈((v5.oQ e.aL c').Al e.a bb).t.aT:=Kd;refine aA rfl (aE (k:=.i) (e.aL:Int) (IQ.UY hm10 rfl) ?_);refine AL (g9d.up QO Ef) aB (λg hg=>by have:=pf.2.2.2.2 g hg;omega) λrp pps eE KU v11 f11=>?_;have U11:Up S5 FR w5 eE:=(U9.tr Ef).tr (Up.aN KU);have Kk:=bF.kp IQ KU;have bd10:=bF.gH IQ;have z8:=(U9.tr Ef).size;have z11:=KU.size;have fl:=f11.len;have im:i*v.cQ.cO<=16*16:=EX aB CV.2;refine eJ.app jS MD MA aB (r5.upX U11) (v11.sub λk hk=>hk.elim (bd10 k) λ⟨b,hb,e⟩=>by have:=(os5 b hb).2;omega) aB (λb hb=>mD (r5.lt hb) z8) aB aB (λk hk=>hk.elim (bF.gH Kk k) λ⟨b,hb,e⟩=>by have:=(os5 b hb).2;omega) λr' eR YA mX=>?_;have Ad:=mX.mono (G:=λk=>lo<=k/\¬FR k) λk _ hk=>⟨hk.1,λh=>hk.2 (.inl h)⟩;have U12:Up S0 FR w0 eR:=Up.iH (u5.tr U11) (Ad.mono λk _ hk=>⟨by have:=hk.1;omega,hk.2⟩);obtain⟨x1,x2⟩:=Nt FF Cz os5 U11 mX;refine hX _ _ _ aB ⟨i+1,r',ps++pps,_,FR,dJ,rfl,rfl,bF.ov Kk Ad,U12,YA,Lf,Tq.tr ⟨rfl,rfl,rfl,rfl,rfl,rfl,rfl,rfl⟩,?_,λq hq=>?_,λnt=>?_,x1,x2,by have:=Ad.size;omega⟩
   ·rw[mL,Nat.add_mul,Nat.one_mul];omega
   ·rcases jK.1 hq with hq|hq
    ·exact Mr q hq
    ·obtain⟨_,_,hp⟩:=f11.mem hq;exact hp.2.1
   ·obtain⟨y1,y2,y3,y4⟩:=hq5 nt
    have pq:=Ig (y2 e fP).q Ui;have hpps:pps=[]:=by
     rw[pq.1] at fl;exact Ce fl.symm
    refine⟨by rw[y1,hpps];rfl,λf hf=>?_,y3,λk=>?_⟩
    ·show dx _ (if f.aL=e.aL then c' else v5.ch f.aL)
     by_cases hfe:f.aL=e.aL
     ·rw[if_pos hfe]
      have:=y2 e fP;rw[<-hfe] at this pq;exact this.tr pq.2.2
     ·rw[if_neg hfe];exact y2 f hf
    ·by_cases hk:k=e.a
     ·have e1:((v5.oQ e.aL c').Al e.a bb).lf k=some bb:=if_pos hk
      rw[e1];exact LH nt
     ·have e1:((v5.oQ e.aL c').Al e.a bb).lf k=v5.lf k:=if_neg hk
      rw[e1];exact y4 k
  refine aF (λhx=>go true λnt=>?_) (λ_=>go (x4 !=(0:Int)) λnt=>?_)
  ·have:=(hq5 nt).2.2.2 e.a
   have Bv:(v5.lf e.a).getD (false:Bool)=true:=hx;rw[this] at Bv;cases Bv
  ·have:=(Ig ((hq5 nt).2.1 e fP).q Ui).2.1
   rw[this];rfl
 ·have ei:i=v.t.aT.length:=aB
  subst ei;exact hQ r ps v5 w5 S5 h5 u5 (r5.sub λk hk=>.inl hk) LK Tq hl5 Mr hq5 zz5
def gone(v:iQ)(e:dG):Bool:=(v.lf e.a).getD (false:Bool) ||decide (e.kO+v.cQ.idle<=v.dO)
theorem drops_i{s9:Sl}{lo c0:Nat}{S0:BS}{w0:aH}{r0:Sl}{Mp:List Pk}{Q:Sl->aH->Prop}(h:gC E.e a v w S)(u0:Up S0 S w0 w)(hlo0:w0.heap.size<=lo)(YD:lo<=w.heap.size)(ok:v.Ok G B)(nO:rD lo (λk=>S k\/BL s9 k) w r0 Mp)(hc0:Mp.length<=c0)(bw:c0<=1000)(hpk:∀q∈Mp,q.2.length<=3000)(hr:Rd w s9 1 Lb (v.t.aT.map wZ))(hro:AY s9 S w)
  (hQ:∀r ps v' w' S',gC E.e a v' w' S'->Up S0 S' w0 w'->rD lo S' w' r (Mp++ps)->v'.Ok G B->v'.cQ=v.cQ->v'.dO=v.dO->v'.u=v.u->v'.t.gr=v.t.gr->v'.ch=v.ch->v'.yN=v.yN->v'.lf=v.lf->v'.t.aT=v.t.aT.filter (λe=>!gone v e)->F2 (λe p=>du (e.aL:Int) ⟨e.aP,3,0,0,3,[]⟩ p) (v.t.aT.filter λe=>gone v e) ps->lo<=w'.heap.size->aC (some ⟨a,0,none⟩:cL) λa29=>xL .map w' (a29.add 10) λ(m4:Option Nat)=>BX prog 98 (Value.map m4) w' λAa=>Q r Aa):
  ∀X2:(Sl×Int×Unit)->aH->Prop,(∀(t2:Sl×Int×Unit) (fO:aH),(
 cond (decide (t2.2.1<(s9.l:Int)))
 ((0<=t2.2.1/\t2.2.1<(s9.l:Int))/\
 aC s9.b λUL=>
 xL .ptr fO (UL.add (Int.toNat t2.2.1*1)) λ(p6:cL)=>
 aC (some ⟨a,0,none⟩:cL) λEo=>
 xL .map fO.drew (Eo.add 10) λ(m3:Option Nat)=>
 jY prog (.c .bool) 98 (Value.map m3) (Value.pointer p6) fO.drew λ(x8:Bool) gR=>
 cond x8
 (aC (some ⟨a,0,none⟩:cL) λYG=>
 xL .ptr gR.drew (YG.add 8) λ(p7:cL)=>
 aC p6 λMv=>
 xL .i gR.drew (Mv.add 0) λ(x9:Int)=>
 aG gR.drew #[aD x9] 3 λMu iZ=>
 iZ.cell? (YG.add 8)=some (Value.pointer p7)/\
 pO p7 ⟨(some Mu),1,1⟩ iZ λ(_:Sl) lE=>
 aC p6 λa19=>
 xL .i lE.drew (a19.add 0) λ(rY:Int)=>
 aC p6 λxn=>
 xL .i lE.drew (xn.add 1) λ(xK:Int)=>
 eN rY xK (3:Int) lE.drew λ(KT:Sl) nM=>
 aX prog 155 155 t2.1 (Value.slice KT.b KT.l KT.c) nM λ(QA:Sl) yM=>
 X2 (QA,(aQ (t2.2.1+(1:Int))),()) yM)
 (aC p6 λa21=>
 xL .i gR (a21.add 4) λ(Jv:Int)=>
 aC (some ⟨a,0,none⟩:cL) λa22=>
 xL .i gR ((a22.add 1).add 5) λ(Tp:Int)=>
 aC (some ⟨a,0,none⟩:cL) λa23=>
 xL .i gR (a23.add 9) λ(x14:Int)=>
 cond (decide ((aQ (Jv+Tp))<=x14))
 (aC (some ⟨a,0,none⟩:cL) λa24=>
 xL .ptr gR.drew (a24.add 8) λ(p8:cL)=>
 aC p6 λa25=>
 xL .i gR.drew (a25.add 0) λ(x15:Int)=>
 aG gR.drew #[aD x15] 3 λa26 AU=>
 AU.cell? (a24.add 8)=some (Value.pointer p8)/\
 pO p8 ⟨(some a26),1,1⟩ AU λ(_:Sl) DH=>
 aC p6 λa27=>
 xL .i DH.drew (a27.add 0) λ(x16:Int)=>
 aC p6 λa28=>
 xL .i DH.drew (a28.add 1) λ(x17:Int)=>
 eN x16 x17 (3:Int) DH.drew λ(Mo:Sl) Ee=>
 aX prog 155 155 t2.1 (Value.slice Mo.b Mo.l Mo.c) Ee λ(s15:Sl) Ab=>
 X2 (s15,(aQ (t2.2.1+(1:Int))),()) Ab)
 (X2 (t2.1,(aQ (t2.2.1+(1:Int))),()) gR)))
 (aC (some ⟨a,0,none⟩:cL) λa29=>
 xL .map fO (a29.add 10) λ(m4:Option Nat)=>
 BX prog 98 (Value.map m4) fO λAa=>
 Q t2.1 Aa))->X2 t2 fO)->
 X2 (r0,(0:Int),()) w:=by
 have sl:=hr.len;rw[oL] at sl;have olen:=ok.t.len;have pw:=ok.t.eQ;have RX:=ok.dO;have hidle:=ok.cQ.idle;have lM:DU v.t.aT:=ok.t.rP;refine bO (λn t w5=>∃(i:Nat) (r:Sl) (ps:List Pk) (v5:iQ) (S5:BS),i<=v.t.aT.length/\n=v.t.aT.length-i/\t=(r,(i:Int),())/\gC E.e a v5 w5 S5/\Up S0 S5 w0 w5/\rD lo (λk=>S5 k\/BL s9 k) w5 r (Mp++ps)/\v5.Ok G B/\(v5.cQ=v.cQ/\v5.dO=v.dO/\v5.u=v.u/\v5.t.gr=v.t.gr/\v5.ch=v.ch/\v5.yN=v.yN/\v5.lf=v.lf)/\v5.t.aT=(v.t.aT.take i).filter (λe=>!gone v e)++v.t.aT.drop i/\F2 (λe p=>du (e.aL:Int) ⟨e.aP,3,0,0,3,[]⟩ p) ((v.t.aT.take i).filter λe=>gone v e) ps/\Rd w5 s9 1 Lb (v.t.aT.map wZ)/\AY s9 S5 w5/\lo<=w5.heap.size) v.t.aT.length
  ⟨0,r0,[],v,S,iG _,rfl,rfl,h,u0,by rw[tD];exact nO,ok,⟨rfl,rfl,rfl,rfl,rfl,rfl,rfl⟩,by simp,.nil,hr,hro,YD⟩ ?_
 rintro n t w5 ⟨i,r,ps,v5,S5,hi,rfl,rfl,h5,u5,r5,LK,⟨e1,e2,e3,e4,e5,e6,e7⟩,GM,f5,Cz,os5,zz5⟩ X hX;dsimp only;refine aJ (λcJ=>?_) (λkT=>?_)
 ·have dJ:i<v.t.aT.length:=aB
  have cV:=gS dJ;have fP:=nE dJ;have rV:=FQ dJ;have hdr:=List.drop_eq_getElem_cons dJ;generalize v.t.aT[i]=e at*;have Kd:e∈v5.t.aT:=by rw[GM,hdr];simp
  obtain⟨q,hq,cq⟩:=cF (k:=.ptr) (e:=λx=>x) Cz (show(v.t.aT.map wZ)[i]? =some (wZ e) by rw[mG,cV];rfl);rw[kE,qA i aB];have hd:=bF.dr h5;refine⟨⟨aB,cJ⟩,aA hq (aE (k:=.ptr) (wZ e) cq (aA rfl (aE (k:=.map) (some v5.lp) (hd.cell rfl) ?_)))⟩;refine hd.Ge LK Kd ?_;rw[e7];have fl:=f5.len;have pl:ps.length<=i:=by
   rw[<-fl];refine iF (vW _ _) ?_;rw[pW];omega
  have hent:=ok.Df e fP;have go:gone v e=true->∀gR,aM w5 gR->aC (some ⟨a,0,none⟩:cL) λYG=>xL .ptr gR.drew (YG.add 8) λ(p7:cL)=>aC (wZ e) λMv=>xL .i gR.drew (Mv.add 0) λ(x9:Int)=>aG gR.drew #[aD x9] 3 λMu iZ=>iZ.cell? (YG.add 8)=some (Value.pointer p7)/\pO p7 ⟨(some Mu),1,1⟩ iZ λ(_:Sl) lE=>aC (wZ e) λa19=>xL .i lE.drew (a19.add 0) λ(rY:Int)=>aC (wZ e) λxn=>xL .i lE.drew (xn.add 1) λ(xK:Int)=>eN rY xK (3:Int) lE.drew λ(KT:Sl) nM=>aX prog 155 155 r (Value.slice KT.b KT.l KT.c) nM λ(QA:Sl) yM=>X (QA,((i+1:Nat):Int),()) yM:=λhg gR Ka=>by
   have K16:=Ka.tr (bN gR);have h16:=bF.kp h5 K16;refine aA rfl (aE (k:=.ptr) (some ⟨v5.tp,0,none⟩) (h16.cell rfl) (aA rfl (aE (k:=.i) (e.aL:Int) (h16.UY Kd rfl) ?_)));refine cC (cs:=eI (e.aL:Int)) λiZ b17 Jz z17=>?_;have bd16:=bF.gH h16;have h17:=bF.kp h16 Jz;refine⟨h17.cell rfl,?_⟩;refine ur h17 LK (iV fH [(e.aL:Int)] b17 rfl dL) (λb hb=>by cases hb;exact⟨λhs=>by have h1:gR.drew.heap.size<gR.drew.heap.size:=bd16 _ hs;omega,b17.1.lt⟩) λ_ lE Ue xj u18 xy own18=>?_;have oe:=(own18 e Kd rfl).aK (bN lE) id;refine aA rfl (aE (k:=.i) (e.aL:Int) (cM oe rfl) (aA rfl (aE (k:=.i) e.aP (cM oe rfl) ?_)));refine sj λrp p nM k19 v19 p19=>?_;have K19:=(bN lE).tr k19;have U19:Up S5 Ue w5 nM:=((Up.aN (K16.tr Jz)).tr u18).tr (Up.aN K19);have h19:=bF.kp xj K19;have bd18:=bF.gH xj;have z18:=((Up.aN (S:=S5) (K16.tr Jz)).tr u18).size;have z19:=k19.size;have wd:lE.drew.heap.size=lE.heap.size:=rfl;refine eJ.app jS MD MA aB (r5.upX U19) (v19.sub λk hk=>hk.elim (bd18 k) λ⟨b,hb,e⟩=>by have:=(os5 b hb).2;omega) aB (λb hb=>mD (r5.lt hb) z18) (by rw[mL,List.length_singleton];omega) aB (λk hk=>hk.elim (bF.gH h19 k) λ⟨b,hb,e⟩=>by have:=(os5 b hb).2;omega) λr' yM v20 mX=>?_;have m20:=mX.mono (G:=λk=>lo<=k/\¬Ue k) λk _ hk=>⟨hk.1,λh=>hk.2 (.inl h)⟩;rw[sD] at v20;have U20:Up S0 Ue w0 yM:=Up.iH (u5.tr U19) (m20.mono λk _ hk=>⟨by have:=hk.1;omega,hk.2⟩);obtain⟨x1,x2⟩:=Nt FF Cz os5 U19 mX;refine hX _ _ _ aB ⟨i+1,r',ps++[p],_,Ue,dJ,rfl,rfl,bF.ov h19 m20,U20,v20,xy,⟨e1,e2,e3,e4,e5,e6,e7⟩,?_,?_,x1,x2,by have:=m20.size;omega⟩
   ·show v5.t.aT.filter (λf=>!decide (f.aL=e.aL))=_
    rw[GM,rV,hdr];have hpw:=lM;rw[<-Cd i v.t.aT,hdr,DU,List.pairwise_append,List.pairwise_cons] at hpw;rw[IT,List.filter_cons_of_neg dL,IT];have g1:((v.t.aT.take i).filter λe=>!gone v e).filter (λf=>!decide (f.aL=e.aL))=(v.t.aT.take i).filter λe=>!gone v e:=by
     rw[List.filter_eq_self];intro f hf;have:=hpw.2.2 f (jE.1 hf).1 e dL;simp;omega
    have g2:(v.t.aT.drop (i+1)).filter (λf=>!decide (f.aL=e.aL))=v.t.aT.drop (i+1):=by
     rw[List.filter_eq_self];intro f hf;have:=hpw.2.1.1 f hf;simp;omega
    rw[g1,g2,List.filter_cons_of_neg (by simp[hg])];simp
   ·rw[rV,IT,List.filter_cons_of_pos (by simp[hg])]
    exact f5.app (.one p19)
  refine aF (λhx=>go (by unfold gone;rw[show(v.lf e.a).getD (false:Bool)=true from hx];rfl) _ (bN w5)) (λhx=>?_);have c6:w5.drew.cell? (((⟨a,0,none⟩:Addr).add 1).add 5)=some (aD v.cQ.idle):=by
   have:=hd.cell (k:=6) (x:=aD v5.cQ.idle) rfl;rw[e1] at this;rw[aS] at this ⊢;rw[aS];exact this
  have c9:w5.drew.cell? ((⟨a,0,none⟩:Addr).add 9)=some (aD v.dO):=by
   have:=hd.cell (k:=9) (x:=aD v5.dO) rfl;rw[e2] at this;exact this
  refine aA rfl (aE (k:=.i) e.kO (hd.UY Kd rfl) (aA rfl (aE (k:=.i) v.cQ.idle c6 (aA rfl (aE (k:=.i) v.dO c9 ?_)))));rw[gM aB aB];have Bv:(v.lf e.a).getD (false:Bool)=false:=hx;refine aJ (λIN=>go (by unfold gone;rw[decide_eq_true IN];exact Bool.or_true _) _ (bN w5)) (λIN=>?_);have hg:gone v e=false:=by unfold gone;rw[Bv,decide_eq_false IN];rfl
  refine hX _ _ _ aB ⟨i+1,r,ps,v5,S5,dJ,rfl,rfl,hd,u5.tr (Up.aN (bN w5)),r5.kp (bN w5),LK,⟨e1,e2,e3,e4,e5,e6,e7⟩,?_,?_,Cz.aK (bN w5) FF λ_ _=>id,os5.kp (bN w5),zz5⟩
  ·rw[GM,rV,hdr,IT,List.filter_cons_of_pos (by simp[hg])];simp
  ·rw[rV,IT,List.filter_cons_of_neg (by simp[hg])];simpa using f5
 ·have ei:i=v.t.aT.length:=aB
  subst ei;rw[oZ] at GM f5;rw[List.drop_length,tD] at GM;exact hQ r ps v5 w5 S5 h5 u5 (r5.sub λk hk=>.inl hk) LK e1 e2 e3 e4 e5 e6 e7 GM f5 zz5
theorem VTick_i{Q:Sl->aH->Prop}(h:gC E.e a v w S)(hb:Bs W0 E G S w)(ok:v.Ok G B)(hn:v.dO<1000000000)
  (hQ:∀r ps v' w' S',TickO G B E.e a v w S r ps v' w' S'->Q r w'):OY (some ⟨a,0,none⟩) w Q:=by
 unfold OY;have RX:=ok.dO;have CV:=ok.cQ.cO;refine aF (λh=>by simp at h) (λ_=>aA rfl (aE (k:=.i) v.dO (h.cell rfl) (aA rfl ?_)));rw[gM aB aB];refine h.tick (v.dO+1) λw1 S1 h1 u1=>?_;have QB:(v.TA (v.dO+1)).Ok G B:=⟨ok.cQ,⟨by show(0:Int)<=v.dO+1;omega,by show v.dO+1<=_;omega⟩,ok.u,ok.t,ok.eQ,ok.ch,ok.yN,λe he=>by have:=ok.Df e he;exact⟨this.1,this.2.1,by show e.kO<=v.dO+1;omega⟩,ok.lost⟩;have xi:=bF.dr h1;refine aA rfl (aE (k:=.ptr) (some ⟨v.sp,0,none⟩) (xi.cell rfl) (aA rfl (aE (k:=.i) (v.dO+1) (xi.cell rfl) ?_)));obtain⟨S2,h2,FP,GP⟩:=xi.ic;refine Lapse_i h2 QB.u.2 λrl w3 S3 h3 u3=>?_;obtain⟨S4,h4,u4⟩:=GP _ _ w3 S3 u3 h3;obtain⟨S5,S6,h5,h6,d56,e56⟩:=h4;have U5:Up S S5 w w3:=((u1.tr (Up.aN (bN w1))).tr u4).tr (Up.sub w3 λk hk=>(e56 k).2 (.inl hk));have o6:AY rl S5 w3:=λb bW=>⟨λhk=>d56 _ hk ((h6.2 _).2 ⟨b,bW,rfl⟩),h6.1.lt bW⟩;have LK:((v.TA (v.dO+1)).UN (RW (v.dO+1) v.u (mF 0 v.u))).Ok G B:=QB.UN (Xf _ _ _);have lll:(UT (v.dO+1) (mF 0 v.u)).length<=1000:=by
  unfold UT;rw[oL];have h1:=vW (λp:Int×Int=>decide (p.2<=v.dO+1)) (mF 0 v.u);have h2:=ZM v.u 0;have h3:=ok.u.2;omega
 refine ZJ (v:=(v.TA (v.dO+1)).UN (RW (v.dO+1) v.u (mF 0 v.u))) h5 (hb.up U5) LK (sh:=[]) (Rd.nil _ _ _) (λb bW=>by cases bW) (h6.1.rd fH) o6 ⟨by simp,lll⟩ λr1 RK v3 w4 S7 h7 u7 v7 cy XR hl7 pk7 nil7=>?_;have U7:=U5.tr u7;have hv3:v3.t=v.t:=XR.t;refine aA rfl (aE (k:=.ptr) (some ⟨v3.tp,0,none⟩) (h7.cell rfl) ?_);obtain⟨ST,hT,_⟩:=h7.Eg;refine Gj hT cy.t λs3 w5 v5 k5 f5=>?_;have bd7:=bF.gH h7;have z5:=k5.size;have olen:=ok.t.len;have pw:=ok.t.eQ;have l1:v.t.aT.length<=v.cQ.kV:=by have:=ok.eQ;omega
 have lw:v.t.aT.length*v.cQ.cO<=16*16:=EX aB CV.2;have z34:=u7.size;have row5:rD w3.heap.size (λk=>S7 k\/BL s3 k) w5 r1 RK:=v7.aK k5 (λ_ _ _ _=>id) λk h1 h2 h3=>h3.elim h1 λ⟨b,bW,e⟩=>by have:=f5 b bW;omega
 refine passes_i (v0:=v) (HQ:=jj v/\(UT (v.dO+1) (mF 0 v.u)=[]\/v.t.aT=[])) (lo:=w3.heap.size) (c0:=v.t.aT.length*v.cQ.cO) (Mp:=RK) (bF.kp h7 k5) (U7.tr (Up.aN k5)) U5.size aB cy row5 hl7 aB (λq hq=>(pk7 q hq).1) (v5.rd GL) (λb bW=>⟨λhs=>by have:=bd7 _ hs;have:=f5 b bW;omega,v5.lt bW⟩) (λhq=>?_) λr2 Da v8 w8 S8 h8 u8 r8 ok8 st8 hl8 hk8 hq8 z8=>?_
 ·have hn7:=nil7 (hq.2.imp (λh=>⟨rfl,h⟩) id)
  rw[hn7.1];exact⟨hn7.2,λe he=>dx.refl (hq.1.1 e he),rfl,hq.1.2⟩
 have st38:=XR.tr st8;have hv8:v8.t=v.t:=st38.t;refine aA rfl (aE (k:=.ptr) (some ⟨v8.tp,0,none⟩) (h8.cell rfl) ?_);obtain⟨ST8,hT8,_⟩:=h8.Eg;refine Gj hT8 ok8.t λs9 w9 v9 k9 f9=>?_;have bd8:=bF.gH h8;have z9:=k9.size;have row9:rD w3.heap.size (λk=>S8 k\/BL s9 k) w9 r2 Da:=r8.aK k9 (λ_ _ _ _=>id) λk h1 h2 h3=>h3.elim h1 λ⟨b,bW,e⟩=>by have:=f9 b bW;omega
 have hl8':Da.length<=2*(v.t.aT.length*v.cQ.cO):=by
  have e1:v3.t.aT.length=v.t.aT.length:=by rw[hv3]
  have e2:v3.cQ=v.cQ:=XR.cQ;rw[e1,e2] at hl8;omega
 refine drops_i (lo:=w3.heap.size) (c0:=2*(v.t.aT.length*v.cQ.cO)) (bF.kp h8 k9) (u8.tr (Up.aN k9)) U5.size aB ok8 row9 hl8' aB hk8 (v9.rd GL) (λb bW=>⟨λhs=>by have:=bd8 _ hs;have:=f9 b bW;omega,v9.lt bW⟩) λr3 ps3 v10 eV FR IQ Ef r10 Lf e1 e2 e3 e4 e5 e6 e7 GM f10 z10=>?_;refine aA rfl (aE (k:=.map) (some v10.lp) (IQ.cell rfl) (IQ.clear λeE Mw Kk Ko=>?_));have fl:=f10.len;have flf:=vW (λe=>gone v8 e) v8.t.aT;rw[hv8] at flf;rw[hv8] at GM f10 fl;have st8c:v8.cQ=v.cQ:=st38.cQ;have st8n:v8.dO=v.dO+1:=st38.dO;refine hQ r3 (Da++ps3) _ eE Mw ⟨Kk,Ef.tr Ko,(r10.up Ko).qF U5.size,⟨Lf.cQ,Lf.dO,Lf.u,Lf.t,Lf.eQ,Lf.ch,Lf.yN,Lf.Df,λk hk=>by cases hk⟩,e1.trans st8c,e2.trans st8n,e3.trans st38.u,λf hf=>?_,?_,λq hq=>?_,λhq hlap=>?_⟩
 ·rw[show({v10 with lf:=λ_=>none,ln:=0}:iQ).t.aT=v10.t.aT from rfl,GM] at hf
  exact(jE.1 hf).1
 ·rw[mL]
  have h1:v.t.aT.length*v.cQ.cO<=v.cQ.kV*v.cQ.cO:=RV _ l1;have h2:v.cQ.kV*(2*v.cQ.cO+1)=2*(v.cQ.kV*v.cQ.cO)+v.cQ.kV:=by rw[Nat.mul_add,Nat.mul_one,Nat.mul_left_comm]
  omega
 ·rcases jK.1 hq with hq|hq
  ·exact hk8 q hq
  ·obtain⟨_,_,hp⟩:=f10.mem hq
   exact hp.2.1
 ·obtain⟨y1,y2,y3,y4⟩:=hq8 ⟨hq,hlap⟩
  have eg:∀e,gone v8 e=Vd v e:=λe=>by
   unfold gone Vd;rw[y4 e.a,st8c,st8n];rfl
  have eg2:(λe=>gone v8 e)=λe=>Vd v e:=funext eg;have eg3:(λe=>!gone v8 e)=λe=>!Vd v e:=funext λe=>by rw[eg e]
  rw[eg3] at GM;rw[eg2] at f10;refine⟨GM,?_,by rw[y1];exact f10,λe he=>?_,?_,λk=>rfl⟩
  ·show v10.t.gr=v.t.gr
   rw[e4,hv8]
  ·show dx (v.ch e.aL) (v10.ch e.aL)
   rw[e5];exact y2 e (by rw[hv3];exact he)
  ·show v10.yN=v.yN
   rw[e6];exact y3
end
end
def IS(c:yX)(m sp tp lp:Nat):iQ:=⟨c,sp,tp,lp,0,List.replicate m 0,⟨c.kV,[],λ_=>none⟩,[],λ_=>none,0,λ_=>yV 0 0,λ_=>xu 0 0⟩
theorem srv0_ok{G:Gr}{c:yX}(okG:zI G)(IL:c.Ok){B:Int}(sp tp lp:Nat):(IS c G.m sp tp lp).Ok G B:=
 ⟨IL,by show(0:Int)<=0/\(0:Int)<=1000000000;omega,by
  show(List.replicate G.m (0:Int)).length=G.E.length/\(List.replicate G.m (0:Int)).length<=512;have:=okG.m1;rw[List.length_replicate];exact⟨rfl,aB⟩,⟨IL.kV,iG _,List.Pairwise.nil,λe he=>by cases he⟩,rfl,λe he=>(by cases he),λe he=>(by cases he),λe he=>(by cases he),λk hk=>(by cases hk)⟩
theorem jt{ee a sp tp lp m:Nat}{c:yX}{w:aH}{S1 S2:BS}(h1:tG sp (List.replicate m 0) w S1)(h2:CY tp ⟨c.kV,[],λ_=>none⟩ w S2)(h3:uJ lp yP Jy (λ_=>none) 0 w (λk=>k=lp))(h4:sB a xA (UZ ee (IS c m sp tp lp)) w (λk=>k=a))(d12:∀k,S1 k->S2 k->False)(d1:¬S1 lp/\¬S1 a)(d2:¬S2 lp/\¬S2 a)(d3:lp≠a):gC ee a (IS c m sp tp lp) w (λk=>((S1 k\/S2 k)\/k=lp)\/k=a):=by
 have p0:=gE.nil (ι:=SI) w;have p1:=gE.put p0 (i:=.set) (by rfl) h1 λk h _=>h;have hG:VB (IS c m sp tp lp) w S2:=aZ.emp h2;have p2:=gE.put p1 (i:=.Eg) (by rfl) hG λk h h'=>h.elim id λh=>d12 k h h';have p3:=gE.put p2 (i:=.lost) (by rfl) h3 λk h (h':k=lp)=>h.elim (λh=>h.elim id λh=>d1.1 (h'▸h)) λh=>d2.1 (h'▸h);have p4:=gE.put p3 (i:=.Bt) (by rfl) h4 λk h (h':k=a)=>h.elim (λh=>h.elim (λh=>h.elim id λh=>d1.2 (h'▸h)) λh=>d2.2 (h'▸h)) λ(h:k=lp)=>d3 (h.symm.trans h');have e:ES (ES (ES (ES (λ_:SI=>DK) .set (tG sp (List.replicate m 0))) .Eg (VB (IS c m sp tp lp))) .lost (uJ lp yP Jy (λ_=>none) 0)) .Bt (sB a xA (UZ ee (IS c m sp tp lp)))=QF ee a (IS c m sp tp lp):=by
  funext i
  cases i<;>rfl
 rw[e] at p4;have es:CZ ee (IS c m sp tp lp) w (λ_=>False):=gE.nil (ι:=Nat) w;exact⟨_,_,As.ext p4 (T:=λk=>((S1 k\/S2 k)\/k=lp)\/k=a) λk=>⟨λh=>h.elim (λh=>h.elim (λh=>h.elim (λh=>h.elim False.elim λh=>.inl (.inl (.inl h))) λh=>.inl (.inl (.inr h))) λh=>.inl (.inr h)) .inr,λh=>h.elim (λh=>h.elim (λh=>h.elim (λh=>.inl (.inl (.inl (.inr h)))) λh=>.inl (.inl (.inr h))) λh=>.inl (.inr h)) .inr⟩,es,λk _ h=>h,λk=>⟨.inl,λh=>h.elim id False.elim⟩⟩
theorem VNew_i{g:GT}{G:Gr}{c:yX}{w:aH}{Q:cL->Int->aH->Prop}(hg:SK w g G)(ok:zI G)(IL:c.Ok)
  (hQ:∀E a sp tp lp W0 w' S',gC E.e a (IS c G.m sp tp lp) w' S'->Bs W0 E G S' w'->aM w W0->aM w w'->(∀k,S' k->w.heap.size<=k)->Q (some ⟨a,0,none⟩) 0 w'):zO g (xQ c) w Q:=by
 unfold zO;refine bK λw1 o1 k1 z1=>?_;refine cC (cs:=CW c) λw2 b2 k2 z2=>?_;refine bJ (l:=[.slice,.slice,.slice]) g (GJ (g:=g) (o1.aK k2 id)) ?_;refine ENew_i (g:=g) (hg.aN (k1.tr k2)) ok λE w3 hE k3=>?_;refine aF (λh=>by cases h) (λ_=>?_);have b3:=bF.kp b2 k3;have tc:∀{wx:aH},sB w1.heap.size uZ (CW c) wx (λk=>k=w1.heap.size)->bY wx ⟨w1.heap.size,0,none⟩ 0 (qH IX (xQ c)):=λb=>b.1.holds λj v hj=>by rw[pN];exact hj
 refine bJ (l:=IX) (xQ c) (tc b3) (Sh IL λw4 k4=>aF (λh=>by cases h) (λ_=>?_));have b4:=bF.kp b3 k4;refine aE (k:=.i) (c.kV:Int) (aO b4 rfl) ?_;refine TNew_i' IL.kV λtp w5 ST hT k5 hTlo=>?_;have K5:=k4.tr (k5.tr (bN w5));have hE5:=hE.aN K5;have b5:=bF.kp b4 (k5.tr (bN w5));have hT5:=bF.dr hT;have bT:=bF.gH hT5;have hm:=ok.m1;have z3:=k3.size;have z4:=k4.size;have z5:=k5.size;have wd:w5.drew.heap.size=w5.heap.size:=rfl;have dR:∀wy sp lp SU,aM w5.drew wy->tG sp (List.replicate G.m 0) wy SU->uJ lp yP Jy (λ_=>none) 0 wy (λk=>k=lp)->(∀k,SU k->w5.heap.size<=k)->¬SU lp->w5.heap.size<=lp->aG wy (UZ E.e (IS c G.m sp tp lp)).toArray xA λa w9=>Q (some a) 0 w9:=by
  intro wy sp lp SU ky hS hM hSlo hn hlp;have bS:=bF.gH hS;have bM:=bF.gH hM lp rfl;refine cC λw9 b9 k9 z9=>?_;have zy:=ky.size;have oO:=jt (ee:=E.e) (c:=c) (bF.kp hS k9) (bF.kp hT5 (ky.tr k9)) (bF.kp hM k9) b9 (λk h1 h2=>by have:=hSlo k h1;have:=bT k h2;omega) ⟨hn,λh=>by have:=bS _ h;omega⟩ ⟨λh=>by have:=bT _ h;omega,λh=>by have:=bT _ h;omega⟩ aB;have lo3:∀k,(((SU k\/ST k)\/k=lp)\/k=wy.heap.size)->w3.heap.size<=k:=λk hk=>by
   rcases hk with((hk|hk)|hk)|hk
   ·have:=hSlo k hk;omega
   ·have:=hTlo k hk;omega
   ·omega
   ·omega
  exact hQ E _ sp tp lp w3 w9 _ oO ⟨hE,(K5.tr ky).tr k9,lo3⟩ ((k1.tr k2).tr k3) ((((k1.tr k2).tr k3).tr (K5.tr ky)).tr k9) λk hk=>by have:=lo3 k hk;have:=k1.size;have:=k2.size;omega
 refine bJ (l:=IX) (xQ c) (tc b5) (aA rfl (aE (k:=.ptr) (some ⟨E.t.t,0,none⟩) hE5.cells.1 (aA rfl (aE (k:=.ptr) (some ⟨E.t.H.g,0,none⟩) hE5.RJ.cells.1 ⟨sT hE5.RJ.IJ ⟨tc b5,?_,?_⟩,?_⟩))))
 ·refine Sd aB λsp w7 SU hU k7 fq=>⟨tc (bF.kp b5 k7),?_⟩
  refine qO (ek:=yP) (kn:=Jy) λhm8 k8=>?_;have bU:=bF.gH hU;have z7:=k7.size;refine⟨tc (bF.kp b5 (k7.tr k8)),dR _ sp w7.heap.size SU (k7.tr k8) (bF.kp hU k8) ⟨hm8,λ_=>Iff.rfl⟩ (λk hk=>by have:=fq k hk;omega) (λh=>by have:=bU _ h;omega) aB⟩
 ·refine qO (ek:=yP) (kn:=Jy) λhm8 k8=>⟨tc (bF.kp b5 k8),?_⟩
  have zm:(w5.drew.alloc (.map #[] 0)).heap.size=w5.drew.heap.size+1:=by simp
  refine Sd aB λsp w7 SU hU k7 fq=>⟨tc (bF.kp b5 (k8.tr k7)),?_⟩;exact dR _ sp w5.drew.heap.size SU (k8.tr k7) hU ⟨hm8.aK k7 id,λ_=>Iff.rfl⟩ (λk hk=>by have:=fq k hk;omega) (λh=>by have:=fq _ h;omega) aB
 ·refine qO (ek:=yP) (kn:=Jy) λhm8 k8=>?_
  have zm:(w5.drew.alloc (.map #[] 0)).heap.size=w5.drew.heap.size+1:=by simp
  have hE8:=hE5.aN k8;refine⟨hE8.RJ.cells.1,hE8.cells.1,tc (bF.kp b5 k8),sT hE8.RJ.IJ ⟨tc (bF.kp b5 k8),?_⟩⟩;refine Sd aB λsp w7 SU hU k7 fq=>⟨tc (bF.kp b5 (k8.tr k7)),?_⟩;exact dR _ sp w5.drew.heap.size SU (k8.tr k7) hU ⟨hm8.aK k7 id,λ_=>Iff.rfl⟩ (λk hk=>by have:=fq k hk;omega) (λh=>by have:=fq _ h;omega) aB
structure CS where
 cQ:yX
 ch:Option (Nat×lH)
 aP:Int
 jV:Bool
 cw:Int
 ny:Int
 jI:List Int
 dF:Bool
abbrev Cg(v:CS)(uM:Sl):List Value:=[aD (v.cQ.kV:Int),aD (v.cQ.cO:Int),aD v.cQ.LY,aD v.cQ.nF,aD v.cQ.cap,aD v.cQ.idle,.pointer (v.ch.map λp=>⟨p.1,0,none⟩),aD v.aP,.bool v.jV,aD v.cw,aD v.ny,sv uM,.bool v.dF]
def chO:Option (Nat×lH)->As
 |none=>DK
 |some p=>jQ p.1 p.2
instance chO.loc:∀{o:Option (Nat×lH)},bF (chO o)
 |none=>inferInstanceAs (bF DK)
 |some p=>inferInstanceAs (bF (jQ p.1 p.2))
def LD(d:Nat)(uM:Sl)(v:CS):As:=aZ (sB d Ro (Cg v uM)) (aZ (chO v.ch) (AX 1 eI uM v.jI))
instance{d:Nat}{uM:Sl}{v:CS}:bF (LD d uM v):=by unfold LD;infer_instance
def uU(d:Nat)(v:CS):As:=Ex λuM:Sl=>LD d uM v
instance{d:Nat}{v:CS}:bF (uU d v):=by unfold uU;infer_instance
structure CS.Ok(B:Int)(v:CS):Prop where
 cQ:v.cQ.Ok
 aP:0<=v.aP/\v.aP<=B
 jI:v.jI.length<=70000
 jV:v.jV=true->v.ch≠none
 ch:∀p,v.ch=some p->p.2.Ok/\p.2.s.cO=v.cQ.cO/\p.2.dl<=B/\(v.jV=true->p.2.aP=v.aP)
def YL(c:yX):CS:=⟨c,none,0,false,0,-1,[],false⟩
theorem drv0_ok{c:yX}(ok:c.Ok):(YL c).Ok 0:=⟨ok,by show(0:Int)<=0/\(0:Int)<=0;omega,iG _,λh=>(by cases h),λp h=>by cases h⟩
theorem CS.Ok.mono{B B':Int}{v:CS}(h:v.Ok B)(hB:B<=B'):v.Ok B':=⟨h.cQ,by have:=h.aP;omega,h.jI,h.jV,λp hp=>by have:=h.ch p hp;exact⟨this.1,this.2.1,aB,this.2.2.2⟩⟩
theorem Ds{α:Type}{n:Nat}{aY:α->List Value}(gF:∀x,aY x≠[]){w:aH}:AX n aY bD ([]:List α) w (λ_=>False):=⟨Rd.nil _ _ _,gF,λb hb=>(by cases hb),λk=>⟨False.elim,λ⟨b,hb,_⟩=>by cases hb⟩⟩
theorem DNew_i{c:yX}{w:aH}{Q:cL->Int->aH->Prop}(ok:c.Ok)(hQ:∀w',uU (w'.heap.size-1) (YL c) w' (λk=>k=w'.heap.size-1)->w.heap.size<w'.heap.size->aM w w'->w.heap.size<=w'.heap.size-1->Q (some ⟨w'.heap.size-1,0,none⟩) 0 w'):AB (xQ c) w Q:=by
 unfold AB;refine cC (cs:=CW c) λw1 b1 k1 z1=>?_;refine bJ (l:=IX) (xQ c) (b1.1.holds λj v hj=>by rw[pN];exact hj) (Sh ok λw2 k2=>aF (λh=>by cases h) (λ_=>?_));have b2:=bF.kp b1 k2;refine bJ (l:=IX) (xQ c) (b2.1.holds λj v hj=>by rw[pN];exact hj) ?_;refine cC (cs:=Cg (YL c) bD) λw3 b3 k3 z3=>?_;have z2:=k2.size;have e:w3.heap.size-1=w2.heap.size:=aB;have:=hQ w3;rw[e] at this;exact this ⟨bD,_,_,b3,⟨_,_,(show chO none w3 (λ_=>False) fromλ_=>id),Ds cR,λ_ h _=>h,λ_=>Iff.rfl⟩,λ_ _ h=>h.elim id id,λk=>⟨.inl,λh=>h.elim id λh=>h.elim False.elim False.elim⟩⟩ aB ((k1.tr k2).tr k3) aB
section
theorem jb{d:Nat}{v:CS}{uM:Sl}{w:aH}{SC SR:BS}(h1:sB d Ro (Cg v uM) w (λk=>k=d))(h2:chO v.ch w SC)(h3:AX 1 eI uM v.jI w SR)(d1:¬SC d)(d2:¬SR d)(d3:∀k,SC k->SR k->False):LD d uM v w (λk=>k=d\/(SC k\/SR k)):=
 aZ.vR h1 (aZ.vR h2 h3 d3) λk (e:k=d) h=>h.elim (λh=>d1 (e▸h)) λh=>d2 (e▸h)
theorem LD.parts{d:Nat}{v:CS}{uM:Sl}{w:aH}{S:BS}(h:LD d uM v w S):∃SC SR,sB d Ro (Cg v uM) w (λk=>k=d)/\chO v.ch w SC/\AX 1 eI uM v.jI w SR/\¬SC d/\¬SR d/\(∀k,SC k->SR k->False)/\∀k,S k↔k=d\/SC k\/SR k:=by
 obtain⟨S1,S2,h1,⟨SC,SR,h2,h3,d3,e3⟩,dd,e⟩:=h;have hd:S1 d:=(h1.2 d).2 rfl;exact⟨SC,SR,⟨h1.1,λ_=>Iff.rfl⟩,h2,h3,λh=>dd d hd ((e3 d).2 (.inl h)),λh=>dd d hd ((e3 d).2 (.inr h)),d3,λk=>by rw[e k,h1.2 k,e3 k]⟩
section
variable{d:Nat}{v:CS}{uM:Sl}{w:aH}{S:BS}{B:Int}
theorem LD.cell(h:LD d uM v w S){k:Nat}{x:Value}(hk:(Cg v uM)[k]? =some x):w.cell? ((⟨d,0,none⟩:Addr).add k)=some x:=by
 obtain⟨S1,S2,h1,_⟩:=h;exact aO h1 hk
theorem LD.set{t:TypeId}{o:Nat}{x:Value}{v':CS}{K:aH->Prop}(h:LD d uM v w S)(hi:(prog.info? t).map (·.size)=some 1)(ho:o<13)(hx:x.cells=#[x])(h1:x.oneCell'=true)(he:(Cg v uM).set o x=Cg v' uM)(Ki:v'.ch=v.ch)(hw:v'.jI=v.jI)(hK:∀w',LD d uM v' w' S->Up S S w w'->K w'):aI prog t ((⟨d,0,none⟩:Addr).add o) x w K:=by
 obtain⟨SC,SR,hB,hC,hR,d1,d2,d3,e⟩:=h.parts;refine pA hB hi (by simpa using ho) hx h1 λw' b' u'=>?_;rw[he] at b';have hm:∀k,SC k\/SR k->¬k=d:=λk hk e=>hk.elim (λh=>d1 (e▸h)) λh=>d2 (e▸h);have hC':chO v'.ch w' SC:=by rw[Ki];exact bF.aK hC u'.m λk hk=>hm k (.inl hk)
 have hR':AX 1 eI uM v'.jI w' SR:=by rw[hw];exact bF.aK hR u'.m λk hk=>hm k (.inr hk)
 exact hK w' (As.ext (jb b' hC' hR' d1 d2 d3) λk=>(e k).symm) (Up.at (u'.m.mono λk _ hk=>(e k).2 (.inl hk)))
theorem LD.Qx{Ut:List Int}{LF:Sl}{SR':BS}{K:aH->Prop}(h:LD d uM v w S)(hr:AX 1 eI LF Ut w SR')(hR':∀k,SR' k->¬S k\/BL uM k)(hK:∀w' S',LD d LF {v with jI:=Ut} w' S'->aW (λk=>k=d) w w'->(∀k,S' k->S k\/SR' k)->K w'):aI prog BI ((⟨d,0,none⟩:Addr).add 11) (sv LF) w K:=by
 obtain⟨SC,SR,hB,hC,hR,d1,d2,d3,e⟩:=h.parts;have key:∀k,SR' k->¬k=d/\¬SC k:=λk hk=>by
  rcases hR' k hk with h|h
  ·exact⟨λh'=>h ((e k).2 (.inl h')),λh'=>h ((e k).2 (.inr (.inl h')))⟩
  ·have hs:SR k:=(hR.2.2.2 k).2 h
   exact⟨λh'=>d2 (h'▸hs),λh'=>d3 k h' hs⟩
 refine pA hB oG dL rfl rfl λw' b' u'=>?_;have hC':chO v.ch w' SC:=bF.aK hC u'.m λk hk e=>d1 (e▸hk);have bp:AX 1 eI LF Ut w' SR':=bF.aK hr u'.m λk hk=>(key k hk).1;exact hK w' _ (jb (v:={v with jI:=Ut}) b' hC' bp d1 (λh=>(key d h).1 rfl) λk h1 h2=>(key k h2).2 h1) u'.m λk hk=>by
  rcases hk with hk|hk|hk
  ·exact .inl ((e k).2 (.inl hk))
  ·exact .inl ((e k).2 (.inr (.inl hk)))
  ·exact .inr hk
theorem VY{Q:Bool->aH->Prop}(h:uU d v w S)(hQ:Q v.jV w):rL (some ⟨d,0,none⟩) w Q:=by
 unfold rL;obtain⟨uM,h⟩:=h;exact aF (λ_=>aA rfl (aE (k:=.bool) v.jV (h.cell rfl) hQ)) (λh=>by simp at h)
theorem DConn_i{Q:Int->aH->Prop}(h:uU d v w S)(hQ:Q v.aP w):PK (some ⟨d,0,none⟩) w Q:=by
 unfold PK;obtain⟨uM,h⟩:=h;exact aF (λh=>by simp at h) (λ_=>aA rfl (aE (k:=.i) v.aP (h.cell rfl) hQ))
theorem ZH{n:Int}{Q:Bool->aH->Prop}(hQ:Q (decide (0<=n/\n<=65535)) w):mN n w Q:=by
 unfold mN;refine aJ (λh=>?_) (λh=>?_)
 ·have:decide (0<=n/\n<=65535)=decide (n<=65535):=by
   by_cases h2:n<=65535
   ·rw[decide_eq_true h2,decide_eq_true ⟨aB,h2⟩]
   ·rw[decide_eq_false h2,decide_eq_false λh=>h2 h.2]
  rw[this] at hQ;exact hQ
 ·rw[decide_eq_false λh'=>h h'.1] at hQ;exact hQ
theorem uU.chan(h:uU d v w S){p:Nat}{c:lH}(hc:v.ch=some (p,c)):∃S1,jQ p c w S1/\(∀k,S1 k->S k)/\w.cell? ((⟨d,0,none⟩:Addr).add 6)=some (.pointer (some ⟨p,0,none⟩))/\∀c' D w' T,Up S1 T w w'->aZ (jQ p c') D w' T->∃S',aZ (uU d {v with ch:=some (p,c')}) D w' S'/\Up S S' w w':=by
 obtain⟨uM,h⟩:=h;have c6:=h.cell (k:=6) rfl;rw[hc] at c6;have f:=(aZ.r h).c λT hT=>aZ.l hT;rw[hc] at f;obtain⟨S1,h1,hs,dN⟩:=f;refine⟨S1,h1,hs,c6,λc' D w' T u hT=>?_⟩;obtain⟨S',h',u'⟩:=dN _ D w' T u hT;refine⟨S',h'.mono (λ_ h=>⟨uM,h.mono (λ_ h=>?_) λ_ h=>h⟩) λ_ h=>h,u'⟩;have e:Cg {v with ch:=some (p,c')} uM=Cg v uM:=by unfold Cg;rw[hc];rfl
 rw[e];exact h
theorem Ry{p:Nat}{c:lH}{dO:Int}{m:lO}{Q:Sl->Int->aH->Prop}(h:uU d v w S)(hc:v.ch=some (p,c))(IL:c.Ok)(hm:m.cH=[])
  (hQ:∀r ds b w' S',uU d {v with ch:=some (p,(c.push b).2.1)} w' S'->Up S S' w w'->ym w.heap.size S' w' r ds->(c.push b).2.1.Ok->dw c (c.push b).2.1 (c.push b).1.length->BOk m b->F2 GOk (c.push b).1 ds->Q r (c.push b).2.2 w'):AO (some ⟨d,0,none⟩) dO (FX (m,bD)) w Q:=by
 unfold AO;refine cC (cs:=tC (m,bD)) λw1 b1 k1 z1=>?_;refine bJ (l:=bf) (FX (m,bD)) (b1.1.holds λj v hj=>by rw[pN];exact hj) ?_;refine Enc_i (by rw[hm];exact Rd.nil _ _ _) (λb hb=>by cases hb) (by rw[hm];simp) λsb out eb w2 k2 Ph f2 l2 g2=>?_;have K2:=k1.tr k2;obtain⟨S1,h1,tO,c6,dN⟩:=(bF.kp h K2).chan hc;rw[hm] at l2;have l60:out.length<=60:=by simpa using l2
 refine aA rfl (aE (k:=.ptr) (some ⟨p,0,none⟩) c6 (vf h1 IL Ph.1 aB λrg w3 S3 h3 u3 Kr=>?_));obtain⟨S4,h4,u4⟩:=dN _ _ w3 S3 u3 h3;obtain⟨S5,h5,u5,g5⟩:=VQ h4;have pf:=Ia IL (b:=out) aB;have l16:(c.push out).1.length<=1000:=by
  have h1:=pf.1.n;have h2:=Kr.s.yR;have XV:=Kr.s.cO;omega
 refine NN g5 l16 (λg hg=>by have:=pf.2 g hg;omega) λr ds w6 k6 v6 f6=>?_;have U6:Up S S5 w w6:=(((Up.aN K2).tr u4).tr u5).tr (Up.aN k6);have Mt:=bF.gH h5;have zz:=K2.size;have zu:=u4.size;exact hQ r ds out w6 S5 (bF.kp h5 k6) U6 ((v6.sub λk hk=>Mt k hk).qF aB) Kr pf.1 (λhw=>(g2 hw).1) f6
structure JC(B:Int)(d:Nat)(v:CS)(w:aH)(S:BS)(r:Sl)(ds:List (List dA))(v':CS)(w':aH)(S':BS):Prop where
 drv:uU d v' w' S'
 up:Up S S' w w'
 row:ym w.heap.size S' w' r ds
 ok:v'.Ok (B+16)
 cQ:v'.cQ=v.cQ
 len:ds.length<=v.cQ.cO+1
 vv:∀x∈ds,x.length<=3000
theorem JC.same(h:uU d v w S)(ok:v.Ok B){w':aH}(k:aM w w'):JC B d v w S bD [] v w' S:=
 ⟨bF.kp h k,Up.aN k,eJ.nil,ok.mono aB,rfl,iG _,λx hx=>by cases hx⟩
theorem VR{gs:List gA}{ds:List (List dA)}(h:F2 GOk gs ds):∀x∈ds,x.length<=3000:=λx hx=>by obtain⟨_,_,hp⟩:=h.mem hx;exact hp.1
abbrev mOpen(a n:Int):lO:=⟨1,a,n,[],0,ME⟩
def Gk(v:CS)(a n:Int)(v':CS)(ds:List (List dA)):Prop:=
 if(0<=a/\a<=65535)/\0<=n/\n<=65535 then∃p b,BOk (mOpen a n) b/\v'=⟨v.cQ,some (p,((yV v.cQ.cO (v.aP+1)).push b).2.1),v.aP+1,true,0,a,[],false⟩/\F2 GOk ((yV v.cQ.cO (v.aP+1)).push b).1 ds else v'=v/\ds=[]
theorem drvCfg(h:LD d uM v w S):bY w ((⟨d,0,none⟩:Addr).add 0) 0 (qH IX (xQ v.cQ)):=by
 refine oH.2 λk x hk=>?_;have:(Cg v uM)[k]? =some x:=by
  match k,hk with
  |0,hk=>exact hk
  |1,hk=>exact hk
  |2,hk=>exact hk
  |3,hk=>exact hk
  |4,hk=>exact hk
  |5,hk=>exact hk
  |k+6,hk=>simp[qH] at hk
 have c:=h.cell this;rw[aS] at c ⊢;rw[aS,show 0+0+(0+k)=0+k by omega];exact c
theorem DStart_i{dO at_ node:Int}{Q:Sl->Int->aH->Prop}(h:uU d v w S)(ok:v.Ok B)(hB:0<=B/\B<=2000000000)
  (hQ:∀r ds e v' w' S',JC B d v w S r ds v' w' S'->Gk v at_ node v' ds->Q r e w'):KA (some ⟨d,0,none⟩) dO at_ node w Q:=by
 unfold KA;have no:¬((0<=at_/\at_<=65535)/\0<=node/\node<=65535)->Q bD 1 w:=λhn=>hQ _ [] _ v w S (JC.same h ok (aW.refl _ _)) (by unfold Gk;rw[if_neg hn];exact⟨rfl,rfl⟩);refine aF (λh=>by simp at h) (λ_=>ZH (aF (λhb=>no λhh=>by rw[decide_eq_true hh.1] at hb;cases hb) (λhb=>?_)));have ha:0<=at_/\at_<=65535:=by simpa using hb
 refine ZH (aF (λhb=>no λhh=>by rw[decide_eq_true hh.2] at hb;cases hb) (λhb=>?_));have hn:0<=node/\node<=65535:=by simpa using hb
 obtain⟨uM,h⟩:=h;have hd:=bF.dr h;have hconn:=ok.aP;have CV:=ok.cQ.cO;refine aA rfl (bJ (l:=IX) (xQ v.cQ) (drvCfg hd) (aA rfl (aE (k:=.i) v.aP (hd.cell rfl) ?_)));rw[gM aB aB];refine CNew_i ok.cQ ⟨aB,aB⟩ λcp w3 SH hH k3 Fc=>aF (λh=>by cases h) (λ_=>?_);have K3:=((bN w).tr k3).tr (bN w3);have h3:=bF.kp h K3;refine aA rfl (bJ (l:=IX) (xQ v.cQ) (drvCfg h3) (aA rfl (aE (k:=.i) v.aP (h3.cell rfl) (aA rfl ?_))));rw[gM aB aB];obtain⟨SC,SR,hB3,hC,hR,d1,d2,d3,e⟩:=h3.parts
 let v1:CS:=⟨v.cQ,some (cp,yV v.cQ.cO (v.aP+1)),v.aP+1,true,0,at_,[],false⟩
 have bd:=bF.gH h;have hdw:d<w.heap.size:=bd d ((e d).2 (.inl rfl));have wd:w.drew.heap.size=w.heap.size:=rfl;refine eO (vs:=Cg v1 bD) hB3.1 Yj rfl (by intro u hu;simp at hu;rcases hu with rfl|rfl|rfl|rfl|rfl|rfl|rfl|rfl|rfl|rfl|rfl|rfl|rfl<;>rfl) λw4 o4 m4 _=>?_;have hH4:jQ cp (yV v.cQ.cO (v.aP+1)) w4 SH:=bF.aK (bF.dr hH) m4 λk hk e=>by have:=Fc k hk;omega
 have h4:uU d v1 w4 (λk=>k=d\/(SH k\/False)):=⟨bD,jb (v:=v1) ⟨o4,λ_=>Iff.rfl⟩ hH4 (Ds cR) (λh=>by have:=Fc d h;omega) id λ_ _ h=>h⟩;have U4:Up S (λk=>k=d\/(SH k\/False)) w w4:=⟨K3.wk.trans m4 λk _ hk=>(e k).2 (.inl hk),λk hk=>by
  rcases hk with hk|hk|hk
  ·exact .inl ((e k).2 (.inl hk))
  ·exact .inr (by have:=Fc k hk;omega)
  ·exact hk.elim⟩
 refine Ry (m:=mOpen at_ node) h4 rfl (OG CV.2) rfl λr ds b w5 S5 h5 u5 r5 LK cs5 hb5 f5=>?_;have hn5:=cs5.n;have hr5:=LK.s.yR;have wg:=cs5.cO;have dp:((yV v.cQ.cO (v.aP+1)).push b).2.1.dl=0:=cs5.dl;have hc5:((yV v.cQ.cO (v.aP+1)).push b).2.1.aP=v.aP+1:=cs5.aP;have hww:(yV v.cQ.cO (v.aP+1)).s.cO=v.cQ.cO:=rfl;rw[hww] at wg;refine hQ r ds _ _ w5 S5 ⟨h5,U4.tr u5,r5.qF U4.size,⟨ok.cQ,⟨by show 0<=v.aP+1;omega,by show v.aP+1<=B+16;omega⟩,iG _,λ_=>by simp,λq hq=>?_⟩,rfl,?_,VR f5⟩ ?_
 ·cases hq
  exact⟨LK,wg,by rw[dp];omega,λ_=>hc5⟩
 ·rw[<-f5.len];omega
 ·unfold Gk
  rw[if_pos ⟨ha,hn⟩];exact⟨cp,b,hb5,rfl,f5⟩
theorem rdA_tail{x:Int}{r:List Int}{sl:Sl}{S:BS}(h:AX 1 eI sl (x::r) w S):∃SR',AX 1 eI ⟨aR sl.b sl.c 1 1,sl.l-1,sl.c-1⟩ r w SR'/\∀k,SR' k->BL sl k:=by
 obtain⟨h1,h2,h3,h4⟩:=h;have hl:=h1.len;simp only[nU] at hl;have hp:=h1.part (i:=1) (j:=sl.l) (c:=sl.c) aB (iT _) h1.cap (iT _);have e:((x::r).drop 1).take (sl.l-1)=r:=by
  rw[List.drop_one,List.tail_cons,List.take_of_length_le];omega
 rw[e] at hp;have key:∀b,aR sl.b sl.c 1 1=some b->BL sl b.block:=λb hb=>by
  obtain⟨a0,nq,e2⟩:=Nl hb;exact⟨a0,nq,e2⟩
 exact⟨λk=>∃b,aR sl.b sl.c 1 1=some b/\k=b.block,⟨hp,h2,λb hb=>by obtain⟨a0,nq,e2⟩:=key b hb;rw[e2];exact h3 a0 nq,λ_=>Iff.rfl⟩,λk ⟨b,hb,e⟩=>by rw[e];exact key b hb⟩
theorem Pg{dO pos:Int}{Q:Sl->Int->aH->Prop}(h:uU d v w S)(ok:v.Ok B)(hB:0<=B)
  (hQ:∀r ds e v' w' S',JC B d v w S r ds v' w' S'->Q r e w'):yL (some ⟨d,0,none⟩) dO pos w Q:=by
 unfold yL;refine VY h (aF (λ_=>hQ _ [] _ v w S (JC.same h ok (aW.refl _ _))) (λdj=>?_));have DP:v.jV=true:=by simpa using dj
 refine ZH (aF (λ_=>hQ _ [] _ v w S (JC.same h ok (aW.refl _ _))) (λ_=>?_));cases Ki:v.ch with
 |none=>exact absurd Ki (ok.jV DP)
 |some pc=>
  obtain⟨p,c⟩:=pc;have kH:=ok.ch _ Ki;have hlv':=kH.2.2.2 DP;refine Ry (m:=⟨2,pos,0,[],0,ME⟩) h Ki kH.1 rfl λr ds b w3 S3 h3 u3 r3 Kr cs3 La f3=>?_;have hn5:=cs3.n;have hr5:=Kr.s.yR;have wg:=cs3.cO;have e2w:c.s.cO=v.cQ.cO:=kH.2.1;rw[e2w] at wg;have hds:ds.length<=v.cQ.cO+1:=by rw[<-f3.len];omega
  have okv:∀at_ jI dF,jI.length<=70000->(⟨v.cQ,some (p,(c.push b).2.1),v.aP,v.jV,v.cw,at_,jI,dF⟩:CS).Ok (B+16):=λat_ jI dF hw=>⟨ok.cQ,by have:=ok.aP;exact⟨this.1,by show v.aP<=B+16;omega⟩,hw,λ_=>by simp,λq hq=>by
   cases hq;exact⟨Kr,wg,by rw[cs3.dl];have:c.dl<=B:=kH.2.2.1;omega,λ_=>cs3.aP.trans hlv'⟩⟩
  have dR:∀(r':Sl) Kn e at_ jI dF w' S',uU d ⟨v.cQ,some (p,(c.push b).2.1),v.aP,v.jV,v.cw,at_,jI,dF⟩ w' S'->Up S S' w w'->ym w.heap.size S' w' r' Kn->jI.length<=70000->(∀x∈Kn,x∈ds)->Kn.length<=ds.length->Q r' e w':=λr' Kn e at_ jI dF w' S' g1 g2 g3 g4 g5 g6=>hQ r' Kn e _ w' S' ⟨g1,g2,g3,okv at_ jI dF g4,rfl,aB,λx hx=>VR f3 x (g5 x hx)⟩;refine aF (λ_=>dR _ [] _ v.ny v.jI v.dF w3 S3 h3 u3 eJ.nil ok.jI (λx hx=>by cases hx) (iG _)) (λ_=>?_);obtain⟨uM,h3⟩:=h3;have XV:LD d uM ⟨v.cQ,some (p,(c.push b).2.1),v.aP,v.jV,v.cw,v.ny,v.jI,v.dF⟩ w3 S3:=h3;intro J1 KJ;have j1:∀LF jI dF w4 S4,LD d LF ⟨v.cQ,some (p,(c.push b).2.1),v.aP,v.jV,v.cw,v.ny,jI,dF⟩ w4 S4->Up S3 S4 w3 w4->jI.length<=70000->J1 () w4:=λLF jI dF w4 S4 h4 u4 hw=>by
   apply KJ;refine aA rfl (h4.set (v':=⟨v.cQ,some (p,(c.push b).2.1),v.aP,v.jV,v.cw,pos,jI,dF⟩) cU (by decide) rfl rfl rfl rfl rfl λw5 h5 u5=>?_);exact dR r ds 0 pos jI dF w5 S4 ⟨LF,h5⟩ ((u3.tr u4).tr u5) ((r3.up u4).up u5) hw (λx hx=>hx) (iT _)
  intro J2 En;have j2:∀bb:Bool,(bb=true->∃x r',v.jI=x::r')->J2 (bb,()) w3:=λbb LH=>by
   apply En;refine aF (λhb=>?_) (λ_=>?_)
   ·obtain⟨x,r',hw⟩:=LH hb
    obtain⟨SC,SR,hB3,hC,hR,d1,d2,d3,e⟩:=XV.parts;have hR2:=hR;rw[show(⟨v.cQ,some (p,(c.push b).2.1),v.aP,v.jV,v.cw,v.ny,v.jI,v.dF⟩:CS).jI=x::r' from hw] at hR2;have hl:=hR2.1.len;simp only[nU] at hl;obtain⟨SR',hR',yT⟩:=rdA_tail hR2;refine aA rfl (aE (k:=.slice) uM (XV.cell rfl) ⟨⟨aB,aB⟩,aA rfl ?_⟩);rw[show Int.toNat (1:Int)=1 from rfl];refine XV.Qx (LF:=⟨aR uM.b uM.c 1 1,uM.l-1,uM.c-1⟩) (Ut:=r') hR' (λk hk=>.inr (yT k hk)) λw4 S4 h4 m4 s4=>?_;have inS:∀k,BL uM k->S3 k:=λk hk=>(e k).2 (.inr (.inr ((hR.2.2.2 k).2 hk)));refine j1 _ r' v.dF w4 S4 h4 ⟨m4.mono λk _ hk=>(e k).2 (.inl hk),λk hk=>.inl ((s4 k hk).elim id λh=>inS k (yT k h))⟩ (by have:=ok.jI;rw[hw] at this;simp only[nU] at this;omega)
   ·refine aA rfl (aE (k:=.i) v.ny (XV.cell rfl) (aF (λ_=>?_) (λ_=>j1 uM v.jI v.dF w3 S3 XV (Up.refl _ _) ok.jI)))
    refine aA rfl (XV.Qx (LF:=bD) (Ut:=[]) (Ds cR) (λk hk=>hk.elim) λw4 S4 h4 m4 s4=>?_);have h4':LD d bD ⟨v.cQ,some (p,(c.push b).2.1),v.aP,v.jV,v.cw,v.ny,[],v.dF⟩ w4 S4:=h4;obtain⟨_,_,_,_,_,_,_,_,e⟩:=XV.parts;have u4:Up S3 S4 w3 w4:=⟨m4.mono λk _ hk=>(e k).2 (.inl hk),λk hk=>.inl ((s4 k hk).elim id λh=>h.elim)⟩;refine aA rfl (h4'.set (v':=⟨v.cQ,some (p,(c.push b).2.1),v.aP,v.jV,v.cw,v.ny,[],false⟩) gV (by decide) rfl rfl rfl rfl rfl λw5 h5 u5=>?_);exact j1 _ [] false w5 S4 h5 (u4.tr u5) (iG _)
  have c11:w3.cell? ((⟨d,0,none⟩:Addr).add 11)=some (sv uM):=XV.cell rfl;refine aA rfl (aE (k:=.bool) v.dF (XV.cell rfl) (aF (λ_=>?_) (λ_=>j2 false λh=>by cases h)));refine aA rfl (aE (k:=.slice) uM c11 (aJ (λhgt=>?_) (λ_=>j2 false λh=>by cases h)));obtain⟨SC,SR,hB3,hC,hR,d1,d2,d3,e⟩:=XV.parts;have hl:uM.l=v.jI.length:=hR.1.len;cases hw:v.jI with
  |nil=>rw[hw] at hl;simp at hl;omega
  |cons x r'=>
   obtain⟨a,ha,hx⟩:=cF (k:=.i) (e:=λx=>x) hR.1 (show v.jI[0]? =some x by rw[hw];rfl);refine aA rfl (aE (k:=.slice) uM c11 ⟨⟨aB,aB⟩,aA ha (aE (k:=.i) x hx (j2 _ λ_=>⟨x,r',hw⟩))⟩)
theorem aAY{dO:Int}{Q:Sl->Int->aH->Prop}(h:uU d v w S)(ok:v.Ok B)(hB:0<=B)
  (hQ:∀r ds e v' w' S',JC B d v w S r ds v' w' S'->Q r e w'):EP (some ⟨d,0,none⟩) dO w Q:=by
 unfold EP;have no:=λe=>hQ bD [] e v w S (JC.same h ok (aW.refl _ _));refine VY h (aF (λ_=>no _) (λdj=>?_));obtain⟨uM,h0⟩:=h;obtain⟨SC,SR,hB3,hC,hR,d1,d2,d3,e⟩:=h0.parts;have hl:=hR.1.len;have c11:w.cell? ((⟨d,0,none⟩:Addr).add 11)=some (sv uM):=h0.cell rfl;refine aA rfl (aE (k:=.slice) uM c11 (aF (λ_=>no _) (λhz=>?_)));cases hw:v.jI with
 |nil=>rw[hw] at hl;rw[hl] at hz;simp at hz
 |cons x r'=>
  obtain⟨a,ha,hx⟩:=cF (k:=.i) (e:=λx=>x) hR.1 (show v.jI[0]? =some x by rw[hw];rfl);rw[hw] at hl;simp only[nU] at hl;refine aA rfl (aE (k:=.slice) uM c11 ⟨⟨aB,aB⟩,aA ha (aE (k:=.i) x hx (Pg ⟨uM,h0⟩ ok hB λr ds e v' w' S' g=>hQ r ds e v' w' S' g))⟩)
theorem DStop_i{dO:Int}{Q:Sl->Int->aH->Prop}(h:uU d v w S)(ok:v.Ok B)(hB:0<=B)
  (hQ:∀r ds e v' w' S',JC B d v w S r ds v' w' S'->Q r e w'):PJ (some ⟨d,0,none⟩) dO w Q:=by
 unfold PJ;refine VY h (aF (λ_=>hQ _ [] _ v w S (JC.same h ok (aW.refl _ _))) (λdj=>?_));have DP:v.jV=true:=by simpa using dj
 cases Ki:v.ch with
 |none=>exact absurd Ki (ok.jV DP)
 |some pc=>
  obtain⟨p,c⟩:=pc;have kH:=ok.ch _ Ki;have hlv':=kH.2.2.2 DP;refine Ry (m:=⟨3,0,0,[],0,ME⟩) h Ki kH.1 rfl λr ds b w3 S3 h3 u3 r3 Kr cs3 La f3=>?_;have hn5:=cs3.n;have hr5:=Kr.s.yR;have wg:=cs3.cO;have e2w:c.s.cO=v.cQ.cO:=kH.2.1;rw[e2w] at wg;refine hQ r ds _ _ w3 S3 ⟨h3,u3,r3,⟨ok.cQ,by have:=ok.aP;exact⟨this.1,by show v.aP<=B+16;omega⟩,ok.jI,λ_=>by simp,λq hq=>?_⟩,rfl,by rw[<-f3.len];omega,VR f3⟩;cases hq;exact⟨Kr,wg,by rw[cs3.dl];have:c.dl<=B:=kH.2.2.1;omega,λ_=>cs3.aP.trans hlv'⟩
def MO(v v':CS)(ds:List (List dA)):Prop:=
 if v.jV=true then∃p c gs e c',v.ch=some (p,c)/\qv c gs e c'/\if e=0 then v'={v with ch:=some (p,c')}/\F2 GOk gs ds else v'={v with ch:=some (p,c'),jV:=false,cw:=0}/\ds=[] else v'=v/\ds=[]
theorem DTick_i{dO:Int}{Q:Sl->aH->Prop}(h:uU d v w S)(ok:v.Ok B)(hB:0<=B)
  (hQ:∀r ds v' w' S',JC B d v w S r ds v' w' S'->v'.Ok B->MO v v' ds->Q r w'):PI (some ⟨d,0,none⟩) dO w Q:=by
 unfold PI;refine VY h (aF (λdj=>hQ _ [] v w S (JC.same h ok (aW.refl _ _)) ok ?_) (λdj=>?_))
 ·have:v.jV=false:=by simpa using dj
  unfold MO;rw[if_neg (by rw[this];simp)];exact⟨rfl,rfl⟩
 have DP:v.jV=true:=by simpa using dj
 cases Ki:v.ch with
 |none=>exact absurd Ki (ok.jV DP)
 |some pc=>
  obtain⟨p,c⟩:=pc;have kH:=ok.ch _ Ki;obtain⟨S1,h1,tO,c6,dN⟩:=h.chan Ki;refine aA rfl (aE (k:=.ptr) (some ⟨p,0,none⟩) c6 (vj h1 kH.1 λrg gs e c' w2 S2 h2 u2 Ui IL=>?_));obtain⟨S3,h3,u3⟩:=dN _ _ w2 S2 u2 h2;obtain⟨S4,h4,u4,g4⟩:=VQ h3;have pf:=Ih kH.1 Ui;have e2w:c.s.cO=v.cQ.cO:=kH.2.1;have hnw:c'.s.n<=v.cQ.cO:=by have:=IL.s.yR;rw[pf.1,e2w] at this;exact this
  have hlv':=kH.2.2.2 DP;have okv:∀lv wy,(lv=true->lv=v.jV)->(⟨v.cQ,some (p,c'),v.aP,lv,wy,v.ny,v.jI,v.dF⟩:CS).Ok B:=λlv wy _=>⟨ok.cQ,ok.aP,ok.jI,λ_=>by simp,λq hq=>by
   cases hq;exact⟨IL,pf.1.trans e2w,by rw[pf.2.2.1];exact kH.2.2.1,λ_=>pf.2.1.trans hlv'⟩⟩
  have U4:=u3.tr u4;refine aF (λhe=>?_) (λhe=>?_)
  ·have vV:¬e=0:=by simpa using he
   obtain⟨uM,h4⟩:=h4;refine aA rfl (h4.set (v':=⟨v.cQ,some (p,c'),v.aP,false,v.cw,v.ny,v.jI,v.dF⟩) gV (by decide) rfl rfl rfl rfl rfl λw5 h5 u5=>?_);refine aA rfl (h5.set (v':=⟨v.cQ,some (p,c'),v.aP,false,0,v.ny,v.jI,v.dF⟩) cU (by decide) rfl rfl rfl rfl rfl λw6 h6 u6=>?_);refine hQ _ [] _ w6 S4 ⟨⟨uM,h6⟩,(U4.tr u5).tr u6,eJ.nil,(okv false 0 λh=>by cases h).mono aB,rfl,iG _,λx hx=>by cases hx⟩ (okv false 0 λh=>by cases h) ?_;unfold MO;rw[if_pos DP];exact⟨p,c,gs,e,c',Ki,Ui,by rw[if_neg vV];exact⟨rfl,rfl⟩⟩
  ·have vV:e=0:=by simpa using he
   refine NN g4 (by have:=pf.2.2.2.1;have:=IL.s.cO;have:=IL.s.yR;omega) (λg hg=>by have:=pf.2.2.2.2 g hg;omega) λr ds w5 k5 v5 f5=>?_;have bd4:=bF.gH h4;have zz:=U4.size;refine hQ r ds _ w5 S4 ⟨bF.kp h4 k5,U4.tr (Up.aN k5),(v5.sub λk hk=>bd4 k hk).qF aB,(okv v.jV v.cw λ_=>rfl).mono aB,rfl,by rw[<-f5.len];have:=pf.2.2.2.1;omega,VR f5⟩ (okv v.jV v.cw λ_=>rfl) ?_;unfold MO;rw[if_pos DP];exact⟨p,c,gs,e,c',Ki,Ui,by rw[if_pos vV];exact⟨rfl,f5⟩⟩
end
end
section
abbrev RowM:=eJ (α:=lO) eI nC 9 tC lO.cH
def CS.Vj(v:CS)(jI:List Int)(dF:Bool):CS:={v with jI:=jI,dF:=dF}
def Gg(XW:List (lO×Int)):List lO:=(XW.filter λx=>decide (x.2=0)).map (·.1)
def Wm(v:CS)(g:gA)(e:Int):Prop:=e=0/\v.jV=true/\g.aP=v.aP
def DRecvR(v:CS)(bs:List dA)(v':CS)(ds:List (List dA))(ms:List lO):Prop:=∃g e,GDec bs g e/\
  ((¬Wm v g e/\v'=v/\ds=[]/\ms=[])\/(Wm v g e/\g.kind=3/\v'={v with jV:=false,cw:=g.code}/\ds=[]/\ms=[])\/
   (Wm v g e/\g.kind≠3/\∃p c rQ gs c' XW jI dF,v.ch=some (p,c)/\VJ c g rQ gs c'/\c'.Ok/\F2 GOk gs ds/\F2 (λb x=>MDec b x.1 x.2) rQ XW/\ms=Gg XW/\v'=({v with ch:=some (p,c')}:CS).Vj jI dF))
section
variable{d:Nat}{v:CS}{w:aH}{S:BS}{B:Int}
theorem hears_i{m:lO}{sl:Sl}{Q:aH->Prop}(h:uU d v w S)(hr:Rd w sl 1 eI m.cH)(hl:m.cH.length<=70000)(hw:v.jI.length<=70000)
  (hQ:∀w' S' jI dF,uU d (v.Vj jI dF) w' S'->Up S S' w w'->jI.length<=70000->Q w'):JZ (some ⟨d,0,none⟩) (FX (m,sl)) w Q:=by
 unfold JZ;refine cC (cs:=tC (m,sl)) λw1 b1 k1 z1=>?_;have h1:=bF.kp h k1;have bd:=bF.gH h;refine aE (k:=.i) m.kind (aO b1 rfl) (aF (λ_=>?_) (λ_=>aF (λ_=>?_) (λ_=>hQ w1 S v.jI v.dF h1 (Up.aN k1) hw)))
 ·refine aE (k:=.slice) sl (aO b1 rfl) (HE (hr.aK k1 cR λ_ _=>id) aB λs2 w2 v2 k2 f2=>aA rfl ?_)
  obtain⟨uM,h2⟩:=bF.kp h1 k2;have AV:AX 1 eI s2 m.cH w2 (λk=>∃b,s2.b=some b/\k=b.block):=⟨v2.rd fH,cR,λb hb=>v2.lt hb,λ_=>Iff.rfl⟩;refine h2.Qx (Ut:=m.cH) AV (λk ⟨b,hb,e⟩=>.inl λhs=>by have:=bd _ hs;have:=f2 b hb;omega) λw3 S3 h3 m3 s3=>?_;obtain⟨_,_,_,_,_,_,_,_,e⟩:=h2.parts;have u3:Up S S3 w w3:=⟨((k1.tr k2).wk).trans m3 λk _ hk=>(e k).2 (.inl hk),λk hk=>(s3 k hk).imp id λ⟨b,hb,e⟩=>by have:=f2 b hb;omega⟩;refine aA rfl (h3.set (v':=v.Vj m.cH true) gV (by decide) rfl rfl rfl rfl rfl λw4 h4 u4=>?_);exact hQ w4 S3 m.cH true ⟨s2,h4⟩ (u3.tr u4) hl
 ·obtain⟨uM,h2⟩:=h1
  refine aA rfl (h2.Qx (LF:=bD) (Ut:=[]) (Ds cR) (λk hk=>hk.elim) λw3 S3 h3 m3 s3=>?_);obtain⟨_,_,_,_,_,_,_,_,e⟩:=h2.parts;have u3:Up S S3 w w3:=⟨(k1.wk).trans m3 λk _ hk=>(e k).2 (.inl hk),λk hk=>(s3 k hk).imp id False.elim⟩;refine aA rfl (h3.set (v':=v.Vj [] false) gV (by decide) rfl rfl rfl rfl rfl λw4 h4 u4=>?_);exact hQ w4 S3 [] false ⟨_,h4⟩ (u3.tr u4) (iG _)
theorem mv{dO:Int}{b:Sl}{bs:List dA}{Q:Sl->Sl->aH->Prop}(hr:Rd w b 1 eU bs)(hl:bs.length<=5000)(hQ:∀w',aM w w'->Q bD bD w'):AP none dO b w Q:=by
 unfold AP;refine jo hr hl λg sl e w1 k1 rd1 f1 Kh=>?_;refine fE (zs:=eG (⟨0,0,0,0,0,[]⟩,bD)) (vs:=eG (g,sl)) rJ rfl (Le _) λw3 o3 k3 z3=>?_;have K:=(k1.tr k3).tr (bN w3);refine aF (λ_=>hQ _ K) (λ_=>?_);unfold rL;exact aF (λh=>by cases h) (λ_=>aF (λ_=>hQ _ K) (λh=>by cases h))
theorem DRecv_i{dO:Int}{b:Sl}{bs:List dA}{Q:Sl->Sl->aH->Prop}(h:uU d v w S)(ok:v.Ok B)(hB:0<=B/\B<=100000000000000)(hr:Rd w b 1 eU bs)(hro:AY b S w)(hl:bs.length<=5000)
  (hQ:∀r rm ds ms v' w' S',JC B d v w S r ds v' w' S'->RowM w.heap.size S' w' rm ms->DRecvR v bs v' ds ms->Q r rm w'):AP (some ⟨d,0,none⟩) dO b w Q:=by
 unfold AP;have bd:=bF.gH h;refine jo hr hl λg sl e w1 k1 rd1 f1 Kh=>?_;refine fE (zs:=eG (⟨0,0,0,0,0,[]⟩,bD)) (vs:=eG (g,sl)) rJ rfl (Le _) λw3 o3 k3 z3=>?_;have K3:=(k1.tr k3).tr (bN w3);have h3:=bF.kp h K3;have Ks:=o3.aK (bN w3) id;have UK:¬Wm v g e->Q bD bD w3.drew:=λhn=>hQ _ _ [] [] v _ S (JC.same h ok K3) eJ.nil ⟨g,e,Kh,.inl ⟨hn,rfl,rfl,rfl⟩⟩;refine aF (λhe=>UK λhh=>by have:=hh.1;simp[this] at he) (λhe=>?_);have he0:e=0:=by simpa using he
 refine VY h3 (aF (λdj=>UK λhh=>by have:=hh.2.1;rw[this] at dj;cases dj) (λdj=>?_));have DP:v.jV=true:=by simpa using dj
 obtain⟨uM,h3m⟩:=h3;refine aE (k:=.i) g.aP (cM Ks rfl) (aA rfl (aE (k:=.i) v.aP (h3m.cell rfl) (aF (λhc=>UK λhh=>by have:=hh.2.2;simp[this] at hc) (λhc=>?_))));have dq:g.aP=v.aP:=by simpa using hc
 have Wc:Wm v g e:=⟨he0,DP,dq⟩;have hconn:=ok.aP;refine aE (k:=.i) g.kind (cM Ks rfl) (aF (λhk=>?_) (λhk=>?_))
 ·have np:g.kind=3:=by simpa using hk
  have h4:=bF.dr h3m;have o4:=Ks.aK (bN w3.drew) id;refine aE (k:=.i) g.code (cM o4 rfl) (aA rfl ?_);refine h4.set (v':={v with jV:=false}) gV (by decide) rfl rfl rfl rfl rfl λw5 h5 u5=>?_;have n1:¬S w1.heap.size:=λhs=>by have:=bd _ hs;have:=k1.size;omega
  refine⟨cM (o4.aK u5.m n1) rfl,aA rfl ?_⟩;refine h5.set (v':={v with jV:=false,cw:=g.code}) cU (by decide) rfl rfl rfl rfl rfl λw6 h6 u6=>?_;refine hQ _ _ [] [] _ w6 S ⟨⟨uM,h6⟩,((Up.aN (K3.tr (bN w3.drew))).tr u5).tr u6,eJ.nil,⟨ok.cQ,by show 0<=v.aP/\v.aP<=B+16;omega,ok.jI,λh=>(by cases h),λp hp=>?_⟩,rfl,iG _,λx hx=>by cases hx⟩ eJ.nil ⟨g,e,Kh,.inr (.inl ⟨Wc,np,rfl,rfl,rfl⟩)⟩;have:=ok.ch p hp;exact⟨this.1,this.2.1,aB,λh=>by cases h⟩
 ·have np:g.kind≠3:=by simpa using hk
  cases Ki:v.ch with
  |none=>exact absurd Ki (ok.jV DP)
  |some pc=>
   obtain⟨p,c⟩:=pc;have kH:c.Ok/\c.s.cO=v.cQ.cO/\c.s.next-(c.s.n:Int)<=B/\(v.jV=true->c.aP=v.aP):=ok.ch _ Ki
   have DO:=kH.1.s.yR;have CV:=kH.1.s.cO;have lgb:g.body.length<=5000:=iF Kh.len hl;have h4:uU d v w3.drew.drew S:=bF.dr ⟨uM,h3m⟩;have K4:=K3.tr (bN w3.drew);have o4:=Ks.aK (bN w3.drew) id;obtain⟨S1,h1,tO,c6,dN⟩:=h4.chan Ki;have wd:w3.drew.drew.heap.size=w3.heap.size:=rfl;have rdg:Rd w3.drew.drew sl 1 eU g.body:=((rd1.1.aK k3 fI λ_ _=>id).aK (bN w3) fI λ_ _=>id).aK (bN w3.drew) fI λ_ _=>id;refine aA rfl (aE (k:=.ptr) (some ⟨p,0,none⟩) c6 (bJ (l:=kG) (IY (g,sl)) (o4.holds λj v hj=>by rw[pN];exact hj) ?_));refine Si h1 kH.1 aB rdg (λb bW=>⟨λhk=>by have:=bd _ (tO _ hk);have:=f1 b bW;omega,by have:=rd1.2.2.1 b bW;omega⟩) lgb Kh.seq λYJ rQ rg gs c' w7 S7 h7 u7 YI IL=>?_;obtain⟨S8,h8,u8⟩:=dN _ _ w7 S7 u7 h7;obtain⟨SA,SR,hA,⟨SB,SG,hBs,hGs,dBG,eBG⟩,dAR,eAR⟩:=h8;have rf:=wT kH.1 YI;have rowD:Fj (λk=>¬SA k/\k<w7.heap.size) w7 YJ rQ:=(hBs.row (P:=λk=>¬SA k) λk hk hs=>dAR k hs ((eBG k).2 (.inl hk))).wk λk h1 h2=>⟨h1,h2⟩;have rowG:Vh (λk=>¬SA k/\k<w7.heap.size) w7 rg gs:=(hGs.row (P:=λk=>¬SA k) λk hk hs=>dAR k hs ((eBG k).2 (.inr hk))).wk λk h1 h2=>⟨h1,h2⟩;have UA:Up S SA w w7:=((Up.aN K4).tr u8).tr (Up.sub w7 λk hk=>(eAR k).2 (.inl hk));have e2w:c.s.cO=v.cQ.cO:=kH.2.1;have hnw:c'.s.n<=v.cQ.cO:=by have:=IL.s.yR;rw[rf.1,e2w] at this;exact this
   have hlc:=kH.2.2.2 DP;have ldb:=rowD.len;have lbs:=rf.2.2.2.2.2.2;have zA:=UA.size;refine bO (λn t w8=>∃(i:Nat) (rm:Sl) (ms:List lO) (XW:List (lO×Int)) (jI:List Int) (dF:Bool) (S5:BS),i<=rQ.length/\n=rQ.length-i/\t=(rm,(i:Int),())/\uU d (({v with ch:=some (p,c')}:CS).Vj jI dF) w8 S5/\Up S S5 w w8/\RowM w7.heap.size S5 w8 rm ms/\jI.length<=70000/\F2 (λb x=>MDec b x.1 x.2) (rQ.take i) XW/\ms=Gg XW/\ms.length<=i/\Fj (λk=>¬S5 k/\k<w7.heap.size) w8 YJ rQ/\Vh (λk=>¬S5 k/\k<w7.heap.size) w8 rg gs/\w7.heap.size<=w8.heap.size) rQ.length
    ⟨0,bD,[],[],v.jI,v.dF,SA,iG _,rfl,rfl,hA,UA,eJ.nil,ok.jI,.nil,rfl,iT _,rowD,rowG,iT _⟩ ?_
   rintro n t w8 ⟨i,rm,ms,XW,jI,dF,S5,hi,rfl,rfl,h5,u5,r5,wg,f5,Uk,hml,d5,g5,zz5⟩ X hX;dsimp only;have Mt:=bF.gH h5;refine aJ (λcJ=>?_) (λkT=>?_)
   ·have dJ:i<rQ.length:=aB
    have cV:=gS dJ;have fP:=nE dJ;have rV:=FQ dJ;generalize rQ[i]=body at*;obtain⟨q,slb,hq,hh,Kv,Em⟩:=d5.get cV;rw[kE,qA i aB];have cq:w8.cell? (q.add (i*1))=some (sv slb):=by have:=hh.1;rwa[add_add,Nat.add_zero] at this
    refine⟨⟨aB,cJ⟩,aA hq (aE (k:=.slice) slb cq ?_)⟩;refine jl Kv (lbs _ fP) λm aw em w9 k9 rd9 f9 hmd=>?_;refine fE (zs:=tC (⟨0,0,0,[],0,ME⟩,bD)) (vs:=tC (m,aw)) CA rfl (VE _) λeE o11 KU z11=>?_;have K11:=k9.tr KU;have Kk:=bF.kp h5 K11;have z9:=k9.size;have rd11:=rd9.1.aK KU cR λ_ _=>id;have hF:F2 (λb x=>MDec b x.1 x.2) (rQ.take (i+1)) (XW++[(m,em)]):=by rw[rV];exact f5.app (.one hmd)
    refine aF (λhe=>?_) (λhe=>?_)
    ·have hem:em=0:=by simpa using he
     refine bJ (l:=bf) (FX (m,aw)) (o11.holds λj v hj=>by rw[pN];exact hj) ?_;refine hears_i Kk rd11 hmd.len wg λeR XZ way2 has2 Bx Br hw12=>?_;have Db:=o11.aK Br.m λhs=>by have:=Mt _ hs;omega
     refine bJ (l:=bf) (FX (m,aw)) (Db.holds λj v hj=>by rw[pN];exact hj) ?_;have UU:Up S5 XZ w8 eR:=(Up.aN K11).tr Br;have bd12:=bF.gH Bx;have z12:=Br.size;have xt:∀b,aw.b=some b->w8.heap.size<=b.block/\b.block<w9.heap.size:=λb bW=>⟨f9 b bW,rd9.2.2.1 b bW⟩;have nS:∀b,aw.b=some b->¬XZ b.block:=λb bW hs=>by
      rcases Br.s _ hs with h|h
      ·have:=Mt _ h;have:=(xt b bW).1;omega
      ·have:=(xt b bW).2;omega
     have n5:∀b,aw.b=some b->¬S5 b.block:=λb bW hs=>by have:=Mt _ hs;have:=(xt b bW).1;omega
     have rmlt:∀b,rm.b=some b->b.block<w8.heap.size:=λb bW=>r5.lt bW;refine eJ.gW Og Fs VE aB (r5.up UU) aB aB bd12 m (sl:=aw) (rd11.aK Br.m cR λb bW=>n5 b bW) (λb bW=>⟨by have:=(xt b bW).1;omega,nS b bW,by have:=(xt b bW).2;omega,λb' Qk e=>by have:=(xt b bW).1;have:=rmlt b' Qk;omega⟩) λrm' mC v14 YB=>?_;have U14:Up S XZ w mC:=Up.iH (u5.tr UU) (YB.mono λk _ hk=>⟨by have:=hk.1;omega,hk.2⟩);refine hX _ _ _ aB ⟨i+1,rm',ms++[m],XW++[(m,em)],way2,has2,XZ,dJ,rfl,rfl,bF.ov Bx YB,U14,v14,hw12,hF,?_,by simp;omega,((d5.aK KP UU.m λk hk _=>hk.1).wk λk hk _=>⟨λhs=>(UU.s k hs).elim hk.1 λh=>by have:=hk.2;omega,hk.2⟩).aK KP YB λk hk _ h=>by have:=hk.2;have:=h.1;omega,((g5.aK QO UU.m λk hk _=>hk.1).wk λk hk _=>⟨λhs=>(UU.s k hs).elim hk.1 λh=>by have:=hk.2;omega,hk.2⟩).aK QO YB λk hk _ h=>by have:=hk.2;have:=h.1;omega,by have:=YB.size;omega⟩;rw[Uk];unfold Gg;rw[IT,yS,List.filter_cons_of_pos (by simp[hem])];rfl
    ·have hem:em≠0:=by simpa using he
     refine hX _ _ _ aB ⟨i+1,rm,ms,XW++[(m,em)],jI,dF,S5,dJ,rfl,rfl,Kk,u5.tr (Up.aN K11),r5.kp K11,wg,hF,?_,aB,d5.kp KP K11,g5.kp QO K11,aB⟩;rw[Uk];unfold Gg;rw[IT,yS,List.filter_cons_of_neg (by simp[hem])];simp
   ·have ei:i=rQ.length:=aB
    subst ei;rw[oZ] at f5;refine NN g5 (by have:=rf.2.2.2.1;omega) (λx hx=>by have:=rf.2.2.2.2.1 x hx;omega) λr ds fO Dc v15 f15=>?_;refine hQ r rm ds ms _ fO S5 ⟨bF.kp h5 Dc,u5.tr (Up.aN Dc),(v15.sub λk hk=>Mt k hk).qF aB,⟨ok.cQ,by show 0<=v.aP/\v.aP<=B+16;omega,wg,λ_=>by show(some (p,c'):Option (Nat×lH))≠none;simp,λq hq=>?_⟩,rfl,by rw[<-f15.len];have:=rf.2.2.2.1;omega,VR f15⟩ ((r5.kp Dc).qF zA) ⟨g,e,Kh,.inr (.inr ⟨Wc,np,p,c,rQ,gs,c',XW,jI,dF,Ki,YI,IL,f15,f5,Uk,rfl⟩)⟩;cases hq;exact⟨IL,rf.1.trans e2w,by have h27:c'.dl<=c.s.next:=rf.2.2.1;show c'.dl<=B+16;omega,λ_=>rf.2.1.trans hlc⟩
end
end
end Go.Proofs.YtihggjgakbgomaaGreat
