import Derived.Test.YtihggjgakbgomaaGreatA1
import Derived.Test.YtihggjgakbgomaaGreatQ4
import Derived.Test.YtihggjgakbgomaaGreatF2
namespace Go.Proofs.YtihggjgakbgomaaGreat
open Go Go.Den
open Tryz (prog)
section
theorem Ym:aAn prog 102:=⟨ZB,5,iH,iH,by decide⟩
structure gW where
 cG:wQ
 sp:Nat
 tp:Nat
 lp:Nat
 dL:Int
 u:List Int
 t:sP
 gv:List Nat
 lf:Nat->Option Kv.T
 ln:Nat
 ch:Nat->jH
 yX:Nat->FZ
def sP.at(t:sP)(p:Nat):Option cV:=t.aT.find? λe=>e.aM==p
def Grv(a:Nat):As:=Ex λcs=>sM a ZB cs
instance{a:Nat}:bF (Grv a):=by unfold Grv;infer_instance
inductive SI|Ch|set|Ew|lost|ch(p:Nat)
 deriving DecidableEq
abbrev VL(ee:Nat)(v:gW):List Value:=[.pointer (some ⟨ee,0,none⟩),aD (v.cG.oI:Int),aD (v.cG.cM:Int),aD v.cG.MH,aD v.cG.nN,aD v.cG.cap,aD v.cG.idle,.pointer (some ⟨v.sp,0,none⟩),.pointer (some ⟨v.tp,0,none⟩),aD v.dL,.map (some v.lp)]
def VN(v:gW):As:=aZ (DC v.tp v.t) (wI Grv v.gv)
instance{v:gW}:bF (VN v):=by unfold VN;infer_instance
def QO(ee a:Nat)(v:gW):SI->As
 | .Ch=>sM a xK (VL ee v)
 | .set=>vA v.sp v.u
 | .Ew=>VN v
 | .lost=>uQ v.lp yZ Kv v.lf v.ln
 | .ch p=>match v.t.at p with
  |some e=>jU e.cp (v.ch p)
  |none=>DO
instance QO.loc{ee a:Nat}{v:gW}:∀i,bF (QO ee a v i)
 | .Ch=>inferInstanceAs (bF (sM a xK (VL ee v)))
 | .set=>inferInstanceAs (bF (vA v.sp v.u))
 | .Ew=>inferInstanceAs (bF (VN v))
 | .lost=>inferInstanceAs (bF (uQ v.lp yZ Kv v.lf v.ln))
 | .ch p=>by
  show bF (match v.t.at p with|some e=>jU e.cp (v.ch p)|none=>DO)
  split<;>infer_instance
def lF(ee a:Nat)(v:gW):As:=gF (QO ee a v)
instance{ee a:Nat}{v:gW}:bF (lF ee a v):=by unfold lF;infer_instance
structure gW.Ok(G:Gr)(B:Int)(v:gW):Prop where
 cG:v.cG.Ok
 dL:0<=v.dL/\v.dL<=1000000000
 u:v.u.length=G.E.length/\v.u.length<=512
 t:v.t.Ok
 eE:v.t.eE=v.cG.oI
 ch:∀e∈v.t.aT,(v.ch e.aM).Ok/\(v.ch e.aM).aK=e.aK/\(v.ch e.aM).s.cM=v.cG.cM/\(v.ch e.aM).dl<=B
 yX:∀e∈v.t.aT,UN G (v.yX e.aM)
 Dv:∀e∈v.t.aT,(1<=e.aK/\e.aK<=2147483648)/\0<=e.kM/\e.kM<=v.dL
 lost:∀k,(v.lf k).isSome=true->(∃e∈v.t.aT,e.a=k)\/k∈v.gv
theorem sP.at_mem{t:sP}{p:Nat}{e:cV}(h:t.at p=some e):e∈t.aT/\e.aM=p:=⟨List.mem_of_find?_eq_some h,by have:=List.find?_some h;simpa using this⟩
theorem sP.MY{t:sP}(ok:t.Ok){e:cV}(he:e∈t.aT):t.at e.aM=some e:=by
 cases h:t.at e.aM with
 |none=>have:=List.find?_eq_none.1 h e he;simp at this
 |some f=>
  obtain⟨h1,h2⟩:=sP.at_mem h;rw[ok.inj h1 he h2]
section
variable{w:aH}{S:BS}{ee a:Nat}{v:gW}
theorem lF.Vy(h:lF ee a v w S):∃S1,sM a xK (VL ee v) w S1/\∀k,S1 k->S k:=gF.get h .Ch
theorem lF.cell(h:lF ee a v w S){k:Nat}{x:Value}(hk:(VL ee v)[k]? =some x):w.cell? ((⟨a,0,none⟩:Addr).add k)=some x:=by
 obtain⟨S1,h1,_⟩:=h.Vy;exact aP h1 hk
theorem lF.Ew(h:lF ee a v w S):∃S1,DC v.tp v.t w S1/\∀k,S1 k->S k:=by
 obtain⟨S1,⟨S2,S3,h2,h3,d,e⟩,hs⟩:=gF.get h .Ew;exact⟨S2,h2,λk hk=>hs k ((e k).2 (.inl hk))⟩
theorem lF.Dv(h:lF ee a v w S){e:cV}(he:e∈v.t.aT):cW w e.a ZB (Xa e)/\S e.a:=by
 obtain⟨S1,h1,hs⟩:=h.Ew;exact⟨(h1.Dv he).1,hs _ (h1.Dv he).2⟩
theorem lF.VK(h:lF ee a v w S){e:cV}(he:e∈v.t.aT){k:Nat}{x:Value}(hk:(Xa e)[k]? =some x):w.cell? ((⟨e.a,0,none⟩:Addr).add k)=some x:=dO (h.Dv he).1 hk
theorem lF.Ia{G:Gr}{B:Int}(h:lF ee a v w S)(ok:v.Ok G B):∀k,(v.lf k).isSome=true->zF w k:=λk hk=>by
 obtain⟨S1,⟨S2,S3,h2,h3,d,e⟩,hs⟩:=gF.get h .Ew;rcases ok.lost k hk with⟨e,he,rfl⟩|hg
 ·exact(h2.Dv he).1.Sq
 ·obtain⟨S4,⟨cs,h4⟩,_⟩:=wI.get h3 hg
  exact h4.1.Sq
theorem lF.lostMap(h:lF ee a v w S):jT w v.lp yZ Kv v.lf v.ln:=by
 obtain⟨S1,h1,_⟩:=gF.get h .lost;exact h1.1
def gW.kC(v:gW)(p:Nat)(c:jH):gW:={v with ch:=λq=>if q=p then c else v.ch q}
def gW.vF(v:gW)(p:Nat)(c:FZ):gW:={v with yX:=λq=>if q=p then c else v.yX q}
def gW.Ay(v:gW)(k:Nat)(b:Bool):gW:={v with lf:=λy=>if y=k then some b else v.lf y,ln:=if(v.lf k).isSome then v.ln else v.ln+1}
theorem lF.chan(h:lF ee a v w S){e:cV}{p:Nat}(he:v.t.at p=some e):Wp w S (jU e.cp (v.ch p)) λX=>gF (EX (QO ee a v) (.ch p) X):=by
 have h1:=gF.at h (.ch p);have e1:QO ee a v (.ch p)=jU e.cp (v.ch p):=by show(match v.t.at p with|some e=>jU e.cp (v.ch p)|none=>DO)=_;rw[he]
 rwa[e1] at h1
theorem fam_ch{e:cV}{p:Nat}(he:v.t.at p=some e)(c:jH):EX (QO ee a v) (.ch p) (jU e.cp c)=QO ee a (v.kC p c):=by
 funext i
 show(if i=.ch p then jU e.cp c else QO ee a v i)=_
 split
 ·rename_i h;subst h
  show _=(match v.t.at p with|some e=>jU e.cp (if p=p then c else v.ch p)|none=>DO)
  rw[he,if_pos rfl]
 ·rename_i h
  cases i with
  |ch q=>
   have hq:¬q=p:=λe=>h (by rw[e]);show _=(match v.t.at q with|some e=>jU e.cp (if q=p then c else v.ch q)|none=>DO)
   rw[if_neg hq];rfl
  |_=>rfl
theorem fam_lost(k:Nat)(b:Bool):EX (QO ee a v) .lost (uQ v.lp yZ Kv (λy=>if y=k then some b else v.lf y) (if(v.lf k).isSome then v.ln else v.ln+1))=QO ee a (v.Ay k b):=by
 funext i
 cases i<;>rfl
theorem lF.Xm(h:lF ee a v w S){e:cV}{p:Nat}(he:v.t.at p=some e):∃S1,jU e.cp (v.ch p) w S1/\(∀k,S1 k->S k)/\∀c D w' T,Up S1 T w w'->aZ (jU e.cp c) D w' T->∃S',aZ (lF ee a (v.kC p c)) D w' S'/\Up S S' w w':=by
 obtain⟨S1,h1,hs,dN⟩:=h.chan he;refine⟨S1,h1,hs,λc D w' T u hT=>?_⟩;obtain⟨S',h',u'⟩:=dN _ D w' T u hT;exact⟨S',h'.mono (λS h=>by unfold lF;rw[<-fam_ch he];exact h) λ_ h=>h,u'⟩
theorem lF.mark{G:Gr}{B:Int}(h:lF ee a v w S)(ok:v.Ok G B){e:cV}(he:e∈v.t.aT)(b:Bool){Q:aH->Prop}(hQ:∀w' S',lF ee a (v.Ay e.a b) w' S'->Up S S' w w'->Q w'):fF prog 98 (.map (some v.lp)) (.pointer (xI e)) (.bool b) w Q:=by
 obtain⟨S1,h1,_,dN⟩:=(gF.at h .lost).put;refine update_p (kn:=Kv) kg Ym h1.1 e.a b (h.Ia ok) (h.Dv he).1.Sq λw' za mm' _=>?_;obtain⟨S',h',u'⟩:=dN (uQ v.lp yZ Kv (λy=>if y=e.a then some b else v.lf y) (if(v.lf e.a).isSome then v.ln else v.ln+1)) w' S1 (Up.at (mm'.mono λk _ hk=>(h1.2 k).2 hk)) ⟨za,h1.2⟩
 exact hQ w' S' (by unfold lF;rw[<-fam_lost];exact h') u'
theorem lF.Hb{G:Gr}{B:Int}(h:lF ee a v w S)(ok:v.Ok G B){e:cV}(he:e∈v.t.aT){Q:Bool->aH->Prop}(hQ:Q ((v.lf e.a).getD (false:Bool)) w):kF prog (.c .bool) 98 (.map (some v.lp)) (.pointer (xI e)) w Q:=
 aAO (kn:=Kv) kg Ym (z:=false) Oi h.lostMap e.a (h.Ia ok) (h.Dv he).1.Sq hQ
end
def Cq(c:jH):Bool->List (List cH)->List eR×jH×Bool
 |lo,[]=>([],c,lo)
 |true,_::_=>([],c,true)
 |false,b::r=>((c.push b).1++(Cq (c.push b).2.1 ((c.push b).2.2 !=0) r).1,(Cq (c.push b).2.1 ((c.push b).2.2 !=0) r).2)
def BOk(m:iJ)(b:List cH):Prop:=sO m->b=kS m
theorem ya:∀l:List iJ,F2 BOk l (l.map kS)
 | []=>.nil
 |m::l=>.cons (λ_=>rfl) (ya l)
def gW.VB(v:gW)(p:Nat)(c:jH)(lf:Nat->Option Kv.T)(ln:Nat):gW:={v with ch:=λq=>if q=p then c else v.ch q,lf:=lf,ln:=ln}
theorem nq{v:gW}{p:Nat}{c c':jH}{lf:Nat->Option Kv.T}{ln:Nat}:(v.VB p c lf ln).kC p c'=v.VB p c' lf ln:=by
 unfold gW.kC gW.VB;simp only[gW.mk.injEq,true_and,and_true]
 funext q
 by_cases hq:q=p<;>simp[hq]
theorem aAG{v:gW}{p:Nat}:v.VB p (v.ch p) v.lf v.ln=v:=by
 unfold gW.VB;have:(λq=>if q=p then v.ch p else v.ch q)=v.ch:=by
  funext q
  by_cases hq:q=p<;>simp[hq]
 rw[this]
theorem wj{G:Gr}{B:Int}{v:gW}(ok:v.Ok G B){e:cV}(he:e∈v.t.aT){c:jH}{lf:Nat->Option Kv.T}{ln k:Nat}(hc:c.Ok)(hs:ik (v.ch e.aM) c k)(fm:∀y,y≠e.a->lf y=v.lf y):(v.VB e.aM c lf ln).Ok G B:=by
 refine⟨ok.cG,ok.dL,ok.u,ok.t,ok.eE,λf hf=>?_,ok.yX,ok.Dv,λy hy=>?_⟩
 ·show(if f.aM=e.aM then c else v.ch f.aM).Ok/\(if f.aM=e.aM then c else v.ch f.aM).aK=f.aK/\(if f.aM=e.aM then c else v.ch f.aM).s.cM=v.cG.cM/\(if f.aM=e.aM then c else v.ch f.aM).dl<=B
  by_cases hp:f.aM=e.aM
  ·rw[if_pos hp]
   have:=ok.ch e he;rw[ok.t.inj hf he hp];exact⟨hc,hs.aK.trans this.2.1,hs.cM.trans this.2.2.1,by rw[hs.dl];exact this.2.2.2⟩
  ·rw[if_neg hp];exact ok.ch f hf
 ·by_cases hya:y=e.a
  ·exact .inl ⟨e,he,hya.symm⟩
  ·refine ok.lost y ?_
   have:lf y=v.lf y:=fm y hya;rw[<-this];exact hy
def yG(v:gW)(e:cV)(l:List iJ)(v':gW)(ps:List Pk):Prop:=∃bs gs c' lo lf ln,v'=v.VB e.aM c' lf ln/\F2 BOk l bs/\Cq (v.ch e.aM) ((v.lf e.a).getD (false:Bool)) bs=(gs,c',lo)/\F2 (Wn e.aM) gs ps/\ik (v.ch e.aM) c' gs.length/\(∀y,y≠e.a->lf y=v.lf y)/\(lf e.a).getD (false:Bool)=lo
theorem say_i{G:Gr}{B:Int}{w:aH}{S P:BS}{ee a:Nat}{v:gW}{e:cV}{ms:Sl}{l:List iJ}{Q:Sl->aH->Prop}(h:lF ee a v w S)(ok:v.Ok G B)(he:e∈v.t.aT)(hm:fJ w P ms l)(hP:∀k,P k->¬S k)(hl:l.length<=10)
  (hQ:∀r ps v' w' S',lF ee a v' w' S'->Up S S' w w'->rM w.heap.size S' w' r ps->v'.Ok G B->yG v e l v' ps->Q r w'):
  sU (some ⟨a,0,none⟩) (xI e) ms w Q:=by
 unfold sU;have hml:=hm.len;have Vw:=sP.MY ok.t he;have hok0:=ok.ch e he;refine bK (λn t w3=>∃(i:Nat) (r:Sl) (ps:List Pk) (gs:List eR) (bs:List (List cH)) (c:jH) (lo:Bool) (lf:Nat->Option Kv.T) (ln:Nat) (S3:BS),i<=l.length/\n=l.length-i/\t=(r,(i:Int),())/\lF ee a (v.VB e.aM c lf ln) w3 S3/\Up S S3 w w3/\rM w.heap.size S3 w3 r ps/\F2 (Wn e.aM) gs ps/\F2 BOk (l.take i) bs/\(∀Ns,Cq (v.ch e.aM) ((v.lf e.a).getD false) (bs++Ns)=(gs++(Cq c lo Ns).1,(Cq c lo Ns).2))/\c.Ok/\ik (v.ch e.aM) c gs.length/\(∀y,y≠e.a->lf y=v.lf y)/\(lf e.a).getD false=lo/\fJ w3 (λk=>¬S3 k/\k<w.heap.size) ms l) l.length
  ⟨0,bD,[],[],[],v.ch e.aM,(v.lf e.a).getD false,v.lf,v.ln,S,iF _,rfl,rfl,by rw[aAG];exact h,Up.refl _ _,eX.nil,.nil,.nil,λNs=>rfl,hok0.1,ik.refl _,λ_ _=>rfl,rfl,hm.wk λk hk cL=>⟨hP k hk,cL⟩⟩ ?_
 rintro n t w3 ⟨i,r,ps,gs,bs,c,lo,lf,ln,S3,hi,rfl,rfl,h3,u3,v3,f3,b3,hsay,KT,Qy,fm,Ds,m3⟩ X hX;have gh:=wj ok he (ln:=ln) KT Qy fm;have dW:∀Ns w4 S4,lF ee a (v.VB e.aM c lf ln) w4 S4->Up S3 S4 w3 w4->F2 BOk (l.drop i) Ns->Cq c lo Ns=([],c,lo)->Q r w4:=λNs w4 S4 h4 u4 hb uM=>by
  refine hQ r ps _ w4 S4 h4 (u3.tr u4) (v3.up u4) gh ⟨bs++Ns,gs,c,lo,lf,ln,rfl,?_,?_,f3,Qy,fm,Ds⟩
  ·have:=b3.app hb
   rwa[Cs] at this
  ·rw[hsay,uM];simp
 dsimp only;refine aJ (λcL=>?_) (λlK=>?_)
 ·have dF:i<l.length:=aB
  have cU:=gU dF;have hdr:=List.drop_eq_getElem_cons dF;have sD:=FW dF;generalize l[i]=m at*;obtain⟨q,sl,hq,hx,hh,_⟩:=m3.get cU;rw[lJ,qM i aB];refine⟨⟨aB,cL⟩,aA hq (bJ (l:=ff) (GF (m,sl)) hh ?_)⟩;refine eZ (zs:=tN (⟨0,0,0,[],0,VU⟩,bD)) (vs:=tN (m,sl)) CE rfl (VS _) λw4 o4 k4 z4=>?_;have h4:=bF.kp h3 k4;refine aA rfl (aE (k:=.map) (some v.lp) (h4.cell rfl) ?_);refine h4.Hb gh he ?_;have hlo':((v.VB e.aM c lf ln).lf e.a).getD false=lo:=Ds;rw[hlo'];refine aF (λhl=>?_) (λhl=>?_)
  ·refine dW ((l.drop i).map kS) w4 S3 h4 (Up.aO k4) (ya _) ?_
   rw[hdr,hl];rfl
  ·refine bJ (l:=ff) (GF (m,sl)) (o4.holds λj v hj=>by rw[pU];exact hj) ?_
   refine Enc_i (hx.rd.aL k4 dA λ_ _=>id) (λb hb=>nM (hx.Vy b hb).2 k4.size) (by have h51:m.cJ.length<=51:=hx.len;show m.cJ.length<=_;omega) λsb out eb w5 k5 Dl f5 l5 g5=>?_;have hx51:m.cJ.length<=51:=hx.len;have K5:=k4.tr (k5.tr (bO w5));have h5:=bF.kp h3 K5;refine aA rfl (aE (k:=.ptr) (some ⟨e.cp,0,none⟩) (h5.VK he rfl) (aA rfl (aE (k:=.i) v.dL (h5.cell rfl) ?_)));obtain⟨S6,h6,_,yF⟩:=h5.Xm Vw;have ech:(v.VB e.aM c lf ln).ch e.aM=c:=by show(if e.aM=e.aM then c else _)=c;rw[if_pos rfl]
   rw[ech] at h6;refine yn h6 KT (Dl.1.aL (bO w5) fN λ_ _=>id) aB λrg w7 S7 h7 u7 gg=>?_;obtain⟨S8,h8,u8⟩:=yF _ _ w7 S7 u7 h7;have pf:=Jf KT (b:=out) aB;rw[nq] at h8;obtain⟨S9,h9,u9,g9⟩:=WE h8;have cs9:ik (v.ch e.aM) (c.push out).2.1 (gs.length+(c.push out).1.length):=Qy.tr pf.1;have ok9:=wj ok he (ln:=ln) gg cs9 fm;refine aA rfl (aE (k:=.map) (some v.lp) (h9.cell rfl) ?_);refine h9.mark ok9 he _ λeN YJ Ck Cg=>?_;have U12:Up S3 YJ w3 eN:=(((Up.aO K5).tr u8).tr u9).tr Cg;have h12':lF ee a (v.VB e.aM (c.push out).2.1 (λy=>if y=e.a then some ((c.push out).2.2 !=(0:Int)) else lf y) (if(lf e.a).isSome then ln else ln+1)) eN YJ:=Ck
   have g12:=g9.up QZ Cg;refine aA rfl (aE (k:=.i) (e.aM:Int) (h12'.VK he rfl) ?_);have l64:(c.push out).1.length<=1000:=by
    have h1:=pf.1.n;have h2:=gg.s.BE;have Wk:=gg.s.cM;omega
   refine AQ g12 l64 (λg hg=>by have:=pf.2 g hg;omega) λrp pps gQ yx v13 f13=>?_;have fu:=bF.kp h12' yx;have v13':rM eN.heap.size YJ gQ rp pps:=v13.sub λk hk=>bF.gI h12' k hk;have v3':=(v3.up U12).kp yx;have fl:=f3.len;have fl2:=f13.len;have n64:gs.length+(c.push out).1.length<=16:=by
    have h1:=cs9.n;have h2:=gg.s.BE;have Wk:=gg.s.cM;omega
   have bd:=bF.gI fu;have zz:w.heap.size<=eN.heap.size:=iG u3.size U12.size;refine eX.app jW MN MJ aB v3' v13' zz (λb hb=>(v3.up U12).lt hb) aB (iG zz yx.size) bd λr' mQ v14 YM=>?_;have U14:Up S YJ w mQ:=Up.gE ((u3.tr U12).tr (Up.aO yx)) YM;have h14:=bF.ov fu YM;have z3:=u3.size;have aAi:fJ eN (λk=>¬YJ k/\k<w.heap.size) ms l:=(m3.aL U12.m λk hk=>hk.1).wk λk hk _=>⟨λhs=>(U12.s k hs).elim hk.1 λhh=>by have:=hk.2;omega,hk.2⟩;refine hX _ _ _ aB ⟨i+1,r',ps++pps,gs++(c.push out).1,bs++[out],(c.push out).2.1,((c.push out).2.2 !=(0:Int)),_,_,YJ,dF,rfl,rfl,h14,U14,v14,f3.app f13,by rw[sD];exact b3.app (.one λhw=>(g5 hw).1),λNs=>?_,gg,by rw[mH];exact cs9,λy hy=>?_,?_,(aAi.aO yx).aL YM λk hk hn=>?_⟩
   ·have h0:=hsay (out::Ns)
    rw[sH,List.singleton_append,h0,hl];show(gs++((c.push out).1++_),_)=_;rw[sH];rfl
   ·show(if y=e.a then _ else lf y)=_
    rw[if_neg hy];exact fm y hy
   ·show(if e.a=e.a then _ else lf e.a).getD false=_
    rw[if_pos rfl];rfl
   ·have:=hk.2;have:=hn.1;omega
 ·have ei:i=l.length:=aB
  subst ei;refine dW [] w3 S3 h3 (Up.refl _ _) (by rw[List.drop_length];exact .nil) ?_;cases lo<;>rfl
def zO(ee:Nat)(v:gW)(p:Nat):As:=match v.t.at p with
 |some e=>uP ee e.sp (v.yX p)
 |none=>DO
instance zO.loc{ee:Nat}{v:gW}(p:Nat):bF (zO ee v p):=by unfold zO;split<;>infer_instance
def DD(ee:Nat)(v:gW):As:=gF (zO ee v)
instance{ee:Nat}{v:gW}:bF (DD ee v):=by unfold DD;infer_instance
def gD(ee a:Nat)(v:gW):As:=aZ (lF ee a v) (DD ee v)
instance{ee a:Nat}{v:gW}:bF (gD ee a v):=by unfold gD;infer_instance
theorem DD.put{w:aH}{S:BS}{ee:Nat}{v:gW}(h:DD ee v w S){e:cV}{p:Nat}(he:v.t.at p=some e):∃S1,uP ee e.sp (v.yX p) w S1/\(∀k,S1 k->S k)/\∀c w' T,Up S1 T w w'->uP ee e.sp c w' T->∃S',DD ee (v.vF p c) w' S'/\Up S S' w w':=by
 have h1:=(gF.at h p).put;have e1:zO ee v p=uP ee e.sp (v.yX p):=by unfold zO;rw[he]
 rw[e1] at h1;obtain⟨S1,h1,hs,dN⟩:=h1;refine⟨S1,h1,hs,λc w' T u hT=>?_⟩;obtain⟨S',h',u'⟩:=dN _ w' T u hT;refine⟨S',?_,u'⟩;have e2:EX (zO ee v) p (uP ee e.sp c)=zO ee (v.vF p c):=by
  funext q
  show(if q=p then uP ee e.sp c else zO ee v q)=(match v.t.at q with|some e=>uP ee e.sp (if q=p then c else v.yX q)|none=>DO)
  by_cases hq:q=p
  ·subst hq;rw[if_pos rfl,he,if_pos rfl]
  ·rw[if_neg hq,if_neg hq];rfl
 unfold DD;rw[<-e2];exact h'
end
section
structure rZ(v v':gW):Prop where
 cG:v'.cG=v.cG
 sp:v'.sp=v.sp
 tp:v'.tp=v.tp
 lp:v'.lp=v.lp
 dL:v'.dL=v.dL
 u:v'.u=v.u
 t:v'.t=v.t
 gv:v'.gv=v.gv
theorem rZ.refl(v:gW):rZ v v:=⟨rfl,rfl,rfl,rfl,rfl,rfl,rfl,rfl⟩
theorem rZ.tr{v v' v'':gW}(h:rZ v v')(h':rZ v' v''):rZ v v'':=⟨h'.1.trans h.1,h'.2.trans h.2,h'.3.trans h.3,h'.4.trans h.4,h'.5.trans h.5,h'.6.trans h.6,h'.7.trans h.7,h'.8.trans h.8⟩
theorem yG.same{v v':gW}{e:cV}{l:List iJ}{ps:List Pk}(h:yG v e l v' ps):rZ v v':=by
 obtain⟨bs,gs,c',lo,lf,ln,rfl,_⟩:=h;exact⟨rfl,rfl,rfl,rfl,rfl,rfl,rfl,rfl⟩
def PkOk(v:gW)(p:Pk):Prop:=p.2.length<=3000/\∃e∈v.t.aT,p.1=(e.aM:Int)
theorem yG.yr{v v':gW}{e:cV}{l:List iJ}{ps:List Pk}(he:e∈v.t.aT)(h:yG v e l v' ps):∀p∈ps,PkOk v p:=by
 obtain⟨bs,gs,c',lo,lf,ln,rfl,_,_,h4,_⟩:=h;intro p hp;obtain⟨g,_,h1,h2⟩:=h4.mem hp;exact⟨h2.1,e,he,h1⟩
theorem yG.YP{G:Gr}{B:Int}{v v':gW}{e:cV}{l:List iJ}{ps:List Pk}(he:e∈v.t.aT)(h:yG v e l v' ps)(ok:v'.Ok G B):ps.length+(v.ch e.aM).s.n=(v'.ch e.aM).s.n/\(v'.ch e.aM).s.n<=v.cG.cM:=by
 have hs:=h.same;obtain⟨bs,gs,c',lo,lf,ln,rfl,_,_,h4,h5,_⟩:=h;have:=ok.ch e he;have h6:=this.1.s.BE;rw[this.2.2.1] at h6;have h7:=h5.n;rw[h4.len] at h7;have e1:(v.VB e.aM c' lf ln).ch e.aM=c':=by show(if e.aM=e.aM then c' else _)=c';rw[if_pos rfl]
 rw[e1] at h6 ⊢;exact⟨h7,h6⟩
theorem Hu{α:Type}{n lo:Nat}{aX:α->List Value}{xs:List α}{s:Sl}{S S':BS}{w w' Dk:aH}(gH:∀x,aX x≠[])(hr:Rd w s n aX xs)(ho:BD s S w)(cL:∀b,s.b=some b->b.block<lo)(u:Up S S' w w')(m:aY (λk=>lo<=k/\¬S' k) w' Dk):Rd Dk s n aX xs/\BD s S' Dk:=
 ⟨(ho.rd u hr gH).aL m gH λb hb hk=>by have:=cL b hb;have:=hk.1;omega,λb hb=>⟨(ho.up u b hb).1,nM (ho.up u b hb).2 m.size⟩⟩
section
variable{W0 w:aH}{S:BS}{a:Nat}{v:gW}{E:qQ}{G:Gr}{B:Int}
theorem gD.sesSay(h:gD E.e a v w S)(hb:Bs W0 E G S w)(ok:v.Ok G B){e:cV}(he:e∈v.t.aT):∃S1,uP E.e e.sp (v.yX e.aM) w S1/\(∀k,S1 k->S k)/\∀(z:FZ×List iJ) w' T ms,Up S1 T w w'->uP E.e e.sp z.1 w' T->UN G z.1->fJ w' (λk=>w.heap.size<=k) ms z.2->z.2.length<=10->
  ∀(K:WQ Sl),(∀r ps v' w2 S',yG (v.vF e.aM z.1) e z.2 v' ps->gD E.e a v' w2 S'->Up S S' w w2->rM w.heap.size S' w2 r ps->v'.Ok G B->K r w2)->sU (some ⟨a,0,none⟩) (xI e) ms w' K:=by
 obtain⟨SC,SS,hC,hS,d,e1⟩:=h;obtain⟨S1,h1,vY,Xz⟩:=DD.put hS (sP.MY ok.t he);refine⟨S1,h1,λk hk=>(e1 k).2 (.inr (vY k hk)),λz w' T ms u hT okz hm hl K hK=>?_⟩;obtain⟨SS',hS',uS⟩:=Xz z.1 w' T u hT;have hC':lF E.e a (v.vF e.aM z.1) w' SC:=bF.aL hC uS.m λk hk lT=>d k hk lT;have Qv:(v.vF e.aM z.1).Ok G B:=⟨ok.cG,ok.dL,ok.u,ok.t,ok.eE,ok.ch,λf hf=>by
  show UN G (if f.aM=e.aM then z.1 else v.yX f.aM)
  split
  ·exact okz
  ·exact ok.yX f hf,ok.Dv,ok.lost⟩
 have bC:=bF.gI hC;have bS':=bF.gI hS';have zz:=uS.size;refine say_i (e:=e) hC' Qv he hm (λk hk hc=>by have:=bC k hc;omega) hl λr ps v' w2 SC2 h2 u2 v2 gj hsd=>?_;have hse:=hsd;obtain⟨bs,gs,c',lo,lf,ln,rfl,_⟩:=hse;have dd:∀k,SC k->SS' k->False:=λk hc hs=>(uS.s k hs).elim (λh=>d k hc h) λh=>by have:=bC k hc;omega
 have hS2:DD E.e ((v.vF e.aM z.1).VB e.aM c' lf ln) w2 SS':=bF.aL (A:=DD E.e (v.vF e.aM z.1)) hS' u2.m λk hk lT=>dd k lT hk;have dd2:∀k,SC2 k->SS' k->False:=λk hc hs=>(u2.s k hc).elim (λh=>dd k h hs) λh=>by have:=bS' k hs;omega
 refine hK r ps _ w2 (λk=>SC2 k\/SS' k) hsd (aZ.vZ h2 hS2 dd2) ⟨?_,?_⟩ ((v2.cov λk hk=>hk.imp id λh=>bS' k h).qN zz) gj
 ·exact(uS.m.mono λk _ hk=>(e1 k).2 (.inr hk)).trans u2.m λk hk hc=>(e1 k).2 (.inl hc)
 ·rintro k (hk|hk)
  ·exact(u2.s k hk).imp (λh=>(e1 k).2 (.inl h)) λh=>aB
  ·exact(uS.s k hk).imp (λh=>(e1 k).2 (.inr h)) id
theorem gD.sS(h:gD E.e a v w S):∃SC,lF E.e a v w SC/\∀k,SC k->S k:=by
 obtain⟨SC,SS,hC,hS,d,e1⟩:=h;exact⟨SC,hC,λk hk=>(e1 k).2 (.inl hk)⟩
theorem gD.cell(h:gD E.e a v w S){k:Nat}{x:Value}(hk:(VL E.e v)[k]? =some x):w.cell? ((⟨a,0,none⟩:Addr).add k)=some x:=by
 obtain⟨SC,hC,_⟩:=h.sS;exact hC.cell hk
theorem gD.VK(h:gD E.e a v w S){e:cV}(he:e∈v.t.aT){k:Nat}{x:Value}(hk:(Xa e)[k]? =some x):w.cell? ((⟨e.a,0,none⟩:Addr).add k)=some x:=by
 obtain⟨SC,hC,_⟩:=h.sS;exact hC.VK he hk
theorem gD.Ew(h:gD E.e a v w S):∃S1,DC v.tp v.t w S1/\∀k,S1 k->S k:=by
 obtain⟨SC,hC,hs⟩:=h.sS;obtain⟨S1,h1,h2⟩:=hC.Ew;exact⟨S1,h1,λk hk=>hs k (h2 k hk)⟩
theorem gD.sset(h:gD E.e a v w S):∃S1,vA v.sp v.u w S1/\∀k,S1 k->S k:=by
 obtain⟨SC,hC,hs⟩:=h.sS;obtain⟨S1,h1,h2⟩:=gF.get hC .set;exact⟨S1,h1,λk hk=>hs k (h2 k hk)⟩
theorem Pv{CY op:Sl}{sh opl:List Int}{Q:Sl->aH->Prop}(h:gD E.e a v w S)(hb:Bs W0 E G S w)(ok:v.Ok G B)(hsh:Rd w CY 1 eI sh)(hso:BD CY S w)(Ff:Rd w op 1 eI opl)(hoo:BD op S w)(hl:sh.length<=1000/\opl.length<=1000)
  (hQ:∀r ps v' w' S',gD E.e a v' w' S'->Up S S' w w'->rM w.heap.size S' w' r ps->v'.Ok G B->rZ v v'->ps.length<=v.t.aT.length*v.cG.cM->(∀p∈ps,PkOk v p)->((sh=[]/\opl=[])\/v.t.aT=[]->v'=v/\ps=[])->Q r w'):rR (some ⟨a,0,none⟩) CY op w Q:=by
 unfold rR;have lsh:=hsh.len;have lop:=Ff.len;rw[gV aB aB];refine aF (λh0=>?_) (λh0=>?_)
 ·exact hQ _ [] v w S h (Up.refl _ _) eX.nil ok (rZ.refl v) (iF _) (λp hp=>by cases hp) λ_=>⟨rfl,rfl⟩
 have gH:¬(sh=[]/\opl=[]):=λhh=>by rw[lsh,lop,hh.1,hh.2] at h0;simp at h0
 refine aA rfl (aE (k:=.ptr) (some ⟨v.tp,0,none⟩) (h.cell rfl) ?_);obtain⟨S1,hT,rr⟩:=h.Ew;refine Hh hT ok.t λs1 w1 v1 k1 f1=>?_;have bd:=bF.gI h;have sl:=v1.len;rw[lD] at sl;have CZ:=ok.cG.cM;have o1:BD s1 S w1:=λb bY=>⟨λhk=>by have:=bd _ hk;have:=f1 b bY;omega,v1.lt bY⟩;have olen:=ok.t.len;have tx:=ok.t.eE;refine bK (λn t w3=>∃(i:Nat) (r:Sl) (ps:List Pk) (v3:gW) (S3:BS),i<=v.t.aT.length/\n=v.t.aT.length-i/\t=(r,(i:Int),())/\gD E.e a v3 w3 S3/\Up S S3 w w3/\rM w1.heap.size S3 w3 r ps/\v3.Ok G B/\rZ v v3/\ps.length<=i*v.cG.cM/\(∀p∈ps,PkOk v p)/\(v.t.aT=[]->v3=v/\ps=[])/\Rd w3 s1 1 Lp (v.t.aT.map xI)/\BD s1 S3 w3/\Rd w3 CY 1 eI sh/\BD CY S3 w3/\Rd w3 op 1 eI opl/\BD op S3 w3/\w1.heap.size<=w3.heap.size) v.t.aT.length
  ⟨0,bD,[],v,S,iF _,rfl,rfl,bF.kp h k1,Up.aO k1,eX.nil,ok,rZ.refl v,iF _,λp hp=>(by cases hp),λ_=>⟨rfl,rfl⟩,v1.rd GS,o1,hsh.aL k1 dA λ_ _=>id,hso.kp k1,Ff.aL k1 dA λ_ _=>id,hoo.kp k1,iX _⟩ ?_
 rintro n t w3 ⟨i,r,ps,v3,S3,hi,rfl,rfl,h3,u3,r3,gh,st3,hpl,hpk,hemp,rd3,os3,rsh,osh,rop,oop,zz3⟩ X hX;dsimp only;refine aJ (λcL=>?_) (λlK=>?_)
 ·have dF:i<v.t.aT.length:=aB
  have cU:=gU dF;have fP:=oE dF;generalize v.t.aT[i]=e at*;have Xv:e∈v3.t.aT:=by rw[st3.t];exact fP
  obtain⟨q,hq,cq⟩:=cQ (k:=.ptr) (e:=λx=>x) rd3 (show(v.t.aT.map xI)[i]? =some (xI e) by rw[mY,cU];rfl);rw[lJ,qM i aB];have hd:=bF.dr h3;refine⟨⟨aB,cL⟩,aA hq (aE (k:=.ptr) (xI e) cq (aA rfl (aE (k:=.ptr) (some ⟨e.sp,0,none⟩) (hd.VK Xv rfl) (aA rfl (aE (k:=.ptr) (some ⟨v3.sp,0,none⟩) (hd.cell rfl) ?_)))))⟩;obtain⟨S4,GH,_⟩:=hd.sset;refine Ua GH gh.u.2 λmk w4 v4 k4 f4=>?_;have K4:=(bO w3).tr k4;have h4:=bF.kp h3 K4;refine⟨h4.VK Xv rfl,?_⟩;have hb4:=(hb.up u3).kp K4;obtain⟨S5,h5,hs5,say5⟩:=h4.sesSay hb4 gh Xv;have z4:=K4.size;have w3d:w3.drew.heap.size=w3.heap.size:=rfl;refine SChg_i (hb4.sub hs5) h5 (gh.yX e Xv) (rsh.aL K4 dA λ_ _=>id) aB (rop.aL K4 dA λ_ _=>id) (v4.rd Wu) λz ms w5 T hz hT uT okz hm fo=>?_;refine say5 z w5 T ms uT hT okz hm aB _ λrs pps v6 w6 S6 hsd h6 u6 r6 fe=>?_;have U6:Up S3 S6 w3 w6:=(Up.aO K4).tr u6;have UQ:rZ v v6:=st3.tr ((⟨rfl,rfl,rfl,rfl,rfl,rfl,rfl,rfl⟩:rZ v3 (v3.vF e.aM z.1)).tr hsd.same);have hmem3':e∈(v3.vF e.aM z.1).t.aT:=Xv;have aAj:=hsd.YP hmem3' fe;have hcw:(v6.ch e.aM).s.n<=v.cG.cM:=by have:=aAj.2;rw[show(v3.vF e.aM z.1).cG=v.cG from st3.cG] at this;exact this
  have r3':=r3.up U6;have bd6:=bF.gI h6;have z3:=u3.size;have im:i*v.cG.cM<=16*16:=JA aB CZ.2;refine eX.app jW MN MJ aB r3' r6 aB (λb bY=>nM (r3.lt bY) z4) aB (by have:=u6.size;omega) bd6 λr' w7 v7 m7=>?_;have U7:Up S S6 w w7:=Up.gE (u3.tr U6) (m7.mono λk _ hk=>⟨iG k1.size hk.1,hk.2⟩);have h7:=bF.ov h6 m7;obtain⟨x1,x2⟩:=Hu FJ rd3 os3 (λb bY=>v1.lt bY) U6 m7;obtain⟨x3,x4⟩:=Hu dA rsh osh (λb bY=>nM (hso b bY).2 k1.size) U6 m7;obtain⟨x5,x6⟩:=Hu dA rop oop (λb bY=>nM (hoo b bY).2 k1.size) U6 m7;refine hX _ _ _ aB ⟨i+1,r',ps++pps,v6,S6,dF,rfl,rfl,h7,U7,v7,fe,UQ,?_,λp hp=>?_,λh0=>(by rw[h0] at fP;cases fP),x1,x2,x3,x4,x5,x6,?_⟩
  ·rw[mH,Nat.add_mul,Nat.one_mul];omega
  ·rcases jS.1 hp with hp|hp
   ·exact hpk p hp
   ·obtain⟨h1,f,hf,h2⟩:=hsd.yr hmem3' p hp
    exact⟨h1,f,by rw[<-st3.t];exact hf,h2⟩
  ·have:=u6.size;have:=m7.size;omega
 ·have ei:i=v.t.aT.length:=aB
  subst ei;exact hQ r ps v3 w3 S3 h3 u3 (r3.qN k1.size) gh st3 hpl hpk λhh=>hh.elim (λhh=>absurd hh gH) hemp
theorem gD.putSet(h:gD E.e a v w S):∃S1,vA v.sp v.u w S1/\(∀k,S1 k->S k)/\∀u' D w' T,Up S1 T w w'->aZ (vA v.sp u') D w' T->∃S',aZ (gD E.e a {v with u:=u'}) D w' S'/\Up S S' w w':=by
 obtain⟨S1,h1,hs,dN⟩:=(aZ.l h).c λT hT=>gF.at hT .set;refine⟨S1,h1,hs,λu' D w' T u hT=>?_⟩;obtain⟨S',h',u2⟩:=dN _ D w' T u hT;refine⟨S',h'.mono (λ_ h=>h.mono (λS h=>?_) λ_ h=>h) λ_ h=>h,u2⟩;have e:EX (QO E.e a v) .set (vA v.sp u')=QO E.e a {v with u:=u'}:=by
  funext i
  cases i<;>rfl
 unfold lF;rw[<-e];exact h
def gW.Lr(v:gW)(u:List Int):gW:={v with u:=u}
theorem gW.Ok.Lr(ok:v.Ok G B){u:List Int}(hu:u.length=v.u.length):(v.Lr u).Ok G B:=⟨ok.cG,ok.dL,⟨hu.trans ok.u.1,by show u.length<=512;rw[hu];exact ok.u.2⟩,ok.t,ok.eE,ok.ch,ok.yX,ok.Dv,ok.lost⟩
def gW.ZF(v:gW)(mC wJ:Int):List Int:=if 0<=mC/\mC<v.u.length/\1<=wJ/\wJ<=1048576 then v.u.set mC.toNat (v.dL+wJ) else v.u
structure ChgS(G:Gr)(B:Int)(ee a:Nat)(v v1:gW)(w:aH)(S:BS)(r:Sl)(ps:List Pk)(v':gW)(w':aH)(S':BS):Prop where
 Ch:gD ee a v' w' S'
 up:Up S S' w w'
 row:rM w.heap.size S' w' r ps
 ok:v'.Ok G B
 same:rZ v1 v'
 len:ps.length<=v.t.aT.length*v.cG.cM
 yr:∀p∈ps,PkOk v p
 nil:v.t.aT=[]->v'=v1/\ps=[]
theorem qa{u:List Int}{e:Nat}{t:Int}:(Hd u e t).length<=1:=by unfold Hd;split<;>simp
theorem edges_i{e:Addr->Prop}{Q:Int->aH->Prop}(he:zK w E G)(hQ:Q (G.E.length:Int) w):aC (some ⟨E.e,0,none⟩:cO) λa2=>xY .ptr w (a2.add 0) λ(p2:cO)=>aC p2 λa3=>xY .ptr w (a3.add 0) λ(p3:cO)=>gK p3 w Q:=
 aA rfl (aE (k:=.ptr) (some ⟨E.t.t,0,none⟩) he.cells.1 (aA rfl (aE (k:=.ptr) (some ⟨E.t.H.g,0,none⟩) he.RU.cells.1 (tG he.RU.IU hQ))))
theorem VClose_i{mC wJ:Int}{Q:Sl->Int->aH->Prop}(h:gD E.e a v w S)(hb:Bs W0 E G S w)(ok:v.Ok G B)
  (hQ:∀r ps er v' w' S',ChgS G B E.e a v (v.Lr (v.ZF mC wJ)) w S r ps v' w' S'->Q r er w'):KB (some ⟨a,0,none⟩) mC wJ w Q:=by
 unfold KB;have no:∀wx,aN w wx->¬(0<=mC/\mC<v.u.length/\1<=wJ/\wJ<=1048576)->Q bD 1 wx:=λwx k hn=>by
  have e:v.ZF mC wJ=v.u:=by unfold gW.ZF;rw[if_neg hn]
  exact hQ _ [] _ v wx S ⟨bF.kp h k,Up.aO k,eX.nil,ok,by rw[e];exact rZ.refl v,iF _,λp hp=>(by cases hp),λ_=>⟨by rw[e];rfl,rfl⟩⟩
 have k0:aN w w:=aY.refl _ _;refine aF (λh=>by simp at h) (λ_=>aJ (λh0=>no w k0 λhh=>aB) (λh0=>?_));refine aA rfl (aE (k:=.ptr) (some ⟨E.e,0,none⟩) (h.cell rfl) (edges_i (e:=λ_=>True) hb.e ?_));rw[<-ok.u.1];refine aJ (λh1=>no w k0 λhh=>aB) (λh1=>aJ (λh2=>no w k0 λhh=>aB) (λh2=>aJ (λh3=>no w k0 λhh=>aB) (λh3=>?_)));obtain⟨e,rfl⟩:∃e:Nat,mC=(e:Int):=⟨mC.toNat,aB⟩;have heu:e<v.u.length:=aB;have ji:v.ZF (e:Int) wJ=v.u.set e (v.dL+wJ):=by unfold gW.ZF;rw[if_pos ⟨aB,aB,aB,aB⟩,lJ]
 rw[ji] at hQ;have hd:=bF.dr h;refine aA rfl (aE (k:=.ptr) (some ⟨v.sp,0,none⟩) (hd.cell rfl) (aA rfl (aE (k:=.i) v.dL (hd.cell rfl) ?_)));refine cD (cs:=eI (e:Int)) λw2 b2 k2 z2=>?_;have K2:=(bO w).tr k2;have h2:=bF.kp h K2;refine⟨h2.cell rfl,h2.cell rfl,?_⟩;have LK:=ok.dL;rw[gV aB aB];obtain⟨S3,h3,Fc,Gu⟩:=h2.putSet;refine SClose_i h3 (jN fM [(e:Int)] b2 rfl dJ) heu ⟨aB,aB⟩ λrc w4 S4 h4 u4=>?_;obtain⟨S5,h5,u5⟩:=Gu _ _ w4 S4 u4 h4;obtain⟨S6,S7,h6,h7,d67,e67⟩:=h5;have U6:Up S S6 w w4:=((Up.aO K2).tr u5).tr (Up.sub w4 λk hk=>(e67 k).2 (.inl hk));have fe:(v.Lr (v.u.set e (v.dL+wJ))).Ok G B:=ok.Lr dJ;have o7:BD rc S6 w4:=λb bY=>⟨λhk=>d67 _ hk ((h7.2 _).2 ⟨b,bY,rfl⟩),h7.1.lt bY⟩;refine Pv (v:=v.Lr (v.u.set e (v.dL+wJ))) h6 (hb.up U6) fe (h7.1.rd fM) o7 (opl:=[]) (Rd.nil _ _ _) (λb bY=>by cases bY) ⟨by have:=qa (u:=v.u) (e:=e) (t:=v.dL+wJ);omega,by simp⟩ λr ps v' w' S' g1 g2 g3 g4 g5 g6 g7 g8=>?_;exact hQ r ps _ v' w' S' ⟨g1,U6.tr g2,g3.qN U6.size,g4,g5,g6,g7,λhh=>g8 (.inr hh)⟩
theorem Sw{Q:Int->aH->Prop}(h:gD E.e a v w S)(hQ:Q v.dL w):HI (some ⟨a,0,none⟩) w Q:=by
 unfold HI;exact aF (λh=>by simp at h) (λ_=>aA rfl (aE (k:=.i) v.dL (h.cell rfl) hQ))
theorem Tx{Q:Sl->aH->Prop}(h:gD E.e a v w S)(ok:v.Ok G B)(hQ:∀r w',dP w' cZ 1 eI r (v.t.aT.map λe=>(e.aM:Int))->aN w w'->(∀b,r.b=some b->w.heap.size<=b.block)->Q r w'):AU (some ⟨a,0,none⟩) w Q:=by
 unfold AU;obtain⟨S1,hT,_⟩:=h.Ew;refine aF (λh=>by simp at h) (λ_=>aA rfl (aE (k:=.ptr) (some ⟨v.tp,0,none⟩) (h.cell rfl) (Hh hT ok.t λs1 w1 v1 k1 f1=>?_)));have sl:=v1.len;rw[lD] at sl;have olen:=ok.t.len;have tx:=ok.t.eE;refine bK (λn t w3=>∃(i:Nat) (r:Sl),i<=v.t.aT.length/\n=v.t.aT.length-i/\t=(r,(i:Int),())/\dP w3 cZ 1 eI r ((v.t.aT.take i).map λe=>(e.aM:Int))/\aN w1 w3/\∀b,r.b=some b->w1.heap.size<=b.block) v.t.aT.length
  ⟨0,bD,iF _,rfl,rfl,dP.nil _ _ _ _,aY.refl _ _,λb hb=>by cases hb⟩ ?_
 rintro n t w3 ⟨i,r,hi,rfl,rfl,v3,k3,f3⟩ X hX;dsimp only;refine aJ (λcL=>?_) (λlK=>?_)
 ·have dF:i<v.t.aT.length:=aB
  have cU:=gU dF;have fP:=oE dF;have sD:=FW dF;generalize v.t.aT[i]=e at*;obtain⟨q,hq,cq⟩:=cQ (k:=.ptr) (e:=λx=>x) ((v1.rd GS).aL k3 FJ λ_ _=>id) (show(v.t.aT.map xI)[i]? =some (xI e) by rw[mY,cU];rfl);rw[lJ,qM i aB];refine⟨⟨aB,cL⟩,aA hq (aE (k:=.ptr) (xI e) cq (aA rfl (aE (k:=.i) (e.aM:Int) ((bF.kp h (k1.tr k3)).VK fP rfl) ?_)))⟩;refine cD (cs:=eI (e.aM:Int)) λw4 b4 k4 z4=>?_;refine fO iN fM EZ (x:=⟨some ⟨w3.heap.size,0,none⟩,1,1⟩) (v3.aL k4 λ_ _=>id) (jN fM [(e.aM:Int)] b4 rfl dJ) (by simp;omega) (by simp;omega) λr' w5 v5 m5 hr5 _=>?_;refine hX _ _ _ aB ⟨i+1,r',dF,rfl,rfl,by rw[sD,yA];exact v5,(k3.tr k4).fresh m5 λk ⟨b,hb,e⟩=>by rw[e];exact f3 b hb,λb hb=>?_⟩;rcases hr5 with h|⟨b',h,h2⟩
  ·exact f3 b (h.symm.trans hb)
  ·rw[hb] at h;cases h;have:=(k3.tr k4).size;omega
 ·have ei:i=v.t.aT.length:=aB
  subst ei;rw[pF] at v3;exact hQ r w3 v3 (k1.tr k3) λb hb=>by have:=f3 b hb;have:=k1.size;omega
end
end
section
theorem bp{l:List cV}{p q:Nat}(h:q≠p):(l.filter λf=>!decide (f.aM=p)).find? (λe=>e.aM==q)=l.find? λe=>e.aM==q:=by
 induction l with
 |nil=>rfl
 |cons x l ih=>
  by_cases hx:x.aM=p
  ·rw[List.filter_cons_of_neg (by simp[hx]),ih,List.find?_cons_of_neg (by simp[hx];omega)]
  ·rw[List.filter_cons_of_pos (by simp[hx])]
   by_cases hq:x.aM=q
   ·rw[List.find?_cons_of_pos (by simp[hq]),List.find?_cons_of_pos (by simp[hq])]
   ·rw[List.find?_cons_of_neg (by simp[hq]),List.find?_cons_of_neg (by simp[hq]),ih]
theorem at_drop{t:sP}{p q:Nat}(h:q≠p):(t.drop p).at q=t.at q:=bp h
theorem XU{t:sP}{p:Nat}:(t.drop p).at p=none:=by
 cases h:(t.drop p).at p with
 |none=>rfl
 |some e=>
  obtain⟨h1,h2⟩:=sP.at_mem h;have:=(jG.1 h1).2;simp[h2] at this
theorem sP.Sv{t:sP}(ok:t.Ok){p:Nat}{e:cV}:t.at p=some e↔e∈t.aT/\e.aM=p:=⟨sP.at_mem,λ⟨h1,h2⟩=>by rw[<-h2];exact sP.MY ok h1⟩
theorem at_add{t:sP}{e:cV}(ok:t.Ok)(Qv:(t.add e).Ok)(q:Nat):(t.add e).at q=if q=e.aM then some e else t.at q:=by
 apply Option.ext;intro f;rw[sP.Sv Qv];show(f∈Fu e t.aT/\f.aM=q)↔_;rw[oP]
 by_cases hq:q=e.aM
 ·rw[if_pos hq]
  constructor
  ·rintro⟨rfl|⟨_,h⟩,h2⟩
   ·rfl
   ·exact absurd (h2.trans hq) h
  ·intro h;cases h;exact⟨.inl rfl,hq.symm⟩
 ·rw[if_neg hq,sP.Sv ok]
  constructor
  ·rintro⟨rfl|⟨h,_⟩,h2⟩
   ·exact absurd h2.symm hq
   ·exact⟨h,h2⟩
  ·rintro⟨h,h2⟩;exact⟨.inr ⟨h,λh3=>hq (h2.symm.trans h3)⟩,h2⟩
theorem lx:∀{l:List cV} {w:aH} {S:BS},wI JL l w S->wI Grv (l.map (·.a)) w S
 | [],_,_,h=>h
 |e::l,_,_,h=>aZ.mono h (λ_ h=>⟨Xa e,h⟩) λ_ h=>lx h
structure Og(v v':gW)(p:Nat):Prop where
 cG:v'.cG=v.cG
 sp:v'.sp=v.sp
 tp:v'.tp=v.tp
 lp:v'.lp=v.lp
 dL:v'.dL=v.dL
 u:v'.u=v.u
 lf:v'.lf=v.lf
 ln:v'.ln=v.ln
 at':∀q,q≠p->v'.t.at q=v.t.at q
 ch:∀q,q≠p->v'.ch q=v.ch q
 yX:∀q,q≠p->v'.yX q=v.yX q
section
variable{w:aH}{S:BS}{ee a:Nat}{v:gW}
theorem xu{v':gW}{p:Nat}(x:Og v v' p):EX (EX (QO ee a v) (.ch p) (QO ee a v' (.ch p))) .Ew (VN v')=QO ee a v':=by
 funext i
 cases i with
 |Ch=>show sM a xK (VL ee v)=sM a xK (VL ee v');unfold VL;rw[x.cG,x.sp,x.tp,x.lp,x.dL]
 |set=>show vA v.sp v.u=vA v'.sp v'.u;rw[x.sp,x.u]
 |Ew=>rfl
 |lost=>show uQ v.lp yZ Kv v.lf v.ln=uQ v'.lp yZ Kv v'.lf v'.ln;rw[x.lp,x.lf,x.ln]
 |ch q=>
  show(if SI.ch q=.Ew then VN v' else if SI.ch q=.ch p then QO ee a v' (.ch p) else QO ee a v (.ch q))=_
  rw[if_neg dJ]
  by_cases hq:q=p
  ·rw[if_pos (by rw[hq]),hq]
  ·rw[if_neg (by simpa using hq)]
   show(match v.t.at q with|some e=>jU e.cp (v.ch q)|none=>DO)=(match v'.t.at q with|some e=>jU e.cp (v'.ch q)|none=>DO)
   rw[x.at' q hq,x.ch q hq]
theorem lF.putTab(h:lF ee a v w S)(p:Nat):∃S1,aZ (QO ee a v (.ch p)) (VN v) w S1/\(∀k,S1 k->S k)/\∀v' D w' T,Og v v' p->Up S1 T w w'->aZ (aZ (QO ee a v' (.ch p)) (VN v')) D w' T->∃S',aZ (lF ee a v') D w' S'/\Up S S' w w':=by
 obtain⟨S1,h1,hs,dN⟩:=gF.at2 (A:=QO ee a v) (i:=SI.ch p) (j:=SI.Ew) h dJ;refine⟨S1,h1,hs,λv' D w' T x u hT=>?_⟩;obtain⟨S',h',u'⟩:=dN _ _ D w' T u hT;exact⟨S',h'.mono (λ_ h=>by unfold lF;rw[<-xu x];exact h) λ_ h=>h,u'⟩
theorem wh{v':gW}{p:Nat}(x:Og v v' p):EX (zO ee v) p (zO ee v' p)=zO ee v':=by
 funext q
 show(if q=p then zO ee v' p else zO ee v q)=_
 by_cases hq:q=p
 ·rw[if_pos hq,hq]
 ·rw[if_neg hq];unfold zO;rw[x.at' q hq,x.yX q hq]
theorem DD.putX(h:DD ee v w S)(p:Nat):∃S1,zO ee v p w S1/\(∀k,S1 k->S k)/\∀v' w' T,Og v v' p->Up S1 T w w'->zO ee v' p w' T->∃S',DD ee v' w' S'/\Up S S' w w':=by
 obtain⟨S1,h1,hs,dN⟩:=(gF.at h p).put;refine⟨S1,h1,hs,λv' w' T x u hT=>?_⟩;obtain⟨S',h',u'⟩:=dN _ w' T u hT;exact⟨S',by unfold DD;rw[<-wh x];exact h',u'⟩
def gW.jR(v:gW)(p:Nat):gW:={v with t:=v.t.drop p,gv:=(v.t.aT.filter λf=>decide (f.aM=p)).map (·.a)++v.gv}
theorem dropE_ok{G:Gr}{B:Int}(ok:v.Ok G B)(p:Nat):(v.jR p).Ok G B:=
 have sub:∀f∈(v.t.drop p).aT,f∈v.t.aT:=λf hf=>(jG.1 hf).1
 ⟨ok.cG,ok.dL,ok.u,ok.t.drop p,ok.eE,λf hf=>ok.ch f (sub f hf),λf hf=>ok.yX f (sub f hf),λf hf=>ok.Dv f (sub f hf),λk hk=>by
  rcases ok.lost k hk with⟨f,hf,rfl⟩|h
  ·by_cases hp:f.aM=p
   ·exact .inr (List.mem_append_left _ (lN.2 ⟨f,jG.2 ⟨hf,by simp[hp]⟩,rfl⟩))
   ·exact .inl ⟨f,jG.2 ⟨hf,by simp[hp]⟩,rfl⟩
  ·exact .inr (List.mem_append_right _ h)⟩
theorem Jw(v:gW)(p:Nat):Og v (v.jR p) p:=⟨rfl,rfl,rfl,rfl,rfl,rfl,rfl,rfl,λq hq=>at_drop hq,λq _=>rfl,λq _=>rfl⟩
theorem yf{G:Gr}{B:Int}{p:Nat}{QS:Sl}{Q:Sl->aH->Prop}(h:gD ee a v w S)(ok:v.Ok G B)(hr:Rd w QS 1 eI [(p:Int)])(ho:BD QS S w)
  (hQ:∀r w' S',gD ee a (v.jR p) w' S'->Up S S' w w'->(v.jR p).Ok G B->(∀f∈v.t.aT,f.aM=p->cW w' f.a ZB (Xa f))->Q r w'):pV (some ⟨v.tp,0,none⟩) QS w Q:=by
 have bd:=bF.gI h;obtain⟨SC,SS,hC,hS,d,e⟩:=h;obtain⟨S1,h1,vY,Xz⟩:=hC.putTab p;obtain⟨S2,S3,h2,⟨S4,S5,h4,h5,d45,e45⟩,d23,e23⟩:=h1;have inC:∀k,S4 k->SC k:=λk hk=>vY k ((e23 k).2 (.inr ((e45 k).2 (.inl hk))));refine TDrop_i h4 ok.t hr (λb hb=>⟨λhk=>(ho b hb).1 ((e _).2 (.inl (inC _ hk))),(ho b hb).2⟩) λr w' S6 h6 u6=>?_;obtain⟨S7,S8,h7,h8,d78,Lf⟩:=h6;have h5':wI Grv v.gv w' S5:=bF.aL h5 u6.m λk h1 h2=>d45 k h2 h1;have d65:∀k,S6 k->S5 k->False:=u6.jv (λk h1 h2=>d45 k h1 h2) (bF.gI h5);have hT:VN (v.jR p) w' (λk=>S7 k\/(S8 k\/S5 k)):=aZ.vZ h7 (WK (aZ.vZ (lx h8) h5' λk h1 h2=>d65 k ((Lf k).2 (.inr h1)) h2)) λk h1 h2=>h2.elim (d78 k h1) λh=>d65 k ((Lf k).2 (.inl h1)) h;have hE:QO ee a (v.jR p) (.ch p)=DO:=by
  show(match (v.t.drop p).at p with|some e=>_|none=>DO)=_
  rw[XU]
 have hX:aZ (aZ (QO ee a (v.jR p) (.ch p)) (VN (v.jR p))) DO w' (λk=>S7 k\/(S8 k\/S5 k)):=by
  rw[hE];exact aZ.emp ⟨λ_=>False,_,λ_=>id,hT,λ_ h _=>h,λk=>⟨.inr,λh=>h.elim False.elim id⟩⟩
 have UX:Up S1 (λk=>S7 k\/(S8 k\/S5 k)) w w':=⟨u6.m.mono λk _ hk=>(e23 k).2 (.inr ((e45 k).2 (.inl hk))),λk hk=>by
  rcases hk with hk|hk|hk
  ·exact(u6.s k ((Lf k).2 (.inl hk))).imp (λh=>(e23 k).2 (.inr ((e45 k).2 (.inl h)))) id
  ·exact(u6.s k ((Lf k).2 (.inr hk))).imp (λh=>(e23 k).2 (.inr ((e45 k).2 (.inl h)))) id
  ·exact .inl ((e23 k).2 (.inr ((e45 k).2 (.inr hk))))⟩
 obtain⟨S9,h9,u9⟩:=Xz _ _ w' _ (Jw v p) UX hX;obtain⟨GA,IX,Ev⟩:=h9.drop;have UC:Up SC GA w w':=u9.tr Ev;have hS':DD ee v w' SS:=bF.aL hS UC.m λk h1 h2=>d k h2 h1;obtain⟨Nx,Ld,hs11,He⟩:=DD.putX hS' p;have hE2:zO ee (v.jR p) p w' (λ_=>False):=by
  have:zO ee (v.jR p) p=DO:=by unfold zO;rw[show(v.jR p).t.at p=none from XU]
  rw[this];exactλ_=>id
 obtain⟨YJ,Ck,Cg⟩:=He (v.jR p) w' _ (Jw v p) (Up.sub w' λk hk=>hk.elim) hE2;have QK:∀k,YJ k->SS k\/w'.heap.size<=k:=Cg.s;have b12:=bF.gI Ck;have sub12:∀k,YJ k->SS k:=λk hk=>(QK k hk).resolve_right λh=>by have:=b12 k hk;omega
 refine hQ r w' (λk=>GA k\/YJ k) (aZ.vZ IX Ck λk h1 h2=>?_) ⟨UC.m.mono λk _ hk=>(e k).2 (.inl hk),λk hk=>?_⟩ (dropE_ok ok p) λf hf hfp=>?_
 ·exact(UC.s k h1).elim (λh=>d k h (sub12 k h2)) λh=>by have:=bd k ((e k).2 (.inr (sub12 k h2)));omega
 ·rcases hk with hk|hk
  ·exact(UC.s k hk).imp (λh=>(e k).2 (.inl h)) id
  ·exact .inl ((e k).2 (.inr (sub12 k hk)))
 ·obtain⟨_,fu,_⟩:=wI.get h8 (x:=f) (jG.2 ⟨hf,by simp[hfp]⟩)
  exact fu.1
def gW.oG(v:gW)(e:cV)(c:jH)(z:FZ):gW:={v with t:=v.t.add e,gv:=(oldE e.aM v.t.aT).map (·.a)++v.gv,ch:=λq=>if q=e.aM then c else v.ch q,yX:=λq=>if q=e.aM then z else v.yX q}
theorem addE_ok{G:Gr}{B:Int}(ok:v.Ok G B){e:cV}{c:jH}{z:FZ}(Qv:(v.t.add e).Ok)(hc:c.Ok/\c.aK=e.aK/\c.s.cM=v.cG.cM/\c.dl<=B)(hz:UN G z)(he:(1<=e.aK/\e.aK<=2147483648)/\0<=e.kM/\e.kM<=v.dL):(v.oG e c z).Ok G B:=by
 refine⟨ok.cG,ok.dL,ok.u,Qv,ok.eE,λf hf=>?_,λf hf=>?_,λf hf=>?_,λk hk=>?_⟩
 ·show(if f.aM=e.aM then c else v.ch f.aM).Ok/\(if f.aM=e.aM then c else v.ch f.aM).aK=f.aK/\(if f.aM=e.aM then c else v.ch f.aM).s.cM=v.cG.cM/\(if f.aM=e.aM then c else v.ch f.aM).dl<=B
  rcases oP.1 hf with rfl|⟨h1,h2⟩
  ·rw[if_pos rfl];exact hc
  ·rw[if_neg h2];exact ok.ch f h1
 ·show UN G (if f.aM=e.aM then z else v.yX f.aM)
  rcases oP.1 hf with rfl|⟨h1,h2⟩
  ·rw[if_pos rfl];exact hz
  ·rw[if_neg h2];exact ok.yX f h1
 ·rcases oP.1 hf with rfl|⟨h1,_⟩
  ·exact he
  ·exact ok.Dv f h1
 ·rcases ok.lost k hk with⟨f,hf,rfl⟩|h
  ·by_cases hp:f.aM=e.aM
   ·exact .inr (List.mem_append_left _ (lN.2 ⟨f,oldE_mem.2 ⟨hf,hp⟩,rfl⟩))
   ·exact .inl ⟨f,oP.2 (.inr ⟨hf,hp⟩),rfl⟩
  ·exact .inr (List.mem_append_right _ h)
theorem VAdd_i{G:Gr}{B:Int}{SC SS SB SH SZ:BS}{e:cV}{c:jH}{z:FZ}{Q:Int->aH->Prop}(hC:lF ee a v w SC)(hS:DD ee v w SS)(hB:JL e w SB)(hH:jU e.cp c w SH)(hZ:uP ee e.sp z w SZ)(dC:∀k,SC k->(SS k\/SB k\/SH k\/SZ k)->False)(dS:∀k,SS k->(SB k\/SH k\/SZ k)->False)(dB:∀k,SB k->(SH k\/SZ k)->False)(dH:∀k,SH k->SZ k->False)
  (ok:v.Ok G B) (hp:e.aM<16) (hm:v.t.uV e.aM e.aK=0) (hc:c.Ok/\c.aK=e.aK/\c.s.cM=v.cG.cM/\c.dl<=B) (hz:UN G z) (he:(1<=e.aK/\e.aK<=2147483648)/\0<=e.kM/\e.kM<=v.dL)
  (hQ:∀w' SA SX,lF ee a (v.oG e c z) w' SA->DD ee (v.oG e c z) w' SX->(∀k,SA k->SX k->False)->(∀k,SA k->SC k\/SB k\/SH k\/w.heap.size<=k)->(∀k,SX k->SS k\/SZ k)->aY (λk=>SC k\/SB k) w w'->(v.oG e c z).Ok G B->Q 0 w'):NO (some ⟨v.tp,0,none⟩) (xI e) w Q:=by
 obtain⟨S1,h1,vY,Xz⟩:=gF.at2X (A:=QO ee a v) (i:=SI.ch e.aM) (j:=SI.Ew) hC dJ;obtain⟨S2,S3,h2,⟨S4,S5,h4,h5,d45,e45⟩,d23,e23⟩:=h1;have in4:∀k,S4 k->SC k:=λk hk=>vY k ((e23 k).2 (.inr ((e45 k).2 (.inl hk))));have fg:∀k,S5 k->SC k:=λk hk=>vY k ((e23 k).2 (.inr ((e45 k).2 (.inr hk))));have b5:=bF.gI h5;have bC:=bF.gI hC;have bS:=bF.gI hS;have bH:=bF.gI hH;have bZ:=bF.gI hZ;have hTE:aZ (DC v.tp v.t) (JL e) w (λk=>S4 k\/SB k):=aZ.vZ h4 hB λk h1 h2=>dC k (in4 k h1) (.inr (.inl h2));refine TAdd_i hTE ok.t hp he.1 hm λw' S6 h6 u6 fe=>?_;obtain⟨S7,S8,h7,h8,d78,Lf⟩:=h6;have n5:∀k,S5 k->¬(S4 k\/SB k):=λk h h'=>h'.elim (λh1=>d45 k h1 h) λh1=>dC k (fg k h) (.inr (.inl h1));have nH:∀k,SH k->¬(S4 k\/SB k):=λk h h'=>h'.elim (λh1=>dC k (in4 k h1) (.inr (.inr (.inl h)))) λh1=>dB k h1 (.inl h);have nZ:∀k,SZ k->¬(S4 k\/SB k):=λk h h'=>h'.elim (λh1=>dC k (in4 k h1) (.inr (.inr (.inr h)))) λh1=>dB k h1 (.inr h);have nS:∀k,SS k->¬(S4 k\/SB k):=λk h h'=>h'.elim (λh1=>dC k (in4 k h1) (.inl h)) λh1=>dS k h (.inl h1);have h5':wI Grv v.gv w' S5:=bF.aL h5 u6.m n5;have hH':jU e.cp c w' SH:=bF.aL hH u6.m nH;have hZ':uP ee e.sp z w' SZ:=bF.aL hZ u6.m nZ;have d6:∀(T:BS),(∀k,T k->¬(S4 k\/SB k))->(∀k,T k->k<w.heap.size)->∀k,S6 k->T k->False:=λT hn hb k h1 h2=>(u6.s k h1).elim (hn k h2) λh=>by have:=hb k h2;omega
 have hT:VN (v.oG e c z) w' (λk=>S7 k\/(S8 k\/S5 k)):=aZ.vZ h7 (WK (aZ.vZ (lx h8) h5' λk h1 h2=>d6 S5 n5 b5 k ((Lf k).2 (.inr h1)) h2)) λk h1 h2=>h2.elim (d78 k h1) λh=>d6 S5 n5 b5 k ((Lf k).2 (.inl h1)) h;have Vw:(v.t.add e).at e.aM=some e:=by rw[at_add ok.t fe,if_pos rfl]
 have hE:QO ee a (v.oG e c z) (.ch e.aM)=jU e.cp c:=by
  show(match (v.t.add e).at e.aM with|some f=>jU f.cp (if e.aM=e.aM then c else v.ch e.aM)|none=>DO)=_
  rw[Vw,if_pos rfl]
 have x:Og v (v.oG e c z) e.aM:=⟨rfl,rfl,rfl,rfl,rfl,rfl,rfl,rfl,λq hq=>(at_add ok.t fe q).trans (if_neg hq),λq hq=>if_neg hq,λq hq=>if_neg hq⟩;have hHT:∀k,SH k->(S7 k\/(S8 k\/S5 k))->False:=λk h1 h2=>by
  rcases h2 with h|h|h
  ·exact d6 SH nH bH k ((Lf k).2 (.inl h)) h1
  ·exact d6 SH nH bH k ((Lf k).2 (.inr h)) h1
  ·exact dC k (fg k h) (.inr (.inr (.inl h1)))
 have s6:∀k,S6 k->S4 k\/SB k\/w.heap.size<=k:=λk hk=>(u6.s k hk).elim (λh=>h.imp id .inl) λh=>.inr (.inr h);have inS1:∀k,S4 k->S1 k:=λk h=>(e23 k).2 (.inr ((e45 k).2 (.inl h)));have hX:aZ (QO ee a (v.oG e c z) (.ch e.aM)) (VN (v.oG e c z)) w' (λk=>SH k\/(S7 k\/(S8 k\/S5 k))):=by
  rw[hE];exact aZ.vZ hH' hT hHT
 have TX:∀k,(SH k\/(S7 k\/(S8 k\/S5 k)))->SC k\/SB k\/SH k\/w.heap.size<=k:=λk hk=>by
  have key:S6 k->SC k\/SB k\/SH k\/w.heap.size<=k:=λh=>by
   rcases s6 k h with h|h|h
   ·exact .inl (in4 k h)
   ·exact .inr (.inl h)
   ·exact .inr (.inr (.inr h))
  rcases hk with hk|hk|hk|hk
  ·exact .inr (.inr (.inl hk))
  ·exact key ((Lf k).2 (.inl hk))
  ·exact key ((Lf k).2 (.inr hk))
  ·exact .inl (fg k hk)
 obtain⟨SA,hA,eA⟩:=Xz _ _ _ w' _ u6.m (λk hk=>hk.imp (inS1 k) λh hc=>dC k hc (.inr (.inl h))) (λk hk=>by
  have key:S6 k->S1 k\/¬SC k:=λh=>by
   rcases s6 k h with h|h|h
   ·exact .inl (inS1 k h)
   ·exact .inr λhc=>dC k hc (.inr (.inl h))
   ·exact .inr λhc=>by have:=bC k hc;omega
  rcases hk with hk|hk|hk|hk
  ·exact .inr λhc=>dC k hc (.inr (.inr (.inl hk)))
  ·exact key ((Lf k).2 (.inl hk))
  ·exact key ((Lf k).2 (.inr hk))
  ·exact .inl ((e23 k).2 (.inr ((e45 k).2 (.inr hk))))) hX
 rw[xu x] at hA;have inSA:∀k,SA k->SC k\/SB k\/SH k\/w.heap.size<=k:=λk hk=>((eA k).1 hk).elim (λh=>.inl h.1) (TX k);have hS':DD ee v w' SS:=bF.aL hS u6.m nS;have hYp:zO ee (v.oG e c z) e.aM w' SZ:=by
  have:zO ee (v.oG e c z) e.aM=uP ee e.sp z:=by
   show(match (v.t.add e).at e.aM with|some f=>uP ee f.sp (if e.aM=e.aM then z else v.yX e.aM)|none=>DO)=_
   rw[Vw,if_pos rfl]
  rw[this];exact hZ'
 obtain⟨SX,hSX,eSX⟩:=gF.swap hS' e.aM hYp λk h1 h2=>dS k h1 (.inr (.inr h2));rw[wh x] at hSX;refine hQ w' SA SX hA hSX (λk h1 h2=>?_) inSA eSX (u6.m.mono λk _ hk=>hk.imp (in4 k) id) (addE_ok (z:=z) ok fe hc hz he);rcases eSX k h2 with h|h
 ·rcases inSA k h1 with g|g|g|g
  ·exact dC k g (.inl h)
  ·exact dS k h (.inl g)
  ·exact dS k h (.inr (.inl g))
  ·have:=bS k h;omega
 ·rcases inSA k h1 with g|g|g|g
  ·exact dC k g (.inr (.inr (.inr h)))
  ·exact dB k g (.inr h)
  ·exact dH k g h
  ·have:=bZ k h;omega
end
end
section
structure vB where
 d:Int
 aK:Int
 up:Bool
 msg:iJ
abbrev eHd(x:vB×Sl):List Value:=[aD x.1.d,aD x.1.aK,.bool x.1.up,aD x.1.msg.kind,aD x.1.msg.pos,aD x.1.msg.LM,sv x.2,aD x.1.msg.mE,aD x.1.msg.eV.cls,aD x.1.msg.eV.mC,aD x.1.msg.eV.sE,aD x.1.msg.eV.left]
theorem ub:∀x:vB×Sl,(eHd x).length=12:=λ_=>rfl
theorem oneHd:∀x:vB×Sl,∀u∈eHd x,u.oneCell'=true:=by intro x u hu;simp at hu;rcases hu with rfl|rfl|rfl|rfl|rfl|rfl|rfl|rfl|rfl|rfl|rfl|rfl<;>rfl
abbrev Mh:=eX (α:=vB) eI tHeard 12 eHd λh=>h.msg.cJ
theorem Hm{G:Gr}{B B':Int}{v:gW}(ok:v.Ok G B){e:cV}(he:e∈v.t.aT){c:jH}(hc:c.Ok/\c.aK=e.aK/\c.s.cM=v.cG.cM/\c.dl<=B')(hB:B<=B'):(v.kC e.aM c).Ok G B':=by
 refine⟨ok.cG,ok.dL,ok.u,ok.t,ok.eE,λf hf=>?_,ok.yX,ok.Dv,ok.lost⟩;show(if f.aM=e.aM then c else v.ch f.aM).Ok/\(if f.aM=e.aM then c else v.ch f.aM).aK=f.aK/\(if f.aM=e.aM then c else v.ch f.aM).s.cM=v.cG.cM/\(if f.aM=e.aM then c else v.ch f.aM).dl<=B'
 by_cases hp:f.aM=e.aM
 ·rw[if_pos hp,ok.t.inj hf he hp];exact hc
 ·rw[if_neg hp];have:=ok.ch f hf;exact⟨this.1,this.2.1,this.2.2.1,aB⟩
theorem aZ.drop2{A B C:As}{w:aH}{S:BS}(h:aZ A (aZ B C) w S):∃S',aZ A C w S'/\Up S S' w w:=by
 obtain⟨S1,S2,h1,⟨S3,S4,h3,h4,d34,Wl⟩,d,e⟩:=h;exact⟨λk=>S1 k\/S4 k,aZ.vZ h1 h4 λk a b=>d k a ((Wl k).2 (.inr b)),Up.sub w λk hk=>(e k).2 (hk.imp id λh=>(Wl k).2 (.inr h))⟩
def BegC(G:Gr)(v:gW)(aM:Nat)(g:eR)(m:iJ)(e:Int):Prop:=g.kind=1/\g.seq=0/\e=0/\m.kind=1/\v.t.uV aM g.aK=0/\G.pP m.pos/\G.UL m.LM
def BegR(G:Gr)(v:gW)(aM:Nat)(g:eR)(v':gW)(ps:List Pk)(hs:List vB):Prop:=∃m e,aAo g.body m e/\
  ((¬BegC G v aM g m e/\v'=v/\hs=[]/\∃p code,ps=[p]/\Wn aM ⟨g.aK,3,0,0,code,[]⟩ p)\/
   (BegC G v aM g m e/\∃(en:cV) (z:FZ×List iJ) (nU:List (List cH)) (Nr:List eR) (c1:jH) (PW YL:List Pk),en.aM=aM/\en.aK=g.aK/\en.kM=v.dL/\(v.lf en.a).getD (false:Bool)=false/\VP G (Gk v.u) (Wq m.pos m.LM) z/\yH (uO v.cG.cM g.aK) g nU Nr c1/\F2 (Wn aM) Nr PW/\c1.Ok/\yG ((v.oG en (uO v.cG.cM g.aK) z.1).kC aM c1) en (iU::z.2) v' YL/\z.2.length<=2/\1<=z.2.length/\ps=PW++YL/\hs=[⟨aM,g.aK,true,m⟩]))
section
variable{W0 w:aH}{S:BS}{a:Nat}{v:gW}{E:qQ}{G:Gr}{B:Int}
theorem gD.cfgAt(h:gD E.e a v w S):bW w ((⟨a,0,none⟩:Addr).add 1) 0 (qP JF (wO v.cG)):=by
 refine oS.2 λk x hk=>?_;have:(VL E.e v)[1+k]? =some x:=by
  match k,hk with
  |0,hk=>exact hk
  |1,hk=>exact hk
  |2,hk=>exact hk
  |3,hk=>exact hk
  |4,hk=>exact hk
  |5,hk=>exact hk
  |k+6,hk=>simp[qP] at hk
 have c:=h.cell this;rw[aS] at c ⊢;rw[aS,show 0+1+(0+k)=0+(1+k) by omega];exact c
theorem begin_i{aM:Nat}{g:eR}{fw:Sl}{Q:Sl->Sl->aH->Prop}(h:gD E.e a v w S)(hb:Bs W0 E G S w)(ok:v.Ok G B)(hB:0<=B)(hp:aM<16)(hg:Rd w fw 1 eU g.body)(hgo:BD fw S w)(hl:g.body.length<=5000)(hs:u32 g.seq)(YO:1<=g.aK/\g.aK<=2147483648)
  (hQ:∀r rh ps hs v' w' S',gD E.e a v' w' S'->Up S S' w w'->rM w.heap.size S' w' r ps->Mh w.heap.size S' w' rh hs->v'.Ok G B->BegR G v aM g v' ps hs->Q r rh w'):KA (some ⟨a,0,none⟩) (aM:Int) (JG (g,fw)) w Q:=by
 unfold KA;have bd:=bF.gI h;refine cD (cs:=eG (g,fw)) λw1 b1 k1 z1=>aE (k:=.slice) fw (aP b1 rfl) ?_;refine mv (hg.aL k1 fN λ_ _=>id) hl λm sl e w2 k2 Qs f2 hmd=>?_;refine eZ (zs:=tN (⟨0,0,0,[],0,VU⟩,bD)) (vs:=tN (m,sl)) CE rfl (VS _) λw4 o4 k4 z4=>?_;have b4:=bF.kp (bF.kp b1 k2) k4;have K4:aN w w4:=(k1.tr k2).tr k4;have rej:∀(code:Int) (wx:aH),aN w wx->¬BegC G v aM g m e->eK (aM:Int) g.aK code wx λs2 w5=>Q s2 bD w5:=λcode wx kx hn=>
  wo λr p w5 k5 v5 hp5=>by
   have K5:=kx.tr k5;exact hQ r _ [p] [] v w5 S (bF.kp h K5) (Up.aO K5) ((v5.qN kx.size).sub λk hk=>nM (bd k hk) kx.size) eX.nil ok ⟨m,e,hmd,.inl ⟨hn,rfl,rfl,p,code,rfl,hp5⟩⟩
 refine aE (k:=.i) g.kind (aP b4 rfl) (aF (λhk=>aE (k:=.i) g.aK (aP b4 rfl) (rej 2 w4 K4 λhc=>?_)) (λhk=>?_))
 ·have:=hc.1;simp[this] at hk
 have QM:g.kind=1:=by simpa using hk
 refine aE (k:=.i) g.seq (aP b4 rfl) (aF (λhk=>aE (k:=.i) g.aK (aP b4 rfl) (rej 2 w4 K4 λhc=>?_)) (λhk=>?_))
 ·have:=hc.2.1;simp[this] at hk
 have hsq:g.seq=0:=by simpa using hk
 refine aF (λhk=>aE (k:=.i) g.aK (aP b4 rfl) (rej 2 w4 K4 λhc=>?_)) (λhk=>?_)
 ·have:=hc.2.2.1;simp[this] at hk
 have he0:e=0:=by simpa using hk
 refine aE (k:=.i) m.kind (dO o4 rfl) (aF (λhk=>aE (k:=.i) g.aK (aP b4 rfl) (rej 2 w4 K4 λhc=>?_)) (λhk=>?_))
 ·have:=hc.2.2.2.1;simp[this] at hk
 have ra:m.kind=1:=by simpa using hk
 have K4d:=K4.tr (bO w4);have h4:=bF.kp h K4d;refine aA rfl (aE (k:=.ptr) (some ⟨v.tp,0,none⟩) (h4.cell rfl) (aE (k:=.i) g.aK (aP (bF.dr b4) rfl) ?_));obtain⟨ST,hT,_⟩:=h4.Ew;refine TMay_i hT ok.t hp YO λw9 k9=>?_;have K9:=K4d.tr k9;refine aF (λsQ=>?_) (λsQ=>?_)
 ·have hmay0:v.t.uV aM g.aK=0:=by simpa using sQ
  have K9d:=K9.tr (bO w9);have h9:=bF.kp h K9d;have b9:=bF.kp b4 ((bO w4).tr (k9.tr (bO w9)));have o9:=o4.aL ((bO w4).tr (k9.tr (bO w9))) id;refine aA rfl (aE (k:=.ptr) (some ⟨E.e,0,none⟩) (h9.cell rfl) (aE (k:=.i) m.pos (dO o9 rfl) (aE (k:=.i) m.LM (dO o9 rfl) (aA rfl (aE (k:=.ptr) (some ⟨v.sp,0,none⟩) (h9.cell rfl) ?_)))));obtain⟨SU,hU,_⟩:=h9.sset;refine Ua hU ok.u.2 λmk eY v10 IS f10=>?_;have Ny:=K9d.tr IS;have IX:=bF.kp h Ny;have b10:=bF.kp b9 IS;have Ci:=o9.aL IS id;refine⟨dO Ci rfl,dO Ci rfl,IX.cell rfl,?_⟩;have hb10:=hb.kp Ny;refine SNewF_i hb10 (v10.rd Wu) (λSK=>?_) λhE hN z ms s eN SZ hz hZ hZlo okz Vr fo LF=>?_
  ·refine aF (λ_=>aE (k:=.i) g.aK (aP b10 rfl) (rej 4 eY Ny λhc=>SK hc.2.2.2.2.2)) (λh=>by cases h)
  refine aF (λh=>by cases h) (λ_=>?_);have K11d:=(Ny.tr LF).tr (bO eN);have Ld:=bF.kp h K11d;have b11:=bF.kp b10 (LF.tr (bO eN));refine aA rfl (bJ (l:=JF) (wO v.cG) Ld.cfgAt (aE (k:=.i) g.aK (aP b11 rfl) ?_));refine CNew_i ok.cG YO λcp gQ SH hH yx Fy=>?_;have K13:=(K11d.tr yx).tr (bO gQ);have fu:=bF.kp h K13;have b13:=bF.kp b11 (yx.tr (bO gQ));refine aE (k:=.i) g.aK (aP b13 rfl) (aA rfl (aE (k:=.i) v.dL (fu.cell rfl) ?_))
  let en:cV:=⟨gQ.drew.heap.size,cp,s,aM,g.aK,v.dL⟩
  refine cD (cs:=Xa en) λmQ bE Lm z14=>?_;have K14:=K13.tr Lm;have h14:=bF.kp h K14;refine aA rfl (aE (k:=.ptr) (some ⟨v.tp,0,none⟩) (h14.cell rfl) ?_);have ic:(v.lf en.a).getD (false:Bool)=false:=by
   obtain⟨SC0,hC0,_⟩:=h.sS;cases fm:v.lf en.a with
   |none=>rfl
   |some b=>
    obtain⟨cs,e',hc⟩:=hC0.Ia ok en.a (by rw[fm];rfl);have h1:en.a<w.heap.size:=(Array.getElem?_eq_some_iff.1 hc).1;have h2:w.heap.size<=en.a:=K13.size;omega
  have zk2:=k2.size;have zk10:w4.heap.size<=eY.heap.size:=((bO w4).tr (k9.tr ((bO w9).tr IS))).size;have z11:=LF.size;have z11d:eN.drew.heap.size=eN.heap.size:=rfl;have z13:=yx.size;have z13d:gQ.drew.heap.size=gQ.heap.size:=rfl;have bZ:=bF.gI hZ;have bH:=bF.gI hH;obtain⟨SC,SS,hC,hS,dCS,eCS⟩:=h14;have lC:∀k,SC k->k<w.heap.size:=λk hk=>bd k ((eCS k).2 (.inl hk));have lS:∀k,SS k->k<w.heap.size:=λk hk=>bd k ((eCS k).2 (.inr hk));have LK:=ok.dL;have CZ:=ok.cG.cM;refine VAdd_i (e:=en) (c:=uO v.cG.cM g.aK) (z:=z.1) (SB:=λk=>k=gQ.drew.heap.size) hC hS bE (bF.kp hH ((bO gQ).tr Lm)) (bF.kp hZ (((bO eN).tr yx).tr ((bO gQ).tr Lm))) (λk h1 h2=>?_) (λk h1 h2=>?_) (λk h1 h2=>?_) (λk h1 h2=>by have:=Fy k h1;have:=bZ k h2;omega) ok hp hmay0 ⟨OV CZ.2,rfl,rfl,hB⟩ okz ⟨YO,LK.1,lM _⟩ λfV SA SX hA hX dAX inA inX Fa ok15=>?_
  ·have:=lC k h1
   rcases h2 with h|h|h|h
   ·exact dCS k h1 h
   ·omega
   ·have:=Fy k h;omega
   ·have:=hZlo k h;omega
  ·have:=lS k h1
   rcases h2 with h|h|h
   ·omega
   ·have:=Fy k h;omega
   ·have:=hZlo k h;omega
  ·have h1':k=gQ.drew.heap.size:=h1
   rcases h2 with h|h
   ·have:=bH k h;omega
   ·have:=bZ k h;omega
  have mid:∀k,w.heap.size<=k->k<eN.heap.size->¬SA k:=λk h1 h2 h3=>by
   rcases inA k h3 with g|g|g|g
   ·have:=lC k g;omega
   ·omega
   ·have:=Fy k g;omega
   ·omega
  have sy:∀k,w.heap.size<=k->k<eN.heap.size->¬(SC k\/k=gQ.drew.heap.size):=λk h1 h2 h3=>h3.elim (λh=>by have:=lC k h;omega) λh=>aB;have M14d:=Fa.trans (F:=λk=>SC k\/k=gQ.drew.heap.size) ((bO fV).wk) λ_ _ h=>h;have b14:=bF.kp b13 Lm;have o1:=(b14.1).aL M14d (sy _ (iX _) aB);have o2:=(((((Ci.aL LF id).aL (bO eN) id).aL yx id).aL (bO gQ) id).aL Lm id).aL M14d (sy _ (by have:=k1.size;have:=k2.size;omega) (by have:=k4.size;omega));have hA':=bF.dr hA;have fP:en∈(v.oG en (uO v.cG.cM g.aK) z.1).t.aT:=oP.2 (.inl rfl);have Vw:(v.oG en (uO v.cG.cM g.aK) z.1).t.at aM=some en:=sP.MY ok15.t fP;refine aA rfl (aE (k:=.i) v.dL (hA'.cell rfl) ?_);refine bJ (l:=kG) (JG (g,fw)) (o1.holds λj v hj=>by rw[pU];exact hj) ?_;obtain⟨S6,h6,Qw,yF⟩:=hA'.Xm Vw;have ech:(v.oG en (uO v.cG.cM g.aK) z.1).ch aM=uO v.cG.cM g.aK:=if_pos rfl;rw[ech] at h6;have K15:∀k,k<w.heap.size->¬SC k->¬(SC k\/k=gQ.drew.heap.size):=λk h1 h2 h3=>h3.elim h2 λh=>aB;have hgo15:Rd fV.drew fw 1 eU g.body:=((hg.aL K14 fN λ_ _=>id).aL Fa fN λb bY=>K15 _ (hgo b bY).2 λh=>(hgo b bY).1 ((eCS _).2 (.inl h))).aL (bO fV) fN λ_ _=>id;have zz15:=Fa.size;refine Uf h6 (OV CZ.2) (by show(0:Int)<=_;omega) hgo15 (λb bY=>⟨λhk=>?_,?_⟩) aB hs λYT nU rg Nr c1 gX S7 h7 u7 YS Lu=>?_
  ·have cL:=(hgo b bY).2
   rcases inA _ (Qw _ hk) with g|g|g|g
   ·exact(hgo b bY).1 ((eCS _).2 (.inl g))
   ·omega
   ·have:=Fy _ g;omega
   ·have:=Lm.size;omega
  ·have:=(hgo b bY).2
   have:fV.drew.heap.size=fV.heap.size:=rfl;omega
  obtain⟨S8,h8,u8⟩:=yF _ _ gX S7 u7 h7;obtain⟨S9,h9',u9⟩:=aZ.drop2 h8;obtain⟨S16,h16,u16,g16⟩:=WE h9';have U16:Up SA S16 fV.drew gX.drew:=((u8.tr u9).tr u16).tr (Up.aO (bO gX));have hv2:=Hm (c:=c1) (B':=B) ok15 fP (by
   have:=xC (OV CZ.2) YS;exact⟨Lu,this.2.1,this.1,Int.le_trans this.2.2.1 hB⟩) (lM _)
  have rf:=xC (OV (aK:=g.aK) CZ.2) YS;have h16':=bF.dr h16;have g16':=g16.kp QZ (bO gX);have b16:=bF.gI h16';have Xp:∀k,w.heap.size<=k->k<eN.heap.size->¬S16 k:=λk h1 h2 h3=>(U16.s k h3).elim (mid k h1 h2) λh=>by have:fV.drew.heap.size=fV.heap.size:=rfl;omega
  have YG:=o1.aL U16.m (mid _ (iX _) aB);have o2':=o2.aL U16.m (mid _ (by have:=k1.size;have:=k2.size;omega) (by have:=k4.size;omega));have hms16:fJ gX.drew (λk=>eY.heap.size<=k/\k<eN.heap.size) ms (iU::z.2):=
   ((((Vr.wk λk h1 h2=>⟨h1,h2⟩).aO ((bO eN).tr (yx.tr ((bO gQ).tr Lm)))).aL M14d λk hk=>sy k aB hk.2).aL U16.m λk hk=>mid k aB hk.2)
  have rd16:Rd gX.drew sl 1 eI m.cJ:=by
   have IW:∀b,sl.b=some b->w.heap.size<=b.block/\b.block<eN.heap.size:=λb bY=>⟨by have:=f2 b bY;omega,by have:=Qs.2.2.1 b bY;have:=k4.size;omega⟩;exact((Qs.1.aL ((k4.tr ((bO w4).tr (k9.tr ((bO w9).tr IS)))).tr (LF.tr ((bO eN).tr (yx.tr ((bO gQ).tr Lm))))) dA λ_ _=>id).aL M14d dA λb bY=>sy _ (IW b bY).1 (IW b bY).2).aL U16.m dA λb bY=>mid _ (IW b bY).1 (IW b bY).2
  have Rj:∀b,sl.b=some b->w.heap.size<=b.block/\b.block<eN.heap.size:=λb bY=>⟨by have:=f2 b bY;omega,by have:=Qs.2.2.1 b bY;have:=k4.size;omega⟩;have zz16:fV.heap.size<=gX.drew.heap.size:=U16.size;have l64:Nr.length<=1000:=by
   have h2:=Lu.s.BE;have Wk:=Lu.s.cM;omega
  have inW:∀wx Sx,Up S16 Sx gX.drew wx->bW wx ⟨w2.heap.size,0,none⟩ 0 (tN (m,sl))/\wx.cell? ((⟨w.heap.size,0,none⟩:Addr).add 0)=some (aD g.aK):=λwx Sx u=>
   ⟨(o2'.aL u.m (Xp _ (by have:=k1.size;have:=k2.size;omega) (by have:=k4.size;omega))).holds λj v hj=>by rw[pU];exact hj,dO (YG.aL u.m (Xp _ (iX _) aB)) rfl⟩
  have dW:∀(r:Sl) (PW YL:List Pk) (v':gW) (wz:aH) (Sy:BS) (gb:Nat),lF E.e a v' wz Sy->Up S16 Sy gX.drew wz->rM gX.drew.heap.size Sy wz r (PW++YL)->v'.Ok G B->F2 (Wn aM) Nr PW->yG ((v.oG en (uO v.cG.cM g.aK) z.1).kC aM c1) en (iU::z.2) v' YL->cW wz gb tHeard (eHd (⟨aM,g.aK,true,m⟩,sl))->gX.drew.heap.size<=gb->¬Sy gb->Q r ⟨some ⟨gb,0,none⟩,1,1⟩ wz:=by
   intro r PW YL v' wz Sy gb hy uy vy oky f1 sd og lgb ngb;have UA:=U16.tr uy;have hX':DD E.e (v.oG en (uO v.cG.cM g.aK) z.1) wz SX:=bF.aL (bF.dr hX) UA.m λk h1 h2=>dAX k h2 h1;have bX:=bF.gI hX;have dd:∀k,Sy k->SX k->False:=UA.jv dAX λk hk=>bX k hk;have hsv:gD E.e a v' wz (λk=>Sy k\/SX k):=by
    have hse:=sd;obtain⟨bs,gs,c',lo,lf,ln,rfl,_⟩:=hse;exact aZ.vZ hy hX' dd
   have lSy:∀k,Sy k->S k\/w.heap.size<=k:=λk hk=>by
    rcases UA.s k hk with h|h
    ·rcases inA k h with g|g|g|g
     ·exact .inl ((eCS k).2 (.inl g))
     ·exact .inr aB
     ·exact .inr (by have:=Fy k g;omega)
     ·exact .inr (by have:=Lm.size;omega)
    ·exact .inr (by have:fV.drew.heap.size=fV.heap.size:=rfl;have:=Lm.size;omega)
   have lSX:∀k,SX k->S k\/w.heap.size<=k:=λk hk=>(inX k hk).imp (λh=>(eCS k).2 (.inr h)) λh=>by have:=hZlo k h;omega
   have Vo:Up S (λk=>Sy k\/SX k) w wz:=by
    refine⟨((K14.wk.trans Fa λk h1 h2=>?_).trans (bO fV).wk λ_ _ h=>h).trans UA.m λk h1 h2=>?_,λk hk=>hk.elim (lSy k) (lSX k)⟩
    ·exact h2.elim (λh=>(eCS k).2 (.inl h)) λh=>by have h':k=gQ.drew.heap.size:=h;omega
    ·rcases inA k h2 with g|g|g|g
     ·exact(eCS k).2 (.inl g)
     ·omega
     ·have:=Fy k g;omega
     ·have:=Lm.size;omega
   have uszz:=uy.size;refine hQ r _ (PW++YL) [⟨aM,g.aK,true,m⟩] v' wz _ hsv Vo ((vy.cov λk hk=>hk.imp id λh=>by have:=bX k h;omega).qN (by have:=Lm.size;omega)) ?_ oky ⟨m,e,hmd,.inr ⟨⟨QM,hsq,he0,ra,hmay0,hE,hN⟩,en,z,nU,Nr,c1,PW,YL,rfl,rfl,rfl,ic,hz,YS,f1,Lu,sd,fo.1,fo.2,rfl,rfl⟩⟩;refine⟨[(⟨aM,g.aK,true,m⟩,sl)],rfl,dP.new ub [(⟨aM,g.aK,true,m⟩,sl)] (by simpa using og) (by simp[maxLen]),λb bY=>by cases bY;exact⟨by have:=Lm.size;show w.heap.size<=gb;omega,λh=>h.elim ngb λh=>by have:=bX _ h;have h':gb<fV.heap.size:=this;omega⟩,λx hx=>?_⟩;rw[kZ.1 hx];refine⟨rd16.aL uy.m dA λb bY=>Xp _ (Rj b bY).1 (Rj b bY).2,λb bY=>⟨(Rj b bY).1,λh=>?_,?_,λb' Rt e=>?_⟩⟩
   ·rcases h with h|h
    ·exact(uy.s _ h).elim (Xp _ (Rj b bY).1 (Rj b bY).2) λh=>by have:=(Rj b bY).2;omega
    ·have h2:=Qs.2.2.1 b bY
     rcases inX _ h with h|h
     ·have:=lS _ h;have:=(Rj b bY).1;omega
     ·have:=hZlo _ h;omega
   ·have:=(Rj b bY).2;omega
   ·cases Rt
    have:=(Rj b bY).2;have e':b.block=gb:=e;omega
  have hbd:∀g∈Nr,g.body.length<=80000:=λg hg=>by have:=rf.2.2.2.2.1 g hg;omega
  have sayP:∀wx,aN gX.drew wx->∀(K:WQ Sl),(∀r ps v' wy Sy,lF E.e a v' wy Sy->Up S16 Sy wx wy->rM wx.heap.size Sy wy r ps->v'.Ok G B->yG ((v.oG en (uO v.cG.cM g.aK) z.1).kC aM c1) en (iU::z.2) v' ps->K r wy)->sU (some ⟨a,0,none⟩) (xI en) ms wx K:=λwx kx K hK=>
   say_i (bF.kp h16' kx) hv2 fP (hms16.aO kx) (λk hk=>Xp k aB hk.2) (by simp;omega) λr ps v' wy Sy g1 g2 g3 g4 g5=>hK r ps v' wy Sy g1 g2 g3 g4 g5
  have YP:∀(v':gW) (PW YL:List Pk),F2 (Wn aM) Nr PW->yG ((v.oG en (uO v.cG.cM g.aK) z.1).kC aM c1) en (iU::z.2) v' YL->v'.Ok G B->PW.length+YL.length<=1000000:=λv' PW YL f1 sd Qv=>by
   have yz:en∈((v.oG en (uO v.cG.cM g.aK) z.1).kC aM c1).t.aT:=fP;have h1:=yG.YP yz sd Qv;have hr5:=Lu.s.BE;have hr6:=Lu.s.cM;have h2:=f1.len;have h4:(((v.oG en (uO v.cG.cM g.aK) z.1).kC aM c1).cG).cM=v.cG.cM:=rfl;omega
  have o1k:∀wx,aN gX.drew wx->bW wx ⟨w2.heap.size,0,none⟩ 0 (tN (m,sl))/\wx.cell? ((⟨w.heap.size,0,none⟩:Addr).add 0)=some (aD g.aK):=λwx kx=>inW wx S16 (Up.aO kx);obtain⟨hMa,hMb⟩:=o1k _ (aY.refl _ _);refine aE (k:=.i) g.aK hMb (bJ (l:=ff) (GF (m,sl)) hMa ⟨?_,?_⟩)
  ·refine AQ g16' l64 hbd λr1 PW lP Kw v17 f17=>⟨(o1k lP Kw).1,(o1k lP Kw).2,?_,?_⟩
   ·refine sayP lP Kw _ λr2 YL v' nJ Wa zh u18 v18 aAb sd=>?_
    have U18:=(Up.aO Kw).tr u18;have Lq:rM gX.drew.heap.size Wa nJ r1 PW:=(v17.sub λk hk=>b16 k hk).up u18;have b18:=bF.gI zh;have z17:=Kw.size;have z18:=u18.size;have r1b:∀b,r1.b=some b->b.block<lP.heap.size:=λb bY=>v17.lt bY;refine⟨(inW nJ Wa U18).1,(inW nJ Wa U18).2,?_,?_⟩
    ·refine eX.jy jW MN MJ aB Lq v18 z17 r1b (YP _ _ _ f17 sd aAb) aB b18 λr' qD v19 m19 _=>?_
     have LI:=m19.mono (G:=λk=>gX.drew.heap.size<=k/\¬Wa k) λk _ hk=>Lq.DX k hk;have U19:=Up.gE U18 LI;have h19:=bF.ov zh LI;refine⟨(inW qD Wa U19).1,(inW qD Wa U19).2,?_⟩;refine cD (cs:=eHd (⟨aM,g.aK,true,m⟩,sl)) λxX b20 k20 z20=>?_;have z19:=U19.size;refine dW r' PW YL v' xX Wa qD.heap.size (bF.kp h19 k20) (U19.tr (Up.aO k20)) (v19.kp k20) aAb f17 sd b20.1 z19 λhs=>?_;have:=bF.gI h19 _ hs;omega
    ·refine cD (cs:=eHd (⟨aM,g.aK,true,m⟩,sl)) λAO b21 k21 z21=>?_
     have z21:=k21.size;refine eX.jy jW MN MJ aB (Lq.kp k21) (v18.kp k21) z17 r1b (YP _ _ _ f17 sd aAb) aB (λk hk=>nM (b18 k hk) z21) λr' EW v22 m22 _=>?_;have m22':=m22.mono (G:=λk=>gX.drew.heap.size<=k/\¬Wa k) λk _ hk=>Lq.DX k hk;have U22:=Up.gE (U18.tr (Up.aO k21)) m22';refine dW r' PW YL v' EW Wa nJ.heap.size (bF.ov (bF.kp zh k21) m22') U22 v22 aAb f17 sd (b21.1.aL m22 λ⟨b,bY,e⟩=>by have:=r1b b bY;omega) aB λhs=>by have:=b18 _ hs;omega
   ·refine cD (cs:=eHd (⟨aM,g.aK,true,m⟩,sl)) λDj b23 qy z23=>?_
    have K23:=Kw.tr qy;refine sayP Dj K23 _ λr2 YL v' YD S24 h24 u24 v24 ok24 sd=>?_;have U24:=(Up.aO K23).tr u24;have Lq:rM gX.drew.heap.size S24 YD r1 PW:=((v17.sub λk hk=>b16 k hk).kp qy).up u24;have b24:=bF.gI h24;have z17:=Kw.size;have z24:=u24.size;have r1b:∀b,r1.b=some b->b.block<lP.heap.size:=λb bY=>v17.lt bY;refine eX.jy jW MN MJ aB Lq v24 aB (λb bY=>by have:=r1b b bY;omega) (YP _ _ _ f17 sd ok24) aB b24 λr' UO v25 m25 _=>?_;have m25':=m25.mono (G:=λk=>gX.drew.heap.size<=k/\¬S24 k) λk _ hk=>Lq.DX k hk;have U25:=Up.gE U24 m25';refine dW r' PW YL v' UO S24 lP.heap.size (bF.ov h24 m25') U25 v25 ok24 f17 sd ((b23.1.aL u24.m λhs=>by have:=b16 _ hs;omega).aL m25 λ⟨b,bY,e⟩=>by have:=r1b b bY;omega) z17 λhs=>(u24.s _ hs).elim (λh=>by have:=b16 _ h;omega) λh=>aB
  ·refine cD (cs:=eHd (⟨aM,g.aK,true,m⟩,sl)) λQr b26 k26 z26=>?_
   refine AQ (g16'.kp QZ k26) l64 hbd λr1 PW Vj k27 v27 f27=>?_;have K27:=k26.tr k27;refine sayP Vj K27 _ λr2 YL v' eo S28 h28 u28 v28 ok28 sd=>?_;have U28:=(Up.aO K27).tr u28;have z26':=k26.size;have z27:=k27.size;have z28:=u28.size;have Lq:rM gX.drew.heap.size S28 eo r1 PW:=((v27.qN z26').sub λk hk=>nM (b16 k hk) z26').up u28;have b28:=bF.gI h28;have r1b:∀b,r1.b=some b->b.block<Vj.heap.size:=λb bY=>v27.lt bY;refine eX.jy jW MN MJ aB Lq v28 aB r1b (YP _ _ _ f27 sd ok28) aB b28 λr' Wb v29 m29 _=>?_;have m29':=m29.mono (G:=λk=>gX.drew.heap.size<=k/\¬S28 k) λk _ hk=>Lq.DX k hk;have U29:=Up.gE U28 m29';refine dW r' PW YL v' Wb S28 gX.drew.heap.size (bF.ov h28 m29') U29 v29 ok28 f27 sd (((b26.1.aL k27 id).aL u28.m λhs=>by have:=b16 _ hs;omega).aL m29 λ⟨b,bY,e⟩=>?_) (iX _) λhs=>(u28.s _ hs).elim (λh=>by have:=b16 _ h;omega) λh=>aB;have:=(v27.DX _ ⟨b,bY,rfl⟩).1;omega
 ·refine aF (λh5=>aE (k:=.i) g.aK (aP (bF.kp b4 ((bO w4).tr k9)) rfl) (rej 1 w9 K9 λhc=>?_)) (λh5=>aE (k:=.i) g.aK (aP (bF.kp b4 ((bO w4).tr k9)) rfl) (rej 2 w9 K9 λhc=>?_))
  ·have:=hc.2.2.2.2.1;rw[this] at sQ;cases sQ
  ·have:=hc.2.2.2.2.1;rw[this] at sQ;cases sQ
end
end
section
def gW.KX(v:gW)(i:Nat)(e:cV):gW:={v with t:=⟨v.t.eE,v.t.aT.set i e,v.t.gr⟩}
theorem aAE{l:List cV}{i:Nat}{e e':cV}(h:l[i]? =some e)(hp:e'.aM=e.aM):(l.set i e').map (·.aM)=l.map (·.aM):=by
 apply BH;intro j;rw[mY,mY,wC]
 by_cases hj:i=j
 ·subst hj
  have cL:=(kY.1 h).1;rw[if_pos rfl,if_pos cL,h];simp[hp]
 ·rw[if_neg hj]
theorem Th{l:List cV}{i:Nat}{e e':cV}(hs:DY l)(h:l[i]? =some e)(hp:e'.aM=e.aM):DY (l.set i e'):=by
 have h1:(l.map (·.aM)).Pairwise (·<·):=by rw[List.pairwise_map];exact hs
 rw[<-aAE h hp,List.pairwise_map] at h1;exact h1
theorem sT{l:List cV}{i:Nat}{e e' f:cV}(hs:DY l)(h:l[i]? =some e)(hp:e'.aM=e.aM):f∈l.set i e'↔f=e'\/(f∈l/\f.aM≠e.aM):=by
 have cL:=(kY.1 h).1;have uM:e'∈l.set i e':=zN (i:=i) (by rw[wC];simp[cL])
 constructor
 ·intro hf
  by_cases hfe:f=e'
  ·exact .inl hfe
  ·refine .inr ⟨(List.mem_or_eq_of_mem_set hf).resolve_right hfe,λWj=>hfe (wc (Th hs h hp) hf uM (by rw[Wj,hp]))⟩
 ·rintro(rfl|⟨hf,gH⟩)
  ·exact uM
  ·obtain⟨j,hj⟩:=List.getElem?_of_mem hf
   refine zN (i:=j) ?_;rw[wC,if_neg,hj];intro e;subst e;rw[h] at hj;cases hj;exact gH rfl
theorem Yh{t:sP}(ok:t.Ok){i:Nat}{e e':cV}(h:t.aT[i]? =some e)(hp:e'.aM=e.aM)(Qv:(⟨t.eE,t.aT.set i e',t.gr⟩:sP).Ok)(q:Nat):(⟨t.eE,t.aT.set i e',t.gr⟩:sP).at q=if q=e.aM then some e' else t.at q:=by
 apply Option.ext;intro f;rw[sP.Sv Qv];show(f∈t.aT.set i e'/\f.aM=q)↔_;rw[sT ok.sC h hp]
 by_cases hq:q=e.aM
 ·rw[if_pos hq]
  constructor
  ·rintro⟨rfl|⟨_,gH⟩,h2⟩
   ·rfl
   ·exact absurd (h2.trans hq) gH
  ·intro h;cases h;exact⟨.inl rfl,by rw[hp,hq]⟩
 ·rw[if_neg hq,sP.Sv ok]
  constructor
  ·rintro⟨rfl|⟨hf,_⟩,h2⟩
   ·exact absurd (h2.symm.trans hp) hq
   ·exact⟨hf,h2⟩
  ·rintro⟨hf,h2⟩;exact⟨.inr ⟨hf,λh3=>hq (h2.symm.trans h3)⟩,h2⟩
theorem Ol{t:sP}(ok:t.Ok){i:Nat}{e e':cV}(h:t.aT[i]? =some e)(hp:e'.aM=e.aM):(⟨t.eE,t.aT.set i e',t.gr⟩:sP).Ok:=
 ⟨ok.eE,by show(t.aT.set i e').length<=_;rw[pR];exact ok.len,Th ok.sC h hp,λf hf=>by
  rcases(sT ok.sC h hp).1 hf with rfl|⟨hf,_⟩
  ·rw[hp];exact ok.aM e (zN h)
  ·exact ok.aM f hf⟩
section
variable{W0 w:aH}{S:BS}{a:Nat}{v:gW}{E:qQ}{G:Gr}{B:Int}{ee:Nat}
theorem touch_ok(ok:v.Ok G B){i:Nat}{e e':cV}(h:v.t.aT[i]? =some e)(hp:e'.aM=e.aM)(ha:e'.a=e.a)(hc:e'.aK=e.aK)(hl:0<=e'.kM/\e'.kM<=v.dL):(v.KX i e').Ok G B:=by
 have he:=zN h;have mem:∀f∈(v.KX i e').t.aT,f=e'\/(f∈v.t.aT/\f.aM≠e.aM):=λf hf=>(sT ok.t.sC h hp).1 hf;refine⟨ok.cG,ok.dL,ok.u,Ol ok.t h hp,ok.eE,λf hf=>?_,λf hf=>?_,λf hf=>?_,λk hk=>?_⟩
 ·rcases mem f hf with rfl|⟨hf,_⟩
  ·have:=ok.ch e he;show(v.ch f.aM).Ok/\(v.ch f.aM).aK=f.aK/\(v.ch f.aM).s.cM=v.cG.cM/\(v.ch f.aM).dl<=B;rw[hp,hc];exact this
  ·exact ok.ch f hf
 ·rcases mem f hf with rfl|⟨hf,_⟩
  ·show UN G (v.yX f.aM);rw[hp];exact ok.yX e he
  ·exact ok.yX f hf
 ·rcases mem f hf with rfl|⟨hf,_⟩
  ·rw[hc];exact⟨(ok.Dv e he).1,hl⟩
  ·exact ok.Dv f hf
 ·rcases ok.lost k hk with⟨f,hf,rfl⟩|hg
  ·by_cases hpf:f.aM=e.aM
   ·have:=ok.t.inj hf he hpf
    subst this;exact .inl ⟨e',(sT ok.t.sC h hp).2 (.inl rfl),ha⟩
   ·exact .inl ⟨f,(sT ok.t.sC h hp).2 (.inr ⟨hf,hpf⟩),rfl⟩
  ·exact .inr hg
theorem gD.kM(h:gD ee a v w S)(ok:v.Ok G B){i:Nat}{e:cV}(hi:v.t.aT[i]? =some e){Q:aH->Prop}(hQ:∀w' S',gD ee a (v.KX i {e with kM:=v.dL}) w' S'->Up S S' w w'->Q w'):aI prog cZ ((⟨e.a,0,none⟩:Addr).add 4) (aD v.dL) w Q:=by
 have cL:=(kY.1 hi).1;have lU:=ok.t.sC
 let e':cV:={e with kM:=v.dL}
 have oktt:=Ol (e':=e') ok.t hi rfl;have ef:∀x,sR (v.t.aT.set i e') x=sR v.t.aT x:=λx=>by
  refine Ic (f:=sR v.t.aT) (Th (e':=e') lU hi rfl) (λx p=>?_) x;rw[WY lU]
  constructor
  ·rintro⟨f,hf,hx,hp⟩
   by_cases hfe:f.aM=e.aM
   ·have:=ok.t.inj hf (zN hi) hfe
    subst this;exact⟨e',(sT (e':=e') lU hi rfl).2 (.inl rfl),hx,hp⟩
   ·exact⟨f,(sT (e':=e') lU hi rfl).2 (.inr ⟨hf,hfe⟩),hx,hp⟩
  ·rintro⟨f,hf,hx,hp⟩
   rcases(sT (e':=e') lU hi rfl).1 hf with rfl|⟨hf,_⟩
   ·exact⟨e,zN hi,hx,hp⟩
   ·exact⟨f,hf,hx,hp⟩
 have efun:sR (v.t.aT.set i e')=sR v.t.aT:=funext ef;have f0:=(aZ.l h).c λT hT=>gF.at hT .Ew;have f1:Wp w S (DC v.tp v.t) _:=f0.c λT hT=>aZ.l hT;obtain⟨S1,⟨m1,m2,ng,hT⟩,vY,dN⟩:=f1.put;obtain⟨S2,hL,IT,GZ⟩:=(((aZ.r hT).c λT hT=>aZ.r hT).c λT hT=>(aZ.r hT).c λT hT=>wI.at hT hi).put;refine pG hL cY dJ rfl rfl λw' b' u'=>?_;obtain⟨S3,h3,u3⟩:=GZ (JL e') w' S2 u' b';have hT3:DC v.tp (v.KX i e').t w' S3:=by
  refine⟨m1,m2,ng,h3.mono (λ_ h=>h) λ_ h=>h.mono (λ_ h=>?_) λ_ h=>h.mono (λ_ h=>h) λ_ h=>Bh.set cL h⟩;show uQ m1 CW qS (sR (v.t.aT.set i e')) (v.t.aT.set i e').length _ _;rw[efun,pR];exact h
 obtain⟨S4,h4,u4⟩:=dN _ w' S3 u3 hT3;refine hQ w' S4 (h4.mono (λ_ h=>?_) λ_ h=>?_) u4
 ·have efam:EX (QO ee a v) .Ew (aZ (DC v.tp (v.KX i e').t) (wI Grv v.gv))=QO ee a (v.KX i e'):=by
   funext j
   cases j with
   |ch q=>
    show(match v.t.at q with|some e=>jU e.cp (v.ch q)|none=>DO)=(match (v.KX i e').t.at q with|some e=>jU e.cp (v.ch q)|none=>DO)
    rw[show(v.KX i e').t.at q=if q=e.aM then some e' else v.t.at q from Yh (e':=e') ok.t hi rfl oktt q]
    by_cases hq:q=e.aM
    ·rw[if_pos hq,hq,sP.MY ok.t (zN hi)]
    ·rw[if_neg hq]
   |_=>rfl
  unfold lF;rw[<-efam];exact h
 ·have es:zO ee (v.KX i e')=zO ee v:=by
   funext q
   show(match (v.KX i e').t.at q with|some e=>uP ee e.sp (v.yX q)|none=>DO)=(match v.t.at q with|some e=>uP ee e.sp (v.yX q)|none=>DO)
   rw[show(v.KX i e').t.at q=if q=e.aM then some e' else v.t.at q from Yh (e':=e') ok.t hi rfl oktt q]
   by_cases hq:q=e.aM
   ·rw[if_pos hq,hq,sP.MY ok.t (zN hi)]
   ·rw[if_neg hq]
  unfold DD;rw[es];exact h
theorem gD.Xm(h:gD ee a v w S){e:cV}{p:Nat}(he:v.t.at p=some e):∃S1,jU e.cp (v.ch p) w S1/\(∀k,S1 k->S k)/\∀c D w' T,Up S1 T w w'->aZ (jU e.cp c) D w' T->∃S',aZ (gD ee a (v.kC p c)) D w' S'/\Up S S' w w':=by
 obtain⟨S1,h1,hs,dN⟩:=(aZ.l h).c λT hT=>lF.chan hT he;refine⟨S1,h1,hs,λc D w' T u hT=>?_⟩;obtain⟨S',h',u'⟩:=dN _ D w' T u hT;exact⟨S',h'.mono (λS h=>h.mono (λ_ h=>by unfold lF;rw[<-fam_ch he];exact h) λ_ h=>h) λ_ h=>h,u'⟩
end
end
section
abbrev BL(r:Sl):BS:=λk=>∃a,r.b=some a/\k=a.block
def EntR(v:gW)(p:Nat)(g:eR)(v':gW)(ps:List Pk)(hs:List vB):Prop:=∃e∈v.t.aT,e.aM=p/\e.aK=g.aK/\∃nU Nr c1,yH (v.ch p) g nU Nr c1/\(nU=[]->v'=v.kC p c1/\F2 (Wn p) Nr ps/\hs=[])
def vj(g:eR)(e:Int):Prop:=e=0/\g.kind≠3/\1<=g.aK/\g.aK<=2147483648
def Bg(G:Gr)(v:gW)(p:Int)(bs:List cH)(v':gW)(ps:List Pk)(hs:List vB):Prop:=
 (¬(0<=p/\p<16)/\v'=v/\ps=[]/\hs=[])\/∃g e,GDec bs g e/\((¬vj g e/\v'=v/\ps=[]/\hs=[])\/(vj g e/\((∀f∈v.t.aT,¬(f.aM=p.toNat/\f.aK=g.aK))/\BegR G v p.toNat g v' ps hs\/EntR v p.toNat g v' ps hs)))
structure Bf(v v':gW)(p:Int):Prop where
 cG:v'.cG=v.cG
 u:v'.u=v.u
 dL:v'.dL=v.dL
 aT:∀f∈v'.t.aT,(∃f0∈v.t.aT,f0.aM=f.aM)\/(f.aM:Int)=p
theorem Bf.refl(v:gW)(p:Int):Bf v v p:=⟨rfl,rfl,rfl,λf hf=>.inl ⟨f,hf,rfl⟩⟩
structure RcvO(G:Gr)(B:Int)(ee a:Nat)(v:gW)(p:Int)(bs:List cH)(w:aH)(S:BS)(r rh:Sl)(ps:List Pk)(hs:List vB)(v':gW)(w':aH)(S':BS):Prop where
 Ch:gD ee a v' w' S'
 up:Up S S' w w'
 row:rM w.heap.size S' w' r ps
 CU:Mh w.heap.size S' w' rh hs
 ok:v'.Ok G (B+16)
 len:ps.length<=v.cG.cM+1
 yr:∀q∈ps,q.2.length<=3000
 ir:Bf v v' p
 rel:Bg G v p bs v' ps hs
 hl:hs.length<=20
theorem BegR.YP{G:Gr}{B:Int}{v v':gW}{p:Nat}{g:eR}{ps:List Pk}{hs:List vB}(hw:v.cG.cM<=16)(h:BegR G v p g v' ps hs)(ok:v'.Ok G B):ps.length<=v.cG.cM+1/\(∀q∈ps,q.2.length<=3000)/\Bf v v' p/\hs.length<=20:=by
 obtain⟨m,e,_,⟨_,rfl,rfl,q,code,rfl,hq⟩|⟨_,en,z,nU,Nr,c1,PW,YL,h1,h2,h3,h4,h5,h6,h7,h8,h9,IX,Ld,rfl,rfl⟩⟩:=h
 ·exact⟨by simp,λx hx=>by rw[kZ.1 hx];exact hq.2.1,Bf.refl _ _,by simp⟩
 ·have hm:en∈((v.oG en (uO v.cG.cM g.aK) z.1).kC p c1).t.aT:=oP.2 (.inl rfl)
  have hc:=yG.YP hm h9 ok;have PX:(v'.ch en.aM).s.n<=v.cG.cM:=hc.2;have rf:=xC (OV hw) h6;have e1:((v.oG en (uO v.cG.cM g.aK) z.1).kC p c1).ch en.aM=c1:=by
   show(if en.aM=p then c1 else _)=c1
   rw[if_pos h1]
  have Vu:=hc.1;rw[e1] at Vu;have hl:=h7.len;have sm:=h9.same;refine⟨by rw[mH];omega,λq hq=>?_,⟨sm.cG,sm.u,sm.dL,λf hf=>?_⟩,by simp⟩
  ·rcases jS.1 hq with hq|hq
   ·obtain⟨_,_,hp⟩:=h7.mem hq
    exact hp.2.1
   ·exact(yG.yr hm h9 q hq).1
  ·rw[sm.t] at hf
   rcases oP.1 hf with rfl|⟨hf,_⟩
   ·exact .inr (by rw[h1])
   ·exact .inl ⟨f,hf,rfl⟩
section
variable{W0 w:aH}{S:BS}{a:Nat}{v:gW}{E:qQ}{G:Gr}{B:Int}
theorem VRecv_i{p:Int}{b:Sl}{bs:List cH}{Q:Sl->Sl->aH->Prop}(h:gD E.e a v w S)(hb:Bs W0 E G S w)(ok:v.Ok G B)(hB:0<=B/\B<=100000000000000)(hr:Rd w b 1 eU bs)(hro:BD b S w)(hl:bs.length<=5000)
  (hQ:∀r rh ps hs v' w' S',RcvO G B E.e a v p bs w S r rh ps hs v' w' S'->Q r rh w'):PJ (some ⟨a,0,none⟩) p b w Q:=by
 unfold PJ;have bd:=bF.gI h;have okB:v.Ok G (B+16):=⟨ok.cG,ok.dL,ok.u,ok.t,ok.eE,λe he=>by have:=ok.ch e he;exact⟨this.1,this.2.1,this.2.2.1,aB⟩,ok.yX,ok.Dv,ok.lost⟩;have no:∀wx,aN w wx->Bg G v p bs v [] []->Q bD bD wx:=λwx k zC=>hQ _ _ [] [] v wx S ⟨bF.kp h k,Up.aO k,eX.nil,eX.nil,okB,iF _,λq hq=>(by cases hq),Bf.refl v p,zC,iF _⟩;refine aF (λh=>by simp at h) (λ_=>aJ (λh0=>no w (aY.refl _ _) (.inl ⟨λhh=>aB,rfl,rfl,rfl⟩)) (λh0=>aJ (λh1=>no w (aY.refl _ _) (.inl ⟨λhh=>aB,rfl,rfl,rfl⟩)) (λh1=>?_)));obtain⟨pn,rfl⟩:∃pn:Nat,p=(pn:Int):=⟨p.toNat,aB⟩;have hp16:pn<16:=aB;refine my hr hl λg sl e w1 k1 rd1 f1 Dt=>?_;refine eZ (zs:=eG (⟨0,0,0,0,0,[]⟩,bD)) (vs:=eG (g,sl)) rP rfl (Lt _) λw3 o3 k3 z3=>?_;have K3:=k1.tr k3;have UW:¬vj g e->Q bD bD w3:=λhn=>no w3 K3 (.inr ⟨g,e,Dt,.inl ⟨hn,rfl,rfl,rfl⟩⟩);refine aF (λhe=>UW λhh=>by have:=hh.1;simp[this] at he) (λhe=>?_);have he0:e=0:=by simpa using he
 refine aE (k:=.i) g.kind (dO o3 rfl) (aF (λhk=>UW λhh=>hh.2.1 (by simpa using hk)) (λhk=>?_));have ri:g.kind≠3:=by simpa using hk
 refine aE (k:=.i) g.aK (dO o3 rfl) (aJ (λhc=>UW λhh=>by have:=hh.2.2.1;omega) (λVu=>?_));refine aE (k:=.i) g.aK (dO o3 rfl) (aJ (λhc=>UW λhh=>by have:=hh.2.2.2;omega) (λPX=>?_));have Xw:vj g e:=⟨he0,ri,aB,aB⟩;have K3d:=K3.tr (bO w3);have h3:=bF.kp h K3d;have Lk:=o3.aL (bO w3) id;refine aA rfl (aE (k:=.ptr) (some ⟨v.tp,0,none⟩) (h3.cell rfl) (aE (k:=.i) g.aK (dO Lk rfl) ?_));obtain⟨ST,hT,_⟩:=h3.Ew;have lgb:g.body.length<=5000:=iG Dt.len hl;have rdg:Rd w3.drew sl 1 eU g.body:=(rd1.1.aL k3 fN λ_ _=>id).aL (bO w3) fN λ_ _=>id;have z1:=k1.size;have fw:∀b,sl.b=some b->w.heap.size<=b.block/\b.block<w3.drew.heap.size:=λb bY=>⟨f1 b bY,by have:=rd1.2.2.1 b bY;have:w3.drew.heap.size=w3.heap.size:=rfl;omega⟩;have og:BD sl S w3.drew:=λb bY=>⟨λhs=>by have:=bd _ hs;have:=(fw b bY).1;omega,(fw b bY).2⟩;have tg:bW w3.drew ⟨w1.heap.size,0,none⟩ 0 (qP kG (JG (g,sl))):=Lk.holds λj v hj=>by rw[pU];exact hj
 refine TGet_i hT ok.t (λen ic Wj hce=>?_) (λuX=>?_)
 ·refine aF (λh=>by simp at h) (λ_=>?_)
  subst Wj;have Kb:=K3d.tr (bO w3.drew);obtain⟨wb,hwb⟩:∃wb,wb=w3.drew.drew:=⟨_,rfl⟩;have kb:aN w3.drew wb:=by rw[hwb];exact bO w3.drew
  rw[<-hwb] at Kb ⊢;have hd:=bF.kp h Kb;have Vw:=sP.MY ok.t ic;have ob:=Lk.aL kb id;have mL:=ok.ch en ic;have DS:=mL.1.s.BE;have CZ:=ok.cG.cM;have zb:=kb.size;refine aA rfl (aE (k:=.ptr) (some ⟨en.cp,0,none⟩) (hd.VK ic rfl) (aA rfl (aE (k:=.i) v.dL (hd.cell rfl) (bJ (l:=kG) (JG (g,sl)) (ob.holds λj v hj=>by rw[pU];exact hj) ?_))));obtain⟨S6,h6,Qw,yF⟩:=hd.Xm Vw;have hnx:(v.ch en.aM).s.next<=B+16:=by have h1:=mL.2.2.2;have h2:=mL.2.2.1;have h3:(v.ch en.aM).s.next-((v.ch en.aM).s.n:Int)<=B:=h1;omega
  refine Uf h6 mL.1 aB (rdg.aL kb fN λ_ _=>id) (λb bY=>⟨λhk=>(og b bY).1 (Qw _ hk),by have:=(og b bY).2;omega⟩) lgb Dt.seq λYT nU rg Nr c1 w6 S7 h7 u7 YS Lu=>?_;obtain⟨S8,h8,u8⟩:=yF _ _ w6 S7 u7 h7;obtain⟨SA,SR,hA,⟨SB,SG,hBs,hGs,dBG,eBG⟩,dAR,eAR⟩:=h8;have rowD:Ge (λk=>¬SA k) w6 YT nU:=hBs.row λk hk hs=>dAR k hs ((eBG k).2 (.inl hk));have rowG:Xe (λk=>¬SA k) w6 rg Nr:=hGs.row λk hk hs=>dAR k hs ((eBG k).2 (.inr hk));have UA:Up S SA wb w6:=u8.tr (Up.sub w6 λk hk=>(eAR k).2 (.inl hk));have rf:=xC mL.1 YS;have okv1:(v.kC en.aM c1).Ok G (B+16):=Hm ok ic ⟨Lu,rf.2.1.trans mL.2.1,rf.1.trans mL.2.2.1,aB⟩ aB;have l64:Nr.length<=17:=by
   have h2:=Lu.s.BE;omega
  have dW:∀(r rh:Sl) ps hs v' w' S',gD E.e a v' w' S'->Up S S' wb w'->rM w6.heap.size S' w' r ps->Mh w6.heap.size S' w' rh hs->v'.Ok G (B+16)->ps.length<=v.cG.cM+1->(∀q∈ps,q.2.length<=3000)->Bf v v' (en.aM:Int)->(nU=[]->v'=v.kC en.aM c1/\F2 (Wn en.aM) Nr ps/\hs=[])->hs.length<=20->Q r rh w':=λr rh ps hs v' w' S' g1 g2 g3 g4 g5 g6 g7 g8 g9 g10=>by
   have zz:w.heap.size<=w6.heap.size:=by have:=UA.size;have:=Kb.size;omega
   exact hQ r rh ps hs v' w' S' ⟨g1,(Up.aO Kb).tr g2,g3.qN zz,g4.qN zz,g5,g6,g7,g8,.inr ⟨g,e,Dt,.inr ⟨Xw,.inr ⟨en,ic,rfl,hce,nU,Nr,c1,YS,λh0=>g9 h0⟩⟩⟩,g10⟩
  refine AQ rowG aB (λx hx=>by have:=rf.2.2.2.2.1 x hx;omega) λr1 PW w7 k7 v7 f7=>?_;have fl7:=f7.len;have lbs:=rf.2.2.2.2.2.2;have hpk1:∀q∈PW,q.2.length<=3000:=λq hq=>by obtain⟨_,_,hp⟩:=f7.mem hq;exact hp.2.1
  intro J1 OP;have j1:∀v2 w8 S8,gD E.e a v2 w8 S8->Up S S8 wb w8->rM w6.heap.size S8 w8 r1 PW->v2.Ok G (B+16)->Ge (λk=>¬S8 k/\k<w6.heap.size) w8 YT nU->(∃Rb∈v2.t.aT,Rb.a=en.a/\Rb.aM=en.aM/\Rb.sp=en.sp)->v2.cG=v.cG->v2.u=v.u->v2.dL=v.dL->(∀f∈v2.t.aT,∃f0∈v.t.aT,f0.aM=f.aM)->v2.ch en.aM=c1->(nU=[]->v2=v.kC en.aM c1)->w6.heap.size<=w8.heap.size->J1 () w8:=by
   intro v2 w8 S8 h8 u8 r8 ok8 d8 hen2 e1 e2 e3 e4 e5 e6 zz8;obtain⟨Rb,hen2,ha2,Ln,hsp2⟩:=hen2;have eadr:xI en=xI Rb:=by rw[show xI Rb=some ⟨Rb.a,0,none⟩ from rfl,ha2]
   apply OP;have ld:=d8.len;refine bK (λn t w9=>∃(i:Nat) (r rh:Sl) (ps:List Pk) (hs:List vB) (v5:gW) (S5:BS),i<=nU.length/\n=nU.length-i/\t=(r,rh,(i:Int),())/\gD E.e a v5 w9 S5/\Up S S5 wb w9/\rM w6.heap.size (λk=>S5 k\/BL rh k) w9 r ps/\Mh w6.heap.size (λk=>S5 k\/BL r k) w9 rh hs/\v5.Ok G (B+16)/\rZ v2 v5/\ps.length<=(v5.ch en.aM).s.n+1/\hs.length<=i/\(∀q∈ps,q.2.length<=3000)/\Ge (λk=>¬S5 k/\k<w6.heap.size) w9 YT nU/\(i=0->v5=v2/\ps=PW/\hs=[])/\w6.heap.size<=w9.heap.size) nU.length
    ⟨0,r1,bD,PW,[],v2,S8,iF _,rfl,rfl,h8,u8,r8.cov λk hk=>hk.elim .inl λ⟨a,ha,_⟩=>(by cases ha),eX.nil,ok8,rZ.refl v2,by rw[e5];omega,iX _,hpk1,d8,λ_=>⟨rfl,rfl,rfl⟩,zz8⟩ ?_
   rintro n t w9 ⟨i,r,rh,ps,hs,v5,S5,hi,rfl,rfl,h5,u5,r5,q5,LR,Vk,hn5,hl5,Np,d5,hz5,zz5⟩ X hX;dsimp only;have Kz:Rb∈v5.t.aT:=by rw[Vk.t];exact hen2
   have hw5:(v5.ch en.aM).s.n<=v.cG.cM:=by
    have h1:=LR.ch Rb Kz;rw[Ln] at h1;have h2:=h1.1.s.BE;rw[h1.2.2.1,Vk.cG,e1] at h2;exact h2
   have Xk:Bf v v5 (en.aM:Int):=⟨Vk.cG.trans e1,Vk.u.trans e2,Vk.dL.trans e3,λf hf=>.inl (e4 f (by rw[<-Vk.t];exact hf))⟩;have Nt:=bF.gI h5;refine aJ (λcL=>?_) (λlK=>?_)
   ·have dF:i<nU.length:=aB
    have cU:=gU dF;have fP:=oE dF;generalize nU[i]=body at*;obtain⟨q,slb,hq,hh,Vp,Fg⟩:=d5.get cU;rw[lJ,qM i aB];have cq:w9.cell? (q.add (i*1))=some (sv slb):=by have:=hh.1;rwa[add_add,Nat.add_zero] at this
    refine⟨⟨aB,cL⟩,aA hq (aE (k:=.slice) slb cq ?_)⟩;refine mv Vp (lbs _ fP) λm eu em eY IS rd10 f10 hmd=>?_;refine eZ (zs:=tN (⟨0,0,0,[],0,VU⟩,bD)) (vs:=tN (m,eu)) CE rfl (VS _) λeQ Dm LO z12=>?_;have sk:=IS.tr LO;have Ck:=bF.kp h5 sk;have z10:=IS.size;have z12':=LO.size;have skip:X (r,rh,((i+1:Nat):Int),()) eQ:=hX _ _ _ aB ⟨i+1,r,rh,ps,hs,v5,S5,dF,rfl,rfl,Ck,u5.tr (Up.aO sk),r5.kp sk,q5.kp sk,LR,Vk,hn5,aB,Np,d5.kp LA sk,λh0=>aB,aB⟩;intro J2 Ra;have j2:J2 () eQ:=by
     apply Ra;have o1:cW eQ w1.heap.size GN (eG (g,sl)):=(ob.aL u5.m λhs=>by have:=bd _ hs;omega).aL sk id;refine aE (k:=.i) g.aK (dO o1 rfl) (bJ (l:=ff) (GF (m,eu)) (Dm.holds λj v hj=>by rw[pU];exact hj) ?_);have rlt:∀b,r.b=some b->b.block<w9.heap.size:=λb bY=>r5.lt bY;have rhlt:∀b,rh.b=some b->b.block<w9.heap.size:=λb bY=>q5.lt bY;have bSr:∀k,S5 k\/BL r k->k<eQ.heap.size:=λk hk=>hk.elim (λh=>by have:=Nt k h;omega) λ⟨b,bY,e⟩=>by have:=rlt b bY;omega
     refine eX.snoc' NW ub oneHd aB (q5.kp sk) aB aB bSr ⟨en.aM,g.aK,true,m⟩ (sl:=eu) (rd10.1.aL LO dA λ_ _=>id) (λb bY=>⟨by have:=f10 b bY;omega,λhs=>?_,by have:=rd10.2.2.1 b bY;omega,λb' Rt e=>?_⟩) λrh' fV q15 Fa nb15=>?_
     ·have:=f10 b bY
      rcases hs with hs|⟨b',Rt,e⟩
      ·have:=Nt _ hs;omega
      ·have:=rlt b' Rt;omega
     ·have:=f10 b bY;have:=rhlt b' Rt;omega
     have z15:=Fa.size;have nS:∀k,S5 k->¬BL rh k:=λk hk ⟨b,bY,e⟩=>((q5.DX k ⟨b,bY,e⟩).2) (.inl hk);have h15:gD E.e a v5 fV S5:=bF.aL Ck Fa nS;have m15':=Fa.mono (G:=λk=>wb.heap.size<=k/\¬S5 k) λk _ hk=>⟨by have:=(q5.DX k hk).1;have:=UA.size;omega,λhs=>nS k hs hk⟩;have u15:Up S S5 wb fV:=Up.gE (u5.tr (Up.aO sk)) m15';have r15:rM w6.heap.size (λk=>S5 k\/BL rh' k) fV r ps:=(r5.kp sk).aL Fa (λk _ hk _ h=>hk (.inr h)) λk hk cL hs=>by
      rcases hs with hs|⟨b,bY,e⟩
      ·exact hk (.inl hs)
      ·rcases nb15 b bY with⟨a',pE,e2⟩|h
       ·exact hk (.inr ⟨a',pE,by rw[e,e2]⟩)
       ·omega
     have d15:Ge (λk=>¬S5 k/\k<w6.heap.size) fV YT nU:=(d5.kp LA sk).aL LA Fa λk hk _ h=>by have:=(q5.DX k h).1;omega
     have o15:=Dm.aL Fa λ⟨b,bY,e⟩=>by have:=rhlt b bY;omega
     have hl15:(hs++[(⟨en.aM,g.aK,true,m⟩:vB)]).length<=i+1:=by simp;omega
     refine aE (k:=.i) m.kind (dO o15 rfl) (aF (λhbye=>?_) (λ_=>?_))
     ·refine aA rfl (aE (k:=.ptr) (some ⟨v5.tp,0,none⟩) (h15.cell rfl) ?_)
      refine cD (cs:=eI (en.aM:Int)) λgX b16 Nn z16=>?_;have bd15:=bF.gI h15;refine yf (bF.kp h15 Nn) LR (jN fM [(en.aM:Int)] b16 rfl dJ) (λb bY=>by cases bY;exact⟨λhs=>by have h1:fV.heap.size<fV.heap.size:=bd15 _ hs;omega,b16.1.lt⟩) λ_ lP S17 h17 u17 ok17 _=>?_;have U17:=(Up.aO (S:=S5) Nn).tr u17;refine dW r rh' ps _ _ lP S17 h17 (u15.tr U17) ((r15.sub λk hk=>.inl hk).up U17) ((q15.sub λk hk=>.inl hk).up U17) ok17 aB Np ⟨Xk.cG,Xk.u,Xk.dL,λf hf=>Xk.aT f (jG.1 hf).1⟩ (λh0=>by rw[h0] at dF;simp at dF) aB
     ·have h15d:=bF.dr h15
      have o15d:=o15.aL (bO fV) id;have csp:=h15d.VK Kz (k:=3) rfl;have cel:fV.drew.cell? ((⟨en.a,0,none⟩:Addr).add 3)=some (.pointer (some ⟨Rb.sp,0,none⟩)):=by rw[<-ha2];exact csp
      refine aA rfl (aE (k:=.ptr) (some ⟨Rb.sp,0,none⟩) cel (aE (k:=.i) m.pos (dO o15d rfl) (aA rfl (aE (k:=.ptr) (some ⟨v5.sp,0,none⟩) (h15d.cell rfl) ?_))));obtain⟨SU,hU,_⟩:=h15d.sset;refine Ua hU LR.u.2 λmk nJ v18 Wf f18=>?_;have K18:=(bO fV).tr Wf;have zh:=bF.kp h15 K18;have o18:=o15.aL K18 id;have cel18:nJ.cell? ((⟨en.a,0,none⟩:Addr).add 3)=some (.pointer (some ⟨Rb.sp,0,none⟩)):=by rw[<-ha2];exact zh.VK Kz (k:=3) rfl
      refine⟨dO o18 rfl,cel18,?_⟩;have U18:Up S S5 wb nJ:=u15.tr (Up.aO K18);have hb18:Bs W0 E G S5 nJ:=(hb.kp Kb).up U18;obtain⟨S9,h9,hs9,say9⟩:=zh.sesSay hb18 LR Kz;have bd15:=bF.gI h15;have z18:=K18.size;have wd:fV.drew.heap.size=fV.heap.size:=rfl;refine SRep_i (hb18.sub hs9) h9 (LR.yX Rb Kz) (v18.rd Wu) (λb bY hs=>by have:=bd15 _ (hs9 _ hs);have:=f18 b bY;omega) λz ms qD T hz hT uT okz Vr fo=>?_;rw[eadr];refine say9 z qD T ms uT hT okz Vr aB _ λrs pps v6 xX S20 hsd h20 u20 r20 ok20=>?_;have UU:Up S5 S20 fV xX:=(Up.aO K18).tr u20;have r20':=r15.aL (S':=λk=>S20 k\/BL rh' k) UU.m (λk _ hk _ h=>hk (.inl h)) λk hk cL hs=>hs.elim (λhs=>(UU.s k hs).elim (λh=>hk (.inl h)) λh=>aB) λhs=>hk (.inr hs);have rhlt':∀b,rh'.b=some b->b.block<fV.heap.size:=λb bY=>q15.lt bY;have rs20:rM nJ.heap.size (λk=>S20 k\/BL rh' k) xX rs pps:=r20.cov λk hk=>hk.imp id λ⟨b,bY,e⟩=>by have:=rhlt' b bY;omega
      have hm5':Rb∈(v5.vF Rb.aM z.1).t.aT:=Kz;have aAj:=yG.YP hm5' hsd ok20;have e7:((v5.vF Rb.aM z.1).ch Rb.aM)=v5.ch en.aM:=by show v5.ch Rb.aM=_;rw[Ln]
      rw[e7,Ln] at aAj;have ew:(v5.vF en.aM z.1).cG.cM=v.cG.cM:=by show v5.cG.cM=_;rw[Vk.cG,e1]
      have hcw:=aAj.2;rw[ew] at hcw;have z20:=UU.size;have bd20:=bF.gI h20;have r5lt:∀b,r.b=some b->b.block<fV.heap.size:=λb bY=>r15.lt bY;have lsum:ps.length+pps.length<=1000000:=by have:=aAj.1;omega
      refine eX.jy jW MN MJ aB r20' rs20 aB (λb bY=>by have:=r5lt b bY;omega) lsum aB (λk hk=>hk.elim (bd20 k) λ⟨b,bY,e⟩=>by have:=rhlt' b bY;omega) λr' AO v21 yv nb21=>?_;have nR:∀k,S20 k->¬BL r k:=λk hk h=>(r20'.DX k h).2 (.inl hk);have h21:gD E.e a v6 AO S20:=bF.aL h20 yv nR;have m21':=yv.mono (G:=λk=>wb.heap.size<=k/\¬S20 k) λk _ hk=>⟨by have:=(r20'.DX k hk).1;have:=UA.size;omega,λhs=>nR k hs hk⟩;have u21:Up S S20 wb AO:=Up.gE (u15.tr UU) m21';have q20:Mh w6.heap.size (λk=>S20 k\/BL r k) xX rh' (hs++[⟨en.aM,g.aK,true,m⟩]):=q15.aL (S':=λk=>S20 k\/BL r k) UU.m (λk _ hk _ h=>hk (.inl h)) λk hk cL hs=>hs.elim (λhs=>(UU.s k hs).elim (λh=>hk (.inl h)) λh=>aB) λhs=>hk (.inr hs);have q21:Mh w6.heap.size (λk=>S20 k\/BL r' k) AO rh' (hs++[⟨en.aM,g.aK,true,m⟩]):=q20.aL yv (λk _ hk _ h=>hk (.inr h)) λk hk cL hs=>by
       rcases hs with hs|⟨b,bY,e⟩
       ·exact hk (.inl hs)
       ·rcases nb21 b bY with⟨a',pE,e2⟩|h
        ·exact hk (.inr ⟨a',pE,by rw[e,e2]⟩)
        ·omega
      have d21:Ge (λk=>¬S20 k/\k<w6.heap.size) AO YT nU:=((d15.aL LA UU.m λk hk _=>hk.1).wk λk hk _=>⟨λhs=>(UU.s k hs).elim hk.1 λh=>by have:=hk.2;omega,hk.2⟩).aL LA yv λk hk _ h=>by have:=(r20'.DX k h).1;have:=hk.2;omega
      have z21:=yv.size;refine hX _ _ _ aB ⟨i+1,r',rh',ps++pps,_,v6,S20,dF,rfl,rfl,h21,u21,v21,q21,ok20,Vk.tr ((⟨rfl,rfl,rfl,rfl,rfl,rfl,rfl,rfl⟩:rZ v5 (v5.vF Rb.aM z.1)).tr hsd.same),by rw[mH];have:=aAj.1;omega,hl15,λx hx=>?_,d21,λh0=>aB,aB⟩;rcases jS.1 hx with hx|hx
      ·exact Np x hx
      ·exact(yG.yr hm5' hsd x hx).1
    refine aF (λ_=>skip) (λ_=>aE (k:=.i) m.kind (dO Dm rfl) (aF (λ_=>aE (k:=.i) m.kind (dO Dm rfl) (aF (λ_=>skip) (λ_=>j2))) (λ_=>j2)))
   ·have ei:i=nU.length:=aB
    subst ei;refine dW r rh ps hs v5 w9 S5 h5 u5 (r5.sub λk hk=>.inl hk) (q5.sub λk hk=>.inl hk) LR aB Np Xk (λh0=>?_) aB;obtain⟨x1,x2,x3⟩:=hz5 (by rw[h0];rfl);exact⟨x1.trans (e6 h0),by rw[x2];exact f7,x3⟩
  have z7:=k7.size;have hA7:=bF.kp hA k7;have bA:=bF.gI hA;have v7':rM w6.heap.size SA w7 r1 PW:=v7.sub λk hk=>bA k hk;have d7:Ge (λk=>¬SA k/\k<w6.heap.size) w7 YT nU:=(rowD.wk λk h1 h2=>⟨h1,h2⟩).kp LA k7;have ech:(v.kC en.aM c1).ch en.aM=c1:=if_pos rfl;have U7:=UA.tr (Up.aO k7);have ldg:=rowD.len;refine aJ (λuN=>?_) (λhz=>?_)
  ·refine aA rfl (aE (k:=.i) v.dL (hA7.cell rfl) (aA rfl ?_))
   obtain⟨ix,hix⟩:=List.getElem?_of_mem ic;refine hA7.kM okv1 (i:=ix) (e:=en) hix λEW S22 h22 u22=>?_;have hent:=ok.Dv en ic;have LK:=ok.dL;refine j1 ((v.kC en.aM c1).KX ix {en with kM:=v.dL}) EW S22 h22 (U7.tr u22) (v7'.up u22) (touch_ok okv1 (e:=en) hix rfl rfl rfl ⟨LK.1,lM _⟩) ((d7.aL LA u22.m λk hk _=>hk.1).wk λk hk _=>⟨λhs=>(u22.s k hs).elim hk.1 λh=>by have:=hk.2;omega,hk.2⟩) ⟨{en with kM:=v.dL},(sT (e':={en with kM:=v.dL}) ok.t.sC hix rfl).2 (.inl rfl),rfl,rfl,rfl⟩ rfl rfl rfl (λf hf=>?_) ech (λh0=>?_) (by have:=u22.size;omega)
   ·rcases(sT (e':={en with kM:=v.dL}) ok.t.sC hix rfl).1 hf with rfl|⟨hf,_⟩
    ·exact⟨en,ic,rfl⟩
    ·exact⟨f,hf,rfl⟩
   ·rw[h0] at ldg;simp at ldg;omega
  ·exact j1 (v.kC en.aM c1) w7 SA hA7 U7 v7' okv1 d7 ⟨en,ic,rfl,rfl,rfl⟩ rfl rfl rfl (λf hf=>⟨f,hf,rfl⟩) ech (λ_=>rfl) z7
 ·refine aF (λ_=>bJ (l:=kG) (JG (g,sl)) tg ?_) (λh=>by cases h)
  refine begin_i h3 (hb.kp K3d) okB aB hp16 rdg og lgb Dt.seq ⟨aB,aB⟩ λr rh ps hs v' w5 S5 g1 g2 g3 g4 g5 g6=>?_;have cn:=g6.YP ok.cG.cM.2 g5;exact hQ r rh ps hs v' w5 S5 ⟨g1,(Up.aO K3d).tr g2,g3.qN K3d.size,g4.qN K3d.size,g5,cn.1,cn.2.1,cn.2.2.1,.inr ⟨g,e,Dt,.inr ⟨Xw,.inl ⟨by rw[lJ];exact uX,by rw[lJ];exact g6⟩⟩⟩,cn.2.2.2⟩
end
end
section
structure Quiet(c:jH):Prop where
 gE:c.s.gE=false
 uW:∀x,¬c.s.uW x
 gB:c.gB=[]
structure iq(c c':jH):Prop where
 cM:c'.s.cM=c.s.cM
 next:c'.s.next=c.s.next
 f:c'.s.f=c.s.f
 n:c'.s.n=c.s.n
 aK:c'.aK=c.aK
 t:c'.t=c.t
 q:Quiet c'
theorem iq.refl{c:jH}(h:Quiet c):iq c c:=⟨rfl,rfl,rfl,rfl,rfl,rfl,h⟩
theorem iq.tr{c c' c'':jH}(h:iq c c')(h':iq c' c''):iq c c'':=⟨h'.cM.trans h.cM,h'.next.trans h.next,h'.f.trans h.f,h'.n.trans h.n,h'.aK.trans h.aK,h'.t.trans h.t,h'.q⟩
theorem TS{c c':jH}{gs:List eR}{e:Int}(q:Quiet c)(h:va c gs e c'):gs=[]/\e=0/\iq c c':=by
 obtain⟨s1,L,e0,⟨a1,a2,a3,a4,a5⟩,LN,hL,h4,h5,h⟩:=h;obtain⟨rfl,rfl⟩:=h4 q.gE q.uW;rw[if_pos rfl] at h;obtain⟨rfl,rfl,rfl⟩:=h;have hp:(⟨s1,c.aK,c.t,c.gB⟩:jH).oD=([],⟨s1,c.aK,c.t,[]⟩):=by
  show jH.LX s1 c.aK c.t.next c.t c.gB=_
  rw[q.gB];rfl
 rw[hp];exact⟨rfl,rfl,a1,a2,a3,a4,rfl,rfl,(h5 rfl).trans q.gE,λx hx=>q.uW x (a5 x hx),rfl⟩
def Tb(v:gW):Prop:=(∀e∈v.t.aT,Quiet (v.ch e.aM))/\∀k,(v.lf k).getD (false:Bool)=false
def Cw(v:gW)(e:cV):Bool:=decide (e.kM+v.cG.idle<=v.dL+1)
structure TickO(G:Gr)(B:Int)(ee a:Nat)(v:gW)(w:aH)(S:BS)(r:Sl)(ps:List Pk)(v':gW)(w':aH)(S':BS):Prop where
 Ch:gD ee a v' w' S'
 up:Up S S' w w'
 row:rM w.heap.size S' w' r ps
 ok:v'.Ok G B
 cG:v'.cG=v.cG
 dL:v'.dL=v.dL+1
 u:v'.u=SJ (v.dL+1) v.u (jD 0 v.u)
 aT:∀f∈v'.t.aT,f∈v.t.aT
 len:ps.length<=v.cG.oI*(2*v.cG.cM+1)
 yr:∀q∈ps,q.2.length<=3000
 q:Tb v->(VG (v.dL+1) (jD 0 v.u)=[]\/v.t.aT=[])->v'.t.aT=v.t.aT.filter (λe=>!Cw v e)/\v'.t.gr=v.t.gr/\F2 (λe p=>Wn (e.aM:Int) ⟨e.aK,3,0,0,3,[]⟩ p) (v.t.aT.filter λe=>Cw v e) ps/\(∀e∈v.t.aT,iq (v.ch e.aM) (v'.ch e.aM))/\v'.yX=v.yX/\∀k,(v'.lf k).getD (false:Bool)=false
def gW.TH(v:gW)(n:Int):gW:={v with dL:=n}
theorem setLf_ok{G:Gr}{B:Int}{v:gW}(ok:v.Ok G B){e:cV}(he:e∈v.t.aT)(b:Bool):(v.Ay e.a b).Ok G B:=
 ⟨ok.cG,ok.dL,ok.u,ok.t,ok.eE,ok.ch,ok.yX,ok.Dv,λk hk=>by
  by_cases h:k=e.a
  ·exact .inl ⟨e,he,h.symm⟩
  ·refine ok.lost k ?_
   have:(v.Ay e.a b).lf k=v.lf k:=if_neg h;rw[<-this];exact hk⟩
section
variable{W0 w:aH}{S:BS}{a:Nat}{v:gW}{E:qQ}{G:Gr}{B:Int}{ee:Nat}
theorem gD.Hb(h:gD ee a v w S)(ok:v.Ok G B){e:cV}(he:e∈v.t.aT){Q:Bool->aH->Prop}(hQ:Q ((v.lf e.a).getD (false:Bool)) w):kF prog (.c .bool) 98 (.map (some v.lp)) (.pointer (xI e)) w Q:=by
 obtain⟨SC,SS,hC,_⟩:=h;exact hC.Hb ok he hQ
theorem gD.mark(h:gD ee a v w S)(ok:v.Ok G B){e:cV}(he:e∈v.t.aT)(b:Bool){Q:aH->Prop}(hQ:∀w' S',gD ee a (v.Ay e.a b) w' S'->Up S S' w w'->Q w'):fF prog 98 (.map (some v.lp)) (.pointer (xI e)) (.bool b) w Q:=by
 obtain⟨S1,h1,_,dN⟩:=(aZ.l h).put;refine h1.mark ok he b λw' S' h' u'=>?_;obtain⟨S2,h2,u2⟩:=dN _ w' S' u' h';exact hQ w' S2 h2 u2
theorem gD.tick(h:gD ee a v w S)(n:Int){Q:aH->Prop}(hQ:∀w' S',gD ee a (v.TH n) w' S'->Up S S' w w'->Q w'):aI prog cZ ((⟨a,0,none⟩:Addr).add 9) (aD n) w Q:=by
 obtain⟨S1,h1,_,dN⟩:=((aZ.l h).c λT hT=>gF.at hT .Ch).put;refine pG h1 cY dJ rfl rfl λw' b' u'=>?_;obtain⟨S2,h2,u2⟩:=dN (sM a xK (VL ee (v.TH n))) w' S1 u' b';refine hQ w' S2 (h2.mono (λ_ h=>?_) λ_ h=>h) u2;have e:EX (QO ee a v) .Ch (sM a xK (VL ee (v.TH n)))=QO ee a (v.TH n):=by
  funext i
  cases i<;>rfl
 unfold lF;rw[<-e];exact h
theorem gD.clear(h:gD ee a v w S){Q:aH->Prop}(hQ:∀w' S',gD ee a {v with lf:=λ_=>none,ln:=0} w' S'->Up S S' w w'->Q w'):CB prog 98 (.map (some v.lp)) w Q:=by
 obtain⟨S1,h1,_,dN⟩:=((aZ.l h).c λT hT=>gF.at hT .lost).put;refine aA2 kg h1.1 λw' za mm' _=>?_;obtain⟨S2,h2,u2⟩:=dN (uQ v.lp yZ Kv (λ_=>none) 0) w' S1 (Up.at (mm'.mono λk _ hk=>(h1.2 k).2 hk)) ⟨za,h1.2⟩;refine hQ w' S2 (h2.mono (λ_ h=>?_) λ_ h=>h) u2;have e:EX (QO ee a v) .lost (uQ v.lp yZ Kv (λ_=>none) 0)=QO ee a {v with lf:=λ_=>none,ln:=0}:=by
  funext i
  cases i<;>rfl
 unfold lF;rw[<-e];exact h
theorem eX.upX{α β:Type}{eb:β->List Value}[VY eb]{ty:TypeId}{n lo:Nat}{aX:α×Sl->List Value}{xZ:α->List β}{S S' X:BS}{w w':aH}{r:Sl}{ps:List α}(h:eX eb ty n aX xZ lo (λk=>S k\/X k) w r ps)(u:Up S S' w w'):eX eb ty n aX xZ lo (λk=>S' k\/X k) w' r ps:=
 h.aL u.m (λk _ hk _ h=>hk (.inl h)) λk hk cL hs=>hs.elim (λhs=>(u.s k hs).elim (λh=>hk (.inl h)) λh=>aB) λhs=>hk (.inr hs)
theorem Ox{α:Type}{n lo:Nat}{aX:α->List Value}{xs:List α}{s:Sl}{S S':BS}{w w' Dk:aH}(gH:∀x,aX x≠[])(hr:Rd w s n aX xs)(ho:BD s S w)(u:Up S S' w w')(m:aY (λk=>lo<=k/\¬(S' k\/BL s k)) w' Dk):Rd Dk s n aX xs/\BD s S' Dk:=
 ⟨(ho.rd u hr gH).aL m gH λb hb hk=>hk.2 (.inr ⟨b,hb,rfl⟩),λb hb=>⟨(ho.up u b hb).1,nM (ho.up u b hb).2 m.size⟩⟩
theorem passes_i{v0:gW}{HQ:Prop}{s3:Sl}{lo c0:Nat}{S0:BS}{w0:aH}{r0:Sl}{Nl:List Pk}{Q:Sl×Int×Unit->aH->Prop}(h:gD E.e a v w S)(u0:Up S0 S w0 w)(hlo0:w0.heap.size<=lo)(Ds:lo<=w.heap.size)(ok:v.Ok G B)(rL:rM lo (λk=>S k\/BL s3 k) w r0 Nl)(hc0:Nl.length<=c0)(Vu:c0<=1000)(hpk:∀q∈Nl,q.2.length<=3000)(hr:Rd w s3 1 Lp (v.t.aT.map xI))(hro:BD s3 S w)
  (hq0:HQ->Nl=[]/\(∀e∈v.t.aT,iq (v0.ch e.aM) (v.ch e.aM))/\v.yX=v0.yX/\∀k,(v.lf k).getD (false:Bool)=false)
  (hQ:∀r ps v' w' S',gD E.e a v' w' S'->Up S0 S' w0 w'->rM lo S' w' r ps->v'.Ok G B->rZ v v'->ps.length<=c0+v.t.aT.length*v.cG.cM->(∀q∈ps,q.2.length<=3000)->(HQ->ps=[]/\(∀e∈v.t.aT,iq (v0.ch e.aM) (v'.ch e.aM))/\v'.yX=v0.yX/\∀k,(v'.lf k).getD (false:Bool)=false)->lo<=w'.heap.size->Q (r,(v.t.aT.length:Int),()) w'):
  ∀X1:(Sl×Int×Unit)->aH->Prop,(∀(t1:Sl×Int×Unit) (w5:aH),(
 cond (decide (t1.2.1<(s3.l:Int)))
 ((0<=t1.2.1/\t1.2.1<(s3.l:Int))/\
 aC s3.b λa6=>
 xY .ptr w5 (a6.add (Int.toNat t1.2.1*1)) λ(p3:cO)=>
 aC p3 λa7=>
 xY .ptr w5.drew (a7.add 2) λ(p4:cO)=>
 aC (some ⟨a,0,none⟩:cO) λa8=>
 xY .i w5.drew (a8.add 9) λ(x3:Int)=>
 AZ p4 x3 w5.drew λ(s4:Sl) (x4:Int) w6=>
 aC (some ⟨a,0,none⟩:cO) λa9=>
 xY .map w6.drew (a9.add 10) λ(m1:Option Nat)=>
 aC (some ⟨a,0,none⟩:cO) λtY=>
 xY .map w6.drew (tY.add 10) λ(m2:Option Nat)=>
 kF prog (.c .bool) 98 (Value.map m2) (Value.pointer p3) w6.drew λ(x5:Bool) w7=>
 w7.cell? (a9.add 10)=some (Value.map m1)/\
 cond x5
 (fF prog 98 (Value.map m1) (Value.pointer p3) (Value.bool true) w7 λw8=>
 aC p3 λDN=>
 xY .i w8 (DN.add 0) λ(x6:Int)=>
 eO x6 s4 w8 λ(s5:Sl) w9=>
 aW prog 155 155 t1.1 (Value.slice s5.b s5.l s5.c) w9 λ(s6:Sl) eY=>
 X1 (s6,(aQ (t1.2.1+(1:Int))),()) eY)
 (fF prog 98 (Value.map m1) (Value.pointer p3) (Value.bool (x4 !=(0:Int))) w7 λeN=>
 aC p3 λKV=>
 xY .i eN (KV.add 0) λ(x7:Int)=>
 eO x7 s4 eN λ(s7:Sl) eQ=>
 aW prog 155 155 t1.1 (Value.slice s7.b s7.l s7.c) eQ λ(s8:Sl) gQ=>
 X1 (s8,(aQ (t1.2.1+(1:Int))),()) gQ))
 (Q t1 w5))->X1 t1 w5)->
 X1 (r0,(0:Int),()) w:=by
 have sl:=hr.len;rw[lD] at sl;have olen:=ok.t.len;have tx:=ok.t.eE;have CZ:=ok.cG.cM;refine bK (λn t w5=>∃(i:Nat) (r:Sl) (ps:List Pk) (v5:gW) (S5:BS),i<=v.t.aT.length/\n=v.t.aT.length-i/\t=(r,(i:Int),())/\gD E.e a v5 w5 S5/\Up S0 S5 w0 w5/\rM lo (λk=>S5 k\/BL s3 k) w5 r ps/\v5.Ok G B/\rZ v v5/\ps.length<=c0+i*v.cG.cM/\(∀q∈ps,q.2.length<=3000)/\(HQ->ps=[]/\(∀e∈v.t.aT,iq (v0.ch e.aM) (v5.ch e.aM))/\v5.yX=v0.yX/\∀k,(v5.lf k).getD (false:Bool)=false)/\Rd w5 s3 1 Lp (v.t.aT.map xI)/\BD s3 S5 w5/\lo<=w5.heap.size) v.t.aT.length
  ⟨0,r0,Nl,v,S,iF _,rfl,rfl,h,u0,rL,ok,rZ.refl v,aB,hpk,hq0,hr,hro,Ds⟩ ?_
 rintro n t w5 ⟨i,r,ps,v5,S5,hi,rfl,rfl,h5,u5,r5,LR,Vk,hl5,Np,hq5,Dl,os5,zz5⟩ X hX;dsimp only;refine aJ (λcL=>?_) (λlK=>?_)
 ·have dF:i<v.t.aT.length:=aB
  have cU:=gU dF;have fP:=oE dF;generalize v.t.aT[i]=e at*;have Kz:e∈v5.t.aT:=by rw[Vk.t];exact fP
  obtain⟨q,hq,cq⟩:=cQ (k:=.ptr) (e:=λx=>x) Dl (show(v.t.aT.map xI)[i]? =some (xI e) by rw[mY,cU];rfl);rw[lJ,qM i aB];have hd:=bF.dr h5;have Vw:=sP.MY LR.t Kz;refine⟨⟨aB,cL⟩,aA hq (aE (k:=.ptr) (xI e) cq (aA rfl (aE (k:=.ptr) (some ⟨e.cp,0,none⟩) (hd.VK Kz rfl) (aA rfl (aE (k:=.i) v5.dL (hd.cell rfl) ?_)))))⟩;obtain⟨S6,h6,Qw,yF⟩:=hd.Xm Vw;have mL:=LR.ch e Kz;refine yo h6 mL.1 λrg gs x4 c' w6 S7 h7 u7 Qx KT=>?_;obtain⟨S8,h8,u8⟩:=yF _ _ w6 S7 u7 h7;obtain⟨S9,h9,u9,g9⟩:=WE h8;have pf:=Ji mL.1 Qx;have ok9:(v5.kC e.aM c').Ok G B:=Hm LR Kz ⟨KT,pf.2.1.trans mL.2.1,pf.1.trans mL.2.2.1,by rw[pf.2.2.1];exact mL.2.2.2⟩ (lM _);have hm9:e∈(v5.kC e.aM c').t.aT:=Kz;have h9d:=bF.dr h9;have U9:Up S5 S9 w5 w6.drew:=(((Up.aO (bO w5)).tr u8).tr u9).tr (Up.aO (bO w6));have g9d:=g9.kp QZ (bO w6);refine aA rfl (aE (k:=.map) (some v5.lp) (h9d.cell rfl) (aA rfl (aE (k:=.map) (some v5.lp) (h9d.cell rfl) ?_)));refine h9d.Hb ok9 hm9 ⟨h9d.cell rfl,?_⟩;have l16:gs.length<=v.cG.cM:=by
   have h2:=KT.s.BE;rw[pf.1,mL.2.2.1,Vk.cG] at h2;omega
  have go:∀bb:Bool,(HQ->bb=false)->fF prog 98 (Value.map (some v5.lp)) (Value.pointer (xI e)) (Value.bool bb) w6.drew λw8=>aC (xI e) λDN=>xY .i w8 (DN.add 0) λ(x6:Int)=>eO x6 rg w8 λ(s5:Sl) w9=>aW prog 155 155 r (Value.slice s5.b s5.l s5.c) w9 λ(s6:Sl) eY=>X (s6,((i+1:Nat):Int),()) eY:=λbb Aq=>by
   refine h9d.mark ok9 hm9 bb λw8 GA IX Ev=>?_;have Lv:=setLf_ok ok9 hm9 bb;have hm10:e∈((v5.kC e.aM c').Ay e.a bb).t.aT:=Kz;refine aA rfl (aE (k:=.i) (e.aM:Int) (IX.VK hm10 rfl) ?_);refine AQ (g9d.up QZ Ev) aB (λg hg=>by have:=pf.2.2.2.2 g hg;omega) λrp pps eN LF v11 f11=>?_;have U11:Up S5 GA w5 eN:=(U9.tr Ev).tr (Up.aO LF);have Ld:=bF.kp IX LF;have bd10:=bF.gI IX;have z8:=(U9.tr Ev).size;have z11:=LF.size;have fl:=f11.len;have im:i*v.cG.cM<=16*16:=JA aB CZ.2;refine eX.app jW MN MJ aB (r5.upX U11) (v11.sub λk hk=>hk.elim (bd10 k) λ⟨b,hb,e⟩=>by have:=(os5 b hb).2;omega) aB (λb hb=>nM (r5.lt hb) z8) aB aB (λk hk=>hk.elim (bF.gI Ld k) λ⟨b,hb,e⟩=>by have:=(os5 b hb).2;omega) λr' eQ YK mX=>?_;have Am:=mX.mono (G:=λk=>lo<=k/\¬GA k) λk _ hk=>⟨hk.1,λh=>hk.2 (.inl h)⟩;have U12:Up S0 GA w0 eQ:=Up.gE (u5.tr U11) (Am.mono λk _ hk=>⟨by have:=hk.1;omega,hk.2⟩);obtain⟨x1,x2⟩:=Ox FJ Dl os5 U11 mX;refine hX _ _ _ aB ⟨i+1,r',ps++pps,_,GA,dF,rfl,rfl,bF.ov Ld Am,U12,YK,Lv,Vk.tr ⟨rfl,rfl,rfl,rfl,rfl,rfl,rfl,rfl⟩,?_,λq hq=>?_,λru=>?_,x1,x2,by have:=Am.size;omega⟩
   ·rw[mH,Nat.add_mul,Nat.one_mul];omega
   ·rcases jS.1 hq with hq|hq
    ·exact Np q hq
    ·obtain⟨_,_,hp⟩:=f11.mem hq;exact hp.2.1
   ·obtain⟨y1,y2,y3,y4⟩:=hq5 ru
    have pq:=TS (y2 e fP).q Qx;have hpps:pps=[]:=by
     rw[pq.1] at fl;exact Ct fl.symm
    refine⟨by rw[y1,hpps];rfl,λf hf=>?_,y3,λk=>?_⟩
    ·show iq _ (if f.aM=e.aM then c' else v5.ch f.aM)
     by_cases hfe:f.aM=e.aM
     ·rw[if_pos hfe]
      have:=y2 e fP;rw[<-hfe] at this pq;exact this.tr pq.2.2
     ·rw[if_neg hfe];exact y2 f hf
    ·by_cases hk:k=e.a
     ·have e1:((v5.kC e.aM c').Ay e.a bb).lf k=some bb:=if_pos hk
      rw[e1];exact Aq ru
     ·have e1:((v5.kC e.aM c').Ay e.a bb).lf k=v5.lf k:=if_neg hk
      rw[e1];exact y4 k
  refine aF (λhx=>go true λru=>?_) (λ_=>go (x4 !=(0:Int)) λru=>?_)
  ·have:=(hq5 ru).2.2.2 e.a
   have UT:(v5.lf e.a).getD (false:Bool)=true:=hx;rw[this] at UT;cases UT
  ·have:=(TS ((hq5 ru).2.1 e fP).q Qx).2.1
   rw[this];rfl
 ·have ei:i=v.t.aT.length:=aB
  subst ei;exact hQ r ps v5 w5 S5 h5 u5 (r5.sub λk hk=>.inl hk) LR Vk hl5 Np hq5 zz5
def gone(v:gW)(e:cV):Bool:=(v.lf e.a).getD (false:Bool) ||decide (e.kM+v.cG.idle<=v.dL)
theorem drops_i{s9:Sl}{lo c0:Nat}{S0:BS}{w0:aH}{r0:Sl}{Nl:List Pk}{Q:Sl->aH->Prop}(h:gD E.e a v w S)(u0:Up S0 S w0 w)(hlo0:w0.heap.size<=lo)(Ds:lo<=w.heap.size)(ok:v.Ok G B)(rL:rM lo (λk=>S k\/BL s9 k) w r0 Nl)(hc0:Nl.length<=c0)(Vu:c0<=1000)(hpk:∀q∈Nl,q.2.length<=3000)(hr:Rd w s9 1 Lp (v.t.aT.map xI))(hro:BD s9 S w)
  (hQ:∀r ps v' w' S',gD E.e a v' w' S'->Up S0 S' w0 w'->rM lo S' w' r (Nl++ps)->v'.Ok G B->v'.cG=v.cG->v'.dL=v.dL->v'.u=v.u->v'.t.gr=v.t.gr->v'.ch=v.ch->v'.yX=v.yX->v'.lf=v.lf->v'.t.aT=v.t.aT.filter (λe=>!gone v e)->F2 (λe p=>Wn (e.aM:Int) ⟨e.aK,3,0,0,3,[]⟩ p) (v.t.aT.filter λe=>gone v e) ps->lo<=w'.heap.size->aC (some ⟨a,0,none⟩:cO) λa29=>xY .map w' (a29.add 10) λ(m4:Option Nat)=>CB prog 98 (Value.map m4) w' λUO=>Q r UO):
  ∀X2:(Sl×Int×Unit)->aH->Prop,(∀(t2:Sl×Int×Unit) (fV:aH),(
 cond (decide (t2.2.1<(s9.l:Int)))
 ((0<=t2.2.1/\t2.2.1<(s9.l:Int))/\
 aC s9.b λUY=>
 xY .ptr fV (UY.add (Int.toNat t2.2.1*1)) λ(p6:cO)=>
 aC (some ⟨a,0,none⟩:cO) λFh=>
 xY .map fV.drew (Fh.add 10) λ(m3:Option Nat)=>
 kF prog (.c .bool) 98 (Value.map m3) (Value.pointer p6) fV.drew λ(x8:Bool) gX=>
 cond x8
 (aC (some ⟨a,0,none⟩:cO) λYQ=>
 xY .ptr gX.drew (YQ.add 8) λ(p7:cO)=>
 aC p6 λNw=>
 xY .i gX.drew (Nw.add 0) λ(x9:Int)=>
 aG gX.drew #[aD x9] 3 λNv lP=>
 lP.cell? (YQ.add 8)=some (Value.pointer p7)/\
 pV p7 ⟨(some Nv),1,1⟩ lP λ(_:Sl) nJ=>
 aC p6 λa19=>
 xY .i nJ.drew (a19.add 0) λ(sL:Int)=>
 aC p6 λzn=>
 xY .i nJ.drew (zn.add 1) λ(xW:Int)=>
 eK sL xW (3:Int) nJ.drew λ(FV:Sl) qD=>
 aW prog 155 155 t2.1 (Value.slice FV.b FV.l FV.c) qD λ(QK:Sl) xX=>
 X2 (QK,(aQ (t2.2.1+(1:Int))),()) xX)
 (aC p6 λa21=>
 xY .i gX (a21.add 4) λ(Kt:Int)=>
 aC (some ⟨a,0,none⟩:cO) λa22=>
 xY .i gX ((a22.add 1).add 5) λ(Vi:Int)=>
 aC (some ⟨a,0,none⟩:cO) λa23=>
 xY .i gX (a23.add 9) λ(x14:Int)=>
 cond (decide ((aQ (Kt+Vi))<=x14))
 (aC (some ⟨a,0,none⟩:cO) λa24=>
 xY .ptr gX.drew (a24.add 8) λ(p8:cO)=>
 aC p6 λa25=>
 xY .i gX.drew (a25.add 0) λ(x15:Int)=>
 aG gX.drew #[aD x15] 3 λa26 AO=>
 AO.cell? (a24.add 8)=some (Value.pointer p8)/\
 pV p8 ⟨(some a26),1,1⟩ AO λ(_:Sl) EW=>
 aC p6 λa27=>
 xY .i EW.drew (a27.add 0) λ(x16:Int)=>
 aC p6 λa28=>
 xY .i EW.drew (a28.add 1) λ(x17:Int)=>
 eK x16 x17 (3:Int) EW.drew λ(Nk:Sl) Dj=>
 aW prog 155 155 t2.1 (Value.slice Nk.b Nk.l Nk.c) Dj λ(s15:Sl) YD=>
 X2 (s15,(aQ (t2.2.1+(1:Int))),()) YD)
 (X2 (t2.1,(aQ (t2.2.1+(1:Int))),()) gX)))
 (aC (some ⟨a,0,none⟩:cO) λa29=>
 xY .map fV (a29.add 10) λ(m4:Option Nat)=>
 CB prog 98 (Value.map m4) fV λUO=>
 Q t2.1 UO))->X2 t2 fV)->
 X2 (r0,(0:Int),()) w:=by
 have sl:=hr.len;rw[lD] at sl;have olen:=ok.t.len;have tx:=ok.t.eE;have LK:=ok.dL;have hidle:=ok.cG.idle;have lU:DY v.t.aT:=ok.t.sC;refine bK (λn t w5=>∃(i:Nat) (r:Sl) (ps:List Pk) (v5:gW) (S5:BS),i<=v.t.aT.length/\n=v.t.aT.length-i/\t=(r,(i:Int),())/\gD E.e a v5 w5 S5/\Up S0 S5 w0 w5/\rM lo (λk=>S5 k\/BL s9 k) w5 r (Nl++ps)/\v5.Ok G B/\(v5.cG=v.cG/\v5.dL=v.dL/\v5.u=v.u/\v5.t.gr=v.t.gr/\v5.ch=v.ch/\v5.yX=v.yX/\v5.lf=v.lf)/\v5.t.aT=(v.t.aT.take i).filter (λe=>!gone v e)++v.t.aT.drop i/\F2 (λe p=>Wn (e.aM:Int) ⟨e.aK,3,0,0,3,[]⟩ p) ((v.t.aT.take i).filter λe=>gone v e) ps/\Rd w5 s9 1 Lp (v.t.aT.map xI)/\BD s9 S5 w5/\lo<=w5.heap.size) v.t.aT.length
  ⟨0,r0,[],v,S,iF _,rfl,rfl,h,u0,by rw[sG];exact rL,ok,⟨rfl,rfl,rfl,rfl,rfl,rfl,rfl⟩,by simp,.nil,hr,hro,Ds⟩ ?_
 rintro n t w5 ⟨i,r,ps,v5,S5,hi,rfl,rfl,h5,u5,r5,LR,⟨e1,e2,e3,e4,e5,e6,e7⟩,rX,f5,Dl,os5,zz5⟩ X hX;dsimp only;refine aJ (λcL=>?_) (λlK=>?_)
 ·have dF:i<v.t.aT.length:=aB
  have cU:=gU dF;have fP:=oE dF;have sD:=FW dF;have hdr:=List.drop_eq_getElem_cons dF;generalize v.t.aT[i]=e at*;have Kz:e∈v5.t.aT:=by rw[rX,hdr];simp
  obtain⟨q,hq,cq⟩:=cQ (k:=.ptr) (e:=λx=>x) Dl (show(v.t.aT.map xI)[i]? =some (xI e) by rw[mY,cU];rfl);rw[lJ,qM i aB];have hd:=bF.dr h5;refine⟨⟨aB,cL⟩,aA hq (aE (k:=.ptr) (xI e) cq (aA rfl (aE (k:=.map) (some v5.lp) (hd.cell rfl) ?_)))⟩;refine hd.Hb LR Kz ?_;rw[e7];have fl:=f5.len;have pl:ps.length<=i:=by
   rw[<-fl];refine iG (wD _ _) ?_;rw[qF];omega
  have hent:=ok.Dv e fP;have go:gone v e=true->∀gX,aN w5 gX->aC (some ⟨a,0,none⟩:cO) λYQ=>xY .ptr gX.drew (YQ.add 8) λ(p7:cO)=>aC (xI e) λNw=>xY .i gX.drew (Nw.add 0) λ(x9:Int)=>aG gX.drew #[aD x9] 3 λNv lP=>lP.cell? (YQ.add 8)=some (Value.pointer p7)/\pV p7 ⟨(some Nv),1,1⟩ lP λ(_:Sl) nJ=>aC (xI e) λa19=>xY .i nJ.drew (a19.add 0) λ(sL:Int)=>aC (xI e) λzn=>xY .i nJ.drew (zn.add 1) λ(xW:Int)=>eK sL xW (3:Int) nJ.drew λ(FV:Sl) qD=>aW prog 155 155 r (Value.slice FV.b FV.l FV.c) qD λ(QK:Sl) xX=>X (QK,((i+1:Nat):Int),()) xX:=λhg gX Nn=>by
   have K16:=Nn.tr (bO gX);have h16:=bF.kp h5 K16;refine aA rfl (aE (k:=.ptr) (some ⟨v5.tp,0,none⟩) (h16.cell rfl) (aA rfl (aE (k:=.i) (e.aM:Int) (h16.VK Kz rfl) ?_)));refine cD (cs:=eI (e.aM:Int)) λlP b17 Kw z17=>?_;have bd16:=bF.gI h16;have h17:=bF.kp h16 Kw;refine⟨h17.cell rfl,?_⟩;refine yf h17 LR (jN fM [(e.aM:Int)] b17 rfl dJ) (λb hb=>by cases hb;exact⟨λhs=>by have h1:gX.drew.heap.size<gX.drew.heap.size:=bd16 _ hs;omega,b17.1.lt⟩) λ_ nJ Wa zh u18 aAb own18=>?_;have oe:=(own18 e Kz rfl).aL (bO nJ) id;refine aA rfl (aE (k:=.i) (e.aM:Int) (dO oe rfl) (aA rfl (aE (k:=.i) e.aK (dO oe rfl) ?_)));refine wo λrp p qD k19 v19 p19=>?_;have K19:=(bO nJ).tr k19;have U19:Up S5 Wa w5 qD:=((Up.aO (K16.tr Kw)).tr u18).tr (Up.aO K19);have h19:=bF.kp zh K19;have bd18:=bF.gI zh;have z18:=((Up.aO (S:=S5) (K16.tr Kw)).tr u18).size;have z19:=k19.size;have wd:nJ.drew.heap.size=nJ.heap.size:=rfl;refine eX.app jW MN MJ aB (r5.upX U19) (v19.sub λk hk=>hk.elim (bd18 k) λ⟨b,hb,e⟩=>by have:=(os5 b hb).2;omega) aB (λb hb=>nM (r5.lt hb) z18) (by rw[mH,List.length_singleton];omega) aB (λk hk=>hk.elim (bF.gI h19 k) λ⟨b,hb,e⟩=>by have:=(os5 b hb).2;omega) λr' xX v20 mX=>?_;have m20:=mX.mono (G:=λk=>lo<=k/\¬Wa k) λk _ hk=>⟨hk.1,λh=>hk.2 (.inl h)⟩;rw[sH] at v20;have U20:Up S0 Wa w0 xX:=Up.gE (u5.tr U19) (m20.mono λk _ hk=>⟨by have:=hk.1;omega,hk.2⟩);obtain⟨x1,x2⟩:=Ox FJ Dl os5 U19 mX;refine hX _ _ _ aB ⟨i+1,r',ps++[p],_,Wa,dF,rfl,rfl,bF.ov h19 m20,U20,v20,aAb,⟨e1,e2,e3,e4,e5,e6,e7⟩,?_,?_,x1,x2,by have:=m20.size;omega⟩
   ·show v5.t.aT.filter (λf=>!decide (f.aM=e.aM))=_
    rw[rX,sD,hdr];have hpw:=lU;rw[<-Cs i v.t.aT,hdr,DY,List.pairwise_append,List.pairwise_cons] at hpw;rw[JB,List.filter_cons_of_neg dJ,JB];have g1:((v.t.aT.take i).filter λe=>!gone v e).filter (λf=>!decide (f.aM=e.aM))=(v.t.aT.take i).filter λe=>!gone v e:=by
     rw[List.filter_eq_self];intro f hf;have:=hpw.2.2 f (jG.1 hf).1 e dJ;simp;omega
    have g2:(v.t.aT.drop (i+1)).filter (λf=>!decide (f.aM=e.aM))=v.t.aT.drop (i+1):=by
     rw[List.filter_eq_self];intro f hf;have:=hpw.2.1.1 f hf;simp;omega
    rw[g1,g2,List.filter_cons_of_neg (by simp[hg])];simp
   ·rw[sD,JB,List.filter_cons_of_pos (by simp[hg])]
    exact f5.app (.one p19)
  refine aF (λhx=>go (by unfold gone;rw[show(v.lf e.a).getD (false:Bool)=true from hx];rfl) _ (bO w5)) (λhx=>?_);have c6:w5.drew.cell? (((⟨a,0,none⟩:Addr).add 1).add 5)=some (aD v.cG.idle):=by
   have:=hd.cell (k:=6) (x:=aD v5.cG.idle) rfl;rw[e1] at this;rw[aS] at this ⊢;rw[aS];exact this
  have c9:w5.drew.cell? ((⟨a,0,none⟩:Addr).add 9)=some (aD v.dL):=by
   have:=hd.cell (k:=9) (x:=aD v5.dL) rfl;rw[e2] at this;exact this
  refine aA rfl (aE (k:=.i) e.kM (hd.VK Kz rfl) (aA rfl (aE (k:=.i) v.cG.idle c6 (aA rfl (aE (k:=.i) v.dL c9 ?_)))));rw[gV aB aB];have UT:(v.lf e.a).getD (false:Bool)=false:=hx;refine aJ (λFX=>go (by unfold gone;rw[decide_eq_true FX];exact Bool.or_true _) _ (bO w5)) (λFX=>?_);have hg:gone v e=false:=by unfold gone;rw[UT,decide_eq_false FX];rfl
  refine hX _ _ _ aB ⟨i+1,r,ps,v5,S5,dF,rfl,rfl,hd,u5.tr (Up.aO (bO w5)),r5.kp (bO w5),LR,⟨e1,e2,e3,e4,e5,e6,e7⟩,?_,?_,Dl.aL (bO w5) FJ λ_ _=>id,os5.kp (bO w5),zz5⟩
  ·rw[rX,sD,hdr,JB,List.filter_cons_of_pos (by simp[hg])];simp
  ·rw[sD,JB,List.filter_cons_of_neg (by simp[hg])];simpa using f5
 ·have ei:i=v.t.aT.length:=aB
  subst ei;rw[pF] at rX f5;rw[List.drop_length,sG] at rX;exact hQ r ps v5 w5 S5 h5 u5 (r5.sub λk hk=>.inl hk) LR e1 e2 e3 e4 e5 e6 e7 rX f5 zz5
theorem VTick_i{Q:Sl->aH->Prop}(h:gD E.e a v w S)(hb:Bs W0 E G S w)(ok:v.Ok G B)(hn:v.dL<1000000000)
  (hQ:∀r ps v' w' S',TickO G B E.e a v w S r ps v' w' S'->Q r w'):PI (some ⟨a,0,none⟩) w Q:=by
 unfold PI;have LK:=ok.dL;have CZ:=ok.cG.cM;refine aF (λh=>by simp at h) (λ_=>aA rfl (aE (k:=.i) v.dL (h.cell rfl) (aA rfl ?_)));rw[gV aB aB];refine h.tick (v.dL+1) λw1 S1 h1 u1=>?_;have LN:(v.TH (v.dL+1)).Ok G B:=⟨ok.cG,⟨by show(0:Int)<=v.dL+1;omega,by show v.dL+1<=_;omega⟩,ok.u,ok.t,ok.eE,ok.ch,ok.yX,λe he=>by have:=ok.Dv e he;exact⟨this.1,this.2.1,by show e.kM<=v.dL+1;omega⟩,ok.lost⟩;have h1d:=bF.dr h1;refine aA rfl (aE (k:=.ptr) (some ⟨v.sp,0,none⟩) (h1d.cell rfl) (aA rfl (aE (k:=.i) (v.dL+1) (h1d.cell rfl) ?_)));obtain⟨S2,h2,IT,GZ⟩:=h1d.putSet;refine Lapse_i h2 LN.u.2 λrl w3 S3 h3 u3=>?_;obtain⟨S4,h4,u4⟩:=GZ _ _ w3 S3 u3 h3;obtain⟨S5,S6,h5,h6,d56,e56⟩:=h4;have U5:Up S S5 w w3:=((u1.tr (Up.aO (bO w1))).tr u4).tr (Up.sub w3 λk hk=>(e56 k).2 (.inl hk));have o6:BD rl S5 w3:=λb bY=>⟨λhk=>d56 _ hk ((h6.2 _).2 ⟨b,bY,rfl⟩),h6.1.lt bY⟩;have LR:((v.TH (v.dL+1)).Lr (SJ (v.dL+1) v.u (jD 0 v.u))).Ok G B:=LN.Lr (Yv _ _ _);have lll:(VG (v.dL+1) (jD 0 v.u)).length<=1000:=by
  unfold VG;rw[lD];have h1:=wD (λp:Int×Int=>decide (p.2<=v.dL+1)) (jD 0 v.u);have h2:=ZU v.u 0;have h3:=ok.u.2;omega
 refine Pv (v:=(v.TH (v.dL+1)).Lr (SJ (v.dL+1) v.u (jD 0 v.u))) h5 (hb.up U5) LR (sh:=[]) (Rd.nil _ _ _) (λb bY=>by cases bY) (h6.1.rd fM) o6 ⟨by simp,lll⟩ λr1 PW v3 w4 S7 h7 u7 v7 gg YE hl7 pk7 nil7=>?_;have U7:=U5.tr u7;have hv3:v3.t=v.t:=YE.t;refine aA rfl (aE (k:=.ptr) (some ⟨v3.tp,0,none⟩) (h7.cell rfl) ?_);obtain⟨ST,hT,_⟩:=h7.Ew;refine Hh hT gg.t λs3 w5 v5 k5 f5=>?_;have bd7:=bF.gI h7;have z5:=k5.size;have olen:=ok.t.len;have tx:=ok.t.eE;have l1:v.t.aT.length<=v.cG.oI:=by have:=ok.eE;omega
 have lw:v.t.aT.length*v.cG.cM<=16*16:=JA aB CZ.2;have z34:=u7.size;have row5:rM w3.heap.size (λk=>S7 k\/BL s3 k) w5 r1 PW:=v7.aL k5 (λ_ _ _ _=>id) λk h1 h2 h3=>h3.elim h1 λ⟨b,bY,e⟩=>by have:=f5 b bY;omega
 refine passes_i (v0:=v) (HQ:=Tb v/\(VG (v.dL+1) (jD 0 v.u)=[]\/v.t.aT=[])) (lo:=w3.heap.size) (c0:=v.t.aT.length*v.cG.cM) (Nl:=PW) (bF.kp h7 k5) (U7.tr (Up.aO k5)) U5.size aB gg row5 hl7 aB (λq hq=>(pk7 q hq).1) (v5.rd GS) (λb bY=>⟨λhs=>by have:=bd7 _ hs;have:=f5 b bY;omega,v5.lt bY⟩) (λhq=>?_) λr2 YL v8 w8 S8 h8 u8 r8 ok8 st8 hl8 hk8 hq8 z8=>?_
 ·have hn7:=nil7 (hq.2.imp (λh=>⟨rfl,h⟩) id)
  rw[hn7.1];exact⟨hn7.2,λe he=>iq.refl (hq.1.1 e he),rfl,hq.1.2⟩
 have st38:=YE.tr st8;have hv8:v8.t=v.t:=st38.t;refine aA rfl (aE (k:=.ptr) (some ⟨v8.tp,0,none⟩) (h8.cell rfl) ?_);obtain⟨ST8,hT8,_⟩:=h8.Ew;refine Hh hT8 ok8.t λs9 w9 v9 k9 f9=>?_;have bd8:=bF.gI h8;have z9:=k9.size;have row9:rM w3.heap.size (λk=>S8 k\/BL s9 k) w9 r2 YL:=r8.aL k9 (λ_ _ _ _=>id) λk h1 h2 h3=>h3.elim h1 λ⟨b,bY,e⟩=>by have:=f9 b bY;omega
 have hl8':YL.length<=2*(v.t.aT.length*v.cG.cM):=by
  have e1:v3.t.aT.length=v.t.aT.length:=by rw[hv3]
  have e2:v3.cG=v.cG:=YE.cG;rw[e1,e2] at hl8;omega
 refine drops_i (lo:=w3.heap.size) (c0:=2*(v.t.aT.length*v.cG.cM)) (bF.kp h8 k9) (u8.tr (Up.aO k9)) U5.size aB ok8 row9 hl8' aB hk8 (v9.rd GS) (λb bY=>⟨λhs=>by have:=bd8 _ hs;have:=f9 b bY;omega,v9.lt bY⟩) λr3 ps3 v10 eY GA IX Ev r10 Lv e1 e2 e3 e4 e5 e6 e7 rX f10 z10=>?_;refine aA rfl (aE (k:=.map) (some v10.lp) (IX.cell rfl) (IX.clear λeN Nx Ld Lh=>?_));have fl:=f10.len;have flf:=wD (λe=>gone v8 e) v8.t.aT;rw[hv8] at flf;rw[hv8] at rX f10 fl;have st8c:v8.cG=v.cG:=st38.cG;have st8n:v8.dL=v.dL+1:=st38.dL;refine hQ r3 (YL++ps3) _ eN Nx ⟨Ld,Ev.tr Lh,(r10.up Lh).qN U5.size,⟨Lv.cG,Lv.dL,Lv.u,Lv.t,Lv.eE,Lv.ch,Lv.yX,Lv.Dv,λk hk=>by cases hk⟩,e1.trans st8c,e2.trans st8n,e3.trans st38.u,λf hf=>?_,?_,λq hq=>?_,λhq hlap=>?_⟩
 ·rw[show({v10 with lf:=λ_=>none,ln:=0}:gW).t.aT=v10.t.aT from rfl,rX] at hf
  exact(jG.1 hf).1
 ·rw[mH]
  have h1:v.t.aT.length*v.cG.cM<=v.cG.oI*v.cG.cM:=QB _ l1;have h2:v.cG.oI*(2*v.cG.cM+1)=2*(v.cG.oI*v.cG.cM)+v.cG.oI:=by rw[Nat.mul_add,Nat.mul_one,Nat.mul_left_comm]
  omega
 ·rcases jS.1 hq with hq|hq
  ·exact hk8 q hq
  ·obtain⟨_,_,hp⟩:=f10.mem hq
   exact hp.2.1
 ·obtain⟨y1,y2,y3,y4⟩:=hq8 ⟨hq,hlap⟩
  have eg:∀e,gone v8 e=Cw v e:=λe=>by
   unfold gone Cw;rw[y4 e.a,st8c,st8n];rfl
  have eg2:(λe=>gone v8 e)=λe=>Cw v e:=funext eg;have eg3:(λe=>!gone v8 e)=λe=>!Cw v e:=funext λe=>by rw[eg e]
  rw[eg3] at rX;rw[eg2] at f10;refine⟨rX,?_,by rw[y1];exact f10,λe he=>?_,?_,λk=>rfl⟩
  ·show v10.t.gr=v.t.gr
   rw[e4,hv8]
  ·show iq (v.ch e.aM) (v10.ch e.aM)
   rw[e5];exact y2 e (by rw[hv3];exact he)
  ·show v10.yX=v.yX
   rw[e6];exact y3
end
end
def IZ(c:wQ)(m sp tp lp:Nat):gW:=⟨c,sp,tp,lp,0,List.replicate m 0,⟨c.oI,[],λ_=>none⟩,[],λ_=>none,0,λ_=>uO 0 0,λ_=>Wq 0 0⟩
theorem srv0_ok{G:Gr}{c:wQ}(okG:xJ G)(KT:c.Ok){B:Int}(sp tp lp:Nat):(IZ c G.m sp tp lp).Ok G B:=
 ⟨KT,by show(0:Int)<=0/\(0:Int)<=1000000000;omega,by
  show(List.replicate G.m (0:Int)).length=G.E.length/\(List.replicate G.m (0:Int)).length<=512;have:=okG.m1;rw[List.length_replicate];exact⟨rfl,aB⟩,⟨KT.oI,iF _,List.Pairwise.nil,λe he=>by cases he⟩,rfl,λe he=>(by cases he),λe he=>(by cases he),λe he=>(by cases he),λk hk=>(by cases hk)⟩
theorem nc{ee a sp tp lp m:Nat}{c:wQ}{w:aH}{S1 S2:BS}(h1:vA sp (List.replicate m 0) w S1)(h2:DC tp ⟨c.oI,[],λ_=>none⟩ w S2)(h3:uQ lp yZ Kv (λ_=>none) 0 w (λk=>k=lp))(h4:sM a xK (VL ee (IZ c m sp tp lp)) w (λk=>k=a))(d12:∀k,S1 k->S2 k->False)(d1:¬S1 lp/\¬S1 a)(d2:¬S2 lp/\¬S2 a)(d3:lp≠a):gD ee a (IZ c m sp tp lp) w (λk=>((S1 k\/S2 k)\/k=lp)\/k=a):=by
 have p0:=gF.nil (ι:=SI) w;have p1:=gF.put p0 (i:=.set) (by rfl) h1 λk h _=>h;have hG:VN (IZ c m sp tp lp) w S2:=aZ.emp h2;have p2:=gF.put p1 (i:=.Ew) (by rfl) hG λk h h'=>h.elim id λh=>d12 k h h';have p3:=gF.put p2 (i:=.lost) (by rfl) h3 λk h (h':k=lp)=>h.elim (λh=>h.elim id λh=>d1.1 (h'▸h)) λh=>d2.1 (h'▸h);have p4:=gF.put p3 (i:=.Ch) (by rfl) h4 λk h (h':k=a)=>h.elim (λh=>h.elim (λh=>h.elim id λh=>d1.2 (h'▸h)) λh=>d2.2 (h'▸h)) λ(h:k=lp)=>d3 (h.symm.trans h');have e:EX (EX (EX (EX (λ_:SI=>DO) .set (vA sp (List.replicate m 0))) .Ew (VN (IZ c m sp tp lp))) .lost (uQ lp yZ Kv (λ_=>none) 0)) .Ch (sM a xK (VL ee (IZ c m sp tp lp)))=QO ee a (IZ c m sp tp lp):=by
  funext i
  cases i<;>rfl
 rw[e] at p4;have es:DD ee (IZ c m sp tp lp) w (λ_=>False):=gF.nil (ι:=Nat) w;exact⟨_,_,As.ext p4 (T:=λk=>((S1 k\/S2 k)\/k=lp)\/k=a) λk=>⟨λh=>h.elim (λh=>h.elim (λh=>h.elim (λh=>h.elim False.elim λh=>.inl (.inl (.inl h))) λh=>.inl (.inl (.inr h))) λh=>.inl (.inr h)) .inr,λh=>h.elim (λh=>h.elim (λh=>h.elim (λh=>.inl (.inl (.inl (.inr h)))) λh=>.inl (.inl (.inr h))) λh=>.inl (.inr h)) .inr⟩,es,λk _ h=>h,λk=>⟨.inl,λh=>h.elim id False.elim⟩⟩
theorem VNew_i{g:GT}{G:Gr}{c:wQ}{w:aH}{Q:cO->Int->aH->Prop}(hg:TA w g G)(ok:xJ G)(KT:c.Ok)
  (hQ:∀E a sp tp lp W0 w' S',gD E.e a (IZ c G.m sp tp lp) w' S'->Bs W0 E G S' w'->aN w W0->aN w w'->(∀k,S' k->w.heap.size<=k)->Q (some ⟨a,0,none⟩) 0 w'):zU g (wO c) w Q:=by
 unfold zU;refine bP λw1 o1 k1 z1=>?_;refine cD (cs:=JH c) λw2 b2 k2 z2=>?_;refine bJ (l:=[.slice,.slice,.slice]) g (KY (g:=g) (o1.aL k2 id)) ?_;refine ENew_i (g:=g) (hg.aO (k1.tr k2)) ok λE w3 hE k3=>?_;refine aF (λh=>by cases h) (λ_=>?_);have b3:=bF.kp b2 k3;have tc:∀{wx:aH},sM w1.heap.size xL (JH c) wx (λk=>k=w1.heap.size)->bW wx ⟨w1.heap.size,0,none⟩ 0 (qP JF (wO c)):=λb=>b.1.holds λj v hj=>by rw[pU];exact hj
 refine bJ (l:=JF) (wO c) (tc b3) (Ue KT λw4 k4=>aF (λh=>by cases h) (λ_=>?_));have b4:=bF.kp b3 k4;refine aE (k:=.i) (c.oI:Int) (aP b4 rfl) ?_;refine TNew_i' KT.oI λtp w5 ST hT k5 hTlo=>?_;have K5:=k4.tr (k5.tr (bO w5));have hE5:=hE.aO K5;have b5:=bF.kp b4 (k5.tr (bO w5));have hT5:=bF.dr hT;have bT:=bF.gI hT5;have hm:=ok.m1;have z3:=k3.size;have z4:=k4.size;have z5:=k5.size;have wd:w5.drew.heap.size=w5.heap.size:=rfl;have dW:∀wy sp lp SU,aN w5.drew wy->vA sp (List.replicate G.m 0) wy SU->uQ lp yZ Kv (λ_=>none) 0 wy (λk=>k=lp)->(∀k,SU k->w5.heap.size<=k)->¬SU lp->w5.heap.size<=lp->aG wy (VL E.e (IZ c G.m sp tp lp)).toArray xK λa w9=>Q (some a) 0 w9:=by
  intro wy sp lp SU ky hS hM hSlo hn hlp;have bS:=bF.gI hS;have bM:=bF.gI hM lp rfl;refine cD λw9 b9 k9 z9=>?_;have zy:=ky.size;have oF:=nc (ee:=E.e) (c:=c) (bF.kp hS k9) (bF.kp hT5 (ky.tr k9)) (bF.kp hM k9) b9 (λk h1 h2=>by have:=hSlo k h1;have:=bT k h2;omega) ⟨hn,λh=>by have:=bS _ h;omega⟩ ⟨λh=>by have:=bT _ h;omega,λh=>by have:=bT _ h;omega⟩ aB;have lo3:∀k,(((SU k\/ST k)\/k=lp)\/k=wy.heap.size)->w3.heap.size<=k:=λk hk=>by
   rcases hk with((hk|hk)|hk)|hk
   ·have:=hSlo k hk;omega
   ·have:=hTlo k hk;omega
   ·omega
   ·omega
  exact hQ E _ sp tp lp w3 w9 _ oF ⟨hE,(K5.tr ky).tr k9,lo3⟩ ((k1.tr k2).tr k3) ((((k1.tr k2).tr k3).tr (K5.tr ky)).tr k9) λk hk=>by have:=lo3 k hk;have:=k1.size;have:=k2.size;omega
 refine bJ (l:=JF) (wO c) (tc b5) (aA rfl (aE (k:=.ptr) (some ⟨E.t.t,0,none⟩) hE5.cells.1 (aA rfl (aE (k:=.ptr) (some ⟨E.t.H.g,0,none⟩) hE5.RU.cells.1 ⟨tG hE5.RU.IU ⟨tc b5,?_,?_⟩,?_⟩))))
 ·refine Tz aB λsp w7 SU hU k7 ju=>⟨tc (bF.kp b5 k7),?_⟩
  refine qV (ek:=yZ) (kn:=Kv) λhm8 k8=>?_;have bU:=bF.gI hU;have z7:=k7.size;refine⟨tc (bF.kp b5 (k7.tr k8)),dW _ sp w7.heap.size SU (k7.tr k8) (bF.kp hU k8) ⟨hm8,λ_=>Iff.rfl⟩ (λk hk=>by have:=ju k hk;omega) (λh=>by have:=bU _ h;omega) aB⟩
 ·refine qV (ek:=yZ) (kn:=Kv) λhm8 k8=>⟨tc (bF.kp b5 k8),?_⟩
  have zm:(w5.drew.alloc (.map #[] 0)).heap.size=w5.drew.heap.size+1:=by simp
  refine Tz aB λsp w7 SU hU k7 ju=>⟨tc (bF.kp b5 (k8.tr k7)),?_⟩;exact dW _ sp w5.drew.heap.size SU (k8.tr k7) hU ⟨hm8.aL k7 id,λ_=>Iff.rfl⟩ (λk hk=>by have:=ju k hk;omega) (λh=>by have:=ju _ h;omega) aB
 ·refine qV (ek:=yZ) (kn:=Kv) λhm8 k8=>?_
  have zm:(w5.drew.alloc (.map #[] 0)).heap.size=w5.drew.heap.size+1:=by simp
  have hE8:=hE5.aO k8;refine⟨hE8.RU.cells.1,hE8.cells.1,tc (bF.kp b5 k8),tG hE8.RU.IU ⟨tc (bF.kp b5 k8),?_⟩⟩;refine Tz aB λsp w7 SU hU k7 ju=>⟨tc (bF.kp b5 (k8.tr k7)),?_⟩;exact dW _ sp w5.drew.heap.size SU (k8.tr k7) hU ⟨hm8.aL k7 id,λ_=>Iff.rfl⟩ (λk hk=>by have:=ju k hk;omega) (λh=>by have:=ju _ h;omega) aB
structure yY where
 cG:wQ
 ch:Option (Nat×jH)
 aK:Int
 lE:Bool
 why:Int
 at':Int
 lL:List Int
 dK:Bool
abbrev Cx(v:yY)(EV:Sl):List Value:=[aD (v.cG.oI:Int),aD (v.cG.cM:Int),aD v.cG.MH,aD v.cG.nN,aD v.cG.cap,aD v.cG.idle,.pointer (v.ch.map λp=>⟨p.1,0,none⟩),aD v.aK,.bool v.lE,aD v.why,aD v.at',sv EV,.bool v.dK]
def chO:Option (Nat×jH)->As
 |none=>DO
 |some p=>jU p.1 p.2
instance chO.loc:∀{o:Option (Nat×jH)},bF (chO o)
 |none=>inferInstanceAs (bF DO)
 |some p=>inferInstanceAs (bF (jU p.1 p.2))
def TE(d:Nat)(EV:Sl)(v:yY):As:=aZ (sM d Tg (Cx v EV)) (aZ (chO v.ch) (CX 1 eI EV v.lL))
instance{d:Nat}{EV:Sl}{v:yY}:bF (TE d EV v):=by unfold TE;infer_instance
def wP(d:Nat)(v:yY):As:=Ex λEV:Sl=>TE d EV v
instance{d:Nat}{v:yY}:bF (wP d v):=by unfold wP;infer_instance
structure yY.Ok(B:Int)(v:yY):Prop where
 cG:v.cG.Ok
 aK:0<=v.aK/\v.aK<=B
 lL:v.lL.length<=70000
 lE:v.lE=true->v.ch≠none
 ch:∀p,v.ch=some p->p.2.Ok/\p.2.s.cM=v.cG.cM/\p.2.dl<=B/\(v.lE=true->p.2.aK=v.aK)
def QE(c:wQ):yY:=⟨c,none,0,false,0,-1,[],false⟩
theorem drv0_ok{c:wQ}(ok:c.Ok):(QE c).Ok 0:=⟨ok,by show(0:Int)<=0/\(0:Int)<=0;omega,iF _,λh=>(by cases h),λp h=>by cases h⟩
theorem yY.Ok.mono{B B':Int}{v:yY}(h:v.Ok B)(hB:B<=B'):v.Ok B':=⟨h.cG,by have:=h.aK;omega,h.lL,h.lE,λp hp=>by have:=h.ch p hp;exact⟨this.1,this.2.1,aB,this.2.2.2⟩⟩
theorem Tl{α:Type}{n:Nat}{aX:α->List Value}(gH:∀x,aX x≠[]){w:aH}:CX n aX bD ([]:List α) w (λ_=>False):=⟨Rd.nil _ _ _,gH,λb hb=>(by cases hb),λk=>⟨False.elim,λ⟨b,hb,_⟩=>by cases hb⟩⟩
theorem DNew_i{c:wQ}{w:aH}{Q:cO->Int->aH->Prop}(ok:c.Ok)(hQ:∀w',wP (w'.heap.size-1) (QE c) w' (λk=>k=w'.heap.size-1)->w.heap.size<w'.heap.size->aN w w'->w.heap.size<=w'.heap.size-1->Q (some ⟨w'.heap.size-1,0,none⟩) 0 w'):AG (wO c) w Q:=by
 unfold AG;refine cD (cs:=JH c) λw1 b1 k1 z1=>?_;refine bJ (l:=JF) (wO c) (b1.1.holds λj v hj=>by rw[pU];exact hj) (Ue ok λw2 k2=>aF (λh=>by cases h) (λ_=>?_));have b2:=bF.kp b1 k2;refine bJ (l:=JF) (wO c) (b2.1.holds λj v hj=>by rw[pU];exact hj) ?_;refine cD (cs:=Cx (QE c) bD) λw3 b3 k3 z3=>?_;have z2:=k2.size;have e:w3.heap.size-1=w2.heap.size:=aB;have:=hQ w3;rw[e] at this;exact this ⟨bD,_,_,b3,⟨_,_,(show chO none w3 (λ_=>False) fromλ_=>id),Tl dA,λ_ h _=>h,λ_=>Iff.rfl⟩,λ_ _ h=>h.elim id id,λk=>⟨.inl,λh=>h.elim id λh=>h.elim False.elim False.elim⟩⟩ aB ((k1.tr k2).tr k3) aB
section
theorem mf{d:Nat}{v:yY}{EV:Sl}{w:aH}{SC SR:BS}(h1:sM d Tg (Cx v EV) w (λk=>k=d))(h2:chO v.ch w SC)(h3:CX 1 eI EV v.lL w SR)(d1:¬SC d)(d2:¬SR d)(d3:∀k,SC k->SR k->False):TE d EV v w (λk=>k=d\/(SC k\/SR k)):=
 aZ.vZ h1 (aZ.vZ h2 h3 d3) λk (e:k=d) h=>h.elim (λh=>d1 (e▸h)) λh=>d2 (e▸h)
theorem TE.parts{d:Nat}{v:yY}{EV:Sl}{w:aH}{S:BS}(h:TE d EV v w S):∃SC SR,sM d Tg (Cx v EV) w (λk=>k=d)/\chO v.ch w SC/\CX 1 eI EV v.lL w SR/\¬SC d/\¬SR d/\(∀k,SC k->SR k->False)/\∀k,S k↔k=d\/SC k\/SR k:=by
 obtain⟨S1,S2,h1,⟨SC,SR,h2,h3,d3,e3⟩,dd,e⟩:=h;have hd:S1 d:=(h1.2 d).2 rfl;exact⟨SC,SR,⟨h1.1,λ_=>Iff.rfl⟩,h2,h3,λh=>dd d hd ((e3 d).2 (.inl h)),λh=>dd d hd ((e3 d).2 (.inr h)),d3,λk=>by rw[e k,h1.2 k,e3 k]⟩
section
variable{d:Nat}{v:yY}{EV:Sl}{w:aH}{S:BS}{B:Int}
theorem TE.cell(h:TE d EV v w S){k:Nat}{x:Value}(hk:(Cx v EV)[k]? =some x):w.cell? ((⟨d,0,none⟩:Addr).add k)=some x:=by
 obtain⟨S1,S2,h1,_⟩:=h;exact aP h1 hk
theorem TE.set{t:TypeId}{o:Nat}{x:Value}{v':yY}{K:aH->Prop}(h:TE d EV v w S)(hi:(prog.info? t).map (·.size)=some 1)(ho:o<13)(hx:x.cells=#[x])(h1:x.oneCell'=true)(he:(Cx v EV).set o x=Cx v' EV)(Lb:v'.ch=v.ch)(hw:v'.lL=v.lL)(hK:∀w',TE d EV v' w' S->Up S S w w'->K w'):aI prog t ((⟨d,0,none⟩:Addr).add o) x w K:=by
 obtain⟨SC,SR,hB,hC,hR,d1,d2,d3,e⟩:=h.parts;refine pG hB hi (by simpa using ho) hx h1 λw' b' u'=>?_;rw[he] at b';have hm:∀k,SC k\/SR k->¬k=d:=λk hk e=>hk.elim (λh=>d1 (e▸h)) λh=>d2 (e▸h);have hC':chO v'.ch w' SC:=by rw[Lb];exact bF.aL hC u'.m λk hk=>hm k (.inl hk)
 have hR':CX 1 eI EV v'.lL w' SR:=by rw[hw];exact bF.aL hR u'.m λk hk=>hm k (.inr hk)
 exact hK w' (As.ext (mf b' hC' hR' d1 d2 d3) λk=>(e k).symm) (Up.at (u'.m.mono λk _ hk=>(e k).2 (.inl hk)))
theorem TE.setWay{zr:List Int}{UI:Sl}{SR':BS}{K:aH->Prop}(h:TE d EV v w S)(hr:CX 1 eI UI zr w SR')(hR':∀k,SR' k->¬S k\/BL EV k)(hK:∀w' S',TE d UI {v with lL:=zr} w' S'->aY (λk=>k=d) w w'->(∀k,S' k->S k\/SR' k)->K w'):aI prog BP ((⟨d,0,none⟩:Addr).add 11) (sv UI) w K:=by
 obtain⟨SC,SR,hB,hC,hR,d1,d2,d3,e⟩:=h.parts;have key:∀k,SR' k->¬k=d/\¬SC k:=λk hk=>by
  rcases hR' k hk with h|h
  ·exact⟨λh'=>h ((e k).2 (.inl h')),λh'=>h ((e k).2 (.inr (.inl h')))⟩
  ·have hs:SR k:=(hR.2.2.2 k).2 h
   exact⟨λh'=>d2 (h'▸hs),λh'=>d3 k h' hs⟩
 refine pG hB oQ dJ rfl rfl λw' b' u'=>?_;have hC':chO v.ch w' SC:=bF.aL hC u'.m λk hk e=>d1 (e▸hk);have No:CX 1 eI UI zr w' SR':=bF.aL hr u'.m λk hk=>(key k hk).1;exact hK w' _ (mf (v:={v with lL:=zr}) b' hC' No d1 (λh=>(key d h).1 rfl) λk h1 h2=>(key k h2).2 h1) u'.m λk hk=>by
  rcases hk with hk|hk|hk
  ·exact .inl ((e k).2 (.inl hk))
  ·exact .inl ((e k).2 (.inr (.inl hk)))
  ·exact .inr hk
theorem Eu{Q:Bool->aH->Prop}(h:wP d v w S)(hQ:Q v.lE w):oU (some ⟨d,0,none⟩) w Q:=by
 unfold oU;obtain⟨EV,h⟩:=h;exact aF (λ_=>aA rfl (aE (k:=.bool) v.lE (h.cell rfl) hQ)) (λh=>by simp at h)
theorem DWhy_i{Q:Int->aH->Prop}(h:wP d v w S)(hQ:Q v.why w):XG (some ⟨d,0,none⟩) w Q:=by
 unfold XG;obtain⟨EV,h⟩:=h;exact aF (λh=>by simp at h) (λ_=>aA rfl (aE (k:=.i) v.why (h.cell rfl) hQ))
theorem ym{Q:Int->aH->Prop}(h:wP d v w S)(hQ:Q v.aK w):IH (some ⟨d,0,none⟩) w Q:=by
 unfold IH;obtain⟨EV,h⟩:=h;exact aF (λh=>by simp at h) (λ_=>aA rfl (aE (k:=.i) v.aK (h.cell rfl) hQ))
theorem Pt{n:Int}{Q:Bool->aH->Prop}(hQ:Q (decide (0<=n/\n<=65535)) w):mR n w Q:=by
 unfold mR;refine aJ (λh=>?_) (λh=>?_)
 ·have:decide (0<=n/\n<=65535)=decide (n<=65535):=by
   by_cases h2:n<=65535
   ·rw[decide_eq_true h2,decide_eq_true ⟨aB,h2⟩]
   ·rw[decide_eq_false h2,decide_eq_false λh=>h2 h.2]
  rw[this] at hQ;exact hQ
 ·rw[decide_eq_false λh'=>h h'.1] at hQ;exact hQ
theorem wP.chan(h:wP d v w S){p:Nat}{c:jH}(hc:v.ch=some (p,c)):∃S1,jU p c w S1/\(∀k,S1 k->S k)/\w.cell? ((⟨d,0,none⟩:Addr).add 6)=some (.pointer (some ⟨p,0,none⟩))/\∀c' D w' T,Up S1 T w w'->aZ (jU p c') D w' T->∃S',aZ (wP d {v with ch:=some (p,c')}) D w' S'/\Up S S' w w':=by
 obtain⟨EV,h⟩:=h;have c6:=h.cell (k:=6) rfl;rw[hc] at c6;have f:=(aZ.r h).c λT hT=>aZ.l hT;rw[hc] at f;obtain⟨S1,h1,hs,dN⟩:=f;refine⟨S1,h1,hs,c6,λc' D w' T u hT=>?_⟩;obtain⟨S',h',u'⟩:=dN _ D w' T u hT;refine⟨S',h'.mono (λ_ h=>⟨EV,h.mono (λ_ h=>?_) λ_ h=>h⟩) λ_ h=>h,u'⟩;have e:Cx {v with ch:=some (p,c')} EV=Cx v EV:=by unfold Cx;rw[hc];rfl
 rw[e];exact h
theorem dpush_i{p:Nat}{c:jH}{dL:Int}{m:iJ}{Q:Sl->Int->aH->Prop}(h:wP d v w S)(hc:v.ch=some (p,c))(KT:c.Ok)(hm:m.cJ=[])
  (hQ:∀r ds b w' S',wP d {v with ch:=some (p,(c.push b).2.1)} w' S'->Up S S' w w'->RowQ w.heap.size S' w' r ds->(c.push b).2.1.Ok->ik c (c.push b).2.1 (c.push b).1.length->BOk m b->F2 GOk (c.push b).1 ds->Q r (c.push b).2.2 w'):AV (some ⟨d,0,none⟩) dL (GF (m,bD)) w Q:=by
 unfold AV;refine cD (cs:=tN (m,bD)) λw1 b1 k1 z1=>?_;refine bJ (l:=ff) (GF (m,bD)) (b1.1.holds λj v hj=>by rw[pU];exact hj) ?_;refine Enc_i (by rw[hm];exact Rd.nil _ _ _) (λb hb=>by cases hb) (by rw[hm];simp) λsb out eb w2 k2 Qs f2 l2 g2=>?_;have K2:=k1.tr k2;obtain⟨S1,h1,vY,c6,dN⟩:=(bF.kp h K2).chan hc;rw[hm] at l2;have l60:out.length<=60:=by simpa using l2
 refine aA rfl (aE (k:=.ptr) (some ⟨p,0,none⟩) c6 (yn h1 KT Qs.1 aB λrg w3 S3 h3 u3 gh=>?_));obtain⟨S4,h4,u4⟩:=dN _ _ w3 S3 u3 h3;obtain⟨S5,h5,u5,g5⟩:=WE h4;have pf:=Jf KT (b:=out) aB;have l16:(c.push out).1.length<=1000:=by
  have h1:=pf.1.n;have h2:=gh.s.BE;have Wk:=gh.s.cM;omega
 refine NX g5 l16 (λg hg=>by have:=pf.2 g hg;omega) λr ds w6 k6 v6 f6=>?_;have U6:Up S S5 w w6:=(((Up.aO K2).tr u4).tr u5).tr (Up.aO k6);have Nt:=bF.gI h5;have zz:=K2.size;have zu:=u4.size;exact hQ r ds out w6 S5 (bF.kp h5 k6) U6 ((v6.sub λk hk=>Nt k hk).qN aB) gh pf.1 (λhw=>(g2 hw).1) f6
structure Mk(B:Int)(d:Nat)(v:yY)(w:aH)(S:BS)(r:Sl)(ds:List (List cH))(v':yY)(w':aH)(S':BS):Prop where
 drv:wP d v' w' S'
 up:Up S S' w w'
 row:RowQ w.heap.size S' w' r ds
 ok:v'.Ok (B+16)
 cG:v'.cG=v.cG
 len:ds.length<=v.cG.cM+1
 yr:∀x∈ds,x.length<=3000
theorem Mk.same(h:wP d v w S)(ok:v.Ok B){w':aH}(k:aN w w'):Mk B d v w S bD [] v w' S:=
 ⟨bF.kp h k,Up.aO k,eX.nil,ok.mono aB,rfl,iF _,λx hx=>by cases hx⟩
theorem Tp{gs:List eR}{ds:List (List cH)}(h:F2 GOk gs ds):∀x∈ds,x.length<=3000:=λx hx=>by obtain⟨_,_,hp⟩:=h.mem hx;exact hp.1
abbrev GR(a n:Int):iJ:=⟨1,a,n,[],0,VU⟩
def ZG(v:yY)(a n:Int)(v':yY)(ds:List (List cH)):Prop:=
 if(0<=a/\a<=65535)/\0<=n/\n<=65535 then∃p b,BOk (GR a n) b/\v'=⟨v.cG,some (p,((uO v.cG.cM (v.aK+1)).push b).2.1),v.aK+1,true,0,a,[],false⟩/\F2 GOk ((uO v.cG.cM (v.aK+1)).push b).1 ds else v'=v/\ds=[]
theorem drvCfg(h:TE d EV v w S):bW w ((⟨d,0,none⟩:Addr).add 0) 0 (qP JF (wO v.cG)):=by
 refine oS.2 λk x hk=>?_;have:(Cx v EV)[k]? =some x:=by
  match k,hk with
  |0,hk=>exact hk
  |1,hk=>exact hk
  |2,hk=>exact hk
  |3,hk=>exact hk
  |4,hk=>exact hk
  |5,hk=>exact hk
  |k+6,hk=>simp[qP] at hk
 have c:=h.cell this;rw[aS] at c ⊢;rw[aS,show 0+0+(0+k)=0+k by omega];exact c
theorem DStart_i{dL at_ node:Int}{Q:Sl->Int->aH->Prop}(h:wP d v w S)(ok:v.Ok B)(hB:0<=B/\B<=2000000000)
  (hQ:∀r ds e v' w' S',Mk B d v w S r ds v' w' S'->ZG v at_ node v' ds->Q r e w'):KJ (some ⟨d,0,none⟩) dL at_ node w Q:=by
 unfold KJ;have no:¬((0<=at_/\at_<=65535)/\0<=node/\node<=65535)->Q bD 1 w:=λhn=>hQ _ [] _ v w S (Mk.same h ok (aY.refl _ _)) (by unfold ZG;rw[if_neg hn];exact⟨rfl,rfl⟩);refine aF (λh=>by simp at h) (λ_=>Pt (aF (λhb=>no λhh=>by rw[decide_eq_true hh.1] at hb;cases hb) (λhb=>?_)));have ha:0<=at_/\at_<=65535:=by simpa using hb
 refine Pt (aF (λhb=>no λhh=>by rw[decide_eq_true hh.2] at hb;cases hb) (λhb=>?_));have hn:0<=node/\node<=65535:=by simpa using hb
 obtain⟨EV,h⟩:=h;have hd:=bF.dr h;have hconn:=ok.aK;have CZ:=ok.cG.cM;refine aA rfl (bJ (l:=JF) (wO v.cG) (drvCfg hd) (aA rfl (aE (k:=.i) v.aK (hd.cell rfl) ?_)));rw[gV aB aB];refine CNew_i ok.cG ⟨aB,aB⟩ λcp w3 SH hH k3 Fy=>aF (λh=>by cases h) (λ_=>?_);have K3:=((bO w).tr k3).tr (bO w3);have h3:=bF.kp h K3;refine aA rfl (bJ (l:=JF) (wO v.cG) (drvCfg h3) (aA rfl (aE (k:=.i) v.aK (h3.cell rfl) (aA rfl ?_))));rw[gV aB aB];obtain⟨SC,SR,hB3,hC,hR,d1,d2,d3,e⟩:=h3.parts
 let v1:yY:=⟨v.cG,some (cp,uO v.cG.cM (v.aK+1)),v.aK+1,true,0,at_,[],false⟩
 have bd:=bF.gI h;have hdw:d<w.heap.size:=bd d ((e d).2 (.inl rfl));have wd:w.drew.heap.size=w.heap.size:=rfl;refine fD (vs:=Cx v1 bD) hB3.1 Zz rfl (by intro u hu;simp at hu;rcases hu with rfl|rfl|rfl|rfl|rfl|rfl|rfl|rfl|rfl|rfl|rfl|rfl|rfl<;>rfl) λw4 o4 m4 _=>?_;have hH4:jU cp (uO v.cG.cM (v.aK+1)) w4 SH:=bF.aL (bF.dr hH) m4 λk hk e=>by have:=Fy k hk;omega
 have h4:wP d v1 w4 (λk=>k=d\/(SH k\/False)):=⟨bD,mf (v:=v1) ⟨o4,λ_=>Iff.rfl⟩ hH4 (Tl dA) (λh=>by have:=Fy d h;omega) id λ_ _ h=>h⟩;have U4:Up S (λk=>k=d\/(SH k\/False)) w w4:=⟨K3.wk.trans m4 λk _ hk=>(e k).2 (.inl hk),λk hk=>by
  rcases hk with hk|hk|hk
  ·exact .inl ((e k).2 (.inl hk))
  ·exact .inr (by have:=Fy k hk;omega)
  ·exact hk.elim⟩
 refine dpush_i (m:=GR at_ node) h4 rfl (OV CZ.2) rfl λr ds b w5 S5 h5 u5 r5 LR cs5 hb5 f5=>?_;have hn5:=cs5.n;have hr5:=LR.s.BE;have hw5:=cs5.cM;have ie:((uO v.cG.cM (v.aK+1)).push b).2.1.dl=0:=cs5.dl;have hc5:((uO v.cG.cM (v.aK+1)).push b).2.1.aK=v.aK+1:=cs5.aK;have hww:(uO v.cG.cM (v.aK+1)).s.cM=v.cG.cM:=rfl;rw[hww] at hw5;refine hQ r ds _ _ w5 S5 ⟨h5,U4.tr u5,r5.qN U4.size,⟨ok.cG,⟨by show 0<=v.aK+1;omega,by show v.aK+1<=B+16;omega⟩,iF _,λ_=>by simp,λq hq=>?_⟩,rfl,?_,Tp f5⟩ ?_
 ·cases hq
  exact⟨LR,hw5,by rw[ie];omega,λ_=>hc5⟩
 ·rw[<-f5.len];omega
 ·unfold ZG
  rw[if_pos ⟨ha,hn⟩];exact⟨cp,b,hb5,rfl,f5⟩
def FL(v v':yY)(ds:List (List cH)):Prop:=
 if v.lE=true then∃p c gs e c',v.ch=some (p,c)/\va c gs e c'/\if e=0 then v'={v with ch:=some (p,c')}/\F2 GOk gs ds else v'={v with ch:=some (p,c'),lE:=false,why:=0}/\ds=[] else v'=v/\ds=[]
theorem DTick_i{dL:Int}{Q:Sl->aH->Prop}(h:wP d v w S)(ok:v.Ok B)(hB:0<=B)
  (hQ:∀r ds v' w' S',Mk B d v w S r ds v' w' S'->v'.Ok B->FL v v' ds->Q r w'):PS (some ⟨d,0,none⟩) dL w Q:=by
 unfold PS;refine Eu h (aF (λhlv=>hQ _ [] v w S (Mk.same h ok (aY.refl _ _)) ok ?_) (λhlv=>?_))
 ·have:v.lE=false:=by simpa using hlv
  unfold FL;rw[if_neg (by rw[this];simp)];exact⟨rfl,rfl⟩
 have Bc:v.lE=true:=by simpa using hlv
 cases Lb:v.ch with
 |none=>exact absurd Lb (ok.lE Bc)
 |some pc=>
  obtain⟨p,c⟩:=pc;have mL:=ok.ch _ Lb;obtain⟨S1,h1,vY,c6,dN⟩:=h.chan Lb;refine aA rfl (aE (k:=.ptr) (some ⟨p,0,none⟩) c6 (yo h1 mL.1 λrg gs e c' w2 S2 h2 u2 Qx KT=>?_));obtain⟨S3,h3,u3⟩:=dN _ _ w2 S2 u2 h2;obtain⟨S4,h4,u4,g4⟩:=WE h3;have pf:=Ji mL.1 Qx;have e2w:c.s.cM=v.cG.cM:=mL.2.1;have hnw:c'.s.n<=v.cG.cM:=by have:=KT.s.BE;rw[pf.1,e2w] at this;exact this
  have hlv':=mL.2.2.2 Bc;have okv:∀lv wy,(lv=true->lv=v.lE)->(⟨v.cG,some (p,c'),v.aK,lv,wy,v.at',v.lL,v.dK⟩:yY).Ok B:=λlv wy _=>⟨ok.cG,ok.aK,ok.lL,λ_=>by simp,λq hq=>by
   cases hq;exact⟨KT,pf.1.trans e2w,by rw[pf.2.2.1];exact mL.2.2.1,λ_=>pf.2.1.trans hlv'⟩⟩
  have U4:=u3.tr u4;refine aF (λhe=>?_) (λhe=>?_)
  ·have uM:¬e=0:=by simpa using he
   obtain⟨EV,h4⟩:=h4;refine aA rfl (h4.set (v':=⟨v.cG,some (p,c'),v.aK,false,v.why,v.at',v.lL,v.dK⟩) iL (by decide) rfl rfl rfl rfl rfl λw5 h5 u5=>?_);refine aA rfl (h5.set (v':=⟨v.cG,some (p,c'),v.aK,false,0,v.at',v.lL,v.dK⟩) cY (by decide) rfl rfl rfl rfl rfl λw6 h6 u6=>?_);refine hQ _ [] _ w6 S4 ⟨⟨EV,h6⟩,(U4.tr u5).tr u6,eX.nil,(okv false 0 λh=>by cases h).mono aB,rfl,iF _,λx hx=>by cases hx⟩ (okv false 0 λh=>by cases h) ?_;unfold FL;rw[if_pos Bc];exact⟨p,c,gs,e,c',Lb,Qx,by rw[if_neg uM];exact⟨rfl,rfl⟩⟩
  ·have uM:e=0:=by simpa using he
   refine NX g4 (by have:=pf.2.2.2.1;have:=KT.s.cM;have:=KT.s.BE;omega) (λg hg=>by have:=pf.2.2.2.2 g hg;omega) λr ds w5 k5 v5 f5=>?_;have bd4:=bF.gI h4;have zz:=U4.size;refine hQ r ds _ w5 S4 ⟨bF.kp h4 k5,U4.tr (Up.aO k5),(v5.sub λk hk=>bd4 k hk).qN aB,(okv v.lE v.why λ_=>rfl).mono aB,rfl,by rw[<-f5.len];have:=pf.2.2.2.1;omega,Tp f5⟩ (okv v.lE v.why λ_=>rfl) ?_;unfold FL;rw[if_pos Bc];exact⟨p,c,gs,e,c',Lb,Qx,by rw[if_pos uM];exact⟨rfl,f5⟩⟩
end
end
section
abbrev RowM:=eX (α:=iJ) eI nL 9 tN iJ.cJ
def yY.Nz(v:yY)(lL:List Int)(dK:Bool):yY:={v with lL:=lL,dK:=dK}
def TK(LV:List (iJ×Int)):List iJ:=(LV.filter λx=>decide (x.2=0)).map (·.1)
def Gz(v:yY)(g:eR)(e:Int):Prop:=e=0/\v.lE=true/\g.aK=v.aK
def Td(v:yY)(bs:List cH)(v':yY)(ds:List (List cH))(ms:List iJ):Prop:=∃g e,GDec bs g e/\
  ((¬Gz v g e/\v'=v/\ds=[]/\ms=[])\/(Gz v g e/\g.kind=3/\v'={v with lE:=false,why:=g.code}/\ds=[]/\ms=[])\/
   (Gz v g e/\g.kind≠3/\∃p c nU gs c' LV lL dK,v.ch=some (p,c)/\yH c g nU gs c'/\c'.Ok/\F2 GOk gs ds/\F2 (λb x=>aAo b x.1 x.2) nU LV/\ms=TK LV/\v'=({v with ch:=some (p,c')}:yY).Nz lL dK))
section
variable{d:Nat}{v:yY}{w:aH}{S:BS}{B:Int}
theorem hears_i{m:iJ}{sl:Sl}{Q:aH->Prop}(h:wP d v w S)(hr:Rd w sl 1 eI m.cJ)(hl:m.cJ.length<=70000)(hw:v.lL.length<=70000)
  (hQ:∀w' S' lL dK,wP d (v.Nz lL dK) w' S'->Up S S' w w'->lL.length<=70000->Q w'):KI (some ⟨d,0,none⟩) (GF (m,sl)) w Q:=by
 unfold KI;refine cD (cs:=tN (m,sl)) λw1 b1 k1 z1=>?_;have h1:=bF.kp h k1;have bd:=bF.gI h;refine aE (k:=.i) m.kind (aP b1 rfl) (aF (λ_=>?_) (λ_=>aF (λ_=>?_) (λ_=>hQ w1 S v.lL v.dK h1 (Up.aO k1) hw)))
 ·refine aE (k:=.slice) sl (aP b1 rfl) (HM (hr.aL k1 dA λ_ _=>id) aB λs2 w2 v2 k2 f2=>aA rfl ?_)
  obtain⟨EV,h2⟩:=bF.kp h1 k2;have CU:CX 1 eI s2 m.cJ w2 (λk=>∃b,s2.b=some b/\k=b.block):=⟨v2.rd fM,dA,λb hb=>v2.lt hb,λ_=>Iff.rfl⟩;refine h2.setWay (zr:=m.cJ) CU (λk ⟨b,hb,e⟩=>.inl λhs=>by have:=bd _ hs;have:=f2 b hb;omega) λw3 S3 h3 m3 s3=>?_;obtain⟨_,_,_,_,_,_,_,_,e⟩:=h2.parts;have u3:Up S S3 w w3:=⟨((k1.tr k2).wk).trans m3 λk _ hk=>(e k).2 (.inl hk),λk hk=>(s3 k hk).imp id λ⟨b,hb,e⟩=>by have:=f2 b hb;omega⟩;refine aA rfl (h3.set (v':=v.Nz m.cJ true) iL (by decide) rfl rfl rfl rfl rfl λw4 h4 u4=>?_);exact hQ w4 S3 m.cJ true ⟨s2,h4⟩ (u3.tr u4) hl
 ·obtain⟨EV,h2⟩:=h1
  refine aA rfl (h2.setWay (UI:=bD) (zr:=[]) (Tl dA) (λk hk=>hk.elim) λw3 S3 h3 m3 s3=>?_);obtain⟨_,_,_,_,_,_,_,_,e⟩:=h2.parts;have u3:Up S S3 w w3:=⟨(k1.wk).trans m3 λk _ hk=>(e k).2 (.inl hk),λk hk=>(s3 k hk).imp id False.elim⟩;refine aA rfl (h3.set (v':=v.Nz [] false) iL (by decide) rfl rfl rfl rfl rfl λw4 h4 u4=>?_);exact hQ w4 S3 [] false ⟨_,h4⟩ (u3.tr u4) (iF _)
theorem qu{dL:Int}{b:Sl}{bs:List cH}{Q:Sl->Sl->aH->Prop}(hr:Rd w b 1 eU bs)(hl:bs.length<=5000)(hQ:∀w',aN w w'->Q bD bD w'):AW none dL b w Q:=by
 unfold AW;refine my hr hl λg sl e w1 k1 rd1 f1 Dt=>?_;refine eZ (zs:=eG (⟨0,0,0,0,0,[]⟩,bD)) (vs:=eG (g,sl)) rP rfl (Lt _) λw3 o3 k3 z3=>?_;have K:=(k1.tr k3).tr (bO w3);refine aF (λ_=>hQ _ K) (λ_=>?_);unfold oU;exact aF (λh=>by cases h) (λ_=>aF (λ_=>hQ _ K) (λh=>by cases h))
theorem DRecv_i{dL:Int}{b:Sl}{bs:List cH}{Q:Sl->Sl->aH->Prop}(h:wP d v w S)(ok:v.Ok B)(hB:0<=B/\B<=100000000000000)(hr:Rd w b 1 eU bs)(hro:BD b S w)(hl:bs.length<=5000)
  (hQ:∀r rm ds ms v' w' S',Mk B d v w S r ds v' w' S'->RowM w.heap.size S' w' rm ms->Td v bs v' ds ms->Q r rm w'):AW (some ⟨d,0,none⟩) dL b w Q:=by
 unfold AW;have bd:=bF.gI h;refine my hr hl λg sl e w1 k1 rd1 f1 Dt=>?_;refine eZ (zs:=eG (⟨0,0,0,0,0,[]⟩,bD)) (vs:=eG (g,sl)) rP rfl (Lt _) λw3 o3 k3 z3=>?_;have K3:=(k1.tr k3).tr (bO w3);have h3:=bF.kp h K3;have Lk:=o3.aL (bO w3) id;have UW:¬Gz v g e->Q bD bD w3.drew:=λhn=>hQ _ _ [] [] v _ S (Mk.same h ok K3) eX.nil ⟨g,e,Dt,.inl ⟨hn,rfl,rfl,rfl⟩⟩;refine aF (λhe=>UW λhh=>by have:=hh.1;simp[this] at he) (λhe=>?_);have he0:e=0:=by simpa using he
 refine Eu h3 (aF (λhlv=>UW λhh=>by have:=hh.2.1;rw[this] at hlv;cases hlv) (λhlv=>?_));have Bc:v.lE=true:=by simpa using hlv
 obtain⟨EV,h3m⟩:=h3;refine aE (k:=.i) g.aK (dO Lk rfl) (aA rfl (aE (k:=.i) v.aK (h3m.cell rfl) (aF (λhc=>UW λhh=>by have:=hh.2.2;simp[this] at hc) (λhc=>?_))));have YO:g.aK=v.aK:=by simpa using hc
 have Xw:Gz v g e:=⟨he0,Bc,YO⟩;have hconn:=ok.aK;refine aE (k:=.i) g.kind (dO Lk rfl) (aF (λhk=>?_) (λhk=>?_))
 ·have ri:g.kind=3:=by simpa using hk
  have h4:=bF.dr h3m;have o4:=Lk.aL (bO w3.drew) id;refine aE (k:=.i) g.code (dO o4 rfl) (aA rfl ?_);refine h4.set (v':={v with lE:=false}) iL (by decide) rfl rfl rfl rfl rfl λw5 h5 u5=>?_;have n1:¬S w1.heap.size:=λhs=>by have:=bd _ hs;have:=k1.size;omega
  refine⟨dO (o4.aL u5.m n1) rfl,aA rfl ?_⟩;refine h5.set (v':={v with lE:=false,why:=g.code}) cY (by decide) rfl rfl rfl rfl rfl λw6 h6 u6=>?_;refine hQ _ _ [] [] _ w6 S ⟨⟨EV,h6⟩,((Up.aO (K3.tr (bO w3.drew))).tr u5).tr u6,eX.nil,⟨ok.cG,by show 0<=v.aK/\v.aK<=B+16;omega,ok.lL,λh=>(by cases h),λp hp=>?_⟩,rfl,iF _,λx hx=>by cases hx⟩ eX.nil ⟨g,e,Dt,.inr (.inl ⟨Xw,ri,rfl,rfl,rfl⟩)⟩;have:=ok.ch p hp;exact⟨this.1,this.2.1,aB,λh=>by cases h⟩
 ·have ri:g.kind≠3:=by simpa using hk
  cases Lb:v.ch with
  |none=>exact absurd Lb (ok.lE Bc)
  |some pc=>
   obtain⟨p,c⟩:=pc;have mL:c.Ok/\c.s.cM=v.cG.cM/\c.s.next-(c.s.n:Int)<=B/\(v.lE=true->c.aK=v.aK):=ok.ch _ Lb
   have DS:=mL.1.s.BE;have CZ:=mL.1.s.cM;have lgb:g.body.length<=5000:=iG Dt.len hl;have h4:wP d v w3.drew.drew S:=bF.dr ⟨EV,h3m⟩;have K4:=K3.tr (bO w3.drew);have o4:=Lk.aL (bO w3.drew) id;obtain⟨S1,h1,vY,c6,dN⟩:=h4.chan Lb;have wd:w3.drew.drew.heap.size=w3.heap.size:=rfl;have rdg:Rd w3.drew.drew sl 1 eU g.body:=((rd1.1.aL k3 fN λ_ _=>id).aL (bO w3) fN λ_ _=>id).aL (bO w3.drew) fN λ_ _=>id;refine aA rfl (aE (k:=.ptr) (some ⟨p,0,none⟩) c6 (bJ (l:=kG) (JG (g,sl)) (o4.holds λj v hj=>by rw[pU];exact hj) ?_));refine Uf h1 mL.1 aB rdg (λb bY=>⟨λhk=>by have:=bd _ (vY _ hk);have:=f1 b bY;omega,by have:=rd1.2.2.1 b bY;omega⟩) lgb Dt.seq λYT nU rg gs c' w7 S7 h7 u7 YS KT=>?_;obtain⟨S8,h8,u8⟩:=dN _ _ w7 S7 u7 h7;obtain⟨SA,SR,hA,⟨SB,SG,hBs,hGs,dBG,eBG⟩,dAR,eAR⟩:=h8;have rf:=xC mL.1 YS;have rowD:Ge (λk=>¬SA k/\k<w7.heap.size) w7 YT nU:=(hBs.row (P:=λk=>¬SA k) λk hk hs=>dAR k hs ((eBG k).2 (.inl hk))).wk λk h1 h2=>⟨h1,h2⟩;have rowG:Xe (λk=>¬SA k/\k<w7.heap.size) w7 rg gs:=(hGs.row (P:=λk=>¬SA k) λk hk hs=>dAR k hs ((eBG k).2 (.inr hk))).wk λk h1 h2=>⟨h1,h2⟩;have UA:Up S SA w w7:=((Up.aO K4).tr u8).tr (Up.sub w7 λk hk=>(eAR k).2 (.inl hk));have e2w:c.s.cM=v.cG.cM:=mL.2.1;have hnw:c'.s.n<=v.cG.cM:=by have:=KT.s.BE;rw[rf.1,e2w] at this;exact this
   have hlc:=mL.2.2.2 Bc;have ldb:=rowD.len;have lbs:=rf.2.2.2.2.2.2;have zA:=UA.size;refine bK (λn t w8=>∃(i:Nat) (rm:Sl) (ms:List iJ) (LV:List (iJ×Int)) (lL:List Int) (dK:Bool) (S5:BS),i<=nU.length/\n=nU.length-i/\t=(rm,(i:Int),())/\wP d (({v with ch:=some (p,c')}:yY).Nz lL dK) w8 S5/\Up S S5 w w8/\RowM w7.heap.size S5 w8 rm ms/\lL.length<=70000/\F2 (λb x=>aAo b x.1 x.2) (nU.take i) LV/\ms=TK LV/\ms.length<=i/\Ge (λk=>¬S5 k/\k<w7.heap.size) w8 YT nU/\Xe (λk=>¬S5 k/\k<w7.heap.size) w8 rg gs/\w7.heap.size<=w8.heap.size) nU.length
    ⟨0,bD,[],[],v.lL,v.dK,SA,iF _,rfl,rfl,hA,UA,eX.nil,ok.lL,.nil,rfl,iX _,rowD,rowG,iX _⟩ ?_
   rintro n t w8 ⟨i,rm,ms,LV,lL,dK,S5,hi,rfl,rfl,h5,u5,r5,hw5,f5,Vr,hml,d5,g5,zz5⟩ X hX;dsimp only;have Nt:=bF.gI h5;refine aJ (λcL=>?_) (λlK=>?_)
   ·have dF:i<nU.length:=aB
    have cU:=gU dF;have fP:=oE dF;have sD:=FW dF;generalize nU[i]=body at*;obtain⟨q,slb,hq,hh,Vp,Fg⟩:=d5.get cU;rw[lJ,qM i aB];have cq:w8.cell? (q.add (i*1))=some (sv slb):=by have:=hh.1;rwa[add_add,Nat.add_zero] at this
    refine⟨⟨aB,cL⟩,aA hq (aE (k:=.slice) slb cq ?_)⟩;refine mv Vp (lbs _ fP) λm eu em w9 k9 rd9 f9 hmd=>?_;refine eZ (zs:=tN (⟨0,0,0,[],0,VU⟩,bD)) (vs:=tN (m,eu)) CE rfl (VS _) λeN o11 LF z11=>?_;have K11:=k9.tr LF;have Ld:=bF.kp h5 K11;have z9:=k9.size;have rd11:=rd9.1.aL LF dA λ_ _=>id;have hF:F2 (λb x=>aAo b x.1 x.2) (nU.take (i+1)) (LV++[(m,em)]):=by rw[sD];exact f5.app (.one hmd)
    refine aF (λhe=>?_) (λhe=>?_)
    ·have hem:em=0:=by simpa using he
     refine bJ (l:=ff) (GF (m,eu)) (o11.holds λj v hj=>by rw[pU];exact hj) ?_;refine hears_i Ld rd11 hmd.len hw5 λeQ YJ way2 has2 Ck Cg hw12=>?_;have Dm:=o11.aL Cg.m λhs=>by have:=Nt _ hs;omega
     refine bJ (l:=ff) (GF (m,eu)) (Dm.holds λj v hj=>by rw[pU];exact hj) ?_;have UU:Up S5 YJ w8 eQ:=(Up.aO K11).tr Cg;have bd12:=bF.gI Ck;have z12:=Cg.size;have zw:∀b,eu.b=some b->w8.heap.size<=b.block/\b.block<w9.heap.size:=λb bY=>⟨f9 b bY,rd9.2.2.1 b bY⟩;have nS:∀b,eu.b=some b->¬YJ b.block:=λb bY hs=>by
      rcases Cg.s _ hs with h|h
      ·have:=Nt _ h;have:=(zw b bY).1;omega
      ·have:=(zw b bY).2;omega
     have n5:∀b,eu.b=some b->¬S5 b.block:=λb bY hs=>by have:=Nt _ hs;have:=(zw b bY).1;omega
     have rmlt:∀b,rm.b=some b->b.block<w8.heap.size:=λb bY=>r5.lt bY;refine eX.gS Pp Gm VS aB (r5.up UU) aB aB bd12 m (sl:=eu) (rd11.aL Cg.m dA λb bY=>n5 b bY) (λb bY=>⟨by have:=(zw b bY).1;omega,nS b bY,by have:=(zw b bY).2;omega,λb' Rt e=>by have:=(zw b bY).1;have:=rmlt b' Rt;omega⟩) λrm' mQ v14 YM=>?_;have U14:Up S YJ w mQ:=Up.gE (u5.tr UU) (YM.mono λk _ hk=>⟨by have:=hk.1;omega,hk.2⟩);refine hX _ _ _ aB ⟨i+1,rm',ms++[m],LV++[(m,em)],way2,has2,YJ,dF,rfl,rfl,bF.ov Ck YM,U14,v14,hw12,hF,?_,by simp;omega,((d5.aL LA UU.m λk hk _=>hk.1).wk λk hk _=>⟨λhs=>(UU.s k hs).elim hk.1 λh=>by have:=hk.2;omega,hk.2⟩).aL LA YM λk hk _ h=>by have:=hk.2;have:=h.1;omega,((g5.aL QZ UU.m λk hk _=>hk.1).wk λk hk _=>⟨λhs=>(UU.s k hs).elim hk.1 λh=>by have:=hk.2;omega,hk.2⟩).aL QZ YM λk hk _ h=>by have:=hk.2;have:=h.1;omega,by have:=YM.size;omega⟩;rw[Vr];unfold TK;rw[JB,yA,List.filter_cons_of_pos (by simp[hem])];rfl
    ·have hem:em≠0:=by simpa using he
     refine hX _ _ _ aB ⟨i+1,rm,ms,LV++[(m,em)],lL,dK,S5,dF,rfl,rfl,Ld,u5.tr (Up.aO K11),r5.kp K11,hw5,hF,?_,aB,d5.kp LA K11,g5.kp QZ K11,aB⟩;rw[Vr];unfold TK;rw[JB,yA,List.filter_cons_of_neg (by simp[hem])];simp
   ·have ei:i=nU.length:=aB
    subst ei;rw[pF] at f5;refine NX g5 (by have:=rf.2.2.2.1;omega) (λx hx=>by have:=rf.2.2.2.2.1 x hx;omega) λr ds fV Dp v15 f15=>?_;refine hQ r rm ds ms _ fV S5 ⟨bF.kp h5 Dp,u5.tr (Up.aO Dp),(v15.sub λk hk=>Nt k hk).qN aB,⟨ok.cG,by show 0<=v.aK/\v.aK<=B+16;omega,hw5,λ_=>by show(some (p,c'):Option (Nat×jH))≠none;simp,λq hq=>?_⟩,rfl,by rw[<-f15.len];have:=rf.2.2.2.1;omega,Tp f15⟩ ((r5.kp Dp).qN zA) ⟨g,e,Dt,.inr (.inr ⟨Xw,ri,p,c,nU,gs,c',LV,lL,dK,Lb,YS,KT,f15,f5,Vr,rfl⟩)⟩;cases hq;exact⟨KT,rf.1.trans e2w,by have h27:c'.dl<=c.s.next:=rf.2.2.1;show c'.dl<=B+16;omega,λ_=>rf.2.1.trans hlc⟩
end
end
section
structure wF where
 d:Int
 up:Bool
 data:List cH
abbrev Cm(x:wF×Sl):List Value:=[aD x.1.d,.bool x.1.up,sv x.2]
theorem VT:∀x:wF×Sl,(Cm x).length=3:=λ_=>rfl
theorem Xo:∀x:wF×Sl,∀u∈Cm x,u.oneCell'=true:=by intro x u hu;simp at hu;rcases hu with rfl|rfl|rfl<;>rfl
theorem eUn_ne(x:wF×Sl):Cm x≠[]:=by simp
structure jF where
 v:gW
 ds:List (Nat×yY)
 gR:List wF
 row:Sl
abbrev RY(ds:List (Nat×yY)):List cO:=ds.map λp=>some ⟨p.1,0,none⟩
abbrev eW(a:Nat)(FY wL:Sl):List Value:=[.pointer (some ⟨a,0,none⟩),sv FY,sv wL]
def Xb(p:Nat×yY):As:=wP p.1 p.2
instance{p:Nat×yY}:bF (Xb p):=by unfold Xb;infer_instance
def Xd(ee a wa:Nat)(FY wL:Sl)(xs:List (wF×Sl))(v:gW)(ds:List (Nat×yY)):As:=
 aZ (gD ee a v) (aZ (sM wa Sg (eW a FY wL)) (aZ (jB NB 1 Lp FY (RY ds)) (aZ (wI Xb ds) (jB MS 3 Cm wL xs))))
instance{ee a wa:Nat}{FY wL:Sl}{xs:List (wF×Sl)}{v:gW}{ds:List (Nat×yY)}:bF (Xd ee a wa FY wL xs v ds):=by unfold Xd;infer_instance
structure MF(N:BS)(s:Sl)(S:BS)(w:aH):Prop where
 o:BD s S w
 n:∀b,s.b=some b->¬N b.block
theorem MF.up{N:BS}{s:Sl}{S S':BS}{w w':aH}(h:MF N s S w)(u:Up S S' w w'):MF N s S' w':=⟨h.o.up u,h.n⟩
theorem MF.rd{N:BS}{α:Type}{n:Nat}{aX:α->List Value}{xs:List α}{s:Sl}{S S':BS}{w w':aH}(h:MF N s S w)(u:Up S S' w w')(hr:Rd w s n aX xs)(gH:∀x,aX x≠[]):Rd w' s n aX xs:=h.o.rd u hr gH
theorem MF.kp{N:BS}{s:Sl}{S:BS}{w w':aH}(h:MF N s S w)(k:aN w w'):MF N s S w':=⟨h.o.kp k,h.n⟩
structure iI(N:BS)(ee a wa:Nat)(W:jF)(w:aH)(S:BS):Prop where
 ex:∃wL xs,xs.map (·.1)=W.gR/\Xd ee a wa W.row wL xs W.v W.ds w S/\∀x∈xs,Rd w x.2 1 eU x.1.data/\MF N x.2 S w
theorem aZ.unemp{A:As}{w:aH}{S:BS}(h:aZ A DO w S):A w S:=aZ.emp_l h.cm
theorem OS{N:BS}{xs:List (wF×Sl)}{S S':BS}{w w':aH}(h:∀x∈xs,Rd w x.2 1 eU x.1.data/\MF N x.2 S w)(u:Up S S' w w'):∀x∈xs,Rd w' x.2 1 eU x.1.data/\MF N x.2 S' w':=λx hx=>⟨(h x hx).2.rd u (h x hx).1 fN,(h x hx).2.up u⟩
section
variable{N:BS}{ee a wa:Nat}{W:jF}{w:aH}{S:BS}
theorem iI.lt(h:iI N ee a wa W w S):∀k,S k->k<w.heap.size:=by
 obtain⟨_,_,_,h,_⟩:=h.ex;exact bF.gI h
theorem iI.kp{w':aH}(h:iI N ee a wa W w S)(k:aN w w'):iI N ee a wa W w' S:=by
 obtain⟨wL,xs,h1,h2,h3⟩:=h.ex;exact⟨wL,xs,h1,bF.kp h2 k,OS h3 (Up.aO k)⟩
theorem iI.Ch(h:iI N ee a wa W w S):∃S1,gD ee a W.v w S1/\(∀k,S1 k->S k)/\w.cell? ((⟨wa,0,none⟩:Addr).add 0)=some (.pointer (some ⟨a,0,none⟩))/\∀v' w' BC,gD ee a v' w' BC->Up S1 BC w w'->∃S',iI N ee a wa {W with v:=v'} w' S'/\Up S S' w w'/\∀k,S' k->BC k\/k<w.heap.size:=by
 have hb:=h.lt;obtain⟨wL,xs,h1,h2,h3⟩:=h.ex;obtain⟨_,S0,_,⟨S01,S02,BI,_⟩,_⟩:=id h2;have c0:=aP BI (k:=0) rfl;obtain⟨S1,hS,hs,dN⟩:=aZ.lG h2;refine⟨S1,hS,hs,c0,λv' w' BC hv u=>?_⟩;obtain⟨S',h',e'⟩:=dN (gD ee a v') DO S1 w' BC u.m (λk hk=>.inl hk) (λk hk=>(u.s k hk).imp id λh hs=>by have:=hb k hs;omega) (aZ.emp hv);have h'':=aZ.unemp h';have U:Up S S' w w':=⟨u.m.mono λk _ hk=>hs k hk,λk hk=>by
  rcases e' k hk with h|h
  ·exact .inl h.1
  ·exact(u.s k h).imp (hs k) id⟩
 exact⟨S',⟨wL,xs,h1,h'',OS h3 U⟩,U,λk hk=>(e' k hk).elim (λh=>.inr (hb k h.1)) .inl⟩
theorem iI.drv(h:iI N ee a wa W w S){i:Nat}{d:Nat}{dv:yY}(hi:W.ds[i]? =some (d,dv)):∃S1,wP d dv w S1/\(∀k,S1 k->S k)/\∀pQ w' BC,wP d pQ w' BC->Up S1 BC w w'->∃S',iI N ee a wa {W with ds:=W.ds.set i (d,pQ)} w' S'/\Up S S' w w'/\∀k,S' k->BC k\/k<w.heap.size:=by
 have hb:=h.lt;have cL:=(kY.1 hi).1;obtain⟨wL,xs,h1,h2,h3⟩:=h.ex;obtain⟨S1,hS,hs,dN⟩:=(aZ.rG h2).c λT hT=>(aZ.rG hT).c λT hT=>(aZ.rG hT).c λT hT=>(aZ.lG hT).c λT hT=>wI.atG hT hi;refine⟨S1,hS,hs,λpQ w' BC hv u=>?_⟩;obtain⟨S',h',e'⟩:=dN (Xb (d,pQ)) DO S1 w' BC u.m (λk hk=>.inl hk) (λk hk=>(u.s k hk).imp id λh hs=>by have:=hb k hs;omega) (aZ.emp hv);have h'':=aZ.unemp h';have U:Up S S' w w':=⟨u.m.mono λk _ hk=>hs k hk,λk hk=>by
  rcases e' k hk with h|h
  ·exact .inl h.1
  ·exact(u.s k h).imp (hs k) id⟩
 have ep:RY (W.ds.set i (d,pQ))=RY W.ds:=by
  show(W.ds.set i (d,pQ)).map _=_;rw[List.map_set];apply BH;intro j;rw[wC]
  by_cases hj:i=j
  ·subst hj
   rw[if_pos rfl,if_pos (by simpa using cL),mY,hi];rfl
  ·rw[if_neg hj]
 refine⟨S',⟨wL,xs,h1,h''.mono (λ_ h=>h) λ_ h=>h.mono (λ_ h=>h) λ_ h=>h.mono (λ_ h=>?_) λ_ h=>h.mono (λ_ h=>Bh.set cL h) λ_ h=>h,OS h3 U⟩,U,λk hk=>(e' k hk).elim (λh=>.inr (hb k h.1)) .inl⟩;show jB NB 1 Lp W.row (RY (W.ds.set i (d,pQ))) _ _;rw[ep];exact h
theorem iI.OW(h:iI N ee a wa W w S):∃wL,w.cell? ((⟨wa,0,none⟩:Addr).add 2)=some (sv wL)/\wL.l=W.gR.length/\zE eU 3 Cm wF.data (λk=>k<w.heap.size) w wL W.gR/\∃xs,xs.map (·.1)=W.gR/\Xd ee a wa W.row wL xs W.v W.ds w S/\∀x∈xs,Rd w x.2 1 eU x.1.data/\MF N x.2 S w:=by
 obtain⟨wL,xs,h1,h2,h3⟩:=h.ex;obtain⟨_,_,_,⟨S01,S02,BI,⟨_,_,_,⟨_,_,_,hv,_⟩,_⟩,_⟩,_⟩:=id h2;refine⟨wL,aP BI rfl,by rw[<-h1,lD];exact hv.1.len,⟨xs,h1,hv.1.rd VT,λb hb=>⟨hv.1.lt hb,hv.1.lt hb⟩,λx hx=>⟨(h3 x hx).1,λb hb=>⟨((h3 x hx).2.o b hb).2,((h3 x hx).2.o b hb).2⟩⟩⟩,xs,h1,h2,h3⟩
theorem yc{FY wL YW:Sl}{xs Ks:List (wF×Sl)}{v:gW}{ds:List (Nat×yY)}{M SV':BS}{w':aH}{K:aH->Prop}(h:Xd ee a wa FY wL xs v ds w S)(hm:aY M w w')(hM:∀k,M k->BL wL k)(hv:jB MS 3 Cm YW Ks w' SV')(hs:∀k,SV' k->BL wL k\/w.heap.size<=k)
  (hK:∀w2 S',Xd ee a wa FY YW Ks v ds w2 S'->Up S S' w w2->aY (λk=>k=wa) w' w2->K w2):aI prog Ec ((⟨wa,0,none⟩:Addr).add 2) (sv YW) w' K:=by
 have hb:=bF.gI h;obtain⟨S1,hV,vY,dN⟩:=(aZ.rG h).c λT hT=>(aZ.rG hT).c λT hT=>(aZ.rG hT).c λT hT=>aZ.rG hT;have DM:∀k,BL wL k->S1 k:=λk ⟨b,bY,e⟩=>(hV.2 k).2 ⟨b,bY,e⟩;obtain⟨S2,h2,e2⟩:=dN (jB MS 3 Cm YW Ks) DO M w' SV' hm (λk hk=>.inl (DM k (hM k hk))) (λk hk=>(hs k hk).imp (DM k) λh hs=>by have:=hb k hs;omega) (aZ.emp hv);have h2':=aZ.unemp h2;obtain⟨S3,h3,_,Gu⟩:=((aZ.r h2').c λT hT=>aZ.l hT).put;refine pG h3 Zx dJ rfl rfl λw2 b2 u2=>?_;obtain⟨S4,h4,u4⟩:=Gu (sM wa Sg (eW a FY YW)) w2 S3 u2 b2;refine hK w2 S4 h4 ⟨(hm.mono λk _ hk=>vY k (DM k (hM k hk))).trans u4.m λk hk DL=>?_,λk hk=>?_⟩ (u2.m.mono λk _ hk=>(h3.2 k).1 hk)
 ·rcases e2 k DL with h|h
  ·exact h.1
  ·exact(hs k h).elim (λh=>vY k (DM k h)) λh=>aB
 ·rcases u4.s k hk with h|h
  ·rcases e2 k h with h|h
   ·exact .inl h.1
   ·exact(hs k h).imp (λh=>vY k (DM k h)) id
  ·exact .inr (iG hm.size h)
theorem Ih{FY wL:Sl}{xs:List (wF×Sl)}{v:gW}{ds:List (Nat×yY)}{u:wF}{sl:Sl}{g:Nat}{K:aH->Prop}(h:Xd ee a wa FY wL xs v ds w S)(ho:∀x∈xs,Rd w x.2 1 eU x.1.data/\MF N x.2 S w)(hg:cW w g MS (Cm (u,sl)))(hr:Rd w sl 1 eU u.data)(hso:MF N sl S w)(hl:xs.length+1<=1000000)
  (hK:∀w2 S',iI N ee a wa ⟨v,ds,(xs++[(u,sl)]).map (·.1),FY⟩ w2 S'->Up S S' w w2->K w2):aW prog Ec Ec wL (.slice (some ⟨g,0,none⟩) 1 1) w λs3 w2=>aI prog Ec ((⟨wa,0,none⟩:Addr).add 2) (sv s3) w2 K:=by
 obtain⟨_,_,_,⟨S01,S02,BI,⟨_,_,_,⟨_,_,_,hv,_⟩,_⟩,_⟩,_⟩:=id h;have hx:Rd w ⟨some ⟨g,0,none⟩,1,1⟩ 3 Cm [(u,sl)]:=(dP.new VT [(u,sl)] (by simpa using hg) (by simp[maxLen])).rd VT;refine fO EG VT Xo (x:=⟨some ⟨g,0,none⟩,1,1⟩) hv.1 hx (by simp;omega) (by simp;omega) λs3 w2 v3 m3 hr3 _=>?_;refine yc (YW:=s3) (Ks:=xs++[(u,sl)]) h m3 (λk hk=>hk) (SV':=λk=>BL s3 k) ⟨v3,λk=>Iff.rfl⟩ (λk ⟨b,hb,e⟩=>?_) λw4 S4 h4 u4 m4=>?_
 ·rcases hr3 with h|⟨b',h,h2⟩
  ·exact .inl ⟨b,h.symm.trans hb,e⟩
  ·rw[hb] at h;cases h;exact .inr (by rw[e];exact h2)
 ·refine hK w4 S4 ⟨s3,xs++[(u,sl)],rfl,h4,λx hx=>?_⟩ u4
  have hh:Rd w x.2 1 eU x.1.data/\MF N x.2 S w:=by
   rcases jS.1 hx with hx|hx
   ·exact ho x hx
   ·rw[kZ.1 hx];exact⟨hr,hso⟩
  exact⟨hh.2.rd u4 hh.1 fN,hh.2.up u4⟩
def Lg(p:Pk):wF:=⟨p.1,false,p.2⟩
def Nj(d:Int)(b:List cH):wF:=⟨d,true,b⟩
def jF.add(W:jF)(l:List wF):jF:={W with gR:=W.gR++l}
theorem Tt{l:Sl}{ps:List Pk}{Q:aH->Prop}(h:iI N ee a wa W w S)(hr:zE eU 2 ePk Prod.snd (λk=>¬S k/\k<w.heap.size/\¬N k) w l ps)(hl:W.gR.length+ps.length<=900000)
  (hQ:∀w' S',iI N ee a wa (W.add (ps.map Lg)) w' S'->Up S S' w w'->Q w'):rA (some ⟨wa,0,none⟩) l w Q:=by
 unfold rA;have hll:=hr.len;refine bK (λn t w1=>∃(i:Nat) (S1:BS),i<=ps.length/\n=ps.length-i/\t=((i:Int),())/\iI N ee a wa (W.add ((ps.take i).map Lg)) w1 S1/\Up S S1 w w1) ps.length
  ⟨0,S,iF _,rfl,rfl,by
   have:W.add (([]:List Pk).map Lg)=W:=by unfold jF.add;simp
   rw[List.take_zero,this];exact h,Up.refl _ _⟩ ?_
 rintro n t w1 ⟨i,S1,hi,rfl,rfl,h1,u1⟩ X hX;dsimp only;refine aJ (λcL=>?_) (λlK=>?_)
 ·have dF:i<ps.length:=aB
  have cU:=gU dF;have sD:=FW dF;generalize ps[i]=p at*;obtain⟨q,sl,hq,hh,CU,Fg⟩:=(hr.aL ePk_ne u1.m λk hk _=>hk.1).get cU;have hos:MF N sl S1 w1:=⟨λb hb=>⟨λhs=>(u1.s _ hs).elim (Fg b hb).1.1 λh=>by have:=(Fg b hb).1.2.1;omega,(Fg b hb).2⟩,λb hb=>(Fg b hb).1.2.2⟩;rw[lJ,qM i aB];refine⟨⟨aB,cL⟩,aA hq (bJ (l:=[.i,.slice]) (p.1,sl,()) hh ?_)⟩;refine eZ (zs:=ePk ((0,[]),bD)) (vs:=ePk (p,sl)) Zy rfl (MJ _) λw4 o4 k4 z4=>?_;have K4:=k4.tr (bO w4);have h4:=h1.kp K4;have o4d:=o4.aL (bO w4) id;obtain⟨wL,c2,lb,_,_⟩:=h4.OW;refine aA rfl (aE (k:=.slice) wL c2 (aE (k:=.i) p.1 (dO o4d rfl) (aE (k:=.slice) sl (dO o4d rfl) ?_)));refine cD (cs:=Cm (Lg p,sl)) λw6 b6 k6 z6=>?_;have K6:=K4.tr k6;have h6:=h1.kp K6;obtain⟨YW,c2',lb',_,xs,An,Wh,fi⟩:=h6.OW;have e:YW=wL:=by have:=c2'.symm.trans ((k6.cell c2 id));injection this with this;injection this with h1 h2 h3;cases wL;cases YW;simp_all
  subst e;refine⟨c2',?_⟩;have xl:xs.length=W.gR.length+i:=by
   have:=congrArg List.length An;simp[jF.add] at this;omega
  refine Ih Wh fi b6.1 (CU.aL K6 fN λ_ _=>id) (hos.kp K6) aB λw8 S8 h8 u8=>?_;refine hX _ _ _ aB ⟨i+1,S8,dF,rfl,rfl,?_,u1.tr ((Up.aO K6).tr u8)⟩;have e2:(⟨(W.add ((ps.take i).map Lg)).v,(W.add ((ps.take i).map Lg)).ds,(xs++[(Lg p,sl)]).map (·.1),(W.add ((ps.take i).map Lg)).row⟩:jF)=W.add ((ps.take (i+1)).map Lg):=by
   unfold jF.add;rw[sD,yA,yA,An];simp[jF.add]
  rw[e2] at h8;exact h8
 ·have ei:i=ps.length:=aB
  subst ei;rw[pF] at h1;exact hQ w1 S1 h1 u1
theorem sn{d:Int}{l:Sl}{bs:List (List cH)}{Q:aH->Prop}(h:iI N ee a wa W w S)(hr:Ge (λk=>¬S k/\k<w.heap.size/\¬N k) w l bs)(hl:W.gR.length+bs.length<=900000)
  (hQ:∀w' S',iI N ee a wa (W.add (bs.map (Nj d))) w' S'->Up S S' w w'->Q w'):CM (some ⟨wa,0,none⟩) d l w Q:=by
 unfold CM;have hll:=hr.len;refine bK (λn t w1=>∃(i:Nat) (S1:BS),i<=bs.length/\n=bs.length-i/\t=((i:Int),())/\iI N ee a wa (W.add ((bs.take i).map (Nj d))) w1 S1/\Up S S1 w w1) bs.length
  ⟨0,S,iF _,rfl,rfl,by
   have:W.add (([]:List (List cH)).map (Nj d))=W:=by unfold jF.add;simp
   rw[List.take_zero,this];exact h,Up.refl _ _⟩ ?_
 rintro n t w1 ⟨i,S1,hi,rfl,rfl,h1,u1⟩ X hX;dsimp only;refine aJ (λcL=>?_) (λlK=>?_)
 ·have dF:i<bs.length:=aB
  have cU:=gU dF;have sD:=FW dF;generalize bs[i]=p at*;obtain⟨q,sl,hq,hh,CU,Fg⟩:=(hr.aL LA u1.m λk hk _=>hk.1).get cU;have hos:MF N sl S1 w1:=⟨λb hb=>⟨λhs=>(u1.s _ hs).elim (Fg b hb).1.1 λh=>by have:=(Fg b hb).1.2.1;omega,(Fg b hb).2⟩,λb hb=>(Fg b hb).1.2.2⟩;rw[lJ,qM i aB];have cq:w1.cell? (q.add (i*1))=some (sv sl):=by have:=hh.1;rwa[add_add,Nat.add_zero] at this
  obtain⟨wL,c2,lb,_,_⟩:=h1.OW;refine⟨⟨aB,cL⟩,aA hq (aE (k:=.slice) sl cq (aA rfl (aE (k:=.slice) wL c2 ?_)))⟩;refine cD (cs:=Cm (Nj d p,sl)) λw6 b6 k6 z6=>?_;have h6:=h1.kp k6;obtain⟨YW,c2',lb',_,xs,An,Wh,fi⟩:=h6.OW;have e:YW=wL:=by have:=c2'.symm.trans ((k6.cell c2 id));injection this with this;injection this with h1 h2 h3;cases wL;cases YW;simp_all
  subst e;have xl:xs.length=W.gR.length+i:=by
   have:=congrArg List.length An;simp[jF.add] at this;omega
  refine Ih Wh fi b6.1 (CU.aL k6 fN λ_ _=>id) (hos.kp k6) aB λw8 S8 h8 u8=>?_;refine hX _ _ _ aB ⟨i+1,S8,dF,rfl,rfl,?_,u1.tr ((Up.aO k6).tr u8)⟩;have e2:(⟨(W.add ((bs.take i).map (Nj d))).v,(W.add ((bs.take i).map (Nj d))).ds,(xs++[(Nj d p,sl)]).map (·.1),(W.add ((bs.take i).map (Nj d))).row⟩:jF)=W.add ((bs.take (i+1)).map (Nj d)):=by
   unfold jF.add;rw[sD,yA,yA,An];simp[jF.add]
  rw[e2] at h8;exact h8
 ·have ei:i=bs.length:=aB
  subst ei;rw[pF] at h1;exact hQ w1 S1 h1 u1
theorem iI.rowAt(h:iI N ee a wa W w S):w.cell? ((⟨wa,0,none⟩:Addr).add 1)=some (sv W.row)/\Rd w W.row 1 Lp (RY W.ds):=by
 obtain⟨wL,xs,h1,h2,h3⟩:=h.ex;obtain⟨_,_,_,⟨_,_,BI,⟨_,_,hv,_⟩,_⟩,_⟩:=id h2;exact⟨aP BI rfl,hv.1.rd GS⟩
theorem ZV{x:Int}{Q:cO->aH->Prop}(h:iI N ee a wa W w S)(hl:W.ds.length<=16)(hQ1:∀d dv,0<=x->W.ds[x.toNat]? =some (d,dv)->Q (some ⟨d,0,none⟩) w)(hQ0:¬(0<=x/\x<W.ds.length)->Q none w):kJ (some ⟨wa,0,none⟩) x w Q:=by
 unfold kJ;obtain⟨wL,xs,h1,h2,h3⟩:=h.ex;obtain⟨_,_,_,⟨_,_,BI,⟨_,_,hv,_⟩,_⟩,_⟩:=id h2;have c1:w.cell? ((⟨wa,0,none⟩:Addr).add 1)=some (sv W.row):=aP BI rfl;have ll:=hv.1.len;rw[lD] at ll;refine aF (λh=>by simp at h) (λ_=>aJ (λh=>hQ0 λhh=>aB) (λh0=>aA rfl (aE (k:=.slice) W.row c1 (aJ (λh=>hQ0 λhh=>aB) (λh1'=>aA rfl (aE (k:=.slice) W.row c1 ?_))))));have cL:x.toNat<W.ds.length:=aB;have cU:=gU cL;obtain⟨d,dv⟩:Nat×yY:=W.ds[x.toNat];generalize W.ds[x.toNat]=p at*;obtain⟨q,hq,cq⟩:=cQ (k:=.ptr) (e:=λx=>x) (hv.1.rd GS) (show(RY W.ds)[x.toNat]? =some (some ⟨p.1,0,none⟩) by rw[mY,cU];rfl);exact⟨⟨aB,aB⟩,aA hq (aE (k:=.ptr) (some ⟨p.1,0,none⟩) cq (hQ1 p.1 p.2 aB cU))⟩
end
end
end Go.Proofs.YtihggjgakbgomaaGreat
