import Derived.Test.YtihggjgakbgomaaGreatA1
import Derived.Test.YtihggjgakbgomaaGreatQ4
import Derived.Test.YtihggjgakbgomaaGreatF2
import Derived.Test.YtihggjgakbgomaaGreatF1
import Derived.Test.YtihggjgakbgomaaGreatA3
import Derived.Test.YtihggjgakbgomaaGreatQ2
import Derived.Test.YtihggjgakbgomaaGreatQ1
namespace Go.Proofs.YtihggjgakbgomaaGreat
open Go Go.Den
section
structure qV where
 d:Int
 aM:Int
 up:Bool
 Cg:gV
abbrev eHd(x:qV×Sl):List Value:=[aD x.1.d,aD x.1.aM,.bool x.1.up,aD x.1.Cg.kind,aD x.1.Cg.pos,aD x.1.Cg.JE,sv x.2,aD x.1.Cg.kS,aD x.1.Cg.eR.cls,aD x.1.Cg.eR.jV,aD x.1.Cg.eR.oK,aD x.1.Cg.eR.left]
theorem Wz:∀x:qV×Sl,(eHd x).length=12:=λ_=>rfl
theorem oneHd:∀x:qV×Sl,∀u∈eHd x,u.oneCell'=true:=by intro x u hu;simp at hu;rcases hu with rfl|rfl|rfl|rfl|rfl|rfl|rfl|rfl|rfl|rfl|rfl|rfl<;>rfl
theorem eHd_ne(x:qV×Sl):eHd x≠[]:=by simp
abbrev Gi:=fK (α:=qV) eI tHeard 12 eHd λh=>h.Cg.cD
theorem Xt{G:Gr}{B B':Int}{v:iQ}(ok:v.Ok G B){e:cY}(he:e∈v.t.bK){c:kP}(hc:c.Ok/\c.aM=e.aM/\c.s.dA=v.dO.dA/\c.dl<=B')(hB:B<=B'):(v.oO e.aN c).Ok G B':=by
 refine⟨ok.dO,ok.fR,ok.u,ok.t,ok.fD,λf hf=>?_,ok.KZ,ok.Nk,ok.lost⟩;show(if f.aN=e.aN then c else v.ch f.aN).Ok/\(if f.aN=e.aN then c else v.ch f.aN).aM=f.aM/\(if f.aN=e.aN then c else v.ch f.aN).s.dA=v.dO.dA/\(if f.aN=e.aN then c else v.ch f.aN).dl<=B'
 by_cases hp:f.aN=e.aN
 ·rw[if_pos hp,ok.t.inj hf he hp];exact hc
 ·rw[if_neg hp];have:=ok.ch f hf;exact⟨this.1,this.2.1,this.2.2.1,aB⟩
theorem bJ.drop2{A B C:As}{w:aH}{S:BS}(h:bJ A (bJ B C) w S):∃S',bJ A C w S'/\Up S S' w w:=by
 obtain⟨S1,S2,h1,⟨S3,S4,h3,h4,d34,Vs⟩,d,e⟩:=h;exact⟨λk=>S1 k\/S4 k,bJ.xR h1 h4 λk a b=>d k a ((Vs k).2 (.inr b)),Up.sub w λk hk=>(e k).2 (hk.imp id λh=>(Vs k).2 (.inr h))⟩
def BegC(G:Gr)(v:iQ)(aN:Nat)(g:fG)(m:gV)(e:Int):Prop:=g.kind=1/\g.seq=0/\e=0/\m.kind=1/\v.t.vF aN g.aM=0/\G.mH m.pos/\G.GB m.JE
def BegR(G:Gr)(v:iQ)(aN:Nat)(g:fG)(v':iQ)(ps:List Pk)(hs:List qV):Prop:=∃m e,MDec g.body m e/\
  ((¬BegC G v aN g m e/\v'=v/\hs=[]/\∃p code,ps=[p]/\uv aN ⟨g.aM,3,0,0,code,[]⟩ p)\/
   (BegC G v aN g m e/\∃(en:cY) (z:FX×List gV) (oF:List (List cG)) (Qp:List fG) (c1:kP) (UL Fh:List Pk),en.aN=aN/\en.aM=g.aM/\en.lE=v.fR/\(v.lf en.a).getD (false:Bool)=false/\TA G (DU v.u) (Rb m.pos m.JE) z/\yO (vA v.dO.dA g.aM) g oF Qp c1/\F2 (uv aN) Qp UL/\c1.Ok/\yN ((v.pR en (vA v.dO.dA g.aM) z.1).oO aN c1) en (iU::z.2) v' Fh/\z.2.length<=2/\1<=z.2.length/\ps=UL++Fh/\hs=[⟨aN,g.aM,true,m⟩]))
section
variable{W0 w:aH}{S:BS}{a:Nat}{v:iQ}{E:qO}{G:Gr}{B:Int}
theorem jK.cfgAt(h:jK E.e a v w S):bQ w ((⟨a,0,none⟩:Addr).add 1) 0 (qT JA (wS v.dO)):=by
 refine iB.2 λk x hk=>?_;have:(Cw E.e v)[1+k]? =some x:=by
  match k,hk with
  |0,hk=>exact hk
  |1,hk=>exact hk
  |2,hk=>exact hk
  |3,hk=>exact hk
  |4,hk=>exact hk
  |5,hk=>exact hk
  |k+6,hk=>simp[qT] at hk
 have c:=h.cell this;rw[aS] at c ⊢;rw[aS,show 0+1+(0+k)=0+(1+k) by omega];exact c
theorem begin_i{aN:Nat}{g:fG}{gj:Sl}{Q:Sl->Sl->aH->Prop}(h:jK E.e a v w S)(hb:Bs W0 E G S w)(ok:v.Ok G B)(hB:0<=B)(hp:aN<16)(hg:Rd w gj 1 eU g.body)(hgo:LL gj S w)(hl:g.body.length<=5000)(hs:u32 g.seq)(Fm:1<=g.aM/\g.aM<=2147483648)
  (hQ:∀r rh ps hs v' w' S',jK E.e a v' w' S'->Up S S' w w'->yH w.heap.size S' w' r ps->Gi w.heap.size S' w' rh hs->v'.Ok G B->BegR G v aN g v' ps hs->Q r rh w'):JU (some ⟨a,0,none⟩) (aN:Int) (JC (g,gj)) w Q:=by
 unfold JU;have bd:=bG.gX h;refine cO (cs:=eG (g,gj)) λw1 b1 k1 z1=>aE (k:=.slice) gj (aP b1 rfl) ?_;refine po (hg.aK k1 fQ λ_ _=>id) hl λm sl e w2 k2 Nd f2 hmd=>?_;refine fF (zs:=tN (⟨0,0,0,[],0,VZ⟩,aZ)) (vs:=tN (m,sl)) CI rfl (QM _) λw4 o4 k4 z4=>?_;have b4:=bG.kp (bG.kp b1 k2) k4;have K4:aL w w4:=(k1.tr k2).tr k4;have rej:∀(code:Int) (wx:aH),aL w wx->¬BegC G v aN g m e->fU (aN:Int) g.aM code wx λs2 w5=>Q s2 aZ w5:=λcode wx kx hn=>
  reset_i λr p w5 k5 v5 hp5=>by
   have K5:=kx.tr k5;exact hQ r _ [p] [] v w5 S (bG.kp h K5) (Up.aO K5) ((v5.qM kx.size).sub λk hk=>pG (bd k hk) kx.size) fK.nil ok ⟨m,e,hmd,.inl ⟨hn,rfl,rfl,p,code,rfl,hp5⟩⟩
 refine aE (k:=.i) g.kind (aP b4 rfl) (aF (λhk=>aE (k:=.i) g.aM (aP b4 rfl) (rej 2 w4 K4 λhc=>?_)) (λhk=>?_))
 ·have:=hc.1;simp[this] at hk
 have QD:g.kind=1:=by simpa using hk
 refine aE (k:=.i) g.seq (aP b4 rfl) (aF (λhk=>aE (k:=.i) g.aM (aP b4 rfl) (rej 2 w4 K4 λhc=>?_)) (λhk=>?_))
 ·have:=hc.2.1;simp[this] at hk
 have hsq:g.seq=0:=by simpa using hk
 refine aF (λhk=>aE (k:=.i) g.aM (aP b4 rfl) (rej 2 w4 K4 λhc=>?_)) (λhk=>?_)
 ·have:=hc.2.2.1;simp[this] at hk
 have he0:e=0:=by simpa using hk
 refine aE (k:=.i) m.kind (cV o4 rfl) (aF (λhk=>aE (k:=.i) g.aM (aP b4 rfl) (rej 2 w4 K4 λhc=>?_)) (λhk=>?_))
 ·have:=hc.2.2.2.1;simp[this] at hk
 have ua:m.kind=1:=by simpa using hk
 have K4d:=K4.tr (bY w4);have h4:=bG.kp h K4d;refine aA rfl (aE (k:=.ptr) (some ⟨v.tp,0,none⟩) (h4.cell rfl) (aE (k:=.i) g.aM (aP (bG.dr b4) rfl) ?_));obtain⟨ST,hT,_⟩:=h4.Lg;refine TMay_i hT ok.t hp Fm λw9 k9=>?_;have K9:=K4d.tr k9;refine aF (λsW=>?_) (λsW=>?_)
 ·have hmay0:v.t.vF aN g.aM=0:=by simpa using sW
  have K9d:=K9.tr (bY w9);have h9:=bG.kp h K9d;have b9:=bG.kp b4 ((bY w4).tr (k9.tr (bY w9)));have o9:=o4.aK ((bY w4).tr (k9.tr (bY w9))) id;refine aA rfl (aE (k:=.ptr) (some ⟨E.e,0,none⟩) (h9.cell rfl) (aE (k:=.i) m.pos (cV o9 rfl) (aE (k:=.i) m.JE (cV o9 rfl) (aA rfl (aE (k:=.ptr) (some ⟨v.sp,0,none⟩) (h9.cell rfl) ?_)))));obtain⟨SU,hU,_⟩:=h9.sset;refine Tn hU ok.u.2 λmk eZ v10 IP f10=>?_;have Nn:=K9d.tr IP;have Ea:=bG.kp h Nn;have b10:=bG.kp b9 IP;have Cf:=o9.aK IP id;refine⟨cV Cf rfl,cV Cf rfl,Ea.cell rfl,?_⟩;have hb10:=hb.kp Nn;refine SNewF_i hb10 (v10.rd Ct) (λSJ=>?_) λhE hN z ms s eN SZ hz hZ hZlo okz Vp jf LA=>?_
  ·refine aF (λ_=>aE (k:=.i) g.aM (aP b10 rfl) (rej 4 eZ Nn λhc=>SJ hc.2.2.2.2.2)) (λh=>by cases h)
  refine aF (λh=>by cases h) (λ_=>?_);have K11d:=(Nn.tr LA).tr (bY eN);have Vr:=bG.kp h K11d;have b11:=bG.kp b10 (LA.tr (bY eN));refine aA rfl (aX (l:=JA) (wS v.dO) Vr.cfgAt (aE (k:=.i) g.aM (aP b11 rfl) ?_));refine CNew_i ok.dO Fm λcp gT SH hH UO Gc=>?_;have K13:=(K11d.tr UO).tr (bY gT);have um:=bG.kp h K13;have b13:=bG.kp b11 (UO.tr (bY gT));refine aE (k:=.i) g.aM (aP b13 rfl) (aA rfl (aE (k:=.i) v.fR (um.cell rfl) ?_))
  let en:cY:=⟨gT.drew.heap.size,cp,s,aN,g.aM,v.fR⟩
  refine cO (cs:=Wf en) λmL bE Ch z14=>?_;have K14:=K13.tr Ch;have h14:=bG.kp h K14;refine aA rfl (aE (k:=.ptr) (some ⟨v.tp,0,none⟩) (h14.cell rfl) ?_);have jj:(v.lf en.a).getD (false:Bool)=false:=by
   obtain⟨SC0,hC0,_⟩:=h.qU;cases ud:v.lf en.a with
   |none=>rfl
   |some b=>obtain⟨cs,e',hc⟩:=hC0.Hz ok en.a (by rw[ud];rfl);have h1:en.a<w.heap.size:=(Array.getElem?_eq_some_iff.1 hc).1;have h2:w.heap.size<=en.a:=K13.size;omega
  have zk2:=k2.size;have zk10:w4.heap.size<=eZ.heap.size:=((bY w4).tr (k9.tr ((bY w9).tr IP))).size;have z11:=LA.size;have z11d:eN.drew.heap.size=eN.heap.size:=rfl;have z13:=UO.size;have z13d:gT.drew.heap.size=gT.heap.size:=rfl;have bZ:=bG.gX hZ;have bH:=bG.gX hH;obtain⟨SC,SS,hC,hS,dCS,eCS⟩:=h14;have lC:∀k,SC k->k<w.heap.size:=λk hk=>bd k ((eCS k).2 (.inl hk));have lS:∀k,SS k->k<w.heap.size:=λk hk=>bd k ((eCS k).2 (.inr hk));have Cu:=ok.fR;have PV:=ok.dO.dA;refine VAdd_i (e:=en) (c:=vA v.dO.dA g.aM) (z:=z.1) (SB:=λk=>k=gT.drew.heap.size) hC hS bE (bG.kp hH ((bY gT).tr Ch)) (bG.kp hZ (((bY eN).tr UO).tr ((bY gT).tr Ch))) (λk h1 h2=>?_) (λk h1 h2=>?_) (λk h1 h2=>?_) (λk h1 h2=>by have:=Gc k h1;have:=bZ k h2;omega) ok hp hmay0 ⟨OL PV.2,rfl,rfl,hB⟩ okz ⟨Fm,Cu.1,lK _⟩ λfY SA SX hA hX dAX inA inX Fj ok15=>?_
  ·have:=lC k h1;rcases h2 with h|h|h|h
   ·exact dCS k h1 h
   ·omega
   ·have:=Gc k h;omega
   ·have:=hZlo k h;omega
  ·have:=lS k h1;rcases h2 with h|h|h
   ·omega
   ·have:=Gc k h;omega
   ·have:=hZlo k h;omega
  ·have h1':k=gT.drew.heap.size:=h1;rcases h2 with h|h
   ·have:=bH k h;omega
   ·have:=bZ k h;omega
  have mid:∀k,w.heap.size<=k->k<eN.heap.size->¬SA k:=λk h1 h2 h3=>by
   rcases inA k h3 with g|g|g|g
   ·have:=lC k g;omega
   ·omega
   ·have:=Gc k g;omega
   ·omega
  have vq:∀k,w.heap.size<=k->k<eN.heap.size->¬(SC k\/k=gT.drew.heap.size):=λk h1 h2 h3=>h3.elim (λh=>by have:=lC k h;omega) λh=>aB;have M14d:=Fj.trans (F:=λk=>SC k\/k=gT.drew.heap.size) ((bY fY).wk) λ_ _ h=>h;have b14:=bG.kp b13 Ch;have o1:=(b14.1).aK M14d (vq _ (dL _) aB);have o2:=(((((Cf.aK LA id).aK (bY eN) id).aK UO id).aK (bY gT) id).aK Ch id).aK M14d (vq _ (by have:=k1.size;have:=k2.size;omega) (by have:=k4.size;omega));have hA':=bG.dr hA;have gF:en∈(v.pR en (vA v.dO.dA g.aM) z.1).t.bK:=oV.2 (.inl rfl);have Fo:(v.pR en (vA v.dO.dA g.aM) z.1).t.at aN=some en:=tO.TH ok15.t gF;refine aA rfl (aE (k:=.i) v.fR (hA'.cell rfl) ?_);refine aX (l:=kG) (JC (g,gj)) (o1.holds λj v hj=>by rw[gI];exact hj) ?_;obtain⟨S6,h6,Nh,MF⟩:=hA'.vz Fo;have ech:(v.pR en (vA v.dO.dA g.aM) z.1).ch aN=vA v.dO.dA g.aM:=if_pos rfl;rw[ech] at h6;have K15:∀k,k<w.heap.size->¬SC k->¬(SC k\/k=gT.drew.heap.size):=λk h1 h2 h3=>h3.elim h2 λh=>aB;have hgo15:Rd fY.drew gj 1 eU g.body:=((hg.aK K14 fQ λ_ _=>id).aK Fj fQ λb bR=>K15 _ (hgo b bR).2 λh=>(hgo b bR).1 ((eCS _).2 (.inl h))).aK (bY fY) fQ λ_ _=>id;have zz15:=Fj.size;refine Tq h6 (OL PV.2) (by show(0:Int)<=_;omega) hgo15 (λb bR=>⟨λhk=>?_,?_⟩) aB hs λYT oF rg Qp c1 jN S7 h7 u7 YR Lr=>?_
  ·have cC:=(hgo b bR).2;rcases inA _ (Nh _ hk) with g|g|g|g
   ·exact(hgo b bR).1 ((eCS _).2 (.inl g))
   ·omega
   ·have:=Gc _ g;omega
   ·have:=Ch.size;omega
  ·have:=(hgo b bR).2;have:fY.drew.heap.size=fY.heap.size:=rfl;omega
  obtain⟨S8,h8,u8⟩:=MF _ _ jN S7 u7 h7;obtain⟨S9,h9',u9⟩:=bJ.drop2 h8;obtain⟨S16,h16,u16,g16⟩:=Tf h9';have U16:Up SA S16 fY.drew jN.drew:=((u8.tr u9).tr u16).tr (Up.aO (bY jN));have hv2:=Xt (c:=c1) (B':=B) ok15 gF (by
   have:=xJ (OL PV.2) YR;exact⟨Lr,this.2.1,this.1,Int.le_trans this.2.2.1 hB⟩) (lK _)
  have rf:=xJ (OL (aM:=g.aM) PV.2) YR;have h16':=bG.dr h16;have g16':=g16.kp Au (bY jN);have b16:=bG.gX h16';have Ww:∀k,w.heap.size<=k->k<eN.heap.size->¬S16 k:=λk h1 h2 h3=>(U16.s k h3).elim (mid k h1 h2) λh=>by have:fY.drew.heap.size=fY.heap.size:=rfl;omega
  have PM:=o1.aK U16.m (mid _ (dL _) aB);have o2':=o2.aK U16.m (mid _ (by have:=k1.size;have:=k2.size;omega) (by have:=k4.size;omega));have hms16:fP jN.drew (λk=>eZ.heap.size<=k/\k<eN.heap.size) ms (iU::z.2):=
   ((((Vp.wk λk h1 h2=>⟨h1,h2⟩).aO ((bY eN).tr (UO.tr ((bY gT).tr Ch)))).aK M14d λk hk=>vq k aB hk.2).aK U16.m λk hk=>mid k aB hk.2)
  have rd16:Rd jN.drew sl 1 eI m.cD:=by have IU:∀b,sl.b=some b->w.heap.size<=b.block/\b.block<eN.heap.size:=λb bR=>⟨by have:=f2 b bR;omega,by have:=Nd.2.2.1 b bR;have:=k4.size;omega⟩;exact((Nd.1.aK ((k4.tr ((bY w4).tr (k9.tr ((bY w9).tr IP)))).tr (LA.tr ((bY eN).tr (UO.tr ((bY gT).tr Ch))))) cI λ_ _=>id).aK M14d cI λb bR=>vq _ (IU b bR).1 (IU b bR).2).aK U16.m cI λb bR=>mid _ (IU b bR).1 (IU b bR).2
  have Qz:∀b,sl.b=some b->w.heap.size<=b.block/\b.block<eN.heap.size:=λb bR=>⟨by have:=f2 b bR;omega,by have:=Nd.2.2.1 b bR;have:=k4.size;omega⟩;have zz16:fY.heap.size<=jN.drew.heap.size:=U16.size;have l64:Qp.length<=1000:=by have h2:=Lr.s.RV;have h3':=Lr.s.dA;omega
  have inW:∀wx Sx,Up S16 Sx jN.drew wx->bQ wx ⟨w2.heap.size,0,none⟩ 0 (tN (m,sl))/\wx.cell? ((⟨w.heap.size,0,none⟩:Addr).add 0)=some (aD g.aM):=λwx Sx u=>
   ⟨(o2'.aK u.m (Ww _ (by have:=k1.size;have:=k2.size;omega) (by have:=k4.size;omega))).holds λj v hj=>by rw[gI];exact hj,cV (PM.aK u.m (Ww _ (dL _) aB)) rfl⟩
  have dQ:∀(r:Sl) (UL Fh:List Pk) (v':iQ) (wz:aH) (Sy:BS) (gb:Nat),lM E.e a v' wz Sy->Up S16 Sy jN.drew wz->yH jN.drew.heap.size Sy wz r (UL++Fh)->v'.Ok G B->F2 (uv aN) Qp UL->yN ((v.pR en (vA v.dO.dA g.aM) z.1).oO aN c1) en (iU::z.2) v' Fh->cU wz gb tHeard (eHd (⟨aN,g.aM,true,m⟩,sl))->jN.drew.heap.size<=gb->¬Sy gb->Q r ⟨some ⟨gb,0,none⟩,1,1⟩ wz:=by
   intro r UL Fh v' wz Sy gb hy uy vy oky f1 sd og lgb ngb;have UA:=U16.tr uy;have hX':DH E.e (v.pR en (vA v.dO.dA g.aM) z.1) wz SX:=bG.aK (bG.dr hX) UA.m λk h1 h2=>dAX k h2 h1;have bX:=bG.gX hX;have dd:∀k,Sy k->SX k->False:=UA.lq dAX λk hk=>bX k hk;have hsv:jK E.e a v' wz (λk=>Sy k\/SX k):=by have hse:=sd;obtain⟨bs,gs,c',lo,lf,ln,rfl,_⟩:=hse;exact bJ.xR hy hX' dd
   have lSy:∀k,Sy k->S k\/w.heap.size<=k:=λk hk=>by
    rcases UA.s k hk with h|h
    ·rcases inA k h with g|g|g|g
     ·exact .inl ((eCS k).2 (.inl g))
     ·exact .inr aB
     ·exact .inr (by have:=Gc k g;omega)
     ·exact .inr (by have:=Ch.size;omega)
    ·exact .inr (by have:fY.drew.heap.size=fY.heap.size:=rfl;have:=Ch.size;omega)
   have lSX:∀k,SX k->S k\/w.heap.size<=k:=λk hk=>(inX k hk).imp (λh=>(eCS k).2 (.inr h)) λh=>by have:=hZlo k h;omega
   have Uz:Up S (λk=>Sy k\/SX k) w wz:=by
    refine⟨((K14.wk.trans Fj λk h1 h2=>?_).trans (bY fY).wk λ_ _ h=>h).trans UA.m λk h1 h2=>?_,λk hk=>hk.elim (lSy k) (lSX k)⟩
    ·exact h2.elim (λh=>(eCS k).2 (.inl h)) λh=>by have h':k=gT.drew.heap.size:=h;omega
    ·rcases inA k h2 with g|g|g|g
     ·exact(eCS k).2 (.inl g)
     ·omega
     ·have:=Gc k g;omega
     ·have:=Ch.size;omega
   have uszz:=uy.size;refine hQ r _ (UL++Fh) [⟨aN,g.aM,true,m⟩] v' wz _ hsv Uz ((vy.cov λk hk=>hk.imp id λh=>by have:=bX k h;omega).qM (by have:=Ch.size;omega)) ?_ oky ⟨m,e,hmd,.inr ⟨⟨QD,hsq,he0,ua,hmay0,hE,hN⟩,en,z,oF,Qp,c1,UL,Fh,rfl,rfl,rfl,jj,hz,YR,f1,Lr,sd,jf.1,jf.2,rfl,rfl⟩⟩;refine⟨[(⟨aN,g.aM,true,m⟩,sl)],rfl,dD.new Wz [(⟨aN,g.aM,true,m⟩,sl)] (by simpa using og) (by simp[maxLen]),λb bR=>by cases bR;exact⟨by have:=Ch.size;show w.heap.size<=gb;omega,λh=>h.elim ngb λh=>by have:=bX _ h;have h':gb<fY.heap.size:=this;omega⟩,λx hx=>?_⟩;rw[oG.1 hx];refine⟨rd16.aK uy.m cI λb bR=>Ww _ (Qz b bR).1 (Qz b bR).2,λb bR=>⟨(Qz b bR).1,λh=>?_,?_,λb' VM e=>?_⟩⟩
   ·rcases h with h|h
    ·exact(uy.s _ h).elim (Ww _ (Qz b bR).1 (Qz b bR).2) λh=>by have:=(Qz b bR).2;omega
    ·have h2:=Nd.2.2.1 b bR;rcases inX _ h with h|h
     ·have:=lS _ h;have:=(Qz b bR).1;omega
     ·have:=hZlo _ h;omega
   ·have:=(Qz b bR).2;omega
   ·cases VM;have:=(Qz b bR).2;have e':b.block=gb:=e;omega
  have hbd:∀g∈Qp,g.body.length<=80000:=λg hg=>by have:=rf.2.2.2.2.1 g hg;omega
  have sayP:∀wx,aL jN.drew wx->∀(K:WQ Sl),(∀r ps v' wy Sy,lM E.e a v' wy Sy->Up S16 Sy wx wy->yH wx.heap.size Sy wy r ps->v'.Ok G B->yN ((v.pR en (vA v.dO.dA g.aM) z.1).oO aN c1) en (iU::z.2) v' ps->K r wy)->tB (some ⟨a,0,none⟩) (LC en) ms wx K:=λwx kx K hK=>
   say_i (bG.kp h16' kx) hv2 gF (hms16.aO kx) (λk hk=>Ww k aB hk.2) (by simp;omega) λr ps v' wy Sy g1 g2 g3 g4 g5=>hK r ps v' wy Sy g1 g2 g3 g4 g5
  have Ec:∀(v':iQ) (UL Fh:List Pk),F2 (uv aN) Qp UL->yN ((v.pR en (vA v.dO.dA g.aM) z.1).oO aN c1) en (iU::z.2) v' Fh->v'.Ok G B->UL.length+Fh.length<=1000000:=λv' UL Fh f1 sd Ql=>by
   have jd:en∈((v.pR en (vA v.dO.dA g.aM) z.1).oO aN c1).t.bK:=gF;have h1:=yN.Ec jd sd Ql;have hr5:=Lr.s.RV;have hr6:=Lr.s.dA;have h2:=f1.len;have h4:(((v.pR en (vA v.dO.dA g.aM) z.1).oO aN c1).dO).dA=v.dO.dA:=rfl;omega
  have o1k:∀wx,aL jN.drew wx->bQ wx ⟨w2.heap.size,0,none⟩ 0 (tN (m,sl))/\wx.cell? ((⟨w.heap.size,0,none⟩:Addr).add 0)=some (aD g.aM):=λwx kx=>inW wx S16 (Up.aO kx);obtain⟨hMa,hMb⟩:=o1k _ (aU.refl _ _);refine aE (k:=.i) g.aM hMb (aX (l:=fi) (GJ (m,sl)) hMa ⟨?_,?_⟩)
  ·refine HO g16' l64 hbd λr1 UL mG Qm v17 f17=>⟨(o1k mG Qm).1,(o1k mG Qm).2,?_,?_⟩
   ·refine sayP mG Qm _ λr2 Fh v' qB jo h18 u18 v18 ok18 sd=>?_;have U18:=(Up.aO Qm).tr u18;have Lo:yH jN.drew.heap.size jo qB r1 UL:=(v17.sub λk hk=>b16 k hk).up u18;have b18:=bG.gX h18;have z17:=Qm.size;have z18:=u18.size;have r1b:∀b,r1.b=some b->b.block<mG.heap.size:=λb bR=>v17.lt bR;refine⟨(inW qB jo U18).1,(inW qB jo U18).2,?_,?_⟩
    ·refine fK.lx nG VU VS aB Lo v18 z17 r1b (Ec _ _ _ f17 sd ok18) aB b18 λr' qA v19 m19 _=>?_;have LF:=m19.mono (G:=λk=>jN.drew.heap.size<=k/\¬jo k) λk _ hk=>Lo.zR k hk;have U19:=Up.iI U18 LF;have h19:=bG.ov h18 LF;refine⟨(inW qA jo U19).1,(inW qA jo U19).2,?_⟩;refine cO (cs:=eHd (⟨aN,g.aM,true,m⟩,sl)) λBO b20 k20 z20=>?_;have z19:=U19.size;refine dQ r' UL Fh v' BO jo qA.heap.size (bG.kp h19 k20) (U19.tr (Up.aO k20)) (v19.kp k20) ok18 f17 sd b20.1 z19 λhs=>?_;have:=bG.gX h19 _ hs;omega
    ·refine cO (cs:=eHd (⟨aN,g.aM,true,m⟩,sl)) λDA b21 k21 z21=>?_;have z21:=k21.size;refine fK.lx nG VU VS aB (Lo.kp k21) (v18.kp k21) z17 r1b (Ec _ _ _ f17 sd ok18) aB (λk hk=>pG (b18 k hk) z21) λr' FY v22 m22 _=>?_;have m22':=m22.mono (G:=λk=>jN.drew.heap.size<=k/\¬jo k) λk _ hk=>Lo.zR k hk;have U22:=Up.iI (U18.tr (Up.aO k21)) m22';refine dQ r' UL Fh v' FY jo qB.heap.size (bG.ov (bG.kp h18 k21) m22') U22 v22 ok18 f17 sd (b21.1.aK m22 λ⟨b,bR,e⟩=>by have:=r1b b bR;omega) aB λhs=>by have:=b18 _ hs;omega
   ·refine cO (cs:=eHd (⟨aN,g.aM,true,m⟩,sl)) λLe b23 iz z23=>?_;have K23:=Qm.tr iz;refine sayP Le K23 _ λr2 Fh v' Ai S24 h24 u24 v24 ok24 sd=>?_;have U24:=(Up.aO K23).tr u24;have Lo:yH jN.drew.heap.size S24 Ai r1 UL:=((v17.sub λk hk=>b16 k hk).kp iz).up u24;have b24:=bG.gX h24;have z17:=Qm.size;have z24:=u24.size;have r1b:∀b,r1.b=some b->b.block<mG.heap.size:=λb bR=>v17.lt bR;refine fK.lx nG VU VS aB Lo v24 aB (λb bR=>by have:=r1b b bR;omega) (Ec _ _ _ f17 sd ok24) aB b24 λr' Cd v25 m25 _=>?_;have m25':=m25.mono (G:=λk=>jN.drew.heap.size<=k/\¬S24 k) λk _ hk=>Lo.zR k hk;have U25:=Up.iI U24 m25';refine dQ r' UL Fh v' Cd S24 mG.heap.size (bG.ov h24 m25') U25 v25 ok24 f17 sd ((b23.1.aK u24.m λhs=>by have:=b16 _ hs;omega).aK m25 λ⟨b,bR,e⟩=>by have:=r1b b bR;omega) z17 λhs=>(u24.s _ hs).elim (λh=>by have:=b16 _ h;omega) λh=>aB
  ·refine cO (cs:=eHd (⟨aN,g.aM,true,m⟩,sl)) λQi b26 k26 z26=>?_;refine HO (g16'.kp Au k26) l64 hbd λr1 UL Vk k27 v27 f27=>?_;have K27:=k26.tr k27;refine sayP Vk K27 _ λr2 Fh v' KN S28 h28 u28 v28 ok28 sd=>?_;have U28:=(Up.aO K27).tr u28;have z26':=k26.size;have z27:=k27.size;have z28:=u28.size;have Lo:yH jN.drew.heap.size S28 KN r1 UL:=((v27.qM z26').sub λk hk=>pG (b16 k hk) z26').up u28;have b28:=bG.gX h28;have r1b:∀b,r1.b=some b->b.block<Vk.heap.size:=λb bR=>v27.lt bR;refine fK.lx nG VU VS aB Lo v28 aB r1b (Ec _ _ _ f27 sd ok28) aB b28 λr' ij v29 m29 _=>?_;have m29':=m29.mono (G:=λk=>jN.drew.heap.size<=k/\¬S28 k) λk _ hk=>Lo.zR k hk;have U29:=Up.iI U28 m29';refine dQ r' UL Fh v' ij S28 jN.drew.heap.size (bG.ov h28 m29') U29 v29 ok28 f27 sd (((b26.1.aK k27 id).aK u28.m λhs=>by have:=b16 _ hs;omega).aK m29 λ⟨b,bR,e⟩=>?_) (dL _) λhs=>(u28.s _ hs).elim (λh=>by have:=b16 _ h;omega) λh=>aB;have:=(v27.zR _ ⟨b,bR,rfl⟩).1;omega
 ·refine aF (λh5=>aE (k:=.i) g.aM (aP (bG.kp b4 ((bY w4).tr k9)) rfl) (rej 1 w9 K9 λhc=>?_)) (λh5=>aE (k:=.i) g.aM (aP (bG.kp b4 ((bY w4).tr k9)) rfl) (rej 2 w9 K9 λhc=>?_))
  ·have:=hc.2.2.2.2.1;rw[this] at sW;cases sW
  ·have:=hc.2.2.2.2.1;rw[this] at sW;cases sW
end
end
open Tryz (prog)
section
def iQ.KP(v:iQ)(i:Nat)(e:cY):iQ:={v with t:=⟨v.t.fD,v.t.bK.set i e,v.t.gr⟩}
theorem set_peers{l:List cY}{i:Nat}{e e':cY}(h:l[i]? =some e)(hp:e'.aN=e.aN):(l.set i e').map (·.aN)=l.map (·.aN):=by
 apply yG;intro j;rw[oM,oM,jA]
 by_cases hj:i=j
 ·subst hj;have cC:=(eQ.1 h).1;rw[if_pos rfl,if_pos cC,h];simp[hp]
 ·rw[if_neg hj]
theorem Sv{l:List cY}{i:Nat}{e e':cY}(hs:KX l)(h:l[i]? =some e)(hp:e'.aN=e.aN):KX (l.set i e'):=by
 have h1:(l.map (·.aN)).Pairwise (·<·):=by rw[List.pairwise_map];exact hs
 rw[<-set_peers h hp,List.pairwise_map] at h1;exact h1
theorem sZ{l:List cY}{i:Nat}{e e' f:cY}(hs:KX l)(h:l[i]? =some e)(hp:e'.aN=e.aN):f∈l.set i e'↔f=e'\/(f∈l/\f.aN≠e.aN):=by
 have cC:=(eQ.1 h).1;have uK:e'∈l.set i e':=lD (i:=i) (by rw[jA];simp[cC])
 constructor
 ·intro hf
  by_cases hfe:f=e'
  ·exact .inl hfe
  ·refine .inr ⟨(List.mem_or_eq_of_mem_set hf).resolve_right hfe,λQn=>hfe (ya (Sv hs h hp) hf uK (by rw[Qn,hp]))⟩
 ·rintro(rfl|⟨hf,gK⟩)
  ·exact uK
  ·obtain⟨j,hj⟩:=List.getElem?_of_mem hf;refine lD (i:=j) ?_;rw[jA,if_neg,hj];intro e;subst e;rw[h] at hj;cases hj;exact gK rfl
theorem Xr{t:tO}(ok:t.Ok){i:Nat}{e e':cY}(h:t.bK[i]? =some e)(hp:e'.aN=e.aN)(Ql:(⟨t.fD,t.bK.set i e',t.gr⟩:tO).Ok)(q:Nat):(⟨t.fD,t.bK.set i e',t.gr⟩:tO).at q=if q=e.aN then some e' else t.at q:=by
 apply Option.ext;intro f;rw[tO.Sn Ql];show(f∈t.bK.set i e'/\f.aN=q)↔_;rw[sZ ok.sO h hp]
 by_cases hq:q=e.aN
 ·rw[if_pos hq]
  constructor
  ·rintro⟨rfl|⟨_,gK⟩,h2⟩
   ·rfl
   ·exact absurd (h2.trans hq) gK
  ·intro h;cases h;exact⟨.inl rfl,by rw[hp,hq]⟩
 ·rw[if_neg hq,tO.Sn ok]
  constructor
  ·rintro⟨rfl|⟨hf,_⟩,h2⟩
   ·exact absurd (h2.symm.trans hp) hq
   ·exact⟨hf,h2⟩
  ·rintro⟨hf,h2⟩;exact⟨.inr ⟨hf,λh3=>hq (h2.symm.trans h3)⟩,h2⟩
theorem Ob{t:tO}(ok:t.Ok){i:Nat}{e e':cY}(h:t.bK[i]? =some e)(hp:e'.aN=e.aN):(⟨t.fD,t.bK.set i e',t.gr⟩:tO).Ok:=
 ⟨ok.fD,by show(t.bK.set i e').length<=_;rw[nN];exact ok.len,Sv ok.sO h hp,λf hf=>by
  rcases(sZ ok.sO h hp).1 hf with rfl|⟨hf,_⟩
  ·rw[hp];exact ok.aN e (lD h)
  ·exact ok.aN f hf⟩
section
variable{W0 w:aH}{S:BS}{a:Nat}{v:iQ}{E:qO}{G:Gr}{B:Int}{ee:Nat}
theorem touch_ok(ok:v.Ok G B){i:Nat}{e e':cY}(h:v.t.bK[i]? =some e)(hp:e'.aN=e.aN)(ha:e'.a=e.a)(hc:e'.aM=e.aM)(hl:0<=e'.lE/\e'.lE<=v.fR):(v.KP i e').Ok G B:=by
 have he:=lD h;have mem:∀f∈(v.KP i e').t.bK,f=e'\/(f∈v.t.bK/\f.aN≠e.aN):=λf hf=>(sZ ok.t.sO h hp).1 hf;refine⟨ok.dO,ok.fR,ok.u,Ob ok.t h hp,ok.fD,λf hf=>?_,λf hf=>?_,λf hf=>?_,λk hk=>?_⟩
 ·rcases mem f hf with rfl|⟨hf,_⟩
  ·have:=ok.ch e he;show(v.ch f.aN).Ok/\(v.ch f.aN).aM=f.aM/\(v.ch f.aN).s.dA=v.dO.dA/\(v.ch f.aN).dl<=B;rw[hp,hc];exact this
  ·exact ok.ch f hf
 ·rcases mem f hf with rfl|⟨hf,_⟩
  ·show UR G (v.KZ f.aN);rw[hp];exact ok.KZ e he
  ·exact ok.KZ f hf
 ·rcases mem f hf with rfl|⟨hf,_⟩
  ·rw[hc];exact⟨(ok.Nk e he).1,hl⟩
  ·exact ok.Nk f hf
 ·rcases ok.lost k hk with⟨f,hf,rfl⟩|hg
  ·by_cases hpf:f.aN=e.aN
   ·have:=ok.t.inj hf he hpf;subst this;exact .inl ⟨e',(sZ ok.t.sO h hp).2 (.inl rfl),ha⟩
   ·exact .inl ⟨f,(sZ ok.t.sO h hp).2 (.inr ⟨hf,hpf⟩),rfl⟩
  ·exact .inr hg
theorem jK.lE(h:jK ee a v w S)(ok:v.Ok G B){i:Nat}{e:cY}(hi:v.t.bK[i]? =some e){Q:aH->Prop}(hQ:∀w' S',jK ee a (v.KP i {e with lE:=v.fR}) w' S'->Up S S' w w'->Q w'):aI prog dG ((⟨e.a,0,none⟩:Addr).add 4) (aD v.fR) w Q:=by
 have cC:=(eQ.1 hi).1;have mF:=ok.t.sO
 let e':cY:={e with lE:=v.fR}
 have oktt:=Ob (e':=e') ok.t hi rfl;have ef:∀x,sX (v.t.bK.set i e') x=sX v.t.bK x:=λx=>by
  refine Ib (f:=sX v.t.bK) (Sv (e':=e') mF hi rfl) (λx p=>?_) x;rw[XD mF]
  constructor
  ·rintro⟨f,hf,hx,hp⟩
   by_cases hfe:f.aN=e.aN
   ·have:=ok.t.inj hf (lD hi) hfe;subst this;exact⟨e',(sZ (e':=e') mF hi rfl).2 (.inl rfl),hx,hp⟩
   ·exact⟨f,(sZ (e':=e') mF hi rfl).2 (.inr ⟨hf,hfe⟩),hx,hp⟩
  ·rintro⟨f,hf,hx,hp⟩;rcases(sZ (e':=e') mF hi rfl).1 hf with rfl|⟨hf,_⟩
   ·exact⟨e,lD hi,hx,hp⟩
   ·exact⟨f,hf,hx,hp⟩
 have efun:sX (v.t.bK.set i e')=sX v.t.bK:=funext ef;have f0:=(bJ.l h).c λT hT=>gS.at hT .Lg;have f1:ig w S (DG v.tp v.t) _:=f0.c λT hT=>bJ.l hT;obtain⟨S1,⟨m1,m2,ng,hT⟩,xS,eO⟩:=f1.put;obtain⟨S2,hL,LJ,MG⟩:=(((bJ.r hT).c λT hT=>bJ.r hT).c λT hT=>(bJ.r hT).c λT hT=>wM.at hT hi).put;refine qY hL cZ dN rfl rfl λw' b' u'=>?_;obtain⟨S3,h3,u3⟩:=MG (JH e') w' S2 u' b';have hT3:DG v.tp (v.KP i e').t w' S3:=by refine⟨m1,m2,ng,h3.mono (λ_ h=>h) λ_ h=>h.mono (λ_ h=>?_) λ_ h=>h.mono (λ_ h=>h) λ_ h=>Az.set cC h⟩;show wL m1 FA qW (sX (v.t.bK.set i e')) (v.t.bK.set i e').length _ _;rw[efun,nN];exact h
 obtain⟨S4,h4,u4⟩:=eO _ w' S3 u3 hT3;refine hQ w' S4 (h4.mono (λ_ h=>?_) λ_ h=>?_) u4
 ·have efam:FZ (YK ee a v) .Lg (bJ (DG v.tp (v.KP i e').t) (wM Grv v.gv))=YK ee a (v.KP i e'):=by
   funext j
   cases j with
   |ch q=>
    show(match v.t.at q with|some e=>lW e.cp (v.ch q)|none=>DR)=(match (v.KP i e').t.at q with|some e=>lW e.cp (v.ch q)|none=>DR)
    rw[show(v.KP i e').t.at q=if q=e.aN then some e' else v.t.at q from Xr (e':=e') ok.t hi rfl oktt q]
    by_cases hq:q=e.aN
    ·rw[if_pos hq,hq,tO.TH ok.t (lD hi)]
    ·rw[if_neg hq]
   |_=>rfl
  unfold lM;rw[<-efam];exact h
 ·have es:zZ ee (v.KP i e')=zZ ee v:=by
   funext q
   show(match (v.KP i e').t.at q with|some e=>vB ee e.sp (v.KZ q)|none=>DR)=(match v.t.at q with|some e=>vB ee e.sp (v.KZ q)|none=>DR)
   rw[show(v.KP i e').t.at q=if q=e.aN then some e' else v.t.at q from Xr (e':=e') ok.t hi rfl oktt q]
   by_cases hq:q=e.aN
   ·rw[if_pos hq,hq,tO.TH ok.t (lD hi)]
   ·rw[if_neg hq]
  unfold DH;rw[es];exact h
theorem jK.vz(h:jK ee a v w S){e:cY}{p:Nat}(he:v.t.at p=some e):∃S1,lW e.cp (v.ch p) w S1/\(∀k,S1 k->S k)/\∀c D w' T,Up S1 T w w'->bJ (lW e.cp c) D w' T->∃S',bJ (jK ee a (v.oO p c)) D w' S'/\Up S S' w w':=by
 obtain⟨S1,h1,hs,eO⟩:=(bJ.l h).c λT hT=>lM.chan hT he;refine⟨S1,h1,hs,λc D w' T u hT=>?_⟩;obtain⟨S',h',u'⟩:=eO _ D w' T u hT;exact⟨S',h'.mono (λS h=>h.mono (λ_ h=>by unfold lM;rw[<-fam_ch he];exact h) λ_ h=>h) λ_ h=>h,u'⟩
end
end
section
abbrev BL(r:Sl):BS:=λk=>∃a,r.b=some a/\k=a.block
def EntR(v:iQ)(p:Nat)(g:fG)(v':iQ)(ps:List Pk)(hs:List qV):Prop:=∃e∈v.t.bK,e.aN=p/\e.aM=g.aM/\∃oF Qp c1,yO (v.ch p) g oF Qp c1/\(oF=[]->v'=v.oO p c1/\F2 (uv p) Qp ps/\hs=[])
def xr(g:fG)(e:Int):Prop:=e=0/\g.kind≠3/\1<=g.aM/\g.aM<=2147483648
def Hd(G:Gr)(v:iQ)(p:Int)(bs:List cG)(v':iQ)(ps:List Pk)(hs:List qV):Prop:=
 (¬(0<=p/\p<16)/\v'=v/\ps=[]/\hs=[])\/∃g e,GDec bs g e/\((¬xr g e/\v'=v/\ps=[]/\hs=[])\/(xr g e/\((∀f∈v.t.bK,¬(f.aN=p.toNat/\f.aM=g.aM))/\BegR G v p.toNat g v' ps hs\/EntR v p.toNat g v' ps hs)))
structure Ax(v v':iQ)(p:Int):Prop where
 dO:v'.dO=v.dO
 u:v'.u=v.u
 fR:v'.fR=v.fR
 bK:∀f∈v'.t.bK,(∃f0∈v.t.bK,f0.aN=f.aN)\/(f.aN:Int)=p
theorem Ax.refl(v:iQ)(p:Int):Ax v v p:=⟨rfl,rfl,rfl,λf hf=>.inl ⟨f,hf,rfl⟩⟩
structure RcvO(G:Gr)(B:Int)(ee a:Nat)(v:iQ)(p:Int)(bs:List cG)(w:aH)(S:BS)(r rh:Sl)(ps:List Pk)(hs:List qV)(v':iQ)(w':aH)(S':BS):Prop where
 Uw:jK ee a v' w' S'
 up:Up S S' w w'
 row:yH w.heap.size S' w' r ps
 BC:Gi w.heap.size S' w' rh hs
 ok:v'.Ok G (B+16)
 len:ps.length<=v.dO.dA+1
 pks:∀q∈ps,q.2.length<=3000
 Fu:Ax v v' p
 rel:Hd G v p bs v' ps hs
 hl:hs.length<=20
theorem BegR.Ec{G:Gr}{B:Int}{v v':iQ}{p:Nat}{g:fG}{ps:List Pk}{hs:List qV}(hw:v.dO.dA<=16)(h:BegR G v p g v' ps hs)(ok:v'.Ok G B):ps.length<=v.dO.dA+1/\(∀q∈ps,q.2.length<=3000)/\Ax v v' p/\hs.length<=20:=by
 obtain⟨m,e,_,⟨_,rfl,rfl,q,code,rfl,hq⟩|⟨_,en,z,oF,Qp,c1,UL,Fh,h1,h2,h3,h4,h5,h6,h7,h8,h9,Ea,Vr,rfl,rfl⟩⟩:=h
 ·exact⟨by simp,λx hx=>by rw[oG.1 hx];exact hq.2.1,Ax.refl _ _,by simp⟩
 ·have hm:en∈((v.pR en (vA v.dO.dA g.aM) z.1).oO p c1).t.bK:=oV.2 (.inl rfl);have hc:=yN.Ec hm h9 ok;have PO:(v'.ch en.aN).s.n<=v.dO.dA:=hc.2;have rf:=xJ (OL hw) h6;have e1:((v.pR en (vA v.dO.dA g.aM) z.1).oO p c1).ch en.aN=c1:=by
   show(if en.aN=p then c1 else _)=c1
   rw[if_pos h1]
  have gf:=hc.1;rw[e1] at gf;have hl:=h7.len;have sm:=h9.same;refine⟨by rw[fJ];omega,λq hq=>?_,⟨sm.dO,sm.u,sm.fR,λf hf=>?_⟩,by simp⟩
  ·rcases kE.1 hq with hq|hq
   ·obtain⟨_,_,hp⟩:=h7.mem hq;exact hp.2.1
   ·exact(yN.pks hm h9 q hq).1
  ·rw[sm.t] at hf;rcases oV.1 hf with rfl|⟨hf,_⟩
   ·exact .inr (by rw[h1])
   ·exact .inl ⟨f,hf,rfl⟩
section
variable{W0 w:aH}{S:BS}{a:Nat}{v:iQ}{E:qO}{G:Gr}{B:Int}
theorem VRecv_i{p:Int}{b:Sl}{bs:List cG}{Q:Sl->Sl->aH->Prop}(h:jK E.e a v w S)(hb:Bs W0 E G S w)(ok:v.Ok G B)(hB:0<=B/\B<=100000000000000)(hr:Rd w b 1 eU bs)(hro:LL b S w)(hl:bs.length<=5000)
  (hQ:∀r rh ps hs v' w' S',RcvO G B E.e a v p bs w S r rh ps hs v' w' S'->Q r rh w'):OY (some ⟨a,0,none⟩) p b w Q:=by
 unfold OY;have bd:=bG.gX h;have okB:v.Ok G (B+16):=⟨ok.dO,ok.fR,ok.u,ok.t,ok.fD,λe he=>by have:=ok.ch e he;exact⟨this.1,this.2.1,this.2.2.1,aB⟩,ok.KZ,ok.Nk,ok.lost⟩;have no:∀wx,aL w wx->Hd G v p bs v [] []->Q aZ aZ wx:=λwx k DD=>hQ _ _ [] [] v wx S ⟨bG.kp h k,Up.aO k,fK.nil,fK.nil,okB,dE _,λq hq=>(by cases hq),Ax.refl v p,DD,dE _⟩;refine aF (λh=>by simp at h) (λ_=>aJ (λh0=>no w (aU.refl _ _) (.inl ⟨λhh=>aB,rfl,rfl,rfl⟩)) (λh0=>aJ (λh1=>no w (aU.refl _ _) (.inl ⟨λhh=>aB,rfl,rfl,rfl⟩)) (λh1=>?_)));obtain⟨pn,rfl⟩:∃pn:Nat,p=(pn:Int):=⟨p.toNat,aB⟩;have hp16:pn<16:=aB;refine pr hr hl λg sl e w1 k1 rd1 f1 Nj=>?_;refine fF (zs:=eG (⟨0,0,0,0,0,[]⟩,aZ)) (vs:=eG (g,sl)) rV rfl (Lq _) λw3 o3 k3 z3=>?_;have K3:=k1.tr k3;have VB:¬xr g e->Q aZ aZ w3:=λhn=>no w3 K3 (.inr ⟨g,e,Nj,.inl ⟨hn,rfl,rfl,rfl⟩⟩);refine aF (λhe=>VB λhh=>by have:=hh.1;simp[this] at he) (λhe=>?_);have he0:e=0:=by simpa using he
 refine aE (k:=.i) g.kind (cV o3 rfl) (aF (λhk=>VB λhh=>hh.2.1 (by simpa using hk)) (λhk=>?_));have ue:g.kind≠3:=by simpa using hk
 refine aE (k:=.i) g.aM (cV o3 rfl) (aJ (λhc=>VB λhh=>by have:=hh.2.2.1;omega) (λgf=>?_));refine aE (k:=.i) g.aM (cV o3 rfl) (aJ (λhc=>VB λhh=>by have:=hh.2.2.2;omega) (λPO=>?_));have Xf:xr g e:=⟨he0,ue,aB,aB⟩;have K3d:=K3.tr (bY w3);have h3:=bG.kp h K3d;have Lh:=o3.aK (bY w3) id;refine aA rfl (aE (k:=.ptr) (some ⟨v.tp,0,none⟩) (h3.cell rfl) (aE (k:=.i) g.aM (cV Lh rfl) ?_));obtain⟨ST,hT,_⟩:=h3.Lg;have lgb:g.body.length<=5000:=iR Nj.len hl;have rdg:Rd w3.drew sl 1 eU g.body:=(rd1.1.aK k3 fQ λ_ _=>id).aK (bY w3) fQ λ_ _=>id;have z1:=k1.size;have gj:∀b,sl.b=some b->w.heap.size<=b.block/\b.block<w3.drew.heap.size:=λb bR=>⟨f1 b bR,by have:=rd1.2.2.1 b bR;have:w3.drew.heap.size=w3.heap.size:=rfl;omega⟩;have og:LL sl S w3.drew:=λb bR=>⟨λhs=>by have:=bd _ hs;have:=(gj b bR).1;omega,(gj b bR).2⟩;have tg:bQ w3.drew ⟨w1.heap.size,0,none⟩ 0 (qT kG (JC (g,sl))):=Lh.holds λj v hj=>by rw[gI];exact hj
 refine TGet_i hT ok.t (λen jj Qn hce=>?_) (λpA=>?_)
 ·refine aF (λh=>by simp at h) (λ_=>?_);subst Qn;have Kb:=K3d.tr (bY w3.drew);obtain⟨wb,hwb⟩:∃wb,wb=w3.drew.drew:=⟨_,rfl⟩;have kb:aL w3.drew wb:=by rw[hwb];exact bY w3.drew
  rw[<-hwb] at Kb ⊢;have hd:=bG.kp h Kb;have Fo:=tO.TH ok.t jj;have ob:=Lh.aK kb id;have oJ:=ok.ch en jj;have GZ:=oJ.1.s.RV;have PV:=ok.dO.dA;have zb:=kb.size;refine aA rfl (aE (k:=.ptr) (some ⟨en.cp,0,none⟩) (hd.Ly jj rfl) (aA rfl (aE (k:=.i) v.fR (hd.cell rfl) (aX (l:=kG) (JC (g,sl)) (ob.holds λj v hj=>by rw[gI];exact hj) ?_))));obtain⟨S6,h6,Nh,MF⟩:=hd.vz Fo;have Vd:(v.ch en.aN).s.next<=B+16:=by have h1:=oJ.2.2.2;have h2:=oJ.2.2.1;have h3:(v.ch en.aN).s.next-((v.ch en.aN).s.n:Int)<=B:=h1;omega
  refine Tq h6 oJ.1 aB (rdg.aK kb fQ λ_ _=>id) (λb bR=>⟨λhk=>(og b bR).1 (Nh _ hk),by have:=(og b bR).2;omega⟩) lgb Nj.seq λYT oF rg Qp c1 w6 S7 h7 u7 YR Lr=>?_;obtain⟨S8,h8,u8⟩:=MF _ _ w6 S7 u7 h7;obtain⟨SA,SR,hA,⟨SB,SG,hBs,hGs,dBG,eBG⟩,dAR,eAR⟩:=h8;have rowD:Gj (λk=>¬SA k) w6 YT oF:=hBs.row λk hk hs=>dAR k hs ((eBG k).2 (.inl hk));have rowG:Wk (λk=>¬SA k) w6 rg Qp:=hGs.row λk hk hs=>dAR k hs ((eBG k).2 (.inr hk));have UA:Up S SA wb w6:=u8.tr (Up.sub w6 λk hk=>(eAR k).2 (.inl hk));have rf:=xJ oJ.1 YR;have okv1:(v.oO en.aN c1).Ok G (B+16):=Xt ok jj ⟨Lr,rf.2.1.trans oJ.2.1,rf.1.trans oJ.2.2.1,aB⟩ aB;have l64:Qp.length<=17:=by have h2:=Lr.s.RV;omega
  have dQ:∀(r rh:Sl) ps hs v' w' S',jK E.e a v' w' S'->Up S S' wb w'->yH w6.heap.size S' w' r ps->Gi w6.heap.size S' w' rh hs->v'.Ok G (B+16)->ps.length<=v.dO.dA+1->(∀q∈ps,q.2.length<=3000)->Ax v v' (en.aN:Int)->(oF=[]->v'=v.oO en.aN c1/\F2 (uv en.aN) Qp ps/\hs=[])->hs.length<=20->Q r rh w':=λr rh ps hs v' w' S' g1 g2 g3 g4 g5 g6 g7 g8 g9 g10=>by
   have zz:w.heap.size<=w6.heap.size:=by have:=UA.size;have:=Kb.size;omega
   exact hQ r rh ps hs v' w' S' ⟨g1,(Up.aO Kb).tr g2,g3.qM zz,g4.qM zz,g5,g6,g7,g8,.inr ⟨g,e,Nj,.inr ⟨Xf,.inr ⟨en,jj,rfl,hce,oF,Qp,c1,YR,λh0=>g9 h0⟩⟩⟩,g10⟩
  refine HO rowG aB (λx hx=>by have:=rf.2.2.2.2.1 x hx;omega) λr1 UL w7 k7 v7 f7=>?_;have fl7:=f7.len;have lbs:=rf.2.2.2.2.2.2;have hpk1:∀q∈UL,q.2.length<=3000:=λq hq=>by obtain⟨_,_,hp⟩:=f7.mem hq;exact hp.2.1
  intro J1 OG;have j1:∀v2 w8 S8,jK E.e a v2 w8 S8->Up S S8 wb w8->yH w6.heap.size S8 w8 r1 UL->v2.Ok G (B+16)->Gj (λk=>¬S8 k/\k<w6.heap.size) w8 YT oF->(∃Qq∈v2.t.bK,Qq.a=en.a/\Qq.aN=en.aN/\Qq.sp=en.sp)->v2.dO=v.dO->v2.u=v.u->v2.fR=v.fR->(∀f∈v2.t.bK,∃f0∈v.t.bK,f0.aN=f.aN)->v2.ch en.aN=c1->(oF=[]->v2=v.oO en.aN c1)->w6.heap.size<=w8.heap.size->J1 () w8:=by
   intro v2 w8 S8 h8 u8 r8 ok8 d8 hen2 e1 e2 e3 e4 e5 e6 zz8;obtain⟨Qq,hen2,ha2,Cj,hsp2⟩:=hen2;have eadr:LC en=LC Qq:=by rw[show LC Qq=some ⟨Qq.a,0,none⟩ from rfl,ha2]
   apply OG;have ld:=d8.len;refine bL (λn t w9=>∃(i:Nat) (r rh:Sl) (ps:List Pk) (hs:List qV) (v5:iQ) (S5:BS),i<=oF.length/\n=oF.length-i/\t=(r,rh,(i:Int),())/\jK E.e a v5 w9 S5/\Up S S5 wb w9/\yH w6.heap.size (λk=>S5 k\/BL rh k) w9 r ps/\Gi w6.heap.size (λk=>S5 k\/BL r k) w9 rh hs/\v5.Ok G (B+16)/\vL v2 v5/\ps.length<=(v5.ch en.aN).s.n+1/\hs.length<=i/\(∀q∈ps,q.2.length<=3000)/\Gj (λk=>¬S5 k/\k<w6.heap.size) w9 YT oF/\(i=0->v5=v2/\ps=UL/\hs=[])/\w6.heap.size<=w9.heap.size) oF.length
    ⟨0,r1,aZ,UL,[],v2,S8,dE _,rfl,rfl,h8,u8,r8.cov λk hk=>hk.elim .inl λ⟨a,ha,_⟩=>(by cases ha),fK.nil,ok8,vL.refl v2,by rw[e5];omega,dL _,hpk1,d8,λ_=>⟨rfl,rfl,rfl⟩,zz8⟩ ?_
   rintro n t w9 ⟨i,r,rh,ps,hs,v5,S5,hi,rfl,rfl,h5,u5,r5,q5,ok5,st5,hn5,hl5,Vq,d5,hz5,zz5⟩ X hX;dsimp only;have hm5:Qq∈v5.t.bK:=by rw[st5.t];exact hen2
   have hw5:(v5.ch en.aN).s.n<=v.dO.dA:=by have h1:=ok5.ch Qq hm5;rw[Cj] at h1;have h2:=h1.1.s.RV;rw[h1.2.2.1,st5.dO,e1] at h2;exact h2
   have Ws:Ax v v5 (en.aN:Int):=⟨st5.dO.trans e1,st5.u.trans e2,st5.fR.trans e3,λf hf=>.inl (e4 f (by rw[<-st5.t];exact hf))⟩;have Nm:=bG.gX h5;refine aJ (λcC=>?_) (λkC=>?_)
   ·have dJ:i<oF.length:=aB;have cQ:=cM dJ;have gF:=mX dJ;generalize oF[i]=body at*;obtain⟨q,slb,hq,hh,Va,YJ⟩:=d5.get cQ;rw[dW,pP i aB];have cq:w9.cell? (q.add (i*1))=some (sv slb):=by have:=hh.1;rwa[add_add,Nat.add_zero] at this
    refine⟨⟨aB,cC⟩,aA hq (aE (k:=.slice) slb cq ?_)⟩;refine po Va (lbs _ gF) λm fc em eZ IP rd10 f10 hmd=>?_;refine fF (zs:=tN (⟨0,0,0,[],0,VZ⟩,aZ)) (vs:=tN (m,fc)) CI rfl (QM _) λeE Ds GA z12=>?_;have uw:=IP.tr GA;have Fp:=bG.kp h5 uw;have z10:=IP.size;have z12':=GA.size;have skip:X (r,rh,((i+1:Nat):Int),()) eE:=hX _ _ _ aB ⟨i+1,r,rh,ps,hs,v5,S5,dJ,rfl,rfl,Fp,u5.tr (Up.aO uw),r5.kp uw,q5.kp uw,ok5,st5,hn5,aB,Vq,d5.kp KU uw,λh0=>aB,aB⟩;intro J2 Qo;have j2:J2 () eE:=by
     apply Qo;have o1:cU eE w1.heap.size GR (eG (g,sl)):=(ob.aK u5.m λhs=>by have:=bd _ hs;omega).aK uw id;refine aE (k:=.i) g.aM (cV o1 rfl) (aX (l:=fi) (GJ (m,fc)) (Ds.holds λj v hj=>by rw[gI];exact hj) ?_);have rlt:∀b,r.b=some b->b.block<w9.heap.size:=λb bR=>r5.lt bR;have rhlt:∀b,rh.b=some b->b.block<w9.heap.size:=λb bR=>q5.lt bR;have bSr:∀k,S5 k\/BL r k->k<eE.heap.size:=λk hk=>hk.elim (λh=>by have:=Nm k h;omega) λ⟨b,bR,e⟩=>by have:=rlt b bR;omega
     refine fK.vu NM Wz oneHd aB (q5.kp uw) aB aB bSr ⟨en.aN,g.aM,true,m⟩ (sl:=fc) (rd10.1.aK GA cI λ_ _=>id) (λb bR=>⟨by have:=f10 b bR;omega,λhs=>?_,by have:=rd10.2.2.1 b bR;omega,λb' VM e=>?_⟩) λrh' fY q15 Fj nb15=>?_
     ·have:=f10 b bR;rcases hs with hs|⟨b',VM,e⟩
      ·have:=Nm _ hs;omega
      ·have:=rlt b' VM;omega
     ·have:=f10 b bR;have:=rhlt b' VM;omega
     have z15:=Fj.size;have nS:∀k,S5 k->¬BL rh k:=λk hk ⟨b,bR,e⟩=>((q5.zR k ⟨b,bR,e⟩).2) (.inl hk);have h15:jK E.e a v5 fY S5:=bG.aK Fp Fj nS;have m15':=Fj.mono (G:=λk=>wb.heap.size<=k/\¬S5 k) λk _ hk=>⟨by have:=(q5.zR k hk).1;have:=UA.size;omega,λhs=>nS k hs hk⟩;have u15:Up S S5 wb fY:=Up.iI (u5.tr (Up.aO uw)) m15';have r15:yH w6.heap.size (λk=>S5 k\/BL rh' k) fY r ps:=(r5.kp uw).aK Fj (λk _ hk _ h=>hk (.inr h)) λk hk cC hs=>by
      rcases hs with hs|⟨b,bR,e⟩
      ·exact hk (.inl hs)
      ·rcases nb15 b bR with⟨a',mU,e2⟩|h
       ·exact hk (.inr ⟨a',mU,by rw[e,e2]⟩)
       ·omega
     have d15:Gj (λk=>¬S5 k/\k<w6.heap.size) fY YT oF:=(d5.kp KU uw).aK KU Fj λk hk _ h=>by have:=(q5.zR k h).1;omega
     have o15:=Ds.aK Fj λ⟨b,bR,e⟩=>by have:=rhlt b bR;omega
     have hl15:(hs++[(⟨en.aN,g.aM,true,m⟩:qV)]).length<=i+1:=by simp;omega
     refine aE (k:=.i) m.kind (cV o15 rfl) (aF (λhbye=>?_) (λ_=>?_))
     ·refine aA rfl (aE (k:=.ptr) (some ⟨v5.tp,0,none⟩) (h15.cell rfl) ?_);refine cO (cs:=eI (en.aN:Int)) λjN b16 Du z16=>?_;have bd15:=bG.gX h15;refine VDrop_i (bG.kp h15 Du) ok5 (mO eX [(en.aN:Int)] b16 rfl dN) (λb bR=>by cases bR;exact⟨λhs=>by have h1:fY.heap.size<fY.heap.size:=bd15 _ hs;omega,b16.1.lt⟩) λ_ mG S17 h17 u17 ok17 _=>?_;have U17:=(Up.aO (S:=S5) Du).tr u17;refine dQ r rh' ps _ _ mG S17 h17 (u15.tr U17) ((r15.sub λk hk=>.inl hk).up U17) ((q15.sub λk hk=>.inl hk).up U17) ok17 aB Vq ⟨Ws.dO,Ws.u,Ws.fR,λf hf=>Ws.bK f (jI.1 hf).1⟩ (λh0=>by rw[h0] at dJ;simp at dJ) aB
     ·have h15d:=bG.dr h15;have o15d:=o15.aK (bY fY) id;have csp:=h15d.Ly hm5 (k:=3) rfl;have cel:fY.drew.cell? ((⟨en.a,0,none⟩:Addr).add 3)=some (.pointer (some ⟨Qq.sp,0,none⟩)):=by rw[<-ha2];exact csp
      refine aA rfl (aE (k:=.ptr) (some ⟨Qq.sp,0,none⟩) cel (aE (k:=.i) m.pos (cV o15d rfl) (aA rfl (aE (k:=.ptr) (some ⟨v5.sp,0,none⟩) (h15d.cell rfl) ?_))));obtain⟨SU,hU,_⟩:=h15d.sset;refine Tn hU ok5.u.2 λmk qB v18 fk f18=>?_;have K18:=(bY fY).tr fk;have h18:=bG.kp h15 K18;have o18:=o15.aK K18 id;have cel18:qB.cell? ((⟨en.a,0,none⟩:Addr).add 3)=some (.pointer (some ⟨Qq.sp,0,none⟩)):=by rw[<-ha2];exact h18.Ly hm5 (k:=3) rfl
      refine⟨cV o18 rfl,cel18,?_⟩;have U18:Up S S5 wb qB:=u15.tr (Up.aO K18);have hb18:Bs W0 E G S5 qB:=(hb.kp Kb).up U18;obtain⟨S9,h9,hs9,say9⟩:=h18.sesSay hb18 ok5 hm5;have bd15:=bG.gX h15;have z18:=K18.size;have wd:fY.drew.heap.size=fY.heap.size:=rfl;refine SRep_i (hb18.sub hs9) h9 (ok5.KZ Qq hm5) (v18.rd Ct) (λb bR hs=>by have:=bd15 _ (hs9 _ hs);have:=f18 b bR;omega) λz ms qA T hz hT uT okz Vp jf=>?_;rw[eadr];refine say9 z qA T ms uT hT okz Vp aB _ λrs pps v6 BO S20 hsd h20 u20 r20 ok20=>?_;have UU:Up S5 S20 fY BO:=(Up.aO K18).tr u20;have r20':=r15.aK (S':=λk=>S20 k\/BL rh' k) UU.m (λk _ hk _ h=>hk (.inl h)) λk hk cC hs=>hs.elim (λhs=>(UU.s k hs).elim (λh=>hk (.inl h)) λh=>aB) λhs=>hk (.inr hs);have rhlt':∀b,rh'.b=some b->b.block<fY.heap.size:=λb bR=>q15.lt bR;have rs20:yH qB.heap.size (λk=>S20 k\/BL rh' k) BO rs pps:=r20.cov λk hk=>hk.imp id λ⟨b,bR,e⟩=>by have:=rhlt' b bR;omega
      have hm5':Qq∈(v5.vN Qq.aN z.1).t.bK:=hm5;have hcnt:=yN.Ec hm5' hsd ok20;have e7:((v5.vN Qq.aN z.1).ch Qq.aN)=v5.ch en.aN:=by show v5.ch Qq.aN=_;rw[Cj]
      rw[e7,Cj] at hcnt;have ew:(v5.vN en.aN z.1).dO.dA=v.dO.dA:=by show v5.dO.dA=_;rw[st5.dO,e1]
      have hcw:=hcnt.2;rw[ew] at hcw;have z20:=UU.size;have bd20:=bG.gX h20;have r5lt:∀b,r.b=some b->b.block<fY.heap.size:=λb bR=>r15.lt bR;have lsum:ps.length+pps.length<=1000000:=by have:=hcnt.1;omega
      refine fK.lx nG VU VS aB r20' rs20 aB (λb bR=>by have:=r5lt b bR;omega) lsum aB (λk hk=>hk.elim (bd20 k) λ⟨b,bR,e⟩=>by have:=rhlt' b bR;omega) λr' DA v21 m21 nb21=>?_;have nR:∀k,S20 k->¬BL r k:=λk hk h=>(r20'.zR k h).2 (.inl hk);have h21:jK E.e a v6 DA S20:=bG.aK h20 m21 nR;have m21':=m21.mono (G:=λk=>wb.heap.size<=k/\¬S20 k) λk _ hk=>⟨by have:=(r20'.zR k hk).1;have:=UA.size;omega,λhs=>nR k hs hk⟩;have u21:Up S S20 wb DA:=Up.iI (u15.tr UU) m21';have q20:Gi w6.heap.size (λk=>S20 k\/BL r k) BO rh' (hs++[⟨en.aN,g.aM,true,m⟩]):=q15.aK (S':=λk=>S20 k\/BL r k) UU.m (λk _ hk _ h=>hk (.inl h)) λk hk cC hs=>hs.elim (λhs=>(UU.s k hs).elim (λh=>hk (.inl h)) λh=>aB) λhs=>hk (.inr hs);have q21:Gi w6.heap.size (λk=>S20 k\/BL r' k) DA rh' (hs++[⟨en.aN,g.aM,true,m⟩]):=q20.aK m21 (λk _ hk _ h=>hk (.inr h)) λk hk cC hs=>by
       rcases hs with hs|⟨b,bR,e⟩
       ·exact hk (.inl hs)
       ·rcases nb21 b bR with⟨a',mU,e2⟩|h
        ·exact hk (.inr ⟨a',mU,by rw[e,e2]⟩)
        ·omega
      have d21:Gj (λk=>¬S20 k/\k<w6.heap.size) DA YT oF:=((d15.aK KU UU.m λk hk _=>hk.1).wk λk hk _=>⟨λhs=>(UU.s k hs).elim hk.1 λh=>by have:=hk.2;omega,hk.2⟩).aK KU m21 λk hk _ h=>by have:=(r20'.zR k h).1;have:=hk.2;omega
      have z21:=m21.size;refine hX _ _ _ aB ⟨i+1,r',rh',ps++pps,_,v6,S20,dJ,rfl,rfl,h21,u21,v21,q21,ok20,st5.tr ((⟨rfl,rfl,rfl,rfl,rfl,rfl,rfl,rfl⟩:vL v5 (v5.vN Qq.aN z.1)).tr hsd.same),by rw[fJ];have:=hcnt.1;omega,hl15,λx hx=>?_,d21,λh0=>aB,aB⟩;rcases kE.1 hx with hx|hx
      ·exact Vq x hx
      ·exact(yN.pks hm5' hsd x hx).1
    refine aF (λ_=>skip) (λ_=>aE (k:=.i) m.kind (cV Ds rfl) (aF (λ_=>aE (k:=.i) m.kind (cV Ds rfl) (aF (λ_=>skip) (λ_=>j2))) (λ_=>j2)))
   ·have ei:i=oF.length:=aB;subst ei;refine dQ r rh ps hs v5 w9 S5 h5 u5 (r5.sub λk hk=>.inl hk) (q5.sub λk hk=>.inl hk) ok5 aB Vq Ws (λh0=>?_) aB;obtain⟨x1,x2,x3⟩:=hz5 (by rw[h0];rfl);exact⟨x1.trans (e6 h0),by rw[x2];exact f7,x3⟩
  have z7:=k7.size;have hA7:=bG.kp hA k7;have bA:=bG.gX hA;have v7':yH w6.heap.size SA w7 r1 UL:=v7.sub λk hk=>bA k hk;have d7:Gj (λk=>¬SA k/\k<w6.heap.size) w7 YT oF:=(rowD.wk λk h1 h2=>⟨h1,h2⟩).kp KU k7;have ech:(v.oO en.aN c1).ch en.aN=c1:=if_pos rfl;have U7:=UA.tr (Up.aO k7);have ldg:=rowD.len;refine aJ (λuB=>?_) (λhz=>?_)
  ·refine aA rfl (aE (k:=.i) v.fR (hA7.cell rfl) (aA rfl ?_));obtain⟨ix,hix⟩:=List.getElem?_of_mem jj;refine hA7.lE okv1 (i:=ix) (e:=en) hix λFY S22 h22 u22=>?_;have hent:=ok.Nk en jj;have Cu:=ok.fR;refine j1 ((v.oO en.aN c1).KP ix {en with lE:=v.fR}) FY S22 h22 (U7.tr u22) (v7'.up u22) (touch_ok okv1 (e:=en) hix rfl rfl rfl ⟨Cu.1,lK _⟩) ((d7.aK KU u22.m λk hk _=>hk.1).wk λk hk _=>⟨λhs=>(u22.s k hs).elim hk.1 λh=>by have:=hk.2;omega,hk.2⟩) ⟨{en with lE:=v.fR},(sZ (e':={en with lE:=v.fR}) ok.t.sO hix rfl).2 (.inl rfl),rfl,rfl,rfl⟩ rfl rfl rfl (λf hf=>?_) ech (λh0=>?_) (by have:=u22.size;omega)
   ·rcases(sZ (e':={en with lE:=v.fR}) ok.t.sO hix rfl).1 hf with rfl|⟨hf,_⟩
    ·exact⟨en,jj,rfl⟩
    ·exact⟨f,hf,rfl⟩
   ·rw[h0] at ldg;simp at ldg;omega
  ·exact j1 (v.oO en.aN c1) w7 SA hA7 U7 v7' okv1 d7 ⟨en,jj,rfl,rfl,rfl⟩ rfl rfl rfl (λf hf=>⟨f,hf,rfl⟩) ech (λ_=>rfl) z7
 ·refine aF (λ_=>aX (l:=kG) (JC (g,sl)) tg ?_) (λh=>by cases h);refine begin_i h3 (hb.kp K3d) okB aB hp16 rdg og lgb Nj.seq ⟨aB,aB⟩ λr rh ps hs v' w5 S5 g1 g2 g3 g4 g5 g6=>?_;have cn:=g6.Ec ok.dO.dA.2 g5;exact hQ r rh ps hs v' w5 S5 ⟨g1,(Up.aO K3d).tr g2,g3.qM K3d.size,g4.qM K3d.size,g5,cn.1,cn.2.1,cn.2.2.1,.inr ⟨g,e,Nj,.inr ⟨Xf,.inl ⟨by rw[dW];exact pA,by rw[dW];exact g6⟩⟩⟩,cn.2.2.2⟩
end
end
section
structure Quiet(c:kP):Prop where
 iI:c.s.iI=false
 IQ:∀x,¬c.s.IQ x
 gY:c.gY=[]
structure ChQ(c c':kP):Prop where
 dA:c'.s.dA=c.s.dA
 next:c'.s.next=c.s.next
 f:c'.s.f=c.s.f
 n:c'.s.n=c.s.n
 aM:c'.aM=c.aM
 t:c'.t=c.t
 q:Quiet c'
def oz(v:iQ):Prop:=(∀e∈v.t.bK,Quiet (v.ch e.aN))/\∀k,(v.lf k).getD (false:Bool)=false
def expd(v:iQ)(e:cY):Bool:=decide (e.lE+v.dO.idle<=v.fR+1)
structure TickO(G:Gr)(B:Int)(ee a:Nat)(v:iQ)(w:aH)(S:BS)(r:Sl)(ps:List Pk)(v':iQ)(w':aH)(S':BS):Prop where
 Uw:jK ee a v' w' S'
 up:Up S S' w w'
 row:yH w.heap.size S' w' r ps
 ok:v'.Ok G B
 dO:v'.dO=v.dO
 fR:v'.fR=v.fR+1
 u:v'.u=lapU (v.fR+1) v.u (QT 0 v.u)
 bK:∀f∈v'.t.bK,f∈v.t.bK
 len:ps.length<=v.dO.sT*(2*v.dO.dA+1)
 pks:∀q∈ps,q.2.length<=3000
 q:oz v->(lapL (v.fR+1) (QT 0 v.u)=[]\/v.t.bK=[])->v'.t.bK=v.t.bK.filter (λe=>!expd v e)/\v'.t.gr=v.t.gr/\F2 (λe p=>uv (e.aN:Int) ⟨e.aM,3,0,0,3,[]⟩ p) (v.t.bK.filter λe=>expd v e) ps/\(∀e∈v.t.bK,ChQ (v.ch e.aN) (v'.ch e.aN))/\v'.KZ=v.KZ/\∀k,(v'.lf k).getD (false:Bool)=false
section
variable{W0 w:aH}{S:BS}{a:Nat}{v:iQ}{E:qO}{G:Gr}{B:Int}{ee:Nat}
end
end
def IW(c:wV)(m sp tp lp:Nat):iQ:=⟨c,sp,tp,lp,0,List.replicate m 0,⟨c.sT,[],λ_=>none⟩,[],λ_=>none,0,λ_=>vA 0 0,λ_=>Rb 0 0⟩
theorem srv0_ok{G:Gr}{c:wV}(okG:sS G)(UM:c.Ok){B:Int}(sp tp lp:Nat):(IW c G.m sp tp lp).Ok G B:=
 ⟨UM,by show(0:Int)<=0/\(0:Int)<=1000000000;omega,by
  show(List.replicate G.m (0:Int)).length=G.E.length/\(List.replicate G.m (0:Int)).length<=512;have:=okG.m1;rw[List.length_replicate];exact⟨rfl,aB⟩,⟨UM.sT,dE _,List.Pairwise.nil,λe he=>by cases he⟩,rfl,λe he=>(by cases he),λe he=>(by cases he),λe he=>(by cases he),λk hk=>(by cases hk)⟩
theorem pz{ee a sp tp lp m:Nat}{c:wV}{w:aH}{S1 S2:BS}(h1:AE sp (List.replicate m 0) w S1)(h2:DG tp ⟨c.sT,[],λ_=>none⟩ w S2)(h3:wL lp zY Ng (λ_=>none) 0 w (λk=>k=lp))(h4:uL a EB (Cw ee (IW c m sp tp lp)) w (λk=>k=a))(d12:∀k,S1 k->S2 k->False)(d1:¬S1 lp/\¬S1 a)(d2:¬S2 lp/\¬S2 a)(d3:lp≠a):jK ee a (IW c m sp tp lp) w (λk=>((S1 k\/S2 k)\/k=lp)\/k=a):=by
 have p0:=gS.nil (ι:=SI) w;have p1:=gS.put p0 (i:=.set) (by rfl) h1 λk h _=>h;have hG:VN (IW c m sp tp lp) w S2:=bJ.emp h2;have p2:=gS.put p1 (i:=.Lg) (by rfl) hG λk h h'=>h.elim id λh=>d12 k h h';have p3:=gS.put p2 (i:=.lost) (by rfl) h3 λk h (h':k=lp)=>h.elim (λh=>h.elim id λh=>d1.1 (h'▸h)) λh=>d2.1 (h'▸h);have p4:=gS.put p3 (i:=.Uw) (by rfl) h4 λk h (h':k=a)=>h.elim (λh=>h.elim (λh=>h.elim id λh=>d1.2 (h'▸h)) λh=>d2.2 (h'▸h)) λ(h:k=lp)=>d3 (h.symm.trans h');have e:FZ (FZ (FZ (FZ (λ_:SI=>DR) .set (AE sp (List.replicate m 0))) .Lg (VN (IW c m sp tp lp))) .lost (wL lp zY Ng (λ_=>none) 0)) .Uw (uL a EB (Cw ee (IW c m sp tp lp)))=YK ee a (IW c m sp tp lp):=by
  funext i
  cases i<;>rfl
 rw[e] at p4;have es:DH ee (IW c m sp tp lp) w (λ_=>False):=gS.nil (ι:=Nat) w;exact⟨_,_,As.ext p4 (T:=λk=>((S1 k\/S2 k)\/k=lp)\/k=a) λk=>⟨λh=>h.elim (λh=>h.elim (λh=>h.elim (λh=>h.elim False.elim λh=>.inl (.inl (.inl h))) λh=>.inl (.inl (.inr h))) λh=>.inl (.inr h)) .inr,λh=>h.elim (λh=>h.elim (λh=>h.elim (λh=>.inl (.inl (.inl (.inr h)))) λh=>.inl (.inl (.inr h))) λh=>.inl (.inr h)) .inr⟩,es,λk _ h=>h,λk=>⟨.inl,λh=>h.elim id False.elim⟩⟩
theorem VNew_i{g:GT}{G:Gr}{c:wV}{w:aH}{Q:cR->Int->aH->Prop}(hg:GQ w g G)(ok:sS G)(UM:c.Ok)
  (hQ:∀E a sp tp lp W0 w' S',jK E.e a (IW c G.m sp tp lp) w' S'->Bs W0 E G S' w'->aL w W0->aL w w'->(∀k,S' k->w.heap.size<=k)->Q (some ⟨a,0,none⟩) 0 w'):AJ g (wS c) w Q:=by
 unfold AJ;refine bD λw1 o1 k1 z1=>?_;refine cO (cs:=JD c) λw2 b2 k2 z2=>?_;refine aX (l:=[.slice,.slice,.slice]) g (mJ (g:=g) (o1.aK k2 id)) ?_;refine ENew_i (g:=g) (hg.aO (k1.tr k2)) ok λE w3 hE k3=>?_;refine aF (λh=>by cases h) (λ_=>?_);have b3:=bG.kp b2 k3;have tc:∀{wx:aH},uL w1.heap.size xU (JD c) wx (λk=>k=w1.heap.size)->bQ wx ⟨w1.heap.size,0,none⟩ 0 (qT JA (wS c)):=λb=>b.1.holds λj v hj=>by rw[gI];exact hj
 refine aX (l:=JA) (wS c) (tc b3) (Tp UM λw4 k4=>aF (λh=>by cases h) (λ_=>?_));have b4:=bG.kp b3 k4;refine aE (k:=.i) (c.sT:Int) (aP b4 rfl) ?_;refine TNew_i' UM.sT λtp w5 ST hT k5 hTlo=>?_;have K5:=k4.tr (k5.tr (bY w5));have hE5:=hE.aO K5;have b5:=bG.kp b4 (k5.tr (bY w5));have hT5:=bG.dr hT;have bT:=bG.gX hT5;have hm:=ok.m1;have z3:=k3.size;have z4:=k4.size;have z5:=k5.size;have wd:w5.drew.heap.size=w5.heap.size:=rfl;have dQ:∀wy sp lp SU,aL w5.drew wy->AE sp (List.replicate G.m 0) wy SU->wL lp zY Ng (λ_=>none) 0 wy (λk=>k=lp)->(∀k,SU k->w5.heap.size<=k)->¬SU lp->w5.heap.size<=lp->aG wy (Cw E.e (IW c G.m sp tp lp)).toArray EB λa w9=>Q (some a) 0 w9:=by
  intro wy sp lp SU ky hS hM hSlo hn hlp;have bS:=bG.gX hS;have bM:=bG.gX hM lp rfl;refine cO λw9 b9 k9 z9=>?_;have zy:=ky.size;have qS:=pz (ee:=E.e) (c:=c) (bG.kp hS k9) (bG.kp hT5 (ky.tr k9)) (bG.kp hM k9) b9 (λk h1 h2=>by have:=hSlo k h1;have:=bT k h2;omega) ⟨hn,λh=>by have:=bS _ h;omega⟩ ⟨λh=>by have:=bT _ h;omega,λh=>by have:=bT _ h;omega⟩ aB;have lo3:∀k,(((SU k\/ST k)\/k=lp)\/k=wy.heap.size)->w3.heap.size<=k:=λk hk=>by
   rcases hk with((hk|hk)|hk)|hk
   ·have:=hSlo k hk;omega
   ·have:=hTlo k hk;omega
   ·omega
   ·omega
  exact hQ E _ sp tp lp w3 w9 _ qS ⟨hE,(K5.tr ky).tr k9,lo3⟩ ((k1.tr k2).tr k3) ((((k1.tr k2).tr k3).tr (K5.tr ky)).tr k9) λk hk=>by have:=lo3 k hk;have:=k1.size;have:=k2.size;omega
 refine aX (l:=JA) (wS c) (tc b5) (aA rfl (aE (k:=.ptr) (some ⟨E.t.t,0,none⟩) hE5.cells.1 (aA rfl (aE (k:=.ptr) (some ⟨E.t.H.g,0,none⟩) hE5.RQ.cells.1 ⟨tQ hE5.RQ.IS ⟨tc b5,?_,?_⟩,?_⟩))))
 ·refine Tm aB λsp w7 SU hU k7 lk=>⟨tc (bG.kp b5 k7),?_⟩;refine rA (ek:=zY) (kn:=Ng) λhm8 k8=>?_;have bU:=bG.gX hU;have z7:=k7.size;refine⟨tc (bG.kp b5 (k7.tr k8)),dQ _ sp w7.heap.size SU (k7.tr k8) (bG.kp hU k8) ⟨hm8,λ_=>Iff.rfl⟩ (λk hk=>by have:=lk k hk;omega) (λh=>by have:=bU _ h;omega) aB⟩
 ·refine rA (ek:=zY) (kn:=Ng) λhm8 k8=>⟨tc (bG.kp b5 k8),?_⟩;have zm:(w5.drew.alloc (.map #[] 0)).heap.size=w5.drew.heap.size+1:=by simp
  refine Tm aB λsp w7 SU hU k7 lk=>⟨tc (bG.kp b5 (k8.tr k7)),?_⟩;exact dQ _ sp w5.drew.heap.size SU (k8.tr k7) hU ⟨hm8.aK k7 id,λ_=>Iff.rfl⟩ (λk hk=>by have:=lk k hk;omega) (λh=>by have:=lk _ h;omega) aB
 ·refine rA (ek:=zY) (kn:=Ng) λhm8 k8=>?_;have zm:(w5.drew.alloc (.map #[] 0)).heap.size=w5.drew.heap.size+1:=by simp
  have hE8:=hE5.aO k8;refine⟨hE8.RQ.cells.1,hE8.cells.1,tc (bG.kp b5 k8),tQ hE8.RQ.IS ⟨tc (bG.kp b5 k8),?_⟩⟩;refine Tm aB λsp w7 SU hU k7 lk=>⟨tc (bG.kp b5 (k8.tr k7)),?_⟩;exact dQ _ sp w5.drew.heap.size SU (k8.tr k7) hU ⟨hm8.aK k7 id,λ_=>Iff.rfl⟩ (λk hk=>by have:=lk k hk;omega) (λh=>by have:=lk _ h;omega) aB
structure BD where
 dO:wV
 ch:Option (Nat×kP)
 aM:Int
 pQ:Bool
 why:Int
 at':Int
 lR:List Int
 dK:Bool
abbrev Cx(v:BD)(IM:Sl):List Value:=[aD (v.dO.sT:Int),aD (v.dO.dA:Int),aD v.dO.MA,aD v.dO.nO,aD v.dO.cap,aD v.dO.idle,.pointer (v.ch.map λp=>⟨p.1,0,none⟩),aD v.aM,.bool v.pQ,aD v.why,aD v.at',sv IM,.bool v.dK]
def chO:Option (Nat×kP)->As
 |none=>DR
 |some p=>lW p.1 p.2
instance chO.loc:∀{o:Option (Nat×kP)},bG (chO o)
 |none=>inferInstanceAs (bG DR)
 |some p=>inferInstanceAs (bG (lW p.1 p.2))
def SP(d:Nat)(IM:Sl)(v:BD):As:=bJ (uL d Su (Cx v IM)) (bJ (chO v.ch) (DQ 1 eI IM v.lR))
instance{d:Nat}{IM:Sl}{v:BD}:bG (SP d IM v):=by unfold SP;infer_instance
def AF(d:Nat)(v:BD):As:=Ex λIM:Sl=>SP d IM v
instance{d:Nat}{v:BD}:bG (AF d v):=by unfold AF;infer_instance
structure BD.Ok(B:Int)(v:BD):Prop where
 dO:v.dO.Ok
 aM:0<=v.aM/\v.aM<=B
 lR:v.lR.length<=70000
 pQ:v.pQ=true->v.ch≠none
 ch:∀p,v.ch=some p->p.2.Ok/\p.2.s.dA=v.dO.dA/\p.2.dl<=B/\(v.pQ=true->p.2.aM=v.aM)
def PX(c:wV):BD:=⟨c,none,0,false,0,-1,[],false⟩
theorem drv0_ok{c:wV}(ok:c.Ok):(PX c).Ok 0:=⟨ok,by show(0:Int)<=0/\(0:Int)<=0;omega,dE _,λh=>(by cases h),λp h=>by cases h⟩
theorem BD.Ok.mono{B B':Int}{v:BD}(h:v.Ok B)(hB:B<=B'):v.Ok B':=⟨h.dO,by have:=h.aM;omega,h.lR,h.pQ,λp hp=>by have:=h.ch p hp;exact⟨this.1,this.2.1,aB,this.2.2.2⟩⟩
theorem Sw{α:Type}{n:Nat}{aY:α->List Value}(gK:∀x,aY x≠[]){w:aH}:DQ n aY aZ ([]:List α) w (λ_=>False):=⟨Rd.nil _ _ _,gK,λb hb=>(by cases hb),λk=>⟨False.elim,λ⟨b,hb,_⟩=>by cases hb⟩⟩
theorem DNew_i{c:wV}{w:aH}{Q:cR->Int->aH->Prop}(ok:c.Ok)(hQ:∀w',AF (w'.heap.size-1) (PX c) w' (λk=>k=w'.heap.size-1)->w.heap.size<w'.heap.size->aL w w'->w.heap.size<=w'.heap.size-1->Q (some ⟨w'.heap.size-1,0,none⟩) 0 w'):AU (wS c) w Q:=by
 unfold AU;refine cO (cs:=JD c) λw1 b1 k1 z1=>?_;refine aX (l:=JA) (wS c) (b1.1.holds λj v hj=>by rw[gI];exact hj) (Tp ok λw2 k2=>aF (λh=>by cases h) (λ_=>?_));have b2:=bG.kp b1 k2;refine aX (l:=JA) (wS c) (b2.1.holds λj v hj=>by rw[gI];exact hj) ?_;refine cO (cs:=Cx (PX c) aZ) λw3 b3 k3 z3=>?_;have z2:=k2.size;have e:w3.heap.size-1=w2.heap.size:=aB;have:=hQ w3;rw[e] at this;exact this ⟨aZ,_,_,b3,⟨_,_,(show chO none w3 (λ_=>False) fromλ_=>id),Sw cI,λ_ h _=>h,λ_=>Iff.rfl⟩,λ_ _ h=>h.elim id id,λk=>⟨.inl,λh=>h.elim id λh=>h.elim False.elim False.elim⟩⟩ aB ((k1.tr k2).tr k3) aB
section
theorem nw{d:Nat}{v:BD}{IM:Sl}{w:aH}{SC SR:BS}(h1:uL d Su (Cx v IM) w (λk=>k=d))(h2:chO v.ch w SC)(h3:DQ 1 eI IM v.lR w SR)(d1:¬SC d)(d2:¬SR d)(d3:∀k,SC k->SR k->False):SP d IM v w (λk=>k=d\/(SC k\/SR k)):=
 bJ.xR h1 (bJ.xR h2 h3 d3) λk (e:k=d) h=>h.elim (λh=>d1 (e▸h)) λh=>d2 (e▸h)
theorem SP.parts{d:Nat}{v:BD}{IM:Sl}{w:aH}{S:BS}(h:SP d IM v w S):∃SC SR,uL d Su (Cx v IM) w (λk=>k=d)/\chO v.ch w SC/\DQ 1 eI IM v.lR w SR/\¬SC d/\¬SR d/\(∀k,SC k->SR k->False)/\∀k,S k↔k=d\/SC k\/SR k:=by
 obtain⟨S1,S2,h1,⟨SC,SR,h2,h3,d3,e3⟩,dd,e⟩:=h;have hd:S1 d:=(h1.2 d).2 rfl;exact⟨SC,SR,⟨h1.1,λ_=>Iff.rfl⟩,h2,h3,λh=>dd d hd ((e3 d).2 (.inl h)),λh=>dd d hd ((e3 d).2 (.inr h)),d3,λk=>by rw[e k,h1.2 k,e3 k]⟩
section
variable{d:Nat}{v:BD}{IM:Sl}{w:aH}{S:BS}{B:Int}
theorem SP.cell(h:SP d IM v w S){k:Nat}{x:Value}(hk:(Cx v IM)[k]? =some x):w.cell? ((⟨d,0,none⟩:Addr).add k)=some x:=by
 obtain⟨S1,S2,h1,_⟩:=h;exact aP h1 hk
theorem SP.set{t:TypeId}{o:Nat}{x:Value}{v':BD}{K:aH->Prop}(h:SP d IM v w S)(hi:(prog.info? t).map (·.size)=some 1)(ho:o<13)(hx:x.cells=#[x])(h1:x.oneCell'=true)(he:(Cx v IM).set o x=Cx v' IM)(uj:v'.ch=v.ch)(hw:v'.lR=v.lR)(hK:∀w',SP d IM v' w' S->Up S S w w'->K w'):aI prog t ((⟨d,0,none⟩:Addr).add o) x w K:=by
 obtain⟨SC,SR,hB,hC,hR,d1,d2,d3,e⟩:=h.parts;refine qY hB hi (by simpa using ho) hx h1 λw' b' u'=>?_;rw[he] at b';have hm:∀k,SC k\/SR k->¬k=d:=λk hk e=>hk.elim (λh=>d1 (e▸h)) λh=>d2 (e▸h);have hC':chO v'.ch w' SC:=by rw[uj];exact bG.aK hC u'.m λk hk=>hm k (.inl hk)
 have hR':DQ 1 eI IM v'.lR w' SR:=by rw[hw];exact bG.aK hR u'.m λk hk=>hm k (.inr hk)
 exact hK w' (As.ext (nw b' hC' hR' d1 d2 d3) λk=>(e k).symm) (Up.at (u'.m.mono λk _ hk=>(e k).2 (.inl hk)))
theorem SP.setWay{way':List Int}{UJ:Sl}{SR':BS}{K:aH->Prop}(h:SP d IM v w S)(hr:DQ 1 eI UJ way' w SR')(hR':∀k,SR' k->¬S k\/BL IM k)(hK:∀w' S',SP d UJ {v with lR:=way'} w' S'->aU (λk=>k=d) w w'->(∀k,S' k->S k\/SR' k)->K w'):aI prog yI ((⟨d,0,none⟩:Addr).add 11) (sv UJ) w K:=by
 obtain⟨SC,SR,hB,hC,hR,d1,d2,d3,e⟩:=h.parts;have key:∀k,SR' k->¬k=d/\¬SC k:=λk hk=>by
  rcases hR' k hk with h|h
  ·exact⟨λh'=>h ((e k).2 (.inl h')),λh'=>h ((e k).2 (.inr (.inl h')))⟩
  ·have hs:SR k:=(hR.2.2.2 k).2 h;exact⟨λh'=>d2 (h'▸hs),λh'=>d3 k h' hs⟩
 refine qY hB oW dN rfl rfl λw' b' u'=>?_;have hC':chO v.ch w' SC:=bG.aK hC u'.m λk hk e=>d1 (e▸hk);have Vb:DQ 1 eI UJ way' w' SR':=bG.aK hr u'.m λk hk=>(key k hk).1;exact hK w' _ (nw (v:={v with lR:=way'}) b' hC' Vb d1 (λh=>(key d h).1 rfl) λk h1 h2=>(key k h2).2 h1) u'.m λk hk=>by
  rcases hk with hk|hk|hk
  ·exact .inl ((e k).2 (.inl hk))
  ·exact .inl ((e k).2 (.inr (.inl hk)))
  ·exact .inr hk
theorem DLive_i{Q:Bool->aH->Prop}(h:AF d v w S)(hQ:Q v.pQ w):rX (some ⟨d,0,none⟩) w Q:=by
 unfold rX;obtain⟨IM,h⟩:=h;exact aF (λ_=>aA rfl (aE (k:=.bool) v.pQ (h.cell rfl) hQ)) (λh=>by simp at h)
theorem DConn_i{Q:Int->aH->Prop}(h:AF d v w S)(hQ:Q v.aM w):PI (some ⟨d,0,none⟩) w Q:=by
 unfold PI;obtain⟨IM,h⟩:=h;exact aF (λh=>by simp at h) (λ_=>aA rfl (aE (k:=.i) v.aM (h.cell rfl) hQ))
theorem Pe{n:Int}{Q:Bool->aH->Prop}(hQ:Q (decide (0<=n/\n<=65535)) w):mQ n w Q:=by
 unfold mQ;refine aJ (λh=>?_) (λh=>?_)
 ·have:decide (0<=n/\n<=65535)=decide (n<=65535):=by
   by_cases h2:n<=65535
   ·rw[decide_eq_true h2,decide_eq_true ⟨aB,h2⟩]
   ·rw[decide_eq_false h2,decide_eq_false λh=>h2 h.2]
  rw[this] at hQ;exact hQ
 ·rw[decide_eq_false λh'=>h h'.1] at hQ;exact hQ
theorem AF.chan(h:AF d v w S){p:Nat}{c:kP}(hc:v.ch=some (p,c)):∃S1,lW p c w S1/\(∀k,S1 k->S k)/\w.cell? ((⟨d,0,none⟩:Addr).add 6)=some (.pointer (some ⟨p,0,none⟩))/\∀c' D w' T,Up S1 T w w'->bJ (lW p c') D w' T->∃S',bJ (AF d {v with ch:=some (p,c')}) D w' S'/\Up S S' w w':=by
 obtain⟨IM,h⟩:=h;have c6:=h.cell (k:=6) rfl;rw[hc] at c6;have f:=(bJ.r h).c λT hT=>bJ.l hT;rw[hc] at f;obtain⟨S1,h1,hs,eO⟩:=f;refine⟨S1,h1,hs,c6,λc' D w' T u hT=>?_⟩;obtain⟨S',h',u'⟩:=eO _ D w' T u hT;refine⟨S',h'.mono (λ_ h=>⟨IM,h.mono (λ_ h=>?_) λ_ h=>h⟩) λ_ h=>h,u'⟩;have e:Cx {v with ch:=some (p,c')} IM=Cx v IM:=by unfold Cx;rw[hc];rfl
 rw[e];exact h
theorem dpush_i{p:Nat}{c:kP}{fR:Int}{m:gV}{Q:Sl->Int->aH->Prop}(h:AF d v w S)(hc:v.ch=some (p,c))(UM:c.Ok)(hm:m.cD=[])
  (hQ:∀r ds b w' S',AF d {v with ch:=some (p,(c.push b).2.1)} w' S'->Up S S' w w'->RowQ w.heap.size S' w' r ds->(c.push b).2.1.Ok->js c (c.push b).2.1 (c.push b).1.length->BOk m b->F2 GOk (c.push b).1 ds->Q r (c.push b).2.2 w'):BJ (some ⟨d,0,none⟩) fR (GJ (m,aZ)) w Q:=by
 unfold BJ;refine cO (cs:=tN (m,aZ)) λw1 b1 k1 z1=>?_;refine aX (l:=fi) (GJ (m,aZ)) (b1.1.holds λj v hj=>by rw[gI];exact hj) ?_;refine Enc_i (by rw[hm];exact Rd.nil _ _ _) (λb hb=>by cases hb) (by rw[hm];simp) λsb out eb w2 k2 Nd f2 l2 g2=>?_;have K2:=k1.tr k2;obtain⟨S1,h1,xS,c6,eO⟩:=(bG.kp h K2).chan hc;rw[hm] at l2;have l60:out.length<=60:=by simpa using l2
 refine aA rfl (aE (k:=.ptr) (some ⟨p,0,none⟩) c6 (zw h1 UM Nd.1 aB λrg w3 S3 h3 u3 ok3=>?_));obtain⟨S4,h4,u4⟩:=eO _ _ w3 S3 u3 h3;obtain⟨S5,h5,u5,g5⟩:=Tf h4;have pf:=Jf UM (b:=out) aB;have l16:(c.push out).1.length<=1000:=by have h1:=pf.1.n;have h2:=ok3.s.RV;have h3':=ok3.s.dA;omega
 refine Br g5 l16 (λg hg=>by have:=pf.2 g hg;omega) λr ds w6 k6 v6 f6=>?_;have U6:Up S S5 w w6:=(((Up.aO K2).tr u4).tr u5).tr (Up.aO k6);have Nm:=bG.gX h5;have zz:=K2.size;have zu:=u4.size;exact hQ r ds out w6 S5 (bG.kp h5 k6) U6 ((v6.sub λk hk=>Nm k hk).qM aB) ok3 pf.1 (λhw=>(g2 hw).1) f6
structure Wm(B:Int)(d:Nat)(v:BD)(w:aH)(S:BS)(r:Sl)(ds:List (List cG))(v':BD)(w':aH)(S':BS):Prop where
 drv:AF d v' w' S'
 up:Up S S' w w'
 row:RowQ w.heap.size S' w' r ds
 ok:v'.Ok (B+16)
 dO:v'.dO=v.dO
 len:ds.length<=v.dO.dA+1
 pks:∀x∈ds,x.length<=3000
theorem Wm.same(h:AF d v w S)(ok:v.Ok B){w':aH}(k:aL w w'):Wm B d v w S aZ [] v w' S:=
 ⟨bG.kp h k,Up.aO k,fK.nil,ok.mono aB,rfl,dE _,λx hx=>by cases hx⟩
theorem yp{gs:List fG}{ds:List (List cG)}(h:F2 GOk gs ds):∀x∈ds,x.length<=3000:=λx hx=>by obtain⟨_,_,hp⟩:=h.mem hx;exact hp.1
abbrev GY(a n:Int):gV:=⟨1,a,n,[],0,VZ⟩
def ZF(v:BD)(a n:Int)(v':BD)(ds:List (List cG)):Prop:=
 if(0<=a/\a<=65535)/\0<=n/\n<=65535 then∃p b,BOk (GY a n) b/\v'=⟨v.dO,some (p,((vA v.dO.dA (v.aM+1)).push b).2.1),v.aM+1,true,0,a,[],false⟩/\F2 GOk ((vA v.dO.dA (v.aM+1)).push b).1 ds else v'=v/\ds=[]
theorem drvCfg(h:SP d IM v w S):bQ w ((⟨d,0,none⟩:Addr).add 0) 0 (qT JA (wS v.dO)):=by
 refine iB.2 λk x hk=>?_;have:(Cx v IM)[k]? =some x:=by
  match k,hk with
  |0,hk=>exact hk
  |1,hk=>exact hk
  |2,hk=>exact hk
  |3,hk=>exact hk
  |4,hk=>exact hk
  |5,hk=>exact hk
  |k+6,hk=>simp[qT] at hk
 have c:=h.cell this;rw[aS] at c ⊢;rw[aS,show 0+0+(0+k)=0+k by omega];exact c
theorem DStart_i{fR at_ node:Int}{Q:Sl->Int->aH->Prop}(h:AF d v w S)(ok:v.Ok B)(hB:0<=B/\B<=2000000000)
  (hQ:∀r ds e v' w' S',Wm B d v w S r ds v' w' S'->ZF v at_ node v' ds->Q r e w'):KE (some ⟨d,0,none⟩) fR at_ node w Q:=by
 unfold KE;have no:¬((0<=at_/\at_<=65535)/\0<=node/\node<=65535)->Q aZ 1 w:=λhn=>hQ _ [] _ v w S (Wm.same h ok (aU.refl _ _)) (by unfold ZF;rw[if_neg hn];exact⟨rfl,rfl⟩);refine aF (λh=>by simp at h) (λ_=>Pe (aF (λhb=>no λhh=>by rw[decide_eq_true hh.1] at hb;cases hb) (λhb=>?_)));have ha:0<=at_/\at_<=65535:=by simpa using hb
 refine Pe (aF (λhb=>no λhh=>by rw[decide_eq_true hh.2] at hb;cases hb) (λhb=>?_));have hn:0<=node/\node<=65535:=by simpa using hb
 obtain⟨IM,h⟩:=h;have hd:=bG.dr h;have hconn:=ok.aM;have PV:=ok.dO.dA;refine aA rfl (aX (l:=JA) (wS v.dO) (drvCfg hd) (aA rfl (aE (k:=.i) v.aM (hd.cell rfl) ?_)));rw[gZ aB aB];refine CNew_i ok.dO ⟨aB,aB⟩ λcp w3 SH hH k3 Gc=>aF (λh=>by cases h) (λ_=>?_);have K3:=((bY w).tr k3).tr (bY w3);have h3:=bG.kp h K3;refine aA rfl (aX (l:=JA) (wS v.dO) (drvCfg h3) (aA rfl (aE (k:=.i) v.aM (h3.cell rfl) (aA rfl ?_))));rw[gZ aB aB];obtain⟨SC,SR,hB3,hC,hR,d1,d2,d3,e⟩:=h3.parts
 let v1:BD:=⟨v.dO,some (cp,vA v.dO.dA (v.aM+1)),v.aM+1,true,0,at_,[],false⟩
 have bd:=bG.gX h;have hdw:d<w.heap.size:=bd d ((e d).2 (.inl rfl));have wd:w.drew.heap.size=w.heap.size:=rfl;refine eY (vs:=Cx v1 aZ) hB3.1 Zq rfl (by intro u hu;simp at hu;rcases hu with rfl|rfl|rfl|rfl|rfl|rfl|rfl|rfl|rfl|rfl|rfl|rfl|rfl<;>rfl) λw4 o4 m4 _=>?_;have hH4:lW cp (vA v.dO.dA (v.aM+1)) w4 SH:=bG.aK (bG.dr hH) m4 λk hk e=>by have:=Gc k hk;omega
 have h4:AF d v1 w4 (λk=>k=d\/(SH k\/False)):=⟨aZ,nw (v:=v1) ⟨o4,λ_=>Iff.rfl⟩ hH4 (Sw cI) (λh=>by have:=Gc d h;omega) id λ_ _ h=>h⟩;have U4:Up S (λk=>k=d\/(SH k\/False)) w w4:=⟨K3.wk.trans m4 λk _ hk=>(e k).2 (.inl hk),λk hk=>by
  rcases hk with hk|hk|hk
  ·exact .inl ((e k).2 (.inl hk))
  ·exact .inr (by have:=Gc k hk;omega)
  ·exact hk.elim⟩
 refine dpush_i (m:=GY at_ node) h4 rfl (OL PV.2) rfl λr ds b w5 S5 h5 u5 r5 ok5 cs5 hb5 f5=>?_;have hn5:=cs5.n;have hr5:=ok5.s.RV;have hw5:=cs5.dA;have jk:((vA v.dO.dA (v.aM+1)).push b).2.1.dl=0:=cs5.dl;have hc5:((vA v.dO.dA (v.aM+1)).push b).2.1.aM=v.aM+1:=cs5.aM;have hww:(vA v.dO.dA (v.aM+1)).s.dA=v.dO.dA:=rfl;rw[hww] at hw5;refine hQ r ds _ _ w5 S5 ⟨h5,U4.tr u5,r5.qM U4.size,⟨ok.dO,⟨by show 0<=v.aM+1;omega,by show v.aM+1<=B+16;omega⟩,dE _,λ_=>by simp,λq hq=>?_⟩,rfl,?_,yp f5⟩ ?_
 ·cases hq;exact⟨ok5,hw5,by rw[jk];omega,λ_=>hc5⟩
 ·rw[<-f5.len];omega
 ·unfold ZF;rw[if_pos ⟨ha,hn⟩];exact⟨cp,b,hb5,rfl,f5⟩
def DTickR(v v':BD)(ds:List (List cG)):Prop:=
 if v.pQ=true then∃p c gs e c',v.ch=some (p,c)/\PassR c gs e c'/\if e=0 then v'={v with ch:=some (p,c')}/\F2 GOk gs ds else v'={v with ch:=some (p,c'),pQ:=false,why:=0}/\ds=[] else v'=v/\ds=[]
end
end
section
abbrev me:=fK (α:=gV) eI mV 9 tN gV.cD
def BD.No(v:BD)(lR:List Int)(dK:Bool):BD:={v with lR:=lR,dK:=dK}
def TI(LO:List (gV×Int)):List gV:=(LO.filter λx=>decide (x.2=0)).map (·.1)
def Ny(v:BD)(g:fG)(e:Int):Prop:=e=0/\v.pQ=true/\g.aM=v.aM
def Sr(v:BD)(bs:List cG)(v':BD)(ds:List (List cG))(ms:List gV):Prop:=∃g e,GDec bs g e/\
  ((¬Ny v g e/\v'=v/\ds=[]/\ms=[])\/(Ny v g e/\g.kind=3/\v'={v with pQ:=false,why:=g.code}/\ds=[]/\ms=[])\/
   (Ny v g e/\g.kind≠3/\∃p c oF gs c' LO lR dK,v.ch=some (p,c)/\yO c g oF gs c'/\c'.Ok/\F2 GOk gs ds/\F2 (λb x=>MDec b x.1 x.2) oF LO/\ms=TI LO/\v'=({v with ch:=some (p,c')}:BD).No lR dK))
section
variable{d:Nat}{v:BD}{w:aH}{S:BS}{B:Int}
theorem hears_i{m:gV}{sl:Sl}{Q:aH->Prop}(h:AF d v w S)(hr:Rd w sl 1 eI m.cD)(hl:m.cD.length<=70000)(hw:v.lR.length<=70000)
  (hQ:∀w' S' lR dK,AF d (v.No lR dK) w' S'->Up S S' w w'->lR.length<=70000->Q w'):KD (some ⟨d,0,none⟩) (GJ (m,sl)) w Q:=by
 unfold KD;refine cO (cs:=tN (m,sl)) λw1 b1 k1 z1=>?_;have h1:=bG.kp h k1;have bd:=bG.gX h;refine aE (k:=.i) m.kind (aP b1 rfl) (aF (λ_=>?_) (λ_=>aF (λ_=>?_) (λ_=>hQ w1 S v.lR v.dK h1 (Up.aO k1) hw)))
 ·refine aE (k:=.slice) sl (aP b1 rfl) (HM (hr.aK k1 cI λ_ _=>id) aB λs2 w2 v2 k2 f2=>aA rfl ?_);obtain⟨IM,h2⟩:=bG.kp h1 k2;have BC:DQ 1 eI s2 m.cD w2 (λk=>∃b,s2.b=some b/\k=b.block):=⟨v2.rd eX,cI,λb hb=>v2.lt hb,λ_=>Iff.rfl⟩;refine h2.setWay (way':=m.cD) BC (λk ⟨b,hb,e⟩=>.inl λhs=>by have:=bd _ hs;have:=f2 b hb;omega) λw3 S3 h3 m3 s3=>?_;obtain⟨_,_,_,_,_,_,_,_,e⟩:=h2.parts;have u3:Up S S3 w w3:=⟨((k1.tr k2).wk).trans m3 λk _ hk=>(e k).2 (.inl hk),λk hk=>(s3 k hk).imp id λ⟨b,hb,e⟩=>by have:=f2 b hb;omega⟩;refine aA rfl (h3.set (v':=v.No m.cD true) iX (by decide) rfl rfl rfl rfl rfl λw4 h4 u4=>?_);exact hQ w4 S3 m.cD true ⟨s2,h4⟩ (u3.tr u4) hl
 ·obtain⟨IM,h2⟩:=h1;refine aA rfl (h2.setWay (UJ:=aZ) (way':=[]) (Sw cI) (λk hk=>hk.elim) λw3 S3 h3 m3 s3=>?_);obtain⟨_,_,_,_,_,_,_,_,e⟩:=h2.parts;have u3:Up S S3 w w3:=⟨(k1.wk).trans m3 λk _ hk=>(e k).2 (.inl hk),λk hk=>(s3 k hk).imp id False.elim⟩;refine aA rfl (h3.set (v':=v.No [] false) iX (by decide) rfl rfl rfl rfl rfl λw4 h4 u4=>?_);exact hQ w4 S3 [] false ⟨_,h4⟩ (u3.tr u4) (dE _)
theorem tq{fR:Int}{b:Sl}{bs:List cG}{Q:Sl->Sl->aH->Prop}(hr:Rd w b 1 eU bs)(hl:bs.length<=5000)(hQ:∀w',aL w w'->Q aZ aZ w'):BK none fR b w Q:=by
 unfold BK;refine pr hr hl λg sl e w1 k1 rd1 f1 Nj=>?_;refine fF (zs:=eG (⟨0,0,0,0,0,[]⟩,aZ)) (vs:=eG (g,sl)) rV rfl (Lq _) λw3 o3 k3 z3=>?_;have K:=(k1.tr k3).tr (bY w3);refine aF (λ_=>hQ _ K) (λ_=>?_);unfold rX;exact aF (λh=>by cases h) (λ_=>aF (λ_=>hQ _ K) (λh=>by cases h))
theorem DRecv_i{fR:Int}{b:Sl}{bs:List cG}{Q:Sl->Sl->aH->Prop}(h:AF d v w S)(ok:v.Ok B)(hB:0<=B/\B<=100000000000000)(hr:Rd w b 1 eU bs)(hro:LL b S w)(hl:bs.length<=5000)
  (hQ:∀r rm ds ms v' w' S',Wm B d v w S r ds v' w' S'->me w.heap.size S' w' rm ms->Sr v bs v' ds ms->Q r rm w'):BK (some ⟨d,0,none⟩) fR b w Q:=by
 unfold BK;have bd:=bG.gX h;refine pr hr hl λg sl e w1 k1 rd1 f1 Nj=>?_;refine fF (zs:=eG (⟨0,0,0,0,0,[]⟩,aZ)) (vs:=eG (g,sl)) rV rfl (Lq _) λw3 o3 k3 z3=>?_;have K3:=(k1.tr k3).tr (bY w3);have h3:=bG.kp h K3;have Lh:=o3.aK (bY w3) id;have VB:¬Ny v g e->Q aZ aZ w3.drew:=λhn=>hQ _ _ [] [] v _ S (Wm.same h ok K3) fK.nil ⟨g,e,Nj,.inl ⟨hn,rfl,rfl,rfl⟩⟩;refine aF (λhe=>VB λhh=>by have:=hh.1;simp[this] at he) (λhe=>?_);have he0:e=0:=by simpa using he
 refine DLive_i h3 (aF (λhlv=>VB λhh=>by have:=hh.2.1;rw[this] at hlv;cases hlv) (λhlv=>?_));have hlive:v.pQ=true:=by simpa using hlv
 obtain⟨IM,h3m⟩:=h3;refine aE (k:=.i) g.aM (cV Lh rfl) (aA rfl (aE (k:=.i) v.aM (h3m.cell rfl) (aF (λhc=>VB λhh=>by have:=hh.2.2;simp[this] at hc) (λhc=>?_))));have Fm:g.aM=v.aM:=by simpa using hc
 have Xf:Ny v g e:=⟨he0,hlive,Fm⟩;have hconn:=ok.aM;refine aE (k:=.i) g.kind (cV Lh rfl) (aF (λhk=>?_) (λhk=>?_))
 ·have ue:g.kind=3:=by simpa using hk
  have h4:=bG.dr h3m;have o4:=Lh.aK (bY w3.drew) id;refine aE (k:=.i) g.code (cV o4 rfl) (aA rfl ?_);refine h4.set (v':={v with pQ:=false}) iX (by decide) rfl rfl rfl rfl rfl λw5 h5 u5=>?_;have n1:¬S w1.heap.size:=λhs=>by have:=bd _ hs;have:=k1.size;omega
  refine⟨cV (o4.aK u5.m n1) rfl,aA rfl ?_⟩;refine h5.set (v':={v with pQ:=false,why:=g.code}) cZ (by decide) rfl rfl rfl rfl rfl λw6 h6 u6=>?_;refine hQ _ _ [] [] _ w6 S ⟨⟨IM,h6⟩,((Up.aO (K3.tr (bY w3.drew))).tr u5).tr u6,fK.nil,⟨ok.dO,by show 0<=v.aM/\v.aM<=B+16;omega,ok.lR,λh=>(by cases h),λp hp=>?_⟩,rfl,dE _,λx hx=>by cases hx⟩ fK.nil ⟨g,e,Nj,.inr (.inl ⟨Xf,ue,rfl,rfl,rfl⟩)⟩;have:=ok.ch p hp;exact⟨this.1,this.2.1,aB,λh=>by cases h⟩
 ·have ue:g.kind≠3:=by simpa using hk
  cases uj:v.ch with
  |none=>exact absurd uj (ok.pQ hlive)
  |some pc=>
   obtain⟨p,c⟩:=pc;have oJ:c.Ok/\c.s.dA=v.dO.dA/\c.s.next-(c.s.n:Int)<=B/\(v.pQ=true->c.aM=v.aM):=ok.ch _ uj
   have GZ:=oJ.1.s.RV;have PV:=oJ.1.s.dA;have lgb:g.body.length<=5000:=iR Nj.len hl;have h4:AF d v w3.drew.drew S:=bG.dr ⟨IM,h3m⟩;have K4:=K3.tr (bY w3.drew);have o4:=Lh.aK (bY w3.drew) id;obtain⟨S1,h1,xS,c6,eO⟩:=h4.chan uj;have wd:w3.drew.drew.heap.size=w3.heap.size:=rfl;have rdg:Rd w3.drew.drew sl 1 eU g.body:=((rd1.1.aK k3 fQ λ_ _=>id).aK (bY w3) fQ λ_ _=>id).aK (bY w3.drew) fQ λ_ _=>id;refine aA rfl (aE (k:=.ptr) (some ⟨p,0,none⟩) c6 (aX (l:=kG) (JC (g,sl)) (o4.holds λj v hj=>by rw[gI];exact hj) ?_));refine Tq h1 oJ.1 aB rdg (λb bR=>⟨λhk=>by have:=bd _ (xS _ hk);have:=f1 b bR;omega,by have:=rd1.2.2.1 b bR;omega⟩) lgb Nj.seq λYT oF rg gs c' w7 S7 h7 u7 YR UM=>?_;obtain⟨S8,h8,u8⟩:=eO _ _ w7 S7 u7 h7;obtain⟨SA,SR,hA,⟨SB,SG,hBs,hGs,dBG,eBG⟩,dAR,eAR⟩:=h8;have rf:=xJ oJ.1 YR;have rowD:Gj (λk=>¬SA k/\k<w7.heap.size) w7 YT oF:=(hBs.row (P:=λk=>¬SA k) λk hk hs=>dAR k hs ((eBG k).2 (.inl hk))).wk λk h1 h2=>⟨h1,h2⟩;have rowG:Wk (λk=>¬SA k/\k<w7.heap.size) w7 rg gs:=(hGs.row (P:=λk=>¬SA k) λk hk hs=>dAR k hs ((eBG k).2 (.inr hk))).wk λk h1 h2=>⟨h1,h2⟩;have UA:Up S SA w w7:=((Up.aO K4).tr u8).tr (Up.sub w7 λk hk=>(eAR k).2 (.inl hk));have e2w:c.s.dA=v.dO.dA:=oJ.2.1;have hnw:c'.s.n<=v.dO.dA:=by have:=UM.s.RV;rw[rf.1,e2w] at this;exact this
   have hlc:=oJ.2.2.2 hlive;have ldb:=rowD.len;have lbs:=rf.2.2.2.2.2.2;have zA:=UA.size;refine bL (λn t w8=>∃(i:Nat) (rm:Sl) (ms:List gV) (LO:List (gV×Int)) (lR:List Int) (dK:Bool) (S5:BS),i<=oF.length/\n=oF.length-i/\t=(rm,(i:Int),())/\AF d (({v with ch:=some (p,c')}:BD).No lR dK) w8 S5/\Up S S5 w w8/\me w7.heap.size S5 w8 rm ms/\lR.length<=70000/\F2 (λb x=>MDec b x.1 x.2) (oF.take i) LO/\ms=TI LO/\ms.length<=i/\Gj (λk=>¬S5 k/\k<w7.heap.size) w8 YT oF/\Wk (λk=>¬S5 k/\k<w7.heap.size) w8 rg gs/\w7.heap.size<=w8.heap.size) oF.length
    ⟨0,aZ,[],[],v.lR,v.dK,SA,dE _,rfl,rfl,hA,UA,fK.nil,ok.lR,.nil,rfl,dL _,rowD,rowG,dL _⟩ ?_
   rintro n t w8 ⟨i,rm,ms,LO,lR,dK,S5,hi,rfl,rfl,h5,u5,r5,hw5,f5,Vp,fu,d5,g5,zz5⟩ X hX;dsimp only;have Nm:=bG.gX h5;refine aJ (λcC=>?_) (λkC=>?_)
   ·have dJ:i<oF.length:=aB;have cQ:=cM dJ;have gF:=mX dJ;have sC:=mM dJ;generalize oF[i]=body at*;obtain⟨q,slb,hq,hh,Va,YJ⟩:=d5.get cQ;rw[dW,pP i aB];have cq:w8.cell? (q.add (i*1))=some (sv slb):=by have:=hh.1;rwa[add_add,Nat.add_zero] at this
    refine⟨⟨aB,cC⟩,aA hq (aE (k:=.slice) slb cq ?_)⟩;refine po Va (lbs _ gF) λm fc em w9 k9 rd9 f9 hmd=>?_;refine fF (zs:=tN (⟨0,0,0,[],0,VZ⟩,aZ)) (vs:=tN (m,fc)) CI rfl (QM _) λeN o11 LA z11=>?_;have K11:=k9.tr LA;have Vr:=bG.kp h5 K11;have z9:=k9.size;have rd11:=rd9.1.aK LA cI λ_ _=>id;have hF:F2 (λb x=>MDec b x.1 x.2) (oF.take (i+1)) (LO++[(m,em)]):=by rw[sC];exact f5.app (.one hmd)
    refine aF (λhe=>?_) (λhe=>?_)
    ·have hem:em=0:=by simpa using he
     refine aX (l:=fi) (GJ (m,fc)) (o11.holds λj v hj=>by rw[gI];exact hj) ?_;refine hears_i Vr rd11 hmd.len hw5 λeE YP way2 has2 Fp Ff hw12=>?_;have Ds:=o11.aK Ff.m λhs=>by have:=Nm _ hs;omega
     refine aX (l:=fi) (GJ (m,fc)) (Ds.holds λj v hj=>by rw[gI];exact hj) ?_;have UU:Up S5 YP w8 eE:=(Up.aO K11).tr Ff;have bd12:=bG.gX Fp;have z12:=Ff.size;have slm1:∀b,fc.b=some b->w8.heap.size<=b.block/\b.block<w9.heap.size:=λb bR=>⟨f9 b bR,rd9.2.2.1 b bR⟩;have nS:∀b,fc.b=some b->¬YP b.block:=λb bR hs=>by
      rcases Ff.s _ hs with h|h
      ·have:=Nm _ h;have:=(slm1 b bR).1;omega
      ·have:=(slm1 b bR).2;omega
     have n5:∀b,fc.b=some b->¬S5 b.block:=λb bR hs=>by have:=Nm _ hs;have:=(slm1 b bR).1;omega
     have rmlt:∀b,rm.b=some b->b.block<w8.heap.size:=λb bR=>r5.lt bR;refine fK.gU ZP VW QM aB (r5.up UU) aB aB bd12 m (sl:=fc) (rd11.aK Ff.m cI λb bR=>n5 b bR) (λb bR=>⟨by have:=(slm1 b bR).1;omega,nS b bR,by have:=(slm1 b bR).2;omega,λb' VM e=>by have:=(slm1 b bR).1;have:=rmlt b' VM;omega⟩) λrm' mL v14 YL=>?_;have U14:Up S YP w mL:=Up.iI (u5.tr UU) (YL.mono λk _ hk=>⟨by have:=hk.1;omega,hk.2⟩);refine hX _ _ _ aB ⟨i+1,rm',ms++[m],LO++[(m,em)],way2,has2,YP,dJ,rfl,rfl,bG.ov Fp YL,U14,v14,hw12,hF,?_,by simp;omega,((d5.aK KU UU.m λk hk _=>hk.1).wk λk hk _=>⟨λhs=>(UU.s k hs).elim hk.1 λh=>by have:=hk.2;omega,hk.2⟩).aK KU YL λk hk _ h=>by have:=hk.2;have:=h.1;omega,((g5.aK Au UU.m λk hk _=>hk.1).wk λk hk _=>⟨λhs=>(UU.s k hs).elim hk.1 λh=>by have:=hk.2;omega,hk.2⟩).aK Au YL λk hk _ h=>by have:=hk.2;have:=h.1;omega,by have:=YL.size;omega⟩;rw[Vp];unfold TI;rw[VH,wQ,List.filter_cons_of_pos (by simp[hem])];rfl
    ·have hem:em≠0:=by simpa using he
     refine hX _ _ _ aB ⟨i+1,rm,ms,LO++[(m,em)],lR,dK,S5,dJ,rfl,rfl,Vr,u5.tr (Up.aO K11),r5.kp K11,hw5,hF,?_,aB,d5.kp KU K11,g5.kp Au K11,aB⟩;rw[Vp];unfold TI;rw[VH,wQ,ly2 (by simp[hem])];simp
   ·have ei:i=oF.length:=aB;subst ei;rw[oI] at f5;refine Br g5 (by have:=rf.2.2.2.1;omega) (λx hx=>by have:=rf.2.2.2.2.1 x hx;omega) λr ds fY Dv v15 f15=>?_;refine hQ r rm ds ms _ fY S5 ⟨bG.kp h5 Dv,u5.tr (Up.aO Dv),(v15.sub λk hk=>Nm k hk).qM aB,⟨ok.dO,by show 0<=v.aM/\v.aM<=B+16;omega,hw5,λ_=>by show(some (p,c'):Option (Nat×kP))≠none;simp,λq hq=>?_⟩,rfl,by rw[<-f15.len];have:=rf.2.2.2.1;omega,yp f15⟩ ((r5.kp Dv).qM zA) ⟨g,e,Nj,.inr (.inr ⟨Xf,ue,p,c,oF,gs,c',LO,lR,dK,uj,YR,UM,f15,f5,Vp,rfl⟩)⟩;cases hq;exact⟨UM,rf.1.trans e2w,by have h27:c'.dl<=c.s.next:=rf.2.2.1;show c'.dl<=B+16;omega,λ_=>rf.2.1.trans hlc⟩
end
end
section
structure wT where
 d:Int
 up:Bool
 data:List cG
abbrev Ck(x:wT×Sl):List Value:=[aD x.1.d,.bool x.1.up,sv x.2]
theorem VT:∀x:wT×Sl,(Ck x).length=3:=λ_=>rfl
theorem Wv:∀x:wT×Sl,∀u∈Ck x,u.oneCell'=true:=by intro x u hu;simp at hu;rcases hu with rfl|rfl|rfl<;>rfl
theorem eUn_ne(x:wT×Sl):Ck x≠[]:=by simp
structure jD where
 v:iQ
 ds:List (Nat×BD)
 jU:List wT
 row:Sl
abbrev YQ(ds:List (Nat×BD)):List cR:=ds.map λp=>some ⟨p.1,0,none⟩
abbrev eW(a:Nat)(GD xT:Sl):List Value:=[.pointer (some ⟨a,0,none⟩),sv GD,sv xT]
def Wg(p:Nat×BD):As:=AF p.1 p.2
instance{p:Nat×BD}:bG (Wg p):=by unfold Wg;infer_instance
def Wj(ee a wa:Nat)(GD xT:Sl)(xs:List (wT×Sl))(v:iQ)(ds:List (Nat×BD)):As:=
 bJ (jK ee a v) (bJ (uL wa Rz (eW a GD xT)) (bJ (rS MQ 1 gy GD (YQ ds)) (bJ (wM Wg ds) (rS MJ 3 Ck xT xs))))
instance{ee a wa:Nat}{GD xT:Sl}{xs:List (wT×Sl)}{v:iQ}{ds:List (Nat×BD)}:bG (Wj ee a wa GD xT xs v ds):=by unfold Wj;infer_instance
structure LY(N:BS)(s:Sl)(S:BS)(w:aH):Prop where
 o:LL s S w
 n:∀b,s.b=some b->¬N b.block
theorem LY.up{N:BS}{s:Sl}{S S':BS}{w w':aH}(h:LY N s S w)(u:Up S S' w w'):LY N s S' w':=⟨h.o.up u,h.n⟩
theorem LY.rd{N:BS}{α:Type}{n:Nat}{aY:α->List Value}{xs:List α}{s:Sl}{S S':BS}{w w':aH}(h:LY N s S w)(u:Up S S' w w')(hr:Rd w s n aY xs)(gK:∀x,aY x≠[]):Rd w' s n aY xs:=h.o.rd u hr gK
theorem LY.kp{N:BS}{s:Sl}{S:BS}{w w':aH}(h:LY N s S w)(k:aL w w'):LY N s S w':=⟨h.o.kp k,h.n⟩
structure iS(N:BS)(ee a wa:Nat)(W:jD)(w:aH)(S:BS):Prop where
 ex:∃xT xs,xs.map (·.1)=W.jU/\Wj ee a wa W.row xT xs W.v W.ds w S/\∀x∈xs,Rd w x.2 1 eU x.1.data/\LY N x.2 S w
theorem bJ.unemp{A:As}{w:aH}{S:BS}(h:bJ A DR w S):A w S:=bJ.emp_l h.cm
theorem OI{N:BS}{xs:List (wT×Sl)}{S S':BS}{w w':aH}(h:∀x∈xs,Rd w x.2 1 eU x.1.data/\LY N x.2 S w)(u:Up S S' w w'):∀x∈xs,Rd w' x.2 1 eU x.1.data/\LY N x.2 S' w':=λx hx=>⟨(h x hx).2.rd u (h x hx).1 fQ,(h x hx).2.up u⟩
section
variable{N:BS}{ee a wa:Nat}{W:jD}{w:aH}{S:BS}
theorem iS.lt(h:iS N ee a wa W w S):∀k,S k->k<w.heap.size:=by
 obtain⟨_,_,_,h,_⟩:=h.ex;exact bG.gX h
theorem iS.kp{w':aH}(h:iS N ee a wa W w S)(k:aL w w'):iS N ee a wa W w' S:=by
 obtain⟨xT,xs,h1,h2,h3⟩:=h.ex;exact⟨xT,xs,h1,bG.kp h2 k,OI h3 (Up.aO k)⟩
theorem iS.Uw(h:iS N ee a wa W w S):∃S1,jK ee a W.v w S1/\(∀k,S1 k->S k)/\w.cell? ((⟨wa,0,none⟩:Addr).add 0)=some (.pointer (some ⟨a,0,none⟩))/\∀v' w' DC,jK ee a v' w' DC->Up S1 DC w w'->∃S',iS N ee a wa {W with v:=v'} w' S'/\Up S S' w w'/\∀k,S' k->DC k\/k<w.heap.size:=by
 have hb:=h.lt;obtain⟨xT,xs,h1,h2,h3⟩:=h.ex;obtain⟨_,S0,_,⟨S01,S02,FF,_⟩,_⟩:=id h2;have c0:=aP FF (k:=0) rfl;obtain⟨S1,hS,hs,eO⟩:=bJ.lG h2;refine⟨S1,hS,hs,c0,λv' w' DC hv u=>?_⟩;obtain⟨S',h',e'⟩:=eO (jK ee a v') DR S1 w' DC u.m (λk hk=>.inl hk) (λk hk=>(u.s k hk).imp id λh hs=>by have:=hb k hs;omega) (bJ.emp hv);have h'':=bJ.unemp h';have U:Up S S' w w':=⟨u.m.mono λk _ hk=>hs k hk,λk hk=>by
  rcases e' k hk with h|h
  ·exact .inl h.1
  ·exact(u.s k h).imp (hs k) id⟩
 exact⟨S',⟨xT,xs,h1,h'',OI h3 U⟩,U,λk hk=>(e' k hk).elim (λh=>.inr (hb k h.1)) .inl⟩
theorem iS.drv(h:iS N ee a wa W w S){i:Nat}{d:Nat}{dv:BD}(hi:W.ds[i]? =some (d,dv)):∃S1,AF d dv w S1/\(∀k,S1 k->S k)/\∀yF w' DC,AF d yF w' DC->Up S1 DC w w'->∃S',iS N ee a wa {W with ds:=W.ds.set i (d,yF)} w' S'/\Up S S' w w'/\∀k,S' k->DC k\/k<w.heap.size:=by
 have hb:=h.lt;have cC:=(eQ.1 hi).1;obtain⟨xT,xs,h1,h2,h3⟩:=h.ex;obtain⟨S1,hS,hs,eO⟩:=(bJ.rG h2).c λT hT=>(bJ.rG hT).c λT hT=>(bJ.rG hT).c λT hT=>(bJ.lG hT).c λT hT=>wM.atG hT hi;refine⟨S1,hS,hs,λyF w' DC hv u=>?_⟩;obtain⟨S',h',e'⟩:=eO (Wg (d,yF)) DR S1 w' DC u.m (λk hk=>.inl hk) (λk hk=>(u.s k hk).imp id λh hs=>by have:=hb k hs;omega) (bJ.emp hv);have h'':=bJ.unemp h';have U:Up S S' w w':=⟨u.m.mono λk _ hk=>hs k hk,λk hk=>by
  rcases e' k hk with h|h
  ·exact .inl h.1
  ·exact(u.s k h).imp (hs k) id⟩
 have ep:YQ (W.ds.set i (d,yF))=YQ W.ds:=by
  show(W.ds.set i (d,yF)).map _=_;rw[List.map_set];apply yG;intro j;rw[jA]
  by_cases hj:i=j
  ·subst hj;rw[if_pos rfl,if_pos (by simpa using cC),oM,hi];rfl
  ·rw[if_neg hj]
 refine⟨S',⟨xT,xs,h1,h''.mono (λ_ h=>h) λ_ h=>h.mono (λ_ h=>h) λ_ h=>h.mono (λ_ h=>?_) λ_ h=>h.mono (λ_ h=>Az.set cC h) λ_ h=>h,OI h3 U⟩,U,λk hk=>(e' k hk).elim (λh=>.inr (hb k h.1)) .inl⟩;show rS MQ 1 gy W.row (YQ (W.ds.set i (d,yF))) _ _;rw[ep];exact h
theorem iS.OM(h:iS N ee a wa W w S):∃xT,w.cell? ((⟨wa,0,none⟩:Addr).add 2)=some (sv xT)/\xT.l=W.jU.length/\wU eU 3 Ck wT.data (λk=>k<w.heap.size) w xT W.jU/\∃xs,xs.map (·.1)=W.jU/\Wj ee a wa W.row xT xs W.v W.ds w S/\∀x∈xs,Rd w x.2 1 eU x.1.data/\LY N x.2 S w:=by
 obtain⟨xT,xs,h1,h2,h3⟩:=h.ex;obtain⟨_,_,_,⟨S01,S02,FF,⟨_,_,_,⟨_,_,_,hv,_⟩,_⟩,_⟩,_⟩:=id h2;refine⟨xT,aP FF rfl,by rw[<-h1,oH];exact hv.1.len,⟨xs,h1,hv.1.rd VT,λb hb=>⟨hv.1.lt hb,hv.1.lt hb⟩,λx hx=>⟨(h3 x hx).1,λb hb=>⟨((h3 x hx).2.o b hb).2,((h3 x hx).2.o b hb).2⟩⟩⟩,xs,h1,h2,h3⟩
theorem ze{GD xT YW:Sl}{xs Kt:List (wT×Sl)}{v:iQ}{ds:List (Nat×BD)}{M SV':BS}{w':aH}{K:aH->Prop}(h:Wj ee a wa GD xT xs v ds w S)(hm:aU M w w')(hM:∀k,M k->BL xT k)(hv:rS MJ 3 Ck YW Kt w' SV')(hs:∀k,SV' k->BL xT k\/w.heap.size<=k)
  (hK:∀w2 S',Wj ee a wa GD YW Kt v ds w2 S'->Up S S' w w2->aU (λk=>k=wa) w' w2->K w2):aI prog Ei ((⟨wa,0,none⟩:Addr).add 2) (sv YW) w' K:=by
 have hb:=bG.gX h;obtain⟨S1,hV,xS,eO⟩:=(bJ.rG h).c λT hT=>(bJ.rG hT).c λT hT=>(bJ.rG hT).c λT hT=>bJ.rG hT;have FW:∀k,BL xT k->S1 k:=λk ⟨b,bR,e⟩=>(hV.2 k).2 ⟨b,bR,e⟩;obtain⟨S2,h2,e2⟩:=eO (rS MJ 3 Ck YW Kt) DR M w' SV' hm (λk hk=>.inl (FW k (hM k hk))) (λk hk=>(hs k hk).imp (FW k) λh hs=>by have:=hb k hs;omega) (bJ.emp hv);have h2':=bJ.unemp h2;obtain⟨S3,h3,_,Gz⟩:=((bJ.r h2').c λT hT=>bJ.l hT).put;refine qY h3 Zo dN rfl rfl λw2 b2 u2=>?_;obtain⟨S4,h4,u4⟩:=Gz (uL wa Rz (eW a GD YW)) w2 S3 u2 b2;refine hK w2 S4 h4 ⟨(hm.mono λk _ hk=>xS k (FW k (hM k hk))).trans u4.m λk hk GC=>?_,λk hk=>?_⟩ (u2.m.mono λk _ hk=>(h3.2 k).1 hk)
 ·rcases e2 k GC with h|h
  ·exact h.1
  ·exact(hs k h).elim (λh=>xS k (FW k h)) λh=>aB
 ·rcases u4.s k hk with h|h
  ·rcases e2 k h with h|h
   ·exact .inl h.1
   ·exact(hs k h).imp (λh=>xS k (FW k h)) id
  ·exact .inr (iR hm.size h)
theorem Ig{GD xT:Sl}{xs:List (wT×Sl)}{v:iQ}{ds:List (Nat×BD)}{u:wT}{sl:Sl}{g:Nat}{K:aH->Prop}(h:Wj ee a wa GD xT xs v ds w S)(ho:∀x∈xs,Rd w x.2 1 eU x.1.data/\LY N x.2 S w)(hg:cU w g MJ (Ck (u,sl)))(hr:Rd w sl 1 eU u.data)(hso:LY N sl S w)(hl:xs.length+1<=1000000)
  (hK:∀w2 S',iS N ee a wa ⟨v,ds,(xs++[(u,sl)]).map (·.1),GD⟩ w2 S'->Up S S' w w2->K w2):aW prog Ei Ei xT (.slice (some ⟨g,0,none⟩) 1 1) w λs3 w2=>aI prog Ei ((⟨wa,0,none⟩:Addr).add 2) (sv s3) w2 K:=by
 obtain⟨_,_,_,⟨S01,S02,FF,⟨_,_,_,⟨_,_,_,hv,_⟩,_⟩,_⟩,_⟩:=id h;have hx:Rd w ⟨some ⟨g,0,none⟩,1,1⟩ 3 Ck [(u,sl)]:=(dD.new VT [(u,sl)] (by simpa using hg) (by simp[maxLen])).rd VT;refine fH EI VT Wv (x:=⟨some ⟨g,0,none⟩,1,1⟩) hv.1 hx (by simp;omega) (by simp;omega) λs3 w2 v3 m3 hr3 _=>?_;refine ze (YW:=s3) (Kt:=xs++[(u,sl)]) h m3 (λk hk=>hk) (SV':=λk=>BL s3 k) ⟨v3,λk=>Iff.rfl⟩ (λk ⟨b,hb,e⟩=>?_) λw4 S4 h4 u4 m4=>?_
 ·rcases hr3 with h|⟨b',h,h2⟩
  ·exact .inl ⟨b,h.symm.trans hb,e⟩
  ·rw[hb] at h;cases h;exact .inr (by rw[e];exact h2)
 ·refine hK w4 S4 ⟨s3,xs++[(u,sl)],rfl,h4,λx hx=>?_⟩ u4;have hh:Rd w x.2 1 eU x.1.data/\LY N x.2 S w:=by
   rcases kE.1 hx with hx|hx
   ·exact ho x hx
   ·rw[oG.1 hx];exact⟨hr,hso⟩
  exact⟨hh.2.rd u4 hh.1 fQ,hh.2.up u4⟩
def Qs(p:Pk):wT:=⟨p.1,false,p.2⟩
def Uv(d:Int)(b:List cG):wT:=⟨d,true,b⟩
def jD.add(W:jD)(l:List wT):jD:={W with jU:=W.jU++l}
theorem yx{l:Sl}{ps:List Pk}{Q:aH->Prop}(h:iS N ee a wa W w S)(hr:wU eU 2 ePk Prod.snd (λk=>¬S k/\k<w.heap.size/\¬N k) w l ps)(hl:W.jU.length+ps.length<=900000)
  (hQ:∀w' S',iS N ee a wa (W.add (ps.map Qs)) w' S'->Up S S' w w'->Q w'):rJ (some ⟨wa,0,none⟩) l w Q:=by
 unfold rJ;have ub:=hr.len;refine bL (λn t w1=>∃(i:Nat) (S1:BS),i<=ps.length/\n=ps.length-i/\t=((i:Int),())/\iS N ee a wa (W.add ((ps.take i).map Qs)) w1 S1/\Up S S1 w w1) ps.length
  ⟨0,S,dE _,rfl,rfl,by
   have:W.add (([]:List Pk).map Qs)=W:=by unfold jD.add;simp
   rw[List.take_zero,this];exact h,Up.refl _ _⟩ ?_
 rintro n t w1 ⟨i,S1,hi,rfl,rfl,h1,u1⟩ X hX;dsimp only;refine aJ (λcC=>?_) (λkC=>?_)
 ·have dJ:i<ps.length:=aB;have cQ:=cM dJ;have sC:=mM dJ;generalize ps[i]=p at*;obtain⟨q,sl,hq,hh,BC,YJ⟩:=(hr.aK ePk_ne u1.m λk hk _=>hk.1).get cQ;have hos:LY N sl S1 w1:=⟨λb hb=>⟨λhs=>(u1.s _ hs).elim (YJ b hb).1.1 λh=>by have:=(YJ b hb).1.2.1;omega,(YJ b hb).2⟩,λb hb=>(YJ b hb).1.2.2⟩;rw[dW,pP i aB];refine⟨⟨aB,cC⟩,aA hq (aX (l:=[.i,.slice]) (p.1,sl,()) hh ?_)⟩;refine fF (zs:=ePk ((0,[]),aZ)) (vs:=ePk (p,sl)) Zp rfl (VS _) λw4 o4 k4 z4=>?_;have K4:=k4.tr (bY w4);have h4:=h1.kp K4;have o4d:=o4.aK (bY w4) id;obtain⟨xT,c2,lb,_,_⟩:=h4.OM;refine aA rfl (aE (k:=.slice) xT c2 (aE (k:=.i) p.1 (cV o4d rfl) (aE (k:=.slice) sl (cV o4d rfl) ?_)));refine cO (cs:=Ck (Qs p,sl)) λw6 b6 k6 z6=>?_;have K6:=K4.tr k6;have h6:=h1.kp K6;obtain⟨YW,c2',lb',_,xs,OF,fq,hx3⟩:=h6.OM;have e:YW=xT:=by have:=c2'.symm.trans ((k6.cell c2 id));injection this with this;injection this with h1 h2 h3;cases xT;cases YW;simp_all
  subst e;refine⟨c2',?_⟩;have xl:xs.length=W.jU.length+i:=by have:=congrArg List.length OF;simp[jD.add] at this;omega
  refine Ig fq hx3 b6.1 (BC.aK K6 fQ λ_ _=>id) (hos.kp K6) aB λw8 S8 h8 u8=>?_;refine hX _ _ _ aB ⟨i+1,S8,dJ,rfl,rfl,?_,u1.tr ((Up.aO K6).tr u8)⟩;have e2:(⟨(W.add ((ps.take i).map Qs)).v,(W.add ((ps.take i).map Qs)).ds,(xs++[(Qs p,sl)]).map (·.1),(W.add ((ps.take i).map Qs)).row⟩:jD)=W.add ((ps.take (i+1)).map Qs):=by unfold jD.add;rw[sC,wQ,wQ,OF];simp[jD.add]
  rw[e2] at h8;exact h8
 ·have ei:i=ps.length:=aB;subst ei;rw[oI] at h1;exact hQ w1 S1 h1 u1
theorem ups_i{d:Int}{l:Sl}{bs:List (List cG)}{Q:aH->Prop}(h:iS N ee a wa W w S)(hr:Gj (λk=>¬S k/\k<w.heap.size/\¬N k) w l bs)(hl:W.jU.length+bs.length<=900000)
  (hQ:∀w' S',iS N ee a wa (W.add (bs.map (Uv d))) w' S'->Up S S' w w'->Q w'):CR (some ⟨wa,0,none⟩) d l w Q:=by
 unfold CR;have ub:=hr.len;refine bL (λn t w1=>∃(i:Nat) (S1:BS),i<=bs.length/\n=bs.length-i/\t=((i:Int),())/\iS N ee a wa (W.add ((bs.take i).map (Uv d))) w1 S1/\Up S S1 w w1) bs.length
  ⟨0,S,dE _,rfl,rfl,by
   have:W.add (([]:List (List cG)).map (Uv d))=W:=by unfold jD.add;simp
   rw[List.take_zero,this];exact h,Up.refl _ _⟩ ?_
 rintro n t w1 ⟨i,S1,hi,rfl,rfl,h1,u1⟩ X hX;dsimp only;refine aJ (λcC=>?_) (λkC=>?_)
 ·have dJ:i<bs.length:=aB;have cQ:=cM dJ;have sC:=mM dJ;generalize bs[i]=p at*;obtain⟨q,sl,hq,hh,BC,YJ⟩:=(hr.aK KU u1.m λk hk _=>hk.1).get cQ;have hos:LY N sl S1 w1:=⟨λb hb=>⟨λhs=>(u1.s _ hs).elim (YJ b hb).1.1 λh=>by have:=(YJ b hb).1.2.1;omega,(YJ b hb).2⟩,λb hb=>(YJ b hb).1.2.2⟩;rw[dW,pP i aB];have cq:w1.cell? (q.add (i*1))=some (sv sl):=by have:=hh.1;rwa[add_add,Nat.add_zero] at this
  obtain⟨xT,c2,lb,_,_⟩:=h1.OM;refine⟨⟨aB,cC⟩,aA hq (aE (k:=.slice) sl cq (aA rfl (aE (k:=.slice) xT c2 ?_)))⟩;refine cO (cs:=Ck (Uv d p,sl)) λw6 b6 k6 z6=>?_;have h6:=h1.kp k6;obtain⟨YW,c2',lb',_,xs,OF,fq,hx3⟩:=h6.OM;have e:YW=xT:=by have:=c2'.symm.trans ((k6.cell c2 id));injection this with this;injection this with h1 h2 h3;cases xT;cases YW;simp_all
  subst e;have xl:xs.length=W.jU.length+i:=by have:=congrArg List.length OF;simp[jD.add] at this;omega
  refine Ig fq hx3 b6.1 (BC.aK k6 fQ λ_ _=>id) (hos.kp k6) aB λw8 S8 h8 u8=>?_;refine hX _ _ _ aB ⟨i+1,S8,dJ,rfl,rfl,?_,u1.tr ((Up.aO k6).tr u8)⟩;have e2:(⟨(W.add ((bs.take i).map (Uv d))).v,(W.add ((bs.take i).map (Uv d))).ds,(xs++[(Uv d p,sl)]).map (·.1),(W.add ((bs.take i).map (Uv d))).row⟩:jD)=W.add ((bs.take (i+1)).map (Uv d)):=by unfold jD.add;rw[sC,wQ,wQ,OF];simp[jD.add]
  rw[e2] at h8;exact h8
 ·have ei:i=bs.length:=aB;subst ei;rw[oI] at h1;exact hQ w1 S1 h1 u1
theorem Pp{x:Int}{Q:cR->aH->Prop}(h:iS N ee a wa W w S)(hl:W.ds.length<=16)(hQ1:∀d dv,0<=x->W.ds[x.toNat]? =some (d,dv)->Q (some ⟨d,0,none⟩) w)(hQ0:¬(0<=x/\x<W.ds.length)->Q none w):zF (some ⟨wa,0,none⟩) x w Q:=by
 unfold zF;obtain⟨xT,xs,h1,h2,h3⟩:=h.ex;obtain⟨_,_,_,⟨_,_,FF,⟨_,_,hv,_⟩,_⟩,_⟩:=id h2;have c1:w.cell? ((⟨wa,0,none⟩:Addr).add 1)=some (sv W.row):=aP FF rfl;have ll:=hv.1.len;rw[oH] at ll;refine aF (λh=>by simp at h) (λ_=>aJ (λh=>hQ0 λhh=>aB) (λh0=>aA rfl (aE (k:=.slice) W.row c1 (aJ (λh=>hQ0 λhh=>aB) (λh1'=>aA rfl (aE (k:=.slice) W.row c1 ?_))))));have cC:x.toNat<W.ds.length:=aB;have cQ:=cM cC;obtain⟨d,dv⟩:Nat×BD:=W.ds[x.toNat];generalize W.ds[x.toNat]=p at*;obtain⟨q,hq,cq⟩:=bP (k:=.ptr) (e:=λx=>x) (hv.1.rd QO) (show(YQ W.ds)[x.toNat]? =some (some ⟨p.1,0,none⟩) by rw[oM,cQ];rfl);exact⟨⟨aB,aB⟩,aA hq (aE (k:=.ptr) (some ⟨p.1,0,none⟩) cq (hQ1 p.1 p.2 aB cQ))⟩
end
end
section
theorem ql(xs:List (wT×Sl)):(xs.flatMap Ck).length=xs.length*3:=bF VT xs
theorem DelUn_i{s:Sl}{xs:List (wT×Sl)}{i:Nat}{w:aH}{Q:Sl->aH->Prop}(hs:dD w MJ 3 Ck s xs)(hi:i<xs.length)(hb:xs.length<1099511627776)
  (hQ:∀s' w',dD w' MJ 3 Ck s' (xs.take i++xs.drop (i+1))->aU (λk=>∃b,s.b=some b/\k=b.block) w w'->s'.b=s.b->Q s' w'):
  iG s (i:Int) ((i:Int)+1) w Q:=by
 unfold iG;have hl:=hs.len;have Rl:=hs.cap;have Rg:=hs.max;rcases hs.gR with⟨_,h0⟩|⟨g,cJ,Ky,ho,gD⟩
 ·omega
 refine⟨⟨aB,aB⟩,⟨aB,by simp;omega⟩,⟨aB,aB⟩,?_⟩;refine aF (λh=>by simp at h;omega) (λ_=>?_);refine⟨⟨aB,aB⟩,⟨aB,aB⟩,?_⟩;have hd:aL w w.drew:=aU.drew (aU.refl _ w);have ti:Int.toNat (i:Int)=i:=rfl;have tj:Int.toNat ((i:Int)+1)=i+1:=rfl;rw[oX,ti,tj,Nat.sub_zero,Nat.sub_zero];have hvd:=hs.aK hd (λ_ _=>id);have Dx:=hvd.take (i:=i) aB;have YI:=(hvd.rd VT).part (i:=i+1) (j:=s.l) (c:=s.c) aB aB aB aB;rw[ly6 (by simp;omega)] at YI;have LG:(xs.take i).length+(xs.drop (i+1)).length=xs.length-1:=by simp;omega
 refine Ih EI VT Wv Dx YI (by rw[LG];omega) (by rw[LG];omega) λr w1 hr hm Va hrn PW=>?_;have Ni:=hr.len;rw[fJ,LG] at Ni;have gf:=hr.cap;have tl:Int.toNat (s.l:Int)=s.l:=rfl;have tr:Int.toNat (r.l:Int)=r.l:=rfl;rw[tl,tr];obtain rfl:=PW (by rw[LG];show _<=s.c;omega);have e1:i+(s.l-(i+1))=xs.length-1:=aB;simp only[e1] at hr Ni gf tr ⊢;refine⟨⟨aB,aB⟩,⟨aB,aB⟩,?_⟩;rw[Ky,lJ (show xs.length-1<s.c by omega)];rcases hr.gR with⟨h0,_⟩|⟨g',Wt,hbg',ho',QR⟩
 ·rw[Ky] at h0;cases h0
 have:g'=g:=by rw[Ky] at hbg';cases hbg';rfl
 subst this;have IV:((xs.take i++xs.drop (i+1)).flatMap Ck).length=(xs.length-1)*3:=by rw[ql,fJ,LG]
 have yL:((xs.take i++xs.drop (i+1)).flatMap Ck++Wt).length=s.c*3:=QR;have h4:xs.length*3<=s.c*3:=PU 3 aB;refine ZQ EI (by simp[Value.oneCell']) ho' (by rw[yL];omega) λw2 zs hz Vc m2 _=>?_;have QC:s.l-(xs.length-1)=1:=aB;rw[QC] at hz Vc;rw[Ej IV] at Vc;refine hQ _ w2 ⟨by rw[fJ,LG],by show xs.length-1<=s.c;omega,Rg,.inr ⟨g',zs++((xs.take i++xs.drop (i+1)).flatMap Ck++Wt).drop ((xs.length-1)*3+1*3),rfl,by simpa using Vc,?_⟩⟩ ?_ Ky.symm
 ·show _=s.c*3;simp only[fJ,IV,iv,hz];rw[fJ,IV] at yL;omega
 ·exact((aL.aK hd).tr hm).tr (m2.mono λk _ hk=>⟨_,Ky,hk⟩)
structure Am(G:Gr)(B:Int)(n:Nat)(W:jD):Prop where
 v:W.v.Ok G B
 b0:0<=B
 len:W.ds.length=n/\1<=n/\n<=16
 ds:∀p∈W.ds,p.2.Ok B/\p.2.dO=W.v.dO
 jU:∀u∈W.jU,u.data.length<=3000/\(u.up=true->0<=u.d/\u.d<n)
 bK:∀e∈W.v.t.bK,e.aN<n
theorem WV{G:Gr}{B B':Int}{v:iQ}(ok:v.Ok G B)(h:B<=B'):v.Ok G B':=⟨ok.dO,ok.fR,ok.u,ok.t,ok.fD,λe he=>by have:=ok.ch e he;exact⟨this.1,this.2.1,this.2.2.1,aB⟩,ok.KZ,ok.Nk,ok.lost⟩
theorem Am.mono{G:Gr}{B B':Int}{n:Nat}{W:jD}(h:Am G B n W)(hB:B<=B'):Am G B' n W:=⟨WV h.v hB,by have:=h.b0;omega,h.len,λp hp=>⟨(h.ds p hp).1.mono hB,(h.ds p hp).2⟩,h.jU,h.bK⟩
structure yM(N:BS)(G:Gr)(B:Int)(n:Nat)(ee a wa:Nat)(W:jD)(w:aH)(S:BS)(rh:Sl)(hs:List qV)(k:Nat)(W':jD)(w':aH)(S':BS):Prop where
 x:iS N ee a wa W' w' S'
 up:Up S S' w w'
 BC:Gi w.heap.size S' w' rh hs
 ok:Am G (B+16) n W'
 dO:W'.v.dO=W.v.dO
 len:W'.jU.length<=W.jU.length+k
 fR:W'.v.fR<=W.v.fR+1
 hl:hs.length<=20
def Mf(G:Gr)(W:jD)(u:wT)(W':jD)(hs:List qV):Prop:=
 if u.up=true then∃v' ps,Hd G W.v u.d u.data v' ps hs/\W'=({W with v:=v'}:jD).add (ps.map Qs)
 else(¬(0<=u.d/\u.d<W.ds.length)/\W'=W/\hs=[])\/∃d dv yF ds ms,W.ds[u.d.toNat]? =some (d,dv)/\0<=u.d/\Sr dv u.data yF ds ms/\W'=({W with ds:=W.ds.set u.d.toNat (d,yF)}:jD).add (ds.map (Uv u.d))/\hs=ms.map λm=>⟨u.d,yF.aM,false,m⟩
theorem yf{N:BS}{lo:Nat}{S:BS}{w:aH}{r:Sl}{ps:List Pk}(h:yH lo S w r ps)(hN:∀k,N k->k<lo):wU eU 2 ePk Prod.snd (λk=>¬S k/\k<w.heap.size/\¬N k) w r ps:=(h.rd VU).wk λk h1 h2=>⟨h1.2,h2,λh=>by have:=hN k h;have:=h1.1;omega⟩
theorem ye{N:BS}{lo:Nat}{S:BS}{w:aH}{r:Sl}{ps:List (List cG)}(h:RowQ lo S w r ps)(hN:∀k,N k->k<lo):Gj (λk=>¬S k/\k<w.heap.size/\¬N k) w r ps:=(h.rd lenD_q).wk λk h1 h2=>⟨h1.2,h2,λh=>by have:=hN k h;have:=h1.1;omega⟩
section
variable{N:BS}{W0 w:aH}{S:BS}{a wa n:Nat}{W:jD}{E:qO}{G:Gr}{B:Int}
theorem Hf{l:List wT}(ok:Am G B n W)(h:∀u∈l,u.data.length<=3000/\(u.up=true->0<=u.d/\u.d<n)):Am G B n (W.add l):=
 ⟨ok.v,ok.b0,ok.len,ok.ds,λu hu=>(kE.1 hu).elim (ok.jU u) (h u),ok.bK⟩
theorem yi{d:Int}{sl:Sl}{bs:List cG}{Q:Sl->aH->Prop}(h:iS N E.e a wa W w S)(hN:∀k,N k->k<w.heap.size)(hb:Bs W0 E G S w)(ok:Am G B n W)(hB:B<=100000000000000)(hd:0<=d/\d<n)(FW:W.jU.length<=800000)(hr:Rd w sl 1 eU bs)(ho:LL sl S w)(hl:bs.length<=5000)
  (hQ:∀rh hs v' ps w' S',yM N G B n E.e a wa W w S rh hs (W.v.dO.dA+1) (({W with v:=v'}:jD).add (ps.map Qs)) w' S'->Hd G W.v d bs v' ps hs->Q rh w'):CX (some ⟨wa,0,none⟩) d sl w Q:=by
 unfold CX;obtain⟨S1,h1,xS,c0,eO⟩:=h.Uw;refine aA rfl (aE (k:=.ptr) (some ⟨a,0,none⟩) c0 ?_);refine VRecv_i h1 (hb.sub xS) ok.v ⟨ok.b0,hB⟩ hr (λb bR=>⟨λhk=>(ho b bR).1 (xS _ hk),(ho b bR).2⟩) hl λr rh ps hs v' w1 DC g=>?_;obtain⟨S2,h2,u2,e2⟩:=eO v' w1 DC g.Uw g.up;have PV:=ok.v.dO.dA;have gl:=g.len;have rp:yH w.heap.size S2 w1 r ps:=g.row.cov e2;refine yx h2 (yf rp hN) (by show W.jU.length+_<=_;omega) λw3 S3 h3 u3=>?_;have okn:Am G (B+16) n ({W with v:=v'}:jD):=⟨g.ok,by have:=ok.b0;omega,ok.len,λp hp=>⟨((ok.ds p hp).1).mono aB,((ok.ds p hp).2).trans g.Fu.dO.symm⟩,ok.jU,λe he=>?_⟩
 ·refine hQ rh hs v' ps w3 S3 ⟨h3,u2.tr u3,(g.BC.cov e2).up u3,Hf okn λu hu=>?_,g.Fu.dO,by show(W.jU++_).length<=_;simp;omega,by show v'.fR<=_;rw[g.Fu.fR];omega,g.hl⟩ g.rel;obtain⟨p,hp,rfl⟩:=mD.1 hu;exact⟨g.pks p hp,λh=>by cases h⟩
 ·rcases g.Fu.bK e he with⟨f,hf,hp⟩|hp
  ·rw[<-hp];exact ok.bK f hf
  ·omega
theorem arrive_i{u:wT}{sl:Sl}{Q:Sl->aH->Prop}(h:iS N E.e a wa W w S)(hN:∀k,N k->k<w.heap.size)(hb:Bs W0 E G S w)(ok:Am G B n W)(hB:B<=100000000000000)(FW:W.jU.length<=800000)(hu:u.data.length<=3000/\(u.up=true->0<=u.d/\u.d<n))(hr:Rd w sl 1 eU u.data)(ho:LL sl S w)
  (hQ:∀rh hs W' w' S',yM N G B n E.e a wa W w S rh hs (W.v.dO.dA+1) W' w' S'->Mf G W u W' hs->Q rh w'):EL (some ⟨wa,0,none⟩) (u.d,u.up,sl,()) w Q:=by
 unfold EL;have lt0:=h.lt;refine cO (cs:=Ck (u,sl)) λw1 b1 k1 z1=>aE (k:=.bool) u.up (aP b1 rfl) ?_;have h1:=h.kp k1;refine aF (λUz=>?_) (λUz=>?_)
 ·refine aE (k:=.i) u.d (aP b1 rfl) (aE (k:=.slice) sl (aP b1 rfl) ?_);refine yi h1 (λk hk=>pG (hN k hk) k1.size) (hb.kp k1) ok hB (hu.2 Uz) FW (hr.aK k1 fQ λ_ _=>id) (ho.kp k1) aB λrh hs v' ps w' S' g DD=>?_;exact hQ rh hs _ w' S' ⟨g.x,(Up.aO k1).tr g.up,g.BC.qM k1.size,g.ok,g.dO,g.len,g.fR,g.hl⟩ (by unfold Mf;rw[if_pos Uz];exact⟨v',ps,DD,rfl⟩)
 ·have hup':¬u.up=true:=by rw[Uz];simp
  refine aE (k:=.i) u.d (aP b1 rfl) ?_;have hn:=ok.len;have K1d:=k1.tr (bY w1);have h1d:=h.kp K1d;have b1d:=bG.dr b1;obtain⟨S1,hS1,xS,c0,_⟩:=h1d.Uw;refine Pp h1 aB (λd dv h0 hi=>?_) (λpA=>?_)
  ·refine aA rfl (aE (k:=.ptr) (some ⟨a,0,none⟩) c0 (aE (k:=.slice) sl (aP b1d rfl) (oh hS1 ⟨aP b1d rfl,?_⟩)));obtain⟨S2,hD,LJ,eO⟩:=h1d.drv hi;have hm:=lD hi;have okd:=ok.ds _ hm;refine DRecv_i hD okd.1 ⟨ok.b0,hB⟩ (hr.aK K1d fQ λ_ _=>id) (λb bR=>⟨λhk=>(ho b bR).1 (LJ _ hk),by have:=(ho b bR).2;have:=K1d.size;omega⟩) aB λr rm ds ms yF w5 S2' g hrm DD=>?_;obtain⟨S5,h5,u5,e5⟩:=eO yF w5 S2' g.drv g.up;have PV:=ok.v.dO.dA;have gl:=g.len;rw[okd.2] at gl;have rq:=ye (N:=N) (g.row.cov e5) (λk hk=>pG (hN k hk) K1d.size);have rmm:wU eI 9 tN gV.cD (λk=>¬S5 k/\k<w5.heap.size/\w.heap.size<=k) w5 rm ms:=((hrm.cov e5).rd VW).wk λk h1 h2=>⟨h1.2,h2,by have:=h1.1;have:=K1d.size;omega⟩;have lrm:=rmm.len;have zw1:w1.drew.heap.size=w1.heap.size:=rfl;have nS1:¬S w.heap.size:=λhs=>by have:=lt0 _ hs;omega
   have U5:Up S S5 w w5:=(Up.aO K1d).tr u5;have o5:cU w5 w.heap.size MJ (Ck (u,sl)):=b1d.1.aK u5.m nS1;have Nm:=h5.lt;have z5:=u5.size;have Vp:ms.length<=20:=by
    obtain⟨g',e',_,hc⟩:=DD;rcases hc with⟨_,_,_,rfl⟩|⟨_,_,_,_,rfl⟩|⟨_,_,p,c,oF,gs,c',LO,lR,dK,uj,YR,_,_,hF,Vp,_⟩
    ·simp
    ·simp
    ·have rf:=xJ (okd.1.ch _ uj).1 YR;have h1:=hF.len;rw[Vp];unfold TI;rw[oH];have:=zL (λx:gV×Int=>decide (x.2=0)) LO;omega
   refine bL (λc t w6=>∃(i:Nat) (rh:Sl),i<=ms.length/\c=ms.length-i/\t=(rh,(i:Int),())/\aL w5 w6/\Gi w.heap.size S5 w6 rh ((ms.take i).map λm=>⟨u.d,yF.aM,false,m⟩)/\(∀b,rh.b=some b->w5.heap.size<=b.block)) ms.length
    ⟨0,aZ,dE _,rfl,rfl,aU.refl _ _,fK.nil,λb bR=>(by cases bR)⟩ ?_
   rintro c t w6 ⟨i,rh,hi6,rfl,rfl,k6,q6,f6⟩ X hX;dsimp only;have h6:=h5.kp k6;have m6:=rmm.kp Si k6;have o6:=o5.aK k6 id;have z6:=k6.size;refine aJ (λcC=>?_) (λkC=>?_)
   ·have dJ:i<ms.length:=aB;have cQ:=cM dJ;have sC:=mM dJ;generalize ms[i]=m at*;obtain⟨q,fc,hq,hh,BC,YJ⟩:=m6.get cQ;rw[dW,pP i aB];refine⟨⟨aB,cC⟩,aA hq (aX (l:=fi) (GJ (m,fc)) hh ?_)⟩;refine fF (zs:=tN (⟨0,0,0,[],0,VZ⟩,aZ)) (vs:=tN (m,fc)) CI rfl (QM _) λw8 o8 k8 z8=>?_;have K8:=k8.tr (bY w8);have h8:=h6.kp K8;have o8d:=o8.aK (bY w8) id;have o6d:=o6.aK K8 id;have LH:({W with ds:=W.ds.set u.d.toNat (d,yF)}:jD).ds[u.d.toNat]? =some (d,yF):=by
     show(W.ds.set u.d.toNat (d,yF))[u.d.toNat]? =_;rw[jA];have:=(eQ.1 hi).1;simp[this]
    obtain⟨_,hD8,_,_⟩:=h8.drv LH;refine aE (k:=.i) u.d (cV o6d rfl) (aX (l:=fi) (GJ (m,fc)) (o8d.holds λj v hj=>by rw[gI];exact hj) (DConn_i hD8 ⟨o8d.holds λj v hj=>by rw[gI];exact hj,cV o6d rfl,?_⟩));have z8d:=K8.size;refine fK.vu NM Wz oneHd aB (q6.kp K8) (by simp;omega) aB (λk hk=>by have:=Nm k hk;omega) ⟨u.d,yF.aM,false,m⟩ (sl:=fc) (BC.aK K8 cI λ_ _=>id) (λb bR=>⟨(YJ b bR).1.2.2,(YJ b bR).1.1,by have:=(YJ b bR).2;omega,λb' VM e=>by have:=f6 b' VM;have:=(YJ b bR).1.2.1;omega⟩) λrh' eZ v10 UZ nb10=>?_;refine hX _ _ _ aB ⟨i+1,rh',dJ,rfl,rfl,(k6.tr K8).fresh UZ λk ⟨b,bR,e⟩=>by rw[e];exact f6 b bR,by rw[sC,wQ];exact v10,λb bR=>?_⟩;rcases nb10 b bR with⟨a',mU,e⟩|h
    ·rw[e];exact f6 a' mU
    ·omega
   ·have ei:i=ms.length:=aB;subst ei;rw[oI] at q6;refine aE (k:=.i) u.d (cV o6 rfl) ?_;have e0:(u.d.toNat:Int)=u.d:=aB;refine ups_i h6 ((rq.kp KU k6).wk λk h1 h2=>⟨h1.1,h2,h1.2.2⟩) (by show W.jU.length+ds.length<=_;omega) λw8 S8 h8 u8=>?_;have okn:Am G (B+16) n ({W with ds:=W.ds.set u.d.toNat (d,yF)}:jD):=⟨WV ok.v aB,by have:=ok.b0;omega,⟨by show(W.ds.set _ _).length=n;rw[nN];exact ok.len.1,ok.len.2⟩,λp hp=>?_,ok.jU,ok.bK⟩
    ·refine hQ rh _ _ w8 S8 ⟨h8,(U5.tr (Up.aO k6)).tr u8,q6.up u8,Hf okn λx hx=>?_,rfl,by show(W.jU++_).length<=_;simp;omega,by show W.v.fR<=_;omega,by rw[oH];exact Vp⟩ ?_
     ·obtain⟨bb,Kz,rfl⟩:=mD.1 hx;have GM:=(eQ.1 hi).1;exact⟨g.pks bb Kz,λ_=>⟨h0,by show u.d<n;omega⟩⟩
     ·unfold Mf;rw[if_neg hup'];exact .inr ⟨d,dv,yF,ds,ms,hi,h0,DD,rfl,rfl⟩
    ·rcases List.mem_or_eq_of_mem_set hp with hp|rfl
     ·exact⟨(ok.ds p hp).1.mono aB,(ok.ds p hp).2⟩
     ·exact⟨g.ok,g.dO.trans okd.2⟩
  ·refine aA rfl (aE (k:=.ptr) (some ⟨a,0,none⟩) c0 (aE (k:=.slice) sl (aP b1d rfl) (oh hS1 ⟨aP b1d rfl,?_⟩)));refine tq (hr.aK K1d fQ λ_ _=>id) aB λw5 k5=>?_;have b5:=bG.kp b1d k5;refine bL (λc t w6=>c=0/\t=(aZ,(0:Int),())/\w6=w5) 0 ⟨rfl,rfl,rfl⟩ ?_;rintro c t w6 ⟨rfl,rfl,rfl⟩ X hX;dsimp only;refine aJ (λcC=>by simp at cC) (λ_=>aE (k:=.i) u.d (aP b5 rfl) ?_);have h5:=h1d.kp k5;refine ups_i (bs:=[]) (l:=aZ) h5 ⟨[],rfl,Rd.nil _ _ _,λb bR=>(by cases bR),λx hx=>by cases hx⟩ (by simp;omega) λw8 S8 h8 u8=>?_;have e:W.add (([]:List (List cG)).map (Uv u.d))=W:=by unfold jD.add;simp
   rw[e] at h8;refine hQ _ [] W w8 S8 ⟨h8,(Up.aO (K1d.tr k5)).tr u8,fK.nil,ok.mono aB,rfl,aB,aB,dE _⟩ ?_;unfold Mf;rw[if_neg hup'];exact .inl ⟨pA,rfl,rfl⟩
end
end
section
structure GF where
 kind:Int
 d:Int
 n:Int
 m:Int
 Vm:List cG
abbrev uq(x:GF×Sl):List Value:=[aD x.1.kind,aD x.1.d,aD x.1.n,aD x.1.m,sv x.2]
abbrev kEv:List CK:=[.i,.i,.i,.i,.slice]
abbrev Qv(x:GF×Sl):Int×Int×Int×Int×Sl×Unit:=(x.1.kind,x.1.d,x.1.n,x.1.m,x.2,())
theorem wh:∀x:GF×Sl,(uq x).length=5:=λ_=>rfl
theorem oneEv:∀x:GF×Sl,∀u∈uq x,u.oneCell'=true:=by intro x u hu;simp at hu;rcases hu with rfl|rfl|rfl|rfl|rfl<;>rfl
theorem eEv_ne(x:GF×Sl):uq x≠[]:=by simp
def Ga(n:Int)(l:Nat):Nat:=(Int.tmod (Int.tmod n l+l) l).toNat
theorem idxB_lt{n:Int}{l:Nat}(hl:0<l)(hm:l<=1000000):Ga n l<l/\Int.tmod (aQ (Int.tmod n (l:Int)+(l:Int))) (l:Int)=((Ga n l:Nat):Int):=by
 have h1:(Int.tmod n (l:Int)).natAbs=n.natAbs%l:=by rw[Int.natAbs_tmod];rfl
 have h2:=Nat.mod_lt n.natAbs hl;rw[<-h1] at h2;have h3:0<=Int.tmod n (l:Int)+l:=aB;have h4:=Int.tmod_nonneg (b:=(l:Int)) h3;have h5:=Int.tmod_lt_of_pos (Int.tmod n (l:Int)+l) (show(0:Int)<l by omega);rw[gZ aB aB];unfold Ga;exact⟨aB,aB⟩
def jD.rem(W:jD)(i:Nat):jD:={W with jU:=W.jU.take i++W.jU.drop (i+1)}
def BetR(G:Gr)(W:jD)(ev:GF)(W':jD)(hs:List qV):Prop:=
 (W.jU=[]/\W'=W/\hs=[])\/∃u,W.jU[Ga ev.n W.jU.length]? =some u/\if ev.kind=3 then W'=W.add [u]/\hs=[] else if ev.kind=2 then W'=W.rem (Ga ev.n W.jU.length)/\hs=[] else Mf G (W.rem (Ga ev.n W.jU.length)) u W' hs
section
variable{N:BS}{W0 w:aH}{S:BS}{a wa n:Nat}{W:jD}{E:qO}{G:Gr}{B:Int}
theorem yM.same(h:iS N E.e a wa W w S)(ok:Am G B n W){w':aH}(k:aL w w')(c:Nat):yM N G B n E.e a wa W w S aZ [] c W w' S:=
 ⟨h.kp k,Up.aO k,fK.nil,ok.mono aB,rfl,aB,aB,dE _⟩
theorem between_i{ev:GF}{sl:Sl}{Q:Sl->aH->Prop}(h:iS N E.e a wa W w S)(hN:∀k,N k->k<w.heap.size)(hb:Bs W0 E G S w)(ok:Am G B n W)(hB:B<=100000000000000)(FW:W.jU.length<=800000)
  (hQ:∀rh hs W' w' S',yM N G B n E.e a wa W w S rh hs (W.v.dO.dA+1) W' w' S'->BetR G W ev W' hs->Q rh w'):AI (some ⟨wa,0,none⟩) (Qv (ev,sl)) w Q:=by
 unfold AI;have lt0:=h.lt;refine cO (cs:=uq (ev,sl)) λw1 b1 k1 z1=>aA rfl ?_;have h1:=h.kp k1;obtain⟨xT,c2,lb,qR,xs,OF,fq,hx3⟩:=h1.OM;refine aE (k:=.slice) xT c2 (aF (λh0=>?_) (λh0=>?_))
 ·have hl:W.jU.length=0:=by simp at h0;omega
  exact hQ _ [] W w1 S (yM.same h ok k1 _) (.inl ⟨Lu hl,rfl,rfl⟩)
 have hl:0<W.jU.length:=by simp at h0;omega
 obtain⟨hi,hix⟩:=idxB_lt (n:=ev.n) (l:=xT.l) aB aB;refine aE (k:=.i) ev.n (aP b1 rfl) ⟨aB,aB,aA rfl (aE (k:=.slice) xT c2 ?_)⟩;rw[hix,dW];have xl:xs.length=W.jU.length:=by rw[<-OF,oH]
 obtain⟨i,hie⟩:∃i,i=Ga ev.n W.jU.length:=⟨_,rfl⟩;have hie2:Ga ev.n xT.l=i:=by rw[hie,lb]
 rw[hie2] at hi ⊢;have hgx:=cM (show i<xs.length by omega);generalize xs[i]=y at*;obtain⟨u,slu⟩:=y;have hgu:W.jU[i]? =some u:=by rw[<-OF,oM,hgx];rfl
 have gF:=lD hgx;have hu:=ok.jU u (lD hgu);obtain⟨hru,hou⟩:=hx3 _ gF;obtain⟨_,_,_,⟨S01,S02,FF,⟨_,_,_,⟨_,_,_,hv,_⟩,_⟩,_⟩,_⟩:=id fq;obtain⟨q,hq,hh⟩:=(hv.1.rd VT).get i _ hgx;refine⟨⟨aB,aB⟩,aA hq (aX (l:=[.i,.bool,.slice]) (u.d,u.up,slu,()) hh ?_)⟩;refine fF (zs:=Ck (⟨0,false,[]⟩,aZ)) (vs:=Ck (u,slu)) Ja rfl (Wv _) λw3 o3 k3 z3=>?_;have b3:=bG.kp b1 k3;have K3:=k1.tr k3;refine aE (k:=.i) ev.kind (aP b3 rfl) (aF (λhk=>?_) (λhk=>?_))
 ·have ue:ev.kind=3:=by simpa using hk
  have kd:=k3.tr (bY w3);have Lh:=o3.aK (bY w3) id;have c23:=kd.cell c2 id;refine aA rfl (aE (k:=.slice) xT c23 (aE (k:=.i) u.d (cV Lh rfl) (aE (k:=.bool) u.up (cV Lh rfl) (aE (k:=.slice) slu (cV Lh rfl) ?_))));refine vR (hru.aK kd fQ λ_ _=>id) (show u.data.length<=1000000 by omega) λr w4 S4 _ k4 _ rd4 f4=>?_;have o4:=Lh.aK k4 id;have c24:=k4.cell c23 id;refine⟨cV o4 rfl,cV o4 rfl,c24,?_⟩;refine cO (cs:=Ck (u,r)) λw5 b5 k5 z5=>⟨k5.cell c24 id,?_⟩;have K5:=kd.tr (k4.tr k5);have zz:=kd.size;have bd:=bG.gX fq;refine Ig (u:=u) (sl:=r) (bG.kp fq K5) (OI hx3 (Up.aO K5)) b5.1 ((bG.kp rd4 k5).1) ⟨λb bR=>⟨λhs=>by have:=bd _ hs;have:=f4 b bR;omega,(bG.kp rd4 k5).2.2.1 b bR⟩,λb bR hn=>by have:=hN _ hn;have:=f4 b bR;have:=k1.size;omega⟩ aB λw8 S8 h8 u8=>hQ _ [] (W.add [u]) w8 S8 ⟨by
    have e2:(⟨W.v,W.ds,(xs++[(u,r)]).map (·.1),W.row⟩:jD)=W.add [u]:=by unfold jD.add;rw[wQ,OF];rfl
    rw[e2] at h8;exact h8,((Up.aO (k1.tr K5)).tr u8),fK.nil,Hf (ok.mono aB) λx hx=>by rw[oG.1 hx];exact hu,rfl,by show(W.jU++[u]).length<=_;rw[fJ,ly0];omega,by show W.v.fR<=_;omega,dE _⟩ (.inr ⟨u,by rw[<-hie];exact hgu,by rw[if_pos ue];exact⟨rfl,rfl⟩⟩)
 ·have ue:¬ev.kind=3:=by simpa using hk
  have h3:=bG.kp fq k3;have v3:=hv.1.aK k3 λ_ _=>id;refine aA rfl (aE (k:=.slice) xT (k3.cell c2 id) ?_);rw[gZ aB aB];refine DelUn_i v3 aB aB λs8 w8 v8 m8 hs8=>aA rfl ?_;have hBL:∀k,BL s8 k->BL xT k:=λk ⟨b,bR,e⟩=>⟨b,hs8.symm.trans bR,e⟩;have ou3:=OI hx3 (Up.aO (S:=S) k3);refine ze (YW:=s8) (SV':=λk=>BL s8 k) h3 m8 (λk hk=>hk) ⟨v8,λk=>Iff.rfl⟩ (λk hk=>.inl (hBL k hk)) λw9 S9 h9 u9 m9=>?_;have e2:(⟨W.v,W.ds,(xs.take i++xs.drop (i+1)).map (·.1),W.row⟩:jD)=W.rem i:=by unfold jD.rem;rw[wQ,List.map_take,List.map_drop,OF]
  have h9':iS N E.e a wa (W.rem i) w9 S9:=by rw[<-e2];exact⟨s8,_,rfl,h9,OI (λx hx=>ou3 x ((kE.1 hx).elim List.mem_of_mem_take List.mem_of_mem_drop)) u9⟩
  have U9:Up S S9 w w9:=(Up.aO K3).tr u9;have okr:Am G B n (W.rem i):=⟨ok.v,ok.b0,ok.len,ok.ds,λx hx=>ok.jU x ((kE.1 hx).elim List.mem_of_mem_take List.mem_of_mem_drop),ok.bK⟩;have lr:(W.rem i).jU.length+1=W.jU.length:=by show(W.jU.take i++W.jU.drop (i+1)).length+1=_;simp;omega
  have cK:w9.cell? ((⟨w.heap.size,0,none⟩:Addr).add 0)=some (aD ev.kind):=by have:=(b3.1).aK u9.m (λhs=>by have:=lt0 _ hs;omega);exact cV this rfl
  refine aE (k:=.i) ev.kind cK (aF (λGC=>?_) (λGC=>?_))
  ·have hk2':ev.kind=2:=by simpa using GC
   exact hQ _ [] (W.rem i) w9 S9 ⟨h9',U9,fK.nil,okr.mono aB,rfl,aB,by show W.v.fR<=_;omega,dE _⟩ (.inr ⟨u,by rw[<-hie];exact hgu,by rw[if_neg ue,if_pos hk2',<-hie];exact⟨rfl,rfl⟩⟩)
  ·have hk2':¬ev.kind=2:=by simpa using GC
   have o9:=o3.aK u9.m (λhs=>by have:=lt0 _ hs;have:=k1.size;omega);have ho3:=ou3 _ gF;refine aX (l:=[.i,.bool,.slice]) (u.d,u.up,slu,()) (o9.holds λj v hj=>by rw[gI];exact hj) ?_;refine arrive_i h9' (λk hk=>pG (hN k hk) U9.size) (hb.up U9) okr hB aB hu (ho3.2.rd u9 ho3.1 fQ) (ho3.2.up u9).o λrh hs W' w' S' g DD=>?_;exact hQ rh hs W' w' S' ⟨g.x,U9.tr g.up,g.BC.qM U9.size,g.ok,g.dO,by have:=g.len;have e:(W.rem i).v=W.v:=rfl;rw[e] at this;omega,g.fR,g.hl⟩ (.inr ⟨u,by rw[<-hie];exact hgu,by rw[if_neg ue,if_neg hk2',<-hie];exact DD⟩)
end
end
section
def DrvsR(G:Gr)(W:jD)(ev:GF)(W':jD)(hs:List qV):Prop:=0<=ev.d/\ev.d<W.ds.length->
 (ev.kind=7->∃d dv yF ds,W.ds[ev.d.toNat]? =some (d,dv)/\ZF dv ev.m ev.n yF ds/\W'=({W with ds:=W.ds.set ev.d.toNat (d,yF)}:jD).add (ds.map (Uv ev.d))/\hs=[])/\
 (ev.kind=11->∃v' ps,Hd G W.v ev.d ev.Vm v' ps hs/\W'=({W with v:=v'}:jD).add (ps.map Qs))
structure TickV(v v':iQ)(ps:List Pk):Prop where
 dO:v'.dO=v.dO
 fR:v'.fR=v.fR+1
 u:v'.u=lapU (v.fR+1) v.u (QT 0 v.u)
 bK:∀f∈v'.t.bK,f∈v.t.bK
 q:oz v->(lapL (v.fR+1) (QT 0 v.u)=[]\/v.t.bK=[])->v'.t.bK=v.t.bK.filter (λe=>!expd v e)/\v'.t.gr=v.t.gr/\F2 (λe p=>uv (e.aN:Int) ⟨e.aM,3,0,0,3,[]⟩ p) (v.t.bK.filter λe=>expd v e) ps/\(∀e∈v.t.bK,ChQ (v.ch e.aN) (v'.ch e.aN))/\v'.KZ=v.KZ/\∀k,(v'.lf k).getD (false:Bool)=false
def TickR(W W':jD):Prop:=∃ps ups,TickV W.v W'.v ps/\W'.jU=W.jU++ps.map Qs++ups/\W'.ds.length=W.ds.length/\(∀(i:Nat) d dv,W.ds[i]? =some (d,dv)->∃yF ds,W'.ds[i]? =some (d,yF)/\DTickR dv yF ds)/\((∀(i:Nat) d dv yF ds,W.ds[i]? =some (d,dv)->DTickR dv yF ds->ds=[])->ups=[])
section
variable{N:BS}{W0 w:aH}{S:BS}{a wa n:Nat}{W:jD}{E:qO}{G:Gr}{B:Int}
theorem drv_sent{i:Nat}{d:Nat}{dv yF:BD}{w':aH}{S1 S2':BS}{r:Sl}{ds:List (List cG)}{Q:aH->Prop}(h:iS N E.e a wa W w S)(hi:W.ds[i]? =some (d,dv))(ok:Am G B n W)(FW:W.jU.length<=800000)(hN:∀k,N k->k<w.heap.size)
  (eO:∀yF w' DC,AF d yF w' DC->Up S1 DC w w'->∃S',iS N E.e a wa {W with ds:=W.ds.set i (d,yF)} w' S'/\Up S S' w w'/\∀k,S' k->DC k\/k<w.heap.size) (g:Wm B d dv w S1 r ds yF w' S2')
  (hQ:∀w2 S3,iS N E.e a wa (({W with ds:=W.ds.set i (d,yF)}:jD).add (ds.map (Uv (i:Int)))) w2 S3->Up S S3 w w2->Am G (B+16) n (({W with ds:=W.ds.set i (d,yF)}:jD).add (ds.map (Uv (i:Int))))->ds.length<=W.v.dO.dA+1->Q w2):CR (some ⟨wa,0,none⟩) (i:Int) r w' Q:=by
 obtain⟨S2,h2,u2,e2⟩:=eO yF w' S2' g.drv g.up;have okd:=ok.ds _ (lD hi);have gl:=g.len;rw[okd.2] at gl;have PV:=ok.v.dO.dA;refine ups_i h2 (ye (g.row.cov e2) hN) (by show W.jU.length+_<=_;omega) λw4 S4 h4 u4=>?_;have cC:=(eQ.1 hi).1;have hln:=ok.len;refine hQ w4 S4 h4 (u2.tr u4) (Hf ⟨WV ok.v aB,by have:=ok.b0;omega,⟨by show(W.ds.set _ _).length=n;rw[nN];exact ok.len.1,ok.len.2⟩,λp hp=>?_,ok.jU,ok.bK⟩ λx hx=>?_) gl
 ·rcases List.mem_or_eq_of_mem_set hp with hp|rfl
  ·exact⟨(ok.ds p hp).1.mono aB,(ok.ds p hp).2⟩
  ·exact⟨g.ok,g.dO.trans okd.2⟩
 ·obtain⟨bb,Kz,rfl⟩:=mD.1 hx;exact⟨g.pks bb Kz,λ_=>⟨by show(0:Int)<=(i:Int);omega,by show(i:Int)<n;omega⟩⟩
end
end
section
def ChgR_q(v v1:iQ)(W W':jD)(hs:List qV):Prop:=∃v' ps,vL v1 v'/\(v.t.bK=[]->v'=v1/\ps=[])/\W'=({W with v:=v'}:jD).add (ps.map Qs)/\hs=[]
def LZ(G:Gr)(W:jD)(ev:GF)(W':jD)(hs:List qV):Prop:=
 ((ev.kind=1\/ev.kind=2\/ev.kind=3)->BetR G W ev W' hs)/\(ev.kind=4->TickR W W'/\hs=[])/\(ev.kind=5->ChgR_q W.v (W.v.Vu (W.v.MO ev.n ev.m)) W W' hs)/\
 ((ev.kind=7\/ev.kind=11)->DrvsR G W ev W' hs)
def yK(c:wV)(n:Nat):Nat:=c.sT*(2*c.dA+2)+n*(2*c.dA+1)
theorem Ye{c:wV}{n:Nat}(ok:c.Ok)(hn:1<=n):c.dA+1<=yK c n/\c.sT*c.dA<=yK c n/\c.sT*(2*c.dA+1)+n*(c.dA+1)<=yK c n:=by
 unfold yK;have h1:c.sT*(2*c.dA+2)=c.sT*(2*c.dA+1)+c.sT:=by rw[show 2*c.dA+2=2*c.dA+1+1 from rfl,Nat.mul_add,Nat.mul_one]
 have h2:n*(2*c.dA+1)=n*(c.dA+1)+n*c.dA:=by rw[<-Nat.mul_add];congr 1;omega
 have h3:1*(c.dA+1)<=n*(c.dA+1):=PU _ hn;have h4:c.sT*(2*c.dA+1)=c.sT*c.dA+c.sT*(c.dA+1):=by rw[<-Nat.mul_add];congr 1;omega
 omega
section
variable{N:BS}{W0 w:aH}{S:BS}{a wa n:Nat}{W:jD}{E:qO}{G:Gr}{B:Int}
theorem yM.RW{rh:Sl}{hs:List qV}{k k':Nat}{W':jD}{w':aH}{S':BS}(g:yM N G B n E.e a wa W w S rh hs k W' w' S')(h:k<=k'):yM N G B n E.e a wa W w S rh hs k' W' w' S':=⟨g.x,g.up,g.BC,g.ok,g.dO,by have:=g.len;omega,g.fR,g.hl⟩
theorem srv_sent{v1 v':iQ}{w1:aH}{S1 DC:BS}{r:Sl}{ps:List Pk}{Q:aH->Prop}(h:iS N E.e a wa W w S)(ok:Am G B n W)(FW:W.jU.length<=800000)(hN:∀k,N k->k<w.heap.size)
  (eO:∀v' w' DC,jK E.e a v' w' DC->Up S1 DC w w'->∃S',iS N E.e a wa {W with v:=v'} w' S'/\Up S S' w w'/\∀k,S' k->DC k\/k<w.heap.size) (g:ChgS G B E.e a W.v v1 w S1 r ps v' w1 DC) (Dx:v1.dO=W.v.dO/\v1.t=W.v.t/\v1.fR=W.v.fR)
  (hQ:∀w2 S3,yM N G B n E.e a wa W w S aZ [] (yK W.v.dO n) (({W with v:=v'}:jD).add (ps.map Qs)) w2 S3->ChgR_q W.v v1 W (({W with v:=v'}:jD).add (ps.map Qs)) []->Q w2):rJ (some ⟨wa,0,none⟩) r w1 Q:=by
 obtain⟨S2,h2,u2,e2⟩:=eO v' w1 DC g.Uw g.up;have hn:=ok.len;have PV:=ok.v.dO.dA;have gl:=g.len;have l1:W.v.t.bK.length<=W.v.dO.sT:=by have:=ok.v.t.len;have:=ok.v.fD;omega
 have l2:W.v.t.bK.length*W.v.dO.dA<=W.v.dO.sT*W.v.dO.dA:=PU _ l1;have l3:=(Ye ok.v.dO hn.2.1).2.1;have lw:W.v.dO.sT*W.v.dO.dA<=16*16:=RX ok.v.dO.sT.2 PV.2;have ec:v'.dO=W.v.dO:=g.same.dO.trans Dx.1;have et:v'.t=W.v.t:=g.same.t.trans Dx.2.1;refine yx h2 (yf (g.row.cov e2) hN) (by show W.jU.length+_<=_;omega) λw4 S4 h4 u4=>?_;refine hQ w4 S4 ⟨h4,u2.tr u4,fK.nil,Hf ⟨WV g.ok aB,by have:=ok.b0;omega,ok.len,λp hp=>⟨(ok.ds p hp).1.mono aB,(ok.ds p hp).2.trans ec.symm⟩,ok.jU,λe he=>ok.bK e (by rw[<-et];exact he)⟩ λx hx=>?_,ec,by show(W.jU++_).length<=_;rw[fJ,oH];omega,by show v'.fR<=_;rw[g.same.fR,Dx.2.2];omega,dE _⟩ ⟨v',ps,g.same,g.nil,rfl,rfl⟩;obtain⟨p,hp,rfl⟩:=mD.1 hx;exact⟨(g.pks p hp).1,λh=>by cases h⟩
def Xl(K:jD->GF->Prop):Prop:=∀(N:BS) (W0 w:aH) (S:BS) (a wa n:Nat) (W:jD) (E:qO) (G:Gr) (B:Int) (ev:GF) (sl:Sl) (Q:WQ Sl),K W ev->iS N E.e a wa W w S->(∀k,N k->k<w.heap.size)->Bs W0 E G S w->Am G B n W->B<=1000000000->W.jU.length<=800000->W.v.fR<1000000000->Rd w sl 1 eU ev.Vm->LL sl S w->ev.Vm.length<=5000->
 (∀rh hs W' w' S',yM N G B n E.e a wa W w S rh hs (yK W.v.dO n) W' w' S'->LZ G W ev W' hs->Q rh w')->NA (some ⟨wa,0,none⟩) (Qv (ev,sl)) w Q
inductive jq(G:Gr):jD->List GF->jD->List qV->Prop
 |nil {W:jD}:jq G W [] W []
 |gU {W:jD} {QF:List GF} {W1:jD} {hs:List qV} {ev:GF} {W2:jD} {LJ:List qV}:jq G W QF W1 hs->LZ G W1 ev W2 LJ->jq G W (QF++[ev]) W2 (hs++LJ)
abbrev RowE:=wU (α:=GF) eU 5 uq GF.Vm
structure DoO(N:BS)(G:Gr)(B:Int)(n:Nat)(ee a wa:Nat)(W:jD)(w:aH)(S:BS)(rh:Sl)(hs:List qV)(c:Nat)(W':jD)(w':aH)(S':BS):Prop where
 x:iS N ee a wa W' w' S'
 up:Up S S' w w'
 BC:Gi w.heap.size S' w' rh hs
 ok:Am G (B+16*c) n W'
 dO:W'.v.dO=W.v.dO
 len:W'.jU.length<=W.jU.length+c*yK W.v.dO n
 fR:W'.v.fR<=W.v.fR+c
 hl:hs.length<=c*20
theorem iS.SN{N':BS}(h:iS N E.e a wa W w S)(hb:W.jU=[]):iS N' E.e a wa W w S:=by
 obtain⟨xT,xs,h1,h2,h3⟩:=h.ex;rw[hb] at h1;have:xs=[]:=List.map_eq_nil_iff.1 h1;subst this;exact⟨xT,[],by rw[hb];rfl,h2,λx hx=>by cases hx⟩
theorem iS.jt{N':BS}(h:iS N E.e a wa W w S)(hN:∀k,N' k->N k\/w.heap.size<=k):iS N' E.e a wa W w S:=by
 obtain⟨xT,xs,h1,h2,h3⟩:=h.ex;exact⟨xT,xs,h1,h2,λx hx=>⟨(h3 x hx).1,(h3 x hx).2.o,λb hb hn=>(hN _ hn).elim ((h3 x hx).2.n b hb) λh=>by have:=((h3 x hx).2.o b hb).2;omega⟩⟩
theorem iS.ov{w':aH}{F:BS}(h:iS N E.e a wa W w S)(m:aU F w w')(hF:∀k,F k->N k/\¬S k):iS N E.e a wa W w' S:=by
 obtain⟨xT,xs,h1,h2,h3⟩:=h.ex;exact⟨xT,xs,h1,bG.aK h2 m λk hk hf=>(hF k hf).2 hk,λx hx=>⟨(h3 x hx).1.aK m fQ λb hb hf=>(h3 x hx).2.n b hb (hF _ hf).1,λb hb=>⟨((h3 x hx).2.o b hb).1,pG ((h3 x hx).2.o b hb).2 m.size⟩,(h3 x hx).2.n⟩⟩
theorem do_i{K:jD->GF->Prop}(jB:Xl K){QF:Sl}{l:List GF}{Q:Sl->aH->Prop}(hK:∀W1 ev,ev∈l->(l.length=1->W1=W)->K W1 ev)(h:iS N E.e a wa W w S)(hN:∀k,N k->k<w.heap.size)(hb:Bs W0 E G S w)(ok:Am G B n W)(hB:B+16*l.length<=1000000000)(ub:l.length<=100)(FW:W.jU.length+l.length*2000<=800000)(Cu:W.v.fR+l.length<=1000000000)(hr:RowE (λk=>¬S k/\k<w.heap.size) w QF l)(hl:∀ev∈l,ev.Vm.length<=5000)
  (hQ:∀rh hs W' w' S',DoO N G B n E.e a wa W w S rh hs l.length W' w' S'->jq G W l W' hs->Q rh w'):EE (some ⟨wa,0,none⟩) QF w Q:=by
 unfold EE;have lt0:=h.lt;have hlr:=hr.len;have hn:=ok.len;have hmu:yK W.v.dO n<=2000:=by unfold yK;have h1:=ok.v.dO.sT;have h2:=ok.v.dO.dA;have h3:W.v.dO.sT*(2*W.v.dO.dA+2)<=16*34:=RX h1.2 aB;have h4:n*(2*W.v.dO.dA+1)<=16*33:=RX aB aB;omega
 refine aF (λh=>by simp at h) (λ_=>?_);refine bL (λc t w1=>∃(i:Nat) (rh:Sl) (hs:List qV) (W1:jD) (S1:BS),i<=l.length/\c=l.length-i/\t=(rh,(i:Int),())/\DoO (λk=>N k\/BL rh k) G B n E.e a wa W w S rh hs i W1 w1 S1/\jq G W (l.take i) W1 hs/\hs.length<=i*20) l.length
  ⟨0,aZ,[],W,S,dE _,rfl,rfl,⟨h.jt λk hk=>hk.elim .inl λ⟨b,bR,_⟩=>(by cases bR),Up.refl _ _,fK.nil,ok.mono aB,rfl,by simp,aB,by simp⟩,.nil,dE _⟩ ?_
 rintro c t w1 ⟨i,rh,hs,W1,S1,hi,rfl,rfl,g,hdo,hhl⟩ X hX;dsimp only;refine aJ (λcC=>?_) (λkC=>?_)
 ·have dJ:i<l.length:=aB;have cQ:=cM dJ;have gF:=mX dJ;have sC:=mM dJ;generalize l[i]=ev at*;obtain⟨q,sl,hq,hh,BC,YJ⟩:=(hr.aK eEv_ne g.up.m λk hk _=>hk.1).get cQ;have z1:=g.up.size;rw[dW,pP i aB];refine⟨⟨aB,cC⟩,aA hq (aX (l:=kEv) (Qv (ev,sl)) hh ?_)⟩;refine fF (zs:=uq (⟨0,0,0,0,[]⟩,aZ)) (vs:=uq (ev,sl)) qb rfl (oneEv _) λw3 o3 k3 z3=>?_;refine aX (l:=kEv) (Qv (ev,sl)) (o3.holds λj v hj=>by rw[gI];exact hj) ?_;have hos:LL sl S1 w1:=λb bR=>⟨λhs=>(g.up.s _ hs).elim (YJ b bR).1.1 λh=>by have:=(YJ b bR).1.2;omega,(YJ b bR).2⟩;have glen:=g.len;have im:i*yK W.v.dO n<=i*2000:=Nat.mul_le_mul_left _ hmu;have gnow:=g.fR;have hi2:i*2000+2000<=l.length*2000:=by have:(i+1)*2000<=l.length*2000:=PU _ dJ;omega
  refine jB _ _ _ _ _ _ _ _ _ _ _ _ _ _ (hK _ _ gF λh1=>by
   have e0:i=0:=aB;subst e0;generalize he:l.take 0=l0 at hdo;cases hdo with
   |nil=>rfl
   |gU _ _=>simp at he) (g.x.kp k3) (λk hk=>hk.elim (λh=>by have:=hN k h;have:=k3.size;omega) λ⟨b,bR,e⟩=>by have:=g.BC.lt bR;have:=k3.size;omega) ((hb.up g.up).kp k3) g.ok aB aB aB (BC.aK k3 fQ λ_ _=>id) (hos.kp k3) (hl ev gF) λrh2 LJ W2 w4 S4 g4 DD=>?_
  have U4:Up S1 S4 w1 w4:=(Up.aO k3).tr g4.up;have bd4:=g4.x.lt;have ghl:=g4.hl;have z3':=k3.size;have z4:=g4.up.size;have h0:=g.BC.up U4;refine fK.lx NM Wz oneHd aB h0 (g4.BC) aB (λb bR=>by have:=g.BC.lt bR;omega) aB aB bd4 λr' w5 v5 m5 nb5=>?_;have nS:∀k,BL rh k->¬S4 k:=λk hk=>(h0.zR k hk).2;have x4:=g4.x.jt (N':=λk=>BL rh k\/(N k\/BL r' k)) λk hk=>hk.elim (λh=>.inl (.inr h)) λhk=>hk.elim (λh=>.inl (.inl h)) λ⟨b,bR,e⟩=>(nb5 b bR).imp (λ⟨a',mU,e2⟩=>.inr ⟨a',mU,by rw[e,e2]⟩) λh=>aB;have x5:=(x4.ov m5 λk hk=>⟨.inl hk,nS k hk⟩).jt (N':=λk=>N k\/BL r' k) λk hk=>.inl (.inr hk)
  ·have m5':=m5.mono (G:=λk=>w.heap.size<=k/\¬S4 k) λk _ hk=>h0.zR k hk;have g4len:=g4.len;have g4now:=g4.fR;rw[g.dO] at g4len;have e1:(i+1)*yK W.v.dO n=i*yK W.v.dO n+yK W.v.dO n:=by rw[Nat.add_mul,Nat.one_mul]
   refine hX _ _ _ aB ⟨i+1,r',hs++LJ,W2,S4,dJ,rfl,rfl,⟨x5,Up.iI (g.up.tr U4) m5',v5,g4.ok.mono aB,g4.dO.trans g.dO,aB,aB,by rw[fJ];omega⟩,by rw[sC];exact .gU hdo DD,by rw[fJ];omega⟩
 ·have ei:i=l.length:=aB;subst ei;rw[oI] at hdo;exact hQ rh hs W1 w1 S1 ⟨g.x.jt λ_ h=>.inl (.inl h),g.up,g.BC,g.ok,g.dO,g.len,g.fR,g.hl⟩ hdo
end
end
section
abbrev RowU:=fK (α:=wT) eU MJ 3 Ck wT.data
section
variable{N:BS}{W0 w:aH}{S:BS}{a wa n:Nat}{W:jD}{E:qO}{G:Gr}{B:Int}
theorem Po{Q:cR->aH->Prop}(h:iS N E.e a wa W w S)(hQ:Q (some ⟨a,0,none⟩) w):zE (some ⟨wa,0,none⟩) w Q:=by
 unfold zE;obtain⟨S1,_,_,c0,_⟩:=h.Uw;exact aF (λh=>by simp at h) (λ_=>aA rfl (aE (k:=.ptr) (some ⟨a,0,none⟩) c0 hQ))
theorem WBag_i{Q:Sl->aH->Prop}(h:iS N E.e a wa W w S)(hl:W.jU.length<=900000)(hd:∀u∈W.jU,u.data.length<=3000)(hQ:∀r w',RowU w.heap.size (λk=>k<w.heap.size) w' r W.jU->aL w w'->Q r w'):XE (some ⟨wa,0,none⟩) w Q:=by
 unfold XE;obtain⟨xT,c2,lb,qR,_⟩:=h.OM;refine aF (λh=>by simp at h) (λ_=>aA rfl (aE (k:=.slice) xT c2 ?_));refine bL (λc t w1=>∃(i:Nat) (r:Sl),i<=W.jU.length/\c=W.jU.length-i/\t=(r,(i:Int),())/\aL w w1/\RowU w.heap.size (λk=>k<w.heap.size) w1 r (W.jU.take i)) W.jU.length
  ⟨0,aZ,dE _,rfl,rfl,aU.refl _ _,fK.nil⟩ ?_
 rintro c t w1 ⟨i,r,hi,rfl,rfl,k1,v1⟩ X hX;dsimp only;refine aJ (λcC=>?_) (λkC=>?_)
 ·have dJ:i<W.jU.length:=aB;have cQ:=cM dJ;have gF:=mX dJ;have sC:=mM dJ;generalize W.jU[i]=u at*;have hdu:=hd u gF;obtain⟨q,sl,hq,hh,BC,YJ⟩:=(qR.kp eUn_ne k1).get cQ;rw[dW,pP i aB];refine⟨⟨aB,aB⟩,aA hq (aX (l:=[.i,.bool,.slice]) (u.d,u.up,sl,()) hh ?_)⟩;refine fF (zs:=Ck (⟨0,false,[]⟩,aZ)) (vs:=Ck (u,sl)) Ja rfl (Wv _) λw3 o3 k3 z3=>?_;have k3d:=k3.tr (bY w3);have Lh:=o3.aK (bY w3) id;refine aE (k:=.i) u.d (cV Lh rfl) (aE (k:=.bool) u.up (cV Lh rfl) (aE (k:=.slice) sl (cV Lh rfl) ?_));refine vR (BC.aK k3d fQ λ_ _=>id) (show u.data.length<=1000000 by omega) λrc w4 S4 _ k4 _ rd4 f4=>?_;have o4:=Lh.aK k4 id;refine⟨cV o4 rfl,cV o4 rfl,?_⟩;have K4:=k3d.tr k4;have z1:=k1.size;have z3':=k3d.size;have z4:=k4.size;refine fK.gU EI VT Wv aB (v1.kp K4) (by rw[sM];omega) aB (λk hk=>aB) u (sl:=rc) rd4.1 (λb hb=>⟨by have:=f4 b hb;omega,λhk=>by have:=f4 b hb;omega,rd4.2.2.1 b hb,λb' bR e=>by have:=v1.lt bR;have:=f4 b hb;omega⟩) λr' w6 v6 m6=>?_;refine hX _ _ _ aB ⟨i+1,r',dJ,rfl,rfl,(k1.tr K4).fresh m6 λk hk=>hk.1,by rw[sC];exact v6⟩
 ·have ei:i=W.jU.length:=aB;subst ei;rw[oI] at v1;exact hQ r w1 v1 k1
end
def WldR(ee a wa:Nat)(GD:Sl)(rs:List cR)(v:iQ)(ds:List (Nat×BD)):As:=
 bJ (jK ee a v) (bJ (uL wa Rz (eW a GD aZ)) (bJ (rS MQ 1 gy GD rs) (wM Wg ds)))
instance{ee a wa:Nat}{GD:Sl}{rs:List cR}{v:iQ}{ds:List (Nat×BD)}:bG (WldR ee a wa GD rs v ds):=by unfold WldR;infer_instance
theorem Xq{α:Type}{e:TypeId}{n:Nat}{aY:α->List Value}{w:aH}:rS e n aY aZ ([]:List α) w (λ_=>False):=⟨dD.nil _ _ _ _,λk=>⟨False.elim,λ⟨b,hb,_⟩=>by cases hb⟩⟩
theorem WNew_i{g:GT}{G:Gr}{c:wV}{n:Nat}{w:aH}{Q:cR->Int->aH->Prop}(hg:GQ w g G)(ok:sS G)(UM:c.Ok)(hn:1<=n/\n<=16)
  (hQ:∀E a wa sp tp lp W0 GD ds w' S',iS (λ_=>False) E.e a wa ⟨IW c G.m sp tp lp,ds,[],GD⟩ w' S'->Bs W0 E G S' w'->aL w w'->aL w W0->Am G 0 n ⟨IW c G.m sp tp lp,ds,[],GD⟩->(∀k,S' k->w.heap.size<=k)->ds.map (·.2)=List.replicate n (PX c)->Q (some ⟨wa,0,none⟩) 0 w'):uW g (wS c) (n:Int) w Q:=by
 unfold uW;refine bD λw1 o1 k1 z1=>?_;refine cO (cs:=JD c) λw2 b2 k2 z2=>?_;have tc:∀{wx:aH},uL w1.heap.size xU (JD c) wx (λk=>k=w1.heap.size)->bQ wx ⟨w1.heap.size,0,none⟩ 0 (qT JA (wS c)):=λb=>b.1.holds λj v hj=>by rw[gI];exact hj
 refine aJ (λh=>aB) (λ_=>aJ (λh=>aB) (λ_=>?_));refine aX (l:=[.slice,.slice,.slice]) g (mJ (g:=g) (o1.aK k2 id)) (aX (l:=JA) (wS c) (tc b2) ?_);have K2:=k1.tr k2;refine VNew_i (hg.aO K2) ok UM λE a sp tp lp W0 w3 S3 h3 jl kW k3 lo3=>aF (λh=>by cases h) (λ_=>?_);have b3:=bG.kp b2 k3;refine cO (cs:=eW a aZ aZ) λw4 b4 k4 z4=>?_;have bd3:=bG.gX h3;have z2':=K2.size;have z3:=k3.size;have h4:WldR E.e a w3.heap.size aZ [] (IW c G.m sp tp lp) [] w4 (λk=>S3 k\/(k=w3.heap.size\/(False\/False))):=
  bJ.xR (bG.kp h3 k4) (bJ.xR b4 (bJ.xR Xq (show wM Wg [] w4 (λ_=>False) fromλ_=>id) λ_ h _=>h) λ_ _ h=>h.elim id id) λk h1 h2=>h2.elim (λe=>by have:=bd3 k h1;omega) λh=>h.elim id id
 have b4':=bG.kp b3 k4;refine bL (λcc t w5=>∃(i:Nat) (GD:Sl) (ds:List (Nat×BD)) (S5:BS),i<=n/\cc=n-i/\t=((i:Int),())/\WldR E.e a w3.heap.size GD (YQ ds) (IW c G.m sp tp lp) ds w5 S5/\Up S3 S5 w3 w5/\ds.map (·.2)=List.replicate i (PX c)/\uL w1.heap.size xU (JD c) w5 (λk=>k=w1.heap.size)) n
  ⟨0,aZ,[],_,dE _,rfl,rfl,h4,Up.new k4 λk hk=>by
   rcases hk with h|h|h
   ·exact .inl h
   ·exact .inr aB
   ·exact(h.elim id id).elim,rfl,b4'⟩ ?_
 rintro cc t w5 ⟨i,GD,ds,S5,hi,rfl,rfl,h5,u5,YN,b5⟩ X hX;dsimp only;have z5:=u5.size;have S5lo:∀k,S5 k->w2.heap.size<=k:=λk hk=>(u5.s k hk).elim (lo3 k) λh=>aB;have n1:¬S5 w1.heap.size:=λh=>by have:=S5lo _ h;omega
 have dl:ds.length=i:=by have:=congrArg List.length YN;simpa using this
 refine aJ (λcC=>?_) (λkC=>?_)
 ·refine aX (l:=JA) (wS c) (tc b5) (DNew_i UM λw6 h6 hlt6 k6 hlo6=>?_);obtain⟨d,hd⟩:∃d,d=w6.heap.size-1:=⟨_,rfl⟩;rw[<-hd] at h6 hlo6 ⊢;have Nm:=bG.gX h5;obtain⟨SV,SQ,hV,⟨SB,SR,hBl,⟨SW,SD,hRow,hAll,dWD,eWD⟩,dBR,eBR⟩,dVQ,eVQ⟩:=bG.kp h5 k6;have fm:∀k,SB k\/SW k\/SD k->S5 k:=λk hk=>(eVQ k).2 (.inr ((eBR k).2 (hk.imp id λh=>(eWD k).2 h)));have c1:w6.cell? ((⟨w3.heap.size,0,none⟩:Addr).add 1)=some (sv GD):=aP hBl rfl;refine aE (k:=.slice) GD c1 ?_;refine cO (cs:=gy (some ⟨d,0,none⟩)) λw7 b7 k7 z7=>?_;have Ni:(YQ ds).length=i:=by simpa using dl
  refine fH Ml QO onePt (x:=⟨some ⟨w6.heap.size,0,none⟩,1,1⟩) ((hRow.1.aK k7 λ_ _=>id)) (mO QO [some ⟨d,0,none⟩] b7 rfl dN) (by simp;omega) (by simp;omega) λs2 w8 v8 m8 hr8 _=>?_;have mW:∀k,BL GD k->SW k:=λk ⟨b,hb,e⟩=>(hRow.2 k).2 ⟨b,hb,e⟩;have nB:∀k,SB k->¬BL GD k:=λk h1 h2=>dBR k h1 ((eWD k).2 (.inl (mW k h2)));have nD:∀k,SD k->¬BL GD k:=λk h1 h2=>dWD k (mW k h2) h1;have nV:∀k,SV k->¬BL GD k:=λk h1 h2=>dVQ k h1 ((eBR k).2 (.inr ((eWD k).2 (.inl (mW k h2)))));have n5:∀k,BL GD k->k<w5.heap.size:=λk h=>Nm k (fm k (.inr (.inl (mW k h))));have hBl8:uL w3.heap.size Rz (eW a GD aZ) w8 SB:=bG.aK (bG.kp hBl k7) m8 nB;have hAll8:wM Wg ds w8 SD:=bG.aK (bG.kp hAll k7) m8 nD;have hV8:jK E.e a (IW c G.m sp tp lp) w8 SV:=bG.aK (bG.kp hV k7) m8 nV;have h68:AF d (PX c) w8 (λk=>k=d):=bG.aK (bG.kp h6 k7) m8 λk (e:k=d) h=>by have:=n5 k h;omega
  have hR8:rS MQ 1 gy s2 (YQ ds++[some ⟨d,0,none⟩]) w8 (λk=>BL s2 k):=⟨v8,λk=>Iff.rfl⟩;have s2in:∀k,BL s2 k->BL GD k\/w7.heap.size<=k:=λk ⟨b,hb,e⟩=>by
   rcases hr8 with h|⟨b',h,h2⟩
   ·exact .inl ⟨b,h.symm.trans hb,e⟩
   ·rw[hb] at h;cases h;exact .inr (by rw[e];exact h2)
  refine qY hBl8 (t:=tspDriver) Mg dN rfl rfl λw9 b9 u9=>?_;have d8:d<w6.heap.size:=aB;have hds':wM Wg (ds++[(d,PX c)]) w9 (λk=>SD k\/(k=d\/False)):=WR (bJ.xR (bG.aK hAll8 u9.m λk h1 h2=>dBR k h2 ((eWD k).2 (.inr h1))) (bJ.xR (bG.aK h68 u9.m λk (e:k=d) h=>by have:=Nm k (fm k (.inl h));omega) (show DR w9 (λ_=>False) fromλ_=>id) λ_ _ h=>h) λk h1 h2=>h2.elim (λe=>by have:=Nm k (fm k (.inr (.inr h1)));omega) id);have hR9:rS MQ 1 gy s2 (YQ (ds++[(d,PX c)])) w9 (λk=>BL s2 k):=by
   have e:YQ (ds++[(d,PX c)])=YQ ds++[some ⟨d,0,none⟩]:=by simp[YQ]
   rw[e];exact bG.aK hR8 u9.m λk h1 h2=>(s2in k h1).elim (nB k h2) λh=>by have:=Nm k (fm k (.inl h2));omega
  have hV9:jK E.e a (IW c G.m sp tp lp) w9 SV:=bG.aK hV8 u9.m λk h1 h2=>dVQ k h1 ((eBR k).2 (.inl h2));have bV:=λk (h:SV k)=>Nm k ((eVQ k).2 (.inl h));have h9:WldR E.e a w3.heap.size s2 (YQ (ds++[(d,PX c)])) (IW c G.m sp tp lp) (ds++[(d,PX c)]) w9 (λk=>SV k\/(SB k\/(BL s2 k\/(SD k\/(k=d\/False))))):=
   bJ.xR hV9 (bJ.xR b9 (bJ.xR hR9 hds' λk h1 h2=>by
    rcases h2 with h2|h2|h2
    ·exact(s2in k h1).elim (nD k h2) λh=>by have:=Nm k (fm k (.inr (.inr h2)));omega
    ·exact(s2in k h1).elim (λh=>by have:=n5 k h;omega) λh=>aB
    ·exact h2) λk h1 h2=>by
    rcases h2 with h2|h2|h2|h2
    ·exact(s2in k h2).elim (nB k h1) λh=>by have:=Nm k (fm k (.inl h1));omega
    ·exact dBR k h1 ((eWD k).2 (.inr h2))
    ·have:=Nm k (fm k (.inl h1));omega
    ·exact h2) λk h1 h2=>by
    rcases h2 with h2|h2|h2|h2|h2
    ·exact dVQ k h1 ((eBR k).2 (.inl h2))
    ·exact(s2in k h2).elim (nV k h1) λh=>by have:=bV k h1;omega
    ·exact dVQ k h1 ((eBR k).2 (.inr ((eWD k).2 (.inr h2))))
    ·have:=bV k h1;omega
    ·exact h2
  have U9:Up S5 (λk=>SV k\/(SB k\/(BL s2 k\/(SD k\/(k=d\/False))))) w5 w9:=by
   refine⟨(((k6.tr k7).wk).trans m8 λk _ hk=>fm k (.inr (.inl (mW k hk)))).trans u9.m λk _ hk=>fm k (.inl hk),λk hk=>?_⟩;rcases hk with h|h|h|h|h|h
   ·exact .inl ((eVQ k).2 (.inl h))
   ·exact .inl (fm k (.inl h))
   ·exact(s2in k h).imp (λh=>fm k (.inr (.inl (mW k h)))) λh=>aB
   ·exact .inl (fm k (.inr (.inr h)))
   ·exact .inr aB
   ·exact h.elim
  rw[pP i aB];refine hX _ _ _ aB ⟨i+1,s2,ds++[(d,PX c)],_,aB,rfl,rfl,h9,u5.tr U9,by rw[wQ,YN,List.replicate_succ'];rfl,bG.aK b5 U9.m λk (e:k=w1.heap.size) h=>n1 (e▸h)⟩
 ·have ei:i=n:=aB;subst ei;have hfin:Wj E.e a w3.heap.size GD aZ [] (IW c G.m sp tp lp) ds w5 S5:=by
   obtain⟨SV,SQ,hV,⟨SB,SR,hBl,⟨SW,SD,hRow,hAll,dWD,eWD⟩,dBR,eBR⟩,dVQ,eVQ⟩:=h5;exact⟨SV,SQ,hV,⟨SB,SR,hBl,⟨SW,SD,hRow,⟨SD,λ_=>False,hAll,Xq,λ_ _ h=>h,λk=>⟨.inl,λh=>h.elim id False.elim⟩⟩,dWD,eWD⟩,dBR,eBR⟩,dVQ,eVQ⟩
  have Ll:∀k,S5 k->w.heap.size<=k:=λk hk=>iR z2' (S5lo k hk);have kk:aL w w5:=(K2.tr k3).fresh u5.m λk hk=>iR z2' (lo3 k hk);refine hQ E a w3.heap.size sp tp lp W0 GD ds w5 S5 ⟨aZ,[],rfl,hfin,λx hx=>by cases hx⟩ (jl.up u5) kk (K2.tr kW) ⟨srv0_ok ok UM sp tp lp,aB,⟨dl,hn⟩,λp hp=>?_,λu hu=>(by cases hu),λe he=>(by cases he)⟩ Ll YN;have:p.2∈ds.map (·.2):=mD.2 ⟨p,hp,rfl⟩;rw[YN] at this;have e2:=(List.mem_replicate.1 this).2;rw[e2];exact⟨drv0_ok UM,rfl⟩
end
section
structure pS(W w:aH)(A:Nat)(g:GT)(N:List (Int×Int))(E:List R3)(B:List (Int×Int)):Prop where
 gR:cU w A gC (UQ g)
 vn:dD w uz 2 eP g.1 N
 ve:dD w QH 3 eR3 g.2.1 E
 vb:dD w tBan 2 eP g.2.2.1 B
 n1:∀a,g.1.b=some a->a.block≠A/\W.heap.size<=a.block
 n2:∀a,g.2.1.b=some a->a.block≠A/\W.heap.size<=a.block
 n3:∀a,g.2.2.1.b=some a->a.block≠A/\W.heap.size<=a.block
 n12:∀a b,g.1.b=some a->g.2.1.b=some b->a.block≠b.block
 n13:∀a b,g.1.b=some a->g.2.2.1.b=some b->a.block≠b.block
 n23:∀a b,g.2.1.b=some a->g.2.2.1.b=some b->a.block≠b.block
 Lv:W.heap.size<=A
 kp:aL W w
section
variable{W w:aH}{A:Nat}{g:GT}{N:List (Int×Int)}{E:List R3}{B:List (Int×Int)}
theorem pS.aO{w':aH}(h:pS W w A g N E B)(k:aL w w'):pS W w' A g N E B:=
 ⟨h.gR.aK k id,h.vn.aK k λ_ _=>id,h.ve.aK k λ_ _=>id,h.vb.aK k λ_ _=>id,h.n1,h.n2,h.n3,h.n12,h.n13,h.n23,h.Lv,h.kp.tr k⟩
theorem pS.pushN(h:pS W w A g N E B)(hl:N.length<=100000)(x:Int×Int){K:aH->Prop}(hK:∀w' s,pS W w' A (s,g.2.1,g.2.2.1,()) (N++[x]) E B->aU (λk=>k=A\/∃a,g.1.b=some a/\k=a.block) w w'->(∀a,s.b=some a->g.1.b=some a\/w.heap.size<=a.block)->K w'):
  aG w (eP x).toArray uz λa5 qA=>qA.cell? ((⟨A,0,none⟩:Addr).add 0)=some (Value.slice g.1.b g.1.l g.1.c)/\aW prog mi mi g.1 (Value.slice (some a5) 1 1) qA λ(s4:Sl) BO=>aI prog mi ((⟨A,0,none⟩:Addr).add 0) (Value.slice s4.b s4.l s4.c) BO K:=by
 refine bD λw1 o1 k1 z1=>?_;have h1:=h.aO k1;refine⟨?_,?_⟩
 ·rw[aS,h1.gR.cell];rfl
 have vx:dD w1 uz 2 eP ⟨some ⟨w.heap.size,0,none⟩,1,1⟩ [x]:=dD.new VK [x] (by simpa using o1) (by simp[maxLen]);refine fH Jr VK oneP h1.vn (vx.rd VK) (by simp;omega) (by simp;omega) λr w2 v2 m2 f2 _=>?_;have hA:=h.gR.lt;have hW:=h.kp.size;have lit:((⟨A,0,none⟩:Addr).add 0)=⟨A,0,none⟩:=by rw[aS,gI]
 rw[lit];have o2:=h1.gR.aK m2 λ⟨a,ha,e⟩=>(h.n1 a ha).1 e.symm;refine cH (o:=0) (v:=sv r) o2 qa dN rfl rfl λw3 o3 m3 _=>?_;have fr:∀a,r.b=some a->g.1.b=some a\/w.heap.size<=a.block:=λa ha=>by
  rcases f2 with h2|⟨b,hb,cC⟩
  ·exact .inl (by rw[<-h2];exact ha)
  ·rw[ha] at hb;cases hb;exact .inr aB
 have nr:∀a,r.b=some a->a.block≠A/\W.heap.size<=a.block:=λa ha=>by
  rcases fr a ha with h2|h2
  ·exact h.n1 a h2
  ·exact⟨aB,aB⟩
 refine hK w3 r ⟨o3,v2.aK m3 λa ha e=>(nr a ha).1 e,(h1.ve.aK m2 λa ha ⟨b,hb,e⟩=>h.n12 b a hb ha e.symm).aK m3 λa ha e=>(h.n2 a ha).1 e,(h1.vb.aK m2 λa ha ⟨b,hb,e⟩=>h.n13 b a hb ha e.symm).aK m3 λa ha e=>(h.n3 a ha).1 e,nr,h.n2,h.n3,λa b ha hb=>by have:=h.ve.lt hb;rcases fr a ha with h2|h2;exact h.n12 a b h2 hb;omega,λa b ha hb=>by have:=h.vb.lt hb;rcases fr a ha with h2|h2;exact h.n13 a b h2 hb;omega,h.n23,h.Lv,((h.kp.tr k1).fresh m2 λk ⟨a,ha,e⟩=>by rw[e];exact(h.n1 a ha).2).fresh m3 λk e=>by rw[show k=A from e];exact h.Lv⟩ ?_ fr;exact((k1.wk.trans m2 λk _ hk=>.inr hk).trans m3 λk _ e=>.inl e)
theorem pS.pushE(h:pS W w A g N E B)(hl:E.length<=100000)(x:R3){K:aH->Prop}(hK:∀w' s,pS W w' A (g.1,s,g.2.2.1,()) N (E++[x]) B->aU (λk=>k=A\/∃a,g.2.1.b=some a/\k=a.block) w w'->(∀a,s.b=some a->g.2.1.b=some a\/w.heap.size<=a.block)->K w'):
  aG w (eR3 x).toArray QH λa5 qA=>qA.cell? ((⟨A,0,none⟩:Addr).add 1)=some (Value.slice g.2.1.b g.2.1.l g.2.1.c)/\aW prog mj mj g.2.1 (Value.slice (some a5) 1 1) qA λ(s4:Sl) BO=>aI prog mj ((⟨A,0,none⟩:Addr).add 1) (Value.slice s4.b s4.l s4.c) BO K:=by
 refine bD λw1 o1 k1 z1=>?_;have h1:=h.aO k1;refine⟨?_,?_⟩
 ·rw[aS,h1.gR.cell];rfl
 have vx:dD w1 QH 3 eR3 ⟨some ⟨w.heap.size,0,none⟩,1,1⟩ [x]:=dD.new FI [x] (by simpa using o1) (by simp[maxLen]);refine fH Jt FI oneR3 h1.ve (vx.rd FI) (by simp;omega) (by simp;omega) λr w2 v2 m2 f2 _=>?_;have hA:=h.gR.lt;have hW:=h.kp.size;have lit:((⟨A,0,none⟩:Addr).add 1)=⟨A,1,none⟩:=by rw[aS,gI]
 rw[lit];have o2:=h1.gR.aK m2 λ⟨a,ha,e⟩=>(h.n2 a ha).1 e.symm;refine cH (o:=1) (v:=sv r) o2 Iz dN rfl rfl λw3 o3 m3 _=>?_;have fr:∀a,r.b=some a->g.2.1.b=some a\/w.heap.size<=a.block:=λa ha=>by
  rcases f2 with h2|⟨b,hb,cC⟩
  ·exact .inl (by rw[<-h2];exact ha)
  ·rw[ha] at hb;cases hb;exact .inr aB
 have nr:∀a,r.b=some a->a.block≠A/\W.heap.size<=a.block:=λa ha=>by
  rcases fr a ha with h2|h2
  ·exact h.n2 a h2
  ·exact⟨aB,aB⟩
 refine hK w3 r ⟨o3,(h1.vn.aK m2 λa ha ⟨b,hb,e⟩=>h.n12 a b ha hb e).aK m3 λa ha e=>(h.n1 a ha).1 e,v2.aK m3 λa ha e=>(nr a ha).1 e,(h1.vb.aK m2 λa ha ⟨b,hb,e⟩=>h.n23 b a hb ha e.symm).aK m3 λa ha e=>(h.n3 a ha).1 e,h.n1,nr,h.n3,λa b ha hb=>by have:=h.vn.lt ha;rcases fr b hb with h2|h2;exact h.n12 a b ha h2;omega,h.n13,λa b ha hb=>by have:=h.vb.lt hb;rcases fr a ha with h2|h2;exact h.n23 a b h2 hb;omega,h.Lv,((h.kp.tr k1).fresh m2 λk ⟨a,ha,e⟩=>by rw[e];exact(h.n2 a ha).2).fresh m3 λk e=>by rw[show k=A from e];exact h.Lv⟩ ?_ fr;exact((k1.wk.trans m2 λk _ hk=>.inr hk).trans m3 λk _ e=>.inl e)
theorem pS.pushB(h:pS W w A g N E B)(hl:B.length<=100000)(x:Int×Int){K:aH->Prop}(hK:∀w' s,pS W w' A (g.1,g.2.1,s,()) N E (B++[x])->aU (λk=>k=A\/∃a,g.2.2.1.b=some a/\k=a.block) w w'->(∀a,s.b=some a->g.2.2.1.b=some a\/w.heap.size<=a.block)->K w'):
  aG w (eP x).toArray tBan λa5 qA=>aW prog tsBan tsBan g.2.2.1 (Value.slice (some a5) 1 1) qA λ(s4:Sl) BO=>aI prog tsBan ((⟨A,0,none⟩:Addr).add 2) (Value.slice s4.b s4.l s4.c) BO K:=by
 refine bD λw1 o1 k1 z1=>?_;have h1:=h.aO k1;have vx:dD w1 tBan 2 eP ⟨some ⟨w.heap.size,0,none⟩,1,1⟩ [x]:=dD.new VK [x] (by simpa using o1) (by simp[maxLen]);refine fH Pc VK oneP h1.vb (vx.rd VK) (by simp;omega) (by simp;omega) λr w2 v2 m2 f2 _=>?_;have hA:=h.gR.lt;have hW:=h.kp.size;have lit:((⟨A,0,none⟩:Addr).add 2)=⟨A,2,none⟩:=by rw[aS,gI]
 rw[lit];have o2:=h1.gR.aK m2 λ⟨a,ha,e⟩=>(h.n3 a ha).1 e.symm;refine cH (o:=2) (v:=sv r) o2 size_sBan dN rfl rfl λw3 o3 m3 _=>?_;have fr:∀a,r.b=some a->g.2.2.1.b=some a\/w.heap.size<=a.block:=λa ha=>by
  rcases f2 with h2|⟨b,hb,cC⟩
  ·exact .inl (by rw[<-h2];exact ha)
  ·rw[ha] at hb;cases hb;exact .inr aB
 have nr:∀a,r.b=some a->a.block≠A/\W.heap.size<=a.block:=λa ha=>by
  rcases fr a ha with h2|h2
  ·exact h.n3 a h2
  ·exact⟨aB,aB⟩
 refine hK w3 r ⟨o3,(h1.vn.aK m2 λa ha ⟨b,hb,e⟩=>h.n13 a b ha hb e).aK m3 λa ha e=>(h.n1 a ha).1 e,(h1.ve.aK m2 λa ha ⟨b,hb,e⟩=>h.n23 a b ha hb e).aK m3 λa ha e=>(h.n2 a ha).1 e,v2.aK m3 λa ha e=>(nr a ha).1 e,h.n1,h.n2,nr,h.n12,λa b ha hb=>by have:=h.vn.lt ha;rcases fr b hb with h2|h2;exact h.n13 a b ha h2;omega,λa b ha hb=>by have:=h.ve.lt ha;rcases fr b hb with h2|h2;exact h.n23 a b ha h2;omega,h.Lv,((h.kp.tr k1).fresh m2 λk ⟨a,ha,e⟩=>by rw[e];exact(h.n3 a ha).2).fresh m3 λk e=>by rw[show k=A from e];exact h.Lv⟩ ?_ fr;exact((k1.wk.trans m2 λk _ hk=>.inr hk).trans m3 λk _ e=>.inl e)
end
theorem Round24_i{k n:Int}{w:aH}{Q:Int->aH->Prop}(hn:0<n)(h63:n<=1000000)(hQ:∀x,0<=x->x<n->Q x w):nU k n w Q:=by
 unfold nU;have h1:=Int.lt_tmod_of_pos k hn;have h2:=Int.tmod_lt_of_pos k hn;refine⟨aB,aJ (λh=>?_) (λh=>?_)⟩
 ·rw[gZ (n:=Int.tmod k n+n) aB aB];exact hQ _ aB aB
 ·have h':¬Int.tmod k n<0:=h;exact hQ _ aB h2
theorem LV{l:Sl}{xs:List Int}{i n:Int}{w:aH}{Q:Int->aH->Prop}(hl:Rd w l 1 eI xs)(h0:0<=i)(h1:i<=1000000)(hn:0<n)(h63:n<=1000000)(hQ:∀x w',0<=x->x<n->aL w w'->Q x w'):fT l i n w Q:=by
 unfold fT;have ub:=hl.len;refine aF (λh=>hQ 0 w (lK _) hn (aU.refl _ _)) (λh=>?_);have gK:¬(l.l:Int)=0:=by simpa using h
 have uB:0<(l.l:Int):=aB;have d:aL w w.drew:=aU.drew (aU.refl _ w);have m0:0<=Int.tmod i (l.l:Int):=Int.tmod_nonneg _ h0;have m1:=Int.tmod_lt_of_pos i uB;have cQ:=cM (show(Int.tmod i (l.l:Int)).toNat<xs.length by omega);obtain⟨p,hp,hc⟩:=bP (k:=.i) (e:=λx=>x) (hl.aK d cI λ_ _=>id) cQ;exact⟨gK,⟨m0,m1⟩,aA hp (aE (k:=.i) _ hc ⟨by decide,gK,Round24_i hn h63 λx x0 x1=>hQ x _ x0 x1 d⟩)⟩
def RS(wn hn i:Nat)(k:Nat):Int:=if k=0 then(if i%wn<wn-1 then((i+1:Nat):Int) else-1) else(if i/wn<hn-1 then((i+wn:Nat):Int) else-1)
def MB(wn hn i k:Nat):List (Nat×Nat):=DW wn hn i++(if 1<=k then HA wn hn i 0 else [])++(if 2<=k then HA wn hn i 1 else [])
theorem Ya{wn hn i k:Nat}(hk:k<2):MB wn hn i (k+1)=MB wn hn i k++HA wn hn i k:=by
 unfold MB;have:k=0\/k=1:=aB;rcases this with rfl|rfl<;>simp
theorem full_nxt{wn hn i k:Nat}(hk:k<2):(RS wn hn i k<0/\HA wn hn i k=[])\/∃j:Nat,RS wn hn i k=(j:Int)/\HA wn hn i k=[(i,j),(j,i)]:=by
 unfold RS;have:k=0\/k=1:=aB;rcases this with rfl|rfl
 ·by_cases h:i%wn<wn-1
  ·exact .inr ⟨i+1,by simp[h],by simp[HA,h]⟩
  ·exact .inl ⟨by simp[h],by simp[HA,h]⟩
 ·by_cases h:i/wn<hn-1
  ·exact .inr ⟨i+wn,by simp[h],by simp[HA,h]⟩
  ·exact .inl ⟨by simp[h],by simp[HA,h]⟩
theorem Town_i{l:Sl}{xs:List Int}{W:aH}{Q:GT->aH->Prop}(hl:Rd W l 1 eI xs)(hQ:∀g G w',GQ w' g G->sS G->G.n<=16->aL W w'->Q g w'):vU l W Q:=by
 unfold vU;refine bD λw1 o1 k1 z1=>bD λw2 o2 k2 z2=>?_;have K2:=k1.tr k2;have st2:pS W w2 w1.heap.size (aZ,aZ,aZ,()) [] [] []:=
  ⟨o2,dD.nil _ _ _ _,dD.nil _ _ _ _,dD.nil _ _ _ _,(λa ha=>by cases ha),(λa ha=>by cases ha),(λa ha=>by cases ha),(λa b ha=>by cases ha),(λa b ha=>by cases ha),(λa b ha=>by cases ha),aB,K2⟩
 have hA1:W.heap.size<w1.heap.size:=aB;generalize hA:w1.heap.size=A at*;have PM:cU w2 W.heap.size gC (UQ (aZ,aZ,aZ,())):=o1.aK k2 id;have uc:∀{wx:aH},aL W wx->Rd wx l 1 eI xs:=λkx=>hl.aK kx cI λ_ _=>id;refine LV (uc K2) (by decide) (by decide) (by decide) (by decide) λx1 w3 sI xQ k3=>?_;refine LV (uc (K2.tr k3)) (by decide) (by decide) (by decide) (by decide) λx2 w4 x20 x21 k4=>?_;obtain⟨wn,hwn⟩:∃wn:Nat,(1:Int)+x1=(wn:Int):=⟨(1+x1).toNat,aB⟩;obtain⟨hn,hhn⟩:∃hn:Nat,(1:Int)+x2=(hn:Int):=⟨(1+x2).toNat,aB⟩;have wr1:aQ ((1:Int)+x1)=(wn:Int):=by rw[gZ aB aB,hwn]
 have wr2:aQ ((1:Int)+x2)=(hn:Int):=by rw[gZ aB aB,hhn]
 have wn1:1<=wn/\wn<=4:=aB;have hn1:1<=hn/\hn<=4:=aB;have hM:wn*hn<=4*4:=RX wn1.2 hn1.2;have hM1:1*1<=wn*hn:=RX wn1.1 hn1.1;have wrM:aQ ((wn:Int)*(hn:Int))=((wn*hn:Nat):Int):=by rw[<-Int.natCast_mul,gZ aB aB]
 rw[wr1,wr2,wrM];generalize hMM:wn*hn=M at*;have tm:∀i:Nat,Int.tmod (i:Int) (wn:Int)=((i%wn:Nat):Int):=λi=>(Int.ofNat_tmod i wn).symm;have td:∀i:Nat,Int.tdiv (i:Int) (wn:Int)=((i/wn:Nat):Int):=λi=>(Int.ofNat_tdiv i wn).symm;have gK:¬(wn:Int)=0:=aB;have st4:=(st2.aO k3).aO k4;refine bL (λc t w5=>∃(i:Nat) (g:GT) (N:List (Int×Int)),i<=M/\c=M-i/\t=((i:Int),())/\pS W w5 A g N [] []/\N.length=i/\(∀p∈N,(0<=p.1/\p.1<=4095)/\0<=p.2/\p.2<=4095)/\cU w5 W.heap.size gC (UQ (aZ,aZ,aZ,()))/\(∀a,g.1.b=some a->a.block≠W.heap.size)/\g.2.1.b=none/\g.2.2.1.b=none) M
  ⟨0,_,[],dE _,rfl,rfl,st4,rfl,by simp,(PM.aK k3 id).aK k4 id,(λa ha=>by cases ha),rfl,rfl⟩ ?_
 clear st2 st4 PM o1 o2;rintro c t w5 ⟨i,g,N,hi,rfl,rfl,st,hNl,hNo,oR,nR,eb2,Lc⟩ X hX;dsimp only;refine aJ (λcC=>?_) (λkC=>?_)
 ·have dJ:i<M:=aB;have d5:aL w5 w5.drew:=aU.drew (aU.refl _ w5);have st5:=st.aO d5;have lit0:∀{wx:aH},cU wx A gC (UQ g)->wx.cell? ((⟨A,0,none⟩:Addr).add 0)=some (sv g.1):=λh=>by rw[aS,h.cell];rfl
  refine aE (k:=.slice) g.1 (lit0 st5.gR) ⟨gK,gK,?_⟩;rw[gZ (n:=(2:Int)+(i:Int)) aB aB];refine LV (uc st5.kp) aB aB (by decide) (by decide) λx3 w6 x30 x31 k6=>?_;have UT:=st5.aO k6;refine⟨lit0 UT.gR,?_⟩;have hmod:i%wn<wn:=Nat.mod_lt _ aB;have hdiv:i/wn<=i:=Nat.div_le_self _ _;rw[tm,td];generalize i/wn=q at*;generalize i%wn=r at*;rw[gZ (n:=(q:Int)) aB aB,gZ (n:=(100:Int)*(q:Int)) aB aB,gZ (n:=(100:Int)*(r:Int)) aB aB,gZ (n:=(100:Int)*(q:Int)+x3) aB aB];refine UT.pushN (x:=((100:Int)*(r:Int),(100:Int)*(q:Int)+x3)) aB λw8 s st8 m8 f8=>?_;rw[pP i aB];have zk:=UT.kp.size;have oR6:=(oR.aK d5 id).aK k6 id;refine hX _ _ _ aB ⟨i+1,_,_,dJ,rfl,rfl,st8,by simp[hNl],λp hp=>?_,oR6.aK m8 λhh=>?_,λa ha e=>?_,eb2,Lc⟩
  ·rcases kE.1 hp with hp|hp
   ·exact hNo p hp
   ·have:p=((100:Int)*(r:Int),(100:Int)*(q:Int)+x3):=by simpa using hp
    subst this;exact⟨⟨by show 0<=(100:Int)*_;omega,by show(100:Int)*_<=4095;omega⟩,by show 0<=(100:Int)*_+x3;omega,by show(100:Int)*_+x3<=4095;omega⟩
  ·rcases hh with e|⟨a,ha,e⟩
   ·omega
   ·exact nR a ha e.symm
  ·rcases f8 a ha with h1|h1
   ·exact nR a h1 e
   ·have:=oR6.lt;omega
 have ei:M=i:=aB;subst ei;clear hX kC hi;refine bL (λc t w5=>∃(i:Nat) (g:GT) (E:List R3),i<=M/\c=M-i/\t=((i:Int),())/\pS W w5 A g N E []/\CA wn hn (DW wn hn i) E/\E.length<=2*2*i/\cU w5 W.heap.size gC (UQ (aZ,aZ,aZ,()))/\(∀a,g.1.b=some a->a.block≠W.heap.size)/\(∀a,g.2.1.b=some a->a.block≠W.heap.size)/\g.2.2.1.b=none) M
  ⟨0,g,[],dE _,rfl,rfl,st,CA.nil _ _ _,by simp,oR,nR,(λa ha=>by rw[eb2] at ha;cases ha),Lc⟩ ?_
 clear st oR nR eb2 Lc g;rintro c t w5 ⟨i,g,E,hi,rfl,rfl,st,hG,hEl,oR,nR,Nf,Lc⟩ X hX;dsimp only;refine aJ (λcC=>?_) (λkC=>?_)
 ·have dJ:i<M:=aB;refine fF (vs:=[aD (-1),aD (-1)]) size_Arr2 rfl (by simp[Value.oneCell']) λeE Ds GA z12=>?_;have ju:=st.aO GA;have oR12:=oR.aK GA id;have hAlt:=st.gR.lt;have up:∀{wx wy:aH} {g':GT} {E':List R3} {B':List (Int×Int)},pS W wx A g' N E' B'->aU (λk=>k=w5.heap.size) wx wy->(∀a,g'.1.b=some a->a.block≠w5.heap.size)->(∀a,g'.2.1.b=some a->a.block≠w5.heap.size)->(∀a,g'.2.2.1.b=some a->a.block≠w5.heap.size)->pS W wy A g' N E' B':=λh m h1 h2 h3=>
   ⟨h.gR.aK m λe=>aB,h.vn.aK m λa ha e=>h1 a ha e,h.ve.aK m λa ha e=>h2 a ha e,h.vb.aK m λa ha e=>h3 a ha e,h.n1,h.n2,h.n3,h.n12,h.n13,h.n23,h.Lv,h.kp.fresh m λk e=>by rw[show k=w5.heap.size from e];exact st.kp.size⟩
  have n1:∀a,g.1.b=some a->a.block≠w5.heap.size:=λa ha e=>by have:=st.vn.lt ha;omega
  have n2:∀a,g.2.1.b=some a->a.block≠w5.heap.size:=λa ha e=>by have:=st.ve.lt ha;omega
  have n3:∀a,g.2.2.1.b=some a->a.block≠w5.heap.size:=λa ha=>by rw[Lc] at ha;cases ha
  have upR:∀{wx wy:aH},cU wx W.heap.size gC (UQ (aZ,aZ,aZ,()))->aU (λk=>k=w5.heap.size) wx wy->cU wy W.heap.size gC (UQ (aZ,aZ,aZ,())):=λo m=>o.aK m λe=>aB;intro J1 OG;have core1:∀gT,pS W gT A g N E []->cU gT W.heap.size gC (UQ (aZ,aZ,aZ,()))->cU gT w5.heap.size Wr [aD (RS wn hn i 0),aD (-1)]->J1 () gT:=by
   intro gT st13 oR13 o13;apply OG;intro J2 Qo;have core2:∀mL,pS W mL A g N E []->cU mL W.heap.size gC (UQ (aZ,aZ,aZ,()))->cU mL w5.heap.size Wr [aD (RS wn hn i 0),aD (RS wn hn i 1)]->J2 () mL:=by
    intro mL st14 oR14 o14;apply Qo;have h0:CA wn hn (MB wn hn i 0) E:=by unfold MB;simpa using hG
    refine bL (λc t fY=>∃(k:Nat) (g:GT) (E:List R3),k<=2/\c=2-k/\t=((k:Int),())/\pS W fY A g N E []/\CA wn hn (MB wn hn i k) E/\E.length<=2*2*i+2*k/\cU fY W.heap.size gC (UQ (aZ,aZ,aZ,()))/\
      cU fY w5.heap.size Wr [aD (RS wn hn i 0),aD (RS wn hn i 1)]/\(∀a,g.1.b=some a->a.block≠W.heap.size/\a.block≠w5.heap.size)/\(∀a,g.2.1.b=some a->a.block≠W.heap.size/\a.block≠w5.heap.size)/\g.2.2.1.b=none) 2
     ⟨0,g,E,aB,rfl,rfl,st14,h0,aB,oR14,o14,λa ha=>⟨nR a ha,n1 a ha⟩,λa ha=>⟨Nf a ha,n2 a ha⟩,Lc⟩ ?_
    clear st14 oR14 o14 h0;rintro c t fY ⟨k,g,E,hk,rfl,rfl,st,hG,hEl,oR,oN,m1,m2,Lc⟩ Y hY;dsimp only;refine aJ (λSF=>?_) (λWa=>?_)
    ·have lT:k<2:=aB;have cN:∀{wx:aH},cU wx w5.heap.size Wr [aD (RS wn hn i 0),aD (RS wn hn i 1)]->wx.cell? ((⟨w5.heap.size,0,none⟩:Addr).add (k*1))=some (aD (RS wn hn i k)):=λh=>by
      rw[aS,h.cell];have:k=0\/k=1:=aB;rcases this with rfl|rfl<;>rfl
     have B2:0<=(k:Int)/\(k:Int)<((2:Nat):Int):=⟨aB,aB⟩;rw[dW];refine⟨B2,aE (k:=.i) (RS wn hn i k) (cN oN) ?_⟩;rcases full_nxt (wn:=wn) (hn:=hn) (i:=i) lT with⟨DE,hfull⟩|⟨j,hj,hfull⟩
     ·refine aJ (λ_=>?_) (λh=>absurd DE h);rw[pP k aB];exact hY _ _ _ aB ⟨k+1,g,E,lT,rfl,rfl,st,by rw[Ya lT];exact hG.RW,aB,oR,oN,m1,m2,Lc⟩
     refine aJ (λh=>absurd (show RS wn hn i k<0 from h) aB) (λ_=>?_);rw[gZ (n:=(3:Int)*(i:Int)) aB aB,gZ (n:=(20:Int)+(3:Int)*(i:Int)) aB aB,gZ (n:=(20:Int)+(3:Int)*(i:Int)+(k:Int)) aB aB];refine LV (uc st.kp) aB aB (by decide) (by decide) λx5 jN _ _ Du=>?_;have st16:=st.aO Du;have oR16:=oR.aK Du id;have oN16:=oN.aK Du id;rw[gZ (n:=(90:Int)+(i:Int)) aB aB,gZ (n:=(90:Int)+(i:Int)+(k:Int)) aB aB,gZ (n:=(60:Int)+(i:Int)) aB aB,gZ (n:=(60:Int)+(i:Int)+(k:Int)) aB aB];intro J3 hJ3;have core3:∀mG g' E',pS W mG A g' N E' []->CA wn hn (MB wn hn i k++[(i,j)]) E'->E'.length<=2*2*i+2*k+1->cU mG W.heap.size gC (UQ (aZ,aZ,aZ,()))->cU mG w5.heap.size Wr [aD (RS wn hn i 0),aD (RS wn hn i 1)]->
       (∀a,g'.1.b=some a->a.block≠W.heap.size/\a.block≠w5.heap.size)->(∀a,g'.2.1.b=some a->a.block≠W.heap.size/\a.block≠w5.heap.size)->g'.2.2.1.b=none->J3 () mG:=by
      intro mG g' E' rQ hG17 hEl17 oR17 oN17 m17 m27 eb17;apply hJ3;have pk:MB wn hn i (k+1)=MB wn hn i k++[(i,j)]++[(j,i)]:=by rw[Ya lT,hfull];simp
      refine aF (λ_=>?_) (λ_=>?_)
      ·have d17:aL mG mG.drew:=aU.drew (aU.refl _ mG);have Gq:=rQ.aO d17;have Lw:∀{wx:aH} {g':GT},cU wx A gC (UQ g')->wx.cell? ((⟨A,0,none⟩:Addr).add 1)=some (sv g'.2.1):=λh=>by rw[aS,h.cell];rfl
       refine aE (k:=.slice) g'.2.1 (Lw Gq.gR) ⟨B2,aE (k:=.i) (RS wn hn i k) (cN (oN17.aK d17 id)) ?_⟩;refine LV (uc Gq.kp) aB aB (by decide) (by decide) λx7 qB x70 x71 fk=>?_;have st18:=Gq.aO fk;refine⟨cN ((oN17.aK d17 id).aK fk id),Lw st18.gR,?_⟩;rw[gZ (n:=(1:Int)+x7) aB aB,hj];refine st18.pushE (x:=((j:Int),(i:Int),(1:Int)+x7)) aB λDA s Qy m21 f21=>?_;have o5:=((oN17.aK d17 id).aK fk id);have oR5:=((oR17.aK d17 id).aK fk id);rw[pP k aB];refine hY _ _ _ aB ⟨k+1,_,_,lT,rfl,rfl,Qy,by rw[pk];exact hG17.push aB aB,by rw[fJ,ly0];omega,oR5.aK m21 λhh=>?_,o5.aK m21 λhh=>?_,m17,λa ha=>?_,eb17⟩
       ·rcases hh with e|⟨a,ha,e⟩
        ·omega
        ·exact(m27 a ha).1 e.symm
       ·rcases hh with e|⟨a,ha,e⟩
        ·omega
        ·exact(m27 a ha).2 e.symm
       ·rcases f21 a ha with h1|h1
        ·exact m27 a h1
        ·have:=oR5.lt;have:=o5.lt;exact⟨aB,aB⟩
      ·rw[pP k aB];exact hY _ _ _ aB ⟨k+1,_,_,lT,rfl,rfl,rQ,by rw[pk];exact hG17.RW,aB,oR17,oN17,m17,m27,eb17⟩
     refine aF (λ_=>?_) (λ_=>?_)
     ·have d17:aL jN jN.drew:=aU.drew (aU.refl _ jN);have Gq:=st16.aO d17;have Lw:∀{wx:aH} {g':GT},cU wx A gC (UQ g')->wx.cell? ((⟨A,0,none⟩:Addr).add 1)=some (sv g'.2.1):=λh=>by rw[aS,h.cell];rfl
      refine aE (k:=.slice) g.2.1 (Lw Gq.gR) ⟨B2,aE (k:=.i) (RS wn hn i k) (cN (oN16.aK d17 id)) ?_⟩;refine LV (uc Gq.kp) aB aB (by decide) (by decide) λx9 qB x70 x71 fk=>?_;have st18:=Gq.aO fk;refine⟨cN ((oN16.aK d17 id).aK fk id),Lw st18.gR,?_⟩;rw[gZ (n:=(1:Int)+x9) aB aB,hj];refine st18.pushE (x:=((i:Int),(j:Int),(1:Int)+x9)) aB λDA s Qy m21 f21=>?_;have o5:=((oN16.aK d17 id).aK fk id);have oR5:=((oR16.aK d17 id).aK fk id);refine core3 DA _ _ Qy (hG.push aB aB) (by rw[fJ,ly0];omega) (oR5.aK m21 λhh=>?_) (o5.aK m21 λhh=>?_) m1 (λa ha=>?_) Lc
      ·rcases hh with e|⟨a,ha,e⟩
       ·omega
       ·exact(m2 a ha).1 e.symm
      ·rcases hh with e|⟨a,ha,e⟩
       ·omega
       ·exact(m2 a ha).2 e.symm
      ·rcases f21 a ha with h1|h1
       ·exact m2 a h1
       ·have:=oR5.lt;have:=o5.lt;exact⟨aB,aB⟩
     ·exact core3 jN g E st16 hG.RW aB oR16 oN16 m1 m2 Lc
    ·have ek:k=2:=aB;subst ek;rw[pP i aB];have e2:MB wn hn i 2=DW wn hn (i+1):=by unfold MB;rw[qq];simp
     rw[e2] at hG;exact hX _ _ _ aB ⟨i+1,g,E,dJ,rfl,rfl,st,hG,aB,oR,λa ha=>(m1 a ha).1,λa ha=>(m2 a ha).1,Lc⟩
   refine⟨gK,?_⟩;have q0:(0:Int)<=((i/wn:Nat):Int):=Int.natCast_nonneg _;rw[td,gZ (n:=((i/wn:Nat):Int)) aB (by have:=Nat.div_le_self i wn;omega),gZ (n:=(hn:Int)-1) aB aB];refine aJ (λhc=>⟨by decide,?_⟩) (λhc=>?_)
   ·have Dz:i/wn<hn-1:=by have:((i/wn:Nat):Int)<(hn:Int)-1:=hc;omega
    rw[show Int.toNat (1:Int)*1=1 from rfl,show((⟨w5.heap.size,0,none⟩:Addr).add 1)=⟨w5.heap.size,1,none⟩ by rw[aS],gZ (n:=(i:Int)+(wn:Int)) aB aB];refine cH (o:=1) (v:=aD ((i:Int)+(wn:Int))) o13 cZ dN rfl rfl λmL o14 YL _=>?_;refine core2 mL (up st13 YL n1 n2 n3) (upR oR13 YL) ?_;have:RS wn hn i 1=(i:Int)+(wn:Int):=by unfold RS;simp[Dz]
    rw[this];exact o14
   ·have Dz:¬i/wn<hn-1:=by have:¬((i/wn:Nat):Int)<(hn:Int)-1:=hc;omega
    refine core2 gT st13 oR13 ?_;have:RS wn hn i 1=-1:=by unfold RS;simp[Dz]
    rw[this];exact o13
  refine⟨gK,?_⟩;rw[tm,gZ (n:=(wn:Int)-1) aB aB];have hmod:i%wn<wn:=Nat.mod_lt _ aB;refine aJ (λhc=>⟨by decide,?_⟩) (λhc=>?_)
  ·have Dz:i%wn<wn-1:=by have:((i%wn:Nat):Int)<(wn:Int)-1:=hc;omega
   rw[show Int.toNat (0:Int)*1=0 from rfl,add_zero,gZ (n:=(i:Int)+(1:Int)) aB aB];refine cH (o:=0) (v:=aD ((i:Int)+1)) Ds cZ dN rfl rfl λgT o13 iu _=>?_;refine core1 gT (up ju iu n1 n2 n3) (upR oR12 iu) ?_;have:RS wn hn i 0=(i:Int)+1:=by unfold RS;simp[Dz]
   rw[this];exact o13
  ·have Dz:¬i%wn<wn-1:=by have:¬((i%wn:Nat):Int)<(wn:Int)-1:=hc;omega
   refine core1 eE ju oR12 ?_;have:RS wn hn i 0=-1:=by unfold RS;simp[Dz]
   rw[this];exact Ds
 have ei:M=i:=aB;subst ei;have T0:BY M 0 E:=by rw[<-hMM];rw[<-hMM] at hG;exact hG.town aB aB
 have t0l:=T0.len;clear hX kC hi hG hEl;refine bL (λc t w5=>∃(k:Nat) (g:GT) (E:List R3),k<=3/\c=4-k/\t=((k:Int),())/\pS W w5 A g N E []/\BY M k E/\cU w5 W.heap.size gC (UQ (aZ,aZ,aZ,()))/\(∀a,g.1.b=some a->a.block≠W.heap.size)/\(∀a,g.2.1.b=some a->a.block≠W.heap.size)/\g.2.2.1.b=none) 4
  ⟨0,g,E,aB,rfl,rfl,st,T0,oR,nR,Nf,Lc⟩ ?_
 clear st oR nR Nf Lc T0 t0l g E;rintro c t w5 ⟨k,g,E,hk,rfl,rfl,st,T,oR,nR,Nf,Lc⟩ X hX;dsimp only;refine LV (uc st.kp) (by decide) (by decide) (by decide) (by decide) λsI w6 xa xb k6=>?_;have UT:=st.aO k6;have oR6:=oR.aK k6 id;have tl:=T.len;refine aJ (λcC=>?_) (λkC=>?_)
 ·have lT:k<3:=by have:(k:Int)<sI:=cC;omega
  have d6:aL w6 w6.drew:=aU.drew (aU.refl _ w6);have st6d:=UT.aO d6;have Lw:∀{wx:aH},cU wx A gC (UQ g)->wx.cell? ((⟨A,0,none⟩:Addr).add 1)=some (sv g.2.1):=λh=>by rw[aS,h.cell];rfl
  refine aE (k:=.slice) g.2.1 (Lw st6d.gR) ?_;rw[gZ (n:=(4:Int)+(k:Int)) aB aB,gZ (n:=(8:Int)+(k:Int)) aB aB,gZ (n:=(12:Int)+(k:Int)) aB aB];refine LV (uc st6d.kp) aB aB aB aB λxQ w7 a0 a1 k7=>?_;have Dr:=st6d.aO k7;refine⟨Lw Dr.gR,LV (uc Dr.kp) aB aB aB aB λDq w8 b0 b1 k8=>?_⟩;have st8:=Dr.aO k8;refine⟨Lw st8.gR,LV (uc st8.kp) aB aB (by decide) (by decide) λLd w9 c0 c1 k9=>?_⟩;have st9:=st8.aO k9;refine⟨Lw st9.gR,?_⟩;rw[gZ (n:=(1:Int)+Ld) aB aB];have oR9:=(((oR6.aK d6 id).aK k7 id).aK k8 id).aK k9 id;refine st9.pushE (x:=(xQ,Dq,(1:Int)+Ld)) aB λDA s Qy m21 f21=>?_;rw[pP k aB];refine hX (4-(k+1)) _ _ aB ⟨k+1,_,_,lT,rfl,rfl,Qy,T.push ⟨⟨a0,a1⟩,⟨b0,b1⟩,by show 1<=(1:Int)+Ld;omega,by show(1:Int)+Ld<=40;omega⟩,oR9.aK m21 λhh=>?_,nR,λa ha e=>?_,Lc⟩
  ·rcases hh with e|⟨a,ha,e⟩
   ·omega
   ·exact Nf a ha e.symm
  ·rcases f21 a ha with h1|h1
   ·exact Nf a h1 e
   ·have:=oR9.lt;omega
 have T3:=T.RW hk;clear hX kC;intro J hJ;have qU:∀w9 g E,pS W w9 A g N E []->BY M 3 E->E≠[]->cU w9 W.heap.size gC (UQ (aZ,aZ,aZ,()))->(∀a,g.1.b=some a->a.block≠W.heap.size)->(∀a,g.2.1.b=some a->a.block≠W.heap.size)->g.2.2.1.b=none->J () w9:=by
  clear st UT oR oR6 nR Nf Lc T T3 tl g E;intro w9 g E st T hE1 oR nR Nf Lc;apply hJ;have tl:=T.len;have B0:HB E 0 0 []:=⟨by simp,by simp,List.Pairwise.nil,by simp⟩;have cells:∀{wx:aH} {g':GT},cU wx A gC (UQ g')->_:=λ{wx g'} h=>qN (x:=sv g'.1) (y:=sv g'.2.1) (z:=sv g'.2.2.1) h;refine bL (λc t w5=>∃(a:Nat) (g:GT) (B:List (Int×Int)),a<=E.length/\c=E.length-a/\t=((a:Int),())/\pS W w5 A g N E B/\HB E a 0 B/\cU w5 W.heap.size gC (UQ (aZ,aZ,aZ,()))/\(∀a,g.1.b=some a->a.block≠W.heap.size)/\(∀a,g.2.1.b=some a->a.block≠W.heap.size)/\(∀a,g.2.2.1.b=some a->a.block≠W.heap.size)) E.length
   ⟨0,g,[],dE _,rfl,rfl,st,B0,oR,nR,Nf,λa ha=>by rw[Lc] at ha;cases ha⟩ ?_
  clear st oR nR Nf Lc B0 g;rintro c t w5 ⟨a,g,B,ha,rfl,rfl,st,hB,oR,nR,Nf,nR3⟩ X hX;dsimp only;have el:=st.ve.len;refine aE (k:=.slice) g.2.1 (cells st.gR).2.1 (aJ (λcC=>?_) (λkC=>?_))
  ·have mU:a<E.length:=aB;refine bL (λc t w6=>∃(b:Nat) (g:GT) (B:List (Int×Int)),b<=E.length/\c=E.length-b/\t=((b:Int),())/\pS W w6 A g N E B/\HB E a b B/\cU w6 W.heap.size gC (UQ (aZ,aZ,aZ,()))/\(∀a,g.1.b=some a->a.block≠W.heap.size)/\(∀a,g.2.1.b=some a->a.block≠W.heap.size)/\(∀a,g.2.2.1.b=some a->a.block≠W.heap.size)) E.length
    ⟨0,g,B,dE _,rfl,rfl,st,hB,oR,nR,Nf,nR3⟩ ?_
   clear st oR nR Nf nR3 hB el g B cC;rintro c t w6 ⟨b,g,B,hb,rfl,rfl,st,hB,oR,nR,Nf,nR3⟩ Y hY;dsimp only;have el:=st.ve.len;refine aE (k:=.slice) g.2.1 (cells st.gR).2.1 (aJ (λSF=>?_) (λWa=>?_))
   ·have bR:b<E.length:=aB;have d6:aL w6 w6.drew:=aU.drew (aU.refl _ w6);have UT:=st.aO d6;have oR6:=oR.aK d6 id;have ug:=cM mU;have hgb:=cM bR;have ea:E.getD a (0,0,0)=E[a]:=by rw[LR,ug];rfl
    have eb:E.getD b (0,0,0)=E[b]:=by rw[LR,hgb];rfl
    obtain⟨p,hp,_,_,ct,_⟩:=rd3 (UT.ve.rd FI) ug;obtain⟨q,hq,_,cf,_,_⟩:=rd3 (UT.ve.rd FI) hgb;rw[dW,dW];refine aE (k:=.slice) g.2.1 (cells UT.gR).2.1 ⟨⟨aB,aB⟩,aA hp (aE (k:=.i) _ ct (aE (k:=.slice) g.2.1 (cells UT.gR).2.1 ⟨⟨aB,aB⟩,aA hq (aE (k:=.i) _ cf ?_)⟩))⟩;rw[pP b aB];refine aF (λhe=>?_) (λhe=>?_)
    ·have uK:(E.getD a (0,0,0)).2.1=(E.getD b (0,0,0)).1:=by rw[ea,eb];simpa using he
     rw[gZ (n:=(7:Int)*(a:Int)) aB aB,gZ (n:=(7:Int)*(a:Int)+(b:Int)) aB aB];refine LV (uc UT.kp) aB aB (by decide) (by decide) λx16 w7 _ _ k7=>?_;have Dr:=UT.aO k7;have oR7:=oR6.aK k7 id;refine aF (λ_=>?_) (λ_=>?_)
     ·have bl:=hB.len;have fl:=zL (λi=>decide ((E.getD i.toNat (0,0,0)).1=(E.getD a (0,0,0)).2.1)) (kL b);rw[rC] at fl;refine aE (k:=.slice) g.2.2.1 (cells Dr.gR).2.2 ?_;refine Dr.pushB (x:=((a:Int),(b:Int))) aB λw8 s st8 m8 f8=>?_;refine hY _ _ _ aB ⟨b+1,_,_,bR,rfl,rfl,st8,hB.push mU bR uK,oR7.aK m8 λhh=>?_,nR,Nf,λc hc e=>?_⟩
      ·rcases hh with e|⟨c,hc,e⟩
       ·omega
       ·exact nR3 c hc e.symm
      ·rcases f8 c hc with h1|h1
       ·exact nR3 c h1 e
       ·have:=oR7.lt;omega
     ·exact hY _ _ _ aB ⟨b+1,g,B,bR,rfl,rfl,Dr,hB.skip,oR7,nR,Nf,nR3⟩
    ·exact hY _ _ _ aB ⟨b+1,g,B,bR,rfl,rfl,UT,hB.skip,oR6,nR,Nf,nR3⟩
   ·have eb:b=E.length:=aB;subst eb;rw[pP a aB];exact hX _ _ _ aB ⟨a+1,g,B,mU,rfl,rfl,st,hB.next T,oR,nR,Nf,nR3⟩
  ·have ea:a=E.length:=aB;subst ea;refine aX (l:=[.slice,.slice,.slice]) g (mJ (g:=g) st.gR) ?_;refine eY (vs:=UQ g) oR yY rfl (Xg g) λw43 o43 m43 _=>?_;refine aX (l:=[.slice,.slice,.slice]) g (mJ (g:=g) o43) ?_;refine hQ g ⟨N,E,B⟩ w43 ⟨(st.vn.aK m43 λa ha e=>nR a ha e).rd VK,(st.ve.aK m43 λa ha e=>Nf a ha e).rd FI,(st.vb.aK m43 λa ha e=>nR3 a ha e).rd VK⟩ (town_ok ⟨aB,aB⟩ hNl hNo T hE1 hB) (by show N.length<=16;omega) (st.kp.fresh m43 λk e=>by rw[show k=W.heap.size from e];exact dL _)
 have el:=UT.ve.len;refine aE (k:=.slice) g.2.1 (by rw[aS,UT.gR.cell];rfl) (aF (λh0=>?_) (λh0=>?_))
 ·have hl0:(g.2.1.l:Int)=0:=by simpa using h0
  refine bD λw7 o7 k7 z7=>?_;have Dr:=UT.aO k7;have oR7:=oR6.aK k7 id;rw[show((⟨A,0,none⟩:Addr).add 1)=⟨A,1,none⟩ by rw[aS]];have hAlt:=UT.gR.lt;refine cH (o:=1) (v:=.slice (some ⟨w6.heap.size,0,none⟩) 1 1) Dr.gR Iz dN rfl rfl λw8 o8 m8 _=>?_;have ve:dD w7 QH 3 eR3 ⟨some ⟨w6.heap.size,0,none⟩,1,1⟩ [((0:Int),(0:Int),(3:Int))]:=dD.new FI [_] o7 (by simp[maxLen]);refine qU w8 (g.1,⟨some ⟨w6.heap.size,0,none⟩,1,1⟩,g.2.2.1,()) [((0:Int),(0:Int),(3:Int))] ⟨o8,Dr.vn.aK m8 λa ha e=>(Dr.n1 a ha).1 e,ve.aK m8 λa ha e=>?_,Dr.vb.aK m8 λa ha e=>(Dr.n3 a ha).1 e,Dr.n1,λa ha=>?_,Dr.n3,λa b ha hb=>?_,Dr.n13,λa b ha hb=>?_,Dr.Lv,Dr.kp.fresh m8 λk e=>by rw[show k=A from e];exact Dr.Lv⟩ (BY.one aB) dN (oR7.aK m8 λe=>aB) nR (λa ha e=>?_) Lc
  ·cases ha;have e':w6.heap.size=A:=e;omega
  ·cases ha;exact⟨by show w6.heap.size≠A;omega,UT.kp.size⟩
  ·cases hb;have:=UT.vn.lt ha;show a.block≠w6.heap.size;omega
  ·rw[Lc] at hb;cases hb
  ·cases ha;have e':w6.heap.size=W.heap.size:=e;have:=oR6.lt;omega
 ·have hE0:E≠[]:=λh=>by
   have h1:¬(g.2.1.l:Int)=0:=by simpa using h0
   rw[h] at el;simp at el;omega
  exact qU w6 g E UT T3 hE0 oR6 nR Nf Lc
end
theorem Small_i{l:Sl}{xs:List Int}{w:aH}{Q:Int×Int×Int×Int×Int×Int×Unit->aH->Prop}(hl:Rd w l 1 eI xs)(hQ:∀c w',c.Ok->aL w w'->Q (wS c) w'):yB l w Q:=by
 unfold yB;refine cO (cs:=JD ⟨0,0,0,0,0,0⟩) λw1 b1 k1 z1=>?_;refine LV (hl.aK k1 cI λ_ _=>id) (by decide) (by decide) (by decide) (by decide) λx1 w2 a1 c1 k2=>?_;have K2:=k1.tr k2;refine LV (hl.aK K2 cI λ_ _=>id) (by decide) (by decide) (by decide) (by decide) λx2 w3 a2 c2 k3=>?_;have K3:=K2.tr k3;refine LV (hl.aK K3 cI λ_ _=>id) (by decide) (by decide) (by decide) (by decide) λx3 w4 a3 c3 k4=>?_;have K4:=K3.tr k4;refine LV (hl.aK K4 cI λ_ _=>id) (by decide) (by decide) (by decide) (by decide) λx4 w5 a4 c4 k5=>?_;have K5:=K4.tr k5;rw[gZ aB aB,gZ aB aB,gZ aB aB];refine fF (zs:=JD ⟨0,0,0,0,0,0⟩) (vs:=[aD (1+x1),aD (1+x2),aD x3,aD (1+x4),aD 0,aD 0]) yX rfl (by simp[Value.oneCell']) λw7 o7 k7 z7=>?_;have o7d:=o7.aK (bY w7) id;have K7:=(K5.tr k7).tr (bY w7);refine aE (k:=.i) (1+x4) (cV o7d rfl) ?_;refine LV (hl.aK K7 cI λ_ _=>id) (by decide) (by decide) (by decide) (by decide) λx6 w8 a6 c6 k8=>?_;have o8:=o7d.aK k8 id;refine⟨cV o8 rfl,?_⟩;rw[gZ aB aB];have b8:uL w5.heap.size xU _ w8 (λk=>k=w5.heap.size):=⟨o8,λ_=>Iff.rfl⟩;refine qY b8 cZ dN rfl rfl λw9 b9 u9=>?_;have K8:=K7.tr k8;have z5:w.heap.size<=w5.heap.size:=K5.size;have K9:aL w w9:=K8.fresh u9.m λk (e:k=w5.heap.size)=>aB;refine LV (hl.aK K9 cI λ_ _=>id) (by decide) (by decide) (by decide) (by decide) λx7 eZ a7 c7 IP=>?_;rw[gZ aB aB];refine qY (bG.kp b9 IP) cZ dN rfl rfl λeN b11 ik=>?_;have K11:aL w eN:=(K9.tr IP).fresh ik.m λk (e:k=w5.heap.size)=>aB
 let c:wV:=⟨(1+x1).toNat,(1+x2).toNat,x3,1+x4,1+x4+x6,5+x7⟩
 have gf:((1+x1).toNat:Int)=1+x1:=aB;have PO:((1+x2).toNat:Int)=1+x2:=aB;have tup:wS c=(1+x1,1+x2,x3,1+x4,1+x4+x6,5+x7,()):=by show(((1+x1).toNat:Int),((1+x2).toNat:Int),_,_,_,_,())=_;rw[gf,PO]
 refine aX (l:=JA) (1+x1,1+x2,x3,1+x4,1+x4+x6,5+x7,()) (b11.1.holds λj v hj=>by rw[gI];exact hj) ?_;have n15:¬w.heap.size=w5.heap.size:=by have:=(k2.tr (k3.tr (k4.tr k5))).size;omega
 have o1:cU eN w.heap.size xU (JD ⟨0,0,0,0,0,0⟩):=by have x1:=b1.1.aK (k2.tr (k3.tr (k4.tr k5))) id;have x2:=((x1.aK k7 id).aK (bY w7) id).aK k8 id;exact((x2.aK u9.m n15).aK IP id).aK ik.m n15
 refine eY (vs:=[aD (1+x1),aD (1+x2),aD x3,aD (1+x4),aD (1+x4+x6),aD (5+x7)]) o1 yX rfl (by simp[Value.oneCell']) λeE Ds Ku _=>?_;refine aX (l:=JA) (1+x1,1+x2,x3,1+x4,1+x4+x6,5+x7,()) (Ds.holds λj v hj=>by rw[gI];exact hj) ?_;have:=hQ c eE ⟨by show 1<=(1+x1).toNat/\(1+x1).toNat<=16;omega,by show 1<=(1+x2).toNat/\(1+x2).toNat<=16;omega,by show 0<=x3/\x3<=20;omega,by show 1<=1+x4/\1+x4<=1000;omega,by show 1+x4<=1+x4+x6/\1+x4+x6<=1000;omega,by show 1<=5+x7/\5+x7<=1000;omega⟩ (K11.fresh Ku λk (e:k=w.heap.size)=>aB);rw[tup] at this;exact this
structure Made(E:qO)(G:Gr)(a wa n:Nat)(c:wV)(w0 W0 w':aH)(S':BS)(W:jD):Prop where
 x:iS (λ_=>False) E.e a wa W w' S'
 b:Bs W0 E G S' w'
 k:aL w0 w'
 ok:Am G 0 n W
 lo:∀k,S' k->w0.heap.size<=k
 w:∃sp tp lp GD ds,W=⟨IW c G.m sp tp lp,ds,[],GD⟩/\ds.map (·.2)=List.replicate n (PX c)
theorem Made.aO{E:qO}{G:Gr}{a wa n:Nat}{c:wV}{w0 W0 w' w2:aH}{S':BS}{W:jD}(h:Made E G a wa n c w0 W0 w' S' W)(k:aL w' w2):Made E G a wa n c w0 W0 w2 S' W:=⟨h.x.kp k,h.b.kp k,h.k.tr k,h.ok,h.lo,h.w⟩
theorem Made.jU{E:qO}{G:Gr}{a wa n:Nat}{c:wV}{w0 W0 w':aH}{S':BS}{W:jD}(h:Made E G a wa n c w0 W0 w' S' W):W.jU=[]:=by
 obtain⟨_,_,_,_,_,rfl,_⟩:=h.w;rfl
theorem NewW_i{g:GT}{G:Gr}{c:wV}{n:Nat}{w:aH}{Q:cR->Int->aH->Prop}(hg:GQ w g G)(ok:sS G)(UM:c.Ok)(hn:1<=n/\n<=16)
  (hQ:∀E a wa W0 w' S' W,Made E G a wa n c w W0 w' S' W->aL w W0->Q (some ⟨wa,0,none⟩) 0 w'):uW g (wS c) (n:Int) w Q:=
 WNew_i hg ok UM hn λE a wa sp tp lp W0 GD ds w' S' h1 h2 h3 h3' h4 h5 h6=>hQ E a wa W0 w' S' _ ⟨h1,h2,h3,h4,h5,sp,tp,lp,GD,ds,rfl,h6⟩ h3'
end Go.Proofs.YtihggjgakbgomaaGreat
