import Derived.Test.YtihggjgakbgomaaGreatA1
import Derived.Test.YtihggjgakbgomaaGreatQ4
import Derived.Test.YtihggjgakbgomaaGreatF2
set_option linter.defProp false
namespace Go.Proofs.YtihggjgakbgomaaGreat
open Go Go.Den
section
def dw{l:List dF}{p q:Nat}(h:q≠p):(l.filter λf=>!decide (f.aN=p)).find? (λe=>e.aN==q)=l.find? λe=>e.aN==q:=by
 induction l with
 |nil=>rfl
 |cons x l ih=>
  by_cases hx:x.aN=p
  ·rw[ly2 (by simp[hx]),ih,List.find?_cons_of_neg (by simp[hx];omega)]
  ·rw[List.filter_cons_of_pos (by simp[hx])]
   by_cases hq:x.aN=q
   ·rw[List.find?_cons_of_pos (by simp[hq]),List.find?_cons_of_pos (by simp[hq])]
   ·rw[List.find?_cons_of_neg (by simp[hq]),List.find?_cons_of_neg (by simp[hq]),ih]
def at_drop{t:tD}{p q:Nat}(h:q≠p):(t.drop p).at q=t.at q:=dw h
def YQ{t:tD}{p:Nat}:(t.drop p).at p=none:=by
 cases h:(t.drop p).at p with
 |none=>rfl
 |some e=>obtain⟨h1,h2⟩:=tD.at_mem h;have:=(jR.1 h1).2;simp[h2] at this
def tD.To{t:tD}(ok:t.Ok){p:Nat}{e:dF}:t.at p=some e↔e∈t.bI/\e.aN=p:=⟨tD.at_mem,λ⟨h1,h2⟩=>by rw[<-h2];exact tD.UI ok h1⟩
def at_add{t:tD}{e:dF}(ok:t.Ok)(Rl:(t.add e).Ok)(q:Nat):(t.add e).at q=if q=e.aN then some e else t.at q:=by
 apply Option.ext;intro f;rw[tD.To Rl];show(f∈Gy e t.bI/\f.aN=q)↔_;rw[pD]
 by_cases hq:q=e.aN
 ·rw[if_pos hq]
  constructor
  ·rintro⟨rfl|⟨_,h⟩,h2⟩
   ·rfl
   ·exact absurd (h2.trans hq) h
  ·intro h;cases h;exact⟨.inl rfl,hq.symm⟩
 ·rw[if_neg hq,tD.To ok]
  constructor
  ·rintro⟨rfl|⟨h,_⟩,h2⟩
   ·exact absurd h2.symm hq
   ·exact⟨h,h2⟩
  ·rintro⟨h,h2⟩;exact⟨.inr ⟨h,λh3=>hq (h2.symm.trans h3)⟩,h2⟩
def pq:∀{l:List dF} {w:aH} {S:BS},xA JZ l w S->xA Grv (l.map (·.a)) w S
 | [],_,_,h=>h
 |e::l,_,_,h=>bL.mono h (λ_ h=>⟨Xo e,h⟩) λ_ h=>pq h
structure Pa(v v':iT)(p:Nat):Prop where
 dJ:v'.dJ=v.dJ
 sp:v'.sp=v.sp
 tp:v'.tp=v.tp
 lp:v'.lp=v.lp
 dQ:v'.dQ=v.dQ
 u:v'.u=v.u
 lf:v'.lf=v.lf
 ln:v'.ln=v.ln
 at':∀q,q≠p->v'.t.at q=v.t.at q
 ch:∀q,q≠p->v'.ch q=v.ch q
 JI:∀q,q≠p->v'.JI q=v.JI q
section
variable{w:aH}{S:BS}{ee a:Nat}{v:iT}
def zp{v':iT}{p:Nat}(x:Pa v v' p):FN (FN (RC ee a v) (.ch p) (RC ee a v' (.ch p))) .Fx (WK v')=RC ee a v':=by
 funext i
 cases i with
 |Fy=>show tE a yI (WI ee v)=tE a yI (WI ee v');unfold WI;rw[x.dJ,x.sp,x.tp,x.lp,x.dQ]
 |set=>show vS v.sp v.u=vS v'.sp v'.u;rw[x.sp,x.u]
 |Fx=>rfl
 |lost=>show vL v.lp AA Lw v.lf v.ln=vL v'.lp AA Lw v'.lf v'.ln;rw[x.lp,x.lf,x.ln]
 |ch q=>
  show(if SI.ch q=.Fx then WK v' else if SI.ch q=.ch p then RC ee a v' (.ch p) else RC ee a v (.ch q))=_
  rw[if_neg dP]
  by_cases hq:q=p
  ·rw[if_pos (by rw[hq]),hq]
  ·rw[if_neg (by simpa using hq)];show(match v.t.at q with|some e=>mJ e.cp (v.ch q)|none=>EH)=(match v'.t.at q with|some e=>mJ e.cp (v'.ch q)|none=>EH)
   rw[x.at' q hq,x.ch q hq]
def lN.putTab(h:lN ee a v w S)(p:Nat):∃S1,bL (RC ee a v (.ch p)) (WK v) w S1/\(∀k,S1 k->S k)/\∀v' D w' T,Pa v v' p->Up S1 T w w'->bL (bL (RC ee a v' (.ch p)) (WK v')) D w' T->∃S',bL (lN ee a v') D w' S'/\Up S S' w w':=by
 obtain⟨S1,h1,hs,eJ⟩:=gS.at2 (A:=RC ee a v) (i:=SI.ch p) (j:=SI.Fx) h dP;refine⟨S1,h1,hs,λv' D w' T x u hT=>?_⟩;obtain⟨S',h',u'⟩:=eJ _ _ D w' T u hT;exact⟨S',h'.mono (λ_ h=>by unfold lN;rw[<-zp x];exact h) λ_ h=>h,u'⟩
def yr{v':iT}{p:Nat}(x:Pa v v' p):FN (AP ee v) p (AP ee v' p)=AP ee v':=by
 funext q
 show(if q=p then AP ee v' p else AP ee v q)=_
 by_cases hq:q=p
 ·rw[if_pos hq,hq]
 ·rw[if_neg hq];unfold AP;rw[x.at' q hq,x.JI q hq]
def DW.putX(h:DW ee v w S)(p:Nat):∃S1,AP ee v p w S1/\(∀k,S1 k->S k)/\∀v' w' T,Pa v v' p->Up S1 T w w'->AP ee v' p w' T->∃S',DW ee v' w' S'/\Up S S' w w':=by
 obtain⟨S1,h1,hs,eJ⟩:=(gS.at h p).put;refine⟨S1,h1,hs,λv' w' T x u hT=>?_⟩;obtain⟨S',h',u'⟩:=eJ _ w' T u hT;exact⟨S',by unfold DW;rw[<-yr x];exact h',u'⟩
def iT.kC(v:iT)(p:Nat):iT:={v with t:=v.t.drop p,gv:=(v.t.bI.filter λf=>decide (f.aN=p)).map (·.a)++v.gv}
def dropE_ok{G:Gr}{B:Int}(ok:v.Ok G B)(p:Nat):(v.kC p).Ok G B:=
 have sub:∀f∈(v.t.drop p).bI,f∈v.t.bI:=λf hf=>(jR.1 hf).1
 ⟨ok.dJ,ok.dQ,ok.u,ok.t.drop p,ok.fF,λf hf=>ok.ch f (sub f hf),λf hf=>ok.JI f (sub f hf),λf hf=>ok.VT f (sub f hf),λk hk=>by
  rcases ok.lost k hk with⟨f,hf,rfl⟩|h
  ·by_cases hp:f.aN=p
   ·exact .inr (List.mem_append_left _ (mQ.2 ⟨f,jR.2 ⟨hf,by simp[hp]⟩,rfl⟩))
   ·exact .inl ⟨f,jR.2 ⟨hf,by simp[hp]⟩,rfl⟩
  ·exact .inr (List.mem_append_right _ h)⟩
def Ks(v:iT)(p:Nat):Pa v (v.kC p) p:=⟨rfl,rfl,rfl,rfl,rfl,rfl,rfl,rfl,λq hq=>at_drop hq,λq _=>rfl,λq _=>rfl⟩
def VDrop_i{G:Gr}{B:Int}{p:Nat}{RJ:Sl}{Q:Sl->aH->Prop}(h:iJ ee a v w S)(ok:v.Ok G B)(hr:Rd w RJ 1 eI [(p:Int)])(ho:JM RJ S w)
  (hQ:∀r w' S',iJ ee a (v.kC p) w' S'->Up S S' w w'->(v.kC p).Ok G B->(∀f∈v.t.bI,f.aN=p->cX w' f.a ZW (Xo f))->Q r w'):xZ (some ⟨v.tp,0,none⟩) RJ w Q:=by
 have bd:=bJ.iF h;obtain⟨SC,SS,hC,hS,d,e⟩:=h;obtain⟨S1,h1,wZ,Yo⟩:=hC.putTab p;obtain⟨S2,S3,h2,⟨S4,S5,h4,h5,d45,e45⟩,d23,e23⟩:=h1;have inC:∀k,S4 k->SC k:=λk hk=>wZ k ((e23 k).2 (.inr ((e45 k).2 (.inl hk))));refine TDrop_i h4 ok.t hr (λb hb=>⟨λhk=>(ho b hb).1 ((e _).2 (.inl (inC _ hk))),(ho b hb).2⟩) λr w' S6 h6 u6=>?_;obtain⟨S7,S8,h7,h8,d78,Rt⟩:=h6;have h5':xA Grv v.gv w' S5:=bJ.aK h5 u6.m λk h1 h2=>d45 k h2 h1;have d65:∀k,S6 k->S5 k->False:=u6.mv (λk h1 h2=>d45 k h1 h2) (bJ.iF h5);have hT:WK (v.kC p) w' (λk=>S7 k\/(S8 k\/S5 k)):=bL.yH h7 (XJ (bL.yH (pq h8) h5' λk h1 h2=>d65 k ((Rt k).2 (.inr h1)) h2)) λk h1 h2=>h2.elim (d78 k h1) λh=>d65 k ((Rt k).2 (.inl h1)) h;have hE:RC ee a (v.kC p) (.ch p)=EH:=by
  show(match (v.t.drop p).at p with|some e=>_|none=>EH)=_
  rw[YQ]
 have hX:bL (bL (RC ee a (v.kC p) (.ch p)) (WK (v.kC p))) EH w' (λk=>S7 k\/(S8 k\/S5 k)):=by rw[hE];exact bL.emp ⟨λ_=>False,_,λ_=>id,hT,λ_ h _=>h,λk=>⟨.inr,λh=>h.elim False.elim id⟩⟩
 have UX:Up S1 (λk=>S7 k\/(S8 k\/S5 k)) w w':=⟨u6.m.mono λk _ hk=>(e23 k).2 (.inr ((e45 k).2 (.inl hk))),λk hk=>by
  rcases hk with hk|hk|hk
  ·exact(u6.s k ((Rt k).2 (.inl hk))).imp (λh=>(e23 k).2 (.inr ((e45 k).2 (.inl h)))) id
  ·exact(u6.s k ((Rt k).2 (.inr hk))).imp (λh=>(e23 k).2 (.inr ((e45 k).2 (.inl h)))) id
  ·exact .inl ((e23 k).2 (.inr ((e45 k).2 (.inr hk))))⟩
 obtain⟨S9,h9,u9⟩:=Yo _ _ w' _ (Ks v p) UX hX;obtain⟨ZD,ZI,u10⟩:=h9.drop;have UC:Up SC ZD w w':=u9.tr u10;have hS':DW ee v w' SS:=bJ.aK hS UC.m λk h1 h2=>d k h2 h1;obtain⟨Ru,Rq,hs11,Ij⟩:=DW.putX hS' p;have hE2:AP ee (v.kC p) p w' (λ_=>False):=by
  have:AP ee (v.kC p) p=EH:=by unfold AP;rw[show(v.kC p).t.at p=none from YQ]
  rw[this];exactλ_=>id
 obtain⟨ZL,Gj,Fw⟩:=Ij (v.kC p) w' _ (Ks v p) (Up.sub w' λk hk=>hk.elim) hE2;have El:∀k,ZL k->SS k\/w'.heap.size<=k:=Fw.s;have b12:=bJ.iF Gj;have sub12:∀k,ZL k->SS k:=λk hk=>(El k hk).resolve_right λh=>by have:=b12 k hk;omega
 refine hQ r w' (λk=>ZD k\/ZL k) (bL.yH ZI Gj λk h1 h2=>?_) ⟨UC.m.mono λk _ hk=>(e k).2 (.inl hk),λk hk=>?_⟩ (dropE_ok ok p) λf hf hfp=>?_
 ·exact(UC.s k h1).elim (λh=>d k h (sub12 k h2)) λh=>by have:=bd k ((e k).2 (.inr (sub12 k h2)));omega
 ·rcases hk with hk|hk
  ·exact(UC.s k hk).imp (λh=>(e k).2 (.inl h)) id
  ·exact .inl ((e k).2 (.inr (sub12 k hk)))
 ·obtain⟨_,vv,_⟩:=xA.get h8 (x:=f) (jR.2 ⟨hf,by simp[hfp]⟩);exact vv.1
def iT.pR(v:iT)(e:dF)(c:lE)(z:zZ):iT:={v with t:=v.t.add e,gv:=(oldE e.aN v.t.bI).map (·.a)++v.gv,ch:=λq=>if q=e.aN then c else v.ch q,JI:=λq=>if q=e.aN then z else v.JI q}
def addE_ok{G:Gr}{B:Int}(ok:v.Ok G B){e:dF}{c:lE}{z:zZ}(Rl:(v.t.add e).Ok)(hc:c.Ok/\c.aM=e.aM/\c.s.dG=v.dJ.dG/\c.dl<=B)(hz:VL G z)(he:(1<=e.aM/\e.aM<=2147483648)/\0<=e.lH/\e.lH<=v.dQ):(v.pR e c z).Ok G B:=by
 refine⟨ok.dJ,ok.dQ,ok.u,Rl,ok.fF,λf hf=>?_,λf hf=>?_,λf hf=>?_,λk hk=>?_⟩
 ·show(if f.aN=e.aN then c else v.ch f.aN).Ok/\(if f.aN=e.aN then c else v.ch f.aN).aM=f.aM/\(if f.aN=e.aN then c else v.ch f.aN).s.dG=v.dJ.dG/\(if f.aN=e.aN then c else v.ch f.aN).dl<=B
  rcases pD.1 hf with rfl|⟨h1,h2⟩
  ·rw[if_pos rfl];exact hc
  ·rw[if_neg h2];exact ok.ch f h1
 ·show VL G (if f.aN=e.aN then z else v.JI f.aN)
  rcases pD.1 hf with rfl|⟨h1,h2⟩
  ·rw[if_pos rfl];exact hz
  ·rw[if_neg h2];exact ok.JI f h1
 ·rcases pD.1 hf with rfl|⟨h1,_⟩
  ·exact he
  ·exact ok.VT f h1
 ·rcases ok.lost k hk with⟨f,hf,rfl⟩|h
  ·by_cases hp:f.aN=e.aN
   ·exact .inr (List.mem_append_left _ (mQ.2 ⟨f,oldE_mem.2 ⟨hf,hp⟩,rfl⟩))
   ·exact .inl ⟨f,pD.2 (.inr ⟨hf,hp⟩),rfl⟩
  ·exact .inr (List.mem_append_right _ h)
def VAdd_i{G:Gr}{B:Int}{SC SS SB SH SZ:BS}{e:dF}{c:lE}{z:zZ}{Q:Int->aH->Prop}(hC:lN ee a v w SC)(hS:DW ee v w SS)(hB:JZ e w SB)(hH:mJ e.cp c w SH)(hZ:vK ee e.sp z w SZ)(dC:∀k,SC k->(SS k\/SB k\/SH k\/SZ k)->False)(dS:∀k,SS k->(SB k\/SH k\/SZ k)->False)(dB:∀k,SB k->(SH k\/SZ k)->False)(dH:∀k,SH k->SZ k->False)
  (ok:v.Ok G B) (hp:e.aN<16) (hm:v.t.vQ e.aN e.aM=0) (hc:c.Ok/\c.aM=e.aM/\c.s.dG=v.dJ.dG/\c.dl<=B) (hz:VL G z) (he:(1<=e.aM/\e.aM<=2147483648)/\0<=e.lH/\e.lH<=v.dQ)
  (hQ:∀w' SA SX,lN ee a (v.pR e c z) w' SA->DW ee (v.pR e c z) w' SX->(∀k,SA k->SX k->False)->(∀k,SA k->SC k\/SB k\/SH k\/w.heap.size<=k)->(∀k,SX k->SS k\/SZ k)->aU (λk=>SC k\/SB k) w w'->(v.pR e c z).Ok G B->Q 0 w'):NX (some ⟨v.tp,0,none⟩) (LW e) w Q:=by
 obtain⟨S1,h1,wZ,Yo⟩:=gS.at2X (A:=RC ee a v) (i:=SI.ch e.aN) (j:=SI.Fx) hC dP;obtain⟨S2,S3,h2,⟨S4,S5,h4,h5,d45,e45⟩,d23,e23⟩:=h1;have in4:∀k,S4 k->SC k:=λk hk=>wZ k ((e23 k).2 (.inr ((e45 k).2 (.inl hk))));have iz:∀k,S5 k->SC k:=λk hk=>wZ k ((e23 k).2 (.inr ((e45 k).2 (.inr hk))));have b5:=bJ.iF h5;have bC:=bJ.iF hC;have bS:=bJ.iF hS;have bH:=bJ.iF hH;have bZ:=bJ.iF hZ;have hTE:bL (DV v.tp v.t) (JZ e) w (λk=>S4 k\/SB k):=bL.yH h4 hB λk h1 h2=>dC k (in4 k h1) (.inr (.inl h2));refine TAdd_i hTE ok.t hp he.1 hm λw' S6 h6 u6 uq=>?_;obtain⟨S7,S8,h7,h8,d78,Rt⟩:=h6;have n5:∀k,S5 k->¬(S4 k\/SB k):=λk h h'=>h'.elim (λh1=>d45 k h1 h) λh1=>dC k (iz k h) (.inr (.inl h1));have nH:∀k,SH k->¬(S4 k\/SB k):=λk h h'=>h'.elim (λh1=>dC k (in4 k h1) (.inr (.inr (.inl h)))) λh1=>dB k h1 (.inl h);have nZ:∀k,SZ k->¬(S4 k\/SB k):=λk h h'=>h'.elim (λh1=>dC k (in4 k h1) (.inr (.inr (.inr h)))) λh1=>dB k h1 (.inr h);have nS:∀k,SS k->¬(S4 k\/SB k):=λk h h'=>h'.elim (λh1=>dC k (in4 k h1) (.inl h)) λh1=>dS k h (.inl h1);have h5':xA Grv v.gv w' S5:=bJ.aK h5 u6.m n5;have hH':mJ e.cp c w' SH:=bJ.aK hH u6.m nH;have hZ':vK ee e.sp z w' SZ:=bJ.aK hZ u6.m nZ;have d6:∀(T:BS),(∀k,T k->¬(S4 k\/SB k))->(∀k,T k->k<w.heap.size)->∀k,S6 k->T k->False:=λT hn hb k h1 h2=>(u6.s k h1).elim (hn k h2) λh=>by have:=hb k h2;omega
 have hT:WK (v.pR e c z) w' (λk=>S7 k\/(S8 k\/S5 k)):=bL.yH h7 (XJ (bL.yH (pq h8) h5' λk h1 h2=>d6 S5 n5 b5 k ((Rt k).2 (.inr h1)) h2)) λk h1 h2=>h2.elim (d78 k h1) λh=>d6 S5 n5 b5 k ((Rt k).2 (.inl h1)) h;have Gi:(v.t.add e).at e.aN=some e:=by rw[at_add ok.t uq,if_pos rfl]
 have hE:RC ee a (v.pR e c z) (.ch e.aN)=mJ e.cp c:=by
  show(match (v.t.add e).at e.aN with|some f=>mJ f.cp (if e.aN=e.aN then c else v.ch e.aN)|none=>EH)=_
  rw[Gi,if_pos rfl]
 have x:Pa v (v.pR e c z) e.aN:=⟨rfl,rfl,rfl,rfl,rfl,rfl,rfl,rfl,λq hq=>(at_add ok.t uq q).trans (if_neg hq),λq hq=>if_neg hq,λq hq=>if_neg hq⟩;have hHT:∀k,SH k->(S7 k\/(S8 k\/S5 k))->False:=λk h1 h2=>by
  rcases h2 with h|h|h
  ·exact d6 SH nH bH k ((Rt k).2 (.inl h)) h1
  ·exact d6 SH nH bH k ((Rt k).2 (.inr h)) h1
  ·exact dC k (iz k h) (.inr (.inr (.inl h1)))
 have s6:∀k,S6 k->S4 k\/SB k\/w.heap.size<=k:=λk hk=>(u6.s k hk).elim (λh=>h.imp id .inl) λh=>.inr (.inr h);have inS1:∀k,S4 k->S1 k:=λk h=>(e23 k).2 (.inr ((e45 k).2 (.inl h)));have hX:bL (RC ee a (v.pR e c z) (.ch e.aN)) (WK (v.pR e c z)) w' (λk=>SH k\/(S7 k\/(S8 k\/S5 k))):=by rw[hE];exact bL.yH hH' hT hHT
 have TX:∀k,(SH k\/(S7 k\/(S8 k\/S5 k)))->SC k\/SB k\/SH k\/w.heap.size<=k:=λk hk=>by
  have key:S6 k->SC k\/SB k\/SH k\/w.heap.size<=k:=λh=>by
   rcases s6 k h with h|h|h
   ·exact .inl (in4 k h)
   ·exact .inr (.inl h)
   ·exact .inr (.inr (.inr h))
  rcases hk with hk|hk|hk|hk
  ·exact .inr (.inr (.inl hk))
  ·exact key ((Rt k).2 (.inl hk))
  ·exact key ((Rt k).2 (.inr hk))
  ·exact .inl (iz k hk)
 obtain⟨SA,hA,eA⟩:=Yo _ _ _ w' _ u6.m (λk hk=>hk.imp (inS1 k) λh hc=>dC k hc (.inr (.inl h))) (λk hk=>by
  have key:S6 k->S1 k\/¬SC k:=λh=>by
   rcases s6 k h with h|h|h
   ·exact .inl (inS1 k h)
   ·exact .inr λhc=>dC k hc (.inr (.inl h))
   ·exact .inr λhc=>by have:=bC k hc;omega
  rcases hk with hk|hk|hk|hk
  ·exact .inr λhc=>dC k hc (.inr (.inr (.inl hk)))
  ·exact key ((Rt k).2 (.inl hk))
  ·exact key ((Rt k).2 (.inr hk))
  ·exact .inl ((e23 k).2 (.inr ((e45 k).2 (.inr hk))))) hX
 rw[zp x] at hA;have inSA:∀k,SA k->SC k\/SB k\/SH k\/w.heap.size<=k:=λk hk=>((eA k).1 hk).elim (λh=>.inl h.1) (TX k);have hS':DW ee v w' SS:=bJ.aK hS u6.m nS;have hYp:AP ee (v.pR e c z) e.aN w' SZ:=by
  have:AP ee (v.pR e c z) e.aN=vK ee e.sp z:=by
   show(match (v.t.add e).at e.aN with|some f=>vK ee f.sp (if e.aN=e.aN then z else v.JI e.aN)|none=>EH)=_
   rw[Gi,if_pos rfl]
  rw[this];exact hZ'
 obtain⟨SX,hSX,eSX⟩:=gS.swap hS' e.aN hYp λk h1 h2=>dS k h1 (.inr (.inr h2));rw[yr x] at hSX;refine hQ w' SA SX hA hSX (λk h1 h2=>?_) inSA eSX (u6.m.mono λk _ hk=>hk.imp (in4 k) id) (addE_ok (z:=z) ok uq hc hz he);rcases eSX k h2 with h|h
 ·rcases inSA k h1 with g|g|g|g
  ·exact dC k g (.inl h)
  ·exact dS k h (.inl g)
  ·exact dS k h (.inr (.inl g))
  ·have:=bS k h;omega
 ·rcases inSA k h1 with g|g|g|g
  ·exact dC k g (.inr (.inr (.inr h)))
  ·exact dB k g (.inr h)
  ·exact dH k g h
  ·have:=bZ k h;omega
end
end
section
structure rC where
 d:Int
 aM:Int
 up:Bool
 Df:gT
abbrev eHd(x:rC×Sl):gJ:=[aD x.1.d,aD x.1.aM,.bool x.1.up,aD x.1.Df.kind,aD x.1.Df.pos,aD x.1.Df.JV,aW x.2,aD x.1.Df.lI,aD x.1.Df.eZ.cls,aD x.1.Df.eZ.kL,aD x.1.Df.eZ.pL,aD x.1.Df.eZ.left]
def Yf:∀x:rC×Sl,(eHd x).length=12:=λ_=>rfl
def oneHd:∀x:rC×Sl,∀u∈eHd x,u.oneCell'=true:=by intro x u hu;simp at hu;rcases hu with rfl|rfl|rfl|rfl|rfl|rfl|rfl|rfl|rfl|rfl|rfl|rfl<;>rfl
def eHd_ne(x:rC×Sl):eHd x≠[]:=by simp
abbrev Hh:=fO (α:=rC) eI tHeard 12 eHd λh=>h.Df.cF
def Yy{G:Gr}{B B':Int}{v:iT}(ok:v.Ok G B){e:dF}(he:e∈v.t.bI){c:lE}(hc:c.Ok/\c.aM=e.aM/\c.s.dG=v.dJ.dG/\c.dl<=B')(hB:B<=B'):(v.oY e.aN c).Ok G B':=by
 refine⟨ok.dJ,ok.dQ,ok.u,ok.t,ok.fF,λf hf=>?_,ok.JI,ok.VT,ok.lost⟩;show(if f.aN=e.aN then c else v.ch f.aN).Ok/\(if f.aN=e.aN then c else v.ch f.aN).aM=f.aM/\(if f.aN=e.aN then c else v.ch f.aN).s.dG=v.dJ.dG/\(if f.aN=e.aN then c else v.ch f.aN).dl<=B'
 by_cases hp:f.aN=e.aN
 ·rw[if_pos hp,ok.t.inj hf he hp];exact hc
 ·rw[if_neg hp];have:=ok.ch f hf;exact⟨this.1,this.2.1,this.2.2.1,aB⟩
def bL.drop2{A B C:As}{w:aH}{S:BS}(h:bL A (bL B C) w S):∃S',bL A C w S'/\Up S S' w w:=by
 obtain⟨S1,S2,h1,⟨S3,S4,h3,h4,d34,Xb⟩,d,e⟩:=h;exact⟨λk=>S1 k\/S4 k,bL.yH h1 h4 λk a b=>d k a ((Xb k).2 (.inr b)),Up.sub w λk hk=>(e k).2 (hk.imp id λh=>(Xb k).2 (.inr h))⟩
def BegC(G:Gr)(v:iT)(aN:Nat)(g:fK)(m:gT)(e:Int):=g.kind=1/\g.seq=0/\e=0/\m.kind=1/\v.t.vQ aN g.aM=0/\G.mO m.pos/\G.GR m.JV
def BegR(G:Gr)(v:iT)(aN:Nat)(g:fK)(v':iT)(ps:List Pk)(hs:List rC):=∃m e,MDec g.body m e/\
  ((¬BegC G v aN g m e/\v'=v/\hs=[]/\∃p code,ps=[p]/\wg aN ⟨g.aM,3,0,0,code,[]⟩ p)\/
   (BegC G v aN g m e/\∃(en:dF) (z:zZ×List gT) (oO:List (List cH)) (Rr:List fK) (c1:lE) (TK Ga:List Pk),en.aN=aN/\en.aM=g.aM/\en.lH=v.dQ/\(v.lf en.a).getD (false:Bool)=false/\DX G (Bo v.u) (Xd m.pos m.JV) z/\zE (vJ v.dJ.dG g.aM) g oO Rr c1/\F2 (wg aN) Rr TK/\c1.Ok/\zD ((v.pR en (vJ v.dJ.dG g.aM) z.1).oY aN c1) en (jD::z.2) v' Ga/\z.2.length<=2/\1<=z.2.length/\ps=TK++Ga/\hs=[⟨aN,g.aM,true,m⟩]))
section
variable{W0 w:aH}{S:BS}{a:Nat}{v:iT}{E:qB}{G:Gr}{B:Int}
def iJ.cfgAt(h:iJ E.e a v w S):bQ w ((⟨a,0,none⟩:Addr).add 1) 0 (rJ JR (xI v.dJ)):=by
 refine jH.2 λk x hk=>?_;have:(WI E.e v)[1+k]? =some x:=by
  match k,hk with
  |0,hk=>exact hk
  |1,hk=>exact hk
  |2,hk=>exact hk
  |3,hk=>exact hk
  |4,hk=>exact hk
  |5,hk=>exact hk
  |k+6,hk=>simp[rJ] at hk
 have c:=h.cell this;rw[aS] at c ⊢;rw[aS,show 0+1+(0+k)=0+(1+k) by omega];exact c
def begin_i{aN:Nat}{g:fK}{ji:Sl}{Q:Sl->Sl->aH->Prop}(h:iJ E.e a v w S)(hb:Bs W0 E G S w)(ok:v.Ok G B)(hB:0<=B)(hp:aN<16)(hg:Rd w ji 1 eU g.body)(hgo:JM ji S w)(hl:g.body.length<=5000)(hs:u32 g.seq)(Gh:1<=g.aM/\g.aM<=2147483648)
  (hQ:∀r rh ps hs v' w' S',iJ E.e a v' w' S'->Up S S' w w'->xL w.heap.size S' w' r ps->Hh w.heap.size S' w' rh hs->v'.Ok G B->BegR G v aN g v' ps hs->Q r rh w'):KO (some ⟨a,0,none⟩) (aN:Int) (JT (g,ji)) w Q:=by
 unfold KO;have bd:=bJ.iF h;refine cM (cs:=eG (g,ji)) λw1 b1 k1 z1=>aE (k:=.slice) ji (aP b1 rfl) ?_;refine qj (hg.aK k1 fV λ_ _=>id) hl λm sl e w2 k2 Ls f2 hmd=>?_;refine fM (zs:=uA (⟨0,0,0,[],0,WV⟩,bD)) (vs:=uA (m,sl)) DC rfl (RK _) λw4 o4 k4 z4=>?_;have b4:=bJ.kp (bJ.kp b1 k2) k4;have K4:aL w w4:=(k1.tr k2).tr k4;have rej:∀(code:Int) (wx:aH),aL w wx->¬BegC G v aN g m e->fY (aN:Int) g.aM code wx λs2 w5=>Q s2 bD w5:=λcode wx kx hn=>
  reset_i λr p w5 k5 v5 hp5=>by
   have K5:=kx.tr k5;exact hQ r _ [p] [] v w5 S (bJ.kp h K5) (Up.aO K5) ((v5.qT kx.size).sub λk hk=>pP (bd k hk) kx.size) fO.nil ok ⟨m,e,hmd,.inl ⟨hn,rfl,rfl,p,code,rfl,hp5⟩⟩
 refine aE (k:=.i) g.kind (aP b4 rfl) (aF (λhk=>aE (k:=.i) g.aM (aP b4 rfl) (rej 2 w4 K4 λhc=>?_)) (λhk=>?_))
 ·have:=hc.1;simp[this] at hk
 have RB:g.kind=1:=by simpa using hk
 refine aE (k:=.i) g.seq (aP b4 rfl) (aF (λhk=>aE (k:=.i) g.aM (aP b4 rfl) (rej 2 w4 K4 λhc=>?_)) (λhk=>?_))
 ·have:=hc.2.1;simp[this] at hk
 have hsq:g.seq=0:=by simpa using hk
 refine aF (λhk=>aE (k:=.i) g.aM (aP b4 rfl) (rej 2 w4 K4 λhc=>?_)) (λhk=>?_)
 ·have:=hc.2.2.1;simp[this] at hk
 have he0:e=0:=by simpa using hk
 refine aE (k:=.i) m.kind (dR o4 rfl) (aF (λhk=>aE (k:=.i) g.aM (aP b4 rfl) (rej 2 w4 K4 λhc=>?_)) (λhk=>?_))
 ·have:=hc.2.2.2.1;simp[this] at hk
 have uw:m.kind=1:=by simpa using hk
 have K4d:=K4.tr (cB w4);have h4:=bJ.kp h K4d;refine aA rfl (aE (k:=.ptr) (some ⟨v.tp,0,none⟩) (h4.cell rfl) (aE (k:=.i) g.aM (aP (bJ.dr b4) rfl) ?_));obtain⟨ST,hT,_⟩:=h4.Fx;refine TMay_i hT ok.t hp Gh λw9 k9=>?_;have K9:=K4d.tr k9;refine aF (λtH=>?_) (λtH=>?_)
 ·have hmay0:v.t.vQ aN g.aM=0:=by simpa using tH
  have K9d:=K9.tr (cB w9);have h9:=bJ.kp h K9d;have b9:=bJ.kp b4 ((cB w4).tr (k9.tr (cB w9)));have o9:=o4.aK ((cB w4).tr (k9.tr (cB w9))) id;refine aA rfl (aE (k:=.ptr) (some ⟨E.e,0,none⟩) (h9.cell rfl) (aE (k:=.i) m.pos (dR o9 rfl) (aE (k:=.i) m.JV (dR o9 rfl) (aA rfl (aE (k:=.ptr) (some ⟨v.sp,0,none⟩) (h9.cell rfl) ?_)))));obtain⟨SU,hU,_⟩:=h9.sset;refine Uq hU ok.u.2 λmk fG v10 JE f10=>?_;have Ol:=K9d.tr JE;have ZI:=bJ.kp h Ol;have b10:=bJ.kp b9 JE;have De:=o9.aK JE id;refine⟨dR De rfl,dR De rfl,ZI.cell rfl,?_⟩;have hb10:=hb.kp Ol;refine SNewF_i hb10 (v10.rd Gw) (λTY=>?_) λhE hN z ms s eQ SZ hz hZ hZlo okz Ww kj LR=>?_
  ·refine aF (λ_=>aE (k:=.i) g.aM (aP b10 rfl) (rej 4 fG Ol λhc=>TY hc.2.2.2.2.2)) (λh=>by cases h)
  refine aF (λh=>by cases h) (λ_=>?_);have K11d:=(Ol.tr LR).tr (cB eQ);have Rq:=bJ.kp h K11d;have b11:=bJ.kp b10 (LR.tr (cB eQ));refine aA rfl (aZ (l:=JR) (xI v.dJ) Rq.cfgAt (aE (k:=.i) g.aM (aP b11 rfl) ?_));refine CNew_i ok.dJ Gh λcp iE SH hH Di Hb=>?_;have K13:=(K11d.tr Di).tr (cB iE);have vv:=bJ.kp h K13;have b13:=bJ.kp b11 (Di.tr (cB iE));refine aE (k:=.i) g.aM (aP b13 rfl) (aA rfl (aE (k:=.i) v.dQ (vv.cell rfl) ?_))
  let en:dF:=⟨iE.drew.heap.size,cp,s,aN,g.aM,v.dQ⟩
  refine cM (cs:=Xo en) λmX bE Dh z14=>?_;have K14:=K13.tr Dh;have h14:=bJ.kp h K14;refine aA rfl (aE (k:=.ptr) (some ⟨v.tp,0,none⟩) (h14.cell rfl) ?_);have ko:(v.lf en.a).getD (false:Bool)=false:=by
   obtain⟨SC0,hC0,_⟩:=h.tJ;cases jd:v.lf en.a with
   |none=>rfl
   |some b=>obtain⟨cs,e',hc⟩:=hC0.Je ok en.a (by rw[jd];rfl);have h1:en.a<w.heap.size:=(Array.getElem?_eq_some_iff.1 hc).1;have h2:w.heap.size<=en.a:=K13.size;omega
  have zk2:=k2.size;have zk10:w4.heap.size<=fG.heap.size:=((cB w4).tr (k9.tr ((cB w9).tr JE))).size;have z11:=LR.size;have z11d:eQ.drew.heap.size=eQ.heap.size:=rfl;have z13:=Di.size;have z13d:iE.drew.heap.size=iE.heap.size:=rfl;have bZ:=bJ.iF hZ;have bH:=bJ.iF hH;obtain⟨SC,SS,hC,hS,dCS,eCS⟩:=h14;have lC:∀k,SC k->k<w.heap.size:=λk hk=>bd k ((eCS k).2 (.inl hk));have lS:∀k,SS k->k<w.heap.size:=λk hk=>bd k ((eCS k).2 (.inr hk));have MM:=ok.dQ;have QS:=ok.dJ.dG;refine VAdd_i (e:=en) (c:=vJ v.dJ.dG g.aM) (z:=z.1) (SB:=λk=>k=iE.drew.heap.size) hC hS bE (bJ.kp hH ((cB iE).tr Dh)) (bJ.kp hZ (((cB eQ).tr Di).tr ((cB iE).tr Dh))) (λk h1 h2=>?_) (λk h1 h2=>?_) (λk h1 h2=>?_) (λk h1 h2=>by have:=Hb k h1;have:=bZ k h2;omega) ok hp hmay0 ⟨PA QS.2,rfl,rfl,hB⟩ okz ⟨Gh,MM.1,lR _⟩ λgB SA SX hA hX dAX inA inX Gd ok15=>?_
  ·have:=lC k h1;rcases h2 with h|h|h|h
   ·exact dCS k h1 h
   ·omega
   ·have:=Hb k h;omega
   ·have:=hZlo k h;omega
  ·have:=lS k h1;rcases h2 with h|h|h
   ·omega
   ·have:=Hb k h;omega
   ·have:=hZlo k h;omega
  ·have h1':k=iE.drew.heap.size:=h1;rcases h2 with h|h
   ·have:=bH k h;omega
   ·have:=bZ k h;omega
  have mid:∀k,w.heap.size<=k->k<eQ.heap.size->¬SA k:=λk h1 h2 h3=>by
   rcases inA k h3 with g|g|g|g
   ·have:=lC k g;omega
   ·omega
   ·have:=Hb k g;omega
   ·omega
  have xe:∀k,w.heap.size<=k->k<eQ.heap.size->¬(SC k\/k=iE.drew.heap.size):=λk h1 h2 h3=>h3.elim (λh=>by have:=lC k h;omega) λh=>aB;have M14d:=Gd.trans (F:=λk=>SC k\/k=iE.drew.heap.size) ((cB gB).wk) λ_ _ h=>h;have b14:=bJ.kp b13 Dh;have o1:=(b14.1).aK M14d (xe _ (dN _) aB);have o2:=(((((De.aK LR id).aK (cB eQ) id).aK Di id).aK (cB iE) id).aK Dh id).aK M14d (xe _ (by have:=k1.size;have:=k2.size;omega) (by have:=k4.size;omega));have hA':=bJ.dr hA;have gG:en∈(v.pR en (vJ v.dJ.dG g.aM) z.1).t.bI:=pD.2 (.inl rfl);have Gi:(v.pR en (vJ v.dJ.dG g.aM) z.1).t.at aN=some en:=tD.UI ok15.t gG;refine aA rfl (aE (k:=.i) v.dQ (hA'.cell rfl) ?_);refine aZ (l:=kG) (JT (g,ji)) (o1.holds λj v hj=>by rw[gK];exact hj) ?_;obtain⟨S6,h6,Of,HO⟩:=hA'.xk Gi;have ech:(v.pR en (vJ v.dJ.dG g.aM) z.1).ch aN=vJ v.dJ.dG g.aM:=if_pos rfl;rw[ech] at h6;have K15:∀k,k<w.heap.size->¬SC k->¬(SC k\/k=iE.drew.heap.size):=λk h1 h2 h3=>h3.elim h2 λh=>aB;have hgo15:Rd gB.drew ji 1 eU g.body:=((hg.aK K14 fV λ_ _=>id).aK Gd fV λb bW=>K15 _ (hgo b bW).2 λh=>(hgo b bW).1 ((eCS _).2 (.inl h))).aK (cB gB) fV λ_ _=>id;have zz15:=Gd.size;refine Uu h6 (PA QS.2) (by show(0:Int)<=_;omega) hgo15 (λb bW=>⟨λhk=>?_,?_⟩) aB hs λZP oO rg Rr c1 jU S7 h7 u7 ZN Mn=>?_
  ·have cD:=(hgo b bW).2;rcases inA _ (Of _ hk) with g|g|g|g
   ·exact(hgo b bW).1 ((eCS _).2 (.inl g))
   ·omega
   ·have:=Hb _ g;omega
   ·have:=Dh.size;omega
  ·have:=(hgo b bW).2;have:gB.drew.heap.size=gB.heap.size:=rfl;omega
  obtain⟨S8,h8,u8⟩:=HO _ _ jU S7 u7 h7;obtain⟨S9,h9',u9⟩:=bL.drop2 h8;obtain⟨S16,h16,u16,g16⟩:=Ug h9';have U16:Up SA S16 gB.drew jU.drew:=((u8.tr u9).tr u16).tr (Up.aO (cB jU));have hv2:=Yy (c:=c1) (B':=B) ok15 gG (by
   have:=yA (PA QS.2) ZN;exact⟨Mn,this.2.1,this.1,Int.le_trans this.2.2.1 hB⟩) (lR _)
  have rf:=yA (PA (aM:=g.aM) QS.2) ZN;have h16':=bJ.dr h16;have g16':=g16.kp Bq (cB jU);have b16:=bJ.iF h16';have Yd:∀k,w.heap.size<=k->k<eQ.heap.size->¬S16 k:=λk h1 h2 h3=>(U16.s k h3).elim (mid k h1 h2) λh=>by have:gB.drew.heap.size=gB.heap.size:=rfl;omega
  have QJ:=o1.aK U16.m (mid _ (dN _) aB);have o2':=o2.aK U16.m (mid _ (by have:=k1.size;have:=k2.size;omega) (by have:=k4.size;omega));have hms16:fU jU.drew (λk=>fG.heap.size<=k/\k<eQ.heap.size) ms (jD::z.2):=
   ((((Ww.wk λk h1 h2=>⟨h1,h2⟩).aO ((cB eQ).tr (Di.tr ((cB iE).tr Dh)))).aK M14d λk hk=>xe k aB hk.2).aK U16.m λk hk=>mid k aB hk.2)
  have rd16:Rd jU.drew sl 1 eI m.cF:=by have JJ:∀b,sl.b=some b->w.heap.size<=b.block/\b.block<eQ.heap.size:=λb bW=>⟨by have:=f2 b bW;omega,by have:=Ls.2.2.1 b bW;have:=k4.size;omega⟩;exact((Ls.1.aK ((k4.tr ((cB w4).tr (k9.tr ((cB w9).tr JE)))).tr (LR.tr ((cB eQ).tr (Di.tr ((cB iE).tr Dh))))) cU λ_ _=>id).aK M14d cU λb bW=>xe _ (JJ b bW).1 (JJ b bW).2).aK U16.m cU λb bW=>mid _ (JJ b bW).1 (JJ b bW).2
  have Sa:∀b,sl.b=some b->w.heap.size<=b.block/\b.block<eQ.heap.size:=λb bW=>⟨by have:=f2 b bW;omega,by have:=Ls.2.2.1 b bW;have:=k4.size;omega⟩;have zz16:gB.heap.size<=jU.drew.heap.size:=U16.size;have l64:Rr.length<=1000:=by have h2:=Mn.s.TP;have Wk:=Mn.s.dG;omega
  have inW:∀wx Sx,Up S16 Sx jU.drew wx->bQ wx ⟨w2.heap.size,0,none⟩ 0 (uA (m,sl))/\wx.cell? ((⟨w.heap.size,0,none⟩:Addr).add 0)=some (aD g.aM):=λwx Sx u=>
   ⟨(o2'.aK u.m (Yd _ (by have:=k1.size;have:=k2.size;omega) (by have:=k4.size;omega))).holds λj v hj=>by rw[gK];exact hj,dR (QJ.aK u.m (Yd _ (dN _) aB)) rfl⟩
  have dX:∀(r:Sl) (TK Ga:List Pk) (v':iT) (wz:aH) (Sy:BS) (gb:Nat),lN E.e a v' wz Sy->Up S16 Sy jU.drew wz->xL jU.drew.heap.size Sy wz r (TK++Ga)->v'.Ok G B->F2 (wg aN) Rr TK->zD ((v.pR en (vJ v.dJ.dG g.aM) z.1).oY aN c1) en (jD::z.2) v' Ga->cX wz gb tHeard (eHd (⟨aN,g.aM,true,m⟩,sl))->jU.drew.heap.size<=gb->¬Sy gb->Q r ⟨some ⟨gb,0,none⟩,1,1⟩ wz:=by
   intro r TK Ga v' wz Sy gb hy uy vy oky f1 sd og lgb ngb;have UA:=U16.tr uy;have hX':DW E.e (v.pR en (vJ v.dJ.dG g.aM) z.1) wz SX:=bJ.aK (bJ.dr hX) UA.m λk h1 h2=>dAX k h2 h1;have bX:=bJ.iF hX;have dd:∀k,Sy k->SX k->False:=UA.mv dAX λk hk=>bX k hk;have hsv:iJ E.e a v' wz (λk=>Sy k\/SX k):=by have hse:=sd;obtain⟨bs,gs,c',lo,lf,ln,rfl,_⟩:=hse;exact bL.yH hy hX' dd
   have lSy:∀k,Sy k->S k\/w.heap.size<=k:=λk hk=>by
    rcases UA.s k hk with h|h
    ·rcases inA k h with g|g|g|g
     ·exact .inl ((eCS k).2 (.inl g))
     ·exact .inr aB
     ·exact .inr (by have:=Hb k g;omega)
     ·exact .inr (by have:=Dh.size;omega)
    ·exact .inr (by have:gB.drew.heap.size=gB.heap.size:=rfl;have:=Dh.size;omega)
   have lSX:∀k,SX k->S k\/w.heap.size<=k:=λk hk=>(inX k hk).imp (λh=>(eCS k).2 (.inr h)) λh=>by have:=hZlo k h;omega
   have Vz:Up S (λk=>Sy k\/SX k) w wz:=by
    refine⟨((K14.wk.trans Gd λk h1 h2=>?_).trans (cB gB).wk λ_ _ h=>h).trans UA.m λk h1 h2=>?_,λk hk=>hk.elim (lSy k) (lSX k)⟩
    ·exact h2.elim (λh=>(eCS k).2 (.inl h)) λh=>by have h':k=iE.drew.heap.size:=h;omega
    ·rcases inA k h2 with g|g|g|g
     ·exact(eCS k).2 (.inl g)
     ·omega
     ·have:=Hb k g;omega
     ·have:=Dh.size;omega
   have uszz:=uy.size;refine hQ r _ (TK++Ga) [⟨aN,g.aM,true,m⟩] v' wz _ hsv Vz ((vy.cov λk hk=>hk.imp id λh=>by have:=bX k h;omega).qT (by have:=Dh.size;omega)) ?_ oky ⟨m,e,hmd,.inr ⟨⟨RB,hsq,he0,uw,hmay0,hE,hN⟩,en,z,oO,Rr,c1,TK,Ga,rfl,rfl,rfl,ko,hz,ZN,f1,Mn,sd,kj.1,kj.2,rfl,rfl⟩⟩;refine⟨[(⟨aN,g.aM,true,m⟩,sl)],rfl,dE.new Yf [(⟨aN,g.aM,true,m⟩,sl)] (by simpa using og) (by simp[maxLen]),λb bW=>by cases bW;exact⟨by have:=Dh.size;show w.heap.size<=gb;omega,λh=>h.elim ngb λh=>by have:=bX _ h;have h':gb<gB.heap.size:=this;omega⟩,λx hx=>?_⟩;rw[mR.1 hx];refine⟨rd16.aK uy.m cU λb bW=>Yd _ (Sa b bW).1 (Sa b bW).2,λb bW=>⟨(Sa b bW).1,λh=>?_,?_,λb' WH e=>?_⟩⟩
   ·rcases h with h|h
    ·exact(uy.s _ h).elim (Yd _ (Sa b bW).1 (Sa b bW).2) λh=>by have:=(Sa b bW).2;omega
    ·have h2:=Ls.2.2.1 b bW;rcases inX _ h with h|h
     ·have:=lS _ h;have:=(Sa b bW).1;omega
     ·have:=hZlo _ h;omega
   ·have:=(Sa b bW).2;omega
   ·cases WH;have:=(Sa b bW).2;have e':b.block=gb:=e;omega
  have hbd:∀g∈Rr,g.body.length<=80000:=λg hg=>by have:=rf.2.2.2.2.1 g hg;omega
  have sayP:∀wx,aL jU.drew wx->∀(K:WQ Sl),(∀r ps v' wy Sy,lN E.e a v' wy Sy->Up S16 Sy wx wy->xL wx.heap.size Sy wy r ps->v'.Ok G B->zD ((v.pR en (vJ v.dJ.dG g.aM) z.1).oY aN c1) en (jD::z.2) v' ps->K r wy)->tN (some ⟨a,0,none⟩) (LW en) ms wx K:=λwx kx K hK=>
   say_i (bJ.kp h16' kx) hv2 gG (hms16.aO kx) (λk hk=>Yd k aB hk.2) (by simp;omega) λr ps v' wy Sy g1 g2 g3 g4 g5=>hK r ps v' wy Sy g1 g2 g3 g4 g5
  have Eu:∀(v':iT) (TK Ga:List Pk),F2 (wg aN) Rr TK->zD ((v.pR en (vJ v.dJ.dG g.aM) z.1).oY aN c1) en (jD::z.2) v' Ga->v'.Ok G B->TK.length+Ga.length<=1000000:=λv' TK Ga f1 sd Rl=>by
   have ki:en∈((v.pR en (vJ v.dJ.dG g.aM) z.1).oY aN c1).t.bI:=gG;have h1:=zD.Eu ki sd Rl;have hr5:=Mn.s.TP;have hr6:=Mn.s.dG;have h2:=f1.len;have h4:(((v.pR en (vJ v.dJ.dG g.aM) z.1).oY aN c1).dJ).dG=v.dJ.dG:=rfl;omega
  have o1k:∀wx,aL jU.drew wx->bQ wx ⟨w2.heap.size,0,none⟩ 0 (uA (m,sl))/\wx.cell? ((⟨w.heap.size,0,none⟩:Addr).add 0)=some (aD g.aM):=λwx kx=>inW wx S16 (Up.aO kx);obtain⟨hMa,hMb⟩:=o1k _ (aU.refl _ _);refine aE (k:=.i) g.aM hMb (aZ (l:=iu) (GZ (m,sl)) hMa ⟨?_,?_⟩)
  ·refine IC g16' l64 hbd λr1 TK mG Od v17 f17=>⟨(o1k mG Od).1,(o1k mG Od).2,?_,?_⟩
   ·refine sayP mG Od _ λr2 Ga v' qE jq h18 uo v18 ok18 sd=>?_;have U18:=(Up.aO Od).tr uo;have Mk:xL jU.drew.heap.size jq qE r1 TK:=(v17.sub λk hk=>b16 k hk).up uo;have b18:=bJ.iF h18;have z17:=Od.size;have z18:=uo.size;have r1b:∀b,r1.b=some b->b.block<mG.heap.size:=λb bW=>v17.lt bW;refine⟨(inW qE jq U18).1,(inW qE jq U18).2,?_,?_⟩
    ·refine fO.na nP WS WO aB Mk v18 z17 r1b (Eu _ _ _ f17 sd ok18) aB b18 λr' qS v19 m19 _=>?_;have LY:=m19.mono (G:=λk=>jU.drew.heap.size<=k/\¬jq k) λk _ hk=>Mk.AJ k hk;have U19:=Up.iA U18 LY;have h19:=bJ.ov h18 LY;refine⟨(inW qS jq U19).1,(inW qS jq U19).2,?_⟩;refine cM (cs:=eHd (⟨aN,g.aM,true,m⟩,sl)) λCG b20 k20 z20=>?_;have z19:=U19.size;refine dX r' TK Ga v' CG jq qS.heap.size (bJ.kp h19 k20) (U19.tr (Up.aO k20)) (v19.kp k20) ok18 f17 sd b20.1 z19 λhs=>?_;have:=bJ.iF h19 _ hs;omega
    ·refine cM (cs:=eHd (⟨aN,g.aM,true,m⟩,sl)) λDR b21 k21 z21=>?_;have z21:=k21.size;refine fO.na nP WS WO aB (Mk.kp k21) (v18.kp k21) z17 r1b (Eu _ _ _ f17 sd ok18) aB (λk hk=>pP (b18 k hk) z21) λr' vP v22 m22 _=>?_;have m22':=m22.mono (G:=λk=>jU.drew.heap.size<=k/\¬jq k) λk _ hk=>Mk.AJ k hk;have U22:=Up.iA (U18.tr (Up.aO k21)) m22';refine dX r' TK Ga v' vP jq qE.heap.size (bJ.ov (bJ.kp h18 k21) m22') U22 v22 ok18 f17 sd (b21.1.aK m22 λ⟨b,bW,e⟩=>by have:=r1b b bW;omega) aB λhs=>by have:=b18 _ hs;omega
   ·refine cM (cs:=eHd (⟨aN,g.aM,true,m⟩,sl)) λMc b23 k23 z23=>?_;have K23:=Od.tr k23;refine sayP Mc K23 _ λr2 Ga v' MD S24 h24 u24 v24 ok24 sd=>?_;have U24:=(Up.aO K23).tr u24;have Mk:xL jU.drew.heap.size S24 MD r1 TK:=((v17.sub λk hk=>b16 k hk).kp k23).up u24;have b24:=bJ.iF h24;have z17:=Od.size;have z24:=u24.size;have r1b:∀b,r1.b=some b->b.block<mG.heap.size:=λb bW=>v17.lt bW;refine fO.na nP WS WO aB Mk v24 aB (λb bW=>by have:=r1b b bW;omega) (Eu _ _ _ f17 sd ok24) aB b24 λr' ZE v25 m25 _=>?_;have m25':=m25.mono (G:=λk=>jU.drew.heap.size<=k/\¬S24 k) λk _ hk=>Mk.AJ k hk;have U25:=Up.iA U24 m25';refine dX r' TK Ga v' ZE S24 mG.heap.size (bJ.ov h24 m25') U25 v25 ok24 f17 sd ((b23.1.aK u24.m λhs=>by have:=b16 _ hs;omega).aK m25 λ⟨b,bW,e⟩=>by have:=r1b b bW;omega) z17 λhs=>(u24.s _ hs).elim (λh=>by have:=b16 _ h;omega) λh=>aB
  ·refine cM (cs:=eHd (⟨aN,g.aM,true,m⟩,sl)) λOa b26 k26 z26=>?_;refine IC (g16'.kp Bq k26) l64 hbd λr1 TK Ri k27 v27 f27=>?_;have K27:=k26.tr k27;refine sayP Ri K27 _ λr2 Ga v' ig S28 h28 u28 v28 ok28 sd=>?_;have U28:=(Up.aO K27).tr u28;have z26':=k26.size;have z27:=k27.size;have z28:=u28.size;have Mk:xL jU.drew.heap.size S28 ig r1 TK:=((v27.qT z26').sub λk hk=>pP (b16 k hk) z26').up u28;have b28:=bJ.iF h28;have r1b:∀b,r1.b=some b->b.block<Ri.heap.size:=λb bW=>v27.lt bW;refine fO.na nP WS WO aB Mk v28 aB r1b (Eu _ _ _ f27 sd ok28) aB b28 λr' ju v29 m29 _=>?_;have m29':=m29.mono (G:=λk=>jU.drew.heap.size<=k/\¬S28 k) λk _ hk=>Mk.AJ k hk;have U29:=Up.iA U28 m29';refine dX r' TK Ga v' ju S28 jU.drew.heap.size (bJ.ov h28 m29') U29 v29 ok28 f27 sd (((b26.1.aK k27 id).aK u28.m λhs=>by have:=b16 _ hs;omega).aK m29 λ⟨b,bW,e⟩=>?_) (dN _) λhs=>(u28.s _ hs).elim (λh=>by have:=b16 _ h;omega) λh=>aB;have:=(v27.AJ _ ⟨b,bW,rfl⟩).1;omega
 ·refine aF (λh5=>aE (k:=.i) g.aM (aP (bJ.kp b4 ((cB w4).tr k9)) rfl) (rej 1 w9 K9 λhc=>?_)) (λh5=>aE (k:=.i) g.aM (aP (bJ.kp b4 ((cB w4).tr k9)) rfl) (rej 2 w9 K9 λhc=>?_))
  ·have:=hc.2.2.2.2.1;rw[this] at tH;cases tH
  ·have:=hc.2.2.2.2.1;rw[this] at tH;cases tH
end
end
open Tryz (prog)
section
def iT.LI(v:iT)(i:Nat)(e:dF):iT:={v with t:=⟨v.t.fF,v.t.bI.set i e,v.t.gr⟩}
def set_peers{l:List dF}{i:Nat}{e e':dF}(h:l[i]? =some e)(hp:e'.aN=e.aN):(l.set i e').map (·.aN)=l.map (·.aN):=by
 apply yV;intro j;rw[oG,oG,jC]
 by_cases hj:i=j
 ·subst hj;have cD:=(eR.1 h).1;rw[if_pos rfl,if_pos cD,h];simp[hp]
 ·rw[if_neg hj]
def Tx{l:List dF}{i:Nat}{e e':dF}(hs:LO l)(h:l[i]? =some e)(hp:e'.aN=e.aN):LO (l.set i e'):=by
 have h1:(l.map (·.aN)).Pairwise (·<·):=by rw[List.pairwise_map];exact hs
 rw[<-set_peers h hp,List.pairwise_map] at h1;exact h1
def tL{l:List dF}{i:Nat}{e e' f:dF}(hs:LO l)(h:l[i]? =some e)(hp:e'.aN=e.aN):f∈l.set i e'↔f=e'\/(f∈l/\f.aN≠e.aN):=by
 have cD:=(eR.1 h).1;have vI:e'∈l.set i e':=kR (i:=i) (by rw[jC];simp[cD])
 constructor
 ·intro hf
  by_cases hfe:f=e'
  ·exact .inl hfe
  ·refine .inr ⟨(List.mem_or_eq_of_mem_set hf).resolve_right hfe,λRm=>hfe (yq (Tx hs h hp) hf vI (by rw[Rm,hp]))⟩
 ·rintro(rfl|⟨hf,gQ⟩)
  ·exact vI
  ·obtain⟨j,hj⟩:=List.getElem?_of_mem hf;refine kR (i:=j) ?_;rw[jC,if_neg,hj];intro e;subst e;rw[h] at hj;cases hj;exact gQ rfl
def Yw{t:tD}(ok:t.Ok){i:Nat}{e e':dF}(h:t.bI[i]? =some e)(hp:e'.aN=e.aN)(Rl:(⟨t.fF,t.bI.set i e',t.gr⟩:tD).Ok)(q:Nat):(⟨t.fF,t.bI.set i e',t.gr⟩:tD).at q=if q=e.aN then some e' else t.at q:=by
 apply Option.ext;intro f;rw[tD.To Rl];show(f∈t.bI.set i e'/\f.aN=q)↔_;rw[tL ok.sY h hp]
 by_cases hq:q=e.aN
 ·rw[if_pos hq]
  constructor
  ·rintro⟨rfl|⟨_,gQ⟩,h2⟩
   ·rfl
   ·exact absurd (h2.trans hq) gQ
  ·intro h;cases h;exact⟨.inl rfl,by rw[hp,hq]⟩
 ·rw[if_neg hq,tD.To ok]
  constructor
  ·rintro⟨rfl|⟨hf,_⟩,h2⟩
   ·exact absurd (h2.symm.trans hp) hq
   ·exact⟨hf,h2⟩
  ·rintro⟨hf,h2⟩;exact⟨.inr ⟨hf,λh3=>hq (h2.symm.trans h3)⟩,h2⟩
def Pe{t:tD}(ok:t.Ok){i:Nat}{e e':dF}(h:t.bI[i]? =some e)(hp:e'.aN=e.aN):(⟨t.fF,t.bI.set i e',t.gr⟩:tD).Ok:=
 ⟨ok.fF,by show(t.bI.set i e').length<=_;rw[oE];exact ok.len,Tx ok.sY h hp,λf hf=>by
  rcases(tL ok.sY h hp).1 hf with rfl|⟨hf,_⟩
  ·rw[hp];exact ok.aN e (kR h)
  ·exact ok.aN f hf⟩
section
variable{W0 w:aH}{S:BS}{a:Nat}{v:iT}{E:qB}{G:Gr}{B:Int}{ee:Nat}
def touch_ok(ok:v.Ok G B){i:Nat}{e e':dF}(h:v.t.bI[i]? =some e)(hp:e'.aN=e.aN)(ha:e'.a=e.a)(hc:e'.aM=e.aM)(hl:0<=e'.lH/\e'.lH<=v.dQ):(v.LI i e').Ok G B:=by
 have he:=kR h;have mem:∀f∈(v.LI i e').t.bI,f=e'\/(f∈v.t.bI/\f.aN≠e.aN):=λf hf=>(tL ok.t.sY h hp).1 hf;refine⟨ok.dJ,ok.dQ,ok.u,Pe ok.t h hp,ok.fF,λf hf=>?_,λf hf=>?_,λf hf=>?_,λk hk=>?_⟩
 ·rcases mem f hf with rfl|⟨hf,_⟩
  ·have:=ok.ch e he;show(v.ch f.aN).Ok/\(v.ch f.aN).aM=f.aM/\(v.ch f.aN).s.dG=v.dJ.dG/\(v.ch f.aN).dl<=B;rw[hp,hc];exact this
  ·exact ok.ch f hf
 ·rcases mem f hf with rfl|⟨hf,_⟩
  ·show VL G (v.JI f.aN);rw[hp];exact ok.JI e he
  ·exact ok.JI f hf
 ·rcases mem f hf with rfl|⟨hf,_⟩
  ·rw[hc];exact⟨(ok.VT e he).1,hl⟩
  ·exact ok.VT f hf
 ·rcases ok.lost k hk with⟨f,hf,rfl⟩|hg
  ·by_cases hpf:f.aN=e.aN
   ·have:=ok.t.inj hf he hpf;subst this;exact .inl ⟨e',(tL ok.t.sY h hp).2 (.inl rfl),ha⟩
   ·exact .inl ⟨f,(tL ok.t.sY h hp).2 (.inr ⟨hf,hpf⟩),rfl⟩
  ·exact .inr hg
def iJ.lH(h:iJ ee a v w S)(ok:v.Ok G B){i:Nat}{e:dF}(hi:v.t.bI[i]? =some e){Q:aH->Prop}(hQ:∀w' S',iJ ee a (v.LI i {e with lH:=v.dQ}) w' S'->Up S S' w w'->Q w'):aJ prog dA ((⟨e.a,0,none⟩:Addr).add 4) (aD v.dQ) w Q:=by
 have cD:=(eR.1 hi).1;have mU:=ok.t.sY
 let e':dF:={e with lH:=v.dQ}
 have oktt:=Pe (e':=e') ok.t hi rfl;have ef:∀x,tI (v.t.bI.set i e') x=tI v.t.bI x:=λx=>by
  refine Jg (f:=tI v.t.bI) (Tx (e':=e') mU hi rfl) (λx p=>?_) x;rw[XW mU]
  constructor
  ·rintro⟨f,hf,hx,hp⟩
   by_cases hfe:f.aN=e.aN
   ·have:=ok.t.inj hf (kR hi) hfe;subst this;exact⟨e',(tL (e':=e') mU hi rfl).2 (.inl rfl),hx,hp⟩
   ·exact⟨f,(tL (e':=e') mU hi rfl).2 (.inr ⟨hf,hfe⟩),hx,hp⟩
  ·rintro⟨f,hf,hx,hp⟩;rcases(tL (e':=e') mU hi rfl).1 hf with rfl|⟨hf,_⟩
   ·exact⟨e,kR hi,hx,hp⟩
   ·exact⟨f,hf,hx,hp⟩
 have efun:tI (v.t.bI.set i e')=tI v.t.bI:=funext ef;have f0:=(bL.l h).c λT hT=>gS.at hT .Fx;have f1:js w S (DV v.tp v.t) _:=f0.c λT hT=>bL.l hT;obtain⟨S1,⟨m1,m2,ng,hT⟩,wZ,eJ⟩:=f1.put;obtain⟨S2,hL,LU,HP⟩:=(((bL.r hT).c λT hT=>bL.r hT).c λT hT=>(bL.r hT).c λT hT=>xA.at hT hi).put;refine qP hL cV dP rfl rfl λw' b' u'=>?_;obtain⟨S3,h3,u3⟩:=HP (JZ e') w' S2 u' b';have hT3:DV v.tp (v.LI i e').t w' S3:=by refine⟨m1,m2,ng,h3.mono (λ_ h=>h) λ_ h=>h.mono (λ_ h=>?_) λ_ h=>h.mono (λ_ h=>h) λ_ h=>Bw.set cD h⟩;show vL m1 FQ rK (tI (v.t.bI.set i e')) (v.t.bI.set i e').length _ _;rw[efun,oE];exact h
 obtain⟨S4,h4,u4⟩:=eJ _ w' S3 u3 hT3;refine hQ w' S4 (h4.mono (λ_ h=>?_) λ_ h=>?_) u4
 ·have efam:FN (RC ee a v) .Fx (bL (DV v.tp (v.LI i e').t) (xA Grv v.gv))=RC ee a (v.LI i e'):=by
   funext j
   cases j with
   |ch q=>
    show(match v.t.at q with|some e=>mJ e.cp (v.ch q)|none=>EH)=(match (v.LI i e').t.at q with|some e=>mJ e.cp (v.ch q)|none=>EH)
    rw[show(v.LI i e').t.at q=if q=e.aN then some e' else v.t.at q from Yw (e':=e') ok.t hi rfl oktt q]
    by_cases hq:q=e.aN
    ·rw[if_pos hq,hq,tD.UI ok.t (kR hi)]
    ·rw[if_neg hq]
   |_=>rfl
  unfold lN;rw[<-efam];exact h
 ·have es:AP ee (v.LI i e')=AP ee v:=by
   funext q
   show(match (v.LI i e').t.at q with|some e=>vK ee e.sp (v.JI q)|none=>EH)=(match v.t.at q with|some e=>vK ee e.sp (v.JI q)|none=>EH)
   rw[show(v.LI i e').t.at q=if q=e.aN then some e' else v.t.at q from Yw (e':=e') ok.t hi rfl oktt q]
   by_cases hq:q=e.aN
   ·rw[if_pos hq,hq,tD.UI ok.t (kR hi)]
   ·rw[if_neg hq]
  unfold DW;rw[es];exact h
def iJ.xk(h:iJ ee a v w S){e:dF}{p:Nat}(he:v.t.at p=some e):∃S1,mJ e.cp (v.ch p) w S1/\(∀k,S1 k->S k)/\∀c D w' T,Up S1 T w w'->bL (mJ e.cp c) D w' T->∃S',bL (iJ ee a (v.oY p c)) D w' S'/\Up S S' w w':=by
 obtain⟨S1,h1,hs,eJ⟩:=(bL.l h).c λT hT=>lN.chan hT he;refine⟨S1,h1,hs,λc D w' T u hT=>?_⟩;obtain⟨S',h',u'⟩:=eJ _ D w' T u hT;exact⟨S',h'.mono (λS h=>h.mono (λ_ h=>by unfold lN;rw[<-fam_ch he];exact h) λ_ h=>h) λ_ h=>h,u'⟩
end
end
section
abbrev BL(r:Sl):BS:=λk=>∃a,r.b=some a/\k=a.block
def EntR(v:iT)(p:Nat)(g:fK)(v':iT)(ps:List Pk)(hs:List rC):=∃e∈v.t.bI,e.aN=p/\e.aM=g.aM/\∃oO Rr c1,zE (v.ch p) g oO Rr c1/\(oO=[]->v'=v.oY p c1/\F2 (wg p) Rr ps/\hs=[])
def yi(g:fK)(e:Int):=e=0/\g.kind≠3/\1<=g.aM/\g.aM<=2147483648
def Ia(G:Gr)(v:iT)(p:Int)(bs:List cH)(v':iT)(ps:List Pk)(hs:List rC):=
 (¬(0<=p/\p<16)/\v'=v/\ps=[]/\hs=[])\/∃g e,GDec bs g e/\((¬yi g e/\v'=v/\ps=[]/\hs=[])\/(yi g e/\((∀f∈v.t.bI,¬(f.aN=p.toNat/\f.aM=g.aM))/\BegR G v p.toNat g v' ps hs\/EntR v p.toNat g v' ps hs)))
structure Bu(v v':iT)(p:Int):Prop where
 dJ:v'.dJ=v.dJ
 u:v'.u=v.u
 dQ:v'.dQ=v.dQ
 bI:∀f∈v'.t.bI,(∃f0∈v.t.bI,f0.aN=f.aN)\/(f.aN:Int)=p
def Bu.refl(v:iT)(p:Int):Bu v v p:=⟨rfl,rfl,rfl,λf hf=>.inl ⟨f,hf,rfl⟩⟩
structure RcvO(G:Gr)(B:Int)(ee a:Nat)(v:iT)(p:Int)(bs:List cH)(w:aH)(S:BS)(r rh:Sl)(ps:List Pk)(hs:List rC)(v':iT)(w':aH)(S':BS):Prop where
 Fy:iJ ee a v' w' S'
 up:Up S S' w w'
 row:xL w.heap.size S' w' r ps
 BX:Hh w.heap.size S' w' rh hs
 ok:v'.Ok G (B+16)
 len:ps.length<=v.dJ.dG+1
 pks:∀q∈ps,q.2.length<=3000
 Gp:Bu v v' p
 rel:Ia G v p bs v' ps hs
 hl:hs.length<=20
def BegR.Eu{G:Gr}{B:Int}{v v':iT}{p:Nat}{g:fK}{ps:List Pk}{hs:List rC}(hw:v.dJ.dG<=16)(h:BegR G v p g v' ps hs)(ok:v'.Ok G B):ps.length<=v.dJ.dG+1/\(∀q∈ps,q.2.length<=3000)/\Bu v v' p/\hs.length<=20:=by
 obtain⟨m,e,_,⟨_,rfl,rfl,q,code,rfl,hq⟩|⟨_,en,z,oO,Rr,c1,TK,Ga,h1,h2,h3,h4,h5,h6,h7,h8,h9,ZI,Rq,rfl,rfl⟩⟩:=h
 ·exact⟨by simp,λx hx=>by rw[mR.1 hx];exact hq.2.1,Bu.refl _ _,by simp⟩
 ·have hm:en∈((v.pR en (vJ v.dJ.dG g.aM) z.1).oY p c1).t.bI:=pD.2 (.inl rfl);have hc:=zD.Eu hm h9 ok;have QL:(v'.ch en.aN).s.n<=v.dJ.dG:=hc.2;have rf:=yA (PA hw) h6;have e1:((v.pR en (vJ v.dJ.dG g.aM) z.1).oY p c1).ch en.aN=c1:=by
   show(if en.aN=p then c1 else _)=c1
   rw[if_pos h1]
  have jf:=hc.1;rw[e1] at jf;have hl:=h7.len;have sm:=h9.same;refine⟨by rw[fN];omega,λq hq=>?_,⟨sm.dJ,sm.u,sm.dQ,λf hf=>?_⟩,by simp⟩
  ·rcases kK.1 hq with hq|hq
   ·obtain⟨_,_,hp⟩:=h7.mem hq;exact hp.2.1
   ·exact(zD.pks hm h9 q hq).1
  ·rw[sm.t] at hf;rcases pD.1 hf with rfl|⟨hf,_⟩
   ·exact .inr (by rw[h1])
   ·exact .inl ⟨f,hf,rfl⟩
section
variable{W0 w:aH}{S:BS}{a:Nat}{v:iT}{E:qB}{G:Gr}{B:Int}
def VRecv_i{p:Int}{b:Sl}{bs:List cH}{Q:Sl->Sl->aH->Prop}(h:iJ E.e a v w S)(hb:Bs W0 E G S w)(ok:v.Ok G B)(hB:0<=B/\B<=100000000000000)(hr:Rd w b 1 eU bs)(hro:JM b S w)(hl:bs.length<=5000)
  (hQ:∀r rh ps hs v' w' S',RcvO G B E.e a v p bs w S r rh ps hs v' w' S'->Q r rh w'):PT (some ⟨a,0,none⟩) p b w Q:=by
 unfold PT;have bd:=bJ.iF h;have okB:v.Ok G (B+16):=⟨ok.dJ,ok.dQ,ok.u,ok.t,ok.fF,λe he=>by have:=ok.ch e he;exact⟨this.1,this.2.1,this.2.2.1,aB⟩,ok.JI,ok.VT,ok.lost⟩;have no:∀wx,aL w wx->Ia G v p bs v [] []->Q bD bD wx:=λwx k DT=>hQ _ _ [] [] v wx S ⟨bJ.kp h k,Up.aO k,fO.nil,fO.nil,okB,cY _,λq hq=>(by cases hq),Bu.refl v p,DT,cY _⟩;refine aF (λh=>by simp at h) (λ_=>aI (λh0=>no w (aU.refl _ _) (.inl ⟨λhh=>aB,rfl,rfl,rfl⟩)) (λh0=>aI (λh1=>no w (aU.refl _ _) (.inl ⟨λhh=>aB,rfl,rfl,rfl⟩)) (λh1=>?_)));obtain⟨pn,rfl⟩:∃pn:Nat,p=(pn:Int):=⟨p.toNat,aB⟩;have hp16:pn<16:=aB;refine ql hr hl λg sl e w1 k1 rd1 f1 Es=>?_;refine fM (zs:=eG (⟨0,0,0,0,0,[]⟩,bD)) (vs:=eG (g,sl)) sF rfl (Mm _) λw3 o3 k3 z3=>?_;have K3:=k1.tr k3;have VW:¬yi g e->Q bD bD w3:=λhn=>no w3 K3 (.inr ⟨g,e,Es,.inl ⟨hn,rfl,rfl,rfl⟩⟩);refine aF (λhe=>VW λhh=>by have:=hh.1;simp[this] at he) (λhe=>?_);have he0:e=0:=by simpa using he
 refine aE (k:=.i) g.kind (dR o3 rfl) (aF (λhk=>VW λhh=>hh.2.1 (by simpa using hk)) (λhk=>?_));have uz:g.kind≠3:=by simpa using hk
 refine aE (k:=.i) g.aM (dR o3 rfl) (aI (λhc=>VW λhh=>by have:=hh.2.2.1;omega) (λjf=>?_));refine aE (k:=.i) g.aM (dR o3 rfl) (aI (λhc=>VW λhh=>by have:=hh.2.2.2;omega) (λQL=>?_));have Yk:yi g e:=⟨he0,uz,aB,aB⟩;have K3d:=K3.tr (cB w3);have h3:=bJ.kp h K3d;have Mg:=o3.aK (cB w3) id;refine aA rfl (aE (k:=.ptr) (some ⟨v.tp,0,none⟩) (h3.cell rfl) (aE (k:=.i) g.aM (dR Mg rfl) ?_));obtain⟨ST,hT,_⟩:=h3.Fx;have lgb:g.body.length<=5000:=jB Es.len hl;have rdg:Rd w3.drew sl 1 eU g.body:=(rd1.1.aK k3 fV λ_ _=>id).aK (cB w3) fV λ_ _=>id;have z1:=k1.size;have ji:∀b,sl.b=some b->w.heap.size<=b.block/\b.block<w3.drew.heap.size:=λb bW=>⟨f1 b bW,by have:=rd1.2.2.1 b bW;have:w3.drew.heap.size=w3.heap.size:=rfl;omega⟩;have og:JM sl S w3.drew:=λb bW=>⟨λhs=>by have:=bd _ hs;have:=(ji b bW).1;omega,(ji b bW).2⟩;have tg:bQ w3.drew ⟨w1.heap.size,0,none⟩ 0 (rJ kG (JT (g,sl))):=Mg.holds λj v hj=>by rw[gK];exact hj
 refine TGet_i hT ok.t (λen ko Rm hce=>?_) (λqU=>?_)
 ·refine aF (λh=>by simp at h) (λ_=>?_);subst Rm;have Kb:=K3d.tr (cB w3.drew);obtain⟨wb,hwb⟩:∃wb,wb=w3.drew.drew:=⟨_,rfl⟩;have kb:aL w3.drew wb:=by rw[hwb];exact cB w3.drew
  rw[<-hwb] at Kb ⊢;have hd:=bJ.kp h Kb;have Gi:=tD.UI ok.t ko;have ob:=Mg.aK kb id;have oS:=ok.ch en ko;have HM:=oS.1.s.TP;have QS:=ok.dJ.dG;have zb:=kb.size;refine aA rfl (aE (k:=.ptr) (some ⟨en.cp,0,none⟩) (hd.Mu ko rfl) (aA rfl (aE (k:=.i) v.dQ (hd.cell rfl) (aZ (l:=kG) (JT (g,sl)) (ob.holds λj v hj=>by rw[gK];exact hj) ?_))));obtain⟨S6,h6,Of,HO⟩:=hd.xk Gi;have We:(v.ch en.aN).s.next<=B+16:=by have h1:=oS.2.2.2;have h2:=oS.2.2.1;have h3:(v.ch en.aN).s.next-((v.ch en.aN).s.n:Int)<=B:=h1;omega
  refine Uu h6 oS.1 aB (rdg.aK kb fV λ_ _=>id) (λb bW=>⟨λhk=>(og b bW).1 (Of _ hk),by have:=(og b bW).2;omega⟩) lgb Es.seq λZP oO rg Rr c1 w6 S7 h7 u7 ZN Mn=>?_;obtain⟨S8,h8,u8⟩:=HO _ _ w6 S7 u7 h7;obtain⟨SA,SR,hA,⟨SB,SG,hBs,hGs,dBG,eBG⟩,dAR,eAR⟩:=h8;have rowD:Hi (λk=>¬SA k) w6 ZP oO:=hBs.row λk hk hs=>dAR k hs ((eBG k).2 (.inl hk));have rowG:Xs (λk=>¬SA k) w6 rg Rr:=hGs.row λk hk hs=>dAR k hs ((eBG k).2 (.inr hk));have UA:Up S SA wb w6:=u8.tr (Up.sub w6 λk hk=>(eAR k).2 (.inl hk));have rf:=yA oS.1 ZN;have okv1:(v.oY en.aN c1).Ok G (B+16):=Yy ok ko ⟨Mn,rf.2.1.trans oS.2.1,rf.1.trans oS.2.2.1,aB⟩ aB;have l64:Rr.length<=17:=by have h2:=Mn.s.TP;omega
  have dX:∀(r rh:Sl) ps hs v' w' S',iJ E.e a v' w' S'->Up S S' wb w'->xL w6.heap.size S' w' r ps->Hh w6.heap.size S' w' rh hs->v'.Ok G (B+16)->ps.length<=v.dJ.dG+1->(∀q∈ps,q.2.length<=3000)->Bu v v' (en.aN:Int)->(oO=[]->v'=v.oY en.aN c1/\F2 (wg en.aN) Rr ps/\hs=[])->hs.length<=20->Q r rh w':=λr rh ps hs v' w' S' g1 g2 g3 g4 g5 g6 g7 g8 g9 g10=>by
   have zz:w.heap.size<=w6.heap.size:=by have:=UA.size;have:=Kb.size;omega
   exact hQ r rh ps hs v' w' S' ⟨g1,(Up.aO Kb).tr g2,g3.qT zz,g4.qT zz,g5,g6,g7,g8,.inr ⟨g,e,Es,.inr ⟨Yk,.inr ⟨en,ko,rfl,hce,oO,Rr,c1,ZN,λh0=>g9 h0⟩⟩⟩,g10⟩
  refine IC rowG aB (λx hx=>by have:=rf.2.2.2.2.1 x hx;omega) λr1 TK w7 k7 v7 f7=>?_;have fl7:=f7.len;have lbs:=rf.2.2.2.2.2.2;have hpk1:∀q∈TK,q.2.length<=3000:=λq hq=>by obtain⟨_,_,hp⟩:=f7.mem hq;exact hp.2.1
  intro J1 OV;have j1:∀v2 w8 S8,iJ E.e a v2 w8 S8->Up S S8 wb w8->xL w6.heap.size S8 w8 r1 TK->v2.Ok G (B+16)->Hi (λk=>¬S8 k/\k<w6.heap.size) w8 ZP oO->(∃Rs∈v2.t.bI,Rs.a=en.a/\Rs.aN=en.aN/\Rs.sp=en.sp)->v2.dJ=v.dJ->v2.u=v.u->v2.dQ=v.dQ->(∀f∈v2.t.bI,∃f0∈v.t.bI,f0.aN=f.aN)->v2.ch en.aN=c1->(oO=[]->v2=v.oY en.aN c1)->w6.heap.size<=w8.heap.size->J1 () w8:=by
   intro v2 w8 S8 h8 u8 r8 ok8 d8 hen2 e1 e2 e3 e4 e5 e6 zz8;obtain⟨Rs,hen2,ha2,Dk,hsp2⟩:=hen2;have eadr:LW en=LW Rs:=by rw[show LW Rs=some ⟨Rs.a,0,none⟩ from rfl,ha2]
   apply OV;have ld:=d8.len;refine bK (λn t w9=>∃(i:Nat) (r rh:Sl) (ps:List Pk) (hs:List rC) (v5:iT) (S5:BS),i<=oO.length/\n=oO.length-i/\t=(r,rh,(i:Int),())/\iJ E.e a v5 w9 S5/\Up S S5 wb w9/\xL w6.heap.size (λk=>S5 k\/BL rh k) w9 r ps/\Hh w6.heap.size (λk=>S5 k\/BL r k) w9 rh hs/\v5.Ok G (B+16)/\vX v2 v5/\ps.length<=(v5.ch en.aN).s.n+1/\hs.length<=i/\(∀q∈ps,q.2.length<=3000)/\Hi (λk=>¬S5 k/\k<w6.heap.size) w9 ZP oO/\(i=0->v5=v2/\ps=TK/\hs=[])/\w6.heap.size<=w9.heap.size) oO.length
    ⟨0,r1,bD,TK,[],v2,S8,cY _,rfl,rfl,h8,u8,r8.cov λk hk=>hk.elim .inl λ⟨a,ha,_⟩=>(by cases ha),fO.nil,ok8,vX.refl v2,by rw[e5];omega,dN _,hpk1,d8,λ_=>⟨rfl,rfl,rfl⟩,zz8⟩ ?_
   rintro n t w9 ⟨i,r,rh,ps,hs,v5,S5,hi,rfl,rfl,h5,u5,r5,q5,ur,st5,hn5,hl5,Wz,d5,hz5,zz5⟩ X hX;dsimp only;have hm5:Rs∈v5.t.bI:=by rw[st5.t];exact hen2
   have hw5:(v5.ch en.aN).s.n<=v.dJ.dG:=by have h1:=ur.ch Rs hm5;rw[Dk] at h1;have h2:=h1.1.s.TP;rw[h1.2.2.1,st5.dJ,e1] at h2;exact h2
   have Xz:Bu v v5 (en.aN:Int):=⟨st5.dJ.trans e1,st5.u.trans e2,st5.dQ.trans e3,λf hf=>.inl (e4 f (by rw[<-st5.t];exact hf))⟩;have Oj:=bJ.iF h5;refine aI (λcD=>?_) (λkF=>?_)
   ·have dL:i<oO.length:=aB;have cI:=cL dL;have gG:=oF dL;generalize oO[i]=body at*;obtain⟨q,slb,hq,hh,Wa,ZB⟩:=d5.get cI;rw[dU,pI i aB];have cq:w9.cell? (q.add (i*1))=some (aW slb):=by have:=hh.1;rwa[add_add,Nat.add_zero] at this
    refine⟨⟨aB,cD⟩,aA hq (aE (k:=.slice) slb cq ?_)⟩;refine qj Wa (lbs _ gG) λm ij em fG JE rd10 f10 hmd=>?_;refine fM (zs:=uA (⟨0,0,0,[],0,WV⟩,bD)) (vs:=uA (m,ij)) DC rfl (RK _) λeO Em GQ z12=>?_;have wh:=JE.tr GQ;have Gj:=bJ.kp h5 wh;have z10:=JE.size;have z12':=GQ.size;have skip:X (r,rh,((i+1:Nat):Int),()) eO:=hX _ _ _ aB ⟨i+1,r,rh,ps,hs,v5,S5,dL,rfl,rfl,Gj,u5.tr (Up.aO wh),r5.kp wh,q5.kp wh,ur,st5,hn5,aB,Wz,d5.kp LM wh,λh0=>aB,aB⟩;intro J2 Rp;have j2:J2 () eO:=by
     apply Rp;have o1:cX eO w1.heap.size HG (eG (g,sl)):=(ob.aK u5.m λhs=>by have:=bd _ hs;omega).aK wh id;refine aE (k:=.i) g.aM (dR o1 rfl) (aZ (l:=iu) (GZ (m,ij)) (Em.holds λj v hj=>by rw[gK];exact hj) ?_);have rlt:∀b,r.b=some b->b.block<w9.heap.size:=λb bW=>r5.lt bW;have rhlt:∀b,rh.b=some b->b.block<w9.heap.size:=λb bW=>q5.lt bW;have bSr:∀k,S5 k\/BL r k->k<eO.heap.size:=λk hk=>hk.elim (λh=>by have:=Oj k h;omega) λ⟨b,bW,e⟩=>by have:=rlt b bW;omega
     refine fO.xh OF Yf oneHd aB (q5.kp wh) aB aB bSr ⟨en.aN,g.aM,true,m⟩ (sl:=ij) (rd10.1.aK GQ cU λ_ _=>id) (λb bW=>⟨by have:=f10 b bW;omega,λhs=>?_,by have:=rd10.2.2.1 b bW;omega,λb' WH e=>?_⟩) λrh' gB q15 Gd nb15=>?_
     ·have:=f10 b bW;rcases hs with hs|⟨b',WH,e⟩
      ·have:=Oj _ hs;omega
      ·have:=rlt b' WH;omega
     ·have:=f10 b bW;have:=rhlt b' WH;omega
     have z15:=Gd.size;have nS:∀k,S5 k->¬BL rh k:=λk hk ⟨b,bW,e⟩=>((q5.AJ k ⟨b,bW,e⟩).2) (.inl hk);have h15:iJ E.e a v5 gB S5:=bJ.aK Gj Gd nS;have m15':=Gd.mono (G:=λk=>wb.heap.size<=k/\¬S5 k) λk _ hk=>⟨by have:=(q5.AJ k hk).1;have:=UA.size;omega,λhs=>nS k hs hk⟩;have u15:Up S S5 wb gB:=Up.iA (u5.tr (Up.aO wh)) m15';have r15:xL w6.heap.size (λk=>S5 k\/BL rh' k) gB r ps:=(r5.kp wh).aK Gd (λk _ hk _ h=>hk (.inr h)) λk hk cD hs=>by
      rcases hs with hs|⟨b,bW,e⟩
      ·exact hk (.inl hs)
      ·rcases nb15 b bW with⟨a',mY,e2⟩|h
       ·exact hk (.inr ⟨a',mY,by rw[e,e2]⟩)
       ·omega
     have d15:Hi (λk=>¬S5 k/\k<w6.heap.size) gB ZP oO:=(d5.kp LM wh).aK LM Gd λk hk _ h=>by have:=(q5.AJ k h).1;omega
     have o15:=Em.aK Gd λ⟨b,bW,e⟩=>by have:=rhlt b bW;omega
     have hl15:(hs++[(⟨en.aN,g.aM,true,m⟩:rC)]).length<=i+1:=by simp;omega
     refine aE (k:=.i) m.kind (dR o15 rfl) (aF (λhbye=>?_) (λ_=>?_))
     ·refine aA rfl (aE (k:=.ptr) (some ⟨v5.tp,0,none⟩) (h15.cell rfl) ?_);refine cM (cs:=eI (en.aN:Int)) λjU b16 Oe z16=>?_;have bd15:=bJ.iF h15;refine VDrop_i (bJ.kp h15 Oe) ur (lU eY [(en.aN:Int)] b16 rfl dP) (λb bW=>by cases bW;exact⟨λhs=>by have h1:gB.heap.size<gB.heap.size:=bd15 _ hs;omega,b16.1.lt⟩) λ_ mG S17 h17 u17 ok17 _=>?_;have U17:=(Up.aO (S:=S5) Oe).tr u17;refine dX r rh' ps _ _ mG S17 h17 (u15.tr U17) ((r15.sub λk hk=>.inl hk).up U17) ((q15.sub λk hk=>.inl hk).up U17) ok17 aB Wz ⟨Xz.dJ,Xz.u,Xz.dQ,λf hf=>Xz.bI f (jR.1 hf).1⟩ (λh0=>by rw[h0] at dL;simp at dL) aB
     ·have h15d:=bJ.dr h15;have o15d:=o15.aK (cB gB) id;have csp:=h15d.Mu hm5 (k:=3) rfl;have cel:gB.drew.cell? ((⟨en.a,0,none⟩:Addr).add 3)=some (.pointer (some ⟨Rs.sp,0,none⟩)):=by rw[<-ha2];exact csp
      refine aA rfl (aE (k:=.ptr) (some ⟨Rs.sp,0,none⟩) cel (aE (k:=.i) m.pos (dR o15d rfl) (aA rfl (aE (k:=.ptr) (some ⟨v5.sp,0,none⟩) (h15d.cell rfl) ?_))));obtain⟨SU,hU,_⟩:=h15d.sset;refine Uq hU ur.u.2 λmk qE v18 iw f18=>?_;have K18:=(cB gB).tr iw;have h18:=bJ.kp h15 K18;have o18:=o15.aK K18 id;have cel18:qE.cell? ((⟨en.a,0,none⟩:Addr).add 3)=some (.pointer (some ⟨Rs.sp,0,none⟩)):=by rw[<-ha2];exact h18.Mu hm5 (k:=3) rfl
      refine⟨dR o18 rfl,cel18,?_⟩;have U18:Up S S5 wb qE:=u15.tr (Up.aO K18);have hb18:Bs W0 E G S5 qE:=(hb.kp Kb).up U18;obtain⟨S9,h9,hs9,say9⟩:=h18.sesSay hb18 ur hm5;have bd15:=bJ.iF h15;have z18:=K18.size;have wd:gB.drew.heap.size=gB.heap.size:=rfl;refine SRep_i (hb18.sub hs9) h9 (ur.JI Rs hm5) (v18.rd Gw) (λb bW hs=>by have:=bd15 _ (hs9 _ hs);have:=f18 b bW;omega) λz ms qS T hz hT uT okz Ww kj=>?_;rw[eadr];refine say9 z qS T ms uT hT okz Ww aB _ λrs pps v6 CG S20 hsd h20 u20 r20 ok20=>?_;have UU:Up S5 S20 gB CG:=(Up.aO K18).tr u20;have r20':=r15.aK (S':=λk=>S20 k\/BL rh' k) UU.m (λk _ hk _ h=>hk (.inl h)) λk hk cD hs=>hs.elim (λhs=>(UU.s k hs).elim (λh=>hk (.inl h)) λh=>aB) λhs=>hk (.inr hs);have rhlt':∀b,rh'.b=some b->b.block<gB.heap.size:=λb bW=>q15.lt bW;have rs20:xL qE.heap.size (λk=>S20 k\/BL rh' k) CG rs pps:=r20.cov λk hk=>hk.imp id λ⟨b,bW,e⟩=>by have:=rhlt' b bW;omega
      have hm5':Rs∈(v5.vZ Rs.aN z.1).t.bI:=hm5;have hcnt:=zD.Eu hm5' hsd ok20;have e7:((v5.vZ Rs.aN z.1).ch Rs.aN)=v5.ch en.aN:=by show v5.ch Rs.aN=_;rw[Dk]
      rw[e7,Dk] at hcnt;have ew:(v5.vZ en.aN z.1).dJ.dG=v.dJ.dG:=by show v5.dJ.dG=_;rw[st5.dJ,e1]
      have hcw:=hcnt.2;rw[ew] at hcw;have z20:=UU.size;have bd20:=bJ.iF h20;have r5lt:∀b,r.b=some b->b.block<gB.heap.size:=λb bW=>r15.lt bW;have lsum:ps.length+pps.length<=1000000:=by have:=hcnt.1;omega
      refine fO.na nP WS WO aB r20' rs20 aB (λb bW=>by have:=r5lt b bW;omega) lsum aB (λk hk=>hk.elim (bd20 k) λ⟨b,bW,e⟩=>by have:=rhlt' b bW;omega) λr' DR v21 m21 nb21=>?_;have nR:∀k,S20 k->¬BL r k:=λk hk h=>(r20'.AJ k h).2 (.inl hk);have h21:iJ E.e a v6 DR S20:=bJ.aK h20 m21 nR;have m21':=m21.mono (G:=λk=>wb.heap.size<=k/\¬S20 k) λk _ hk=>⟨by have:=(r20'.AJ k hk).1;have:=UA.size;omega,λhs=>nR k hs hk⟩;have u21:Up S S20 wb DR:=Up.iA (u15.tr UU) m21';have q20:Hh w6.heap.size (λk=>S20 k\/BL r k) CG rh' (hs++[⟨en.aN,g.aM,true,m⟩]):=q15.aK (S':=λk=>S20 k\/BL r k) UU.m (λk _ hk _ h=>hk (.inl h)) λk hk cD hs=>hs.elim (λhs=>(UU.s k hs).elim (λh=>hk (.inl h)) λh=>aB) λhs=>hk (.inr hs);have q21:Hh w6.heap.size (λk=>S20 k\/BL r' k) DR rh' (hs++[⟨en.aN,g.aM,true,m⟩]):=q20.aK m21 (λk _ hk _ h=>hk (.inr h)) λk hk cD hs=>by
       rcases hs with hs|⟨b,bW,e⟩
       ·exact hk (.inl hs)
       ·rcases nb21 b bW with⟨a',mY,e2⟩|h
        ·exact hk (.inr ⟨a',mY,by rw[e,e2]⟩)
        ·omega
      have d21:Hi (λk=>¬S20 k/\k<w6.heap.size) DR ZP oO:=((d15.aK LM UU.m λk hk _=>hk.1).wk λk hk _=>⟨λhs=>(UU.s k hs).elim hk.1 λh=>by have:=hk.2;omega,hk.2⟩).aK LM m21 λk hk _ h=>by have:=(r20'.AJ k h).1;have:=hk.2;omega
      have z21:=m21.size;refine hX _ _ _ aB ⟨i+1,r',rh',ps++pps,_,v6,S20,dL,rfl,rfl,h21,u21,v21,q21,ok20,st5.tr ((⟨rfl,rfl,rfl,rfl,rfl,rfl,rfl,rfl⟩:vX v5 (v5.vZ Rs.aN z.1)).tr hsd.same),by rw[fN];have:=hcnt.1;omega,hl15,λx hx=>?_,d21,λh0=>aB,aB⟩;rcases kK.1 hx with hx|hx
      ·exact Wz x hx
      ·exact(zD.pks hm5' hsd x hx).1
    refine aF (λ_=>skip) (λ_=>aE (k:=.i) m.kind (dR Em rfl) (aF (λ_=>aE (k:=.i) m.kind (dR Em rfl) (aF (λ_=>skip) (λ_=>j2))) (λ_=>j2)))
   ·have ei:i=oO.length:=aB;subst ei;refine dX r rh ps hs v5 w9 S5 h5 u5 (r5.sub λk hk=>.inl hk) (q5.sub λk hk=>.inl hk) ur aB Wz Xz (λh0=>?_) aB;obtain⟨x1,x2,x3⟩:=hz5 (by rw[h0];rfl);exact⟨x1.trans (e6 h0),by rw[x2];exact f7,x3⟩
  have z7:=k7.size;have hA7:=bJ.kp hA k7;have bA:=bJ.iF hA;have v7':xL w6.heap.size SA w7 r1 TK:=v7.sub λk hk=>bA k hk;have d7:Hi (λk=>¬SA k/\k<w6.heap.size) w7 ZP oO:=(rowD.wk λk h1 h2=>⟨h1,h2⟩).kp LM k7;have ech:(v.oY en.aN c1).ch en.aN=c1:=if_pos rfl;have U7:=UA.tr (Up.aO k7);have ldg:=rowD.len;refine aI (λuJ=>?_) (λhz=>?_)
  ·refine aA rfl (aE (k:=.i) v.dQ (hA7.cell rfl) (aA rfl ?_));obtain⟨ix,hix⟩:=List.getElem?_of_mem ko;refine hA7.lH okv1 (i:=ix) (e:=en) hix λvP S22 h22 u22=>?_;have Ha:=ok.VT en ko;have MM:=ok.dQ;refine j1 ((v.oY en.aN c1).LI ix {en with lH:=v.dQ}) vP S22 h22 (U7.tr u22) (v7'.up u22) (touch_ok okv1 (e:=en) hix rfl rfl rfl ⟨MM.1,lR _⟩) ((d7.aK LM u22.m λk hk _=>hk.1).wk λk hk _=>⟨λhs=>(u22.s k hs).elim hk.1 λh=>by have:=hk.2;omega,hk.2⟩) ⟨{en with lH:=v.dQ},(tL (e':={en with lH:=v.dQ}) ok.t.sY hix rfl).2 (.inl rfl),rfl,rfl,rfl⟩ rfl rfl rfl (λf hf=>?_) ech (λh0=>?_) (by have:=u22.size;omega)
   ·rcases(tL (e':={en with lH:=v.dQ}) ok.t.sY hix rfl).1 hf with rfl|⟨hf,_⟩
    ·exact⟨en,ko,rfl⟩
    ·exact⟨f,hf,rfl⟩
   ·rw[h0] at ldg;simp at ldg;omega
  ·exact j1 (v.oY en.aN c1) w7 SA hA7 U7 v7' okv1 d7 ⟨en,ko,rfl,rfl,rfl⟩ rfl rfl rfl (λf hf=>⟨f,hf,rfl⟩) ech (λ_=>rfl) z7
 ·refine aF (λ_=>aZ (l:=kG) (JT (g,sl)) tg ?_) (λh=>by cases h);refine begin_i h3 (hb.kp K3d) okB aB hp16 rdg og lgb Es.seq ⟨aB,aB⟩ λr rh ps hs v' w5 S5 g1 g2 g3 g4 g5 g6=>?_;have cn:=g6.Eu ok.dJ.dG.2 g5;exact hQ r rh ps hs v' w5 S5 ⟨g1,(Up.aO K3d).tr g2,g3.qT K3d.size,g4.qT K3d.size,g5,cn.1,cn.2.1,cn.2.2.1,.inr ⟨g,e,Es,.inr ⟨Yk,.inl ⟨by rw[dU];exact qU,by rw[dU];exact g6⟩⟩⟩,cn.2.2.2⟩
end
end
section
structure Quiet(c:lE):Prop where
 iA:c.s.iA=false
 JF:∀x,¬c.s.JF x
 iG:c.iG=[]
structure ChQ(c c':lE):Prop where
 dG:c'.s.dG=c.s.dG
 next:c'.s.next=c.s.next
 f:c'.s.f=c.s.f
 n:c'.s.n=c.s.n
 aM:c'.aM=c.aM
 t:c'.t=c.t
 q:Quiet c'
def qf(v:iT):=(∀e∈v.t.bI,Quiet (v.ch e.aN))/\∀k,(v.lf k).getD (false:Bool)=false
def expd(v:iT)(e:dF):Bool:=decide (e.lH+v.dJ.idle<=v.dQ+1)
structure TickO(G:Gr)(B:Int)(ee a:Nat)(v:iT)(w:aH)(S:BS)(r:Sl)(ps:List Pk)(v':iT)(w':aH)(S':BS):Prop where
 Fy:iJ ee a v' w' S'
 up:Up S S' w w'
 row:xL w.heap.size S' w' r ps
 ok:v'.Ok G B
 dJ:v'.dJ=v.dJ
 dQ:v'.dQ=v.dQ+1
 u:v'.u=FV (v.dQ+1) v.u (gE 0 v.u)
 bI:∀f∈v'.t.bI,f∈v.t.bI
 len:ps.length<=v.dJ.sT*(2*v.dJ.dG+1)
 pks:∀q∈ps,q.2.length<=3000
 q:qf v->(ZM (v.dQ+1) (gE 0 v.u)=[]\/v.t.bI=[])->v'.t.bI=v.t.bI.filter (λe=>!expd v e)/\v'.t.gr=v.t.gr/\F2 (λe p=>wg (e.aN:Int) ⟨e.aM,3,0,0,3,[]⟩ p) (v.t.bI.filter λe=>expd v e) ps/\(∀e∈v.t.bI,ChQ (v.ch e.aN) (v'.ch e.aN))/\v'.JI=v.JI/\∀k,(v'.lf k).getD (false:Bool)=false
def iT.UG(v:iT)(n:Int):iT:={v with dQ:=n}
section
variable{W0 w:aH}{S:BS}{a:Nat}{v:iT}{E:qB}{G:Gr}{B:Int}{ee:Nat}
def iJ.tick(h:iJ ee a v w S)(n:Int){Q:aH->Prop}(hQ:∀w' S',iJ ee a (v.UG n) w' S'->Up S S' w w'->Q w'):aJ prog dA ((⟨a,0,none⟩:Addr).add 9) (aD n) w Q:=by
 obtain⟨S1,h1,_,eJ⟩:=((bL.l h).c λT hT=>gS.at hT .Fy).put;refine qP h1 cV dP rfl rfl λw' b' u'=>?_;obtain⟨S2,h2,u2⟩:=eJ (tE a yI (WI ee (v.UG n))) w' S1 u' b';refine hQ w' S2 (h2.mono (λ_ h=>?_) λ_ h=>h) u2;have e:FN (RC ee a v) .Fy (tE a yI (WI ee (v.UG n)))=RC ee a (v.UG n):=by
  funext i
  cases i<;>rfl
 unfold lN;rw[<-e];exact h
def iJ.clear(h:iJ ee a v w S){Q:aH->Prop}(hQ:∀w' S',iJ ee a {v with lf:=λ_=>none,ln:=0} w' S'->Up S S' w w'->Q w'):KD prog 98 (.map (some v.lp)) w Q:=by
 obtain⟨S1,h1,_,eJ⟩:=((bL.l h).c λT hT=>gS.at hT .lost).put;refine clear_map nq h1.1 λw' Wy mm' _=>?_;obtain⟨S2,h2,u2⟩:=eJ (vL v.lp AA Lw (λ_=>none) 0) w' S1 (Up.at (mm'.mono λk _ hk=>(h1.2 k).2 hk)) ⟨Wy,h1.2⟩;refine hQ w' S2 (h2.mono (λ_ h=>?_) λ_ h=>h) u2;have e:FN (RC ee a v) .lost (vL v.lp AA Lw (λ_=>none) 0)=RC ee a {v with lf:=λ_=>none,ln:=0}:=by
  funext i
  cases i<;>rfl
 unfold lN;rw[<-e];exact h
end
end
def JN(c:vU)(m sp tp lp:Nat):iT:=⟨c,sp,tp,lp,0,List.replicate m 0,⟨c.sT,[],λ_=>none⟩,[],λ_=>none,0,λ_=>vJ 0 0,λ_=>Xd 0 0⟩
def srv0_ok{G:Gr}{c:vU}(okG:sM G)(VJ:c.Ok){B:Int}(sp tp lp:Nat):(JN c G.m sp tp lp).Ok G B:=
 ⟨VJ,by show(0:Int)<=0/\(0:Int)<=1000000000;omega,by
  show(List.replicate G.m (0:Int)).length=G.E.length/\(List.replicate G.m (0:Int)).length<=512;have:=okG.m1;rw[List.length_replicate];exact⟨rfl,aB⟩,⟨VJ.sT,cY _,List.Pairwise.nil,λe he=>by cases he⟩,rfl,λe he=>(by cases he),λe he=>(by cases he),λe he=>(by cases he),λk hk=>(by cases hk)⟩
def qo{ee a sp tp lp m:Nat}{c:vU}{w:aH}{S1 S2:BS}(h1:vS sp (List.replicate m 0) w S1)(h2:DV tp ⟨c.sT,[],λ_=>none⟩ w S2)(h3:vL lp AA Lw (λ_=>none) 0 w (λk=>k=lp))(h4:tE a yI (WI ee (JN c m sp tp lp)) w (λk=>k=a))(d12:∀k,S1 k->S2 k->False)(d1:¬S1 lp/\¬S1 a)(d2:¬S2 lp/\¬S2 a)(d3:lp≠a):iJ ee a (JN c m sp tp lp) w (λk=>((S1 k\/S2 k)\/k=lp)\/k=a):=by
 have p0:=gS.nil (ι:=SI) w;have p1:=gS.put p0 (i:=.set) (by rfl) h1 λk h _=>h;have hG:WK (JN c m sp tp lp) w S2:=bL.emp h2;have p2:=gS.put p1 (i:=.Fx) (by rfl) hG λk h h'=>h.elim id λh=>d12 k h h';have p3:=gS.put p2 (i:=.lost) (by rfl) h3 λk h (h':k=lp)=>h.elim (λh=>h.elim id λh=>d1.1 (h'▸h)) λh=>d2.1 (h'▸h);have p4:=gS.put p3 (i:=.Fy) (by rfl) h4 λk h (h':k=a)=>h.elim (λh=>h.elim (λh=>h.elim id λh=>d1.2 (h'▸h)) λh=>d2.2 (h'▸h)) λ(h:k=lp)=>d3 (h.symm.trans h');have e:FN (FN (FN (FN (λ_:SI=>EH) .set (vS sp (List.replicate m 0))) .Fx (WK (JN c m sp tp lp))) .lost (vL lp AA Lw (λ_=>none) 0)) .Fy (tE a yI (WI ee (JN c m sp tp lp)))=RC ee a (JN c m sp tp lp):=by
  funext i
  cases i<;>rfl
 rw[e] at p4;have es:DW ee (JN c m sp tp lp) w (λ_=>False):=gS.nil (ι:=Nat) w;exact⟨_,_,As.ext p4 (T:=λk=>((S1 k\/S2 k)\/k=lp)\/k=a) λk=>⟨λh=>h.elim (λh=>h.elim (λh=>h.elim (λh=>h.elim False.elim λh=>.inl (.inl (.inl h))) λh=>.inl (.inl (.inr h))) λh=>.inl (.inr h)) .inr,λh=>h.elim (λh=>h.elim (λh=>h.elim (λh=>.inl (.inl (.inl (.inr h)))) λh=>.inl (.inl (.inr h))) λh=>.inl (.inr h)) .inr⟩,es,λk _ h=>h,λk=>⟨.inl,λh=>h.elim id False.elim⟩⟩
def VNew_i{g:GT}{G:Gr}{c:vU}{w:aH}{Q:cW->Int->aH->Prop}(hg:JY w g G)(ok:sM G)(VJ:c.Ok)
  (hQ:∀E a sp tp lp W0 w' S',iJ E.e a (JN c G.m sp tp lp) w' S'->Bs W0 E G S' w'->aL w W0->aL w w'->(∀k,S' k->w.heap.size<=k)->Q (some ⟨a,0,none⟩) 0 w'):AY g (xI c) w Q:=by
 unfold AY;refine bG λw1 o1 k1 z1=>?_;refine cM (cs:=JU c) λw2 b2 k2 z2=>?_;refine aZ (l:=[.slice,.slice,.slice]) g (qV (g:=g) (o1.aK k2 id)) ?_;refine ENew_i (g:=g) (hg.aO (k1.tr k2)) ok λE w3 hE k3=>?_;refine aF (λh=>by cases h) (λ_=>?_);have b3:=bJ.kp b2 k3;have tc:∀{wx:aH},tE w1.heap.size yJ (JU c) wx (λk=>k=w1.heap.size)->bQ wx ⟨w1.heap.size,0,none⟩ 0 (rJ JR (xI c)):=λb=>b.1.holds λj v hj=>by rw[gK];exact hj
 refine aZ (l:=JR) (xI c) (tc b3) (Ut VJ λw4 k4=>aF (λh=>by cases h) (λ_=>?_));have b4:=bJ.kp b3 k4;refine aE (k:=.i) (c.sT:Int) (aP b4 rfl) ?_;refine TNew_i' VJ.sT λtp w5 ST hT k5 hTlo=>?_;have K5:=k4.tr (k5.tr (cB w5));have hE5:=hE.aO K5;have b5:=bJ.kp b4 (k5.tr (cB w5));have hT5:=bJ.dr hT;have bT:=bJ.iF hT5;have hm:=ok.m1;have z3:=k3.size;have z4:=k4.size;have z5:=k5.size;have wd:w5.drew.heap.size=w5.heap.size:=rfl;have dX:∀wy sp lp SU,aL w5.drew wy->vS sp (List.replicate G.m 0) wy SU->vL lp AA Lw (λ_=>none) 0 wy (λk=>k=lp)->(∀k,SU k->w5.heap.size<=k)->¬SU lp->w5.heap.size<=lp->aG wy (WI E.e (JN c G.m sp tp lp)).toArray yI λa w9=>Q (some a) 0 w9:=by
  intro wy sp lp SU ky hS hM hSlo hn hlp;have bS:=bJ.iF hS;have bM:=bJ.iF hM lp rfl;refine cM λw9 b9 k9 z9=>?_;have zy:=ky.size;have rI:=qo (ee:=E.e) (c:=c) (bJ.kp hS k9) (bJ.kp hT5 (ky.tr k9)) (bJ.kp hM k9) b9 (λk h1 h2=>by have:=hSlo k h1;have:=bT k h2;omega) ⟨hn,λh=>by have:=bS _ h;omega⟩ ⟨λh=>by have:=bT _ h;omega,λh=>by have:=bT _ h;omega⟩ aB;have lo3:∀k,(((SU k\/ST k)\/k=lp)\/k=wy.heap.size)->w3.heap.size<=k:=λk hk=>by
   rcases hk with((hk|hk)|hk)|hk
   ·have:=hSlo k hk;omega
   ·have:=hTlo k hk;omega
   ·omega
   ·omega
  exact hQ E _ sp tp lp w3 w9 _ rI ⟨hE,(K5.tr ky).tr k9,lo3⟩ ((k1.tr k2).tr k3) ((((k1.tr k2).tr k3).tr (K5.tr ky)).tr k9) λk hk=>by have:=lo3 k hk;have:=k1.size;have:=k2.size;omega
 refine aZ (l:=JR) (xI c) (tc b5) (aA rfl (aE (k:=.ptr) (some ⟨E.t.t,0,none⟩) hE5.cells.1 (aA rfl (aE (k:=.ptr) (some ⟨E.t.H.g,0,none⟩) hE5.TJ.cells.1 ⟨uB hE5.TJ.JG ⟨tc b5,?_,?_⟩,?_⟩))))
 ·refine Uo aB λsp w7 SU hU k7 mu=>⟨tc (bJ.kp b5 k7),?_⟩;refine rN (ek:=AA) (kn:=Lw) λhm8 k8=>?_;have bU:=bJ.iF hU;have z7:=k7.size;refine⟨tc (bJ.kp b5 (k7.tr k8)),dX _ sp w7.heap.size SU (k7.tr k8) (bJ.kp hU k8) ⟨hm8,λ_=>Iff.rfl⟩ (λk hk=>by have:=mu k hk;omega) (λh=>by have:=bU _ h;omega) aB⟩
 ·refine rN (ek:=AA) (kn:=Lw) λhm8 k8=>⟨tc (bJ.kp b5 k8),?_⟩;have zm:(w5.drew.alloc (.map #[] 0)).heap.size=w5.drew.heap.size+1:=by simp
  refine Uo aB λsp w7 SU hU k7 mu=>⟨tc (bJ.kp b5 (k8.tr k7)),?_⟩;exact dX _ sp w5.drew.heap.size SU (k8.tr k7) hU ⟨hm8.aK k7 id,λ_=>Iff.rfl⟩ (λk hk=>by have:=mu k hk;omega) (λh=>by have:=mu _ h;omega) aB
 ·refine rN (ek:=AA) (kn:=Lw) λhm8 k8=>?_;have zm:(w5.drew.alloc (.map #[] 0)).heap.size=w5.drew.heap.size+1:=by simp
  have hE8:=hE5.aO k8;refine⟨hE8.TJ.cells.1,hE8.cells.1,tc (bJ.kp b5 k8),uB hE8.TJ.JG ⟨tc (bJ.kp b5 k8),?_⟩⟩;refine Uo aB λsp w7 SU hU k7 mu=>⟨tc (bJ.kp b5 (k8.tr k7)),?_⟩;exact dX _ sp w5.drew.heap.size SU (k8.tr k7) hU ⟨hm8.aK k7 id,λ_=>Iff.rfl⟩ (λk hk=>by have:=mu k hk;omega) (λh=>by have:=mu _ h;omega) aB
structure AO where
 dJ:vU
 ch:Option (Nat×lE)
 aM:Int
 oW:Bool
 why:Int
 at':Int
 jZ:cR
 dI:Bool
abbrev Dw(v:AO)(JC:Sl):gJ:=[aD (v.dJ.sT:Int),aD (v.dJ.dG:Int),aD v.dJ.MR,aD v.dJ.oI,aD v.dJ.cap,aD v.dJ.idle,.pointer (v.ch.map λp=>⟨p.1,0,none⟩),aD v.aM,.bool v.oW,aD v.why,aD v.at',aW JC,.bool v.dI]
def chO:Option (Nat×lE)->As
 |none=>EH
 |some p=>mJ p.1 p.2
instance chO.loc:∀{o:Option (Nat×lE)},bJ (chO o)
 |none=>inferInstanceAs (bJ EH)
 |some p=>inferInstanceAs (bJ (mJ p.1 p.2))
def UB(d:Nat)(JC:Sl)(v:AO):As:=bL (tE d Tw (Dw v JC)) (bL (chO v.ch) (EG 1 eI JC v.jZ))
instance{d:Nat}{JC:Sl}{v:AO}:bJ (UB d JC v):=by unfold UB;infer_instance
def AS(d:Nat)(v:AO):As:=Ex λJC:Sl=>UB d JC v
instance{d:Nat}{v:AO}:bJ (AS d v):=by unfold AS;infer_instance
structure AO.Ok(B:Int)(v:AO):Prop where
 dJ:v.dJ.Ok
 aM:0<=v.aM/\v.aM<=B
 jZ:v.jZ.length<=70000
 oW:v.oW=true->v.ch≠none
 ch:∀p,v.ch=some p->p.2.Ok/\p.2.s.dG=v.dJ.dG/\p.2.dl<=B/\(v.oW=true->p.2.aM=v.aM)
def QU(c:vU):AO:=⟨c,none,0,false,0,-1,[],false⟩
def drv0_ok{c:vU}(ok:c.Ok):(QU c).Ok 0:=⟨ok,by show(0:Int)<=0/\(0:Int)<=0;omega,cY _,λh=>(by cases h),λp h=>by cases h⟩
def AO.Ok.mono{B B':Int}{v:AO}(h:v.Ok B)(hB:B<=B'):v.Ok B':=⟨h.dJ,by have:=h.aM;omega,h.jZ,h.oW,λp hp=>by have:=h.ch p hp;exact⟨this.1,this.2.1,aB,this.2.2.2⟩⟩
def Ua{α:Type}{n:Nat}{aY:α->gJ}(gQ:∀x,aY x≠[]){w:aH}:EG n aY bD ([]:List α) w (λ_=>False):=⟨Rd.nil _ _ _,gQ,λb hb=>(by cases hb),λk=>⟨False.elim,λ⟨b,hb,_⟩=>by cases hb⟩⟩
def DNew_i{c:vU}{w:aH}{Q:cW->Int->aH->Prop}(ok:c.Ok)(hQ:∀w',AS (w'.heap.size-1) (QU c) w' (λk=>k=w'.heap.size-1)->w.heap.size<w'.heap.size->aL w w'->w.heap.size<=w'.heap.size-1->Q (some ⟨w'.heap.size-1,0,none⟩) 0 w'):BJ (xI c) w Q:=by
 unfold BJ;refine cM (cs:=JU c) λw1 b1 k1 z1=>?_;refine aZ (l:=JR) (xI c) (b1.1.holds λj v hj=>by rw[gK];exact hj) (Ut ok λw2 k2=>aF (λh=>by cases h) (λ_=>?_));have b2:=bJ.kp b1 k2;refine aZ (l:=JR) (xI c) (b2.1.holds λj v hj=>by rw[gK];exact hj) ?_;refine cM (cs:=Dw (QU c) bD) λw3 b3 k3 z3=>?_;have z2:=k2.size;have e:w3.heap.size-1=w2.heap.size:=aB;have:=hQ w3;rw[e] at this;exact this ⟨bD,_,_,b3,⟨_,_,(show chO none w3 (λ_=>False) fromλ_=>id),Ua cU,λ_ h _=>h,λ_=>Iff.rfl⟩,λ_ _ h=>h.elim id id,λk=>⟨.inl,λh=>h.elim id λh=>h.elim False.elim False.elim⟩⟩ aB ((k1.tr k2).tr k3) aB
section
def pw{d:Nat}{v:AO}{JC:Sl}{w:aH}{SC SR:BS}(h1:tE d Tw (Dw v JC) w (λk=>k=d))(h2:chO v.ch w SC)(h3:EG 1 eI JC v.jZ w SR)(d1:¬SC d)(d2:¬SR d)(d3:∀k,SC k->SR k->False):UB d JC v w (λk=>k=d\/(SC k\/SR k)):=
 bL.yH h1 (bL.yH h2 h3 d3) λk (e:k=d) h=>h.elim (λh=>d1 (e▸h)) λh=>d2 (e▸h)
def UB.parts{d:Nat}{v:AO}{JC:Sl}{w:aH}{S:BS}(h:UB d JC v w S):∃SC SR,tE d Tw (Dw v JC) w (λk=>k=d)/\chO v.ch w SC/\EG 1 eI JC v.jZ w SR/\¬SC d/\¬SR d/\(∀k,SC k->SR k->False)/\∀k,S k↔k=d\/SC k\/SR k:=by
 obtain⟨S1,S2,h1,⟨SC,SR,h2,h3,d3,e3⟩,dd,e⟩:=h;have hd:S1 d:=(h1.2 d).2 rfl;exact⟨SC,SR,⟨h1.1,λ_=>Iff.rfl⟩,h2,h3,λh=>dd d hd ((e3 d).2 (.inl h)),λh=>dd d hd ((e3 d).2 (.inr h)),d3,λk=>by rw[e k,h1.2 k,e3 k]⟩
section
variable{d:Nat}{v:AO}{JC:Sl}{w:aH}{S:BS}{B:Int}
def UB.cell(h:UB d JC v w S){k:Nat}{x:Value}(hk:(Dw v JC)[k]? =some x):w.cell? ((⟨d,0,none⟩:Addr).add k)=some x:=by
 obtain⟨S1,S2,h1,_⟩:=h;exact aP h1 hk
def UB.set{t:fL}{o:Nat}{x:Value}{v':AO}{K:aH->Prop}(h:UB d JC v w S)(hi:(prog.info? t).map (·.size)=some 1)(ho:o<13)(hx:x.cells=#[x])(h1:x.oneCell'=true)(he:(Dw v JC).set o x=Dw v' JC)(vq:v'.ch=v.ch)(hw:v'.jZ=v.jZ)(hK:∀w',UB d JC v' w' S->Up S S w w'->K w'):aJ prog t ((⟨d,0,none⟩:Addr).add o) x w K:=by
 obtain⟨SC,SR,hB,hC,hR,d1,d2,d3,e⟩:=h.parts;refine qP hB hi (by simpa using ho) hx h1 λw' b' u'=>?_;rw[he] at b';have hm:∀k,SC k\/SR k->¬k=d:=λk hk e=>hk.elim (λh=>d1 (e▸h)) λh=>d2 (e▸h);have hC':chO v'.ch w' SC:=by rw[vq];exact bJ.aK hC u'.m λk hk=>hm k (.inl hk)
 have hR':EG 1 eI JC v'.jZ w' SR:=by rw[hw];exact bJ.aK hR u'.m λk hk=>hm k (.inr hk)
 exact hK w' (As.ext (pw b' hC' hR' d1 d2 d3) λk=>(e k).symm) (Up.at (u'.m.mono λk _ hk=>(e k).2 (.inl hk)))
def UB.setWay{way':cR}{VH:Sl}{SR':BS}{K:aH->Prop}(h:UB d JC v w S)(hr:EG 1 eI VH way' w SR')(hR':∀k,SR' k->¬S k\/BL JC k)(hK:∀w' S',UB d VH {v with jZ:=way'} w' S'->aU (λk=>k=d) w w'->(∀k,S' k->S k\/SR' k)->K w'):aJ prog yW ((⟨d,0,none⟩:Addr).add 11) (aW VH) w K:=by
 obtain⟨SC,SR,hB,hC,hR,d1,d2,d3,e⟩:=h.parts;have key:∀k,SR' k->¬k=d/\¬SC k:=λk hk=>by
  rcases hR' k hk with h|h
  ·exact⟨λh'=>h ((e k).2 (.inl h')),λh'=>h ((e k).2 (.inr (.inl h')))⟩
  ·have hs:SR k:=(hR.2.2.2 k).2 h;exact⟨λh'=>d2 (h'▸hs),λh'=>d3 k h' hs⟩
 refine qP hB pE dP rfl rfl λw' b' u'=>?_;have hC':chO v.ch w' SC:=bJ.aK hC u'.m λk hk e=>d1 (e▸hk);have Wb:EG 1 eI VH way' w' SR':=bJ.aK hr u'.m λk hk=>(key k hk).1;exact hK w' _ (pw (v:={v with jZ:=way'}) b' hC' Wb d1 (λh=>(key d h).1 rfl) λk h1 h2=>(key k h2).2 h1) u'.m λk hk=>by
  rcases hk with hk|hk|hk
  ·exact .inl ((e k).2 (.inl hk))
  ·exact .inl ((e k).2 (.inr (.inl hk)))
  ·exact .inr hk
def aAm{Q:Bool->aH->Prop}(h:AS d v w S)(hQ:Q v.oW w):sH (some ⟨d,0,none⟩) w Q:=by
 unfold sH;obtain⟨JC,h⟩:=h;exact aF (λ_=>aA rfl (aE (k:=.bool) v.oW (h.cell rfl) hQ)) (λh=>by simp at h)
def DConn_i{Q:Int->aH->Prop}(h:AS d v w S)(hQ:Q v.aM w):QD (some ⟨d,0,none⟩) w Q:=by
 unfold QD;obtain⟨JC,h⟩:=h;exact aF (λh=>by simp at h) (λ_=>aA rfl (aE (k:=.i) v.aM (h.cell rfl) hQ))
def Qg{n:Int}{Q:Bool->aH->Prop}(hQ:Q (decide (0<=n/\n<=65535)) w):nC n w Q:=by
 unfold nC;refine aI (λh=>?_) (λh=>?_)
 ·have:decide (0<=n/\n<=65535)=decide (n<=65535):=by
   by_cases h2:n<=65535
   ·rw[decide_eq_true h2,decide_eq_true ⟨aB,h2⟩]
   ·rw[decide_eq_false h2,decide_eq_false λh=>h2 h.2]
  rw[this] at hQ;exact hQ
 ·rw[decide_eq_false λh'=>h h'.1] at hQ;exact hQ
def AS.chan(h:AS d v w S){p:Nat}{c:lE}(hc:v.ch=some (p,c)):∃S1,mJ p c w S1/\(∀k,S1 k->S k)/\w.cell? ((⟨d,0,none⟩:Addr).add 6)=some (.pointer (some ⟨p,0,none⟩))/\∀c' D w' T,Up S1 T w w'->bL (mJ p c') D w' T->∃S',bL (AS d {v with ch:=some (p,c')}) D w' S'/\Up S S' w w':=by
 obtain⟨JC,h⟩:=h;have c6:=h.cell (k:=6) rfl;rw[hc] at c6;have f:=(bL.r h).c λT hT=>bL.l hT;rw[hc] at f;obtain⟨S1,h1,hs,eJ⟩:=f;refine⟨S1,h1,hs,c6,λc' D w' T u hT=>?_⟩;obtain⟨S',h',u'⟩:=eJ _ D w' T u hT;refine⟨S',h'.mono (λ_ h=>⟨JC,h.mono (λ_ h=>?_) λ_ h=>h⟩) λ_ h=>h,u'⟩;have e:Dw {v with ch:=some (p,c')} JC=Dw v JC:=by unfold Dw;rw[hc];rfl
 rw[e];exact h
def dpush_i{p:Nat}{c:lE}{dQ:Int}{m:gT}{Q:Sl->Int->aH->Prop}(h:AS d v w S)(hc:v.ch=some (p,c))(VJ:c.Ok)(hm:m.cF=[])
  (hQ:∀r ds b w' S',AS d {v with ch:=some (p,(c.push b).2.1)} w' S'->Up S S' w w'->RowQ w.heap.size S' w' r ds->(c.push b).2.1.Ok->lh c (c.push b).2.1 (c.push b).1.length->BOk m b->F2 GOk (c.push b).1 ds->Q r (c.push b).2.2 w'):CC (some ⟨d,0,none⟩) dQ (GZ (m,bD)) w Q:=by
 unfold CC;refine cM (cs:=uA (m,bD)) λw1 b1 k1 z1=>?_;refine aZ (l:=iu) (GZ (m,bD)) (b1.1.holds λj v hj=>by rw[gK];exact hj) ?_;refine Enc_i (by rw[hm];exact Rd.nil _ _ _) (λb hb=>by cases hb) (by rw[hm];simp) λsb out eb w2 k2 Ls f2 l2 g2=>?_;have K2:=k1.tr k2;obtain⟨S1,h1,wZ,c6,eJ⟩:=(bJ.kp h K2).chan hc;rw[hm] at l2;have l60:out.length<=60:=by simpa using l2
 refine aA rfl (aE (k:=.ptr) (some ⟨p,0,none⟩) c6 (aAn h1 VJ Ls.1 aB λrg w3 S3 h3 u3 ok3=>?_));obtain⟨S4,h4,u4⟩:=eJ _ _ w3 S3 u3 h3;obtain⟨S5,h5,u5,g5⟩:=Ug h4;have pf:=Kd VJ (b:=out) aB;have l16:(c.push out).1.length<=1000:=by have h1:=pf.1.n;have h2:=ok3.s.TP;have Wk:=ok3.s.dG;omega
 refine Co g5 l16 (λg hg=>by have:=pf.2 g hg;omega) λr ds w6 k6 v6 f6=>?_;have U6:Up S S5 w w6:=(((Up.aO K2).tr u4).tr u5).tr (Up.aO k6);have Oj:=bJ.iF h5;have zz:=K2.size;have zu:=u4.size;exact hQ r ds out w6 S5 (bJ.kp h5 k6) U6 ((v6.sub λk hk=>Oj k hk).qT aB) ok3 pf.1 (λhw=>(g2 hw).1) f6
structure Xu(B:Int)(d:Nat)(v:AO)(w:aH)(S:BS)(r:Sl)(ds:List (List cH))(v':AO)(w':aH)(S':BS):Prop where
 drv:AS d v' w' S'
 up:Up S S' w w'
 row:RowQ w.heap.size S' w' r ds
 ok:v'.Ok (B+16)
 dJ:v'.dJ=v.dJ
 len:ds.length<=v.dJ.dG+1
 pks:∀x∈ds,x.length<=3000
def Xu.same(h:AS d v w S)(ok:v.Ok B){w':aH}(k:aL w w'):Xu B d v w S bD [] v w' S:=
 ⟨bJ.kp h k,Up.aO k,fO.nil,ok.mono aB,rfl,cY _,λx hx=>by cases hx⟩
def zi{gs:List fK}{ds:List (List cH)}(h:F2 GOk gs ds):∀x∈ds,x.length<=3000:=λx hx=>by obtain⟨_,_,hp⟩:=h.mem hx;exact hp.1
abbrev HK(a n:Int):gT:=⟨1,a,n,[],0,WV⟩
def Ab(v:AO)(a n:Int)(v':AO)(ds:List (List cH)):=
 if(0<=a/\a<=65535)/\0<=n/\n<=65535 then∃p b,BOk (HK a n) b/\v'=⟨v.dJ,some (p,((vJ v.dJ.dG (v.aM+1)).push b).2.1),v.aM+1,true,0,a,[],false⟩/\F2 GOk ((vJ v.dJ.dG (v.aM+1)).push b).1 ds else v'=v/\ds=[]
def drvCfg(h:UB d JC v w S):bQ w ((⟨d,0,none⟩:Addr).add 0) 0 (rJ JR (xI v.dJ)):=by
 refine jH.2 λk x hk=>?_;have:(Dw v JC)[k]? =some x:=by
  match k,hk with
  |0,hk=>exact hk
  |1,hk=>exact hk
  |2,hk=>exact hk
  |3,hk=>exact hk
  |4,hk=>exact hk
  |5,hk=>exact hk
  |k+6,hk=>simp[rJ] at hk
 have c:=h.cell this;rw[aS] at c ⊢;rw[aS,show 0+0+(0+k)=0+k by omega];exact c
def DStart_i{dQ at_ node:Int}{Q:Sl->Int->aH->Prop}(h:AS d v w S)(ok:v.Ok B)(hB:0<=B/\B<=2000000000)
  (hQ:∀r ds e v' w' S',Xu B d v w S r ds v' w' S'->Ab v at_ node v' ds->Q r e w'):KZ (some ⟨d,0,none⟩) dQ at_ node w Q:=by
 unfold KZ;have no:¬((0<=at_/\at_<=65535)/\0<=node/\node<=65535)->Q bD 1 w:=λhn=>hQ _ [] _ v w S (Xu.same h ok (aU.refl _ _)) (by unfold Ab;rw[if_neg hn];exact⟨rfl,rfl⟩);refine aF (λh=>by simp at h) (λ_=>Qg (aF (λhb=>no λhh=>by rw[decide_eq_true hh.1] at hb;cases hb) (λhb=>?_)));have ha:0<=at_/\at_<=65535:=by simpa using hb
 refine Qg (aF (λhb=>no λhh=>by rw[decide_eq_true hh.2] at hb;cases hb) (λhb=>?_));have hn:0<=node/\node<=65535:=by simpa using hb
 obtain⟨JC,h⟩:=h;have hd:=bJ.dr h;have hconn:=ok.aM;have QS:=ok.dJ.dG;refine aA rfl (aZ (l:=JR) (xI v.dJ) (drvCfg hd) (aA rfl (aE (k:=.i) v.aM (hd.cell rfl) ?_)));rw[iH aB aB];refine CNew_i ok.dJ ⟨aB,aB⟩ λcp w3 SH hH k3 Hb=>aF (λh=>by cases h) (λ_=>?_);have K3:=((cB w).tr k3).tr (cB w3);have h3:=bJ.kp h K3;refine aA rfl (aZ (l:=JR) (xI v.dJ) (drvCfg h3) (aA rfl (aE (k:=.i) v.aM (h3.cell rfl) (aA rfl ?_))));rw[iH aB aB];obtain⟨SC,SR,hB3,hC,hR,d1,d2,d3,e⟩:=h3.parts
 let v1:AO:=⟨v.dJ,some (cp,vJ v.dJ.dG (v.aM+1)),v.aM+1,true,0,at_,[],false⟩
 have bd:=bJ.iF h;have hdw:d<w.heap.size:=bd d ((e d).2 (.inl rfl));have wd:w.drew.heap.size=w.heap.size:=rfl;refine fJ (vs:=Dw v1 bD) hB3.1 bw rfl (by intro u hu;simp at hu;rcases hu with rfl|rfl|rfl|rfl|rfl|rfl|rfl|rfl|rfl|rfl|rfl|rfl|rfl<;>rfl) λw4 o4 m4 _=>?_;have hH4:mJ cp (vJ v.dJ.dG (v.aM+1)) w4 SH:=bJ.aK (bJ.dr hH) m4 λk hk e=>by have:=Hb k hk;omega
 have h4:AS d v1 w4 (λk=>k=d\/(SH k\/False)):=⟨bD,pw (v:=v1) ⟨o4,λ_=>Iff.rfl⟩ hH4 (Ua cU) (λh=>by have:=Hb d h;omega) id λ_ _ h=>h⟩;have U4:Up S (λk=>k=d\/(SH k\/False)) w w4:=⟨K3.wk.trans m4 λk _ hk=>(e k).2 (.inl hk),λk hk=>by
  rcases hk with hk|hk|hk
  ·exact .inl ((e k).2 (.inl hk))
  ·exact .inr (by have:=Hb k hk;omega)
  ·exact hk.elim⟩
 refine dpush_i (m:=HK at_ node) h4 rfl (PA QS.2) rfl λr ds b w5 S5 h5 u5 r5 ur cs5 hb5 f5=>?_;have hn5:=cs5.n;have hr5:=ur.s.TP;have hw5:=cs5.dG;have Wg:((vJ v.dJ.dG (v.aM+1)).push b).2.1.dl=0:=cs5.dl;have hc5:((vJ v.dJ.dG (v.aM+1)).push b).2.1.aM=v.aM+1:=cs5.aM;have hww:(vJ v.dJ.dG (v.aM+1)).s.dG=v.dJ.dG:=rfl;rw[hww] at hw5;refine hQ r ds _ _ w5 S5 ⟨h5,U4.tr u5,r5.qT U4.size,⟨ok.dJ,⟨by show 0<=v.aM+1;omega,by show v.aM+1<=B+16;omega⟩,cY _,λ_=>by simp,λq hq=>?_⟩,rfl,?_,zi f5⟩ ?_
 ·cases hq;exact⟨ur,hw5,by rw[Wg];omega,λ_=>hc5⟩
 ·rw[<-f5.len];omega
 ·unfold Ab;rw[if_pos ⟨ha,hn⟩];exact⟨cp,b,hb5,rfl,f5⟩
def Im(v v':AO)(ds:List (List cH)):=
 if v.oW=true then∃p c gs e c',v.ch=some (p,c)/\PassR c gs e c'/\if e=0 then v'={v with ch:=some (p,c')}/\F2 GOk gs ds else v'={v with ch:=some (p,c'),oW:=false,why:=0}/\ds=[] else v'=v/\ds=[]
end
end
section
abbrev ni:=fO (α:=gT) eI nG 9 uA gT.cF
def AO.Om(v:AO)(jZ:cR)(dI:Bool):AO:={v with jZ:=jZ,dI:=dI}
def UJ(MG:List (gT×Int)):List gT:=(MG.filter λx=>decide (x.2=0)).map (·.1)
def Pb(v:AO)(g:fK)(e:Int):=e=0/\v.oW=true/\g.aM=v.aM
def Tt(v:AO)(bs:List cH)(v':AO)(ds:List (List cH))(ms:List gT):=∃g e,GDec bs g e/\
  ((¬Pb v g e/\v'=v/\ds=[]/\ms=[])\/(Pb v g e/\g.kind=3/\v'={v with oW:=false,why:=g.code}/\ds=[]/\ms=[])\/
   (Pb v g e/\g.kind≠3/\∃p c oO gs c' MG jZ dI,v.ch=some (p,c)/\zE c g oO gs c'/\c'.Ok/\F2 GOk gs ds/\F2 (λb x=>MDec b x.1 x.2) oO MG/\ms=UJ MG/\v'=({v with ch:=some (p,c')}:AO).Om jZ dI))
section
variable{d:Nat}{v:AO}{w:aH}{S:BS}{B:Int}
def hears_i{m:gT}{sl:Sl}{Q:aH->Prop}(h:AS d v w S)(hr:Rd w sl 1 eI m.cF)(hl:m.cF.length<=70000)(hw:v.jZ.length<=70000)
  (hQ:∀w' S' jZ dI,AS d (v.Om jZ dI) w' S'->Up S S' w w'->jZ.length<=70000->Q w'):KY (some ⟨d,0,none⟩) (GZ (m,sl)) w Q:=by
 unfold KY;refine cM (cs:=uA (m,sl)) λw1 b1 k1 z1=>?_;have h1:=bJ.kp h k1;have bd:=bJ.iF h;refine aE (k:=.i) m.kind (aP b1 rfl) (aF (λ_=>?_) (λ_=>aF (λ_=>?_) (λ_=>hQ w1 S v.jZ v.dI h1 (Up.aO k1) hw)))
 ·refine aE (k:=.slice) sl (aP b1 rfl) (IA (hr.aK k1 cU λ_ _=>id) aB λs2 w2 v2 k2 f2=>aA rfl ?_);obtain⟨JC,h2⟩:=bJ.kp h1 k2;have BX:EG 1 eI s2 m.cF w2 (λk=>∃b,s2.b=some b/\k=b.block):=⟨v2.rd eY,cU,λb hb=>v2.lt hb,λ_=>Iff.rfl⟩;refine h2.setWay (way':=m.cF) BX (λk ⟨b,hb,e⟩=>.inl λhs=>by have:=bd _ hs;have:=f2 b hb;omega) λw3 S3 h3 m3 s3=>?_;obtain⟨_,_,_,_,_,_,_,_,e⟩:=h2.parts;have u3:Up S S3 w w3:=⟨((k1.tr k2).wk).trans m3 λk _ hk=>(e k).2 (.inl hk),λk hk=>(s3 k hk).imp id λ⟨b,hb,e⟩=>by have:=f2 b hb;omega⟩;refine aA rfl (h3.set (v':=v.Om m.cF true) jG (by decide) rfl rfl rfl rfl rfl λw4 h4 u4=>?_);exact hQ w4 S3 m.cF true ⟨s2,h4⟩ (u3.tr u4) hl
 ·obtain⟨JC,h2⟩:=h1;refine aA rfl (h2.setWay (VH:=bD) (way':=[]) (Ua cU) (λk hk=>hk.elim) λw3 S3 h3 m3 s3=>?_);obtain⟨_,_,_,_,_,_,_,_,e⟩:=h2.parts;have u3:Up S S3 w w3:=⟨(k1.wk).trans m3 λk _ hk=>(e k).2 (.inl hk),λk hk=>(s3 k hk).imp id False.elim⟩;refine aA rfl (h3.set (v':=v.Om [] false) jG (by decide) rfl rfl rfl rfl rfl λw4 h4 u4=>?_);exact hQ w4 S3 [] false ⟨_,h4⟩ (u3.tr u4) (cY _)
def uk{dQ:Int}{b:Sl}{bs:List cH}{Q:Sl->Sl->aH->Prop}(hr:Rd w b 1 eU bs)(hl:bs.length<=5000)(hQ:∀w',aL w w'->Q bD bD w'):CD none dQ b w Q:=by
 unfold CD;refine ql hr hl λg sl e w1 k1 rd1 f1 Es=>?_;refine fM (zs:=eG (⟨0,0,0,0,0,[]⟩,bD)) (vs:=eG (g,sl)) sF rfl (Mm _) λw3 o3 k3 z3=>?_;have K:=(k1.tr k3).tr (cB w3);refine aF (λ_=>hQ _ K) (λ_=>?_);unfold sH;exact aF (λh=>by cases h) (λ_=>aF (λ_=>hQ _ K) (λh=>by cases h))
def DRecv_i{dQ:Int}{b:Sl}{bs:List cH}{Q:Sl->Sl->aH->Prop}(h:AS d v w S)(ok:v.Ok B)(hB:0<=B/\B<=100000000000000)(hr:Rd w b 1 eU bs)(hro:JM b S w)(hl:bs.length<=5000)
  (hQ:∀r rm ds ms v' w' S',Xu B d v w S r ds v' w' S'->ni w.heap.size S' w' rm ms->Tt v bs v' ds ms->Q r rm w'):CD (some ⟨d,0,none⟩) dQ b w Q:=by
 unfold CD;have bd:=bJ.iF h;refine ql hr hl λg sl e w1 k1 rd1 f1 Es=>?_;refine fM (zs:=eG (⟨0,0,0,0,0,[]⟩,bD)) (vs:=eG (g,sl)) sF rfl (Mm _) λw3 o3 k3 z3=>?_;have K3:=(k1.tr k3).tr (cB w3);have h3:=bJ.kp h K3;have Mg:=o3.aK (cB w3) id;have VW:¬Pb v g e->Q bD bD w3.drew:=λhn=>hQ _ _ [] [] v _ S (Xu.same h ok K3) fO.nil ⟨g,e,Es,.inl ⟨hn,rfl,rfl,rfl⟩⟩;refine aF (λhe=>VW λhh=>by have:=hh.1;simp[this] at he) (λhe=>?_);have he0:e=0:=by simpa using he
 refine aAm h3 (aF (λhlv=>VW λhh=>by have:=hh.2.1;rw[this] at hlv;cases hlv) (λhlv=>?_));have hlive:v.oW=true:=by simpa using hlv
 obtain⟨JC,h3m⟩:=h3;refine aE (k:=.i) g.aM (dR Mg rfl) (aA rfl (aE (k:=.i) v.aM (h3m.cell rfl) (aF (λhc=>VW λhh=>by have:=hh.2.2;simp[this] at hc) (λhc=>?_))));have Gh:g.aM=v.aM:=by simpa using hc
 have Yk:Pb v g e:=⟨he0,hlive,Gh⟩;have hconn:=ok.aM;refine aE (k:=.i) g.kind (dR Mg rfl) (aF (λhk=>?_) (λhk=>?_))
 ·have uz:g.kind=3:=by simpa using hk
  have h4:=bJ.dr h3m;have o4:=Mg.aK (cB w3.drew) id;refine aE (k:=.i) g.code (dR o4 rfl) (aA rfl ?_);refine h4.set (v':={v with oW:=false}) jG (by decide) rfl rfl rfl rfl rfl λw5 h5 u5=>?_;have n1:¬S w1.heap.size:=λhs=>by have:=bd _ hs;have:=k1.size;omega
  refine⟨dR (o4.aK u5.m n1) rfl,aA rfl ?_⟩;refine h5.set (v':={v with oW:=false,why:=g.code}) cV (by decide) rfl rfl rfl rfl rfl λw6 h6 u6=>?_;refine hQ _ _ [] [] _ w6 S ⟨⟨JC,h6⟩,((Up.aO (K3.tr (cB w3.drew))).tr u5).tr u6,fO.nil,⟨ok.dJ,by show 0<=v.aM/\v.aM<=B+16;omega,ok.jZ,λh=>(by cases h),λp hp=>?_⟩,rfl,cY _,λx hx=>by cases hx⟩ fO.nil ⟨g,e,Es,.inr (.inl ⟨Yk,uz,rfl,rfl,rfl⟩)⟩;have:=ok.ch p hp;exact⟨this.1,this.2.1,aB,λh=>by cases h⟩
 ·have uz:g.kind≠3:=by simpa using hk
  cases vq:v.ch with
  |none=>exact absurd vq (ok.oW hlive)
  |some pc=>
   obtain⟨p,c⟩:=pc;have oS:c.Ok/\c.s.dG=v.dJ.dG/\c.s.next-(c.s.n:Int)<=B/\(v.oW=true->c.aM=v.aM):=ok.ch _ vq
   have HM:=oS.1.s.TP;have QS:=oS.1.s.dG;have lgb:g.body.length<=5000:=jB Es.len hl;have h4:AS d v w3.drew.drew S:=bJ.dr ⟨JC,h3m⟩;have K4:=K3.tr (cB w3.drew);have o4:=Mg.aK (cB w3.drew) id;obtain⟨S1,h1,wZ,c6,eJ⟩:=h4.chan vq;have wd:w3.drew.drew.heap.size=w3.heap.size:=rfl;have rdg:Rd w3.drew.drew sl 1 eU g.body:=((rd1.1.aK k3 fV λ_ _=>id).aK (cB w3) fV λ_ _=>id).aK (cB w3.drew) fV λ_ _=>id;refine aA rfl (aE (k:=.ptr) (some ⟨p,0,none⟩) c6 (aZ (l:=kG) (JT (g,sl)) (o4.holds λj v hj=>by rw[gK];exact hj) ?_));refine Uu h1 oS.1 aB rdg (λb bW=>⟨λhk=>by have:=bd _ (wZ _ hk);have:=f1 b bW;omega,by have:=rd1.2.2.1 b bW;omega⟩) lgb Es.seq λZP oO rg gs c' w7 S7 h7 u7 ZN VJ=>?_;obtain⟨S8,h8,u8⟩:=eJ _ _ w7 S7 u7 h7;obtain⟨SA,SR,hA,⟨SB,SG,hBs,hGs,dBG,eBG⟩,dAR,eAR⟩:=h8;have rf:=yA oS.1 ZN;have rowD:Hi (λk=>¬SA k/\k<w7.heap.size) w7 ZP oO:=(hBs.row (P:=λk=>¬SA k) λk hk hs=>dAR k hs ((eBG k).2 (.inl hk))).wk λk h1 h2=>⟨h1,h2⟩;have rowG:Xs (λk=>¬SA k/\k<w7.heap.size) w7 rg gs:=(hGs.row (P:=λk=>¬SA k) λk hk hs=>dAR k hs ((eBG k).2 (.inr hk))).wk λk h1 h2=>⟨h1,h2⟩;have UA:Up S SA w w7:=((Up.aO K4).tr u8).tr (Up.sub w7 λk hk=>(eAR k).2 (.inl hk));have e2w:c.s.dG=v.dJ.dG:=oS.2.1;have hnw:c'.s.n<=v.dJ.dG:=by have:=VJ.s.TP;rw[rf.1,e2w] at this;exact this
   have hlc:=oS.2.2.2 hlive;have ldb:=rowD.len;have lbs:=rf.2.2.2.2.2.2;have zA:=UA.size;refine bK (λn t w8=>∃(i:Nat) (rm:Sl) (ms:List gT) (MG:List (gT×Int)) (jZ:cR) (dI:Bool) (S5:BS),i<=oO.length/\n=oO.length-i/\t=(rm,(i:Int),())/\AS d (({v with ch:=some (p,c')}:AO).Om jZ dI) w8 S5/\Up S S5 w w8/\ni w7.heap.size S5 w8 rm ms/\jZ.length<=70000/\F2 (λb x=>MDec b x.1 x.2) (oO.take i) MG/\ms=UJ MG/\ms.length<=i/\Hi (λk=>¬S5 k/\k<w7.heap.size) w8 ZP oO/\Xs (λk=>¬S5 k/\k<w7.heap.size) w8 rg gs/\w7.heap.size<=w8.heap.size) oO.length
    ⟨0,bD,[],[],v.jZ,v.dI,SA,cY _,rfl,rfl,hA,UA,fO.nil,ok.jZ,.nil,rfl,dN _,rowD,rowG,dN _⟩ ?_
   rintro n t w8 ⟨i,rm,ms,MG,jZ,dI,S5,hi,rfl,rfl,h5,u5,r5,hw5,f5,Ww,jc,d5,g5,zz5⟩ X hX;dsimp only;have Oj:=bJ.iF h5;refine aI (λcD=>?_) (λkF=>?_)
   ·have dL:i<oO.length:=aB;have cI:=cL dL;have gG:=oF dL;have sZ:=oH dL;generalize oO[i]=body at*;obtain⟨q,slb,hq,hh,Wa,ZB⟩:=d5.get cI;rw[dU,pI i aB];have cq:w8.cell? (q.add (i*1))=some (aW slb):=by have:=hh.1;rwa[add_add,Nat.add_zero] at this
    refine⟨⟨aB,cD⟩,aA hq (aE (k:=.slice) slb cq ?_)⟩;refine qj Wa (lbs _ gG) λm ij em w9 k9 rd9 f9 hmd=>?_;refine fM (zs:=uA (⟨0,0,0,[],0,WV⟩,bD)) (vs:=uA (m,ij)) DC rfl (RK _) λeQ o11 LR z11=>?_;have K11:=k9.tr LR;have Rq:=bJ.kp h5 K11;have z9:=k9.size;have rd11:=rd9.1.aK LR cU λ_ _=>id;have hF:F2 (λb x=>MDec b x.1 x.2) (oO.take (i+1)) (MG++[(m,em)]):=by rw[sZ];exact f5.app (.one hmd)
    refine aF (λhe=>?_) (λhe=>?_)
    ·have hem:em=0:=by simpa using he
     refine aZ (l:=iu) (GZ (m,ij)) (o11.holds λj v hj=>by rw[gK];exact hj) ?_;refine hears_i Rq rd11 hmd.len hw5 λeO ZL way2 has2 Gj Fw hw12=>?_;have Em:=o11.aK Fw.m λhs=>by have:=Oj _ hs;omega
     refine aZ (l:=iu) (GZ (m,ij)) (Em.holds λj v hj=>by rw[gK];exact hj) ?_;have UU:Up S5 ZL w8 eO:=(Up.aO K11).tr Fw;have bd12:=bJ.iF Gj;have z12:=Fw.size;have slm1:∀b,ij.b=some b->w8.heap.size<=b.block/\b.block<w9.heap.size:=λb bW=>⟨f9 b bW,rd9.2.2.1 b bW⟩;have nS:∀b,ij.b=some b->¬ZL b.block:=λb bW hs=>by
      rcases Fw.s _ hs with h|h
      ·have:=Oj _ h;have:=(slm1 b bW).1;omega
      ·have:=(slm1 b bW).2;omega
     have n5:∀b,ij.b=some b->¬S5 b.block:=λb bW hs=>by have:=Oj _ hs;have:=(slm1 b bW).1;omega
     have rmlt:∀b,rm.b=some b->b.block<w8.heap.size:=λb bW=>r5.lt bW;refine fO.iB Al RM RK aB (r5.up UU) aB aB bd12 m (sl:=ij) (rd11.aK Fw.m cU λb bW=>n5 b bW) (λb bW=>⟨by have:=(slm1 b bW).1;omega,nS b bW,by have:=(slm1 b bW).2;omega,λb' WH e=>by have:=(slm1 b bW).1;have:=rmlt b' WH;omega⟩) λrm' mX v14 ZF=>?_;have U14:Up S ZL w mX:=Up.iA (u5.tr UU) (ZF.mono λk _ hk=>⟨by have:=hk.1;omega,hk.2⟩);refine hX _ _ _ aB ⟨i+1,rm',ms++[m],MG++[(m,em)],way2,has2,ZL,dL,rfl,rfl,bJ.ov Gj ZF,U14,v14,hw12,hF,?_,by simp;omega,((d5.aK LM UU.m λk hk _=>hk.1).wk λk hk _=>⟨λhs=>(UU.s k hs).elim hk.1 λh=>by have:=hk.2;omega,hk.2⟩).aK LM ZF λk hk _ h=>by have:=hk.2;have:=h.1;omega,((g5.aK Bq UU.m λk hk _=>hk.1).wk λk hk _=>⟨λhs=>(UU.s k hs).elim hk.1 λh=>by have:=hk.2;omega,hk.2⟩).aK Bq ZF λk hk _ h=>by have:=hk.2;have:=h.1;omega,by have:=ZF.size;omega⟩;rw[Ww];unfold UJ;rw[TV,xF,List.filter_cons_of_pos (by simp[hem])];rfl
    ·have hem:em≠0:=by simpa using he
     refine hX _ _ _ aB ⟨i+1,rm,ms,MG++[(m,em)],jZ,dI,S5,dL,rfl,rfl,Rq,u5.tr (Up.aO K11),r5.kp K11,hw5,hF,?_,aB,d5.kp LM K11,g5.kp Bq K11,aB⟩;rw[Ww];unfold UJ;rw[TV,xF,ly2 (by simp[hem])];simp
   ·have ei:i=oO.length:=aB;subst ei;rw[oV] at f5;refine Co g5 (by have:=rf.2.2.2.1;omega) (λx hx=>by have:=rf.2.2.2.2.1 x hx;omega) λr ds gB En v15 f15=>?_;refine hQ r rm ds ms _ gB S5 ⟨bJ.kp h5 En,u5.tr (Up.aO En),(v15.sub λk hk=>Oj k hk).qT aB,⟨ok.dJ,by show 0<=v.aM/\v.aM<=B+16;omega,hw5,λ_=>by show(some (p,c'):Option (Nat×lE))≠none;simp,λq hq=>?_⟩,rfl,by rw[<-f15.len];have:=rf.2.2.2.1;omega,zi f15⟩ ((r5.kp En).qT zA) ⟨g,e,Es,.inr (.inr ⟨Yk,uz,p,c,oO,gs,c',MG,jZ,dI,vq,ZN,VJ,f15,f5,Ww,rfl⟩)⟩;cases hq;exact⟨VJ,rf.1.trans e2w,by have h27:c'.dl<=c.s.next:=rf.2.2.1;show c'.dl<=B+16;omega,λ_=>rf.2.1.trans hlc⟩
end
end
section
structure xJ where
 d:Int
 up:Bool
 data:List cH
abbrev Dl(x:xJ×Sl):gJ:=[aD x.1.d,.bool x.1.up,aW x.2]
def WR:∀x:xJ×Sl,(Dl x).length=3:=λ_=>rfl
def Yc:∀x:xJ×Sl,∀u∈Dl x,u.oneCell'=true:=by intro x u hu;simp at hu;rcases hu with rfl|rfl|rfl<;>rfl
def eUn_ne(x:xJ×Sl):Dl x≠[]:=by simp
structure iS where
 v:iT
 ds:List (Nat×AO)
 iR:List xJ
 row:Sl
abbrev TQ(ds:List (Nat×AO)):List cW:=ds.map λp=>some ⟨p.1,0,none⟩
abbrev eW(a:Nat)(GU xD:Sl):gJ:=[.pointer (some ⟨a,0,none⟩),aW GU,aW xD]
def Xp(p:Nat×AO):As:=AS p.1 p.2
instance{p:Nat×AO}:bJ (Xp p):=by unfold Xp;infer_instance
def Xr(ee a wa:Nat)(GU xD:Sl)(xs:List (xJ×Sl))(v:iT)(ds:List (Nat×AO)):As:=
 bL (iJ ee a v) (bL (tE wa Tc (eW a GU xD)) (bL (pK NJ 1 Xa GU (TQ ds)) (bL (xA Xp ds) (pK NA 3 Dl xD xs))))
instance{ee a wa:Nat}{GU xD:Sl}{xs:List (xJ×Sl)}{v:iT}{ds:List (Nat×AO)}:bJ (Xr ee a wa GU xD xs v ds):=by unfold Xr;infer_instance
structure MQ(N:BS)(s:Sl)(S:BS)(w:aH):Prop where
 o:JM s S w
 n:∀b,s.b=some b->¬N b.block
def MQ.up{N:BS}{s:Sl}{S S':BS}{w w':aH}(h:MQ N s S w)(u:Up S S' w w'):MQ N s S' w':=⟨h.o.up u,h.n⟩
def MQ.rd{N:BS}{α:Type}{n:Nat}{aY:α->gJ}{xs:List α}{s:Sl}{S S':BS}{w w':aH}(h:MQ N s S w)(u:Up S S' w w')(hr:Rd w s n aY xs)(gQ:∀x,aY x≠[]):Rd w' s n aY xs:=h.o.rd u hr gQ
def MQ.kp{N:BS}{s:Sl}{S:BS}{w w':aH}(h:MQ N s S w)(k:aL w w'):MQ N s S w':=⟨h.o.kp k,h.n⟩
structure iN(N:BS)(ee a wa:Nat)(W:iS)(w:aH)(S:BS):Prop where
 ex:∃xD xs,xs.map (·.1)=W.iR/\Xr ee a wa W.row xD xs W.v W.ds w S/\∀x∈xs,Rd w x.2 1 eU x.1.data/\MQ N x.2 S w
def bL.unemp{A:As}{w:aH}{S:BS}(h:bL A EH w S):A w S:=bL.emp_l h.cm
def OX{N:BS}{xs:List (xJ×Sl)}{S S':BS}{w w':aH}(h:∀x∈xs,Rd w x.2 1 eU x.1.data/\MQ N x.2 S w)(u:Up S S' w w'):∀x∈xs,Rd w' x.2 1 eU x.1.data/\MQ N x.2 S' w':=λx hx=>⟨(h x hx).2.rd u (h x hx).1 fV,(h x hx).2.up u⟩
section
variable{N:BS}{ee a wa:Nat}{W:iS}{w:aH}{S:BS}
def iN.lt(h:iN N ee a wa W w S):∀k,S k->k<w.heap.size:=by
 obtain⟨_,_,_,h,_⟩:=h.ex;exact bJ.iF h
def iN.kp{w':aH}(h:iN N ee a wa W w S)(k:aL w w'):iN N ee a wa W w' S:=by
 obtain⟨xD,xs,h1,h2,h3⟩:=h.ex;exact⟨xD,xs,h1,bJ.kp h2 k,OX h3 (Up.aO k)⟩
def iN.Fy(h:iN N ee a wa W w S):∃S1,iJ ee a W.v w S1/\(∀k,S1 k->S k)/\w.cell? ((⟨wa,0,none⟩:Addr).add 0)=some (.pointer (some ⟨a,0,none⟩))/\∀v' w' CH,iJ ee a v' w' CH->Up S1 CH w w'->∃S',iN N ee a wa {W with v:=v'} w' S'/\Up S S' w w'/\∀k,S' k->CH k\/k<w.heap.size:=by
 have hb:=h.lt;obtain⟨xD,xs,h1,h2,h3⟩:=h.ex;obtain⟨_,S0,_,⟨S01,S02,CJ,_⟩,_⟩:=id h2;have c0:=aP CJ (k:=0) rfl;obtain⟨S1,hS,hs,eJ⟩:=bL.lG h2;refine⟨S1,hS,hs,c0,λv' w' CH hv u=>?_⟩;obtain⟨S',h',e'⟩:=eJ (iJ ee a v') EH S1 w' CH u.m (λk hk=>.inl hk) (λk hk=>(u.s k hk).imp id λh hs=>by have:=hb k hs;omega) (bL.emp hv);have h'':=bL.unemp h';have U:Up S S' w w':=⟨u.m.mono λk _ hk=>hs k hk,λk hk=>by
  rcases e' k hk with h|h
  ·exact .inl h.1
  ·exact(u.s k h).imp (hs k) id⟩
 exact⟨S',⟨xD,xs,h1,h'',OX h3 U⟩,U,λk hk=>(e' k hk).elim (λh=>.inr (hb k h.1)) .inl⟩
def iN.drv(h:iN N ee a wa W w S){i:Nat}{d:Nat}{dv:AO}(hi:W.ds[i]? =some (d,dv)):∃S1,AS d dv w S1/\(∀k,S1 k->S k)/\∀xC w' CH,AS d xC w' CH->Up S1 CH w w'->∃S',iN N ee a wa {W with ds:=W.ds.set i (d,xC)} w' S'/\Up S S' w w'/\∀k,S' k->CH k\/k<w.heap.size:=by
 have hb:=h.lt;have cD:=(eR.1 hi).1;obtain⟨xD,xs,h1,h2,h3⟩:=h.ex;obtain⟨S1,hS,hs,eJ⟩:=(bL.rG h2).c λT hT=>(bL.rG hT).c λT hT=>(bL.rG hT).c λT hT=>(bL.lG hT).c λT hT=>xA.atG hT hi;refine⟨S1,hS,hs,λxC w' CH hv u=>?_⟩;obtain⟨S',h',e'⟩:=eJ (Xp (d,xC)) EH S1 w' CH u.m (λk hk=>.inl hk) (λk hk=>(u.s k hk).imp id λh hs=>by have:=hb k hs;omega) (bL.emp hv);have h'':=bL.unemp h';have U:Up S S' w w':=⟨u.m.mono λk _ hk=>hs k hk,λk hk=>by
  rcases e' k hk with h|h
  ·exact .inl h.1
  ·exact(u.s k h).imp (hs k) id⟩
 have ep:TQ (W.ds.set i (d,xC))=TQ W.ds:=by
  show(W.ds.set i (d,xC)).map _=_;rw[List.map_set];apply yV;intro j;rw[jC]
  by_cases hj:i=j
  ·subst hj;rw[if_pos rfl,if_pos (by simpa using cD),oG,hi];rfl
  ·rw[if_neg hj]
 refine⟨S',⟨xD,xs,h1,h''.mono (λ_ h=>h) λ_ h=>h.mono (λ_ h=>h) λ_ h=>h.mono (λ_ h=>?_) λ_ h=>h.mono (λ_ h=>Bw.set cD h) λ_ h=>h,OX h3 U⟩,U,λk hk=>(e' k hk).elim (λh=>.inr (hb k h.1)) .inl⟩;show pK NJ 1 Xa W.row (TQ (W.ds.set i (d,xC))) _ _;rw[ep];exact h
def iN.PB(h:iN N ee a wa W w S):∃xD,w.cell? ((⟨wa,0,none⟩:Addr).add 2)=some (aW xD)/\xD.l=W.iR.length/\xK eU 3 Dl xJ.data (λk=>k<w.heap.size) w xD W.iR/\∃xs,xs.map (·.1)=W.iR/\Xr ee a wa W.row xD xs W.v W.ds w S/\∀x∈xs,Rd w x.2 1 eU x.1.data/\MQ N x.2 S w:=by
 obtain⟨xD,xs,h1,h2,h3⟩:=h.ex;obtain⟨_,_,_,⟨S01,S02,CJ,⟨_,_,_,⟨_,_,_,hv,_⟩,_⟩,_⟩,_⟩:=id h2;refine⟨xD,aP CJ rfl,by rw[<-h1,lT];exact hv.1.len,⟨xs,h1,hv.1.rd WR,λb hb=>⟨hv.1.lt hb,hv.1.lt hb⟩,λx hx=>⟨(h3 x hx).1,λb hb=>⟨((h3 x hx).2.o b hb).2,((h3 x hx).2.o b hb).2⟩⟩⟩,xs,h1,h2,h3⟩
def aAb{GU xD ZS:Sl}{xs Lr:List (xJ×Sl)}{v:iT}{ds:List (Nat×AO)}{M SV':BS}{w':aH}{K:aH->Prop}(h:Xr ee a wa GU xD xs v ds w S)(hm:aU M w w')(hM:∀k,M k->BL xD k)(hv:pK NA 3 Dl ZS Lr w' SV')(hs:∀k,SV' k->BL xD k\/w.heap.size<=k)
  (hK:∀w2 S',Xr ee a wa GU ZS Lr v ds w2 S'->Up S S' w w2->aU (λk=>k=wa) w' w2->K w2):aJ prog Fb ((⟨wa,0,none⟩:Addr).add 2) (aW ZS) w' K:=by
 have hb:=bJ.iF h;obtain⟨S1,hV,wZ,eJ⟩:=(bL.rG h).c λT hT=>(bL.rG hT).c λT hT=>(bL.rG hT).c λT hT=>bL.rG hT;have FP:∀k,BL xD k->S1 k:=λk ⟨b,bW,e⟩=>(hV.2 k).2 ⟨b,bW,e⟩;obtain⟨S2,h2,e2⟩:=eJ (pK NA 3 Dl ZS Lr) EH M w' SV' hm (λk hk=>.inl (FP k (hM k hk))) (λk hk=>(hs k hk).imp (FP k) λh hs=>by have:=hb k hs;omega) (bL.emp hv);have h2':=bL.unemp h2;obtain⟨S3,h3,_,Hw⟩:=((bL.r h2').c λT hT=>bL.l hT).put;refine qP h3 bt dP rfl rfl λw2 b2 u2=>?_;obtain⟨S4,h4,u4⟩:=Hw (tE wa Tc (eW a GU ZS)) w2 S3 u2 b2;refine hK w2 S4 h4 ⟨(hm.mono λk _ hk=>wZ k (FP k (hM k hk))).trans u4.m λk hk GS=>?_,λk hk=>?_⟩ (u2.m.mono λk _ hk=>(h3.2 k).1 hk)
 ·rcases e2 k GS with h|h
  ·exact h.1
  ·exact(hs k h).elim (λh=>wZ k (FP k h)) λh=>aB
 ·rcases u4.s k hk with h|h
  ·rcases e2 k h with h|h
   ·exact .inl h.1
   ·exact(hs k h).imp (λh=>wZ k (FP k h)) id
  ·exact .inr (jB hm.size h)
def Ji{GU xD:Sl}{xs:List (xJ×Sl)}{v:iT}{ds:List (Nat×AO)}{u:xJ}{sl:Sl}{g:Nat}{K:aH->Prop}(h:Xr ee a wa GU xD xs v ds w S)(ho:∀x∈xs,Rd w x.2 1 eU x.1.data/\MQ N x.2 S w)(hg:cX w g NA (Dl (u,sl)))(hr:Rd w sl 1 eU u.data)(hso:MQ N sl S w)(hl:xs.length+1<=1000000)
  (hK:∀w2 S',iN N ee a wa ⟨v,ds,(xs++[(u,sl)]).map (·.1),GU⟩ w2 S'->Up S S' w w2->K w2):aX prog Fb Fb xD (.slice (some ⟨g,0,none⟩) 1 1) w λs3 w2=>aJ prog Fb ((⟨wa,0,none⟩:Addr).add 2) (aW s3) w2 K:=by
 obtain⟨_,_,_,⟨S01,S02,CJ,⟨_,_,_,⟨_,_,_,hv,_⟩,_⟩,_⟩,_⟩:=id h;have hx:Rd w ⟨some ⟨g,0,none⟩,1,1⟩ 3 Dl [(u,sl)]:=(dE.new WR [(u,sl)] (by simpa using hg) (by simp[maxLen])).rd WR;refine fH EW WR Yc (x:=⟨some ⟨g,0,none⟩,1,1⟩) hv.1 hx (by simp;omega) (by simp;omega) λs3 w2 v3 m3 hr3 _=>?_;refine aAb (ZS:=s3) (Lr:=xs++[(u,sl)]) h m3 (λk hk=>hk) (SV':=λk=>BL s3 k) ⟨v3,λk=>Iff.rfl⟩ (λk ⟨b,hb,e⟩=>?_) λw4 S4 h4 u4 m4=>?_
 ·rcases hr3 with h|⟨b',h,h2⟩
  ·exact .inl ⟨b,h.symm.trans hb,e⟩
  ·rw[hb] at h;cases h;exact .inr (by rw[e];exact h2)
 ·refine hK w4 S4 ⟨s3,xs++[(u,sl)],rfl,h4,λx hx=>?_⟩ u4;have hh:Rd w x.2 1 eU x.1.data/\MQ N x.2 S w:=by
   rcases kK.1 hx with hx|hx
   ·exact ho x hx
   ·rw[mR.1 hx];exact⟨hr,hso⟩
  exact⟨hh.2.rd u4 hh.1 fV,hh.2.up u4⟩
def Oh(p:Pk):xJ:=⟨p.1,false,p.2⟩
def Rj(d:Int)(b:List cH):xJ:=⟨d,true,b⟩
def iS.add(W:iS)(l:List xJ):iS:={W with iR:=W.iR++l}
def Uj{l:Sl}{ps:List Pk}{Q:aH->Prop}(h:iN N ee a wa W w S)(hr:xK eU 2 ePk Prod.snd (λk=>¬S k/\k<w.heap.size/\¬N k) w l ps)(hl:W.iR.length+ps.length<=900000)
  (hQ:∀w' S',iN N ee a wa (W.add (ps.map Oh)) w' S'->Up S S' w w'->Q w'):rT (some ⟨wa,0,none⟩) l w Q:=by
 unfold rT;have hll:=hr.len;refine bK (λn t w1=>∃(i:Nat) (S1:BS),i<=ps.length/\n=ps.length-i/\t=((i:Int),())/\iN N ee a wa (W.add ((ps.take i).map Oh)) w1 S1/\Up S S1 w w1) ps.length
  ⟨0,S,cY _,rfl,rfl,by
   have:W.add (([]:List Pk).map Oh)=W:=by unfold iS.add;simp
   rw[List.take_zero,this];exact h,Up.refl _ _⟩ ?_
 rintro n t w1 ⟨i,S1,hi,rfl,rfl,h1,u1⟩ X hX;dsimp only;refine aI (λcD=>?_) (λkF=>?_)
 ·have dL:i<ps.length:=aB;have cI:=cL dL;have sZ:=oH dL;generalize ps[i]=p at*;obtain⟨q,sl,hq,hh,BX,ZB⟩:=(hr.aK ePk_ne u1.m λk hk _=>hk.1).get cI;have hos:MQ N sl S1 w1:=⟨λb hb=>⟨λhs=>(u1.s _ hs).elim (ZB b hb).1.1 λh=>by have:=(ZB b hb).1.2.1;omega,(ZB b hb).2⟩,λb hb=>(ZB b hb).1.2.2⟩;rw[dU,pI i aB];refine⟨⟨aB,cD⟩,aA hq (aZ (l:=[.i,.slice]) (p.1,sl,()) hh ?_)⟩;refine fM (zs:=ePk ((0,[]),bD)) (vs:=ePk (p,sl)) bu rfl (WO _) λw4 o4 k4 z4=>?_;have K4:=k4.tr (cB w4);have h4:=h1.kp K4;have o4d:=o4.aK (cB w4) id;obtain⟨xD,c2,lb,_,_⟩:=h4.PB;refine aA rfl (aE (k:=.slice) xD c2 (aE (k:=.i) p.1 (dR o4d rfl) (aE (k:=.slice) sl (dR o4d rfl) ?_)));refine cM (cs:=Dl (Oh p,sl)) λw6 b6 k6 z6=>?_;have K6:=K4.tr k6;have h6:=h1.kp K6;obtain⟨ZS,c2',lb',_,xs,DS,ja,hx3⟩:=h6.PB;have e:ZS=xD:=by have:=c2'.symm.trans ((k6.cell c2 id));injection this with this;injection this with h1 h2 h3;cases xD;cases ZS;simp_all
  subst e;refine⟨c2',?_⟩;have xl:xs.length=W.iR.length+i:=by have:=congrArg List.length DS;simp[iS.add] at this;omega
  refine Ji ja hx3 b6.1 (BX.aK K6 fV λ_ _=>id) (hos.kp K6) aB λw8 S8 h8 u8=>?_;refine hX _ _ _ aB ⟨i+1,S8,dL,rfl,rfl,?_,u1.tr ((Up.aO K6).tr u8)⟩;have e2:(⟨(W.add ((ps.take i).map Oh)).v,(W.add ((ps.take i).map Oh)).ds,(xs++[(Oh p,sl)]).map (·.1),(W.add ((ps.take i).map Oh)).row⟩:iS)=W.add ((ps.take (i+1)).map Oh):=by unfold iS.add;rw[sZ,xF,xF,DS];simp[iS.add]
  rw[e2] at h8;exact h8
 ·have ei:i=ps.length:=aB;subst ei;rw[oV] at h1;exact hQ w1 S1 h1 u1
def wj{d:Int}{l:Sl}{bs:List (List cH)}{Q:aH->Prop}(h:iN N ee a wa W w S)(hr:Hi (λk=>¬S k/\k<w.heap.size/\¬N k) w l bs)(hl:W.iR.length+bs.length<=900000)
  (hQ:∀w' S',iN N ee a wa (W.add (bs.map (Rj d))) w' S'->Up S S' w w'->Q w'):DJ (some ⟨wa,0,none⟩) d l w Q:=by
 unfold DJ;have hll:=hr.len;refine bK (λn t w1=>∃(i:Nat) (S1:BS),i<=bs.length/\n=bs.length-i/\t=((i:Int),())/\iN N ee a wa (W.add ((bs.take i).map (Rj d))) w1 S1/\Up S S1 w w1) bs.length
  ⟨0,S,cY _,rfl,rfl,by
   have:W.add (([]:List (List cH)).map (Rj d))=W:=by unfold iS.add;simp
   rw[List.take_zero,this];exact h,Up.refl _ _⟩ ?_
 rintro n t w1 ⟨i,S1,hi,rfl,rfl,h1,u1⟩ X hX;dsimp only;refine aI (λcD=>?_) (λkF=>?_)
 ·have dL:i<bs.length:=aB;have cI:=cL dL;have sZ:=oH dL;generalize bs[i]=p at*;obtain⟨q,sl,hq,hh,BX,ZB⟩:=(hr.aK LM u1.m λk hk _=>hk.1).get cI;have hos:MQ N sl S1 w1:=⟨λb hb=>⟨λhs=>(u1.s _ hs).elim (ZB b hb).1.1 λh=>by have:=(ZB b hb).1.2.1;omega,(ZB b hb).2⟩,λb hb=>(ZB b hb).1.2.2⟩;rw[dU,pI i aB];have cq:w1.cell? (q.add (i*1))=some (aW sl):=by have:=hh.1;rwa[add_add,Nat.add_zero] at this
  obtain⟨xD,c2,lb,_,_⟩:=h1.PB;refine⟨⟨aB,cD⟩,aA hq (aE (k:=.slice) sl cq (aA rfl (aE (k:=.slice) xD c2 ?_)))⟩;refine cM (cs:=Dl (Rj d p,sl)) λw6 b6 k6 z6=>?_;have h6:=h1.kp k6;obtain⟨ZS,c2',lb',_,xs,DS,ja,hx3⟩:=h6.PB;have e:ZS=xD:=by have:=c2'.symm.trans ((k6.cell c2 id));injection this with this;injection this with h1 h2 h3;cases xD;cases ZS;simp_all
  subst e;have xl:xs.length=W.iR.length+i:=by have:=congrArg List.length DS;simp[iS.add] at this;omega
  refine Ji ja hx3 b6.1 (BX.aK k6 fV λ_ _=>id) (hos.kp k6) aB λw8 S8 h8 u8=>?_;refine hX _ _ _ aB ⟨i+1,S8,dL,rfl,rfl,?_,u1.tr ((Up.aO k6).tr u8)⟩;have e2:(⟨(W.add ((bs.take i).map (Rj d))).v,(W.add ((bs.take i).map (Rj d))).ds,(xs++[(Rj d p,sl)]).map (·.1),(W.add ((bs.take i).map (Rj d))).row⟩:iS)=W.add ((bs.take (i+1)).map (Rj d)):=by unfold iS.add;rw[sZ,xF,xF,DS];simp[iS.add]
  rw[e2] at h8;exact h8
 ·have ei:i=bs.length:=aB;subst ei;rw[oV] at h1;exact hQ w1 S1 h1 u1
def iN.rowAt(h:iN N ee a wa W w S):w.cell? ((⟨wa,0,none⟩:Addr).add 1)=some (aW W.row)/\Rd w W.row 1 Xa (TQ W.ds):=by
 obtain⟨xD,xs,h1,h2,h3⟩:=h.ex;obtain⟨_,_,_,⟨_,_,CJ,⟨_,_,hv,_⟩,_⟩,_⟩:=id h2;exact⟨aP CJ rfl,hv.1.rd MW⟩
def Qo{x:Int}{Q:cW->aH->Prop}(h:iN N ee a wa W w S)(hl:W.ds.length<=16)(hQ1:∀d dv,0<=x->W.ds[x.toNat]? =some (d,dv)->Q (some ⟨d,0,none⟩) w)(hQ0:¬(0<=x/\x<W.ds.length)->Q none w):zT (some ⟨wa,0,none⟩) x w Q:=by
 unfold zT;obtain⟨xD,xs,h1,h2,h3⟩:=h.ex;obtain⟨_,_,_,⟨_,_,CJ,⟨_,_,hv,_⟩,_⟩,_⟩:=id h2;have c1:w.cell? ((⟨wa,0,none⟩:Addr).add 1)=some (aW W.row):=aP CJ rfl;have ll:=hv.1.len;rw[lT] at ll;refine aF (λh=>by simp at h) (λ_=>aI (λh=>hQ0 λhh=>aB) (λh0=>aA rfl (aE (k:=.slice) W.row c1 (aI (λh=>hQ0 λhh=>aB) (λh1'=>aA rfl (aE (k:=.slice) W.row c1 ?_))))));have cD:x.toNat<W.ds.length:=aB;have cI:=cL cD;obtain⟨d,dv⟩:Nat×AO:=W.ds[x.toNat];generalize W.ds[x.toNat]=p at*;obtain⟨q,hq,cq⟩:=bR (k:=.ptr) (e:=λx=>x) (hv.1.rd MW) (show(TQ W.ds)[x.toNat]? =some (some ⟨p.1,0,none⟩) by rw[oG,cI];rfl);exact⟨⟨aB,aB⟩,aA hq (aE (k:=.ptr) (some ⟨p.1,0,none⟩) cq (hQ1 p.1 p.2 aB cI))⟩
end
end
section
def ra(xs:List (xJ×Sl)):(xs.flatMap Dl).length=xs.length*3:=bF WR xs
def DelUn_i{s:Sl}{xs:List (xJ×Sl)}{i:Nat}{w:aH}{Q:Sl->aH->Prop}(hs:dE w NA 3 Dl s xs)(hi:i<xs.length)(hb:xs.length<1099511627776)
  (hQ:∀s' w',dE w' NA 3 Dl s' (xs.take i++xs.drop (i+1))->aU (λk=>∃b,s.b=some b/\k=b.block) w w'->s'.b=s.b->Q s' w'):
  iP s (i:Int) ((i:Int)+1) w Q:=by
 unfold iP;have hl:=hs.len;have Sn:=hs.cap;have Sg:=hs.max;rcases hs.gZ with⟨_,h0⟩|⟨g,cO,Ly,ho,gL⟩
 ·omega
 refine⟨⟨aB,aB⟩,⟨aB,by simp;omega⟩,⟨aB,aB⟩,?_⟩;refine aF (λh=>by simp at h;omega) (λ_=>?_);refine⟨⟨aB,aB⟩,⟨aB,aB⟩,?_⟩;have hd:aL w w.drew:=aU.drew (aU.refl _ w);have ti:Int.toNat (i:Int)=i:=rfl;have tj:Int.toNat ((i:Int)+1)=i+1:=rfl;rw[pF,ti,tj,Nat.sub_zero,Nat.sub_zero];have hvd:=hs.aK hd (λ_ _=>id);have Ep:=hvd.take (i:=i) aB;have Bj:=(hvd.rd WR).part (i:=i+1) (j:=s.l) (c:=s.c) aB aB aB aB;rw[ly6 (by simp;omega)] at Bj;have LZ:(xs.take i).length+(xs.drop (i+1)).length=xs.length-1:=by simp;omega
 refine Jj EW WR Yc Ep Bj (by rw[LZ];omega) (by rw[LZ];omega) λr w1 hr hm Wa hrn QT=>?_;have Og:=hr.len;rw[fN,LZ] at Og;have jf:=hr.cap;have tl:Int.toNat (s.l:Int)=s.l:=rfl;have tr:Int.toNat (r.l:Int)=r.l:=rfl;rw[tl,tr];obtain rfl:=QT (by rw[LZ];show _<=s.c;omega);have e1:i+(s.l-(i+1))=xs.length-1:=aB;simp only[e1] at hr Og jf tr ⊢;refine⟨⟨aB,aB⟩,⟨aB,aB⟩,?_⟩;rw[Ly,lY (show xs.length-1<s.c by omega)];rcases hr.gZ with⟨h0,_⟩|⟨g',Ya,hbg',ho',RQ⟩
 ·rw[Ly] at h0;cases h0
 have:g'=g:=by rw[Ly] at hbg';cases hbg';rfl
 subst this;have JK:((xs.take i++xs.drop (i+1)).flatMap Dl).length=(xs.length-1)*3:=by rw[ra,fN,LZ]
 have yZ:((xs.take i++xs.drop (i+1)).flatMap Dl++Ya).length=s.c*3:=RQ;have h4:xs.length*3<=s.c*3:=QR 3 aB;refine Am EW (by simp[Value.oneCell']) ho' (by rw[yZ];omega) λw2 zs hz Wc m2 _=>?_;have RA:s.l-(xs.length-1)=1:=aB;rw[RA] at hz Wc;rw[Fc JK] at Wc;refine hQ _ w2 ⟨by rw[fN,LZ],by show xs.length-1<=s.c;omega,Sg,.inr ⟨g',zs++((xs.take i++xs.drop (i+1)).flatMap Dl++Ya).drop ((xs.length-1)*3+1*3),rfl,by simpa using Wc,?_⟩⟩ ?_ Ly.symm
 ·show _=s.c*3;simp only[fN,JK,jz,hz];rw[fN,JK] at yZ;omega
 ·exact((aL.aK hd).tr hm).tr (m2.mono λk _ hk=>⟨_,Ly,hk⟩)
structure ZJ(G:Gr)(B:Int)(n:Nat)(W:iS):Prop where
 v:W.v.Ok G B
 b0:0<=B
 len:W.ds.length=n/\1<=n/\n<=16
 ds:∀p∈W.ds,p.2.Ok B/\p.2.dJ=W.v.dJ
 iR:∀u∈W.iR,u.data.length<=3000/\(u.up=true->0<=u.d/\u.d<n)
 bI:∀e∈W.v.t.bI,e.aN<n
def NL{G:Gr}{B B':Int}{v:iT}(ok:v.Ok G B)(h:B<=B'):v.Ok G B':=⟨ok.dJ,ok.dQ,ok.u,ok.t,ok.fF,λe he=>by have:=ok.ch e he;exact⟨this.1,this.2.1,this.2.2.1,aB⟩,ok.JI,ok.VT,ok.lost⟩
def ZJ.mono{G:Gr}{B B':Int}{n:Nat}{W:iS}(h:ZJ G B n W)(hB:B<=B'):ZJ G B' n W:=⟨NL h.v hB,by have:=h.b0;omega,h.len,λp hp=>⟨(h.ds p hp).1.mono hB,(h.ds p hp).2⟩,h.iR,h.bI⟩
structure xB(N:BS)(G:Gr)(B:Int)(n:Nat)(ee a wa:Nat)(W:iS)(w:aH)(S:BS)(rh:Sl)(hs:List rC)(k:Nat)(W':iS)(w':aH)(S':BS):Prop where
 x:iN N ee a wa W' w' S'
 up:Up S S' w w'
 BX:Hh w.heap.size S' w' rh hs
 ok:ZJ G (B+16) n W'
 dJ:W'.v.dJ=W.v.dJ
 len:W'.iR.length<=W.iR.length+k
 dQ:W'.v.dQ<=W.v.dQ+1
 hl:hs.length<=20
def Nb(G:Gr)(W:iS)(u:xJ)(W':iS)(hs:List rC):=
 if u.up=true then∃v' ps,Ia G W.v u.d u.data v' ps hs/\W'=({W with v:=v'}:iS).add (ps.map Oh)
 else(¬(0<=u.d/\u.d<W.ds.length)/\W'=W/\hs=[])\/∃d dv xC ds ms,W.ds[u.d.toNat]? =some (d,dv)/\0<=u.d/\Tt dv u.data xC ds ms/\W'=({W with ds:=W.ds.set u.d.toNat (d,xC)}:iS).add (ds.map (Rj u.d))/\hs=ms.map λm=>⟨u.d,xC.aM,false,m⟩
def Tz{N:BS}{lo:Nat}{S:BS}{w:aH}{r:Sl}{ps:List Pk}(h:xL lo S w r ps)(hN:∀k,N k->k<lo):xK eU 2 ePk Prod.snd (λk=>¬S k/\k<w.heap.size/\¬N k) w r ps:=(h.rd WS).wk λk h1 h2=>⟨h1.2,h2,λh=>by have:=hN k h;have:=h1.1;omega⟩
def yw{N:BS}{lo:Nat}{S:BS}{w:aH}{r:Sl}{ps:List (List cH)}(h:RowQ lo S w r ps)(hN:∀k,N k->k<lo):Hi (λk=>¬S k/\k<w.heap.size/\¬N k) w r ps:=(h.rd lenD_q).wk λk h1 h2=>⟨h1.2,h2,λh=>by have:=hN k h;have:=h1.1;omega⟩
section
variable{N:BS}{W0 w:aH}{S:BS}{a wa n:Nat}{W:iS}{E:qB}{G:Gr}{B:Int}
def Ic{l:List xJ}(ok:ZJ G B n W)(h:∀u∈l,u.data.length<=3000/\(u.up=true->0<=u.d/\u.d<n)):ZJ G B n (W.add l):=
 ⟨ok.v,ok.b0,ok.len,ok.ds,λu hu=>(kK.1 hu).elim (ok.iR u) (h u),ok.bI⟩
def za{d:Int}{sl:Sl}{bs:List cH}{Q:Sl->aH->Prop}(h:iN N E.e a wa W w S)(hN:∀k,N k->k<w.heap.size)(hb:Bs W0 E G S w)(ok:ZJ G B n W)(hB:B<=100000000000000)(hd:0<=d/\d<n)(FP:W.iR.length<=800000)(hr:Rd w sl 1 eU bs)(ho:JM sl S w)(hl:bs.length<=5000)
  (hQ:∀rh hs v' ps w' S',xB N G B n E.e a wa W w S rh hs (W.v.dJ.dG+1) (({W with v:=v'}:iS).add (ps.map Oh)) w' S'->Ia G W.v d bs v' ps hs->Q rh w'):DP (some ⟨wa,0,none⟩) d sl w Q:=by
 unfold DP;obtain⟨S1,h1,wZ,c0,eJ⟩:=h.Fy;refine aA rfl (aE (k:=.ptr) (some ⟨a,0,none⟩) c0 ?_);refine VRecv_i h1 (hb.sub wZ) ok.v ⟨ok.b0,hB⟩ hr (λb bW=>⟨λhk=>(ho b bW).1 (wZ _ hk),(ho b bW).2⟩) hl λr rh ps hs v' w1 CH g=>?_;obtain⟨S2,h2,u2,e2⟩:=eJ v' w1 CH g.Fy g.up;have QS:=ok.v.dJ.dG;have gl:=g.len;have rp:xL w.heap.size S2 w1 r ps:=g.row.cov e2;refine Uj h2 (Tz rp hN) (by show W.iR.length+_<=_;omega) λw3 S3 h3 u3=>?_;have okn:ZJ G (B+16) n ({W with v:=v'}:iS):=⟨g.ok,by have:=ok.b0;omega,ok.len,λp hp=>⟨((ok.ds p hp).1).mono aB,((ok.ds p hp).2).trans g.Gp.dJ.symm⟩,ok.iR,λe he=>?_⟩
 ·refine hQ rh hs v' ps w3 S3 ⟨h3,u2.tr u3,(g.BX.cov e2).up u3,Ic okn λu hu=>?_,g.Gp.dJ,by show(W.iR++_).length<=_;simp;omega,by show v'.dQ<=_;rw[g.Gp.dQ];omega,g.hl⟩ g.rel;obtain⟨p,hp,rfl⟩:=mQ.1 hu;exact⟨g.pks p hp,λh=>by cases h⟩
 ·rcases g.Gp.bI e he with⟨f,hf,hp⟩|hp
  ·rw[<-hp];exact ok.bI f hf
  ·omega
def arrive_i{u:xJ}{sl:Sl}{Q:Sl->aH->Prop}(h:iN N E.e a wa W w S)(hN:∀k,N k->k<w.heap.size)(hb:Bs W0 E G S w)(ok:ZJ G B n W)(hB:B<=100000000000000)(FP:W.iR.length<=800000)(hu:u.data.length<=3000/\(u.up=true->0<=u.d/\u.d<n))(hr:Rd w sl 1 eU u.data)(ho:JM sl S w)
  (hQ:∀rh hs W' w' S',xB N G B n E.e a wa W w S rh hs (W.v.dJ.dG+1) W' w' S'->Nb G W u W' hs->Q rh w'):EZ (some ⟨wa,0,none⟩) (u.d,u.up,sl,()) w Q:=by
 unfold EZ;have lt0:=h.lt;refine cM (cs:=Dl (u,sl)) λw1 b1 k1 z1=>aE (k:=.bool) u.up (aP b1 rfl) ?_;have h1:=h.kp k1;refine aF (λVz=>?_) (λVz=>?_)
 ·refine aE (k:=.i) u.d (aP b1 rfl) (aE (k:=.slice) sl (aP b1 rfl) ?_);refine za h1 (λk hk=>pP (hN k hk) k1.size) (hb.kp k1) ok hB (hu.2 Vz) FP (hr.aK k1 fV λ_ _=>id) (ho.kp k1) aB λrh hs v' ps w' S' g DT=>?_;exact hQ rh hs _ w' S' ⟨g.x,(Up.aO k1).tr g.up,g.BX.qT k1.size,g.ok,g.dJ,g.len,g.dQ,g.hl⟩ (by unfold Nb;rw[if_pos Vz];exact⟨v',ps,DT,rfl⟩)
 ·have hup':¬u.up=true:=by rw[Vz];simp
  refine aE (k:=.i) u.d (aP b1 rfl) ?_;have hn:=ok.len;have K1d:=k1.tr (cB w1);have h1d:=h.kp K1d;have b1d:=bJ.dr b1;obtain⟨S1,hS1,wZ,c0,_⟩:=h1d.Fy;refine Qo h1 aB (λd dv h0 hi=>?_) (λqU=>?_)
  ·refine aA rfl (aE (k:=.ptr) (some ⟨a,0,none⟩) c0 (aE (k:=.slice) sl (aP b1d rfl) (Tp hS1 ⟨aP b1d rfl,?_⟩)));obtain⟨S2,hD,LU,eJ⟩:=h1d.drv hi;have hm:=kR hi;have okd:=ok.ds _ hm;refine DRecv_i hD okd.1 ⟨ok.b0,hB⟩ (hr.aK K1d fV λ_ _=>id) (λb bW=>⟨λhk=>(ho b bW).1 (LU _ hk),by have:=(ho b bW).2;have:=K1d.size;omega⟩) aB λr rm ds ms xC w5 S2' g hrm DT=>?_;obtain⟨S5,h5,u5,e5⟩:=eJ xC w5 S2' g.drv g.up;have QS:=ok.v.dJ.dG;have gl:=g.len;rw[okd.2] at gl;have rq:=yw (N:=N) (g.row.cov e5) (λk hk=>pP (hN k hk) K1d.size);have rmm:xK eI 9 uA gT.cF (λk=>¬S5 k/\k<w5.heap.size/\w.heap.size<=k) w5 rm ms:=((hrm.cov e5).rd RM).wk λk h1 h2=>⟨h1.2,h2,by have:=h1.1;have:=K1d.size;omega⟩;have lrm:=rmm.len;have zw1:w1.drew.heap.size=w1.heap.size:=rfl;have nS1:¬S w.heap.size:=λhs=>by have:=lt0 _ hs;omega
   have U5:Up S S5 w w5:=(Up.aO K1d).tr u5;have o5:cX w5 w.heap.size NA (Dl (u,sl)):=b1d.1.aK u5.m nS1;have Oj:=h5.lt;have z5:=u5.size;have Ww:ms.length<=20:=by
    obtain⟨g',e',_,hc⟩:=DT;rcases hc with⟨_,_,_,rfl⟩|⟨_,_,_,_,rfl⟩|⟨_,_,p,c,oO,gs,c',MG,jZ,dI,vq,ZN,_,_,hF,Ww,_⟩
    ·simp
    ·simp
    ·have rf:=yA (okd.1.ch _ vq).1 ZN;have h1:=hF.len;rw[Ww];unfold UJ;rw[lT];have:=xG (λx:gT×Int=>decide (x.2=0)) MG;omega
   refine bK (λc t w6=>∃(i:Nat) (rh:Sl),i<=ms.length/\c=ms.length-i/\t=(rh,(i:Int),())/\aL w5 w6/\Hh w.heap.size S5 w6 rh ((ms.take i).map λm=>⟨u.d,xC.aM,false,m⟩)/\(∀b,rh.b=some b->w5.heap.size<=b.block)) ms.length
    ⟨0,bD,cY _,rfl,rfl,aU.refl _ _,fO.nil,λb bW=>(by cases bW)⟩ ?_
   rintro c t w6 ⟨i,rh,hi6,rfl,rfl,k6,q6,f6⟩ X hX;dsimp only;have h6:=h5.kp k6;have m6:=rmm.kp Tl k6;have o6:=o5.aK k6 id;have z6:=k6.size;refine aI (λcD=>?_) (λkF=>?_)
   ·have dL:i<ms.length:=aB;have cI:=cL dL;have sZ:=oH dL;generalize ms[i]=m at*;obtain⟨q,ij,hq,hh,BX,ZB⟩:=m6.get cI;rw[dU,pI i aB];refine⟨⟨aB,cD⟩,aA hq (aZ (l:=iu) (GZ (m,ij)) hh ?_)⟩;refine fM (zs:=uA (⟨0,0,0,[],0,WV⟩,bD)) (vs:=uA (m,ij)) DC rfl (RK _) λw8 o8 k8 z8=>?_;have K8:=k8.tr (cB w8);have h8:=h6.kp K8;have o8d:=o8.aK (cB w8) id;have o6d:=o6.aK K8 id;have MA:({W with ds:=W.ds.set u.d.toNat (d,xC)}:iS).ds[u.d.toNat]? =some (d,xC):=by
     show(W.ds.set u.d.toNat (d,xC))[u.d.toNat]? =_;rw[jC];have:=(eR.1 hi).1;simp[this]
    obtain⟨_,hD8,_,_⟩:=h8.drv MA;refine aE (k:=.i) u.d (dR o6d rfl) (aZ (l:=iu) (GZ (m,ij)) (o8d.holds λj v hj=>by rw[gK];exact hj) (DConn_i hD8 ⟨o8d.holds λj v hj=>by rw[gK];exact hj,dR o6d rfl,?_⟩));have z8d:=K8.size;refine fO.xh OF Yf oneHd aB (q6.kp K8) (by simp;omega) aB (λk hk=>by have:=Oj k hk;omega) ⟨u.d,xC.aM,false,m⟩ (sl:=ij) (BX.aK K8 cU λ_ _=>id) (λb bW=>⟨(ZB b bW).1.2.2,(ZB b bW).1.1,by have:=(ZB b bW).2;omega,λb' WH e=>by have:=f6 b' WH;have:=(ZB b bW).1.2.1;omega⟩) λrh' fG v10 VQ nb10=>?_;refine hX _ _ _ aB ⟨i+1,rh',dL,rfl,rfl,(k6.tr K8).fresh VQ λk ⟨b,bW,e⟩=>by rw[e];exact f6 b bW,by rw[sZ,xF];exact v10,λb bW=>?_⟩;rcases nb10 b bW with⟨a',mY,e⟩|h
    ·rw[e];exact f6 a' mY
    ·omega
   ·have ei:i=ms.length:=aB;subst ei;rw[oV] at q6;refine aE (k:=.i) u.d (dR o6 rfl) ?_;have e0:(u.d.toNat:Int)=u.d:=aB;refine wj h6 ((rq.kp LM k6).wk λk h1 h2=>⟨h1.1,h2,h1.2.2⟩) (by show W.iR.length+ds.length<=_;omega) λw8 S8 h8 u8=>?_;have okn:ZJ G (B+16) n ({W with ds:=W.ds.set u.d.toNat (d,xC)}:iS):=⟨NL ok.v aB,by have:=ok.b0;omega,⟨by show(W.ds.set _ _).length=n;rw[oE];exact ok.len.1,ok.len.2⟩,λp hp=>?_,ok.iR,ok.bI⟩
    ·refine hQ rh _ _ w8 S8 ⟨h8,(U5.tr (Up.aO k6)).tr u8,q6.up u8,Ic okn λx hx=>?_,rfl,by show(W.iR++_).length<=_;simp;omega,by show W.v.dQ<=_;omega,by rw[lT];exact Ww⟩ ?_
     ·obtain⟨bb,Lz,rfl⟩:=mQ.1 hx;have HC:=(eR.1 hi).1;exact⟨g.pks bb Lz,λ_=>⟨h0,by show u.d<n;omega⟩⟩
     ·unfold Nb;rw[if_neg hup'];exact .inr ⟨d,dv,xC,ds,ms,hi,h0,DT,rfl,rfl⟩
    ·rcases List.mem_or_eq_of_mem_set hp with hp|rfl
     ·exact⟨(ok.ds p hp).1.mono aB,(ok.ds p hp).2⟩
     ·exact⟨g.ok,g.dJ.trans okd.2⟩
  ·refine aA rfl (aE (k:=.ptr) (some ⟨a,0,none⟩) c0 (aE (k:=.slice) sl (aP b1d rfl) (Tp hS1 ⟨aP b1d rfl,?_⟩)));refine uk (hr.aK K1d fV λ_ _=>id) aB λw5 k5=>?_;have b5:=bJ.kp b1d k5;refine bK (λc t w6=>c=0/\t=(bD,(0:Int),())/\w6=w5) 0 ⟨rfl,rfl,rfl⟩ ?_;rintro c t w6 ⟨rfl,rfl,rfl⟩ X hX;dsimp only;refine aI (λcD=>by simp at cD) (λ_=>aE (k:=.i) u.d (aP b5 rfl) ?_);have h5:=h1d.kp k5;refine wj (bs:=[]) (l:=bD) h5 ⟨[],rfl,Rd.nil _ _ _,λb bW=>(by cases bW),λx hx=>by cases hx⟩ (by simp;omega) λw8 S8 h8 u8=>?_;have e:W.add (([]:List (List cH)).map (Rj u.d))=W:=by unfold iS.add;simp
   rw[e] at h8;refine hQ _ [] W w8 S8 ⟨h8,(Up.aO (K1d.tr k5)).tr u8,fO.nil,ok.mono aB,rfl,aB,aB,cY _⟩ ?_;unfold Nb;rw[if_neg hup'];exact .inl ⟨qU,rfl,rfl⟩
end
end
section
structure GP where
 kind:Int
 d:Int
 n:Int
 m:Int
 Ws:List cH
abbrev vz(x:GP×Sl):gJ:=[aD x.1.kind,aD x.1.d,aD x.1.n,aD x.1.m,aW x.2]
abbrev kEv:List CK:=[.i,.i,.i,.i,.slice]
abbrev Rx(x:GP×Sl):Int×Int×Int×Int×Sl×Unit:=(x.1.kind,x.1.d,x.1.n,x.1.m,x.2,())
def xq:∀x:GP×Sl,(vz x).length=5:=λ_=>rfl
def oneEv:∀x:GP×Sl,∀u∈vz x,u.oneCell'=true:=by intro x u hu;simp at hu;rcases hu with rfl|rfl|rfl|rfl|rfl<;>rfl
def eEv_ne(x:GP×Sl):vz x≠[]:=by simp
def Gz(n:Int)(l:Nat):Nat:=(Int.tmod (Int.tmod n l+l) l).toNat
def idxB_lt{n:Int}{l:Nat}(hl:0<l)(hm:l<=1000000):Gz n l<l/\Int.tmod (aQ (Int.tmod n (l:Int)+(l:Int))) (l:Int)=((Gz n l:Nat):Int):=by
 have h1:(Int.tmod n (l:Int)).natAbs=n.natAbs%l:=by rw[Int.natAbs_tmod];rfl
 have h2:=Nat.mod_lt n.natAbs hl;rw[<-h1] at h2;have h3:0<=Int.tmod n (l:Int)+l:=aB;have h4:=Int.tmod_nonneg (b:=(l:Int)) h3;have h5:=Int.tmod_lt_of_pos (Int.tmod n (l:Int)+l) (show(0:Int)<l by omega);rw[iH aB aB];unfold Gz;exact⟨aB,aB⟩
def iS.rem(W:iS)(i:Nat):iS:={W with iR:=W.iR.take i++W.iR.drop (i+1)}
def BetR(G:Gr)(W:iS)(ev:GP)(W':iS)(hs:List rC):=
 (W.iR=[]/\W'=W/\hs=[])\/∃u,W.iR[Gz ev.n W.iR.length]? =some u/\if ev.kind=3 then W'=W.add [u]/\hs=[] else if ev.kind=2 then W'=W.rem (Gz ev.n W.iR.length)/\hs=[] else Nb G (W.rem (Gz ev.n W.iR.length)) u W' hs
section
variable{N:BS}{W0 w:aH}{S:BS}{a wa n:Nat}{W:iS}{E:qB}{G:Gr}{B:Int}
def xB.same(h:iN N E.e a wa W w S)(ok:ZJ G B n W){w':aH}(k:aL w w')(c:Nat):xB N G B n E.e a wa W w S bD [] c W w' S:=
 ⟨h.kp k,Up.aO k,fO.nil,ok.mono aB,rfl,aB,aB,cY _⟩
def between_i{ev:GP}{sl:Sl}{Q:Sl->aH->Prop}(h:iN N E.e a wa W w S)(hN:∀k,N k->k<w.heap.size)(hb:Bs W0 E G S w)(ok:ZJ G B n W)(hB:B<=100000000000000)(FP:W.iR.length<=800000)
  (hQ:∀rh hs W' w' S',xB N G B n E.e a wa W w S rh hs (W.v.dJ.dG+1) W' w' S'->BetR G W ev W' hs->Q rh w'):AX (some ⟨wa,0,none⟩) (Rx (ev,sl)) w Q:=by
 unfold AX;have lt0:=h.lt;refine cM (cs:=vz (ev,sl)) λw1 b1 k1 z1=>aA rfl ?_;have h1:=h.kp k1;obtain⟨xD,c2,lb,pQ,xs,DS,ja,hx3⟩:=h1.PB;refine aE (k:=.slice) xD c2 (aF (λh0=>?_) (λh0=>?_))
 ·have hl:W.iR.length=0:=by simp at h0;omega
  exact hQ _ [] W w1 S (xB.same h ok k1 _) (.inl ⟨Mq hl,rfl,rfl⟩)
 have hl:0<W.iR.length:=by simp at h0;omega
 obtain⟨hi,hix⟩:=idxB_lt (n:=ev.n) (l:=xD.l) aB aB;refine aE (k:=.i) ev.n (aP b1 rfl) ⟨aB,aB,aA rfl (aE (k:=.slice) xD c2 ?_)⟩;rw[hix,dU];have xl:xs.length=W.iR.length:=by rw[<-DS,lT]
 obtain⟨i,hie⟩:∃i,i=Gz ev.n W.iR.length:=⟨_,rfl⟩;have hie2:Gz ev.n xD.l=i:=by rw[hie,lb]
 rw[hie2] at hi ⊢;have hgx:=cL (show i<xs.length by omega);generalize xs[i]=y at*;obtain⟨u,slu⟩:=y;have hgu:W.iR[i]? =some u:=by rw[<-DS,oG,hgx];rfl
 have gG:=kR hgx;have hu:=ok.iR u (kR hgu);obtain⟨hru,hou⟩:=hx3 _ gG;obtain⟨_,_,_,⟨S01,S02,CJ,⟨_,_,_,⟨_,_,_,hv,_⟩,_⟩,_⟩,_⟩:=id ja;obtain⟨q,hq,hh⟩:=(hv.1.rd WR).get i _ hgx;refine⟨⟨aB,aB⟩,aA hq (aZ (l:=[.i,.bool,.slice]) (u.d,u.up,slu,()) hh ?_)⟩;refine fM (zs:=Dl (⟨0,false,[]⟩,bD)) (vs:=Dl (u,slu)) Jy rfl (Yc _) λw3 o3 k3 z3=>?_;have b3:=bJ.kp b1 k3;have K3:=k1.tr k3;refine aE (k:=.i) ev.kind (aP b3 rfl) (aF (λhk=>?_) (λhk=>?_))
 ·have uz:ev.kind=3:=by simpa using hk
  have kd:=k3.tr (cB w3);have Mg:=o3.aK (cB w3) id;have c23:=kd.cell c2 id;refine aA rfl (aE (k:=.slice) xD c23 (aE (k:=.i) u.d (dR Mg rfl) (aE (k:=.bool) u.up (dR Mg rfl) (aE (k:=.slice) slu (dR Mg rfl) ?_))));refine wJ (hru.aK kd fV λ_ _=>id) (show u.data.length<=1000000 by omega) λr w4 S4 _ k4 _ rd4 f4=>?_;have o4:=Mg.aK k4 id;have c24:=k4.cell c23 id;refine⟨dR o4 rfl,dR o4 rfl,c24,?_⟩;refine cM (cs:=Dl (u,r)) λw5 b5 k5 z5=>⟨k5.cell c24 id,?_⟩;have K5:=kd.tr (k4.tr k5);have zz:=kd.size;have bd:=bJ.iF ja;refine Ji (u:=u) (sl:=r) (bJ.kp ja K5) (OX hx3 (Up.aO K5)) b5.1 ((bJ.kp rd4 k5).1) ⟨λb bW=>⟨λhs=>by have:=bd _ hs;have:=f4 b bW;omega,(bJ.kp rd4 k5).2.2.1 b bW⟩,λb bW hn=>by have:=hN _ hn;have:=f4 b bW;have:=k1.size;omega⟩ aB λw8 S8 h8 u8=>hQ _ [] (W.add [u]) w8 S8 ⟨by
    have e2:(⟨W.v,W.ds,(xs++[(u,r)]).map (·.1),W.row⟩:iS)=W.add [u]:=by unfold iS.add;rw[xF,DS];rfl
    rw[e2] at h8;exact h8,((Up.aO (k1.tr K5)).tr u8),fO.nil,Ic (ok.mono aB) λx hx=>by rw[mR.1 hx];exact hu,rfl,by show(W.iR++[u]).length<=_;rw[fN,ly0];omega,by show W.v.dQ<=_;omega,cY _⟩ (.inr ⟨u,by rw[<-hie];exact hgu,by rw[if_pos uz];exact⟨rfl,rfl⟩⟩)
 ·have uz:¬ev.kind=3:=by simpa using hk
  have h3:=bJ.kp ja k3;have v3:=hv.1.aK k3 λ_ _=>id;refine aA rfl (aE (k:=.slice) xD (k3.cell c2 id) ?_);rw[iH aB aB];refine DelUn_i v3 aB aB λs8 w8 v8 m8 hs8=>aA rfl ?_;have hBL:∀k,BL s8 k->BL xD k:=λk ⟨b,bW,e⟩=>⟨b,hs8.symm.trans bW,e⟩;have ou3:=OX hx3 (Up.aO (S:=S) k3);refine aAb (ZS:=s8) (SV':=λk=>BL s8 k) h3 m8 (λk hk=>hk) ⟨v8,λk=>Iff.rfl⟩ (λk hk=>.inl (hBL k hk)) λw9 S9 h9 u9 m9=>?_;have e2:(⟨W.v,W.ds,(xs.take i++xs.drop (i+1)).map (·.1),W.row⟩:iS)=W.rem i:=by unfold iS.rem;rw[xF,List.map_take,List.map_drop,DS]
  have h9':iN N E.e a wa (W.rem i) w9 S9:=by rw[<-e2];exact⟨s8,_,rfl,h9,OX (λx hx=>ou3 x ((kK.1 hx).elim List.mem_of_mem_take List.mem_of_mem_drop)) u9⟩
  have U9:Up S S9 w w9:=(Up.aO K3).tr u9;have okr:ZJ G B n (W.rem i):=⟨ok.v,ok.b0,ok.len,ok.ds,λx hx=>ok.iR x ((kK.1 hx).elim List.mem_of_mem_take List.mem_of_mem_drop),ok.bI⟩;have lr:(W.rem i).iR.length+1=W.iR.length:=by show(W.iR.take i++W.iR.drop (i+1)).length+1=_;simp;omega
  have cK:w9.cell? ((⟨w.heap.size,0,none⟩:Addr).add 0)=some (aD ev.kind):=by have:=(b3.1).aK u9.m (λhs=>by have:=lt0 _ hs;omega);exact dR this rfl
  refine aE (k:=.i) ev.kind cK (aF (λGS=>?_) (λGS=>?_))
  ·have hk2':ev.kind=2:=by simpa using GS
   exact hQ _ [] (W.rem i) w9 S9 ⟨h9',U9,fO.nil,okr.mono aB,rfl,aB,by show W.v.dQ<=_;omega,cY _⟩ (.inr ⟨u,by rw[<-hie];exact hgu,by rw[if_neg uz,if_pos hk2',<-hie];exact⟨rfl,rfl⟩⟩)
  ·have hk2':¬ev.kind=2:=by simpa using GS
   have o9:=o3.aK u9.m (λhs=>by have:=lt0 _ hs;have:=k1.size;omega);have ho3:=ou3 _ gG;refine aZ (l:=[.i,.bool,.slice]) (u.d,u.up,slu,()) (o9.holds λj v hj=>by rw[gK];exact hj) ?_;refine arrive_i h9' (λk hk=>pP (hN k hk) U9.size) (hb.up U9) okr hB aB hu (ho3.2.rd u9 ho3.1 fV) (ho3.2.up u9).o λrh hs W' w' S' g DT=>?_;exact hQ rh hs W' w' S' ⟨g.x,U9.tr g.up,g.BX.qT U9.size,g.ok,g.dJ,by have:=g.len;have e:(W.rem i).v=W.v:=rfl;rw[e] at this;omega,g.dQ,g.hl⟩ (.inr ⟨u,by rw[<-hie];exact hgu,by rw[if_neg uz,if_neg hk2',<-hie];exact DT⟩)
end
end
section
def DrvsR(G:Gr)(W:iS)(ev:GP)(W':iS)(hs:List rC):=0<=ev.d/\ev.d<W.ds.length->
 (ev.kind=7->∃d dv xC ds,W.ds[ev.d.toNat]? =some (d,dv)/\Ab dv ev.m ev.n xC ds/\W'=({W with ds:=W.ds.set ev.d.toNat (d,xC)}:iS).add (ds.map (Rj ev.d))/\hs=[])/\
 (ev.kind=11->∃v' ps,Ia G W.v ev.d ev.Ws v' ps hs/\W'=({W with v:=v'}:iS).add (ps.map Oh))
structure TickV(v v':iT)(ps:List Pk):Prop where
 dJ:v'.dJ=v.dJ
 dQ:v'.dQ=v.dQ+1
 u:v'.u=FV (v.dQ+1) v.u (gE 0 v.u)
 bI:∀f∈v'.t.bI,f∈v.t.bI
 q:qf v->(ZM (v.dQ+1) (gE 0 v.u)=[]\/v.t.bI=[])->v'.t.bI=v.t.bI.filter (λe=>!expd v e)/\v'.t.gr=v.t.gr/\F2 (λe p=>wg (e.aN:Int) ⟨e.aM,3,0,0,3,[]⟩ p) (v.t.bI.filter λe=>expd v e) ps/\(∀e∈v.t.bI,ChQ (v.ch e.aN) (v'.ch e.aN))/\v'.JI=v.JI/\∀k,(v'.lf k).getD (false:Bool)=false
def TickR(W W':iS):=∃ps ups,TickV W.v W'.v ps/\W'.iR=W.iR++ps.map Oh++ups/\W'.ds.length=W.ds.length/\(∀(i:Nat) d dv,W.ds[i]? =some (d,dv)->∃xC ds,W'.ds[i]? =some (d,xC)/\Im dv xC ds)/\((∀(i:Nat) d dv xC ds,W.ds[i]? =some (d,dv)->Im dv xC ds->ds=[])->ups=[])
section
variable{N:BS}{W0 w:aH}{S:BS}{a wa n:Nat}{W:iS}{E:qB}{G:Gr}{B:Int}
def drv_sent{i:Nat}{d:Nat}{dv xC:AO}{w':aH}{S1 S2':BS}{r:Sl}{ds:List (List cH)}{Q:aH->Prop}(h:iN N E.e a wa W w S)(hi:W.ds[i]? =some (d,dv))(ok:ZJ G B n W)(FP:W.iR.length<=800000)(hN:∀k,N k->k<w.heap.size)
  (eJ:∀xC w' CH,AS d xC w' CH->Up S1 CH w w'->∃S',iN N E.e a wa {W with ds:=W.ds.set i (d,xC)} w' S'/\Up S S' w w'/\∀k,S' k->CH k\/k<w.heap.size) (g:Xu B d dv w S1 r ds xC w' S2')
  (hQ:∀w2 S3,iN N E.e a wa (({W with ds:=W.ds.set i (d,xC)}:iS).add (ds.map (Rj (i:Int)))) w2 S3->Up S S3 w w2->ZJ G (B+16) n (({W with ds:=W.ds.set i (d,xC)}:iS).add (ds.map (Rj (i:Int))))->ds.length<=W.v.dJ.dG+1->Q w2):DJ (some ⟨wa,0,none⟩) (i:Int) r w' Q:=by
 obtain⟨S2,h2,u2,e2⟩:=eJ xC w' S2' g.drv g.up;have okd:=ok.ds _ (kR hi);have gl:=g.len;rw[okd.2] at gl;have QS:=ok.v.dJ.dG;refine wj h2 (yw (g.row.cov e2) hN) (by show W.iR.length+_<=_;omega) λw4 S4 h4 u4=>?_;have cD:=(eR.1 hi).1;have hln:=ok.len;refine hQ w4 S4 h4 (u2.tr u4) (Ic ⟨NL ok.v aB,by have:=ok.b0;omega,⟨by show(W.ds.set _ _).length=n;rw[oE];exact ok.len.1,ok.len.2⟩,λp hp=>?_,ok.iR,ok.bI⟩ λx hx=>?_) gl
 ·rcases List.mem_or_eq_of_mem_set hp with hp|rfl
  ·exact⟨(ok.ds p hp).1.mono aB,(ok.ds p hp).2⟩
  ·exact⟨g.ok,g.dJ.trans okd.2⟩
 ·obtain⟨bb,Lz,rfl⟩:=mQ.1 hx;exact⟨g.pks bb Lz,λ_=>⟨by show(0:Int)<=(i:Int);omega,by show(i:Int)<n;omega⟩⟩
end
end
section
def ChgR_q(v v1:iT)(W W':iS)(hs:List rC):=∃v' ps,vX v1 v'/\(v.t.bI=[]->v'=v1/\ps=[])/\W'=({W with v:=v'}:iS).add (ps.map Oh)/\hs=[]
def MC(G:Gr)(W:iS)(ev:GP)(W':iS)(hs:List rC):=
 ((ev.kind=1\/ev.kind=2\/ev.kind=3)->BetR G W ev W' hs)/\(ev.kind=4->TickR W W'/\hs=[])/\(ev.kind=5->ChgR_q W.v (W.v.Gq (W.v.NH ev.n ev.m)) W W' hs)/\
 ((ev.kind=7\/ev.kind=11)->DrvsR G W ev W' hs)
def yY(c:vU)(n:Nat):Nat:=c.sT*(2*c.dG+2)+n*(2*c.dG+1)
def Zj{c:vU}{n:Nat}(ok:c.Ok)(hn:1<=n):c.dG+1<=yY c n/\c.sT*c.dG<=yY c n/\c.sT*(2*c.dG+1)+n*(c.dG+1)<=yY c n:=by
 unfold yY;have h1:c.sT*(2*c.dG+2)=c.sT*(2*c.dG+1)+c.sT:=by rw[show 2*c.dG+2=2*c.dG+1+1 from rfl,Nat.mul_add,Nat.mul_one]
 have h2:n*(2*c.dG+1)=n*(c.dG+1)+n*c.dG:=by rw[<-Nat.mul_add];congr 1;omega
 have h3:1*(c.dG+1)<=n*(c.dG+1):=QR _ hn;have h4:c.sT*(2*c.dG+1)=c.sT*c.dG+c.sT*(c.dG+1):=by rw[<-Nat.mul_add];congr 1;omega
 omega
section
variable{N:BS}{W0 w:aH}{S:BS}{a wa n:Nat}{W:iS}{E:qB}{G:Gr}{B:Int}
def xB.TR{rh:Sl}{hs:List rC}{k k':Nat}{W':iS}{w':aH}{S':BS}(g:xB N G B n E.e a wa W w S rh hs k W' w' S')(h:k<=k'):xB N G B n E.e a wa W w S rh hs k' W' w' S':=⟨g.x,g.up,g.BX,g.ok,g.dJ,by have:=g.len;omega,g.dQ,g.hl⟩
def srv_sent{v1 v':iT}{w1:aH}{S1 CH:BS}{r:Sl}{ps:List Pk}{Q:aH->Prop}(h:iN N E.e a wa W w S)(ok:ZJ G B n W)(FP:W.iR.length<=800000)(hN:∀k,N k->k<w.heap.size)
  (eJ:∀v' w' CH,iJ E.e a v' w' CH->Up S1 CH w w'->∃S',iN N E.e a wa {W with v:=v'} w' S'/\Up S S' w w'/\∀k,S' k->CH k\/k<w.heap.size) (g:ChgS G B E.e a W.v v1 w S1 r ps v' w1 CH) (Ep:v1.dJ=W.v.dJ/\v1.t=W.v.t/\v1.dQ=W.v.dQ)
  (hQ:∀w2 S3,xB N G B n E.e a wa W w S bD [] (yY W.v.dJ n) (({W with v:=v'}:iS).add (ps.map Oh)) w2 S3->ChgR_q W.v v1 W (({W with v:=v'}:iS).add (ps.map Oh)) []->Q w2):rT (some ⟨wa,0,none⟩) r w1 Q:=by
 obtain⟨S2,h2,u2,e2⟩:=eJ v' w1 CH g.Fy g.up;have hn:=ok.len;have QS:=ok.v.dJ.dG;have gl:=g.len;have l1:W.v.t.bI.length<=W.v.dJ.sT:=by have:=ok.v.t.len;have:=ok.v.fF;omega
 have l2:W.v.t.bI.length*W.v.dJ.dG<=W.v.dJ.sT*W.v.dJ.dG:=QR _ l1;have l3:=(Zj ok.v.dJ hn.2.1).2.1;have lw:W.v.dJ.sT*W.v.dJ.dG<=16*16:=TS ok.v.dJ.sT.2 QS.2;have ec:v'.dJ=W.v.dJ:=g.same.dJ.trans Ep.1;have et:v'.t=W.v.t:=g.same.t.trans Ep.2.1;refine Uj h2 (Tz (g.row.cov e2) hN) (by show W.iR.length+_<=_;omega) λw4 S4 h4 u4=>?_;refine hQ w4 S4 ⟨h4,u2.tr u4,fO.nil,Ic ⟨NL g.ok aB,by have:=ok.b0;omega,ok.len,λp hp=>⟨(ok.ds p hp).1.mono aB,(ok.ds p hp).2.trans ec.symm⟩,ok.iR,λe he=>ok.bI e (by rw[<-et];exact he)⟩ λx hx=>?_,ec,by show(W.iR++_).length<=_;rw[fN,lT];omega,by show v'.dQ<=_;rw[g.same.dQ,Ep.2.2];omega,cY _⟩ ⟨v',ps,g.same,g.nil,rfl,rfl⟩;obtain⟨p,hp,rfl⟩:=mQ.1 hx;exact⟨(g.pks p hp).1,λh=>by cases h⟩
def Yr(K:iS->GP->Prop):=∀(N:BS) (W0 w:aH) (S:BS) (a wa n:Nat) (W:iS) (E:qB) (G:Gr) (B:Int) (ev:GP) (sl:Sl) (Q:WQ Sl),K W ev->iN N E.e a wa W w S->(∀k,N k->k<w.heap.size)->Bs W0 E G S w->ZJ G B n W->B<=1000000000->W.iR.length<=800000->W.v.dQ<1000000000->Rd w sl 1 eU ev.Ws->JM sl S w->ev.Ws.length<=5000->
 (∀rh hs W' w' S',xB N G B n E.e a wa W w S rh hs (yY W.v.dJ n) W' w' S'->MC G W ev W' hs->Q rh w')->NT (some ⟨wa,0,none⟩) (Rx (ev,sl)) w Q
inductive kv(G:Gr):iS->List GP->iS->List rC->Prop
 |nil {W:iS}:kv G W [] W []
 |iB {W:iS} {QN:List GP} {W1:iS} {hs:List rC} {ev:GP} {W2:iS} {LU:List rC}:kv G W QN W1 hs->MC G W1 ev W2 LU->kv G W (QN++[ev]) W2 (hs++LU)
abbrev RowE:=xK (α:=GP) eU 5 vz GP.Ws
structure DoO(N:BS)(G:Gr)(B:Int)(n:Nat)(ee a wa:Nat)(W:iS)(w:aH)(S:BS)(rh:Sl)(hs:List rC)(c:Nat)(W':iS)(w':aH)(S':BS):Prop where
 x:iN N ee a wa W' w' S'
 up:Up S S' w w'
 BX:Hh w.heap.size S' w' rh hs
 ok:ZJ G (B+16*c) n W'
 dJ:W'.v.dJ=W.v.dJ
 len:W'.iR.length<=W.iR.length+c*yY W.v.dJ n
 dQ:W'.v.dQ<=W.v.dQ+c
 hl:hs.length<=c*20
def iN.TZ{N':BS}(h:iN N E.e a wa W w S)(hb:W.iR=[]):iN N' E.e a wa W w S:=by
 obtain⟨xD,xs,h1,h2,h3⟩:=h.ex;rw[hb] at h1;have:xs=[]:=List.map_eq_nil_iff.1 h1;subst this;exact⟨xD,[],by rw[hb];rfl,h2,λx hx=>by cases hx⟩
def iN.Rw{N':BS}(h:iN N E.e a wa W w S)(hN:∀k,N' k->N k\/w.heap.size<=k):iN N' E.e a wa W w S:=by
 obtain⟨xD,xs,h1,h2,h3⟩:=h.ex;exact⟨xD,xs,h1,h2,λx hx=>⟨(h3 x hx).1,(h3 x hx).2.o,λb hb hn=>(hN _ hn).elim ((h3 x hx).2.n b hb) λh=>by have:=((h3 x hx).2.o b hb).2;omega⟩⟩
def iN.ov{w':aH}{F:BS}(h:iN N E.e a wa W w S)(m:aU F w w')(hF:∀k,F k->N k/\¬S k):iN N E.e a wa W w' S:=by
 obtain⟨xD,xs,h1,h2,h3⟩:=h.ex;exact⟨xD,xs,h1,bJ.aK h2 m λk hk hf=>(hF k hf).2 hk,λx hx=>⟨(h3 x hx).1.aK m fV λb hb hf=>(h3 x hx).2.n b hb (hF _ hf).1,λb hb=>⟨((h3 x hx).2.o b hb).1,pP ((h3 x hx).2.o b hb).2 m.size⟩,(h3 x hx).2.n⟩⟩
def do_i{K:iS->GP->Prop}(jL:Yr K){QN:Sl}{l:List GP}{Q:Sl->aH->Prop}(hK:∀W1 ev,ev∈l->(l.length=1->W1=W)->K W1 ev)(h:iN N E.e a wa W w S)(hN:∀k,N k->k<w.heap.size)(hb:Bs W0 E G S w)(ok:ZJ G B n W)(hB:B+16*l.length<=1000000000)(hll:l.length<=100)(FP:W.iR.length+l.length*2000<=800000)(MM:W.v.dQ+l.length<=1000000000)(hr:RowE (λk=>¬S k/\k<w.heap.size) w QN l)(hl:∀ev∈l,ev.Ws.length<=5000)
  (hQ:∀rh hs W' w' S',DoO N G B n E.e a wa W w S rh hs l.length W' w' S'->kv G W l W' hs->Q rh w'):AU (some ⟨wa,0,none⟩) QN w Q:=by
 unfold AU;have hlr:=hr.len;have hn:=ok.len;have hmu:yY W.v.dJ n<=2000:=by unfold yY;have h1:=ok.v.dJ.sT;have h2:=ok.v.dJ.dG;have h3:W.v.dJ.sT*(2*W.v.dJ.dG+2)<=16*34:=TS h1.2 aB;have h4:n*(2*W.v.dJ.dG+1)<=16*33:=TS aB aB;omega
 refine aF (λh=>by simp at h) (λ_=>?_);refine bK (λc t w1=>∃(i:Nat) (rh:Sl) (hs:List rC) (W1:iS) (S1:BS),i<=l.length/\c=l.length-i/\t=(rh,(i:Int),())/\DoO (λk=>N k\/BL rh k) G B n E.e a wa W w S rh hs i W1 w1 S1/\kv G W (l.take i) W1 hs/\hs.length<=i*20) l.length
  ⟨0,bD,[],W,S,cY _,rfl,rfl,⟨h.Rw λk hk=>hk.elim .inl λ⟨b,bW,_⟩=>(by cases bW),Up.refl _ _,fO.nil,ok.mono aB,rfl,by simp,aB,by simp⟩,.nil,cY _⟩ ?_
 rintro c t w1 ⟨i,rh,hs,W1,S1,hi,rfl,rfl,g,kq,hhl⟩ X hX;dsimp only;refine aI (λcD=>?_) (λkF=>?_)
 ·have dL:i<l.length:=aB;have cI:=cL dL;have gG:=oF dL;have sZ:=oH dL;generalize l[i]=ev at*;obtain⟨q,sl,hq,hh,BX,ZB⟩:=(hr.aK eEv_ne g.up.m λk hk _=>hk.1).get cI;have z1:=g.up.size;rw[dU,pI i aB];refine⟨⟨aB,cD⟩,aA hq (aZ (l:=kEv) (Rx (ev,sl)) hh ?_)⟩;refine fM (zs:=vz (⟨0,0,0,0,[]⟩,bD)) (vs:=vz (ev,sl)) qq rfl (oneEv _) λw3 o3 k3 z3=>?_;refine aZ (l:=kEv) (Rx (ev,sl)) (o3.holds λj v hj=>by rw[gK];exact hj) ?_;have hos:JM sl S1 w1:=λb bW=>⟨λhs=>(g.up.s _ hs).elim (ZB b bW).1.1 λh=>by have:=(ZB b bW).1.2;omega,(ZB b bW).2⟩;have glen:=g.len;have im:i*yY W.v.dJ n<=i*2000:=Nat.mul_le_mul_left _ hmu;have gnow:=g.dQ;have hi2:i*2000+2000<=l.length*2000:=by have:(i+1)*2000<=l.length*2000:=QR _ dL;omega
  refine jL _ _ _ _ _ _ _ _ _ _ _ _ _ _ (hK _ _ gG λh1=>by
   have e0:i=0:=aB;subst e0;generalize he:l.take 0=l0 at kq;cases kq with
   |nil=>rfl
   |iB _ _=>simp at he) (g.x.kp k3) (λk hk=>hk.elim (λh=>by have:=hN k h;have:=k3.size;omega) λ⟨b,bW,e⟩=>by have:=g.BX.lt bW;have:=k3.size;omega) ((hb.up g.up).kp k3) g.ok aB aB aB (BX.aK k3 fV λ_ _=>id) (hos.kp k3) (hl ev gG) λrh2 LU W2 w4 S4 g4 DT=>?_
  have U4:Up S1 S4 w1 w4:=(Up.aO k3).tr g4.up;have bd4:=g4.x.lt;have ghl:=g4.hl;have z4:=g4.up.size;have h0:=g.BX.up U4;refine fO.na OF Yf oneHd aB h0 (g4.BX) aB (λb bW=>by have:=g.BX.lt bW;omega) aB aB bd4 λr' w5 v5 m5 nb5=>?_;have nS:∀k,BL rh k->¬S4 k:=λk hk=>(h0.AJ k hk).2;have x4:=g4.x.Rw (N':=λk=>BL rh k\/(N k\/BL r' k)) λk hk=>hk.elim (λh=>.inl (.inr h)) λhk=>hk.elim (λh=>.inl (.inl h)) λ⟨b,bW,e⟩=>(nb5 b bW).imp (λ⟨a',mY,e2⟩=>.inr ⟨a',mY,by rw[e,e2]⟩) λh=>aB;have x5:=(x4.ov m5 λk hk=>⟨.inl hk,nS k hk⟩).Rw (N':=λk=>N k\/BL r' k) λk hk=>.inl (.inr hk)
  ·have m5':=m5.mono (G:=λk=>w.heap.size<=k/\¬S4 k) λk _ hk=>h0.AJ k hk;have g4len:=g4.len;have g4now:=g4.dQ;rw[g.dJ] at g4len;have e1:(i+1)*yY W.v.dJ n=i*yY W.v.dJ n+yY W.v.dJ n:=by rw[Nat.add_mul,Nat.one_mul]
   refine hX _ _ _ aB ⟨i+1,r',hs++LU,W2,S4,dL,rfl,rfl,⟨x5,Up.iA (g.up.tr U4) m5',v5,g4.ok.mono aB,g4.dJ.trans g.dJ,aB,aB,by rw[fN];omega⟩,by rw[sZ];exact .iB kq DT,by rw[fN];omega⟩
 ·have ei:i=l.length:=aB;subst ei;rw[oV] at kq;exact hQ rh hs W1 w1 S1 ⟨g.x.Rw λ_ h=>.inl (.inl h),g.up,g.BX,g.ok,g.dJ,g.len,g.dQ,g.hl⟩ kq
end
end
section
def KS(T:Prop)(C:iS->Prop)(W:iS)(ev:GP):=ev.kind=1\/(T/\C W/\ev.kind=4)\/ev.kind=5\/ev.kind=7\/ev.kind=11
def qc(C:iS->Prop):=∀(N:BS) (W0 w:aH) (S:BS) (a wa n:Nat) (W:iS) (E:qB) (G:Gr) (B:Int) (Q:aH->Prop),C W->iN N E.e a wa W w S->(∀k,N k->k<w.heap.size)->Bs W0 E G S w->ZJ G B n W->B<=1000000000->W.iR.length<=800000->W.v.dQ<1000000000->
 (∀W' w' S',xB N G B n E.e a wa W w S bD [] (W.v.dJ.sT*(2*W.v.dJ.dG+1)+n*(W.v.dJ.dG+1)) W' w' S'->TickR W W'->Q w')->IG (some ⟨wa,0,none⟩) w Q
section
variable{N:BS}{W0 w:aH}{S:BS}{a wa n:Nat}{W:iS}{E:qB}{G:Gr}{B:Int}
def drivesS_i{ev:GP}{sl:Sl}{Q:Sl->aH->Prop}(h:iN N E.e a wa W w S)(hN:∀k,N k->k<w.heap.size)(hb:Bs W0 E G S w)(ok:ZJ G B n W)(hB:B<=1000000000)(FP:W.iR.length<=800000)(hr:Rd w sl 1 eU ev.Ws)(ho:JM sl S w)(hl:ev.Ws.length<=5000)(hk711:ev.kind=7\/ev.kind=11)
  (hQ:∀rh hs W' w' S',xB N G B n E.e a wa W w S rh hs (W.v.dJ.dG+1) W' w' S'->DrvsR G W ev W' hs->Q rh w'):EY (some ⟨wa,0,none⟩) (Rx (ev,sl)) w Q:=by
 unfold EY;have lt0:=h.lt;have hn:=ok.len;refine cM (cs:=vz (ev,sl)) λw1 b1 k1 z1=>aE (k:=.i) ev.d (aP b1 rfl) ?_;have h1:=h.kp k1;refine Qo h1 aB (λd dv h0 hi=>?_) (λqU=>?_)
 ·refine aF (λh=>by simp at h) (λ_=>?_);obtain⟨S1,hS1,wZ,c0,_⟩:=h1.Fy;refine aA rfl (aE (k:=.ptr) (some ⟨a,0,none⟩) c0 (Tp hS1 ?_));obtain⟨S2,hD,LU,eJ⟩:=h1.drv hi;have okd:=ok.ds _ (kR hi);obtain⟨i,hie⟩:∃i:Nat,ev.d=(i:Int):=⟨ev.d.toNat,aB⟩;have hti:ev.d.toNat=i:=aB;rw[hti] at hi eJ;intro J1 OV;have j1:∀r ds xC w6 S6,Xu B d dv w1 S2 r ds xC w6 S6->(ev.kind=11->False)->(ev.kind=7->Ab dv ev.m ev.n xC ds)->J1 (r,()) w6:=λr ds xC w6 S6 g Rq h7=>by
   apply OV;have ob:cX w6 w.heap.size Te (vz (ev,sl)):=b1.1.aK g.up.m λhs=>by have:=lt0 _ (LU _ hs);omega
   refine aE (k:=.i) ev.d (dR ob rfl) ?_;rw[hie];refine drv_sent h1 hi ok FP (λk hk=>pP (hN k hk) k1.size) eJ g λw7 S7 h7' u7 Gc l7=>?_;refine hQ _ [] _ w7 S7 ⟨h7',(Up.aO k1).tr u7,fO.nil,Gc,rfl,by show(W.iR++_).length<=_;simp;omega,by show W.v.dQ<=_;omega,cY _⟩ λ_=>⟨λhk=>⟨d,dv,xC,ds,by rw[hti];exact hi,h7 hk,by rw[hti,hie],rfl⟩,λhk=>(Rq hk).elim⟩
  refine aE (k:=.i) ev.kind (aP b1 rfl) (aF (λhk=>?_) (λhk7=>aF (λhk=>?_) (λhk8=>aF (λhk=>?_) (λhk9=>aF (λhk=>?_) (λhk10=>aF (λhk=>?_) (λhk11=>?_))))))
  ·have lM:ev.kind=7:=by simpa using hk
   refine aE (k:=.i) ev.m (aP b1 rfl) (aE (k:=.i) ev.n (aP b1 rfl) (DStart_i hD okd.1 ⟨ok.b0,aB⟩ λr ds e v' w6 S6 g vO=>j1 r ds v' w6 S6 g (λh=>aB) λ_=>vO))
  ·have lM:ev.kind=8:=by simpa using hk
   omega
  ·have lM:ev.kind=9:=by simpa using hk
   omega
  ·have lM:ev.kind=10:=by simpa using hk
   omega
  ·have lM:ev.kind=11:=by simpa using hk
   refine aE (k:=.i) ev.d (aP b1 rfl) (aE (k:=.slice) sl (aP b1 rfl) ?_);have cD:=(eR.1 hi).1;refine za h1 (λk hk=>pP (hN k hk) k1.size) (hb.kp k1) ok aB ⟨h0,aB⟩ FP (hr.aK k1 fV λ_ _=>id) (ho.kp k1) hl λrh hs v' ps w' S' g DT=>?_;exact hQ rh hs _ w' S' ⟨g.x,(Up.aO k1).tr g.up,g.BX.qT k1.size,g.ok,g.dJ,g.len,g.dQ,g.hl⟩ λ_=>⟨λh=>aB,λ_=>⟨v',ps,DT,rfl⟩⟩
  ·have n7:¬ev.kind=7:=by simpa using hk7
   have n11:¬ev.kind=11:=by simpa using hk11
   omega
 ·exact aF (λ_=>hQ _ [] W w1 S (xB.same h ok k1 _) λhh=>absurd hh qU) (λh=>by simp at h)
def oneS_1{T:Prop}{C:iS->Prop}(tk:T->qc C){ev:GP}{sl:Sl}{Q:Sl->aH->Prop}(hks:KS T C W ev)(h:iN N E.e a wa W w S)(hN:∀k,N k->k<w.heap.size)(hb:Bs W0 E G S w)(ok:ZJ G B n W)(hB:B<=1000000000)(FP:W.iR.length<=800000)(MM:W.v.dQ<1000000000)(hr:Rd w sl 1 eU ev.Ws)(ho:JM sl S w)(hl:ev.Ws.length<=5000)
  (hQ:∀rh hs W' w' S',xB N G B n E.e a wa W w S rh hs (yY W.v.dJ n) W' w' S'->MC G W ev W' hs->Q rh w'):NT (some ⟨wa,0,none⟩) (Rx (ev,sl)) w Q:=by
 unfold NT;have hn:=ok.len;have hmu:=Zj ok.v.dJ hn.2.1;refine cM (cs:=vz (ev,sl)) λw1 b1 k1 z1=>aE (k:=.i) ev.kind (aP b1 rfl) ?_;have h1:=h.kp k1;have VR:=hb.kp k1;have hN1:∀k,N k->k<w1.heap.size:=λk hk=>pP (hN k hk) k1.size;have tev:bQ w1 ⟨w.heap.size,0,none⟩ 0 (rJ kEv (Rx (ev,sl))):=b1.1.holds λj v hj=>by rw[gK];exact hj
 have dX:∀rh hs W' w' S',xB N G B n E.e a wa W w1 S rh hs (yY W.v.dJ n) W' w' S'->MC G W ev W' hs->Q rh w':=λrh hs W' w' S' g DT=>hQ rh hs W' w' S' ⟨g.x,(Up.aO k1).tr g.up,g.BX.qT k1.size,g.ok,g.dJ,g.len,g.dQ,g.hl⟩ DT;intro J1 OV;have j1:∀b:Bool,(b=true↔(ev.kind=1\/ev.kind=2\/ev.kind=3))->J1 (b,()) w1:=λb hbk=>by
  apply OV;refine aF (λhbt=>?_) (λhbf=>?_)
  ·have hk:=hbk.1 hbt;refine aZ (l:=kEv) (Rx (ev,sl)) tev (between_i h1 hN1 VR ok aB FP λrh hs W' w' S' g DT=>?_);exact dX rh hs W' w' S' (g.TR hmu.1) ⟨λ_=>DT,λh=>aB,λh=>aB,λh=>aB⟩
  ·have hk:¬(ev.kind=1\/ev.kind=2\/ev.kind=3):=λh=>by have hbf':b=false:=hbf;rw[hbk.2 h] at hbf';cases hbf'
   refine aF (λhk4=>?_) (λhk4=>aF (λWz=>?_) (λWz=>aF (λhk6=>?_) (λhk6=>?_)))
   ·have hk4':ev.kind=4:=by simpa using hk4
    obtain⟨hT,hC⟩:T/\C W:=by
     rcases hks with h|⟨h,h',_⟩|h|h|h
     ·omega
     ·exact⟨h,h'⟩
     ·omega
     ·omega
     ·omega
    refine tk hT _ _ _ _ _ _ _ _ _ _ _ _ hC h1 hN1 VR ok hB FP MM λW' w' S' g DT=>?_;exact dX _ [] W' w' S' (g.TR hmu.2.2) ⟨λh=>absurd h hk,λ_=>⟨DT,rfl⟩,λh=>aB,λh=>aB⟩
   ·have hk5':ev.kind=5:=by simpa using Wz
    have h1d:=h1.kp (cB w1);have b1d:=bJ.dr b1;obtain⟨S1,hS1,wZ,c0,eJ⟩:=h1d.Fy;refine aA rfl (aE (k:=.ptr) (some ⟨a,0,none⟩) c0 (aE (k:=.i) ev.n (aP b1d rfl) (aE (k:=.i) ev.m (aP b1d rfl) ?_)));refine VClose_i hS1 ((VR.kp (cB w1)).sub wZ) ok.v λr ps er v' w5 S5 g=>?_;refine srv_sent h1d ok FP hN1 eJ g ⟨rfl,rfl,rfl⟩ λw7 S7 g7 DT=>?_;exact dX _ [] _ w7 S7 ⟨g7.x,(Up.aO (cB w1)).tr g7.up,fO.nil,g7.ok,g7.dJ,g7.len,g7.dQ,g7.hl⟩ ⟨λh=>absurd h hk,λh=>aB,λ_=>DT,λh=>aB⟩
   ·have hk6':ev.kind=6:=by simpa using hk6
    rcases hks with h|⟨_,_,h⟩|h|h|h<;>omega
   ·have n4:¬ev.kind=4:=by simpa using hk4
    have n5:¬ev.kind=5:=by simpa using Wz
    intro J2 Rp;have j2:∀b2:Bool,(b2=false->¬ev.kind=7/\¬ev.kind=11)->J2 (b2,()) w1:=λb2 QM=>by
     apply Rp;refine aF (λhbt=>?_) (λhbf=>?_)
     ·refine aZ (l:=kEv) (Rx (ev,sl)) tev (drivesS_i h1 hN1 VR ok hB FP (hr.aK k1 fV λ_ _=>id) (ho.kp k1) hl (by rcases hks with h|⟨_,_,h⟩|h|h|h<;>omega) λrh hs W' w' S' g DT=>?_);exact dX rh hs W' w' S' (g.TR hmu.1) ⟨λh=>absurd h hk,λh=>absurd h n4,λh=>absurd h n5,λ_=>DT⟩
     ·have:=QM hbf;exact dX _ [] W w1 S (xB.same h1 ok (aU.refl _ _) _) ⟨λh=>absurd h hk,λh=>absurd h n4,λh=>absurd h n5,λh=>aB⟩
    have tr:∀k:Int,(ev.kind==k)=true->J2 ((ev.kind==k),()) w1:=λk hk=>j2 _ λh=>by rw[hk] at h;cases h
    refine aF (λh=>tr 7 h) (λh7=>aF (λh=>tr 8 h) (λ_=>aF (λh=>tr 9 h) (λ_=>aF (λh=>tr 10 h) (λ_=>j2 _ λh=>⟨by simpa using h7,by simpa using h⟩))))
 refine aF (λhk=>j1 _ ?_) (λRB=>aF (λhk=>j1 _ ?_) (λGS=>j1 _ ?_))
 ·simp at hk ⊢;omega
 ·simp at hk ⊢;omega
 ·simp at RB GS ⊢;omega
end
def oneS_i{T:Prop}{C:iS->Prop}(tk:T->qc C):Yr (KS T C):=λ_ _ _ _ _ _ _ _ _ _ _ _ _ _ hks h hN hb ok hB FP MM hr ho hl hQ=>oneS_1 tk hks h hN hb ok hB FP MM hr ho hl hQ
end
section
section
variable{W0 w:aH}{S:BS}{a:Nat}{v:iT}{E:qB}{G:Gr}{B:Int}{ee:Nat}
def VTick0_i{Q:Sl->aH->Prop}(h:iJ E.e a v w S)(hb:Bs W0 E G S w)(ok:v.Ok G B)(hn:v.dQ<1000000000)(Ha:v.t.bI=[])
  (hQ:∀r v' w' S',iJ E.e a v' w' S'->Up S S' w w'->xL w.heap.size S' w' r []->v'.Ok G B->TickV v v' []->Q r w'):PS (some ⟨a,0,none⟩) w Q:=by
 unfold PS;have MM:=ok.dQ;refine aF (λh=>by simp at h) (λ_=>aA rfl (aE (k:=.i) v.dQ (h.cell rfl) (aA rfl ?_)));rw[iH aB aB];refine h.tick (v.dQ+1) λw1 S1 h1 u1=>?_;have Lt:(v.UG (v.dQ+1)).Ok G B:=⟨ok.dJ,⟨by show(0:Int)<=v.dQ+1;omega,by show v.dQ+1<=_;omega⟩,ok.u,ok.t,ok.fF,ok.ch,ok.JI,λe he=>by have:=ok.VT e he;exact⟨this.1,this.2.1,by show e.lH<=v.dQ+1;omega⟩,ok.lost⟩;have h1d:=bJ.dr h1;refine aA rfl (aE (k:=.ptr) (some ⟨v.sp,0,none⟩) (h1d.cell rfl) (aA rfl (aE (k:=.i) (v.dQ+1) (h1d.cell rfl) ?_)));obtain⟨S2,h2,LU,HP⟩:=h1d.putSet;refine Lapse_i h2 Lt.u.2 λrl w3 S3 h3 u3=>?_;obtain⟨S4,h4,u4⟩:=HP _ _ w3 S3 u3 h3;obtain⟨S5,S6,h5,h6,d56,e56⟩:=h4;have U5:Up S S5 w w3:=((u1.tr (Up.aO (cB w1))).tr u4).tr (Up.sub w3 λk hk=>(e56 k).2 (.inl hk));have o6:JM rl S5 w3:=λb bW=>⟨λhk=>d56 _ hk ((h6.2 _).2 ⟨b,bW,rfl⟩),h6.1.lt bW⟩;have ur:((v.UG (v.dQ+1)).Gq (FV (v.dQ+1) v.u (gE 0 v.u))).Ok G B:=Lt.Gq (Zn _ _ _);have lll:(ZM (v.dQ+1) (gE 0 v.u)).length<=1000:=by unfold ZM;rw[lT];have h1:=xG (λp:Int×Int=>decide (p.2<=v.dQ+1)) (gE 0 v.u);have h2:=PQ v.u 0;have h3:=ok.u.2;omega
 refine Qj (v:=(v.UG (v.dQ+1)).Gq (FV (v.dQ+1) v.u (gE 0 v.u))) h5 (hb.up U5) ur (sh:=[]) (Rd.nil _ _ _) (λb bW=>by cases bW) (h6.1.rd eY) o6 ⟨by simp,lll⟩ λr1 TK v3 w4 S7 h7 u7 v7 Gc Dd hl7 pk7 nil7=>?_;have U7:=U5.tr u7;obtain⟨rfl,rfl⟩:=nil7 (.inr Ha);have U8:∀{w8:aH},aL w4 w8->Up S S7 w w8:=λk=>U7.tr (Up.aO k);refine aA rfl (aE (k:=.ptr) (some ⟨v.tp,0,none⟩) (h7.cell rfl) ?_);obtain⟨ST,hT,_⟩:=h7.Fx;refine Ik hT Gc.t λs3 w5 v5 k5 f5=>?_;have Dj:s3.l=0:=by rw[v5.len,lT];show v.t.bI.length=0;rw[Ha];rfl
 intro X1 hX1;refine hX1 _ _ ?_;dsimp only;refine aI (λh=>by rw[Dj] at h;simp at h) (λ_=>?_);have h5':=bJ.kp h7 k5;refine aA rfl (aE (k:=.ptr) (some ⟨v.tp,0,none⟩) (h5'.cell rfl) ?_);obtain⟨ST8,hT8,_⟩:=h5'.Fx;refine Ik hT8 Gc.t λs9 w9 v9 k9 f9=>?_;have hs9:s9.l=0:=by rw[v9.len,lT];show v.t.bI.length=0;rw[Ha];rfl
 intro X2 hX2;refine hX2 _ _ ?_;dsimp only;refine aI (λh=>by rw[hs9] at h;simp at h) (λ_=>?_);have h9:=bJ.kp h5' k9;refine aA rfl (aE (k:=.map) (some v.lp) (h9.cell rfl) (h9.clear λeQ Ru Rq Vw=>?_));have UU:Up S Ru w eQ:=(U8 (k5.tr k9)).tr Vw;refine hQ r1 _ eQ Ru Rq UU (((v7.kp (k5.tr k9)).up Vw).qT U5.size) ?_ ⟨rfl,rfl,rfl,λf hf=>hf,λ_ _=>⟨?_,rfl,?_,λe he=>?_,rfl,λk=>rfl⟩⟩
 ·exact⟨Gc.dJ,Gc.dQ,Gc.u,Gc.t,Gc.fF,Gc.ch,Gc.JI,Gc.VT,λk hk=>(by cases hk)⟩
 ·show v.t.bI=v.t.bI.filter _;rw[Ha];rfl
 ·rw[Ha];exact .nil
 ·rw[Ha] at he;cases he
end
def Nob(W:iS):=W.v.t.bI=[]/\∀p∈W.ds,p.2.oW=false
section
variable{N:BS}{W0 w:aH}{S:BS}{a wa n:Nat}{W:iS}{E:qB}{G:Gr}{B:Int}
def tick0_i{Q:aH->Prop}(h0:Nob W)(h:iN N E.e a wa W w S)(hN:∀k,N k->k<w.heap.size)(hb:Bs W0 E G S w)(ok:ZJ G B n W)(FP:W.iR.length<=800000)(MM:W.v.dQ<1000000000)
  (hQ:∀W' w' S',xB N G B n E.e a wa W w S bD [] (W.v.dJ.sT*(2*W.v.dJ.dG+1)+n*(W.v.dJ.dG+1)) W' w' S'->TickR W W'->Q w'):IG (some ⟨wa,0,none⟩) w Q:=by
 unfold IG;have hn:=ok.len;obtain⟨S1,hS1,wZ,c0,eJ⟩:=h.Fy;refine aA rfl (aE (k:=.ptr) (some ⟨a,0,none⟩) c0 (VTick0_i hS1 (hb.sub wZ) ok.v MM h0.1 λr v' w1 CH gs gu grow gok tv=>?_));obtain⟨S2,h2,u2,e2⟩:=eJ v' w1 CH gs gu;refine Uj h2 (Tz (grow.cov e2) hN) (by show W.iR.length+0<=_;omega) λw3 S3 Wk u3=>?_;have eW:(({W with v:=v'}:iS).add (([]:List Pk).map Oh))={W with v:=v'}:=by show(⟨v',W.ds,W.iR++[],W.row⟩:iS)=_;rw[rF]
 rw[eW] at Wk;obtain⟨W3,hW3⟩:∃W3:iS,W3={W with v:=v'}:=⟨_,rfl⟩;rw[<-hW3] at Wk;have JL:W3.ds=W.ds:=by rw[hW3]
 have pQ:W3.row=W.row:=by rw[hW3]
 have Dv:W3.iR=W.iR:=by rw[hW3]
 have hv3:W3.v=v':=by rw[hW3]
 obtain⟨c1,Ow⟩:=Wk.rowAt;rw[pQ] at c1 Ow;have U3:=u2.tr u3;refine aA rfl (aE (k:=.slice) W.row c1 ?_);have ll:=Ow.len;rw[lT,JL] at ll;refine bK (λc t w5=>∃(i:Nat) (S5:BS),i<=n/\c=n-i/\t=((i:Int),())/\iN N E.e a wa W3 w5 S5/\Up S S5 w w5) n
  ⟨0,S3,cY _,rfl,rfl,Wk,U3⟩ ?_
 rintro c t w5 ⟨i,S5,hi,rfl,rfl,h5,u5⟩ X hX;dsimp only;refine aI (λcD=>?_) (λkF=>?_)
 ·have dL:i<n:=aB;have hiw:i<W3.ds.length:=by rw[JL];omega
  obtain⟨⟨d,dv⟩,Es⟩:∃p,W3.ds[i]? =some p:=⟨_,cL hiw⟩;have hdead:dv.oW=false:=h0.2 (d,dv) (by rw[<-JL];exact kR Es);obtain⟨_,hrd5⟩:=h5.rowAt;rw[pQ] at hrd5;obtain⟨q,hq,cq⟩:=bR (k:=.ptr) (e:=λx=>x) hrd5 (show(TQ W3.ds)[i]? =some (some ⟨d,0,none⟩) by rw[oG,Es];rfl);obtain⟨S6,hS6,Of,c6,_⟩:=h5.Fy;rw[dU,pI i aB];refine⟨⟨aB,cD⟩,aA hq (aE (k:=.ptr) (some ⟨d,0,none⟩) cq (aA rfl (aE (k:=.ptr) (some ⟨a,0,none⟩) c6 (Tp hS6 ?_))))⟩;obtain⟨S7,hD,hs7,_⟩:=h5.drv Es;unfold Ap;refine aAm hD (aF (λ_=>?_) (λh=>by rw[hdead] at h;simp at h));refine wj h5 (bs:=[]) ⟨[],rfl,Rd.nil _ _ _,λb hb=>(by cases hb),λx hx=>(by cases hx)⟩ (by rw[Dv];simp;omega) λw6 S6' h6 u6=>?_;have e6:W3.add (([]:List (List cH)).map (Rj (i:Int)))=W3:=by show(⟨W3.v,W3.ds,W3.iR++[],W3.row⟩:iS)=_;rw[rF]
  rw[e6] at h6;exact hX _ _ _ aB ⟨i+1,S6',dL,rfl,rfl,h6,u5.tr u6⟩
 ·have ew:W.v.dJ=v'.dJ:=tv.dJ.symm;refine hQ W3 w5 S5 ⟨h5,u5,fO.nil,⟨?_,by have:=ok.b0;omega,by rw[JL];exact hn,λp hp=>?_,by rw[Dv];exact ok.iR,λe he=>?_⟩,by rw[hv3];exact tv.dJ,by rw[Dv];omega,by rw[hv3,tv.dQ];omega,cY _⟩ ⟨[],[],by rw[hv3];exact tv,by rw[Dv];simp,by rw[JL],λj d dv hj=>⟨dv,[],by rw[JL];exact hj,?_⟩,λ_=>rfl⟩
  ·rw[hv3];exact NL gok aB
  ·rw[JL] at hp;rw[hv3];exact⟨(ok.ds p hp).1.mono aB,(ok.ds p hp).2.trans ew⟩
  ·rw[hv3] at he;have:=tv.bI e he;rw[h0.1] at this;cases this
  ·unfold Im;rw[if_neg (by rw[h0.2 (d,dv) (kR hj)];simp)];exact⟨rfl,rfl⟩
end
def tick0_ok:qc Nob:=λ_ _ _ _ _ _ _ _ _ _ _ _ h0 h hN hb ok _ FP MM hQ=>tick0_i h0 h hN hb ok FP MM hQ
end
section
abbrev RowU:=fO (α:=xJ) eU NA 3 Dl xJ.data
section
variable{N:BS}{W0 w:aH}{S:BS}{a wa n:Nat}{W:iS}{E:qB}{G:Gr}{B:Int}
def PR{Q:cW->aH->Prop}(h:iN N E.e a wa W w S)(hQ:Q (some ⟨a,0,none⟩) w):rV (some ⟨wa,0,none⟩) w Q:=by
 unfold rV;obtain⟨S1,_,_,c0,_⟩:=h.Fy;exact aF (λh=>by simp at h) (λ_=>aA rfl (aE (k:=.ptr) (some ⟨a,0,none⟩) c0 hQ))
def WBag_i{Q:Sl->aH->Prop}(h:iN N E.e a wa W w S)(hl:W.iR.length<=900000)(hd:∀u∈W.iR,u.data.length<=3000)(hQ:∀r w',RowU w.heap.size (λk=>k<w.heap.size) w' r W.iR->aL w w'->Q r w'):XX (some ⟨wa,0,none⟩) w Q:=by
 unfold XX;obtain⟨xD,c2,lb,pQ,_⟩:=h.PB;refine aF (λh=>by simp at h) (λ_=>aA rfl (aE (k:=.slice) xD c2 ?_));refine bK (λc t w1=>∃(i:Nat) (r:Sl),i<=W.iR.length/\c=W.iR.length-i/\t=(r,(i:Int),())/\aL w w1/\RowU w.heap.size (λk=>k<w.heap.size) w1 r (W.iR.take i)) W.iR.length
  ⟨0,bD,cY _,rfl,rfl,aU.refl _ _,fO.nil⟩ ?_
 rintro c t w1 ⟨i,r,hi,rfl,rfl,k1,v1⟩ X hX;dsimp only;refine aI (λcD=>?_) (λkF=>?_)
 ·have dL:i<W.iR.length:=aB;have cI:=cL dL;have gG:=oF dL;have sZ:=oH dL;generalize W.iR[i]=u at*;have hdu:=hd u gG;obtain⟨q,sl,hq,hh,BX,ZB⟩:=(pQ.kp eUn_ne k1).get cI;rw[dU,pI i aB];refine⟨⟨aB,aB⟩,aA hq (aZ (l:=[.i,.bool,.slice]) (u.d,u.up,sl,()) hh ?_)⟩;refine fM (zs:=Dl (⟨0,false,[]⟩,bD)) (vs:=Dl (u,sl)) Jy rfl (Yc _) λw3 o3 k3 z3=>?_;have k3d:=k3.tr (cB w3);have Mg:=o3.aK (cB w3) id;refine aE (k:=.i) u.d (dR Mg rfl) (aE (k:=.bool) u.up (dR Mg rfl) (aE (k:=.slice) sl (dR Mg rfl) ?_));refine wJ (BX.aK k3d fV λ_ _=>id) (show u.data.length<=1000000 by omega) λrc w4 S4 _ k4 _ rd4 f4=>?_;have o4:=Mg.aK k4 id;refine⟨dR o4 rfl,dR o4 rfl,?_⟩;have K4:=k3d.tr k4;have z1:=k1.size;have z3':=k3d.size;have z4:=k4.size;refine fO.iB EW WR Yc aB (v1.kp K4) (by rw[rA];omega) aB (λk hk=>aB) u (sl:=rc) rd4.1 (λb hb=>⟨by have:=f4 b hb;omega,λhk=>by have:=f4 b hb;omega,rd4.2.2.1 b hb,λb' bW e=>by have:=v1.lt bW;have:=f4 b hb;omega⟩) λr' w6 v6 m6=>?_;refine hX _ _ _ aB ⟨i+1,r',dL,rfl,rfl,(k1.tr K4).fresh m6 λk hk=>hk.1,by rw[sZ];exact v6⟩
 ·have ei:i=W.iR.length:=aB;subst ei;rw[oV] at v1;exact hQ r w1 v1 k1
end
def WldR(ee a wa:Nat)(GU:Sl)(rs:List cW)(v:iT)(ds:List (Nat×AO)):As:=
 bL (iJ ee a v) (bL (tE wa Tc (eW a GU bD)) (bL (pK NJ 1 Xa GU rs) (xA Xp ds)))
instance{ee a wa:Nat}{GU:Sl}{rs:List cW}{v:iT}{ds:List (Nat×AO)}:bJ (WldR ee a wa GU rs v ds):=by unfold WldR;infer_instance
def Yv{α:Type}{e:fL}{n:Nat}{aY:α->gJ}{w:aH}:pK e n aY bD ([]:List α) w (λ_=>False):=⟨dE.nil _ _ _ _,λk=>⟨False.elim,λ⟨b,hb,_⟩=>by cases hb⟩⟩
def WNew_i{g:GT}{G:Gr}{c:vU}{n:Nat}{w:aH}{Q:cW->Int->aH->Prop}(hg:JY w g G)(ok:sM G)(VJ:c.Ok)(hn:1<=n/\n<=16)
  (hQ:∀E a wa sp tp lp W0 GU ds w' S',iN (λ_=>False) E.e a wa ⟨JN c G.m sp tp lp,ds,[],GU⟩ w' S'->Bs W0 E G S' w'->aL w w'->aL w W0->ZJ G 0 n ⟨JN c G.m sp tp lp,ds,[],GU⟩->(∀k,S' k->w.heap.size<=k)->ds.map (·.2)=List.replicate n (QU c)->Q (some ⟨wa,0,none⟩) 0 w'):vC g (xI c) (n:Int) w Q:=by
 unfold vC;refine bG λw1 o1 k1 z1=>?_;refine cM (cs:=JU c) λw2 b2 k2 z2=>?_;have tc:∀{wx:aH},tE w1.heap.size yJ (JU c) wx (λk=>k=w1.heap.size)->bQ wx ⟨w1.heap.size,0,none⟩ 0 (rJ JR (xI c)):=λb=>b.1.holds λj v hj=>by rw[gK];exact hj
 refine aI (λh=>aB) (λ_=>aI (λh=>aB) (λ_=>?_));refine aZ (l:=[.slice,.slice,.slice]) g (qV (g:=g) (o1.aK k2 id)) (aZ (l:=JR) (xI c) (tc b2) ?_);have K2:=k1.tr k2;refine VNew_i (hg.aO K2) ok VJ λE a sp tp lp W0 w3 S3 h3 kr kW k3 lo3=>aF (λh=>by cases h) (λ_=>?_);have b3:=bJ.kp b2 k3;refine cM (cs:=eW a bD bD) λw4 b4 k4 z4=>?_;have bd3:=bJ.iF h3;have z2':=K2.size;have z3:=k3.size;have h4:WldR E.e a w3.heap.size bD [] (JN c G.m sp tp lp) [] w4 (λk=>S3 k\/(k=w3.heap.size\/(False\/False))):=
  bL.yH (bJ.kp h3 k4) (bL.yH b4 (bL.yH Yv (show xA Xp [] w4 (λ_=>False) fromλ_=>id) λ_ h _=>h) λ_ _ h=>h.elim id id) λk h1 h2=>h2.elim (λe=>by have:=bd3 k h1;omega) λh=>h.elim id id
 have b4':=bJ.kp b3 k4;refine bK (λcc t w5=>∃(i:Nat) (GU:Sl) (ds:List (Nat×AO)) (S5:BS),i<=n/\cc=n-i/\t=((i:Int),())/\WldR E.e a w3.heap.size GU (TQ ds) (JN c G.m sp tp lp) ds w5 S5/\Up S3 S5 w3 w5/\ds.map (·.2)=List.replicate i (QU c)/\tE w1.heap.size yJ (JU c) w5 (λk=>k=w1.heap.size)) n
  ⟨0,bD,[],_,cY _,rfl,rfl,h4,Up.new k4 λk hk=>by
   rcases hk with h|h|h
   ·exact .inl h
   ·exact .inr aB
   ·exact(h.elim id id).elim,rfl,b4'⟩ ?_
 rintro cc t w5 ⟨i,GU,ds,S5,hi,rfl,rfl,h5,u5,JL,b5⟩ X hX;dsimp only;have z5:=u5.size;have S5lo:∀k,S5 k->w2.heap.size<=k:=λk hk=>(u5.s k hk).elim (lo3 k) λh=>aB;have n1:¬S5 w1.heap.size:=λh=>by have:=S5lo _ h;omega
 have dl:ds.length=i:=by have:=congrArg List.length JL;simpa using this
 refine aI (λcD=>?_) (λkF=>?_)
 ·refine aZ (l:=JR) (xI c) (tc b5) (DNew_i VJ λw6 h6 hlt6 k6 hlo6=>?_);obtain⟨d,hd⟩:∃d,d=w6.heap.size-1:=⟨_,rfl⟩;rw[<-hd] at h6 hlo6 ⊢;have Oj:=bJ.iF h5;obtain⟨SV,SQ,hV,⟨SB,SR,hBl,⟨SW,SD,hRow,hAll,dWD,eWD⟩,dBR,eBR⟩,dVQ,eVQ⟩:=bJ.kp h5 k6;have iz:∀k,SB k\/SW k\/SD k->S5 k:=λk hk=>(eVQ k).2 (.inr ((eBR k).2 (hk.imp id λh=>(eWD k).2 h)));have c1:w6.cell? ((⟨w3.heap.size,0,none⟩:Addr).add 1)=some (aW GU):=aP hBl rfl;refine aE (k:=.slice) GU c1 ?_;refine cM (cs:=Xa (some ⟨d,0,none⟩)) λw7 b7 k7 z7=>?_;have Og:(TQ ds).length=i:=by simpa using dl
  refine fH Ni MW onePt (x:=⟨some ⟨w6.heap.size,0,none⟩,1,1⟩) ((hRow.1.aK k7 λ_ _=>id)) (lU MW [some ⟨d,0,none⟩] b7 rfl dP) (by simp;omega) (by simp;omega) λs2 w8 v8 m8 hr8 _=>?_;have mW:∀k,BL GU k->SW k:=λk ⟨b,hb,e⟩=>(hRow.2 k).2 ⟨b,hb,e⟩;have nB:∀k,SB k->¬BL GU k:=λk h1 h2=>dBR k h1 ((eWD k).2 (.inl (mW k h2)));have nD:∀k,SD k->¬BL GU k:=λk h1 h2=>dWD k (mW k h2) h1;have nV:∀k,SV k->¬BL GU k:=λk h1 h2=>dVQ k h1 ((eBR k).2 (.inr ((eWD k).2 (.inl (mW k h2)))));have n5:∀k,BL GU k->k<w5.heap.size:=λk h=>Oj k (iz k (.inr (.inl (mW k h))));have hBl8:tE w3.heap.size Tc (eW a GU bD) w8 SB:=bJ.aK (bJ.kp hBl k7) m8 nB;have hAll8:xA Xp ds w8 SD:=bJ.aK (bJ.kp hAll k7) m8 nD;have hV8:iJ E.e a (JN c G.m sp tp lp) w8 SV:=bJ.aK (bJ.kp hV k7) m8 nV;have h68:AS d (QU c) w8 (λk=>k=d):=bJ.aK (bJ.kp h6 k7) m8 λk (e:k=d) h=>by have:=n5 k h;omega
  have hR8:pK NJ 1 Xa s2 (TQ ds++[some ⟨d,0,none⟩]) w8 (λk=>BL s2 k):=⟨v8,λk=>Iff.rfl⟩;have s2in:∀k,BL s2 k->BL GU k\/w7.heap.size<=k:=λk ⟨b,hb,e⟩=>by
   rcases hr8 with h|⟨b',h,h2⟩
   ·exact .inl ⟨b,h.symm.trans hb,e⟩
   ·rw[hb] at h;cases h;exact .inr (by rw[e];exact h2)
  refine qP hBl8 (t:=tspDriver) Nc dP rfl rfl λw9 b9 u9=>?_;have d8:d<w6.heap.size:=aB;have hds':xA Xp (ds++[(d,QU c)]) w9 (λk=>SD k\/(k=d\/False)):=XJ (bL.yH (bJ.aK hAll8 u9.m λk h1 h2=>dBR k h2 ((eWD k).2 (.inr h1))) (bL.yH (bJ.aK h68 u9.m λk (e:k=d) h=>by have:=Oj k (iz k (.inl h));omega) (show EH w9 (λ_=>False) fromλ_=>id) λ_ _ h=>h) λk h1 h2=>h2.elim (λe=>by have:=Oj k (iz k (.inr (.inr h1)));omega) id);have hR9:pK NJ 1 Xa s2 (TQ (ds++[(d,QU c)])) w9 (λk=>BL s2 k):=by
   have e:TQ (ds++[(d,QU c)])=TQ ds++[some ⟨d,0,none⟩]:=by simp[TQ]
   rw[e];exact bJ.aK hR8 u9.m λk h1 h2=>(s2in k h1).elim (nB k h2) λh=>by have:=Oj k (iz k (.inl h2));omega
  have hV9:iJ E.e a (JN c G.m sp tp lp) w9 SV:=bJ.aK hV8 u9.m λk h1 h2=>dVQ k h1 ((eBR k).2 (.inl h2));have bV:=λk (h:SV k)=>Oj k ((eVQ k).2 (.inl h));have h9:WldR E.e a w3.heap.size s2 (TQ (ds++[(d,QU c)])) (JN c G.m sp tp lp) (ds++[(d,QU c)]) w9 (λk=>SV k\/(SB k\/(BL s2 k\/(SD k\/(k=d\/False))))):=
   bL.yH hV9 (bL.yH b9 (bL.yH hR9 hds' λk h1 h2=>by
    rcases h2 with h2|h2|h2
    ·exact(s2in k h1).elim (nD k h2) λh=>by have:=Oj k (iz k (.inr (.inr h2)));omega
    ·exact(s2in k h1).elim (λh=>by have:=n5 k h;omega) λh=>aB
    ·exact h2) λk h1 h2=>by
    rcases h2 with h2|h2|h2|h2
    ·exact(s2in k h2).elim (nB k h1) λh=>by have:=Oj k (iz k (.inl h1));omega
    ·exact dBR k h1 ((eWD k).2 (.inr h2))
    ·have:=Oj k (iz k (.inl h1));omega
    ·exact h2) λk h1 h2=>by
    rcases h2 with h2|h2|h2|h2|h2
    ·exact dVQ k h1 ((eBR k).2 (.inl h2))
    ·exact(s2in k h2).elim (nV k h1) λh=>by have:=bV k h1;omega
    ·exact dVQ k h1 ((eBR k).2 (.inr ((eWD k).2 (.inr h2))))
    ·have:=bV k h1;omega
    ·exact h2
  have U9:Up S5 (λk=>SV k\/(SB k\/(BL s2 k\/(SD k\/(k=d\/False))))) w5 w9:=by
   refine⟨(((k6.tr k7).wk).trans m8 λk _ hk=>iz k (.inr (.inl (mW k hk)))).trans u9.m λk _ hk=>iz k (.inl hk),λk hk=>?_⟩;rcases hk with h|h|h|h|h|h
   ·exact .inl ((eVQ k).2 (.inl h))
   ·exact .inl (iz k (.inl h))
   ·exact(s2in k h).imp (λh=>iz k (.inr (.inl (mW k h)))) λh=>aB
   ·exact .inl (iz k (.inr (.inr h)))
   ·exact .inr aB
   ·exact h.elim
  rw[pI i aB];refine hX _ _ _ aB ⟨i+1,s2,ds++[(d,QU c)],_,aB,rfl,rfl,h9,u5.tr U9,by rw[xF,JL,List.replicate_succ'];rfl,bJ.aK b5 U9.m λk (e:k=w1.heap.size) h=>n1 (e▸h)⟩
 ·have ei:i=n:=aB;subst ei;have hfin:Xr E.e a w3.heap.size GU bD [] (JN c G.m sp tp lp) ds w5 S5:=by
   obtain⟨SV,SQ,hV,⟨SB,SR,hBl,⟨SW,SD,hRow,hAll,dWD,eWD⟩,dBR,eBR⟩,dVQ,eVQ⟩:=h5;exact⟨SV,SQ,hV,⟨SB,SR,hBl,⟨SW,SD,hRow,⟨SD,λ_=>False,hAll,Yv,λ_ _ h=>h,λk=>⟨.inl,λh=>h.elim id False.elim⟩⟩,dWD,eWD⟩,dBR,eBR⟩,dVQ,eVQ⟩
  have Mj:∀k,S5 k->w.heap.size<=k:=λk hk=>jB z2' (S5lo k hk);have kk:aL w w5:=(K2.tr k3).fresh u5.m λk hk=>jB z2' (lo3 k hk);refine hQ E a w3.heap.size sp tp lp W0 GU ds w5 S5 ⟨bD,[],rfl,hfin,λx hx=>by cases hx⟩ (kr.up u5) kk (K2.tr kW) ⟨srv0_ok ok VJ sp tp lp,aB,⟨dl,hn⟩,λp hp=>?_,λu hu=>(by cases hu),λe he=>(by cases he)⟩ Mj JL;have:p.2∈ds.map (·.2):=mQ.2 ⟨p,hp,rfl⟩;rw[JL] at this;have e2:=(List.mem_replicate.1 this).2;rw[e2];exact⟨drv0_ok VJ,rfl⟩
end
end Go.Proofs.YtihggjgakbgomaaGreat
