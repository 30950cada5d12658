import Derived.Maps.RangeRun
import Derived.Test.YtihggjgakbgomaaGreatA1
import Derived.Test.YtihggjgakbgomaaGreatQ2
import Derived.Test.YtihggjgakbgomaaGreatF2
import Derived.Test.YtihggjgakbgomaaGreatF1
import Derived.Test.YtihggjgakbgomaaGreatA2
import Derived.Test.YtihggjgakbgomaaGreatQ1
namespace Go.Proofs.YtihggjgakbgomaaGreat
open Go Go.Den
section
section
variable{w0 w w':aH}{g m N:Nat}{e:TypeId}{mc:List Value}{V:Prop}{E:List cH}{L:List (Nat×List Int)}
theorem sN.Bd(h:sN w0 g m e mc V E N L w){i j:Nat}{v:Value}(hk:mc[i+j]? =some v):w.cell? (((⟨m,0,none⟩:Addr).add i).add j)=some v:=by
 rw[add_add];exact h.cell hk
theorem sN.start{t:TypeId}{cs:List Value}(h:Nu w0 (Dx g [] false) w){K:Addr->aH->Prop}(hK:∀w1,sN w0 g w.heap.size t cs V [] 0 [] w1->aN w w1->K ⟨w.heap.size,0,none⟩ w1):aG w cs.toArray t K:=by
 obtain⟨⟨S,a,s⟩,md⟩:=h;refine cD λw1 b1 k1 z1=>hK w1 ⟨S,[],false,bF.kp a k1,s,md.trans k1 λ_ _ h=>h.elim,λp hp=>(by cases hp),⟨b1.1,λhS=>?_⟩,iX _,λ_=>⟨rfl,rfl⟩⟩ k1;have:=bF.gI a _ hS;simp at this
end
theorem QR{x:Int}(h:u16 x):0<=x/\x.toNat<256^2:=⟨h.1,by have:=h.2;have:=h.1;omega⟩
theorem Az{x:Int}(h:u32 x):0<=x/\x.toNat<256^4:=⟨h.1,by have:=h.2;have:=h.1;omega⟩
theorem Oa{x:Int}(h:u40 x):0<=x/\x.toNat<256^5:=⟨h.1,by have:=h.2;have:=h.1;omega⟩
theorem rng8{x:Int}(h:0<=x/\x<256):0<=x/\x.toNat<256^1:=⟨h.1,by have:=h.2;have:=h.1;omega⟩
set_option maxHeartbeats 1000000 in
theorem writes_i{g:Nat}{w0 w:aH}{p:iJ}{sl:Sl}{Q:Bool->aH->Prop}(h:Nu w0 (Dx g [] false) w)(hr:Rd w0 sl 1 eI p.cJ)(hb:∀b,sl.b=some b->b.block<w0.heap.size)(hl:p.cJ.length<=70000)
  (hQ:∀c w' m mc E N L,sN w0 g m nL mc (sO p) E N L w'->N<=60+p.cJ.length*7->(sO p->E=kS p/\c=true)->Q c w'):rU (some ⟨g,0,none⟩) (GF (p,sl)) w Q:=by
 unfold rU;have sll:=hr.len;refine sN.start (V:=sO p) (cs:=tN (p,sl)) h λw1 h1 k1=>?_;refine aE (k:=.i) p.kind (h1.cell rfl) ?_;refine h1.alloc [p.kind] λw2 h2=>?_;refine h2.Cr (ns:=[p.kind]) 1 dJ rfl aB dJ (λv x hx=>by rw[kZ.1 hx];exact rng8 ⟨by have:=v.kind;omega,by have:=v.kind;omega⟩) λw3 h3=>?_;intro J1 OP;have GG:∀{E N L wx},sN w0 g w.heap.size nL (tN (p,sl)) (sO p) E N L wx->N<=60+p.cJ.length*7->(sO p->E=kS p)->J1 () wx:=by
  intro E N L wx hx hN hE;apply OP;refine aE (k:=.i) p.kind (hx.cell rfl) (aF (λhk=>hQ _ _ _ _ _ _ _ hx hN λv=>⟨hE v,rfl⟩) (λhk=>aE (k:=.slice) sl (hx.cell rfl) (hQ _ _ _ _ _ _ _ hx hN λv=>⟨hE v,?_⟩)));have Np:p.kind=5:=by simpa using hk
  have:=v.cJ;rw[if_pos Np] at this;exact decide_eq_true aB
 have jbad:∀{E N L wx},sN w0 g w.heap.size nL (tN (p,sl)) (sO p) E N L wx->N<=60+p.cJ.length*7->¬sO p->Q false wx:=λhx hN hn=>hQ _ _ _ _ _ _ _ hx hN λv=>absurd v hn;refine aE (k:=.i) p.kind (h3.cell rfl) ?_;refine aF (λhk=>?_) (λQM=>?_)
 ·have hk:p.kind=1:=by simpa using hk
  refine aE (k:=.i) p.pos (h3.cell rfl) (aE (k:=.i) p.LM (h3.cell rfl) ?_);refine h3.alloc [p.pos,p.LM] λw4 h4=>?_;refine h4.Cr (ns:=[p.pos,p.LM]) 2 dJ rfl aB dJ (λv x hx=>?_) λw5 h5=>GG h5 (by simp;omega) λv=>?_
  ·have h1:=v.pos
   have h2:=v.LM;rw[if_pos (.inl hk)] at h1;rw[if_pos hk] at h2;simp at hx;rcases hx with rfl|rfl
   ·exact QR h1
   ·exact QR h2
  ·unfold kS;rw[if_pos hk];simp
 have QM:¬p.kind=1:=by simpa using QM
 intro J2 Ra;have j29:p.kind=2\/p.kind=9->J2 (true,()) w3:=by
  intro hk;apply Ra;refine aF (λ_=>aE (k:=.i) p.pos (h3.cell rfl) ?_) (λh=>by cases h);refine h3.alloc [p.pos] λw4 h4=>?_;refine h4.Cr (ns:=[p.pos]) 2 dJ rfl aB dJ (λv x hx=>?_) λw5 h5=>GG h5 (by simp;omega) λv=>?_
  ·have h1:=v.pos
   rw[if_pos (.inr hk)] at h1;rw[kZ.1 hx];exact QR h1
  ·unfold kS;rw[if_neg QM,if_pos hk];simp
 have jr:¬(p.kind=2\/p.kind=9)->J2 (false,()) w3:=by
  intro hk29;apply Ra;refine aF (λh=>by cases h) (λ_=>aF (λhk=>?_) (λNp=>aF (λhk=>?_) (λhk7=>?_)))
  ·have hk:p.kind=5:=by simpa using hk
   have Ar:=h3.dr;refine aE (k:=.i) p.mE (Ar.cell rfl) (aE (k:=.slice) sl (Ar.cell rfl) (aE (k:=.slice) sl (Ar.cell rfl) ?_));rw[sll];have r5:sO p->∀x∈[p.mE],0<=x/\x.toNat<256^5:=λv x hx=>by
    have h1:=v.mE;rw[if_pos hk] at h1;rw[kZ.1 hx];exact Oa h1
   have rl:sO p->∀x∈[(p.cJ.length:Int)],0<=x/\x.toNat<256^2:=λv x hx=>by
    have h1:=v.cJ;rw[if_pos hk] at h1;rw[kZ.1 hx];exact⟨aB,aB⟩
   have re:sO p->∀x∈p.cJ,0<=x/\x.toNat<256^2:=λv x hx=>by
    have h1:=v.cJ;rw[if_pos hk] at h1;exact QR (h1.2 x hx)
   have hE:sO p->(((([]++[p.kind].flatMap λx=>be 1 x.toNat)++[p.mE].flatMap λx=>be 5 x.toNat)++[(p.cJ.length:Int)].flatMap λx=>be 2 x.toNat)++p.cJ.flatMap λx=>be 2 x.toNat)=kS p:=λv=>by
    unfold kS;rw[if_neg QM,if_neg hk29,if_pos hk];simp
   have al1:∀{E N L wx} {K:Addr->aH->Prop},sN w0 g w.heap.size nL (tN (p,sl)) (sO p) E N L wx->(∀w',sN w0 g w.heap.size nL (tN (p,sl)) (sO p) E N ((wx.heap.size,[p.mE])::L) w'->K ⟨wx.heap.size,0,none⟩ w')->aG wx #[aD p.mE] 3 K:=λhx hK=>hx.alloc [p.mE] hK;have al2:∀{E N L wx} {K:Addr->aH->Prop},sN w0 g w.heap.size nL (tN (p,sl)) (sO p) E N L wx->(∀w',sN w0 g w.heap.size nL (tN (p,sl)) (sO p) E N ((wx.heap.size,[(p.cJ.length:Int)])::L) w'->K ⟨wx.heap.size,0,none⟩ w')->aG wx #[aD (p.cJ.length:Int)] 3 K:=λhx hK=>hx.alloc [(p.cJ.length:Int)] hK;have nm1:∀{E N L wx b} {K:cO->aH->Prop},sN w0 g w.heap.size nL (tN (p,sl)) (sO p) E N L wx->(b,[p.mE])∈L->N<=1000->(∀w',sN w0 g w.heap.size nL (tN (p,sl)) (sO p) (E++[p.mE].flatMap λx=>be 5 x.toNat) (N+1*7) L w'->K (some ⟨g,0,none⟩) w')->aU (some ⟨g,0,none⟩) (5:Int) ⟨some ⟨b,0,none⟩,1,1⟩ wx K:=λhx hm hN hK=>hx.Cr (ns:=[p.mE]) 5 hm rfl aB (by simp only[mV,List.length_nil];omega) r5 hK;have nm2:∀{E N L wx b} {K:cO->aH->Prop},sN w0 g w.heap.size nL (tN (p,sl)) (sO p) E N L wx->(b,[(p.cJ.length:Int)])∈L->N<=1000->(∀w',sN w0 g w.heap.size nL (tN (p,sl)) (sO p) (E++[(p.cJ.length:Int)].flatMap λx=>be 2 x.toNat) (N+1*7) L w'->K (some ⟨g,0,none⟩) w')->aU (some ⟨g,0,none⟩) (2:Int) ⟨some ⟨b,0,none⟩,1,1⟩ wx K:=λhx hm hN hK=>hx.Cr (ns:=[(p.cJ.length:Int)]) 2 hm rfl aB (by simp only[mV,List.length_nil];omega) rl hK;have nm3:∀{E N L wx} {K:cO->aH->Prop},sN w0 g w.heap.size nL (tN (p,sl)) (sO p) E N L wx->N<=1000->(∀w',sN w0 g w.heap.size nL (tN (p,sl)) (sO p) (E++p.cJ.flatMap λx=>be 2 x.toNat) (N+p.cJ.length*7) L w'->K (some ⟨g,0,none⟩) w')->aU (some ⟨g,0,none⟩) (2:Int) sl wx K:=λhx hN hK=>hx.numsR 2 hr hb rfl aB aB re hK;have c3:∀{E N L wx},sN w0 g w.heap.size nL (tN (p,sl)) (sO p) E N L wx->wx.cell? ((⟨w.heap.size,0,none⟩:Addr).add 3)=some (Value.slice sl.b sl.l sl.c):=λhx=>hx.cell rfl;have c4:∀{E N L wx},sN w0 g w.heap.size nL (tN (p,sl)) (sO p) E N L wx->wx.cell? ((⟨w.heap.size,0,none⟩:Addr).add 4)=some (aD p.mE):=λhx=>hx.cell rfl;rw[sll] at c3;clear hQ h OP Ra j29
   repeat' first
    |exact GG (by assumption) (by simp only[mV,List.length_nil];omega) hE
    |with_reducible refine⟨c3 (by assumption),?_⟩
    |with_reducible refine⟨c4 (by assumption),?_⟩
    |with_reducible refine⟨?_,?_⟩
    |(with_reducible refine al1 (by assumption) ?_;intro wq hq)
    |(with_reducible refine al2 (by assumption) ?_;intro wq hq)
    |(with_reducible refine nm1 (by assumption) dJ dJ ?_;intro wq hq)
    |(with_reducible refine nm2 (by assumption) dJ dJ ?_;intro wq hq)
    |(with_reducible refine nm3 (by assumption) dJ ?_;intro wq hq)
  ·have hk:p.kind=7:=by simpa using hk
   have Ar:=h3.dr;refine aE (k:=.i) p.eV.cls (Ar.Bd rfl) (aE (k:=.i) p.eV.mC (Ar.Bd rfl) (aE (k:=.i) p.eV.sE (Ar.Bd rfl) (aE (k:=.i) p.eV.left (Ar.Bd rfl) ?_)));have hh:sO p->(0<=p.eV.cls/\p.eV.cls<256)/\u16 (p.eV.mC+1)/\u40 p.eV.sE/\u40 p.eV.left:=λv=>by have:=v.eV;rwa[if_pos hk] at this
   have r1:sO p->∀x∈[p.eV.cls],0<=x/\x.toNat<256^1:=λv x hx=>by rw[kZ.1 hx];exact rng8 (hh v).1
   have r2:sO p->∀x∈[aQ (p.eV.mC+(1:Int))],0<=x/\x.toNat<256^2:=λv x hx=>by
    have h1:=(hh v).2.1;rw[kZ.1 hx,gV (by have:=h1.1;omega) (by have:=h1.2;omega)];exact QR h1
   have r5:sO p->∀x∈[p.eV.sE,p.eV.left],0<=x/\x.toNat<256^5:=λv x hx=>by
    have h1:=(hh v).2.2;simp at hx;rcases hx with rfl|rfl
    ·exact Oa h1.1
    ·exact Oa h1.2
   have hE:sO p->(((([]++[p.kind].flatMap λx=>be 1 x.toNat)++[p.eV.cls].flatMap λx=>be 1 x.toNat)++[aQ (p.eV.mC+(1:Int))].flatMap λx=>be 2 x.toNat)++[p.eV.sE,p.eV.left].flatMap λx=>be 5 x.toNat)=kS p:=λv=>by
    have h1:=(hh v).2.1;unfold kS;rw[if_neg QM,if_neg hk29,if_neg (by rw[hk];decide),if_pos hk,gV (n:=p.eV.mC+1) (by have:=h1.1;omega) (by have:=h1.2;omega)];simp
   have al1:∀{E N L wx} {K:Addr->aH->Prop},sN w0 g w.heap.size nL (tN (p,sl)) (sO p) E N L wx->(∀w',sN w0 g w.heap.size nL (tN (p,sl)) (sO p) E N ((wx.heap.size,[p.eV.cls])::L) w'->K ⟨wx.heap.size,0,none⟩ w')->aG wx #[aD p.eV.cls] 3 K:=λhx hK=>hx.alloc [p.eV.cls] hK;have al2:∀{E N L wx} {K:Addr->aH->Prop},sN w0 g w.heap.size nL (tN (p,sl)) (sO p) E N L wx->(∀w',sN w0 g w.heap.size nL (tN (p,sl)) (sO p) E N ((wx.heap.size,[aQ (p.eV.mC+(1:Int))])::L) w'->K ⟨wx.heap.size,0,none⟩ w')->aG wx #[aD (aQ (p.eV.mC+(1:Int)))] 3 K:=λhx hK=>hx.alloc [aQ (p.eV.mC+(1:Int))] hK;have al3:∀{E N L wx} {K:Addr->aH->Prop},sN w0 g w.heap.size nL (tN (p,sl)) (sO p) E N L wx->(∀w',sN w0 g w.heap.size nL (tN (p,sl)) (sO p) E N ((wx.heap.size,[p.eV.sE,p.eV.left])::L) w'->K ⟨wx.heap.size,0,none⟩ w')->aG wx #[aD p.eV.sE,aD p.eV.left] 3 K:=λhx hK=>hx.alloc [p.eV.sE,p.eV.left] hK;have nm1:∀{E N L wx b} {K:cO->aH->Prop},sN w0 g w.heap.size nL (tN (p,sl)) (sO p) E N L wx->(b,[p.eV.cls])∈L->N<=1000->(∀w',sN w0 g w.heap.size nL (tN (p,sl)) (sO p) (E++[p.eV.cls].flatMap λx=>be 1 x.toNat) (N+1*7) L w'->K (some ⟨g,0,none⟩) w')->aU (some ⟨g,0,none⟩) (1:Int) ⟨some ⟨b,0,none⟩,1,1⟩ wx K:=λhx hm hN hK=>hx.Cr (ns:=[p.eV.cls]) 1 hm rfl aB (by simp only[mV,List.length_nil];omega) r1 hK;have nm2:∀{E N L wx b} {K:cO->aH->Prop},sN w0 g w.heap.size nL (tN (p,sl)) (sO p) E N L wx->(b,[aQ (p.eV.mC+(1:Int))])∈L->N<=1000->(∀w',sN w0 g w.heap.size nL (tN (p,sl)) (sO p) (E++[aQ (p.eV.mC+(1:Int))].flatMap λx=>be 2 x.toNat) (N+1*7) L w'->K (some ⟨g,0,none⟩) w')->aU (some ⟨g,0,none⟩) (2:Int) ⟨some ⟨b,0,none⟩,1,1⟩ wx K:=λhx hm hN hK=>hx.Cr (ns:=[aQ (p.eV.mC+(1:Int))]) 2 hm rfl aB (by simp only[mV,List.length_nil];omega) r2 hK;have nm3:∀{E N L wx b} {K:cO->aH->Prop},sN w0 g w.heap.size nL (tN (p,sl)) (sO p) E N L wx->(b,[p.eV.sE,p.eV.left])∈L->N<=1000->(∀w',sN w0 g w.heap.size nL (tN (p,sl)) (sO p) (E++[p.eV.sE,p.eV.left].flatMap λx=>be 5 x.toNat) (N+2*7) L w'->K (some ⟨g,0,none⟩) w')->aU (some ⟨g,0,none⟩) (5:Int) ⟨some ⟨b,0,none⟩,2,2⟩ wx K:=λhx hm hN hK=>hx.Cr (ns:=[p.eV.sE,p.eV.left]) 5 hm rfl aB (by simp only[mV,List.length_nil];omega) r5 hK;have c0:∀{E N L wx},sN w0 g w.heap.size nL (tN (p,sl)) (sO p) E N L wx->wx.cell? (((⟨w.heap.size,0,none⟩:Addr).add 5).add 0)=some (aD p.eV.cls):=λhx=>hx.Bd rfl;have c1:∀{E N L wx},sN w0 g w.heap.size nL (tN (p,sl)) (sO p) E N L wx->wx.cell? (((⟨w.heap.size,0,none⟩:Addr).add 5).add 1)=some (aD p.eV.mC):=λhx=>hx.Bd rfl;have c2:∀{E N L wx},sN w0 g w.heap.size nL (tN (p,sl)) (sO p) E N L wx->wx.cell? (((⟨w.heap.size,0,none⟩:Addr).add 5).add 2)=some (aD p.eV.sE):=λhx=>hx.Bd rfl;have c3:∀{E N L wx},sN w0 g w.heap.size nL (tN (p,sl)) (sO p) E N L wx->wx.cell? (((⟨w.heap.size,0,none⟩:Addr).add 5).add 3)=some (aD p.eV.left):=λhx=>hx.Bd rfl;clear hQ h OP Ra j29
   repeat' first
    |exact GG (by assumption) (by simp only[mV,List.length_nil];omega) hE
    |with_reducible refine⟨c3 (by assumption),?_⟩
    |with_reducible refine⟨c2 (by assumption),?_⟩
    |with_reducible refine⟨c1 (by assumption),?_⟩
    |with_reducible refine⟨c0 (by assumption),?_⟩
    |with_reducible refine⟨?_,?_⟩
    |(with_reducible refine al1 (by assumption) ?_;intro wq hq)
    |(with_reducible refine al2 (by assumption) ?_;intro wq hq)
    |(with_reducible refine al3 (by assumption) ?_;intro wq hq)
    |(with_reducible refine nm1 (by assumption) dJ dJ ?_;intro wq hq)
    |(with_reducible refine nm2 (by assumption) dJ dJ ?_;intro wq hq)
    |(with_reducible refine nm3 (by assumption) dJ dJ ?_;intro wq hq)
  ·have Np:¬p.kind=5:=by simpa using Np
   have hk7:¬p.kind=7:=by simpa using hk7
   have hE:sO p->([]++[p.kind].flatMap λx=>be 1 x.toNat)=kS p:=λv=>by
    unfold kS;rw[if_neg QM,if_neg hk29,if_neg Np,if_neg hk7];simp
   have dW:J1 () w3:=GG h3 (by simp;omega) hE;refine aF (λh=>aF (λ_=>dW) (λh2=>by rw[h] at h2;cases h2)) (λWk=>aF (λh=>aF (λ_=>dW) (λh2=>by rw[h] at h2;cases h2)) (λh4=>aF (λh=>aF (λ_=>dW) (λh2=>by rw[h] at h2;cases h2)) (λh6=>aF (λ_=>dW) (λh8=>?_))));refine jbad h3 (by simp;omega) λv=>?_;have:=v.kind;simp at Wk h4 h6 h8;omega
 refine aF (λhk=>?_) (λhk=>?_)
 ·rw[hk];exact j29 (.inl (by simpa using hk))
 ·have DL:¬p.kind=2:=by simpa using hk
  by_cases hk9:p.kind=9
  ·rw[show(p.kind==(9:Int))=true by simpa using hk9];exact j29 (.inr hk9)
  ·rw[show(p.kind==(9:Int))=false by simpa using hk9];exact jr λh=>h.elim DL hk9
theorem Enc_i{w:aH}{p:iJ}{sl:Sl}{Q:Sl->Int->aH->Prop}(hr:Rd w sl 1 eI p.cJ)(hb:∀b,sl.b=some b->b.block<w.heap.size)(hl:p.cJ.length<=70000)
  (hQ:∀r out e w',aN w w'->CX 1 eU r out w' (rK r)->(∀b,r.b=some b->w.heap.size<=b.block)->out.length<=60+p.cJ.length*7->(sO p->out=kS p/\e=0)->Q r e w'):lY (GF (p,sl)) w Q:=by
 unfold lY;refine cD (cs:=tN (p,sl)) λw1 b1 k1 z1=>?_;refine newW k1 λw2 n2 k2=>?_;have o2:=b1.1.aL k2 id;refine bJ (l:=ff) (GF (p,sl)) (o2.holds λj v hj=>by rw[pU];exact hj) ?_;refine writes_i (w0:=w) n2 hr hb hl λc w3 m mc E N L h3 hN hv=>?_;refine aF (λhc=>?_) (λhc=>?_)
 ·refine hQ _ [] _ w3 h3.aO JS (λb hb=>by cases hb) (iF _) λv=>?_
  have Vv:c=false:=by simpa using hc
  rw[(hv v).2] at Vv;cases Vv
 ·exact h3.bytes aB λr out er w4 h4 rd fr ln hv2=>hQ r out er w4 h4.aO rd fr aB λv=>⟨(hv2 v).1.trans (hv v).1,(hv2 v).2⟩
end
open Tryz (prog)
section
abbrev GX:=eR×Sl
abbrev eG(x:GX):List Value:=[aD x.1.aK,aD x.1.kind,aD x.1.seq,aD x.1.IY,aD x.1.code,sv x.2]
abbrev kG:List CK:=[.i,.i,.i,.i,.i,.slice]
abbrev JG(x:GX):Int×Int×Int×Int×Int×Sl×Unit:=(x.1.aK,x.1.kind,x.1.seq,x.1.IY,x.1.code,x.2,())
theorem Wt:∀x:GX,(eG x).length=6:=λ_=>rfl
theorem Lt:∀x:GX,∀u∈eG x,u.oneCell'=true:=by intro x u hu;simp at hu;rcases hu with rfl|rfl|rfl|rfl|rfl|rfl<;>rfl
theorem QZ(x:GX):eG x≠[]:=by simp
theorem mw{w:aH}{p:eR}{sl:Sl}{Q:Sl->Int->aH->Prop}(hr:Rd w sl 1 eU p.body)(hl:p.body.length<=80000)
  (hQ:∀r out e w',aN w w'->CX 1 eU r out w' (rK r)->(∀b,r.b=some b->w.heap.size<=b.block)->out.length<=3000->(Re p->out=GU p/\e=0)->Q r e w'):qB (JG (p,sl)) w Q:=by
 unfold qB;refine cD (cs:=eG (p,sl)) λw1 b1 k1 z1=>?_;refine sN.new (V:=Re p) k1 b1.1 λw2 h2=>?_;refine aE (k:=.i) p.aK (h2.cell rfl) ?_;refine h2.alloc [p.aK] λw3 h3=>?_;refine h3.Cr (ns:=[p.aK]) 4 dJ rfl aB dJ (λv x hx=>by rw[kZ.1 hx];exact Az v.aK) λw4 h4=>?_;intro J1 OP;have UW:∀e w',aN w w'->¬Re p->Q bD e w':=λe w' k hn=>hQ _ [] e w' k JS (λb hb=>by cases hb) (iF _) λv=>absurd v hn;have GG:∀{E N L wx},sN w w1.heap.size w.heap.size GN (eG (p,sl)) (Re p) E N L wx->N<=100000->(Re p->E=nC p)->J1 () wx:=by
  intro E N L wx hx hN hE;apply OP;refine hx.bytes aB λr out er w5 h5 Dl f5 ln5 qz=>?_;refine aF (λhe=>UW _ w5 h5.aO λv=>?_) (λhe=>?_)
  ·rw[(qz v).2] at he;simp at he
  ·refine aE (k:=.i) p.kind (h5.cell rfl) ?_
   refine Wrap_i Dl.1 aB λr6 out6 e6 w6 k6 rd6 f6 l6 v6=>?_;refine hQ r6 out6 e6 w6 (h5.aO.tr k6) rd6 (λb hb=>by have:=f6 b hb;have:=h5.aO.size;omega) l6 λv=>?_;have e1:=(qz v).1;rw[hE v] at e1;have lb:(nC p).length<=2000:=by
    have hb:=v.body;unfold nC;rcases v.kind with hk|hk|hk
    ·rw[if_pos hk] at hb ⊢
     simp only[mH,pH];omega
    ·rw[if_neg aB,if_pos hk];simp only[mH,pH];omega
    ·rw[if_neg aB,if_neg aB];simp only[mH,pH];omega
   have hk:=v.kind;have:=v6 aB aB (by rw[e1];exact lb);rw[this.1,this.2,e1];exact⟨rfl,rfl⟩
 refine aE (k:=.i) p.kind (h4.cell rfl) ?_;refine aF (λhk=>?_) (λQM=>aF (λhk=>?_) (λDL=>aF (λhk=>?_) (λri=>UW _ w4 h4.aO λv=>?_)))
 ·have hk:p.kind=1:=by simpa using hk
  have h4d:=h4.dr;refine aE (k:=.i) p.seq (h4d.cell rfl) (aE (k:=.i) p.IY (h4d.cell rfl) (aE (k:=.slice) sl (h4d.cell rfl) ?_));refine h4d.alloc [p.seq,p.IY] λw5 h5=>⟨h5.cell rfl,?_⟩;refine h5.Cr (ns:=[p.seq,p.IY]) 4 dJ rfl aB dJ (λv x hx=>?_) λw6 h6=>⟨h6.cell rfl,?_⟩
  ·have h1:=v.seq
   have h2:=v.IY;rw[if_pos hk] at h1;rw[if_neg aB] at h2;simp at hx;rcases hx with rfl|rfl
   ·exact Az h1
   ·exact Az h2
  refine h6.Wc hr (by simp;omega) λw7 h7=>GG h7 (by simp;omega) λv=>?_;unfold nC;rw[if_pos hk];simp
 ·have hk:p.kind=2:=by simpa using hk
  refine aE (k:=.i) p.IY (h4.cell rfl) ?_;refine h4.alloc [p.IY] λw5 h5=>?_;refine h5.Cr (ns:=[p.IY]) 4 dJ rfl aB dJ (λv x hx=>?_) λw6 h6=>GG h6 dJ λv=>?_
  ·have h2:=v.IY
   rw[if_neg aB] at h2;rw[kZ.1 hx];exact Az h2
  ·unfold nC;rw[if_neg aB,if_pos hk];simp
 ·have hk:p.kind=3:=by simpa using hk
  refine aE (k:=.i) p.code (h4.cell rfl) ?_;refine h4.alloc [p.code] λw5 h5=>?_;refine h5.Cr (ns:=[p.code]) 1 dJ rfl aB dJ (λv x hx=>?_) λw6 h6=>GG h6 dJ λv=>?_
  ·have h2:=v.code
   rw[if_pos hk] at h2;rw[kZ.1 hx];exact rng8 h2
  ·unfold nC;rw[if_neg aB,if_neg aB];simp
 ·have:=v.kind
  simp at QM DL ri;omega
theorem Nu.foc{w0 w:aH}{A B:As}{R:As->As}(h:Nu w0 A w)(f:∀S,A w S->Wp w S B R):∃S1,B w S1/\∀B' w' BC,Up S1 BC w w'->B' w' BC->Nu w0 (R B') w':=by
 obtain⟨⟨S,a,s⟩,m⟩:=h;obtain⟨S1,b,hs,dN⟩:=(f S a).put;refine⟨S1,b,λB' w' BC u hb=>?_⟩;obtain⟨S',a',u'⟩:=dN B' w' BC u hb;exact Nu.up m s u' a'
theorem Nu.add{w0 w w':aH}{A B:As}[bF A](h:Nu w0 A w){T:BS}(k:aN w w')(hB:B w' T)(hT:∀k,T k->w.heap.size<=k):Nu w0 (aZ A B) w':=by
 obtain⟨⟨S,a,s⟩,m⟩:=h;have z:=m.size;refine⟨⟨_,aZ.vZ (bF.kp a k) hB λk hk ht=>?_,λk hk=>hk.elim (s k) λht=>?_⟩,m.trans k λ_ _ h=>h.elim⟩
 ·have:=bF.gI a k hk;have:=hT k ht;omega
 ·have:=hT k ht;omega
section
variable{w0 w:aH}{g a:Nat}{l:List cH}{sp:Bool}{e:TypeId}{mc:List Value}{X Y:As}
theorem QA[bF Y]{sz:Nat}{z:Int}{Q:Int->aH->Prop}(h:Nu w0 (aZ (tQ g l sp) Y) w)(hz:z=(sz:Int))(hs:1<=sz/\sz<=7)(hl:l.length<=100000)
  (hQ:∀(x:Nat) l' uU w',Nu w0 (aZ (tQ g l' uU) Y) w'->l'.length<=l.length->x<256^sz->(∀v t,sp=false->l=be sz v++t->v<256^sz->x=v/\l'=t/\uU=false)->Q (x:Int) w'):fY (some ⟨g,0,none⟩) z w Q:=by
 obtain⟨S1,b,dN⟩:=h.foc λS h=>aZ.l h;subst hz;exact Ta b hs hl λx l' uU w' S' a' QL u' h1 h2 h3=>hQ x l' uU w' (dN _ w' S' u' a') h1 h2 h3
theorem FF[bF X][bF Y]{t:TypeId}{o:Nat}{v:Value}{K:aH->Prop}(h:Nu w0 (aZ X (aZ (sM a e mc) Y)) w)(hi:(prog.info? t).map (·.size)=some 1)(ho:o<mc.length)(hc:v.cells=#[v])(h1:v.oneCell'=true)
  (hK:∀w',Nu w0 (aZ X (aZ (sM a e (mc.set o v)) Y)) w'->K w'):aI prog t ((⟨a,0,none⟩:Addr).add o) v w K:=by
 obtain⟨S1,b,dN⟩:=h.foc λS h=>(aZ.r h).c λT hT=>aZ.l hT;exact pG b hi ho hc h1 λw' b' u'=>hK w' (dN _ w' _ u' b')
theorem tq[bF X][bF Y](h:Nu w0 (aZ X (aZ (sM a e mc) Y)) w){k:Nat}{v:Value}(hk:mc[k]? =some v):w.cell? ((⟨a,0,none⟩:Addr).add k)=some v:=by
 obtain⟨S1,b,_⟩:=h.foc λS h=>(aZ.r h).c λT hT=>aZ.l hT;exact aP b hk
theorem rOwn[bF X][bF Y](h:Nu w0 (aZ X (aZ (sM a e mc) Y)) w):cW w a e mc:=by
 obtain⟨S1,b,_⟩:=h.foc λS h=>(aZ.r h).c λT hT=>aZ.l hT;exact b.1
end
theorem Nu.map{w0 w:aH}{A B:As}(h:Nu w0 A w)(f:∀S,A w S->B w S):Nu w0 B w:=by
 obtain⟨⟨S,a,s⟩,m⟩:=h;exact⟨⟨S,f S a,s⟩,m⟩
theorem aZ.emp_l{A:As}{w:aH}{S:BS}(h:aZ DO A w S):A w S:=by
 obtain⟨S1,S2,h1,h2,d,e⟩:=h;have:S=S2:=funext λk=>propext ((e k).trans ⟨λh=>h.elim (λh=>absurd h (h1 k)) id,.inr⟩);rw[this];exact h2
theorem me{w:aH}{S:BS}(h:DO w S):CX 1 eU bD [] w S:=⟨Rd.nil _ _ _,fN,λb hb=>(by cases hb),λk=>⟨λhk=>absurd hk (h k),λ⟨b,hb,_⟩=>by cases hb⟩⟩
structure GDec(bs:List cH)(g:eR)(e:Int):Prop where
 seq:u32 g.seq
 IY:u32 g.IY
 len:g.body.length<=bs.length
 ok:∀g0,Re g0->bs=GU g0->g=g0/\e=0
 nf:∀x r,bs=x::r->x≠BitVec.ofNat 8 77->¬e=0
theorem my{b:Sl}{bs:List cH}{w:aH}{Q:Int×Int×Int×Int×Int×Sl×Unit->Int->aH->Prop}(hb:Rd w b 1 eU bs)(hl:bs.length<=5000)
  (hQ:∀g sl e w',aN w w'->CX 1 eU sl g.body w' (rK sl)->(∀b,sl.b=some b->w.heap.size<=b.block)->GDec bs g e->Q (JG (g,sl)) e w'):sZ b w Q:=by
 unfold sZ
 let z0:GX:=(⟨0,0,0,0,0,[]⟩,bD)
 refine cD (cs:=eG z0) λw1 b1 k1 z1=>?_;have UW:∀e wx,¬e=0->aN w wx->cW wx w.heap.size GN (eG z0)->(∀g0,Re g0->bs=GU g0->False)->aI prog GN ⟨w.heap.size,0,none⟩ (Value.agg (eG z0).toArray) wx λw3=>fL kG w3 ⟨w.heap.size,0,none⟩ λt1=>Q (t1.1,t1.2.1,t1.2.2.1,t1.2.2.2.1,t1.2.2.2.2.1,t1.2.2.2.2.2.1,()) e w3:=by
  intro e wx gH kx ox hx;refine fD ox rP rfl (Lt _) λw3 o3 m3 _=>?_;refine bJ (l:=kG) (JG z0) (o3.holds λj v hj=>by rw[pU];exact hj) ?_;exact hQ z0.1 z0.2 e w3 (kx.fresh m3 λk e=>by rw[show k=w.heap.size from e];exact iX _) JS (λb hb=>by cases hb) ⟨⟨by decide,by decide⟩,⟨by decide,by decide⟩,iF _,λg0 h1 h2=>(hx g0 h1 h2).elim,λ_ _ _ _=>gH⟩
 refine Unwrap_i (hb.aL k1 fN λ_ _=>id) aB λkind s1 e1 body w2 k2 Qs f2 l2 v2 nf2=>?_;have o2:=b1.1.aL k2 id;have K2:=k1.tr k2;have GK:∀g0,Re g0->bs=GU g0->kind=g0.kind/\body=nC g0/\e1=0:=λg0 h1 h2=>by
  have hk:=h1.kind;refine v2 g0.kind (nC g0) aB aB ?_ h2;have hb:=h1.body;unfold nC;rcases hk with hk|hk|hk
  ·rw[if_pos hk] at hb ⊢
   simp only[mH,pH];omega
  ·rw[if_neg aB,if_pos hk];simp only[mH,pH];omega
  ·rw[if_neg aB,if_neg aB];simp only[mH,pH];omega
 refine aF (λhe=>UW e1 w2 (by simpa using he) K2 o2 λg0 h1 h2=>?_) (λhe1=>?_)
 ·rw[(GK g0 h1 h2).2.2] at he;simp at he
 refine mo Qs.1 aB λg w3 S3 a3 k3 s3=>?_;have n3:Nu w2 (aZ (tQ g body false) DO) w3:=Nu.of (aZ.emp a3) s3 k3;refine QA n3 (sz:=4) rfl aB aB λx4 l4 sp4 w4 n4 c4 b4 v4=>?_;refine cD (cs:=eG z0) λw5 b5 k5 z5=>?_;have n5:Nu w2 (aZ (tQ g l4 sp4) (aZ (sM w4.heap.size GN (eG z0)) DO)) w5:=by
  obtain⟨⟨S,a,s⟩,m⟩:=n4;obtain⟨S',a',u'⟩:=a.drop;exact Nu.add (⟨⟨S',a',λk hk=>(u'.s k hk).elim (s k) λh=>iG m.size h⟩,m⟩:Nu w2 (tQ g l4 sp4) w4) k5 (aZ.emp b5) λk hk=>aB
 let g1 (x:Nat) (sq ak cd:Int) (sl:Sl):List Value:=[aD (x:Int),aD kind,aD sq,aD ak,aD cd,sv sl]
 obtain⟨S6,bb6,yF⟩:=n5.foc λS h=>(aZ.r h).c λT hT=>aZ.l hT;refine fD (vs:=g1 x4 0 0 0 bD) bb6.1 rP rfl (by simp[g1,Value.oneCell']) λw6 o6 m6 _=>?_;have n6:Nu w2 (aZ (tQ g l4 sp4) (aZ (sM w4.heap.size GN (g1 x4 0 0 0 bD)) DO)) w6:=yF _ w6 _ (bb6.up o6 m6).2 (bb6.up o6 m6).1;intro J1 OP;have GG:∀(sq ak:Nat) (cd:Int) (sl:Sl) (bd l':List cH) (uU:Bool) wx,sq<256^4->ak<256^4->bd.length<=bs.length->Nu w2 (aZ (tQ g l' uU) (aZ (sM w4.heap.size GN (g1 x4 sq ak cd sl)) (CX 1 eU sl bd))) wx->(∀b,sl.b=some b->w.heap.size<b.block)->
   (∀g0,Re g0->bs=GU g0->(⟨(x4:Int),kind,sq,ak,cd,bd⟩:eR)=g0)->J1 () wx:=by
  intro sq ak cd sl bd l' uU wx hsq hak DM nx fx hx;apply OP
  let p:eR:=⟨(x4:Int),kind,sq,ak,cd,bd⟩
  have ox:=rOwn nx;refine bJ (l:=kG) (JG (p,sl)) (ox.holds λj v hj=>by rw[pU];exact hj) ?_;have rdx:∃T,CX 1 eU sl bd wx T:=by
   obtain⟨T,b,_⟩:=nx.foc λS h=>(aZ.r h).c λT hT=>aZ.r hT;exact⟨T,b⟩
  obtain⟨T,rdx⟩:=rdx;have Kx:=K2.tr nx.aO;refine mw (p:=p) (sl:=sl) rdx.1 (by show bd.length<=_;omega) λr7 out7 e7 w7 k7 rd7 f7 l7 v7=>?_;have o17:cW w7 w.heap.size GN (eG z0):=(o2.aL nx.aO id).aL k7 id;have K7:=Kx.tr k7;have Fz:∀g0,Re g0->bs=GU g0->out7=bs/\e7=0:=λg0 h1 h2=>by
   have e:p=g0:=hx g0 h1 h2;have:=v7 (by rw[e];exact h1);rw[this.1,e,h2];exact⟨rfl,this.2⟩
  refine aF (λhe=>UW _ w7 (by decide) K7 o17 λg0 h1 h2=>?_) (λhe=>?_)
  ·rw[(Fz g0 h1 h2).2] at he;simp at he
  refine yi rd7.1 (hb.aL K7 fN λ_ _=>id) λc hc=>?_;refine aF (λPX=>UW _ w7 (by decide) K7 o17 λg0 h1 h2=>?_) (λPX=>?_)
  ·rw[hc (Fz g0 h1 h2).1] at PX;cases PX
  have ox7:=ox.aL k7 id;refine bJ (l:=kG) (JG (p,sl)) (ox7.holds λj v hj=>by rw[pU];exact hj) ?_;refine fD (vs:=eG (p,sl)) o17 rP rfl (Lt _) λw8 o8 m8 _=>?_;refine bJ (l:=kG) (JG (p,sl)) (o8.holds λj v hj=>by rw[pU];exact hj) ?_;have rd8:=bF.kp rdx k7;refine hQ p sl 0 w8 (K7.fresh m8 λk e=>by rw[show k=w.heap.size from e];exact iX _) ⟨rd8.1.aL m8 fN λb hb e=>?_,fN,λb hb=>by have:=rd8.2.2.1 b hb;have:=m8.size;omega,λ_=>Iff.rfl⟩ (λb hb=>Nat.le_of_lt (fx b hb)) ⟨⟨by show(0:Int)<=sq;omega,by show(sq:Int)<_;omega⟩,⟨by show(0:Int)<=ak;omega,by show(ak:Int)<_;omega⟩,DM,λg0 h1 h2=>⟨hx g0 h1 h2,rfl⟩,λx r hb hx=>(nf2 x r hb hx (by simpa using he1)).elim⟩;have:=fx b hb;omega
 have k45:∀g0,Re g0->bs=GU g0->∀t,nC g0=be 4 g0.aK.toNat++t->x4=g0.aK.toNat/\l4=t/\sp4=false:=λg0 h1 h2 t ht=>by
  obtain⟨_,e2,_⟩:=GK g0 h1 h2;exact v4 _ t rfl (by rw[e2,ht]) (Az h1.aK).2
 have le4:256^4=4294967296:=rfl;refine aF (λhk=>?_) (λQM=>aF (λhk=>?_) (λDL=>aF (λhk=>?_) (λri=>?_)))
 ·have hk:kind=1:=by simpa using hk
  refine QA n6 (sz:=4) rfl aB aB λx7 l7 sp7 w7 n7 c7 b7 v7=>?_;refine QA n7 (sz:=4) rfl aB aB λx8 l8 sp8 w8 n8 c8 b8 v8=>?_;refine FF n8 cY (by simp[g1]) rfl rfl λw9 n9=>?_;refine FF n9 cY (by simp[g1]) rfl rfl λeY n10=>?_;obtain⟨GA,tY,back10⟩:=n10.foc λS h=>aZ.l h;refine yh tY λxW e11 b11=>?_;refine mr tY aB λr12 out12 l12 sp12 eQ YJ KV hs12 Cg rd12 f12 c12 d12 Am YK=>?_;have z10:=n10.size;have n12:Nu w2 (aZ (tQ g l12 sp12) (aZ (sM w4.heap.size GN (g1 x4 x7 x8 0 bD)) (CX 1 eU r12 out12))) eQ:=by
   have:=back10 (aZ (tQ g l12 sp12) (CX 1 eU r12 out12)) eQ _ ⟨Cg.m,λk hk=>hk.elim (λh=>.inl (hs12 k h)) λ⟨b,hb,e⟩=>.inr (by rw[e];exact f12 b hb)⟩ (aZ.vZ KV rd12 λk hk ⟨b,hb,e⟩=>by have:=bF.gI tY k (hs12 k hk);have:=f12 b hb;omega);exact this.map λS h=>h.asr.mono (λ_ h=>h) λ_ h=>h.cm.asr.mono (λ_ h=>h) λ_ h=>aZ.emp_l h
  obtain⟨S12',bb12,TM⟩:=n12.foc λS h=>(aZ.r h).c λT hT=>aZ.l hT;refine pG (v:=sv r12) bb12 TQ (by simp[g1]) rfl rfl λgQ b13 u13=>?_;have n13:=TM _ gQ _ u13 b13;refine GG x7 x8 0 r12 out12 l12 sp12 gQ b7 b8 aB n13 (λb hb=>by have:=f12 b hb;have:=k2.size;omega) λg0 h1 h2=>?_;obtain⟨e0,e2,_⟩:=GK g0 h1 h2;have hgk:g0.kind=1:=aB;have hs:=h1.seq;have ha:=h1.IY;have hc:=h1.code;have YO:=h1.aK;rw[if_pos hgk] at hs;rw[if_neg aB] at ha;rw[if_neg aB] at hc;obtain⟨q1,rfl,rfl⟩:=k45 g0 h1 h2 (be 4 g0.seq.toNat++(be 4 g0.IY.toNat++g0.body)) (by unfold nC;rw[if_pos hgk];simp);obtain⟨q2,rfl,rfl⟩:=v7 _ _ rfl rfl (Az hs).2;obtain⟨q3,rfl,rfl⟩:=v8 _ _ rfl rfl (Az ha).2;obtain⟨q4,_,_⟩:=YK g0.body [] rfl dJ (by rw[e11 rfl]);obtain⟨c,k,sq,ak,cd,bd⟩:=g0;simp only[eR.mk.injEq];have h01:=hs.1;have h02:=ha.1;have h03:=YO.1;simp only at*;exact⟨aB,aB,aB,aB,aB,q4⟩
 ·have hk:kind=2:=by simpa using hk
  refine QA n6 (sz:=4) rfl aB aB λx7 l7 sp7 w7 n7 c7 b7 v7=>?_;refine FF n7 cY (by simp[g1]) rfl rfl λw8 n8=>?_;refine GG 0 x7 0 bD [] l7 sp7 w8 aB b7 (iF _) (n8.map λS h=>h.mono (λ_ h=>h) λ_ h=>h.mono (λ_ h=>h) λ_ h=>me h) (λb hb=>by cases hb) λg0 h1 h2=>?_;obtain⟨e0,e2,_⟩:=GK g0 h1 h2;have hgk:g0.kind=2:=aB;have hs:=h1.seq;have ha:=h1.IY;have hc:=h1.code;have hb:=h1.body;have YO:=h1.aK;rw[if_neg aB] at hs hc ha hb;obtain⟨q1,rfl,rfl⟩:=k45 g0 h1 h2 (be 4 g0.IY.toNat) (by unfold nC;rw[if_neg aB,if_pos hgk]);obtain⟨q2,_,_⟩:=v7 _ [] rfl dJ (Az ha).2;obtain⟨c,k,sq,ak,cd,bd⟩:=g0;simp only[eR.mk.injEq];have h02:=ha.1;have h03:=YO.1;simp only at*;exact⟨aB,aB,aB,aB,aB,hb.symm⟩
 ·have hk:kind=3:=by simpa using hk
  refine QA n6 (sz:=1) rfl aB aB λx7 l7 sp7 w7 n7 c7 b7 v7=>?_;refine FF n7 cY (by simp[g1]) rfl rfl λw8 n8=>?_;refine GG 0 0 x7 bD [] l7 sp7 w8 aB aB (iF _) (n8.map λS h=>h.mono (λ_ h=>h) λ_ h=>h.mono (λ_ h=>h) λ_ h=>me h) (λb hb=>by cases hb) λg0 h1 h2=>?_;obtain⟨e0,e2,_⟩:=GK g0 h1 h2;have hgk:g0.kind=3:=aB;have hs:=h1.seq;have ha:=h1.IY;have hc:=h1.code;have hb:=h1.body;have YO:=h1.aK;rw[if_neg aB] at hs hb;rw[if_pos hgk] at ha hc;obtain⟨q1,rfl,rfl⟩:=k45 g0 h1 h2 (be 1 g0.code.toNat) (by unfold nC;rw[if_neg aB,if_neg aB]);obtain⟨q2,_,_⟩:=v7 _ [] rfl dJ (rng8 hc).2;obtain⟨c,k,sq,ak,cd,bd⟩:=g0;simp only[eR.mk.injEq];have h02:=hc.1;have h03:=YO.1;simp only at*;exact⟨aB,aB,aB,aB,aB,hb.symm⟩
 ·have hk1':¬kind=1:=by simpa using QM
  have hk2':¬kind=2:=by simpa using DL
  have hk3':¬kind=3:=by simpa using ri
  refine GG 0 0 0 bD [] l4 sp4 w6 aB aB (iF _) (n6.map λS h=>h.mono (λ_ h=>h) λ_ h=>h.mono (λ_ h=>h) λ_ h=>me h) (λb hb=>by cases hb) λg0 h1 h2=>?_;obtain⟨e0,_,_⟩:=GK g0 h1 h2;have:=h1.kind;omega
end
theorem EC{α:Type}{t e:TypeId}{n bytes:Nat}{z:List Value}(hE:sI prog t e n bytes z){aX:α->List Value}(gA:∀x,(aX x).length=n)(jA:∀x,∀u∈aX x,u.oneCell'=true)
  {w:aH} {S:BS} {s x:Sl} {xs ys:List α} (h:jB e n aX s xs w S) (hx:Rd w x n aX ys) (hl:xs.length+ys.length<=1000000) (hb:bytes<=1000) {K:Sl->aH->Prop}
  (hK:∀r w' S',jB e n aX r (xs++ys) w' S'->Up S S' w w'->K r w'):aW prog t t s (.slice x.b x.l x.c) w K:=by
 have hm:(xs.length+ys.length)*bytes<=1000000*1000:=JA hl hb;refine fO hE gA jA h.1 hx aB aB λr w' v m hr hn=>hK r w' _ ⟨v,λ_=>Iff.rfl⟩ ⟨m.mono λk _ hk=>(h.2 k).2 hk,λk hk=>?_⟩;obtain⟨b,hb,rfl⟩:=hk;rcases hr with h2|⟨a,h1,h2⟩
 ·exact .inl ((h.2 _).2 ⟨b,h2.symm.trans hb,rfl⟩)
 ·rw[hb] at h1;cases h1;exact .inr h2
structure aAo(bs:List cH)(m:iJ)(e:Int):Prop where
 len:m.cJ.length<=70000
 ok:∀m0,sO m0->bs=kS m0->m=m0/\e=0
theorem Pg(l:List Int):(l.flatMap λe=>be 2 e.toNat).length=l.length*2:=by
 induction l with
 |nil=>rfl
 |cons a l ih=>rw[FC,mH,ih,pH,mV];omega
set_option maxHeartbeats 1000000 in
theorem mv{b:Sl}{bs:List cH}{w:aH}{Q:MT->Int->aH->Prop}(hb:Rd w b 1 eU bs)(hl:bs.length<=5000)
  (hQ:∀m sl e w',aN w w'->CX 1 eI sl m.cJ w' (rK sl)->(∀b,sl.b=some b->w.heap.size<=b.block)->aAo bs m e->Q (GF (m,sl)) e w'):lZ b w Q:=by
 unfold lZ
 let z0:MX:=(⟨0,0,0,[],0,⟨0,0,0,0⟩⟩,bD)
 refine cD (cs:=tN z0) λw1 b1 k1 z1=>?_;have UW:∀mc wx,aN w wx->cW wx w.heap.size nL mc->mc.length=9->(∀m0,sO m0->bs=kS m0->False)->aI prog nL ⟨w.heap.size,0,none⟩ (Value.agg (tN z0).toArray) wx λw3=>fL ff w3 ⟨w.heap.size,0,none⟩ λt1=>Q (t1.1,t1.2.1,t1.2.2.1,t1.2.2.2.1,t1.2.2.2.2.1,t1.2.2.2.2.2.1,t1.2.2.2.2.2.2.1,t1.2.2.2.2.2.2.2.1,t1.2.2.2.2.2.2.2.2.1,()) 2 w3:=by
  intro mc wx kx ox fW hx;refine fD ox CE fW (VS _) λw3 o3 m3 _=>?_;refine bJ (l:=ff) (GF z0) (o3.holds λj v hj=>by rw[pU];exact hj) ?_;exact hQ z0.1 z0.2 2 w3 (kx.fresh m3 λk e=>by rw[show k=w.heap.size from e];exact iX _) ⟨Rd.nil _ _ _,dA,λb hb=>(by cases hb),λ_=>Iff.rfl⟩ (λb hb=>by cases hb) ⟨iF _,λm0 h1 h2=>(hx m0 h1 h2).elim⟩
 refine mo (hb.aL k1 fN λ_ _=>id) aB λg w2 S2 a2 k2 s2=>?_;have n2:Nu w (aZ (tQ g bs false) (aZ (sM w.heap.size nL (tN z0)) DO)) w2:=by
  have n1:Nu w (sM w.heap.size nL (tN z0)) w1:=Nu.of b1 (λk hk=>aB) k1;exact(n1.add k2 a2 s2).map λS h=>h.cm.mono (λ_ h=>h) λ_ h=>aZ.emp h
 refine QA n2 (sz:=1) rfl aB aB λx3 l3 sp3 w3 n3 c3 b3 v3=>?_;refine FF n3 cY (by simp[z0]) rfl rfl λw4 n4=>?_;intro J1 OP;have Fk:∀{wx:aH} {S:BS},DO wx S->jB cZ 1 eI bD ([]:List Int) wx S:=λ{wx S} h=>⟨dP.nil _ _ _ _,λk=>⟨λhk=>absurd hk (h k),λ⟨b,hb,_⟩=>by cases hb⟩⟩;have GG:∀(m:iJ) (sl:Sl) l' uU wx,Nu w (aZ (tQ g l' uU) (aZ (sM w.heap.size nL (tN (m,sl))) (jB cZ 1 eI sl m.cJ))) wx->m.cJ.length<=70000->(∀m0,sO m0->bs=kS m0->m=m0)->J1 () wx:=by
  intro m sl l' uU wx nx hml hx;apply OP;have ox:=rOwn nx;refine bJ (l:=ff) (GF (m,sl)) (ox.holds λj v hj=>by rw[pU];exact hj) ?_;obtain⟨⟨S,⟨S1,S2,yy,⟨S3,S4,Nq,hv4,d34,Wl⟩,d12,e12⟩,hS⟩,mx⟩:=nx;have fx:∀b,sl.b=some b->w.heap.size<=b.block/\b.block≠w.heap.size/\b.block<wx.heap.size:=λb hb=>by
   have h4:S4 b.block:=(hv4.2 _).2 ⟨b,hb,rfl⟩;exact⟨hS _ ((e12 _).2 (.inr ((Wl _).2 (.inr h4)))),λe=>d34 _ ((Nq.2 _).2 e) h4,bF.gI hv4 _ h4⟩
  have Kx:aN w wx:=(aY.refl (λ_=>False) w).fresh mx λ_=>id;have rdx:=hv4.1.rd fM;refine Enc_i rdx (λb hb=>(fx b hb).2.2) hml λr7 out7 e7 w7 k7 rd7 f7 l7 v7=>?_;have K7:=Kx.tr k7;have o7:=ox.aL k7 id;have Fz:∀m0,sO m0->bs=kS m0->out7=bs/\e7=0:=λm0 h1 h2=>by
   have e:m=m0:=hx m0 h1 h2;have:=v7 (by rw[e];exact h1);rw[this.1,e,h2];exact⟨rfl,this.2⟩
  refine aF (λhe=>UW _ w7 K7 o7 rfl λm0 h1 h2=>?_) (λhe=>?_)
  ·rw[(Fz m0 h1 h2).2] at he;simp at he
  refine yi rd7.1 (hb.aL K7 fN λ_ _=>id) λc hc=>?_;refine aF (λPX=>UW _ w7 K7 o7 rfl λm0 h1 h2=>?_) (λPX=>?_)
  ·rw[hc (Fz m0 h1 h2).1] at PX;cases PX
  refine bJ (l:=ff) (GF (m,sl)) (o7.holds λj v hj=>by rw[pU];exact hj) ?_;refine fD (vs:=tN (m,sl)) o7 CE rfl (VS _) λw8 o8 m8 z8=>?_;refine bJ (l:=ff) (GF (m,sl)) (o8.holds λj v hj=>by rw[pU];exact hj) ?_;refine hQ m sl 0 w8 (K7.fresh m8 λk e=>by rw[show k=w.heap.size from e];exact iX _) ⟨(rdx.aL k7 dA λ_ _=>id).aL m8 dA λb hb e=>(fx b hb).2.1 e,dA,λb hb=>by have:=(fx b hb).2.2;have:=k7.size;omega,λ_=>Iff.rfl⟩ (λb hb=>(fx b hb).1) ⟨hml,λm0 h1 h2=>⟨hx m0 h1 h2,rfl⟩⟩
 have toV:∀{mc l' uU wx},Nu w (aZ (tQ g l' uU) (aZ (sM w.heap.size nL mc) DO)) wx->Nu w (aZ (tQ g l' uU) (aZ (sM w.heap.size nL mc) (jB cZ 1 eI bD ([]:List Int)))) wx:=λh=>h.map λS h=>h.mono (λ_ h=>h) λ_ h=>h.mono (λ_ h=>h) λ_ h=>Fk h;have GK:∀m0,sO m0->bs=kS m0->(x3:Int)=m0.kind/\sp3=false/\be 1 m0.kind.toNat++l3=kS m0:=λm0 h1 h2=>by
  have hk:=h1.kind;have h3:∃t,kS m0=be 1 m0.kind.toNat++t:=⟨_,rfl⟩;obtain⟨t,ht⟩:=h3;obtain⟨e1,rfl,e3⟩:=v3 _ t rfl (by rw[h2,ht]) aB;exact⟨aB,e3,ht.symm⟩
 have cR:∀m0 t,sO m0->bs=kS m0->kS m0=be 1 m0.kind.toNat++t->l3=t:=λm0 t h1 h2 h3=>by
  have:=(GK m0 h1 h2).2.2;rw[h3] at this;exact List.append_cancel_left this
 have hz:∀m0,sO m0->m0.kind≠7->m0.eV=⟨0,0,0,0⟩:=λm0 h hk=>by have:=h.eV;rwa[if_neg hk] at this
 have hwt:∀m0,sO m0->m0.kind≠5->m0.mE=0/\m0.cJ=[]:=λm0 h hk=>⟨by have:=h.mE;rwa[if_neg hk] at this,by have:=h.cJ;rwa[if_neg hk] at this⟩;have hd:∀m0,sO m0->m0.kind≠1->m0.LM=0:=λm0 h hk=>by have:=h.LM;rwa[if_neg hk] at this
 have Qx:∀m0,sO m0->¬(m0.kind=1\/m0.kind=2\/m0.kind=9)->m0.pos=0:=λm0 h hk=>by have:=h.pos;rwa[if_neg hk] at this
 refine aE (k:=.i) (x3:Int) (tq n4 rfl) ?_;refine aF (λhk=>?_) (λQM=>?_)
 ·have hk:(x3:Int)=1:=by simpa using hk
  refine QA n4 (sz:=2) rfl aB aB λx5 l5 sp5 w5 n5 c5 b5 v5=>?_;refine QA n5 (sz:=2) rfl aB aB λx6 l6 sp6 w6 n6 c6 b6 v6=>?_;refine FF n6 cY (by simp[z0]) rfl rfl λw7 n7=>?_;refine FF n7 cY (by simp[z0]) rfl rfl λw8 n8=>?_;refine GG ⟨x3,x5,x6,[],0,⟨0,0,0,0⟩⟩ bD l6 sp6 w8 (toV n8) (iF _) λm0 h1 h2=>?_;obtain⟨e1,e2,e3⟩:=GK m0 h1 h2;have fp:m0.kind=1:=aB;have hp:=h1.pos;have hde:=h1.LM;rw[if_pos (.inl fp)] at hp;rw[if_pos fp] at hde;have e4:=cR m0 (be 2 m0.pos.toNat++be 2 m0.LM.toNat) h1 h2 (by unfold kS;rw[if_pos fp]);obtain⟨q1,rfl,q2⟩:=v5 _ _ e2 e4 (QR hp).2;obtain⟨q3,_,_⟩:=v6 _ [] q2 dJ (QR hde).2;have q5:=hz m0 h1 aB;have q6:=hwt m0 h1 aB;obtain⟨k,ps,ds,es,wt,hh⟩:=m0;simp only[iJ.mk.injEq];have h02:=hp.1;have h03:=hde.1;simp only at*;exact⟨aB,aB,aB,q6.2.symm,q6.1.symm,q5.symm⟩
 have QM:¬(x3:Int)=1:=by simpa using QM
 intro J2 Ra;have j29:(x3:Int)=2\/(x3:Int)=9->J2 (true,()) w4:=by
  intro hk;apply Ra;refine aF (λ_=>?_) (λh=>by cases h);refine QA n4 (sz:=2) rfl aB aB λx5 l5 sp5 w5 n5 c5 b5 v5=>?_;refine FF n5 cY (by simp[z0]) rfl rfl λw7 n7=>?_;refine GG ⟨x3,x5,0,[],0,⟨0,0,0,0⟩⟩ bD l5 sp5 w7 (toV n7) (iF _) λm0 h1 h2=>?_;obtain⟨e1,e2,e3⟩:=GK m0 h1 h2;have fp:m0.kind=2\/m0.kind=9:=aB;have hp:=h1.pos;rw[if_pos (.inr fp)] at hp;have e4:=cR m0 (be 2 m0.pos.toNat) h1 h2 (by unfold kS;rw[if_neg aB,if_pos fp]);obtain⟨q1,_,q2⟩:=v5 _ [] e2 (by rw[e4];simp) (QR hp).2;have q5:=hz m0 h1 aB;have q6:=hwt m0 h1 aB;have q7:=hd m0 h1 aB;obtain⟨k,ps,ds,es,wt,hh⟩:=m0;simp only[iJ.mk.injEq];have h02:=hp.1;simp only at*;exact⟨aB,aB,aB,q6.2.symm,q6.1.symm,q5.symm⟩
 have jr:¬((x3:Int)=2\/(x3:Int)=9)->J2 (false,()) w4:=by
  intro hk29;apply Ra;refine aF (λh=>by cases h) (λ_=>aF (λhk=>?_) (λNp=>aF (λhk=>?_) (λhk7=>?_)))
  ·have hk:(x3:Int)=5:=by simpa using hk
   refine QA n4 (sz:=5) rfl aB aB λx5 l5 sp5 w5 n5 c5 b5 v5=>?_;refine FF n5 cY (by simp[z0]) rfl rfl λw7 n7=>?_;refine QA n7 (sz:=2) rfl aB aB λx8 l8 sp8 w8 n8 c8 b8 v8=>?_;have fr:∀m0,sO m0->bs=kS m0->m0.kind=5/\(x5:Int)=m0.mE/\l8=(m0.cJ.flatMap λe=>be 2 e.toNat)/\sp8=false/\x8=m0.cJ.length:=λm0 h1 h2=>by
    obtain⟨e1,e2,e3⟩:=GK m0 h1 h2;have fp:m0.kind=5:=aB;have hw:=h1.mE;have he:=h1.cJ;rw[if_pos fp] at hw he;have e4:=cR m0 (be 5 m0.mE.toNat++(be 2 m0.cJ.length++m0.cJ.flatMap λe=>be 2 e.toNat)) h1 h2 (by unfold kS;rw[if_neg aB,if_neg aB,if_pos fp];simp);obtain⟨q1,rfl,q2⟩:=v5 _ _ e2 e4 (Oa hw).2;obtain⟨q3,rfl,q4⟩:=v8 _ _ q2 rfl aB;have:=hw.1;exact⟨fp,aB,rfl,q4,q3⟩
   have dW:∀es sl l' uU wx,Nu w (aZ (tQ g l' uU) (aZ (sM w.heap.size nL (tN (⟨x3,0,0,es,x5,⟨0,0,0,0⟩⟩,sl))) (jB cZ 1 eI sl es))) wx->es.length<=70000->(∀m0,sO m0->bs=kS m0->m0.cJ=es)->J1 () wx:=by
    intro es sl l' uU wx nx Vt hx;refine GG ⟨x3,0,0,es,x5,⟨0,0,0,0⟩⟩ sl l' uU wx nx Vt λm0 h1 h2=>?_;obtain⟨fp,q1,_⟩:=fr m0 h1 h2;have q2:=hx m0 h1 h2;have q5:=hz m0 h1 aB;have q6:=Qx m0 h1 aB;have q7:=hd m0 h1 aB;obtain⟨k,ps,ds,es,wt,hh⟩:=m0;simp only[iJ.mk.injEq];simp only at*;exact⟨aB,aB,aB,q2.symm,q1,q5.symm⟩
   refine bK (λc t AO=>∃(n:Nat) (es:List Int) (sl:Sl) (l':List cH) (uU:Bool),c=n/\t=((n:Int),())/\es.length+n<=65536/\l'.length<=5000/\Nu w (aZ (tQ g l' uU) (aZ (sM w.heap.size nL (tN (⟨x3,0,0,es,x5,⟨0,0,0,0⟩⟩,sl))) (jB cZ 1 eI sl es))) AO/\
    ∀m0,sO m0->bs=kS m0->∃rem,m0.cJ=es++rem/\l'=(rem.flatMap λe=>be 2 e.toNat)/\uU=false/\n=rem.length) x8 ⟨x8,[],bD,l8,sp8,rfl,rfl,by simp;omega,aB,toV n8,λm0 h1 h2=>?_⟩ ?_
   ·obtain⟨_,_,q1,q2,q3⟩:=fr m0 h1 h2
    exact⟨m0.cJ,rfl,q1,q2,q3⟩
   rintro c t AO ⟨n,es,sl,l',uU,hc,rfl,hbn,hl',nx,hx⟩ X hX;dsimp only;refine aJ (λhn=>?_) (λhn=>dW es sl l' uU AO nx aB λm0 h1 h2=>?_)
   ·obtain⟨S9,a9,Be⟩:=nx.foc λS h=>aZ.l h
    refine yh a9 λx9 e9 b9=>?_;refine aJ (λh9=>?_) (λh9=>dW es sl l' uU AO nx aB λm0 h1 h2=>?_)
    ·have nd:=nx.kp (bO AO)
     refine aE (k:=.slice) sl (tq nd rfl) ?_;refine QA nd (sz:=2) rfl aB aB λsL l10 sp10 eY n10 c10 b10 v10=>⟨tq n10 rfl,?_⟩;refine cD (cs:=[aD (sL:Int)]) λeN b11 LF z11=>?_;have n11:=n10.kp LF;refine⟨tq n11 rfl,?_⟩;obtain⟨YJ,KV,TM⟩:=n11.foc λS h=>(aZ.r h).c λT hT=>aZ.r hT;refine EC (x:=⟨some ⟨eY.heap.size,0,none⟩,1,1⟩) iN fM EZ KV (jN fM [(sL:Int)] b11 rfl dJ) (by simp;omega) aB λr eQ S13 YK Cg=>?_;have n12:=TM _ eQ _ Cg YK;refine FF (v:=sv r) n12 oQ dJ rfl rfl λgQ n13=>?_;rw[show aQ ((n:Int)-(1:Int))=((n-1:Nat):Int) by rw[gV aB aB];omega];refine hX (n-1) _ _ aB ⟨n-1,es++[(sL:Int)],r,l10,sp10,rfl,rfl,by simp;omega,aB,n13,λm0 h1 h2=>?_⟩;obtain⟨rem,q1,q2,q3,q4⟩:=hx m0 h1 h2;obtain⟨fp,_⟩:=fr m0 h1 h2;have he:=h1.cJ;rw[if_pos fp] at he;cases rem with
     |nil=>simp at q4;omega
     |cons a rem=>
      have ha:=he.2 a (by rw[q1];simp);obtain⟨y1,y2,y3⟩:=v10 a.toNat (rem.flatMap λe=>be 2 e.toNat) q3 (by rw[q2,FC]) (QR ha).2;have:=ha.1;refine⟨rem,?_,y2,y3,by simp at q4;omega⟩;rw[q1,show(sL:Int)=a by omega];simp
    ·obtain⟨rem,q1,q2,q3,q4⟩:=hx m0 h1 h2
     have h9':=e9 q3;rw[q2,Pg] at h9';have:rem=[]:=Ct aB;rw[q1,this,sG]
   ·obtain⟨rem,q1,q2,q3,q4⟩:=hx m0 h1 h2
    have:rem=[]:=Ct aB;rw[q1,this,sG]
  ·have hk:(x3:Int)=7:=by simpa using hk
   refine QA n4 (sz:=1) rfl aB aB λx5 l5 sp5 w5 n5 c5 b5 v5=>?_;refine QA n5 (sz:=2) rfl aB aB λx6 l6 sp6 w6 n6 c6 b6 v6=>?_;refine QA n6 (sz:=5) rfl aB aB λx7 l7 sp7 w7 n7 c7 b7 v7=>?_;refine QA n7 (sz:=5) rfl aB aB λx8 l8 sp8 w8 n8 c8 b8 v8=>?_;rw[gV (n:=(x6:Int)-(1:Int)) aB aB];obtain⟨S9,bb9,Be⟩:=n8.foc λS h=>(aZ.r h).c λT hT=>aZ.l hT;rw[aS,pU];refine CD (v:=.agg #[aD (x5:Int),aD ((x6:Int)-1),aD (x7:Int),aD (x8:Int)]) bb9.1 AP (by simp[Value.cells,z0]) (by simp[Value.cells,Value.oneCell']) λw9 o9 m9 z9=>?_;have n9:=Be _ w9 _ (bb9.up o9 m9).2 (bb9.up o9 m9).1;refine GG ⟨x3,0,0,[],0,⟨x5,(x6:Int)-1,x7,x8⟩⟩ bD l8 sp8 w9 (toV n9) (iF _) λm0 h1 h2=>?_;obtain⟨e1,e2,e3⟩:=GK m0 h1 h2;have fp:m0.kind=7:=aB;have hh:=h1.eV;rw[if_pos fp] at hh;have e4:=cR m0 (be 1 m0.eV.cls.toNat++(be 2 (m0.eV.mC+1).toNat++(be 5 m0.eV.sE.toNat++be 5 m0.eV.left.toNat))) h1 h2 (by unfold kS;rw[if_neg aB,if_neg aB,if_neg aB,if_pos fp];simp);obtain⟨q1,rfl,p1⟩:=v5 _ _ e2 e4 (rng8 hh.1).2;obtain⟨q2,rfl,p2⟩:=v6 _ _ p1 rfl (QR hh.2.1).2;obtain⟨q3,rfl,p3⟩:=v7 _ _ p2 rfl (Oa hh.2.2.1).2;obtain⟨q4,_,_⟩:=v8 _ [] p3 dJ (Oa hh.2.2.2).2;have q6:=hwt m0 h1 aB;have q7:=hd m0 h1 aB;have q8:=Qx m0 h1 aB;obtain⟨k,ps,ds,es,wt,⟨hc,he,hf,hl⟩⟩:=m0;simp only[iJ.mk.injEq,MQ.mk.injEq];have y1:=hh.1.1;have y2:=hh.2.1.1;have y3:=hh.2.2.1.1;have y4:=hh.2.2.2.1;simp only at*;exact⟨aB,aB,aB,q6.2.symm,q6.1.symm,aB,aB,aB,aB⟩
  ·have Np:¬(x3:Int)=5:=by simpa using Np
   have hk7:¬(x3:Int)=7:=by simpa using hk7
   refine GG ⟨x3,0,0,[],0,⟨0,0,0,0⟩⟩ bD l3 sp3 w4 (toV n4) (iF _) λm0 h1 h2=>?_;obtain⟨e1,e2,e3⟩:=GK m0 h1 h2;have q5:=hz m0 h1 aB;have q6:=hwt m0 h1 aB;have q7:=hd m0 h1 aB;have q8:=Qx m0 h1 aB;obtain⟨k,ps,ds,es,wt,hh⟩:=m0;simp only[iJ.mk.injEq];simp only at*;exact⟨aB,aB,aB,q6.2.symm,q6.1.symm,q5.symm⟩
 refine aF (λhk=>?_) (λhk=>?_)
 ·rw[hk];exact j29 (.inl (by simpa using hk))
 ·have DL:¬(x3:Int)=2:=by simpa using hk
  by_cases hk9:(x3:Int)=9
  ·rw[show((x3:Int)==(9:Int))=true by simpa using hk9];exact j29 (.inr hk9)
  ·rw[show((x3:Int)==(9:Int))=false by simpa using hk9];exact jr λh=>h.elim DL hk9
section
section
variable{K:Type}[DecidableEq K]{w:aH}{S:BS}{r n:Nat}{ek:K->Value}{kn:oH}{f:K->Option kn.T}
theorem Yt{t kt et:TypeId}(ht:prog.underlying t=some (.map kt et))(hk:RD prog kt ek)(h:uQ r ek kn f n w S)(x:K)(v:kn.T){Q:aH->Prop}
  (hQ:∀w',uQ r ek kn (λy=>if y=x then some v else f y) (if(f x).isSome then n else n+1) w' S->Up S S w w'->Q w'):fF prog t (.map (some r)) (ek x) (kn.aX v) w Q:=
 WM ht hk h.1 x v λw' h' m _=>hQ w' ⟨h',h.2⟩ (Up.at (m.mono λk _ hk=>(h.2 k).2 hk))
theorem Yu{t kt et u:TypeId}(ht:prog.underlying t=some (.map kt et))(hk:RD prog kt ek)(h:uQ r ek kn f n w S)(x:K){Q:aH->Prop}
  (hQ:∀w',uQ r ek kn (λy=>if y=x then none else f y) (if(f x).isSome then n-1 else n) w' S->Up S S w w'->Q w'):qK prog t u (.map (some r)) (ek x) w Q:=
 Ig ht hk h.1 x λw' h' m _=>hQ w' ⟨h',h.2⟩ (Up.at (m.mono λk _ hk=>(h.2 k).2 hk))
end
def BD(s:Sl)(S:BS)(w:aH):Prop:=∀b,s.b=some b->¬S b.block/\b.block<w.heap.size
theorem BD.up{s:Sl}{S S':BS}{w w':aH}(h:BD s S w)(u:Up S S' w w'):BD s S' w':=λb hb=>⟨λhs=>(u.s _ hs).elim (h b hb).1 λhh=>by have:=(h b hb).2;omega,nM (h b hb).2 u.m.size⟩
theorem BD.rd{α:Type}{n:Nat}{aX:α->List Value}{xs:List α}{s:Sl}{S S':BS}{w w':aH}(h:BD s S w)(u:Up S S' w w')(hr:Rd w s n aX xs)(gH:∀x,aX x≠[]):Rd w' s n aX xs:=hr.aL u.m gH λb hb=>(h b hb).1
theorem BD.kp{s:Sl}{S:BS}{w w':aH}(h:BD s S w)(k:aN w w'):BD s S w':=λb hb=>⟨(h b hb).1,nM (h b hb).2 k.size⟩
abbrev i64(x:Int):Prop:=-9223372036854775808<=x/\x<=9223372036854775807
structure TimS where
 mb:Nat
 b:Int
 m:Int
 t:Int
 f:Int->Option knW.T
 n:Nat
def QF(a:Nat)(s:TimS):As:=aZ (sM a tTimer [aD s.b,aD s.m,aD s.t,.map (some s.mb)]) (uQ s.mb CW knW s.f s.n)
instance{a:Nat}{s:TimS}:bF (QF a s):=by unfold QF;infer_instance
def SP(a:Nat)(uW:Int->Prop):As:=Ex λs=>Pr (∀x,(s.f x).isSome=true↔uW x) (QF a s)
instance{a:Nat}{uW:Int->Prop}:bF (SP a uW):=by unfold SP;infer_instance
section
variable{w:aH}{S:BS}{a:Nat}{s:TimS}{uW:Int->Prop}
theorem QF.cells(h:QF a s w S):w.cell? ((⟨a,0,none⟩:Addr).add 0)=some (aD s.b)/\w.cell? ((⟨a,0,none⟩:Addr).add 1)=some (aD s.m)/\w.cell? ((⟨a,0,none⟩:Addr).add 2)=some (aD s.t)/\w.cell? ((⟨a,0,none⟩:Addr).add 3)=some (.map (some s.mb)):=by
 obtain⟨S1,S2,h1,_⟩:=h;exact⟨aP h1 rfl,aP h1 rfl,aP h1 rfl,aP h1 rfl⟩
theorem QF.map(h:QF a s w S):jT w s.mb CW knW s.f s.n:=by
 obtain⟨S1,S2,_,h2,_⟩:=h;exact h2.1
theorem QF.put(h:QF a s w S)(x:Int)(v:knW.T){Q:aH->Prop}(hQ:∀w' S',QF a {s with f:=λy=>if y=x then some v else s.f y,n:=if(s.f x).isSome then s.n else s.n+1} w' S'->Up S S' w w'->Q w'):
  fF prog 358 (.map (some s.mb)) (aD x) (knW.aX v) w Q:=by
 obtain⟨S2,h2,_,dN⟩:=(aZ.r h).put;refine Yt ke kT h2 x v λw' h' u'=>?_;obtain⟨S',h3,u3⟩:=dN _ _ _ u' h';exact hQ w' S' h3 u3
theorem QF.Wm(h:QF a s w S)(x:Int){Q:aH->Prop}(hQ:∀w' S',QF a {s with f:=λy=>if y=x then none else s.f y,n:=if(s.f x).isSome then s.n-1 else s.n} w' S'->Up S S' w w'->Q w'):
  qK prog 358 3 (.map (some s.mb)) (aD x) w Q:=by
 obtain⟨S2,h2,_,dN⟩:=(aZ.r h).put;refine Yu ke kT h2 x λw' h' u'=>?_;obtain⟨S',h3,u3⟩:=dN _ _ _ u' h';exact hQ w' S' h3 u3
theorem Wait_i{n:Int}{Q:Int->aH->Prop}(h:QF a s w S)(hQ:∀x,Q x w):IB (some ⟨a,0,none⟩) n w Q:=by
 unfold IB;obtain⟨c0,c1,_,_⟩:=h.cells;refine aF (λh=>by simp at h) (λ_=>aA rfl (aE (k:=.i) s.b c0 ?_));refine bK (λc t w1=>c=t.1.toNat/\w1=w) n.toNat ⟨rfl,rfl⟩ ?_;rintro c ⟨n,o,_⟩ w1 ⟨rfl,rfl⟩ X hX;dsimp only;refine aJ (λhn=>aA rfl (aE (k:=.i) s.m c1 (aJ (λ_=>?_) (λ_=>aA rfl (aE (k:=.i) s.m c1 (hQ _)))))) (λ_=>aA rfl (aE (k:=.i) s.m c1 (hQ _)));have e:aQ (n-(1:Int))<=n-1:=by rw[aQ,IntKind.wrap_i64];omega
 exact hX _ _ _ aB ⟨rfl,rfl⟩
theorem Start_i{id dL:Int}{Q:aH->Prop}(h:SP a uW w S)(hQ:∀w' S',SP a (λx=>x=id\/uW x) w' S'->Up S S' w w'->Q w'):KE (some ⟨a,0,none⟩) id dL w Q:=by
 unfold KE;obtain⟨s,hi,h⟩:=h;have hd:=bF.dr h;refine aF (λ_=>aA rfl (aE (k:=.map) (some s.mb) hd.cells.2.2.2 (Wait_i hd λx=>⟨hd.cells.2.2.2,hd.put id ((aQ (dL+x),(0:Int),()):Int×Int×Unit) λw' S' h' u'=>?_⟩))) (λh=>by simp at h);refine hQ w' S' ⟨_,λy=>?_,h'⟩ ((Up.aO (bO w)).tr u');dsimp only
 by_cases hy:y=id
 ·rw[if_pos hy];exact⟨λ_=>.inl hy,λ_=>rfl⟩
 ·rw[if_neg hy];exact(hi y).trans ⟨.inr,λh=>h.resolve_left hy⟩
theorem Stop_i{x:Int}{sl:Sl}{Q:aH->Prop}(h:SP a uW w S)(hr:Rd w sl 1 eI [x])(ho:BD sl S w)(hQ:∀w' S',SP a (λy=>y≠x/\uW y) w' S'->Up S S' w w'->Q w'):PM (some ⟨a,0,none⟩) sl w Q:=by
 unfold PM;obtain⟨s,hi,h⟩:=h;have hl:sl.l=1:=hr.len;rw[hl];refine aF (λh=>by simp at h) (λ_=>?_);refine bK (λc t w1=>(c=1/\t=(0,())/\w1=w)\/(c=0/\t=(1,())/\Q w1)) 1 (.inl ⟨rfl,rfl,rfl⟩) ?_;rintro c t w1 (⟨rfl,rfl,rfl⟩|⟨rfl,rfl,hq⟩) X hX
 ·dsimp only
  refine aJ (λ_=>?_) (λh=>absurd (by decide) h);obtain⟨b,hb,cb⟩:=cQ (k:=.i) (e:=λx=>x) hr (show [x][0]? =some x from rfl);refine⟨⟨by decide,by decide⟩,aA hb (aE (k:=.i) x cb (aA rfl (aE (k:=.map) (some s.mb) h.cells.2.2.2 (h.Wm x λw' S' h' u'=>?_))))⟩;refine hX 0 _ _ aB (.inr ⟨rfl,by rw[gV aB aB];rfl,hQ w' S' ⟨_,λy=>?_,h'⟩ u'⟩);dsimp only
  by_cases hy:y=x
  ·simp[hy]
  ·rw[if_neg hy];exact(hi y).trans ⟨λh=>⟨hy,h⟩,λh=>h.2⟩
 ·dsimp only
  exact aJ (λh=>absurd h (by decide)) (λ_=>hq)
theorem TiNew_i{b m t:Int}{Q:cO->Int->aH->Prop}(hv:1<=b/\b<=1000/\b<=m/\m<=1000/\0<=t/\t<=20)(hQ:∀w',SP (w.heap.size+1) (λ_=>False) w' (λk=>k=w.heap.size+1\/k=w.heap.size)->aN w w'->Q (some ⟨w.heap.size+1,0,none⟩) 0 w'):EL b m t w Q:=by
 unfold EL;refine aJ (λh=>aB) (λ_=>aJ (λh=>aB) (λ_=>aJ (λh=>aB) (λ_=>aJ (λh=>aB) (λ_=>aJ (λh=>aB) (λ_=>aJ (λh=>aB) (λ_=>?_))))));refine qV (ek:=CW) (kn:=knW) λhm k1=>?_;refine cD (cs:=[aD b,aD m,aD t,.map (some w.heap.size)]) λw2 b2 k2 z2=>?_;have e:(w.alloc (.map #[] 0)).heap.size=w.heap.size+1:=by simp
 rw[e] at b2 ⊢;refine hQ w2 ⟨⟨w.heap.size,b,m,t,λ_=>none,0⟩,λx=>by simp,⟨_,_,b2,⟨hm.aL k2 id,λk=>Iff.rfl⟩,λk h1 h2=>by have h2':k=w.heap.size:=h2;omega,λk=>Iff.rfl⟩⟩ (k1.tr k2)
theorem Oz{ks ls:List Int}(h:ks.Nodup)(hs:∀x∈ks,x∈ls):ks.length<=ls.length:=by
 induction ks generalizing ls with
 |nil=>exact iF _
 |cons a r ih=>
  have ha:=hs a dJ;rw[List.nodup_cons] at h;have:=ih (ls:=ls.erase a) h.2 λx hx=>by
   have gH:x≠a:=λe=>h.1 (e▸hx);exact(List.mem_erase_of_ne gH).2 (hs x (by simp[hx]))
  rw[List.length_erase_of_mem ha] at this;have:0<ls.length:=List.length_pos_of_mem ha;simp only[mV];omega
theorem Due_i{dL:Int}{Q:Sl->Sl->aH->Prop}(h:SP a uW w S)(h64:∀x,uW x->i64 x)(hc:∀ks:List Int,ks.Nodup->(∀x∈ks,uW x)->ks.length<=1000)
  (hQ:∀ag ov Rc qx Lz w' S',aZ (SP a Lz) (aZ (jB cZ 1 eI ag Rc) (jB cZ 1 eI ov qx)) w' S'->Up S S' w w'->(∀x,Lz x->uW x)->Rc.Nodup->(∀x∈Rc,Lz x)->((∀x,¬uW x)->Rc=[]/\qx=[])->Q ag ov w'):
  XD (some ⟨a,0,none⟩) dL w Q:=by
 unfold XD;obtain⟨s,hi,h⟩:=h;refine aF (λh=>by simp at h) (λ_=>aA rfl (aE (k:=.map) (some s.mb) h.cells.2.2.2 ?_));have hn:s.n<=1000:=by
  obtain⟨ks,k1,k2,k3⟩:=h.map.Ly;have:=hc ks k1 λx hx=>(hi x).1 ((k3 x).1 hx);omega
 refine aBf h.map (λx hx=>h64 x ((hi x).1 hx)) aB λs1 ks w2 v2 k2 f2 IT DL fo=>?_;have h2:=bF.kp h k2;have sl:=v2.len;have Fk:∀{wx:aH},jB cZ 1 eI bD ([]:List Int) wx (λ_=>False):=λ{wx}=>⟨dP.nil _ _ _ _,λk=>⟨False.elim,λ⟨b,hb,_⟩=>by cases hb⟩⟩;have o2:BD s1 (λk=>S k\/(False\/False)) w2:=λb hb=>⟨λhk=>hk.elim (λhk=>by have:=bF.gI h _ hk;have:=f2 b hb;omega) λh=>h.elim id id,v2.lt hb⟩;refine bK (λc t w3=>∃(i:Nat) (ag ov:Sl) (Rc qx:List Int) (s:TimS) (S3:BS),i<=ks.length/\c=ks.length-i/\t=(ag,ov,(i:Int),())/\aZ (QF a s) (aZ (jB cZ 1 eI ag Rc) (jB cZ 1 eI ov qx)) w3 S3/\Up S S3 w w3/\Rd w3 s1 1 eI ks/\BD s1 S3 w3/\
  (∀x,(s.f x).isSome=true->uW x)/\Rc.Sublist (ks.take i)/\qx.length<=i/\(∀x∈Rc,(s.f x).isSome=true)) ks.length
  ⟨0,_,_,[],[],s,_,iF _,rfl,rfl,⟨S,_,h2,⟨_,_,Fk,Fk,λ_ h _=>h,λ_=>Iff.rfl⟩,λk _ h=>h.elim id id,λ_=>Iff.rfl⟩,⟨k2.wk,λk hk=>hk.elim .inl λh=>h.elim False.elim False.elim⟩,v2.rd fM,o2,λx hx=>(hi x).1 hx,by simp,by simp,by simp⟩ ?_
 rintro c t w3 ⟨i,ag,ov,Rc,qx,s,S3,hi3,rfl,rfl,h3,u3,r3,o3,DA,KU,Ky,Qz⟩ X hX;dsimp only;refine aJ (λcL=>?_) (λlK=>?_)
 ·have dF:i<ks.length:=aB
  have cU:=gU dF;have fP:=oE dF;have sD:=FW dF;have Ro:ks[i]∉ks.take i:=λhm=>by
   have fk:ks.Nodup:=IT.imp λh e=>by rw[e] at h;omega
   have:=(Cs (i+1) ks)▸fk;rw[List.nodup_append] at this;have h1:=this.1;rw[sD,List.nodup_append] at h1;exact h1.2.2 _ hm _ dJ rfl
  generalize ks[i]=x at*;obtain⟨q,hq,tZ⟩:=cQ (k:=.i) (e:=λx=>x) r3 cU;rw[lJ,qM i aB];obtain⟨S4,hT,hT4,dN⟩:=aZ.l h3;refine⟨⟨aB,cL⟩,aA hq (aE (k:=.i) x tZ (aA rfl (aE (k:=.map) (some s.mb) hT.cells.2.2.2 ?_)))⟩;refine wV ke kT aAp hT.map x ?_;obtain⟨v1,v2,hv⟩:∃v1 v2:Int,(s.f x).getD ((0:Int),(0:Int),())=(v1,v2,()):=⟨_,_,rfl⟩;rw[hv];refine eZ (zs:=[aD 0,aD 0]) (vs:=[aD v1,aD v2]) aAy rfl (by simp[Value.oneCell']) λw4 o4 k4 z4=>?_;have c4:=Rl o4;have step:∀wx,aN w3 wx->∀(ag' ov':Sl) (agL' ovL':List Int) (s':TimS) (S5:BS) w5,aZ (QF a s') (aZ (jB cZ 1 eI ag' agL') (jB cZ 1 eI ov' ovL')) w5 S5->Up S3 S5 wx w5->(∀x,(s'.f x).isSome=true->uW x)->agL'.Sublist (ks.take (i+1))->ovL'.length<=i+1->(∀x∈agL',(s'.f x).isSome=true)->X (ag',ov',((i+1:Nat):Int),()) w5:=by
   intro wx kx ag' ov' agL' ovL' s' S5 w5 h5 u5 q1 q2 q3 q4;have uu:Up S3 S5 w3 w5:=(Up.aO kx).tr u5;exact hX _ _ _ aB ⟨i+1,ag',ov',agL',ovL',s',S5,dF,rfl,rfl,h5,u3.tr uu,o3.rd uu r3 dA,o3.up uu,q1,q2,q3,q4⟩
  have hsl1:Rc.Sublist (ks.take (i+1)):=KU.trans (by rw[sD];exact List.sublist_append_left _ _);refine aE (k:=.i) v1 c4.1 (aJ (λ_=>step w4 k4 ag ov Rc qx s S3 w4 (bF.kp h3 k4) (Up.refl _ _) DA hsl1 aB Qz) (λ_=>?_));have kd:=k4.tr (bO w4);have hTd:=bF.kp hT kd;refine aE (k:=.i) v2 ((bO w4).cell c4.2 id) (aA rfl (aE (k:=.i) s.t hTd.cells.2.2.1 (aJ (λ_=>?_) (λ_=>?_))))
  ·have kdd:=kd.tr (bO _)
   have Ar:=bF.kp h3 kdd;have cdd:=(bO w4.drew).cell ((bO w4).cell c4.2 id) id;obtain⟨S4,hT,hT4,dN⟩:=(aZ.l Ar).put;refine aA rfl (aE (k:=.map) (some s.mb) hT.cells.2.2.2 (aE (k:=.i) v2 cdd (aE (k:=.i) v2 cdd ?_)));refine Wait_i hT λx8=>⟨cdd,hT.cells.2.2.2,?_⟩;refine hT.put x ((aQ (dL+x8),aQ (v2+(1:Int)),()):Int×Int×Unit) λw6 S6 h6 u6=>?_;obtain⟨S7,h7,u7⟩:=dN _ w6 S6 u6 h6;refine cD (cs:=[aD x]) λw7 b7 k7 z7=>?_;obtain⟨S8,h8,_,MP⟩:=((aZ.r (bF.kp h7 k7)).c λT hT=>aZ.l hT).put;refine EC (x:=⟨some ⟨w6.heap.size,0,none⟩,1,1⟩) iN fM EZ h8 (jN fM [x] b7 rfl dJ) (by have:=KU.length_le;simp;rw[qF] at this;omega) aB λr w8 S9 v9 u9=>?_;obtain⟨GA,IX,Ev⟩:=MP _ w8 S9 u9 v9;refine step _ kdd r ov (Rc++[x]) qx _ GA w8 IX ((u7.tr (Up.aO k7)).tr Ev) (λy hy=>?_) (by rw[sD];exact KU.append (List.Sublist.refl _)) aB λy hy=>?_
   ·dsimp only at hy
    by_cases hyx:y=x
    ·subst hyx;exact(hi y).1 ((DL y).1 fP)
    ·rw[if_neg hyx] at hy;exact DA y hy
   ·dsimp only
    by_cases hyx:y=x
    ·rw[if_pos hyx];rfl
    ·rw[if_neg hyx]
     rcases jS.1 hy with h|h
     ·exact Qz y h
     ·exact absurd (by simpa using h) hyx
  ·have Ar:=bF.kp h3 kd
   obtain⟨S4,hT,hT4,dN⟩:=(aZ.l Ar).put;refine aA rfl (aE (k:=.map) (some s.mb) hT.cells.2.2.2 ?_);refine hT.Wm x λw6 S6 h6 u6=>?_;obtain⟨S7,h7,u7⟩:=dN _ w6 S6 u6 h6;refine cD (cs:=[aD x]) λw7 b7 k7 z7=>?_;obtain⟨S8,h8,_,MP⟩:=((aZ.r (bF.kp h7 k7)).c λT hT=>aZ.r hT).put;refine EC (x:=⟨some ⟨w6.heap.size,0,none⟩,1,1⟩) iN fM EZ h8 (jN fM [x] b7 rfl dJ) (by simp;omega) aB λr w8 S9 v9 u9=>?_;obtain⟨GA,IX,Ev⟩:=MP _ w8 S9 u9 v9;refine step _ kd ag r Rc (qx++[x]) _ GA w8 IX ((u7.tr (Up.aO k7)).tr Ev) (λy hy=>?_) hsl1 (by simp;omega) λy hy=>?_
   ·dsimp only at hy
    by_cases hyx:y=x
    ·rw[if_pos hyx] at hy;cases hy
    ·rw[if_neg hyx] at hy;exact DA y hy
   ·dsimp only
    rw[if_neg (λe:y=x=>Ro (by rw[<-e];exact KU.subset hy))];exact Qz y hy
 ·have ei:i=ks.length:=aB
  subst ei;have fk:ks.Nodup:=IT.imp λh e=>by rw[e] at h;omega
  rw[pF] at KU;obtain⟨S4,S5,hT,hV,d4,e4⟩:=h3;refine hQ ag ov Rc qx (λx=>(s.f x).isSome=true) w3 S3 ⟨S4,S5,⟨s,λ_=>Iff.rfl,hT⟩,hV,d4,e4⟩ u3 DA (KU.nodup fk) Qz λuX=>?_;have hk0:ks=[]:=by
   cases ks with
   |nil=>rfl
   |cons a r=>exact absurd ((hi a).1 ((DL a).1 dJ)) (uX a)
  subst hk0;exact⟨List.sublist_nil.1 KU,Ct (by have:qx.length<=0:=Ky;omega)⟩
end
end
section
structure OQ where
 cM:Nat
 next:Int
 f:Int->Option (List cH)
 n:Nat
 uW:Int->Prop
 gE:Bool
structure OQ.Ok(s:OQ):Prop where
 cM:s.cM<=16
 BE:s.n<=s.cM
 uW:∀x,s.uW x->(s.f x).isSome=true
 len:∀x bs,s.f x=some bs->0<=x/\x<s.next/\bs.length<=70000
 nx:0<=s.next/\s.next-s.n<=1000000000000000
theorem OQ.Ok.i64{s:OQ}(ok:s.Ok){x:Int}(h:s.uW x):i64 x:=by
 obtain⟨bs,hbs⟩:=Fo.1 (ok.uW x h);have:=ok.len x bs hbs;have:=ok.nx;have:=ok.BE;have:=ok.cM;exact⟨aB,aB⟩
theorem OQ.Ok.new{s:OQ}(ok:s.Ok):s.f s.next=none:=by
 cases h:s.f s.next with
 |none=>rfl
 |some bs=>have:=ok.len _ bs h;omega
structure vo(g:Int->Option UK.T)(f:Int->Option (List cH))(w:aH)(S:BS):Prop where
 iff:∀x,(g x).isSome=(f x).isSome
 rd:∀x (sl:Sl) bs,g x=some sl->f x=some bs->Rd w sl 1 eU bs
 lt:∀x (sl:Sl) b,g x=some sl->sl.b=some b->b.block<w.heap.size
 inj:∀x y (sl UI:Sl) b b',g x=some sl->g y=some UI->sl.b=some b->UI.b=some b'->b.block=b'.block->x=y
 all:∀k,S k↔∃x,∃sl:Sl,∃b,g x=some sl/\sl.b=some b/\k=b.block
def Oh(g:Int->Option UK.T)(f:Int->Option (List cH)):As:=λw S=>vo g f w S
instance{g:Int->Option UK.T}{f:Int->Option (List cH)}:bF (Oh g f):=⟨λh k hk=>by obtain⟨x,sl,b,h1,h2,rfl⟩:=(h.all k).1 hk;exact h.lt x sl b h1 h2,
 λh m hn=>⟨h.iff,λx sl bs h1 h2=>(h.rd x sl bs h1 h2).aL m fN λb hb=>hn _ ((h.all _).2 ⟨x,sl,b,h1,hb,rfl⟩),λx sl b h1 h2=>nM (h.lt x sl b h1 h2) m.size,h.inj,h.all⟩⟩
def ZA(mb:Nat)(g:Int->Option UK.T)(f:Int->Option (List cH))(n:Nat):As:=aZ (uQ mb CW UK g n) (Oh g f)
instance{mb:Nat}{g:Int->Option UK.T}{f:Int->Option (List cH)}{n:Nat}:bF (ZA mb g f n):=by unfold ZA;infer_instance
def FD(a tb mb:Nat)(g:Int->Option UK.T)(s:OQ):As:=aZ (sM a vv [.pointer (some ⟨tb,0,none⟩),aD (s.cM:Int),aD s.next,.map (some mb),.bool s.gE]) (aZ (ZA mb g s.f s.n) (SP tb s.uW))
instance{a tb mb:Nat}{g:Int->Option UK.T}{s:OQ}:bF (FD a tb mb g s):=by unfold FD;infer_instance
def QG(a:Nat)(s:OQ):As:=Ex λtb:Nat=>Ex λmb:Nat=>Ex λg:Int->Option UK.T=>FD a tb mb g s
instance{a:Nat}{s:OQ}:bF (QG a s):=by unfold QG;infer_instance
section
variable{w:aH}{S:BS}{a tb mb:Nat}{g:Int->Option UK.T}{s:OQ}
theorem FD.cells(h:FD a tb mb g s w S):w.cell? ((⟨a,0,none⟩:Addr).add 0)=some (.pointer (some ⟨tb,0,none⟩))/\w.cell? ((⟨a,0,none⟩:Addr).add 1)=some (aD (s.cM:Int))/\w.cell? ((⟨a,0,none⟩:Addr).add 2)=some (aD s.next)/\w.cell? ((⟨a,0,none⟩:Addr).add 3)=some (.map (some mb))/\w.cell? ((⟨a,0,none⟩:Addr).add 4)=some (.bool s.gE):=by
 obtain⟨S1,S2,h1,_⟩:=h;exact⟨aP h1 rfl,aP h1 rfl,aP h1 rfl,aP h1 rfl,aP h1 rfl⟩
theorem FD.map(h:FD a tb mb g s w S):jT w mb CW UK g s.n:=by
 obtain⟨S1,S2,_,⟨S3,S4,⟨S5,S6,h5,_⟩,_⟩,_⟩:=h;exact h5.1
theorem FD.tim(h:FD a tb mb g s w S):Wp w S (SP tb s.uW) λX=>aZ (sM a vv [.pointer (some ⟨tb,0,none⟩),aD (s.cM:Int),aD s.next,.map (some mb),.bool s.gE]) (aZ (ZA mb g s.f s.n) X):=
 (aZ.r h).c λT hT=>aZ.r hT
theorem Tc{Q:Bool->aH->Prop}(h:FD a tb mb g s w S)(hQ:Q s.gE w):xA (some ⟨a,0,none⟩) w Q:=by
 unfold xA;exact aF (λh=>by simp at h) (λ_=>aA rfl (aE (k:=.bool) s.gE h.cells.2.2.2.2 hQ))
theorem Room_i{Q:Int->aH->Prop}(h:FD a tb mb g s w S)(ok:s.Ok)(hQ:∀w',aN w w'->Q (if s.gE then 0 else((s.cM-s.n:Nat):Int)) w'):IG (some ⟨a,0,none⟩) w Q:=by
 unfold IG;refine Tc h (aF (λho=>?_) (λho=>?_))
 ·have:=hQ w (aY.refl _ _)
  rwa[if_pos ho] at this
 ·have hd:=bF.dr h
  refine aA rfl (aE (k:=.i) (s.cM:Int) hd.cells.2.1 (aA rfl (aE (k:=.map) (some mb) hd.cells.2.2.2.1 (Ys TG hd.map ⟨hd.cells.2.1,?_⟩))));have h1:=ok.cM;have h2:=ok.BE;have:=hQ w.drew (bO w);rw[if_neg (by rw[ho];simp)] at this;rw[gV aB aB,show(s.cM:Int)-(s.n:Int)=((s.cM-s.n:Nat):Int) by omega];exact this
def OQ.send(s:OQ)(bs:List cH):OQ:={s with next:=s.next+1,f:=λy=>if y=s.next then some bs else s.f y,n:=s.n+1,uW:=λy=>y=s.next\/s.uW y}
theorem JM{α:Type}{g:Int->Option α}{x y:Int}{r z:α}(h:(λy=>if y=x then some r else g y) y=some z):(y=x/\z=r)\/(y≠x/\g y=some z):=by
 dsimp only at h
 by_cases hy:y=x
 ·rw[if_pos hy] at h;cases h;exact .inl ⟨hy,rfl⟩
 ·rw[if_neg hy] at h;exact .inr ⟨hy,h⟩
theorem del_eq{α:Type}{g:Int->Option α}{x y:Int}{z:α}(h:(λy=>if y=x then none else g y) y=some z):y≠x/\g y=some z:=by
 dsimp only at h
 by_cases hy:y=x
 ·rw[if_pos hy] at h;cases h
 ·rw[if_neg hy] at h;exact⟨hy,h⟩
theorem OQ.Ok.send{s:OQ}{bs:List cH}(ok:s.Ok)(hr:s.n<s.cM)(hl:bs.length<=70000):(s.send bs).Ok:=by
 refine⟨ok.cM,by show s.n+1<=s.cM;omega,λx hx=>?_,λx b hb=>?_,?_⟩
 ·show(if x=s.next then some bs else s.f x).isSome=true
  by_cases h:x=s.next
  ·rw[if_pos h];rfl
  ·rw[if_neg h];exact ok.uW x (hx.resolve_left h)
 ·have:=ok.nx
  show 0<=x/\x<s.next+1/\_
  rcases JM hb with⟨h1,h2⟩|⟨h1,h2⟩
  ·rw[h2];exact⟨aB,aB,hl⟩
  ·have:=ok.len x b h2;exact⟨aB,aB,this.2.2⟩
 ·have:=ok.nx
  show 0<=s.next+1/\s.next+1-((s.n+1:Nat):Int)<=_
  omega
theorem ZA.put{f:Int->Option (List cH)}{n:Nat}{r:Sl}{bs:List cH}{w4:aH}{Q:aH->Prop}(h:ZA mb g f n w S)(k4:aN w w4)(rd4:CX 1 eU r bs w4 (rK r))(fr:∀b,r.b=some b->w.heap.size<=b.block)(x:Int)
  (hQ:∀w5 S',ZA mb (λy=>if y=x then some r else g y) (λy=>if y=x then some bs else f y) (if(f x).isSome then n else n+1) w5 S'->Up S S' w w5->Q w5):fF prog 341 (.map (some mb)) (aD x) (.slice r.b r.l r.c) w4 Q:=by
 have h4:=bF.kp h k4;have gI:=bF.gI h;obtain⟨S9,GA,Rq,hbods,d9,e9⟩:=h4;refine Yt TG kT Rq x r λw5 m5 u5=>?_;have hn:∀k,rK r k->¬S k:=λk ⟨b,hb,e⟩ hs=>by have:=gI _ hs;have:=fr b hb;omega
 have Dl:=bF.aL rd4 u5.m λk hk lT=>hn k hk ((e9 k).2 (.inl lT));have Oe:vo g f w5 GA:=bF.aL (A:=Oh g f) hbods u5.m λk hk lT=>d9 k lT hk;have old:∀y (sl:Sl) b,g y=some sl->sl.b=some b->S b.block:=λy sl b h1 h2=>(e9 _).2 (.inr ((Oe.all _).2 ⟨y,sl,b,h1,h2,rfl⟩))
 let g':Int->Option UK.T:=λy=>if y=x then some r else g y
 let S':BS:=λk=>∃y,∃sl:Sl,∃b,g' y=some sl/\sl.b=some b/\k=b.block
 have sub:∀k,S' k->GA k\/rK r k:=λk ⟨y,sl,b,h1,h2,e⟩=>by
  rcases JM h1 with⟨_,rfl⟩|⟨_,h1⟩
  ·exact .inr ⟨b,h2,e⟩
  ·exact .inl ((Oe.all _).2 ⟨y,sl,b,h1,h2,e⟩)
 have hB:Oh g' (λy=>if y=x then some bs else f y) w5 S':=by
  refine⟨λy=>?_,λy sl b hx hf=>?_,λy sl b hx hb=>?_,λy z sl UI b b' h1 h2 h3 h4 e=>?_,λk=>Iff.rfl⟩
  ·show(if y=x then(some r:Option UK.T) else g y).isSome=(if y=x then some bs else f y).isSome
   by_cases hxn:y=x
   ·rw[if_pos hxn,if_pos hxn];rfl
   ·rw[if_neg hxn,if_neg hxn];exact Oe.iff y
  ·rcases JM hx with⟨h1,rfl⟩|⟨h1,hx⟩
   ·rcases JM hf with⟨_,rfl⟩|⟨h2,_⟩
    ·exact Dl.1
    ·exact absurd h1 h2
   ·rcases JM hf with⟨h2,_⟩|⟨_,hf⟩
    ·exact absurd h2 h1
    ·exact Oe.rd y sl b hx hf
  ·rcases JM hx with⟨h1,rfl⟩|⟨h1,hx⟩
   ·exact Dl.2.2.1 b hb
   ·exact Oe.lt y sl b hx hb
  ·rcases JM h1 with⟨hy,e1⟩|⟨hy,p1⟩<;>rcases JM h2 with⟨hz,e2⟩|⟨hz,p2⟩
   ·rw[hy,hz]
   ·subst e1;exact(hn b.block ⟨b,h3,rfl⟩ (by rw[e];exact old z UI b' p2 h4)).elim
   ·subst e2;exact(hn b'.block ⟨b',h4,rfl⟩ (by rw[<-e];exact old y sl b p1 h3)).elim
   ·exact Oe.inj y z sl UI b b' p1 p2 h3 h4 e
 have m5':uQ mb CW UK (λy=>if y=x then some r else g y) (if(f x).isSome then n else n+1) w5 S9:=by have:=hbods.iff x;rw[<-this];exact m5
 refine hQ w5 (λk=>S9 k\/S' k) ⟨S9,_,m5',hB,λk h1 h2=>(sub k h2).elim (d9 k h1) λh=>hn k h ((e9 k).2 (.inl h1)),λk=>Iff.rfl⟩ ⟨(k4.wk (F:=S)).tr (u5.m.mono λk _ hk=>(e9 k).2 (.inl hk)),λk hk=>?_⟩;rcases hk with h|h
 ·exact .inl ((e9 k).2 (.inl h))
 ·rcases sub k h with h|⟨b,hb,e⟩
  ·exact .inl ((e9 k).2 (.inr h))
  ·exact .inr (by rw[e];exact fr b hb)
theorem Send_i{dL:Int}{body:Sl}{bs:List cH}{Q:Int->Int->aH->Prop}(h:QG a s w S)(ok:s.Ok)(hb:Rd w body 1 eU bs)(ho:BD body S w)(hl:bs.length<=70000)(Ky:s.gE=false)(hrm:s.n<s.cM)
  (hQ:∀w' S',QG a (s.send bs) w' S'->Up S S' w w'->Q s.next 0 w'):PQ (some ⟨a,0,none⟩) dL body w Q:=by
 unfold PQ;obtain⟨tb,mb,g,h⟩:=h;refine Tc h (aF (λho=>by rw[Ky] at ho;cases ho) (λ_=>Room_i h ok λw1 k1=>aF (λhz=>?_) (λ_=>?_)))
 ·rw[Ky] at hz;simp at hz;omega
 have h1:=bF.kp h k1;have Du:=hb.aL k1 fN λ_ _=>id;refine aA rfl (aE (k:=.i) s.next h1.cells.2.2.1 (aA rfl (aE (k:=.i) s.next h1.cells.2.2.1 (aA rfl ?_))))
 obtain⟨S2,b2,_,GZ⟩:=(aZ.l h1).put;refine pG b2 cY dJ rfl rfl λw3 b3 u3=>?_;obtain⟨S3,h3,v3⟩:=GZ _ _ _ u3 b3;have Ar:=bF.dr h3;have Nq:=((ho.kp k1).rd v3 Du fN).aL (bO w3) fN λ_ _=>id;obtain⟨T1,c1,_,_⟩:=(aZ.l Ar).put;obtain⟨S7,hBod,_,dN⟩:=((aZ.r Ar).c λT hT=>aZ.l hT).put;refine aA rfl (aE (k:=.map) (some mb) (aP c1 rfl) ?_);refine vJ Nq aB λr w4 S4 v4 k4 f4 rd4 fr4=>⟨aP (bF.kp c1 k4) rfl,?_⟩;refine hBod.put k4 rd4 fr4 s.next λw5 S5 h5 u5=>?_
 obtain⟨S6,h6,u6⟩:=dN _ w5 S5 u5 h5;obtain⟨T6,c6,_,_⟩:=(aZ.l h6).put;refine aA rfl (aE (k:=.ptr) (some ⟨tb,0,none⟩) (aP c6 rfl) ?_);obtain⟨S8,h8,_,MP⟩:=((aZ.r h6).c λT hT=>aZ.r hT).put;refine Start_i h8 λw9 S9 h9 u9=>?_;obtain⟨GA,IX,Ev⟩:=MP _ w9 S9 u9 h9;rw[ok.new,gV (n:=s.next+(1:Int)) (by have:=ok.nx;omega) (by have:=ok.nx;have:=ok.cM;omega)] at IX
 exact hQ w9 GA ⟨tb,mb,λy=>if y=s.next then some r else g y,IX⟩ (((((Up.aO k1).tr v3).tr (Up.aO (bO w3))).tr u6).tr Ev)
theorem Body_i{x:Int}{Q:Sl->Bool->aH->Prop}(h:QG a s w S)(ok:s.Ok)(hQ:∀r c w',CX 1 eU r ((s.f x).getD []) w' (rK r)->(∀b,r.b=some b->w.heap.size<=b.block)->aN w w'->Q r c w'):PR (some ⟨a,0,none⟩) x w Q:=by
 unfold PR;obtain⟨tb,mb,g,h⟩:=h;have hm:=h.map;refine aF (λh=>by simp at h) (λ_=>aA rfl (aE (k:=.map) (some mb) h.cells.2.2.2.1 ?_));refine PE (kn:=UK) TG kT (z:=(bD:Sl)) TN hm x ?_;obtain⟨S1,S2,_,⟨S3,S4,⟨S5,S6,_,hB,_⟩,_⟩,_⟩:=h;have key:∃r bs,(g x).getD (bD:Sl)=r/\(s.f x).getD []=bs/\Rd w r 1 eU bs/\bs.length<=70000:=by
  have h1:=hB.iff x;cases hg:g x with
  |none=>
   rw[hg] at h1;have:s.f x=none:=by simpa using h1.symm
   rw[this];exact⟨_,_,rfl,rfl,Rd.nil _ _ _,iF _⟩
  |some r=>
   rw[hg] at h1;obtain⟨bs,hbs⟩:=Fo.1 (show(s.f x).isSome=true from h1.symm);rw[hbs];exact⟨_,_,rfl,rfl,hB.rd x r bs hg hbs,(ok.len x bs hbs).2.2⟩
 obtain⟨r,bs,e1,e2,hr,hl⟩:=key;rw[e2] at hQ;rw[e1];exact vJ hr aB λr' w1 S' _ k1 _ rd fr=>hQ r' _ w1 rd fr k1
theorem SNew2_i{cM:Nat}{tb:Nat}{S:BS}{Q:cO->Int->aH->Prop}(hw:1<=cM/\cM<=16)(h:SP tb (λ_=>False) w S)
  (hQ:∀w' S',QG (w.heap.size+1) ⟨cM,0,λ_=>none,0,λ_=>False,false⟩ w' S'->aN w w'->(∀k,S' k->S k\/w.heap.size<=k)->Q (some ⟨w.heap.size+1,0,none⟩) 0 w'):zV (cM:Int) (some ⟨tb,0,none⟩) w Q:=by
 unfold zV;refine aJ (λh=>aB) (λ_=>aJ (λh=>aB) (λ_=>aF (λh=>by simp at h) (λ_=>?_)));refine qV (ek:=CW) (kn:=UK) λhm k1=>?_;refine cD (cs:=[.pointer (some ⟨tb,0,none⟩),aD (cM:Int),aD 0,.map (some w.heap.size),.bool false]) λw2 b2 k2 z2=>?_;have e:(w.alloc (.map #[] 0)).heap.size=w.heap.size+1:=by simp
 rw[e] at b2 ⊢;have gI:=bF.gI h;have hB:ZA w.heap.size (λ_=>none) (λ_=>none) 0 w2 (λk=>k=w.heap.size\/False):=⟨λk=>k=w.heap.size,λ_=>False,⟨hm.aL k2 id,λk=>Iff.rfl⟩,⟨λx=>rfl,λx sl b h=>(by cases h),λx sl b h=>(by cases h),λx y sl UI b b' h=>(by cases h),λk=>⟨False.elim,λ⟨x,sl,b,h,_⟩=>by cases h⟩⟩,λ_ _ h=>h,λ_=>Iff.rfl⟩;refine hQ w2 (λk=>k=w.heap.size+1\/(k=w.heap.size\/False)\/S k) ⟨tb,w.heap.size,λ_=>none,⟨_,_,b2,⟨_,_,hB,bF.kp (bF.kp h k1) k2,λk h1 h2=>?_,λ_=>Iff.rfl⟩,λk h1 h2=>?_,λ_=>Iff.rfl⟩⟩ (k1.tr k2) λk hk=>?_
 ·have:=gI k h2;rcases h1 with h1|h1
  ·omega
  ·exact h1
 ·rcases h2 with(h2|h2)|h2
  ·omega
  ·exact h2
  ·have:=gI k h2;omega
 ·rcases hk with hk|(hk|hk)|hk
  ·exact .inr aB
  ·exact .inr aB
  ·exact hk.elim
  ·exact .inl hk
def SAgain(s s':OQ):Prop:=s'.cM=s.cM/\s'.next=s.next/\s'.f=s.f/\s'.n=s.n/\∀x,s'.uW x->s.uW x
theorem Again_i{dL:Int}{Q:Sl->Int->aH->Prop}(h:QG a s w S)(ok:s.Ok)
  (hQ:∀r L e s' w' S',aZ (QG a s') (jB cZ 1 eI r L) w' S'->Up S S' w w'->SAgain s s'->s'.Ok->L.length<=s.n->(∀x∈L,(s.f x).isSome=true)->(e=0->s'.gE=s.gE)->(¬e=0->L=[])->(s.gE=false->(∀x,¬s.uW x)->e=0/\L=[])->Q r e w'):KG (some ⟨a,0,none⟩) dL w Q:=by
 unfold KG;obtain⟨tb,mb,g,h⟩:=h;have hm:=h.map;have Fk:∀{wx:aH},jB cZ 1 eI bD ([]:List Int) wx (λ_=>False):=λ{wx}=>⟨dP.nil _ _ _ _,λk=>⟨False.elim,λ⟨b,hb,_⟩=>by cases hb⟩⟩;have one:∀{A:As} {wx:aH} {T:BS},A wx T->aZ A (jB cZ 1 eI bD ([]:List Int)) wx T:=λ{A wx T} h=>⟨T,_,h,Fk,λ_ _ h=>h,λk=>⟨.inl,λh=>h.elim id False.elim⟩⟩;refine Tc h (aF (λKy=>?_) (λKy=>?_))
 ·exact hQ bD [] 6 s w S (one ⟨tb,mb,g,h⟩) (Up.refl _ _) ⟨rfl,rfl,rfl,rfl,λ_=>id⟩ ok (iF _) dJ (λh=>by cases h) (λ_=>rfl) λh=>by rw[h] at Ky;cases Ky
 refine aA rfl (aE (k:=.ptr) (some ⟨tb,0,none⟩) h.cells.1 ?_);obtain⟨S1,hT,vY,dN⟩:=h.tim;have YP:∀ks:List Int,ks.Nodup->(∀x∈ks,(s.f x).isSome=true)->ks.length<=s.n:=λks hk hi=>by
  obtain⟨ls,l1,l2,l3⟩:=hm.Ly;rw[<-l2];refine Oz hk λx hx=>(l3 x).2 ?_;have hB:∀x,(g x).isSome=(s.f x).isSome:=by
   obtain⟨_,_,_,⟨_,_,⟨_,_,_,hB,_⟩,_⟩,_⟩:=h;exact hB.iff
  rw[hB];exact hi x hx
 have CZ:=ok.cM;have DS:=ok.BE;refine Due_i hT (λx hx=>ok.i64 hx) (λks h1 h2=>by have:=YP ks h1 λx hx=>ok.uW x (h2 x hx);omega) λag ov Rc qx Lz w2 S2 h2 u2 q1 q2 q3 q4=>?_;have ovl:ov.l=qx.length:=by
  obtain⟨_,_,_,⟨_,_,_,hv,_⟩,_⟩:=h2;exact hv.1.len
 obtain⟨S3,h3,u3⟩:=dN (SP tb Lz) (aZ (jB cZ 1 eI ag Rc) (jB cZ 1 eI ov qx)) w2 S2 u2 h2
 let s1:OQ:={s with uW:=Lz}
 have LN:s1.Ok:=⟨ok.cM,ok.BE,λx hx=>ok.uW x (q1 x hx),ok.len,ok.nx⟩;have agok:∀x∈Rc,(s.f x).isSome=true:=λx hx=>ok.uW x (q1 x (q3 x hx));refine aJ (λhgt=>aA rfl ?_) (λFX=>?_)
 ·obtain⟨S4,h4,u4⟩:=h3.drop
  obtain⟨S5,b5,_,back5⟩:=(aZ.l h4).put;refine pG b5 iL dJ rfl rfl λw6 b6 u6=>?_;obtain⟨S6,h6,u7⟩:=back5 _ _ _ u6 b6;exact hQ bD [] 6 {s1 with gE:=true} w6 S6 (one ⟨tb,mb,g,h6⟩) ((u3.tr u4).tr u7) ⟨rfl,rfl,rfl,rfl,q1⟩ ⟨LN.cM,LN.BE,LN.uW,LN.len,LN.nx⟩ (iF _) dJ (λh=>by cases h) (λ_=>rfl) λh1 uX=>by
   have:=(q4 uX).2;rw[this] at ovl;simp at ovl;omega
 ·obtain⟨S4,h4,u4⟩:=(h3.asl).drop
  exact hQ ag Rc 0 s1 w2 S4 (h4.mono (λ_ h=>⟨tb,mb,g,h⟩) λ_ h=>h) (u3.tr u4) ⟨rfl,rfl,rfl,rfl,q1⟩ LN (YP Rc q2 agok) agok (λ_=>rfl) (λh=>absurd rfl h) λ_ uX=>⟨rfl,(q4 uX).1⟩
end
end
end Go.Proofs.YtihggjgakbgomaaGreat
namespace Go.Proofs.YtihggjgakbgomaaGreat
open Go Go.Den Go.ChangeMaps Go.MapKept
open Tryz (prog)
section
theorem delRaw_i{kn:oH}{f:Int->Option kn.T}{n r c:Nat}{w:aH}{es:Array MapEntry}{t et:TypeId}(ht:prog.underlying t=some (.map 3 et))(h:jT w r CW kn f n)(Vt:w.heap[r]? =some (.map es c))(x:Int)(hx:(f x).isSome=true){Q:aH->Prop}
  (hQ:∀w' j,w'.heap[r]? =some (.map (es.eraseIdxIfInBounds j) c)->j<es.size->(es.toList[j]?).map (·.key)=some (.int .i64 x)->jT w' r CW kn (λy=>if y=x then none else f y) (n-1)->aY (λk=>k=r) w w'->w'.heap.size=w.heap.size->Q w'):qK prog t 3 (.map (some r)) (.int .i64 x) w Q:=by
 have h1:qK prog t 3 (.map (some r)) (.int .i64 x) w λw'=>jT w' r CW kn (λy=>if y=x then none else f y) (n-1)/\aY (λk=>k=r) w w'/\w'.heap.size=w.heap.size:=
  Ig ht kT h x λw' a b e=>⟨by rw[if_pos hx] at a;exact a,b,e⟩
 obtain⟨_,w1,r1,f1,f2,f3⟩:=h1;obtain⟨es',c',l,g1,_,_,_,_,_,_,hf⟩:=h.find kT x w;rw[Vt] at g1;cases g1;rcases hf with⟨_,g,_⟩|⟨j,v,g,_,hjs,tP,qH⟩
 ·rw[g] at hx;cases hx
 ·have r2:(Builtin.delete_ #[t,3] 0 #[.map (some r),.int .i64 x]).run prog w=.ok (.tuple #[]) {w with heap:=w.heap.setIfInBounds r (.map (es.eraseIdxIfInBounds j) c)}:=by
   simp[Builtin.delete_,run_underlying ht,MapKept.run_getObj_map Vt,kT.check,qH,run_setObj_map _ Vt]
  rw[r1] at r2;injection r2 with _ e2;refine⟨_,w1,r1,hQ w1 j ?_ hjs tP f1 f2 f3⟩;rw[e2];exact(heap_set Vt).1
def AckR(s:OQ)(IY:Int)(s':OQ):Prop:=s'.cM=s.cM/\s'.next=s.next/\s'.gE=s.gE/\s'.n<=s.n/\(∀x,s'.uW x->s.uW x)/\(¬IY>s.next->∀x,s'.uW x->¬x<IY)
section
variable{w:aH}{S:BS}{a tb mb:Nat}{g:Int->Option UK.T}{s:OQ}
theorem FD.tim2(h:FD a tb mb g s w S):∃S1,SP tb s.uW w S1/\¬S1 mb/\(∀k,S1 k->S k)/\∀Lz w' BC,Up S1 BC w w'->SP tb Lz w' BC->∃S',FD a tb mb g {s with uW:=Lz} w' S'/\Up S S' w w':=by
 obtain⟨S5,S6,BI,⟨S7,S8,Ww,htim,d7,e7⟩,d5,e5⟩:=h;have hmb:S7 mb:=by
  obtain⟨S9,GA,hm,_,_,e9⟩:=Ww;exact(e9 _).2 (.inl ((hm.2 _).2 rfl))
 refine⟨S8,htim,λh=>d7 _ hmb h,λk hk=>(e5 k).2 (.inr ((e7 k).2 (.inr hk))),λLz w' BC u ht=>?_⟩;have b7:=bF.gI Ww;have b5:=bF.gI BI;have dd:=u.jv (λk h1 h2=>d7 k h2 h1) b7;have de:=u.jv (λk h1 h2=>d5 k h2 ((e7 k).2 (.inr h1))) b5;refine⟨λk=>S5 k\/S7 k\/BC k,⟨S5,_,bF.aL BI u.m λk hk lT=>d5 k hk ((e7 k).2 (.inr lT)),⟨S7,BC,bF.aL Ww u.m λk hk lT=>d7 k hk lT,ht,λk h1 h2=>dd k h2 h1,λ_=>Iff.rfl⟩,λk h1 h2=>h2.elim (λh=>d5 k h1 ((e7 k).2 (.inl h))) λh=>de k h h1,λ_=>Iff.rfl⟩,u.m.mono λk _ hk=>(e5 k).2 (.inr ((e7 k).2 (.inr hk))),λk hk=>?_⟩;rcases hk with h|h|h
 ·exact .inl ((e5 k).2 (.inl h))
 ·exact .inl ((e5 k).2 (.inr ((e7 k).2 (.inl h))))
 ·exact(u.s k h).imp (λh=>(e5 k).2 (.inr ((e7 k).2 (.inr h)))) id
theorem ZA.Wm{f:Int->Option (List cH)}{n c:Nat}{es:Array MapEntry}(h:ZA mb g f n w S)(Vt:w.heap[mb]? =some (.map es c))(x:Int)(hx:(g x).isSome=true){Q:aH->Prop}
  (hQ:∀w' j S',ZA mb (λy=>if y=x then none else g y) (λy=>if y=x then none else f y) (n-1) w' S'->(∀k,S' k->S k)->(∀(sl:Sl) b,g x=some sl->sl.b=some b->¬S' b.block/\S b.block)->aY (λk=>k=mb) w w'->S' mb->w'.heap[mb]? =some (.map (es.eraseIdxIfInBounds j) c)->j<es.size->(es.toList[j]?).map (·.key)=some (.int .i64 x)->Q w'):qK prog 341 3 (.map (some mb)) (.int .i64 x) w Q:=by
 obtain⟨S9,GA,hm,hb,d9,e9⟩:=h;have hmb9:S9 mb:=(hm.2 _).2 rfl;refine delRaw_i TG hm.1 Vt x hx λw' j h1 h2 h3 h4 m _=>?_;have bY:vo g f w' GA:=bF.aL (A:=Oh g f) hb m λk hk e=>d9 k (by rw[show k=mb from e];exact hmb9) hk
 let g':Int->Option UK.T:=λy=>if y=x then none else g y
 let S':BS:=λk=>∃y,∃sl:Sl,∃b,g' y=some sl/\sl.b=some b/\k=b.block
 have sub:∀k,S' k->GA k:=λk ⟨y,sl,b,h1,h2,e⟩=>(bY.all _).2 ⟨y,sl,b,(del_eq h1).2,h2,e⟩;have hB:Oh g' (λy=>if y=x then none else f y) w' S':=by
  refine⟨λy=>?_,λy sl b hx hf=>bY.rd y sl b (del_eq hx).2 (del_eq hf).2,λy sl b hx hb=>bY.lt y sl b (del_eq hx).2 hb,λy z sl UI b b' h1 h2 h3 h4 e=>bY.inj y z sl UI b b' (del_eq h1).2 (del_eq h2).2 h3 h4 e,λk=>Iff.rfl⟩;show(if y=x then(none:Option UK.T) else g y).isSome=(if y=x then none else f y).isSome
  by_cases hxn:y=x
  ·rw[if_pos hxn,if_pos hxn];rfl
  ·rw[if_neg hxn,if_neg hxn];exact bY.iff y
 refine hQ w' j (λk=>S9 k\/S' k) ⟨S9,S',⟨h4,hm.2⟩,hB,λk h1 h2=>d9 k h1 (sub k h2),λk=>Iff.rfl⟩ (λk hk=>(e9 k).2 (hk.imp id (sub k))) (λsl b hg Aq=>?_) m (.inl hmb9) h1 h2 h3;have IX:GA b.block:=(bY.all _).2 ⟨x,sl,b,hg,Aq,rfl⟩;refine⟨λhs=>hs.elim (λh=>d9 _ h IX) λ⟨y,UI,b',q1,q2,q3⟩=>?_,(e9 _).2 (.inr IX)⟩;obtain⟨hy,q1⟩:=del_eq q1;exact hy (bY.inj y x UI sl b' b q1 hg q2 Aq q3.symm)
theorem FD.del2{es:Array MapEntry}{c:Nat}(h:FD a tb mb g s w S)(Vt:w.heap[mb]? =some (.map es c))(x:Int)(hx:(g x).isSome=true){Q:aH->Prop}
  (hQ:∀w' j S',FD a tb mb (λy=>if y=x then none else g y) {s with f:=λy=>if y=x then none else s.f y,n:=s.n-1} w' S'->(∀k,S' k->S k)->aY (λk=>k=mb) w w'->S mb->w'.heap[mb]? =some (.map (es.eraseIdxIfInBounds j) c)->j<es.size->(es.toList[j]?).map (·.key)=some (.int .i64 x)->Q w'):qK prog 341 3 (.map (some mb)) (.int .i64 x) w Q:=by
 obtain⟨S5,S6,BI,⟨S7,S8,Ww,htim,d7,e7⟩,d5,e5⟩:=h;refine Ww.Wm Vt x hx λw' j S' h1 hs _ m hmS h2 h3 h4=>?_;have hmb7:S7 mb:=hs _ hmS;exact hQ w' j (λk=>S5 k\/S' k\/S8 k) ⟨S5,_,bF.aL BI m λk hk e=>d5 k hk ((e7 k).2 (.inl (by rw[show k=mb from e];exact hmb7))),⟨S',S8,h1,bF.aL htim m λk hk e=>d7 k (by rw[show k=mb from e];exact hmb7) hk,λk a b=>d7 k (hs k a) b,λ_=>Iff.rfl⟩,λk a b=>d5 k a ((e7 k).2 (b.imp (hs k) id)),λ_=>Iff.rfl⟩ (λk hk=>(e5 k).2 (hk.imp id λh=>(e7 k).2 (h.imp (hs k) id))) m ((e5 _).2 (.inr ((e7 _).2 (.inl hmb7)))) h2 h3 h4
theorem FD.iff(h:FD a tb mb g s w S)(x:Int):(g x).isSome=(s.f x).isSome:=by
 obtain⟨S5,S6,BI,⟨S7,S8,⟨S9,GA,hm,hb,d9,e9⟩,htim,d7,e7⟩,d5,e5⟩:=h;exact hb.iff x
theorem lk{kn:oH}{f:Int->Option kn.T}{n r c:Nat}{w:aH}{es:Array MapEntry}(h:jT w r CW kn f n)(Vt:w.heap[r]? =some (.map es c)):(∀e∈es.toList,∃k:Int,e.key=.int .i64 k/\(f k).isSome=true)/\(∀k,(f k).isSome=true->∃e∈es.toList,e.key=.int .i64 k)/\QH es c:=by
 obtain⟨es',c',l,h1,h2,h3,h4,h5,h6,hB⟩:=h;rw[Vt] at h1;cases h1;refine⟨λe he=>?_,λk hk=>?_,hB⟩
 ·have:e.key∈es.toList.map (·.key):=List.mem_map_of_mem he
  rw[h2] at this;obtain⟨p,hp,Wj⟩:=lN.1 this;exact⟨p.1,Wj.symm,by rw[h5,HD];exact List.mem_map_of_mem hp⟩
 ·rw[h5,HD] at hk
  obtain⟨p,hp,rfl⟩:=lN.1 hk;have:CW p.1∈es.toList.map (·.key):=by rw[h2];exact List.mem_map_of_mem (f:=λp:Int×kn.T=>CW p.1) hp
  obtain⟨e,he,hke⟩:=lN.1 this;exact⟨e,he,hke⟩
theorem Acked_i{IY:Int}{Q:Int->aH->Prop}(h:QG a s w S)(ok:s.Ok)(hnx:s.next<=1000000000000000)(hQ:∀c s' w' S',QG a s' w' S'->Up S S' w w'->AckR s IY s'->s'.Ok->Q c w'):KH (some ⟨a,0,none⟩) IY w Q:=by
 unfold KH;obtain⟨tb,mb,g,h⟩:=h;refine aF (λh=>by simp at h) (λ_=>aA rfl (aE (k:=.int .i64) s.next h.cells.2.2.1 (aJ (λhgt=>?_) (λFX=>?_))))
 ·exact hQ 0 s w S ⟨tb,mb,g,h⟩ (Up.refl _ _) ⟨rfl,rfl,rfl,iX _,λ_=>id,λh=>absurd hgt h⟩ ok
 refine aA rfl (aE (k:=.map) (some mb) h.cells.2.2.2.1 ?_);have Rq:=h.map;obtain⟨es,c,Vt⟩:∃es c,w.heap[mb]? =some (.map es c):=by
  obtain⟨es,c,l,h1,_⟩:=Rq;exact⟨es,c,h1⟩
 have hmb:=Rq.lt;refine⟨w.heap.size,_,run_range_map (P:=prog) w 341 3 41 mb es c TG Vt,?_⟩;obtain⟨w0,hw0⟩:∃w0,w0=w.alloc (.mapIter (some mb) c #[] c):=⟨_,rfl⟩;rw[<-hw0];have k0:aN w w0:=by rw[hw0];exact aN.alloc w _
 have hr0:w0.heap[w.heap.size]? =some (.mapIter (some mb) c #[] c):=by rw[hw0];exact World.alloc_heap_new w _
 have gI:=bF.gI h;refine bK (λn t w2=>∃(es:Array MapEntry) (GD:Array Nat) (g:Int->Option UK.T) (s2:OQ) (S2:BS),n=(leftOf es GD).size/\FD a tb mb g s2 w2 S2/\Up S S2 w w2/\w2.heap[mb]? =some (.map es c)/\w2.heap[w.heap.size]? =some (.mapIter (some mb) c GD c)/\(∀e∈es.toList,e.born<c)/\¬S2 w.heap.size/\
   (∀e∈es.toList,GD.contains e.born=true->∀k:Int,e.key=.int .i64 k->¬k<IY)/\(s2.cM=s.cM/\s2.next=s.next/\s2.gE=s.gE/\s2.n<=s.n/\∀x,s2.uW x->s.uW x)/\s2.Ok) (leftOf es #[]).size
  ⟨es,#[],g,s,S,rfl,bF.kp h k0,Up.aO k0,k0.block mb hmb id▸Vt,hr0,(lk Rq Vt).2.2.1,λhk=>by have:=gI _ hk;omega,λe _ hc=>by simp at hc,⟨rfl,rfl,rfl,iX _,λ_=>id⟩,ok⟩ ?_
 rintro n t w2 ⟨es,GD,g,s2,S2,rfl,h2,u2,hes2,Fe,RX,hnr,hsn,⟨q1,q2,q3,q4,q5⟩,gj⟩ X hX;have hmap2:=h2.map;obtain⟨key1,key2,hB⟩:=lk hmap2 hes2;have rlt:w.heap.size<w2.heap.size:=(Array.getElem?_eq_some_iff.1 Fe).1;rcases run_next_at (P:=prog) w2 0 w.heap.size mb c c GD es c Fe hes2 RX (iX _) with⟨hz,qH⟩|⟨e,he,w1,Vn,qH⟩
 ·refine⟨false,[],w2,qH,?_⟩
  refine hQ _ s2 w2 S2 ⟨tb,mb,g,h2⟩ u2 ⟨q1,q2,q3,q4,q5,λ_ x hx cL=>?_⟩ gj;have hgx:(g x).isSome=true:=by rw[h2.iff];exact gj.uW x hx
  obtain⟨e,he,hke⟩:=key2 x hgx;exact hsn e he (all_seen es GD hz e he) x hke cL
 ·obtain⟨hem,hsb⟩:=mem_left he
  obtain⟨k,hk,hgk⟩:=key1 e hem;obtain⟨w3,hw3⟩:∃w3,w3=setBlock w1 w.heap.size (.mapIter (some mb) c (GD.push e.born) c):=⟨_,rfl⟩;rw[hk,<-hw3] at qH;refine⟨true,[.int .i64 k,e.val],w3,qH,?_⟩;have m3:aY (λk=>k=w.heap.size) w2 w3:=by
   have e1:aY (λk=>k=w.heap.size) w1 w3:=by rw[hw3];exact kV w1 _ _
   rcases Vn with rfl|rfl
   ·exact e1
   ·exact(bO w2).wk.tr e1
  have hr3:w3.heap[w.heap.size]? =some (.mapIter (some mb) c (GD.push e.born) c):=by
   have:w.heap.size<w1.heap.size:=by rcases Vn with rfl|rfl<;>exact rlt
   rw[hw3];unfold setBlock;simp[this]
  have gH:mb≠w.heap.size:=aB;have hes3:w3.heap[mb]? =some (.map es c):=(m3.block mb (nM hmb (by have:=u2.m.size;omega)) gH).trans hes2;have h3:FD a tb mb g s2 w3 S2:=bF.aL h2 m3 λk hk e=>hnr (by rw[<-show k=w.heap.size from e];exact hk);have u3:Up S S2 w w3:=⟨u2.m.trans m3 λk hk e=>by have e':k=w.heap.size:=e;omega,u2.s⟩;refine⟨k,[e.val],w3,?_,?_⟩
  ·rw[run_entry_at (P:=prog) w3 w.heap.size mb c GD es c e hr3 hes3 hem hB.2,hk]
  have hsn':∀(es':Array MapEntry),(∀x∈es'.toList,x∈es.toList)->¬(k<IY/\e∈es'.toList)->∀x∈es'.toList,(GD.push e.born).contains x.born=true->∀k':Int,x.key=.int .i64 k'->¬k'<IY:=by
   intro es' DA uX x hx hc k' lT;rw[contains_push] at hc;cases Qy:GD.contains x.born with
   |true=>exact hsn x (DA x hx) Qy k' lT
   |false=>
    rw[Qy,Bool.false_or] at hc;have hb:x.born=e.born:=by simpa using hc
    have hxe:=born_inj hB.2 (DA x hx) hem hb;subst hxe;rw[hk] at lT;cases lT
    exactλcL=>uX ⟨cL,hx⟩
  refine aJ (λcL=>?_) (λlK=>?_)
  ·refine aA rfl (aE (k:=.ptr) (some ⟨tb,0,none⟩) h3.cells.1 ?_)
   refine cD (cs:=[.int .i64 k]) λw4 b4 k4 z4=>?_;have h4:=bF.kp h3 k4;obtain⟨S4,ht4,hnmb,hS4,dN⟩:=h4.tim2;have b3:=bF.gI h3;refine Stop_i (sl:=⟨some ⟨w3.heap.size,0,none⟩,1,1⟩) ht4 (jN fM [k] b4 rfl dJ) (λb hb=>by cases hb;exact⟨λhs=>by have:=b3 _ (hS4 _ hs);simp at this,by show w3.heap.size<_;omega⟩) λw5 S5 ht5 u5=>?_;obtain⟨S6,h6,u6⟩:=dN _ w5 S5 u5 ht5;have rlt3:w.heap.size<w3.heap.size:=by have:=m3.size;omega
   have hr5:w5.heap[w.heap.size]? =some (.mapIter (some mb) c (GD.push e.born) c):=by
    rw[u5.m.block _ aB λh=>hnr (hS4 _ h),k4.block _ rlt3 id,hr3]
   have hes5:w5.heap[mb]? =some (.map es c):=by
    have:mb<w3.heap.size:=aB;rw[u5.m.block _ aB hnmb,k4.block _ this id,hes3]
   refine aA rfl (aE (k:=.map) (some mb) h6.cells.2.2.2.1 ?_);refine h6.del2 hes5 k hgk λw7 j S7 h7 hs7 m7 hmS hes7 hj hkj=>?_;have er:(es.eraseIdxIfInBounds j).toList=es.toList.eraseIdx j:=by
    unfold Array.eraseIdxIfInBounds;rw[dif_pos hj];simp
   have DA:∀x∈(es.eraseIdxIfInBounds j).toList,x∈es.toList:=λx hx=>by rw[er] at hx;exact List.mem_of_mem_eraseIdx hx
   have hne7:¬w.heap.size=mb:=λe=>gH e.symm;have hr7:w7.heap[w.heap.size]? =some (.mapIter (some mb) c (GD.push e.born) c):=by
    rw[m7.block _ (by have:=u5.m.size;omega) hne7,hr5]
   have um:e∉(es.eraseIdxIfInBounds j).toList:=λhx=>by
    have:=(lk h7.map hes7).1 e hx;obtain⟨k',lT,QL⟩:=this;rw[hk] at lT;cases lT;simp at QL
   have fW:(leftOf (es.eraseIdxIfInBounds j) (GD.push e.born)).size<=(leftOf es (GD.push e.born)).size:=by
    have e1:∀(es:Array MapEntry) (p:MapEntry->Bool),(es.filter p).size=(es.toList.filter p).length:=λes p=>by rw[<-Array.toList_filter,Array.length_toList]
    unfold leftOf;rw[e1,e1,er];exact((List.eraseIdx_sublist _ _).filter _).length_le
   have hlt7:=left_shrinks es GD e he;refine hX (leftOf (es.eraseIdxIfInBounds j) (GD.push e.born)).size _ _ aB ⟨es.eraseIdxIfInBounds j,GD.push e.born,_,_,S7,rfl,h7,⟨((u3.tr ((Up.aO k4).tr u6)).m.trans m7 λk' lT e'=>?_),λk' lT=>(u3.tr ((Up.aO k4).tr u6)).s k' (hs7 k' lT)⟩,hes7,hr7,λx hx=>RX x (DA x hx),λhs=>?_,hsn' _ DA λh=>um h.2,⟨q1,q2,q3,by show s2.n-1<=s.n;omega,λx hx=>q5 x hx.2⟩,⟨gj.cM,by show s2.n-1<=s2.cM;have:=gj.BE;omega,λx hx=>?_,λx bs hb=>?_,?_⟩⟩
   ·have:=(u3.tr ((Up.aO k4).tr u6)).s k' (by rw[show k'=mb from e'];exact hmS)
    rcases this with h|h
    ·exact h
    ·omega
   ·rcases u6.s _ (hs7 _ hs) with h|h
    ·exact hnr h
    ·omega
   ·dsimp only
    rw[if_neg hx.1];exact gj.uW x hx.2
   ·dsimp only at hb
    by_cases fh:x=k
    ·rw[if_pos fh] at hb;cases hb
    ·rw[if_neg fh] at hb;exact gj.len x bs hb
   ·have:=gj.nx
    show 0<=s2.next/\s2.next-((s2.n-1:Nat):Int)<=_
    omega
  ·have hlt7:=left_shrinks es GD e he
   exact hX _ _ _ hlt7 ⟨es,GD.push e.born,g,s2,S2,rfl,h3,u3,hes3,hr3,RX,hnr,hsn' es (λ_=>id) λh=>lK h.1,⟨q1,q2,q3,q4,q5⟩,gj⟩
end
end
end Go.Proofs.YtihggjgakbgomaaGreat
namespace Go.Proofs.YtihggjgakbgomaaGreat
open Go Go.Den
section
theorem Gl:∀s:Sl,(eS s).length=1:=λ_=>rfl
theorem oneS1:∀s:Sl,∀u∈eS s,u.oneCell'=true:=by intro b u hu;simp at hu;subst hu;rfl
def BR(ss:List Sl)(EY:List (List cH)):As:=λw S=>ss.length=EY.length/\(∀(i:Nat) sl bs,ss[i]? =some sl->EY[i]? =some bs->Rd w sl 1 eU bs/\∀b,sl.b=some b->S b.block)/\∀k,S k->k<w.heap.size
instance{ss:List Sl}{EY:List (List cH)}:bF (BR ss EY):=⟨λh=>h.2.2,λh m hn=>⟨h.1,λi sl bs h1 h2=>⟨(h.2.1 i sl bs h1 h2).1.aL m fN λb hb=>hn _ ((h.2.1 i sl bs h1 h2).2 b hb),(h.2.1 i sl bs h1 h2).2⟩,λk hk=>nM (h.2.2 k hk) m.size⟩⟩
def VO(s:Sl)(EY:List (List cH)):As:=Ex λss=>aZ (jB BV 1 eS s ss) (BR ss EY)
instance{s:Sl}{EY:List (List cH)}:bF (VO s EY):=by unfold VO;infer_instance
theorem TY{ss:List Sl}{EY:List (List cH)}{r:Sl}{bs:List cH}{w:aH}{S:BS}(h:aZ (BR ss EY) (CX 1 eU r bs) w S):BR (ss++[r]) (EY++[bs]) w S:=by
 have hb:=bF.gI h;obtain⟨S1,S2,h1,h2,d,e⟩:=h;refine⟨by simp[h1.1],λi sl b hi hj=>?_,hb⟩
 by_cases cL:i<ss.length
 ·rw[Fp cL] at hi
  rw[Fp (by rw[<-h1.1];exact cL)] at hj;exact⟨(h1.2.1 i sl b hi hj).1,λa ha=>(e _).2 (.inl ((h1.2.1 i sl b hi hj).2 a ha))⟩
 ·rw[Fq aB] at hi
  rw[Fq (by have:=h1.1;omega),<-h1.1] at hj;cases hk:i-ss.length with
  |succ n=>rw[hk] at hi;simp at hi
  |zero=>
   rw[hk] at hi hj;cases hi;cases hj;exact⟨h2.1,λa ha=>(e _).2 (.inr ((h2.2.2.2 _).2 ⟨a,ha,rfl⟩))⟩
theorem vecS_nil{wx:aH}:jB BV 1 eS bD ([]:List Sl) wx (λ_=>False):=⟨dP.nil _ _ _ _,λk=>⟨False.elim,λ⟨b,hb,_⟩=>by cases hb⟩⟩
theorem Eo{wx:aH}:VO bD [] wx (λ_=>False):=⟨[],λ_=>False,λ_=>False,vecS_nil,⟨rfl,λi sl bs h=>by simp at h,λk h=>h.elim⟩,λ_ h _=>h,λk=>⟨.inl,λh=>h.elim id id⟩⟩
theorem aZ.oG{A B:As}{w:aH}{S:BS}(h:A w S)(hB:B w (λ_=>False)):aZ A B w S:=⟨S,_,h,hB,λ_ _ h=>h,λk=>⟨.inl,λh=>h.elim id False.elim⟩⟩
structure Vz where
 cM:Nat
 next:Int
 f:Int->Option (List cH)
 n:Nat
structure Vz.Ok(t:Vz):Prop where
 cM:t.cM<=16
 nx:0<=t.next/\t.next<=4294967296
 Ly:∀x bs,t.f x=some bs->t.next<=x/\x<t.next+t.cM/\x<4294967296/\bs.length<=5000
def MD(a mb:Nat)(g:Int->Option UK.T)(t:Vz):As:=aZ (sM a tTaker [aD (t.cM:Int),aD t.next,.map (some mb)]) (ZA mb g t.f t.n)
instance{a mb:Nat}{g:Int->Option UK.T}{t:Vz}:bF (MD a mb g t):=by unfold MD;infer_instance
def Gc(a:Nat)(t:Vz):As:=Ex λmb:Nat=>Ex λg:Int->Option UK.T=>MD a mb g t
instance{a:Nat}{t:Vz}:bF (Gc a t):=by unfold Gc;infer_instance
section
variable{w:aH}{S:BS}{a mb:Nat}{g:Int->Option UK.T}{t:Vz}
theorem MD.cells(h:MD a mb g t w S):w.cell? ((⟨a,0,none⟩:Addr).add 0)=some (aD (t.cM:Int))/\w.cell? ((⟨a,0,none⟩:Addr).add 1)=some (aD t.next)/\w.cell? ((⟨a,0,none⟩:Addr).add 2)=some (.map (some mb)):=by
 obtain⟨S1,S2,h1,_⟩:=h;exact⟨aP h1 rfl,aP h1 rfl,aP h1 rfl⟩
theorem MD.map(h:MD a mb g t w S):jT w mb CW UK g t.n:=by
 obtain⟨S1,S2,_,⟨S3,S4,h3,_⟩,_⟩:=h;exact h3.1
theorem MD.bods(h:MD a mb g t w S):∃S',vo g t.f w S':=by
 obtain⟨S1,S2,_,⟨S3,S4,_,h3,_⟩,_⟩:=h;exact⟨_,h3⟩
theorem MD.YP(h:MD a mb g t w S)(ok:t.Ok):t.n<=t.cM:=by
 obtain⟨ks,k1,k2,k3⟩:=h.map.Ly;obtain⟨_,hb⟩:=h.bods;have hk:∀x∈ks,t.next<=x/\x<t.next+t.cM:=λx hx=>by
  have:=(k3 x).1 hx;rw[hb.iff] at this;obtain⟨bs,hbs⟩:=Fo.1 this;have:=ok.Ly x bs hbs;exact⟨this.1,this.2.1⟩
 have:=Oz (ls:=(List.range t.cM).map λi:Nat=>t.next+(i:Int)) k1 λx hx=>by
  have:=hk x hx;exact lN.2 ⟨(x-t.next).toNat,List.mem_range.2 aB,aB⟩
 simp at this;omega
theorem yg{Q:Int->aH->Prop}(h:Gc a t w S)(hQ:Q t.next w):ID (some ⟨a,0,none⟩) w Q:=by
 unfold ID;obtain⟨mb,g,h⟩:=h;exact aF (λh=>by simp at h) (λ_=>aA rfl (aE (k:=.i) t.next h.cells.2.1 hQ))
theorem TkNew_i{cM:Nat}{Q:cO->Int->aH->Prop}(hw:1<=cM/\cM<=16)
  (hQ:∀w' S',Gc (w.heap.size+1) ⟨cM,0,λ_=>none,0⟩ w' S'->aN w w'->(∀k,S' k->w.heap.size<=k)->Q (some ⟨w.heap.size+1,0,none⟩) 0 w'):EM (cM:Int) w Q:=by
 unfold EM;refine aJ (λh=>aB) (λ_=>aJ (λh=>aB) (λ_=>?_));refine qV (ek:=CW) (kn:=UK) λhm k1=>?_;refine cD (cs:=[aD (cM:Int),aD 0,.map (some w.heap.size)]) λw2 b2 k2 z2=>?_;have e:(w.alloc (.map #[] 0)).heap.size=w.heap.size+1:=by simp
 rw[e] at b2 ⊢;have hB:ZA w.heap.size (λ_=>none) (λ_=>none) 0 w2 (λk=>k=w.heap.size\/False):=⟨λk=>k=w.heap.size,λ_=>False,⟨hm.aL k2 id,λk=>Iff.rfl⟩,⟨λx=>rfl,λx sl b h=>(by cases h),λx sl b h=>(by cases h),λx y sl UI b b' h=>(by cases h),λk=>⟨False.elim,λ⟨x,sl,b,h,_⟩=>by cases h⟩⟩,λ_ _ h=>h,λ_=>Iff.rfl⟩;refine hQ w2 (λk=>k=w.heap.size+1\/(k=w.heap.size\/False)) ⟨w.heap.size,λ_=>none,_,_,b2,hB,λk h1 h2=>?_,λ_=>Iff.rfl⟩ (k1.tr k2) λk hk=>?_
 ·rcases h2 with h2|h2
  ·omega
  ·exact h2
 ·rcases hk with hk|hk|hk
  ·omega
  ·omega
  ·exact hk.elim
theorem Take_i{seq:Int}{body:Sl}{bs:List cH}{Q:Sl->Bool->aH->Prop}(h:Gc a t w S)(ok:t.Ok)(hs:u32 seq)(hb:Rd w body 1 eU bs)(ho:BD body S w)(hl:bs.length<=5000)
  (hQ:∀nU EY c t' w' S',aZ (Gc a t') (VO nU EY) w' S'->Up S S' w w'->t'.Ok->t'.cM=t.cM->EY.length<=20->(∀b∈EY,b.length<=5000)->((∀x,t.f x=none)->seq=t.next->0<t.cM->EY=[bs]/\t'.next=t.next+1/\∀x,t'.f x=none)->Q nU c w'):
  PN (some ⟨a,0,none⟩) seq body w Q:=by
 unfold PN;obtain⟨mb,g,h⟩:=h;have hw:=ok.cM;have hnx:=ok.nx;have hd:=bF.dr h;have kd:=bO w;have no:∀w',aN w w'->¬(seq=t.next/\0<t.cM/\∀x,t.f x=none)->Q bD false w':=λw' k hn=>hQ _ [] _ t w' S (aZ.oG ⟨mb,g,bF.kp h k⟩ Eo) (Up.aO k) ok rfl (iF _) dJ λh1 h2 h3=>absurd ⟨h2,h3,h1⟩ hn
 refine aF (λh=>by simp at h) (λ_=>aA rfl (aE (k:=.i) t.next hd.cells.2.1 (aJ (λcL=>no _ kd λhh=>aB) (λlK=>?_))))
 refine aA rfl (aE (k:=.i) t.next hd.cells.2.1 (aA rfl (aE (k:=.i) (t.cM:Int) hd.cells.1 ?_)))
 have h1:=hs.1;have h2:=hs.2;rw[gV (n:=seq-t.next) aB aB]
 refine aJ (λhgt=>no _ kd λhh=>aB) (λcL=>?_);refine aA rfl (aE (k:=.map) (some mb) hd.cells.2.2 ?_);refine PE (kn:=UK) TG kT (z:=(bD:Sl)) TN hd.map seq ?_;obtain⟨_,hB⟩:=hd.bods;refine aF (λhsm=>no _ kd λhh=>?_) (λhsm=>?_)
 ·rw[hB.iff,hh.2.2] at hsm;cases hsm
 have kdd:=kd.tr (bO w.drew);have hdd:=bF.kp h kdd;refine aA rfl (aE (k:=.map) (some mb) hdd.cells.2.2 ?_);refine vJ (hb.aL kdd fN λ_ _=>id) aB λr w2 S2 _ k2 _ Qs f2=>⟨(bF.kp hdd k2).cells.2.2,?_⟩;obtain⟨S3,hBod,_,dN⟩:=(aZ.r hdd).put;refine hBod.put k2 Qs f2 seq λw3 S4 h3 u3=>?_;obtain⟨S5,h5,u5⟩:=dN _ w3 S4 u3 h3;have hfs:t.f seq=none:=by rw[hB.iff] at hsm;simpa using hsm
 rw[hfs] at h5
 let t1:Vz:=⟨t.cM,t.next,λy=>if y=seq then some bs else t.f y,t.n+1⟩
 have LN:t1.Ok:=⟨ok.cM,ok.nx,λx b hx=>by
  rcases JM hx with⟨e1,e2⟩|⟨_,hx⟩
  ·exact⟨by show t.next<=x;omega,by show x<t.next+t.cM;omega,aB,by rw[e2];exact hl⟩
  ·exact ok.Ly x b hx⟩
 have U5:Up S S5 w w3:=(Up.aO kdd).tr u5;refine bK (λc tt w4=>∃(nU:Sl) (EY:List (List cH)) (g:Int->Option UK.T) (t':Vz) (S4:BS),c=t'.n/\tt=(nU,())/\aZ (MD a mb g t') (VO nU EY) w4 S4/\Up S S4 w w4/\t'.Ok/\t'.cM=t.cM/\EY.length+t'.n<=17/\(∀b∈EY,b.length<=5000)/\
   ((∀x,t.f x=none)->seq=t.next->(EY=[]/\t'.next=t.next/\∀x,t'.f x=if x=seq then some bs else none)\/(EY=[bs]/\t'.next=t.next+1/\∀x,t'.f x=none))) t1.n
  ⟨bD,[],_,t1,S5,rfl,rfl,aZ.oG (show MD a mb _ t1 w3 S5 from h5) Eo,U5,LN,rfl,by have:=(show MD a mb _ t1 w3 S5 from h5).YP LN;have:t1.cM=t.cM:=rfl;simp;omega,by simp,λh1 h2=>.inl ⟨rfl,rfl,λx=>by show(if x=seq then some bs else t.f x)=_;rw[h1 x]⟩⟩ ?_
 rintro c tt w4 ⟨nU,EY,g,t',S4,rfl,rfl,h4,u4,Qu,q1,q2,q3,q4⟩ X hX;dsimp only;have h4d:=bF.dr h4;obtain⟨T,hT,_,_⟩:=(aZ.l h4d).put;refine aA rfl (aE (k:=.map) (some mb) hT.cells.2.2 (aA rfl (aE (k:=.i) t'.next hT.cells.2.1 ?_)))
 refine PE (kn:=UK) TG kT (z:=(bD:Sl)) TN hT.map t'.next ?_
 obtain⟨_,hB4⟩:=hT.bods;refine aF (λhn=>?_) (λhy=>?_)
 ·refine hQ nU EY true t' _ S4 (h4d.mono (λ_ h=>⟨mb,g,h⟩) λ_ h=>h) (u4.tr (Up.aO (bO w4))) Qu q1 aB q3 λe1 e2 e3=>?_
  rcases q4 e1 e2 with⟨_,e5,e6⟩|h
  ·have:t'.f t'.next=some bs:=by rw[e6,if_pos aB]
   have h7:=hB4.iff t'.next
   rw[this] at h7;rw[h7] at hn;cases hn
  ·exact h
 ·have rj:(g t'.next).isSome=true:=by simpa using hy
  obtain⟨x6,hx6⟩:∃x6:Sl,g t'.next=some x6:=Fo.1 rj
  have hfs6:(t'.f t'.next).isSome=true:=by rw[<-hB4.iff];exact rj
  obtain⟨b6,hb6⟩:=Fo.1 hfs6;have rd6:=hB4.rd t'.next x6 b6 hx6 hb6
  have blk6:=hB4.lt t'.next x6
  have key6:=Qu.Ly _ _ hb6;have ex6:(g t'.next).getD (bD:Sl)=x6:=by rw[hx6];rfl
  rw[ex6];have kdd4:=bO w4.drew;have h4dd:=bF.kp h4d kdd4;have rd6d:=rd6.aL kdd4 fN λ_ _=>id;obtain⟨ST,SG,hTT,hGG,dTG,eTG⟩:=h4dd;refine aA rfl (aE (k:=.map) (some mb) hTT.cells.2.2 (aA rfl (aE (k:=.i) t'.next hTT.cells.2.1 ?_)))
  obtain⟨SB,SM,BI,Ww,dBM,eBM⟩:=hTT;obtain⟨es,cl,Vt⟩:∃es c,w4.drew.drew.heap[mb]? =some (.map es c):=by
   obtain⟨S9,GA,hm,_⟩:=Ww;obtain⟨es,c,l,h1,_⟩:=hm.1;exact⟨es,c,h1⟩
  refine Ww.Wm Vt t'.next rj λw6 j SM' h6 Qw hx6b m6 hmS6 _ _ _=>?_
  have hmbM:SM mb:=Qw _ hmS6;have mT:∀k,k=mb->SM k:=λk e=>by rw[e];exact hmbM
  have blkT:=bF.aL BI m6 λk hk e=>dBM k hk (mT k e);have gg6:=bF.aL hGG m6 λk hk e=>dTG k ((eBM k).2 (.inr (mT k e))) hk;have rx6:CX 1 eU x6 b6 w6 (rK x6):=by
   refine⟨rd6d.aL m6 fN λb hb e=>(hx6b x6 b hx6 hb).1 ?_,fN,λb hb=>?_,λ_=>Iff.rfl⟩
   ·rw[show b.block=mb from e];exact hmS6
   ·have:=blk6 b hx6 hb
    have:=m6.size;simpa using nM ‹b.block<w4.drew.heap.size› this
  have x6S:∀k,rK x6 k->SM k/\¬SM' k:=λk ⟨b,hb,e⟩=>by rw[e];exact⟨(hx6b x6 b hx6 hb).2,(hx6b x6 b hx6 hb).1⟩
  let t2:Vz:=⟨t'.cM,t'.next,λy=>if y=t'.next then none else t'.f y,t'.n-1⟩
  have oF:aZ (MD a mb (λy=>if y=t'.next then none else g y) t2) (aZ (VO nU EY) (CX 1 eU x6 b6)) w6 (λk=>(SB k\/SM' k)\/(SG k\/rK x6 k)):=
   ⟨λk=>SB k\/SM' k,λk=>SG k\/rK x6 k,⟨SB,SM',blkT,h6,λk h1 h2=>dBM k h1 (Qw k h2),λ_=>Iff.rfl⟩,⟨SG,rK x6,gg6,rx6,λk h1 h2=>dTG k ((eBM k).2 (.inr (x6S k h2).1)) h1,λ_=>Iff.rfl⟩,
    λk h1 h2=>h2.elim (λh=>dTG k ((eBM k).2 (h1.imp id (Qw k))) h) λh=>h1.elim (λhb=>dBM k hb (x6S k h).1) λhm=>(x6S k h).2 hm,λ_=>Iff.rfl⟩
  have U6:Up S4 (λk=>(SB k\/SM' k)\/(SG k\/rK x6 k)) w4.drew.drew w6:=⟨m6.mono λk _ e=>(eTG k).2 (.inl ((eBM k).2 (.inr (mT k e)))),λk hk=>.inl ((eTG k).2 (by
   rcases hk with(h|h)|(h|h)
   ·exact .inl ((eBM k).2 (.inl h))
   ·exact .inl ((eBM k).2 (.inr (Qw k h)))
   ·exact .inr h
   ·exact .inl ((eBM k).2 (.inr (x6S k h).1))))⟩
  refine cD (cs:=[sv x6]) λw7 b7 k7 z7=>?_;have hall7:=bF.kp oF k7;obtain⟨SX,SY,hX1,⟨SV,SR,⟨ss,hV⟩,hR,dVR,eVR⟩,dXY,eXY⟩:=hall7;have hall7':aZ (MD a mb (λy=>if y=t'.next then none else g y) t2) (aZ (jB BV 1 eS nU ss) (aZ (BR ss EY) (CX 1 eU x6 b6))) w7 (λk=>(SB k\/SM' k)\/(SG k\/rK x6 k)):=
   ⟨SX,SY,hX1,aZ.asr ⟨SV,SR,hV,hR,dVR,eVR⟩,dXY,eXY⟩
  have hssl:ss.length=EY.length:=by
   obtain⟨_,_,_,hL,_⟩:=hV;exact hL.1
  obtain⟨S8,hV8,_,MP⟩:=((aZ.r hall7').c λT hT=>aZ.l hT).put;refine EC (x:=⟨some ⟨w6.heap.size,0,none⟩,1,1⟩) NV Gl oneS1 hV8 (jN Gl [x6] b7 rfl dJ) (by simp;omega) aB λs2 w8 S9 v9 u9=>?_;obtain⟨GA,IX,Ev⟩:=MP _ w8 S9 u9 v9;obtain⟨Nx,hB11,_,He⟩:=((aZ.l IX).c λT hT=>aZ.l hT).put;refine aA rfl (aE (k:=.i) t'.next (aP hB11 rfl) (aA rfl ?_))
  refine pG hB11 cY dJ rfl rfl λw9 b9 u9'=>?_;obtain⟨YJ,Ck,Cg⟩:=He _ w9 _ u9' b9;rw[gV (n:=t'.next+(1:Int)) (by have:=Qu.nx;omega) (by have:=Qu.nx;omega)] at Ck
  have hn0:0<t'.n:=by
   have hT':MD a mb g t' w4.drew T:=hT;obtain⟨ks,k1,k2,k3⟩:=hT'.map.Ly;rw[<-k2];exact List.length_pos_of_mem ((k3 _).2 rj)
  refine hX (t'.n-1) _ _ aB ⟨s2,EY++[b6],_,⟨t'.cM,t'.next+1,λy=>if y=t'.next then none else t'.f y,t'.n-1⟩,YJ,rfl,rfl,Ck.mono (λ_ h=>h) (λ_ h=>⟨ss++[x6],h.mono (λ_ h=>h) λ_ h=>TY h⟩),(u4.tr (Up.aO ((bO w4).tr kdd4))).tr (((U6.tr (Up.aO k7)).tr Ev).tr Cg),⟨Qu.cM,by have:=Qu.nx;show 0<=t'.next+1/\t'.next+1<=4294967296;omega,λx b hx=>?_⟩,q1,by simp;omega,λb hb=>?_,λe1 e2=>.inr ?_⟩
  ·obtain⟨e1,e2⟩:=del_eq hx
   have:=Qu.Ly x b e2;show t'.next+1<=x/\x<t'.next+1+t'.cM/\_
   omega
  ·rcases jS.1 hb with hb|hb
   ·exact q3 b hb
   ·rw[kZ.1 hb];exact key6.2.2.2
  ·rcases q4 e1 e2 with⟨e3,e4,e5⟩|⟨e3,e4,e5⟩
   ·have:t'.f t'.next=some bs:=by rw[e5,if_pos aB]
    rw[hb6] at this;cases this;refine⟨by rw[e3];rfl,by show t'.next+1=_;omega,λx=>?_⟩
    show(if x=t'.next then none else t'.f x)=none
    by_cases hx:x=t'.next
    ·rw[if_pos hx]
    ·rw[if_neg hx,e5,if_neg aB]
   ·rw[e5] at hb6;cases hb6
end
end
open Tryz (prog)
section
def uR(r:Sl)(gs:List eR):As:=Ex λxs:List GX=>Pr (xs.map (·.1)=gs) (aZ (jB GN 6 eG r xs) (BR (xs.map (·.2)) (xs.map (·.1.body))))
instance{r:Sl}{gs:List eR}:bF (uR r gs):=by unfold uR;infer_instance
theorem EB{wx:aH}:uR bD [] wx (λ_=>False):=⟨[],rfl,λ_=>False,λ_=>False,⟨dP.nil _ _ _ _,λk=>⟨False.elim,λ⟨b,hb,_⟩=>by cases hb⟩⟩,⟨rfl,λi sl bs h=>by simp at h,λk h=>h.elim⟩,λ_ h _=>h,λk=>⟨.inl,λh=>h.elim id id⟩⟩
theorem aAP{ss ss':List Sl}{EY bss':List (List cH)}{w:aH}{S:BS}(h:aZ (BR ss EY) (BR ss' bss') w S):BR (ss++ss') (EY++bss') w S:=by
 have hb:=bF.gI h;obtain⟨S1,S2,h1,h2,d,e⟩:=h;refine⟨by simp[h1.1,h2.1],λi sl b hi hj=>?_,hb⟩
 by_cases cL:i<ss.length
 ·rw[Fp cL] at hi
  rw[Fp (by rw[<-h1.1];exact cL)] at hj;exact⟨(h1.2.1 i sl b hi hj).1,λa ha=>(e _).2 (.inl ((h1.2.1 i sl b hi hj).2 a ha))⟩
 ·rw[Fq aB] at hi
  rw[Fq (by have:=h1.1;omega),<-h1.1] at hj;exact⟨(h2.2.1 _ sl b hi hj).1,λa ha=>(e _).2 (.inr ((h2.2.1 _ sl b hi hj).2 a ha))⟩
theorem Yy{r s:Sl}{gs:List eR}{g:eR}{w:aH}{S T:BS}{K:Sl->aH->Prop}(h:uR r gs w S)(hb:CX 1 eU s g.body w T)(hd:∀k,S k->T k->False)(hl:gs.length<=1000)
  (hK:∀r' w' S',uR r' (gs++[g]) w' S'->Up (λk=>S k\/T k) S' w w'->K r' w'):aG w (eG (g,s)).toArray GN λa w1=>aW prog Sf Sf r (.slice (some a) 1 1) w1 K:=by
 refine cD λw1 b1 k1 z1=>?_;obtain⟨xs,rfl,S1,S2,h1,h2,d,e⟩:=h;rw[lD] at hl;have hlr:aZ (BR (xs.map (·.2)) (xs.map (·.1.body))) (CX 1 eU s g.body) w (λk=>S2 k\/T k):=aZ.vZ h2 hb λk a b=>hd k ((e k).2 (.inr a)) b;have oF:aZ (jB GN 6 eG r xs) (aZ (BR (xs.map (·.2)) (xs.map (·.1.body))) (CX 1 eU s g.body)) w (λk=>S k\/T k):=⟨S1,_,h1,hlr,λk a b=>b.elim (d k a) λb=>hd k ((e k).2 (.inl a)) b,λk=>by show S k\/T k↔_;rw[e k,or_assoc]⟩;obtain⟨S3,h3,_,dN⟩:=(aZ.l (bF.kp oF k1)).put;refine EC (x:=⟨some ⟨w.heap.size,0,none⟩,1,1⟩) Jt Wt Lt h3 (jN Wt [(g,s)] b1 rfl dJ) (by simp;omega) aB λr' w2 S4 v4 u4=>?_;obtain⟨S5,h5,u5⟩:=dN _ w2 S4 u4 v4;refine hK r' w2 S5 ⟨xs++[(g,s)],by simp,?_⟩ ((Up.aO k1).tr u5);have:=h5.mono (λ_ h=>h) λ_ h=>TY h;simpa using this
structure jH where
 s:OQ
 aK:Int
 t:Vz
 gB:List (List cH)
structure jH.Ok(c:jH):Prop where
 s:c.s.Ok
 t:c.t.Ok
 gB:c.gB.length<=64
 len:∀b∈c.gB,b.length<=70000
def Gf(sl:Sl)(l:List (List cH)):As:=Ex λss=>aZ (Sa BV 1 eS sl ss) (BR ss l)
instance{s:Sl}{EY:List (List cH)}:bF (Gf s EY):=by unfold Gf;infer_instance
def YY(a sp tp:Nat)(sl:Sl)(c:jH):As:=aZ (sM a sx [.pointer (some ⟨sp,0,none⟩),aD c.aK,.pointer (some ⟨tp,0,none⟩),sv sl]) (aZ (Gc tp c.t) (aZ (QG sp c.s) (Gf sl c.gB)))
instance{a sp tp:Nat}{sl:Sl}{c:jH}:bF (YY a sp tp sl c):=by unfold YY;infer_instance
def jU(a:Nat)(c:jH):As:=Ex λsp:Nat=>Ex λtp:Nat=>Ex λsl:Sl=>YY a sp tp sl c
instance{a:Nat}{c:jH}:bF (jU a c):=by unfold jU;infer_instance
def jH.LC(c:jH)(x:Int):eR:=⟨c.aK,1,x,c.t.next,0,(c.s.f x).getD []⟩
def jH.LX(s:OQ)(aK nx:Int)(t:Vz):List (List cH)->List eR×jH
 | []=>([],⟨s,aK,t,[]⟩)
 |b::r=>if s.gE=false/\s.n<s.cM then((⟨aK,1,s.next,nx,0,b⟩:eR)::(LX (s.send b) aK nx t r).1,(LX (s.send b) aK nx t r).2) else([],⟨s,aK,t,b::r⟩)
def jH.oD(c:jH):List eR×jH:=LX c.s c.aK c.t.next c.t c.gB
section
variable{w:aH}{S:BS}{a sp tp:Nat}{sl:Sl}{c:jH}
theorem YY.cells(h:YY a sp tp sl c w S):w.cell? ((⟨a,0,none⟩:Addr).add 0)=some (.pointer (some ⟨sp,0,none⟩))/\w.cell? ((⟨a,0,none⟩:Addr).add 1)=some (aD c.aK)/\w.cell? ((⟨a,0,none⟩:Addr).add 2)=some (.pointer (some ⟨tp,0,none⟩))/\w.cell? ((⟨a,0,none⟩:Addr).add 3)=some (sv sl):=by
 obtain⟨S1,S2,h1,_⟩:=h;exact⟨aP h1 rfl,aP h1 rfl,aP h1 rfl,aP h1 rfl⟩
theorem YY.snd(h:YY a sp tp sl c w S):Wp w S (QG sp c.s) λX=>aZ (sM a sx [.pointer (some ⟨sp,0,none⟩),aD c.aK,.pointer (some ⟨tp,0,none⟩),sv sl]) (aZ (Gc tp c.t) (aZ X (Gf sl c.gB))):=
 (aZ.r h).c λT hT=>(aZ.r hT).c λT hT=>aZ.l hT
theorem YY.tkr(h:YY a sp tp sl c w S):Wp w S (Gc tp c.t) λX=>aZ (sM a sx [.pointer (some ⟨sp,0,none⟩),aD c.aK,.pointer (some ⟨tp,0,none⟩),sv sl]) (aZ X (aZ (QG sp c.s) (Gf sl c.gB))):=
 (aZ.r h).c λT hT=>aZ.l hT
theorem YY.xd(h:YY a sp tp sl c w S):sl.l=c.gB.length:=by
 obtain⟨S1,S2,_,⟨S3,S4,_,⟨S5,S6,_,⟨ss,S7,S8,hv,hl,_⟩,_⟩,_⟩,_⟩:=h;rw[hv.1.len,hl.1]
theorem Uc{Q:Bool->aH->Prop}(h:jU a c w S)(hQ:Q c.s.gE w):AX (some ⟨a,0,none⟩) w Q:=by
 unfold AX;obtain⟨sp,tp,sl,h⟩:=h;obtain⟨S1,⟨tb,mb,g,hs⟩,_,_⟩:=h.snd.put;exact aF (λh=>by simp at h) (λ_=>aA rfl (aE (k:=.ptr) (some ⟨sp,0,none⟩) h.cells.1 (Tc hs hQ)))
theorem data_i{x:Int}{Q:Int×Int×Int×Int×Int×Sl×Unit->aH->Prop}(h:jU a c w S)(ok:c.Ok)(hQ:∀s w',CX 1 eU s (c.LC x).body w' (rK s)->(∀b,s.b=some b->w.heap.size<=b.block)->aN w w'->Q (JG (c.LC x,s)) w'):II (some ⟨a,0,none⟩) x w Q:=by
 unfold II;obtain⟨sp,tp,sl,h⟩:=h;refine cD (cs:=eG (⟨0,0,0,0,0,[]⟩,bD)) λw1 b1 k1 z1=>aA rfl ?_;have h1:=bF.kp h k1;refine aE (k:=.ptr) (some ⟨sp,0,none⟩) h1.cells.1 ?_;obtain⟨S1,hs,_,_⟩:=h1.snd.put;refine Body_i hs ok.s λr c2 w2 rd f2 k2=>?_;have k2d:=k2.tr (bO w2);have h2:=bF.kp h1 k2d;refine aA rfl (aE (k:=.i) c.aK h2.cells.2.1 (aA rfl (aE (k:=.ptr) (some ⟨tp,0,none⟩) h2.cells.2.2.1 ?_)));obtain⟨S2,ht,_,_⟩:=h2.tkr.put;refine yg ht ⟨h2.cells.2.1,?_⟩;have o2:=b1.1.aL k2d id;refine fD (vs:=eG (c.LC x,r)) o2 rP rfl (Lt _) λw4 o4 m4 _=>?_;refine bJ (l:=kG) (JG (c.LC x,r)) (o4.holds λj v hj=>by rw[pU];exact hj) ?_;have K:=k1.tr k2d;refine hQ r w4 (bF.aL (bF.kp rd (bO w2)) m4 λk ⟨b,hb,e⟩ e2=>?_) (λb hb=>by have:=f2 b hb;omega) (K.fresh m4 λk e=>by rw[show k=w.heap.size from e];exact iX _);have:=f2 b hb;omega
theorem owd_tail{b:List cH}{r:List (List cH)}(h:Gf sl (b::r) w S):∃S',Gf ⟨aR sl.b sl.c 1 1,sl.l-1,sl.c-1⟩ r w S'/\(∀k,S' k->S k):=by
 obtain⟨ss,S1,S2,hv,hl,d,e⟩:=h;cases ss with
 |nil=>have:=hl.1;simp at this
 |cons x ss=>
  have jY:=hv.1.tail Gl
  let s':Sl:=⟨aR sl.b sl.c 1 1,sl.l-1,sl.c-1⟩
  have DA:∀k,(s'.c≠0/\∃b,s'.b=some b/\k=b.block)->S1 k:=λk ⟨hc,b,hb,e⟩=>by
   obtain⟨a0,ha0,e2⟩:=Px hb;have Vv:sl.c-1≠0:=hc;exact(hv.2 k).2 ⟨aB,a0,ha0,by rw[e,e2]⟩
  refine⟨λk=>(s'.c≠0/\∃b,s'.b=some b/\k=b.block)\/S2 k,⟨ss,_,S2,⟨jY,λ_=>Iff.rfl⟩,⟨by have:=hl.1;simpa using this,λi sl bs h1 h2=>hl.2.1 (i+1) sl bs (by simpa using h1) (by simpa using h2),hl.2.2⟩,λk h1 h2=>d k (DA k h1) h2,λ_=>Iff.rfl⟩,λk hk=>(e k).2 (hk.imp (DA k) id)⟩
theorem Sk{dL:Int}{Q:Sl->aH->Prop}(h:jU a c w S)(ok:c.Ok)(hQ:∀r w' S',aZ (jU a c.oD.2) (uR r c.oD.1) w' S'->Up S S' w w'->c.oD.2.Ok->Q r w'):xB (some ⟨a,0,none⟩) dL w Q:=by
 unfold xB;refine bK (λn t w1=>∃(r:Sl) (gs:List eR) (c1:jH) (S1:BS),n=c1.gB.length/\t=(r,())/\aZ (jU a c1) (uR r gs) w1 S1/\Up S S1 w w1/\c1.Ok/\gs.length+c1.gB.length<=64/\c.oD=(gs++c1.oD.1,c1.oD.2)) c.gB.length
  ⟨bD,[],c,S,rfl,rfl,aZ.oG h EB,Up.refl _ _,ok,by have:=ok.gB;simp;omega,by simp⟩ ?_
 rintro n t w1 ⟨r,gs,c1,S1,rfl,rfl,h1,u1,LN,Vs,hp⟩ X hX;dsimp only;have dW:c1.oD=([],c1)->∀w2,aN w1 w2->Q r w2:=λe w2 k2=>by
  rw[e] at hp;simp only[sG] at hp;rw[hp] at hQ;exact hQ r w2 S1 (bF.kp h1 k2) (u1.tr (Up.aO k2)) LN
 obtain⟨SC,SG,⟨sp,tp,sl,hc⟩,hg,dCG,eCG⟩:=h1;have hol:=hc.xd;refine aA rfl (aE (k:=.slice) sl hc.cells.2.2.2 (aJ (λhgt=>?_) (λFX=>dW ?_ w1 (aY.refl _ _))))
 ·obtain⟨st,aK,tk,gB⟩:=c1
  cases gB with
  |nil=>simp at hol;omega
  |cons b cR=>
   refine aA rfl (aE (k:=.ptr) (some ⟨sp,0,none⟩) hc.cells.1 ?_);obtain⟨SS,⟨tb,mb,g,hs⟩,_,_⟩:=hc.snd.put;refine Room_i hs LN.s λw2 k2=>?_;have DS:=LN.s.BE;refine aJ (λhx=>?_) (λhx=>dW ?_ w2 k2)
   ·have hcan:st.gE=false/\st.n<st.cM:=by
     cases ho:st.gE with
     |true=>simp[ho] at hx
     |false=>
      simp only[ho,Bool.false_eq_true,if_false] at hx;have:st.n<=st.cM:=DS;exact⟨rfl,aB⟩
    have kd:=k2.tr (bO w2);have hcd:=bF.kp hc kd;have Dt:=bF.kp hg kd;refine aA rfl (aE (k:=.ptr) (some ⟨sp,0,none⟩) hcd.cells.1 (aA rfl (aE (k:=.slice) sl hcd.cells.2.2.2 ⟨⟨aB,aB⟩,?_⟩)));obtain⟨SO,hso,_,dN⟩:=((aZ.r hcd).c λT hT=>aZ.r hT).put;obtain⟨Sx,Sy,hsA,hoA,dxy,exy⟩:=hso;have hoA2:=hoA;obtain⟨ss,S7,S8,hv,hL,_,Lf⟩:=hoA;cases ss with
    |nil=>have:=hL.1;simp at this
    |cons s3 ss=>
     obtain⟨q,hq,tZ⟩:=cQ (k:=.slice) (e:=λs:Sl=>s) (hv.1.rd Gl) (show(s3::ss)[0]? =some s3 from rfl);refine aA hq (aE (k:=.slice) s3 tZ ?_);obtain⟨rd3,bl3⟩:=hL.2.1 0 s3 b rfl rfl;have fW:b.length<=70000:=LN.len b dJ;have out3:BD s3 Sx w2.drew:=λbb Aq=>⟨λhs=>dxy _ hs ((Lf _).2 (.inr (bl3 bb Aq))),hL.2.2 _ (bl3 bb Aq)⟩;refine Send_i hsA LN.s rd3 out3 fW hcan.1 hcan.2 λw3 S3 h3 u3=>?_;have bo:=bF.gI hoA2;have hoA3:=bF.aL hoA2 u3.m λk hk lT=>dxy k lT hk;obtain⟨S9,ho9,hs9⟩:=owd_tail hoA3;have dd:=u3.jv dxy bo
     let UI:Sl:=⟨aR sl.b sl.c 1 1,sl.l-1,sl.c-1⟩
     have IX:aZ (QG sp (st.send b)) (Gf UI cR) w3 (λk=>S3 k\/S9 k):=aZ.vZ h3 ho9 λk h1 h2=>dd k h1 (hs9 k h2);obtain⟨GA,hc10,Ev⟩:=dN _ w3 _ ⟨u3.m.mono λk _ hk=>(exy k).2 (.inl hk),λk hk=>hk.elim (λh=>(u3.s k h).imp (λh=>(exy k).2 (.inl h)) id) λh=>.inl ((exy k).2 (.inr (hs9 k h)))⟩ IX;obtain⟨SB,hB,_,backB⟩:=(aZ.l hc10).put;refine aA rfl (aE (k:=.slice) sl (aP hB rfl) ⟨⟨aB,aB⟩,aA rfl ?_⟩);refine pG (v:=sv UI) hB iH dJ rfl rfl λw4 b4 u4=>?_;obtain⟨Nx,hc11,Lh⟩:=backB _ w4 _ u4 b4
     let c2:jH:=⟨st.send b,aK,tk,cR⟩
     have PX:jU a c2 w4 Nx:=⟨sp,tp,UI,hc11⟩;have gj:c2.Ok:=⟨LN.s.send hcan.2 fW,LN.t,by have:=LN.gB;simp at this;show cR.length<=64;omega,λx hx=>LN.len x (by simp[show x∈cR from hx])⟩;have U4:Up SC Nx w2.drew w4:=Ev.tr Lh;have bg:=bF.gI Dt;have hg4:=bF.aL Dt U4.m λk hk lT=>dCG k lT hk;have d4:=U4.jv dCG bg;refine data_i PX gj λs5 w5 Dl f5 k5=>?_;have hdat:c2.LC st.next=⟨aK,1,st.next,tk.next,0,b⟩:=by
      show(⟨aK,1,st.next,tk.next,0,((if st.next=st.next then some b else st.f st.next)).getD []⟩:eR)=_
      rw[if_pos rfl];rfl
     rw[hdat] at Dl ⊢;have hc5:=bF.kp PX k5;have hg5:=bF.kp hg4 k5;have bc4:=bF.gI PX;have bg4:=bF.gI hg4;have oF:aZ (jU a c2) (aZ (uR r gs) (CX 1 eU s5 b)) w5 (λk=>Nx k\/(SG k\/rK s5 k)):=
      aZ.vZ hc5 (aZ.vZ hg5 Dl λk h1 ⟨bb,Aq,e⟩=>by have:=bg4 k h1;have:=f5 bb Aq;omega) λk h1 h2=>h2.elim (d4 k h1) λ⟨bb,Aq,e⟩=>by have:=bc4 k h1;have:=f5 bb Aq;omega
     obtain⟨YJ,hgr,_,TM⟩:=(aZ.r oF).put;obtain⟨S13,S14,hg13,hr14,d13,e13⟩:=hgr;refine Yy (g:=⟨aK,1,st.next,tk.next,0,b⟩) hg13 hr14 d13 aB λr' w7 S' hg7 u7=>?_
     obtain⟨S15,h15,u15⟩:=TM _ w7 S' ⟨u7.m.mono λk _ hk=>(e13 k).2 hk,λk hk=>(u7.s k hk).imp (λh=>(e13 k).2 h) id⟩ hg7;have Uall:Up S1 S15 w1 w7:=by
      have m4:Up S1 (λk=>Nx k\/SG k) w1 w4:=(Up.aO (S:=S1) kd).tr ⟨U4.m.mono λk _ hk=>(eCG k).2 (.inl hk),λk hk=>hk.elim (λh=>(U4.s k h).imp (λh=>(eCG k).2 (.inl h)) id) λh=>.inl ((eCG k).2 (.inr h))⟩;refine m4.tr ⟨k5.wk.trans u15.m λk hk h=>?_,λk hk=>?_⟩
      ·rcases h with h|h|⟨bb,Aq,e⟩
       ·exact .inl h
       ·exact .inr h
       ·have:=f5 bb Aq;omega
      ·rcases u15.s k hk with(h|h|⟨bb,Aq,e⟩)|h
       ·exact .inl (.inl h)
       ·exact .inl (.inr h)
       ·exact .inr (by rw[e];exact f5 bb Aq)
       ·exact .inr (iG k5.size h)
     have hpay:(⟨st,aK,tk,b::cR⟩:jH).oD=((⟨aK,1,st.next,tk.next,0,b⟩:eR)::c2.oD.1,c2.oD.2):=by
      show jH.LX st aK tk.next tk (b::cR)=_
      rw[jH.LX,if_pos hcan];rfl
     refine hX cR.length _ _ dJ ⟨r',gs++[⟨aK,1,st.next,tk.next,0,b⟩],c2,S15,rfl,rfl,h15,u1.tr Uall,gj,by simp at Vs;show _+cR.length<=64;simp;omega,?_⟩
     rw[hp,hpay];simp
   ·show jH.LX st aK tk.next tk (b::cR)=_
    rw[jH.LX,if_neg λhh=>?_];have:=hh.2;simp only[hh.1,Bool.false_eq_true,if_false] at hx;omega
 ·obtain⟨st,aK,tk,gB⟩:=c1
  cases gB with
  |nil=>rfl
  |cons b cR=>simp at hol;omega
end
end
section
theorem To{r0 r:Sl}{gs0 gs:List eR}{w:aH}{S0 S:BS}{K:Sl->aH->Prop}(h0:uR r0 gs0 w S0)(h:uR r gs w S)(hd:∀k,S0 k->S k->False)(hl:gs0.length+gs.length<=1000)
  (hK:∀r' w' S',uR r' (gs0++gs) w' S'->Up (λk=>S0 k\/S k) S' w w'->K r' w'):aW prog Sf Sf r0 (.slice r.b r.l r.c) w K:=by
 obtain⟨xs0,rfl,S1,S2,h1,h2,d,e⟩:=h0;obtain⟨xs,rfl,S3,S4,h3,h4,d',e'⟩:=h;rw[lD,lD] at hl;have oF:aZ (jB GN 6 eG r0 xs0) (aZ (BR (xs0.map (·.2)) (xs0.map (·.1.body))) (BR (xs.map (·.2)) (xs.map (·.1.body)))) w (λk=>S1 k\/(S2 k\/S4 k)):=
  aZ.vZ h1 (aZ.vZ h2 h4 λk a b=>hd k ((e k).2 (.inr a)) ((e' k).2 (.inr b))) λk a b=>b.elim (d k a) λb=>hd k ((e k).2 (.inl a)) ((e' k).2 (.inr b))
 obtain⟨S5,h5,_,dN⟩:=(aZ.l oF).put;refine EC Jt Wt Lt h5 (h3.1.rd Wt) aB aB λr' w2 S6 v6 u6=>?_;obtain⟨S7,h7,u7⟩:=dN _ w2 S6 u6 v6;refine hK r' w2 S7 ⟨xs0++xs,by simp,?_⟩ ⟨u7.m.mono λk _ hk=>?_,λk hk=>(u7.s k hk).imp (λhk=>?_) id⟩
 ·have:=h7.mono (λ_ h=>h) λ_ h=>aAP h
  simpa using this
 ·rcases hk with hk|hk|hk
  ·exact .inl ((e k).2 (.inl hk))
  ·exact .inl ((e k).2 (.inr hk))
  ·exact .inr ((e' k).2 (.inr hk))
 ·rcases hk with hk|hk|hk
  ·exact .inl ((e k).2 (.inl hk))
  ·exact .inl ((e k).2 (.inr hk))
  ·exact .inr ((e' k).2 (.inr hk))
def jH.push(c:jH)(bs:List cH):List eR×jH×Int:=
 if c.s.gE then([],c,6) else if 64<=c.gB.length then([],c,5) else(({c with gB:=c.gB++[bs]}:jH).oD.1,({c with gB:=c.gB++[bs]}:jH).oD.2,0)
structure TakeR(t:Vz)(seq:Int)(bs:List cH)(nU:List (List cH))(t':Vz):Prop where
 ok:t'.Ok
 cM:t'.cM=t.cM
 len:nU.length<=20
 lens:∀b∈nU,b.length<=5000
 one:(∀x,t.f x=none)->seq=t.next->0<t.cM->nU=[bs]/\t'.next=t.next+1/\∀x,t'.f x=none
def yH(c:jH)(g:eR)(nU:List (List cH))(gs:List eR)(c':jH):Prop:=
 if c.s.gE=true\/g.aK≠c.aK\/(g.kind≠1/\g.kind≠2) then nU=[]/\gs=[]/\c'=c
 else∃s1,AckR c.s g.IY s1/\s1.Ok/\if g.kind=1 then∃t1,TakeR c.t g.seq g.body nU t1/\gs=⟨c.aK,2,0,t1.next,0,[]⟩::(⟨s1,c.aK,t1,c.gB⟩:jH).oD.1/\c'=(⟨s1,c.aK,t1,c.gB⟩:jH).oD.2
  else nU=[]/\gs=(⟨s1,c.aK,c.t,c.gB⟩:jH).oD.1/\c'=(⟨s1,c.aK,c.t,c.gB⟩:jH).oD.2
theorem Ht{aK nx:Int}{t:Vz}:∀{l:List (List cH)} {s:OQ},(jH.LX s aK nx t l).1.length<=l.length
 | [],s=>iX _
 |b::r,s=>by
  rw[jH.LX]
  split
  ·have:=Ht (aK:=aK) (nx:=nx) (t:=t) (l:=r) (s:=s.send b)
   simp only[mV];omega
  ·exact iF _
section
variable{w:aH}{S:BS}{a sp tp:Nat}{sl:Sl}{c:jH}
theorem yn{dL:Int}{body:Sl}{bs:List cH}{Q:Sl->Int->aH->Prop}(h:jU a c w S)(ok:c.Ok)(hb:Rd w body 1 eU bs)(hl:bs.length<=70000)
  (hQ:∀r w' S',aZ (jU a (c.push bs).2.1) (uR r (c.push bs).1) w' S'->Up S S' w w'->(c.push bs).2.1.Ok->Q r (c.push bs).2.2 w'):IJ (some ⟨a,0,none⟩) dL body w Q:=by
 unfold IJ;refine Uc h (aF (λho=>?_) (λho=>?_))
 ·have e:c.push bs=([],c,6):=by unfold jH.push;rw[if_pos ho]
  rw[e] at hQ;exact hQ _ w S (aZ.oG h EB) (Up.refl _ _) ok
 have ho':¬c.s.gE=true:=by rw[ho];simp
 obtain⟨sp,tp,sl,h⟩:=h;have hol:=h.xd;refine aA rfl (aE (k:=.slice) sl h.cells.2.2.2 (aJ (λlK=>?_) (λcL=>?_)))
 ·have e:c.push bs=([],c,5):=by unfold jH.push;rw[if_neg ho',if_pos aB]
  rw[e] at hQ;exact hQ _ w S (aZ.oG ⟨sp,tp,sl,h⟩ EB) (Up.refl _ _) ok
 have e:c.push bs=(({c with gB:=c.gB++[bs]}:jH).oD.1,({c with gB:=c.gB++[bs]}:jH).oD.2,0):=by unfold jH.push;rw[if_neg ho',if_neg aB]
 rw[e] at hQ;have hd:=bF.dr h;refine aA rfl (aE (k:=.slice) sl hd.cells.2.2.2 ?_);refine vJ (hb.aL (bO w) fN λ_ _=>id) aB λr w2 S2 _ k2 _ Qs f2=>⟨(bF.kp hd k2).cells.2.2.2,?_⟩;refine cD (cs:=[sv r]) λw3 b3 k3 z3=>?_;have qy:=k2.tr k3;have h3:=bF.kp hd qy;refine⟨h3.cells.2.2.2,?_⟩;have bd:=bF.gI hd;obtain⟨SB,SR,BI,⟨ST,SQ,sD,⟨SS,SO,hsn,⟨ss,S7,S8,hv,hL,d78,Lf⟩,dSO,eSO⟩,dT,eT⟩,dB,eB⟩:=h3;have rd3:=bF.kp Qs k3;have hr:∀k,rK r k->¬S k:=λk ⟨b,hb,e⟩ hs=>by have:=bd k hs;have:=f2 b hb;omega
 have inS:∀k,S7 k\/S8 k->S k:=λk hk=>(eB k).2 (.inr ((eT k).2 (.inr ((eSO k).2 (.inr ((Lf k).2 hk))))));have hol2:ss.length=c.gB.length:=hL.1;have hLR:aZ (Sa BV 1 eS sl ss) (aZ (BR ss c.gB) (CX 1 eU r bs)) w3 (λk=>S7 k\/(S8 k\/rK r k)):=aZ.vZ hv (aZ.vZ hL rd3 λk a b=>hr k b (inS k (.inr a))) λk a b=>b.elim (d78 k a) λb=>hr k b (inS k (.inl a));obtain⟨S9,h9,_,Be⟩:=(aZ.l hLR).put;refine yd (x:=⟨some ⟨w2.heap.size,0,none⟩,1,1⟩) NV Gl oneS1 h9 (jN Gl [r] b3 rfl dJ) (by simp;omega) aB λs4 w4 GA v10 Ev=>?_;obtain⟨Nx,Ld,Lh⟩:=Be _ w4 GA Ev v10;have hOw:Gf s4 (c.gB++[bs]) w4 Nx:=⟨ss++[r],Ld.mono (λ_ h=>h) λ_ h=>TY h⟩;have apart:∀k,(SB k\/ST k\/SS k)->¬(S7 k\/(S8 k\/rK r k)):=λk hk h=>by
  have hso:SO k->False:=λho=>by
   rcases hk with hk|hk|hk
   ·exact dB k hk ((eT k).2 (.inr ((eSO k).2 (.inr ho))))
   ·exact dT k hk ((eSO k).2 (.inr ho))
   ·exact dSO k hk ho
  have hS:S k:=(eB k).2 (by
   rcases hk with hk|hk|hk
   ·exact .inl hk
   ·exact .inr ((eT k).2 (.inl hk))
   ·exact .inr ((eT k).2 (.inr ((eSO k).2 (.inl hk)))))
  rcases h with h|h|h
  ·exact hso ((Lf k).2 (.inl h))
  ·exact hso ((Lf k).2 (.inr h))
  ·exact hr k h hS
 have bB:=bF.gI BI;have bT:=bF.gI sD;have bS:=bF.gI hsn;have blk4:=bF.aL BI Lh.m λk hk h=>apart k (.inl hk) h;have tk4:=bF.aL sD Lh.m λk hk h=>apart k (.inr (.inl hk)) h;have sn4:=bF.aL hsn Lh.m λk hk h=>apart k (.inr (.inr hk)) h;have dd:∀k,(SB k\/ST k\/SS k)->Nx k->False:=λk hk h=>(Lh.s k h).elim (apart k hk) λh=>by
  rcases hk with hk|hk|hk
  ·have:=bB k hk;omega
  ·have:=bT k hk;omega
  ·have:=bS k hk;omega
 refine aA rfl ?_;have h4:aZ (sM a sx [.pointer (some ⟨sp,0,none⟩),aD c.aK,.pointer (some ⟨tp,0,none⟩),sv sl]) (aZ (Gc tp c.t) (aZ (QG sp c.s) (Gf s4 (c.gB++[bs])))) w4 (λk=>SB k\/(ST k\/(SS k\/Nx k))):=
  aZ.vZ blk4 (aZ.vZ tk4 (aZ.vZ sn4 hOw λk h1 h2=>dd k (.inr (.inr h1)) h2) λk h1 h2=>h2.elim (λh=>dT k h1 ((eSO k).2 (.inl h))) λh=>dd k (.inr (.inl h1)) h) λk h1 h2=>by
   rcases h2 with h2|h2|h2
   ·exact dB k h1 ((eT k).2 (.inl h2))
   ·exact dB k h1 ((eT k).2 (.inr ((eSO k).2 (.inl h2))))
   ·exact dd k (.inl h1) h2
 have U4:Up S (λk=>SB k\/(ST k\/(SS k\/Nx k))) w w4:=by
  have K:=(bO w).tr qy;refine⟨K.wk.trans Lh.m λk hk h=>?_,λk hk=>?_⟩
  ·rcases h with h|h|⟨b,hb,e⟩
   ·exact inS k (.inl h)
   ·exact inS k (.inr h)
   ·have:=f2 b hb;simp at this;omega
  ·rcases hk with h|h|h|h
   ·exact .inl ((eB k).2 (.inl h))
   ·exact .inl ((eB k).2 (.inr ((eT k).2 (.inl h))))
   ·exact .inl ((eB k).2 (.inr ((eT k).2 (.inr ((eSO k).2 (.inl h))))))
   ·rcases Lh.s k h with(h|h|⟨b,hb,e⟩)|h
    ·exact .inl (inS k (.inl h))
    ·exact .inl (inS k (.inr h))
    ·have:=f2 b hb;simp at this;exact .inr aB
    ·exact .inr (iG K.size h)
 obtain⟨YJ,Ck,_,TM⟩:=(aZ.l h4).put;refine pG (v:=sv s4) Ck iH dJ rfl rfl λw5 b5 u5=>?_;obtain⟨S13,fu,u13⟩:=TM _ w5 _ u5 b5;have hc5:jU a {c with gB:=c.gB++[bs]} w5 S13:=⟨sp,tp,s4,fu⟩;have LR:({c with gB:=c.gB++[bs]}:jH).Ok:=⟨ok.s,ok.t,by show(c.gB++[bs]).length<=64;simp;omega,λb hb=>by
  rcases jS.1 hb with hb|hb
  ·exact ok.len b hb
  ·rw[kZ.1 hb];exact hl⟩
 exact Sk hc5 LR λr5 w6 S6 h6 u6 fe=>hQ r5 w6 S6 h6 ((U4.tr u13).tr u6) fe
theorem Uf{dL:Int}{g:eR}{fw:Sl}{Q:Sl->Sl->aH->Prop}(h:jU a c w S)(ok:c.Ok)(hnx:c.s.next<=1000000000000000)(hg:Rd w fw 1 eU g.body)(ho:BD fw S w)(hl:g.body.length<=5000)(hs:u32 g.seq)
  (hQ:∀YT EY r gs c' w' S',aZ (jU a c') (aZ (VO YT EY) (uR r gs)) w' S'->Up S S' w w'->yH c g EY gs c'->c'.Ok->Q YT r w'):AY (some ⟨a,0,none⟩) dL (JG (g,fw)) w Q:=by
 unfold AY;refine cD (cs:=eG (g,fw)) λw1 b1 k1 z1=>?_;have K:=k1.tr (bO w1);have hd:=bF.kp h K;have od:=b1.1.aL (bO w1) id;have bd:=bF.gI h;have no:(c.s.gE=true\/g.aK≠c.aK\/(g.kind≠1/\g.kind≠2))->Q bD bD w1.drew:=λhh=>
  hQ _ [] _ [] c _ S (aZ.oG hd (aZ.oG Eo EB)) (Up.aO K) (by unfold yH;rw[if_pos hh];exact⟨rfl,rfl,rfl⟩) ok
 intro J1 OP;have sS:¬(c.s.gE=true\/g.aK≠c.aK\/(g.kind≠1/\g.kind≠2))->J1 (bD,bD,()) w1.drew:=by
  intro uX;apply OP;obtain⟨sp,tp,sl,hc⟩:=hd;have kd2:=bO w1.drew;have PX:=bF.kp hc kd2;have od2:=od.aL kd2 id;have K2:=K.tr kd2;refine aA rfl (aE (k:=.ptr) (some ⟨sp,0,none⟩) PX.cells.1 (aE (k:=.i) g.IY (dO od2 rfl) ?_));obtain⟨S3,Fc,hS3,Gu⟩:=PX.snd.put;refine Acked_i Fc ok.s hnx λ_ s1 w3 S4 h4 u4 hA Qu=>?_;obtain⟨S5,h5,u5⟩:=Gu _ w3 S4 u4 h4;have nn:¬S w.heap.size:=λhk=>by have:=bd _ hk;omega
  have o3:=od2.aL u4.m λhk=>nn (hS3 _ hk)
  let c1:jH:=⟨s1,c.aK,c.t,c.gB⟩
  have LN:c1.Ok:=⟨Qu,ok.t,ok.gB,ok.len⟩;have hc3:YY a sp tp sl c1 w3 S5:=h5;have U3:Up S S5 w w3:=(Up.aO K2).tr u5;have rb:∀(cc:jH),cc.gB=c.gB->cc.oD.1.length<=64:=λcc e=>by
   have e2:cc.gB.length<=64:=by rw[e];exact ok.gB
   exact iG Ht e2
  refine aE (k:=.i) g.kind (dO o3 rfl) (aF (λhk=>?_) (λhk=>?_))
  ·have QM:g.kind=1:=by simpa using hk
   have kd3:=bO w3;have hc3d:=bF.kp hc3 kd3;have Lk:=o3.aL kd3 id;refine aA rfl (aE (k:=.ptr) (some ⟨tp,0,none⟩) hc3d.cells.2.2.1 (aE (k:=.i) g.seq (dO Lk rfl) (aE (k:=.slice) fw (dO Lk rfl) ?_)));obtain⟨S6,ht6,hS6,yF⟩:=hc3d.tkr;have U3d:Up S S5 w w3.drew:=U3.tr (Up.aO kd3);have zc:=ho.rd U3d hg fN;have ho3:=ho.up U3d;refine Take_i ht6 ok.t hs zc (λb hb=>⟨λhk=>(ho3 b hb).1 (hS6 _ hk),(ho3 b hb).2⟩) hl λnU EY _ t1 w4 S7 h7 u7 q1 q2 q3 q4 q5=>?_;obtain⟨S8,h8,u8⟩:=yF (Gc tp t1) (VO nU EY) w4 S7 u7 h7
   let c2:jH:=⟨s1,c.aK,t1,c.gB⟩
   have gj:c2.Ok:=⟨Qu,q1,ok.gB,ok.len⟩;have h8':aZ (YY a sp tp sl c2) (VO nU EY) w4 S8:=h8;have kd4:=bO w4;have h8d:=bF.kp h8' kd4;obtain⟨S9,hc9,_,_⟩:=(aZ.l h8d).put;refine aA rfl (aE (k:=.i) c.aK hc9.cells.2.1 (aA rfl (aE (k:=.ptr) (some ⟨tp,0,none⟩) hc9.cells.2.2.1 ?_)));obtain⟨GA,ht10,_,_⟩:=hc9.tkr.put;refine yg ht10 ⟨hc9.cells.2.1,?_⟩
   let ag:eR:=⟨c.aK,2,0,t1.next,0,[]⟩
   refine cD (cs:=eG (ag,bD)) λw6 b6 k6 z6=>?_;have bw4:=bF.gI h8d;have h6:aZ (jU a c2) (VO nU EY) w6 S8:=(bF.kp h8d k6).mono (λ_ h=>⟨sp,tp,sl,h⟩) λ_ h=>h;have Qz:uR ⟨some ⟨w4.drew.heap.size,0,none⟩,1,1⟩ [ag] w6 (λk=>k=w4.drew.heap.size\/False):=
    ⟨[(ag,bD)],rfl,aZ.vZ ⟨dP.new Wt [(ag,bD)] (by simpa using b6.1) (by simp[maxLen]),λk=>⟨λe=>⟨_,rfl,e⟩,λ⟨b,hb,e⟩=>by cases hb;exact e⟩⟩ ⟨rfl,λi sl bs h1 h2=>by
     cases i with
     |succ n=>simp at h1
     |zero=>cases h1;cases h2;exact⟨Rd.nil _ _ _,λb hb=>by cases hb⟩,λk h=>h.elim⟩ λ_ _ h=>h⟩
   have h6a:aZ (aZ (jU a c2) (VO nU EY)) (uR ⟨some ⟨w4.drew.heap.size,0,none⟩,1,1⟩ [ag]) w6 (λk=>S8 k\/(k=w4.drew.heap.size\/False)):=aZ.vZ h6 Qz λk h1 h2=>h2.elim (λe=>by have:=bw4 k h1;omega) id;obtain⟨Nx,hc11,_,He⟩:=(aZ.l h6a).c λT hT=>aZ.l hT;refine Sk hc11 gj λr w7 YJ Ck Cg gg=>?_;obtain⟨S13,fu,u13⟩:=He (jU a c2.oD.2) (uR r c2.oD.1) w7 YJ Cg Ck;have h13':aZ (aZ (jU a c2.oD.2) (VO nU EY)) (aZ (uR ⟨some ⟨w4.drew.heap.size,0,none⟩,1,1⟩ [ag]) (uR r c2.oD.1)) w7 S13:=fu.asr;obtain⟨S14,h14,_,mh⟩:=(aZ.r h13').put;obtain⟨S15,S16,g15,g16,d15,e15⟩:=h14;refine To g15 g16 d15 (by have:=rb c2 rfl;simp;omega) λr' w8 S17 g17 u17=>?_;obtain⟨Wa,zh,u18⟩:=mh _ w8 S17 ⟨u17.m.mono λk _ hk=>(e15 k).2 hk,λk hk=>(u17.s k hk).imp (λh=>(e15 k).2 h) id⟩ g17;have U6:Up S5 (λk=>S8 k\/(k=w4.drew.heap.size\/False)) w3.drew w6:=by
    have:=(u8.tr (Up.aO kd4)).tr (Up.aO k6);refine⟨this.m,λk hk=>hk.elim (this.s k) λh=>h.elim (λe=>.inr ?_) False.elim⟩;have:=u8.m.size;have e4:w4.drew.heap.size=w4.heap.size:=rfl;omega
   refine hQ nU EY r' (ag::c2.oD.1) c2.oD.2 w8 Wa zh.asr (U3d.tr ((U6.tr u13).tr u18)) ?_ gg;unfold yH;rw[if_neg uX];refine⟨s1,hA,Qu,?_⟩;rw[if_pos QM];exact⟨t1,⟨q1,q2,q3,q4,q5⟩,rfl,rfl⟩
  ·have QM:¬g.kind=1:=by simpa using hk
   have hc3':jU a c1 w3 S5:=⟨sp,tp,sl,hc3⟩;refine Sk hc3' LN λr w7 YJ Ck Cg gg=>?_;have fu:aZ (jU a c1.oD.2) (aZ (uR bD []) (uR r c1.oD.1)) w7 YJ:=Ck.mono (λ_ h=>h) λ_ h=>(aZ.oG h EB).cm;obtain⟨S14,h14,_,mh⟩:=(aZ.r fu).put;obtain⟨S15,S16,g15,g16,d15,e15⟩:=h14;refine To g15 g16 d15 (by have:=rb c1 rfl;simp;omega) λr' w8 S17 g17 u17=>?_;obtain⟨Wa,zh,u18⟩:=mh _ w8 S17 ⟨u17.m.mono λk _ hk=>(e15 k).2 hk,λk hk=>(u17.s k hk).imp (λh=>(e15 k).2 h) id⟩ g17;refine hQ bD [] r' _ c1.oD.2 w8 Wa (zh.mono (λ_ h=>h) λ_ h=>(aZ.oG h Eo).cm) (U3.tr (Cg.tr u18)) ?_ gg;unfold yH;rw[if_neg uX];refine⟨s1,hA,Qu,?_⟩;rw[if_neg QM];exact⟨rfl,rfl,rfl⟩
 refine Uc hd (aF (λKy=>no (.inl Ky)) (λKy=>?_));have hov':¬c.s.gE=true:=by rw[Ky];simp
 have hd2:=hd;obtain⟨sp,tp,sl,hc⟩:=hd2;refine aE (k:=.i) g.aK (dO od rfl) (aA rfl (aE (k:=.i) c.aK hc.cells.2.1 (aF (λgH=>no (.inr (.inl (by simpa using gH)))) (λheq=>?_))));have heq':g.aK=c.aK:=by simpa using heq
 refine aE (k:=.i) g.kind (dO od rfl) (aF (λhk=>aE (k:=.i) g.kind (dO od rfl) (aF (λDL=>no (.inr (.inr ⟨by simpa using hk,by simpa using DL⟩))) (λDL=>sS λhh=>?_))) (λhk=>sS λhh=>?_))
 ·have:g.kind=2:=by simpa using DL
  rcases hh with h|h|h
  ·exact hov' h
  ·exact h heq'
  ·exact h.2 this
 ·have:g.kind=1:=by simpa using hk
  rcases hh with h|h|h
  ·exact hov' h
  ·exact h heq'
  ·exact h.1 this
end
end
structure wQ where
 oI:Nat
 cM:Nat
 MH:Int
 nN:Int
 cap:Int
 idle:Int
structure wQ.Ok(c:wQ):Prop where
 oI:1<=c.oI/\c.oI<=16
 cM:1<=c.cM/\c.cM<=16
 MH:0<=c.MH/\c.MH<=20
 nN:1<=c.nN/\c.nN<=1000
 cap:c.nN<=c.cap/\c.cap<=1000
 idle:1<=c.idle/\c.idle<=1000
abbrev JH(c:wQ):List Value:=[aD (c.oI:Int),aD (c.cM:Int),aD c.MH,aD c.nN,aD c.cap,aD c.idle]
abbrev JF:List CK:=[.i,.i,.i,.i,.i,.i]
abbrev wO(c:wQ):Int×Int×Int×Int×Int×Int×Unit:=((c.oI:Int),(c.cM:Int),c.MH,c.nN,c.cap,c.idle,())
theorem wX{n l h:Int}{w:aH}{Q:Bool->aH->Prop}(hn:l<=n/\n<=h)(hQ:Q true w):gC n l h w Q:=by
 unfold gC;refine aJ (λ_=>?_) (λh=>absurd hn.1 aB);rw[decide_eq_true hn.2];exact hQ
theorem Ue{c:wQ}{w:aH}{Q:Int->aH->Prop}(ok:c.Ok)(hQ:∀w',aN w w'->Q 0 w'):mU (wO c) w Q:=by
 unfold mU;have h1:=ok.oI;have h2:=ok.cM;have h3:=ok.MH;have h4:=ok.nN;have h5:=ok.cap;have h6:=ok.idle;refine cD (cs:=JH c) λw1 b1 k1 z1=>?_;refine aE (k:=.i) (c.oI:Int) (aP b1 rfl) (wX aB (aF (λh=>by cases h) (λ_=>?_)));refine aE (k:=.i) (c.cM:Int) (aP b1 rfl) (wX aB (aF (λh=>by cases h) (λ_=>?_)));refine aE (k:=.i) c.MH (aP b1 rfl) (wX aB (aF (λh=>by cases h) (λ_=>?_)));refine aE (k:=.i) c.nN (aP b1 rfl) (wX aB (aF (λh=>by cases h) (λ_=>?_)));refine aE (k:=.i) c.cap (aP b1 rfl) (aE (k:=.i) c.nN (aP b1 rfl) (wX aB (aF (λh=>by cases h) (λ_=>?_))));exact aE (k:=.i) c.idle (aP b1 rfl) (wX aB (aF (λh=>by cases h) (λ_=>hQ w1 k1)))
def snd0(cM:Nat):OQ:=⟨cM,0,λ_=>none,0,λ_=>False,false⟩
def tkr0(cM:Nat):Vz:=⟨cM,0,λ_=>none,0⟩
def uO(cM:Nat)(aK:Int):jH:=⟨snd0 cM,aK,tkr0 cM,[]⟩
theorem OV{cM:Nat}{aK:Int}(h:cM<=16):(uO cM aK).Ok:=
 ⟨⟨h,iF _,λx hx=>hx.elim,λx bs hx=>(by cases hx),by show(0:Int)<=0/\(0:Int)-((0:Nat):Int)<=1000000000000000;omega⟩,⟨h,by show(0:Int)<=0/\(0:Int)<=4294967296;omega,λx bs hx=>(by cases hx)⟩,by show([]:List (List cH)).length<=64;simp,λb hb=>by cases hb⟩
theorem CNew_i{c:wQ}{aK:Int}{w:aH}{Q:cO->Int->aH->Prop}(ok:c.Ok)(hc:1<=aK/\aK<=2147483648)
  (hQ:∀g w' S',jU g (uO c.cM aK) w' S'->aN w w'->(∀k,S' k->w.heap.size<=k)->Q (some ⟨g,0,none⟩) 0 w'):tA (wO c) aK w Q:=by
 unfold tA;have h3:=ok.MH;have h4:=ok.nN;have h5:=ok.cap;refine cD (cs:=JH c) λw1 b1 k1 z1=>?_;refine bJ (l:=JF) (wO c) (b1.1.holds λj v hj=>by rw[pU];exact hj) ?_;refine Ue ok λw2 k2=>aF (λh=>by simp at h) (λ_=>wX hc (aF (λh=>by cases h) (λ_=>?_)));have b2:=bF.kp b1 k2;refine aE (k:=.i) c.nN (aP b2 rfl) (aE (k:=.i) c.cap (aP b2 rfl) (aE (k:=.i) c.MH (aP b2 rfl) ?_));refine TiNew_i ⟨h4.1,h4.2,h5.1,h5.2,h3.1,h3.2⟩ λw4 ht k4=>?_;have b4:=bF.kp b2 k4;refine aE (k:=.i) (c.cM:Int) (aP b4 rfl) ?_;refine SNew2_i ok.cM ht λw5 S5 h5' k5 hs5=>?_;have b5:=bF.kp b4 k5;refine aE (k:=.i) (c.cM:Int) (aP b5 rfl) ?_;refine TkNew_i ok.cM λw6 S6 h6 k6 Qw=>?_;have h5k:=bF.kp h5' k6;have bn5:=bF.gI h5';have bn6:=bF.gI h6;have bn5k:=bF.gI h5k;have z2:=(k1.tr k2).size;have z4:=k4.size;have z5:=k5.size;refine cD (cs:=[.pointer (some ⟨w4.heap.size+1,0,none⟩),aD aK,.pointer (some ⟨w5.heap.size+1,0,none⟩),sv bD]) λw7 b7 k7 z7=>?_;have hO:Gf bD [] w7 (λ_=>False):=⟨[],_,_,Ea,⟨rfl,λi sl bs h=>by simp at h,λk h=>h.elim⟩,λ_ h _=>h,λk=>⟨.inl,λh=>h.elim id id⟩⟩;have hT:=bF.kp h6 k7;have hS:=bF.kp h5k k7;refine hQ w6.heap.size w7 _ ⟨w4.heap.size+1,w5.heap.size+1,bD,aZ.vZ b7 (aZ.vZ hT (aZ.oG hS hO) λk h1 h2=>?_) λk h1 h2=>?_⟩ (((((k1.tr k2).tr k4).tr k5).tr k6).tr k7) λk hk=>?_
 ·have:=Qw k h1;have:=bn5 k h2;omega
 ·rcases h2 with h2|h2
  ·have:=bn6 k h2;omega
  ·have:=bn5k k h2;omega
 ·rcases hk with hk|hk|hk
  ·have:=k6.size;omega
  ·have:=Qw k hk;omega
  ·rcases hs5 k hk with h|h
   ·rcases h with h|h
    ·omega
    ·have h':k=w2.heap.size:=h;omega
   ·omega
def va(c:jH)(gs:List eR)(e:Int)(c':jH):Prop:=∃(s1:OQ) (L:List Int) (e0:Int),SAgain c.s s1/\s1.Ok/\L.length<=c.s.n/\(c.s.gE=false->(∀x,¬c.s.uW x)->e0=0/\L=[])/\(e0=0->s1.gE=c.s.gE)/\
 if e0=0 then e=0/\gs=L.map (⟨s1,c.aK,c.t,c.gB⟩:jH).LC++(⟨s1,c.aK,c.t,c.gB⟩:jH).oD.1/\c'=(⟨s1,c.aK,c.t,c.gB⟩:jH).oD.2 else¬e=0/\gs=[]/\c'=⟨s1,c.aK,c.t,c.gB⟩
theorem yo{w:aH}{S:BS}{a:Nat}{c:jH}{dL:Int}{Q:Sl->Int->aH->Prop}(h:jU a c w S)(ok:c.Ok)
  (hQ:∀r gs e c' w' S',aZ (jU a c') (uR r gs) w' S'->Up S S' w w'->va c gs e c'->c'.Ok->Q r e w'):AZ (some ⟨a,0,none⟩) dL w Q:=by
 unfold AZ;refine Uc h (aF (λho=>?_) (λho=>?_))
 ·exact hQ _ [] 6 c w S (aZ.oG h EB) (Up.refl _ _) ⟨c.s,[],6,⟨rfl,rfl,rfl,rfl,λ_=>id⟩,ok.s,iF _,λh=>by rw[h] at ho;(cases ho),λ_=>rfl,by rw[if_neg (by decide)];exact⟨by decide,rfl,rfl⟩⟩ ok
 obtain⟨sp,tp,sl,hc⟩:=h;refine aA rfl (aE (k:=.ptr) (some ⟨sp,0,none⟩) hc.cells.1 ?_);obtain⟨S1,hs,rr,dN⟩:=hc.snd;refine Again_i hs ok.s λr L e0 s1 w2 S2 h2 u2 q1 q2 q3 q4 q5 q6 q7=>?_;obtain⟨S3,h3,u3⟩:=dN (QG sp s1) (jB cZ 1 eI r L) w2 S2 u2 h2
 let c1:jH:=⟨s1,c.aK,c.t,c.gB⟩
 have LN:c1.Ok:=⟨q2,ok.t,ok.gB,ok.len⟩;have Wk:aZ (jU a c1) (jB cZ 1 eI r L) w2 S3:=h3.mono (λ_ h=>⟨sp,tp,sl,h⟩) λ_ h=>h;have hL16:L.length<=16:=by have:=ok.s.BE;have:=ok.s.cM;omega
 refine aF (λhe=>?_) (λhe=>?_)
 ·have uM:¬e0=0:=by simpa using he
  obtain⟨S4,h4,u4⟩:=Wk.drop;exact hQ _ [] e0 c1 w2 S4 (aZ.oG h4 EB) (u3.tr u4) ⟨s1,L,e0,q1,q2,q3,q7,q5,by rw[if_neg uM];exact⟨uM,rfl,rfl⟩⟩ LN
 have uM:e0=0:=by simpa using he
 have rl:r.l=L.length:=by
  obtain⟨_,_,_,hv,_⟩:=Wk;exact hv.1.len
 refine bK (λn t w3=>∃(i:Nat) (out:Sl) (S5:BS),i<=L.length/\n=L.length-i/\t=(out,(i:Int),())/\aZ (jU a c1) (aZ (jB cZ 1 eI r L) (uR out ((L.take i).map c1.LC))) w3 S5/\Up S S5 w w3) L.length
  ⟨0,bD,S3,iF _,rfl,rfl,Wk.mono (λ_ h=>h) λ_ h=>aZ.oG h EB,u3⟩ ?_
 rintro n t w3 ⟨i,out,S5,hi,rfl,rfl,h5,u5⟩ X hX;dsimp only;refine aJ (λcL=>?_) (λlK=>?_)
 ·have dF:i<L.length:=aB
  have cU:=gU dF;have sD:=FW dF;generalize L[i]=x at*;obtain⟨SC,SV,hC,⟨SL,SG,hV,hG,dLG,eLG⟩,dCV,eCV⟩:=h5;obtain⟨q,hq,tZ⟩:=cQ (k:=.i) (e:=λx=>x) (hV.1.rd fM) cU;rw[lJ,qM i aB];refine⟨⟨aB,cL⟩,aA hq (aE (k:=.i) x tZ ?_)⟩;refine data_i hC LN λs w4 rd f4 k4=>?_;have bC:=bF.gI hC;have bG:=bF.gI hG;have bL:=bF.gI hV;have oF:aZ (jU a c1) (aZ (jB cZ 1 eI r L) (aZ (uR out ((L.take i).map c1.LC)) (CX 1 eU s (c1.LC x).body))) w4 (λk=>SC k\/(SL k\/(SG k\/rK s k))):=
   aZ.vZ (bF.kp hC k4) (aZ.vZ (bF.kp hV k4) (aZ.vZ (bF.kp hG k4) rd λk h1 ⟨b,hb,e⟩=>by have:=bG k h1;have:=f4 b hb;omega) λk h1 h2=>h2.elim (dLG k h1) λ⟨b,hb,e⟩=>by have:=bL k h1;have:=f4 b hb;omega) λk h1 h2=>by
    rcases h2 with h2|h2|⟨b,hb,e⟩
    ·exact dCV k h1 ((eLG k).2 (.inl h2))
    ·exact dCV k h1 ((eLG k).2 (.inr h2))
    ·have:=bC k h1;have:=f4 b hb;omega
  obtain⟨S6,h6,_,yF⟩:=((aZ.r oF).c λT hT=>aZ.r hT).put;obtain⟨S7,S8,g7,r8,d78,Lf⟩:=h6;refine Yy (g:=c1.LC x) g7 r8 d78 (by simp;omega) λr' w7 S9 g9 u9=>?_;obtain⟨GA,IX,Ev⟩:=yF _ w7 S9 ⟨u9.m.mono λk _ hk=>(Lf k).2 hk,λk hk=>(u9.s k hk).imp (λh=>(Lf k).2 h) id⟩ g9;have U4:Up S5 (λk=>SC k\/(SL k\/(SG k\/rK s k))) w3 w4:=Up.new k4 λk hk=>by
   rcases hk with hk|hk|hk|⟨b,hb,e⟩
   ·exact .inl ((eCV k).2 (.inl hk))
   ·exact .inl ((eCV k).2 (.inr ((eLG k).2 (.inl hk))))
   ·exact .inl ((eCV k).2 (.inr ((eLG k).2 (.inr hk))))
   ·exact .inr (by rw[e];exact f4 b hb)
  refine hX _ _ _ aB ⟨i+1,r',GA,dF,rfl,rfl,?_,u5.tr (U4.tr Ev)⟩;rw[sD,yA];exact IX
 ·have ei:i=L.length:=aB
  subst ei;rw[pF] at h5;obtain⟨SC,hC,_,backC⟩:=aZ.l h5;refine Sk hC LN λs w4 S6 h6 u6 fe=>?_;obtain⟨S7,h7,u7⟩:=backC (jU a c1.oD.2) (uR s c1.oD.1) w4 S6 u6 h6;have h7':aZ (jU a c1.oD.2) (aZ (jB cZ 1 eI r L) (aZ (uR out (L.map c1.LC)) (uR s c1.oD.1))) w4 S7:=h7.asr.mono (λ_ h=>h) λ_ h=>h.asr;obtain⟨S8,h8,_,MP⟩:=((aZ.r h7').c λT hT=>aZ.r hT).put;obtain⟨S9,GA,g9,g10,d910,e910⟩:=h8;have lp:c1.oD.1.length<=64:=iG Ht ok.gB;refine To g9 g10 d910 (by simp;omega) λr' w7 Nx g11 Lh=>?_;obtain⟨YJ,Ck,Cg⟩:=MP _ w7 Nx ⟨Lh.m.mono λk _ hk=>(e910 k).2 hk,λk hk=>(Lh.s k hk).imp (λh=>(e910 k).2 h) id⟩ g11;obtain⟨S13,fu,u13⟩:=(Ck.mono (B':=aZ (uR r' (L.map c1.LC++c1.oD.1)) (jB cZ 1 eI r L)) (λ_ h=>h) λ_ h=>h.cm).asl.drop;exact hQ r' _ 0 c1.oD.2 w7 S13 fu (u5.tr ((u7.tr Cg).tr u13)) ⟨s1,L,e0,q1,q2,q3,q7,q5,by rw[if_pos uM];exact⟨rfl,rfl,rfl⟩⟩ fe
open Go.IntKind (wrap)
section
theorem Mul_i{n:Nat}(hn:n<=51){w:aH}{Q:Int->Int->aH->Prop}(hQ:Q 0 (n:Int) w):tK (wrap .u64 (((1:Nat):Int))) (wrap .u64 (n:Int)) w Q:=by
 unfold tK;have key:∀k:Fin 60,nI (wrap .u64 (((1:Nat):Int))) (wrap .u64 (k.val:Int)) w (λa b w'=>a=0/\b=(k.val:Int)/\w'=w):=by
  intro k;unfold nI;refine⟨by decide,by decide,by decide,by decide,by decide,?_,?_,rfl⟩<;>revert k<;>decide+kernel
 have h:=key ⟨n,aB⟩;unfold nI at h ⊢;obtain⟨_,_,_,_,_,h1,h2,_⟩:=h;refine⟨by decide,by decide,by decide,by decide,by decide,?_⟩;simp only at h1 h2;rw[h1,h2];exact hQ
theorem Hr(x:Int):∀n:Nat,(List.replicate n x).flatMap eI=List.replicate n (aD x)
 |0=>rfl
 |n+1=>by rw[List.replicate_succ,List.replicate_succ,FC,Hr x n];rfl
theorem Zk{w:aH}{b n:Nat}{Q:Sl->aH->Prop}(h:cW w b cZ [aD (-1)])(hn:n<=51)(hQ:∀w',dP w' cZ 1 eI ⟨some ⟨w.heap.size,0,none⟩,n,n⟩ (List.replicate n (-1))->aN w w'->Q ⟨some ⟨w.heap.size,0,none⟩,n,n⟩ w'):
  gZ ⟨some ⟨b,0,none⟩,1,1⟩ (n:Int) w Q:=by
 unfold gZ;refine aJ (λh=>aB) (λ_=>?_);refine Mul_i hn ?_;refine aJ (λh=>aB) (λ_=>aJ (λh=>aB) (λ_=>?_));rw[gV (n:=(n:Int)) aB aB];refine BZ iN (aX:=eI) (0:Int) rfl fM aB (lM _) aB aB λw2 v2 k2=>?_;simp only[lJ] at v2 ⊢;have dW:∀w',cW w' w.heap.size cZ (List.replicate n (aD (-1)))->aN w w'->Q ⟨some ⟨w.heap.size,0,none⟩,n,n⟩ w':=λw' o k=>by
  refine hQ w' ⟨by simp,iX _,by simp[maxLen];omega,.inr ⟨w.heap.size,[],rfl,?_,by rw[sG,bI fM];simp⟩⟩ k;rw[sG,Hr];exact o
 have o2:cW w2 w.heap.size cZ (List.replicate n (aD 0)):=by
  rcases v2.gN with⟨h1,_⟩|⟨g,cR,hg,ho,hl⟩
  ·cases h1
  ·cases hg
   rw[Hr] at ho hl;rw[mH,List.length_replicate] at hl;have hl':n+cR.length=n*1:=hl;have hr:cR=[]:=Ct aB;rw[hr,sG] at ho;exact ho
 have aAh:∀{wx:aH},aN w wx->∀j v,([aD (-1)]:List Value)[j]? =some v->wx.cell? ((⟨b,0,none⟩:Addr).add j)=some v:=λkx=>(h.aL kx id).read λj v hj=>by simpa using hj
 have step:∀{w4:aH} {k m:Nat} {cs:List Value} {sa:Addr} {sl sc:Nat} {K:Int->aH->Prop},cW w4 w.heap.size cZ (List.replicate k (aD (-1))++List.replicate (n-k) (aD 0))->aN w w4->k+m<=n->m=min sl (n-k)->cs=List.replicate m (aD (-1))->
   (∀j v,cs[j]? =some v->w4.cell? (sa.add j)=some v)->(∀w5,cW w5 w.heap.size cZ (List.replicate (k+m) (aD (-1))++List.replicate (n-(k+m)) (aD 0))->aN w w5->K (m:Int) w5)->
   RA prog BP BP ⟨some ⟨w.heap.size,k,none⟩,n-k,n-k⟩ (.slice (some sa) sl sc) w4 K:=λ{w4 k m cs sa sl sc K} o k4 hkm hm Qy hr hK=>by
  subst Qy;refine NH (n:=1) iN.under cY o (by simp;omega) hr (by simp;omega) (λv hv=>by rw[(List.mem_replicate.1 hv).2];rfl) λw5 o5 m5 _=>?_;rw[<-hm];refine hK w5 ?_ (k4.fresh m5 λk e=>by rw[show k=_ from e];exact iX _);have e1:(List.replicate k (aD (-1))++List.replicate (n-k) (aD 0)).take k=List.replicate k (aD (-1)):=by
   rw[List.take_append_of_le_length dJ,List.take_of_length_le dJ]
  have e2:(List.replicate k (aD (-1))++List.replicate (n-k) (aD 0)).drop (k+(List.replicate m (aD (-1))).length)=List.replicate (n-(k+m)) (aD 0):=by
   rw[List.drop_append,List.drop_of_length_le dJ,List.nil_append,List.drop_replicate];simp;omega
  rw[e1,e2,List.replicate_append_replicate] at o5;exact o5
 have first:=λ(K:WQ Int)=>step (K:=K) (w4:=w2) (k:=0) (m:=min 1 n) (cs:=List.replicate (min 1 n) (aD (-1))) (sa:=⟨b,0,none⟩) (sl:=1) (sc:=1)
 simp only[List.replicate_zero,List.nil_append,Nat.sub_zero,pU] at first
 refine first _ o2 k2 aB trivial trivial (λj v hj=>?_) λw3 o3 k3=>?_
 ·refine aAh k2 j v ?_
  rw[Fm] at hj
  split at hj
  ·have:j=0:=aB
   subst this;simpa using hj
  ·cases hj
 refine bK (λc t w4=>∃k:Nat,k<=n/\min 1 n<=k/\c=n-k/\t=((k:Int),())/\cW w4 w.heap.size cZ (List.replicate k (aD (-1))++List.replicate (n-k) (aD 0))/\aN w w4) (n-min 1 n) ⟨min 1 n,aB,iX _,rfl,rfl,o3,k3⟩ ?_;rintro c t w4 ⟨k,hk,QM,rfl,rfl,o4,k4⟩ X hX;dsimp only;refine aJ (λcL=>?_) (λlK=>?_)
 ·have GJ:k<n:=aB
  refine⟨⟨aB,aB⟩,⟨aB,aB⟩,?_⟩;rw[lJ,lR GJ,oV,Nat.sub_zero,Nat.sub_zero,Nat.mul_one];have d4:aN w4 w4.drew:=aY.drew (aY.refl _ w4);have o4d:=o4.aL d4 id;refine step (m:=min k (n-k)) o4d (k4.tr d4) aB rfl rfl (o4d.read λj v hj=>?_) λw5 o5 k5=>?_
  ·rw[Fm] at hj
   split at hj
   ·rw[pU,Fp (by simp;omega),Fm,if_pos aB];exact hj
   ·cases hj
  ·rw[gV (n:=(k:Int)+((min k (n-k):Nat):Int)) aB aB,show(k:Int)+((min k (n-k):Nat):Int)=((k+min k (n-k):Nat):Int) by omega]
   exact hX (n-(k+min k (n-k))) _ _ aB ⟨k+min k (n-k),aB,aB,rfl,rfl,o5,k5⟩
 ·have:k=n:=aB
  subst this;rw[Nat.sub_self,List.replicate_zero,sG] at o4;exact dW w4 o4 k4
structure GSep(W:aH)(Z b1 b5 r g1 B:Nat)(s1 s2:Sl):Prop where
 ON:s1.b=some ⟨g1,0,none⟩
 qN:W.heap.size<=b1/\W.heap.size<=b5/\W.heap.size<=r/\W.heap.size<=g1/\∀b,s2.b=some b->W.heap.size<=b.block
 high:b1<Z/\b5<Z/\r<Z/\g1<Z/\∀b,s2.b=some b->b.block<Z
 ne:b1≠b5/\b1≠r/\b1≠g1/\b5≠r/\b5≠g1/\r≠g1
 ne2:∀b,s2.b=some b->b.block≠b1/\b.block≠b5/\b.block≠r/\b.block≠g1
def SepK(W:aH)(b1 b5 r g1:Nat)(s2:Sl)(k:Nat):Prop:=W.heap.size<=k/\k≠b1/\k≠b5/\k≠r/\k≠g1/\∀b,s2.b=some b->k≠b.block
theorem GSep.new{W:aH}{Z b1 b5 r g1 B:Nat}{s1 s2:Sl}(h:GSep W Z b1 b5 r g1 B s1 s2){k:Nat}(hk:Z<=k):SepK W b1 b5 r g1 s2 k:=by
 obtain⟨h1,h2,h3,h4,h5⟩:=h.high;have:=h.qN.1;exact⟨aB,aB,aB,aB,aB,λb hb e=>by have:=h5 b hb;omega⟩
structure Wo(W:aH)(Z b1 b5 r g1 B:Nat)(s1 s2:Sl)(w:aH)(H:HS)(q:List It)(ds bs:List Int)(kn:Int->Option Int):Prop where
 hp:rO w H q
 hg:H.g=B
 mp:∃nm,jT w r CW Ll kn nm
 v1:dP w cZ 1 eI s1 ds
 v2:dP w cZ 1 eI s2 bs
 o1:cW w b1 Xh [sv bD,sv bD]
 o5:cW w b5 Xh [sv s1,sv s2]
 kp:aN W w
 sz:Z<=w.heap.size
 sep:∀k,H.dK k->SepK W b1 b5 r g1 s2 k
section
variable{W:aH}{Z b1 b5 r g1 B:Nat}{s1 s2:Sl}{w:aH}{H:HS}{q:List It}{ds bs:List Int}{kn:Int->Option Int}
theorem Wo.aO{w':aH}(h:Wo W Z b1 b5 r g1 B s1 s2 w H q ds bs kn)(k:aN w w'):Wo W Z b1 b5 r g1 B s1 s2 w' H q ds bs kn:=
 ⟨h.hp.aO k,h.hg,h.mp.imp λ_ m=>m.aL k id,h.v1.aL k λ_ _=>id,h.v2.aL k λ_ _=>id,h.o1.aL k id,h.o5.aL k id,h.kp.tr k,iG h.sz k.size,h.sep⟩
theorem Wo.heap{w':aH}{H':HS}{q':List It}(S:GSep W Z b1 b5 r g1 B s1 s2)(h:Wo W Z b1 b5 r g1 B s1 s2 w H q ds bs kn)(hp:oO w' H' q')(hg:H'.g=H.g)(m:aY H.dK w w')(f:∀k,H'.dK k->H.dK k\/w.heap.size<=k):Wo W Z b1 b5 r g1 B s1 s2 w' H' q' ds bs kn:=by
 refine⟨.inl hp,hg.trans h.hg,h.mp.imp λ_ mm=>mm.aL m λhk=>(h.sep r hk).2.2.2.1 rfl,h.v1.aL m λa ha hk=>?_,h.v2.aL m λa ha hk=>(h.sep _ hk).2.2.2.2.2 a ha rfl,h.o1.aL m λhk=>(h.sep _ hk).2.1 rfl,h.o5.aL m λhk=>(h.sep _ hk).2.2.1 rfl,h.kp.fresh m λk hk=>(h.sep k hk).1,iG h.sz m.size,λk hk=>?_⟩
 ·rw[S.ON] at ha;cases ha;exact(h.sep _ hk).2.2.2.2.1 rfl
 ·rcases f k hk with h1|h1
  ·exact h.sep k h1
  ·exact S.new (iG h.sz h1)
theorem Wo.map{w':aH}{kn':Int->Option Int}(S:GSep W Z b1 b5 r g1 B s1 s2)(h:Wo W Z b1 b5 r g1 B s1 s2 w H q ds bs kn)(m:aY (λk=>k=r) w w')(mp:∃nm,jT w' r CW Ll kn' nm):Wo W Z b1 b5 r g1 B s1 s2 w' H q ds bs kn':=by
 have ne:=S.ne;refine⟨h.hp.aL m λk hk e=>(h.sep k hk).2.2.2.1 e,h.hg,mp,h.v1.aL m λa ha e=>?_,h.v2.aL m λa ha e=>(S.ne2 a ha).2.2.1 e,h.o1.aL m λe=>?_,h.o5.aL m λe=>?_,h.kp.fresh m λk e=>?_,iG h.sz m.size,h.sep⟩
 ·rw[S.ON] at ha;cases ha;exact ne.2.2.2.2.2 (Eq.symm e)
 ·exact ne.2.1 e
 ·exact ne.2.2.2.1 e
 ·rw[show k=r from e];exact S.qN.2.2.1
theorem Wo.cells(h:Wo W Z b1 b5 r g1 B s1 s2 w H q ds bs kn):w.cell? ((⟨b5,0,none⟩:Addr).add 0)=some (sv s1)/\w.cell? ((⟨b5,0,none⟩:Addr).add 1)=some (sv s2):=by
 refine⟨?_,?_⟩<;>rw[aS,h.o5.cell]<;>rfl
end
theorem TP{w:aH}{g:Nat}{cs:List Value}{a b:Sl}{K:aH->Prop}(h:cW w g Xh cs)(hl:cs.length=2)(hK:∀w',cW w' g Xh [sv a,sv b]->aY (λk=>k=g) w w'->w'.heap.size=w.heap.size->K w'):
  aI prog Xh ⟨g,0,none⟩ (Value.agg #[Value.slice a.b a.l a.c,Value.slice b.b b.l b.c]) w K:=by
 refine CD h aAz (by simp[Value.cells,hl]) (by simp[Value.cells,Value.oneCell']) λw' ho hm hz=>hK w' ?_ hm hz;have:cs.take 0++(Value.agg #[Value.slice a.b a.l a.c,Value.slice b.b b.l b.c]).cells.toList++cs.drop (0+(Value.agg #[Value.slice a.b a.l a.c,Value.slice b.b b.l b.c]).cells.size)=[sv a,sv b]:=by
  simp[Value.cells,List.drop_of_length_le (show cs.length<=2 by omega)]
 rwa[this] at ho
theorem grow_i{HL:Mi}{n:Nat}{A:List bQ}{R:List Int}{from_:Sl}{fs:List Int}{JJ end_:Value}{nx:Int->List bQ}{en:bQ->Int}{W:aH}{Q:(Sl×Sl×Unit)->aH->Prop}(h:oM W HL n A R)(hn:n<=51)(hf:Rd W from_ 1 eI fs)(QN:fs.length<=1000)
  (hN:Sb n (vC n fs) nx en) (hnl:∀v,(nx v).length<=100000)
  (harcs:∀v w (K:WQ Value),oM w HL n A R->(∀s w',dP w' iT 4 eC s (nx v)->aN w w'->(∀b,s.b=some b->w.heap.size<=b.block)->K (.slice s.b s.l s.c) w')->lQ prog JJ [aD v] w K)
  (hend:∀e w (K:WQ Value),(∀w',aN w w'->K (aD (en e)) w')->lQ prog end_ [Gb e] w K)
  (hQ:∀s1 s2 ds bs w',Grown n (vC n fs) nx en ds bs->dP w' cZ 1 eI s1 ds->dP w' cZ 1 eI s2 bs->aN W w'->(∀b,s1.b=some b->W.heap.size<=b.block)->(∀b,s2.b=some b->W.heap.size<=b.block)->Q (s1,s2,()) w'):
  xP (some ⟨HL.gl,0,none⟩) from_ JJ end_ W Q:=by
 unfold xP;refine bP λw1 o1 k1 z1=>?_;refine aF (λh=>by simp at h) (λ_=>?_);refine bP λw3 o3 k3 z3=>?_;have K3:=k1.tr k3;refine aA rfl (aE (k:=.ptr) (some ⟨HL.N.g,0,none⟩) (h.aO K3).c0 (RC (h.aO K3).LS ?_));refine Zk o3 hn λw5 v5 k5=>?_;refine HM (v5.rd fM) (by simp;omega) λs2 w6 v6 k6 f6=>?_;have z5:w3.heap.size<w5.heap.size:=v5.lt rfl;have z6:=k6.size;refine qV (ek:=CW) (kn:=Ll) λhm k7=>?_;have z7:(w6.alloc (.map #[] 0)).heap.size=w6.heap.size+1:=by simp
 generalize w6.alloc (.map #[] 0)=w7 at*;refine bP λw8 o8 k8 z8=>bP λw9 o9 k9 z9=>?_;refine TP (a:=⟨some ⟨w3.heap.size,0,none⟩,n,n⟩) (b:=s2) o9 rfl λeY Ci YN z10=>?_;generalize vY:(⟨some ⟨w3.heap.size,0,none⟩,n,n⟩:Sl)=s1 at*;have ON:s1.b=some ⟨w3.heap.size,0,none⟩:=by rw[<-vY]
 have f6':∀b,s2.b=some b->w5.heap.size<=b.block/\b.block<w6.heap.size:=λb hb=>⟨f6 b hb,v6.lt hb⟩;have S:GSep W eY.heap.size W.heap.size w8.heap.size w6.heap.size w3.heap.size w7.heap.size s1 s2:=by
  refine⟨ON,⟨aB,aB,aB,aB,λb hb=>by have:=f6' b hb;omega⟩,⟨aB,aB,aB,aB,λb hb=>by have:=f6' b hb;omega⟩,⟨aB,aB,aB,aB,aB,aB⟩,λb hb=>by have:=f6' b hb;omega⟩
 have k910:aN w8 eY:=k9.fresh YN λk e=>by rw[show k=_ from e];exact iX _
 have Ny:aN w6 eY:=(k7.tr k8).tr k910;have KW:aN W eY:=((K3.tr k5).tr k6).tr Ny;have St0:Wo W eY.heap.size W.heap.size w8.heap.size w6.heap.size w3.heap.size w7.heap.size s1 s2 eY ⟨w7.heap.size,w7.heap.size,bD⟩ [] (List.replicate n (-1)) (List.replicate n (-1)) (λ_=>none):=by
  refine⟨.inr ⟨rfl,rfl,rfl,o8.aL k910 id⟩,rfl,⟨0,hm.aL (k8.tr k910) id⟩,(v5.aL k6 λ_ _=>id).aL Ny (λ_ _=>id),v6.aL Ny λ_ _=>id,((((o1.aL k3 id).aL k5 id).aL k6 id).aL Ny id),Ci,KW,iX _,λk hk=>?_⟩;have:k=w7.heap.size:=by
   rcases hk with hk|hk|⟨a,ha,_⟩
   ·exact hk
   ·exact hk
   ·cases ha
  subst this;exact⟨aB,aB,aB,aB,aB,λb hb=>by have:=f6' b hb;omega⟩
 clear o1 o3 v5 v6 f6 f6' hm o8 o9 Ci YN k910 Ny k9 k8 k7 k6 k5 k3 K3 k1;generalize eY.heap.size=Z at*;obtain⟨b1,Du⟩:∃b1,b1=W.heap.size:=⟨_,rfl⟩;rw[<-Du] at S St0 ⊢;generalize w8.heap.size=b5 at*;generalize w6.heap.size=r at*;generalize w3.heap.size=g1 at*;generalize w7.heap.size=B at*;clear z1 z3 z5 z6 z7 z8 z9 z10 vY;refine bK (λc t eN=>∃(i:Nat) (H:HS) (q:List It) (kn:Int->Option Int),i<=fs.length/\c=fs.length-i/\t=((i:Int),())/\Wo W Z b1 b5 r g1 B s1 s2 eN H q (List.replicate n (-1)) (List.replicate n (-1)) kn/\Co q/\BK q/\
   (∀y∈q,y.key=0/\vC n fs y.id/\kn y.id=some (-1))/\(∀j,j<i->∀v,fs[j]? =some v->0<=v->v<n->∃y∈q,y.id=v)) fs.length
  ⟨0,_,[],_,iF _,rfl,rfl,St0,(λx hx=>by cases hx),List.Pairwise.nil,(λy hy=>by cases hy),λj hj=>aB⟩ ?_
 rintro c t eN ⟨i,H,q,kn,hi,rfl,rfl,st,jA,lU,hq,oF⟩ X hX;dsimp only;have qlen:q.length<=n:=DZ (mG lU) jA λy hy=>(hq y hy).2.1.2;refine aJ (λcL=>?_) (λlK=>?_)
 ·have hfr:=hf.len
  have dF:i<fs.length:=aB;have cU:=gU dF;have fP:=oE dF;generalize fs[i]=v at*;obtain⟨p,hp,hc⟩:=cQ (k:=.i) (e:=λx=>x) (hf.aL st.kp dA λ_ _=>id) cU;rw[lJ];refine⟨⟨aB,cL⟩,aA hp (aE (k:=.i) v hc ?_)⟩;have skip:¬(0<=v/\v<n)->X (aQ ((i:Int)+1),()) eN:=λuX=>by
   rw[qM i aB];refine hX _ _ _ aB ⟨i+1,H,q,kn,dF,rfl,rfl,st,jA,lU,hq,λj hj u hu u0 u1=>?_⟩;rcases Nat.lt_or_ge j i with CV|CV
   ·exact oF j CV u hu u0 u1
   ·have:j=i:=aB
    subst this;rw[cU] at hu;cases hu;exact absurd ⟨u0,u1⟩ uX
  refine aJ (λh0=>?_) (λh0=>skip λh=>h0 h.1);have zi:0<=v:=h0;have hL:=h.aO st.kp;refine aA rfl (aE (k:=.ptr) (some ⟨HL.N.g,0,none⟩) hL.c0 (RC hL.LS ?_));refine aJ (λh1=>?_) (λh1=>skip λh=>h1 h.2);have hg:=st.hg;rw[<-hg];refine ZH st.hp aB λgQ H13 fu g13 gk f13=>?_;have st13:=st.heap S fu g13 gk f13;obtain⟨nm,hmp⟩:=st13.mp;refine WM (kn:=Ll) pB kT hmp v (-1:Int) λmQ hm14 YM _=>?_;have st14:=st13.map S YM ⟨_,hm14⟩;rw[qM i aB];refine hX _ _ _ aB ⟨i+1,H13,_,_,dF,rfl,rfl,st14,CH jA v 0,CG lU v 0,λy hy=>?_,λj hj u hu u0 u1=>?_⟩
  ·rcases WR hy with gu|rfl
   ·obtain⟨a1,a2,a3⟩:=hq y gu
    refine⟨a1,a2,?_⟩;show(if y.id=v then some (-1:Int) else kn y.id)=some (-1)
    split
    ·rfl
    ·exact a3
   ·exact⟨rfl,⟨fP,zi,h1⟩,if_pos rfl⟩
  ·rcases Nat.lt_or_ge j i with CV|CV
   ·obtain⟨y,hy,e⟩:=oF j CV u hu u0 u1
    obtain⟨y',Vm,e',_⟩:=PC jA (v:=v) (k:=0) hy;exact⟨y',Vm,e'.trans e⟩
   ·have:j=i:=aB
    subst this;rw[cU] at hu;cases hu;obtain⟨y,hy,e,_⟩:=WS (q:=q) (v:=v) (k:=0);exact⟨y,hy,e⟩
 have hfr:=hf.len;have ei:i=fs.length:=aB;subst ei;have G0:tS n (vC n fs) nx en (λ_ _=>True) (List.replicate n (-1)) (List.replicate n (-1)) q kn:=tS.start hN hq λv hv=>by
  obtain⟨j,hj⟩:=oZ.1 hv.1;exact oF j (kY.1 hj).1 v hj hv.2.1 hv.2.2
 clear hX hq oF qlen;generalize hds0:List.replicate n (-1:Int)=ds0 at*;refine bK (λc t fV=>∃(H:HS) (q:List It) (kn:Int->Option Int) (ds bs:List Int),c=n-met ds/\t=()/\Wo W Z b1 b5 r g1 B s1 s2 fV H q ds bs kn/\Co q/\BK q/\tS n (vC n fs) nx en (λ_ _=>True) ds bs q kn) (n-met ds0)
  ⟨H,q,kn,ds0,ds0,rfl,rfl,st,jA,lU,G0⟩ ?_
 clear G0 jA lU st;rintro c t fV ⟨H,q,kn,ds,bs,rfl,rfl,st,jA,lU,G⟩ X hX;have hg:=st.hg;rw[<-hg];refine vf st.hp ?_;cases q with
 |nil=>
  refine aJ (λh=>by simp at h) (λ_=>?_);refine bJ (l:=[.slice,.slice]) (s1,s2,()) (iP st.o5) ?_;refine TP (a:=s1) (b:=s2) st.o1 rfl λeo o28 m28 _=>?_;refine bJ (l:=[.slice,.slice]) (s1,s2,()) (iP o28) ?_;refine hQ s1 s2 ds bs eo (G.done hN) (st.v1.aL m28 λa ha e=>?_) (st.v2.aL m28 λa ha e=>(S.ne2 a ha).1 e) (st.kp.fresh m28 λk e=>by rw[show k=b1 from e];exact S.qN.1) (λb hb=>?_) (λb hb=>S.qN.2.2.2.2 b hb)
  ·rw[S.ON] at ha;cases ha;exact S.ne.2.2.1 (Eq.symm e)
  ·rw[S.ON] at hb;cases hb;exact S.qN.2.2.2.1
 |cons x q=>
  refine aJ (λ_=>?_) (λh=>absurd (by simp only[mV];omega) h);obtain⟨x0,x1,hxd,hxg,hxb,u,hu,_⟩:=G.qi x dJ;have fh:=(hxg.qw hN).2.2;have uk:(x::q).length<=n:=DZ (mG lU) jA λy hy=>⟨(G.qi y hy).1,(G.qi y hy).2.1⟩;have hp:oO fV H (x::q):=st.hp.resolve_right λh=>by cases h.1
  refine Pop_i hp (by simp at uk;omega) λlP H17 h17 g17 f17 yw=>?_;have d17:aN lP lP.drew:=aY.drew (aY.refl _ lP);have rJ:=(st.heap S h17 g17 yw λk hk=>.inl ((f17 k).1 hk)).aO d17;obtain⟨G1,hmet⟩:=G.pop hN lU jA hu;have hml:=lh (ds.set x.id.toNat x.key);rw[pR,G.dl] at hml;refine aE (k:=.slice) s1 rJ.cells.1 (aE (k:=.slice) s2 rJ.cells.2 ?_);obtain⟨nm,hmp⟩:=rJ.mp;refine wV (kn:=Ll) pB kT (z:=(0:Int)) NA hmp x.id ?_;rw[hu];show _/\_;have v1l:=rJ.v1.len;have v2l:=rJ.v2.len;have ie:=G.dl;have DM:=G.bl;refine⟨rJ.cells.2,rJ.cells.1,⟨x0,aB⟩,aA S.ON ?_⟩;refine rJ.v1.store fM S.ON (i:=x.id.toNat) aB x.key (v:=aD x.key) rfl cY (EZ _) λqD v19 m19 z19=>?_;have LI:aY (λk=>k=g1) lP.drew qD:=m19;have GC:Wo W Z b1 b5 r g1 B s1 s2 qD H17 q (ds.set x.id.toNat x.key) bs kn:=by
   refine⟨rJ.hp.aL LI λk hk e=>(rJ.sep k hk).2.2.2.2.1 e,rJ.hg,rJ.mp.imp λ_ mm=>mm.aL LI λe=>S.ne.2.2.2.2.2 e,v19,rJ.v2.aL LI λa ha e=>(S.ne2 a ha).2.2.2 e,rJ.o1.aL LI λe=>S.ne.2.2.1 e,rJ.o5.aL LI λe=>S.ne.2.2.2.2.1 e,rJ.kp.fresh LI λk e=>by rw[show k=g1 from e];exact S.qN.2.2.2.1,by rw[z19];exact rJ.sz,rJ.sep⟩
  obtain⟨g2,Ap⟩:∃g2,s2.b=some ⟨g2,0,none⟩:=by
   rcases GC.v2.gN with⟨_,h2⟩|⟨g,_,hb,_⟩
   ·have:=GC.v2.cap;omega
   ·exact⟨g,hb⟩
  refine⟨GC.cells.2,⟨x0,aB⟩,aA Ap ?_⟩;refine GC.v2.store fM Ap (i:=x.id.toNat) aB u (v:=aD u) rfl cY (EZ _) λxX v20 m20 z20=>?_;have aAd:aY (λk=>k=g2) qD xX:=m20;have n2:=S.ne2 _ Ap;have st20:Wo W Z b1 b5 r g1 B s1 s2 xX H17 q (ds.set x.id.toNat x.key) (bs.set x.id.toNat u) kn:=by
   refine⟨GC.hp.aL aAd λk hk e=>(GC.sep k hk).2.2.2.2.2 _ Ap e,GC.hg,GC.mp.imp λ_ mm=>mm.aL aAd λe=>n2.2.2.1 e.symm,GC.v1.aL aAd λa ha e=>?_,v20,GC.o1.aL aAd λe=>n2.1 e.symm,GC.o5.aL aAd λe=>n2.2.1 e.symm,GC.kp.fresh aAd λk e=>by rw[show k=g2 from e];exact S.qN.2.2.2.2 _ Ap,by rw[z20];exact GC.sz,GC.sep⟩;rw[S.ON] at ha;cases ha;exact n2.2.2.2 (Eq.symm e)
  have hdlt:x.id.toNat<ds.length:=aB;have hself:(ds.set x.id.toNat x.key)[x.id.toNat]? =some x.key:=by rw[wC,if_pos rfl,if_pos hdlt]
  have exi:(x.id.toNat:Int)=x.id:=Int.toNat_of_nonneg x0;have QV:Co q:=λa ha b hb=>jA a (by simp[ha]) b (by simp[hb]);have ug:BK q:=(List.pairwise_cons.1 lU).2;generalize hds':ds.set x.id.toNat x.key=Vx at*;generalize bs.set x.id.toNat u=Ns at*;refine harcs x.id xX _ (h.aO st20.kp) λs5 AO v21 k21 f21=>⟨s5,rfl,?_⟩;have Ri:=st20.aO k21;have l5:=v21.len;have Cj:=hnl x.id;have fr5:∀b,s5.b=some b->xX.heap.size<=b.block/\b.block<AO.heap.size:=λb hb=>⟨f21 b hb,v21.lt hb⟩;refine bK (λc t EW=>∃(i:Nat) (H:HS) (q:List It) (kn:Int->Option Int),i<=(nx x.id).length/\c=(nx x.id).length-i/\t=((i:Int),())/\Wo W Z b1 b5 r g1 B s1 s2 EW H q Vx Ns kn/\Co q/\BK q/\
    tS n (vC n fs) nx en (λv e=>v≠x.id\/e∈(nx x.id).take i) Vx Ns q kn/\dP EW iT 4 eC s5 (nx x.id)/\(∀k,H.dK k->∀b,s5.b=some b->k≠b.block)/\AO.heap.size<=EW.heap.size) (nx x.id).length
   ⟨0,H17,q,kn,iF _,rfl,rfl,Ri,QV,ug,G1.mono (λv e _ hh=>hh.resolve_right dJ),v21,λk hk b hb e=>by have:=(fr5 b hb).1;have:=st20.hp.lt hk;omega,iX _⟩ ?_
  rintro c t EW ⟨i,H2,q2,kn2,hi,rfl,rfl,st2,KZ,QU,G2,v22,sp2,z22⟩ Y hY;dsimp only;have hq2len:q2.length<=n:=DZ (mG QU) KZ λy hy=>⟨(G2.qi y hy).1,(G2.qi y hy).2.1⟩;refine aJ (λcL=>?_) (λlK=>?_)
  ·have dF:i<(nx x.id).length:=aB
   have cU:=gU dF;have fP:=oE dF;have sD:(nx x.id).take (i+1)=(nx x.id).take i++[(nx x.id)[i]]:=FW dF;generalize (nx x.id)[i]=e at*;obtain⟨e0,e1,ew0,ew1⟩:=hN.arc x.id e fP;obtain⟨p,hp,hh⟩:=wR (v22.rd kL) cU;rw[lJ];refine⟨⟨aB,cL⟩,aA hp (bJ (nY e) hh ?_)⟩;refine HH (x:=e) λYD k24 o24 _=>?_;refine bJ (nY e) (iP o24) ?_;refine hend e YD _ λUO k25=>⟨en e,rfl,?_⟩;have k225:=k24.tr k25;have zt:=st2.aO k225;have o25:=o24.aL k25 id;have v25:=v22.aL k225 λ_ _=>id;have hdl':=G2.dl;obtain⟨y,hy⟩:∃y,Vx[(en e).toNat]? =some y:=⟨_,gU (show(en e).toNat<Vx.length by omega)⟩;obtain⟨pa,hpa,hca⟩:=cQ (k:=.i) (e:=λx=>x) (zt.v1.rd fM) hy;have tko:∀v' e',e'∈nx v'->(v'≠x.id\/e'∈(nx x.id).take (i+1))->((v'≠x.id\/e'∈(nx x.id).take i)\/(v'=x.id/\e'=e)):=λv' e' _ hh=>by
    rcases hh with h1|h1
    ·exact .inl (.inl h1)
    ·rw[sD] at h1
     rcases jS.1 h1 with h2|h2
     ·exact .inl (.inr h2)
     ·by_cases hv:v'=x.id
      ·exact .inr ⟨hv,by simpa using h2⟩
      ·exact .inl (.inl hv)
   have z25:=k225.size;refine aE (k:=.slice) s1 zt.cells.1 ⟨⟨e0,aB⟩,aA hpa (aE (k:=.i) y hca ?_)⟩;refine aJ (λQC=>?_) (λuN=>?_)
   ·have hy1:y=-1:=by
     rcases G2.Cp _ _ hy with h1|⟨h1,_⟩
     ·exact h1
     ·have hneg':y<0:=QC
      omega
    subst hy1;have hwr:aQ (x.key+e.w)=x.key+e.w:=gV (by simp only[BW] at*;omega) (by simp only[BW] at*;omega);refine aE (k:=.i) e.w (tE o25).2.2.1 ?_;rw[hwr];have hg2':=zt.hg;rw[hg,<-hg2'];refine ZH zt.hp aB λQr H26 h26 g26 m26 f26=>?_;have st26:=zt.heap S h26 g26 m26 f26;have G3:=(G2.push hN KZ (v:=x.id.toNat) (d:=x.key) (e:=e) hself fh (by rw[exi];exact fP) hy);rw[exi] at G3;have G4:=G3.mono (Qv:=λv e=>v≠x.id\/e∈(nx x.id).take (i+1)) tko;have sp26:∀k,H26.dK k->∀b,s5.b=some b->k≠b.block:=λk hk b hb e=>by
     rcases f26 k hk with h1|h1
     ·exact sp2 k h1 b hb e
     ·have:=(fr5 b hb).2;omega
    have v26:=v25.aL m26 λb hb hk=>sp2 _ hk b hb rfl;have z26:=m26.size;rw[qM i aB];have hflag:∀b,(nW q2 (en e) (x.key+e.w)).2=b->tS n (vC n fs) nx en (λv e=>v≠x.id\/e∈(nx x.id).take (i+1)) Vx Ns (nW q2 (en e) (x.key+e.w)).1 (knP kn2 b (en e) x.id):=λb hb=>by rw[<-hb];exact G4
    refine aF (λhb=>?_) (λhb=>?_)
    ·obtain⟨nm2,hmp2⟩:=st26.mp
     refine WM (kn:=Ll) pB kT hmp2 (en e) x.id λVj hm27 m27 z27=>?_;have st27:=st26.map S m27 ⟨_,hm27⟩;refine hY _ _ _ aB ⟨i+1,H26,_,_,dF,rfl,rfl,st27,CH KZ _ _,CG QU _ _,hflag true hb,v26.aL m27 λb bY e=>?_,sp26,aB⟩;have:=(fr5 b bY).1;have h1:=S.high.2.2.1;have h2:=st20.sz;omega
    ·exact hY _ _ _ aB ⟨i+1,H26,_,kn2,dF,rfl,rfl,st26,CH KZ _ _,CG QU _ _,hflag false hb,v26,sp26,aB⟩
   ·have Gp:0<=y:=by have:¬y<0:=uN;omega
    rw[qM i aB];exact hY _ _ _ aB ⟨i+1,H2,q2,kn2,dF,rfl,rfl,zt,KZ,QU,(G2.skip (v:=x.id) (e:=e) hy Gp).mono tko,v25,sp2,aB⟩
  ·have ei:i=(nx x.id).length:=aB
   subst ei;rw[pF] at G2;refine hX (n-met Vx) _ _ aB ⟨H2,q2,kn2,Vx,Ns,rfl,rfl,st2,KZ,QU,G2.mono λv e he _=>?_⟩
   by_cases hv:v=x.id
   ·exact .inr (hv▸he)
   ·exact .inl hv
end
end Go.Proofs.YtihggjgakbgomaaGreat
