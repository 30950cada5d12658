import Derived.Maps.RangeRun
import Derived.Test.YtihggjgakbgomaaGreatA1
import Derived.Test.YtihggjgakbgomaaGreatQ2
import Derived.Test.YtihggjgakbgomaaGreatF2
import Derived.Test.YtihggjgakbgomaaGreatF1
import Derived.Test.YtihggjgakbgomaaGreatA2
import Derived.Test.YtihggjgakbgomaaGreatQ1
namespace Go.Proofs.YtihggjgakbgomaaGreat
open Go Go.Den
section
section
variable{w0 w w':aH}{g m N:Nat}{e:TypeId}{mc:List Value}{V:Prop}{E:List cG}{L:List (Nat×List Int)}
theorem sQ.Av(h:sQ w0 g m e mc V E N L w){i j:Nat}{v:Value}(hk:mc[i+j]? =some v):w.cell? (((⟨m,0,none⟩:Addr).add i).add j)=some v:=by
 rw[add_add];exact h.cell hk
theorem sQ.start{t:TypeId}{cs:List Value}(h:Nu w0 (Ed g [] false) w){K:Addr->aH->Prop}(hK:∀w1,sQ w0 g w.heap.size t cs V [] 0 [] w1->aL w w1->K ⟨w.heap.size,0,none⟩ w1):aG w cs.toArray t K:=by
 obtain⟨⟨S,a,s⟩,md⟩:=h;refine cO λw1 b1 k1 z1=>hK w1 ⟨S,[],false,bG.kp a k1,s,md.trans k1 λ_ _ h=>h.elim,λp hp=>(by cases hp),⟨b1.1,λhS=>?_⟩,dL _,λ_=>⟨rfl,rfl⟩⟩ k1;have:=bG.gX a _ hS;simp at this
end
theorem QK{x:Int}(h:u16 x):0<=x/\x.toNat<256^2:=⟨h.1,by have:=h.2;have:=h.1;omega⟩
theorem Aq{x:Int}(h:u32 x):0<=x/\x.toNat<256^4:=⟨h.1,by have:=h.2;have:=h.1;omega⟩
theorem Np{x:Int}(h:u40 x):0<=x/\x.toNat<256^5:=⟨h.1,by have:=h.2;have:=h.1;omega⟩
theorem rng8{x:Int}(h:0<=x/\x<256):0<=x/\x.toNat<256^1:=⟨h.1,by have:=h.2;have:=h.1;omega⟩
set_option maxHeartbeats 1000000 in
theorem writes_i{g:Nat}{w0 w:aH}{p:gV}{sl:Sl}{Q:Bool->aH->Prop}(h:Nu w0 (Ed g [] false) w)(hr:Rd w0 sl 1 eI p.cD)(hb:∀b,sl.b=some b->b.block<w0.heap.size)(hl:p.cD.length<=70000)
  (hQ:∀c w' m mc E N L,sQ w0 g m mV mc (sR p) E N L w'->N<=60+p.cD.length*7->(sR p->E=kR p/\c=true)->Q c w'):sB (some ⟨g,0,none⟩) (GJ (p,sl)) w Q:=by
 unfold sB;have sll:=hr.len;refine sQ.start (V:=sR p) (cs:=tN (p,sl)) h λw1 h1 k1=>?_;refine aE (k:=.i) p.kind (h1.cell rfl) ?_;refine h1.alloc [p.kind] λw2 h2=>?_;refine h2.Cr (ns:=[p.kind]) 1 dN rfl aB dN (λv x hx=>by rw[oG.1 hx];exact rng8 ⟨by have:=v.kind;omega,by have:=v.kind;omega⟩) λw3 h3=>?_;intro J1 OG;have GL:∀{E N L wx},sQ w0 g w.heap.size mV (tN (p,sl)) (sR p) E N L wx->N<=60+p.cD.length*7->(sR p->E=kR p)->J1 () wx:=by
  intro E N L wx hx hN hE;apply OG;refine aE (k:=.i) p.kind (hx.cell rfl) (aF (λhk=>hQ _ _ _ _ _ _ _ hx hN λv=>⟨hE v,rfl⟩) (λhk=>aE (k:=.slice) sl (hx.cell rfl) (hQ _ _ _ _ _ _ _ hx hN λv=>⟨hE v,?_⟩)));have Vq:p.kind=5:=by simpa using hk
  have:=v.cD;rw[if_pos Vq] at this;exact decide_eq_true aB
 have jbad:∀{E N L wx},sQ w0 g w.heap.size mV (tN (p,sl)) (sR p) E N L wx->N<=60+p.cD.length*7->¬sR p->Q false wx:=λhx hN hn=>hQ _ _ _ _ _ _ _ hx hN λv=>absurd v hn;refine aE (k:=.i) p.kind (h3.cell rfl) ?_;refine aF (λhk=>?_) (λQD=>?_)
 ·have hk:p.kind=1:=by simpa using hk
  refine aE (k:=.i) p.pos (h3.cell rfl) (aE (k:=.i) p.JE (h3.cell rfl) ?_);refine h3.alloc [p.pos,p.JE] λw4 h4=>?_;refine h4.Cr (ns:=[p.pos,p.JE]) 2 dN rfl aB dN (λv x hx=>?_) λw5 h5=>GL h5 (by simp;omega) λv=>?_
  ·have h1:=v.pos;have h2:=v.JE;rw[if_pos (.inl hk)] at h1;rw[if_pos hk] at h2;simp at hx;rcases hx with rfl|rfl
   ·exact QK h1
   ·exact QK h2
  ·unfold kR;rw[if_pos hk];simp
 have QD:¬p.kind=1:=by simpa using QD
 intro J2 Qo;have j29:p.kind=2\/p.kind=9->J2 (true,()) w3:=by
  intro hk;apply Qo;refine aF (λ_=>aE (k:=.i) p.pos (h3.cell rfl) ?_) (λh=>by cases h);refine h3.alloc [p.pos] λw4 h4=>?_;refine h4.Cr (ns:=[p.pos]) 2 dN rfl aB dN (λv x hx=>?_) λw5 h5=>GL h5 (by simp;omega) λv=>?_
  ·have h1:=v.pos;rw[if_pos (.inr hk)] at h1;rw[oG.1 hx];exact QK h1
  ·unfold kR;rw[if_neg QD,if_pos hk];simp
 have jr:¬(p.kind=2\/p.kind=9)->J2 (false,()) w3:=by
  intro hk29;apply Qo;refine aF (λh=>by cases h) (λ_=>aF (λhk=>?_) (λVq=>aF (λhk=>?_) (λhk7=>?_)))
  ·have hk:p.kind=5:=by simpa using hk
   have La:=h3.dr;refine aE (k:=.i) p.kS (La.cell rfl) (aE (k:=.slice) sl (La.cell rfl) (aE (k:=.slice) sl (La.cell rfl) ?_));rw[sll];have r5:sR p->∀x∈[p.kS],0<=x/\x.toNat<256^5:=λv x hx=>by
    have h1:=v.kS;rw[if_pos hk] at h1;rw[oG.1 hx];exact Np h1
   have rl:sR p->∀x∈[(p.cD.length:Int)],0<=x/\x.toNat<256^2:=λv x hx=>by
    have h1:=v.cD;rw[if_pos hk] at h1;rw[oG.1 hx];exact⟨aB,aB⟩
   have re:sR p->∀x∈p.cD,0<=x/\x.toNat<256^2:=λv x hx=>by
    have h1:=v.cD;rw[if_pos hk] at h1;exact QK (h1.2 x hx)
   have hE:sR p->(((([]++[p.kind].flatMap λx=>be 1 x.toNat)++[p.kS].flatMap λx=>be 5 x.toNat)++[(p.cD.length:Int)].flatMap λx=>be 2 x.toNat)++p.cD.flatMap λx=>be 2 x.toNat)=kR p:=λv=>by
    unfold kR;rw[if_neg QD,if_neg hk29,if_pos hk];simp
   have al1:∀{E N L wx} {K:Addr->aH->Prop},sQ w0 g w.heap.size mV (tN (p,sl)) (sR p) E N L wx->(∀w',sQ w0 g w.heap.size mV (tN (p,sl)) (sR p) E N ((wx.heap.size,[p.kS])::L) w'->K ⟨wx.heap.size,0,none⟩ w')->aG wx #[aD p.kS] 3 K:=λhx hK=>hx.alloc [p.kS] hK;have al2:∀{E N L wx} {K:Addr->aH->Prop},sQ w0 g w.heap.size mV (tN (p,sl)) (sR p) E N L wx->(∀w',sQ w0 g w.heap.size mV (tN (p,sl)) (sR p) E N ((wx.heap.size,[(p.cD.length:Int)])::L) w'->K ⟨wx.heap.size,0,none⟩ w')->aG wx #[aD (p.cD.length:Int)] 3 K:=λhx hK=>hx.alloc [(p.cD.length:Int)] hK;have nm1:∀{E N L wx b} {K:cR->aH->Prop},sQ w0 g w.heap.size mV (tN (p,sl)) (sR p) E N L wx->(b,[p.kS])∈L->N<=1000->(∀w',sQ w0 g w.heap.size mV (tN (p,sl)) (sR p) (E++[p.kS].flatMap λx=>be 5 x.toNat) (N+1*7) L w'->K (some ⟨g,0,none⟩) w')->aT (some ⟨g,0,none⟩) (5:Int) ⟨some ⟨b,0,none⟩,1,1⟩ wx K:=λhx hm hN hK=>hx.Cr (ns:=[p.kS]) 5 hm rfl aB (by simp only[mE,RZ];omega) r5 hK;have nm2:∀{E N L wx b} {K:cR->aH->Prop},sQ w0 g w.heap.size mV (tN (p,sl)) (sR p) E N L wx->(b,[(p.cD.length:Int)])∈L->N<=1000->(∀w',sQ w0 g w.heap.size mV (tN (p,sl)) (sR p) (E++[(p.cD.length:Int)].flatMap λx=>be 2 x.toNat) (N+1*7) L w'->K (some ⟨g,0,none⟩) w')->aT (some ⟨g,0,none⟩) (2:Int) ⟨some ⟨b,0,none⟩,1,1⟩ wx K:=λhx hm hN hK=>hx.Cr (ns:=[(p.cD.length:Int)]) 2 hm rfl aB (by simp only[mE,RZ];omega) rl hK;have nm3:∀{E N L wx} {K:cR->aH->Prop},sQ w0 g w.heap.size mV (tN (p,sl)) (sR p) E N L wx->N<=1000->(∀w',sQ w0 g w.heap.size mV (tN (p,sl)) (sR p) (E++p.cD.flatMap λx=>be 2 x.toNat) (N+p.cD.length*7) L w'->K (some ⟨g,0,none⟩) w')->aT (some ⟨g,0,none⟩) (2:Int) sl wx K:=λhx hN hK=>hx.numsR 2 hr hb rfl aB aB re hK;have c3:∀{E N L wx},sQ w0 g w.heap.size mV (tN (p,sl)) (sR p) E N L wx->wx.cell? ((⟨w.heap.size,0,none⟩:Addr).add 3)=some (Value.slice sl.b sl.l sl.c):=λhx=>hx.cell rfl;have c4:∀{E N L wx},sQ w0 g w.heap.size mV (tN (p,sl)) (sR p) E N L wx->wx.cell? ((⟨w.heap.size,0,none⟩:Addr).add 4)=some (aD p.kS):=λhx=>hx.cell rfl;rw[sll] at c3;clear hQ h OG Qo j29
   repeat' first
    |exact GL (by assumption) (by simp only[mE,RZ];omega) hE
    |with_reducible refine⟨c3 (by assumption),?_⟩
    |with_reducible refine⟨c4 (by assumption),?_⟩
    |with_reducible refine⟨?_,?_⟩
    |(with_reducible refine al1 (by assumption) ?_;intro wq hq)
    |(with_reducible refine al2 (by assumption) ?_;intro wq hq)
    |(with_reducible refine nm1 (by assumption) dN dN ?_;intro wq hq)
    |(with_reducible refine nm2 (by assumption) dN dN ?_;intro wq hq)
    |(with_reducible refine nm3 (by assumption) dN ?_;intro wq hq)
  ·have hk:p.kind=7:=by simpa using hk
   have La:=h3.dr;refine aE (k:=.i) p.eR.cls (La.Av rfl) (aE (k:=.i) p.eR.jV (La.Av rfl) (aE (k:=.i) p.eR.oK (La.Av rfl) (aE (k:=.i) p.eR.left (La.Av rfl) ?_)));have hh:sR p->(0<=p.eR.cls/\p.eR.cls<256)/\u16 (p.eR.jV+1)/\u40 p.eR.oK/\u40 p.eR.left:=λv=>by have:=v.eR;rwa[if_pos hk] at this
   have r1:sR p->∀x∈[p.eR.cls],0<=x/\x.toNat<256^1:=λv x hx=>by rw[oG.1 hx];exact rng8 (hh v).1
   have r2:sR p->∀x∈[aQ (p.eR.jV+(1:Int))],0<=x/\x.toNat<256^2:=λv x hx=>by
    have h1:=(hh v).2.1;rw[oG.1 hx,gZ (by have:=h1.1;omega) (by have:=h1.2;omega)];exact QK h1
   have r5:sR p->∀x∈[p.eR.oK,p.eR.left],0<=x/\x.toNat<256^5:=λv x hx=>by
    have h1:=(hh v).2.2;simp at hx;rcases hx with rfl|rfl
    ·exact Np h1.1
    ·exact Np h1.2
   have hE:sR p->(((([]++[p.kind].flatMap λx=>be 1 x.toNat)++[p.eR.cls].flatMap λx=>be 1 x.toNat)++[aQ (p.eR.jV+(1:Int))].flatMap λx=>be 2 x.toNat)++[p.eR.oK,p.eR.left].flatMap λx=>be 5 x.toNat)=kR p:=λv=>by
    have h1:=(hh v).2.1;unfold kR;rw[if_neg QD,if_neg hk29,if_neg (by rw[hk];decide),if_pos hk,gZ (n:=p.eR.jV+1) (by have:=h1.1;omega) (by have:=h1.2;omega)];simp
   have al1:∀{E N L wx} {K:Addr->aH->Prop},sQ w0 g w.heap.size mV (tN (p,sl)) (sR p) E N L wx->(∀w',sQ w0 g w.heap.size mV (tN (p,sl)) (sR p) E N ((wx.heap.size,[p.eR.cls])::L) w'->K ⟨wx.heap.size,0,none⟩ w')->aG wx #[aD p.eR.cls] 3 K:=λhx hK=>hx.alloc [p.eR.cls] hK;have al2:∀{E N L wx} {K:Addr->aH->Prop},sQ w0 g w.heap.size mV (tN (p,sl)) (sR p) E N L wx->(∀w',sQ w0 g w.heap.size mV (tN (p,sl)) (sR p) E N ((wx.heap.size,[aQ (p.eR.jV+(1:Int))])::L) w'->K ⟨wx.heap.size,0,none⟩ w')->aG wx #[aD (aQ (p.eR.jV+(1:Int)))] 3 K:=λhx hK=>hx.alloc [aQ (p.eR.jV+(1:Int))] hK;have al3:∀{E N L wx} {K:Addr->aH->Prop},sQ w0 g w.heap.size mV (tN (p,sl)) (sR p) E N L wx->(∀w',sQ w0 g w.heap.size mV (tN (p,sl)) (sR p) E N ((wx.heap.size,[p.eR.oK,p.eR.left])::L) w'->K ⟨wx.heap.size,0,none⟩ w')->aG wx #[aD p.eR.oK,aD p.eR.left] 3 K:=λhx hK=>hx.alloc [p.eR.oK,p.eR.left] hK;have nm1:∀{E N L wx b} {K:cR->aH->Prop},sQ w0 g w.heap.size mV (tN (p,sl)) (sR p) E N L wx->(b,[p.eR.cls])∈L->N<=1000->(∀w',sQ w0 g w.heap.size mV (tN (p,sl)) (sR p) (E++[p.eR.cls].flatMap λx=>be 1 x.toNat) (N+1*7) L w'->K (some ⟨g,0,none⟩) w')->aT (some ⟨g,0,none⟩) (1:Int) ⟨some ⟨b,0,none⟩,1,1⟩ wx K:=λhx hm hN hK=>hx.Cr (ns:=[p.eR.cls]) 1 hm rfl aB (by simp only[mE,RZ];omega) r1 hK;have nm2:∀{E N L wx b} {K:cR->aH->Prop},sQ w0 g w.heap.size mV (tN (p,sl)) (sR p) E N L wx->(b,[aQ (p.eR.jV+(1:Int))])∈L->N<=1000->(∀w',sQ w0 g w.heap.size mV (tN (p,sl)) (sR p) (E++[aQ (p.eR.jV+(1:Int))].flatMap λx=>be 2 x.toNat) (N+1*7) L w'->K (some ⟨g,0,none⟩) w')->aT (some ⟨g,0,none⟩) (2:Int) ⟨some ⟨b,0,none⟩,1,1⟩ wx K:=λhx hm hN hK=>hx.Cr (ns:=[aQ (p.eR.jV+(1:Int))]) 2 hm rfl aB (by simp only[mE,RZ];omega) r2 hK;have nm3:∀{E N L wx b} {K:cR->aH->Prop},sQ w0 g w.heap.size mV (tN (p,sl)) (sR p) E N L wx->(b,[p.eR.oK,p.eR.left])∈L->N<=1000->(∀w',sQ w0 g w.heap.size mV (tN (p,sl)) (sR p) (E++[p.eR.oK,p.eR.left].flatMap λx=>be 5 x.toNat) (N+2*7) L w'->K (some ⟨g,0,none⟩) w')->aT (some ⟨g,0,none⟩) (5:Int) ⟨some ⟨b,0,none⟩,2,2⟩ wx K:=λhx hm hN hK=>hx.Cr (ns:=[p.eR.oK,p.eR.left]) 5 hm rfl aB (by simp only[mE,RZ];omega) r5 hK;have c0:∀{E N L wx},sQ w0 g w.heap.size mV (tN (p,sl)) (sR p) E N L wx->wx.cell? (((⟨w.heap.size,0,none⟩:Addr).add 5).add 0)=some (aD p.eR.cls):=λhx=>hx.Av rfl;have c1:∀{E N L wx},sQ w0 g w.heap.size mV (tN (p,sl)) (sR p) E N L wx->wx.cell? (((⟨w.heap.size,0,none⟩:Addr).add 5).add 1)=some (aD p.eR.jV):=λhx=>hx.Av rfl;have c2:∀{E N L wx},sQ w0 g w.heap.size mV (tN (p,sl)) (sR p) E N L wx->wx.cell? (((⟨w.heap.size,0,none⟩:Addr).add 5).add 2)=some (aD p.eR.oK):=λhx=>hx.Av rfl;have c3:∀{E N L wx},sQ w0 g w.heap.size mV (tN (p,sl)) (sR p) E N L wx->wx.cell? (((⟨w.heap.size,0,none⟩:Addr).add 5).add 3)=some (aD p.eR.left):=λhx=>hx.Av rfl;clear hQ h OG Qo j29
   repeat' first
    |exact GL (by assumption) (by simp only[mE,RZ];omega) hE
    |with_reducible refine⟨c3 (by assumption),?_⟩
    |with_reducible refine⟨c2 (by assumption),?_⟩
    |with_reducible refine⟨c1 (by assumption),?_⟩
    |with_reducible refine⟨c0 (by assumption),?_⟩
    |with_reducible refine⟨?_,?_⟩
    |(with_reducible refine al1 (by assumption) ?_;intro wq hq)
    |(with_reducible refine al2 (by assumption) ?_;intro wq hq)
    |(with_reducible refine al3 (by assumption) ?_;intro wq hq)
    |(with_reducible refine nm1 (by assumption) dN dN ?_;intro wq hq)
    |(with_reducible refine nm2 (by assumption) dN dN ?_;intro wq hq)
    |(with_reducible refine nm3 (by assumption) dN dN ?_;intro wq hq)
  ·have Vq:¬p.kind=5:=by simpa using Vq
   have hk7:¬p.kind=7:=by simpa using hk7
   have hE:sR p->([]++[p.kind].flatMap λx=>be 1 x.toNat)=kR p:=λv=>by
    unfold kR;rw[if_neg QD,if_neg hk29,if_neg Vq,if_neg hk7];simp
   have dQ:J1 () w3:=GL h3 (by simp;omega) hE;refine aF (λh=>aF (λ_=>dQ) (λh2=>by rw[h] at h2;cases h2)) (λh3'=>aF (λh=>aF (λ_=>dQ) (λh2=>by rw[h] at h2;cases h2)) (λh4=>aF (λh=>aF (λ_=>dQ) (λh2=>by rw[h] at h2;cases h2)) (λh6=>aF (λ_=>dQ) (λh8=>?_))));refine jbad h3 (by simp;omega) λv=>?_;have:=v.kind;simp at h3' h4 h6 h8;omega
 refine aF (λhk=>?_) (λhk=>?_)
 ·rw[hk];exact j29 (.inl (by simpa using hk))
 ·have GC:¬p.kind=2:=by simpa using hk
  by_cases hk9:p.kind=9
  ·rw[show(p.kind==(9:Int))=true by simpa using hk9];exact j29 (.inr hk9)
  ·rw[show(p.kind==(9:Int))=false by simpa using hk9];exact jr λh=>h.elim GC hk9
theorem Enc_i{w:aH}{p:gV}{sl:Sl}{Q:Sl->Int->aH->Prop}(hr:Rd w sl 1 eI p.cD)(hb:∀b,sl.b=some b->b.block<w.heap.size)(hl:p.cD.length<=70000)
  (hQ:∀r out e w',aL w w'->DQ 1 eU r out w' (sU r)->(∀b,r.b=some b->w.heap.size<=b.block)->out.length<=60+p.cD.length*7->(sR p->out=kR p/\e=0)->Q r e w'):lP (GJ (p,sl)) w Q:=by
 unfold lP;refine cO (cs:=tN (p,sl)) λw1 b1 k1 z1=>?_;refine newW k1 λw2 n2 k2=>?_;have o2:=b1.1.aK k2 id;refine aX (l:=fi) (GJ (p,sl)) (o2.holds λj v hj=>by rw[gI];exact hj) ?_;refine writes_i (w0:=w) n2 hr hb hl λc w3 m mc E N L h3 hN hv=>?_;refine aF (λhc=>?_) (λhc=>?_)
 ·refine hQ _ [] _ w3 h3.aO JN (λb hb=>by cases hb) (dE _) λv=>?_;have Dz:c=false:=by simpa using hc
  rw[(hv v).2] at Dz;cases Dz
 ·exact h3.bytes aB λr out er w4 h4 rd fr ln hv2=>hQ r out er w4 h4.aO rd fr aB λv=>⟨(hv2 v).1.trans (hv v).1,(hv2 v).2⟩
end
open Tryz (prog)
section
abbrev GX:=fG×Sl
abbrev eG(x:GX):List Value:=[aD x.1.aM,aD x.1.kind,aD x.1.seq,aD x.1.KO,aD x.1.code,sv x.2]
abbrev kG:List CK:=[.i,.i,.i,.i,.i,.slice]
abbrev JC(x:GX):Int×Int×Int×Int×Int×Sl×Unit:=(x.1.aM,x.1.kind,x.1.seq,x.1.KO,x.1.code,x.2,())
theorem Vx:∀x:GX,(eG x).length=6:=λ_=>rfl
theorem Lq:∀x:GX,∀u∈eG x,u.oneCell'=true:=by intro x u hu;simp at hu;rcases hu with rfl|rfl|rfl|rfl|rfl|rfl<;>rfl
theorem Au(x:GX):eG x≠[]:=by simp
theorem pq{w:aH}{p:fG}{sl:Sl}{Q:Sl->Int->aH->Prop}(hr:Rd w sl 1 eU p.body)(hl:p.body.length<=80000)
  (hQ:∀r out e w',aL w w'->DQ 1 eU r out w' (sU r)->(∀b,r.b=some b->w.heap.size<=b.block)->out.length<=3000->(Vi p->out=KR p/\e=0)->Q r e w'):pZ (JC (p,sl)) w Q:=by
 unfold pZ;refine cO (cs:=eG (p,sl)) λw1 b1 k1 z1=>?_;refine sQ.new (V:=Vi p) k1 b1.1 λw2 h2=>?_;refine aE (k:=.i) p.aM (h2.cell rfl) ?_;refine h2.alloc [p.aM] λw3 h3=>?_;refine h3.Cr (ns:=[p.aM]) 4 dN rfl aB dN (λv x hx=>by rw[oG.1 hx];exact Aq v.aM) λw4 h4=>?_;intro J1 OG;have VB:∀e w',aL w w'->¬Vi p->Q aZ e w':=λe w' k hn=>hQ _ [] e w' k JN (λb hb=>by cases hb) (dE _) λv=>absurd v hn;have GL:∀{E N L wx},sQ w w1.heap.size w.heap.size GR (eG (p,sl)) (Vi p) E N L wx->N<=100000->(Vi p->E=nC p)->J1 () wx:=by
  intro E N L wx hx hN hE;apply OG;refine hx.bytes aB λr out er w5 h5 Vl f5 ln5 hv5=>?_;refine aF (λhe=>VB _ w5 h5.aO λv=>?_) (λhe=>?_)
  ·rw[(hv5 v).2] at he;simp at he
  ·refine aE (k:=.i) p.kind (h5.cell rfl) ?_;refine Wrap_i Vl.1 aB λr6 out6 e6 w6 k6 rd6 f6 l6 v6=>?_;refine hQ r6 out6 e6 w6 (h5.aO.tr k6) rd6 (λb hb=>by have:=f6 b hb;have:=h5.aO.size;omega) l6 λv=>?_;have e1:=(hv5 v).1;rw[hE v] at e1;have lb:(nC p).length<=2000:=by
    have hb:=v.body;unfold nC;rcases v.kind with hk|hk|hk
    ·rw[if_pos hk] at hb ⊢;simp only[fJ,pH];omega
    ·rw[if_neg aB,if_pos hk];simp only[fJ,pH];omega
    ·rw[if_neg aB,if_neg aB];simp only[fJ,pH];omega
   have hk:=v.kind;have:=v6 aB aB (by rw[e1];exact lb);rw[this.1,this.2,e1];exact⟨rfl,rfl⟩
 refine aE (k:=.i) p.kind (h4.cell rfl) ?_;refine aF (λhk=>?_) (λQD=>aF (λhk=>?_) (λGC=>aF (λhk=>?_) (λue=>VB _ w4 h4.aO λv=>?_)))
 ·have hk:p.kind=1:=by simpa using hk
  have h4d:=h4.dr;refine aE (k:=.i) p.seq (h4d.cell rfl) (aE (k:=.i) p.KO (h4d.cell rfl) (aE (k:=.slice) sl (h4d.cell rfl) ?_));refine h4d.alloc [p.seq,p.KO] λw5 h5=>⟨h5.cell rfl,?_⟩;refine h5.Cr (ns:=[p.seq,p.KO]) 4 dN rfl aB dN (λv x hx=>?_) λw6 h6=>⟨h6.cell rfl,?_⟩
  ·have h1:=v.seq;have h2:=v.KO;rw[if_pos hk] at h1;rw[if_neg aB] at h2;simp at hx;rcases hx with rfl|rfl
   ·exact Aq h1
   ·exact Aq h2
  refine h6.Vm hr (by simp;omega) λw7 h7=>GL h7 (by simp;omega) λv=>?_;unfold nC;rw[if_pos hk];simp
 ·have hk:p.kind=2:=by simpa using hk
  refine aE (k:=.i) p.KO (h4.cell rfl) ?_;refine h4.alloc [p.KO] λw5 h5=>?_;refine h5.Cr (ns:=[p.KO]) 4 dN rfl aB dN (λv x hx=>?_) λw6 h6=>GL h6 dN λv=>?_
  ·have h2:=v.KO;rw[if_neg aB] at h2;rw[oG.1 hx];exact Aq h2
  ·unfold nC;rw[if_neg aB,if_pos hk];simp
 ·have hk:p.kind=3:=by simpa using hk
  refine aE (k:=.i) p.code (h4.cell rfl) ?_;refine h4.alloc [p.code] λw5 h5=>?_;refine h5.Cr (ns:=[p.code]) 1 dN rfl aB dN (λv x hx=>?_) λw6 h6=>GL h6 dN λv=>?_
  ·have h2:=v.code;rw[if_pos hk] at h2;rw[oG.1 hx];exact rng8 h2
  ·unfold nC;rw[if_neg aB,if_neg aB];simp
 ·have:=v.kind;simp at QD GC ue;omega
theorem Nu.foc{w0 w:aH}{A B:As}{R:As->As}(h:Nu w0 A w)(f:∀S,A w S->ig w S B R):∃S1,B w S1/\∀B' w' DC,Up S1 DC w w'->B' w' DC->Nu w0 (R B') w':=by
 obtain⟨⟨S,a,s⟩,m⟩:=h;obtain⟨S1,b,hs,eO⟩:=(f S a).put;refine⟨S1,b,λB' w' DC u hb=>?_⟩;obtain⟨S',a',u'⟩:=eO B' w' DC u hb;exact Nu.up m s u' a'
theorem Nu.add{w0 w w':aH}{A B:As}[bG A](h:Nu w0 A w){T:BS}(k:aL w w')(hB:B w' T)(hT:∀k,T k->w.heap.size<=k):Nu w0 (bJ A B) w':=by
 obtain⟨⟨S,a,s⟩,m⟩:=h;have z:=m.size;refine⟨⟨_,bJ.xR (bG.kp a k) hB λk hk ht=>?_,λk hk=>hk.elim (s k) λht=>?_⟩,m.trans k λ_ _ h=>h.elim⟩
 ·have:=bG.gX a k hk;have:=hT k ht;omega
 ·have:=hT k ht;omega
section
variable{w0 w:aH}{g a:Nat}{l:List cG}{sp:Bool}{e:TypeId}{mc:List Value}{X Y:As}
theorem PS[bG Y]{sz:Nat}{z:Int}{Q:Int->aH->Prop}(h:Nu w0 (bJ (uD g l sp) Y) w)(hz:z=(sz:Int))(hs:1<=sz/\sz<=7)(hl:l.length<=100000)
  (hQ:∀(x:Nat) l' vC w',Nu w0 (bJ (uD g l' vC) Y) w'->l'.length<=l.length->x<256^sz->(∀v t,sp=false->l=be sz v++t->v<256^sz->x=v/\l'=t/\vC=false)->Q (x:Int) w'):gA (some ⟨g,0,none⟩) z w Q:=by
 obtain⟨S1,b,eO⟩:=h.foc λS h=>bJ.l h;subst hz;exact Sq b hs hl λx l' vC w' S' a' DB u' h1 h2 h3=>hQ x l' vC w' (eO _ w' S' u' a') h1 h2 h3
theorem FH[bG X][bG Y]{t:TypeId}{o:Nat}{v:Value}{K:aH->Prop}(h:Nu w0 (bJ X (bJ (uL a e mc) Y)) w)(hi:(prog.info? t).map (·.size)=some 1)(ho:o<mc.length)(hc:v.cells=#[v])(h1:v.oneCell'=true)
  (hK:∀w',Nu w0 (bJ X (bJ (uL a e (mc.set o v)) Y)) w'->K w'):aI prog t ((⟨a,0,none⟩:Addr).add o) v w K:=by
 obtain⟨S1,b,eO⟩:=h.foc λS h=>(bJ.r h).c λT hT=>bJ.l hT;exact qY b hi ho hc h1 λw' b' u'=>hK w' (eO _ w' _ u' b')
theorem vw[bG X][bG Y](h:Nu w0 (bJ X (bJ (uL a e mc) Y)) w){k:Nat}{v:Value}(hk:mc[k]? =some v):w.cell? ((⟨a,0,none⟩:Addr).add k)=some v:=by
 obtain⟨S1,b,_⟩:=h.foc λS h=>(bJ.r h).c λT hT=>bJ.l hT;exact aP b hk
theorem rOwn[bG X][bG Y](h:Nu w0 (bJ X (bJ (uL a e mc) Y)) w):cU w a e mc:=by
 obtain⟨S1,b,_⟩:=h.foc λS h=>(bJ.r h).c λT hT=>bJ.l hT;exact b.1
end
theorem Nu.map{w0 w:aH}{A B:As}(h:Nu w0 A w)(f:∀S,A w S->B w S):Nu w0 B w:=by
 obtain⟨⟨S,a,s⟩,m⟩:=h;exact⟨⟨S,f S a,s⟩,m⟩
theorem bJ.emp_l{A:As}{w:aH}{S:BS}(h:bJ DR A w S):A w S:=by
 obtain⟨S1,S2,h1,h2,d,e⟩:=h;have:S=S2:=funext λk=>propext ((e k).trans ⟨λh=>h.elim (λh=>absurd h (h1 k)) id,.inr⟩);rw[this];exact h2
theorem nu{w:aH}{S:BS}(h:DR w S):DQ 1 eU aZ [] w S:=⟨Rd.nil _ _ _,fQ,λb hb=>(by cases hb),λk=>⟨λhk=>absurd hk (h k),λ⟨b,hb,_⟩=>by cases hb⟩⟩
structure GDec(bs:List cG)(g:fG)(e:Int):Prop where
 seq:u32 g.seq
 KO:u32 g.KO
 len:g.body.length<=bs.length
 ok:∀g0,Vi g0->bs=KR g0->g=g0/\e=0
 nf:∀x r,bs=x::r->x≠BitVec.ofNat 8 77->¬e=0
theorem pr{b:Sl}{bs:List cG}{w:aH}{Q:Int×Int×Int×Int×Int×Sl×Unit->Int->aH->Prop}(hb:Rd w b 1 eU bs)(hl:bs.length<=5000)
  (hQ:∀g sl e w',aL w w'->DQ 1 eU sl g.body w' (sU sl)->(∀b,sl.b=some b->w.heap.size<=b.block)->GDec bs g e->Q (JC (g,sl)) e w'):tI b w Q:=by
 unfold tI
 let z0:GX:=(⟨0,0,0,0,0,[]⟩,aZ)
 refine cO (cs:=eG z0) λw1 b1 k1 z1=>?_;have VB:∀e wx,¬e=0->aL w wx->cU wx w.heap.size GR (eG z0)->(∀g0,Vi g0->bs=KR g0->False)->aI prog GR ⟨w.heap.size,0,none⟩ (Value.agg (eG z0).toArray) wx λw3=>eV kG w3 ⟨w.heap.size,0,none⟩ λt1=>Q (t1.1,t1.2.1,t1.2.2.1,t1.2.2.2.1,t1.2.2.2.2.1,t1.2.2.2.2.2.1,()) e w3:=by intro e wx gK kx ox hx;refine eY ox rV rfl (Lq _) λw3 o3 m3 _=>?_;refine aX (l:=kG) (JC z0) (o3.holds λj v hj=>by rw[gI];exact hj) ?_;exact hQ z0.1 z0.2 e w3 (kx.fresh m3 λk e=>by rw[show k=w.heap.size from e];exact dL _) JN (λb hb=>by cases hb) ⟨⟨by decide,by decide⟩,⟨by decide,by decide⟩,dE _,λg0 h1 h2=>(hx g0 h1 h2).elim,λ_ _ _ _=>gK⟩
 refine Unwrap_i (hb.aK k1 fQ λ_ _=>id) aB λkind s1 e1 body w2 k2 Nd f2 l2 v2 nf2=>?_;have o2:=b1.1.aK k2 id;have K2:=k1.tr k2;have GN:∀g0,Vi g0->bs=KR g0->kind=g0.kind/\body=nC g0/\e1=0:=λg0 h1 h2=>by
  have hk:=h1.kind;refine v2 g0.kind (nC g0) aB aB ?_ h2;have hb:=h1.body;unfold nC;rcases hk with hk|hk|hk
  ·rw[if_pos hk] at hb ⊢;simp only[fJ,pH];omega
  ·rw[if_neg aB,if_pos hk];simp only[fJ,pH];omega
  ·rw[if_neg aB,if_neg aB];simp only[fJ,pH];omega
 refine aF (λhe=>VB e1 w2 (by simpa using he) K2 o2 λg0 h1 h2=>?_) (λhe1=>?_)
 ·rw[(GN g0 h1 h2).2.2] at he;simp at he
 refine ot Nd.1 aB λg w3 S3 a3 k3 s3=>?_;have n3:Nu w2 (bJ (uD g body false) DR) w3:=Nu.of (bJ.emp a3) s3 k3;refine PS n3 (sz:=4) rfl aB aB λx4 l4 sp4 w4 n4 c4 b4 v4=>?_;refine cO (cs:=eG z0) λw5 b5 k5 z5=>?_;have n5:Nu w2 (bJ (uD g l4 sp4) (bJ (uL w4.heap.size GR (eG z0)) DR)) w5:=by obtain⟨⟨S,a,s⟩,m⟩:=n4;obtain⟨S',a',u'⟩:=a.drop;exact Nu.add (⟨⟨S',a',λk hk=>(u'.s k hk).elim (s k) λh=>iR m.size h⟩,m⟩:Nu w2 (uD g l4 sp4) w4) k5 (bJ.emp b5) λk hk=>aB
 let g1 (x:Nat) (sq ak cd:Int) (sl:Sl):List Value:=[aD (x:Int),aD kind,aD sq,aD ak,aD cd,sv sl]
 obtain⟨S6,bb6,MF⟩:=n5.foc λS h=>(bJ.r h).c λT hT=>bJ.l hT;refine eY (vs:=g1 x4 0 0 0 aZ) bb6.1 rV rfl (by simp[g1,Value.oneCell']) λw6 o6 m6 _=>?_;have n6:Nu w2 (bJ (uD g l4 sp4) (bJ (uL w4.heap.size GR (g1 x4 0 0 0 aZ)) DR)) w6:=MF _ w6 _ (bb6.up o6 m6).2 (bb6.up o6 m6).1;intro J1 OG;have GL:∀(sq ak:Nat) (cd:Int) (sl:Sl) (bd l':List cG) (vC:Bool) wx,sq<256^4->ak<256^4->bd.length<=bs.length->Nu w2 (bJ (uD g l' vC) (bJ (uL w4.heap.size GR (g1 x4 sq ak cd sl)) (DQ 1 eU sl bd))) wx->(∀b,sl.b=some b->w.heap.size<b.block)->
   (∀g0,Vi g0->bs=KR g0->(⟨(x4:Int),kind,sq,ak,cd,bd⟩:fG)=g0)->J1 () wx:=by
  intro sq ak cd sl bd l' vC wx hsq hak FW nx fx hx;apply OG
  let p:fG:=⟨(x4:Int),kind,sq,ak,cd,bd⟩
  have ox:=rOwn nx;refine aX (l:=kG) (JC (p,sl)) (ox.holds λj v hj=>by rw[gI];exact hj) ?_;have rdx:∃T,DQ 1 eU sl bd wx T:=by obtain⟨T,b,_⟩:=nx.foc λS h=>(bJ.r h).c λT hT=>bJ.r hT;exact⟨T,b⟩
  obtain⟨T,rdx⟩:=rdx;have Kx:=K2.tr nx.aO;refine pq (p:=p) (sl:=sl) rdx.1 (by show bd.length<=_;omega) λr7 out7 e7 w7 k7 rd7 f7 l7 v7=>?_;have o17:cU w7 w.heap.size GR (eG z0):=(o2.aK nx.aO id).aK k7 id;have K7:=Kx.tr k7;have Ro:∀g0,Vi g0->bs=KR g0->out7=bs/\e7=0:=λg0 h1 h2=>by
   have e:p=g0:=hx g0 h1 h2;have:=v7 (by rw[e];exact h1);rw[this.1,e,h2];exact⟨rfl,this.2⟩
  refine aF (λhe=>VB _ w7 (by decide) K7 o17 λg0 h1 h2=>?_) (λhe=>?_)
  ·rw[(Ro g0 h1 h2).2] at he;simp at he
  refine zq rd7.1 (hb.aK K7 fQ λ_ _=>id) λc hc=>?_;refine aF (λPO=>VB _ w7 (by decide) K7 o17 λg0 h1 h2=>?_) (λPO=>?_)
  ·rw[hc (Ro g0 h1 h2).1] at PO;cases PO
  have ox7:=ox.aK k7 id;refine aX (l:=kG) (JC (p,sl)) (ox7.holds λj v hj=>by rw[gI];exact hj) ?_;refine eY (vs:=eG (p,sl)) o17 rV rfl (Lq _) λw8 o8 m8 _=>?_;refine aX (l:=kG) (JC (p,sl)) (o8.holds λj v hj=>by rw[gI];exact hj) ?_;have rd8:=bG.kp rdx k7;refine hQ p sl 0 w8 (K7.fresh m8 λk e=>by rw[show k=w.heap.size from e];exact dL _) ⟨rd8.1.aK m8 fQ λb hb e=>?_,fQ,λb hb=>by have:=rd8.2.2.1 b hb;have:=m8.size;omega,λ_=>Iff.rfl⟩ (λb hb=>Nat.le_of_lt (fx b hb)) ⟨⟨by show(0:Int)<=sq;omega,by show(sq:Int)<_;omega⟩,⟨by show(0:Int)<=ak;omega,by show(ak:Int)<_;omega⟩,FW,λg0 h1 h2=>⟨hx g0 h1 h2,rfl⟩,λx r hb hx=>(nf2 x r hb hx (by simpa using he1)).elim⟩;have:=fx b hb;omega
 have fj:∀g0,Vi g0->bs=KR g0->∀t,nC g0=be 4 g0.aM.toNat++t->x4=g0.aM.toNat/\l4=t/\sp4=false:=λg0 h1 h2 t ht=>by
  obtain⟨_,e2,_⟩:=GN g0 h1 h2;exact v4 _ t rfl (by rw[e2,ht]) (Aq h1.aM).2
 have le4:256^4=4294967296:=rfl;refine aF (λhk=>?_) (λQD=>aF (λhk=>?_) (λGC=>aF (λhk=>?_) (λue=>?_)))
 ·have hk:kind=1:=by simpa using hk
  refine PS n6 (sz:=4) rfl aB aB λx7 l7 sp7 w7 n7 c7 b7 v7=>?_;refine PS n7 (sz:=4) rfl aB aB λx8 l8 sp8 w8 n8 c8 b8 v8=>?_;refine FH n8 cZ (by simp[g1]) rfl rfl λw9 n9=>?_;refine FH n9 cZ (by simp[g1]) rfl rfl λeZ n10=>?_;obtain⟨An,sP,back10⟩:=n10.foc λS h=>bJ.l h;refine zo sP λxQ e11 b11=>?_;refine ou sP aB λr12 out12 l12 sp12 eE YP IT hs12 Ff rd12 f12 c12 d12 Ku Ce=>?_;have z10:=n10.size;have n12:Nu w2 (bJ (uD g l12 sp12) (bJ (uL w4.heap.size GR (g1 x4 x7 x8 0 aZ)) (DQ 1 eU r12 out12))) eE:=by have:=back10 (bJ (uD g l12 sp12) (DQ 1 eU r12 out12)) eE _ ⟨Ff.m,λk hk=>hk.elim (λh=>.inl (hs12 k h)) λ⟨b,hb,e⟩=>.inr (by rw[e];exact f12 b hb)⟩ (bJ.xR IT rd12 λk hk ⟨b,hb,e⟩=>by have:=bG.gX sP k (hs12 k hk);have:=f12 b hb;omega);exact this.map λS h=>h.asr.mono (λ_ h=>h) λ_ h=>h.cm.asr.mono (λ_ h=>h) λ_ h=>bJ.emp_l h
  obtain⟨S12',bb12,TN⟩:=n12.foc λS h=>(bJ.r h).c λT hT=>bJ.l hT;refine qY (v:=sv r12) bb12 TQ (by simp[g1]) rfl rfl λgT b13 u13=>?_;have n13:=TN _ gT _ u13 b13;refine GL x7 x8 0 r12 out12 l12 sp12 gT b7 b8 aB n13 (λb hb=>by have:=f12 b hb;have:=k2.size;omega) λg0 h1 h2=>?_;obtain⟨e0,e2,_⟩:=GN g0 h1 h2;have hgk:g0.kind=1:=aB;have hs:=h1.seq;have ha:=h1.KO;have hc:=h1.code;have Fm:=h1.aM;rw[if_pos hgk] at hs;rw[if_neg aB] at ha;rw[if_neg aB] at hc;obtain⟨q1,rfl,rfl⟩:=fj g0 h1 h2 (be 4 g0.seq.toNat++(be 4 g0.KO.toNat++g0.body)) (by unfold nC;rw[if_pos hgk];simp);obtain⟨q2,rfl,rfl⟩:=v7 _ _ rfl rfl (Aq hs).2;obtain⟨q3,rfl,rfl⟩:=v8 _ _ rfl rfl (Aq ha).2;obtain⟨q4,_,_⟩:=Ce g0.body [] rfl dN (by rw[e11 rfl]);obtain⟨c,k,sq,ak,cd,bd⟩:=g0;simp only[fG.mk.injEq];have h01:=hs.1;have h02:=ha.1;have h03:=Fm.1;simp only at*;exact⟨aB,aB,aB,aB,aB,q4⟩
 ·have hk:kind=2:=by simpa using hk
  refine PS n6 (sz:=4) rfl aB aB λx7 l7 sp7 w7 n7 c7 b7 v7=>?_;refine FH n7 cZ (by simp[g1]) rfl rfl λw8 n8=>?_;refine GL 0 x7 0 aZ [] l7 sp7 w8 aB b7 (dE _) (n8.map λS h=>h.mono (λ_ h=>h) λ_ h=>h.mono (λ_ h=>h) λ_ h=>nu h) (λb hb=>by cases hb) λg0 h1 h2=>?_;obtain⟨e0,e2,_⟩:=GN g0 h1 h2;have hgk:g0.kind=2:=aB;have hs:=h1.seq;have ha:=h1.KO;have hc:=h1.code;have hb:=h1.body;have Fm:=h1.aM;rw[if_neg aB] at hs hc ha hb;obtain⟨q1,rfl,rfl⟩:=fj g0 h1 h2 (be 4 g0.KO.toNat) (by unfold nC;rw[if_neg aB,if_pos hgk]);obtain⟨q2,_,_⟩:=v7 _ [] rfl dN (Aq ha).2;obtain⟨c,k,sq,ak,cd,bd⟩:=g0;simp only[fG.mk.injEq];have h02:=ha.1;have h03:=Fm.1;simp only at*;exact⟨aB,aB,aB,aB,aB,hb.symm⟩
 ·have hk:kind=3:=by simpa using hk
  refine PS n6 (sz:=1) rfl aB aB λx7 l7 sp7 w7 n7 c7 b7 v7=>?_;refine FH n7 cZ (by simp[g1]) rfl rfl λw8 n8=>?_;refine GL 0 0 x7 aZ [] l7 sp7 w8 aB aB (dE _) (n8.map λS h=>h.mono (λ_ h=>h) λ_ h=>h.mono (λ_ h=>h) λ_ h=>nu h) (λb hb=>by cases hb) λg0 h1 h2=>?_;obtain⟨e0,e2,_⟩:=GN g0 h1 h2;have hgk:g0.kind=3:=aB;have hs:=h1.seq;have ha:=h1.KO;have hc:=h1.code;have hb:=h1.body;have Fm:=h1.aM;rw[if_neg aB] at hs hb;rw[if_pos hgk] at ha hc;obtain⟨q1,rfl,rfl⟩:=fj g0 h1 h2 (be 1 g0.code.toNat) (by unfold nC;rw[if_neg aB,if_neg aB]);obtain⟨q2,_,_⟩:=v7 _ [] rfl dN (rng8 hc).2;obtain⟨c,k,sq,ak,cd,bd⟩:=g0;simp only[fG.mk.injEq];have h02:=hc.1;have h03:=Fm.1;simp only at*;exact⟨aB,aB,aB,aB,aB,hb.symm⟩
 ·have hk1':¬kind=1:=by simpa using QD
  have hk2':¬kind=2:=by simpa using GC
  have hk3':¬kind=3:=by simpa using ue
  refine GL 0 0 0 aZ [] l4 sp4 w6 aB aB (dE _) (n6.map λS h=>h.mono (λ_ h=>h) λ_ h=>h.mono (λ_ h=>h) λ_ h=>nu h) (λb hb=>by cases hb) λg0 h1 h2=>?_;obtain⟨e0,_,_⟩:=GN g0 h1 h2;have:=h1.kind;omega
end
theorem WO{α:Type}{t e:TypeId}{n bytes:Nat}{z:List Value}(hE:sY prog t e n bytes z){aY:α->List Value}(gE:∀x,(aY x).length=n)(jB:∀x,∀u∈aY x,u.oneCell'=true)
  {w:aH} {S:BS} {s x:Sl} {xs ys:List α} (h:rS e n aY s xs w S) (hx:Rd w x n aY ys) (hl:xs.length+ys.length<=1000000) (hb:bytes<=1000) {K:Sl->aH->Prop}
  (hK:∀r w' S',rS e n aY r (xs++ys) w' S'->Up S S' w w'->K r w'):aW prog t t s (.slice x.b x.l x.c) w K:=by
 have hm:(xs.length+ys.length)*bytes<=1000000*1000:=RX hl hb;refine fH hE gE jB h.1 hx aB aB λr w' v m hr hn=>hK r w' _ ⟨v,λ_=>Iff.rfl⟩ ⟨m.mono λk _ hk=>(h.2 k).2 hk,λk hk=>?_⟩;obtain⟨b,hb,rfl⟩:=hk;rcases hr with h2|⟨a,h1,h2⟩
 ·exact .inl ((h.2 _).2 ⟨b,h2.symm.trans hb,rfl⟩)
 ·rw[hb] at h1;cases h1;exact .inr h2
structure MDec(bs:List cG)(m:gV)(e:Int):Prop where
 len:m.cD.length<=70000
 ok:∀m0,sR m0->bs=kR m0->m=m0/\e=0
theorem Ox(l:List Int):(l.flatMap λe=>be 2 e.toNat).length=l.length*2:=by
 induction l with
 |nil=>rfl
 |cons a l ih=>rw[FE,fJ,ih,pH,mE];omega
set_option maxHeartbeats 1000000 in
theorem po{b:Sl}{bs:List cG}{w:aH}{Q:MT->Int->aH->Prop}(hb:Rd w b 1 eU bs)(hl:bs.length<=5000)
  (hQ:∀m sl e w',aL w w'->DQ 1 eI sl m.cD w' (sU sl)->(∀b,sl.b=some b->w.heap.size<=b.block)->MDec bs m e->Q (GJ (m,sl)) e w'):lQ b w Q:=by
 unfold lQ
 let z0:MX:=(⟨0,0,0,[],0,⟨0,0,0,0⟩⟩,aZ)
 refine cO (cs:=tN z0) λw1 b1 k1 z1=>?_;have VB:∀mc wx,aL w wx->cU wx w.heap.size mV mc->mc.length=9->(∀m0,sR m0->bs=kR m0->False)->aI prog mV ⟨w.heap.size,0,none⟩ (Value.agg (tN z0).toArray) wx λw3=>eV fi w3 ⟨w.heap.size,0,none⟩ λt1=>Q (t1.1,t1.2.1,t1.2.2.1,t1.2.2.2.1,t1.2.2.2.2.1,t1.2.2.2.2.2.1,t1.2.2.2.2.2.2.1,t1.2.2.2.2.2.2.2.1,t1.2.2.2.2.2.2.2.2.1,()) 2 w3:=by intro mc wx kx ox gD hx;refine eY ox CI gD (QM _) λw3 o3 m3 _=>?_;refine aX (l:=fi) (GJ z0) (o3.holds λj v hj=>by rw[gI];exact hj) ?_;exact hQ z0.1 z0.2 2 w3 (kx.fresh m3 λk e=>by rw[show k=w.heap.size from e];exact dL _) ⟨Rd.nil _ _ _,cI,λb hb=>(by cases hb),λ_=>Iff.rfl⟩ (λb hb=>by cases hb) ⟨dE _,λm0 h1 h2=>(hx m0 h1 h2).elim⟩
 refine ot (hb.aK k1 fQ λ_ _=>id) aB λg w2 S2 a2 k2 s2=>?_;have n2:Nu w (bJ (uD g bs false) (bJ (uL w.heap.size mV (tN z0)) DR)) w2:=by have n1:Nu w (uL w.heap.size mV (tN z0)) w1:=Nu.of b1 (λk hk=>aB) k1;exact(n1.add k2 a2 s2).map λS h=>h.cm.mono (λ_ h=>h) λ_ h=>bJ.emp h
 refine PS n2 (sz:=1) rfl aB aB λx3 l3 sp3 w3 n3 c3 b3 v3=>?_;refine FH n3 cZ (by simp[z0]) rfl rfl λw4 n4=>?_;intro J1 OG;have vecN:∀{wx:aH} {S:BS},DR wx S->rS dG 1 eI aZ ([]:List Int) wx S:=λ{wx S} h=>⟨dD.nil _ _ _ _,λk=>⟨λhk=>absurd hk (h k),λ⟨b,hb,_⟩=>by cases hb⟩⟩;have GL:∀(m:gV) (sl:Sl) l' vC wx,Nu w (bJ (uD g l' vC) (bJ (uL w.heap.size mV (tN (m,sl))) (rS dG 1 eI sl m.cD))) wx->m.cD.length<=70000->(∀m0,sR m0->bs=kR m0->m=m0)->J1 () wx:=by
  intro m sl l' vC wx nx fu hx;apply OG;have ox:=rOwn nx;refine aX (l:=fi) (GJ (m,sl)) (ox.holds λj v hj=>by rw[gI];exact hj) ?_;obtain⟨⟨S,⟨S1,S2,hr1,⟨S3,S4,jl,hv4,d34,Vs⟩,d12,e12⟩,hS⟩,mx⟩:=nx;have fx:∀b,sl.b=some b->w.heap.size<=b.block/\b.block≠w.heap.size/\b.block<wx.heap.size:=λb hb=>by
   have h4:S4 b.block:=(hv4.2 _).2 ⟨b,hb,rfl⟩;exact⟨hS _ ((e12 _).2 (.inr ((Vs _).2 (.inr h4)))),λe=>d34 _ ((jl.2 _).2 e) h4,bG.gX hv4 _ h4⟩
  have Kx:aL w wx:=(aU.refl (λ_=>False) w).fresh mx λ_=>id;have rdx:=hv4.1.rd eX;refine Enc_i rdx (λb hb=>(fx b hb).2.2) fu λr7 out7 e7 w7 k7 rd7 f7 l7 v7=>?_;have K7:=Kx.tr k7;have o7:=ox.aK k7 id;have Ro:∀m0,sR m0->bs=kR m0->out7=bs/\e7=0:=λm0 h1 h2=>by
   have e:m=m0:=hx m0 h1 h2;have:=v7 (by rw[e];exact h1);rw[this.1,e,h2];exact⟨rfl,this.2⟩
  refine aF (λhe=>VB _ w7 K7 o7 rfl λm0 h1 h2=>?_) (λhe=>?_)
  ·rw[(Ro m0 h1 h2).2] at he;simp at he
  refine zq rd7.1 (hb.aK K7 fQ λ_ _=>id) λc hc=>?_;refine aF (λPO=>VB _ w7 K7 o7 rfl λm0 h1 h2=>?_) (λPO=>?_)
  ·rw[hc (Ro m0 h1 h2).1] at PO;cases PO
  refine aX (l:=fi) (GJ (m,sl)) (o7.holds λj v hj=>by rw[gI];exact hj) ?_;refine eY (vs:=tN (m,sl)) o7 CI rfl (QM _) λw8 o8 m8 z8=>?_;refine aX (l:=fi) (GJ (m,sl)) (o8.holds λj v hj=>by rw[gI];exact hj) ?_;refine hQ m sl 0 w8 (K7.fresh m8 λk e=>by rw[show k=w.heap.size from e];exact dL _) ⟨(rdx.aK k7 cI λ_ _=>id).aK m8 cI λb hb e=>(fx b hb).2.1 e,cI,λb hb=>by have:=(fx b hb).2.2;have:=k7.size;omega,λ_=>Iff.rfl⟩ (λb hb=>(fx b hb).1) ⟨fu,λm0 h1 h2=>⟨hx m0 h1 h2,rfl⟩⟩
 have toV:∀{mc l' vC wx},Nu w (bJ (uD g l' vC) (bJ (uL w.heap.size mV mc) DR)) wx->Nu w (bJ (uD g l' vC) (bJ (uL w.heap.size mV mc) (rS dG 1 eI aZ ([]:List Int)))) wx:=λh=>h.map λS h=>h.mono (λ_ h=>h) λ_ h=>h.mono (λ_ h=>h) λ_ h=>vecN h;have GN:∀m0,sR m0->bs=kR m0->(x3:Int)=m0.kind/\sp3=false/\be 1 m0.kind.toNat++l3=kR m0:=λm0 h1 h2=>by
  have hk:=h1.kind;have h3:∃t,kR m0=be 1 m0.kind.toNat++t:=⟨_,rfl⟩;obtain⟨t,ht⟩:=h3;obtain⟨e1,rfl,e3⟩:=v3 _ t rfl (by rw[h2,ht]) aB;exact⟨aB,e3,ht.symm⟩
 have cJ:∀m0 t,sR m0->bs=kR m0->kR m0=be 1 m0.kind.toNat++t->l3=t:=λm0 t h1 h2 h3=>by
  have:=(GN m0 h1 h2).2.2;rw[h3] at this;exact List.append_cancel_left this
 have hz:∀m0,sR m0->m0.kind≠7->m0.eR=⟨0,0,0,0⟩:=λm0 h hk=>by have:=h.eR;rwa[if_neg hk] at this
 have hwt:∀m0,sR m0->m0.kind≠5->m0.kS=0/\m0.cD=[]:=λm0 h hk=>⟨by have:=h.kS;rwa[if_neg hk] at this,by have:=h.cD;rwa[if_neg hk] at this⟩;have hd:∀m0,sR m0->m0.kind≠1->m0.JE=0:=λm0 h hk=>by have:=h.JE;rwa[if_neg hk] at this
 have hps:∀m0,sR m0->¬(m0.kind=1\/m0.kind=2\/m0.kind=9)->m0.pos=0:=λm0 h hk=>by have:=h.pos;rwa[if_neg hk] at this
 refine aE (k:=.i) (x3:Int) (vw n4 rfl) ?_;refine aF (λhk=>?_) (λQD=>?_)
 ·have hk:(x3:Int)=1:=by simpa using hk
  refine PS n4 (sz:=2) rfl aB aB λx5 l5 sp5 w5 n5 c5 b5 v5=>?_;refine PS n5 (sz:=2) rfl aB aB λx6 l6 sp6 w6 n6 c6 b6 v6=>?_;refine FH n6 cZ (by simp[z0]) rfl rfl λw7 n7=>?_;refine FH n7 cZ (by simp[z0]) rfl rfl λw8 n8=>?_;refine GL ⟨x3,x5,x6,[],0,⟨0,0,0,0⟩⟩ aZ l6 sp6 w8 (toV n8) (dE _) λm0 h1 h2=>?_;obtain⟨e1,e2,e3⟩:=GN m0 h1 h2;have fw:m0.kind=1:=aB;have hp:=h1.pos;have hde:=h1.JE;rw[if_pos (.inl fw)] at hp;rw[if_pos fw] at hde;have e4:=cJ m0 (be 2 m0.pos.toNat++be 2 m0.JE.toNat) h1 h2 (by unfold kR;rw[if_pos fw]);obtain⟨q1,rfl,q2⟩:=v5 _ _ e2 e4 (QK hp).2;obtain⟨q3,_,_⟩:=v6 _ [] q2 dN (QK hde).2;have q5:=hz m0 h1 aB;have q6:=hwt m0 h1 aB;obtain⟨k,ps,ds,es,wt,hh⟩:=m0;simp only[gV.mk.injEq];have h02:=hp.1;have h03:=hde.1;simp only at*;exact⟨aB,aB,aB,q6.2.symm,q6.1.symm,q5.symm⟩
 have QD:¬(x3:Int)=1:=by simpa using QD
 intro J2 Qo;have j29:(x3:Int)=2\/(x3:Int)=9->J2 (true,()) w4:=by intro hk;apply Qo;refine aF (λ_=>?_) (λh=>by cases h);refine PS n4 (sz:=2) rfl aB aB λx5 l5 sp5 w5 n5 c5 b5 v5=>?_;refine FH n5 cZ (by simp[z0]) rfl rfl λw7 n7=>?_;refine GL ⟨x3,x5,0,[],0,⟨0,0,0,0⟩⟩ aZ l5 sp5 w7 (toV n7) (dE _) λm0 h1 h2=>?_;obtain⟨e1,e2,e3⟩:=GN m0 h1 h2;have fw:m0.kind=2\/m0.kind=9:=aB;have hp:=h1.pos;rw[if_pos (.inr fw)] at hp;have e4:=cJ m0 (be 2 m0.pos.toNat) h1 h2 (by unfold kR;rw[if_neg aB,if_pos fw]);obtain⟨q1,_,q2⟩:=v5 _ [] e2 (by rw[e4];simp) (QK hp).2;have q5:=hz m0 h1 aB;have q6:=hwt m0 h1 aB;have q7:=hd m0 h1 aB;obtain⟨k,ps,ds,es,wt,hh⟩:=m0;simp only[gV.mk.injEq];have h02:=hp.1;simp only at*;exact⟨aB,aB,aB,q6.2.symm,q6.1.symm,q5.symm⟩
 have jr:¬((x3:Int)=2\/(x3:Int)=9)->J2 (false,()) w4:=by
  intro hk29;apply Qo;refine aF (λh=>by cases h) (λ_=>aF (λhk=>?_) (λVq=>aF (λhk=>?_) (λhk7=>?_)))
  ·have hk:(x3:Int)=5:=by simpa using hk
   refine PS n4 (sz:=5) rfl aB aB λx5 l5 sp5 w5 n5 c5 b5 v5=>?_;refine FH n5 cZ (by simp[z0]) rfl rfl λw7 n7=>?_;refine PS n7 (sz:=2) rfl aB aB λx8 l8 sp8 w8 n8 c8 b8 v8=>?_;have fr:∀m0,sR m0->bs=kR m0->m0.kind=5/\(x5:Int)=m0.kS/\l8=(m0.cD.flatMap λe=>be 2 e.toNat)/\sp8=false/\x8=m0.cD.length:=λm0 h1 h2=>by
    obtain⟨e1,e2,e3⟩:=GN m0 h1 h2;have fw:m0.kind=5:=aB;have hw:=h1.kS;have he:=h1.cD;rw[if_pos fw] at hw he;have e4:=cJ m0 (be 5 m0.kS.toNat++(be 2 m0.cD.length++m0.cD.flatMap λe=>be 2 e.toNat)) h1 h2 (by unfold kR;rw[if_neg aB,if_neg aB,if_pos fw];simp);obtain⟨q1,rfl,q2⟩:=v5 _ _ e2 e4 (Np hw).2;obtain⟨q3,rfl,q4⟩:=v8 _ _ q2 rfl aB;have:=hw.1;exact⟨fw,aB,rfl,q4,q3⟩
   have dQ:∀es sl l' vC wx,Nu w (bJ (uD g l' vC) (bJ (uL w.heap.size mV (tN (⟨x3,0,0,es,x5,⟨0,0,0,0⟩⟩,sl))) (rS dG 1 eI sl es))) wx->es.length<=70000->(∀m0,sR m0->bs=kR m0->m0.cD=es)->J1 () wx:=by intro es sl l' vC wx nx Ve hx;refine GL ⟨x3,0,0,es,x5,⟨0,0,0,0⟩⟩ sl l' vC wx nx Ve λm0 h1 h2=>?_;obtain⟨fw,q1,_⟩:=fr m0 h1 h2;have q2:=hx m0 h1 h2;have q5:=hz m0 h1 aB;have q6:=hps m0 h1 aB;have q7:=hd m0 h1 aB;obtain⟨k,ps,ds,es,wt,hh⟩:=m0;simp only[gV.mk.injEq];simp only at*;exact⟨aB,aB,aB,q2.symm,q1,q5.symm⟩
   refine bL (λc t DA=>∃(n:Nat) (es:List Int) (sl:Sl) (l':List cG) (vC:Bool),c=n/\t=((n:Int),())/\es.length+n<=65536/\l'.length<=5000/\Nu w (bJ (uD g l' vC) (bJ (uL w.heap.size mV (tN (⟨x3,0,0,es,x5,⟨0,0,0,0⟩⟩,sl))) (rS dG 1 eI sl es))) DA/\
    ∀m0,sR m0->bs=kR m0->∃rem,m0.cD=es++rem/\l'=(rem.flatMap λe=>be 2 e.toNat)/\vC=false/\n=rem.length) x8 ⟨x8,[],aZ,l8,sp8,rfl,rfl,by simp;omega,aB,toV n8,λm0 h1 h2=>?_⟩ ?_
   ·obtain⟨_,_,q1,q2,q3⟩:=fr m0 h1 h2;exact⟨m0.cD,rfl,q1,q2,q3⟩
   rintro c t DA ⟨n,es,sl,l',vC,hc,rfl,hbn,hl',nx,hx⟩ X hX;dsimp only;refine aJ (λhn=>?_) (λhn=>dQ es sl l' vC DA nx aB λm0 h1 h2=>?_)
   ·obtain⟨S9,a9,Aw⟩:=nx.foc λS h=>bJ.l h;refine zo a9 λx9 e9 b9=>?_;refine aJ (λh9=>?_) (λh9=>dQ es sl l' vC DA nx aB λm0 h1 h2=>?_)
    ·have nd:=nx.kp (bY DA);refine aE (k:=.slice) sl (vw nd rfl) ?_;refine PS nd (sz:=2) rfl aB aB λsI l10 sp10 eZ n10 c10 b10 v10=>⟨vw n10 rfl,?_⟩;refine cO (cs:=[aD (sI:Int)]) λeN b11 LA z11=>?_;have n11:=n10.kp LA;refine⟨vw n11 rfl,?_⟩;obtain⟨YP,IT,TN⟩:=n11.foc λS h=>(bJ.r h).c λT hT=>bJ.r hT;refine WO (x:=⟨some ⟨eZ.heap.size,0,none⟩,1,1⟩) iK eX FC IT (mO eX [(sI:Int)] b11 rfl dN) (by simp;omega) aB λr eE S13 Ce Ff=>?_;have n12:=TN _ eE _ Ff Ce;refine FH (v:=sv r) n12 oW dN rfl rfl λgT n13=>?_;rw[show aQ ((n:Int)-(1:Int))=((n-1:Nat):Int) by rw[gZ aB aB];omega];refine hX (n-1) _ _ aB ⟨n-1,es++[(sI:Int)],r,l10,sp10,rfl,rfl,by simp;omega,aB,n13,λm0 h1 h2=>?_⟩;obtain⟨rem,q1,q2,q3,q4⟩:=hx m0 h1 h2;obtain⟨fw,_⟩:=fr m0 h1 h2;have he:=h1.cD;rw[if_pos fw] at he;cases rem with
     |nil=>simp at q4;omega
     |cons a rem=>have ha:=he.2 a (by rw[q1];simp);obtain⟨y1,y2,y3⟩:=v10 a.toNat (rem.flatMap λe=>be 2 e.toNat) q3 (by rw[q2,FE]) (QK ha).2;have:=ha.1;refine⟨rem,?_,y2,y3,by simp at q4;omega⟩;rw[q1,show(sI:Int)=a by omega];simp
    ·obtain⟨rem,q1,q2,q3,q4⟩:=hx m0 h1 h2;have h9':=e9 q3;rw[q2,Ox] at h9';have:rem=[]:=Lu aB;rw[q1,this,uA]
   ·obtain⟨rem,q1,q2,q3,q4⟩:=hx m0 h1 h2;have:rem=[]:=Lu aB;rw[q1,this,uA]
  ·have hk:(x3:Int)=7:=by simpa using hk
   refine PS n4 (sz:=1) rfl aB aB λx5 l5 sp5 w5 n5 c5 b5 v5=>?_;refine PS n5 (sz:=2) rfl aB aB λx6 l6 sp6 w6 n6 c6 b6 v6=>?_;refine PS n6 (sz:=5) rfl aB aB λx7 l7 sp7 w7 n7 c7 b7 v7=>?_;refine PS n7 (sz:=5) rfl aB aB λx8 l8 sp8 w8 n8 c8 b8 v8=>?_;rw[gZ (n:=(x6:Int)-(1:Int)) aB aB];obtain⟨S9,bb9,Aw⟩:=n8.foc λS h=>(bJ.r h).c λT hT=>bJ.l hT;rw[aS,gI];refine CH (v:=.agg #[aD (x5:Int),aD ((x6:Int)-1),aD (x7:Int),aD (x8:Int)]) bb9.1 BE (by simp[Value.cells,z0]) (by simp[Value.cells,Value.oneCell']) λw9 o9 m9 z9=>?_;have n9:=Aw _ w9 _ (bb9.up o9 m9).2 (bb9.up o9 m9).1;refine GL ⟨x3,0,0,[],0,⟨x5,(x6:Int)-1,x7,x8⟩⟩ aZ l8 sp8 w9 (toV n9) (dE _) λm0 h1 h2=>?_;obtain⟨e1,e2,e3⟩:=GN m0 h1 h2;have fw:m0.kind=7:=aB;have hh:=h1.eR;rw[if_pos fw] at hh;have e4:=cJ m0 (be 1 m0.eR.cls.toNat++(be 2 (m0.eR.jV+1).toNat++(be 5 m0.eR.oK.toNat++be 5 m0.eR.left.toNat))) h1 h2 (by unfold kR;rw[if_neg aB,if_neg aB,if_neg aB,if_pos fw];simp);obtain⟨q1,rfl,p1⟩:=v5 _ _ e2 e4 (rng8 hh.1).2;obtain⟨q2,rfl,p2⟩:=v6 _ _ p1 rfl (QK hh.2.1).2;obtain⟨q3,rfl,p3⟩:=v7 _ _ p2 rfl (Np hh.2.2.1).2;obtain⟨q4,_,_⟩:=v8 _ [] p3 dN (Np hh.2.2.2).2;have q6:=hwt m0 h1 aB;have q7:=hd m0 h1 aB;have q8:=hps m0 h1 aB;obtain⟨k,ps,ds,es,wt,⟨hc,he,hf,hl⟩⟩:=m0;simp only[gV.mk.injEq,MH.mk.injEq];have y1:=hh.1.1;have y2:=hh.2.1.1;have y3:=hh.2.2.1.1;have y4:=hh.2.2.2.1;simp only at*;exact⟨aB,aB,aB,q6.2.symm,q6.1.symm,aB,aB,aB,aB⟩
  ·have Vq:¬(x3:Int)=5:=by simpa using Vq
   have hk7:¬(x3:Int)=7:=by simpa using hk7
   refine GL ⟨x3,0,0,[],0,⟨0,0,0,0⟩⟩ aZ l3 sp3 w4 (toV n4) (dE _) λm0 h1 h2=>?_;obtain⟨e1,e2,e3⟩:=GN m0 h1 h2;have q5:=hz m0 h1 aB;have q6:=hwt m0 h1 aB;have q7:=hd m0 h1 aB;have q8:=hps m0 h1 aB;obtain⟨k,ps,ds,es,wt,hh⟩:=m0;simp only[gV.mk.injEq];simp only at*;exact⟨aB,aB,aB,q6.2.symm,q6.1.symm,q5.symm⟩
 refine aF (λhk=>?_) (λhk=>?_)
 ·rw[hk];exact j29 (.inl (by simpa using hk))
 ·have GC:¬(x3:Int)=2:=by simpa using hk
  by_cases hk9:(x3:Int)=9
  ·rw[show((x3:Int)==(9:Int))=true by simpa using hk9];exact j29 (.inr hk9)
  ·rw[show((x3:Int)==(9:Int))=false by simpa using hk9];exact jr λh=>h.elim GC hk9
section
section
variable{K:Type}[DecidableEq K]{w:aH}{S:BS}{r n:Nat}{ek:K->Value}{kn:oL}{f:K->Option kn.T}
theorem Yg{t kt et:TypeId}(ht:prog.underlying t=some (.map kt et))(hk:QW prog kt ek)(h:wL r ek kn f n w S)(x:K)(v:kn.T){Q:aH->Prop}
  (hQ:∀w',wL r ek kn (λy=>if y=x then some v else f y) (if(f x).isSome then n else n+1) w' S->Up S S w w'->Q w'):gJ prog t (.map (some r)) (ek x) (kn.aY v) w Q:=
 WT ht hk h.1 x v λw' h' m _=>hQ w' ⟨h',h.2⟩ (Up.at (m.mono λk _ hk=>(h.2 k).2 hk))
theorem Yh{t kt et u:TypeId}(ht:prog.underlying t=some (.map kt et))(hk:QW prog kt ek)(h:wL r ek kn f n w S)(x:K){Q:aH->Prop}
  (hQ:∀w',wL r ek kn (λy=>if y=x then none else f y) (if(f x).isSome then n-1 else n) w' S->Up S S w w'->Q w'):qK prog t u (.map (some r)) (ek x) w Q:=
 Ic ht hk h.1 x λw' h' m _=>hQ w' ⟨h',h.2⟩ (Up.at (m.mono λk _ hk=>(h.2 k).2 hk))
end
def LL(s:Sl)(S:BS)(w:aH):Prop:=∀b,s.b=some b->¬S b.block/\b.block<w.heap.size
theorem LL.up{s:Sl}{S S':BS}{w w':aH}(h:LL s S w)(u:Up S S' w w'):LL s S' w':=λb hb=>⟨λhs=>(u.s _ hs).elim (h b hb).1 λhh=>by have:=(h b hb).2;omega,pG (h b hb).2 u.m.size⟩
theorem LL.rd{α:Type}{n:Nat}{aY:α->List Value}{xs:List α}{s:Sl}{S S':BS}{w w':aH}(h:LL s S w)(u:Up S S' w w')(hr:Rd w s n aY xs)(gK:∀x,aY x≠[]):Rd w' s n aY xs:=hr.aK u.m gK λb hb=>(h b hb).1
theorem LL.kp{s:Sl}{S:BS}{w w':aH}(h:LL s S w)(k:aL w w'):LL s S w':=λb hb=>⟨(h b hb).1,pG (h b hb).2 k.size⟩
structure TimS where
 mb:Nat
 b:Int
 m:Int
 t:Int
 f:Int->Option knW.T
 n:Nat
def Cy(a:Nat)(s:TimS):As:=bJ (uL a tTimer [aD s.b,aD s.m,aD s.t,.map (some s.mb)]) (wL s.mb FA knW s.f s.n)
instance{a:Nat}{s:TimS}:bG (Cy a s):=by unfold Cy;infer_instance
def Gg(a:Nat)(IQ:Int->Prop):As:=Ex λs=>Pr (∀x,(s.f x).isSome=true↔IQ x) (Cy a s)
instance{a:Nat}{IQ:Int->Prop}:bG (Gg a IQ):=by unfold Gg;infer_instance
section
variable{w:aH}{S:BS}{a:Nat}{s:TimS}{IQ:Int->Prop}
theorem Cy.cells(h:Cy a s w S):w.cell? ((⟨a,0,none⟩:Addr).add 0)=some (aD s.b)/\w.cell? ((⟨a,0,none⟩:Addr).add 1)=some (aD s.m)/\w.cell? ((⟨a,0,none⟩:Addr).add 2)=some (aD s.t)/\w.cell? ((⟨a,0,none⟩:Addr).add 3)=some (.map (some s.mb)):=by
 obtain⟨S1,S2,h1,_⟩:=h;exact⟨aP h1 rfl,aP h1 rfl,aP h1 rfl,aP h1 rfl⟩
theorem Cy.put(h:Cy a s w S)(x:Int)(v:knW.T){Q:aH->Prop}(hQ:∀w' S',Cy a {s with f:=λy=>if y=x then some v else s.f y,n:=if(s.f x).isSome then s.n else s.n+1} w' S'->Up S S' w w'->Q w'):
  gJ prog 358 (.map (some s.mb)) (aD x) (knW.aY v) w Q:=by
 obtain⟨S2,h2,_,eO⟩:=(bJ.r h).put;refine Yg unWait lF h2 x v λw' h' u'=>?_;obtain⟨S',h3,u3⟩:=eO _ _ _ u' h';exact hQ w' S' h3 u3
theorem Cy.gz(h:Cy a s w S)(x:Int){Q:aH->Prop}(hQ:∀w' S',Cy a {s with f:=λy=>if y=x then none else s.f y,n:=if(s.f x).isSome then s.n-1 else s.n} w' S'->Up S S' w w'->Q w'):
  qK prog 358 3 (.map (some s.mb)) (aD x) w Q:=by
 obtain⟨S2,h2,_,eO⟩:=(bJ.r h).put;refine Yh unWait lF h2 x λw' h' u'=>?_;obtain⟨S',h3,u3⟩:=eO _ _ _ u' h';exact hQ w' S' h3 u3
theorem Wait_i{n:Int}{Q:Int->aH->Prop}(h:Cy a s w S)(hQ:∀x,Q x w):HY (some ⟨a,0,none⟩) n w Q:=by
 unfold HY;obtain⟨c0,c1,_,_⟩:=h.cells;refine aF (λh=>by simp at h) (λ_=>aA rfl (aE (k:=.i) s.b c0 ?_));refine bL (λc t w1=>c=t.1.toNat/\w1=w) n.toNat ⟨rfl,rfl⟩ ?_;rintro c ⟨n,o,_⟩ w1 ⟨rfl,rfl⟩ X hX;dsimp only;refine aJ (λhn=>aA rfl (aE (k:=.i) s.m c1 (aJ (λ_=>?_) (λ_=>aA rfl (aE (k:=.i) s.m c1 (hQ _)))))) (λ_=>aA rfl (aE (k:=.i) s.m c1 (hQ _)));have e:aQ (n-(1:Int))<=n-1:=by rw[aQ,IntKind.wrap_i64];omega
 exact hX _ _ _ aB ⟨rfl,rfl⟩
theorem Start_i{id fR:Int}{Q:aH->Prop}(h:Gg a IQ w S)(hQ:∀w' S',Gg a (λx=>x=id\/IQ x) w' S'->Up S S' w w'->Q w'):KA (some ⟨a,0,none⟩) id fR w Q:=by
 unfold KA;obtain⟨s,hi,h⟩:=h;have hd:=bG.dr h;refine aF (λ_=>aA rfl (aE (k:=.map) (some s.mb) hd.cells.2.2.2 (Wait_i hd λx=>⟨hd.cells.2.2.2,hd.put id ((aQ (fR+x),(0:Int),()):Int×Int×Unit) λw' S' h' u'=>?_⟩))) (λh=>by simp at h);refine hQ w' S' ⟨_,λy=>?_,h'⟩ ((Up.aO (bY w)).tr u');dsimp only
 by_cases hy:y=id
 ·rw[if_pos hy];exact⟨λ_=>.inl hy,λ_=>rfl⟩
 ·rw[if_neg hy];exact(hi y).trans ⟨.inr,λh=>h.resolve_left hy⟩
theorem Stop_i{x:Int}{sl:Sl}{Q:aH->Prop}(h:Gg a IQ w S)(hr:Rd w sl 1 eI [x])(ho:LL sl S w)(hQ:∀w' S',Gg a (λy=>y≠x/\IQ y) w' S'->Up S S' w w'->Q w'):PD (some ⟨a,0,none⟩) sl w Q:=by
 unfold PD;obtain⟨s,hi,h⟩:=h;have hl:sl.l=1:=hr.len;rw[hl];refine aF (λh=>by simp at h) (λ_=>?_);refine bL (λc t w1=>(c=1/\t=(0,())/\w1=w)\/(c=0/\t=(1,())/\Q w1)) 1 (.inl ⟨rfl,rfl,rfl⟩) ?_;rintro c t w1 (⟨rfl,rfl,rfl⟩|⟨rfl,rfl,hq⟩) X hX
 ·dsimp only;refine aJ (λ_=>?_) (λh=>absurd (by decide) h);obtain⟨b,hb,cb⟩:=bP (k:=.i) (e:=λx=>x) hr (show [x][0]? =some x from rfl);refine⟨⟨by decide,by decide⟩,aA hb (aE (k:=.i) x cb (aA rfl (aE (k:=.map) (some s.mb) h.cells.2.2.2 (h.gz x λw' S' h' u'=>?_))))⟩;refine hX 0 _ _ aB (.inr ⟨rfl,by rw[gZ aB aB];rfl,hQ w' S' ⟨_,λy=>?_,h'⟩ u'⟩);dsimp only
  by_cases hy:y=x
  ·simp[hy]
  ·rw[if_neg hy];exact(hi y).trans ⟨λh=>⟨hy,h⟩,λh=>h.2⟩
 ·dsimp only;exact aJ (λh=>absurd h (by decide)) (λ_=>hq)
theorem TiNew_i{b m t:Int}{Q:cR->Int->aH->Prop}(hv:1<=b/\b<=1000/\b<=m/\m<=1000/\0<=t/\t<=20)(hQ:∀w',Gg (w.heap.size+1) (λ_=>False) w' (λk=>k=w.heap.size+1\/k=w.heap.size)->aL w w'->Q (some ⟨w.heap.size+1,0,none⟩) 0 w'):EN b m t w Q:=by
 unfold EN;refine aJ (λh=>aB) (λ_=>aJ (λh=>aB) (λ_=>aJ (λh=>aB) (λ_=>aJ (λh=>aB) (λ_=>aJ (λh=>aB) (λ_=>aJ (λh=>aB) (λ_=>?_))))));refine rA (ek:=FA) (kn:=knW) λhm k1=>?_;refine cO (cs:=[aD b,aD m,aD t,.map (some w.heap.size)]) λw2 b2 k2 z2=>?_;have e:(w.alloc (.map #[] 0)).heap.size=w.heap.size+1:=by simp
 rw[e] at b2 ⊢;refine hQ w2 ⟨⟨w.heap.size,b,m,t,λ_=>none,0⟩,λx=>by simp,⟨_,_,b2,⟨hm.aK k2 id,λk=>Iff.rfl⟩,λk h1 h2=>by have h2':k=w.heap.size:=h2;omega,λk=>Iff.rfl⟩⟩ (k1.tr k2)
theorem nodup_sub{ks ls:List Int}(h:ks.Nodup)(hs:∀x∈ks,x∈ls):ks.length<=ls.length:=by
 induction ks generalizing ls with
 |nil=>exact dE _
 |cons a r ih=>
  have ha:=hs a dN;rw[List.nodup_cons] at h;have:=ih (ls:=ls.erase a) h.2 λx hx=>by
   have gK:x≠a:=λe=>h.1 (e▸hx);exact(List.mem_erase_of_ne gK).2 (hs x (by simp[hx]))
  rw[List.length_erase_of_mem ha] at this;have:0<ls.length:=List.length_pos_of_mem ha;simp only[mE];omega
end
end
section
structure RU where
 dA:Nat
 next:Int
 f:Int->Option (List cG)
 n:Nat
 IQ:Int->Prop
 iI:Bool
structure RU.Ok(s:RU):Prop where
 dA:s.dA<=16
 RV:s.n<=s.dA
 IQ:∀x,s.IQ x->(s.f x).isSome=true
 len:∀x bs,s.f x=some bs->0<=x/\x<s.next/\bs.length<=70000
 nx:0<=s.next/\s.next-s.n<=1000000000000000
theorem RU.Ok.new{s:RU}(ok:s.Ok):s.f s.next=none:=by
 cases h:s.f s.next with
 |none=>rfl
 |some bs=>have:=ok.len _ bs h;omega
structure xt(g:Int->Option UN.T)(f:Int->Option (List cG))(w:aH)(S:BS):Prop where
 iff:∀x,(g x).isSome=(f x).isSome
 rd:∀x (sl:Sl) bs,g x=some sl->f x=some bs->Rd w sl 1 eU bs
 lt:∀x (sl:Sl) b,g x=some sl->sl.b=some b->b.block<w.heap.size
 inj:∀x y (sl UJ:Sl) b b',g x=some sl->g y=some UJ->sl.b=some b->UJ.b=some b'->b.block=b'.block->x=y
 all:∀k,S k↔∃x,∃sl:Sl,∃b,g x=some sl/\sl.b=some b/\k=b.block
def Nz(g:Int->Option UN.T)(f:Int->Option (List cG)):As:=λw S=>xt g f w S
instance{g:Int->Option UN.T}{f:Int->Option (List cG)}:bG (Nz g f):=⟨λh k hk=>by obtain⟨x,sl,b,h1,h2,rfl⟩:=(h.all k).1 hk;exact h.lt x sl b h1 h2,
 λh m hn=>⟨h.iff,λx sl bs h1 h2=>(h.rd x sl bs h1 h2).aK m fQ λb hb=>hn _ ((h.all _).2 ⟨x,sl,b,h1,hb,rfl⟩),λx sl b h1 h2=>pG (h.lt x sl b h1 h2) m.size,h.inj,h.all⟩⟩
def Cz(mb:Nat)(g:Int->Option UN.T)(f:Int->Option (List cG))(n:Nat):As:=bJ (wL mb FA UN g n) (Nz g f)
instance{mb:Nat}{g:Int->Option UN.T}{f:Int->Option (List cG)}{n:Nat}:bG (Cz mb g f n):=by unfold Cz;infer_instance
def JG(a tb mb:Nat)(g:Int->Option UN.T)(s:RU):As:=bJ (uL a tSender [.pointer (some ⟨tb,0,none⟩),aD (s.dA:Int),aD s.next,.map (some mb),.bool s.iI]) (bJ (Cz mb g s.f s.n) (Gg tb s.IQ))
instance{a tb mb:Nat}{g:Int->Option UN.T}{s:RU}:bG (JG a tb mb g s):=by unfold JG;infer_instance
def YY(a:Nat)(s:RU):As:=Ex λtb:Nat=>Ex λmb:Nat=>Ex λg:Int->Option UN.T=>JG a tb mb g s
instance{a:Nat}{s:RU}:bG (YY a s):=by unfold YY;infer_instance
section
variable{w:aH}{S:BS}{a tb mb:Nat}{g:Int->Option UN.T}{s:RU}
theorem JG.cells(h:JG a tb mb g s w S):w.cell? ((⟨a,0,none⟩:Addr).add 0)=some (.pointer (some ⟨tb,0,none⟩))/\w.cell? ((⟨a,0,none⟩:Addr).add 1)=some (aD (s.dA:Int))/\w.cell? ((⟨a,0,none⟩:Addr).add 2)=some (aD s.next)/\w.cell? ((⟨a,0,none⟩:Addr).add 3)=some (.map (some mb))/\w.cell? ((⟨a,0,none⟩:Addr).add 4)=some (.bool s.iI):=by
 obtain⟨S1,S2,h1,_⟩:=h;exact⟨aP h1 rfl,aP h1 rfl,aP h1 rfl,aP h1 rfl,aP h1 rfl⟩
theorem JG.map(h:JG a tb mb g s w S):kV w mb FA UN g s.n:=by
 obtain⟨S1,S2,_,⟨S3,S4,⟨S5,S6,h5,_⟩,_⟩,_⟩:=h;exact h5.1
theorem ph{Q:Bool->aH->Prop}(h:JG a tb mb g s w S)(hQ:Q s.iI w):xG (some ⟨a,0,none⟩) w Q:=by
 unfold xG;exact aF (λh=>by simp at h) (λ_=>aA rfl (aE (k:=.bool) s.iI h.cells.2.2.2.2 hQ))
theorem Room_i{Q:Int->aH->Prop}(h:JG a tb mb g s w S)(ok:s.Ok)(hQ:∀w',aL w w'->Q (if s.iI then 0 else((s.dA-s.n:Nat):Int)) w'):ID (some ⟨a,0,none⟩) w Q:=by
 unfold ID;refine ph h (aF (λho=>?_) (λho=>?_))
 ·have:=hQ w (aU.refl _ _);rwa[if_pos ho] at this
 ·have hd:=bG.dr h;refine aA rfl (aE (k:=.i) (s.dA:Int) hd.cells.2.1 (aA rfl (aE (k:=.map) (some mb) hd.cells.2.2.2.1 (Yf TF hd.map ⟨hd.cells.2.1,?_⟩))));have h1:=ok.dA;have h2:=ok.RV;have:=hQ w.drew (bY w);rw[if_neg (by rw[ho];simp)] at this;rw[gZ aB aB,show(s.dA:Int)-(s.n:Int)=((s.dA-s.n:Nat):Int) by omega];exact this
def RU.send(s:RU)(bs:List cG):RU:={s with next:=s.next+1,f:=λy=>if y=s.next then some bs else s.f y,n:=s.n+1,IQ:=λy=>y=s.next\/s.IQ y}
theorem JI{α:Type}{g:Int->Option α}{x y:Int}{r z:α}(h:(λy=>if y=x then some r else g y) y=some z):(y=x/\z=r)\/(y≠x/\g y=some z):=by
 dsimp only at h
 by_cases hy:y=x
 ·rw[if_pos hy] at h;cases h;exact .inl ⟨hy,rfl⟩
 ·rw[if_neg hy] at h;exact .inr ⟨hy,h⟩
theorem del_eq{α:Type}{g:Int->Option α}{x y:Int}{z:α}(h:(λy=>if y=x then none else g y) y=some z):y≠x/\g y=some z:=by
 dsimp only at h
 by_cases hy:y=x
 ·rw[if_pos hy] at h;cases h
 ·rw[if_neg hy] at h;exact⟨hy,h⟩
theorem RU.Ok.send{s:RU}{bs:List cG}(ok:s.Ok)(hr:s.n<s.dA)(hl:bs.length<=70000):(s.send bs).Ok:=by
 refine⟨ok.dA,by show s.n+1<=s.dA;omega,λx hx=>?_,λx b hb=>?_,?_⟩
 ·show(if x=s.next then some bs else s.f x).isSome=true
  by_cases h:x=s.next
  ·rw[if_pos h];rfl
  ·rw[if_neg h];exact ok.IQ x (hx.resolve_left h)
 ·have:=ok.nx;show 0<=x/\x<s.next+1/\_
  rcases JI hb with⟨h1,h2⟩|⟨h1,h2⟩
  ·rw[h2];exact⟨aB,aB,hl⟩
  ·have:=ok.len x b h2;exact⟨aB,aB,this.2.2⟩
 ·have:=ok.nx;show 0<=s.next+1/\s.next+1-((s.n+1:Nat):Int)<=_
  omega
theorem Cz.put{f:Int->Option (List cG)}{n:Nat}{r:Sl}{bs:List cG}{w4:aH}{Q:aH->Prop}(h:Cz mb g f n w S)(k4:aL w w4)(rd4:DQ 1 eU r bs w4 (sU r))(fr:∀b,r.b=some b->w.heap.size<=b.block)(x:Int)
  (hQ:∀w5 S',Cz mb (λy=>if y=x then some r else g y) (λy=>if y=x then some bs else f y) (if(f x).isSome then n else n+1) w5 S'->Up S S' w w5->Q w5):gJ prog 341 (.map (some mb)) (aD x) (.slice r.b r.l r.c) w4 Q:=by
 have h4:=bG.kp h k4;have gX:=bG.gX h;obtain⟨S9,An,Rh,hbods,d9,e9⟩:=h4;refine Yg TF lF Rh x r λw5 m5 u5=>?_;have hn:∀k,sU r k->¬S k:=λk ⟨b,hb,e⟩ hs=>by have:=gX _ hs;have:=fr b hb;omega
 have Vl:=bG.aK rd4 u5.m λk hk lT=>hn k hk ((e9 k).2 (.inl lT));have Nv:xt g f w5 An:=bG.aK (A:=Nz g f) hbods u5.m λk hk lT=>d9 k lT hk;have old:∀y (sl:Sl) b,g y=some sl->sl.b=some b->S b.block:=λy sl b h1 h2=>(e9 _).2 (.inr ((Nv.all _).2 ⟨y,sl,b,h1,h2,rfl⟩))
 let g':Int->Option UN.T:=λy=>if y=x then some r else g y
 let S':BS:=λk=>∃y,∃sl:Sl,∃b,g' y=some sl/\sl.b=some b/\k=b.block
 have sub:∀k,S' k->An k\/sU r k:=λk ⟨y,sl,b,h1,h2,e⟩=>by
  rcases JI h1 with⟨_,rfl⟩|⟨_,h1⟩
  ·exact .inr ⟨b,h2,e⟩
  ·exact .inl ((Nv.all _).2 ⟨y,sl,b,h1,h2,e⟩)
 have hB:Nz g' (λy=>if y=x then some bs else f y) w5 S':=by
  refine⟨λy=>?_,λy sl b hx hf=>?_,λy sl b hx hb=>?_,λy z sl UJ b b' h1 h2 h3 h4 e=>?_,λk=>Iff.rfl⟩
  ·show(if y=x then(some r:Option UN.T) else g y).isSome=(if y=x then some bs else f y).isSome
   by_cases hxn:y=x
   ·rw[if_pos hxn,if_pos hxn];rfl
   ·rw[if_neg hxn,if_neg hxn];exact Nv.iff y
  ·rcases JI hx with⟨h1,rfl⟩|⟨h1,hx⟩
   ·rcases JI hf with⟨_,rfl⟩|⟨h2,_⟩
    ·exact Vl.1
    ·exact absurd h1 h2
   ·rcases JI hf with⟨h2,_⟩|⟨_,hf⟩
    ·exact absurd h2 h1
    ·exact Nv.rd y sl b hx hf
  ·rcases JI hx with⟨h1,rfl⟩|⟨h1,hx⟩
   ·exact Vl.2.2.1 b hb
   ·exact Nv.lt y sl b hx hb
  ·rcases JI h1 with⟨hy,e1⟩|⟨hy,p1⟩<;>rcases JI h2 with⟨hz,e2⟩|⟨hz,p2⟩
   ·rw[hy,hz]
   ·subst e1;exact(hn b.block ⟨b,h3,rfl⟩ (by rw[e];exact old z UJ b' p2 h4)).elim
   ·subst e2;exact(hn b'.block ⟨b',h4,rfl⟩ (by rw[<-e];exact old y sl b p1 h3)).elim
   ·exact Nv.inj y z sl UJ b b' p1 p2 h3 h4 e
 have m5':wL mb FA UN (λy=>if y=x then some r else g y) (if(f x).isSome then n else n+1) w5 S9:=by have:=hbods.iff x;rw[<-this];exact m5
 refine hQ w5 (λk=>S9 k\/S' k) ⟨S9,_,m5',hB,λk h1 h2=>(sub k h2).elim (d9 k h1) λh=>hn k h ((e9 k).2 (.inl h1)),λk=>Iff.rfl⟩ ⟨(k4.wk (F:=S)).tr (u5.m.mono λk _ hk=>(e9 k).2 (.inl hk)),λk hk=>?_⟩;rcases hk with h|h
 ·exact .inl ((e9 k).2 (.inl h))
 ·rcases sub k h with h|⟨b,hb,e⟩
  ·exact .inl ((e9 k).2 (.inr h))
  ·exact .inr (by rw[e];exact fr b hb)
theorem Send_i{fR:Int}{body:Sl}{bs:List cG}{Q:Int->Int->aH->Prop}(h:YY a s w S)(ok:s.Ok)(hb:Rd w body 1 eU bs)(ho:LL body S w)(hl:bs.length<=70000)(ft:s.iI=false)(hrm:s.n<s.dA)
  (hQ:∀w' S',YY a (s.send bs) w' S'->Up S S' w w'->Q s.next 0 w'):PG (some ⟨a,0,none⟩) fR body w Q:=by
 unfold PG;obtain⟨tb,mb,g,h⟩:=h;refine ph h (aF (λho=>by rw[ft] at ho;cases ho) (λ_=>Room_i h ok λw1 k1=>aF (λhz=>?_) (λ_=>?_)))
 ·rw[ft] at hz;simp at hz;omega
 have h1:=bG.kp h k1;have UP:=hb.aK k1 fQ λ_ _=>id;refine aA rfl (aE (k:=.i) s.next h1.cells.2.2.1 (aA rfl (aE (k:=.i) s.next h1.cells.2.2.1 (aA rfl ?_))))
 obtain⟨S2,b2,_,MG⟩:=(bJ.l h1).put;refine qY b2 cZ dN rfl rfl λw3 b3 u3=>?_;obtain⟨S3,h3,v3⟩:=MG _ _ _ u3 b3;have La:=bG.dr h3;have jl:=((ho.kp k1).rd v3 UP fQ).aK (bY w3) fQ λ_ _=>id;obtain⟨T1,c1,_,_⟩:=(bJ.l La).put;obtain⟨S7,hBod,_,eO⟩:=((bJ.r La).c λT hT=>bJ.l hT).put;refine aA rfl (aE (k:=.map) (some mb) (aP c1 rfl) ?_);refine vR jl aB λr w4 S4 v4 k4 f4 rd4 fr4=>⟨aP (bG.kp c1 k4) rfl,?_⟩;refine hBod.put k4 rd4 fr4 s.next λw5 S5 h5 u5=>?_
 obtain⟨S6,h6,u6⟩:=eO _ w5 S5 u5 h5;obtain⟨T6,c6,_,_⟩:=(bJ.l h6).put;refine aA rfl (aE (k:=.ptr) (some ⟨tb,0,none⟩) (aP c6 rfl) ?_);obtain⟨S8,h8,_,back8⟩:=((bJ.r h6).c λT hT=>bJ.r hT).put;refine Start_i h8 λw9 S9 h9 u9=>?_;obtain⟨An,Ea,u10⟩:=back8 _ w9 S9 u9 h9;rw[ok.new,gZ (n:=s.next+(1:Int)) (by have:=ok.nx;omega) (by have:=ok.nx;have:=ok.dA;omega)] at Ea
 exact hQ w9 An ⟨tb,mb,λy=>if y=s.next then some r else g y,Ea⟩ (((((Up.aO k1).tr v3).tr (Up.aO (bY w3))).tr u6).tr u10)
theorem Body_i{x:Int}{Q:Sl->Bool->aH->Prop}(h:YY a s w S)(ok:s.Ok)(hQ:∀r c w',DQ 1 eU r ((s.f x).getD []) w' (sU r)->(∀b,r.b=some b->w.heap.size<=b.block)->aL w w'->Q r c w'):PH (some ⟨a,0,none⟩) x w Q:=by
 unfold PH;obtain⟨tb,mb,g,h⟩:=h;have hm:=h.map;refine aF (λh=>by simp at h) (λ_=>aA rfl (aE (k:=.map) (some mb) h.cells.2.2.2.1 ?_));refine OU (kn:=UN) TF lF (z:=(aZ:Sl)) TO hm x ?_;obtain⟨S1,S2,_,⟨S3,S4,⟨S5,S6,_,hB,_⟩,_⟩,_⟩:=h;have key:∃r bs,(g x).getD (aZ:Sl)=r/\(s.f x).getD []=bs/\Rd w r 1 eU bs/\bs.length<=70000:=by
  have h1:=hB.iff x;cases hg:g x with
  |none=>
   rw[hg] at h1;have:s.f x=none:=by simpa using h1.symm
   rw[this];exact⟨_,_,rfl,rfl,Rd.nil _ _ _,dE _⟩
  |some r=>rw[hg] at h1;obtain⟨bs,hbs⟩:=Lt.1 (show(s.f x).isSome=true from h1.symm);rw[hbs];exact⟨_,_,rfl,rfl,hB.rd x r bs hg hbs,(ok.len x bs hbs).2.2⟩
 obtain⟨r,bs,e1,e2,hr,hl⟩:=key;rw[e2] at hQ;rw[e1];exact vR hr aB λr' w1 S' _ k1 _ rd fr=>hQ r' _ w1 rd fr k1
theorem SNew2_i{dA:Nat}{tb:Nat}{S:BS}{Q:cR->Int->aH->Prop}(hw:1<=dA/\dA<=16)(h:Gg tb (λ_=>False) w S)
  (hQ:∀w' S',YY (w.heap.size+1) ⟨dA,0,λ_=>none,0,λ_=>False,false⟩ w' S'->aL w w'->(∀k,S' k->S k\/w.heap.size<=k)->Q (some ⟨w.heap.size+1,0,none⟩) 0 w'):AK (dA:Int) (some ⟨tb,0,none⟩) w Q:=by
 unfold AK;refine aJ (λh=>aB) (λ_=>aJ (λh=>aB) (λ_=>aF (λh=>by simp at h) (λ_=>?_)));refine rA (ek:=FA) (kn:=UN) λhm k1=>?_;refine cO (cs:=[.pointer (some ⟨tb,0,none⟩),aD (dA:Int),aD 0,.map (some w.heap.size),.bool false]) λw2 b2 k2 z2=>?_;have e:(w.alloc (.map #[] 0)).heap.size=w.heap.size+1:=by simp
 rw[e] at b2 ⊢;have gX:=bG.gX h;have hB:Cz w.heap.size (λ_=>none) (λ_=>none) 0 w2 (λk=>k=w.heap.size\/False):=⟨λk=>k=w.heap.size,λ_=>False,⟨hm.aK k2 id,λk=>Iff.rfl⟩,⟨λx=>rfl,λx sl b h=>(by cases h),λx sl b h=>(by cases h),λx y sl UJ b b' h=>(by cases h),λk=>⟨False.elim,λ⟨x,sl,b,h,_⟩=>by cases h⟩⟩,λ_ _ h=>h,λ_=>Iff.rfl⟩;refine hQ w2 (λk=>k=w.heap.size+1\/(k=w.heap.size\/False)\/S k) ⟨tb,w.heap.size,λ_=>none,⟨_,_,b2,⟨_,_,hB,bG.kp (bG.kp h k1) k2,λk h1 h2=>?_,λ_=>Iff.rfl⟩,λk h1 h2=>?_,λ_=>Iff.rfl⟩⟩ (k1.tr k2) λk hk=>?_
 ·have:=gX k h2;rcases h1 with h1|h1
  ·omega
  ·exact h1
 ·rcases h2 with(h2|h2)|h2
  ·omega
  ·exact h2
  ·have:=gX k h2;omega
 ·rcases hk with hk|(hk|hk)|hk
  ·exact .inr aB
  ·exact .inr aB
  ·exact hk.elim
  ·exact .inl hk
def SAgain(s s':RU):Prop:=s'.dA=s.dA/\s'.next=s.next/\s'.f=s.f/\s'.n=s.n/\∀x,s'.IQ x->s.IQ x
end
end
end Go.Proofs.YtihggjgakbgomaaGreat
namespace Go.Proofs.YtihggjgakbgomaaGreat
open Go Go.Den Go.ChangeMaps Go.MapKept
open Tryz (prog)
section
theorem delRaw_i{kn:oL}{f:Int->Option kn.T}{n r c:Nat}{w:aH}{es:Array MapEntry}{t et:TypeId}(ht:prog.underlying t=some (.map 3 et))(h:kV w r FA kn f n)(Ve:w.heap[r]? =some (.map es c))(x:Int)(hx:(f x).isSome=true){Q:aH->Prop}
  (hQ:∀w' j,w'.heap[r]? =some (.map (es.eraseIdxIfInBounds j) c)->j<es.size->(es.toList[j]?).map (·.key)=some (.int .i64 x)->kV w' r FA kn (λy=>if y=x then none else f y) (n-1)->aU (λk=>k=r) w w'->w'.heap.size=w.heap.size->Q w'):qK prog t 3 (.map (some r)) (.int .i64 x) w Q:=by
 have h1:qK prog t 3 (.map (some r)) (.int .i64 x) w λw'=>kV w' r FA kn (λy=>if y=x then none else f y) (n-1)/\aU (λk=>k=r) w w'/\w'.heap.size=w.heap.size:=
  Ic ht lF h x λw' a b e=>⟨by rw[if_pos hx] at a;exact a,b,e⟩
 obtain⟨_,w1,r1,f1,f2,f3⟩:=h1;obtain⟨es',c',l,g1,_,_,_,_,_,_,hf⟩:=h.find lF x w;rw[Ve] at g1;cases g1;rcases hf with⟨_,g,_⟩|⟨j,v,g,_,hjs,uC,qE⟩
 ·rw[g] at hx;cases hx
 ·have r2:(Builtin.delete_ #[t,3] 0 #[.map (some r),.int .i64 x]).run prog w=.ok (.tuple #[]) {w with heap:=w.heap.setIfInBounds r (.map (es.eraseIdxIfInBounds j) c)}:=by
   simp[Builtin.delete_,run_underlying ht,MapKept.run_getObj_map Ve,lF.check,qE,run_setObj_map _ Ve]
  rw[r1] at r2;injection r2 with _ e2;refine⟨_,w1,r1,hQ w1 j ?_ hjs uC f1 f2 f3⟩;rw[e2];exact(heap_set Ve).1
def AckR(s:RU)(KO:Int)(s':RU):Prop:=s'.dA=s.dA/\s'.next=s.next/\s'.iI=s.iI/\s'.n<=s.n/\(∀x,s'.IQ x->s.IQ x)/\(¬KO>s.next->∀x,s'.IQ x->¬x<KO)
section
variable{w:aH}{S:BS}{a tb mb:Nat}{g:Int->Option UN.T}{s:RU}
theorem JG.tim2(h:JG a tb mb g s w S):∃S1,Gg tb s.IQ w S1/\¬S1 mb/\(∀k,S1 k->S k)/\∀ids' w' DC,Up S1 DC w w'->Gg tb ids' w' DC->∃S',JG a tb mb g {s with IQ:=ids'} w' S'/\Up S S' w w':=by
 obtain⟨S5,S6,FF,⟨S7,S8,Wb,htim,d7,e7⟩,d5,e5⟩:=h;have hmb:S7 mb:=by obtain⟨S9,An,hm,_,_,e9⟩:=Wb;exact(e9 _).2 (.inl ((hm.2 _).2 rfl))
 refine⟨S8,htim,λh=>d7 _ hmb h,λk hk=>(e5 k).2 (.inr ((e7 k).2 (.inr hk))),λids' w' DC u ht=>?_⟩;have b7:=bG.gX Wb;have b5:=bG.gX FF;have dd:=u.lq (λk h1 h2=>d7 k h2 h1) b7;have de:=u.lq (λk h1 h2=>d5 k h2 ((e7 k).2 (.inr h1))) b5;refine⟨λk=>S5 k\/S7 k\/DC k,⟨S5,_,bG.aK FF u.m λk hk lT=>d5 k hk ((e7 k).2 (.inr lT)),⟨S7,DC,bG.aK Wb u.m λk hk lT=>d7 k hk lT,ht,λk h1 h2=>dd k h2 h1,λ_=>Iff.rfl⟩,λk h1 h2=>h2.elim (λh=>d5 k h1 ((e7 k).2 (.inl h))) λh=>de k h h1,λ_=>Iff.rfl⟩,u.m.mono λk _ hk=>(e5 k).2 (.inr ((e7 k).2 (.inr hk))),λk hk=>?_⟩;rcases hk with h|h|h
 ·exact .inl ((e5 k).2 (.inl h))
 ·exact .inl ((e5 k).2 (.inr ((e7 k).2 (.inl h))))
 ·exact(u.s k h).imp (λh=>(e5 k).2 (.inr ((e7 k).2 (.inr h)))) id
theorem Cz.gz{f:Int->Option (List cG)}{n c:Nat}{es:Array MapEntry}(h:Cz mb g f n w S)(Ve:w.heap[mb]? =some (.map es c))(x:Int)(hx:(g x).isSome=true){Q:aH->Prop}
  (hQ:∀w' j S',Cz mb (λy=>if y=x then none else g y) (λy=>if y=x then none else f y) (n-1) w' S'->(∀k,S' k->S k)->(∀(sl:Sl) b,g x=some sl->sl.b=some b->¬S' b.block/\S b.block)->aU (λk=>k=mb) w w'->S' mb->w'.heap[mb]? =some (.map (es.eraseIdxIfInBounds j) c)->j<es.size->(es.toList[j]?).map (·.key)=some (.int .i64 x)->Q w'):qK prog 341 3 (.map (some mb)) (.int .i64 x) w Q:=by
 obtain⟨S9,An,hm,hb,d9,e9⟩:=h;have hmb9:S9 mb:=(hm.2 _).2 rfl;refine delRaw_i TF hm.1 Ve x hx λw' j h1 h2 h3 h4 m _=>?_;have bR:xt g f w' An:=bG.aK (A:=Nz g f) hb m λk hk e=>d9 k (by rw[show k=mb from e];exact hmb9) hk
 let g':Int->Option UN.T:=λy=>if y=x then none else g y
 let S':BS:=λk=>∃y,∃sl:Sl,∃b,g' y=some sl/\sl.b=some b/\k=b.block
 have sub:∀k,S' k->An k:=λk ⟨y,sl,b,h1,h2,e⟩=>(bR.all _).2 ⟨y,sl,b,(del_eq h1).2,h2,e⟩;have hB:Nz g' (λy=>if y=x then none else f y) w' S':=by
  refine⟨λy=>?_,λy sl b hx hf=>bR.rd y sl b (del_eq hx).2 (del_eq hf).2,λy sl b hx hb=>bR.lt y sl b (del_eq hx).2 hb,λy z sl UJ b b' h1 h2 h3 h4 e=>bR.inj y z sl UJ b b' (del_eq h1).2 (del_eq h2).2 h3 h4 e,λk=>Iff.rfl⟩;show(if y=x then(none:Option UN.T) else g y).isSome=(if y=x then none else f y).isSome
  by_cases hxn:y=x
  ·rw[if_pos hxn,if_pos hxn];rfl
  ·rw[if_neg hxn,if_neg hxn];exact bR.iff y
 refine hQ w' j (λk=>S9 k\/S' k) ⟨S9,S',⟨h4,hm.2⟩,hB,λk h1 h2=>d9 k h1 (sub k h2),λk=>Iff.rfl⟩ (λk hk=>(e9 k).2 (hk.imp id (sub k))) (λsl b hg Kz=>?_) m (.inl hmb9) h1 h2 h3;have Ea:An b.block:=(bR.all _).2 ⟨x,sl,b,hg,Kz,rfl⟩;refine⟨λhs=>hs.elim (λh=>d9 _ h Ea) λ⟨y,UJ,b',q1,q2,q3⟩=>?_,(e9 _).2 (.inr Ea)⟩;obtain⟨hy,q1⟩:=del_eq q1;exact hy (bR.inj y x UJ sl b' b q1 hg q2 Kz q3.symm)
theorem JG.del2{es:Array MapEntry}{c:Nat}(h:JG a tb mb g s w S)(Ve:w.heap[mb]? =some (.map es c))(x:Int)(hx:(g x).isSome=true){Q:aH->Prop}
  (hQ:∀w' j S',JG a tb mb (λy=>if y=x then none else g y) {s with f:=λy=>if y=x then none else s.f y,n:=s.n-1} w' S'->(∀k,S' k->S k)->aU (λk=>k=mb) w w'->S mb->w'.heap[mb]? =some (.map (es.eraseIdxIfInBounds j) c)->j<es.size->(es.toList[j]?).map (·.key)=some (.int .i64 x)->Q w'):qK prog 341 3 (.map (some mb)) (.int .i64 x) w Q:=by
 obtain⟨S5,S6,FF,⟨S7,S8,Wb,htim,d7,e7⟩,d5,e5⟩:=h;refine Wb.gz Ve x hx λw' j S' h1 hs _ m hmS h2 h3 h4=>?_;have hmb7:S7 mb:=hs _ hmS;exact hQ w' j (λk=>S5 k\/S' k\/S8 k) ⟨S5,_,bG.aK FF m λk hk e=>d5 k hk ((e7 k).2 (.inl (by rw[show k=mb from e];exact hmb7))),⟨S',S8,h1,bG.aK htim m λk hk e=>d7 k (by rw[show k=mb from e];exact hmb7) hk,λk a b=>d7 k (hs k a) b,λ_=>Iff.rfl⟩,λk a b=>d5 k a ((e7 k).2 (b.imp (hs k) id)),λ_=>Iff.rfl⟩ (λk hk=>(e5 k).2 (hk.imp id λh=>(e7 k).2 (h.imp (hs k) id))) m ((e5 _).2 (.inr ((e7 _).2 (.inl hmb7)))) h2 h3 h4
theorem JG.iff(h:JG a tb mb g s w S)(x:Int):(g x).isSome=(s.f x).isSome:=by
 obtain⟨S5,S6,FF,⟨S7,S8,⟨S9,An,hm,hb,d9,e9⟩,htim,d7,e7⟩,d5,e5⟩:=h;exact hb.iff x
theorem ni{kn:oL}{f:Int->Option kn.T}{n r c:Nat}{w:aH}{es:Array MapEntry}(h:kV w r FA kn f n)(Ve:w.heap[r]? =some (.map es c)):(∀e∈es.toList,∃k:Int,e.key=.int .i64 k/\(f k).isSome=true)/\(∀k,(f k).isSome=true->∃e∈es.toList,e.key=.int .i64 k)/\PY es c:=by
 obtain⟨es',c',l,h1,h2,h3,h4,h5,h6,hB⟩:=h;rw[Ve] at h1;cases h1;refine⟨λe he=>?_,λk hk=>?_,hB⟩
 ·have:e.key∈es.toList.map (·.key):=List.mem_map_of_mem he;rw[h2] at this;obtain⟨p,hp,Qn⟩:=mD.1 this;exact⟨p.1,Qn.symm,by rw[h5,HE];exact List.mem_map_of_mem hp⟩
 ·rw[h5,HE] at hk;obtain⟨p,hp,rfl⟩:=mD.1 hk;have:FA p.1∈es.toList.map (·.key):=by rw[h2];exact List.mem_map_of_mem (f:=λp:Int×kn.T=>FA p.1) hp
  obtain⟨e,he,hke⟩:=mD.1 this;exact⟨e,he,hke⟩
theorem Acked_i{KO:Int}{Q:Int->aH->Prop}(h:YY a s w S)(ok:s.Ok)(Vd:s.next<=1000000000000000)(hQ:∀c s' w' S',YY a s' w' S'->Up S S' w w'->AckR s KO s'->s'.Ok->Q c w'):KC (some ⟨a,0,none⟩) KO w Q:=by
 unfold KC;obtain⟨tb,mb,g,h⟩:=h;refine aF (λh=>by simp at h) (λ_=>aA rfl (aE (k:=.int .i64) s.next h.cells.2.2.1 (aJ (λhgt=>?_) (λLK=>?_))))
 ·exact hQ 0 s w S ⟨tb,mb,g,h⟩ (Up.refl _ _) ⟨rfl,rfl,rfl,dL _,λ_=>id,λh=>absurd hgt h⟩ ok
 refine aA rfl (aE (k:=.map) (some mb) h.cells.2.2.2.1 ?_);have Rh:=h.map;obtain⟨es,c,Ve⟩:∃es c,w.heap[mb]? =some (.map es c):=by obtain⟨es,c,l,h1,_⟩:=Rh;exact⟨es,c,h1⟩
 have hmb:=Rh.lt;refine⟨w.heap.size,_,run_range_map (P:=prog) w 341 3 41 mb es c TF Ve,?_⟩;obtain⟨w0,hw0⟩:∃w0,w0=w.alloc (.mapIter (some mb) c #[] c):=⟨_,rfl⟩;rw[<-hw0];have k0:aL w w0:=by rw[hw0];exact aL.alloc w _
 have hr0:w0.heap[w.heap.size]? =some (.mapIter (some mb) c #[] c):=by rw[hw0];exact World.alloc_heap_new w _
 have gX:=bG.gX h;refine bL (λn t w2=>∃(es:Array MapEntry) (GH:Array Nat) (g:Int->Option UN.T) (s2:RU) (S2:BS),n=(leftOf es GH).size/\JG a tb mb g s2 w2 S2/\Up S S2 w w2/\w2.heap[mb]? =some (.map es c)/\w2.heap[w.heap.size]? =some (.mapIter (some mb) c GH c)/\(∀e∈es.toList,e.born<c)/\¬S2 w.heap.size/\
   (∀e∈es.toList,GH.contains e.born=true->∀k:Int,e.key=.int .i64 k->¬k<KO)/\(s2.dA=s.dA/\s2.next=s.next/\s2.iI=s.iI/\s2.n<=s.n/\∀x,s2.IQ x->s.IQ x)/\s2.Ok) (leftOf es #[]).size
  ⟨es,#[],g,s,S,rfl,bG.kp h k0,Up.aO k0,k0.block mb hmb id▸Ve,hr0,(ni Rh Ve).2.2.1,λhk=>by have:=gX _ hk;omega,λe _ hc=>by simp at hc,⟨rfl,rfl,rfl,dL _,λ_=>id⟩,ok⟩ ?_
 rintro n t w2 ⟨es,GH,g,s2,S2,rfl,h2,u2,hes2,YI,PQ,hnr,hsn,⟨q1,q2,q3,q4,q5⟩,ir⟩ X hX;have hmap2:=h2.map;obtain⟨key1,key2,hB⟩:=ni hmap2 hes2;have rlt:w.heap.size<w2.heap.size:=(Array.getElem?_eq_some_iff.1 YI).1;rcases run_next_at (P:=prog) w2 0 w.heap.size mb c c GH es c YI hes2 PQ (dL _) with⟨hz,qE⟩|⟨e,he,w1,Uy,qE⟩
 ·refine⟨false,[],w2,qE,?_⟩;refine hQ _ s2 w2 S2 ⟨tb,mb,g,h2⟩ u2 ⟨q1,q2,q3,q4,q5,λ_ x hx cC=>?_⟩ ir;have hgx:(g x).isSome=true:=by rw[h2.iff];exact ir.IQ x hx
  obtain⟨e,he,hke⟩:=key2 x hgx;exact hsn e he (all_seen es GH hz e he) x hke cC
 ·obtain⟨hem,hsb⟩:=mem_left he;obtain⟨k,hk,hgk⟩:=key1 e hem;obtain⟨w3,hw3⟩:∃w3,w3=setBlock w1 w.heap.size (.mapIter (some mb) c (GH.push e.born) c):=⟨_,rfl⟩;rw[hk,<-hw3] at qE;refine⟨true,[.int .i64 k,e.val],w3,qE,?_⟩;have m3:aU (λk=>k=w.heap.size) w2 w3:=by
   have e1:aU (λk=>k=w.heap.size) w1 w3:=by rw[hw3];exact lZ w1 _ _
   rcases Uy with rfl|rfl
   ·exact e1
   ·exact(bY w2).wk.tr e1
  have hr3:w3.heap[w.heap.size]? =some (.mapIter (some mb) c (GH.push e.born) c):=by
   have:w.heap.size<w1.heap.size:=by rcases Uy with rfl|rfl<;>exact rlt
   rw[hw3];unfold setBlock;simp[this]
  have gK:mb≠w.heap.size:=aB;have hes3:w3.heap[mb]? =some (.map es c):=(m3.block mb (pG hmb (by have:=u2.m.size;omega)) gK).trans hes2;have h3:JG a tb mb g s2 w3 S2:=bG.aK h2 m3 λk hk e=>hnr (by rw[<-show k=w.heap.size from e];exact hk);have u3:Up S S2 w w3:=⟨u2.m.trans m3 λk hk e=>by have e':k=w.heap.size:=e;omega,u2.s⟩;refine⟨k,[e.val],w3,?_,?_⟩
  ·rw[run_entry_at (P:=prog) w3 w.heap.size mb c GH es c e hr3 hes3 hem hB.2,hk]
  have hsn':∀(es':Array MapEntry),(∀x∈es'.toList,x∈es.toList)->¬(k<KO/\e∈es'.toList)->∀x∈es'.toList,(GH.push e.born).contains x.born=true->∀k':Int,x.key=.int .i64 k'->¬k'<KO:=by
   intro es' LU pA x hx hc k' lT;rw[contains_push] at hc;cases Vf:GH.contains x.born with
   |true=>exact hsn x (LU x hx) Vf k' lT
   |false=>
    rw[Vf,Bool.false_or] at hc;have hb:x.born=e.born:=by simpa using hc
    have hxe:=born_inj hB.2 (LU x hx) hem hb;subst hxe;rw[hk] at lT;cases lT
    exactλcC=>pA ⟨cC,hx⟩
  refine aJ (λcC=>?_) (λkC=>?_)
  ·refine aA rfl (aE (k:=.ptr) (some ⟨tb,0,none⟩) h3.cells.1 ?_);refine cO (cs:=[.int .i64 k]) λw4 b4 k4 z4=>?_;have h4:=bG.kp h3 k4;obtain⟨S4,ht4,hnmb,hS4,eO⟩:=h4.tim2;have b3:=bG.gX h3;refine Stop_i (sl:=⟨some ⟨w3.heap.size,0,none⟩,1,1⟩) ht4 (mO eX [k] b4 rfl dN) (λb hb=>by cases hb;exact⟨λhs=>by have:=b3 _ (hS4 _ hs);simp at this,by show w3.heap.size<_;omega⟩) λw5 S5 ht5 u5=>?_;obtain⟨S6,h6,u6⟩:=eO _ w5 S5 u5 ht5;have rlt3:w.heap.size<w3.heap.size:=by have:=m3.size;omega
   have hr5:w5.heap[w.heap.size]? =some (.mapIter (some mb) c (GH.push e.born) c):=by rw[u5.m.block _ aB λh=>hnr (hS4 _ h),k4.block _ rlt3 id,hr3]
   have hes5:w5.heap[mb]? =some (.map es c):=by have:mb<w3.heap.size:=aB;rw[u5.m.block _ aB hnmb,k4.block _ this id,hes3]
   refine aA rfl (aE (k:=.map) (some mb) h6.cells.2.2.2.1 ?_);refine h6.del2 hes5 k hgk λw7 j S7 h7 hs7 m7 hmS hes7 hj hkj=>?_;have er:(es.eraseIdxIfInBounds j).toList=es.toList.eraseIdx j:=by unfold Array.eraseIdxIfInBounds;rw[dif_pos hj];simp
   have LU:∀x∈(es.eraseIdxIfInBounds j).toList,x∈es.toList:=λx hx=>by rw[er] at hx;exact List.mem_of_mem_eraseIdx hx
   have hne7:¬w.heap.size=mb:=λe=>gK e.symm;have hr7:w7.heap[w.heap.size]? =some (.mapIter (some mb) c (GH.push e.born) c):=by rw[m7.block _ (by have:=u5.m.size;omega) hne7,hr5]
   have xi:e∉(es.eraseIdxIfInBounds j).toList:=λhx=>by
    have:=(ni h7.map hes7).1 e hx;obtain⟨k',lT,DB⟩:=this;rw[hk] at lT;cases lT;simp at DB
   have gD:(leftOf (es.eraseIdxIfInBounds j) (GH.push e.born)).size<=(leftOf es (GH.push e.born)).size:=by
    have e1:∀(es:Array MapEntry) (p:MapEntry->Bool),(es.filter p).size=(es.toList.filter p).length:=λes p=>by rw[<-Array.toList_filter,Array.length_toList]
    unfold leftOf;rw[e1,e1,er];exact((List.eraseIdx_sublist _ _).filter _).length_le
   have hlt7:=left_shrinks es GH e he;refine hX (leftOf (es.eraseIdxIfInBounds j) (GH.push e.born)).size _ _ aB ⟨es.eraseIdxIfInBounds j,GH.push e.born,_,_,S7,rfl,h7,⟨((u3.tr ((Up.aO k4).tr u6)).m.trans m7 λk' lT e'=>?_),λk' lT=>(u3.tr ((Up.aO k4).tr u6)).s k' (hs7 k' lT)⟩,hes7,hr7,λx hx=>PQ x (LU x hx),λhs=>?_,hsn' _ LU λh=>xi h.2,⟨q1,q2,q3,by show s2.n-1<=s.n;omega,λx hx=>q5 x hx.2⟩,⟨ir.dA,by show s2.n-1<=s2.dA;have:=ir.RV;omega,λx hx=>?_,λx bs hb=>?_,?_⟩⟩
   ·have:=(u3.tr ((Up.aO k4).tr u6)).s k' (by rw[show k'=mb from e'];exact hmS);rcases this with h|h
    ·exact h
    ·omega
   ·rcases u6.s _ (hs7 _ hs) with h|h
    ·exact hnr h
    ·omega
   ·dsimp only;rw[if_neg hx.1];exact ir.IQ x hx.2
   ·dsimp only at hb
    by_cases fp:x=k
    ·rw[if_pos fp] at hb;cases hb
    ·rw[if_neg fp] at hb;exact ir.len x bs hb
   ·have:=ir.nx;show 0<=s2.next/\s2.next-((s2.n-1:Nat):Int)<=_
    omega
  ·have hlt7:=left_shrinks es GH e he;exact hX _ _ _ hlt7 ⟨es,GH.push e.born,g,s2,S2,rfl,h3,u3,hes3,hr3,PQ,hnr,hsn' es (λ_=>id) λh=>kC h.1,⟨q1,q2,q3,q4,q5⟩,ir⟩
end
end
end Go.Proofs.YtihggjgakbgomaaGreat
namespace Go.Proofs.YtihggjgakbgomaaGreat
open Go Go.Den
section
theorem Gt:∀s:Sl,(eS s).length=1:=λ_=>rfl
theorem oneS1:∀s:Sl,∀u∈eS s,u.oneCell'=true:=by intro b u hu;simp at hu;subst hu;rfl
def BZ(ss:List Sl)(FB:List (List cG)):As:=λw S=>ss.length=FB.length/\(∀(i:Nat) sl bs,ss[i]? =some sl->FB[i]? =some bs->Rd w sl 1 eU bs/\∀b,sl.b=some b->S b.block)/\∀k,S k->k<w.heap.size
instance{ss:List Sl}{FB:List (List cG)}:bG (BZ ss FB):=⟨λh=>h.2.2,λh m hn=>⟨h.1,λi sl bs h1 h2=>⟨(h.2.1 i sl bs h1 h2).1.aK m fQ λb hb=>hn _ ((h.2.1 i sl bs h1 h2).2 b hb),(h.2.1 i sl bs h1 h2).2⟩,λk hk=>pG (h.2.2 k hk) m.size⟩⟩
def VO(s:Sl)(FB:List (List cG)):As:=Ex λss=>bJ (rS CB 1 eS s ss) (BZ ss FB)
instance{s:Sl}{FB:List (List cG)}:bG (VO s FB):=by unfold VO;infer_instance
theorem TY{ss:List Sl}{FB:List (List cG)}{r:Sl}{bs:List cG}{w:aH}{S:BS}(h:bJ (BZ ss FB) (DQ 1 eU r bs) w S):BZ (ss++[r]) (FB++[bs]) w S:=by
 have hb:=bG.gX h;obtain⟨S1,S2,h1,h2,d,e⟩:=h;refine⟨by simp[h1.1],λi sl b hi hj=>?_,hb⟩
 by_cases cC:i<ss.length
 ·rw[Fw cC] at hi;rw[Fw (by rw[<-h1.1];exact cC)] at hj;exact⟨(h1.2.1 i sl b hi hj).1,λa ha=>(e _).2 (.inl ((h1.2.1 i sl b hi hj).2 a ha))⟩
 ·rw[Fx aB] at hi;rw[Fx (by have:=h1.1;omega),<-h1.1] at hj;cases hk:i-ss.length with
  |succ n=>rw[hk] at hi;simp at hi
  |zero=>rw[hk] at hi hj;cases hi;cases hj;exact⟨h2.1,λa ha=>(e _).2 (.inr ((h2.2.2.2 _).2 ⟨a,ha,rfl⟩))⟩
theorem vecS_nil{wx:aH}:rS CB 1 eS aZ ([]:List Sl) wx (λ_=>False):=⟨dD.nil _ _ _ _,λk=>⟨False.elim,λ⟨b,hb,_⟩=>by cases hb⟩⟩
theorem Ew{wx:aH}:VO aZ [] wx (λ_=>False):=⟨[],λ_=>False,λ_=>False,vecS_nil,⟨rfl,λi sl bs h=>by simp at h,λk h=>h.elim⟩,λ_ h _=>h,λk=>⟨.inl,λh=>h.elim id id⟩⟩
theorem bJ.pR{A B:As}{w:aH}{S:BS}(h:A w S)(hB:B w (λ_=>False)):bJ A B w S:=⟨S,_,h,hB,λ_ _ h=>h,λk=>⟨.inl,λh=>h.elim id False.elim⟩⟩
structure Vj where
 dA:Nat
 next:Int
 f:Int->Option (List cG)
 n:Nat
structure Vj.Ok(t:Vj):Prop where
 dA:t.dA<=16
 nx:0<=t.next/\t.next<=4294967296
 Vy:∀x bs,t.f x=some bs->t.next<=x/\x<t.next+t.dA/\x<4294967296/\bs.length<=5000
def LW(a mb:Nat)(g:Int->Option UN.T)(t:Vj):As:=bJ (uL a tTaker [aD (t.dA:Int),aD t.next,.map (some mb)]) (Cz mb g t.f t.n)
instance{a mb:Nat}{g:Int->Option UN.T}{t:Vj}:bG (LW a mb g t):=by unfold LW;infer_instance
def Gf(a:Nat)(t:Vj):As:=Ex λmb:Nat=>Ex λg:Int->Option UN.T=>LW a mb g t
instance{a:Nat}{t:Vj}:bG (Gf a t):=by unfold Gf;infer_instance
section
variable{w:aH}{S:BS}{a mb:Nat}{g:Int->Option UN.T}{t:Vj}
theorem LW.cells(h:LW a mb g t w S):w.cell? ((⟨a,0,none⟩:Addr).add 0)=some (aD (t.dA:Int))/\w.cell? ((⟨a,0,none⟩:Addr).add 1)=some (aD t.next)/\w.cell? ((⟨a,0,none⟩:Addr).add 2)=some (.map (some mb)):=by
 obtain⟨S1,S2,h1,_⟩:=h;exact⟨aP h1 rfl,aP h1 rfl,aP h1 rfl⟩
theorem LW.map(h:LW a mb g t w S):kV w mb FA UN g t.n:=by
 obtain⟨S1,S2,_,⟨S3,S4,h3,_⟩,_⟩:=h;exact h3.1
theorem LW.bods(h:LW a mb g t w S):∃S',xt g t.f w S':=by
 obtain⟨S1,S2,_,⟨S3,S4,_,h3,_⟩,_⟩:=h;exact⟨_,h3⟩
theorem LW.Ec(h:LW a mb g t w S)(ok:t.Ok):t.n<=t.dA:=by
 obtain⟨ks,k1,k2,k3⟩:=h.map.Vy;obtain⟨_,hb⟩:=h.bods;have hk:∀x∈ks,t.next<=x/\x<t.next+t.dA:=λx hx=>by
  have:=(k3 x).1 hx;rw[hb.iff] at this;obtain⟨bs,hbs⟩:=Lt.1 this;have:=ok.Vy x bs hbs;exact⟨this.1,this.2.1⟩
 have:=nodup_sub (ls:=(List.range t.dA).map λi:Nat=>t.next+(i:Int)) k1 λx hx=>by
  have:=hk x hx;exact mD.2 ⟨(x-t.next).toNat,List.mem_range.2 aB,aB⟩
 simp at this;omega
theorem zi{Q:Int->aH->Prop}(h:Gf a t w S)(hQ:Q t.next w):IA (some ⟨a,0,none⟩) w Q:=by
 unfold IA;obtain⟨mb,g,h⟩:=h;exact aF (λh=>by simp at h) (λ_=>aA rfl (aE (k:=.i) t.next h.cells.2.1 hQ))
theorem TkNew_i{dA:Nat}{Q:cR->Int->aH->Prop}(hw:1<=dA/\dA<=16)
  (hQ:∀w' S',Gf (w.heap.size+1) ⟨dA,0,λ_=>none,0⟩ w' S'->aL w w'->(∀k,S' k->w.heap.size<=k)->Q (some ⟨w.heap.size+1,0,none⟩) 0 w'):EO (dA:Int) w Q:=by
 unfold EO;refine aJ (λh=>aB) (λ_=>aJ (λh=>aB) (λ_=>?_));refine rA (ek:=FA) (kn:=UN) λhm k1=>?_;refine cO (cs:=[aD (dA:Int),aD 0,.map (some w.heap.size)]) λw2 b2 k2 z2=>?_;have e:(w.alloc (.map #[] 0)).heap.size=w.heap.size+1:=by simp
 rw[e] at b2 ⊢;have hB:Cz w.heap.size (λ_=>none) (λ_=>none) 0 w2 (λk=>k=w.heap.size\/False):=⟨λk=>k=w.heap.size,λ_=>False,⟨hm.aK k2 id,λk=>Iff.rfl⟩,⟨λx=>rfl,λx sl b h=>(by cases h),λx sl b h=>(by cases h),λx y sl UJ b b' h=>(by cases h),λk=>⟨False.elim,λ⟨x,sl,b,h,_⟩=>by cases h⟩⟩,λ_ _ h=>h,λ_=>Iff.rfl⟩;refine hQ w2 (λk=>k=w.heap.size+1\/(k=w.heap.size\/False)) ⟨w.heap.size,λ_=>none,_,_,b2,hB,λk h1 h2=>?_,λ_=>Iff.rfl⟩ (k1.tr k2) λk hk=>?_
 ·rcases h2 with h2|h2
  ·omega
  ·exact h2
 ·rcases hk with hk|hk|hk
  ·omega
  ·omega
  ·exact hk.elim
theorem Take_i{seq:Int}{body:Sl}{bs:List cG}{Q:Sl->Bool->aH->Prop}(h:Gf a t w S)(ok:t.Ok)(hs:u32 seq)(hb:Rd w body 1 eU bs)(ho:LL body S w)(hl:bs.length<=5000)
  (hQ:∀oF FB c t' w' S',bJ (Gf a t') (VO oF FB) w' S'->Up S S' w w'->t'.Ok->t'.dA=t.dA->FB.length<=20->(∀b∈FB,b.length<=5000)->((∀x,t.f x=none)->seq=t.next->0<t.dA->FB=[bs]/\t'.next=t.next+1/\∀x,t'.f x=none)->Q oF c w'):
  PE (some ⟨a,0,none⟩) seq body w Q:=by
 unfold PE;obtain⟨mb,g,h⟩:=h;have hw:=ok.dA;have Vd:=ok.nx;have hd:=bG.dr h;have kd:=bY w;have no:∀w',aL w w'->¬(seq=t.next/\0<t.dA/\∀x,t.f x=none)->Q aZ false w':=λw' k hn=>hQ _ [] _ t w' S (bJ.pR ⟨mb,g,bG.kp h k⟩ Ew) (Up.aO k) ok rfl (dE _) dN λh1 h2 h3=>absurd ⟨h2,h3,h1⟩ hn
 refine aF (λh=>by simp at h) (λ_=>aA rfl (aE (k:=.i) t.next hd.cells.2.1 (aJ (λcC=>no _ kd λhh=>aB) (λkC=>?_))))
 refine aA rfl (aE (k:=.i) t.next hd.cells.2.1 (aA rfl (aE (k:=.i) (t.dA:Int) hd.cells.1 ?_)))
 have h1:=hs.1;have h2:=hs.2;rw[gZ (n:=seq-t.next) aB aB]
 refine aJ (λhgt=>no _ kd λhh=>aB) (λcC=>?_);refine aA rfl (aE (k:=.map) (some mb) hd.cells.2.2 ?_);refine OU (kn:=UN) TF lF (z:=(aZ:Sl)) TO hd.map seq ?_;obtain⟨_,hB⟩:=hd.bods;refine aF (λhsm=>no _ kd λhh=>?_) (λhsm=>?_)
 ·rw[hB.iff,hh.2.2] at hsm;cases hsm
 have kdd:=kd.tr (bY w.drew);have hdd:=bG.kp h kdd;refine aA rfl (aE (k:=.map) (some mb) hdd.cells.2.2 ?_);refine vR (hb.aK kdd fQ λ_ _=>id) aB λr w2 S2 _ k2 _ Nd f2=>⟨(bG.kp hdd k2).cells.2.2,?_⟩;obtain⟨S3,hBod,_,eO⟩:=(bJ.r hdd).put;refine hBod.put k2 Nd f2 seq λw3 S4 h3 u3=>?_;obtain⟨S5,h5,u5⟩:=eO _ w3 S4 u3 h3;have hfs:t.f seq=none:=by rw[hB.iff] at hsm;simpa using hsm
 rw[hfs] at h5
 let t1:Vj:=⟨t.dA,t.next,λy=>if y=seq then some bs else t.f y,t.n+1⟩
 have Qk:t1.Ok:=⟨ok.dA,ok.nx,λx b hx=>by
  rcases JI hx with⟨e1,e2⟩|⟨_,hx⟩
  ·exact⟨by show t.next<=x;omega,by show x<t.next+t.dA;omega,aB,by rw[e2];exact hl⟩
  ·exact ok.Vy x b hx⟩
 have U5:Up S S5 w w3:=(Up.aO kdd).tr u5;refine bL (λc tt w4=>∃(oF:Sl) (FB:List (List cG)) (g:Int->Option UN.T) (t':Vj) (S4:BS),c=t'.n/\tt=(oF,())/\bJ (LW a mb g t') (VO oF FB) w4 S4/\Up S S4 w w4/\t'.Ok/\t'.dA=t.dA/\FB.length+t'.n<=17/\(∀b∈FB,b.length<=5000)/\
   ((∀x,t.f x=none)->seq=t.next->(FB=[]/\t'.next=t.next/\∀x,t'.f x=if x=seq then some bs else none)\/(FB=[bs]/\t'.next=t.next+1/\∀x,t'.f x=none))) t1.n
  ⟨aZ,[],_,t1,S5,rfl,rfl,bJ.pR (show LW a mb _ t1 w3 S5 from h5) Ew,U5,Qk,rfl,by have:=(show LW a mb _ t1 w3 S5 from h5).Ec Qk;have:t1.dA=t.dA:=rfl;simp;omega,by simp,λh1 h2=>.inl ⟨rfl,rfl,λx=>by show(if x=seq then some bs else t.f x)=_;rw[h1 x]⟩⟩ ?_
 rintro c tt w4 ⟨oF,FB,g,t',S4,rfl,rfl,h4,u4,Qj,q1,q2,q3,q4⟩ X hX;dsimp only;have h4d:=bG.dr h4;obtain⟨T,hT,_,_⟩:=(bJ.l h4d).put;refine aA rfl (aE (k:=.map) (some mb) hT.cells.2.2 (aA rfl (aE (k:=.i) t'.next hT.cells.2.1 ?_)))
 refine OU (kn:=UN) TF lF (z:=(aZ:Sl)) TO hT.map t'.next ?_
 obtain⟨_,hB4⟩:=hT.bods;refine aF (λhn=>?_) (λhy=>?_)
 ·refine hQ oF FB true t' _ S4 (h4d.mono (λ_ h=>⟨mb,g,h⟩) λ_ h=>h) (u4.tr (Up.aO (bY w4))) Qj q1 aB q3 λe1 e2 e3=>?_;rcases q4 e1 e2 with⟨_,e5,e6⟩|h
  ·have:t'.f t'.next=some bs:=by rw[e6,if_pos aB]
   have h7:=hB4.iff t'.next
   rw[this] at h7;rw[h7] at hn;cases hn
  ·exact h
 ·have uf:(g t'.next).isSome=true:=by simpa using hy
  obtain⟨x6,hx6⟩:∃x6:Sl,g t'.next=some x6:=Lt.1 uf
  have hfs6:(t'.f t'.next).isSome=true:=by rw[<-hB4.iff];exact uf
  obtain⟨b6,hb6⟩:=Lt.1 hfs6;have rd6:=hB4.rd t'.next x6 b6 hx6 hb6
  have blk6:=hB4.lt t'.next x6
  have key6:=Qj.Vy _ _ hb6;have ex6:(g t'.next).getD (aZ:Sl)=x6:=by rw[hx6];rfl
  rw[ex6];have kdd4:=bY w4.drew;have h4dd:=bG.kp h4d kdd4;have rd6d:=rd6.aK kdd4 fQ λ_ _=>id;obtain⟨ST,SG,hTT,hGG,dTG,eTG⟩:=h4dd;refine aA rfl (aE (k:=.map) (some mb) hTT.cells.2.2 (aA rfl (aE (k:=.i) t'.next hTT.cells.2.1 ?_)))
  obtain⟨SB,SM,FF,Wb,dBM,eBM⟩:=hTT;obtain⟨es,cl,Ve⟩:∃es c,w4.drew.drew.heap[mb]? =some (.map es c):=by obtain⟨S9,An,hm,_⟩:=Wb;obtain⟨es,c,l,h1,_⟩:=hm.1;exact⟨es,c,h1⟩
  refine Wb.gz Ve t'.next uf λw6 j SM' h6 Nh hx6b m6 hmS6 _ _ _=>?_
  have hmbM:SM mb:=Nh _ hmS6;have mT:∀k,k=mb->SM k:=λk e=>by rw[e];exact hmbM
  have blkT:=bG.aK FF m6 λk hk e=>dBM k hk (mT k e);have gg6:=bG.aK hGG m6 λk hk e=>dTG k ((eBM k).2 (.inr (mT k e))) hk;have rx6:DQ 1 eU x6 b6 w6 (sU x6):=by
   refine⟨rd6d.aK m6 fQ λb hb e=>(hx6b x6 b hx6 hb).1 ?_,fQ,λb hb=>?_,λ_=>Iff.rfl⟩
   ·rw[show b.block=mb from e];exact hmS6
   ·have:=blk6 b hx6 hb;have:=m6.size;simpa using pG ‹b.block<w4.drew.heap.size› this
  have x6S:∀k,sU x6 k->SM k/\¬SM' k:=λk ⟨b,hb,e⟩=>by rw[e];exact⟨(hx6b x6 b hx6 hb).2,(hx6b x6 b hx6 hb).1⟩
  let t2:Vj:=⟨t'.dA,t'.next,λy=>if y=t'.next then none else t'.f y,t'.n-1⟩
  have qS:bJ (LW a mb (λy=>if y=t'.next then none else g y) t2) (bJ (VO oF FB) (DQ 1 eU x6 b6)) w6 (λk=>(SB k\/SM' k)\/(SG k\/sU x6 k)):=
   ⟨λk=>SB k\/SM' k,λk=>SG k\/sU x6 k,⟨SB,SM',blkT,h6,λk h1 h2=>dBM k h1 (Nh k h2),λ_=>Iff.rfl⟩,⟨SG,sU x6,gg6,rx6,λk h1 h2=>dTG k ((eBM k).2 (.inr (x6S k h2).1)) h1,λ_=>Iff.rfl⟩,
    λk h1 h2=>h2.elim (λh=>dTG k ((eBM k).2 (h1.imp id (Nh k))) h) λh=>h1.elim (λhb=>dBM k hb (x6S k h).1) λhm=>(x6S k h).2 hm,λ_=>Iff.rfl⟩
  have U6:Up S4 (λk=>(SB k\/SM' k)\/(SG k\/sU x6 k)) w4.drew.drew w6:=⟨m6.mono λk _ e=>(eTG k).2 (.inl ((eBM k).2 (.inr (mT k e)))),λk hk=>.inl ((eTG k).2 (by
   rcases hk with(h|h)|(h|h)
   ·exact .inl ((eBM k).2 (.inl h))
   ·exact .inl ((eBM k).2 (.inr (Nh k h)))
   ·exact .inr h
   ·exact .inl ((eBM k).2 (.inr (x6S k h).1))))⟩
  refine cO (cs:=[sv x6]) λw7 b7 k7 z7=>?_;have hall7:=bG.kp qS k7;obtain⟨SX,SY,hX1,⟨SV,SR,⟨ss,hV⟩,hR,dVR,eVR⟩,dXY,eXY⟩:=hall7;have hall7':bJ (LW a mb (λy=>if y=t'.next then none else g y) t2) (bJ (rS CB 1 eS oF ss) (bJ (BZ ss FB) (DQ 1 eU x6 b6))) w7 (λk=>(SB k\/SM' k)\/(SG k\/sU x6 k)):=
   ⟨SX,SY,hX1,bJ.asr ⟨SV,SR,hV,hR,dVR,eVR⟩,dXY,eXY⟩
  have hssl:ss.length=FB.length:=by obtain⟨_,_,_,hL,_⟩:=hV;exact hL.1
  obtain⟨S8,hV8,_,back8⟩:=((bJ.r hall7').c λT hT=>bJ.l hT).put;refine WO (x:=⟨some ⟨w6.heap.size,0,none⟩,1,1⟩) NL Gt oneS1 hV8 (mO Gt [x6] b7 rfl dN) (by simp;omega) aB λs2 w8 S9 v9 u9=>?_;obtain⟨An,Ea,u10⟩:=back8 _ w8 S9 u9 v9;obtain⟨ie,hB11,_,Hj⟩:=((bJ.l Ea).c λT hT=>bJ.l hT).put;refine aA rfl (aE (k:=.i) t'.next (aP hB11 rfl) (aA rfl ?_))
  refine qY hB11 cZ dN rfl rfl λw9 b9 u9'=>?_;obtain⟨YP,Fp,Ff⟩:=Hj _ w9 _ u9' b9;rw[gZ (n:=t'.next+(1:Int)) (by have:=Qj.nx;omega) (by have:=Qj.nx;omega)] at Fp
  have hn0:0<t'.n:=by have hT':LW a mb g t' w4.drew T:=hT;obtain⟨ks,k1,k2,k3⟩:=hT'.map.Vy;rw[<-k2];exact List.length_pos_of_mem ((k3 _).2 uf)
  refine hX (t'.n-1) _ _ aB ⟨s2,FB++[b6],_,⟨t'.dA,t'.next+1,λy=>if y=t'.next then none else t'.f y,t'.n-1⟩,YP,rfl,rfl,Fp.mono (λ_ h=>h) (λ_ h=>⟨ss++[x6],h.mono (λ_ h=>h) λ_ h=>TY h⟩),(u4.tr (Up.aO ((bY w4).tr kdd4))).tr (((U6.tr (Up.aO k7)).tr u10).tr Ff),⟨Qj.dA,by have:=Qj.nx;show 0<=t'.next+1/\t'.next+1<=4294967296;omega,λx b hx=>?_⟩,q1,by simp;omega,λb hb=>?_,λe1 e2=>.inr ?_⟩
  ·obtain⟨e1,e2⟩:=del_eq hx;have:=Qj.Vy x b e2;show t'.next+1<=x/\x<t'.next+1+t'.dA/\_
   omega
  ·rcases kE.1 hb with hb|hb
   ·exact q3 b hb
   ·rw[oG.1 hb];exact key6.2.2.2
  ·rcases q4 e1 e2 with⟨e3,e4,e5⟩|⟨e3,e4,e5⟩
   ·have:t'.f t'.next=some bs:=by rw[e5,if_pos aB]
    rw[hb6] at this;cases this;refine⟨by rw[e3];rfl,by show t'.next+1=_;omega,λx=>?_⟩
    show(if x=t'.next then none else t'.f x)=none
    by_cases hx:x=t'.next
    ·rw[if_pos hx]
    ·rw[if_neg hx,e5,if_neg aB]
   ·rw[e5] at hb6;cases hb6
end
end
open Tryz (prog)
section
def BV(r:Sl)(gs:List fG):As:=Ex λxs:List GX=>Pr (xs.map (·.1)=gs) (bJ (rS GR 6 eG r xs) (BZ (xs.map (·.2)) (xs.map (·.1.body))))
instance{r:Sl}{gs:List fG}:bG (BV r gs):=by unfold BV;infer_instance
theorem WK{wx:aH}:BV aZ [] wx (λ_=>False):=⟨[],rfl,λ_=>False,λ_=>False,⟨dD.nil _ _ _ _,λk=>⟨False.elim,λ⟨b,hb,_⟩=>by cases hb⟩⟩,⟨rfl,λi sl bs h=>by simp at h,λk h=>h.elim⟩,λ_ h _=>h,λk=>⟨.inl,λh=>h.elim id id⟩⟩
theorem listA_app{ss ss':List Sl}{FB bss':List (List cG)}{w:aH}{S:BS}(h:bJ (BZ ss FB) (BZ ss' bss') w S):BZ (ss++ss') (FB++bss') w S:=by
 have hb:=bG.gX h;obtain⟨S1,S2,h1,h2,d,e⟩:=h;refine⟨by simp[h1.1,h2.1],λi sl b hi hj=>?_,hb⟩
 by_cases cC:i<ss.length
 ·rw[Fw cC] at hi;rw[Fw (by rw[<-h1.1];exact cC)] at hj;exact⟨(h1.2.1 i sl b hi hj).1,λa ha=>(e _).2 (.inl ((h1.2.1 i sl b hi hj).2 a ha))⟩
 ·rw[Fx aB] at hi;rw[Fx (by have:=h1.1;omega),<-h1.1] at hj;exact⟨(h2.2.1 _ sl b hi hj).1,λa ha=>(e _).2 (.inr ((h2.2.1 _ sl b hi hj).2 a ha))⟩
theorem grs_snoc{r s:Sl}{gs:List fG}{g:fG}{w:aH}{S T:BS}{K:Sl->aH->Prop}(h:BV r gs w S)(hb:DQ 1 eU s g.body w T)(hd:∀k,S k->T k->False)(hl:gs.length<=1000)
  (hK:∀r' w' S',BV r' (gs++[g]) w' S'->Up (λk=>S k\/T k) S' w w'->K r' w'):aG w (eG (g,s)).toArray GR λa w1=>aW prog Ry Ry r (.slice (some a) 1 1) w1 K:=by
 refine cO λw1 b1 k1 z1=>?_;obtain⟨xs,rfl,S1,S2,h1,h2,d,e⟩:=h;rw[oH] at hl;have hlr:bJ (BZ (xs.map (·.2)) (xs.map (·.1.body))) (DQ 1 eU s g.body) w (λk=>S2 k\/T k):=bJ.xR h2 hb λk a b=>hd k ((e k).2 (.inr a)) b;have qS:bJ (rS GR 6 eG r xs) (bJ (BZ (xs.map (·.2)) (xs.map (·.1.body))) (DQ 1 eU s g.body)) w (λk=>S k\/T k):=⟨S1,_,h1,hlr,λk a b=>b.elim (d k a) λb=>hd k ((e k).2 (.inl a)) b,λk=>by show S k\/T k↔_;rw[e k,or_assoc]⟩;obtain⟨S3,h3,_,eO⟩:=(bJ.l (bG.kp qS k1)).put;refine WO (x:=⟨some ⟨w.heap.size,0,none⟩,1,1⟩) Js Vx Lq h3 (mO Vx [(g,s)] b1 rfl dN) (by simp;omega) aB λr' w2 S4 v4 u4=>?_;obtain⟨S5,h5,u5⟩:=eO _ w2 S4 u4 v4;refine hK r' w2 S5 ⟨xs++[(g,s)],by simp,?_⟩ ((Up.aO k1).tr u5);have:=h5.mono (λ_ h=>h) λ_ h=>TY h;simpa using this
structure kP where
 s:RU
 aM:Int
 t:Vj
 gY:List (List cG)
structure kP.Ok(c:kP):Prop where
 s:c.s.Ok
 t:c.t.Ok
 gY:c.gY.length<=64
 len:∀b∈c.gY,b.length<=70000
def Gk(sl:Sl)(l:List (List cG)):As:=Ex λss=>bJ (Rv CB 1 eS sl ss) (BZ ss l)
instance{s:Sl}{FB:List (List cG)}:bG (Gk s FB):=by unfold Gk;infer_instance
def YZ(a sp tp:Nat)(sl:Sl)(c:kP):As:=bJ (uL a vj [.pointer (some ⟨sp,0,none⟩),aD c.aM,.pointer (some ⟨tp,0,none⟩),sv sl]) (bJ (Gf tp c.t) (bJ (YY sp c.s) (Gk sl c.gY)))
instance{a sp tp:Nat}{sl:Sl}{c:kP}:bG (YZ a sp tp sl c):=by unfold YZ;infer_instance
def lW(a:Nat)(c:kP):As:=Ex λsp:Nat=>Ex λtp:Nat=>Ex λsl:Sl=>YZ a sp tp sl c
instance{a:Nat}{c:kP}:bG (lW a c):=by unfold lW;infer_instance
def kP.Nt(c:kP)(x:Int):fG:=⟨c.aM,1,x,c.t.next,0,(c.s.f x).getD []⟩
def kP.PT(s:RU)(aM nx:Int)(t:Vj):List (List cG)->List fG×kP
 | []=>([],⟨s,aM,t,[]⟩)
 |b::r=>if s.iI=false/\s.n<s.dA then((⟨aM,1,s.next,nx,0,b⟩:fG)::(PT (s.send b) aM nx t r).1,(PT (s.send b) aM nx t r).2) else([],⟨s,aM,t,b::r⟩)
def kP.rR(c:kP):List fG×kP:=PT c.s c.aM c.t.next c.t c.gY
section
variable{w:aH}{S:BS}{a sp tp:Nat}{sl:Sl}{c:kP}
theorem YZ.cells(h:YZ a sp tp sl c w S):w.cell? ((⟨a,0,none⟩:Addr).add 0)=some (.pointer (some ⟨sp,0,none⟩))/\w.cell? ((⟨a,0,none⟩:Addr).add 1)=some (aD c.aM)/\w.cell? ((⟨a,0,none⟩:Addr).add 2)=some (.pointer (some ⟨tp,0,none⟩))/\w.cell? ((⟨a,0,none⟩:Addr).add 3)=some (sv sl):=by
 obtain⟨S1,S2,h1,_⟩:=h;exact⟨aP h1 rfl,aP h1 rfl,aP h1 rfl,aP h1 rfl⟩
theorem YZ.snd(h:YZ a sp tp sl c w S):ig w S (YY sp c.s) λX=>bJ (uL a vj [.pointer (some ⟨sp,0,none⟩),aD c.aM,.pointer (some ⟨tp,0,none⟩),sv sl]) (bJ (Gf tp c.t) (bJ X (Gk sl c.gY))):=
 (bJ.r h).c λT hT=>(bJ.r hT).c λT hT=>bJ.l hT
theorem YZ.tkr(h:YZ a sp tp sl c w S):ig w S (Gf tp c.t) λX=>bJ (uL a vj [.pointer (some ⟨sp,0,none⟩),aD c.aM,.pointer (some ⟨tp,0,none⟩),sv sl]) (bJ X (bJ (YY sp c.s) (Gk sl c.gY))):=
 (bJ.r h).c λT hT=>bJ.l hT
theorem YZ.yg(h:YZ a sp tp sl c w S):sl.l=c.gY.length:=by
 obtain⟨S1,S2,_,⟨S3,S4,_,⟨S5,S6,_,⟨ss,S7,S8,hv,hl,_⟩,_⟩,_⟩,_⟩:=h;rw[hv.1.len,hl.1]
theorem zp{Q:Bool->aH->Prop}(h:lW a c w S)(hQ:Q c.s.iI w):BM (some ⟨a,0,none⟩) w Q:=by
 unfold BM;obtain⟨sp,tp,sl,h⟩:=h;obtain⟨S1,⟨tb,mb,g,hs⟩,_,_⟩:=h.snd.put;exact aF (λh=>by simp at h) (λ_=>aA rfl (aE (k:=.ptr) (some ⟨sp,0,none⟩) h.cells.1 (ph hs hQ)))
theorem data_i{x:Int}{Q:Int×Int×Int×Int×Int×Sl×Unit->aH->Prop}(h:lW a c w S)(ok:c.Ok)(hQ:∀s w',DQ 1 eU s (c.Nt x).body w' (sU s)->(∀b,s.b=some b->w.heap.size<=b.block)->aL w w'->Q (JC (c.Nt x,s)) w'):IE (some ⟨a,0,none⟩) x w Q:=by
 unfold IE;obtain⟨sp,tp,sl,h⟩:=h;refine cO (cs:=eG (⟨0,0,0,0,0,[]⟩,aZ)) λw1 b1 k1 z1=>aA rfl ?_;have h1:=bG.kp h k1;refine aE (k:=.ptr) (some ⟨sp,0,none⟩) h1.cells.1 ?_;obtain⟨S1,hs,_,_⟩:=h1.snd.put;refine Body_i hs ok.s λr c2 w2 rd f2 k2=>?_;have k2d:=k2.tr (bY w2);have h2:=bG.kp h1 k2d;refine aA rfl (aE (k:=.i) c.aM h2.cells.2.1 (aA rfl (aE (k:=.ptr) (some ⟨tp,0,none⟩) h2.cells.2.2.1 ?_)));obtain⟨S2,ht,_,_⟩:=h2.tkr.put;refine zi ht ⟨h2.cells.2.1,?_⟩;have o2:=b1.1.aK k2d id;refine eY (vs:=eG (c.Nt x,r)) o2 rV rfl (Lq _) λw4 o4 m4 _=>?_;refine aX (l:=kG) (JC (c.Nt x,r)) (o4.holds λj v hj=>by rw[gI];exact hj) ?_;have K:=k1.tr k2d;refine hQ r w4 (bG.aK (bG.kp rd (bY w2)) m4 λk ⟨b,hb,e⟩ e2=>?_) (λb hb=>by have:=f2 b hb;omega) (K.fresh m4 λk e=>by rw[show k=w.heap.size from e];exact dL _);have:=f2 b hb;omega
theorem owd_tail{b:List cG}{r:List (List cG)}(h:Gk sl (b::r) w S):∃S',Gk ⟨aR sl.b sl.c 1 1,sl.l-1,sl.c-1⟩ r w S'/\(∀k,S' k->S k):=by
 obtain⟨ss,S1,S2,hv,hl,d,e⟩:=h;cases ss with
 |nil=>have:=hl.1;simp at this
 |cons x ss=>
  have jZ:=hv.1.tail Gt
  let s':Sl:=⟨aR sl.b sl.c 1 1,sl.l-1,sl.c-1⟩
  have LU:∀k,(s'.c≠0/\∃b,s'.b=some b/\k=b.block)->S1 k:=λk ⟨hc,b,hb,e⟩=>by
   obtain⟨a0,ha0,e2⟩:=Pj hb;have Dz:sl.c-1≠0:=hc;exact(hv.2 k).2 ⟨aB,a0,ha0,by rw[e,e2]⟩
  refine⟨λk=>(s'.c≠0/\∃b,s'.b=some b/\k=b.block)\/S2 k,⟨ss,_,S2,⟨jZ,λ_=>Iff.rfl⟩,⟨by have:=hl.1;simpa using this,λi sl bs h1 h2=>hl.2.1 (i+1) sl bs (by simpa using h1) (by simpa using h2),hl.2.2⟩,λk h1 h2=>d k (LU k h1) h2,λ_=>Iff.rfl⟩,λk hk=>(e k).2 (hk.imp (LU k) id)⟩
theorem mw{fR:Int}{Q:Sl->aH->Prop}(h:lW a c w S)(ok:c.Ok)(hQ:∀r w' S',bJ (lW a c.rR.2) (BV r c.rR.1) w' S'->Up S S' w w'->c.rR.2.Ok->Q r w'):xH (some ⟨a,0,none⟩) fR w Q:=by
 unfold xH;refine bL (λn t w1=>∃(r:Sl) (gs:List fG) (c1:kP) (S1:BS),n=c1.gY.length/\t=(r,())/\bJ (lW a c1) (BV r gs) w1 S1/\Up S S1 w w1/\c1.Ok/\gs.length+c1.gY.length<=64/\c.rR=(gs++c1.rR.1,c1.rR.2)) c.gY.length
  ⟨aZ,[],c,S,rfl,rfl,bJ.pR h WK,Up.refl _ _,ok,by have:=ok.gY;simp;omega,by simp⟩ ?_
 rintro n t w1 ⟨r,gs,c1,S1,rfl,rfl,h1,u1,Qk,Ni,hp⟩ X hX;dsimp only;have dQ:c1.rR=([],c1)->∀w2,aL w1 w2->Q r w2:=λe w2 k2=>by
  rw[e] at hp;simp only[uA] at hp;rw[hp] at hQ;exact hQ r w2 S1 (bG.kp h1 k2) (u1.tr (Up.aO k2)) Qk
 obtain⟨SC,SG,⟨sp,tp,sl,hc⟩,hg,dCG,eCG⟩:=h1;have hol:=hc.yg;refine aA rfl (aE (k:=.slice) sl hc.cells.2.2.2 (aJ (λhgt=>?_) (λLK=>dQ ?_ w1 (aU.refl _ _))))
 ·obtain⟨st,aM,tk,gY⟩:=c1;cases gY with
  |nil=>simp at hol;omega
  |cons b cJ=>
   refine aA rfl (aE (k:=.ptr) (some ⟨sp,0,none⟩) hc.cells.1 ?_);obtain⟨SS,⟨tb,mb,g,hs⟩,_,_⟩:=hc.snd.put;refine Room_i hs Qk.s λw2 k2=>?_;have GZ:=Qk.s.RV;refine aJ (λhx=>?_) (λhx=>dQ ?_ w2 k2)
   ·have hcan:st.iI=false/\st.n<st.dA:=by
     cases ho:st.iI with
     |true=>simp[ho] at hx
     |false=>simp only[ho,Bool.false_eq_true,if_false] at hx;have:st.n<=st.dA:=GZ;exact⟨rfl,aB⟩
    have kd:=k2.tr (bY w2);have hcd:=bG.kp hc kd;have Nj:=bG.kp hg kd;refine aA rfl (aE (k:=.ptr) (some ⟨sp,0,none⟩) hcd.cells.1 (aA rfl (aE (k:=.slice) sl hcd.cells.2.2.2 ⟨⟨aB,aB⟩,?_⟩)));obtain⟨SO,hso,_,eO⟩:=((bJ.r hcd).c λT hT=>bJ.r hT).put;obtain⟨Sx,Sy,hsA,hoA,dxy,exy⟩:=hso;have hoA2:=hoA;obtain⟨ss,S7,S8,hv,hL,_,Qr⟩:=hoA;cases ss with
    |nil=>have:=hL.1;simp at this
    |cons s3 ss=>
     obtain⟨q,hq,wO⟩:=bP (k:=.slice) (e:=λs:Sl=>s) (hv.1.rd Gt) (show(s3::ss)[0]? =some s3 from rfl);refine aA hq (aE (k:=.slice) s3 wO ?_);obtain⟨rd3,bl3⟩:=hL.2.1 0 s3 b rfl rfl;have gD:b.length<=70000:=Qk.len b dN;have out3:LL s3 Sx w2.drew:=λbb Kz=>⟨λhs=>dxy _ hs ((Qr _).2 (.inr (bl3 bb Kz))),hL.2.2 _ (bl3 bb Kz)⟩;refine Send_i hsA Qk.s rd3 out3 gD hcan.1 hcan.2 λw3 S3 h3 u3=>?_;have bo:=bG.gX hoA2;have hoA3:=bG.aK hoA2 u3.m λk hk lT=>dxy k lT hk;obtain⟨S9,ho9,hs9⟩:=owd_tail hoA3;have dd:=u3.lq dxy bo
     let UJ:Sl:=⟨aR sl.b sl.c 1 1,sl.l-1,sl.c-1⟩
     have Ea:bJ (YY sp (st.send b)) (Gk UJ cJ) w3 (λk=>S3 k\/S9 k):=bJ.xR h3 ho9 λk h1 h2=>dd k h1 (hs9 k h2);obtain⟨An,hc10,u10⟩:=eO _ w3 _ ⟨u3.m.mono λk _ hk=>(exy k).2 (.inl hk),λk hk=>hk.elim (λh=>(u3.s k h).imp (λh=>(exy k).2 (.inl h)) id) λh=>.inl ((exy k).2 (.inr (hs9 k h)))⟩ Ea;obtain⟨SB,hB,_,backB⟩:=(bJ.l hc10).put;refine aA rfl (aE (k:=.slice) sl (aP hB rfl) ⟨⟨aB,aB⟩,aA rfl ?_⟩);refine qY (v:=sv UJ) hB iT dN rfl rfl λw4 b4 u4=>?_;obtain⟨ie,hc11,ik⟩:=backB _ w4 _ u4 b4
     let c2:kP:=⟨st.send b,aM,tk,cJ⟩
     have PO:lW a c2 w4 ie:=⟨sp,tp,UJ,hc11⟩;have ir:c2.Ok:=⟨Qk.s.send hcan.2 gD,Qk.t,by have:=Qk.gY;simp at this;show cJ.length<=64;omega,λx hx=>Qk.len x (by simp[show x∈cJ from hx])⟩;have U4:Up SC ie w2.drew w4:=u10.tr ik;have bg:=bG.gX Nj;have hg4:=bG.aK Nj U4.m λk hk lT=>dCG k lT hk;have d4:=U4.lq dCG bg;refine data_i PO ir λs5 w5 Vl f5 k5=>?_;have hdat:c2.Nt st.next=⟨aM,1,st.next,tk.next,0,b⟩:=by
      show(⟨aM,1,st.next,tk.next,0,((if st.next=st.next then some b else st.f st.next)).getD []⟩:fG)=_
      rw[if_pos rfl];rfl
     rw[hdat] at Vl ⊢;have hc5:=bG.kp PO k5;have hg5:=bG.kp hg4 k5;have bc4:=bG.gX PO;have bg4:=bG.gX hg4;have qS:bJ (lW a c2) (bJ (BV r gs) (DQ 1 eU s5 b)) w5 (λk=>ie k\/(SG k\/sU s5 k)):=
      bJ.xR hc5 (bJ.xR hg5 Vl λk h1 ⟨bb,Kz,e⟩=>by have:=bg4 k h1;have:=f5 bb Kz;omega) λk h1 h2=>h2.elim (d4 k h1) λ⟨bb,Kz,e⟩=>by have:=bc4 k h1;have:=f5 bb Kz;omega
     obtain⟨YP,hgr,_,TN⟩:=(bJ.r qS).put;obtain⟨S13,S14,hg13,hr14,d13,e13⟩:=hgr;refine grs_snoc (g:=⟨aM,1,st.next,tk.next,0,b⟩) hg13 hr14 d13 aB λr' w7 S' hg7 u7=>?_
     obtain⟨S15,h15,u15⟩:=TN _ w7 S' ⟨u7.m.mono λk _ hk=>(e13 k).2 hk,λk hk=>(u7.s k hk).imp (λh=>(e13 k).2 h) id⟩ hg7;have Uall:Up S1 S15 w1 w7:=by
      have m4:Up S1 (λk=>ie k\/SG k) w1 w4:=(Up.aO (S:=S1) kd).tr ⟨U4.m.mono λk _ hk=>(eCG k).2 (.inl hk),λk hk=>hk.elim (λh=>(U4.s k h).imp (λh=>(eCG k).2 (.inl h)) id) λh=>.inl ((eCG k).2 (.inr h))⟩;refine m4.tr ⟨k5.wk.trans u15.m λk hk h=>?_,λk hk=>?_⟩
      ·rcases h with h|h|⟨bb,Kz,e⟩
       ·exact .inl h
       ·exact .inr h
       ·have:=f5 bb Kz;omega
      ·rcases u15.s k hk with(h|h|⟨bb,Kz,e⟩)|h
       ·exact .inl (.inl h)
       ·exact .inl (.inr h)
       ·exact .inr (by rw[e];exact f5 bb Kz)
       ·exact .inr (iR k5.size h)
     have hpay:(⟨st,aM,tk,b::cJ⟩:kP).rR=((⟨aM,1,st.next,tk.next,0,b⟩:fG)::c2.rR.1,c2.rR.2):=by
      show kP.PT st aM tk.next tk (b::cJ)=_
      rw[kP.PT,if_pos hcan];rfl
     refine hX cJ.length _ _ dN ⟨r',gs++[⟨aM,1,st.next,tk.next,0,b⟩],c2,S15,rfl,rfl,h15,u1.tr Uall,ir,by simp at Ni;show _+cJ.length<=64;simp;omega,?_⟩
     rw[hp,hpay];simp
   ·show kP.PT st aM tk.next tk (b::cJ)=_
    rw[kP.PT,if_neg λhh=>?_];have:=hh.2;simp only[hh.1,Bool.false_eq_true,if_false] at hx;omega
 ·obtain⟨st,aM,tk,gY⟩:=c1;cases gY with
  |nil=>rfl
  |cons b cJ=>simp at hol;omega
end
end
section
theorem yo{r0 r:Sl}{gs0 gs:List fG}{w:aH}{S0 S:BS}{K:Sl->aH->Prop}(h0:BV r0 gs0 w S0)(h:BV r gs w S)(hd:∀k,S0 k->S k->False)(hl:gs0.length+gs.length<=1000)
  (hK:∀r' w' S',BV r' (gs0++gs) w' S'->Up (λk=>S0 k\/S k) S' w w'->K r' w'):aW prog Ry Ry r0 (.slice r.b r.l r.c) w K:=by
 obtain⟨xs0,rfl,S1,S2,h1,h2,d,e⟩:=h0;obtain⟨xs,rfl,S3,S4,h3,h4,d',e'⟩:=h;rw[oH,oH] at hl;have qS:bJ (rS GR 6 eG r0 xs0) (bJ (BZ (xs0.map (·.2)) (xs0.map (·.1.body))) (BZ (xs.map (·.2)) (xs.map (·.1.body)))) w (λk=>S1 k\/(S2 k\/S4 k)):=
  bJ.xR h1 (bJ.xR h2 h4 λk a b=>hd k ((e k).2 (.inr a)) ((e' k).2 (.inr b))) λk a b=>b.elim (d k a) λb=>hd k ((e k).2 (.inl a)) ((e' k).2 (.inr b))
 obtain⟨S5,h5,_,eO⟩:=(bJ.l qS).put;refine WO Js Vx Lq h5 (h3.1.rd Vx) aB aB λr' w2 S6 v6 u6=>?_;obtain⟨S7,h7,u7⟩:=eO _ w2 S6 u6 v6;refine hK r' w2 S7 ⟨xs0++xs,by simp,?_⟩ ⟨u7.m.mono λk _ hk=>?_,λk hk=>(u7.s k hk).imp (λhk=>?_) id⟩
 ·have:=h7.mono (λ_ h=>h) λ_ h=>listA_app h;simpa using this
 ·rcases hk with hk|hk|hk
  ·exact .inl ((e k).2 (.inl hk))
  ·exact .inl ((e k).2 (.inr hk))
  ·exact .inr ((e' k).2 (.inr hk))
 ·rcases hk with hk|hk|hk
  ·exact .inl ((e k).2 (.inl hk))
  ·exact .inl ((e k).2 (.inr hk))
  ·exact .inr ((e' k).2 (.inr hk))
def kP.push(c:kP)(bs:List cG):List fG×kP×Int:=
 if c.s.iI then([],c,6) else if 64<=c.gY.length then([],c,5) else(({c with gY:=c.gY++[bs]}:kP).rR.1,({c with gY:=c.gY++[bs]}:kP).rR.2,0)
structure TakeR(t:Vj)(seq:Int)(bs:List cG)(oF:List (List cG))(t':Vj):Prop where
 ok:t'.Ok
 dA:t'.dA=t.dA
 len:oF.length<=20
 lens:∀b∈oF,b.length<=5000
 one:(∀x,t.f x=none)->seq=t.next->0<t.dA->oF=[bs]/\t'.next=t.next+1/\∀x,t'.f x=none
def yO(c:kP)(g:fG)(oF:List (List cG))(gs:List fG)(c':kP):Prop:=
 if c.s.iI=true\/g.aM≠c.aM\/(g.kind≠1/\g.kind≠2) then oF=[]/\gs=[]/\c'=c
 else∃s1,AckR c.s g.KO s1/\s1.Ok/\if g.kind=1 then∃t1,TakeR c.t g.seq g.body oF t1/\gs=⟨c.aM,2,0,t1.next,0,[]⟩::(⟨s1,c.aM,t1,c.gY⟩:kP).rR.1/\c'=(⟨s1,c.aM,t1,c.gY⟩:kP).rR.2
  else oF=[]/\gs=(⟨s1,c.aM,c.t,c.gY⟩:kP).rR.1/\c'=(⟨s1,c.aM,c.t,c.gY⟩:kP).rR.2
theorem Yb{aM nx:Int}{t:Vj}:∀{l:List (List cG)} {s:RU},(kP.PT s aM nx t l).1.length<=l.length
 | [],s=>dL _
 |b::r,s=>by
  rw[kP.PT]
  split
  ·have:=Yb (aM:=aM) (nx:=nx) (t:=t) (l:=r) (s:=s.send b);simp only[mE];omega
  ·exact dE _
section
variable{w:aH}{S:BS}{a sp tp:Nat}{sl:Sl}{c:kP}
theorem zw{fR:Int}{body:Sl}{bs:List cG}{Q:Sl->Int->aH->Prop}(h:lW a c w S)(ok:c.Ok)(hb:Rd w body 1 eU bs)(hl:bs.length<=70000)
  (hQ:∀r w' S',bJ (lW a (c.push bs).2.1) (BV r (c.push bs).1) w' S'->Up S S' w w'->(c.push bs).2.1.Ok->Q r (c.push bs).2.2 w'):IF (some ⟨a,0,none⟩) fR body w Q:=by
 unfold IF;refine zp h (aF (λho=>?_) (λho=>?_))
 ·have e:c.push bs=([],c,6):=by unfold kP.push;rw[if_pos ho]
  rw[e] at hQ;exact hQ _ w S (bJ.pR h WK) (Up.refl _ _) ok
 have ho':¬c.s.iI=true:=by rw[ho];simp
 obtain⟨sp,tp,sl,h⟩:=h;have hol:=h.yg;refine aA rfl (aE (k:=.slice) sl h.cells.2.2.2 (aJ (λkC=>?_) (λcC=>?_)))
 ·have e:c.push bs=([],c,5):=by unfold kP.push;rw[if_neg ho',if_pos aB]
  rw[e] at hQ;exact hQ _ w S (bJ.pR ⟨sp,tp,sl,h⟩ WK) (Up.refl _ _) ok
 have e:c.push bs=(({c with gY:=c.gY++[bs]}:kP).rR.1,({c with gY:=c.gY++[bs]}:kP).rR.2,0):=by unfold kP.push;rw[if_neg ho',if_neg aB]
 rw[e] at hQ;have hd:=bG.dr h;refine aA rfl (aE (k:=.slice) sl hd.cells.2.2.2 ?_);refine vR (hb.aK (bY w) fQ λ_ _=>id) aB λr w2 S2 _ k2 _ Nd f2=>⟨(bG.kp hd k2).cells.2.2.2,?_⟩;refine cO (cs:=[sv r]) λw3 b3 k3 z3=>?_;have iz:=k2.tr k3;have h3:=bG.kp hd iz;refine⟨h3.cells.2.2.2,?_⟩;have bd:=bG.gX hd;obtain⟨SB,SR,FF,⟨ST,SQ,sC,⟨SS,SO,hsn,⟨ss,S7,S8,hv,hL,d78,Qr⟩,dSO,eSO⟩,dT,eT⟩,dB,eB⟩:=h3;have rd3:=bG.kp Nd k3;have hr:∀k,sU r k->¬S k:=λk ⟨b,hb,e⟩ hs=>by have:=bd k hs;have:=f2 b hb;omega
 have inS:∀k,S7 k\/S8 k->S k:=λk hk=>(eB k).2 (.inr ((eT k).2 (.inr ((eSO k).2 (.inr ((Qr k).2 hk))))));have hol2:ss.length=c.gY.length:=hL.1;have hLR:bJ (Rv CB 1 eS sl ss) (bJ (BZ ss c.gY) (DQ 1 eU r bs)) w3 (λk=>S7 k\/(S8 k\/sU r k)):=bJ.xR hv (bJ.xR hL rd3 λk a b=>hr k b (inS k (.inr a))) λk a b=>b.elim (d78 k a) λb=>hr k b (inS k (.inl a));obtain⟨S9,h9,_,Aw⟩:=(bJ.l hLR).put;refine zf (x:=⟨some ⟨w2.heap.size,0,none⟩,1,1⟩) NL Gt oneS1 h9 (mO Gt [r] b3 rfl dN) (by simp;omega) aB λs4 w4 An v10 u10=>?_;obtain⟨ie,Vr,ik⟩:=Aw _ w4 An u10 v10;have hOw:Gk s4 (c.gY++[bs]) w4 ie:=⟨ss++[r],Vr.mono (λ_ h=>h) λ_ h=>TY h⟩;have apart:∀k,(SB k\/ST k\/SS k)->¬(S7 k\/(S8 k\/sU r k)):=λk hk h=>by
  have hso:SO k->False:=λho=>by
   rcases hk with hk|hk|hk
   ·exact dB k hk ((eT k).2 (.inr ((eSO k).2 (.inr ho))))
   ·exact dT k hk ((eSO k).2 (.inr ho))
   ·exact dSO k hk ho
  have hS:S k:=(eB k).2 (by
   rcases hk with hk|hk|hk
   ·exact .inl hk
   ·exact .inr ((eT k).2 (.inl hk))
   ·exact .inr ((eT k).2 (.inr ((eSO k).2 (.inl hk)))))
  rcases h with h|h|h
  ·exact hso ((Qr k).2 (.inl h))
  ·exact hso ((Qr k).2 (.inr h))
  ·exact hr k h hS
 have bB:=bG.gX FF;have bT:=bG.gX sC;have bS:=bG.gX hsn;have blk4:=bG.aK FF ik.m λk hk h=>apart k (.inl hk) h;have tk4:=bG.aK sC ik.m λk hk h=>apart k (.inr (.inl hk)) h;have sn4:=bG.aK hsn ik.m λk hk h=>apart k (.inr (.inr hk)) h;have dd:∀k,(SB k\/ST k\/SS k)->ie k->False:=λk hk h=>(ik.s k h).elim (apart k hk) λh=>by
  rcases hk with hk|hk|hk
  ·have:=bB k hk;omega
  ·have:=bT k hk;omega
  ·have:=bS k hk;omega
 refine aA rfl ?_;have h4:bJ (uL a vj [.pointer (some ⟨sp,0,none⟩),aD c.aM,.pointer (some ⟨tp,0,none⟩),sv sl]) (bJ (Gf tp c.t) (bJ (YY sp c.s) (Gk s4 (c.gY++[bs])))) w4 (λk=>SB k\/(ST k\/(SS k\/ie k))):=
  bJ.xR blk4 (bJ.xR tk4 (bJ.xR sn4 hOw λk h1 h2=>dd k (.inr (.inr h1)) h2) λk h1 h2=>h2.elim (λh=>dT k h1 ((eSO k).2 (.inl h))) λh=>dd k (.inr (.inl h1)) h) λk h1 h2=>by
   rcases h2 with h2|h2|h2
   ·exact dB k h1 ((eT k).2 (.inl h2))
   ·exact dB k h1 ((eT k).2 (.inr ((eSO k).2 (.inl h2))))
   ·exact dd k (.inl h1) h2
 have U4:Up S (λk=>SB k\/(ST k\/(SS k\/ie k))) w w4:=by
  have K:=(bY w).tr iz;refine⟨K.wk.trans ik.m λk hk h=>?_,λk hk=>?_⟩
  ·rcases h with h|h|⟨b,hb,e⟩
   ·exact inS k (.inl h)
   ·exact inS k (.inr h)
   ·have:=f2 b hb;simp at this;omega
  ·rcases hk with h|h|h|h
   ·exact .inl ((eB k).2 (.inl h))
   ·exact .inl ((eB k).2 (.inr ((eT k).2 (.inl h))))
   ·exact .inl ((eB k).2 (.inr ((eT k).2 (.inr ((eSO k).2 (.inl h))))))
   ·rcases ik.s k h with(h|h|⟨b,hb,e⟩)|h
    ·exact .inl (inS k (.inl h))
    ·exact .inl (inS k (.inr h))
    ·have:=f2 b hb;simp at this;exact .inr aB
    ·exact .inr (iR K.size h)
 obtain⟨YP,Fp,_,TN⟩:=(bJ.l h4).put;refine qY (v:=sv s4) Fp iT dN rfl rfl λw5 b5 u5=>?_;obtain⟨S13,um,u13⟩:=TN _ w5 _ u5 b5;have hc5:lW a {c with gY:=c.gY++[bs]} w5 S13:=⟨sp,tp,s4,um⟩;have ok5:({c with gY:=c.gY++[bs]}:kP).Ok:=⟨ok.s,ok.t,by show(c.gY++[bs]).length<=64;simp;omega,λb hb=>by
  rcases kE.1 hb with hb|hb
  ·exact ok.len b hb
  ·rw[oG.1 hb];exact hl⟩
 exact mw hc5 ok5 λr5 w6 S6 h6 u6 tx=>hQ r5 w6 S6 h6 ((U4.tr u13).tr u6) tx
theorem Tq{fR:Int}{g:fG}{gj:Sl}{Q:Sl->Sl->aH->Prop}(h:lW a c w S)(ok:c.Ok)(Vd:c.s.next<=1000000000000000)(hg:Rd w gj 1 eU g.body)(ho:LL gj S w)(hl:g.body.length<=5000)(hs:u32 g.seq)
  (hQ:∀YT FB r gs c' w' S',bJ (lW a c') (bJ (VO YT FB) (BV r gs)) w' S'->Up S S' w w'->yO c g FB gs c'->c'.Ok->Q YT r w'):BN (some ⟨a,0,none⟩) fR (JC (g,gj)) w Q:=by
 unfold BN;refine cO (cs:=eG (g,gj)) λw1 b1 k1 z1=>?_;have K:=k1.tr (bY w1);have hd:=bG.kp h K;have od:=b1.1.aK (bY w1) id;have bd:=bG.gX h;have no:(c.s.iI=true\/g.aM≠c.aM\/(g.kind≠1/\g.kind≠2))->Q aZ aZ w1.drew:=λhh=>
  hQ _ [] _ [] c _ S (bJ.pR hd (bJ.pR Ew WK)) (Up.aO K) (by unfold yO;rw[if_pos hh];exact⟨rfl,rfl,rfl⟩) ok
 intro J1 OG;have qU:¬(c.s.iI=true\/g.aM≠c.aM\/(g.kind≠1/\g.kind≠2))->J1 (aZ,aZ,()) w1.drew:=by
  intro pA;apply OG;obtain⟨sp,tp,sl,hc⟩:=hd;have kd2:=bY w1.drew;have PO:=bG.kp hc kd2;have od2:=od.aK kd2 id;have K2:=K.tr kd2;refine aA rfl (aE (k:=.ptr) (some ⟨sp,0,none⟩) PO.cells.1 (aE (k:=.i) g.KO (cV od2 rfl) ?_));obtain⟨S3,Ci,hS3,Gz⟩:=PO.snd.put;refine Acked_i Ci ok.s Vd λ_ s1 w3 S4 h4 u4 hA Qj=>?_;obtain⟨S5,h5,u5⟩:=Gz _ w3 S4 u4 h4;have nn:¬S w.heap.size:=λhk=>by have:=bd _ hk;omega
  have o3:=od2.aK u4.m λhk=>nn (hS3 _ hk)
  let c1:kP:=⟨s1,c.aM,c.t,c.gY⟩
  have Qk:c1.Ok:=⟨Qj,ok.t,ok.gY,ok.len⟩;have hc3:YZ a sp tp sl c1 w3 S5:=h5;have U3:Up S S5 w w3:=(Up.aO K2).tr u5;have uc:∀(cc:kP),cc.gY=c.gY->cc.rR.1.length<=64:=λcc e=>by
   have e2:cc.gY.length<=64:=by rw[e];exact ok.gY
   exact iR Yb e2
  refine aE (k:=.i) g.kind (cV o3 rfl) (aF (λhk=>?_) (λhk=>?_))
  ·have QD:g.kind=1:=by simpa using hk
   have kd3:=bY w3;have hc3d:=bG.kp hc3 kd3;have Lh:=o3.aK kd3 id;refine aA rfl (aE (k:=.ptr) (some ⟨tp,0,none⟩) hc3d.cells.2.2.1 (aE (k:=.i) g.seq (cV Lh rfl) (aE (k:=.slice) gj (cV Lh rfl) ?_)));obtain⟨S6,ht6,hS6,MF⟩:=hc3d.tkr;have U3d:Up S S5 w w3.drew:=U3.tr (Up.aO kd3);have hg3:=ho.rd U3d hg fQ;have ho3:=ho.up U3d;refine Take_i ht6 ok.t hs hg3 (λb hb=>⟨λhk=>(ho3 b hb).1 (hS6 _ hk),(ho3 b hb).2⟩) hl λoF FB _ t1 w4 S7 h7 u7 q1 q2 q3 q4 q5=>?_;obtain⟨S8,h8,u8⟩:=MF (Gf tp t1) (VO oF FB) w4 S7 u7 h7
   let c2:kP:=⟨s1,c.aM,t1,c.gY⟩
   have ir:c2.Ok:=⟨Qj,q1,ok.gY,ok.len⟩;have h8':bJ (YZ a sp tp sl c2) (VO oF FB) w4 S8:=h8;have kd4:=bY w4;have h8d:=bG.kp h8' kd4;obtain⟨S9,hc9,_,_⟩:=(bJ.l h8d).put;refine aA rfl (aE (k:=.i) c.aM hc9.cells.2.1 (aA rfl (aE (k:=.ptr) (some ⟨tp,0,none⟩) hc9.cells.2.2.1 ?_)));obtain⟨An,ht10,_,_⟩:=hc9.tkr.put;refine zi ht10 ⟨hc9.cells.2.1,?_⟩
   let ag:fG:=⟨c.aM,2,0,t1.next,0,[]⟩
   refine cO (cs:=eG (ag,aZ)) λw6 b6 k6 z6=>?_;have bw4:=bG.gX h8d;have h6:bJ (lW a c2) (VO oF FB) w6 S8:=(bG.kp h8d k6).mono (λ_ h=>⟨sp,tp,sl,h⟩) λ_ h=>h;have Vg:BV ⟨some ⟨w4.drew.heap.size,0,none⟩,1,1⟩ [ag] w6 (λk=>k=w4.drew.heap.size\/False):=
    ⟨[(ag,aZ)],rfl,bJ.xR ⟨dD.new Vx [(ag,aZ)] (by simpa using b6.1) (by simp[maxLen]),λk=>⟨λe=>⟨_,rfl,e⟩,λ⟨b,hb,e⟩=>by cases hb;exact e⟩⟩ ⟨rfl,λi sl bs h1 h2=>by
     cases i with
     |succ n=>simp at h1
     |zero=>cases h1;cases h2;exact⟨Rd.nil _ _ _,λb hb=>by cases hb⟩,λk h=>h.elim⟩ λ_ _ h=>h⟩
   have h6a:bJ (bJ (lW a c2) (VO oF FB)) (BV ⟨some ⟨w4.drew.heap.size,0,none⟩,1,1⟩ [ag]) w6 (λk=>S8 k\/(k=w4.drew.heap.size\/False)):=bJ.xR h6 Vg λk h1 h2=>h2.elim (λe=>by have:=bw4 k h1;omega) id;obtain⟨ie,hc11,_,Hj⟩:=(bJ.l h6a).c λT hT=>bJ.l hT;refine mw hc11 ir λr w7 YP Fp Ff ok7=>?_;obtain⟨S13,um,u13⟩:=Hj (lW a c2.rR.2) (BV r c2.rR.1) w7 YP Ff Fp;have h13':bJ (bJ (lW a c2.rR.2) (VO oF FB)) (bJ (BV ⟨some ⟨w4.drew.heap.size,0,none⟩,1,1⟩ [ag]) (BV r c2.rR.1)) w7 S13:=um.asr;obtain⟨S14,h14,_,nz⟩:=(bJ.r h13').put;obtain⟨S15,S16,g15,g16,d15,e15⟩:=h14;refine yo g15 g16 d15 (by have:=uc c2 rfl;simp;omega) λr' w8 S17 g17 u17=>?_;obtain⟨jo,h18,u18⟩:=nz _ w8 S17 ⟨u17.m.mono λk _ hk=>(e15 k).2 hk,λk hk=>(u17.s k hk).imp (λh=>(e15 k).2 h) id⟩ g17;have U6:Up S5 (λk=>S8 k\/(k=w4.drew.heap.size\/False)) w3.drew w6:=by have:=(u8.tr (Up.aO kd4)).tr (Up.aO k6);refine⟨this.m,λk hk=>hk.elim (this.s k) λh=>h.elim (λe=>.inr ?_) False.elim⟩;have:=u8.m.size;have e4:w4.drew.heap.size=w4.heap.size:=rfl;omega
   refine hQ oF FB r' (ag::c2.rR.1) c2.rR.2 w8 jo h18.asr (U3d.tr ((U6.tr u13).tr u18)) ?_ ok7;unfold yO;rw[if_neg pA];refine⟨s1,hA,Qj,?_⟩;rw[if_pos QD];exact⟨t1,⟨q1,q2,q3,q4,q5⟩,rfl,rfl⟩
  ·have QD:¬g.kind=1:=by simpa using hk
   have hc3':lW a c1 w3 S5:=⟨sp,tp,sl,hc3⟩;refine mw hc3' Qk λr w7 YP Fp Ff ok7=>?_;have um:bJ (lW a c1.rR.2) (bJ (BV aZ []) (BV r c1.rR.1)) w7 YP:=Fp.mono (λ_ h=>h) λ_ h=>(bJ.pR h WK).cm;obtain⟨S14,h14,_,nz⟩:=(bJ.r um).put;obtain⟨S15,S16,g15,g16,d15,e15⟩:=h14;refine yo g15 g16 d15 (by have:=uc c1 rfl;simp;omega) λr' w8 S17 g17 u17=>?_;obtain⟨jo,h18,u18⟩:=nz _ w8 S17 ⟨u17.m.mono λk _ hk=>(e15 k).2 hk,λk hk=>(u17.s k hk).imp (λh=>(e15 k).2 h) id⟩ g17;refine hQ aZ [] r' _ c1.rR.2 w8 jo (h18.mono (λ_ h=>h) λ_ h=>(bJ.pR h Ew).cm) (U3.tr (Ff.tr u18)) ?_ ok7;unfold yO;rw[if_neg pA];refine⟨s1,hA,Qj,?_⟩;rw[if_neg QD];exact⟨rfl,rfl,rfl⟩
 refine zp hd (aF (λft=>no (.inl ft)) (λft=>?_));have hov':¬c.s.iI=true:=by rw[ft];simp
 have hd2:=hd;obtain⟨sp,tp,sl,hc⟩:=hd2;refine aE (k:=.i) g.aM (cV od rfl) (aA rfl (aE (k:=.i) c.aM hc.cells.2.1 (aF (λgK=>no (.inr (.inl (by simpa using gK)))) (λheq=>?_))));have Rj:g.aM=c.aM:=by simpa using heq
 refine aE (k:=.i) g.kind (cV od rfl) (aF (λhk=>aE (k:=.i) g.kind (cV od rfl) (aF (λGC=>no (.inr (.inr ⟨by simpa using hk,by simpa using GC⟩))) (λGC=>qU λhh=>?_))) (λhk=>qU λhh=>?_))
 ·have:g.kind=2:=by simpa using GC
  rcases hh with h|h|h
  ·exact hov' h
  ·exact h Rj
  ·exact h.2 this
 ·have:g.kind=1:=by simpa using hk
  rcases hh with h|h|h
  ·exact hov' h
  ·exact h Rj
  ·exact h.1 this
end
end
structure wV where
 sT:Nat
 dA:Nat
 MA:Int
 nO:Int
 cap:Int
 idle:Int
structure wV.Ok(c:wV):Prop where
 sT:1<=c.sT/\c.sT<=16
 dA:1<=c.dA/\c.dA<=16
 MA:0<=c.MA/\c.MA<=20
 nO:1<=c.nO/\c.nO<=1000
 cap:c.nO<=c.cap/\c.cap<=1000
 idle:1<=c.idle/\c.idle<=1000
abbrev JD(c:wV):List Value:=[aD (c.sT:Int),aD (c.dA:Int),aD c.MA,aD c.nO,aD c.cap,aD c.idle]
abbrev JA:List CK:=[.i,.i,.i,.i,.i,.i]
abbrev wS(c:wV):Int×Int×Int×Int×Int×Int×Unit:=((c.sT:Int),(c.dA:Int),c.MA,c.nO,c.cap,c.idle,())
theorem xD{n l h:Int}{w:aH}{Q:Bool->aH->Prop}(hn:l<=n/\n<=h)(hQ:Q true w):gH n l h w Q:=by
 unfold gH;refine aJ (λ_=>?_) (λh=>absurd hn.1 aB);rw[decide_eq_true hn.2];exact hQ
theorem Tp{c:wV}{w:aH}{Q:Int->aH->Prop}(ok:c.Ok)(hQ:∀w',aL w w'->Q 0 w'):mR (wS c) w Q:=by
 unfold mR;have h1:=ok.sT;have h2:=ok.dA;have h3:=ok.MA;have h4:=ok.nO;have h5:=ok.cap;have h6:=ok.idle;refine cO (cs:=JD c) λw1 b1 k1 z1=>?_;refine aE (k:=.i) (c.sT:Int) (aP b1 rfl) (xD aB (aF (λh=>by cases h) (λ_=>?_)));refine aE (k:=.i) (c.dA:Int) (aP b1 rfl) (xD aB (aF (λh=>by cases h) (λ_=>?_)));refine aE (k:=.i) c.MA (aP b1 rfl) (xD aB (aF (λh=>by cases h) (λ_=>?_)));refine aE (k:=.i) c.nO (aP b1 rfl) (xD aB (aF (λh=>by cases h) (λ_=>?_)));refine aE (k:=.i) c.cap (aP b1 rfl) (aE (k:=.i) c.nO (aP b1 rfl) (xD aB (aF (λh=>by cases h) (λ_=>?_))));exact aE (k:=.i) c.idle (aP b1 rfl) (xD aB (aF (λh=>by cases h) (λ_=>hQ w1 k1)))
def snd0(dA:Nat):RU:=⟨dA,0,λ_=>none,0,λ_=>False,false⟩
def tkr0(dA:Nat):Vj:=⟨dA,0,λ_=>none,0⟩
def vA(dA:Nat)(aM:Int):kP:=⟨snd0 dA,aM,tkr0 dA,[]⟩
theorem OL{dA:Nat}{aM:Int}(h:dA<=16):(vA dA aM).Ok:=
 ⟨⟨h,dE _,λx hx=>hx.elim,λx bs hx=>(by cases hx),by show(0:Int)<=0/\(0:Int)-((0:Nat):Int)<=1000000000000000;omega⟩,⟨h,by show(0:Int)<=0/\(0:Int)<=4294967296;omega,λx bs hx=>(by cases hx)⟩,by show([]:List (List cG)).length<=64;simp,λb hb=>by cases hb⟩
theorem CNew_i{c:wV}{aM:Int}{w:aH}{Q:cR->Int->aH->Prop}(ok:c.Ok)(hc:1<=aM/\aM<=2147483648)
  (hQ:∀g w' S',lW g (vA c.dA aM) w' S'->aL w w'->(∀k,S' k->w.heap.size<=k)->Q (some ⟨g,0,none⟩) 0 w'):tJ (wS c) aM w Q:=by
 unfold tJ;have h3:=ok.MA;have h4:=ok.nO;have h5:=ok.cap;refine cO (cs:=JD c) λw1 b1 k1 z1=>?_;refine aX (l:=JA) (wS c) (b1.1.holds λj v hj=>by rw[gI];exact hj) ?_;refine Tp ok λw2 k2=>aF (λh=>by simp at h) (λ_=>xD hc (aF (λh=>by cases h) (λ_=>?_)));have b2:=bG.kp b1 k2;refine aE (k:=.i) c.nO (aP b2 rfl) (aE (k:=.i) c.cap (aP b2 rfl) (aE (k:=.i) c.MA (aP b2 rfl) ?_));refine TiNew_i ⟨h4.1,h4.2,h5.1,h5.2,h3.1,h3.2⟩ λw4 ht k4=>?_;have b4:=bG.kp b2 k4;refine aE (k:=.i) (c.dA:Int) (aP b4 rfl) ?_;refine SNew2_i ok.dA ht λw5 S5 h5' k5 hs5=>?_;have b5:=bG.kp b4 k5;refine aE (k:=.i) (c.dA:Int) (aP b5 rfl) ?_;refine TkNew_i ok.dA λw6 S6 h6 k6 Nh=>?_;have h5k:=bG.kp h5' k6;have bn5:=bG.gX h5';have bn6:=bG.gX h6;have bn5k:=bG.gX h5k;have z2:=(k1.tr k2).size;have z4:=k4.size;have z5:=k5.size;refine cO (cs:=[.pointer (some ⟨w4.heap.size+1,0,none⟩),aD aM,.pointer (some ⟨w5.heap.size+1,0,none⟩),sv aZ]) λw7 b7 k7 z7=>?_;have hO:Gk aZ [] w7 (λ_=>False):=⟨[],_,_,Eg,⟨rfl,λi sl bs h=>by simp at h,λk h=>h.elim⟩,λ_ h _=>h,λk=>⟨.inl,λh=>h.elim id id⟩⟩;have hT:=bG.kp h6 k7;have hS:=bG.kp h5k k7;refine hQ w6.heap.size w7 _ ⟨w4.heap.size+1,w5.heap.size+1,aZ,bJ.xR b7 (bJ.xR hT (bJ.pR hS hO) λk h1 h2=>?_) λk h1 h2=>?_⟩ (((((k1.tr k2).tr k4).tr k5).tr k6).tr k7) λk hk=>?_
 ·have:=Nh k h1;have:=bn5 k h2;omega
 ·rcases h2 with h2|h2
  ·have:=bn6 k h2;omega
  ·have:=bn5k k h2;omega
 ·rcases hk with hk|hk|hk
  ·have:=k6.size;omega
  ·have:=Nh k hk;omega
  ·rcases hs5 k hk with h|h
   ·rcases h with h|h
    ·omega
    ·have h':k=w2.heap.size:=h;omega
   ·omega
def PassR(c:kP)(gs:List fG)(e:Int)(c':kP):Prop:=∃(s1:RU) (L:List Int) (e0:Int),SAgain c.s s1/\s1.Ok/\L.length<=c.s.n/\(c.s.iI=false->(∀x,¬c.s.IQ x)->e0=0/\L=[])/\(e0=0->s1.iI=c.s.iI)/\
 if e0=0 then e=0/\gs=L.map (⟨s1,c.aM,c.t,c.gY⟩:kP).Nt++(⟨s1,c.aM,c.t,c.gY⟩:kP).rR.1/\c'=(⟨s1,c.aM,c.t,c.gY⟩:kP).rR.2 else¬e=0/\gs=[]/\c'=⟨s1,c.aM,c.t,c.gY⟩
open Go.IntKind (wrap)
section
theorem Mul_i{n:Nat}(hn:n<=51){w:aH}{Q:Int->Int->aH->Prop}(hQ:Q 0 (n:Int) w):tW (wrap .u64 (((1:Nat):Int))) (wrap .u64 (n:Int)) w Q:=by
 unfold tW;have key:∀k:Fin 60,nK (wrap .u64 (((1:Nat):Int))) (wrap .u64 (k.val:Int)) w (λa b w'=>a=0/\b=(k.val:Int)/\w'=w):=by intro k;unfold nK;refine⟨by decide,by decide,by decide,by decide,by decide,?_,?_,rfl⟩<;>revert k<;>decide+kernel
 have h:=key ⟨n,aB⟩;unfold nK at h ⊢;obtain⟨_,_,_,_,_,h1,h2,_⟩:=h;refine⟨by decide,by decide,by decide,by decide,by decide,?_⟩;simp only at h1 h2;rw[h1,h2];exact hQ
theorem Hq(x:Int):∀n:Nat,(List.replicate n x).flatMap eI=List.replicate n (aD x)
 |0=>rfl
 |n+1=>by rw[List.replicate_succ,List.replicate_succ,FE,Hq x n];rfl
theorem Yz{w:aH}{b n:Nat}{Q:Sl->aH->Prop}(h:cU w b dG [aD (-1)])(hn:n<=51)(hQ:∀w',dD w' dG 1 eI ⟨some ⟨w.heap.size,0,none⟩,n,n⟩ (List.replicate n (-1))->aL w w'->Q ⟨some ⟨w.heap.size,0,none⟩,n,n⟩ w'):
  iD ⟨some ⟨b,0,none⟩,1,1⟩ (n:Int) w Q:=by
 unfold iD;refine aJ (λh=>aB) (λ_=>?_);refine Mul_i hn ?_;refine aJ (λh=>aB) (λ_=>aJ (λh=>aB) (λ_=>?_));rw[gZ (n:=(n:Int)) aB aB];refine wW iK (aY:=eI) (0:Int) rfl eX aB (lK _) aB aB λw2 v2 k2=>?_;simp only[dW] at v2 ⊢;have dQ:∀w',cU w' w.heap.size dG (List.replicate n (aD (-1)))->aL w w'->Q ⟨some ⟨w.heap.size,0,none⟩,n,n⟩ w':=λw' o k=>by
  refine hQ w' ⟨by simp,dL _,by simp[maxLen];omega,.inr ⟨w.heap.size,[],rfl,?_,by rw[uA,bF eX];simp⟩⟩ k;rw[uA,Hq];exact o
 have o2:cU w2 w.heap.size dG (List.replicate n (aD 0)):=by
  rcases v2.gR with⟨h1,_⟩|⟨g,cJ,hg,ho,hl⟩
  ·cases h1
  ·cases hg;rw[Hq] at ho hl;rw[fJ,List.length_replicate] at hl;have hl':n+cJ.length=n*1:=hl;have hr:cJ=[]:=Lu aB;rw[hr,uA] at ho;exact ho
 have hsrc:∀{wx:aH},aL w wx->∀j v,([aD (-1)]:List Value)[j]? =some v->wx.cell? ((⟨b,0,none⟩:Addr).add j)=some v:=λkx=>(h.aK kx id).read λj v hj=>by simpa using hj
 have step:∀{w4:aH} {k m:Nat} {cs:List Value} {sa:Addr} {sl sc:Nat} {K:Int->aH->Prop},cU w4 w.heap.size dG (List.replicate k (aD (-1))++List.replicate (n-k) (aD 0))->aL w w4->k+m<=n->m=min sl (n-k)->cs=List.replicate m (aD (-1))->
   (∀j v,cs[j]? =some v->w4.cell? (sa.add j)=some v)->(∀w5,cU w5 w.heap.size dG (List.replicate (k+m) (aD (-1))++List.replicate (n-(k+m)) (aD 0))->aL w w5->K (m:Int) w5)->
   QS prog yI yI ⟨some ⟨w.heap.size,k,none⟩,n-k,n-k⟩ (.slice (some sa) sl sc) w4 K:=λ{w4 k m cs sa sl sc K} o k4 hkm hm Vf hr hK=>by
  subst Vf;refine MW (n:=1) iK.under cZ o (by simp;omega) hr (by simp;omega) (λv hv=>by rw[(List.mem_replicate.1 hv).2];rfl) λw5 o5 m5 _=>?_;rw[<-hm];refine hK w5 ?_ (k4.fresh m5 λk e=>by rw[show k=_ from e];exact dL _);have e1:(List.replicate k (aD (-1))++List.replicate (n-k) (aD 0)).take k=List.replicate k (aD (-1)):=by rw[List.take_append_of_le_length dN,ly6 dN]
  have e2:(List.replicate k (aD (-1))++List.replicate (n-k) (aD 0)).drop (k+(List.replicate m (aD (-1))).length)=List.replicate (n-(k+m)) (aD 0):=by rw[List.drop_append,List.drop_of_length_le dN,List.nil_append,List.drop_replicate];simp;omega
  rw[e1,e2,List.replicate_append_replicate] at o5;exact o5
 have first:=λ(K:WQ Int)=>step (K:=K) (w4:=w2) (k:=0) (m:=min 1 n) (cs:=List.replicate (min 1 n) (aD (-1))) (sa:=⟨b,0,none⟩) (sl:=1) (sc:=1)
 simp only[List.replicate_zero,List.nil_append,Nat.sub_zero,gI] at first
 refine first _ o2 k2 aB trivial trivial (λj v hj=>?_) λw3 o3 k3=>?_
 ·refine hsrc k2 j v ?_;rw[Fv] at hj
  split at hj
  ·have:j=0:=aB;subst this;simpa using hj
  ·cases hj
 refine bL (λc t w4=>∃k:Nat,k<=n/\min 1 n<=k/\c=n-k/\t=((k:Int),())/\cU w4 w.heap.size dG (List.replicate k (aD (-1))++List.replicate (n-k) (aD 0))/\aL w w4) (n-min 1 n) ⟨min 1 n,aB,dL _,rfl,rfl,o3,k3⟩ ?_;rintro c t w4 ⟨k,hk,QD,rfl,rfl,o4,k4⟩ X hX;dsimp only;refine aJ (λcC=>?_) (λkC=>?_)
 ·have GM:k<n:=aB;refine⟨⟨aB,aB⟩,⟨aB,aB⟩,?_⟩;rw[dW,lJ GM,oX,Nat.sub_zero,Nat.sub_zero,Nat.mul_one];have d4:aL w4 w4.drew:=aU.drew (aU.refl _ w4);have o4d:=o4.aK d4 id;refine step (m:=min k (n-k)) o4d (k4.tr d4) aB rfl rfl (o4d.read λj v hj=>?_) λw5 o5 k5=>?_
  ·rw[Fv] at hj
   split at hj
   ·rw[gI,Fw (by simp;omega),Fv,if_pos aB];exact hj
   ·cases hj
  ·rw[gZ (n:=(k:Int)+((min k (n-k):Nat):Int)) aB aB,show(k:Int)+((min k (n-k):Nat):Int)=((k+min k (n-k):Nat):Int) by omega];exact hX (n-(k+min k (n-k))) _ _ aB ⟨k+min k (n-k),aB,aB,rfl,rfl,o5,k5⟩
 ·have:k=n:=aB;subst this;rw[Nat.sub_self,List.replicate_zero,uA] at o4;exact dQ w4 o4 k4
structure GSep(W:aH)(Z b1 b5 r g1 B:Nat)(s1 s2:Sl):Prop where
 OC:s1.b=some ⟨g1,0,none⟩
 qM:W.heap.size<=b1/\W.heap.size<=b5/\W.heap.size<=r/\W.heap.size<=g1/\∀b,s2.b=some b->W.heap.size<=b.block
 high:b1<Z/\b5<Z/\r<Z/\g1<Z/\∀b,s2.b=some b->b.block<Z
 ne:b1≠b5/\b1≠r/\b1≠g1/\b5≠r/\b5≠g1/\r≠g1
 ne2:∀b,s2.b=some b->b.block≠b1/\b.block≠b5/\b.block≠r/\b.block≠g1
def SepK(W:aH)(b1 b5 r g1:Nat)(s2:Sl)(k:Nat):Prop:=W.heap.size<=k/\k≠b1/\k≠b5/\k≠r/\k≠g1/\∀b,s2.b=some b->k≠b.block
theorem GSep.new{W:aH}{Z b1 b5 r g1 B:Nat}{s1 s2:Sl}(h:GSep W Z b1 b5 r g1 B s1 s2){k:Nat}(hk:Z<=k):SepK W b1 b5 r g1 s2 k:=by
 obtain⟨h1,h2,h3,h4,h5⟩:=h.high;have:=h.qM.1;exact⟨aB,aB,aB,aB,aB,λb hb e=>by have:=h5 b hb;omega⟩
structure Vt(W:aH)(Z b1 b5 r g1 B:Nat)(s1 s2:Sl)(w:aH)(H:HS)(q:List It)(ds bs:List Int)(kn:Int->Option Int):Prop where
 hp:rU w H q
 hg:H.g=B
 mp:∃nm,kV w r FA Li kn nm
 v1:dD w dG 1 eI s1 ds
 v2:dD w dG 1 eI s2 bs
 o1:cU w b1 Wp [sv aZ,sv aZ]
 o5:cU w b5 Wp [sv s1,sv s2]
 kp:aL W w
 sz:Z<=w.heap.size
 sep:∀k,H.dK k->SepK W b1 b5 r g1 s2 k
section
variable{W:aH}{Z b1 b5 r g1 B:Nat}{s1 s2:Sl}{w:aH}{H:HS}{q:List It}{ds bs:List Int}{kn:Int->Option Int}
theorem Vt.aO{w':aH}(h:Vt W Z b1 b5 r g1 B s1 s2 w H q ds bs kn)(k:aL w w'):Vt W Z b1 b5 r g1 B s1 s2 w' H q ds bs kn:=
 ⟨h.hp.aO k,h.hg,h.mp.imp λ_ m=>m.aK k id,h.v1.aK k λ_ _=>id,h.v2.aK k λ_ _=>id,h.o1.aK k id,h.o5.aK k id,h.kp.tr k,iR h.sz k.size,h.sep⟩
theorem Vt.heap{w':aH}{H':HS}{q':List It}(S:GSep W Z b1 b5 r g1 B s1 s2)(h:Vt W Z b1 b5 r g1 B s1 s2 w H q ds bs kn)(hp:oU w' H' q')(hg:H'.g=H.g)(m:aU H.dK w w')(f:∀k,H'.dK k->H.dK k\/w.heap.size<=k):Vt W Z b1 b5 r g1 B s1 s2 w' H' q' ds bs kn:=by
 refine⟨.inl hp,hg.trans h.hg,h.mp.imp λ_ mm=>mm.aK m λhk=>(h.sep r hk).2.2.2.1 rfl,h.v1.aK m λa ha hk=>?_,h.v2.aK m λa ha hk=>(h.sep _ hk).2.2.2.2.2 a ha rfl,h.o1.aK m λhk=>(h.sep _ hk).2.1 rfl,h.o5.aK m λhk=>(h.sep _ hk).2.2.1 rfl,h.kp.fresh m λk hk=>(h.sep k hk).1,iR h.sz m.size,λk hk=>?_⟩
 ·rw[S.OC] at ha;cases ha;exact(h.sep _ hk).2.2.2.2.1 rfl
 ·rcases f k hk with h1|h1
  ·exact h.sep k h1
  ·exact S.new (iR h.sz h1)
theorem Vt.map{w':aH}{kn':Int->Option Int}(S:GSep W Z b1 b5 r g1 B s1 s2)(h:Vt W Z b1 b5 r g1 B s1 s2 w H q ds bs kn)(m:aU (λk=>k=r) w w')(mp:∃nm,kV w' r FA Li kn' nm):Vt W Z b1 b5 r g1 B s1 s2 w' H q ds bs kn':=by
 have ne:=S.ne;refine⟨h.hp.aK m λk hk e=>(h.sep k hk).2.2.2.1 e,h.hg,mp,h.v1.aK m λa ha e=>?_,h.v2.aK m λa ha e=>(S.ne2 a ha).2.2.1 e,h.o1.aK m λe=>?_,h.o5.aK m λe=>?_,h.kp.fresh m λk e=>?_,iR h.sz m.size,h.sep⟩
 ·rw[S.OC] at ha;cases ha;exact ne.2.2.2.2.2 (Eq.symm e)
 ·exact ne.2.1 e
 ·exact ne.2.2.2.1 e
 ·rw[show k=r from e];exact S.qM.2.2.1
theorem Vt.cells(h:Vt W Z b1 b5 r g1 B s1 s2 w H q ds bs kn):w.cell? ((⟨b5,0,none⟩:Addr).add 0)=some (sv s1)/\w.cell? ((⟨b5,0,none⟩:Addr).add 1)=some (sv s2):=by
 refine⟨?_,?_⟩<;>rw[aS,h.o5.cell]<;>rfl
end
theorem TP{w:aH}{g:Nat}{cs:List Value}{a b:Sl}{K:aH->Prop}(h:cU w g Wp cs)(hl:cs.length=2)(hK:∀w',cU w' g Wp [sv a,sv b]->aU (λk=>k=g) w w'->w'.heap.size=w.heap.size->K w'):
  aI prog Wp ⟨g,0,none⟩ (Value.agg #[Value.slice a.b a.l a.c,Value.slice b.b b.l b.c]) w K:=by
 refine CH h size_Tree (by simp[Value.cells,hl]) (by simp[Value.cells,Value.oneCell']) λw' ho hm hz=>hK w' ?_ hm hz;have:cs.take 0++(Value.agg #[Value.slice a.b a.l a.c,Value.slice b.b b.l b.c]).cells.toList++cs.drop (0+(Value.agg #[Value.slice a.b a.l a.c,Value.slice b.b b.l b.c]).cells.size)=[sv a,sv b]:=by simp[Value.cells,List.drop_of_length_le (show cs.length<=2 by omega)]
 rwa[this] at ho
theorem grow_i{HL:Mc}{n:Nat}{A:List bO}{R:List Int}{from_:Sl}{fs:List Int}{AB end_:Value}{nx:Int->List bO}{en:bO->Int}{W:aH}{Q:(Sl×Sl×Unit)->aH->Prop}(h:oS W HL n A R)(hn:n<=51)(hf:Rd W from_ 1 eI fs)(IV:fs.length<=1000)
  (hN:Gl n (vJ n fs) nx en) (hnl:∀v,(nx v).length<=100000)
  (harcs:∀v w (K:WQ Value),oS w HL n A R->(∀s w',dD w' iA 4 dU s (nx v)->aL w w'->(∀b,s.b=some b->w.heap.size<=b.block)->K (.slice s.b s.l s.c) w')->lI prog AB [aD v] w K)
  (hend:∀e w (K:WQ Value),(∀w',aL w w'->K (aD (en e)) w')->lI prog end_ [Ge e] w K)
  (hQ:∀s1 s2 ds bs w',Grown n (vJ n fs) nx en ds bs->dD w' dG 1 eI s1 ds->dD w' dG 1 eI s2 bs->aL W w'->(∀b,s1.b=some b->W.heap.size<=b.block)->(∀b,s2.b=some b->W.heap.size<=b.block)->Q (s1,s2,()) w'):
  xX (some ⟨HL.gl,0,none⟩) from_ AB end_ W Q:=by
 unfold xX;refine bD λw1 o1 k1 z1=>?_;refine aF (λh=>by simp at h) (λ_=>?_);refine bD λw3 o3 k3 z3=>?_;have K3:=k1.tr k3;refine aA rfl (aE (k:=.ptr) (some ⟨HL.N.g,0,none⟩) (h.aO K3).c0 (QV (h.aO K3).LM ?_));refine Yz o3 hn λw5 v5 k5=>?_;refine HM (v5.rd eX) (by simp;omega) λs2 w6 v6 k6 f6=>?_;have z5:w3.heap.size<w5.heap.size:=v5.lt rfl;have z6:=k6.size;refine rA (ek:=FA) (kn:=Li) λhm k7=>?_;have z7:(w6.alloc (.map #[] 0)).heap.size=w6.heap.size+1:=by simp
 generalize w6.alloc (.map #[] 0)=w7 at*;refine bD λw8 o8 k8 z8=>bD λw9 o9 k9 z9=>?_;refine TP (a:=⟨some ⟨w3.heap.size,0,none⟩,n,n⟩) (b:=s2) o9 rfl λeZ Cf UZ z10=>?_;generalize xS:(⟨some ⟨w3.heap.size,0,none⟩,n,n⟩:Sl)=s1 at*;have OC:s1.b=some ⟨w3.heap.size,0,none⟩:=by rw[<-xS]
 have f6':∀b,s2.b=some b->w5.heap.size<=b.block/\b.block<w6.heap.size:=λb hb=>⟨f6 b hb,v6.lt hb⟩;have S:GSep W eZ.heap.size W.heap.size w8.heap.size w6.heap.size w3.heap.size w7.heap.size s1 s2:=by refine⟨OC,⟨aB,aB,aB,aB,λb hb=>by have:=f6' b hb;omega⟩,⟨aB,aB,aB,aB,λb hb=>by have:=f6' b hb;omega⟩,⟨aB,aB,aB,aB,aB,aB⟩,λb hb=>by have:=f6' b hb;omega⟩
 have k910:aL w8 eZ:=k9.fresh UZ λk e=>by rw[show k=_ from e];exact dL _
 have Nn:aL w6 eZ:=(k7.tr k8).tr k910;have KW:aL W eZ:=((K3.tr k5).tr k6).tr Nn;have St0:Vt W eZ.heap.size W.heap.size w8.heap.size w6.heap.size w3.heap.size w7.heap.size s1 s2 eZ ⟨w7.heap.size,w7.heap.size,aZ⟩ [] (List.replicate n (-1)) (List.replicate n (-1)) (λ_=>none):=by
  refine⟨.inr ⟨rfl,rfl,rfl,o8.aK k910 id⟩,rfl,⟨0,hm.aK (k8.tr k910) id⟩,(v5.aK k6 λ_ _=>id).aK Nn (λ_ _=>id),v6.aK Nn λ_ _=>id,((((o1.aK k3 id).aK k5 id).aK k6 id).aK Nn id),Cf,KW,dL _,λk hk=>?_⟩;have:k=w7.heap.size:=by
   rcases hk with hk|hk|⟨a,ha,_⟩
   ·exact hk
   ·exact hk
   ·cases ha
  subst this;exact⟨aB,aB,aB,aB,aB,λb hb=>by have:=f6' b hb;omega⟩
 clear o1 o3 v5 v6 f6 f6' hm o8 o9 Cf UZ k910 Nn k9 k8 k7 k6 k5 k3 K3 k1;generalize eZ.heap.size=Z at*;obtain⟨b1,UP⟩:∃b1,b1=W.heap.size:=⟨_,rfl⟩;rw[<-UP] at S St0 ⊢;generalize w8.heap.size=b5 at*;generalize w6.heap.size=r at*;generalize w3.heap.size=g1 at*;generalize w7.heap.size=B at*;clear z1 z3 z5 z6 z7 z8 z9 z10 xS;refine bL (λc t eN=>∃(i:Nat) (H:HS) (q:List It) (kn:Int->Option Int),i<=fs.length/\c=fs.length-i/\t=((i:Int),())/\Vt W Z b1 b5 r g1 B s1 s2 eN H q (List.replicate n (-1)) (List.replicate n (-1)) kn/\Cn q/\BQ q/\
   (∀y∈q,y.key=0/\vJ n fs y.id/\kn y.id=some (-1))/\(∀j,j<i->∀v,fs[j]? =some v->0<=v->v<n->∃y∈q,y.id=v)) fs.length
  ⟨0,_,[],_,dE _,rfl,rfl,St0,(λx hx=>by cases hx),List.Pairwise.nil,(λy hy=>by cases hy),λj hj=>aB⟩ ?_
 rintro c t eN ⟨i,H,q,kn,hi,rfl,rfl,st,jB,mF,hq,qS⟩ X hX;dsimp only;have qlen:q.length<=n:=EC (mA mF) jB λy hy=>(hq y hy).2.1.2;refine aJ (λcC=>?_) (λkC=>?_)
 ·have hfr:=hf.len;have dJ:i<fs.length:=aB;have cQ:=cM dJ;have gF:=mX dJ;generalize fs[i]=v at*;obtain⟨p,hp,hc⟩:=bP (k:=.i) (e:=λx=>x) (hf.aK st.kp cI λ_ _=>id) cQ;rw[dW];refine⟨⟨aB,cC⟩,aA hp (aE (k:=.i) v hc ?_)⟩;have skip:¬(0<=v/\v<n)->X (aQ ((i:Int)+1),()) eN:=λpA=>by
   rw[pP i aB];refine hX _ _ _ aB ⟨i+1,H,q,kn,dJ,rfl,rfl,st,jB,mF,hq,λj hj u hu u0 u1=>?_⟩;rcases Nat.lt_or_ge j i with EZ|EZ
   ·exact qS j EZ u hu u0 u1
   ·have:j=i:=aB;subst this;rw[cQ] at hu;cases hu;exact absurd ⟨u0,u1⟩ pA
  refine aJ (λh0=>?_) (λh0=>skip λh=>h0 h.1);have Lb:0<=v:=h0;have hL:=h.aO st.kp;refine aA rfl (aE (k:=.ptr) (some ⟨HL.N.g,0,none⟩) hL.c0 (QV hL.LM ?_));refine aJ (λh1=>?_) (λh1=>skip λh=>h1 h.2);have hg:=st.hg;rw[<-hg];refine ZG st.hp aB λgT H13 um g13 iu f13=>?_;have st13:=st.heap S um g13 iu f13;obtain⟨nm,hmp⟩:=st13.mp;refine WT (kn:=Li) pE lF hmp v (-1:Int) λmL hm14 YL _=>?_;have st14:=st13.map S YL ⟨_,hm14⟩;rw[pP i aB];refine hX _ _ _ aB ⟨i+1,H13,_,_,dJ,rfl,rfl,st14,CM jB v 0,CL mF v 0,λy hy=>?_,λj hj u hu u0 u1=>?_⟩
  ·rcases WX hy with ja|rfl
   ·obtain⟨a1,a2,a3⟩:=hq y ja;refine⟨a1,a2,?_⟩;show(if y.id=v then some (-1:Int) else kn y.id)=some (-1)
    split
    ·rfl
    ·exact a3
   ·exact⟨rfl,⟨gF,Lb,h1⟩,if_pos rfl⟩
  ·rcases Nat.lt_or_ge j i with EZ|EZ
   ·obtain⟨y,hy,e⟩:=qS j EZ u hu u0 u1;obtain⟨y',Dw,e',_⟩:=OS jB (v:=v) (k:=0) hy;exact⟨y',Dw,e'.trans e⟩
   ·have:j=i:=aB;subst this;rw[cQ] at hu;cases hu;obtain⟨y,hy,e,_⟩:=WY (q:=q) (v:=v) (k:=0);exact⟨y,hy,e⟩
 have hfr:=hf.len;have ei:i=fs.length:=aB;subst ei;have G0:uE n (vJ n fs) nx en (λ_ _=>True) (List.replicate n (-1)) (List.replicate n (-1)) q kn:=uE.start hN hq λv hv=>by
  obtain⟨j,hj⟩:=pC.1 hv.1;exact qS j (eQ.1 hj).1 v hj hv.2.1 hv.2.2
 clear hX hq qS qlen;generalize hds0:List.replicate n (-1:Int)=ds0 at*;refine bL (λc t fY=>∃(H:HS) (q:List It) (kn:Int->Option Int) (ds bs:List Int),c=n-met ds/\t=()/\Vt W Z b1 b5 r g1 B s1 s2 fY H q ds bs kn/\Cn q/\BQ q/\uE n (vJ n fs) nx en (λ_ _=>True) ds bs q kn) (n-met ds0)
  ⟨H,q,kn,ds0,ds0,rfl,rfl,st,jB,mF,G0⟩ ?_
 clear G0 jB mF st;rintro c t fY ⟨H,q,kn,ds,bs,rfl,rfl,st,jB,mF,G⟩ X hX;have hg:=st.hg;rw[<-hg];refine xq st.hp ?_;cases q with
 |nil=>
  refine aJ (λh=>by simp at h) (λ_=>?_);refine aX (l:=[.slice,.slice]) (s1,s2,()) (iM st.o5) ?_;refine TP (a:=s1) (b:=s2) st.o1 rfl λKN o28 m28 _=>?_;refine aX (l:=[.slice,.slice]) (s1,s2,()) (iM o28) ?_;refine hQ s1 s2 ds bs KN (G.done hN) (st.v1.aK m28 λa ha e=>?_) (st.v2.aK m28 λa ha e=>(S.ne2 a ha).1 e) (st.kp.fresh m28 λk e=>by rw[show k=b1 from e];exact S.qM.1) (λb hb=>?_) (λb hb=>S.qM.2.2.2.2 b hb)
  ·rw[S.OC] at ha;cases ha;exact S.ne.2.2.1 (Eq.symm e)
  ·rw[S.OC] at hb;cases hb;exact S.qM.2.2.2.1
 |cons x q=>
  refine aJ (λ_=>?_) (λh=>absurd (by simp only[mE];omega) h);obtain⟨x0,x1,hxd,hxg,hxb,u,hu,_⟩:=G.qi x dN;have fp:=(hxg.iq hN).2.2;have xh:(x::q).length<=n:=EC (mA mF) jB λy hy=>⟨(G.qi y hy).1,(G.qi y hy).2.1⟩;have hp:oU fY H (x::q):=st.hp.resolve_right λh=>by cases h.1
  refine Pop_i hp (by simp at xh;omega) λmG H17 h17 g17 f17 m17=>?_;have d17:aL mG mG.drew:=aU.drew (aU.refl _ mG);have rQ:=(st.heap S h17 g17 m17 λk hk=>.inl ((f17 k).1 hk)).aO d17;obtain⟨G1,hmet⟩:=G.pop hN mF jB hu;have fu:=ZC (ds.set x.id.toNat x.key);rw[nN,G.dl] at fu;refine aE (k:=.slice) s1 rQ.cells.1 (aE (k:=.slice) s2 rQ.cells.2 ?_);obtain⟨nm,hmp⟩:=rQ.mp;refine BG (kn:=Li) pE lF (z:=(0:Int)) MP hmp x.id ?_;rw[hu];show _/\_;have v1l:=rQ.v1.len;have v2l:=rQ.v2.len;have jk:=G.dl;have FW:=G.bl;refine⟨rQ.cells.2,rQ.cells.1,⟨x0,aB⟩,aA S.OC ?_⟩;refine rQ.v1.store eX S.OC (i:=x.id.toNat) aB x.key (v:=aD x.key) rfl cZ (FC _) λqA v19 m19 z19=>?_;have LF:aU (λk=>k=g1) mG.drew qA:=m19;have GG:Vt W Z b1 b5 r g1 B s1 s2 qA H17 q (ds.set x.id.toNat x.key) bs kn:=by refine⟨rQ.hp.aK LF λk hk e=>(rQ.sep k hk).2.2.2.2.1 e,rQ.hg,rQ.mp.imp λ_ mm=>mm.aK LF λe=>S.ne.2.2.2.2.2 e,v19,rQ.v2.aK LF λa ha e=>(S.ne2 a ha).2.2.2 e,rQ.o1.aK LF λe=>S.ne.2.2.1 e,rQ.o5.aK LF λe=>S.ne.2.2.2.2.1 e,rQ.kp.fresh LF λk e=>by rw[show k=g1 from e];exact S.qM.2.2.2.1,by rw[z19];exact rQ.sz,rQ.sep⟩
  obtain⟨g2,Al⟩:∃g2,s2.b=some ⟨g2,0,none⟩:=by
   rcases GG.v2.gR with⟨_,h2⟩|⟨g,_,hb,_⟩
   ·have:=GG.v2.cap;omega
   ·exact⟨g,hb⟩
  refine⟨GG.cells.2,⟨x0,aB⟩,aA Al ?_⟩;refine GG.v2.store eX Al (i:=x.id.toNat) aB u (v:=aD u) rfl cZ (FC _) λBO v20 m20 z20=>?_;have m20':aU (λk=>k=g2) qA BO:=m20;have n2:=S.ne2 _ Al;have st20:Vt W Z b1 b5 r g1 B s1 s2 BO H17 q (ds.set x.id.toNat x.key) (bs.set x.id.toNat u) kn:=by refine⟨GG.hp.aK m20' λk hk e=>(GG.sep k hk).2.2.2.2.2 _ Al e,GG.hg,GG.mp.imp λ_ mm=>mm.aK m20' λe=>n2.2.2.1 e.symm,GG.v1.aK m20' λa ha e=>?_,v20,GG.o1.aK m20' λe=>n2.1 e.symm,GG.o5.aK m20' λe=>n2.2.1 e.symm,GG.kp.fresh m20' λk e=>by rw[show k=g2 from e];exact S.qM.2.2.2.2 _ Al,by rw[z20];exact GG.sz,GG.sep⟩;rw[S.OC] at ha;cases ha;exact n2.2.2.2 (Eq.symm e)
  have hdlt:x.id.toNat<ds.length:=aB;have hself:(ds.set x.id.toNat x.key)[x.id.toNat]? =some x.key:=by rw[jA,if_pos rfl,if_pos hdlt]
  have exi:(x.id.toNat:Int)=x.id:=iw x0;have QQ:Cn q:=λa ha b hb=>jB a (by simp[ha]) b (by simp[hb]);have xd:BQ q:=(List.pairwise_cons.1 mF).2;generalize hds':ds.set x.id.toNat x.key=VA at*;generalize bs.set x.id.toNat u=Nl at*;refine harcs x.id BO _ (h.aO st20.kp) λs5 DA v21 k21 f21=>⟨s5,rfl,?_⟩;have Qy:=st20.aO k21;have l5:=v21.len;have Ak:=hnl x.id;have fr5:∀b,s5.b=some b->BO.heap.size<=b.block/\b.block<DA.heap.size:=λb hb=>⟨f21 b hb,v21.lt hb⟩;refine bL (λc t FY=>∃(i:Nat) (H:HS) (q:List It) (kn:Int->Option Int),i<=(nx x.id).length/\c=(nx x.id).length-i/\t=((i:Int),())/\Vt W Z b1 b5 r g1 B s1 s2 FY H q VA Nl kn/\Cn q/\BQ q/\
    uE n (vJ n fs) nx en (λv e=>v≠x.id\/e∈(nx x.id).take i) VA Nl q kn/\dD FY iA 4 dU s5 (nx x.id)/\(∀k,H.dK k->∀b,s5.b=some b->k≠b.block)/\DA.heap.size<=FY.heap.size) (nx x.id).length
   ⟨0,H17,q,kn,dE _,rfl,rfl,Qy,QQ,xd,G1.mono (λv e _ hh=>hh.resolve_right dN),v21,λk hk b hb e=>by have:=(fr5 b hb).1;have:=st20.hp.lt hk;omega,dL _⟩ ?_
  rintro c t FY ⟨i,H2,q2,kn2,hi,rfl,rfl,st2,KQ,QP,G2,v22,sp2,z22⟩ Y hY;dsimp only;have hq2len:q2.length<=n:=EC (mA QP) KQ λy hy=>⟨(G2.qi y hy).1,(G2.qi y hy).2.1⟩;refine aJ (λcC=>?_) (λkC=>?_)
  ·have dJ:i<(nx x.id).length:=aB;have cQ:=cM dJ;have gF:=mX dJ;have sC:(nx x.id).take (i+1)=(nx x.id).take i++[(nx x.id)[i]]:=mM dJ;generalize (nx x.id)[i]=e at*;obtain⟨e0,e1,ew0,ew1⟩:=hN.arc x.id e gF;obtain⟨p,hp,hh⟩:=vO (v22.rd jJ) cQ;rw[dW];refine⟨⟨aB,cC⟩,aA hp (aX (nM e) hh ?_)⟩;refine CQ (x:=e) λAi k24 o24 _=>?_;refine aX (nM e) (iM o24) ?_;refine hend e Ai _ λCd k25=>⟨en e,rfl,?_⟩;have k225:=k24.tr k25;have st25:=st2.aO k225;have o25:=o24.aK k25 id;have v25:=v22.aK k225 λ_ _=>id;have hdl':=G2.dl;obtain⟨y,hy⟩:∃y,VA[(en e).toNat]? =some y:=⟨_,cM (show(en e).toNat<VA.length by omega)⟩;obtain⟨pa,hpa,hca⟩:=bP (k:=.i) (e:=λx=>x) (st25.v1.rd eX) hy;have tko:∀v' e',e'∈nx v'->(v'≠x.id\/e'∈(nx x.id).take (i+1))->((v'≠x.id\/e'∈(nx x.id).take i)\/(v'=x.id/\e'=e)):=λv' e' _ hh=>by
    rcases hh with h1|h1
    ·exact .inl (.inl h1)
    ·rw[sC] at h1;rcases kE.1 h1 with h2|h2
     ·exact .inl (.inr h2)
     ·by_cases hv:v'=x.id
      ·exact .inr ⟨hv,by simpa using h2⟩
      ·exact .inl (.inl hv)
   have z25:=k225.size;refine aE (k:=.slice) s1 st25.cells.1 ⟨⟨e0,aB⟩,aA hpa (aE (k:=.i) y hca ?_)⟩;refine aJ (λDE=>?_) (λuB=>?_)
   ·have hy1:y=-1:=by
     rcases G2.Co _ _ hy with h1|⟨h1,_⟩
     ·exact h1
     ·have hneg':y<0:=DE;omega
    subst hy1;have hwr:aQ (x.key+e.w)=x.key+e.w:=gZ (by simp only[BW] at*;omega) (by simp only[BW] at*;omega);refine aE (k:=.i) e.w (qJ o25).2.2.1 ?_;rw[hwr];have hg2':=st25.hg;rw[hg,<-hg2'];refine ZG st25.hp aB λQi H26 h26 g26 m26 f26=>?_;have st26:=st25.heap S h26 g26 m26 f26;have G3:=(G2.push hN KQ (v:=x.id.toNat) (d:=x.key) (e:=e) hself fp (by rw[exi];exact gF) hy);rw[exi] at G3;have G4:=G3.mono (Ql:=λv e=>v≠x.id\/e∈(nx x.id).take (i+1)) tko;have sp26:∀k,H26.dK k->∀b,s5.b=some b->k≠b.block:=λk hk b hb e=>by
     rcases f26 k hk with h1|h1
     ·exact sp2 k h1 b hb e
     ·have:=(fr5 b hb).2;omega
    have v26:=v25.aK m26 λb hb hk=>sp2 _ hk b hb rfl;have z26:=m26.size;rw[pP i aB];have hflag:∀b,(nY q2 (en e) (x.key+e.w)).2=b->uE n (vJ n fs) nx en (λv e=>v≠x.id\/e∈(nx x.id).take (i+1)) VA Nl (nY q2 (en e) (x.key+e.w)).1 (knP kn2 b (en e) x.id):=λb hb=>by rw[<-hb];exact G4
    refine aF (λhb=>?_) (λhb=>?_)
    ·obtain⟨nm2,hmp2⟩:=st26.mp;refine WT (kn:=Li) pE lF hmp2 (en e) x.id λVk hm27 m27 z27=>?_;have st27:=st26.map S m27 ⟨_,hm27⟩;refine hY _ _ _ aB ⟨i+1,H26,_,_,dJ,rfl,rfl,st27,CM KQ _ _,CL QP _ _,hflag true hb,v26.aK m27 λb bR e=>?_,sp26,aB⟩;have:=(fr5 b bR).1;have h1:=S.high.2.2.1;have h2:=st20.sz;omega
    ·exact hY _ _ _ aB ⟨i+1,H26,_,kn2,dJ,rfl,rfl,st26,CM KQ _ _,CL QP _ _,hflag false hb,v26,sp26,aB⟩
   ·have VX:0<=y:=by have:¬y<0:=uB;omega
    rw[pP i aB];exact hY _ _ _ aB ⟨i+1,H2,q2,kn2,dJ,rfl,rfl,st25,KQ,QP,(G2.skip (v:=x.id) (e:=e) hy VX).mono tko,v25,sp2,aB⟩
  ·have ei:i=(nx x.id).length:=aB;subst ei;rw[oI] at G2;refine hX (n-met VA) _ _ aB ⟨H2,q2,kn2,VA,Nl,rfl,rfl,st2,KQ,QP,G2.mono λv e he _=>?_⟩
   by_cases hv:v=x.id
   ·exact .inr (hv▸he)
   ·exact .inl hv
end
section
theorem weight_i{w:aH}{t:Mb}{G:Gr}{i:Int}{Q:Int->aH->Prop}(h:sF w t G)(hi:G.mH i)(hQ:∀w',aL w w'->Q (G.wt i) w'):yD (some ⟨t.t,0,none⟩) i w Q:=by
 unfold yD;refine aA rfl (aE (k:=.ptr) (some ⟨t.H.g,0,none⟩) h.cells.1 ?_);exact JQ h hi λa w' hc k _=>aE (k:=.i) (G.wt i) hc (hQ w' k)
theorem zQ(b:Bool):eB b≠[]:=by simp
theorem WW{c:List Bool}{e:Int}(h:(c.length:Int)<=e):jL c e=false:=by
 unfold jL;rw[LR,List.getElem?_eq_none aB];rfl
theorem OP{c:List Bool}{e:Int}(h0:0<=e)(h:e<c.length):c[e.toNat]? =some (jL c e):=by
 have:e.toNat<c.length:=aB;unfold jL;rw[LR,cM this];rfl
theorem shut_i{w:aH}{s:Sl}{c:List Bool}{e:Int}{Q:Bool->aH->Prop}(hr:Rd w s 1 eB c)(h0:0<=e)(hQ:Q (jL c e) w):EX s e w Q:=by
 unfold EX;have hl:=hr.len;refine aJ (λcC=>?_) (λkC=>by rw[WW aB] at hQ;exact hQ);obtain⟨p,hp,hc⟩:=bP (k:=.bool) (e:=λx=>x) hr (OP h0 aB);exact⟨⟨h0,cC⟩,aA hp (aE (k:=.bool) (jL c e) hc hQ)⟩
structure DSt(W w:aH)(B g1:Nat)(s1:Sl)(H:HS)(q:List It)(ds:List Int):Prop where
 hp:rU w H q
 hg:H.g=B
 OC:s1.b=some ⟨g1,0,none⟩
 v1:dD w dG 1 eI s1 ds
 kp:aL W w
 sep:∀k,H.dK k->W.heap.size<=k/\k≠g1
 qM:W.heap.size<=g1
section
variable{W w:aH}{B g1:Nat}{s1:Sl}{H:HS}{q:List It}{ds:List Int}
theorem DSt.aO{w':aH}(h:DSt W w B g1 s1 H q ds)(k:aL w w'):DSt W w' B g1 s1 H q ds:=⟨h.hp.aO k,h.hg,h.OC,h.v1.aK k λ_ _=>id,h.kp.tr k,h.sep,h.qM⟩
theorem DSt.heap{w':aH}{H':HS}{q':List It}(h:DSt W w B g1 s1 H q ds)(hp:oU w' H' q')(hg:H'.g=H.g)(m:aU H.dK w w')(f:∀k,H'.dK k->H.dK k\/w.heap.size<=k):DSt W w' B g1 s1 H' q' ds:=by
 have hg1:=h.v1.lt h.OC;have hk:=h.kp.size;refine⟨.inl hp,hg.trans h.hg,h.OC,h.v1.aK m λa ha hk=>?_,h.kp.fresh m λk hk=>(h.sep k hk).1,λk lT=>?_,h.qM⟩
 ·rw[h.OC] at ha;cases ha;exact(h.sep _ hk).2 rfl
 ·rcases f k lT with h1|h1
  ·exact h.sep k h1
  ·have Al:g1<w.heap.size:=hg1;exact⟨aB,aB⟩
end
theorem To_i{t:Mb}{G:Gr}{node:Int}{cX:Sl}{c:List Bool}{W:aH}{Q:Sl->aH->Prop}(h:sF W t G)(hN:G.GB node)(hc:Rd W cX 1 eB c)
  (hQ:∀s ds w',G.oK c node ds->dD w' dG 1 eI s ds->aL W w'->(∀b,s.b=some b->W.heap.size<=b.block)->(∀(v:Nat) x,ds[v]? =some x->-1<=x/\x<=51*BW)->Q s w'):IC (some ⟨t.t,0,none⟩) node cX W Q:=by
 unfold IC;have ok:=h.IS.ok;have hm:=ok.m1;have Vd:=ok.nxOk c node;refine aF (λh=>by simp at h) (λ_=>aJ (λh=>aB) (λ_=>?_));refine aA rfl (aE (k:=.ptr) (some ⟨t.H.g,0,none⟩) h.cells.1 (ON h.IS (aJ (λh=>aB) (λ_=>?_))));unfold NP;refine bD λw1 o1 k1 z1=>?_;have h1:=h.aO k1;refine aA rfl (aE (k:=.ptr) (some ⟨t.H.g,0,none⟩) h1.cells.1 (tQ h1.IS ?_));refine Yz o1 hm.2 λw3 v3 k3=>?_;generalize xS:(⟨some ⟨w1.heap.size,0,none⟩,G.m,G.m⟩:Sl)=s1 at*;have OC:s1.b=some ⟨w1.heap.size,0,none⟩:=by rw[<-xS]
 refine bD λw4 o4 k4 z4=>?_;have K4:=(k1.tr k3).tr k4;have h4:=h.aO K4;refine aA rfl (aE (k:=.ptr) (some ⟨t.H.g,0,none⟩) h4.cells.1 ?_);refine gIn_i h4.IS λs2 w5 v5 k5 f5=>?_;have K5:=K4.tr k5;have z13:=v3.lt OC;have zW:=k1.size;have z3:=k3.size;have hl13:w1.heap.size<w3.heap.size:=z13;have St0:DSt W w5 w3.heap.size w1.heap.size s1 ⟨w3.heap.size,w3.heap.size,aZ⟩ [] (List.replicate G.m (-1)):=by
  refine⟨.inr ⟨rfl,rfl,rfl,o4.aK k5 id⟩,rfl,OC,(v3.aK k4 λ_ _=>id).aK k5 λ_ _=>id,K5,λk hk=>?_,aB⟩;have:k=w3.heap.size:=by
   rcases hk with hk|hk|⟨a,ha,_⟩
   ·exact hk
   ·exact hk
   ·cases ha
  subst this;exact⟨aB,aB⟩
 have il:=G.ym node;have hsrc:∀e,e∈G.Ux node↔G.src node e:=λe=>G.yj;have l2:=v5.len;have f5':∀b,s2.b=some b->w4.heap.size<=b.block/\b.block<w5.heap.size:=λb hb=>⟨f5 b hb,v5.lt hb⟩;clear o1 v3 o4 f5;generalize hB:w3.heap.size=B at*;generalize hg1:w1.heap.size=g1 at*;refine bL (λc' t' w6=>∃(i:Nat) (H:HS) (q:List It),i<=(G.Ux node).length/\c'=(G.Ux node).length-i/\t'=((i:Int),())/\DSt W w6 B g1 s1 H q (List.replicate G.m (-1))/\Cn q/\BQ q/\dD w6 dG 1 eI s2 (G.Ux node)/\(∀k,H.dK k->∀b,s2.b=some b->k≠b.block)/\
   (∀y∈q,y.key=0/\G.src node y.id)/\(∀j,j<i->∀v,(G.Ux node)[j]? =some v->∃y∈q,y.id=v)) (G.Ux node).length
  ⟨0,_,[],dE _,rfl,rfl,St0,(λx hx=>by cases hx),List.Pairwise.nil,v5,λk hk b hb e=>?_,(λy hy=>by cases hy),λj hj=>aB⟩ ?_
 ·have hkb:k=B:=by
   rcases hk with hk|hk|⟨a,ha,_⟩
   ·exact hk
   ·exact hk
   ·cases ha
  have:=f5' b hb;omega
 rintro c' t' w6 ⟨i,H,q,hi,rfl,rfl,st,jB,mF,v6,LJ,hq,qS⟩ X hX;dsimp only;have qlen:q.length<=G.m:=EC (mA mF) jB λy hy=>(hq y hy).2.1;refine aJ (λcC=>?_) (λkC=>?_)
 ·have dJ:i<(G.Ux node).length:=aB;have cQ:=cM dJ;have gF:=mX dJ;generalize (G.Ux node)[i]=v at*;obtain⟨p,hp,hcp⟩:=bP (k:=.i) (e:=λx=>x) (v6.rd eX) cQ;rw[dW];refine⟨⟨aB,cC⟩,aA hp (aE (k:=.i) v hcp ?_)⟩;have hg:=st.hg;rw[<-hg];refine ZG st.hp aB λw7 H7 h7 g7 m7 f7=>?_;have Dr:=st.heap h7 g7 m7 f7;rw[pP i aB];refine hX _ _ _ aB ⟨i+1,H7,_,dJ,rfl,rfl,Dr,CM jB v 0,CL mF v 0,v6.aK m7 λb hb hk=>LJ _ hk b hb rfl,λk hk b hb e=>?_,λy hy=>?_,λj hj u hu=>?_⟩
  ·rcases f7 k hk with h1|h1
   ·exact LJ k h1 b hb e
   ·have:=v6.lt hb;omega
  ·rcases WX hy with ja|rfl
   ·exact hq y ja
   ·exact⟨rfl,(hsrc v).1 gF⟩
  ·rcases Nat.lt_or_ge j i with EZ|EZ
   ·obtain⟨y,hy,e⟩:=qS j EZ u hu;obtain⟨y',Dw,e',_⟩:=OS jB (v:=v) (k:=0) hy;exact⟨y',Dw,e'.trans e⟩
   ·have:j=i:=aB;subst this;rw[cQ] at hu;cases hu;obtain⟨y,hy,e,_⟩:=WY (q:=q) (v:=v) (k:=0);exact⟨y,hy,e⟩
 have ei:i=(G.Ux node).length:=aB;subst ei;have G0:uE G.m (G.src node) (G.nx c) (λe=>e.f) (λ_ _=>True) (List.replicate G.m (-1)) (List.replicate G.m (-1)) q (λ_=>some (-1)):=uE.start Vd (λy hy=>⟨(hq y hy).1,(hq y hy).2,rfl⟩) λv hv=>by
  obtain⟨j,hj⟩:=pC.1 ((hsrc v).2 hv);exact qS j (eQ.1 hj).1 v hj
 clear hX hq qS qlen kC hi St0 v6 LJ f5' v5 l2;generalize hds0:List.replicate G.m (-1:Int)=ds0 at*;refine bL (λc' t' fY=>∃(H:HS) (q:List It) (kn:Int->Option Int) (ds bs:List Int),c'=G.m-met ds/\t'=()/\DSt W fY B g1 s1 H q ds/\Cn q/\BQ q/\uE G.m (G.src node) (G.nx c) (λe=>e.f) (λ_ _=>True) ds bs q kn) (G.m-met ds0)
  ⟨H,q,_,ds0,ds0,rfl,rfl,st,jB,mF,G0⟩ ?_
 clear G0 jB mF st;rintro c' t' fY ⟨H,q,kn,ds,bs,rfl,rfl,st,jB,mF,GI⟩ X hX;have hg:=st.hg;rw[<-hg];refine xq st.hp ?_;cases q with
 |nil=>
  refine aJ (λh=>by simp at h) (λ_=>?_);have gr:=GI.done Vd;refine hQ s1 ds fY gr.oK st.v1 st.kp (λb hb=>?_) λv x hx=>?_
  ·rw[st.OC] at hb;cases hb;exact st.qM
  ·have:=gr.gX v x hx;simp only[BW] at*;omega
 |cons x q=>
  refine aJ (λ_=>?_) (λh=>absurd (by simp only[mE];omega) h);obtain⟨x0,x1,hxd,hxg,hxb,u,hu,_⟩:=GI.qi x dN;have hxE:G.mH x.id:=⟨x0,x1⟩;have fp:=(hxg.iq Vd).2.2;have xh:(x::q).length<=G.m:=EC (mA mF) jB λy hy=>⟨(GI.qi y hy).1,(GI.qi y hy).2.1⟩;have hp:oU fY H (x::q):=st.hp.resolve_right λh=>by cases h.1
  refine Pop_i hp (by simp at xh;omega) λmG H17 h17 g17 f17 m17=>?_;have rQ:=st.heap h17 g17 m17 λk hk=>.inl ((f17 k).1 hk);obtain⟨G1,hmet⟩:=GI.pop Vd mF jB hu;have fu:=ZC (ds.set x.id.toNat x.key);rw[nN,GI.dl] at fu;have v1l:=rQ.v1.len;have jk:=GI.dl;refine⟨⟨x0,aB⟩,aA rQ.OC ?_⟩;refine rQ.v1.store eX rQ.OC (i:=x.id.toNat) aB x.key (v:=aD x.key) rfl cZ (FC _) λqA v19 m19 z19=>?_;have LF:aU (λk=>k=g1) mG qA:=m19;have GG:DSt W qA B g1 s1 H17 q (ds.set x.id.toNat x.key):=⟨rQ.hp.aK LF λk hk e=>(rQ.sep k hk).2 e,rQ.hg,rQ.OC,v19,rQ.kp.fresh LF λk e=>by rw[show k=g1 from e];exact rQ.qM,rQ.sep,rQ.qM⟩;have hdlt:x.id.toNat<ds.length:=aB;have hself:(ds.set x.id.toNat x.key)[x.id.toNat]? =some x.key:=by rw[jA,if_pos rfl,if_pos hdlt]
  have exi:(x.id.toNat:Int)=x.id:=iw x0;have QQ:Cn q:=λa ha b hb=>jB a (by simp[ha]) b (by simp[hb]);have xd:BQ q:=(List.pairwise_cons.1 mF).2;generalize hds':ds.set x.id.toNat x.key=VA at*;generalize bs.set x.id.toNat u=Nl at*;refine shut_i (hc.aK GG.kp zQ λ_ _=>id) x0 ?_;refine aF (λhsh=>?_) (λhsh=>?_)
  ·refine hX (G.m-met VA) _ _ aB ⟨H17,q,kn,VA,Nl,rfl,rfl,GG,QQ,xd,G1.mono λv e he _ ev=>?_⟩;rw[ev] at he;have:=(G.CD.1 he).1;rw[hsh] at this;cases this
  refine Prev_i (h.aO GG.kp) λs3 DA v21 k21 f21=>?_;have Qy:=GG.aO k21;have l3:=v21.len;have hpl:=G.Xz x.id;have hnxe:G.nx c x.id=(G.oP x.id).map λa=>(⟨a,x.id,G.wt x.id,-1⟩:bO):=by unfold Gr.nx;rw[if_neg (by rw[hsh];simp)]
  have hpE:∀p∈G.oP x.id,G.mH p:=λp hp=>(G.fN.1 (G.XB.1 hp)).1;have hpN:∀p∈G.oP x.id,(⟨p,x.id,G.wt x.id,-1⟩:bO)∈G.nx c x.id:=λp hp=>by rw[hnxe];exact mD.2 ⟨p,hp,rfl⟩
  have Uy:=ok.w1 hxE;have fr3:∀b,s3.b=some b->qA.heap.size<=b.block/\b.block<DA.heap.size:=λb hb=>⟨f21 b hb,v21.lt hb⟩;refine bL (λc' t' FY=>∃(i:Nat) (H:HS) (q:List It) (kn:Int->Option Int),i<=(G.oP x.id).length/\c'=(G.oP x.id).length-i/\t'=((i:Int),())/\DSt W FY B g1 s1 H q VA/\Cn q/\BQ q/\
    uE G.m (G.src node) (G.nx c) (λe=>e.f) (λv e=>v≠x.id\/e.f∈(G.oP x.id).take i) VA Nl q kn/\dD FY dG 1 eI s3 (G.oP x.id)/\(∀k,H.dK k->∀b,s3.b=some b->k≠b.block)) (G.oP x.id).length
   ⟨0,H17,q,kn,dE _,rfl,rfl,Qy,QQ,xd,G1.mono (λv e _ hh=>hh.resolve_right dN),v21,λk hk b hb e=>by have:=(fr3 b hb).1;have:=GG.hp.lt hk;omega⟩ ?_
  rintro c' t' FY ⟨i,H2,q2,kn2,hi,rfl,rfl,st2,KQ,QP,G2,v22,sp2⟩ Y hY;dsimp only;have hq2len:q2.length<=G.m:=EC (mA QP) KQ λy hy=>⟨(G2.qi y hy).1,(G2.qi y hy).2.1⟩;refine aJ (λcC=>?_) (λkC=>?_)
  ·have dJ:i<(G.oP x.id).length:=aB;have cQ:=cM dJ;have gF:=mX dJ;have sC:(G.oP x.id).take (i+1)=(G.oP x.id).take i++[(G.oP x.id)[i]]:=mM dJ;generalize (G.oP x.id)[i]=p at*;have hp0:=hpE p gF;have hpn:=hpN p gF;obtain⟨pa,hpa,hca⟩:=bP (k:=.i) (e:=λx=>x) (v22.rd eX) cQ;have hdl':=G2.dl;obtain⟨y,hy⟩:∃y,VA[p.toNat]? =some y:=⟨_,cM (show p.toNat<VA.length by have:=hp0.2;omega)⟩;obtain⟨pb,hpb,hcb⟩:=bP (k:=.i) (e:=λx=>x) (st2.v1.rd eX) hy;rw[dW];refine⟨⟨aB,cC⟩,aA hpa (aE (k:=.i) p hca ⟨⟨hp0.1,by have:=hp0.2;omega⟩,aA hpb (aE (k:=.i) y hcb ?_)⟩)⟩;have tko:∀v' (e':bO),e'∈G.nx c v'->(v'≠x.id\/e'.f∈(G.oP x.id).take (i+1))->((v'≠x.id\/e'.f∈(G.oP x.id).take i)\/(v'=x.id/\e'=⟨p,x.id,G.wt x.id,-1⟩)):=λv' e' uK hh=>by
    by_cases hv:v'=x.id
    ·rcases hh with h1|h1
     ·exact absurd hv h1
     ·rw[sC] at h1;rcases kE.1 h1 with h2|h2
      ·exact .inl (.inr h2)
      ·refine .inr ⟨hv,?_⟩;have h3:e'.f=p:=by simpa using h2
       rw[hv] at uK;obtain⟨_,_,h4⟩:=G.CD.1 uK;rw[h4,h3]
    ·exact .inl (.inl hv)
   refine aJ (λDE=>?_) (λuB=>?_)
   ·have hy1:y=-1:=by
     rcases G2.Co _ _ hy with h1|⟨h1,_⟩
     ·exact h1
     ·have hneg':y<0:=DE;omega
    subst hy1;have hwr:aQ (x.key+G.wt x.id)=x.key+G.wt x.id:=gZ (by simp only[BW] at*;omega) (by simp only[BW] at*;omega);refine weight_i (h.aO st2.kp) hxE λLe iz=>?_;have st23:=st2.aO iz;rw[hwr];have hg2':=st23.hg;rw[hg,<-hg2'];refine ZG st23.hp aB λQi H26 h26 g26 m26 f26=>?_;have st26:=st23.heap h26 g26 m26 f26;have G3:=(G2.push Vd KQ (v:=x.id.toNat) (d:=x.key) (e:=⟨p,x.id,G.wt x.id,-1⟩) hself fp (by rw[exi];exact hpn) hy);rw[exi] at G3;rw[pP i aB];refine hY _ _ _ aB ⟨i+1,H26,_,_,dJ,rfl,rfl,st26,CM KQ _ _,CL QP _ _,G3.mono tko,(v22.aK iz λ_ _=>id).aK m26 λb hb hk=>sp2 _ hk b hb rfl,λk hk b hb e=>?_⟩;rcases f26 k hk with h1|h1
    ·exact sp2 k h1 b hb e
    ·have:=v22.lt hb;have:=iz.size;omega
   ·have VX:0<=y:=by have:¬y<0:=uB;omega
    rw[pP i aB];exact hY _ _ _ aB ⟨i+1,H2,q2,kn2,dJ,rfl,rfl,st2,KQ,QP,(G2.skip (v:=x.id) (e:=⟨p,x.id,G.wt x.id,-1⟩) hy VX).mono tko,v22,sp2⟩
  ·have ei:i=(G.oP x.id).length:=aB;subst ei;rw[oI] at G2;refine hX (G.m-met VA) _ _ aB ⟨H2,q2,kn2,VA,Nl,rfl,rfl,st2,KQ,QP,G2.mono λv e he _=>?_⟩
   by_cases hv:v=x.id
   ·rw[hv] at he;exact .inr (G.XB.2 (G.CD.1 he).2.1)
   ·exact .inl hv
end
section
theorem Tg{p:Int->Bool}{x:Int}:∀{l:List Int} {i:Nat},(∀y∈l.take i,p y=false)->l[i]? =some x->p x=true->l.find? p=some x
 | [],i,_,h,_=>by simp at h
 |y::l,0,_,h,hp=>by simp at h;subst h;rw[List.find?_cons,hp]
 |y::l,i+1,hn,h,hp=>by
  rw[List.find?_cons,hn y dN];exact Tg (i:=i) (λz hz=>hn z (by rw[List.take_succ_cons];exact VG _ hz)) (by simpa using h) hp
theorem ae(x:Int):MM x x=x:=by unfold MM;split<;>rfl
section
variable{t:Mb}{G:Gr}{oK cX:Sl}{ds:List Int}{c:List Bool}
theorem step_i{e:Int}{W:aH}{Q:Int->aH->Prop}(h:sF W t G)(hE:G.mH e)(hf:Rd W oK 1 eI ds)(hl:ds.length=G.m)(hc:Rd W cX 1 eB c)(hb:∀(v:Nat) x,ds[v]? =some x->-1<=x/\x<=102*BW)
  (hQ:∀w',aL W w'->Q (match G.QJ c ds e with|some n=>n|none=>-1) w'):AP (some ⟨t.t,0,none⟩) e oK cX W Q:=by
 unfold AP;have ok:=h.IS.ok;have hm:=ok.m1;have IV:=hf.len;have hcl:=hc.len;refine Next_i h λs1 w1 v1 k1 f1=>?_;have l1:=v1.len;have hnl:=G.yP e;have hnE:∀b∈G.gL e,G.mH b:=λb hb=>(G.fN.1 (G.tA.1 hb)).2.1;have gv:∀{x:Int},G.mH x->ds[x.toNat]? =some (pB ds x):=λ{x} hx=>by
  have:x.toNat<ds.length:=by have:=hx.2;omega
  unfold pB;rw[LR,cM this];rfl
 refine bL (λc' s w2=>∃i:Nat,i<=(G.gL e).length/\c'=(G.gL e).length-i/\s=((i:Int),())/\aL w1 w2/\∀x∈(G.gL e).take i,G.qG c ds e x=false) (G.gL e).length ⟨0,dE _,rfl,rfl,aU.refl _ _,by simp⟩ ?_;rintro c' s w2 ⟨i,hi,rfl,rfl,k2,pA⟩ X hX;dsimp only;refine aJ (λcC=>?_) (λkC=>?_)
 ·have dJ:i<(G.gL e).length:=aB;have cQ:=cM dJ;have Vz:=hnE _ (mX dJ);have sC:=mM dJ;generalize (G.gL e)[i]=n at*;obtain⟨p,hp,hcp⟩:=bP (k:=.i) (e:=λx=>x) ((v1.aK k2 λ_ _=>id).rd eX) cQ;rw[dW];have h2:=h.aO (k1.tr k2);refine⟨⟨aB,cC⟩,aA hp (aE (k:=.i) n hcp (aA rfl (aE (k:=.ptr) (some ⟨t.H.g,0,none⟩) h2.cells.1 ?_)))⟩;refine JQ h2 Vz λa3 w5 hc5 k5 _=>?_;have Dv:=k2.tr k5;have KW5:=k1.tr Dv;have next:∀wz,aL w1 wz->G.qG c ds e n=false->X (aQ ((i:Int)+1),()) wz:=λwz kz hn=>by
   rw[pP i aB];refine hX _ _ _ aB ⟨i+1,dJ,rfl,rfl,kz,λx hx=>?_⟩;rw[sC] at hx;rcases kE.1 hx with hx|hx
   ·exact pA x hx
   ·have:x=n:=by simpa using hx
    rw[this];exact hn
  intro J hJ;have qU:∀b,b=jL c n->J (b,()) w5:=by
   rintro b rfl;apply hJ;dsimp only;have d5:aL w5 w5.drew:=aU.drew (aU.refl _ w5);have kd:=Dv.tr d5;have hfd:=hf.aK (KW5.tr d5) cI λ_ _=>id;have hcd:=d5.cell hc5 id;obtain⟨pn,hpn,Fm⟩:=bP (k:=.i) (e:=λx=>x) hfd (gv Vz);obtain⟨pe,Qn,hce⟩:=bP (k:=.i) (e:=λx=>x) hfd (gv hE);have bn:=hb _ _ (gv Vz);have be:=hb _ _ (gv hE);have hw:=ok.w1 Vz;have In:0<=n/\n<(oK.l:Int):=⟨Vz.1,by have:=Vz.2;omega⟩;have Ie:0<=e/\e<(oK.l:Int):=⟨hE.1,by have:=hE.2;omega⟩;refine aF (λhs=>?_) (λhs=>?_)
   ·have DB:jL c n=false:=by simpa using hs
    have okE:G.qG c ds e n=(decide (0<=pB ds n) && decide (pB ds n+G.wt n=pB ds e)):=by unfold Gr.qG;rw[DB];rfl
    refine aJ (λ_=>⟨In,aA hpn (aE (k:=.i) (pB ds n) Fm ?_)⟩) (λh=>absurd In.2 h);refine aJ (λh0=>⟨In,aA hpn (aE (k:=.i) (pB ds n) Fm ⟨Ie,aA Qn (aE (k:=.i) (pB ds e) hce ?_)⟩)⟩) (λh0=>next _ kd ?_)
    ·refine aJ (λSF=>⟨In,aA hpn (aE (k:=.i) (pB ds n) Fm ⟨Ie,aA Qn (aE (k:=.i) (pB ds e) hce (aE (k:=.i) (G.wt n) hcd ?_))⟩)⟩) (λWa=>next _ kd ?_)
     ·rw[gZ (n:=pB ds e-G.wt n) (by simp only[BW] at*;omega) (by simp only[BW] at*;omega)];refine aF (λheq=>?_) (λgK=>next _ kd ?_)
      ·have Rj:pB ds n=pB ds e-G.wt n:=by simpa using heq
       have oJ:G.qG c ds e n=true:=by rw[okE];simp only[sV,decide_eq_true_eq];exact⟨h0,aB⟩
       have:=hQ w5.drew (KW5.tr d5);rw[show G.QJ c ds e=some n from Tg pA cQ oJ] at this;exact this
      ·have YS:¬pB ds n=pB ds e-G.wt n:=by simpa using gK
       rw[okE];simp only[Bool.and_eq_false_iff,decide_eq_false_iff_not];exact .inr aB
     ·have hge2':¬pB ds n<pB ds e:=Wa;rw[okE];simp only[Bool.and_eq_false_iff,decide_eq_false_iff_not];exact .inr aB
    ·have Lb:¬pB ds n>=0:=h0;rw[okE];simp only[Bool.and_eq_false_iff,decide_eq_false_iff_not];exact .inl aB
   ·have DB:jL c n=true:=by simpa using hs
    exact next _ kd (by unfold Gr.qG;rw[DB];rfl)
  have hc5':=hc.aK KW5 zQ λ_ _=>id;refine aJ (λhlt3=>?_) (λhge3=>qU false (WW aB).symm);obtain⟨pc,hpc,hcc⟩:=bP (k:=.bool) (e:=λx=>x) hc5' (OP Vz.1 aB);exact⟨⟨Vz.1,hlt3⟩,aA hpc (aE (k:=.bool) (jL c n) hcc (qU _ rfl))⟩
 ·have ei:i=(G.gL e).length:=aB;subst ei;rw[oI] at pA;have:=hQ w2 (k1.tr k2);rw[show G.QJ c ds e=none from List.find?_eq_none.2 λx hx=>by rw[pA x hx];simp] at this;exact this
theorem aAa{v e:Int}{W:aH}{Q:Sl->Bool->aH->Prop}(h:sF W t G)(hd:G.oK c v ds)(hf:Rd W oK 1 eI ds)(hc:Rd W cX 1 eB c)(hb:∀(v:Nat) x,ds[v]? =some x->-1<=x/\x<=102*BW)
  (pA:¬(G.mH e/\0<=pB ds e)->Q aZ false W) (Re:∀l s w',G.mH e->0<=pB ds e->G.vH c ds e l->dD w' dG 1 eI s l->aL W w'->(∀b,s.b=some b->W.heap.size<=b.block)->Q s true w'):
  pY (some ⟨t.t,0,none⟩) e oK cX W Q:=by
 unfold pY;have ok:=h.IS.ok;have hm:=ok.m1;have hl:=hd.1;have IV:=hf.len;rw[hl] at IV;refine aF (λh=>by simp at h) (λ_=>aJ (λh=>pA λh'=>aB) (λh0=>?_));refine aA rfl (aE (k:=.ptr) (some ⟨t.H.g,0,none⟩) h.cells.1 (tQ h.IS ?_));rw[IV,ae];refine aJ (λh=>pA λh'=>aB) (λh1=>?_);have hE:G.mH e:=⟨aB,aB⟩;obtain⟨p,hp,hcp⟩:=bP (k:=.i) (e:=λx=>x) hf (ED hd hE);refine⟨⟨hE.1,hE.2⟩,aA hp (aE (k:=.i) (pB ds e) hcp (aJ (λDE=>pA λh'=>?_) (λuB=>?_)))⟩
 ·have:pB ds e<0:=DE;omega
 have VX:0<=pB ds e:=by have:¬pB ds e<0:=uB;omega
 obtain⟨tot,kq⟩:=ok.Td hd (pB ds e).toNat hE VX aB;have htl:=kq.len ok;refine bL (λc' s w2=>∃(bI:Int) (l0 l:List Int) (o:Sl),c'=l.length/\s=(bI,o,())/\G.mH bI/\G.vH c ds bI l/\l0++l=tot/\aL W w2/\dD w2 dG 1 eI o l0/\(∀b,o.b=some b->W.heap.size<=b.block)) tot.length
  ⟨e,[],tot,aZ,rfl,rfl,hE,kq,rfl,aU.refl _ _,dD.nil _ _ _ _,λb hb=>by cases hb⟩ ?_
 rintro c' s w2 ⟨bI,l0,l,o,rfl,rfl,hcE,hlw,Rk,k2,v2,f2⟩ X hX;dsimp only;obtain⟨p2,Cj,hcp2⟩:=bP (k:=.i) (e:=λx=>x) (hf.aK k2 cI λ_ _=>id) (ED hd hcE);refine⟨⟨hcE.1,hcE.2⟩,aA Cj (aE (k:=.i) (pB ds bI) hcp2 ?_)⟩;cases hlw with
 |nil hz=>refine aJ (λh=>absurd (show pB ds bI>0 from h) aB) (λ_=>?_);rw[uA] at Rk;subst Rk;exact Re _ o w2 hE VX kq v2 k2 f2
 | @cons _ n l hz vE hlw=>
  refine aJ (λ_=>?_) (λh=>absurd (show pB ds bI>0 from hz) h);refine step_i (h.aO k2) hcE (hf.aK k2 cI λ_ _=>id) hl (hc.aK k2 zQ λ_ _=>id) hb λw3 k3=>?_;rw[vE];dsimp only;have hnE:=(G.fN.1 (G.wY vE).1).2.1;refine aJ (λh=>absurd hnE.1 (by have:n<0:=h;omega)) (λ_=>?_);refine bD λw4 o4 k4 z4=>?_;have k34:=k3.tr k4;have v4:=v2.aK k34 λ_ _=>id;have vx:dD w4 dG 1 eI ⟨some ⟨w3.heap.size,0,none⟩,1,1⟩ [n]:=dD.new eX [n] o4 (by simp[maxLen]);have hl0:l0.length<=tot.length:=by rw[<-Rk];simp
  have hz3:=k34.size;have hz2:=k2.size;refine fH iK eX FC v4 (vx.rd eX) (by simp;omega) (by simp;omega) λr w5 v5 m5 f5 _=>?_;refine hX l.length _ _ dN ⟨n,l0++[n],l,r,rfl,rfl,hnE,hlw,by rw[<-Rk];simp,(k2.tr k34).fresh m5 λk ⟨b,hb,e⟩=>by rw[e];exact f2 b hb,v5,λb hb=>?_⟩;rcases f5 with h1|⟨a,ha,cC⟩
  ·exact f2 b (by rw[<-h1];exact hb)
  ·rw[hb] at ha;cases ha;omega
end
end
section
section
variable{HL:Mc}{n:Nat}{A L:List bO}{R:List Int}{W:aH}
theorem nx_down{fs:List Int}(hA:sD n A):Gl n (vJ n fs) (DZ A R) (λe=>e.f):=by
 refine⟨λv h=>h.2,λv e he=>?_⟩;have hm:=hA.vF e (iF.1 (jI.1 he).1).1;exact⟨hm.1,hm.2.1,hm.2.2.2.2.2.1,hm.2.2.2.2.2.2.1⟩
theorem sdown_i{to:Sl}{ts:List Int}{Q:(Sl×Sl×Unit)->aH->Prop}(h:oS W HL n A R)(hn:n<=51)(hf:Rd W to 1 eI ts)(IV:ts.length<=1000)
  (hQ:∀s1 s2 ds bs w',Grown n (vJ n ts) (DZ A R) (λe=>e.f) ds bs->dD w' dG 1 eI s1 ds->dD w' dG 1 eI s2 bs->aL W w'->(∀b,s1.b=some b->W.heap.size<=b.block)->(∀b,s2.b=some b->W.heap.size<=b.block)->Q (s1,s2,()) w'):
  xY (some ⟨HL.gl,0,none⟩) to W Q:=by
 unfold xY;refine bD λw1 o1 k1 z1=>?_;refine grow_i (nx:=DZ A R) (en:=λe=>e.f) (h.aO k1) hn (hf.aK k1 cI λ_ _=>id) IV (nx_down h.LM.ok) (λv=>?_) (λv w K hw hK=>?_) (λe w K hK=>?_) λs1 s2 ds bs w2 hG v1 v2 k2 f1 f2=>?_
 ·have:=h.LM.ok.FJ v;have:(DZ A R v).length<=(nX A v).length:=zL _ _;omega
 ·refine pI S_lL_Down iT (first:=#[.pointer (some ⟨HL.gl,0,none⟩)]) (cap:=#[]) (gN (ks:=[.c .ptr,.i]) (t:=(some ⟨HL.gl,0,none⟩,v,())) ?_)
  show HZ (some ⟨HL.gl,0,none⟩) v w λs w'=>K (.slice s.b s.l s.c) w';exact Down_i hw hK
 ·refine pI Af iT (first:=#[]) (cap:=#[]) (gN (ks:=[.agg [.i,.i,.i,.i]]) (t:=(nM e,())) ?_)
  show rZ (nM e) w λx w'=>K (aD x) w';unfold rZ;refine bD λw3 oa k3 _=>?_;exact aE (k:=.i) e.f (qJ (x:=e) oa).1 (hK w3 k3)
 ·have z:=k1.size;refine TP (a:=s1) (b:=s2) (o1.aK k2 id) rfl λw3 o3 m3 _=>?_;refine aX (l:=[.slice,.slice]) (s1,s2,()) (iM o3) ?_;exact hQ s1 s2 ds bs w3 hG (v1.aK m3 λa ha e=>by have:=f1 a ha;have:a.block=W.heap.size:=e;omega) (v2.aK m3 λa ha e=>by have:=f2 a ha;have:a.block=W.heap.size:=e;omega)
   ((k1.tr k2).fresh m3 λk e=>by rw[show k=W.heap.size from e];exact dL _) (λb hb=>by have:=f1 b hb;omega) (λb hb=>by have:=f2 b hb;omega)
end
end
end Go.Proofs.YtihggjgakbgomaaGreat
