import Derived.Maps.RangeRun
import Derived.Test.YtihggjgakbgomaaGreatA1
import Derived.Test.YtihggjgakbgomaaGreatQ2
import Derived.Test.YtihggjgakbgomaaGreatF2
import Derived.Test.YtihggjgakbgomaaGreatF1
import Derived.Test.YtihggjgakbgomaaGreatA2
import Derived.Test.YtihggjgakbgomaaGreatQ1
namespace Go.Proofs.YtihggjgakbgomaaGreat
open Go Go.Den
section
section
variable{w0 w w':aH}{g m N:Nat}{e:TypeId}{mc:List Value}{V:Prop}{E:List dA}{L:List (Nat×List Int)}
theorem sC.Aq(h:sC w0 g m e mc V E N L w){i j:Nat}{v:Value}(hk:mc[i+j]? =some v):w.cell? (((⟨m,0,none⟩:Addr).add i).add j)=some v:=by
 rw[add_add];exact h.cell hk
theorem sC.start{t:TypeId}{cs:List Value}(h:Nu w0 (Dh g [] false) w){K:Addr->aH->Prop}(hK:∀w1,sC w0 g w.heap.size t cs V [] 0 [] w1->aM w w1->K ⟨w.heap.size,0,none⟩ w1):aG w cs.toArray t K:=by
 obtain⟨⟨S,a,s⟩,md⟩:=h;refine cC λw1 b1 k1 z1=>hK w1 ⟨S,[],false,bF.kp a k1,s,md.trans k1 λ_ _ h=>h.elim,λp hp=>(by cases hp),⟨b1.1,λhS=>?_⟩,iT _,λ_=>⟨rfl,rfl⟩⟩ k1;have:=bF.gH a _ hS;simp at this
end
theorem QI{x:Int}(h:u16 x):0<=x/\x.toNat<256^2:=⟨h.1,by have:=h.2;have:=h.1;omega⟩
theorem Am{x:Int}(h:u32 x):0<=x/\x.toNat<256^4:=⟨h.1,by have:=h.2;have:=h.1;omega⟩
theorem My{x:Int}(h:u40 x):0<=x/\x.toNat<256^5:=⟨h.1,by have:=h.2;have:=h.1;omega⟩
theorem rng8{x:Int}(h:0<=x/\x<256):0<=x/\x.toNat<256^1:=⟨h.1,by have:=h.2;have:=h.1;omega⟩
set_option maxHeartbeats 1000000 in
theorem writes_i{g:Nat}{w0 w:aH}{p:lO}{sl:Sl}{Q:Bool->aH->Prop}(h:Nu w0 (Dh g [] false) w)(hr:Rd w0 sl 1 eI p.cH)(hb:∀b,sl.b=some b->b.block<w0.heap.size)(hl:p.cH.length<=70000)
  (hQ:∀c w' m mc E N L,sC w0 g m nC mc (uO p) E N L w'->N<=60+p.cH.length*7->(uO p->E=uF p/\c=true)->Q c w'):rO (some ⟨g,0,none⟩) (FX (p,sl)) w Q:=by
 unfold rO;have sll:=hr.len;refine sC.start (V:=uO p) (cs:=tC (p,sl)) h λw1 h1 k1=>?_;refine aE (k:=.i) p.kind (h1.cell rfl) ?_;refine h1.alloc [p.kind] λw2 h2=>?_;refine h2.Cc (ns:=[p.kind]) 1 dL rfl aB dL (λv x hx=>by rw[uG.1 hx];exact rng8 ⟨by have:=v.kind;omega,by have:=v.kind;omega⟩) λw3 h3=>?_;intro J1 KJ;have FY:∀{E N L wx},sC w0 g w.heap.size nC (tC (p,sl)) (uO p) E N L wx->N<=60+p.cH.length*7->(uO p->E=uF p)->J1 () wx:=by
  intro E N L wx hx hN hE;apply KJ;refine aE (k:=.i) p.kind (hx.cell rfl) (aF (λhk=>hQ _ _ _ _ _ _ _ hx hN λv=>⟨hE v,rfl⟩) (λhk=>aE (k:=.slice) sl (hx.cell rfl) (hQ _ _ _ _ _ _ _ hx hN λv=>⟨hE v,?_⟩)));have Mr:p.kind=5:=by simpa using hk
  have:=v.cH;rw[if_pos Mr] at this;exact decide_eq_true aB
 have jbad:∀{E N L wx},sC w0 g w.heap.size nC (tC (p,sl)) (uO p) E N L wx->N<=60+p.cH.length*7->¬uO p->Q false wx:=λhx hN hn=>hQ _ _ _ _ _ _ _ hx hN λv=>absurd v hn;refine aE (k:=.i) p.kind (h3.cell rfl) ?_;refine aF (λhk=>?_) (λQD=>?_)
 ·have hk:p.kind=1:=by simpa using hk
  refine aE (k:=.i) p.pos (h3.cell rfl) (aE (k:=.i) p.LC (h3.cell rfl) ?_);refine h3.alloc [p.pos,p.LC] λw4 h4=>?_;refine h4.Cc (ns:=[p.pos,p.LC]) 2 dL rfl aB dL (λv x hx=>?_) λw5 h5=>FY h5 (by simp;omega) λv=>?_
  ·have h1:=v.pos
   have h2:=v.LC;rw[if_pos (.inl hk)] at h1;rw[if_pos hk] at h2;simp at hx;rcases hx with rfl|rfl
   ·exact QI h1
   ·exact QI h2
  ·unfold uF;rw[if_pos hk];simp
 have QD:¬p.kind=1:=by simpa using QD
 intro J2 En;have j29:p.kind=2\/p.kind=9->J2 (true,()) w3:=by
  intro hk;apply En;refine aF (λ_=>aE (k:=.i) p.pos (h3.cell rfl) ?_) (λh=>by cases h);refine h3.alloc [p.pos] λw4 h4=>?_;refine h4.Cc (ns:=[p.pos]) 2 dL rfl aB dL (λv x hx=>?_) λw5 h5=>FY h5 (by simp;omega) λv=>?_
  ·have h1:=v.pos
   rw[if_pos (.inr hk)] at h1;rw[uG.1 hx];exact QI h1
  ·unfold uF;rw[if_neg QD,if_pos hk];simp
 have jr:¬(p.kind=2\/p.kind=9)->J2 (false,()) w3:=by
  intro hk29;apply En;refine aF (λh=>by cases h) (λ_=>aF (λhk=>?_) (λMr=>aF (λhk=>?_) (λhk7=>?_)))
  ·have hk:p.kind=5:=by simpa using hk
   have Ag:=h3.dr;refine aE (k:=.i) p.lX (Ag.cell rfl) (aE (k:=.slice) sl (Ag.cell rfl) (aE (k:=.slice) sl (Ag.cell rfl) ?_));rw[sll];have r5:uO p->∀x∈[p.lX],0<=x/\x.toNat<256^5:=λv x hx=>by
    have h1:=v.lX;rw[if_pos hk] at h1;rw[uG.1 hx];exact My h1
   have rl:uO p->∀x∈[(p.cH.length:Int)],0<=x/\x.toNat<256^2:=λv x hx=>by
    have h1:=v.cH;rw[if_pos hk] at h1;rw[uG.1 hx];exact⟨aB,aB⟩
   have re:uO p->∀x∈p.cH,0<=x/\x.toNat<256^2:=λv x hx=>by
    have h1:=v.cH;rw[if_pos hk] at h1;exact QI (h1.2 x hx)
   have hE:uO p->(((([]++[p.kind].flatMap λx=>be 1 x.toNat)++[p.lX].flatMap λx=>be 5 x.toNat)++[(p.cH.length:Int)].flatMap λx=>be 2 x.toNat)++p.cH.flatMap λx=>be 2 x.toNat)=uF p:=λv=>by
    unfold uF;rw[if_neg QD,if_neg hk29,if_pos hk];simp
   have al1:∀{E N L wx} {K:Addr->aH->Prop},sC w0 g w.heap.size nC (tC (p,sl)) (uO p) E N L wx->(∀w',sC w0 g w.heap.size nC (tC (p,sl)) (uO p) E N ((wx.heap.size,[p.lX])::L) w'->K ⟨wx.heap.size,0,none⟩ w')->aG wx #[aD p.lX] 3 K:=λhx hK=>hx.alloc [p.lX] hK;have al2:∀{E N L wx} {K:Addr->aH->Prop},sC w0 g w.heap.size nC (tC (p,sl)) (uO p) E N L wx->(∀w',sC w0 g w.heap.size nC (tC (p,sl)) (uO p) E N ((wx.heap.size,[(p.cH.length:Int)])::L) w'->K ⟨wx.heap.size,0,none⟩ w')->aG wx #[aD (p.cH.length:Int)] 3 K:=λhx hK=>hx.alloc [(p.cH.length:Int)] hK;have nm1:∀{E N L wx b} {K:cL->aH->Prop},sC w0 g w.heap.size nC (tC (p,sl)) (uO p) E N L wx->(b,[p.lX])∈L->N<=1000->(∀w',sC w0 g w.heap.size nC (tC (p,sl)) (uO p) (E++[p.lX].flatMap λx=>be 5 x.toNat) (N+1*7) L w'->K (some ⟨g,0,none⟩) w')->aU (some ⟨g,0,none⟩) (5:Int) ⟨some ⟨b,0,none⟩,1,1⟩ wx K:=λhx hm hN hK=>hx.Cc (ns:=[p.lX]) 5 hm rfl aB (by simp only[nU,List.length_nil];omega) r5 hK;have nm2:∀{E N L wx b} {K:cL->aH->Prop},sC w0 g w.heap.size nC (tC (p,sl)) (uO p) E N L wx->(b,[(p.cH.length:Int)])∈L->N<=1000->(∀w',sC w0 g w.heap.size nC (tC (p,sl)) (uO p) (E++[(p.cH.length:Int)].flatMap λx=>be 2 x.toNat) (N+1*7) L w'->K (some ⟨g,0,none⟩) w')->aU (some ⟨g,0,none⟩) (2:Int) ⟨some ⟨b,0,none⟩,1,1⟩ wx K:=λhx hm hN hK=>hx.Cc (ns:=[(p.cH.length:Int)]) 2 hm rfl aB (by simp only[nU,List.length_nil];omega) rl hK;have nm3:∀{E N L wx} {K:cL->aH->Prop},sC w0 g w.heap.size nC (tC (p,sl)) (uO p) E N L wx->N<=1000->(∀w',sC w0 g w.heap.size nC (tC (p,sl)) (uO p) (E++p.cH.flatMap λx=>be 2 x.toNat) (N+p.cH.length*7) L w'->K (some ⟨g,0,none⟩) w')->aU (some ⟨g,0,none⟩) (2:Int) sl wx K:=λhx hN hK=>hx.numsR 2 hr hb rfl aB aB re hK;have c3:∀{E N L wx},sC w0 g w.heap.size nC (tC (p,sl)) (uO p) E N L wx->wx.cell? ((⟨w.heap.size,0,none⟩:Addr).add 3)=some (Value.slice sl.b sl.l sl.c):=λhx=>hx.cell rfl;have c4:∀{E N L wx},sC w0 g w.heap.size nC (tC (p,sl)) (uO p) E N L wx->wx.cell? ((⟨w.heap.size,0,none⟩:Addr).add 4)=some (aD p.lX):=λhx=>hx.cell rfl;rw[sll] at c3;clear hQ h KJ En j29
   repeat' first
    |exact FY (by assumption) (by simp only[nU,List.length_nil];omega) hE
    |with_reducible refine⟨c3 (by assumption),?_⟩
    |with_reducible refine⟨c4 (by assumption),?_⟩
    |with_reducible refine⟨?_,?_⟩
    |(with_reducible refine al1 (by assumption) ?_;intro wq hq)
    |(with_reducible refine al2 (by assumption) ?_;intro wq hq)
    |(with_reducible refine nm1 (by assumption) dL dL ?_;intro wq hq)
    |(with_reducible refine nm2 (by assumption) dL dL ?_;intro wq hq)
    |(with_reducible refine nm3 (by assumption) dL ?_;intro wq hq)
  ·have hk:p.kind=7:=by simpa using hk
   have Ag:=h3.dr;refine aE (k:=.i) p.eZ.cls (Ag.Aq rfl) (aE (k:=.i) p.eZ.jB (Ag.Aq rfl) (aE (k:=.i) p.eZ.rZ (Ag.Aq rfl) (aE (k:=.i) p.eZ.left (Ag.Aq rfl) ?_)));have hh:uO p->(0<=p.eZ.cls/\p.eZ.cls<256)/\u16 (p.eZ.jB+1)/\u40 p.eZ.rZ/\u40 p.eZ.left:=λv=>by have:=v.eZ;rwa[if_pos hk] at this
   have r1:uO p->∀x∈[p.eZ.cls],0<=x/\x.toNat<256^1:=λv x hx=>by rw[uG.1 hx];exact rng8 (hh v).1
   have r2:uO p->∀x∈[aQ (p.eZ.jB+(1:Int))],0<=x/\x.toNat<256^2:=λv x hx=>by
    have h1:=(hh v).2.1;rw[uG.1 hx,gM (by have:=h1.1;omega) (by have:=h1.2;omega)];exact QI h1
   have r5:uO p->∀x∈[p.eZ.rZ,p.eZ.left],0<=x/\x.toNat<256^5:=λv x hx=>by
    have h1:=(hh v).2.2;simp at hx;rcases hx with rfl|rfl
    ·exact My h1.1
    ·exact My h1.2
   have hE:uO p->(((([]++[p.kind].flatMap λx=>be 1 x.toNat)++[p.eZ.cls].flatMap λx=>be 1 x.toNat)++[aQ (p.eZ.jB+(1:Int))].flatMap λx=>be 2 x.toNat)++[p.eZ.rZ,p.eZ.left].flatMap λx=>be 5 x.toNat)=uF p:=λv=>by
    have h1:=(hh v).2.1;unfold uF;rw[if_neg QD,if_neg hk29,if_neg (by rw[hk];decide),if_pos hk,gM (n:=p.eZ.jB+1) (by have:=h1.1;omega) (by have:=h1.2;omega)];simp
   have al1:∀{E N L wx} {K:Addr->aH->Prop},sC w0 g w.heap.size nC (tC (p,sl)) (uO p) E N L wx->(∀w',sC w0 g w.heap.size nC (tC (p,sl)) (uO p) E N ((wx.heap.size,[p.eZ.cls])::L) w'->K ⟨wx.heap.size,0,none⟩ w')->aG wx #[aD p.eZ.cls] 3 K:=λhx hK=>hx.alloc [p.eZ.cls] hK;have al2:∀{E N L wx} {K:Addr->aH->Prop},sC w0 g w.heap.size nC (tC (p,sl)) (uO p) E N L wx->(∀w',sC w0 g w.heap.size nC (tC (p,sl)) (uO p) E N ((wx.heap.size,[aQ (p.eZ.jB+(1:Int))])::L) w'->K ⟨wx.heap.size,0,none⟩ w')->aG wx #[aD (aQ (p.eZ.jB+(1:Int)))] 3 K:=λhx hK=>hx.alloc [aQ (p.eZ.jB+(1:Int))] hK;have al3:∀{E N L wx} {K:Addr->aH->Prop},sC w0 g w.heap.size nC (tC (p,sl)) (uO p) E N L wx->(∀w',sC w0 g w.heap.size nC (tC (p,sl)) (uO p) E N ((wx.heap.size,[p.eZ.rZ,p.eZ.left])::L) w'->K ⟨wx.heap.size,0,none⟩ w')->aG wx #[aD p.eZ.rZ,aD p.eZ.left] 3 K:=λhx hK=>hx.alloc [p.eZ.rZ,p.eZ.left] hK;have nm1:∀{E N L wx b} {K:cL->aH->Prop},sC w0 g w.heap.size nC (tC (p,sl)) (uO p) E N L wx->(b,[p.eZ.cls])∈L->N<=1000->(∀w',sC w0 g w.heap.size nC (tC (p,sl)) (uO p) (E++[p.eZ.cls].flatMap λx=>be 1 x.toNat) (N+1*7) L w'->K (some ⟨g,0,none⟩) w')->aU (some ⟨g,0,none⟩) (1:Int) ⟨some ⟨b,0,none⟩,1,1⟩ wx K:=λhx hm hN hK=>hx.Cc (ns:=[p.eZ.cls]) 1 hm rfl aB (by simp only[nU,List.length_nil];omega) r1 hK;have nm2:∀{E N L wx b} {K:cL->aH->Prop},sC w0 g w.heap.size nC (tC (p,sl)) (uO p) E N L wx->(b,[aQ (p.eZ.jB+(1:Int))])∈L->N<=1000->(∀w',sC w0 g w.heap.size nC (tC (p,sl)) (uO p) (E++[aQ (p.eZ.jB+(1:Int))].flatMap λx=>be 2 x.toNat) (N+1*7) L w'->K (some ⟨g,0,none⟩) w')->aU (some ⟨g,0,none⟩) (2:Int) ⟨some ⟨b,0,none⟩,1,1⟩ wx K:=λhx hm hN hK=>hx.Cc (ns:=[aQ (p.eZ.jB+(1:Int))]) 2 hm rfl aB (by simp only[nU,List.length_nil];omega) r2 hK;have nm3:∀{E N L wx b} {K:cL->aH->Prop},sC w0 g w.heap.size nC (tC (p,sl)) (uO p) E N L wx->(b,[p.eZ.rZ,p.eZ.left])∈L->N<=1000->(∀w',sC w0 g w.heap.size nC (tC (p,sl)) (uO p) (E++[p.eZ.rZ,p.eZ.left].flatMap λx=>be 5 x.toNat) (N+2*7) L w'->K (some ⟨g,0,none⟩) w')->aU (some ⟨g,0,none⟩) (5:Int) ⟨some ⟨b,0,none⟩,2,2⟩ wx K:=λhx hm hN hK=>hx.Cc (ns:=[p.eZ.rZ,p.eZ.left]) 5 hm rfl aB (by simp only[nU,List.length_nil];omega) r5 hK;have c0:∀{E N L wx},sC w0 g w.heap.size nC (tC (p,sl)) (uO p) E N L wx->wx.cell? (((⟨w.heap.size,0,none⟩:Addr).add 5).add 0)=some (aD p.eZ.cls):=λhx=>hx.Aq rfl;have c1:∀{E N L wx},sC w0 g w.heap.size nC (tC (p,sl)) (uO p) E N L wx->wx.cell? (((⟨w.heap.size,0,none⟩:Addr).add 5).add 1)=some (aD p.eZ.jB):=λhx=>hx.Aq rfl;have c2:∀{E N L wx},sC w0 g w.heap.size nC (tC (p,sl)) (uO p) E N L wx->wx.cell? (((⟨w.heap.size,0,none⟩:Addr).add 5).add 2)=some (aD p.eZ.rZ):=λhx=>hx.Aq rfl;have c3:∀{E N L wx},sC w0 g w.heap.size nC (tC (p,sl)) (uO p) E N L wx->wx.cell? (((⟨w.heap.size,0,none⟩:Addr).add 5).add 3)=some (aD p.eZ.left):=λhx=>hx.Aq rfl;clear hQ h KJ En j29
   repeat' first
    |exact FY (by assumption) (by simp only[nU,List.length_nil];omega) hE
    |with_reducible refine⟨c3 (by assumption),?_⟩
    |with_reducible refine⟨c2 (by assumption),?_⟩
    |with_reducible refine⟨c1 (by assumption),?_⟩
    |with_reducible refine⟨c0 (by assumption),?_⟩
    |with_reducible refine⟨?_,?_⟩
    |(with_reducible refine al1 (by assumption) ?_;intro wq hq)
    |(with_reducible refine al2 (by assumption) ?_;intro wq hq)
    |(with_reducible refine al3 (by assumption) ?_;intro wq hq)
    |(with_reducible refine nm1 (by assumption) dL dL ?_;intro wq hq)
    |(with_reducible refine nm2 (by assumption) dL dL ?_;intro wq hq)
    |(with_reducible refine nm3 (by assumption) dL dL ?_;intro wq hq)
  ·have Mr:¬p.kind=5:=by simpa using Mr
   have hk7:¬p.kind=7:=by simpa using hk7
   have hE:uO p->([]++[p.kind].flatMap λx=>be 1 x.toNat)=uF p:=λv=>by
    unfold uF;rw[if_neg QD,if_neg hk29,if_neg Mr,if_neg hk7];simp
   have dR:J1 () w3:=FY h3 (by simp;omega) hE;refine aF (λh=>aF (λ_=>dR) (λh2=>by rw[h] at h2;cases h2)) (λXV=>aF (λh=>aF (λ_=>dR) (λh2=>by rw[h] at h2;cases h2)) (λh4=>aF (λh=>aF (λ_=>dR) (λh2=>by rw[h] at h2;cases h2)) (λh6=>aF (λ_=>dR) (λh8=>?_))));refine jbad h3 (by simp;omega) λv=>?_;have:=v.kind;simp at XV h4 h6 h8;omega
 refine aF (λhk=>?_) (λhk=>?_)
 ·rw[hk];exact j29 (.inl (by simpa using hk))
 ·have DI:¬p.kind=2:=by simpa using hk
  by_cases hk9:p.kind=9
  ·rw[show(p.kind==(9:Int))=true by simpa using hk9];exact j29 (.inr hk9)
  ·rw[show(p.kind==(9:Int))=false by simpa using hk9];exact jr λh=>h.elim DI hk9
theorem Enc_i{w:aH}{p:lO}{sl:Sl}{Q:Sl->Int->aH->Prop}(hr:Rd w sl 1 eI p.cH)(hb:∀b,sl.b=some b->b.block<w.heap.size)(hl:p.cH.length<=70000)
  (hQ:∀r out e w',aM w w'->AX 1 eU r out w' (rC r)->(∀b,r.b=some b->w.heap.size<=b.block)->out.length<=60+p.cH.length*7->(uO p->out=uF p/\e=0)->Q r e w'):lR (FX (p,sl)) w Q:=by
 unfold lR;refine cC (cs:=tC (p,sl)) λw1 b1 k1 z1=>?_;refine newW k1 λw2 n2 k2=>?_;have o2:=b1.1.aK k2 id;refine bJ (l:=bf) (FX (p,sl)) (o2.holds λj v hj=>by rw[pN];exact hj) ?_;refine writes_i (w0:=w) n2 hr hb hl λc w3 m mc E N L h3 hN hv=>?_;refine aF (λhc=>?_) (λhc=>?_)
 ·refine hQ _ [] _ w3 h3.aN JK (λb hb=>by cases hb) (iG _) λv=>?_
  have Ua:c=false:=by simpa using hc
  rw[(hv v).2] at Ua;cases Ua
 ·exact h3.bytes aB λr out er w4 h4 rd fr ln hv2=>hQ r out er w4 h4.aN rd fr aB λv=>⟨(hv2 v).1.trans (hv v).1,(hv2 v).2⟩
end
open Tryz (prog)
section
abbrev GX:=gA×Sl
abbrev eG(x:GX):List Value:=[aD x.1.aP,aD x.1.kind,aD x.1.seq,aD x.1.LI,aD x.1.code,sv x.2]
abbrev kG:List CK:=[.i,.i,.i,.i,.i,.slice]
abbrev IY(x:GX):Int×Int×Int×Int×Int×Sl×Unit:=(x.1.aP,x.1.kind,x.1.seq,x.1.LI,x.1.code,x.2,())
theorem Uv:∀x:GX,(eG x).length=6:=λ_=>rfl
theorem Le:∀x:GX,∀u∈eG x,u.oneCell'=true:=by intro x u hu;simp at hu;rcases hu with rfl|rfl|rfl|rfl|rfl|rfl<;>rfl
theorem QO(x:GX):eG x≠[]:=by simp
theorem jm{w:aH}{p:gA}{sl:Sl}{Q:Sl->Int->aH->Prop}(hr:Rd w sl 1 eU p.body)(hl:p.body.length<=80000)
  (hQ:∀r out e w',aM w w'->AX 1 eU r out w' (rC r)->(∀b,r.b=some b->w.heap.size<=b.block)->out.length<=3000->(WfG p->out=Ap p/\e=0)->Q r e w'):pU (IY (p,sl)) w Q:=by
 unfold pU;refine cC (cs:=eG (p,sl)) λw1 b1 k1 z1=>?_;refine sC.new (V:=WfG p) k1 b1.1 λw2 h2=>?_;refine aE (k:=.i) p.aP (h2.cell rfl) ?_;refine h2.alloc [p.aP] λw3 h3=>?_;refine h3.Cc (ns:=[p.aP]) 4 dL rfl aB dL (λv x hx=>by rw[uG.1 hx];exact Am v.aP) λw4 h4=>?_;intro J1 KJ;have UK:∀e w',aM w w'->¬WfG p->Q bD e w':=λe w' k hn=>hQ _ [] e w' k JK (λb hb=>by cases hb) (iG _) λv=>absurd v hn;have FY:∀{E N L wx},sC w w1.heap.size w.heap.size GF (eG (p,sl)) (WfG p) E N L wx->N<=100000->(WfG p->E=mR p)->J1 () wx:=by
  intro E N L wx hx hN hE;apply KJ;refine hx.bytes aB λr out er w5 h5 Cz f5 ln5 ni=>?_;refine aF (λhe=>UK _ w5 h5.aN λv=>?_) (λhe=>?_)
  ·rw[(ni v).2] at he;simp at he
  ·refine aE (k:=.i) p.kind (h5.cell rfl) ?_
   refine Wrap_i Cz.1 aB λr6 out6 e6 w6 k6 rd6 f6 l6 v6=>?_;refine hQ r6 out6 e6 w6 (h5.aN.tr k6) rd6 (λb hb=>by have:=f6 b hb;have:=h5.aN.size;omega) l6 λv=>?_;have e1:=(ni v).1;rw[hE v] at e1;have lb:(mR p).length<=2000:=by
    have hb:=v.body;unfold mR;rcases v.kind with hk|hk|hk
    ·rw[if_pos hk] at hb ⊢
     simp only[mL,qN];omega
    ·rw[if_neg aB,if_pos hk];simp only[mL,qN];omega
    ·rw[if_neg aB,if_neg aB];simp only[mL,qN];omega
   have hk:=v.kind;have:=v6 aB aB (by rw[e1];exact lb);rw[this.1,this.2,e1];exact⟨rfl,rfl⟩
 refine aE (k:=.i) p.kind (h4.cell rfl) ?_;refine aF (λhk=>?_) (λQD=>aF (λhk=>?_) (λDI=>aF (λhk=>?_) (λnp=>UK _ w4 h4.aN λv=>?_)))
 ·have hk:p.kind=1:=by simpa using hk
  have h4d:=h4.dr;refine aE (k:=.i) p.seq (h4d.cell rfl) (aE (k:=.i) p.LI (h4d.cell rfl) (aE (k:=.slice) sl (h4d.cell rfl) ?_));refine h4d.alloc [p.seq,p.LI] λw5 h5=>⟨h5.cell rfl,?_⟩;refine h5.Cc (ns:=[p.seq,p.LI]) 4 dL rfl aB dL (λv x hx=>?_) λw6 h6=>⟨h6.cell rfl,?_⟩
  ·have h1:=v.seq
   have h2:=v.LI;rw[if_pos hk] at h1;rw[if_neg aB] at h2;simp at hx;rcases hx with rfl|rfl
   ·exact Am h1
   ·exact Am h2
  refine h6.Jw hr (by simp;omega) λw7 h7=>FY h7 (by simp;omega) λv=>?_;unfold mR;rw[if_pos hk];simp
 ·have hk:p.kind=2:=by simpa using hk
  refine aE (k:=.i) p.LI (h4.cell rfl) ?_;refine h4.alloc [p.LI] λw5 h5=>?_;refine h5.Cc (ns:=[p.LI]) 4 dL rfl aB dL (λv x hx=>?_) λw6 h6=>FY h6 dL λv=>?_
  ·have h2:=v.LI
   rw[if_neg aB] at h2;rw[uG.1 hx];exact Am h2
  ·unfold mR;rw[if_neg aB,if_pos hk];simp
 ·have hk:p.kind=3:=by simpa using hk
  refine aE (k:=.i) p.code (h4.cell rfl) ?_;refine h4.alloc [p.code] λw5 h5=>?_;refine h5.Cc (ns:=[p.code]) 1 dL rfl aB dL (λv x hx=>?_) λw6 h6=>FY h6 dL λv=>?_
  ·have h2:=v.code
   rw[if_pos hk] at h2;rw[uG.1 hx];exact rng8 h2
  ·unfold mR;rw[if_neg aB,if_neg aB];simp
 ·have:=v.kind
  simp at QD DI np;omega
theorem Nu.foc{w0 w:aH}{A B:As}{R:As->As}(h:Nu w0 A w)(f:∀S,A w S->Us w S B R):∃S1,B w S1/\∀B' w' AW,Up S1 AW w w'->B' w' AW->Nu w0 (R B') w':=by
 obtain⟨⟨S,a,s⟩,m⟩:=h;obtain⟨S1,b,hs,dN⟩:=(f S a).put;refine⟨S1,b,λB' w' AW u hb=>?_⟩;obtain⟨S',a',u'⟩:=dN B' w' AW u hb;exact Nu.up m s u' a'
theorem Nu.add{w0 w w':aH}{A B:As}[bF A](h:Nu w0 A w){T:BS}(k:aM w w')(hB:B w' T)(hT:∀k,T k->w.heap.size<=k):Nu w0 (aZ A B) w':=by
 obtain⟨⟨S,a,s⟩,m⟩:=h;have z:=m.size;refine⟨⟨_,aZ.vR (bF.kp a k) hB λk hk ht=>?_,λk hk=>hk.elim (s k) λht=>?_⟩,m.trans k λ_ _ h=>h.elim⟩
 ·have:=bF.gH a k hk;have:=hT k ht;omega
 ·have:=hT k ht;omega
section
variable{w0 w:aH}{g a:Nat}{l:List dA}{sp:Bool}{e:TypeId}{mc:List Value}{X Y:As}
theorem PS[bF Y]{sz:Nat}{z:Int}{Q:Int->aH->Prop}(h:Nu w0 (aZ (tH g l sp) Y) w)(hz:z=(sz:Int))(hs:1<=sz/\sz<=7)(hl:l.length<=100000)
  (hQ:∀(x:Nat) l' uN w',Nu w0 (aZ (tH g l' uN) Y) w'->l'.length<=l.length->x<256^sz->(∀v t,sp=false->l=be sz v++t->v<256^sz->x=v/\l'=t/\uN=false)->Q (x:Int) w'):fX (some ⟨g,0,none⟩) z w Q:=by
 obtain⟨S1,b,dN⟩:=h.foc λS h=>aZ.l h;subst hz;exact Rj b hs hl λx l' uN w' S' a' QC u' h1 h2 h3=>hQ x l' uN w' (dN _ w' S' u' a') h1 h2 h3
theorem FB[bF X][bF Y]{t:TypeId}{o:Nat}{v:Value}{K:aH->Prop}(h:Nu w0 (aZ X (aZ (sB a e mc) Y)) w)(hi:(prog.info? t).map (·.size)=some 1)(ho:o<mc.length)(hc:v.cells=#[v])(h1:v.oneCell'=true)
  (hK:∀w',Nu w0 (aZ X (aZ (sB a e (mc.set o v)) Y)) w'->K w'):aI prog t ((⟨a,0,none⟩:Addr).add o) v w K:=by
 obtain⟨S1,b,dN⟩:=h.foc λS h=>(aZ.r h).c λT hT=>aZ.l hT;exact pA b hi ho hc h1 λw' b' u'=>hK w' (dN _ w' _ u' b')
theorem pr[bF X][bF Y](h:Nu w0 (aZ X (aZ (sB a e mc) Y)) w){k:Nat}{v:Value}(hk:mc[k]? =some v):w.cell? ((⟨a,0,none⟩:Addr).add k)=some v:=by
 obtain⟨S1,b,_⟩:=h.foc λS h=>(aZ.r h).c λT hT=>aZ.l hT;exact aO b hk
theorem rOwn[bF X][bF Y](h:Nu w0 (aZ X (aZ (sB a e mc) Y)) w):cW w a e mc:=by
 obtain⟨S1,b,_⟩:=h.foc λS h=>(aZ.r h).c λT hT=>aZ.l hT;exact b.1
end
theorem Nu.map{w0 w:aH}{A B:As}(h:Nu w0 A w)(f:∀S,A w S->B w S):Nu w0 B w:=by
 obtain⟨⟨S,a,s⟩,m⟩:=h;exact⟨⟨S,f S a,s⟩,m⟩
theorem aZ.emp_l{A:As}{w:aH}{S:BS}(h:aZ DK A w S):A w S:=by
 obtain⟨S1,S2,h1,h2,d,e⟩:=h;have:S=S2:=funext λk=>propext ((e k).trans ⟨λh=>h.elim (λh=>absurd h (h1 k)) id,.inr⟩);rw[this];exact h2
theorem ja{w:aH}{S:BS}(h:DK w S):AX 1 eU bD [] w S:=⟨Rd.nil _ _ _,fI,λb hb=>(by cases hb),λk=>⟨λhk=>absurd hk (h k),λ⟨b,hb,_⟩=>by cases hb⟩⟩
structure GDec(bs:List dA)(g:gA)(e:Int):Prop where
 seq:u32 g.seq
 LI:u32 g.LI
 len:g.body.length<=bs.length
 ok:∀g0,WfG g0->bs=Ap g0->g=g0/\e=0
 nf:∀x r,bs=x::r->x≠BitVec.ofNat 8 77->¬e=0
theorem jo{b:Sl}{bs:List dA}{w:aH}{Q:Int×Int×Int×Int×Int×Sl×Unit->Int->aH->Prop}(hb:Rd w b 1 eU bs)(hl:bs.length<=5000)
  (hQ:∀g sl e w',aM w w'->AX 1 eU sl g.body w' (rC sl)->(∀b,sl.b=some b->w.heap.size<=b.block)->GDec bs g e->Q (IY (g,sl)) e w'):sM b w Q:=by
 unfold sM
 let z0:GX:=(⟨0,0,0,0,0,[]⟩,bD)
 refine cC (cs:=eG z0) λw1 b1 k1 z1=>?_;have UK:∀e wx,¬e=0->aM w wx->cW wx w.heap.size GF (eG z0)->(∀g0,WfG g0->bs=Ap g0->False)->aI prog GF ⟨w.heap.size,0,none⟩ (Value.agg (eG z0).toArray) wx λw3=>eY kG w3 ⟨w.heap.size,0,none⟩ λt1=>Q (t1.1,t1.2.1,t1.2.2.1,t1.2.2.2.1,t1.2.2.2.2.1,t1.2.2.2.2.2.1,()) e w3:=by
  intro e wx gF kx ox hx;refine eO ox rJ rfl (Le _) λw3 o3 m3 _=>?_;refine bJ (l:=kG) (IY z0) (o3.holds λj v hj=>by rw[pN];exact hj) ?_;exact hQ z0.1 z0.2 e w3 (kx.fresh m3 λk e=>by rw[show k=w.heap.size from e];exact iT _) JK (λb hb=>by cases hb) ⟨⟨by decide,by decide⟩,⟨by decide,by decide⟩,iG _,λg0 h1 h2=>(hx g0 h1 h2).elim,λ_ _ _ _=>gF⟩
 refine Unwrap_i (hb.aK k1 fI λ_ _=>id) aB λkind s1 e1 body w2 k2 Ph f2 l2 v2 nf2=>?_;have o2:=b1.1.aK k2 id;have K2:=k1.tr k2;have GB:∀g0,WfG g0->bs=Ap g0->kind=g0.kind/\body=mR g0/\e1=0:=λg0 h1 h2=>by
  have hk:=h1.kind;refine v2 g0.kind (mR g0) aB aB ?_ h2;have hb:=h1.body;unfold mR;rcases hk with hk|hk|hk
  ·rw[if_pos hk] at hb ⊢
   simp only[mL,qN];omega
  ·rw[if_neg aB,if_pos hk];simp only[mL,qN];omega
  ·rw[if_neg aB,if_neg aB];simp only[mL,qN];omega
 refine aF (λhe=>UK e1 w2 (by simpa using he) K2 o2 λg0 h1 h2=>?_) (λhe1=>?_)
 ·rw[(GB g0 h1 h2).2.2] at he;simp at he
 refine jg Ph.1 aB λg w3 S3 a3 k3 s3=>?_;have n3:Nu w2 (aZ (tH g body false) DK) w3:=Nu.of (aZ.emp a3) s3 k3;refine PS n3 (sz:=4) rfl aB aB λx4 l4 sp4 w4 n4 c4 b4 v4=>?_;refine cC (cs:=eG z0) λw5 b5 k5 z5=>?_;have n5:Nu w2 (aZ (tH g l4 sp4) (aZ (sB w4.heap.size GF (eG z0)) DK)) w5:=by
  obtain⟨⟨S,a,s⟩,m⟩:=n4;obtain⟨S',a',u'⟩:=a.drop;exact Nu.add (⟨⟨S',a',λk hk=>(u'.s k hk).elim (s k) λh=>iF m.size h⟩,m⟩:Nu w2 (tH g l4 sp4) w4) k5 (aZ.emp b5) λk hk=>aB
 let g1 (x:Nat) (sq ak cd:Int) (sl:Sl):List Value:=[aD (x:Int),aD kind,aD sq,aD ak,aD cd,sv sl]
 obtain⟨S6,bb6,xU⟩:=n5.foc λS h=>(aZ.r h).c λT hT=>aZ.l hT;refine eO (vs:=g1 x4 0 0 0 bD) bb6.1 rJ rfl (by simp[g1,Value.oneCell']) λw6 o6 m6 _=>?_;have n6:Nu w2 (aZ (tH g l4 sp4) (aZ (sB w4.heap.size GF (g1 x4 0 0 0 bD)) DK)) w6:=xU _ w6 _ (bb6.up o6 m6).2 (bb6.up o6 m6).1;intro J1 KJ;have FY:∀(sq ak:Nat) (cd:Int) (sl:Sl) (bd l':List dA) (uN:Bool) wx,sq<256^4->ak<256^4->bd.length<=bs.length->Nu w2 (aZ (tH g l' uN) (aZ (sB w4.heap.size GF (g1 x4 sq ak cd sl)) (AX 1 eU sl bd))) wx->(∀b,sl.b=some b->w.heap.size<b.block)->
   (∀g0,WfG g0->bs=Ap g0->(⟨(x4:Int),kind,sq,ak,cd,bd⟩:gA)=g0)->J1 () wx:=by
  intro sq ak cd sl bd l' uN wx hsq hak KI nx fx hx;apply KJ
  let p:gA:=⟨(x4:Int),kind,sq,ak,cd,bd⟩
  have ox:=rOwn nx;refine bJ (l:=kG) (IY (p,sl)) (ox.holds λj v hj=>by rw[pN];exact hj) ?_;have rdx:∃T,AX 1 eU sl bd wx T:=by
   obtain⟨T,b,_⟩:=nx.foc λS h=>(aZ.r h).c λT hT=>aZ.r hT;exact⟨T,b⟩
  obtain⟨T,rdx⟩:=rdx;have Kx:=K2.tr nx.aN;refine jm (p:=p) (sl:=sl) rdx.1 (by show bd.length<=_;omega) λr7 out7 e7 w7 k7 rd7 f7 l7 v7=>?_;have o17:cW w7 w.heap.size GF (eG z0):=(o2.aK nx.aN id).aK k7 id;have K7:=Kx.tr k7;have good:∀g0,WfG g0->bs=Ap g0->out7=bs/\e7=0:=λg0 h1 h2=>by
   have e:p=g0:=hx g0 h1 h2;have:=v7 (by rw[e];exact h1);rw[this.1,e,h2];exact⟨rfl,this.2⟩
  refine aF (λhe=>UK _ w7 (by decide) K7 o17 λg0 h1 h2=>?_) (λhe=>?_)
  ·rw[(good g0 h1 h2).2] at he;simp at he
  refine ux rd7.1 (hb.aK K7 fI λ_ _=>id) λc hc=>?_;refine aF (λRP=>UK _ w7 (by decide) K7 o17 λg0 h1 h2=>?_) (λRP=>?_)
  ·rw[hc (good g0 h1 h2).1] at RP;cases RP
  have ox7:=ox.aK k7 id;refine bJ (l:=kG) (IY (p,sl)) (ox7.holds λj v hj=>by rw[pN];exact hj) ?_;refine eO (vs:=eG (p,sl)) o17 rJ rfl (Le _) λw8 o8 m8 _=>?_;refine bJ (l:=kG) (IY (p,sl)) (o8.holds λj v hj=>by rw[pN];exact hj) ?_;have rd8:=bF.kp rdx k7;refine hQ p sl 0 w8 (K7.fresh m8 λk e=>by rw[show k=w.heap.size from e];exact iT _) ⟨rd8.1.aK m8 fI λb hb e=>?_,fI,λb hb=>by have:=rd8.2.2.1 b hb;have:=m8.size;omega,λ_=>Iff.rfl⟩ (λb hb=>Nat.le_of_lt (fx b hb)) ⟨⟨by show(0:Int)<=sq;omega,by show(sq:Int)<_;omega⟩,⟨by show(0:Int)<=ak;omega,by show(ak:Int)<_;omega⟩,KI,λg0 h1 h2=>⟨hx g0 h1 h2,rfl⟩,λx r hb hx=>(nf2 x r hb hx (by simpa using he1)).elim⟩;have:=fx b hb;omega
 have k45:∀g0,WfG g0->bs=Ap g0->∀t,mR g0=be 4 g0.aP.toNat++t->x4=g0.aP.toNat/\l4=t/\sp4=false:=λg0 h1 h2 t ht=>by
  obtain⟨_,e2,_⟩:=GB g0 h1 h2;exact v4 _ t rfl (by rw[e2,ht]) (Am h1.aP).2
 have le4:256^4=4294967296:=rfl;refine aF (λhk=>?_) (λQD=>aF (λhk=>?_) (λDI=>aF (λhk=>?_) (λnp=>?_)))
 ·have hk:kind=1:=by simpa using hk
  refine PS n6 (sz:=4) rfl aB aB λx7 l7 sp7 w7 n7 c7 b7 v7=>?_;refine PS n7 (sz:=4) rfl aB aB λx8 l8 sp8 w8 n8 c8 b8 v8=>?_;refine FB n8 cU (by simp[g1]) rfl rfl λw9 n9=>?_;refine FB n9 cU (by simp[g1]) rfl rfl λeV n10=>?_;obtain⟨FR,tP,back10⟩:=n10.foc λS h=>aZ.l h;refine uw tP λxK e11 b11=>?_;refine ji tP aB λr12 out12 l12 sp12 eR XZ KL hs12 Br rd12 f12 c12 d12 Ad YA=>?_;have z10:=n10.size;have n12:Nu w2 (aZ (tH g l12 sp12) (aZ (sB w4.heap.size GF (g1 x4 x7 x8 0 bD)) (AX 1 eU r12 out12))) eR:=by
   have:=back10 (aZ (tH g l12 sp12) (AX 1 eU r12 out12)) eR _ ⟨Br.m,λk hk=>hk.elim (λh=>.inl (hs12 k h)) λ⟨b,hb,e⟩=>.inr (by rw[e];exact f12 b hb)⟩ (aZ.vR KL rd12 λk hk ⟨b,hb,e⟩=>by have:=bF.gH tP k (hs12 k hk);have:=f12 b hb;omega);exact this.map λS h=>h.asr.mono (λ_ h=>h) λ_ h=>h.cm.asr.mono (λ_ h=>h) λ_ h=>aZ.emp_l h
  obtain⟨S12',bb12,TH⟩:=n12.foc λS h=>(aZ.r h).c λT hT=>aZ.l hT;refine pA (v:=sv r12) bb12 TL (by simp[g1]) rfl rfl λgO b13 u13=>?_;have n13:=TH _ gO _ u13 b13;refine FY x7 x8 0 r12 out12 l12 sp12 gO b7 b8 aB n13 (λb hb=>by have:=f12 b hb;have:=k2.size;omega) λg0 h1 h2=>?_;obtain⟨e0,e2,_⟩:=GB g0 h1 h2;have hgk:g0.kind=1:=aB;have hs:=h1.seq;have ha:=h1.LI;have hc:=h1.code;have dq:=h1.aP;rw[if_pos hgk] at hs;rw[if_neg aB] at ha;rw[if_neg aB] at hc;obtain⟨q1,rfl,rfl⟩:=k45 g0 h1 h2 (be 4 g0.seq.toNat++(be 4 g0.LI.toNat++g0.body)) (by unfold mR;rw[if_pos hgk];simp);obtain⟨q2,rfl,rfl⟩:=v7 _ _ rfl rfl (Am hs).2;obtain⟨q3,rfl,rfl⟩:=v8 _ _ rfl rfl (Am ha).2;obtain⟨q4,_,_⟩:=YA g0.body [] rfl dL (by rw[e11 rfl]);obtain⟨c,k,sq,ak,cd,bd⟩:=g0;simp only[gA.mk.injEq];have h01:=hs.1;have h02:=ha.1;have h03:=dq.1;simp only at*;exact⟨aB,aB,aB,aB,aB,q4⟩
 ·have hk:kind=2:=by simpa using hk
  refine PS n6 (sz:=4) rfl aB aB λx7 l7 sp7 w7 n7 c7 b7 v7=>?_;refine FB n7 cU (by simp[g1]) rfl rfl λw8 n8=>?_;refine FY 0 x7 0 bD [] l7 sp7 w8 aB b7 (iG _) (n8.map λS h=>h.mono (λ_ h=>h) λ_ h=>h.mono (λ_ h=>h) λ_ h=>ja h) (λb hb=>by cases hb) λg0 h1 h2=>?_;obtain⟨e0,e2,_⟩:=GB g0 h1 h2;have hgk:g0.kind=2:=aB;have hs:=h1.seq;have ha:=h1.LI;have hc:=h1.code;have hb:=h1.body;have dq:=h1.aP;rw[if_neg aB] at hs hc ha hb;obtain⟨q1,rfl,rfl⟩:=k45 g0 h1 h2 (be 4 g0.LI.toNat) (by unfold mR;rw[if_neg aB,if_pos hgk]);obtain⟨q2,_,_⟩:=v7 _ [] rfl dL (Am ha).2;obtain⟨c,k,sq,ak,cd,bd⟩:=g0;simp only[gA.mk.injEq];have h02:=ha.1;have h03:=dq.1;simp only at*;exact⟨aB,aB,aB,aB,aB,hb.symm⟩
 ·have hk:kind=3:=by simpa using hk
  refine PS n6 (sz:=1) rfl aB aB λx7 l7 sp7 w7 n7 c7 b7 v7=>?_;refine FB n7 cU (by simp[g1]) rfl rfl λw8 n8=>?_;refine FY 0 0 x7 bD [] l7 sp7 w8 aB aB (iG _) (n8.map λS h=>h.mono (λ_ h=>h) λ_ h=>h.mono (λ_ h=>h) λ_ h=>ja h) (λb hb=>by cases hb) λg0 h1 h2=>?_;obtain⟨e0,e2,_⟩:=GB g0 h1 h2;have hgk:g0.kind=3:=aB;have hs:=h1.seq;have ha:=h1.LI;have hc:=h1.code;have hb:=h1.body;have dq:=h1.aP;rw[if_neg aB] at hs hb;rw[if_pos hgk] at ha hc;obtain⟨q1,rfl,rfl⟩:=k45 g0 h1 h2 (be 1 g0.code.toNat) (by unfold mR;rw[if_neg aB,if_neg aB]);obtain⟨q2,_,_⟩:=v7 _ [] rfl dL (rng8 hc).2;obtain⟨c,k,sq,ak,cd,bd⟩:=g0;simp only[gA.mk.injEq];have h02:=hc.1;have h03:=dq.1;simp only at*;exact⟨aB,aB,aB,aB,aB,hb.symm⟩
 ·have hk1':¬kind=1:=by simpa using QD
  have hk2':¬kind=2:=by simpa using DI
  have hk3':¬kind=3:=by simpa using np
  refine FY 0 0 0 bD [] l4 sp4 w6 aB aB (iG _) (n6.map λS h=>h.mono (λ_ h=>h) λ_ h=>h.mono (λ_ h=>h) λ_ h=>ja h) (λb hb=>by cases hb) λg0 h1 h2=>?_;obtain⟨e0,_,_⟩:=GB g0 h1 h2;have:=h1.kind;omega
end
theorem DY{α:Type}{t e:TypeId}{n bytes:Nat}{z:List Value}(hE:rE prog t e n bytes z){aY:α->List Value}(fZ:∀x,(aY x).length=n)(jW:∀x,∀u∈aY x,u.oneCell'=true)
  {w:aH} {S:BS} {s x:Sl} {xs ys:List α} (h:iU e n aY s xs w S) (hx:Rd w x n aY ys) (hl:xs.length+ys.length<=1000000) (hb:bytes<=1000) {K:Sl->aH->Prop}
  (hK:∀r w' S',iU e n aY r (xs++ys) w' S'->Up S S' w w'->K r w'):aX prog t t s (.slice x.b x.l x.c) w K:=by
 have hm:(xs.length+ys.length)*bytes<=1000000*1000:=EX hl hb;refine fN hE fZ jW h.1 hx aB aB λr w' v m hr hn=>hK r w' _ ⟨v,λ_=>Iff.rfl⟩ ⟨m.mono λk _ hk=>(h.2 k).2 hk,λk hk=>?_⟩;obtain⟨b,hb,rfl⟩:=hk;rcases hr with h2|⟨a,h1,h2⟩
 ·exact .inl ((h.2 _).2 ⟨b,h2.symm.trans hb,rfl⟩)
 ·rw[hb] at h1;cases h1;exact .inr h2
structure MDec(bs:List dA)(m:lO)(e:Int):Prop where
 len:m.cH.length<=70000
 ok:∀m0,uO m0->bs=uF m0->m=m0/\e=0
theorem aAi(l:List Int):(l.flatMap λe=>be 2 e.toNat).length=l.length*2:=by
 induction l with
 |nil=>rfl
 |cons a l ih=>rw[EY,mL,ih,qN,nU];omega
set_option maxHeartbeats 1000000 in
theorem jl{b:Sl}{bs:List dA}{w:aH}{Q:MT->Int->aH->Prop}(hb:Rd w b 1 eU bs)(hl:bs.length<=5000)
  (hQ:∀m sl e w',aM w w'->AX 1 eI sl m.cH w' (rC sl)->(∀b,sl.b=some b->w.heap.size<=b.block)->MDec bs m e->Q (FX (m,sl)) e w'):lT b w Q:=by
 unfold lT
 let z0:MX:=(⟨0,0,0,[],0,⟨0,0,0,0⟩⟩,bD)
 refine cC (cs:=tC z0) λw1 b1 k1 z1=>?_;have UK:∀mc wx,aM w wx->cW wx w.heap.size nC mc->mc.length=9->(∀m0,uO m0->bs=uF m0->False)->aI prog nC ⟨w.heap.size,0,none⟩ (Value.agg (tC z0).toArray) wx λw3=>eY bf w3 ⟨w.heap.size,0,none⟩ λt1=>Q (t1.1,t1.2.1,t1.2.2.1,t1.2.2.2.1,t1.2.2.2.2.1,t1.2.2.2.2.2.1,t1.2.2.2.2.2.2.1,t1.2.2.2.2.2.2.2.1,t1.2.2.2.2.2.2.2.2.1,()) 2 w3:=by
  intro mc wx kx ox fU hx;refine eO ox CA fU (VE _) λw3 o3 m3 _=>?_;refine bJ (l:=bf) (FX z0) (o3.holds λj v hj=>by rw[pN];exact hj) ?_;exact hQ z0.1 z0.2 2 w3 (kx.fresh m3 λk e=>by rw[show k=w.heap.size from e];exact iT _) ⟨Rd.nil _ _ _,cR,λb hb=>(by cases hb),λ_=>Iff.rfl⟩ (λb hb=>by cases hb) ⟨iG _,λm0 h1 h2=>(hx m0 h1 h2).elim⟩
 refine jg (hb.aK k1 fI λ_ _=>id) aB λg w2 S2 a2 k2 s2=>?_;have n2:Nu w (aZ (tH g bs false) (aZ (sB w.heap.size nC (tC z0)) DK)) w2:=by
  have n1:Nu w (sB w.heap.size nC (tC z0)) w1:=Nu.of b1 (λk hk=>aB) k1;exact(n1.add k2 a2 s2).map λS h=>h.cm.mono (λ_ h=>h) λ_ h=>aZ.emp h
 refine PS n2 (sz:=1) rfl aB aB λx3 l3 sp3 w3 n3 c3 b3 v3=>?_;refine FB n3 cU (by simp[z0]) rfl rfl λw4 n4=>?_;intro J1 KJ;have Es:∀{wx:aH} {S:BS},DK wx S->iU cY 1 eI bD ([]:List Int) wx S:=λ{wx S} h=>⟨dQ.nil _ _ _ _,λk=>⟨λhk=>absurd hk (h k),λ⟨b,hb,_⟩=>by cases hb⟩⟩;have FY:∀(m:lO) (sl:Sl) l' uN wx,Nu w (aZ (tH g l' uN) (aZ (sB w.heap.size nC (tC (m,sl))) (iU cY 1 eI sl m.cH))) wx->m.cH.length<=70000->(∀m0,uO m0->bs=uF m0->m=m0)->J1 () wx:=by
  intro m sl l' uN wx nx hml hx;apply KJ;have ox:=rOwn nx;refine bJ (l:=bf) (FX (m,sl)) (ox.holds λj v hj=>by rw[pN];exact hj) ?_;obtain⟨⟨S,⟨S1,S2,hr1,⟨S3,S4,La,hv4,d34,Un⟩,d12,e12⟩,hS⟩,mx⟩:=nx;have fx:∀b,sl.b=some b->w.heap.size<=b.block/\b.block≠w.heap.size/\b.block<wx.heap.size:=λb hb=>by
   have h4:S4 b.block:=(hv4.2 _).2 ⟨b,hb,rfl⟩;exact⟨hS _ ((e12 _).2 (.inr ((Un _).2 (.inr h4)))),λe=>d34 _ ((La.2 _).2 e) h4,bF.gH hv4 _ h4⟩
  have Kx:aM w wx:=(aW.refl (λ_=>False) w).fresh mx λ_=>id;have rdx:=hv4.1.rd fH;refine Enc_i rdx (λb hb=>(fx b hb).2.2) hml λr7 out7 e7 w7 k7 rd7 f7 l7 v7=>?_;have K7:=Kx.tr k7;have o7:=ox.aK k7 id;have good:∀m0,uO m0->bs=uF m0->out7=bs/\e7=0:=λm0 h1 h2=>by
   have e:m=m0:=hx m0 h1 h2;have:=v7 (by rw[e];exact h1);rw[this.1,e,h2];exact⟨rfl,this.2⟩
  refine aF (λhe=>UK _ w7 K7 o7 rfl λm0 h1 h2=>?_) (λhe=>?_)
  ·rw[(good m0 h1 h2).2] at he;simp at he
  refine ux rd7.1 (hb.aK K7 fI λ_ _=>id) λc hc=>?_;refine aF (λRP=>UK _ w7 K7 o7 rfl λm0 h1 h2=>?_) (λRP=>?_)
  ·rw[hc (good m0 h1 h2).1] at RP;cases RP
  refine bJ (l:=bf) (FX (m,sl)) (o7.holds λj v hj=>by rw[pN];exact hj) ?_;refine eO (vs:=tC (m,sl)) o7 CA rfl (VE _) λw8 o8 m8 z8=>?_;refine bJ (l:=bf) (FX (m,sl)) (o8.holds λj v hj=>by rw[pN];exact hj) ?_;refine hQ m sl 0 w8 (K7.fresh m8 λk e=>by rw[show k=w.heap.size from e];exact iT _) ⟨(rdx.aK k7 cR λ_ _=>id).aK m8 cR λb hb e=>(fx b hb).2.1 e,cR,λb hb=>by have:=(fx b hb).2.2;have:=k7.size;omega,λ_=>Iff.rfl⟩ (λb hb=>(fx b hb).1) ⟨hml,λm0 h1 h2=>⟨hx m0 h1 h2,rfl⟩⟩
 have toV:∀{mc l' uN wx},Nu w (aZ (tH g l' uN) (aZ (sB w.heap.size nC mc) DK)) wx->Nu w (aZ (tH g l' uN) (aZ (sB w.heap.size nC mc) (iU cY 1 eI bD ([]:List Int)))) wx:=λh=>h.map λS h=>h.mono (λ_ h=>h) λ_ h=>h.mono (λ_ h=>h) λ_ h=>Es h;have GB:∀m0,uO m0->bs=uF m0->(x3:Int)=m0.kind/\sp3=false/\be 1 m0.kind.toNat++l3=uF m0:=λm0 h1 h2=>by
  have hk:=h1.kind;have h3:∃t,uF m0=be 1 m0.kind.toNat++t:=⟨_,rfl⟩;obtain⟨t,ht⟩:=h3;obtain⟨e1,rfl,e3⟩:=v3 _ t rfl (by rw[h2,ht]) aB;exact⟨aB,e3,ht.symm⟩
 have dE:∀m0 t,uO m0->bs=uF m0->uF m0=be 1 m0.kind.toNat++t->l3=t:=λm0 t h1 h2 h3=>by
  have:=(GB m0 h1 h2).2.2;rw[h3] at this;exact List.append_cancel_left this
 have hz:∀m0,uO m0->m0.kind≠7->m0.eZ=⟨0,0,0,0⟩:=λm0 h hk=>by have:=h.eZ;rwa[if_neg hk] at this
 have hwt:∀m0,uO m0->m0.kind≠5->m0.lX=0/\m0.cH=[]:=λm0 h hk=>⟨by have:=h.lX;rwa[if_neg hk] at this,by have:=h.cH;rwa[if_neg hk] at this⟩;have hd:∀m0,uO m0->m0.kind≠1->m0.LC=0:=λm0 h hk=>by have:=h.LC;rwa[if_neg hk] at this
 have Ui:∀m0,uO m0->¬(m0.kind=1\/m0.kind=2\/m0.kind=9)->m0.pos=0:=λm0 h hk=>by have:=h.pos;rwa[if_neg hk] at this
 refine aE (k:=.i) (x3:Int) (pr n4 rfl) ?_;refine aF (λhk=>?_) (λQD=>?_)
 ·have hk:(x3:Int)=1:=by simpa using hk
  refine PS n4 (sz:=2) rfl aB aB λx5 l5 sp5 w5 n5 c5 b5 v5=>?_;refine PS n5 (sz:=2) rfl aB aB λx6 l6 sp6 w6 n6 c6 b6 v6=>?_;refine FB n6 cU (by simp[z0]) rfl rfl λw7 n7=>?_;refine FB n7 cU (by simp[z0]) rfl rfl λw8 n8=>?_;refine FY ⟨x3,x5,x6,[],0,⟨0,0,0,0⟩⟩ bD l6 sp6 w8 (toV n8) (iG _) λm0 h1 h2=>?_;obtain⟨e1,e2,e3⟩:=GB m0 h1 h2;have bt:m0.kind=1:=aB;have hp:=h1.pos;have hde:=h1.LC;rw[if_pos (.inl bt)] at hp;rw[if_pos bt] at hde;have e4:=dE m0 (be 2 m0.pos.toNat++be 2 m0.LC.toNat) h1 h2 (by unfold uF;rw[if_pos bt]);obtain⟨q1,rfl,q2⟩:=v5 _ _ e2 e4 (QI hp).2;obtain⟨q3,_,_⟩:=v6 _ [] q2 dL (QI hde).2;have q5:=hz m0 h1 aB;have q6:=hwt m0 h1 aB;obtain⟨k,ps,ds,es,wt,hh⟩:=m0;simp only[lO.mk.injEq];have h02:=hp.1;have h03:=hde.1;simp only at*;exact⟨aB,aB,aB,q6.2.symm,q6.1.symm,q5.symm⟩
 have QD:¬(x3:Int)=1:=by simpa using QD
 intro J2 En;have j29:(x3:Int)=2\/(x3:Int)=9->J2 (true,()) w4:=by
  intro hk;apply En;refine aF (λ_=>?_) (λh=>by cases h);refine PS n4 (sz:=2) rfl aB aB λx5 l5 sp5 w5 n5 c5 b5 v5=>?_;refine FB n5 cU (by simp[z0]) rfl rfl λw7 n7=>?_;refine FY ⟨x3,x5,0,[],0,⟨0,0,0,0⟩⟩ bD l5 sp5 w7 (toV n7) (iG _) λm0 h1 h2=>?_;obtain⟨e1,e2,e3⟩:=GB m0 h1 h2;have bt:m0.kind=2\/m0.kind=9:=aB;have hp:=h1.pos;rw[if_pos (.inr bt)] at hp;have e4:=dE m0 (be 2 m0.pos.toNat) h1 h2 (by unfold uF;rw[if_neg aB,if_pos bt]);obtain⟨q1,_,q2⟩:=v5 _ [] e2 (by rw[e4];simp) (QI hp).2;have q5:=hz m0 h1 aB;have q6:=hwt m0 h1 aB;have q7:=hd m0 h1 aB;obtain⟨k,ps,ds,es,wt,hh⟩:=m0;simp only[lO.mk.injEq];have h02:=hp.1;simp only at*;exact⟨aB,aB,aB,q6.2.symm,q6.1.symm,q5.symm⟩
 have jr:¬((x3:Int)=2\/(x3:Int)=9)->J2 (false,()) w4:=by
  intro hk29;apply En;refine aF (λh=>by cases h) (λ_=>aF (λhk=>?_) (λMr=>aF (λhk=>?_) (λhk7=>?_)))
  ·have hk:(x3:Int)=5:=by simpa using hk
   refine PS n4 (sz:=5) rfl aB aB λx5 l5 sp5 w5 n5 c5 b5 v5=>?_;refine FB n5 cU (by simp[z0]) rfl rfl λw7 n7=>?_;refine PS n7 (sz:=2) rfl aB aB λx8 l8 sp8 w8 n8 c8 b8 v8=>?_;have fr:∀m0,uO m0->bs=uF m0->m0.kind=5/\(x5:Int)=m0.lX/\l8=(m0.cH.flatMap λe=>be 2 e.toNat)/\sp8=false/\x8=m0.cH.length:=λm0 h1 h2=>by
    obtain⟨e1,e2,e3⟩:=GB m0 h1 h2;have bt:m0.kind=5:=aB;have hw:=h1.lX;have he:=h1.cH;rw[if_pos bt] at hw he;have e4:=dE m0 (be 5 m0.lX.toNat++(be 2 m0.cH.length++m0.cH.flatMap λe=>be 2 e.toNat)) h1 h2 (by unfold uF;rw[if_neg aB,if_neg aB,if_pos bt];simp);obtain⟨q1,rfl,q2⟩:=v5 _ _ e2 e4 (My hw).2;obtain⟨q3,rfl,q4⟩:=v8 _ _ q2 rfl aB;have:=hw.1;exact⟨bt,aB,rfl,q4,q3⟩
   have dR:∀es sl l' uN wx,Nu w (aZ (tH g l' uN) (aZ (sB w.heap.size nC (tC (⟨x3,0,0,es,x5,⟨0,0,0,0⟩⟩,sl))) (iU cY 1 eI sl es))) wx->es.length<=70000->(∀m0,uO m0->bs=uF m0->m0.cH=es)->J1 () wx:=by
    intro es sl l' uN wx nx Tx hx;refine FY ⟨x3,0,0,es,x5,⟨0,0,0,0⟩⟩ sl l' uN wx nx Tx λm0 h1 h2=>?_;obtain⟨bt,q1,_⟩:=fr m0 h1 h2;have q2:=hx m0 h1 h2;have q5:=hz m0 h1 aB;have q6:=Ui m0 h1 aB;have q7:=hd m0 h1 aB;obtain⟨k,ps,ds,es,wt,hh⟩:=m0;simp only[lO.mk.injEq];simp only at*;exact⟨aB,aB,aB,q2.symm,q1,q5.symm⟩
   refine bO (λc t AU=>∃(n:Nat) (es:List Int) (sl:Sl) (l':List dA) (uN:Bool),c=n/\t=((n:Int),())/\es.length+n<=65536/\l'.length<=5000/\Nu w (aZ (tH g l' uN) (aZ (sB w.heap.size nC (tC (⟨x3,0,0,es,x5,⟨0,0,0,0⟩⟩,sl))) (iU cY 1 eI sl es))) AU/\
    ∀m0,uO m0->bs=uF m0->∃rem,m0.cH=es++rem/\l'=(rem.flatMap λe=>be 2 e.toNat)/\uN=false/\n=rem.length) x8 ⟨x8,[],bD,l8,sp8,rfl,rfl,by simp;omega,aB,toV n8,λm0 h1 h2=>?_⟩ ?_
   ·obtain⟨_,_,q1,q2,q3⟩:=fr m0 h1 h2
    exact⟨m0.cH,rfl,q1,q2,q3⟩
   rintro c t AU ⟨n,es,sl,l',uN,hc,rfl,hbn,hl',nx,hx⟩ X hX;dsimp only;refine aJ (λhn=>?_) (λhn=>dR es sl l' uN AU nx aB λm0 h1 h2=>?_)
   ·obtain⟨S9,a9,Ar⟩:=nx.foc λS h=>aZ.l h
    refine uw a9 λx9 e9 b9=>?_;refine aJ (λh9=>?_) (λh9=>dR es sl l' uN AU nx aB λm0 h1 h2=>?_)
    ·have nd:=nx.kp (bN AU)
     refine aE (k:=.slice) sl (pr nd rfl) ?_;refine PS nd (sz:=2) rfl aB aB λrY l10 sp10 eV n10 c10 b10 v10=>⟨pr n10 rfl,?_⟩;refine cC (cs:=[aD (rY:Int)]) λeE b11 KU z11=>?_;have n11:=n10.kp KU;refine⟨pr n11 rfl,?_⟩;obtain⟨XZ,KL,TH⟩:=n11.foc λS h=>(aZ.r h).c λT hT=>aZ.r hT;refine DY (x:=⟨some ⟨eV.heap.size,0,none⟩,1,1⟩) iK fH EV KL (iV fH [(rY:Int)] b11 rfl dL) (by simp;omega) aB λr eR S13 YA Br=>?_;have n12:=TH _ eR _ Br YA;refine FB (v:=sv r) n12 oG dL rfl rfl λgO n13=>?_;rw[show aQ ((n:Int)-(1:Int))=((n-1:Nat):Int) by rw[gM aB aB];omega];refine hX (n-1) _ _ aB ⟨n-1,es++[(rY:Int)],r,l10,sp10,rfl,rfl,by simp;omega,aB,n13,λm0 h1 h2=>?_⟩;obtain⟨rem,q1,q2,q3,q4⟩:=hx m0 h1 h2;obtain⟨bt,_⟩:=fr m0 h1 h2;have he:=h1.cH;rw[if_pos bt] at he;cases rem with
     |nil=>simp at q4;omega
     |cons a rem=>
      have ha:=he.2 a (by rw[q1];simp);obtain⟨y1,y2,y3⟩:=v10 a.toNat (rem.flatMap λe=>be 2 e.toNat) q3 (by rw[q2,EY]) (QI ha).2;have:=ha.1;refine⟨rem,?_,y2,y3,by simp at q4;omega⟩;rw[q1,show(rY:Int)=a by omega];simp
    ·obtain⟨rem,q1,q2,q3,q4⟩:=hx m0 h1 h2
     have h9':=e9 q3;rw[q2,aAi] at h9';have:rem=[]:=Ce aB;rw[q1,this,tD]
   ·obtain⟨rem,q1,q2,q3,q4⟩:=hx m0 h1 h2
    have:rem=[]:=Ce aB;rw[q1,this,tD]
  ·have hk:(x3:Int)=7:=by simpa using hk
   refine PS n4 (sz:=1) rfl aB aB λx5 l5 sp5 w5 n5 c5 b5 v5=>?_;refine PS n5 (sz:=2) rfl aB aB λx6 l6 sp6 w6 n6 c6 b6 v6=>?_;refine PS n6 (sz:=5) rfl aB aB λx7 l7 sp7 w7 n7 c7 b7 v7=>?_;refine PS n7 (sz:=5) rfl aB aB λx8 l8 sp8 w8 n8 c8 b8 v8=>?_;rw[gM (n:=(x6:Int)-(1:Int)) aB aB];obtain⟨S9,bb9,Ar⟩:=n8.foc λS h=>(aZ.r h).c λT hT=>aZ.l hT;rw[aS,pN];refine BZ (v:=.agg #[aD (x5:Int),aD ((x6:Int)-1),aD (x7:Int),aD (x8:Int)]) bb9.1 AK (by simp[Value.cells,z0]) (by simp[Value.cells,Value.oneCell']) λw9 o9 m9 z9=>?_;have n9:=Ar _ w9 _ (bb9.up o9 m9).2 (bb9.up o9 m9).1;refine FY ⟨x3,0,0,[],0,⟨x5,(x6:Int)-1,x7,x8⟩⟩ bD l8 sp8 w9 (toV n9) (iG _) λm0 h1 h2=>?_;obtain⟨e1,e2,e3⟩:=GB m0 h1 h2;have bt:m0.kind=7:=aB;have hh:=h1.eZ;rw[if_pos bt] at hh;have e4:=dE m0 (be 1 m0.eZ.cls.toNat++(be 2 (m0.eZ.jB+1).toNat++(be 5 m0.eZ.rZ.toNat++be 5 m0.eZ.left.toNat))) h1 h2 (by unfold uF;rw[if_neg aB,if_neg aB,if_neg aB,if_pos bt];simp);obtain⟨q1,rfl,p1⟩:=v5 _ _ e2 e4 (rng8 hh.1).2;obtain⟨q2,rfl,p2⟩:=v6 _ _ p1 rfl (QI hh.2.1).2;obtain⟨q3,rfl,p3⟩:=v7 _ _ p2 rfl (My hh.2.2.1).2;obtain⟨q4,_,_⟩:=v8 _ [] p3 dL (My hh.2.2.2).2;have q6:=hwt m0 h1 aB;have q7:=hd m0 h1 aB;have q8:=Ui m0 h1 aB;obtain⟨k,ps,ds,es,wt,⟨hc,he,hf,hl⟩⟩:=m0;simp only[lO.mk.injEq,QT.mk.injEq];have y1:=hh.1.1;have y2:=hh.2.1.1;have y3:=hh.2.2.1.1;have y4:=hh.2.2.2.1;simp only at*;exact⟨aB,aB,aB,q6.2.symm,q6.1.symm,aB,aB,aB,aB⟩
  ·have Mr:¬(x3:Int)=5:=by simpa using Mr
   have hk7:¬(x3:Int)=7:=by simpa using hk7
   refine FY ⟨x3,0,0,[],0,⟨0,0,0,0⟩⟩ bD l3 sp3 w4 (toV n4) (iG _) λm0 h1 h2=>?_;obtain⟨e1,e2,e3⟩:=GB m0 h1 h2;have q5:=hz m0 h1 aB;have q6:=hwt m0 h1 aB;have q7:=hd m0 h1 aB;have q8:=Ui m0 h1 aB;obtain⟨k,ps,ds,es,wt,hh⟩:=m0;simp only[lO.mk.injEq];simp only at*;exact⟨aB,aB,aB,q6.2.symm,q6.1.symm,q5.symm⟩
 refine aF (λhk=>?_) (λhk=>?_)
 ·rw[hk];exact j29 (.inl (by simpa using hk))
 ·have DI:¬(x3:Int)=2:=by simpa using hk
  by_cases hk9:(x3:Int)=9
  ·rw[show((x3:Int)==(9:Int))=true by simpa using hk9];exact j29 (.inr hk9)
  ·rw[show((x3:Int)==(9:Int))=false by simpa using hk9];exact jr λh=>h.elim DI hk9
section
section
variable{K:Type}[DecidableEq K]{w:aH}{S:BS}{r n:Nat}{ek:K->Value}{kn:nP}{f:K->Option kn.T}
theorem Xc{t kt et:TypeId}(ht:prog.underlying t=some (.map kt et))(hk:QS prog kt ek)(h:uJ r ek kn f n w S)(x:K)(v:kn.T){Q:aH->Prop}
  (hQ:∀w',uJ r ek kn (λy=>if y=x then some v else f y) (if(f x).isSome then n else n+1) w' S->Up S S w w'->Q w'):fF prog t (.map (some r)) (ek x) (kn.aY v) w Q:=
 VZ ht hk h.1 x v λw' h' m _=>hQ w' ⟨h',h.2⟩ (Up.at (m.mono λk _ hk=>(h.2 k).2 hk))
theorem Xd{t kt et u:TypeId}(ht:prog.underlying t=some (.map kt et))(hk:QS prog kt ek)(h:uJ r ek kn f n w S)(x:K){Q:aH->Prop}
  (hQ:∀w',uJ r ek kn (λy=>if y=x then none else f y) (if(f x).isSome then n-1 else n) w' S->Up S S w w'->Q w'):qC prog t u (.map (some r)) (ek x) w Q:=
 Hf ht hk h.1 x λw' h' m _=>hQ w' ⟨h',h.2⟩ (Up.at (m.mono λk _ hk=>(h.2 k).2 hk))
end
def AY(s:Sl)(S:BS)(w:aH):Prop:=∀b,s.b=some b->¬S b.block/\b.block<w.heap.size
theorem AY.up{s:Sl}{S S':BS}{w w':aH}(h:AY s S w)(u:Up S S' w w'):AY s S' w':=λb hb=>⟨λhs=>(u.s _ hs).elim (h b hb).1 λhh=>by have:=(h b hb).2;omega,mD (h b hb).2 u.m.size⟩
theorem AY.rd{α:Type}{n:Nat}{aY:α->List Value}{xs:List α}{s:Sl}{S S':BS}{w w':aH}(h:AY s S w)(u:Up S S' w w')(hr:Rd w s n aY xs)(gF:∀x,aY x≠[]):Rd w' s n aY xs:=hr.aK u.m gF λb hb=>(h b hb).1
theorem AY.kp{s:Sl}{S:BS}{w w':aH}(h:AY s S w)(k:aM w w'):AY s S w':=λb hb=>⟨(h b hb).1,mD (h b hb).2 k.size⟩
abbrev i64(x:Int):Prop:=-9223372036854775808<=x/\x<=9223372036854775807
structure TimS where
 mb:Nat
 b:Int
 m:Int
 t:Int
 f:Int->Option knW.T
 n:Nat
def PV(a:Nat)(s:TimS):As:=aZ (sB a tTimer [aD s.b,aD s.m,aD s.t,.map (some s.mb)]) (uJ s.mb CT knW s.f s.n)
instance{a:Nat}{s:TimS}:bF (PV a s):=by unfold PV;infer_instance
def SJ(a:Nat)(yO:Int->Prop):As:=Ex λs=>Pr (∀x,(s.f x).isSome=true↔yO x) (PV a s)
instance{a:Nat}{yO:Int->Prop}:bF (SJ a yO):=by unfold SJ;infer_instance
section
variable{w:aH}{S:BS}{a:Nat}{s:TimS}{yO:Int->Prop}
theorem PV.cells(h:PV a s w S):w.cell? ((⟨a,0,none⟩:Addr).add 0)=some (aD s.b)/\w.cell? ((⟨a,0,none⟩:Addr).add 1)=some (aD s.m)/\w.cell? ((⟨a,0,none⟩:Addr).add 2)=some (aD s.t)/\w.cell? ((⟨a,0,none⟩:Addr).add 3)=some (.map (some s.mb)):=by
 obtain⟨S1,S2,h1,_⟩:=h;exact⟨aO h1 rfl,aO h1 rfl,aO h1 rfl,aO h1 rfl⟩
theorem PV.map(h:PV a s w S):jP w s.mb CT knW s.f s.n:=by
 obtain⟨S1,S2,_,h2,_⟩:=h;exact h2.1
theorem PV.put(h:PV a s w S)(x:Int)(v:knW.T){Q:aH->Prop}(hQ:∀w' S',PV a {s with f:=λy=>if y=x then some v else s.f y,n:=if(s.f x).isSome then s.n else s.n+1} w' S'->Up S S' w w'->Q w'):
  fF prog 358 (.map (some s.mb)) (aD x) (knW.aY v) w Q:=by
 obtain⟨S2,h2,_,dN⟩:=(aZ.r h).put;refine Xc gh kP h2 x v λw' h' u'=>?_;obtain⟨S',h3,u3⟩:=dN _ _ _ u' h';exact hQ w' S' h3 u3
theorem PV.Uo(h:PV a s w S)(x:Int){Q:aH->Prop}(hQ:∀w' S',PV a {s with f:=λy=>if y=x then none else s.f y,n:=if(s.f x).isSome then s.n-1 else s.n} w' S'->Up S S' w w'->Q w'):
  qC prog 358 3 (.map (some s.mb)) (aD x) w Q:=by
 obtain⟨S2,h2,_,dN⟩:=(aZ.r h).put;refine Xd gh kP h2 x λw' h' u'=>?_;obtain⟨S',h3,u3⟩:=dN _ _ _ u' h';exact hQ w' S' h3 u3
theorem Wait_i{n:Int}{Q:Int->aH->Prop}(h:PV a s w S)(hQ:∀x,Q x w):HT (some ⟨a,0,none⟩) n w Q:=by
 unfold HT;obtain⟨c0,c1,_,_⟩:=h.cells;refine aF (λh=>by simp at h) (λ_=>aA rfl (aE (k:=.i) s.b c0 ?_));refine bO (λc t w1=>c=t.1.toNat/\w1=w) n.toNat ⟨rfl,rfl⟩ ?_;rintro c ⟨n,o,_⟩ w1 ⟨rfl,rfl⟩ X hX;dsimp only;refine aJ (λhn=>aA rfl (aE (k:=.i) s.m c1 (aJ (λ_=>?_) (λ_=>aA rfl (aE (k:=.i) s.m c1 (hQ _)))))) (λ_=>aA rfl (aE (k:=.i) s.m c1 (hQ _)));have e:aQ (n-(1:Int))<=n-1:=by rw[aQ,IntKind.wrap_i64];omega
 exact hX _ _ _ aB ⟨rfl,rfl⟩
theorem Start_i{id dO:Int}{Q:aH->Prop}(h:SJ a yO w S)(hQ:∀w' S',SJ a (λx=>x=id\/yO x) w' S'->Up S S' w w'->Q w'):JV (some ⟨a,0,none⟩) id dO w Q:=by
 unfold JV;obtain⟨s,hi,h⟩:=h;have hd:=bF.dr h;refine aF (λ_=>aA rfl (aE (k:=.map) (some s.mb) hd.cells.2.2.2 (Wait_i hd λx=>⟨hd.cells.2.2.2,hd.put id ((aQ (dO+x),(0:Int),()):Int×Int×Unit) λw' S' h' u'=>?_⟩))) (λh=>by simp at h);refine hQ w' S' ⟨_,λy=>?_,h'⟩ ((Up.aN (bN w)).tr u');dsimp only
 by_cases hy:y=id
 ·rw[if_pos hy];exact⟨λ_=>.inl hy,λ_=>rfl⟩
 ·rw[if_neg hy];exact(hi y).trans ⟨.inr,λh=>h.resolve_left hy⟩
theorem Stop_i{x:Int}{sl:Sl}{Q:aH->Prop}(h:SJ a yO w S)(hr:Rd w sl 1 eI [x])(ho:AY sl S w)(hQ:∀w' S',SJ a (λy=>y≠x/\yO y) w' S'->Up S S' w w'->Q w'):PD (some ⟨a,0,none⟩) sl w Q:=by
 unfold PD;obtain⟨s,hi,h⟩:=h;have hl:sl.l=1:=hr.len;rw[hl];refine aF (λh=>by simp at h) (λ_=>?_);refine bO (λc t w1=>(c=1/\t=(0,())/\w1=w)\/(c=0/\t=(1,())/\Q w1)) 1 (.inl ⟨rfl,rfl,rfl⟩) ?_;rintro c t w1 (⟨rfl,rfl,rfl⟩|⟨rfl,rfl,hq⟩) X hX
 ·dsimp only
  refine aJ (λ_=>?_) (λh=>absurd (by decide) h);obtain⟨b,hb,cb⟩:=cF (k:=.i) (e:=λx=>x) hr (show [x][0]? =some x from rfl);refine⟨⟨by decide,by decide⟩,aA hb (aE (k:=.i) x cb (aA rfl (aE (k:=.map) (some s.mb) h.cells.2.2.2 (h.Uo x λw' S' h' u'=>?_))))⟩;refine hX 0 _ _ aB (.inr ⟨rfl,by rw[gM aB aB];rfl,hQ w' S' ⟨_,λy=>?_,h'⟩ u'⟩);dsimp only
  by_cases hy:y=x
  ·simp[hy]
  ·rw[if_neg hy];exact(hi y).trans ⟨λh=>⟨hy,h⟩,λh=>h.2⟩
 ·dsimp only
  exact aJ (λh=>absurd h (by decide)) (λ_=>hq)
theorem TiNew_i{b m t:Int}{Q:cL->Int->aH->Prop}(hv:1<=b/\b<=1000/\b<=m/\m<=1000/\0<=t/\t<=20)(hQ:∀w',SJ (w.heap.size+1) (λ_=>False) w' (λk=>k=w.heap.size+1\/k=w.heap.size)->aM w w'->Q (some ⟨w.heap.size+1,0,none⟩) 0 w'):EH b m t w Q:=by
 unfold EH;refine aJ (λh=>aB) (λ_=>aJ (λh=>aB) (λ_=>aJ (λh=>aB) (λ_=>aJ (λh=>aB) (λ_=>aJ (λh=>aB) (λ_=>aJ (λh=>aB) (λ_=>?_))))));refine qO (ek:=CT) (kn:=knW) λhm k1=>?_;refine cC (cs:=[aD b,aD m,aD t,.map (some w.heap.size)]) λw2 b2 k2 z2=>?_;have e:(w.alloc (.map #[] 0)).heap.size=w.heap.size+1:=by simp
 rw[e] at b2 ⊢;refine hQ w2 ⟨⟨w.heap.size,b,m,t,λ_=>none,0⟩,λx=>by simp,⟨_,_,b2,⟨hm.aK k2 id,λk=>Iff.rfl⟩,λk h1 h2=>by have h2':k=w.heap.size:=h2;omega,λk=>Iff.rfl⟩⟩ (k1.tr k2)
theorem Nw{ks ls:List Int}(h:ks.Nodup)(hs:∀x∈ks,x∈ls):ks.length<=ls.length:=by
 induction ks generalizing ls with
 |nil=>exact iG _
 |cons a r ih=>
  have ha:=hs a dL;rw[List.nodup_cons] at h;have:=ih (ls:=ls.erase a) h.2 λx hx=>by
   have gF:x≠a:=λe=>h.1 (e▸hx);exact(List.mem_erase_of_ne gF).2 (hs x (by simp[hx]))
  rw[List.length_erase_of_mem ha] at this;have:0<ls.length:=List.length_pos_of_mem ha;simp only[nU];omega
theorem Due_i{dO:Int}{Q:Sl->Sl->aH->Prop}(h:SJ a yO w S)(h64:∀x,yO x->i64 x)(hc:∀ks:List Int,ks.Nodup->(∀x∈ks,yO x)->ks.length<=1000)
  (hQ:∀ag ov Pt na Ll w' S',aZ (SJ a Ll) (aZ (iU cY 1 eI ag Pt) (iU cY 1 eI ov na)) w' S'->Up S S' w w'->(∀x,Ll x->yO x)->Pt.Nodup->(∀x∈Pt,Ll x)->((∀x,¬yO x)->Pt=[]/\na=[])->Q ag ov w'):
  WT (some ⟨a,0,none⟩) dO w Q:=by
 unfold WT;obtain⟨s,hi,h⟩:=h;refine aF (λh=>by simp at h) (λ_=>aA rfl (aE (k:=.map) (some s.mb) h.cells.2.2.2 ?_));have hn:s.n<=1000:=by
  obtain⟨ks,k1,k2,k3⟩:=h.map.Lj;have:=hc ks k1 λx hx=>(hi x).1 ((k3 x).1 hx);omega
 refine aAy h.map (λx hx=>h64 x ((hi x).1 hx)) aB λs1 ks w2 v2 k2 f2 FP DI Ul=>?_;have h2:=bF.kp h k2;have sl:=v2.len;have Es:∀{wx:aH},iU cY 1 eI bD ([]:List Int) wx (λ_=>False):=λ{wx}=>⟨dQ.nil _ _ _ _,λk=>⟨False.elim,λ⟨b,hb,_⟩=>by cases hb⟩⟩;have o2:AY s1 (λk=>S k\/(False\/False)) w2:=λb hb=>⟨λhk=>hk.elim (λhk=>by have:=bF.gH h _ hk;have:=f2 b hb;omega) λh=>h.elim id id,v2.lt hb⟩;refine bO (λc t w3=>∃(i:Nat) (ag ov:Sl) (Pt na:List Int) (s:TimS) (S3:BS),i<=ks.length/\c=ks.length-i/\t=(ag,ov,(i:Int),())/\aZ (PV a s) (aZ (iU cY 1 eI ag Pt) (iU cY 1 eI ov na)) w3 S3/\Up S S3 w w3/\Rd w3 s1 1 eI ks/\AY s1 S3 w3/\
  (∀x,(s.f x).isSome=true->yO x)/\Pt.Sublist (ks.take i)/\na.length<=i/\(∀x∈Pt,(s.f x).isSome=true)) ks.length
  ⟨0,_,_,[],[],s,_,iG _,rfl,rfl,⟨S,_,h2,⟨_,_,Es,Es,λ_ h _=>h,λ_=>Iff.rfl⟩,λk _ h=>h.elim id id,λ_=>Iff.rfl⟩,⟨k2.wk,λk hk=>hk.elim .inl λh=>h.elim False.elim False.elim⟩,v2.rd fH,o2,λx hx=>(hi x).1 hx,by simp,by simp,by simp⟩ ?_
 rintro c t w3 ⟨i,ag,ov,Pt,na,s,S3,hi3,rfl,rfl,h3,u3,r3,o3,yT,IM,Kc,Pp⟩ X hX;dsimp only;refine aJ (λcJ=>?_) (λkT=>?_)
 ·have dJ:i<ks.length:=aB
  have cV:=gS dJ;have fP:=nE dJ;have rV:=FQ dJ;have Qf:ks[i]∉ks.take i:=λhm=>by
   have bq:ks.Nodup:=FP.imp λh e=>by rw[e] at h;omega
   have:=(Cd (i+1) ks)▸bq;rw[List.nodup_append] at this;have h1:=this.1;rw[rV,List.nodup_append] at h1;exact h1.2.2 _ hm _ dL rfl
  generalize ks[i]=x at*;obtain⟨q,hq,tQ⟩:=cF (k:=.i) (e:=λx=>x) r3 cV;rw[kE,qA i aB];obtain⟨S4,hT,hT4,dN⟩:=aZ.l h3;refine⟨⟨aB,cJ⟩,aA hq (aE (k:=.i) x tQ (aA rfl (aE (k:=.map) (some s.mb) hT.cells.2.2.2 ?_)))⟩;refine wM gh kP yp hT.map x ?_;obtain⟨v1,v2,hv⟩:∃v1 v2:Int,(s.f x).getD ((0:Int),(0:Int),())=(v1,v2,()):=⟨_,_,rfl⟩;rw[hv];refine fE (zs:=[aD 0,aD 0]) (vs:=[aD v1,aD v2]) yz rfl (by simp[Value.oneCell']) λw4 o4 k4 z4=>?_;have c4:=Pz o4;have step:∀wx,aM w3 wx->∀(ag' ov':Sl) (agL' ovL':List Int) (s':TimS) (S5:BS) w5,aZ (PV a s') (aZ (iU cY 1 eI ag' agL') (iU cY 1 eI ov' ovL')) w5 S5->Up S3 S5 wx w5->(∀x,(s'.f x).isSome=true->yO x)->agL'.Sublist (ks.take (i+1))->ovL'.length<=i+1->(∀x∈agL',(s'.f x).isSome=true)->X (ag',ov',((i+1:Nat):Int),()) w5:=by
   intro wx kx ag' ov' agL' ovL' s' S5 w5 h5 u5 q1 q2 q3 q4;have uu:Up S3 S5 w3 w5:=(Up.aN kx).tr u5;exact hX _ _ _ aB ⟨i+1,ag',ov',agL',ovL',s',S5,dJ,rfl,rfl,h5,u3.tr uu,o3.rd uu r3 cR,o3.up uu,q1,q2,q3,q4⟩
  have hsl1:Pt.Sublist (ks.take (i+1)):=IM.trans (by rw[rV];exact List.sublist_append_left _ _);refine aE (k:=.i) v1 c4.1 (aJ (λ_=>step w4 k4 ag ov Pt na s S3 w4 (bF.kp h3 k4) (Up.refl _ _) yT hsl1 aB Pp) (λ_=>?_));have kd:=k4.tr (bN w4);have hTd:=bF.kp hT kd;refine aE (k:=.i) v2 ((bN w4).cell c4.2 id) (aA rfl (aE (k:=.i) s.t hTd.cells.2.2.1 (aJ (λ_=>?_) (λ_=>?_))))
  ·have kdd:=kd.tr (bN _)
   have Ag:=bF.kp h3 kdd;have cdd:=(bN w4.drew).cell ((bN w4).cell c4.2 id) id;obtain⟨S4,hT,hT4,dN⟩:=(aZ.l Ag).put;refine aA rfl (aE (k:=.map) (some s.mb) hT.cells.2.2.2 (aE (k:=.i) v2 cdd (aE (k:=.i) v2 cdd ?_)));refine Wait_i hT λx8=>⟨cdd,hT.cells.2.2.2,?_⟩;refine hT.put x ((aQ (dO+x8),aQ (v2+(1:Int)),()):Int×Int×Unit) λw6 S6 h6 u6=>?_;obtain⟨S7,h7,u7⟩:=dN _ w6 S6 u6 h6;refine cC (cs:=[aD x]) λw7 b7 k7 z7=>?_;obtain⟨S8,h8,_,MF⟩:=((aZ.r (bF.kp h7 k7)).c λT hT=>aZ.l hT).put;refine DY (x:=⟨some ⟨w6.heap.size,0,none⟩,1,1⟩) iK fH EV h8 (iV fH [x] b7 rfl dL) (by have:=IM.length_le;simp;rw[pW] at this;omega) aB λr w8 S9 v9 u9=>?_;obtain⟨FR,IQ,Ef⟩:=MF _ w8 S9 u9 v9;refine step _ kdd r ov (Pt++[x]) na _ FR w8 IQ ((u7.tr (Up.aN k7)).tr Ef) (λy hy=>?_) (by rw[rV];exact IM.append (List.Sublist.refl _)) aB λy hy=>?_
   ·dsimp only at hy
    by_cases hyx:y=x
    ·subst hyx;exact(hi y).1 ((DI y).1 fP)
    ·rw[if_neg hyx] at hy;exact yT y hy
   ·dsimp only
    by_cases hyx:y=x
    ·rw[if_pos hyx];rfl
    ·rw[if_neg hyx]
     rcases jK.1 hy with h|h
     ·exact Pp y h
     ·exact absurd (by simpa using h) hyx
  ·have Ag:=bF.kp h3 kd
   obtain⟨S4,hT,hT4,dN⟩:=(aZ.l Ag).put;refine aA rfl (aE (k:=.map) (some s.mb) hT.cells.2.2.2 ?_);refine hT.Uo x λw6 S6 h6 u6=>?_;obtain⟨S7,h7,u7⟩:=dN _ w6 S6 u6 h6;refine cC (cs:=[aD x]) λw7 b7 k7 z7=>?_;obtain⟨S8,h8,_,MF⟩:=((aZ.r (bF.kp h7 k7)).c λT hT=>aZ.r hT).put;refine DY (x:=⟨some ⟨w6.heap.size,0,none⟩,1,1⟩) iK fH EV h8 (iV fH [x] b7 rfl dL) (by simp;omega) aB λr w8 S9 v9 u9=>?_;obtain⟨FR,IQ,Ef⟩:=MF _ w8 S9 u9 v9;refine step _ kd ag r Pt (na++[x]) _ FR w8 IQ ((u7.tr (Up.aN k7)).tr Ef) (λy hy=>?_) hsl1 (by simp;omega) λy hy=>?_
   ·dsimp only at hy
    by_cases hyx:y=x
    ·rw[if_pos hyx] at hy;cases hy
    ·rw[if_neg hyx] at hy;exact yT y hy
   ·dsimp only
    rw[if_neg (λe:y=x=>Qf (by rw[<-e];exact IM.subset hy))];exact Pp y hy
 ·have ei:i=ks.length:=aB
  subst ei;have bq:ks.Nodup:=FP.imp λh e=>by rw[e] at h;omega
  rw[oZ] at IM;obtain⟨S4,S5,hT,hV,d4,e4⟩:=h3;refine hQ ag ov Pt na (λx=>(s.f x).isSome=true) w3 S3 ⟨S4,S5,⟨s,λ_=>Iff.rfl,hT⟩,hV,d4,e4⟩ u3 yT (IM.nodup bq) Pp λvU=>?_;have hk0:ks=[]:=by
   cases ks with
   |nil=>rfl
   |cons a r=>exact absurd ((hi a).1 ((DI a).1 dL)) (vU a)
  subst hk0;exact⟨List.sublist_nil.1 IM,Ce (by have:na.length<=0:=Kc;omega)⟩
end
end
section
structure XY where
 cO:Nat
 next:Int
 f:Int->Option (List dA)
 n:Nat
 yO:Int->Prop
 iH:Bool
structure XY.Ok(s:XY):Prop where
 cO:s.cO<=16
 yR:s.n<=s.cO
 yO:∀x,s.yO x->(s.f x).isSome=true
 len:∀x bs,s.f x=some bs->0<=x/\x<s.next/\bs.length<=70000
 nx:0<=s.next/\s.next-s.n<=1000000000000000
theorem XY.Ok.i64{s:XY}(ok:s.Ok){x:Int}(h:s.yO x):i64 x:=by
 obtain⟨bs,hbs⟩:=Ew.1 (ok.yO x h);have:=ok.len x bs hbs;have:=ok.nx;have:=ok.yR;have:=ok.cO;exact⟨aB,aB⟩
theorem XY.Ok.new{s:XY}(ok:s.Ok):s.f s.next=none:=by
 cases h:s.f s.next with
 |none=>rfl
 |some bs=>have:=ok.len _ bs h;omega
structure qy(g:Int->Option UB.T)(f:Int->Option (List dA))(w:aH)(S:BS):Prop where
 iff:∀x,(g x).isSome=(f x).isSome
 rd:∀x (sl:Sl) bs,g x=some sl->f x=some bs->Rd w sl 1 eU bs
 lt:∀x (sl:Sl) b,g x=some sl->sl.b=some b->b.block<w.heap.size
 inj:∀x y (sl LF:Sl) b b',g x=some sl->g y=some LF->sl.b=some b->LF.b=some b'->b.block=b'.block->x=y
 all:∀k,S k↔∃x,∃sl:Sl,∃b,g x=some sl/\sl.b=some b/\k=b.block
def Ng(g:Int->Option UB.T)(f:Int->Option (List dA)):As:=λw S=>qy g f w S
instance{g:Int->Option UB.T}{f:Int->Option (List dA)}:bF (Ng g f):=⟨λh k hk=>by obtain⟨x,sl,b,h1,h2,rfl⟩:=(h.all k).1 hk;exact h.lt x sl b h1 h2,
 λh m hn=>⟨h.iff,λx sl bs h1 h2=>(h.rd x sl bs h1 h2).aK m fI λb hb=>hn _ ((h.all _).2 ⟨x,sl,b,h1,hb,rfl⟩),λx sl b h1 h2=>mD (h.lt x sl b h1 h2) m.size,h.inj,h.all⟩⟩
def YQ(mb:Nat)(g:Int->Option UB.T)(f:Int->Option (List dA))(n:Nat):As:=aZ (uJ mb CT UB g n) (Ng g f)
instance{mb:Nat}{g:Int->Option UB.T}{f:Int->Option (List dA)}{n:Nat}:bF (YQ mb g f n):=by unfold YQ;infer_instance
def EZ(a tb mb:Nat)(g:Int->Option UB.T)(s:XY):As:=aZ (sB a ri [.pointer (some ⟨tb,0,none⟩),aD (s.cO:Int),aD s.next,.map (some mb),.bool s.iH]) (aZ (YQ mb g s.f s.n) (SJ tb s.yO))
instance{a tb mb:Nat}{g:Int->Option UB.T}{s:XY}:bF (EZ a tb mb g s):=by unfold EZ;infer_instance
def PW(a:Nat)(s:XY):As:=Ex λtb:Nat=>Ex λmb:Nat=>Ex λg:Int->Option UB.T=>EZ a tb mb g s
instance{a:Nat}{s:XY}:bF (PW a s):=by unfold PW;infer_instance
section
variable{w:aH}{S:BS}{a tb mb:Nat}{g:Int->Option UB.T}{s:XY}
theorem EZ.cells(h:EZ a tb mb g s w S):w.cell? ((⟨a,0,none⟩:Addr).add 0)=some (.pointer (some ⟨tb,0,none⟩))/\w.cell? ((⟨a,0,none⟩:Addr).add 1)=some (aD (s.cO:Int))/\w.cell? ((⟨a,0,none⟩:Addr).add 2)=some (aD s.next)/\w.cell? ((⟨a,0,none⟩:Addr).add 3)=some (.map (some mb))/\w.cell? ((⟨a,0,none⟩:Addr).add 4)=some (.bool s.iH):=by
 obtain⟨S1,S2,h1,_⟩:=h;exact⟨aO h1 rfl,aO h1 rfl,aO h1 rfl,aO h1 rfl,aO h1 rfl⟩
theorem EZ.map(h:EZ a tb mb g s w S):jP w mb CT UB g s.n:=by
 obtain⟨S1,S2,_,⟨S3,S4,⟨S5,S6,h5,_⟩,_⟩,_⟩:=h;exact h5.1
theorem EZ.tim(h:EZ a tb mb g s w S):Us w S (SJ tb s.yO) λX=>aZ (sB a ri [.pointer (some ⟨tb,0,none⟩),aD (s.cO:Int),aD s.next,.map (some mb),.bool s.iH]) (aZ (YQ mb g s.f s.n) X):=
 (aZ.r h).c λT hT=>aZ.r hT
theorem Rk{Q:Bool->aH->Prop}(h:EZ a tb mb g s w S)(hQ:Q s.iH w):wR (some ⟨a,0,none⟩) w Q:=by
 unfold wR;exact aF (λh=>by simp at h) (λ_=>aA rfl (aE (k:=.bool) s.iH h.cells.2.2.2.2 hQ))
theorem Room_i{Q:Int->aH->Prop}(h:EZ a tb mb g s w S)(ok:s.Ok)(hQ:∀w',aM w w'->Q (if s.iH then 0 else((s.cO-s.n:Nat):Int)) w'):HY (some ⟨a,0,none⟩) w Q:=by
 unfold HY;refine Rk h (aF (λho=>?_) (λho=>?_))
 ·have:=hQ w (aW.refl _ _)
  rwa[if_pos ho] at this
 ·have hd:=bF.dr h
  refine aA rfl (aE (k:=.i) (s.cO:Int) hd.cells.2.1 (aA rfl (aE (k:=.map) (some mb) hd.cells.2.2.2.1 (Xb SP hd.map ⟨hd.cells.2.1,?_⟩))));have h1:=ok.cO;have h2:=ok.yR;have:=hQ w.drew (bN w);rw[if_neg (by rw[ho];simp)] at this;rw[gM aB aB,show(s.cO:Int)-(s.n:Int)=((s.cO-s.n:Nat):Int) by omega];exact this
def XY.send(s:XY)(bs:List dA):XY:={s with next:=s.next+1,f:=λy=>if y=s.next then some bs else s.f y,n:=s.n+1,yO:=λy=>y=s.next\/s.yO y}
theorem JD{α:Type}{g:Int->Option α}{x y:Int}{r z:α}(h:(λy=>if y=x then some r else g y) y=some z):(y=x/\z=r)\/(y≠x/\g y=some z):=by
 dsimp only at h
 by_cases hy:y=x
 ·rw[if_pos hy] at h;cases h;exact .inl ⟨hy,rfl⟩
 ·rw[if_neg hy] at h;exact .inr ⟨hy,h⟩
theorem del_eq{α:Type}{g:Int->Option α}{x y:Int}{z:α}(h:(λy=>if y=x then none else g y) y=some z):y≠x/\g y=some z:=by
 dsimp only at h
 by_cases hy:y=x
 ·rw[if_pos hy] at h;cases h
 ·rw[if_neg hy] at h;exact⟨hy,h⟩
theorem XY.Ok.send{s:XY}{bs:List dA}(ok:s.Ok)(hr:s.n<s.cO)(hl:bs.length<=70000):(s.send bs).Ok:=by
 refine⟨ok.cO,by show s.n+1<=s.cO;omega,λx hx=>?_,λx b hb=>?_,?_⟩
 ·show(if x=s.next then some bs else s.f x).isSome=true
  by_cases h:x=s.next
  ·rw[if_pos h];rfl
  ·rw[if_neg h];exact ok.yO x (hx.resolve_left h)
 ·have:=ok.nx
  show 0<=x/\x<s.next+1/\_
  rcases JD hb with⟨h1,h2⟩|⟨h1,h2⟩
  ·rw[h2];exact⟨aB,aB,hl⟩
  ·have:=ok.len x b h2;exact⟨aB,aB,this.2.2⟩
 ·have:=ok.nx
  show 0<=s.next+1/\s.next+1-((s.n+1:Nat):Int)<=_
  omega
theorem YQ.put{f:Int->Option (List dA)}{n:Nat}{r:Sl}{bs:List dA}{w4:aH}{Q:aH->Prop}(h:YQ mb g f n w S)(k4:aM w w4)(rd4:AX 1 eU r bs w4 (rC r))(fr:∀b,r.b=some b->w.heap.size<=b.block)(x:Int)
  (hQ:∀w5 S',YQ mb (λy=>if y=x then some r else g y) (λy=>if y=x then some bs else f y) (if(f x).isSome then n else n+1) w5 S'->Up S S' w w5->Q w5):fF prog 341 (.map (some mb)) (aD x) (.slice r.b r.l r.c) w4 Q:=by
 have h4:=bF.kp h k4;have gH:=bF.gH h;obtain⟨S9,FR,Qh,hbods,d9,e9⟩:=h4;refine Xc SP kP Qh x r λw5 m5 u5=>?_;have hn:∀k,rC r k->¬S k:=λk ⟨b,hb,e⟩ hs=>by have:=gH _ hs;have:=fr b hb;omega
 have Cz:=bF.aK rd4 u5.m λk hk lD=>hn k hk ((e9 k).2 (.inl lD));have Nc:qy g f w5 FR:=bF.aK (A:=Ng g f) hbods u5.m λk hk lD=>d9 k lD hk;have old:∀y (sl:Sl) b,g y=some sl->sl.b=some b->S b.block:=λy sl b h1 h2=>(e9 _).2 (.inr ((Nc.all _).2 ⟨y,sl,b,h1,h2,rfl⟩))
 let g':Int->Option UB.T:=λy=>if y=x then some r else g y
 let S':BS:=λk=>∃y,∃sl:Sl,∃b,g' y=some sl/\sl.b=some b/\k=b.block
 have sub:∀k,S' k->FR k\/rC r k:=λk ⟨y,sl,b,h1,h2,e⟩=>by
  rcases JD h1 with⟨_,rfl⟩|⟨_,h1⟩
  ·exact .inr ⟨b,h2,e⟩
  ·exact .inl ((Nc.all _).2 ⟨y,sl,b,h1,h2,e⟩)
 have hB:Ng g' (λy=>if y=x then some bs else f y) w5 S':=by
  refine⟨λy=>?_,λy sl b hx hf=>?_,λy sl b hx hb=>?_,λy z sl LF b b' h1 h2 h3 h4 e=>?_,λk=>Iff.rfl⟩
  ·show(if y=x then(some r:Option UB.T) else g y).isSome=(if y=x then some bs else f y).isSome
   by_cases hxn:y=x
   ·rw[if_pos hxn,if_pos hxn];rfl
   ·rw[if_neg hxn,if_neg hxn];exact Nc.iff y
  ·rcases JD hx with⟨h1,rfl⟩|⟨h1,hx⟩
   ·rcases JD hf with⟨_,rfl⟩|⟨h2,_⟩
    ·exact Cz.1
    ·exact absurd h1 h2
   ·rcases JD hf with⟨h2,_⟩|⟨_,hf⟩
    ·exact absurd h2 h1
    ·exact Nc.rd y sl b hx hf
  ·rcases JD hx with⟨h1,rfl⟩|⟨h1,hx⟩
   ·exact Cz.2.2.1 b hb
   ·exact Nc.lt y sl b hx hb
  ·rcases JD h1 with⟨hy,e1⟩|⟨hy,p1⟩<;>rcases JD h2 with⟨hz,e2⟩|⟨hz,p2⟩
   ·rw[hy,hz]
   ·subst e1;exact(hn b.block ⟨b,h3,rfl⟩ (by rw[e];exact old z LF b' p2 h4)).elim
   ·subst e2;exact(hn b'.block ⟨b',h4,rfl⟩ (by rw[<-e];exact old y sl b p1 h3)).elim
   ·exact Nc.inj y z sl LF b b' p1 p2 h3 h4 e
 have m5':uJ mb CT UB (λy=>if y=x then some r else g y) (if(f x).isSome then n else n+1) w5 S9:=by have:=hbods.iff x;rw[<-this];exact m5
 refine hQ w5 (λk=>S9 k\/S' k) ⟨S9,_,m5',hB,λk h1 h2=>(sub k h2).elim (d9 k h1) λh=>hn k h ((e9 k).2 (.inl h1)),λk=>Iff.rfl⟩ ⟨(k4.wk (F:=S)).tr (u5.m.mono λk _ hk=>(e9 k).2 (.inl hk)),λk hk=>?_⟩;rcases hk with h|h
 ·exact .inl ((e9 k).2 (.inl h))
 ·rcases sub k h with h|⟨b,hb,e⟩
  ·exact .inl ((e9 k).2 (.inr h))
  ·exact .inr (by rw[e];exact fr b hb)
theorem Send_i{dO:Int}{body:Sl}{bs:List dA}{Q:Int->Int->aH->Prop}(h:PW a s w S)(ok:s.Ok)(hb:Rd w body 1 eU bs)(ho:AY body S w)(hl:bs.length<=70000)(Kc:s.iH=false)(hrm:s.n<s.cO)
  (hQ:∀w' S',PW a (s.send bs) w' S'->Up S S' w w'->Q s.next 0 w'):PG (some ⟨a,0,none⟩) dO body w Q:=by
 unfold PG;obtain⟨tb,mb,g,h⟩:=h;refine Rk h (aF (λho=>by rw[Kc] at ho;cases ho) (λ_=>Room_i h ok λw1 k1=>aF (λhz=>?_) (λ_=>?_)))
 ·rw[Kc] at hz;simp at hz;omega
 have h1:=bF.kp h k1;have YE:=hb.aK k1 fI λ_ _=>id;refine aA rfl (aE (k:=.i) s.next h1.cells.2.2.1 (aA rfl (aE (k:=.i) s.next h1.cells.2.2.1 (aA rfl ?_))))
 obtain⟨S2,b2,_,GP⟩:=(aZ.l h1).put;refine pA b2 cU dL rfl rfl λw3 b3 u3=>?_;obtain⟨S3,h3,v3⟩:=GP _ _ _ u3 b3;have Ag:=bF.dr h3;have La:=((ho.kp k1).rd v3 YE fI).aK (bN w3) fI λ_ _=>id;obtain⟨T1,c1,_,_⟩:=(aZ.l Ag).put;obtain⟨S7,hBod,_,dN⟩:=((aZ.r Ag).c λT hT=>aZ.l hT).put;refine aA rfl (aE (k:=.map) (some mb) (aO c1 rfl) ?_);refine vD La aB λr w4 S4 v4 k4 f4 rd4 fr4=>⟨aO (bF.kp c1 k4) rfl,?_⟩;refine hBod.put k4 rd4 fr4 s.next λw5 S5 h5 u5=>?_
 obtain⟨S6,h6,u6⟩:=dN _ w5 S5 u5 h5;obtain⟨T6,c6,_,_⟩:=(aZ.l h6).put;refine aA rfl (aE (k:=.ptr) (some ⟨tb,0,none⟩) (aO c6 rfl) ?_);obtain⟨S8,h8,_,MF⟩:=((aZ.r h6).c λT hT=>aZ.r hT).put;refine Start_i h8 λw9 S9 h9 u9=>?_;obtain⟨FR,IQ,Ef⟩:=MF _ w9 S9 u9 h9;rw[ok.new,gM (n:=s.next+(1:Int)) (by have:=ok.nx;omega) (by have:=ok.nx;have:=ok.cO;omega)] at IQ
 exact hQ w9 FR ⟨tb,mb,λy=>if y=s.next then some r else g y,IQ⟩ (((((Up.aN k1).tr v3).tr (Up.aN (bN w3))).tr u6).tr Ef)
theorem Body_i{x:Int}{Q:Sl->Bool->aH->Prop}(h:PW a s w S)(ok:s.Ok)(hQ:∀r c w',AX 1 eU r ((s.f x).getD []) w' (rC r)->(∀b,r.b=some b->w.heap.size<=b.block)->aM w w'->Q r c w'):PH (some ⟨a,0,none⟩) x w Q:=by
 unfold PH;obtain⟨tb,mb,g,h⟩:=h;have hm:=h.map;refine aF (λh=>by simp at h) (λ_=>aA rfl (aE (k:=.map) (some mb) h.cells.2.2.2.1 ?_));refine OQ (kn:=UB) SP kP (z:=(bD:Sl)) TI hm x ?_;obtain⟨S1,S2,_,⟨S3,S4,⟨S5,S6,_,hB,_⟩,_⟩,_⟩:=h;have key:∃r bs,(g x).getD (bD:Sl)=r/\(s.f x).getD []=bs/\Rd w r 1 eU bs/\bs.length<=70000:=by
  have h1:=hB.iff x;cases hg:g x with
  |none=>
   rw[hg] at h1;have:s.f x=none:=by simpa using h1.symm
   rw[this];exact⟨_,_,rfl,rfl,Rd.nil _ _ _,iG _⟩
  |some r=>
   rw[hg] at h1;obtain⟨bs,hbs⟩:=Ew.1 (show(s.f x).isSome=true from h1.symm);rw[hbs];exact⟨_,_,rfl,rfl,hB.rd x r bs hg hbs,(ok.len x bs hbs).2.2⟩
 obtain⟨r,bs,e1,e2,hr,hl⟩:=key;rw[e2] at hQ;rw[e1];exact vD hr aB λr' w1 S' _ k1 _ rd fr=>hQ r' _ w1 rd fr k1
theorem SNew2_i{cO:Nat}{tb:Nat}{S:BS}{Q:cL->Int->aH->Prop}(hw:1<=cO/\cO<=16)(h:SJ tb (λ_=>False) w S)
  (hQ:∀w' S',PW (w.heap.size+1) ⟨cO,0,λ_=>none,0,λ_=>False,false⟩ w' S'->aM w w'->(∀k,S' k->S k\/w.heap.size<=k)->Q (some ⟨w.heap.size+1,0,none⟩) 0 w'):zP (cO:Int) (some ⟨tb,0,none⟩) w Q:=by
 unfold zP;refine aJ (λh=>aB) (λ_=>aJ (λh=>aB) (λ_=>aF (λh=>by simp at h) (λ_=>?_)));refine qO (ek:=CT) (kn:=UB) λhm k1=>?_;refine cC (cs:=[.pointer (some ⟨tb,0,none⟩),aD (cO:Int),aD 0,.map (some w.heap.size),.bool false]) λw2 b2 k2 z2=>?_;have e:(w.alloc (.map #[] 0)).heap.size=w.heap.size+1:=by simp
 rw[e] at b2 ⊢;have gH:=bF.gH h;have hB:YQ w.heap.size (λ_=>none) (λ_=>none) 0 w2 (λk=>k=w.heap.size\/False):=⟨λk=>k=w.heap.size,λ_=>False,⟨hm.aK k2 id,λk=>Iff.rfl⟩,⟨λx=>rfl,λx sl b h=>(by cases h),λx sl b h=>(by cases h),λx y sl LF b b' h=>(by cases h),λk=>⟨False.elim,λ⟨x,sl,b,h,_⟩=>by cases h⟩⟩,λ_ _ h=>h,λ_=>Iff.rfl⟩;refine hQ w2 (λk=>k=w.heap.size+1\/(k=w.heap.size\/False)\/S k) ⟨tb,w.heap.size,λ_=>none,⟨_,_,b2,⟨_,_,hB,bF.kp (bF.kp h k1) k2,λk h1 h2=>?_,λ_=>Iff.rfl⟩,λk h1 h2=>?_,λ_=>Iff.rfl⟩⟩ (k1.tr k2) λk hk=>?_
 ·have:=gH k h2;rcases h1 with h1|h1
  ·omega
  ·exact h1
 ·rcases h2 with(h2|h2)|h2
  ·omega
  ·exact h2
  ·have:=gH k h2;omega
 ·rcases hk with hk|(hk|hk)|hk
  ·exact .inr aB
  ·exact .inr aB
  ·exact hk.elim
  ·exact .inl hk
def SAgain(s s':XY):Prop:=s'.cO=s.cO/\s'.next=s.next/\s'.f=s.f/\s'.n=s.n/\∀x,s'.yO x->s.yO x
theorem Again_i{dO:Int}{Q:Sl->Int->aH->Prop}(h:PW a s w S)(ok:s.Ok)
  (hQ:∀r L e s' w' S',aZ (PW a s') (iU cY 1 eI r L) w' S'->Up S S' w w'->SAgain s s'->s'.Ok->L.length<=s.n->(∀x∈L,(s.f x).isSome=true)->(e=0->s'.iH=s.iH)->(¬e=0->L=[])->(s.iH=false->(∀x,¬s.yO x)->e=0/\L=[])->Q r e w'):JX (some ⟨a,0,none⟩) dO w Q:=by
 unfold JX;obtain⟨tb,mb,g,h⟩:=h;have hm:=h.map;have Es:∀{wx:aH},iU cY 1 eI bD ([]:List Int) wx (λ_=>False):=λ{wx}=>⟨dQ.nil _ _ _ _,λk=>⟨False.elim,λ⟨b,hb,_⟩=>by cases hb⟩⟩;have one:∀{A:As} {wx:aH} {T:BS},A wx T->aZ A (iU cY 1 eI bD ([]:List Int)) wx T:=λ{A wx T} h=>⟨T,_,h,Es,λ_ _ h=>h,λk=>⟨.inl,λh=>h.elim id False.elim⟩⟩;refine Rk h (aF (λKc=>?_) (λKc=>?_))
 ·exact hQ bD [] 6 s w S (one ⟨tb,mb,g,h⟩) (Up.refl _ _) ⟨rfl,rfl,rfl,rfl,λ_=>id⟩ ok (iG _) dL (λh=>by cases h) (λ_=>rfl) λh=>by rw[h] at Kc;cases Kc
 refine aA rfl (aE (k:=.ptr) (some ⟨tb,0,none⟩) h.cells.1 ?_);obtain⟨S1,hT,tO,dN⟩:=h.tim;have YF:∀ks:List Int,ks.Nodup->(∀x∈ks,(s.f x).isSome=true)->ks.length<=s.n:=λks hk hi=>by
  obtain⟨ls,l1,l2,l3⟩:=hm.Lj;rw[<-l2];refine Nw hk λx hx=>(l3 x).2 ?_;have hB:∀x,(g x).isSome=(s.f x).isSome:=by
   obtain⟨_,_,_,⟨_,_,⟨_,_,_,hB,_⟩,_⟩,_⟩:=h;exact hB.iff
  rw[hB];exact hi x hx
 have CV:=ok.cO;have DO:=ok.yR;refine Due_i hT (λx hx=>ok.i64 hx) (λks h1 h2=>by have:=YF ks h1 λx hx=>ok.yO x (h2 x hx);omega) λag ov Pt na Ll w2 S2 h2 u2 q1 q2 q3 q4=>?_;have ovl:ov.l=na.length:=by
  obtain⟨_,_,_,⟨_,_,_,hv,_⟩,_⟩:=h2;exact hv.1.len
 obtain⟨S3,h3,u3⟩:=dN (SJ tb Ll) (aZ (iU cY 1 eI ag Pt) (iU cY 1 eI ov na)) w2 S2 u2 h2
 let s1:XY:={s with yO:=Ll}
 have QB:s1.Ok:=⟨ok.cO,ok.yR,λx hx=>ok.yO x (q1 x hx),ok.len,ok.nx⟩;have agok:∀x∈Pt,(s.f x).isSome=true:=λx hx=>ok.yO x (q1 x (q3 x hx));refine aJ (λhgt=>aA rfl ?_) (λIN=>?_)
 ·obtain⟨S4,h4,u4⟩:=h3.drop
  obtain⟨S5,b5,_,back5⟩:=(aZ.l h4).put;refine pA b5 gV dL rfl rfl λw6 b6 u6=>?_;obtain⟨S6,h6,u7⟩:=back5 _ _ _ u6 b6;exact hQ bD [] 6 {s1 with iH:=true} w6 S6 (one ⟨tb,mb,g,h6⟩) ((u3.tr u4).tr u7) ⟨rfl,rfl,rfl,rfl,q1⟩ ⟨QB.cO,QB.yR,QB.yO,QB.len,QB.nx⟩ (iG _) dL (λh=>by cases h) (λ_=>rfl) λh1 vU=>by
   have:=(q4 vU).2;rw[this] at ovl;simp at ovl;omega
 ·obtain⟨S4,h4,u4⟩:=(h3.asl).drop
  exact hQ ag Pt 0 s1 w2 S4 (h4.mono (λ_ h=>⟨tb,mb,g,h⟩) λ_ h=>h) (u3.tr u4) ⟨rfl,rfl,rfl,rfl,q1⟩ QB (YF Pt q2 agok) agok (λ_=>rfl) (λh=>absurd rfl h) λ_ vU=>⟨rfl,(q4 vU).1⟩
end
end
end Go.Proofs.YtihggjgakbgomaaGreat
namespace Go.Proofs.YtihggjgakbgomaaGreat
open Go Go.Den Go.ChangeMaps Go.MapKept
open Tryz (prog)
section
theorem delRaw_i{kn:nP}{f:Int->Option kn.T}{n r c:Nat}{w:aH}{es:Array MapEntry}{t et:TypeId}(ht:prog.underlying t=some (.map 3 et))(h:jP w r CT kn f n)(Tx:w.heap[r]? =some (.map es c))(x:Int)(hx:(f x).isSome=true){Q:aH->Prop}
  (hQ:∀w' j,w'.heap[r]? =some (.map (es.eraseIdxIfInBounds j) c)->j<es.size->(es.toList[j]?).map (·.key)=some (.int .i64 x)->jP w' r CT kn (λy=>if y=x then none else f y) (n-1)->aW (λk=>k=r) w w'->w'.heap.size=w.heap.size->Q w'):qC prog t 3 (.map (some r)) (.int .i64 x) w Q:=by
 have h1:qC prog t 3 (.map (some r)) (.int .i64 x) w λw'=>jP w' r CT kn (λy=>if y=x then none else f y) (n-1)/\aW (λk=>k=r) w w'/\w'.heap.size=w.heap.size:=
  Hf ht kP h x λw' a b e=>⟨by rw[if_pos hx] at a;exact a,b,e⟩
 obtain⟨_,w1,r1,f1,f2,f3⟩:=h1;obtain⟨es',c',l,g1,_,_,_,_,_,_,hf⟩:=h.find kP x w;rw[Tx] at g1;cases g1;rcases hf with⟨_,g,_⟩|⟨j,v,g,_,hjs,tF,pY⟩
 ·rw[g] at hx;cases hx
 ·have r2:(Builtin.delete_ #[t,3] 0 #[.map (some r),.int .i64 x]).run prog w=.ok (.tuple #[]) {w with heap:=w.heap.setIfInBounds r (.map (es.eraseIdxIfInBounds j) c)}:=by
   simp[Builtin.delete_,run_underlying ht,MapKept.run_getObj_map Tx,kP.check,pY,run_setObj_map _ Tx]
  rw[r1] at r2;injection r2 with _ e2;refine⟨_,w1,r1,hQ w1 j ?_ hjs tF f1 f2 f3⟩;rw[e2];exact(heap_set Tx).1
def AckR(s:XY)(LI:Int)(s':XY):Prop:=s'.cO=s.cO/\s'.next=s.next/\s'.iH=s.iH/\s'.n<=s.n/\(∀x,s'.yO x->s.yO x)/\(¬LI>s.next->∀x,s'.yO x->¬x<LI)
section
variable{w:aH}{S:BS}{a tb mb:Nat}{g:Int->Option UB.T}{s:XY}
theorem EZ.tim2(h:EZ a tb mb g s w S):∃S1,SJ tb s.yO w S1/\¬S1 mb/\(∀k,S1 k->S k)/\∀Ll w' AW,Up S1 AW w w'->SJ tb Ll w' AW->∃S',EZ a tb mb g {s with yO:=Ll} w' S'/\Up S S' w w':=by
 obtain⟨S5,S6,BA,⟨S7,S8,Va,htim,d7,e7⟩,d5,e5⟩:=h;have hmb:S7 mb:=by
  obtain⟨S9,FR,hm,_,_,e9⟩:=Va;exact(e9 _).2 (.inl ((hm.2 _).2 rfl))
 refine⟨S8,htim,λh=>d7 _ hmb h,λk hk=>(e5 k).2 (.inr ((e7 k).2 (.inr hk))),λLl w' AW u ht=>?_⟩;have b7:=bF.gH Va;have b5:=bF.gH BA;have dd:=u.ft (λk h1 h2=>d7 k h2 h1) b7;have de:=u.ft (λk h1 h2=>d5 k h2 ((e7 k).2 (.inr h1))) b5;refine⟨λk=>S5 k\/S7 k\/AW k,⟨S5,_,bF.aK BA u.m λk hk lD=>d5 k hk ((e7 k).2 (.inr lD)),⟨S7,AW,bF.aK Va u.m λk hk lD=>d7 k hk lD,ht,λk h1 h2=>dd k h2 h1,λ_=>Iff.rfl⟩,λk h1 h2=>h2.elim (λh=>d5 k h1 ((e7 k).2 (.inl h))) λh=>de k h h1,λ_=>Iff.rfl⟩,u.m.mono λk _ hk=>(e5 k).2 (.inr ((e7 k).2 (.inr hk))),λk hk=>?_⟩;rcases hk with h|h|h
 ·exact .inl ((e5 k).2 (.inl h))
 ·exact .inl ((e5 k).2 (.inr ((e7 k).2 (.inl h))))
 ·exact(u.s k h).imp (λh=>(e5 k).2 (.inr ((e7 k).2 (.inr h)))) id
theorem YQ.Uo{f:Int->Option (List dA)}{n c:Nat}{es:Array MapEntry}(h:YQ mb g f n w S)(Tx:w.heap[mb]? =some (.map es c))(x:Int)(hx:(g x).isSome=true){Q:aH->Prop}
  (hQ:∀w' j S',YQ mb (λy=>if y=x then none else g y) (λy=>if y=x then none else f y) (n-1) w' S'->(∀k,S' k->S k)->(∀(sl:Sl) b,g x=some sl->sl.b=some b->¬S' b.block/\S b.block)->aW (λk=>k=mb) w w'->S' mb->w'.heap[mb]? =some (.map (es.eraseIdxIfInBounds j) c)->j<es.size->(es.toList[j]?).map (·.key)=some (.int .i64 x)->Q w'):qC prog 341 3 (.map (some mb)) (.int .i64 x) w Q:=by
 obtain⟨S9,FR,hm,hb,d9,e9⟩:=h;have hmb9:S9 mb:=(hm.2 _).2 rfl;refine delRaw_i SP hm.1 Tx x hx λw' j h1 h2 h3 h4 m _=>?_;have bW:qy g f w' FR:=bF.aK (A:=Ng g f) hb m λk hk e=>d9 k (by rw[show k=mb from e];exact hmb9) hk
 let g':Int->Option UB.T:=λy=>if y=x then none else g y
 let S':BS:=λk=>∃y,∃sl:Sl,∃b,g' y=some sl/\sl.b=some b/\k=b.block
 have sub:∀k,S' k->FR k:=λk ⟨y,sl,b,h1,h2,e⟩=>(bW.all _).2 ⟨y,sl,b,(del_eq h1).2,h2,e⟩;have hB:Ng g' (λy=>if y=x then none else f y) w' S':=by
  refine⟨λy=>?_,λy sl b hx hf=>bW.rd y sl b (del_eq hx).2 (del_eq hf).2,λy sl b hx hb=>bW.lt y sl b (del_eq hx).2 hb,λy z sl LF b b' h1 h2 h3 h4 e=>bW.inj y z sl LF b b' (del_eq h1).2 (del_eq h2).2 h3 h4 e,λk=>Iff.rfl⟩;show(if y=x then(none:Option UB.T) else g y).isSome=(if y=x then none else f y).isSome
  by_cases hxn:y=x
  ·rw[if_pos hxn,if_pos hxn];rfl
  ·rw[if_neg hxn,if_neg hxn];exact bW.iff y
 refine hQ w' j (λk=>S9 k\/S' k) ⟨S9,S',⟨h4,hm.2⟩,hB,λk h1 h2=>d9 k h1 (sub k h2),λk=>Iff.rfl⟩ (λk hk=>(e9 k).2 (hk.imp id (sub k))) (λsl b hg LH=>?_) m (.inl hmb9) h1 h2 h3;have IQ:FR b.block:=(bW.all _).2 ⟨x,sl,b,hg,LH,rfl⟩;refine⟨λhs=>hs.elim (λh=>d9 _ h IQ) λ⟨y,LF,b',q1,q2,q3⟩=>?_,(e9 _).2 (.inr IQ)⟩;obtain⟨hy,q1⟩:=del_eq q1;exact hy (bW.inj y x LF sl b' b q1 hg q2 LH q3.symm)
theorem EZ.del2{es:Array MapEntry}{c:Nat}(h:EZ a tb mb g s w S)(Tx:w.heap[mb]? =some (.map es c))(x:Int)(hx:(g x).isSome=true){Q:aH->Prop}
  (hQ:∀w' j S',EZ a tb mb (λy=>if y=x then none else g y) {s with f:=λy=>if y=x then none else s.f y,n:=s.n-1} w' S'->(∀k,S' k->S k)->aW (λk=>k=mb) w w'->S mb->w'.heap[mb]? =some (.map (es.eraseIdxIfInBounds j) c)->j<es.size->(es.toList[j]?).map (·.key)=some (.int .i64 x)->Q w'):qC prog 341 3 (.map (some mb)) (.int .i64 x) w Q:=by
 obtain⟨S5,S6,BA,⟨S7,S8,Va,htim,d7,e7⟩,d5,e5⟩:=h;refine Va.Uo Tx x hx λw' j S' h1 hs _ m hmS h2 h3 h4=>?_;have hmb7:S7 mb:=hs _ hmS;exact hQ w' j (λk=>S5 k\/S' k\/S8 k) ⟨S5,_,bF.aK BA m λk hk e=>d5 k hk ((e7 k).2 (.inl (by rw[show k=mb from e];exact hmb7))),⟨S',S8,h1,bF.aK htim m λk hk e=>d7 k (by rw[show k=mb from e];exact hmb7) hk,λk a b=>d7 k (hs k a) b,λ_=>Iff.rfl⟩,λk a b=>d5 k a ((e7 k).2 (b.imp (hs k) id)),λ_=>Iff.rfl⟩ (λk hk=>(e5 k).2 (hk.imp id λh=>(e7 k).2 (h.imp (hs k) id))) m ((e5 _).2 (.inr ((e7 _).2 (.inl hmb7)))) h2 h3 h4
theorem EZ.iff(h:EZ a tb mb g s w S)(x:Int):(g x).isSome=(s.f x).isSome:=by
 obtain⟨S5,S6,BA,⟨S7,S8,⟨S9,FR,hm,hb,d9,e9⟩,htim,d7,e7⟩,d5,e5⟩:=h;exact hb.iff x
theorem ir{kn:nP}{f:Int->Option kn.T}{n r c:Nat}{w:aH}{es:Array MapEntry}(h:jP w r CT kn f n)(Tx:w.heap[r]? =some (.map es c)):(∀e∈es.toList,∃k:Int,e.key=.int .i64 k/\(f k).isSome=true)/\(∀k,(f k).isSome=true->∃e∈es.toList,e.key=.int .i64 k)/\PX es c:=by
 obtain⟨es',c',l,h1,h2,h3,h4,h5,h6,hB⟩:=h;rw[Tx] at h1;cases h1;refine⟨λe he=>?_,λk hk=>?_,hB⟩
 ·have:e.key∈es.toList.map (·.key):=List.mem_map_of_mem he
  rw[h2] at this;obtain⟨p,hp,Uj⟩:=lK.1 this;exact⟨p.1,Uj.symm,by rw[h5,GU];exact List.mem_map_of_mem hp⟩
 ·rw[h5,GU] at hk
  obtain⟨p,hp,rfl⟩:=lK.1 hk;have:CT p.1∈es.toList.map (·.key):=by rw[h2];exact List.mem_map_of_mem (f:=λp:Int×kn.T=>CT p.1) hp
  obtain⟨e,he,hke⟩:=lK.1 this;exact⟨e,he,hke⟩
theorem Acked_i{LI:Int}{Q:Int->aH->Prop}(h:PW a s w S)(ok:s.Ok)(hnx:s.next<=1000000000000000)(hQ:∀c s' w' S',PW a s' w' S'->Up S S' w w'->AckR s LI s'->s'.Ok->Q c w'):JY (some ⟨a,0,none⟩) LI w Q:=by
 unfold JY;obtain⟨tb,mb,g,h⟩:=h;refine aF (λh=>by simp at h) (λ_=>aA rfl (aE (k:=.int .i64) s.next h.cells.2.2.1 (aJ (λhgt=>?_) (λIN=>?_))))
 ·exact hQ 0 s w S ⟨tb,mb,g,h⟩ (Up.refl _ _) ⟨rfl,rfl,rfl,iT _,λ_=>id,λh=>absurd hgt h⟩ ok
 refine aA rfl (aE (k:=.map) (some mb) h.cells.2.2.2.1 ?_);have Qh:=h.map;obtain⟨es,c,Tx⟩:∃es c,w.heap[mb]? =some (.map es c):=by
  obtain⟨es,c,l,h1,_⟩:=Qh;exact⟨es,c,h1⟩
 have hmb:=Qh.lt;refine⟨w.heap.size,_,run_range_map (P:=prog) w 341 3 41 mb es c SP Tx,?_⟩;obtain⟨w0,hw0⟩:∃w0,w0=w.alloc (.mapIter (some mb) c #[] c):=⟨_,rfl⟩;rw[<-hw0];have k0:aM w w0:=by rw[hw0];exact aM.alloc w _
 have hr0:w0.heap[w.heap.size]? =some (.mapIter (some mb) c #[] c):=by rw[hw0];exact World.alloc_heap_new w _
 have gH:=bF.gH h;refine bO (λn t w2=>∃(es:Array MapEntry) (FV:Array Nat) (g:Int->Option UB.T) (s2:XY) (S2:BS),n=(leftOf es FV).size/\EZ a tb mb g s2 w2 S2/\Up S S2 w w2/\w2.heap[mb]? =some (.map es c)/\w2.heap[w.heap.size]? =some (.mapIter (some mb) c FV c)/\(∀e∈es.toList,e.born<c)/\¬S2 w.heap.size/\
   (∀e∈es.toList,FV.contains e.born=true->∀k:Int,e.key=.int .i64 k->¬k<LI)/\(s2.cO=s.cO/\s2.next=s.next/\s2.iH=s.iH/\s2.n<=s.n/\∀x,s2.yO x->s.yO x)/\s2.Ok) (leftOf es #[]).size
  ⟨es,#[],g,s,S,rfl,bF.kp h k0,Up.aN k0,k0.block mb hmb id▸Tx,hr0,(ir Qh Tx).2.2.1,λhk=>by have:=gH _ hk;omega,λe _ hc=>by simp at hc,⟨rfl,rfl,rfl,iT _,λ_=>id⟩,ok⟩ ?_
 rintro n t w2 ⟨es,FV,g,s2,S2,rfl,h2,u2,hes2,Po,RQ,hnr,hsn,⟨q1,q2,q3,q4,q5⟩,cz⟩ X hX;have hmap2:=h2.map;obtain⟨key1,key2,hB⟩:=ir hmap2 hes2;have rlt:w.heap.size<w2.heap.size:=(Array.getElem?_eq_some_iff.1 Po).1;rcases run_next_at (P:=prog) w2 0 w.heap.size mb c c FV es c Po hes2 RQ (iT _) with⟨hz,pY⟩|⟨e,he,w1,Tw,pY⟩
 ·refine⟨false,[],w2,pY,?_⟩
  refine hQ _ s2 w2 S2 ⟨tb,mb,g,h2⟩ u2 ⟨q1,q2,q3,q4,q5,λ_ x hx cJ=>?_⟩ cz;have hgx:(g x).isSome=true:=by rw[h2.iff];exact cz.yO x hx
  obtain⟨e,he,hke⟩:=key2 x hgx;exact hsn e he (all_seen es FV hz e he) x hke cJ
 ·obtain⟨hem,hsb⟩:=mem_left he
  obtain⟨k,hk,hgk⟩:=key1 e hem;obtain⟨w3,hw3⟩:∃w3,w3=setBlock w1 w.heap.size (.mapIter (some mb) c (FV.push e.born) c):=⟨_,rfl⟩;rw[hk,<-hw3] at pY;refine⟨true,[.int .i64 k,e.val],w3,pY,?_⟩;have m3:aW (λk=>k=w.heap.size) w2 w3:=by
   have e1:aW (λk=>k=w.heap.size) w1 w3:=by rw[hw3];exact kR w1 _ _
   rcases Tw with rfl|rfl
   ·exact e1
   ·exact(bN w2).wk.tr e1
  have hr3:w3.heap[w.heap.size]? =some (.mapIter (some mb) c (FV.push e.born) c):=by
   have:w.heap.size<w1.heap.size:=by rcases Tw with rfl|rfl<;>exact rlt
   rw[hw3];unfold setBlock;simp[this]
  have gF:mb≠w.heap.size:=aB;have hes3:w3.heap[mb]? =some (.map es c):=(m3.block mb (mD hmb (by have:=u2.m.size;omega)) gF).trans hes2;have h3:EZ a tb mb g s2 w3 S2:=bF.aK h2 m3 λk hk e=>hnr (by rw[<-show k=w.heap.size from e];exact hk);have u3:Up S S2 w w3:=⟨u2.m.trans m3 λk hk e=>by have e':k=w.heap.size:=e;omega,u2.s⟩;refine⟨k,[e.val],w3,?_,?_⟩
  ·rw[run_entry_at (P:=prog) w3 w.heap.size mb c FV es c e hr3 hes3 hem hB.2,hk]
  have hsn':∀(es':Array MapEntry),(∀x∈es'.toList,x∈es.toList)->¬(k<LI/\e∈es'.toList)->∀x∈es'.toList,(FV.push e.born).contains x.born=true->∀k':Int,x.key=.int .i64 k'->¬k'<LI:=by
   intro es' yT vU x hx hc k' lD;rw[contains_push] at hc;cases Tz:FV.contains x.born with
   |true=>exact hsn x (yT x hx) Tz k' lD
   |false=>
    rw[Tz,Bool.false_or] at hc;have hb:x.born=e.born:=by simpa using hc
    have hxe:=born_inj hB.2 (yT x hx) hem hb;subst hxe;rw[hk] at lD;cases lD
    exactλcJ=>vU ⟨cJ,hx⟩
  refine aJ (λcJ=>?_) (λkT=>?_)
  ·refine aA rfl (aE (k:=.ptr) (some ⟨tb,0,none⟩) h3.cells.1 ?_)
   refine cC (cs:=[.int .i64 k]) λw4 b4 k4 z4=>?_;have h4:=bF.kp h3 k4;obtain⟨S4,ht4,hnmb,hS4,dN⟩:=h4.tim2;have b3:=bF.gH h3;refine Stop_i (sl:=⟨some ⟨w3.heap.size,0,none⟩,1,1⟩) ht4 (iV fH [k] b4 rfl dL) (λb hb=>by cases hb;exact⟨λhs=>by have:=b3 _ (hS4 _ hs);simp at this,by show w3.heap.size<_;omega⟩) λw5 S5 ht5 u5=>?_;obtain⟨S6,h6,u6⟩:=dN _ w5 S5 u5 ht5;have rlt3:w.heap.size<w3.heap.size:=by have:=m3.size;omega
   have hr5:w5.heap[w.heap.size]? =some (.mapIter (some mb) c (FV.push e.born) c):=by
    rw[u5.m.block _ aB λh=>hnr (hS4 _ h),k4.block _ rlt3 id,hr3]
   have hes5:w5.heap[mb]? =some (.map es c):=by
    have:mb<w3.heap.size:=aB;rw[u5.m.block _ aB hnmb,k4.block _ this id,hes3]
   refine aA rfl (aE (k:=.map) (some mb) h6.cells.2.2.2.1 ?_);refine h6.del2 hes5 k hgk λw7 j S7 h7 hs7 m7 hmS hes7 hj hkj=>?_;have er:(es.eraseIdxIfInBounds j).toList=es.toList.eraseIdx j:=by
    unfold Array.eraseIdxIfInBounds;rw[dif_pos hj];simp
   have yT:∀x∈(es.eraseIdxIfInBounds j).toList,x∈es.toList:=λx hx=>by rw[er] at hx;exact List.mem_of_mem_eraseIdx hx
   have hne7:¬w.heap.size=mb:=λe=>gF e.symm;have hr7:w7.heap[w.heap.size]? =some (.mapIter (some mb) c (FV.push e.born) c):=by
    rw[m7.block _ (by have:=u5.m.size;omega) hne7,hr5]
   have qn:e∉(es.eraseIdxIfInBounds j).toList:=λhx=>by
    have:=(ir h7.map hes7).1 e hx;obtain⟨k',lD,QC⟩:=this;rw[hk] at lD;cases lD;simp at QC
   have fU:(leftOf (es.eraseIdxIfInBounds j) (FV.push e.born)).size<=(leftOf es (FV.push e.born)).size:=by
    have e1:∀(es:Array MapEntry) (p:MapEntry->Bool),(es.filter p).size=(es.toList.filter p).length:=λes p=>by rw[<-Array.toList_filter,Array.length_toList]
    unfold leftOf;rw[e1,e1,er];exact((List.eraseIdx_sublist _ _).filter _).length_le
   have hlt7:=left_shrinks es FV e he;refine hX (leftOf (es.eraseIdxIfInBounds j) (FV.push e.born)).size _ _ aB ⟨es.eraseIdxIfInBounds j,FV.push e.born,_,_,S7,rfl,h7,⟨((u3.tr ((Up.aN k4).tr u6)).m.trans m7 λk' lD e'=>?_),λk' lD=>(u3.tr ((Up.aN k4).tr u6)).s k' (hs7 k' lD)⟩,hes7,hr7,λx hx=>RQ x (yT x hx),λhs=>?_,hsn' _ yT λh=>qn h.2,⟨q1,q2,q3,by show s2.n-1<=s.n;omega,λx hx=>q5 x hx.2⟩,⟨cz.cO,by show s2.n-1<=s2.cO;have:=cz.yR;omega,λx hx=>?_,λx bs hb=>?_,?_⟩⟩
   ·have:=(u3.tr ((Up.aN k4).tr u6)).s k' (by rw[show k'=mb from e'];exact hmS)
    rcases this with h|h
    ·exact h
    ·omega
   ·rcases u6.s _ (hs7 _ hs) with h|h
    ·exact hnr h
    ·omega
   ·dsimp only
    rw[if_neg hx.1];exact cz.yO x hx.2
   ·dsimp only at hb
    by_cases bm:x=k
    ·rw[if_pos bm] at hb;cases hb
    ·rw[if_neg bm] at hb;exact cz.len x bs hb
   ·have:=cz.nx
    show 0<=s2.next/\s2.next-((s2.n-1:Nat):Int)<=_
    omega
  ·have hlt7:=left_shrinks es FV e he
   exact hX _ _ _ hlt7 ⟨es,FV.push e.born,g,s2,S2,rfl,h3,u3,hes3,hr3,RQ,hnr,hsn' es (λ_=>id) λh=>kT h.1,⟨q1,q2,q3,q4,q5⟩,cz⟩
end
end
end Go.Proofs.YtihggjgakbgomaaGreat
namespace Go.Proofs.YtihggjgakbgomaaGreat
open Go Go.Den
section
theorem Fq:∀s:Sl,(eS s).length=1:=λ_=>rfl
theorem oneS1:∀s:Sl,∀u∈eS s,u.oneCell'=true:=by intro b u hu;simp at hu;subst hu;rfl
def BN(ss:List Sl)(EU:List (List dA)):As:=λw S=>ss.length=EU.length/\(∀(i:Nat) sl bs,ss[i]? =some sl->EU[i]? =some bs->Rd w sl 1 eU bs/\∀b,sl.b=some b->S b.block)/\∀k,S k->k<w.heap.size
instance{ss:List Sl}{EU:List (List dA)}:bF (BN ss EU):=⟨λh=>h.2.2,λh m hn=>⟨h.1,λi sl bs h1 h2=>⟨(h.2.1 i sl bs h1 h2).1.aK m fI λb hb=>hn _ ((h.2.1 i sl bs h1 h2).2 b hb),(h.2.1 i sl bs h1 h2).2⟩,λk hk=>mD (h.2.2 k hk) m.size⟩⟩
def VC(s:Sl)(EU:List (List dA)):As:=Ex λss=>aZ (iU BP 1 eS s ss) (BN ss EU)
instance{s:Sl}{EU:List (List dA)}:bF (VC s EU):=by unfold VC;infer_instance
theorem TQ{ss:List Sl}{EU:List (List dA)}{r:Sl}{bs:List dA}{w:aH}{S:BS}(h:aZ (BN ss EU) (AX 1 eU r bs) w S):BN (ss++[r]) (EU++[bs]) w S:=by
 have hb:=bF.gH h;obtain⟨S1,S2,h1,h2,d,e⟩:=h;refine⟨by simp[h1.1],λi sl b hi hj=>?_,hb⟩
 by_cases cJ:i<ss.length
 ·rw[Ey cJ] at hi
  rw[Ey (by rw[<-h1.1];exact cJ)] at hj;exact⟨(h1.2.1 i sl b hi hj).1,λa ha=>(e _).2 (.inl ((h1.2.1 i sl b hi hj).2 a ha))⟩
 ·rw[Ez aB] at hi
  rw[Ez (by have:=h1.1;omega),<-h1.1] at hj;cases hk:i-ss.length with
  |succ n=>rw[hk] at hi;simp at hi
  |zero=>
   rw[hk] at hi hj;cases hi;cases hj;exact⟨h2.1,λa ha=>(e _).2 (.inr ((h2.2.2.2 _).2 ⟨a,ha,rfl⟩))⟩
theorem vecS_nil{wx:aH}:iU BP 1 eS bD ([]:List Sl) wx (λ_=>False):=⟨dQ.nil _ _ _ _,λk=>⟨False.elim,λ⟨b,hb,_⟩=>by cases hb⟩⟩
theorem Dz{wx:aH}:VC bD [] wx (λ_=>False):=⟨[],λ_=>False,λ_=>False,vecS_nil,⟨rfl,λi sl bs h=>by simp at h,λk h=>h.elim⟩,λ_ h _=>h,λk=>⟨.inl,λh=>h.elim id id⟩⟩
theorem aZ.oP{A B:As}{w:aH}{S:BS}(h:A w S)(hB:B w (λ_=>False)):aZ A B w S:=⟨S,_,h,hB,λ_ _ h=>h,λk=>⟨.inl,λh=>h.elim id False.elim⟩⟩
structure Uq where
 cO:Nat
 next:Int
 f:Int->Option (List dA)
 n:Nat
structure Uq.Ok(t:Uq):Prop where
 cO:t.cO<=16
 nx:0<=t.next/\t.next<=4294967296
 Lj:∀x bs,t.f x=some bs->t.next<=x/\x<t.next+t.cO/\x<4294967296/\bs.length<=5000
def LU(a mb:Nat)(g:Int->Option UB.T)(t:Uq):As:=aZ (sB a tTaker [aD (t.cO:Int),aD t.next,.map (some mb)]) (YQ mb g t.f t.n)
instance{a mb:Nat}{g:Int->Option UB.T}{t:Uq}:bF (LU a mb g t):=by unfold LU;infer_instance
def Fh(a:Nat)(t:Uq):As:=Ex λmb:Nat=>Ex λg:Int->Option UB.T=>LU a mb g t
instance{a:Nat}{t:Uq}:bF (Fh a t):=by unfold Fh;infer_instance
section
variable{w:aH}{S:BS}{a mb:Nat}{g:Int->Option UB.T}{t:Uq}
theorem LU.cells(h:LU a mb g t w S):w.cell? ((⟨a,0,none⟩:Addr).add 0)=some (aD (t.cO:Int))/\w.cell? ((⟨a,0,none⟩:Addr).add 1)=some (aD t.next)/\w.cell? ((⟨a,0,none⟩:Addr).add 2)=some (.map (some mb)):=by
 obtain⟨S1,S2,h1,_⟩:=h;exact⟨aO h1 rfl,aO h1 rfl,aO h1 rfl⟩
theorem LU.map(h:LU a mb g t w S):jP w mb CT UB g t.n:=by
 obtain⟨S1,S2,_,⟨S3,S4,h3,_⟩,_⟩:=h;exact h3.1
theorem LU.bods(h:LU a mb g t w S):∃S',qy g t.f w S':=by
 obtain⟨S1,S2,_,⟨S3,S4,_,h3,_⟩,_⟩:=h;exact⟨_,h3⟩
theorem LU.YF(h:LU a mb g t w S)(ok:t.Ok):t.n<=t.cO:=by
 obtain⟨ks,k1,k2,k3⟩:=h.map.Lj;obtain⟨_,hb⟩:=h.bods;have hk:∀x∈ks,t.next<=x/\x<t.next+t.cO:=λx hx=>by
  have:=(k3 x).1 hx;rw[hb.iff] at this;obtain⟨bs,hbs⟩:=Ew.1 this;have:=ok.Lj x bs hbs;exact⟨this.1,this.2.1⟩
 have:=Nw (ls:=(List.range t.cO).map λi:Nat=>t.next+(i:Int)) k1 λx hx=>by
  have:=hk x hx;exact lK.2 ⟨(x-t.next).toNat,List.mem_range.2 aB,aB⟩
 simp at this;omega
theorem uv{Q:Int->aH->Prop}(h:Fh a t w S)(hQ:Q t.next w):HV (some ⟨a,0,none⟩) w Q:=by
 unfold HV;obtain⟨mb,g,h⟩:=h;exact aF (λh=>by simp at h) (λ_=>aA rfl (aE (k:=.i) t.next h.cells.2.1 hQ))
theorem TkNew_i{cO:Nat}{Q:cL->Int->aH->Prop}(hw:1<=cO/\cO<=16)
  (hQ:∀w' S',Fh (w.heap.size+1) ⟨cO,0,λ_=>none,0⟩ w' S'->aM w w'->(∀k,S' k->w.heap.size<=k)->Q (some ⟨w.heap.size+1,0,none⟩) 0 w'):EI (cO:Int) w Q:=by
 unfold EI;refine aJ (λh=>aB) (λ_=>aJ (λh=>aB) (λ_=>?_));refine qO (ek:=CT) (kn:=UB) λhm k1=>?_;refine cC (cs:=[aD (cO:Int),aD 0,.map (some w.heap.size)]) λw2 b2 k2 z2=>?_;have e:(w.alloc (.map #[] 0)).heap.size=w.heap.size+1:=by simp
 rw[e] at b2 ⊢;have hB:YQ w.heap.size (λ_=>none) (λ_=>none) 0 w2 (λk=>k=w.heap.size\/False):=⟨λk=>k=w.heap.size,λ_=>False,⟨hm.aK k2 id,λk=>Iff.rfl⟩,⟨λx=>rfl,λx sl b h=>(by cases h),λx sl b h=>(by cases h),λx y sl LF b b' h=>(by cases h),λk=>⟨False.elim,λ⟨x,sl,b,h,_⟩=>by cases h⟩⟩,λ_ _ h=>h,λ_=>Iff.rfl⟩;refine hQ w2 (λk=>k=w.heap.size+1\/(k=w.heap.size\/False)) ⟨w.heap.size,λ_=>none,_,_,b2,hB,λk h1 h2=>?_,λ_=>Iff.rfl⟩ (k1.tr k2) λk hk=>?_
 ·rcases h2 with h2|h2
  ·omega
  ·exact h2
 ·rcases hk with hk|hk|hk
  ·omega
  ·omega
  ·exact hk.elim
theorem Take_i{seq:Int}{body:Sl}{bs:List dA}{Q:Sl->Bool->aH->Prop}(h:Fh a t w S)(ok:t.Ok)(hs:u32 seq)(hb:Rd w body 1 eU bs)(ho:AY body S w)(hl:bs.length<=5000)
  (hQ:∀rQ EU c t' w' S',aZ (Fh a t') (VC rQ EU) w' S'->Up S S' w w'->t'.Ok->t'.cO=t.cO->EU.length<=20->(∀b∈EU,b.length<=5000)->((∀x,t.f x=none)->seq=t.next->0<t.cO->EU=[bs]/\t'.next=t.next+1/\∀x,t'.f x=none)->Q rQ c w'):
  PE (some ⟨a,0,none⟩) seq body w Q:=by
 unfold PE;obtain⟨mb,g,h⟩:=h;have hw:=ok.cO;have hnx:=ok.nx;have hd:=bF.dr h;have kd:=bN w;have no:∀w',aM w w'->¬(seq=t.next/\0<t.cO/\∀x,t.f x=none)->Q bD false w':=λw' k hn=>hQ _ [] _ t w' S (aZ.oP ⟨mb,g,bF.kp h k⟩ Dz) (Up.aN k) ok rfl (iG _) dL λh1 h2 h3=>absurd ⟨h2,h3,h1⟩ hn
 refine aF (λh=>by simp at h) (λ_=>aA rfl (aE (k:=.i) t.next hd.cells.2.1 (aJ (λcJ=>no _ kd λhh=>aB) (λkT=>?_))))
 refine aA rfl (aE (k:=.i) t.next hd.cells.2.1 (aA rfl (aE (k:=.i) (t.cO:Int) hd.cells.1 ?_)))
 have h1:=hs.1;have h2:=hs.2;rw[gM (n:=seq-t.next) aB aB]
 refine aJ (λhgt=>no _ kd λhh=>aB) (λcJ=>?_);refine aA rfl (aE (k:=.map) (some mb) hd.cells.2.2 ?_);refine OQ (kn:=UB) SP kP (z:=(bD:Sl)) TI hd.map seq ?_;obtain⟨_,hB⟩:=hd.bods;refine aF (λhsm=>no _ kd λhh=>?_) (λhsm=>?_)
 ·rw[hB.iff,hh.2.2] at hsm;cases hsm
 have kdd:=kd.tr (bN w.drew);have hdd:=bF.kp h kdd;refine aA rfl (aE (k:=.map) (some mb) hdd.cells.2.2 ?_);refine vD (hb.aK kdd fI λ_ _=>id) aB λr w2 S2 _ k2 _ Ph f2=>⟨(bF.kp hdd k2).cells.2.2,?_⟩;obtain⟨S3,hBod,_,dN⟩:=(aZ.r hdd).put;refine hBod.put k2 Ph f2 seq λw3 S4 h3 u3=>?_;obtain⟨S5,h5,u5⟩:=dN _ w3 S4 u3 h3;have hfs:t.f seq=none:=by rw[hB.iff] at hsm;simpa using hsm
 rw[hfs] at h5
 let t1:Uq:=⟨t.cO,t.next,λy=>if y=seq then some bs else t.f y,t.n+1⟩
 have QB:t1.Ok:=⟨ok.cO,ok.nx,λx b hx=>by
  rcases JD hx with⟨e1,e2⟩|⟨_,hx⟩
  ·exact⟨by show t.next<=x;omega,by show x<t.next+t.cO;omega,aB,by rw[e2];exact hl⟩
  ·exact ok.Lj x b hx⟩
 have U5:Up S S5 w w3:=(Up.aN kdd).tr u5;refine bO (λc tt w4=>∃(rQ:Sl) (EU:List (List dA)) (g:Int->Option UB.T) (t':Uq) (S4:BS),c=t'.n/\tt=(rQ,())/\aZ (LU a mb g t') (VC rQ EU) w4 S4/\Up S S4 w w4/\t'.Ok/\t'.cO=t.cO/\EU.length+t'.n<=17/\(∀b∈EU,b.length<=5000)/\
   ((∀x,t.f x=none)->seq=t.next->(EU=[]/\t'.next=t.next/\∀x,t'.f x=if x=seq then some bs else none)\/(EU=[bs]/\t'.next=t.next+1/\∀x,t'.f x=none))) t1.n
  ⟨bD,[],_,t1,S5,rfl,rfl,aZ.oP (show LU a mb _ t1 w3 S5 from h5) Dz,U5,QB,rfl,by have:=(show LU a mb _ t1 w3 S5 from h5).YF QB;have:t1.cO=t.cO:=rfl;simp;omega,by simp,λh1 h2=>.inl ⟨rfl,rfl,λx=>by show(if x=seq then some bs else t.f x)=_;rw[h1 x]⟩⟩ ?_
 rintro c tt w4 ⟨rQ,EU,g,t',S4,rfl,rfl,h4,u4,Pj,q1,q2,q3,q4⟩ X hX;dsimp only;have h4d:=bF.dr h4;obtain⟨T,hT,_,_⟩:=(aZ.l h4d).put;refine aA rfl (aE (k:=.map) (some mb) hT.cells.2.2 (aA rfl (aE (k:=.i) t'.next hT.cells.2.1 ?_)))
 refine OQ (kn:=UB) SP kP (z:=(bD:Sl)) TI hT.map t'.next ?_
 obtain⟨_,hB4⟩:=hT.bods;refine aF (λhn=>?_) (λhy=>?_)
 ·refine hQ rQ EU true t' _ S4 (h4d.mono (λ_ h=>⟨mb,g,h⟩) λ_ h=>h) (u4.tr (Up.aN (bN w4))) Pj q1 aB q3 λe1 e2 e3=>?_
  rcases q4 e1 e2 with⟨_,e5,e6⟩|h
  ·have:t'.f t'.next=some bs:=by rw[e6,if_pos aB]
   have h7:=hB4.iff t'.next
   rw[this] at h7;rw[h7] at hn;cases hn
  ·exact h
 ·have hgs:(g t'.next).isSome=true:=by simpa using hy
  obtain⟨x6,hx6⟩:∃x6:Sl,g t'.next=some x6:=Ew.1 hgs
  have hfs6:(t'.f t'.next).isSome=true:=by rw[<-hB4.iff];exact hgs
  obtain⟨b6,hb6⟩:=Ew.1 hfs6;have rd6:=hB4.rd t'.next x6 b6 hx6 hb6
  have blk6:=hB4.lt t'.next x6
  have key6:=Pj.Lj _ _ hb6;have ex6:(g t'.next).getD (bD:Sl)=x6:=by rw[hx6];rfl
  rw[ex6];have kdd4:=bN w4.drew;have h4dd:=bF.kp h4d kdd4;have rd6d:=rd6.aK kdd4 fI λ_ _=>id;obtain⟨ST,SG,hTT,hGG,dTG,eTG⟩:=h4dd;refine aA rfl (aE (k:=.map) (some mb) hTT.cells.2.2 (aA rfl (aE (k:=.i) t'.next hTT.cells.2.1 ?_)))
  obtain⟨SB,SM,BA,Va,dBM,eBM⟩:=hTT;obtain⟨es,cl,Tx⟩:∃es c,w4.drew.drew.heap[mb]? =some (.map es c):=by
   obtain⟨S9,FR,hm,_⟩:=Va;obtain⟨es,c,l,h1,_⟩:=hm.1;exact⟨es,c,h1⟩
  refine Va.Uo Tx t'.next hgs λw6 j SM' h6 Pn hx6b m6 hmS6 _ _ _=>?_
  have hmbM:SM mb:=Pn _ hmS6;have mT:∀k,k=mb->SM k:=λk e=>by rw[e];exact hmbM
  have blkT:=bF.aK BA m6 λk hk e=>dBM k hk (mT k e);have gg6:=bF.aK hGG m6 λk hk e=>dTG k ((eBM k).2 (.inr (mT k e))) hk;have rx6:AX 1 eU x6 b6 w6 (rC x6):=by
   refine⟨rd6d.aK m6 fI λb hb e=>(hx6b x6 b hx6 hb).1 ?_,fI,λb hb=>?_,λ_=>Iff.rfl⟩
   ·rw[show b.block=mb from e];exact hmS6
   ·have:=blk6 b hx6 hb
    have:=m6.size;simpa using mD ‹b.block<w4.drew.heap.size› this
  have x6S:∀k,rC x6 k->SM k/\¬SM' k:=λk ⟨b,hb,e⟩=>by rw[e];exact⟨(hx6b x6 b hx6 hb).2,(hx6b x6 b hx6 hb).1⟩
  let t2:Uq:=⟨t'.cO,t'.next,λy=>if y=t'.next then none else t'.f y,t'.n-1⟩
  have oO:aZ (LU a mb (λy=>if y=t'.next then none else g y) t2) (aZ (VC rQ EU) (AX 1 eU x6 b6)) w6 (λk=>(SB k\/SM' k)\/(SG k\/rC x6 k)):=
   ⟨λk=>SB k\/SM' k,λk=>SG k\/rC x6 k,⟨SB,SM',blkT,h6,λk h1 h2=>dBM k h1 (Pn k h2),λ_=>Iff.rfl⟩,⟨SG,rC x6,gg6,rx6,λk h1 h2=>dTG k ((eBM k).2 (.inr (x6S k h2).1)) h1,λ_=>Iff.rfl⟩,
    λk h1 h2=>h2.elim (λh=>dTG k ((eBM k).2 (h1.imp id (Pn k))) h) λh=>h1.elim (λhb=>dBM k hb (x6S k h).1) λhm=>(x6S k h).2 hm,λ_=>Iff.rfl⟩
  have U6:Up S4 (λk=>(SB k\/SM' k)\/(SG k\/rC x6 k)) w4.drew.drew w6:=⟨m6.mono λk _ e=>(eTG k).2 (.inl ((eBM k).2 (.inr (mT k e)))),λk hk=>.inl ((eTG k).2 (by
   rcases hk with(h|h)|(h|h)
   ·exact .inl ((eBM k).2 (.inl h))
   ·exact .inl ((eBM k).2 (.inr (Pn k h)))
   ·exact .inr h
   ·exact .inl ((eBM k).2 (.inr (x6S k h).1))))⟩
  refine cC (cs:=[sv x6]) λw7 b7 k7 z7=>?_;have hall7:=bF.kp oO k7;obtain⟨SX,SY,hX1,⟨SV,SR,⟨ss,hV⟩,hR,dVR,eVR⟩,dXY,eXY⟩:=hall7;have hall7':aZ (LU a mb (λy=>if y=t'.next then none else g y) t2) (aZ (iU BP 1 eS rQ ss) (aZ (BN ss EU) (AX 1 eU x6 b6))) w7 (λk=>(SB k\/SM' k)\/(SG k\/rC x6 k)):=
   ⟨SX,SY,hX1,aZ.asr ⟨SV,SR,hV,hR,dVR,eVR⟩,dXY,eXY⟩
  have hssl:ss.length=EU.length:=by
   obtain⟨_,_,_,hL,_⟩:=hV;exact hL.1
  obtain⟨S8,hV8,_,MF⟩:=((aZ.r hall7').c λT hT=>aZ.l hT).put;refine DY (x:=⟨some ⟨w6.heap.size,0,none⟩,1,1⟩) NL Fq oneS1 hV8 (iV Fq [x6] b7 rfl dL) (by simp;omega) aB λs2 w8 S9 v9 u9=>?_;obtain⟨FR,IQ,Ef⟩:=MF _ w8 S9 u9 v9;obtain⟨Mw,hB11,_,Gi⟩:=((aZ.l IQ).c λT hT=>aZ.l hT).put;refine aA rfl (aE (k:=.i) t'.next (aO hB11 rfl) (aA rfl ?_))
  refine pA hB11 cU dL rfl rfl λw9 b9 u9'=>?_;obtain⟨XZ,Bx,Br⟩:=Gi _ w9 _ u9' b9;rw[gM (n:=t'.next+(1:Int)) (by have:=Pj.nx;omega) (by have:=Pj.nx;omega)] at Bx
  have hn0:0<t'.n:=by
   have hT':LU a mb g t' w4.drew T:=hT;obtain⟨ks,k1,k2,k3⟩:=hT'.map.Lj;rw[<-k2];exact List.length_pos_of_mem ((k3 _).2 hgs)
  refine hX (t'.n-1) _ _ aB ⟨s2,EU++[b6],_,⟨t'.cO,t'.next+1,λy=>if y=t'.next then none else t'.f y,t'.n-1⟩,XZ,rfl,rfl,Bx.mono (λ_ h=>h) (λ_ h=>⟨ss++[x6],h.mono (λ_ h=>h) λ_ h=>TQ h⟩),(u4.tr (Up.aN ((bN w4).tr kdd4))).tr (((U6.tr (Up.aN k7)).tr Ef).tr Br),⟨Pj.cO,by have:=Pj.nx;show 0<=t'.next+1/\t'.next+1<=4294967296;omega,λx b hx=>?_⟩,q1,by simp;omega,λb hb=>?_,λe1 e2=>.inr ?_⟩
  ·obtain⟨e1,e2⟩:=del_eq hx
   have:=Pj.Lj x b e2;show t'.next+1<=x/\x<t'.next+1+t'.cO/\_
   omega
  ·rcases jK.1 hb with hb|hb
   ·exact q3 b hb
   ·rw[uG.1 hb];exact key6.2.2.2
  ·rcases q4 e1 e2 with⟨e3,e4,e5⟩|⟨e3,e4,e5⟩
   ·have:t'.f t'.next=some bs:=by rw[e5,if_pos aB]
    rw[hb6] at this;cases this;refine⟨by rw[e3];rfl,by show t'.next+1=_;omega,λx=>?_⟩
    show(if x=t'.next then none else t'.f x)=none
    by_cases hx:x=t'.next
    ·rw[if_pos hx]
    ·rw[if_neg hx,e5,if_neg aB]
   ·rw[e5] at hb6;cases hb6
end
end
open Tryz (prog)
section
def uK(r:Sl)(gs:List gA):As:=Ex λxs:List GX=>Pr (xs.map (·.1)=gs) (aZ (iU GF 6 eG r xs) (BN (xs.map (·.2)) (xs.map (·.1.body))))
instance{r:Sl}{gs:List gA}:bF (uK r gs):=by unfold uK;infer_instance
theorem DX{wx:aH}:uK bD [] wx (λ_=>False):=⟨[],rfl,λ_=>False,λ_=>False,⟨dQ.nil _ _ _ _,λk=>⟨False.elim,λ⟨b,hb,_⟩=>by cases hb⟩⟩,⟨rfl,λi sl bs h=>by simp at h,λk h=>h.elim⟩,λ_ h _=>h,λk=>⟨.inl,λh=>h.elim id id⟩⟩
theorem aAa{ss ss':List Sl}{EU bss':List (List dA)}{w:aH}{S:BS}(h:aZ (BN ss EU) (BN ss' bss') w S):BN (ss++ss') (EU++bss') w S:=by
 have hb:=bF.gH h;obtain⟨S1,S2,h1,h2,d,e⟩:=h;refine⟨by simp[h1.1,h2.1],λi sl b hi hj=>?_,hb⟩
 by_cases cJ:i<ss.length
 ·rw[Ey cJ] at hi
  rw[Ey (by rw[<-h1.1];exact cJ)] at hj;exact⟨(h1.2.1 i sl b hi hj).1,λa ha=>(e _).2 (.inl ((h1.2.1 i sl b hi hj).2 a ha))⟩
 ·rw[Ez aB] at hi
  rw[Ez (by have:=h1.1;omega),<-h1.1] at hj;exact⟨(h2.2.1 _ sl b hi hj).1,λa ha=>(e _).2 (.inr ((h2.2.1 _ sl b hi hj).2 a ha))⟩
theorem Xi{r s:Sl}{gs:List gA}{g:gA}{w:aH}{S T:BS}{K:Sl->aH->Prop}(h:uK r gs w S)(hb:AX 1 eU s g.body w T)(hd:∀k,S k->T k->False)(hl:gs.length<=1000)
  (hK:∀r' w' S',uK r' (gs++[g]) w' S'->Up (λk=>S k\/T k) S' w w'->K r' w'):aG w (eG (g,s)).toArray GF λa w1=>aX prog Qt Qt r (.slice (some a) 1 1) w1 K:=by
 refine cC λw1 b1 k1 z1=>?_;obtain⟨xs,rfl,S1,S2,h1,h2,d,e⟩:=h;rw[oL] at hl;have hlr:aZ (BN (xs.map (·.2)) (xs.map (·.1.body))) (AX 1 eU s g.body) w (λk=>S2 k\/T k):=aZ.vR h2 hb λk a b=>hd k ((e k).2 (.inr a)) b;have oO:aZ (iU GF 6 eG r xs) (aZ (BN (xs.map (·.2)) (xs.map (·.1.body))) (AX 1 eU s g.body)) w (λk=>S k\/T k):=⟨S1,_,h1,hlr,λk a b=>b.elim (d k a) λb=>hd k ((e k).2 (.inl a)) b,λk=>by show S k\/T k↔_;rw[e k,or_assoc]⟩;obtain⟨S3,h3,_,dN⟩:=(aZ.l (bF.kp oO k1)).put;refine DY (x:=⟨some ⟨w.heap.size,0,none⟩,1,1⟩) Iu Uv Le h3 (iV Uv [(g,s)] b1 rfl dL) (by simp;omega) aB λr' w2 S4 v4 u4=>?_;obtain⟨S5,h5,u5⟩:=dN _ w2 S4 u4 v4;refine hK r' w2 S5 ⟨xs++[(g,s)],by simp,?_⟩ ((Up.aN k1).tr u5);have:=h5.mono (λ_ h=>h) λ_ h=>TQ h;simpa using this
structure lH where
 s:XY
 aP:Int
 t:Uq
 gU:List (List dA)
structure lH.Ok(c:lH):Prop where
 s:c.s.Ok
 t:c.t.Ok
 gU:c.gU.length<=64
 len:∀b∈c.gU,b.length<=70000
def Fk(sl:Sl)(l:List (List dA)):As:=Ex λss=>aZ (Qp BP 1 eS sl ss) (BN ss l)
instance{s:Sl}{EU:List (List dA)}:bF (Fk s EU):=by unfold Fk;infer_instance
def YP(a sp tp:Nat)(sl:Sl)(c:lH):As:=aZ (sB a oz [.pointer (some ⟨sp,0,none⟩),aD c.aP,.pointer (some ⟨tp,0,none⟩),sv sl]) (aZ (Fh tp c.t) (aZ (PW sp c.s) (Fk sl c.gU)))
instance{a sp tp:Nat}{sl:Sl}{c:lH}:bF (YP a sp tp sl c):=by unfold YP;infer_instance
def jQ(a:Nat)(c:lH):As:=Ex λsp:Nat=>Ex λtp:Nat=>Ex λsl:Sl=>YP a sp tp sl c
instance{a:Nat}{c:lH}:bF (jQ a c):=by unfold jQ;infer_instance
def lH.KR(c:lH)(x:Int):gA:=⟨c.aP,1,x,c.t.next,0,(c.s.f x).getD []⟩
def lH.UQ(s:XY)(aP nx:Int)(t:Uq):List (List dA)->List gA×lH
 | []=>([],⟨s,aP,t,[]⟩)
 |b::r=>if s.iH=false/\s.n<s.cO then((⟨aP,1,s.next,nx,0,b⟩:gA)::(UQ (s.send b) aP nx t r).1,(UQ (s.send b) aP nx t r).2) else([],⟨s,aP,t,b::r⟩)
def lH.nQ(c:lH):List gA×lH:=UQ c.s c.aP c.t.next c.t c.gU
section
variable{w:aH}{S:BS}{a sp tp:Nat}{sl:Sl}{c:lH}
theorem YP.cells(h:YP a sp tp sl c w S):w.cell? ((⟨a,0,none⟩:Addr).add 0)=some (.pointer (some ⟨sp,0,none⟩))/\w.cell? ((⟨a,0,none⟩:Addr).add 1)=some (aD c.aP)/\w.cell? ((⟨a,0,none⟩:Addr).add 2)=some (.pointer (some ⟨tp,0,none⟩))/\w.cell? ((⟨a,0,none⟩:Addr).add 3)=some (sv sl):=by
 obtain⟨S1,S2,h1,_⟩:=h;exact⟨aO h1 rfl,aO h1 rfl,aO h1 rfl,aO h1 rfl⟩
theorem YP.snd(h:YP a sp tp sl c w S):Us w S (PW sp c.s) λX=>aZ (sB a oz [.pointer (some ⟨sp,0,none⟩),aD c.aP,.pointer (some ⟨tp,0,none⟩),sv sl]) (aZ (Fh tp c.t) (aZ X (Fk sl c.gU))):=
 (aZ.r h).c λT hT=>(aZ.r hT).c λT hT=>aZ.l hT
theorem YP.tkr(h:YP a sp tp sl c w S):Us w S (Fh tp c.t) λX=>aZ (sB a oz [.pointer (some ⟨sp,0,none⟩),aD c.aP,.pointer (some ⟨tp,0,none⟩),sv sl]) (aZ X (aZ (PW sp c.s) (Fk sl c.gU))):=
 (aZ.r h).c λT hT=>aZ.l hT
theorem YP.so(h:YP a sp tp sl c w S):sl.l=c.gU.length:=by
 obtain⟨S1,S2,_,⟨S3,S4,_,⟨S5,S6,_,⟨ss,S7,S8,hv,hl,_⟩,_⟩,_⟩,_⟩:=h;rw[hv.1.len,hl.1]
theorem Sf{Q:Bool->aH->Prop}(h:jQ a c w S)(hQ:Q c.s.iH w):AQ (some ⟨a,0,none⟩) w Q:=by
 unfold AQ;obtain⟨sp,tp,sl,h⟩:=h;obtain⟨S1,⟨tb,mb,g,hs⟩,_,_⟩:=h.snd.put;exact aF (λh=>by simp at h) (λ_=>aA rfl (aE (k:=.ptr) (some ⟨sp,0,none⟩) h.cells.1 (Rk hs hQ)))
theorem data_i{x:Int}{Q:Int×Int×Int×Int×Int×Sl×Unit->aH->Prop}(h:jQ a c w S)(ok:c.Ok)(hQ:∀s w',AX 1 eU s (c.KR x).body w' (rC s)->(∀b,s.b=some b->w.heap.size<=b.block)->aM w w'->Q (IY (c.KR x,s)) w'):HZ (some ⟨a,0,none⟩) x w Q:=by
 unfold HZ;obtain⟨sp,tp,sl,h⟩:=h;refine cC (cs:=eG (⟨0,0,0,0,0,[]⟩,bD)) λw1 b1 k1 z1=>aA rfl ?_;have h1:=bF.kp h k1;refine aE (k:=.ptr) (some ⟨sp,0,none⟩) h1.cells.1 ?_;obtain⟨S1,hs,_,_⟩:=h1.snd.put;refine Body_i hs ok.s λr c2 w2 rd f2 k2=>?_;have k2d:=k2.tr (bN w2);have h2:=bF.kp h1 k2d;refine aA rfl (aE (k:=.i) c.aP h2.cells.2.1 (aA rfl (aE (k:=.ptr) (some ⟨tp,0,none⟩) h2.cells.2.2.1 ?_)));obtain⟨S2,ht,_,_⟩:=h2.tkr.put;refine uv ht ⟨h2.cells.2.1,?_⟩;have o2:=b1.1.aK k2d id;refine eO (vs:=eG (c.KR x,r)) o2 rJ rfl (Le _) λw4 o4 m4 _=>?_;refine bJ (l:=kG) (IY (c.KR x,r)) (o4.holds λj v hj=>by rw[pN];exact hj) ?_;have K:=k1.tr k2d;refine hQ r w4 (bF.aK (bF.kp rd (bN w2)) m4 λk ⟨b,hb,e⟩ e2=>?_) (λb hb=>by have:=f2 b hb;omega) (K.fresh m4 λk e=>by rw[show k=w.heap.size from e];exact iT _);have:=f2 b hb;omega
theorem owd_tail{b:List dA}{r:List (List dA)}(h:Fk sl (b::r) w S):∃S',Fk ⟨aR sl.b sl.c 1 1,sl.l-1,sl.c-1⟩ r w S'/\(∀k,S' k->S k):=by
 obtain⟨ss,S1,S2,hv,hl,d,e⟩:=h;cases ss with
 |nil=>have:=hl.1;simp at this
 |cons x ss=>
  have kF:=hv.1.tail Fq
  let s':Sl:=⟨aR sl.b sl.c 1 1,sl.l-1,sl.c-1⟩
  have yT:∀k,(s'.c≠0/\∃b,s'.b=some b/\k=b.block)->S1 k:=λk ⟨hc,b,hb,e⟩=>by
   obtain⟨a0,nq,e2⟩:=Om hb;have Ua:sl.c-1≠0:=hc;exact(hv.2 k).2 ⟨aB,a0,nq,by rw[e,e2]⟩
  refine⟨λk=>(s'.c≠0/\∃b,s'.b=some b/\k=b.block)\/S2 k,⟨ss,_,S2,⟨kF,λ_=>Iff.rfl⟩,⟨by have:=hl.1;simpa using this,λi sl bs h1 h2=>hl.2.1 (i+1) sl bs (by simpa using h1) (by simpa using h2),hl.2.2⟩,λk h1 h2=>d k (yT k h1) h2,λ_=>Iff.rfl⟩,λk hk=>(e k).2 (hk.imp (yT k) id)⟩
theorem Qy{dO:Int}{Q:Sl->aH->Prop}(h:jQ a c w S)(ok:c.Ok)(hQ:∀r w' S',aZ (jQ a c.nQ.2) (uK r c.nQ.1) w' S'->Up S S' w w'->c.nQ.2.Ok->Q r w'):wS (some ⟨a,0,none⟩) dO w Q:=by
 unfold wS;refine bO (λn t w1=>∃(r:Sl) (gs:List gA) (c1:lH) (S1:BS),n=c1.gU.length/\t=(r,())/\aZ (jQ a c1) (uK r gs) w1 S1/\Up S S1 w w1/\c1.Ok/\gs.length+c1.gU.length<=64/\c.nQ=(gs++c1.nQ.1,c1.nQ.2)) c.gU.length
  ⟨bD,[],c,S,rfl,rfl,aZ.oP h DX,Up.refl _ _,ok,by have:=ok.gU;simp;omega,by simp⟩ ?_
 rintro n t w1 ⟨r,gs,c1,S1,rfl,rfl,h1,u1,QB,Ke,hp⟩ X hX;dsimp only;have dR:c1.nQ=([],c1)->∀w2,aM w1 w2->Q r w2:=λe w2 k2=>by
  rw[e] at hp;simp only[tD] at hp;rw[hp] at hQ;exact hQ r w2 S1 (bF.kp h1 k2) (u1.tr (Up.aN k2)) QB
 obtain⟨SC,SG,⟨sp,tp,sl,hc⟩,hg,dCG,eCG⟩:=h1;have hol:=hc.so;refine aA rfl (aE (k:=.slice) sl hc.cells.2.2.2 (aJ (λhgt=>?_) (λIN=>dR ?_ w1 (aW.refl _ _))))
 ·obtain⟨st,aP,tk,gU⟩:=c1
  cases gU with
  |nil=>simp at hol;omega
  |cons b dE=>
   refine aA rfl (aE (k:=.ptr) (some ⟨sp,0,none⟩) hc.cells.1 ?_);obtain⟨SS,⟨tb,mb,g,hs⟩,_,_⟩:=hc.snd.put;refine Room_i hs QB.s λw2 k2=>?_;have DO:=QB.s.yR;refine aJ (λhx=>?_) (λhx=>dR ?_ w2 k2)
   ·have hcan:st.iH=false/\st.n<st.cO:=by
     cases ho:st.iH with
     |true=>simp[ho] at hx
     |false=>
      simp only[ho,Bool.false_eq_true,if_false] at hx;have:st.n<=st.cO:=DO;exact⟨rfl,aB⟩
    have kd:=k2.tr (bN w2);have hcd:=bF.kp hc kd;have Kh:=bF.kp hg kd;refine aA rfl (aE (k:=.ptr) (some ⟨sp,0,none⟩) hcd.cells.1 (aA rfl (aE (k:=.slice) sl hcd.cells.2.2.2 ⟨⟨aB,aB⟩,?_⟩)));obtain⟨SO,hso,_,dN⟩:=((aZ.r hcd).c λT hT=>aZ.r hT).put;obtain⟨Sx,Sy,hsA,hoA,dxy,exy⟩:=hso;have hoA2:=hoA;obtain⟨ss,S7,S8,hv,hL,_,Km⟩:=hoA;cases ss with
    |nil=>have:=hL.1;simp at this
    |cons s3 ss=>
     obtain⟨q,hq,tQ⟩:=cF (k:=.slice) (e:=λs:Sl=>s) (hv.1.rd Fq) (show(s3::ss)[0]? =some s3 from rfl);refine aA hq (aE (k:=.slice) s3 tQ ?_);obtain⟨rd3,bl3⟩:=hL.2.1 0 s3 b rfl rfl;have fU:b.length<=70000:=QB.len b dL;have out3:AY s3 Sx w2.drew:=λbb LH=>⟨λhs=>dxy _ hs ((Km _).2 (.inr (bl3 bb LH))),hL.2.2 _ (bl3 bb LH)⟩;refine Send_i hsA QB.s rd3 out3 fU hcan.1 hcan.2 λw3 S3 h3 u3=>?_;have bo:=bF.gH hoA2;have hoA3:=bF.aK hoA2 u3.m λk hk lD=>dxy k lD hk;obtain⟨S9,ho9,hs9⟩:=owd_tail hoA3;have dd:=u3.ft dxy bo
     let LF:Sl:=⟨aR sl.b sl.c 1 1,sl.l-1,sl.c-1⟩
     have IQ:aZ (PW sp (st.send b)) (Fk LF dE) w3 (λk=>S3 k\/S9 k):=aZ.vR h3 ho9 λk h1 h2=>dd k h1 (hs9 k h2);obtain⟨FR,hc10,Ef⟩:=dN _ w3 _ ⟨u3.m.mono λk _ hk=>(exy k).2 (.inl hk),λk hk=>hk.elim (λh=>(u3.s k h).imp (λh=>(exy k).2 (.inl h)) id) λh=>.inl ((exy k).2 (.inr (hs9 k h)))⟩ IQ;obtain⟨SB,hB,_,backB⟩:=(aZ.l hc10).put;refine aA rfl (aE (k:=.slice) sl (aO hB rfl) ⟨⟨aB,aB⟩,aA rfl ?_⟩);refine pA (v:=sv LF) hB iA dL rfl rfl λw4 b4 u4=>?_;obtain⟨Mw,hc11,Ko⟩:=backB _ w4 _ u4 b4
     let c2:lH:=⟨st.send b,aP,tk,dE⟩
     have RP:jQ a c2 w4 Mw:=⟨sp,tp,LF,hc11⟩;have cz:c2.Ok:=⟨QB.s.send hcan.2 fU,QB.t,by have:=QB.gU;simp at this;show dE.length<=64;omega,λx hx=>QB.len x (by simp[show x∈dE from hx])⟩;have U4:Up SC Mw w2.drew w4:=Ef.tr Ko;have bg:=bF.gH Kh;have hg4:=bF.aK Kh U4.m λk hk lD=>dCG k lD hk;have d4:=U4.ft dCG bg;refine data_i RP cz λs5 w5 Cz f5 k5=>?_;have hdat:c2.KR st.next=⟨aP,1,st.next,tk.next,0,b⟩:=by
      show(⟨aP,1,st.next,tk.next,0,((if st.next=st.next then some b else st.f st.next)).getD []⟩:gA)=_
      rw[if_pos rfl];rfl
     rw[hdat] at Cz ⊢;have hc5:=bF.kp RP k5;have hg5:=bF.kp hg4 k5;have bc4:=bF.gH RP;have bg4:=bF.gH hg4;have oO:aZ (jQ a c2) (aZ (uK r gs) (AX 1 eU s5 b)) w5 (λk=>Mw k\/(SG k\/rC s5 k)):=
      aZ.vR hc5 (aZ.vR hg5 Cz λk h1 ⟨bb,LH,e⟩=>by have:=bg4 k h1;have:=f5 bb LH;omega) λk h1 h2=>h2.elim (d4 k h1) λ⟨bb,LH,e⟩=>by have:=bc4 k h1;have:=f5 bb LH;omega
     obtain⟨XZ,hgr,_,TH⟩:=(aZ.r oO).put;obtain⟨S13,S14,hg13,hr14,d13,e13⟩:=hgr;refine Xi (g:=⟨aP,1,st.next,tk.next,0,b⟩) hg13 hr14 d13 aB λr' w7 S' hg7 u7=>?_
     obtain⟨S15,h15,u15⟩:=TH _ w7 S' ⟨u7.m.mono λk _ hk=>(e13 k).2 hk,λk hk=>(u7.s k hk).imp (λh=>(e13 k).2 h) id⟩ hg7;have Uall:Up S1 S15 w1 w7:=by
      have m4:Up S1 (λk=>Mw k\/SG k) w1 w4:=(Up.aN (S:=S1) kd).tr ⟨U4.m.mono λk _ hk=>(eCG k).2 (.inl hk),λk hk=>hk.elim (λh=>(U4.s k h).imp (λh=>(eCG k).2 (.inl h)) id) λh=>.inl ((eCG k).2 (.inr h))⟩;refine m4.tr ⟨k5.wk.trans u15.m λk hk h=>?_,λk hk=>?_⟩
      ·rcases h with h|h|⟨bb,LH,e⟩
       ·exact .inl h
       ·exact .inr h
       ·have:=f5 bb LH;omega
      ·rcases u15.s k hk with(h|h|⟨bb,LH,e⟩)|h
       ·exact .inl (.inl h)
       ·exact .inl (.inr h)
       ·exact .inr (by rw[e];exact f5 bb LH)
       ·exact .inr (iF k5.size h)
     have hpay:(⟨st,aP,tk,b::dE⟩:lH).nQ=((⟨aP,1,st.next,tk.next,0,b⟩:gA)::c2.nQ.1,c2.nQ.2):=by
      show lH.UQ st aP tk.next tk (b::dE)=_
      rw[lH.UQ,if_pos hcan];rfl
     refine hX dE.length _ _ dL ⟨r',gs++[⟨aP,1,st.next,tk.next,0,b⟩],c2,S15,rfl,rfl,h15,u1.tr Uall,cz,by simp at Ke;show _+dE.length<=64;simp;omega,?_⟩
     rw[hp,hpay];simp
   ·show lH.UQ st aP tk.next tk (b::dE)=_
    rw[lH.UQ,if_neg λhh=>?_];have:=hh.2;simp only[hh.1,Bool.false_eq_true,if_false] at hx;omega
 ·obtain⟨st,aP,tk,gU⟩:=c1
  cases gU with
  |nil=>rfl
  |cons b dE=>simp at hol;omega
end
end
section
theorem Rv{r0 r:Sl}{gs0 gs:List gA}{w:aH}{S0 S:BS}{K:Sl->aH->Prop}(h0:uK r0 gs0 w S0)(h:uK r gs w S)(hd:∀k,S0 k->S k->False)(hl:gs0.length+gs.length<=1000)
  (hK:∀r' w' S',uK r' (gs0++gs) w' S'->Up (λk=>S0 k\/S k) S' w w'->K r' w'):aX prog Qt Qt r0 (.slice r.b r.l r.c) w K:=by
 obtain⟨xs0,rfl,S1,S2,h1,h2,d,e⟩:=h0;obtain⟨xs,rfl,S3,S4,h3,h4,d',e'⟩:=h;rw[oL,oL] at hl;have oO:aZ (iU GF 6 eG r0 xs0) (aZ (BN (xs0.map (·.2)) (xs0.map (·.1.body))) (BN (xs.map (·.2)) (xs.map (·.1.body)))) w (λk=>S1 k\/(S2 k\/S4 k)):=
  aZ.vR h1 (aZ.vR h2 h4 λk a b=>hd k ((e k).2 (.inr a)) ((e' k).2 (.inr b))) λk a b=>b.elim (d k a) λb=>hd k ((e k).2 (.inl a)) ((e' k).2 (.inr b))
 obtain⟨S5,h5,_,dN⟩:=(aZ.l oO).put;refine DY Iu Uv Le h5 (h3.1.rd Uv) aB aB λr' w2 S6 v6 u6=>?_;obtain⟨S7,h7,u7⟩:=dN _ w2 S6 u6 v6;refine hK r' w2 S7 ⟨xs0++xs,by simp,?_⟩ ⟨u7.m.mono λk _ hk=>?_,λk hk=>(u7.s k hk).imp (λhk=>?_) id⟩
 ·have:=h7.mono (λ_ h=>h) λ_ h=>aAa h
  simpa using this
 ·rcases hk with hk|hk|hk
  ·exact .inl ((e k).2 (.inl hk))
  ·exact .inl ((e k).2 (.inr hk))
  ·exact .inr ((e' k).2 (.inr hk))
 ·rcases hk with hk|hk|hk
  ·exact .inl ((e k).2 (.inl hk))
  ·exact .inl ((e k).2 (.inr hk))
  ·exact .inr ((e' k).2 (.inr hk))
def lH.push(c:lH)(bs:List dA):List gA×lH×Int:=
 if c.s.iH then([],c,6) else if 64<=c.gU.length then([],c,5) else(({c with gU:=c.gU++[bs]}:lH).nQ.1,({c with gU:=c.gU++[bs]}:lH).nQ.2,0)
structure TakeR(t:Uq)(seq:Int)(bs:List dA)(rQ:List (List dA))(t':Uq):Prop where
 ok:t'.Ok
 cO:t'.cO=t.cO
 len:rQ.length<=20
 lens:∀b∈rQ,b.length<=5000
 one:(∀x,t.f x=none)->seq=t.next->0<t.cO->rQ=[bs]/\t'.next=t.next+1/\∀x,t'.f x=none
def VJ(c:lH)(g:gA)(rQ:List (List dA))(gs:List gA)(c':lH):Prop:=
 if c.s.iH=true\/g.aP≠c.aP\/(g.kind≠1/\g.kind≠2) then rQ=[]/\gs=[]/\c'=c
 else∃s1,AckR c.s g.LI s1/\s1.Ok/\if g.kind=1 then∃t1,TakeR c.t g.seq g.body rQ t1/\gs=⟨c.aP,2,0,t1.next,0,[]⟩::(⟨s1,c.aP,t1,c.gU⟩:lH).nQ.1/\c'=(⟨s1,c.aP,t1,c.gU⟩:lH).nQ.2
  else rQ=[]/\gs=(⟨s1,c.aP,c.t,c.gU⟩:lH).nQ.1/\c'=(⟨s1,c.aP,c.t,c.gU⟩:lH).nQ.2
theorem Gw{aP nx:Int}{t:Uq}:∀{l:List (List dA)} {s:XY},(lH.UQ s aP nx t l).1.length<=l.length
 | [],s=>iT _
 |b::r,s=>by
  rw[lH.UQ]
  split
  ·have:=Gw (aP:=aP) (nx:=nx) (t:=t) (l:=r) (s:=s.send b)
   simp only[nU];omega
  ·exact iG _
section
variable{w:aH}{S:BS}{a sp tp:Nat}{sl:Sl}{c:lH}
theorem vf{dO:Int}{body:Sl}{bs:List dA}{Q:Sl->Int->aH->Prop}(h:jQ a c w S)(ok:c.Ok)(hb:Rd w body 1 eU bs)(hl:bs.length<=70000)
  (hQ:∀r w' S',aZ (jQ a (c.push bs).2.1) (uK r (c.push bs).1) w' S'->Up S S' w w'->(c.push bs).2.1.Ok->Q r (c.push bs).2.2 w'):IA (some ⟨a,0,none⟩) dO body w Q:=by
 unfold IA;refine Sf h (aF (λho=>?_) (λho=>?_))
 ·have e:c.push bs=([],c,6):=by unfold lH.push;rw[if_pos ho]
  rw[e] at hQ;exact hQ _ w S (aZ.oP h DX) (Up.refl _ _) ok
 have ho':¬c.s.iH=true:=by rw[ho];simp
 obtain⟨sp,tp,sl,h⟩:=h;have hol:=h.so;refine aA rfl (aE (k:=.slice) sl h.cells.2.2.2 (aJ (λkT=>?_) (λcJ=>?_)))
 ·have e:c.push bs=([],c,5):=by unfold lH.push;rw[if_neg ho',if_pos aB]
  rw[e] at hQ;exact hQ _ w S (aZ.oP ⟨sp,tp,sl,h⟩ DX) (Up.refl _ _) ok
 have e:c.push bs=(({c with gU:=c.gU++[bs]}:lH).nQ.1,({c with gU:=c.gU++[bs]}:lH).nQ.2,0):=by unfold lH.push;rw[if_neg ho',if_neg aB]
 rw[e] at hQ;have hd:=bF.dr h;refine aA rfl (aE (k:=.slice) sl hd.cells.2.2.2 ?_);refine vD (hb.aK (bN w) fI λ_ _=>id) aB λr w2 S2 _ k2 _ Ph f2=>⟨(bF.kp hd k2).cells.2.2.2,?_⟩;refine cC (cs:=[sv r]) λw3 b3 k3 z3=>?_;have k23:=k2.tr k3;have h3:=bF.kp hd k23;refine⟨h3.cells.2.2.2,?_⟩;have bd:=bF.gH hd;obtain⟨SB,SR,BA,⟨ST,SQ,rV,⟨SS,SO,hsn,⟨ss,S7,S8,hv,hL,d78,Km⟩,dSO,eSO⟩,dT,eT⟩,dB,eB⟩:=h3;have rd3:=bF.kp Ph k3;have hr:∀k,rC r k->¬S k:=λk ⟨b,hb,e⟩ hs=>by have:=bd k hs;have:=f2 b hb;omega
 have inS:∀k,S7 k\/S8 k->S k:=λk hk=>(eB k).2 (.inr ((eT k).2 (.inr ((eSO k).2 (.inr ((Km k).2 hk))))));have hol2:ss.length=c.gU.length:=hL.1;have hLR:aZ (Qp BP 1 eS sl ss) (aZ (BN ss c.gU) (AX 1 eU r bs)) w3 (λk=>S7 k\/(S8 k\/rC r k)):=aZ.vR hv (aZ.vR hL rd3 λk a b=>hr k b (inS k (.inr a))) λk a b=>b.elim (d78 k a) λb=>hr k b (inS k (.inl a));obtain⟨S9,h9,_,Ar⟩:=(aZ.l hLR).put;refine um (x:=⟨some ⟨w2.heap.size,0,none⟩,1,1⟩) NL Fq oneS1 h9 (iV Fq [r] b3 rfl dL) (by simp;omega) aB λs4 w4 FR v10 Ef=>?_;obtain⟨Mw,Kk,Ko⟩:=Ar _ w4 FR Ef v10;have hOw:Fk s4 (c.gU++[bs]) w4 Mw:=⟨ss++[r],Kk.mono (λ_ h=>h) λ_ h=>TQ h⟩;have apart:∀k,(SB k\/ST k\/SS k)->¬(S7 k\/(S8 k\/rC r k)):=λk hk h=>by
  have hso:SO k->False:=λho=>by
   rcases hk with hk|hk|hk
   ·exact dB k hk ((eT k).2 (.inr ((eSO k).2 (.inr ho))))
   ·exact dT k hk ((eSO k).2 (.inr ho))
   ·exact dSO k hk ho
  have hS:S k:=(eB k).2 (by
   rcases hk with hk|hk|hk
   ·exact .inl hk
   ·exact .inr ((eT k).2 (.inl hk))
   ·exact .inr ((eT k).2 (.inr ((eSO k).2 (.inl hk)))))
  rcases h with h|h|h
  ·exact hso ((Km k).2 (.inl h))
  ·exact hso ((Km k).2 (.inr h))
  ·exact hr k h hS
 have bB:=bF.gH BA;have bT:=bF.gH rV;have bS:=bF.gH hsn;have blk4:=bF.aK BA Ko.m λk hk h=>apart k (.inl hk) h;have tk4:=bF.aK rV Ko.m λk hk h=>apart k (.inr (.inl hk)) h;have sn4:=bF.aK hsn Ko.m λk hk h=>apart k (.inr (.inr hk)) h;have dd:∀k,(SB k\/ST k\/SS k)->Mw k->False:=λk hk h=>(Ko.s k h).elim (apart k hk) λh=>by
  rcases hk with hk|hk|hk
  ·have:=bB k hk;omega
  ·have:=bT k hk;omega
  ·have:=bS k hk;omega
 refine aA rfl ?_;have h4:aZ (sB a oz [.pointer (some ⟨sp,0,none⟩),aD c.aP,.pointer (some ⟨tp,0,none⟩),sv sl]) (aZ (Fh tp c.t) (aZ (PW sp c.s) (Fk s4 (c.gU++[bs])))) w4 (λk=>SB k\/(ST k\/(SS k\/Mw k))):=
  aZ.vR blk4 (aZ.vR tk4 (aZ.vR sn4 hOw λk h1 h2=>dd k (.inr (.inr h1)) h2) λk h1 h2=>h2.elim (λh=>dT k h1 ((eSO k).2 (.inl h))) λh=>dd k (.inr (.inl h1)) h) λk h1 h2=>by
   rcases h2 with h2|h2|h2
   ·exact dB k h1 ((eT k).2 (.inl h2))
   ·exact dB k h1 ((eT k).2 (.inr ((eSO k).2 (.inl h2))))
   ·exact dd k (.inl h1) h2
 have U4:Up S (λk=>SB k\/(ST k\/(SS k\/Mw k))) w w4:=by
  have K:=(bN w).tr k23;refine⟨K.wk.trans Ko.m λk hk h=>?_,λk hk=>?_⟩
  ·rcases h with h|h|⟨b,hb,e⟩
   ·exact inS k (.inl h)
   ·exact inS k (.inr h)
   ·have:=f2 b hb;simp at this;omega
  ·rcases hk with h|h|h|h
   ·exact .inl ((eB k).2 (.inl h))
   ·exact .inl ((eB k).2 (.inr ((eT k).2 (.inl h))))
   ·exact .inl ((eB k).2 (.inr ((eT k).2 (.inr ((eSO k).2 (.inl h))))))
   ·rcases Ko.s k h with(h|h|⟨b,hb,e⟩)|h
    ·exact .inl (inS k (.inl h))
    ·exact .inl (inS k (.inr h))
    ·have:=f2 b hb;simp at this;exact .inr aB
    ·exact .inr (iF K.size h)
 obtain⟨XZ,Bx,_,TH⟩:=(aZ.l h4).put;refine pA (v:=sv s4) Bx iA dL rfl rfl λw5 b5 u5=>?_;obtain⟨S13,cj,u13⟩:=TH _ w5 _ u5 b5;have hc5:jQ a {c with gU:=c.gU++[bs]} w5 S13:=⟨sp,tp,s4,cj⟩;have LK:({c with gU:=c.gU++[bs]}:lH).Ok:=⟨ok.s,ok.t,by show(c.gU++[bs]).length<=64;simp;omega,λb hb=>by
  rcases jK.1 hb with hb|hb
  ·exact ok.len b hb
  ·rw[uG.1 hb];exact hl⟩
 exact Qy hc5 LK λr5 w6 S6 h6 u6 Ts=>hQ r5 w6 S6 h6 ((U4.tr u13).tr u6) Ts
theorem Si{dO:Int}{g:gA}{ck:Sl}{Q:Sl->Sl->aH->Prop}(h:jQ a c w S)(ok:c.Ok)(hnx:c.s.next<=1000000000000000)(hg:Rd w ck 1 eU g.body)(ho:AY ck S w)(hl:g.body.length<=5000)(hs:u32 g.seq)
  (hQ:∀YJ EU r gs c' w' S',aZ (jQ a c') (aZ (VC YJ EU) (uK r gs)) w' S'->Up S S' w w'->VJ c g EU gs c'->c'.Ok->Q YJ r w'):AR (some ⟨a,0,none⟩) dO (IY (g,ck)) w Q:=by
 unfold AR;refine cC (cs:=eG (g,ck)) λw1 b1 k1 z1=>?_;have K:=k1.tr (bN w1);have hd:=bF.kp h K;have od:=b1.1.aK (bN w1) id;have bd:=bF.gH h;have no:(c.s.iH=true\/g.aP≠c.aP\/(g.kind≠1/\g.kind≠2))->Q bD bD w1.drew:=λhh=>
  hQ _ [] _ [] c _ S (aZ.oP hd (aZ.oP Dz DX)) (Up.aN K) (by unfold VJ;rw[if_pos hh];exact⟨rfl,rfl,rfl⟩) ok
 intro J1 KJ;have sF:¬(c.s.iH=true\/g.aP≠c.aP\/(g.kind≠1/\g.kind≠2))->J1 (bD,bD,()) w1.drew:=by
  intro vU;apply KJ;obtain⟨sp,tp,sl,hc⟩:=hd;have kd2:=bN w1.drew;have RP:=bF.kp hc kd2;have od2:=od.aK kd2 id;have K2:=K.tr kd2;refine aA rfl (aE (k:=.ptr) (some ⟨sp,0,none⟩) RP.cells.1 (aE (k:=.i) g.LI (cM od2 rfl) ?_));obtain⟨S3,Bw,hS3,VH⟩:=RP.snd.put;refine Acked_i Bw ok.s hnx λ_ s1 w3 S4 h4 u4 hA Pj=>?_;obtain⟨S5,h5,u5⟩:=VH _ w3 S4 u4 h4;have nn:¬S w.heap.size:=λhk=>by have:=bd _ hk;omega
  have o3:=od2.aK u4.m λhk=>nn (hS3 _ hk)
  let c1:lH:=⟨s1,c.aP,c.t,c.gU⟩
  have QB:c1.Ok:=⟨Pj,ok.t,ok.gU,ok.len⟩;have hc3:YP a sp tp sl c1 w3 S5:=h5;have U3:Up S S5 w w3:=(Up.aN K2).tr u5;have nk:∀(cc:lH),cc.gU=c.gU->cc.nQ.1.length<=64:=λcc e=>by
   have e2:cc.gU.length<=64:=by rw[e];exact ok.gU
   exact iF Gw e2
  refine aE (k:=.i) g.kind (cM o3 rfl) (aF (λhk=>?_) (λhk=>?_))
  ·have QD:g.kind=1:=by simpa using hk
   have kd3:=bN w3;have hc3d:=bF.kp hc3 kd3;have Ks:=o3.aK kd3 id;refine aA rfl (aE (k:=.ptr) (some ⟨tp,0,none⟩) hc3d.cells.2.2.1 (aE (k:=.i) g.seq (cM Ks rfl) (aE (k:=.slice) ck (cM Ks rfl) ?_)));obtain⟨S6,ht6,hS6,xU⟩:=hc3d.tkr;have U3d:Up S S5 w w3.drew:=U3.tr (Up.aN kd3);have wv:=ho.rd U3d hg fI;have ho3:=ho.up U3d;refine Take_i ht6 ok.t hs wv (λb hb=>⟨λhk=>(ho3 b hb).1 (hS6 _ hk),(ho3 b hb).2⟩) hl λrQ EU _ t1 w4 S7 h7 u7 q1 q2 q3 q4 q5=>?_;obtain⟨S8,h8,u8⟩:=xU (Fh tp t1) (VC rQ EU) w4 S7 u7 h7
   let c2:lH:=⟨s1,c.aP,t1,c.gU⟩
   have cz:c2.Ok:=⟨Pj,q1,ok.gU,ok.len⟩;have h8':aZ (YP a sp tp sl c2) (VC rQ EU) w4 S8:=h8;have kd4:=bN w4;have h8d:=bF.kp h8' kd4;obtain⟨S9,hc9,_,_⟩:=(aZ.l h8d).put;refine aA rfl (aE (k:=.i) c.aP hc9.cells.2.1 (aA rfl (aE (k:=.ptr) (some ⟨tp,0,none⟩) hc9.cells.2.2.1 ?_)));obtain⟨FR,ht10,_,_⟩:=hc9.tkr.put;refine uv ht10 ⟨hc9.cells.2.1,?_⟩
   let ag:gA:=⟨c.aP,2,0,t1.next,0,[]⟩
   refine cC (cs:=eG (ag,bD)) λw6 b6 k6 z6=>?_;have bw4:=bF.gH h8d;have h6:aZ (jQ a c2) (VC rQ EU) w6 S8:=(bF.kp h8d k6).mono (λ_ h=>⟨sp,tp,sl,h⟩) λ_ h=>h;have Pp:uK ⟨some ⟨w4.drew.heap.size,0,none⟩,1,1⟩ [ag] w6 (λk=>k=w4.drew.heap.size\/False):=
    ⟨[(ag,bD)],rfl,aZ.vR ⟨dQ.new Uv [(ag,bD)] (by simpa using b6.1) (by simp[maxLen]),λk=>⟨λe=>⟨_,rfl,e⟩,λ⟨b,hb,e⟩=>by cases hb;exact e⟩⟩ ⟨rfl,λi sl bs h1 h2=>by
     cases i with
     |succ n=>simp at h1
     |zero=>cases h1;cases h2;exact⟨Rd.nil _ _ _,λb hb=>by cases hb⟩,λk h=>h.elim⟩ λ_ _ h=>h⟩
   have h6a:aZ (aZ (jQ a c2) (VC rQ EU)) (uK ⟨some ⟨w4.drew.heap.size,0,none⟩,1,1⟩ [ag]) w6 (λk=>S8 k\/(k=w4.drew.heap.size\/False)):=aZ.vR h6 Pp λk h1 h2=>h2.elim (λe=>by have:=bw4 k h1;omega) id;obtain⟨Mw,hc11,_,Gi⟩:=(aZ.l h6a).c λT hT=>aZ.l hT;refine Qy hc11 cz λr w7 XZ Bx Br cy=>?_;obtain⟨S13,cj,u13⟩:=Gi (jQ a c2.nQ.2) (uK r c2.nQ.1) w7 XZ Br Bx;have h13':aZ (aZ (jQ a c2.nQ.2) (VC rQ EU)) (aZ (uK ⟨some ⟨w4.drew.heap.size,0,none⟩,1,1⟩ [ag]) (uK r c2.nQ.1)) w7 S13:=cj.asr;obtain⟨S14,h14,_,jd⟩:=(aZ.r h13').put;obtain⟨S15,S16,g15,g16,d15,e15⟩:=h14;refine Rv g15 g16 d15 (by have:=nk c2 rfl;simp;omega) λr' w8 S17 g17 u17=>?_;obtain⟨Ue,xj,u18⟩:=jd _ w8 S17 ⟨u17.m.mono λk _ hk=>(e15 k).2 hk,λk hk=>(u17.s k hk).imp (λh=>(e15 k).2 h) id⟩ g17;have U6:Up S5 (λk=>S8 k\/(k=w4.drew.heap.size\/False)) w3.drew w6:=by
    have:=(u8.tr (Up.aN kd4)).tr (Up.aN k6);refine⟨this.m,λk hk=>hk.elim (this.s k) λh=>h.elim (λe=>.inr ?_) False.elim⟩;have:=u8.m.size;have e4:w4.drew.heap.size=w4.heap.size:=rfl;omega
   refine hQ rQ EU r' (ag::c2.nQ.1) c2.nQ.2 w8 Ue xj.asr (U3d.tr ((U6.tr u13).tr u18)) ?_ cy;unfold VJ;rw[if_neg vU];refine⟨s1,hA,Pj,?_⟩;rw[if_pos QD];exact⟨t1,⟨q1,q2,q3,q4,q5⟩,rfl,rfl⟩
  ·have QD:¬g.kind=1:=by simpa using hk
   have hc3':jQ a c1 w3 S5:=⟨sp,tp,sl,hc3⟩;refine Qy hc3' QB λr w7 XZ Bx Br cy=>?_;have cj:aZ (jQ a c1.nQ.2) (aZ (uK bD []) (uK r c1.nQ.1)) w7 XZ:=Bx.mono (λ_ h=>h) λ_ h=>(aZ.oP h DX).cm;obtain⟨S14,h14,_,jd⟩:=(aZ.r cj).put;obtain⟨S15,S16,g15,g16,d15,e15⟩:=h14;refine Rv g15 g16 d15 (by have:=nk c1 rfl;simp;omega) λr' w8 S17 g17 u17=>?_;obtain⟨Ue,xj,u18⟩:=jd _ w8 S17 ⟨u17.m.mono λk _ hk=>(e15 k).2 hk,λk hk=>(u17.s k hk).imp (λh=>(e15 k).2 h) id⟩ g17;refine hQ bD [] r' _ c1.nQ.2 w8 Ue (xj.mono (λ_ h=>h) λ_ h=>(aZ.oP h Dz).cm) (U3.tr (Br.tr u18)) ?_ cy;unfold VJ;rw[if_neg vU];refine⟨s1,hA,Pj,?_⟩;rw[if_neg QD];exact⟨rfl,rfl,rfl⟩
 refine Sf hd (aF (λKc=>no (.inl Kc)) (λKc=>?_));have hov':¬c.s.iH=true:=by rw[Kc];simp
 have hd2:=hd;obtain⟨sp,tp,sl,hc⟩:=hd2;refine aE (k:=.i) g.aP (cM od rfl) (aA rfl (aE (k:=.i) c.aP hc.cells.2.1 (aF (λgF=>no (.inr (.inl (by simpa using gF)))) (λheq=>?_))));have heq':g.aP=c.aP:=by simpa using heq
 refine aE (k:=.i) g.kind (cM od rfl) (aF (λhk=>aE (k:=.i) g.kind (cM od rfl) (aF (λDI=>no (.inr (.inr ⟨by simpa using hk,by simpa using DI⟩))) (λDI=>sF λhh=>?_))) (λhk=>sF λhh=>?_))
 ·have:g.kind=2:=by simpa using DI
  rcases hh with h|h|h
  ·exact hov' h
  ·exact h heq'
  ·exact h.2 this
 ·have:g.kind=1:=by simpa using hk
  rcases hh with h|h|h
  ·exact hov' h
  ·exact h heq'
  ·exact h.1 this
end
end
structure yX where
 kV:Nat
 cO:Nat
 LY:Int
 nF:Int
 cap:Int
 idle:Int
structure yX.Ok(c:yX):Prop where
 kV:1<=c.kV/\c.kV<=16
 cO:1<=c.cO/\c.cO<=16
 LY:0<=c.LY/\c.LY<=20
 nF:1<=c.nF/\c.nF<=1000
 cap:c.nF<=c.cap/\c.cap<=1000
 idle:1<=c.idle/\c.idle<=1000
abbrev CW(c:yX):List Value:=[aD (c.kV:Int),aD (c.cO:Int),aD c.LY,aD c.nF,aD c.cap,aD c.idle]
abbrev IX:List CK:=[.i,.i,.i,.i,.i,.i]
abbrev xQ(c:yX):Int×Int×Int×Int×Int×Int×Unit:=((c.kV:Int),(c.cO:Int),c.LY,c.nF,c.cap,c.idle,())
theorem wO{n l h:Int}{w:aH}{Q:Bool->aH->Prop}(hn:l<=n/\n<=h)(hQ:Q true w):gB n l h w Q:=by
 unfold gB;refine aJ (λ_=>?_) (λh=>absurd hn.1 aB);rw[decide_eq_true hn.2];exact hQ
theorem Sh{c:yX}{w:aH}{Q:Int->aH->Prop}(ok:c.Ok)(hQ:∀w',aM w w'->Q 0 w'):mO (xQ c) w Q:=by
 unfold mO;have h1:=ok.kV;have h2:=ok.cO;have h3:=ok.LY;have h4:=ok.nF;have h5:=ok.cap;have h6:=ok.idle;refine cC (cs:=CW c) λw1 b1 k1 z1=>?_;refine aE (k:=.i) (c.kV:Int) (aO b1 rfl) (wO aB (aF (λh=>by cases h) (λ_=>?_)));refine aE (k:=.i) (c.cO:Int) (aO b1 rfl) (wO aB (aF (λh=>by cases h) (λ_=>?_)));refine aE (k:=.i) c.LY (aO b1 rfl) (wO aB (aF (λh=>by cases h) (λ_=>?_)));refine aE (k:=.i) c.nF (aO b1 rfl) (wO aB (aF (λh=>by cases h) (λ_=>?_)));refine aE (k:=.i) c.cap (aO b1 rfl) (aE (k:=.i) c.nF (aO b1 rfl) (wO aB (aF (λh=>by cases h) (λ_=>?_))));exact aE (k:=.i) c.idle (aO b1 rfl) (wO aB (aF (λh=>by cases h) (λ_=>hQ w1 k1)))
def snd0(cO:Nat):XY:=⟨cO,0,λ_=>none,0,λ_=>False,false⟩
def tkr0(cO:Nat):Uq:=⟨cO,0,λ_=>none,0⟩
def yV(cO:Nat)(aP:Int):lH:=⟨snd0 cO,aP,tkr0 cO,[]⟩
theorem OG{cO:Nat}{aP:Int}(h:cO<=16):(yV cO aP).Ok:=
 ⟨⟨h,iG _,λx hx=>hx.elim,λx bs hx=>(by cases hx),by show(0:Int)<=0/\(0:Int)-((0:Nat):Int)<=1000000000000000;omega⟩,⟨h,by show(0:Int)<=0/\(0:Int)<=4294967296;omega,λx bs hx=>(by cases hx)⟩,by show([]:List (List dA)).length<=64;simp,λb hb=>by cases hb⟩
theorem CNew_i{c:yX}{aP:Int}{w:aH}{Q:cL->Int->aH->Prop}(ok:c.Ok)(hc:1<=aP/\aP<=2147483648)
  (hQ:∀g w' S',jQ g (yV c.cO aP) w' S'->aM w w'->(∀k,S' k->w.heap.size<=k)->Q (some ⟨g,0,none⟩) 0 w'):sN (xQ c) aP w Q:=by
 unfold sN;have h3:=ok.LY;have h4:=ok.nF;have h5:=ok.cap;refine cC (cs:=CW c) λw1 b1 k1 z1=>?_;refine bJ (l:=IX) (xQ c) (b1.1.holds λj v hj=>by rw[pN];exact hj) ?_;refine Sh ok λw2 k2=>aF (λh=>by simp at h) (λ_=>wO hc (aF (λh=>by cases h) (λ_=>?_)));have b2:=bF.kp b1 k2;refine aE (k:=.i) c.nF (aO b2 rfl) (aE (k:=.i) c.cap (aO b2 rfl) (aE (k:=.i) c.LY (aO b2 rfl) ?_));refine TiNew_i ⟨h4.1,h4.2,h5.1,h5.2,h3.1,h3.2⟩ λw4 ht k4=>?_;have b4:=bF.kp b2 k4;refine aE (k:=.i) (c.cO:Int) (aO b4 rfl) ?_;refine SNew2_i ok.cO ht λw5 S5 h5' k5 hs5=>?_;have b5:=bF.kp b4 k5;refine aE (k:=.i) (c.cO:Int) (aO b5 rfl) ?_;refine TkNew_i ok.cO λw6 S6 h6 k6 Pn=>?_;have h5k:=bF.kp h5' k6;have bn5:=bF.gH h5';have bn6:=bF.gH h6;have bn5k:=bF.gH h5k;have z2:=(k1.tr k2).size;have z4:=k4.size;have z5:=k5.size;refine cC (cs:=[.pointer (some ⟨w4.heap.size+1,0,none⟩),aD aP,.pointer (some ⟨w5.heap.size+1,0,none⟩),sv bD]) λw7 b7 k7 z7=>?_;have hO:Fk bD [] w7 (λ_=>False):=⟨[],_,_,Dj,⟨rfl,λi sl bs h=>by simp at h,λk h=>h.elim⟩,λ_ h _=>h,λk=>⟨.inl,λh=>h.elim id id⟩⟩;have hT:=bF.kp h6 k7;have hS:=bF.kp h5k k7;refine hQ w6.heap.size w7 _ ⟨w4.heap.size+1,w5.heap.size+1,bD,aZ.vR b7 (aZ.vR hT (aZ.oP hS hO) λk h1 h2=>?_) λk h1 h2=>?_⟩ (((((k1.tr k2).tr k4).tr k5).tr k6).tr k7) λk hk=>?_
 ·have:=Pn k h1;have:=bn5 k h2;omega
 ·rcases h2 with h2|h2
  ·have:=bn6 k h2;omega
  ·have:=bn5k k h2;omega
 ·rcases hk with hk|hk|hk
  ·have:=k6.size;omega
  ·have:=Pn k hk;omega
  ·rcases hs5 k hk with h|h
   ·rcases h with h|h
    ·omega
    ·have h':k=w2.heap.size:=h;omega
   ·omega
def qv(c:lH)(gs:List gA)(e:Int)(c':lH):Prop:=∃(s1:XY) (L:List Int) (e0:Int),SAgain c.s s1/\s1.Ok/\L.length<=c.s.n/\(c.s.iH=false->(∀x,¬c.s.yO x)->e0=0/\L=[])/\(e0=0->s1.iH=c.s.iH)/\
 if e0=0 then e=0/\gs=L.map (⟨s1,c.aP,c.t,c.gU⟩:lH).KR++(⟨s1,c.aP,c.t,c.gU⟩:lH).nQ.1/\c'=(⟨s1,c.aP,c.t,c.gU⟩:lH).nQ.2 else¬e=0/\gs=[]/\c'=⟨s1,c.aP,c.t,c.gU⟩
theorem vj{w:aH}{S:BS}{a:Nat}{c:lH}{dO:Int}{Q:Sl->Int->aH->Prop}(h:jQ a c w S)(ok:c.Ok)
  (hQ:∀r gs e c' w' S',aZ (jQ a c') (uK r gs) w' S'->Up S S' w w'->qv c gs e c'->c'.Ok->Q r e w'):AS (some ⟨a,0,none⟩) dO w Q:=by
 unfold AS;refine Sf h (aF (λho=>?_) (λho=>?_))
 ·exact hQ _ [] 6 c w S (aZ.oP h DX) (Up.refl _ _) ⟨c.s,[],6,⟨rfl,rfl,rfl,rfl,λ_=>id⟩,ok.s,iG _,λh=>by rw[h] at ho;(cases ho),λ_=>rfl,by rw[if_neg (by decide)];exact⟨by decide,rfl,rfl⟩⟩ ok
 obtain⟨sp,tp,sl,hc⟩:=h;refine aA rfl (aE (k:=.ptr) (some ⟨sp,0,none⟩) hc.cells.1 ?_);obtain⟨S1,hs,bz,dN⟩:=hc.snd;refine Again_i hs ok.s λr L e0 s1 w2 S2 h2 u2 q1 q2 q3 q4 q5 q6 q7=>?_;obtain⟨S3,h3,u3⟩:=dN (PW sp s1) (iU cY 1 eI r L) w2 S2 u2 h2
 let c1:lH:=⟨s1,c.aP,c.t,c.gU⟩
 have QB:c1.Ok:=⟨q2,ok.t,ok.gU,ok.len⟩;have XV:aZ (jQ a c1) (iU cY 1 eI r L) w2 S3:=h3.mono (λ_ h=>⟨sp,tp,sl,h⟩) λ_ h=>h;have hL16:L.length<=16:=by have:=ok.s.yR;have:=ok.s.cO;omega
 refine aF (λhe=>?_) (λhe=>?_)
 ·have vV:¬e0=0:=by simpa using he
  obtain⟨S4,h4,u4⟩:=XV.drop;exact hQ _ [] e0 c1 w2 S4 (aZ.oP h4 DX) (u3.tr u4) ⟨s1,L,e0,q1,q2,q3,q7,q5,by rw[if_neg vV];exact⟨vV,rfl,rfl⟩⟩ QB
 have vV:e0=0:=by simpa using he
 have rl:r.l=L.length:=by
  obtain⟨_,_,_,hv,_⟩:=XV;exact hv.1.len
 refine bO (λn t w3=>∃(i:Nat) (out:Sl) (S5:BS),i<=L.length/\n=L.length-i/\t=(out,(i:Int),())/\aZ (jQ a c1) (aZ (iU cY 1 eI r L) (uK out ((L.take i).map c1.KR))) w3 S5/\Up S S5 w w3) L.length
  ⟨0,bD,S3,iG _,rfl,rfl,XV.mono (λ_ h=>h) λ_ h=>aZ.oP h DX,u3⟩ ?_
 rintro n t w3 ⟨i,out,S5,hi,rfl,rfl,h5,u5⟩ X hX;dsimp only;refine aJ (λcJ=>?_) (λkT=>?_)
 ·have dJ:i<L.length:=aB
  have cV:=gS dJ;have rV:=FQ dJ;generalize L[i]=x at*;obtain⟨SC,SV,hC,⟨SL,SG,hV,hG,dLG,eLG⟩,dCV,eCV⟩:=h5;obtain⟨q,hq,tQ⟩:=cF (k:=.i) (e:=λx=>x) (hV.1.rd fH) cV;rw[kE,qA i aB];refine⟨⟨aB,cJ⟩,aA hq (aE (k:=.i) x tQ ?_)⟩;refine data_i hC QB λs w4 rd f4 k4=>?_;have bC:=bF.gH hC;have bG:=bF.gH hG;have bL:=bF.gH hV;have oO:aZ (jQ a c1) (aZ (iU cY 1 eI r L) (aZ (uK out ((L.take i).map c1.KR)) (AX 1 eU s (c1.KR x).body))) w4 (λk=>SC k\/(SL k\/(SG k\/rC s k))):=
   aZ.vR (bF.kp hC k4) (aZ.vR (bF.kp hV k4) (aZ.vR (bF.kp hG k4) rd λk h1 ⟨b,hb,e⟩=>by have:=bG k h1;have:=f4 b hb;omega) λk h1 h2=>h2.elim (dLG k h1) λ⟨b,hb,e⟩=>by have:=bL k h1;have:=f4 b hb;omega) λk h1 h2=>by
    rcases h2 with h2|h2|⟨b,hb,e⟩
    ·exact dCV k h1 ((eLG k).2 (.inl h2))
    ·exact dCV k h1 ((eLG k).2 (.inr h2))
    ·have:=bC k h1;have:=f4 b hb;omega
  obtain⟨S6,h6,_,xU⟩:=((aZ.r oO).c λT hT=>aZ.r hT).put;obtain⟨S7,S8,g7,r8,d78,Km⟩:=h6;refine Xi (g:=c1.KR x) g7 r8 d78 (by simp;omega) λr' w7 S9 g9 u9=>?_;obtain⟨FR,IQ,Ef⟩:=xU _ w7 S9 ⟨u9.m.mono λk _ hk=>(Km k).2 hk,λk hk=>(u9.s k hk).imp (λh=>(Km k).2 h) id⟩ g9;have U4:Up S5 (λk=>SC k\/(SL k\/(SG k\/rC s k))) w3 w4:=Up.new k4 λk hk=>by
   rcases hk with hk|hk|hk|⟨b,hb,e⟩
   ·exact .inl ((eCV k).2 (.inl hk))
   ·exact .inl ((eCV k).2 (.inr ((eLG k).2 (.inl hk))))
   ·exact .inl ((eCV k).2 (.inr ((eLG k).2 (.inr hk))))
   ·exact .inr (by rw[e];exact f4 b hb)
  refine hX _ _ _ aB ⟨i+1,r',FR,dJ,rfl,rfl,?_,u5.tr (U4.tr Ef)⟩;rw[rV,yS];exact IQ
 ·have ei:i=L.length:=aB
  subst ei;rw[oZ] at h5;obtain⟨SC,hC,_,backC⟩:=aZ.l h5;refine Qy hC QB λs w4 S6 h6 u6 Ts=>?_;obtain⟨S7,h7,u7⟩:=backC (jQ a c1.nQ.2) (uK s c1.nQ.1) w4 S6 u6 h6;have h7':aZ (jQ a c1.nQ.2) (aZ (iU cY 1 eI r L) (aZ (uK out (L.map c1.KR)) (uK s c1.nQ.1))) w4 S7:=h7.asr.mono (λ_ h=>h) λ_ h=>h.asr;obtain⟨S8,h8,_,MF⟩:=((aZ.r h7').c λT hT=>aZ.r hT).put;obtain⟨S9,FR,g9,g10,d910,e910⟩:=h8;have lp:c1.nQ.1.length<=64:=iF Gw ok.gU;refine Rv g9 g10 d910 (by simp;omega) λr' w7 Mw g11 Ko=>?_;obtain⟨XZ,Bx,Br⟩:=MF _ w7 Mw ⟨Ko.m.mono λk _ hk=>(e910 k).2 hk,λk hk=>(Ko.s k hk).imp (λh=>(e910 k).2 h) id⟩ g11;obtain⟨S13,cj,u13⟩:=(Bx.mono (B':=aZ (uK r' (L.map c1.KR++c1.nQ.1)) (iU cY 1 eI r L)) (λ_ h=>h) λ_ h=>h.cm).asl.drop;exact hQ r' _ 0 c1.nQ.2 w7 S13 cj (u5.tr ((u7.tr Br).tr u13)) ⟨s1,L,e0,q1,q2,q3,q7,q5,by rw[if_pos vV];exact⟨rfl,rfl,rfl⟩⟩ Ts
open Go.IntKind (wrap)
section
theorem Mul_i{n:Nat}(hn:n<=51){w:aH}{Q:Int->Int->aH->Prop}(hQ:Q 0 (n:Int) w):sZ (wrap .u64 (((1:Nat):Int))) (wrap .u64 (n:Int)) w Q:=by
 unfold sZ;have key:∀k:Fin 60,mZ (wrap .u64 (((1:Nat):Int))) (wrap .u64 (k.val:Int)) w (λa b w'=>a=0/\b=(k.val:Int)/\w'=w):=by
  intro k;unfold mZ;refine⟨by decide,by decide,by decide,by decide,by decide,?_,?_,rfl⟩<;>revert k<;>decide+kernel
 have h:=key ⟨n,aB⟩;unfold mZ at h ⊢;obtain⟨_,_,_,_,_,h1,h2,_⟩:=h;refine⟨by decide,by decide,by decide,by decide,by decide,?_⟩;simp only at h1 h2;rw[h1,h2];exact hQ
theorem Gu(x:Int):∀n:Nat,(List.replicate n x).flatMap eI=List.replicate n (aD x)
 |0=>rfl
 |n+1=>by rw[List.replicate_succ,List.replicate_succ,EY,Gu x n];rfl
theorem Xu{w:aH}{b n:Nat}{Q:Sl->aH->Prop}(h:cW w b cY [aD (-1)])(hn:n<=51)(hQ:∀w',dQ w' cY 1 eI ⟨some ⟨w.heap.size,0,none⟩,n,n⟩ (List.replicate n (-1))->aM w w'->Q ⟨some ⟨w.heap.size,0,none⟩,n,n⟩ w'):
  gY ⟨some ⟨b,0,none⟩,1,1⟩ (n:Int) w Q:=by
 unfold gY;refine aJ (λh=>aB) (λ_=>?_);refine Mul_i hn ?_;refine aJ (λh=>aB) (λ_=>aJ (λh=>aB) (λ_=>?_));rw[gM (n:=(n:Int)) aB aB];refine BU iK (aY:=eI) (0:Int) rfl fH aB (oY _) aB aB λw2 v2 k2=>?_;simp only[kE] at v2 ⊢;have dR:∀w',cW w' w.heap.size cY (List.replicate n (aD (-1)))->aM w w'->Q ⟨some ⟨w.heap.size,0,none⟩,n,n⟩ w':=λw' o k=>by
  refine hQ w' ⟨by simp,iT _,by simp[maxLen];omega,.inr ⟨w.heap.size,[],rfl,?_,by rw[tD,bI fH];simp⟩⟩ k;rw[tD,Gu];exact o
 have o2:cW w2 w.heap.size cY (List.replicate n (aD 0)):=by
  rcases v2.gN with⟨h1,_⟩|⟨g,dE,hg,ho,hl⟩
  ·cases h1
  ·cases hg
   rw[Gu] at ho hl;rw[mL,List.length_replicate] at hl;have hl':n+dE.length=n*1:=hl;have hr:dE=[]:=Ce aB;rw[hr,tD] at ho;exact ho
 have ye:∀{wx:aH},aM w wx->∀j v,([aD (-1)]:List Value)[j]? =some v->wx.cell? ((⟨b,0,none⟩:Addr).add j)=some v:=λkx=>(h.aK kx id).read λj v hj=>by simpa using hj
 have step:∀{w4:aH} {k m:Nat} {cs:List Value} {sa:Addr} {sl sc:Nat} {K:Int->aH->Prop},cW w4 w.heap.size cY (List.replicate k (aD (-1))++List.replicate (n-k) (aD 0))->aM w w4->k+m<=n->m=min sl (n-k)->cs=List.replicate m (aD (-1))->
   (∀j v,cs[j]? =some v->w4.cell? (sa.add j)=some v)->(∀w5,cW w5 w.heap.size cY (List.replicate (k+m) (aD (-1))++List.replicate (n-(k+m)) (aD 0))->aM w w5->K (m:Int) w5)->
   QP prog BI BI ⟨some ⟨w.heap.size,k,none⟩,n-k,n-k⟩ (.slice (some sa) sl sc) w4 K:=λ{w4 k m cs sa sl sc K} o k4 hkm hm Tz hr hK=>by
  subst Tz;refine MW (n:=1) iK.under cU o (by simp;omega) hr (by simp;omega) (λv hv=>by rw[(List.mem_replicate.1 hv).2];rfl) λw5 o5 m5 _=>?_;rw[<-hm];refine hK w5 ?_ (k4.fresh m5 λk e=>by rw[show k=_ from e];exact iT _);have e1:(List.replicate k (aD (-1))++List.replicate (n-k) (aD 0)).take k=List.replicate k (aD (-1)):=by
   rw[List.take_append_of_le_length dL,List.take_of_length_le dL]
  have e2:(List.replicate k (aD (-1))++List.replicate (n-k) (aD 0)).drop (k+(List.replicate m (aD (-1))).length)=List.replicate (n-(k+m)) (aD 0):=by
   rw[List.drop_append,List.drop_of_length_le dL,List.nil_append,List.drop_replicate];simp;omega
  rw[e1,e2,List.replicate_append_replicate] at o5;exact o5
 have first:=λ(K:WQ Int)=>step (K:=K) (w4:=w2) (k:=0) (m:=min 1 n) (cs:=List.replicate (min 1 n) (aD (-1))) (sa:=⟨b,0,none⟩) (sl:=1) (sc:=1)
 simp only[List.replicate_zero,List.nil_append,Nat.sub_zero,pN] at first
 refine first _ o2 k2 aB trivial trivial (λj v hj=>?_) λw3 o3 k3=>?_
 ·refine ye k2 j v ?_
  rw[Ev] at hj
  split at hj
  ·have:j=0:=aB
   subst this;simpa using hj
  ·cases hj
 refine bO (λc t w4=>∃k:Nat,k<=n/\min 1 n<=k/\c=n-k/\t=((k:Int),())/\cW w4 w.heap.size cY (List.replicate k (aD (-1))++List.replicate (n-k) (aD 0))/\aM w w4) (n-min 1 n) ⟨min 1 n,aB,iT _,rfl,rfl,o3,k3⟩ ?_;rintro c t w4 ⟨k,hk,QD,rfl,rfl,o4,k4⟩ X hX;dsimp only;refine aJ (λcJ=>?_) (λkT=>?_)
 ·have GA:k<n:=aB
  refine⟨⟨aB,aB⟩,⟨aB,aB⟩,?_⟩;rw[kE,lJ GA,oI,Nat.sub_zero,Nat.sub_zero,Nat.mul_one];have d4:aM w4 w4.drew:=aW.drew (aW.refl _ w4);have o4d:=o4.aK d4 id;refine step (m:=min k (n-k)) o4d (k4.tr d4) aB rfl rfl (o4d.read λj v hj=>?_) λw5 o5 k5=>?_
  ·rw[Ev] at hj
   split at hj
   ·rw[pN,Ey (by simp;omega),Ev,if_pos aB];exact hj
   ·cases hj
  ·rw[gM (n:=(k:Int)+((min k (n-k):Nat):Int)) aB aB,show(k:Int)+((min k (n-k):Nat):Int)=((k+min k (n-k):Nat):Int) by omega]
   exact hX (n-(k+min k (n-k))) _ _ aB ⟨k+min k (n-k),aB,aB,rfl,rfl,o5,k5⟩
 ·have:k=n:=aB
  subst this;rw[Nat.sub_self,List.replicate_zero,tD] at o4;exact dR w4 o4 k4
structure GSep(W:aH)(Z b1 b5 r g1 B:Nat)(s1 s2:Sl):Prop where
 PO:s1.b=some ⟨g1,0,none⟩
 qF:W.heap.size<=b1/\W.heap.size<=b5/\W.heap.size<=r/\W.heap.size<=g1/\∀b,s2.b=some b->W.heap.size<=b.block
 high:b1<Z/\b5<Z/\r<Z/\g1<Z/\∀b,s2.b=some b->b.block<Z
 ne:b1≠b5/\b1≠r/\b1≠g1/\b5≠r/\b5≠g1/\r≠g1
 ne2:∀b,s2.b=some b->b.block≠b1/\b.block≠b5/\b.block≠r/\b.block≠g1
def SepK(W:aH)(b1 b5 r g1:Nat)(s2:Sl)(k:Nat):Prop:=W.heap.size<=k/\k≠b1/\k≠b5/\k≠r/\k≠g1/\∀b,s2.b=some b->k≠b.block
theorem GSep.new{W:aH}{Z b1 b5 r g1 B:Nat}{s1 s2:Sl}(h:GSep W Z b1 b5 r g1 B s1 s2){k:Nat}(hk:Z<=k):SepK W b1 b5 r g1 s2 k:=by
 obtain⟨h1,h2,h3,h4,h5⟩:=h.high;have:=h.qF.1;exact⟨aB,aB,aB,aB,aB,λb hb e=>by have:=h5 b hb;omega⟩
structure Ur(W:aH)(Z b1 b5 r g1 B:Nat)(s1 s2:Sl)(w:aH)(H:HS)(q:List It)(ds bs:List Int)(kn:Int->Option Int):Prop where
 hp:rI w H q
 hg:H.g=B
 mp:∃nm,jP w r CT Kt kn nm
 v1:dQ w cY 1 eI s1 ds
 v2:dQ w cY 1 eI s2 bs
 o1:cW w b1 Vl [sv bD,sv bD]
 o5:cW w b5 Vl [sv s1,sv s2]
 kp:aM W w
 sz:Z<=w.heap.size
 sep:∀k,H.dF k->SepK W b1 b5 r g1 s2 k
section
variable{W:aH}{Z b1 b5 r g1 B:Nat}{s1 s2:Sl}{w:aH}{H:HS}{q:List It}{ds bs:List Int}{kn:Int->Option Int}
theorem Ur.aN{w':aH}(h:Ur W Z b1 b5 r g1 B s1 s2 w H q ds bs kn)(k:aM w w'):Ur W Z b1 b5 r g1 B s1 s2 w' H q ds bs kn:=
 ⟨h.hp.aN k,h.hg,h.mp.imp λ_ m=>m.aK k id,h.v1.aK k λ_ _=>id,h.v2.aK k λ_ _=>id,h.o1.aK k id,h.o5.aK k id,h.kp.tr k,iF h.sz k.size,h.sep⟩
theorem Ur.heap{w':aH}{H':HS}{q':List It}(S:GSep W Z b1 b5 r g1 B s1 s2)(h:Ur W Z b1 b5 r g1 B s1 s2 w H q ds bs kn)(hp:oE w' H' q')(hg:H'.g=H.g)(m:aW H.dF w w')(f:∀k,H'.dF k->H.dF k\/w.heap.size<=k):Ur W Z b1 b5 r g1 B s1 s2 w' H' q' ds bs kn:=by
 refine⟨.inl hp,hg.trans h.hg,h.mp.imp λ_ mm=>mm.aK m λhk=>(h.sep r hk).2.2.2.1 rfl,h.v1.aK m λa ha hk=>?_,h.v2.aK m λa ha hk=>(h.sep _ hk).2.2.2.2.2 a ha rfl,h.o1.aK m λhk=>(h.sep _ hk).2.1 rfl,h.o5.aK m λhk=>(h.sep _ hk).2.2.1 rfl,h.kp.fresh m λk hk=>(h.sep k hk).1,iF h.sz m.size,λk hk=>?_⟩
 ·rw[S.PO] at ha;cases ha;exact(h.sep _ hk).2.2.2.2.1 rfl
 ·rcases f k hk with h1|h1
  ·exact h.sep k h1
  ·exact S.new (iF h.sz h1)
theorem Ur.map{w':aH}{kn':Int->Option Int}(S:GSep W Z b1 b5 r g1 B s1 s2)(h:Ur W Z b1 b5 r g1 B s1 s2 w H q ds bs kn)(m:aW (λk=>k=r) w w')(mp:∃nm,jP w' r CT Kt kn' nm):Ur W Z b1 b5 r g1 B s1 s2 w' H q ds bs kn':=by
 have ne:=S.ne;refine⟨h.hp.aK m λk hk e=>(h.sep k hk).2.2.2.1 e,h.hg,mp,h.v1.aK m λa ha e=>?_,h.v2.aK m λa ha e=>(S.ne2 a ha).2.2.1 e,h.o1.aK m λe=>?_,h.o5.aK m λe=>?_,h.kp.fresh m λk e=>?_,iF h.sz m.size,h.sep⟩
 ·rw[S.PO] at ha;cases ha;exact ne.2.2.2.2.2 (Eq.symm e)
 ·exact ne.2.1 e
 ·exact ne.2.2.2.1 e
 ·rw[show k=r from e];exact S.qF.2.2.1
theorem Ur.cells(h:Ur W Z b1 b5 r g1 B s1 s2 w H q ds bs kn):w.cell? ((⟨b5,0,none⟩:Addr).add 0)=some (sv s1)/\w.cell? ((⟨b5,0,none⟩:Addr).add 1)=some (sv s2):=by
 refine⟨?_,?_⟩<;>rw[aS,h.o5.cell]<;>rfl
end
theorem TK{w:aH}{g:Nat}{cs:List Value}{a b:Sl}{K:aH->Prop}(h:cW w g Vl cs)(hl:cs.length=2)(hK:∀w',cW w' g Vl [sv a,sv b]->aW (λk=>k=g) w w'->w'.heap.size=w.heap.size->K w'):
  aI prog Vl ⟨g,0,none⟩ (Value.agg #[Value.slice a.b a.l a.c,Value.slice b.b b.l b.c]) w K:=by
 refine BZ h za (by simp[Value.cells,hl]) (by simp[Value.cells,Value.oneCell']) λw' ho hm hz=>hK w' ?_ hm hz;have:cs.take 0++(Value.agg #[Value.slice a.b a.l a.c,Value.slice b.b b.l b.c]).cells.toList++cs.drop (0+(Value.agg #[Value.slice a.b a.l a.c,Value.slice b.b b.l b.c]).cells.size)=[sv a,sv b]:=by
  simp[Value.cells,List.drop_of_length_le (show cs.length<=2 by omega)]
 rwa[this] at ho
theorem grow_i{HL:Lp}{n:Nat}{A:List bQ}{R:List Int}{from_:Sl}{fs:List Int}{JA end_:Value}{nx:Int->List bQ}{en:bQ->Int}{W:aH}{Q:(Sl×Sl×Unit)->aH->Prop}(h:oD W HL n A R)(hn:n<=51)(hf:Rd W from_ 1 eI fs)(QE:fs.length<=1000)
  (hN:Qr n (uV n fs) nx en) (hnl:∀v,(nx v).length<=100000)
  (harcs:∀v w (K:WQ Value),oD w HL n A R->(∀s w',dQ w' iR 4 eC s (nx v)->aM w w'->(∀b,s.b=some b->w.heap.size<=b.block)->K (.slice s.b s.l s.c) w')->lI prog JA [aD v] w K)
  (hend:∀e w (K:WQ Value),(∀w',aM w w'->K (aD (en e)) w')->lI prog end_ [Fg e] w K)
  (hQ:∀s1 s2 ds bs w',Grown n (uV n fs) nx en ds bs->dQ w' cY 1 eI s1 ds->dQ w' cY 1 eI s2 bs->aM W w'->(∀b,s1.b=some b->W.heap.size<=b.block)->(∀b,s2.b=some b->W.heap.size<=b.block)->Q (s1,s2,()) w'):
  xD (some ⟨HL.gl,0,none⟩) from_ JA end_ W Q:=by
 unfold xD;refine bK λw1 o1 k1 z1=>?_;refine aF (λh=>by simp at h) (λ_=>?_);refine bK λw3 o3 k3 z3=>?_;have K3:=k1.tr k3;refine aA rfl (aE (k:=.ptr) (some ⟨HL.N.g,0,none⟩) (h.aN K3).c0 (QR (h.aN K3).LL ?_));refine Xu o3 hn λw5 v5 k5=>?_;refine HE (v5.rd fH) (by simp;omega) λs2 w6 v6 k6 f6=>?_;have z5:w3.heap.size<w5.heap.size:=v5.lt rfl;have z6:=k6.size;refine qO (ek:=CT) (kn:=Kt) λhm k7=>?_;have z7:(w6.alloc (.map #[] 0)).heap.size=w6.heap.size+1:=by simp
 generalize w6.alloc (.map #[] 0)=w7 at*;refine bK λw8 o8 k8 z8=>bK λw9 o9 k9 z9=>?_;refine TK (a:=⟨some ⟨w3.heap.size,0,none⟩,n,n⟩) (b:=s2) o9 rfl λeV Bu YC z10=>?_;generalize tO:(⟨some ⟨w3.heap.size,0,none⟩,n,n⟩:Sl)=s1 at*;have PO:s1.b=some ⟨w3.heap.size,0,none⟩:=by rw[<-tO]
 have f6':∀b,s2.b=some b->w5.heap.size<=b.block/\b.block<w6.heap.size:=λb hb=>⟨f6 b hb,v6.lt hb⟩;have S:GSep W eV.heap.size W.heap.size w8.heap.size w6.heap.size w3.heap.size w7.heap.size s1 s2:=by
  refine⟨PO,⟨aB,aB,aB,aB,λb hb=>by have:=f6' b hb;omega⟩,⟨aB,aB,aB,aB,λb hb=>by have:=f6' b hb;omega⟩,⟨aB,aB,aB,aB,aB,aB⟩,λb hb=>by have:=f6' b hb;omega⟩
 have k910:aM w8 eV:=k9.fresh YC λk e=>by rw[show k=_ from e];exact iT _
 have Mx:aM w6 eV:=(k7.tr k8).tr k910;have KW:aM W eV:=((K3.tr k5).tr k6).tr Mx;have St0:Ur W eV.heap.size W.heap.size w8.heap.size w6.heap.size w3.heap.size w7.heap.size s1 s2 eV ⟨w7.heap.size,w7.heap.size,bD⟩ [] (List.replicate n (-1)) (List.replicate n (-1)) (λ_=>none):=by
  refine⟨.inr ⟨rfl,rfl,rfl,o8.aK k910 id⟩,rfl,⟨0,hm.aK (k8.tr k910) id⟩,(v5.aK k6 λ_ _=>id).aK Mx (λ_ _=>id),v6.aK Mx λ_ _=>id,((((o1.aK k3 id).aK k5 id).aK k6 id).aK Mx id),Bu,KW,iT _,λk hk=>?_⟩;have:k=w7.heap.size:=by
   rcases hk with hk|hk|⟨a,ha,_⟩
   ·exact hk
   ·exact hk
   ·cases ha
  subst this;exact⟨aB,aB,aB,aB,aB,λb hb=>by have:=f6' b hb;omega⟩
 clear o1 o3 v5 v6 f6 f6' hm o8 o9 Bu YC k910 Mx k9 k8 k7 k6 k5 k3 K3 k1;generalize eV.heap.size=Z at*;obtain⟨b1,YE⟩:∃b1,b1=W.heap.size:=⟨_,rfl⟩;rw[<-YE] at S St0 ⊢;generalize w8.heap.size=b5 at*;generalize w6.heap.size=r at*;generalize w3.heap.size=g1 at*;generalize w7.heap.size=B at*;clear z1 z3 z5 z6 z7 z8 z9 z10 tO;refine bO (λc t eE=>∃(i:Nat) (H:HS) (q:List It) (kn:Int->Option Int),i<=fs.length/\c=fs.length-i/\t=((i:Int),())/\Ur W Z b1 b5 r g1 B s1 s2 eE H q (List.replicate n (-1)) (List.replicate n (-1)) kn/\Ca q/\BD q/\
   (∀y∈q,y.key=0/\uV n fs y.id/\kn y.id=some (-1))/\(∀j,j<i->∀v,fs[j]? =some v->0<=v->v<n->∃y∈q,y.id=v)) fs.length
  ⟨0,_,[],_,iG _,rfl,rfl,St0,(λx hx=>by cases hx),List.Pairwise.nil,(λy hy=>by cases hy),λj hj=>aB⟩ ?_
 rintro c t eE ⟨i,H,q,kn,hi,rfl,rfl,st,jW,lM,hq,oO⟩ X hX;dsimp only;have qlen:q.length<=n:=DV (lZ lM) jW λy hy=>(hq y hy).2.1.2;refine aJ (λcJ=>?_) (λkT=>?_)
 ·have hfr:=hf.len
  have dJ:i<fs.length:=aB;have cV:=gS dJ;have fP:=nE dJ;generalize fs[i]=v at*;obtain⟨p,hp,hc⟩:=cF (k:=.i) (e:=λx=>x) (hf.aK st.kp cR λ_ _=>id) cV;rw[kE];refine⟨⟨aB,cJ⟩,aA hp (aE (k:=.i) v hc ?_)⟩;have skip:¬(0<=v/\v<n)->X (aQ ((i:Int)+1),()) eE:=λvU=>by
   rw[qA i aB];refine hX _ _ _ aB ⟨i+1,H,q,kn,dJ,rfl,rfl,st,jW,lM,hq,λj hj u hu u0 u1=>?_⟩;rcases Nat.lt_or_ge j i with CR|CR
   ·exact oO j CR u hu u0 u1
   ·have:j=i:=aB
    subst this;rw[cV] at hu;cases hu;exact absurd ⟨u0,u1⟩ vU
  refine aJ (λh0=>?_) (λh0=>skip λh=>h0 h.1);have xk:0<=v:=h0;have hL:=h.aN st.kp;refine aA rfl (aE (k:=.ptr) (some ⟨HL.N.g,0,none⟩) hL.c0 (QR hL.LL ?_));refine aJ (λh1=>?_) (λh1=>skip λh=>h1 h.2);have hg:=st.hg;rw[<-hg];refine YY st.hp aB λgO H13 cj g13 da f13=>?_;have st13:=st.heap S cj g13 da f13;obtain⟨nm,hmp⟩:=st13.mp;refine VZ (kn:=Kt) oU kP hmp v (-1:Int) λmC hm14 YB _=>?_;have st14:=st13.map S YB ⟨_,hm14⟩;rw[qA i aB];refine hX _ _ _ aB ⟨i+1,H13,_,_,dJ,rfl,rfl,st14,CD jW v 0,CC lM v 0,λy hy=>?_,λj hj u hu u0 u1=>?_⟩
  ·rcases WC hy with db|rfl
   ·obtain⟨a1,a2,a3⟩:=hq y db
    refine⟨a1,a2,?_⟩;show(if y.id=v then some (-1:Int) else kn y.id)=some (-1)
    split
    ·rfl
    ·exact a3
   ·exact⟨rfl,⟨fP,xk,h1⟩,if_pos rfl⟩
  ·rcases Nat.lt_or_ge j i with CR|CR
   ·obtain⟨y,hy,e⟩:=oO j CR u hu u0 u1
    obtain⟨y',Tv,e',_⟩:=OO jW (v:=v) (k:=0) hy;exact⟨y',Tv,e'.trans e⟩
   ·have:j=i:=aB
    subst this;rw[cV] at hu;cases hu;obtain⟨y,hy,e,_⟩:=WD (q:=q) (v:=v) (k:=0);exact⟨y,hy,e⟩
 have hfr:=hf.len;have ei:i=fs.length:=aB;subst ei;have G0:tI n (uV n fs) nx en (λ_ _=>True) (List.replicate n (-1)) (List.replicate n (-1)) q kn:=tI.start hN hq λv hv=>by
  obtain⟨j,hj⟩:=oM.1 hv.1;exact oO j (kU.1 hj).1 v hj hv.2.1 hv.2.2
 clear hX hq oO qlen;generalize hds0:List.replicate n (-1:Int)=ds0 at*;refine bO (λc t fO=>∃(H:HS) (q:List It) (kn:Int->Option Int) (ds bs:List Int),c=n-met ds/\t=()/\Ur W Z b1 b5 r g1 B s1 s2 fO H q ds bs kn/\Ca q/\BD q/\tI n (uV n fs) nx en (λ_ _=>True) ds bs q kn) (n-met ds0)
  ⟨H,q,kn,ds0,ds0,rfl,rfl,st,jW,lM,G0⟩ ?_
 clear G0 jW lM st;rintro c t fO ⟨H,q,kn,ds,bs,rfl,rfl,st,jW,lM,G⟩ X hX;have hg:=st.hg;rw[<-hg];refine qw st.hp ?_;cases q with
 |nil=>
  refine aJ (λh=>by simp at h) (λ_=>?_);refine bJ (l:=[.slice,.slice]) (s1,s2,()) (iM st.o5) ?_;refine TK (a:=s1) (b:=s2) st.o1 rfl λmy o28 m28 _=>?_;refine bJ (l:=[.slice,.slice]) (s1,s2,()) (iM o28) ?_;refine hQ s1 s2 ds bs my (G.done hN) (st.v1.aK m28 λa ha e=>?_) (st.v2.aK m28 λa ha e=>(S.ne2 a ha).1 e) (st.kp.fresh m28 λk e=>by rw[show k=b1 from e];exact S.qF.1) (λb hb=>?_) (λb hb=>S.qF.2.2.2.2 b hb)
  ·rw[S.PO] at ha;cases ha;exact S.ne.2.2.1 (Eq.symm e)
  ·rw[S.PO] at hb;cases hb;exact S.qF.2.2.2.1
 |cons x q=>
  refine aJ (λ_=>?_) (λh=>absurd (by simp only[nU];omega) h);obtain⟨x0,x1,hxd,hxg,hxb,u,hu,_⟩:=G.qi x dL;have bm:=(hxg.mz hN).2.2;have qm:(x::q).length<=n:=DV (lZ lM) jW λy hy=>⟨(G.qi y hy).1,(G.qi y hy).2.1⟩;have hp:oE fO H (x::q):=st.hp.resolve_right λh=>by cases h.1
  refine Pop_i hp (by simp at qm;omega) λiZ H17 h17 g17 f17 vz=>?_;have d17:aM iZ iZ.drew:=aW.drew (aW.refl _ iZ);have rA:=(st.heap S h17 g17 vz λk hk=>.inl ((f17 k).1 hk)).aN d17;obtain⟨G1,hmet⟩:=G.pop hN lM jW hu;have hml:=ik (ds.set x.id.toNat x.key);rw[pJ,G.dl] at hml;refine aE (k:=.slice) s1 rA.cells.1 (aE (k:=.slice) s2 rA.cells.2 ?_);obtain⟨nm,hmp⟩:=rA.mp;refine wM (kn:=Kt) oU kP (z:=(0:Int)) MP hmp x.id ?_;rw[hu];show _/\_;have v1l:=rA.v1.len;have v2l:=rA.v2.len;have dp:=G.dl;have KI:=G.bl;refine⟨rA.cells.2,rA.cells.1,⟨x0,aB⟩,aA S.PO ?_⟩;refine rA.v1.store fH S.PO (i:=x.id.toNat) aB x.key (v:=aD x.key) rfl cU (EV _) λnM v19 m19 z19=>?_;have KY:aW (λk=>k=g1) iZ.drew nM:=m19;have FU:Ur W Z b1 b5 r g1 B s1 s2 nM H17 q (ds.set x.id.toNat x.key) bs kn:=by
   refine⟨rA.hp.aK KY λk hk e=>(rA.sep k hk).2.2.2.2.1 e,rA.hg,rA.mp.imp λ_ mm=>mm.aK KY λe=>S.ne.2.2.2.2.2 e,v19,rA.v2.aK KY λa ha e=>(S.ne2 a ha).2.2.2 e,rA.o1.aK KY λe=>S.ne.2.2.1 e,rA.o5.aK KY λe=>S.ne.2.2.2.2.1 e,rA.kp.fresh KY λk e=>by rw[show k=g1 from e];exact S.qF.2.2.2.1,by rw[z19];exact rA.sz,rA.sep⟩
  obtain⟨g2,Af⟩:∃g2,s2.b=some ⟨g2,0,none⟩:=by
   rcases FU.v2.gN with⟨_,h2⟩|⟨g,_,hb,_⟩
   ·have:=FU.v2.cap;omega
   ·exact⟨g,hb⟩
  refine⟨FU.cells.2,⟨x0,aB⟩,aA Af ?_⟩;refine FU.v2.store fH Af (i:=x.id.toNat) aB u (v:=aD u) rfl cU (EV _) λyM v20 m20 z20=>?_;have ya:aW (λk=>k=g2) nM yM:=m20;have n2:=S.ne2 _ Af;have st20:Ur W Z b1 b5 r g1 B s1 s2 yM H17 q (ds.set x.id.toNat x.key) (bs.set x.id.toNat u) kn:=by
   refine⟨FU.hp.aK ya λk hk e=>(FU.sep k hk).2.2.2.2.2 _ Af e,FU.hg,FU.mp.imp λ_ mm=>mm.aK ya λe=>n2.2.2.1 e.symm,FU.v1.aK ya λa ha e=>?_,v20,FU.o1.aK ya λe=>n2.1 e.symm,FU.o5.aK ya λe=>n2.2.1 e.symm,FU.kp.fresh ya λk e=>by rw[show k=g2 from e];exact S.qF.2.2.2.2 _ Af,by rw[z20];exact FU.sz,FU.sep⟩;rw[S.PO] at ha;cases ha;exact n2.2.2.2 (Eq.symm e)
  have hdlt:x.id.toNat<ds.length:=aB;have hself:(ds.set x.id.toNat x.key)[x.id.toNat]? =some x.key:=by rw[vT,if_pos rfl,if_pos hdlt]
  have exi:(x.id.toNat:Int)=x.id:=Int.toNat_of_nonneg x0;have QM:Ca q:=λa ha b hb=>jW a (by simp[ha]) b (by simp[hb]);have qh:BD q:=(List.pairwise_cons.1 lM).2;generalize hds':ds.set x.id.toNat x.key=Kn at*;generalize bs.set x.id.toNat u=Ms at*;refine harcs x.id yM _ (h.aN st20.kp) λs5 AU v21 k21 f21=>⟨s5,rfl,?_⟩;have Pw:=st20.aN k21;have l5:=v21.len;have Ae:=hnl x.id;have fr5:∀b,s5.b=some b->yM.heap.size<=b.block/\b.block<AU.heap.size:=λb hb=>⟨f21 b hb,v21.lt hb⟩;refine bO (λc t DH=>∃(i:Nat) (H:HS) (q:List It) (kn:Int->Option Int),i<=(nx x.id).length/\c=(nx x.id).length-i/\t=((i:Int),())/\Ur W Z b1 b5 r g1 B s1 s2 DH H q Kn Ms kn/\Ca q/\BD q/\
    tI n (uV n fs) nx en (λv e=>v≠x.id\/e∈(nx x.id).take i) Kn Ms q kn/\dQ DH iR 4 eC s5 (nx x.id)/\(∀k,H.dF k->∀b,s5.b=some b->k≠b.block)/\AU.heap.size<=DH.heap.size) (nx x.id).length
   ⟨0,H17,q,kn,iG _,rfl,rfl,Pw,QM,qh,G1.mono (λv e _ hh=>hh.resolve_right dL),v21,λk hk b hb e=>by have:=(fr5 b hb).1;have:=st20.hp.lt hk;omega,iT _⟩ ?_
  rintro c t DH ⟨i,H2,q2,kn2,hi,rfl,rfl,st2,KO,QK,G2,v22,sp2,z22⟩ Y hY;dsimp only;have hq2len:q2.length<=n:=DV (lZ QK) KO λy hy=>⟨(G2.qi y hy).1,(G2.qi y hy).2.1⟩;refine aJ (λcJ=>?_) (λkT=>?_)
  ·have dJ:i<(nx x.id).length:=aB
   have cV:=gS dJ;have fP:=nE dJ;have rV:(nx x.id).take (i+1)=(nx x.id).take i++[(nx x.id)[i]]:=FQ dJ;generalize (nx x.id)[i]=e at*;obtain⟨e0,e1,ew0,ew1⟩:=hN.arc x.id e fP;obtain⟨p,hp,hh⟩:=wI (v22.rd kI) cV;rw[kE];refine⟨⟨aB,cJ⟩,aA hp (bJ (nN e) hh ?_)⟩;refine GZ (x:=e) λAb k24 o24 _=>?_;refine bJ (nN e) (iM o24) ?_;refine hend e Ab _ λAa k25=>⟨en e,rfl,?_⟩;have k225:=k24.tr k25;have xr:=st2.aN k225;have o25:=o24.aK k25 id;have v25:=v22.aK k225 λ_ _=>id;have hdl':=G2.dl;obtain⟨y,hy⟩:∃y,Kn[(en e).toNat]? =some y:=⟨_,gS (show(en e).toNat<Kn.length by omega)⟩;obtain⟨pa,hpa,hca⟩:=cF (k:=.i) (e:=λx=>x) (xr.v1.rd fH) hy;have tko:∀v' e',e'∈nx v'->(v'≠x.id\/e'∈(nx x.id).take (i+1))->((v'≠x.id\/e'∈(nx x.id).take i)\/(v'=x.id/\e'=e)):=λv' e' _ hh=>by
    rcases hh with h1|h1
    ·exact .inl (.inl h1)
    ·rw[rV] at h1
     rcases jK.1 h1 with h2|h2
     ·exact .inl (.inr h2)
     ·by_cases hv:v'=x.id
      ·exact .inr ⟨hv,by simpa using h2⟩
      ·exact .inl (.inl hv)
   have z25:=k225.size;refine aE (k:=.slice) s1 xr.cells.1 ⟨⟨e0,aB⟩,aA hpa (aE (k:=.i) y hca ?_)⟩;refine aJ (λPT=>?_) (λuR=>?_)
   ·have hy1:y=-1:=by
     rcases G2.Cb _ _ hy with h1|⟨h1,_⟩
     ·exact h1
     ·have hneg':y<0:=PT
      omega
    subst hy1;have hwr:aQ (x.key+e.w)=x.key+e.w:=gM (by simp only[BW] at*;omega) (by simp only[BW] at*;omega);refine aE (k:=.i) e.w (sS o25).2.2.1 ?_;rw[hwr];have hg2':=xr.hg;rw[hg,<-hg2'];refine YY xr.hp aB λau H26 h26 g26 m26 f26=>?_;have st26:=xr.heap S h26 g26 m26 f26;have G3:=(G2.push hN KO (v:=x.id.toNat) (d:=x.key) (e:=e) hself bm (by rw[exi];exact fP) hy);rw[exi] at G3;have G4:=G3.mono (Pm:=λv e=>v≠x.id\/e∈(nx x.id).take (i+1)) tko;have sp26:∀k,H26.dF k->∀b,s5.b=some b->k≠b.block:=λk hk b hb e=>by
     rcases f26 k hk with h1|h1
     ·exact sp2 k h1 b hb e
     ·have:=(fr5 b hb).2;omega
    have v26:=v25.aK m26 λb hb hk=>sp2 _ hk b hb rfl;have z26:=m26.size;rw[qA i aB];have hflag:∀b,(nL q2 (en e) (x.key+e.w)).2=b->tI n (uV n fs) nx en (λv e=>v≠x.id\/e∈(nx x.id).take (i+1)) Kn Ms (nL q2 (en e) (x.key+e.w)).1 (knP kn2 b (en e) x.id):=λb hb=>by rw[<-hb];exact G4
    refine aF (λhb=>?_) (λhb=>?_)
    ·obtain⟨nm2,hmp2⟩:=st26.mp
     refine VZ (kn:=Kt) oU kP hmp2 (en e) x.id λcx hm27 m27 z27=>?_;have st27:=st26.map S m27 ⟨_,hm27⟩;refine hY _ _ _ aB ⟨i+1,H26,_,_,dJ,rfl,rfl,st27,CD KO _ _,CC QK _ _,hflag true hb,v26.aK m27 λb bW e=>?_,sp26,aB⟩;have:=(fr5 b bW).1;have h1:=S.high.2.2.1;have h2:=st20.sz;omega
    ·exact hY _ _ _ aB ⟨i+1,H26,_,kn2,dJ,rfl,rfl,st26,CD KO _ _,CC QK _ _,hflag false hb,v26,sp26,aB⟩
   ·have Fv:0<=y:=by have:¬y<0:=uR;omega
    rw[qA i aB];exact hY _ _ _ aB ⟨i+1,H2,q2,kn2,dJ,rfl,rfl,xr,KO,QK,(G2.skip (v:=x.id) (e:=e) hy Fv).mono tko,v25,sp2,aB⟩
  ·have ei:i=(nx x.id).length:=aB
   subst ei;rw[oZ] at G2;refine hX (n-met Kn) _ _ aB ⟨H2,q2,kn2,Kn,Ms,rfl,rfl,st2,KO,QK,G2.mono λv e he _=>?_⟩
   by_cases hv:v=x.id
   ·exact .inr (hv▸he)
   ·exact .inl hv
end
end Go.Proofs.YtihggjgakbgomaaGreat
