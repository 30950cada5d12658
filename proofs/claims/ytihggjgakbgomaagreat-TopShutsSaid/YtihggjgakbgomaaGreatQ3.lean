import Derived.Maps.RangeRun
import Derived.Test.YtihggjgakbgomaaGreatA1
import Derived.Test.YtihggjgakbgomaaGreatQ2
import Derived.Test.YtihggjgakbgomaaGreatF2
import Derived.Test.YtihggjgakbgomaaGreatF1
import Derived.Test.YtihggjgakbgomaaGreatA2
import Derived.Test.YtihggjgakbgomaaGreatQ1
set_option linter.defProp false
namespace Go.Proofs.YtihggjgakbgomaaGreat
open Go Go.Den
section
section
variable{w0 w w':aH}{g m N:Nat}{e:fL}{mc:gJ}{V:Prop}{E:List cH}{L:List (Nat×cR)}
def tB.Br(h:tB w0 g m e mc V E N L w){i j:Nat}{v:Value}(hk:mc[i+j]? =some v):w.cell? (((⟨m,0,none⟩:Addr).add i).add j)=some v:=by
 rw[add_add];exact h.cell hk
def tB.start{t:fL}{cs:gJ}(h:Nu w0 (Ev g [] false) w){K:Addr->aH->Prop}(hK:∀w1,tB w0 g w.heap.size t cs V [] 0 [] w1->aL w w1->K ⟨w.heap.size,0,none⟩ w1):aG w cs.toArray t K:=by
 obtain⟨⟨S,a,s⟩,md⟩:=h;refine cM λw1 b1 k1 z1=>hK w1 ⟨S,[],false,bJ.kp a k1,s,md.trans k1 λ_ _ h=>h.elim,λp hp=>(by cases hp),⟨b1.1,λhS=>?_⟩,dN _,λ_=>⟨rfl,rfl⟩⟩ k1;have:=bJ.iF a _ hS;simp at this
end
def RH{x:Int}(h:u16 x):0<=x/\x.toNat<256^2:=⟨h.1,by have:=h.2;have:=h.1;omega⟩
def Bn{x:Int}(h:u32 x):0<=x/\x.toNat<256^4:=⟨h.1,by have:=h.2;have:=h.1;omega⟩
def Oo{x:Int}(h:u40 x):0<=x/\x.toNat<256^5:=⟨h.1,by have:=h.2;have:=h.1;omega⟩
def rng8{x:Int}(h:0<=x/\x<256):0<=x/\x.toNat<256^1:=⟨h.1,by have:=h.2;have:=h.1;omega⟩
set_option maxHeartbeats 1000000 in
def writes_i{g:Nat}{w0 w:aH}{p:gT}{sl:Sl}{Q:Bool->aH->Prop}(h:Nu w0 (Ev g [] false) w)(hr:Rd w0 sl 1 eI p.cF)(hb:∀b,sl.b=some b->b.block<w0.heap.size)(hl:p.cF.length<=70000)
  (hQ:∀c w' m mc E N L,tB w0 g m nG mc (tC p) E N L w'->N<=60+p.cF.length*7->(tC p->E=lF p/\c=true)->Q c w'):sK (some ⟨g,0,none⟩) (GZ (p,sl)) w Q:=by
 unfold sK;have sll:=hr.len;refine tB.start (V:=tC p) (cs:=uA (p,sl)) h λw1 h1 k1=>?_;refine aE (k:=.i) p.kind (h1.cell rfl) ?_;refine h1.alloc [p.kind] λw2 h2=>?_;refine h2.Dt (ns:=[p.kind]) 1 dP rfl aB dP (λv x hx=>by rw[mR.1 hx];exact rng8 ⟨by have:=v.kind;omega,by have:=v.kind;omega⟩) λw3 h3=>?_;intro J1 OV;have HB:∀{E N L wx},tB w0 g w.heap.size nG (uA (p,sl)) (tC p) E N L wx->N<=60+p.cF.length*7->(tC p->E=lF p)->J1 () wx:=by
  intro E N L wx hx hN hE;apply OV;refine aE (k:=.i) p.kind (hx.cell rfl) (aF (λhk=>hQ _ _ _ _ _ _ _ hx hN λv=>⟨hE v,rfl⟩) (λhk=>aE (k:=.slice) sl (hx.cell rfl) (hQ _ _ _ _ _ _ _ hx hN λv=>⟨hE v,?_⟩)));have Wz:p.kind=5:=by simpa using hk
  have:=v.cF;rw[if_pos Wz] at this;exact decide_eq_true aB
 have jbad:∀{E N L wx},tB w0 g w.heap.size nG (uA (p,sl)) (tC p) E N L wx->N<=60+p.cF.length*7->¬tC p->Q false wx:=λhx hN hn=>hQ _ _ _ _ _ _ _ hx hN λv=>absurd v hn;refine aE (k:=.i) p.kind (h3.cell rfl) ?_;refine aF (λhk=>?_) (λRB=>?_)
 ·have hk:p.kind=1:=by simpa using hk
  refine aE (k:=.i) p.pos (h3.cell rfl) (aE (k:=.i) p.JV (h3.cell rfl) ?_);refine h3.alloc [p.pos,p.JV] λw4 h4=>?_;refine h4.Dt (ns:=[p.pos,p.JV]) 2 dP rfl aB dP (λv x hx=>?_) λw5 h5=>HB h5 (by simp;omega) λv=>?_
  ·have h1:=v.pos;have h2:=v.JV;rw[if_pos (.inl hk)] at h1;rw[if_pos hk] at h2;simp at hx;rcases hx with rfl|rfl
   ·exact RH h1
   ·exact RH h2
  ·unfold lF;rw[if_pos hk];simp
 have RB:¬p.kind=1:=by simpa using RB
 intro J2 Rp;have j29:p.kind=2\/p.kind=9->J2 (true,()) w3:=by
  intro hk;apply Rp;refine aF (λ_=>aE (k:=.i) p.pos (h3.cell rfl) ?_) (λh=>by cases h);refine h3.alloc [p.pos] λw4 h4=>?_;refine h4.Dt (ns:=[p.pos]) 2 dP rfl aB dP (λv x hx=>?_) λw5 h5=>HB h5 (by simp;omega) λv=>?_
  ·have h1:=v.pos;rw[if_pos (.inr hk)] at h1;rw[mR.1 hx];exact RH h1
  ·unfold lF;rw[if_neg RB,if_pos hk];simp
 have jr:¬(p.kind=2\/p.kind=9)->J2 (false,()) w3:=by
  intro hk29;apply Rp;refine aF (λh=>by cases h) (λ_=>aF (λhk=>?_) (λWz=>aF (λhk=>?_) (λhk7=>?_)))
  ·have hk:p.kind=5:=by simpa using hk
   have Ma:=h3.dr;refine aE (k:=.i) p.lI (Ma.cell rfl) (aE (k:=.slice) sl (Ma.cell rfl) (aE (k:=.slice) sl (Ma.cell rfl) ?_));rw[sll];have r5:tC p->∀x∈[p.lI],0<=x/\x.toNat<256^5:=λv x hx=>by
    have h1:=v.lI;rw[if_pos hk] at h1;rw[mR.1 hx];exact Oo h1
   have rl:tC p->∀x∈[(p.cF.length:Int)],0<=x/\x.toNat<256^2:=λv x hx=>by
    have h1:=v.cF;rw[if_pos hk] at h1;rw[mR.1 hx];exact⟨aB,aB⟩
   have re:tC p->∀x∈p.cF,0<=x/\x.toNat<256^2:=λv x hx=>by
    have h1:=v.cF;rw[if_pos hk] at h1;exact RH (h1.2 x hx)
   have hE:tC p->(((([]++[p.kind].flatMap λx=>be 1 x.toNat)++[p.lI].flatMap λx=>be 5 x.toNat)++[(p.cF.length:Int)].flatMap λx=>be 2 x.toNat)++p.cF.flatMap λx=>be 2 x.toNat)=lF p:=λv=>by
    unfold lF;rw[if_neg RB,if_neg hk29,if_pos hk];simp
   have al1:∀{E N L wx} {K:Addr->aH->Prop},tB w0 g w.heap.size nG (uA (p,sl)) (tC p) E N L wx->(∀w',tB w0 g w.heap.size nG (uA (p,sl)) (tC p) E N ((wx.heap.size,[p.lI])::L) w'->K ⟨wx.heap.size,0,none⟩ w')->aG wx #[aD p.lI] 3 K:=λhx hK=>hx.alloc [p.lI] hK;have al2:∀{E N L wx} {K:Addr->aH->Prop},tB w0 g w.heap.size nG (uA (p,sl)) (tC p) E N L wx->(∀w',tB w0 g w.heap.size nG (uA (p,sl)) (tC p) E N ((wx.heap.size,[(p.cF.length:Int)])::L) w'->K ⟨wx.heap.size,0,none⟩ w')->aG wx #[aD (p.cF.length:Int)] 3 K:=λhx hK=>hx.alloc [(p.cF.length:Int)] hK;have nm1:∀{E N L wx b} {K:cW->aH->Prop},tB w0 g w.heap.size nG (uA (p,sl)) (tC p) E N L wx->(b,[p.lI])∈L->N<=1000->(∀w',tB w0 g w.heap.size nG (uA (p,sl)) (tC p) (E++[p.lI].flatMap λx=>be 5 x.toNat) (N+1*7) L w'->K (some ⟨g,0,none⟩) w')->aT (some ⟨g,0,none⟩) (5:Int) ⟨some ⟨b,0,none⟩,1,1⟩ wx K:=λhx hm hN hK=>hx.Dt (ns:=[p.lI]) 5 hm rfl aB (by simp only[mH,TW];omega) r5 hK;have nm2:∀{E N L wx b} {K:cW->aH->Prop},tB w0 g w.heap.size nG (uA (p,sl)) (tC p) E N L wx->(b,[(p.cF.length:Int)])∈L->N<=1000->(∀w',tB w0 g w.heap.size nG (uA (p,sl)) (tC p) (E++[(p.cF.length:Int)].flatMap λx=>be 2 x.toNat) (N+1*7) L w'->K (some ⟨g,0,none⟩) w')->aT (some ⟨g,0,none⟩) (2:Int) ⟨some ⟨b,0,none⟩,1,1⟩ wx K:=λhx hm hN hK=>hx.Dt (ns:=[(p.cF.length:Int)]) 2 hm rfl aB (by simp only[mH,TW];omega) rl hK;have nm3:∀{E N L wx} {K:cW->aH->Prop},tB w0 g w.heap.size nG (uA (p,sl)) (tC p) E N L wx->N<=1000->(∀w',tB w0 g w.heap.size nG (uA (p,sl)) (tC p) (E++p.cF.flatMap λx=>be 2 x.toNat) (N+p.cF.length*7) L w'->K (some ⟨g,0,none⟩) w')->aT (some ⟨g,0,none⟩) (2:Int) sl wx K:=λhx hN hK=>hx.numsR 2 hr hb rfl aB aB re hK;have c3:∀{E N L wx},tB w0 g w.heap.size nG (uA (p,sl)) (tC p) E N L wx->wx.cell? ((⟨w.heap.size,0,none⟩:Addr).add 3)=some (Value.slice sl.b sl.l sl.c):=λhx=>hx.cell rfl;have c4:∀{E N L wx},tB w0 g w.heap.size nG (uA (p,sl)) (tC p) E N L wx->wx.cell? ((⟨w.heap.size,0,none⟩:Addr).add 4)=some (aD p.lI):=λhx=>hx.cell rfl;rw[sll] at c3;clear hQ h OV Rp j29
   repeat' first
    |exact HB (by assumption) (by simp only[mH,TW];omega) hE
    |with_reducible refine⟨c3 (by assumption),?_⟩
    |with_reducible refine⟨c4 (by assumption),?_⟩
    |with_reducible refine⟨?_,?_⟩
    |(with_reducible refine al1 (by assumption) ?_;intro wq hq)
    |(with_reducible refine al2 (by assumption) ?_;intro wq hq)
    |(with_reducible refine nm1 (by assumption) dP dP ?_;intro wq hq)
    |(with_reducible refine nm2 (by assumption) dP dP ?_;intro wq hq)
    |(with_reducible refine nm3 (by assumption) dP ?_;intro wq hq)
  ·have hk:p.kind=7:=by simpa using hk
   have Ma:=h3.dr;refine aE (k:=.i) p.eZ.cls (Ma.Br rfl) (aE (k:=.i) p.eZ.kL (Ma.Br rfl) (aE (k:=.i) p.eZ.pL (Ma.Br rfl) (aE (k:=.i) p.eZ.left (Ma.Br rfl) ?_)));have hh:tC p->(0<=p.eZ.cls/\p.eZ.cls<256)/\u16 (p.eZ.kL+1)/\u40 p.eZ.pL/\u40 p.eZ.left:=λv=>by have:=v.eZ;rwa[if_pos hk] at this
   have r1:tC p->∀x∈[p.eZ.cls],0<=x/\x.toNat<256^1:=λv x hx=>by rw[mR.1 hx];exact rng8 (hh v).1
   have r2:tC p->∀x∈[aQ (p.eZ.kL+(1:Int))],0<=x/\x.toNat<256^2:=λv x hx=>by
    have h1:=(hh v).2.1;rw[mR.1 hx,iH (by have:=h1.1;omega) (by have:=h1.2;omega)];exact RH h1
   have r5:tC p->∀x∈[p.eZ.pL,p.eZ.left],0<=x/\x.toNat<256^5:=λv x hx=>by
    have h1:=(hh v).2.2;simp at hx;rcases hx with rfl|rfl
    ·exact Oo h1.1
    ·exact Oo h1.2
   have hE:tC p->(((([]++[p.kind].flatMap λx=>be 1 x.toNat)++[p.eZ.cls].flatMap λx=>be 1 x.toNat)++[aQ (p.eZ.kL+(1:Int))].flatMap λx=>be 2 x.toNat)++[p.eZ.pL,p.eZ.left].flatMap λx=>be 5 x.toNat)=lF p:=λv=>by
    have h1:=(hh v).2.1;unfold lF;rw[if_neg RB,if_neg hk29,if_neg (by rw[hk];decide),if_pos hk,iH (n:=p.eZ.kL+1) (by have:=h1.1;omega) (by have:=h1.2;omega)];simp
   have al1:∀{E N L wx} {K:Addr->aH->Prop},tB w0 g w.heap.size nG (uA (p,sl)) (tC p) E N L wx->(∀w',tB w0 g w.heap.size nG (uA (p,sl)) (tC p) E N ((wx.heap.size,[p.eZ.cls])::L) w'->K ⟨wx.heap.size,0,none⟩ w')->aG wx #[aD p.eZ.cls] 3 K:=λhx hK=>hx.alloc [p.eZ.cls] hK;have al2:∀{E N L wx} {K:Addr->aH->Prop},tB w0 g w.heap.size nG (uA (p,sl)) (tC p) E N L wx->(∀w',tB w0 g w.heap.size nG (uA (p,sl)) (tC p) E N ((wx.heap.size,[aQ (p.eZ.kL+(1:Int))])::L) w'->K ⟨wx.heap.size,0,none⟩ w')->aG wx #[aD (aQ (p.eZ.kL+(1:Int)))] 3 K:=λhx hK=>hx.alloc [aQ (p.eZ.kL+(1:Int))] hK;have al3:∀{E N L wx} {K:Addr->aH->Prop},tB w0 g w.heap.size nG (uA (p,sl)) (tC p) E N L wx->(∀w',tB w0 g w.heap.size nG (uA (p,sl)) (tC p) E N ((wx.heap.size,[p.eZ.pL,p.eZ.left])::L) w'->K ⟨wx.heap.size,0,none⟩ w')->aG wx #[aD p.eZ.pL,aD p.eZ.left] 3 K:=λhx hK=>hx.alloc [p.eZ.pL,p.eZ.left] hK;have nm1:∀{E N L wx b} {K:cW->aH->Prop},tB w0 g w.heap.size nG (uA (p,sl)) (tC p) E N L wx->(b,[p.eZ.cls])∈L->N<=1000->(∀w',tB w0 g w.heap.size nG (uA (p,sl)) (tC p) (E++[p.eZ.cls].flatMap λx=>be 1 x.toNat) (N+1*7) L w'->K (some ⟨g,0,none⟩) w')->aT (some ⟨g,0,none⟩) (1:Int) ⟨some ⟨b,0,none⟩,1,1⟩ wx K:=λhx hm hN hK=>hx.Dt (ns:=[p.eZ.cls]) 1 hm rfl aB (by simp only[mH,TW];omega) r1 hK;have nm2:∀{E N L wx b} {K:cW->aH->Prop},tB w0 g w.heap.size nG (uA (p,sl)) (tC p) E N L wx->(b,[aQ (p.eZ.kL+(1:Int))])∈L->N<=1000->(∀w',tB w0 g w.heap.size nG (uA (p,sl)) (tC p) (E++[aQ (p.eZ.kL+(1:Int))].flatMap λx=>be 2 x.toNat) (N+1*7) L w'->K (some ⟨g,0,none⟩) w')->aT (some ⟨g,0,none⟩) (2:Int) ⟨some ⟨b,0,none⟩,1,1⟩ wx K:=λhx hm hN hK=>hx.Dt (ns:=[aQ (p.eZ.kL+(1:Int))]) 2 hm rfl aB (by simp only[mH,TW];omega) r2 hK;have nm3:∀{E N L wx b} {K:cW->aH->Prop},tB w0 g w.heap.size nG (uA (p,sl)) (tC p) E N L wx->(b,[p.eZ.pL,p.eZ.left])∈L->N<=1000->(∀w',tB w0 g w.heap.size nG (uA (p,sl)) (tC p) (E++[p.eZ.pL,p.eZ.left].flatMap λx=>be 5 x.toNat) (N+2*7) L w'->K (some ⟨g,0,none⟩) w')->aT (some ⟨g,0,none⟩) (5:Int) ⟨some ⟨b,0,none⟩,2,2⟩ wx K:=λhx hm hN hK=>hx.Dt (ns:=[p.eZ.pL,p.eZ.left]) 5 hm rfl aB (by simp only[mH,TW];omega) r5 hK;have c0:∀{E N L wx},tB w0 g w.heap.size nG (uA (p,sl)) (tC p) E N L wx->wx.cell? (((⟨w.heap.size,0,none⟩:Addr).add 5).add 0)=some (aD p.eZ.cls):=λhx=>hx.Br rfl;have c1:∀{E N L wx},tB w0 g w.heap.size nG (uA (p,sl)) (tC p) E N L wx->wx.cell? (((⟨w.heap.size,0,none⟩:Addr).add 5).add 1)=some (aD p.eZ.kL):=λhx=>hx.Br rfl;have c2:∀{E N L wx},tB w0 g w.heap.size nG (uA (p,sl)) (tC p) E N L wx->wx.cell? (((⟨w.heap.size,0,none⟩:Addr).add 5).add 2)=some (aD p.eZ.pL):=λhx=>hx.Br rfl;have c3:∀{E N L wx},tB w0 g w.heap.size nG (uA (p,sl)) (tC p) E N L wx->wx.cell? (((⟨w.heap.size,0,none⟩:Addr).add 5).add 3)=some (aD p.eZ.left):=λhx=>hx.Br rfl;clear hQ h OV Rp j29
   repeat' first
    |exact HB (by assumption) (by simp only[mH,TW];omega) hE
    |with_reducible refine⟨c3 (by assumption),?_⟩
    |with_reducible refine⟨c2 (by assumption),?_⟩
    |with_reducible refine⟨c1 (by assumption),?_⟩
    |with_reducible refine⟨c0 (by assumption),?_⟩
    |with_reducible refine⟨?_,?_⟩
    |(with_reducible refine al1 (by assumption) ?_;intro wq hq)
    |(with_reducible refine al2 (by assumption) ?_;intro wq hq)
    |(with_reducible refine al3 (by assumption) ?_;intro wq hq)
    |(with_reducible refine nm1 (by assumption) dP dP ?_;intro wq hq)
    |(with_reducible refine nm2 (by assumption) dP dP ?_;intro wq hq)
    |(with_reducible refine nm3 (by assumption) dP dP ?_;intro wq hq)
  ·have Wz:¬p.kind=5:=by simpa using Wz
   have hk7:¬p.kind=7:=by simpa using hk7
   have hE:tC p->([]++[p.kind].flatMap λx=>be 1 x.toNat)=lF p:=λv=>by
    unfold lF;rw[if_neg RB,if_neg hk29,if_neg Wz,if_neg hk7];simp
   have dX:J1 () w3:=HB h3 (by simp;omega) hE;refine aF (λh=>aF (λ_=>dX) (λh2=>by rw[h] at h2;cases h2)) (λWk=>aF (λh=>aF (λ_=>dX) (λh2=>by rw[h] at h2;cases h2)) (λh4=>aF (λh=>aF (λ_=>dX) (λh2=>by rw[h] at h2;cases h2)) (λh6=>aF (λ_=>dX) (λh8=>?_))));refine jbad h3 (by simp;omega) λv=>?_;have:=v.kind;simp at Wk h4 h6 h8;omega
 refine aF (λhk=>?_) (λhk=>?_)
 ·rw[hk];exact j29 (.inl (by simpa using hk))
 ·have GS:¬p.kind=2:=by simpa using hk
  by_cases hk9:p.kind=9
  ·rw[show(p.kind==(9:Int))=true by simpa using hk9];exact j29 (.inr hk9)
  ·rw[show(p.kind==(9:Int))=false by simpa using hk9];exact jr λh=>h.elim GS hk9
def Enc_i{w:aH}{p:gT}{sl:Sl}{Q:Sl->Int->aH->Prop}(hr:Rd w sl 1 eI p.cF)(hb:∀b,sl.b=some b->b.block<w.heap.size)(hl:p.cF.length<=70000)
  (hQ:∀r out e w',aL w w'->EG 1 eU r out w' (tF r)->(∀b,r.b=some b->w.heap.size<=b.block)->out.length<=60+p.cF.length*7->(tC p->out=lF p/\e=0)->Q r e w'):mE (GZ (p,sl)) w Q:=by
 unfold mE;refine cM (cs:=uA (p,sl)) λw1 b1 k1 z1=>?_;refine newW k1 λw2 n2 k2=>?_;have o2:=b1.1.aK k2 id;refine aZ (l:=iu) (GZ (p,sl)) (o2.holds λj v hj=>by rw[gK];exact hj) ?_;refine writes_i (w0:=w) n2 hr hb hl λc w3 m mc E N L h3 hN hv=>?_;refine aF (λhc=>?_) (λhc=>?_)
 ·refine hQ _ [] _ w3 h3.aO KF (λb hb=>by cases hb) (cY _) λv=>?_;have Lx:c=false:=by simpa using hc
  rw[(hv v).2] at Lx;cases Lx
 ·exact h3.bytes aB λr out er w4 h4 rd fr ln hv2=>hQ r out er w4 h4.aO rd fr aB λv=>⟨(hv2 v).1.trans (hv v).1,(hv2 v).2⟩
end
open Tryz (prog)
section
abbrev GX:=fK×Sl
abbrev eG(x:GX):gJ:=[aD x.1.aM,aD x.1.kind,aD x.1.seq,aD x.1.LH,aD x.1.code,aW x.2]
abbrev kG:List CK:=[.i,.i,.i,.i,.i,.slice]
abbrev JT(x:GX):Int×Int×Int×Int×Int×Sl×Unit:=(x.1.aM,x.1.kind,x.1.seq,x.1.LH,x.1.code,x.2,())
def Xh:∀x:GX,(eG x).length=6:=λ_=>rfl
def Mm:∀x:GX,∀u∈eG x,u.oneCell'=true:=by intro x u hu;simp at hu;rcases hu with rfl|rfl|rfl|rfl|rfl|rfl<;>rfl
def Bq(x:GX):eG x≠[]:=by simp
def qk{w:aH}{p:fK}{sl:Sl}{Q:Sl->Int->aH->Prop}(hr:Rd w sl 1 eU p.body)(hl:p.body.length<=80000)
  (hQ:∀r out e w',aL w w'->EG 1 eU r out w' (tF r)->(∀b,r.b=some b->w.heap.size<=b.block)->out.length<=3000->(Wo p->out=LL p/\e=0)->Q r e w'):qK (JT (p,sl)) w Q:=by
 unfold qK;refine cM (cs:=eG (p,sl)) λw1 b1 k1 z1=>?_;refine tB.new (V:=Wo p) k1 b1.1 λw2 h2=>?_;refine aE (k:=.i) p.aM (h2.cell rfl) ?_;refine h2.alloc [p.aM] λw3 h3=>?_;refine h3.Dt (ns:=[p.aM]) 4 dP rfl aB dP (λv x hx=>by rw[mR.1 hx];exact Bn v.aM) λw4 h4=>?_;intro J1 OV;have VW:∀e w',aL w w'->¬Wo p->Q bD e w':=λe w' k hn=>hQ _ [] e w' k KF (λb hb=>by cases hb) (cY _) λv=>absurd v hn;have HB:∀{E N L wx},tB w w1.heap.size w.heap.size HG (eG (p,sl)) (Wo p) E N L wx->N<=100000->(Wo p->E=nL p)->J1 () wx:=by
  intro E N L wx hx hN hE;apply OV;refine hx.bytes aB λr out er w5 h5 Wr f5 ln5 hv5=>?_;refine aF (λhe=>VW _ w5 h5.aO λv=>?_) (λhe=>?_)
  ·rw[(hv5 v).2] at he;simp at he
  ·refine aE (k:=.i) p.kind (h5.cell rfl) ?_;refine Wrap_i Wr.1 aB λr6 out6 e6 w6 k6 rd6 f6 l6 v6=>?_;refine hQ r6 out6 e6 w6 (h5.aO.tr k6) rd6 (λb hb=>by have:=f6 b hb;have:=h5.aO.size;omega) l6 λv=>?_;have e1:=(hv5 v).1;rw[hE v] at e1;have lb:(nL p).length<=2000:=by
    have hb:=v.body;unfold nL;rcases v.kind with hk|hk|hk
    ·rw[if_pos hk] at hb ⊢;simp only[fN,pT];omega
    ·rw[if_neg aB,if_pos hk];simp only[fN,pT];omega
    ·rw[if_neg aB,if_neg aB];simp only[fN,pT];omega
   have hk:=v.kind;have:=v6 aB aB (by rw[e1];exact lb);rw[this.1,this.2,e1];exact⟨rfl,rfl⟩
 refine aE (k:=.i) p.kind (h4.cell rfl) ?_;refine aF (λhk=>?_) (λRB=>aF (λhk=>?_) (λGS=>aF (λhk=>?_) (λuz=>VW _ w4 h4.aO λv=>?_)))
 ·have hk:p.kind=1:=by simpa using hk
  have h4d:=h4.dr;refine aE (k:=.i) p.seq (h4d.cell rfl) (aE (k:=.i) p.LH (h4d.cell rfl) (aE (k:=.slice) sl (h4d.cell rfl) ?_));refine h4d.alloc [p.seq,p.LH] λw5 h5=>⟨h5.cell rfl,?_⟩;refine h5.Dt (ns:=[p.seq,p.LH]) 4 dP rfl aB dP (λv x hx=>?_) λw6 h6=>⟨h6.cell rfl,?_⟩
  ·have h1:=v.seq;have h2:=v.LH;rw[if_pos hk] at h1;rw[if_neg aB] at h2;simp at hx;rcases hx with rfl|rfl
   ·exact Bn h1
   ·exact Bn h2
  refine h6.Ws hr (by simp;omega) λw7 h7=>HB h7 (by simp;omega) λv=>?_;unfold nL;rw[if_pos hk];simp
 ·have hk:p.kind=2:=by simpa using hk
  refine aE (k:=.i) p.LH (h4.cell rfl) ?_;refine h4.alloc [p.LH] λw5 h5=>?_;refine h5.Dt (ns:=[p.LH]) 4 dP rfl aB dP (λv x hx=>?_) λw6 h6=>HB h6 dP λv=>?_
  ·have h2:=v.LH;rw[if_neg aB] at h2;rw[mR.1 hx];exact Bn h2
  ·unfold nL;rw[if_neg aB,if_pos hk];simp
 ·have hk:p.kind=3:=by simpa using hk
  refine aE (k:=.i) p.code (h4.cell rfl) ?_;refine h4.alloc [p.code] λw5 h5=>?_;refine h5.Dt (ns:=[p.code]) 1 dP rfl aB dP (λv x hx=>?_) λw6 h6=>HB h6 dP λv=>?_
  ·have h2:=v.code;rw[if_pos hk] at h2;rw[mR.1 hx];exact rng8 h2
  ·unfold nL;rw[if_neg aB,if_neg aB];simp
 ·have:=v.kind;simp at RB GS uz;omega
def Nu.foc{w0 w:aH}{A B:As}{R:As->As}(h:Nu w0 A w)(f:∀S,A w S->js w S B R):∃S1,B w S1/\∀B' w' CH,Up S1 CH w w'->B' w' CH->Nu w0 (R B') w':=by
 obtain⟨⟨S,a,s⟩,m⟩:=h;obtain⟨S1,b,hs,eJ⟩:=(f S a).put;refine⟨S1,b,λB' w' CH u hb=>?_⟩;obtain⟨S',a',u'⟩:=eJ B' w' CH u hb;exact Nu.up m s u' a'
def Nu.add{w0 w w':aH}{A B:As}[bJ A](h:Nu w0 A w){T:BS}(k:aL w w')(hB:B w' T)(hT:∀k,T k->w.heap.size<=k):Nu w0 (bL A B) w':=by
 obtain⟨⟨S,a,s⟩,m⟩:=h;have z:=m.size;refine⟨⟨_,bL.yH (bJ.kp a k) hB λk hk ht=>?_,λk hk=>hk.elim (s k) λht=>?_⟩,m.trans k λ_ _ h=>h.elim⟩
 ·have:=bJ.iF a k hk;have:=hT k ht;omega
 ·have:=hT k ht;omega
section
variable{w0 w:aH}{g a:Nat}{l:List cH}{sp:Bool}{e:fL}{mc:gJ}{X Y:As}
def QP[bJ Y]{sz:Nat}{z:Int}{Q:Int->aH->Prop}(h:Nu w0 (bL (uL g l sp) Y) w)(hz:z=(sz:Int))(hs:1<=sz/\sz<=7)(hl:l.length<=100000)
  (hQ:∀(x:Nat) l' vN w',Nu w0 (bL (uL g l' vN) Y) w'->l'.length<=l.length->x<256^sz->(∀v t,sp=false->l=be sz v++t->v<256^sz->x=v/\l'=t/\vN=false)->Q (x:Int) w'):gF (some ⟨g,0,none⟩) z w Q:=by
 obtain⟨S1,b,eJ⟩:=h.foc λS h=>bL.l h;subst hz;exact Ts b hs hl λx l' vN w' S' a' GO u' h1 h2 h3=>hQ x l' vN w' (eJ _ w' S' u' a') h1 h2 h3
def FZ[bJ X][bJ Y]{t:fL}{o:Nat}{v:Value}{K:aH->Prop}(h:Nu w0 (bL X (bL (tE a e mc) Y)) w)(hi:(prog.info? t).map (·.size)=some 1)(ho:o<mc.length)(hc:v.cells=#[v])(h1:v.oneCell'=true)
  (hK:∀w',Nu w0 (bL X (bL (tE a e (mc.set o v)) Y)) w'->K w'):aJ prog t ((⟨a,0,none⟩:Addr).add o) v w K:=by
 obtain⟨S1,b,eJ⟩:=h.foc λS h=>(bL.r h).c λT hT=>bL.l hT;exact qP b hi ho hc h1 λw' b' u'=>hK w' (eJ _ w' _ u' b')
def xj[bJ X][bJ Y](h:Nu w0 (bL X (bL (tE a e mc) Y)) w){k:Nat}{v:Value}(hk:mc[k]? =some v):w.cell? ((⟨a,0,none⟩:Addr).add k)=some v:=by
 obtain⟨S1,b,_⟩:=h.foc λS h=>(bL.r h).c λT hT=>bL.l hT;exact aP b hk
def rOwn[bJ X][bJ Y](h:Nu w0 (bL X (bL (tE a e mc) Y)) w):cX w a e mc:=by
 obtain⟨S1,b,_⟩:=h.foc λS h=>(bL.r h).c λT hT=>bL.l hT;exact b.1
end
def Nu.map{w0 w:aH}{A B:As}(h:Nu w0 A w)(f:∀S,A w S->B w S):Nu w0 B w:=by
 obtain⟨⟨S,a,s⟩,m⟩:=h;exact⟨⟨S,f S a,s⟩,m⟩
def bL.emp_l{A:As}{w:aH}{S:BS}(h:bL EH A w S):A w S:=by
 obtain⟨S1,S2,h1,h2,d,e⟩:=h;have:S=S2:=funext λk=>propext ((e k).trans ⟨λh=>h.elim (λh=>absurd h (h1 k)) id,.inr⟩);rw[this];exact h2
def pt{w:aH}{S:BS}(h:EH w S):EG 1 eU bD [] w S:=⟨Rd.nil _ _ _,fV,λb hb=>(by cases hb),λk=>⟨λhk=>absurd hk (h k),λ⟨b,hb,_⟩=>by cases hb⟩⟩
structure GDec(bs:List cH)(g:fK)(e:Int):Prop where
 seq:u32 g.seq
 LH:u32 g.LH
 len:g.body.length<=bs.length
 ok:∀g0,Wo g0->bs=LL g0->g=g0/\e=0
 nf:∀x r,bs=x::r->x≠BitVec.ofNat 8 77->¬e=0
def ql{b:Sl}{bs:List cH}{w:aH}{Q:Int×Int×Int×Int×Int×Sl×Unit->Int->aH->Prop}(hb:Rd w b 1 eU bs)(hl:bs.length<=5000)
  (hQ:∀g sl e w',aL w w'->EG 1 eU sl g.body w' (tF sl)->(∀b,sl.b=some b->w.heap.size<=b.block)->GDec bs g e->Q (JT (g,sl)) e w'):tV b w Q:=by
 unfold tV
 let z0:GX:=(⟨0,0,0,0,0,[]⟩,bD)
 refine cM (cs:=eG z0) λw1 b1 k1 z1=>?_;have VW:∀e wx,¬e=0->aL w wx->cX wx w.heap.size HG (eG z0)->(∀g0,Wo g0->bs=LL g0->False)->aJ prog HG ⟨w.heap.size,0,none⟩ (Value.agg (eG z0).toArray) wx λw3=>fI kG w3 ⟨w.heap.size,0,none⟩ λt1=>Q (t1.1,t1.2.1,t1.2.2.1,t1.2.2.2.1,t1.2.2.2.2.1,t1.2.2.2.2.2.1,()) e w3:=by intro e wx gQ kx ox hx;refine fJ ox sF rfl (Mm _) λw3 o3 m3 _=>?_;refine aZ (l:=kG) (JT z0) (o3.holds λj v hj=>by rw[gK];exact hj) ?_;exact hQ z0.1 z0.2 e w3 (kx.fresh m3 λk e=>by rw[show k=w.heap.size from e];exact dN _) KF (λb hb=>by cases hb) ⟨⟨by decide,by decide⟩,⟨by decide,by decide⟩,cY _,λg0 h1 h2=>(hx g0 h1 h2).elim,λ_ _ _ _=>gQ⟩
 refine Unwrap_i (hb.aK k1 fV λ_ _=>id) aB λkind s1 e1 body w2 k2 Ls f2 l2 v2 nf2=>?_;have o2:=b1.1.aK k2 id;have K2:=k1.tr k2;have HD:∀g0,Wo g0->bs=LL g0->kind=g0.kind/\body=nL g0/\e1=0:=λg0 h1 h2=>by
  have hk:=h1.kind;refine v2 g0.kind (nL g0) aB aB ?_ h2;have hb:=h1.body;unfold nL;rcases hk with hk|hk|hk
  ·rw[if_pos hk] at hb ⊢;simp only[fN,pT];omega
  ·rw[if_neg aB,if_pos hk];simp only[fN,pT];omega
  ·rw[if_neg aB,if_neg aB];simp only[fN,pT];omega
 refine aF (λhe=>VW e1 w2 (by simpa using he) K2 o2 λg0 h1 h2=>?_) (λhe1=>?_)
 ·rw[(HD g0 h1 h2).2.2] at he;simp at he
 refine qd Ls.1 aB λg w3 S3 a3 k3 s3=>?_;have n3:Nu w2 (bL (uL g body false) EH) w3:=Nu.of (bL.emp a3) s3 k3;refine QP n3 (sz:=4) rfl aB aB λx4 l4 sp4 w4 n4 c4 b4 v4=>?_;refine cM (cs:=eG z0) λw5 b5 k5 z5=>?_;have n5:Nu w2 (bL (uL g l4 sp4) (bL (tE w4.heap.size HG (eG z0)) EH)) w5:=by obtain⟨⟨S,a,s⟩,m⟩:=n4;obtain⟨S',a',u'⟩:=a.drop;exact Nu.add (⟨⟨S',a',λk hk=>(u'.s k hk).elim (s k) λh=>jB m.size h⟩,m⟩:Nu w2 (uL g l4 sp4) w4) k5 (bL.emp b5) λk hk=>aB
 let g1 (x:Nat) (sq ak cd:Int) (sl:Sl):gJ:=[aD (x:Int),aD kind,aD sq,aD ak,aD cd,aW sl]
 obtain⟨S6,bb6,HO⟩:=n5.foc λS h=>(bL.r h).c λT hT=>bL.l hT;refine fJ (vs:=g1 x4 0 0 0 bD) bb6.1 sF rfl (by simp[g1,Value.oneCell']) λw6 o6 m6 _=>?_;have n6:Nu w2 (bL (uL g l4 sp4) (bL (tE w4.heap.size HG (g1 x4 0 0 0 bD)) EH)) w6:=HO _ w6 _ (bb6.up o6 m6).2 (bb6.up o6 m6).1;intro J1 OV;have HB:∀(sq ak:Nat) (cd:Int) (sl:Sl) (bd l':List cH) (vN:Bool) wx,sq<256^4->ak<256^4->bd.length<=bs.length->Nu w2 (bL (uL g l' vN) (bL (tE w4.heap.size HG (g1 x4 sq ak cd sl)) (EG 1 eU sl bd))) wx->(∀b,sl.b=some b->w.heap.size<b.block)->
   (∀g0,Wo g0->bs=LL g0->(⟨(x4:Int),kind,sq,ak,cd,bd⟩:fK)=g0)->J1 () wx:=by
  intro sq ak cd sl bd l' vN wx hsq hak FP nx fx hx;apply OV
  let p:fK:=⟨(x4:Int),kind,sq,ak,cd,bd⟩
  have ox:=rOwn nx;refine aZ (l:=kG) (JT (p,sl)) (ox.holds λj v hj=>by rw[gK];exact hj) ?_;have rdx:∃T,EG 1 eU sl bd wx T:=by obtain⟨T,b,_⟩:=nx.foc λS h=>(bL.r h).c λT hT=>bL.r hT;exact⟨T,b⟩
  obtain⟨T,rdx⟩:=rdx;have Kx:=K2.tr nx.aO;refine qk (p:=p) (sl:=sl) rdx.1 (by show bd.length<=_;omega) λr7 out7 e7 w7 k7 rd7 f7 l7 v7=>?_;have o17:cX w7 w.heap.size HG (eG z0):=(o2.aK nx.aO id).aK k7 id;have K7:=Kx.tr k7;have Sq:∀g0,Wo g0->bs=LL g0->out7=bs/\e7=0:=λg0 h1 h2=>by
   have e:p=g0:=hx g0 h1 h2;have:=v7 (by rw[e];exact h1);rw[this.1,e,h2];exact⟨rfl,this.2⟩
  refine aF (λhe=>VW _ w7 (by decide) K7 o17 λg0 h1 h2=>?_) (λhe=>?_)
  ·rw[(Sq g0 h1 h2).2] at he;simp at he
  refine aAj rd7.1 (hb.aK K7 fV λ_ _=>id) λc hc=>?_;refine aF (λQL=>VW _ w7 (by decide) K7 o17 λg0 h1 h2=>?_) (λQL=>?_)
  ·rw[hc (Sq g0 h1 h2).1] at QL;cases QL
  have ox7:=ox.aK k7 id;refine aZ (l:=kG) (JT (p,sl)) (ox7.holds λj v hj=>by rw[gK];exact hj) ?_;refine fJ (vs:=eG (p,sl)) o17 sF rfl (Mm _) λw8 o8 m8 _=>?_;refine aZ (l:=kG) (JT (p,sl)) (o8.holds λj v hj=>by rw[gK];exact hj) ?_;have rd8:=bJ.kp rdx k7;refine hQ p sl 0 w8 (K7.fresh m8 λk e=>by rw[show k=w.heap.size from e];exact dN _) ⟨rd8.1.aK m8 fV λb hb e=>?_,fV,λb hb=>by have:=rd8.2.2.1 b hb;have:=m8.size;omega,λ_=>Iff.rfl⟩ (λb hb=>Nat.le_of_lt (fx b hb)) ⟨⟨by show(0:Int)<=sq;omega,by show(sq:Int)<_;omega⟩,⟨by show(0:Int)<=ak;omega,by show(ak:Int)<_;omega⟩,FP,λg0 h1 h2=>⟨hx g0 h1 h2,rfl⟩,λx r hb hx=>(nf2 x r hb hx (by simpa using he1)).elim⟩;have:=fx b hb;omega
 have iv:∀g0,Wo g0->bs=LL g0->∀t,nL g0=be 4 g0.aM.toNat++t->x4=g0.aM.toNat/\l4=t/\sp4=false:=λg0 h1 h2 t ht=>by
  obtain⟨_,e2,_⟩:=HD g0 h1 h2;exact v4 _ t rfl (by rw[e2,ht]) (Bn h1.aM).2
 have le4:256^4=4294967296:=rfl;refine aF (λhk=>?_) (λRB=>aF (λhk=>?_) (λGS=>aF (λhk=>?_) (λuz=>?_)))
 ·have hk:kind=1:=by simpa using hk
  refine QP n6 (sz:=4) rfl aB aB λx7 l7 sp7 w7 n7 c7 b7 v7=>?_;refine QP n7 (sz:=4) rfl aB aB λx8 l8 sp8 w8 n8 c8 b8 v8=>?_;refine FZ n8 cV (by simp[g1]) rfl rfl λw9 n9=>?_;refine FZ n9 cV (by simp[g1]) rfl rfl λfG n10=>?_;obtain⟨ZD,tA,back10⟩:=n10.foc λS h=>bL.l h;refine aAh tA λyG e11 b11=>?_;refine qe tA aB λr12 out12 l12 sp12 eO ZL JH hs12 Fw rd12 f12 c12 d12 Lu Dc=>?_;have z10:=n10.size;have n12:Nu w2 (bL (uL g l12 sp12) (bL (tE w4.heap.size HG (g1 x4 x7 x8 0 bD)) (EG 1 eU r12 out12))) eO:=by have:=back10 (bL (uL g l12 sp12) (EG 1 eU r12 out12)) eO _ ⟨Fw.m,λk hk=>hk.elim (λh=>.inl (hs12 k h)) λ⟨b,hb,e⟩=>.inr (by rw[e];exact f12 b hb)⟩ (bL.yH JH rd12 λk hk ⟨b,hb,e⟩=>by have:=bJ.iF tA k (hs12 k hk);have:=f12 b hb;omega);exact this.map λS h=>h.asr.mono (λ_ h=>h) λ_ h=>h.cm.asr.mono (λ_ h=>h) λ_ h=>bL.emp_l h
  obtain⟨S12',bb12,UM⟩:=n12.foc λS h=>(bL.r h).c λT hT=>bL.l hT;refine qP (v:=aW r12) bb12 UQ (by simp[g1]) rfl rfl λiE b13 u13=>?_;have n13:=UM _ iE _ u13 b13;refine HB x7 x8 0 r12 out12 l12 sp12 iE b7 b8 aB n13 (λb hb=>by have:=f12 b hb;have:=k2.size;omega) λg0 h1 h2=>?_;obtain⟨e0,e2,_⟩:=HD g0 h1 h2;have hgk:g0.kind=1:=aB;have hs:=h1.seq;have ha:=h1.LH;have hc:=h1.code;have Gh:=h1.aM;rw[if_pos hgk] at hs;rw[if_neg aB] at ha;rw[if_neg aB] at hc;obtain⟨q1,rfl,rfl⟩:=iv g0 h1 h2 (be 4 g0.seq.toNat++(be 4 g0.LH.toNat++g0.body)) (by unfold nL;rw[if_pos hgk];simp);obtain⟨q2,rfl,rfl⟩:=v7 _ _ rfl rfl (Bn hs).2;obtain⟨q3,rfl,rfl⟩:=v8 _ _ rfl rfl (Bn ha).2;obtain⟨q4,_,_⟩:=Dc g0.body [] rfl dP (by rw[e11 rfl]);obtain⟨c,k,sq,ak,cd,bd⟩:=g0;simp only[fK.mk.injEq];have h01:=hs.1;have h02:=ha.1;have h03:=Gh.1;simp only at*;exact⟨aB,aB,aB,aB,aB,q4⟩
 ·have hk:kind=2:=by simpa using hk
  refine QP n6 (sz:=4) rfl aB aB λx7 l7 sp7 w7 n7 c7 b7 v7=>?_;refine FZ n7 cV (by simp[g1]) rfl rfl λw8 n8=>?_;refine HB 0 x7 0 bD [] l7 sp7 w8 aB b7 (cY _) (n8.map λS h=>h.mono (λ_ h=>h) λ_ h=>h.mono (λ_ h=>h) λ_ h=>pt h) (λb hb=>by cases hb) λg0 h1 h2=>?_;obtain⟨e0,e2,_⟩:=HD g0 h1 h2;have hgk:g0.kind=2:=aB;have hs:=h1.seq;have ha:=h1.LH;have hc:=h1.code;have hb:=h1.body;have Gh:=h1.aM;rw[if_neg aB] at hs hc ha hb;obtain⟨q1,rfl,rfl⟩:=iv g0 h1 h2 (be 4 g0.LH.toNat) (by unfold nL;rw[if_neg aB,if_pos hgk]);obtain⟨q2,_,_⟩:=v7 _ [] rfl dP (Bn ha).2;obtain⟨c,k,sq,ak,cd,bd⟩:=g0;simp only[fK.mk.injEq];have h02:=ha.1;have h03:=Gh.1;simp only at*;exact⟨aB,aB,aB,aB,aB,hb.symm⟩
 ·have hk:kind=3:=by simpa using hk
  refine QP n6 (sz:=1) rfl aB aB λx7 l7 sp7 w7 n7 c7 b7 v7=>?_;refine FZ n7 cV (by simp[g1]) rfl rfl λw8 n8=>?_;refine HB 0 0 x7 bD [] l7 sp7 w8 aB aB (cY _) (n8.map λS h=>h.mono (λ_ h=>h) λ_ h=>h.mono (λ_ h=>h) λ_ h=>pt h) (λb hb=>by cases hb) λg0 h1 h2=>?_;obtain⟨e0,e2,_⟩:=HD g0 h1 h2;have hgk:g0.kind=3:=aB;have hs:=h1.seq;have ha:=h1.LH;have hc:=h1.code;have hb:=h1.body;have Gh:=h1.aM;rw[if_neg aB] at hs hb;rw[if_pos hgk] at ha hc;obtain⟨q1,rfl,rfl⟩:=iv g0 h1 h2 (be 1 g0.code.toNat) (by unfold nL;rw[if_neg aB,if_neg aB]);obtain⟨q2,_,_⟩:=v7 _ [] rfl dP (rng8 hc).2;obtain⟨c,k,sq,ak,cd,bd⟩:=g0;simp only[fK.mk.injEq];have h02:=hc.1;have h03:=Gh.1;simp only at*;exact⟨aB,aB,aB,aB,aB,hb.symm⟩
 ·have hk1':¬kind=1:=by simpa using RB
  have hk2':¬kind=2:=by simpa using GS
  have hk3':¬kind=3:=by simpa using uz
  refine HB 0 0 0 bD [] l4 sp4 w6 aB aB (cY _) (n6.map λS h=>h.mono (λ_ h=>h) λ_ h=>h.mono (λ_ h=>h) λ_ h=>pt h) (λb hb=>by cases hb) λg0 h1 h2=>?_;obtain⟨e0,_,_⟩:=HD g0 h1 h2;have:=h1.kind;omega
end
def PD{α:Type}{t e:fL}{n bytes:Nat}{z:gJ}(hE:sW prog t e n bytes z){aY:α->gJ}(gI:∀x,(aY x).length=n)(jL:∀x,∀u∈aY x,u.oneCell'=true)
  {w:aH} {S:BS} {s x:Sl} {xs ys:List α} (h:pK e n aY s xs w S) (hx:Rd w x n aY ys) (hl:xs.length+ys.length<=1000000) (hb:bytes<=1000) {K:Sl->aH->Prop}
  (hK:∀r w' S',pK e n aY r (xs++ys) w' S'->Up S S' w w'->K r w'):aX prog t t s (aW x) w K:=by
 have hm:(xs.length+ys.length)*bytes<=1000000*1000:=TS hl hb;refine fH hE gI jL h.1 hx aB aB λr w' v m hr hn=>hK r w' _ ⟨v,λ_=>Iff.rfl⟩ ⟨m.mono λk _ hk=>(h.2 k).2 hk,λk hk=>?_⟩;obtain⟨b,hb,rfl⟩:=hk;rcases hr with h2|⟨a,h1,h2⟩
 ·exact .inl ((h.2 _).2 ⟨b,h2.symm.trans hb,rfl⟩)
 ·rw[hb] at h1;cases h1;exact .inr h2
structure MDec(bs:List cH)(m:gT)(e:Int):Prop where
 len:m.cF.length<=70000
 ok:∀m0,tC m0->bs=lF m0->m=m0/\e=0
def Pz(l:cR):(l.flatMap λe=>be 2 e.toNat).length=l.length*2:=by
 induction l with
 |nil=>rfl
 |cons a l ih=>rw[FU,fN,ih,pT,mH];omega
set_option maxHeartbeats 1000000 in
def qj{b:Sl}{bs:List cH}{w:aH}{Q:MT->Int->aH->Prop}(hb:Rd w b 1 eU bs)(hl:bs.length<=5000)
  (hQ:∀m sl e w',aL w w'->EG 1 eI sl m.cF w' (tF sl)->(∀b,sl.b=some b->w.heap.size<=b.block)->MDec bs m e->Q (GZ (m,sl)) e w'):mF b w Q:=by
 unfold mF
 let z0:MX:=(⟨0,0,0,[],0,⟨0,0,0,0⟩⟩,bD)
 refine cM (cs:=uA z0) λw1 b1 k1 z1=>?_;have VW:∀mc wx,aL w wx->cX wx w.heap.size nG mc->mc.length=9->(∀m0,tC m0->bs=lF m0->False)->aJ prog nG ⟨w.heap.size,0,none⟩ (Value.agg (uA z0).toArray) wx λw3=>fI iu w3 ⟨w.heap.size,0,none⟩ λt1=>Q (t1.1,t1.2.1,t1.2.2.1,t1.2.2.2.1,t1.2.2.2.2.1,t1.2.2.2.2.2.1,t1.2.2.2.2.2.2.1,t1.2.2.2.2.2.2.2.1,t1.2.2.2.2.2.2.2.2.1,()) 2 w3:=by intro mc wx kx ox gL hx;refine fJ ox DC gL (RK _) λw3 o3 m3 _=>?_;refine aZ (l:=iu) (GZ z0) (o3.holds λj v hj=>by rw[gK];exact hj) ?_;exact hQ z0.1 z0.2 2 w3 (kx.fresh m3 λk e=>by rw[show k=w.heap.size from e];exact dN _) ⟨Rd.nil _ _ _,cU,λb hb=>(by cases hb),λ_=>Iff.rfl⟩ (λb hb=>by cases hb) ⟨cY _,λm0 h1 h2=>(hx m0 h1 h2).elim⟩
 refine qd (hb.aK k1 fV λ_ _=>id) aB λg w2 S2 a2 k2 s2=>?_;have n2:Nu w (bL (uL g bs false) (bL (tE w.heap.size nG (uA z0)) EH)) w2:=by have n1:Nu w (tE w.heap.size nG (uA z0)) w1:=Nu.of b1 (λk hk=>aB) k1;exact(n1.add k2 a2 s2).map λS h=>h.cm.mono (λ_ h=>h) λ_ h=>bL.emp h
 refine QP n2 (sz:=1) rfl aB aB λx3 l3 sp3 w3 n3 c3 b3 v3=>?_;refine FZ n3 cV (by simp[z0]) rfl rfl λw4 n4=>?_;intro J1 OV;have vecN:∀{wx:aH} {S:BS},EH wx S->pK dA 1 eI bD ([]:cR) wx S:=λ{wx S} h=>⟨dE.nil _ _ _ _,λk=>⟨λhk=>absurd hk (h k),λ⟨b,hb,_⟩=>by cases hb⟩⟩;have HB:∀(m:gT) (sl:Sl) l' vN wx,Nu w (bL (uL g l' vN) (bL (tE w.heap.size nG (uA (m,sl))) (pK dA 1 eI sl m.cF))) wx->m.cF.length<=70000->(∀m0,tC m0->bs=lF m0->m=m0)->J1 () wx:=by
  intro m sl l' vN wx nx jc hx;apply OV;have ox:=rOwn nx;refine aZ (l:=iu) (GZ (m,sl)) (ox.holds λj v hj=>by rw[gK];exact hj) ?_;obtain⟨⟨S,⟨S1,S2,uu,⟨S3,S4,kr,hv4,d34,Xb⟩,d12,e12⟩,hS⟩,mx⟩:=nx;have fx:∀b,sl.b=some b->w.heap.size<=b.block/\b.block≠w.heap.size/\b.block<wx.heap.size:=λb hb=>by
   have h4:S4 b.block:=(hv4.2 _).2 ⟨b,hb,rfl⟩;exact⟨hS _ ((e12 _).2 (.inr ((Xb _).2 (.inr h4)))),λe=>d34 _ ((kr.2 _).2 e) h4,bJ.iF hv4 _ h4⟩
  have Kx:aL w wx:=(aU.refl (λ_=>False) w).fresh mx λ_=>id;have rdx:=hv4.1.rd eY;refine Enc_i rdx (λb hb=>(fx b hb).2.2) jc λr7 out7 e7 w7 k7 rd7 f7 l7 v7=>?_;have K7:=Kx.tr k7;have o7:=ox.aK k7 id;have Sq:∀m0,tC m0->bs=lF m0->out7=bs/\e7=0:=λm0 h1 h2=>by
   have e:m=m0:=hx m0 h1 h2;have:=v7 (by rw[e];exact h1);rw[this.1,e,h2];exact⟨rfl,this.2⟩
  refine aF (λhe=>VW _ w7 K7 o7 rfl λm0 h1 h2=>?_) (λhe=>?_)
  ·rw[(Sq m0 h1 h2).2] at he;simp at he
  refine aAj rd7.1 (hb.aK K7 fV λ_ _=>id) λc hc=>?_;refine aF (λQL=>VW _ w7 K7 o7 rfl λm0 h1 h2=>?_) (λQL=>?_)
  ·rw[hc (Sq m0 h1 h2).1] at QL;cases QL
  refine aZ (l:=iu) (GZ (m,sl)) (o7.holds λj v hj=>by rw[gK];exact hj) ?_;refine fJ (vs:=uA (m,sl)) o7 DC rfl (RK _) λw8 o8 m8 z8=>?_;refine aZ (l:=iu) (GZ (m,sl)) (o8.holds λj v hj=>by rw[gK];exact hj) ?_;refine hQ m sl 0 w8 (K7.fresh m8 λk e=>by rw[show k=w.heap.size from e];exact dN _) ⟨(rdx.aK k7 cU λ_ _=>id).aK m8 cU λb hb e=>(fx b hb).2.1 e,cU,λb hb=>by have:=(fx b hb).2.2;have:=k7.size;omega,λ_=>Iff.rfl⟩ (λb hb=>(fx b hb).1) ⟨jc,λm0 h1 h2=>⟨hx m0 h1 h2,rfl⟩⟩
 have toV:∀{mc l' vN wx},Nu w (bL (uL g l' vN) (bL (tE w.heap.size nG mc) EH)) wx->Nu w (bL (uL g l' vN) (bL (tE w.heap.size nG mc) (pK dA 1 eI bD ([]:cR)))) wx:=λh=>h.map λS h=>h.mono (λ_ h=>h) λ_ h=>h.mono (λ_ h=>h) λ_ h=>vecN h;have HD:∀m0,tC m0->bs=lF m0->(x3:Int)=m0.kind/\sp3=false/\be 1 m0.kind.toNat++l3=lF m0:=λm0 h1 h2=>by
  have hk:=h1.kind;have h3:∃t,lF m0=be 1 m0.kind.toNat++t:=⟨_,rfl⟩;obtain⟨t,ht⟩:=h3;obtain⟨e1,rfl,e3⟩:=v3 _ t rfl (by rw[h2,ht]) aB;exact⟨aB,e3,ht.symm⟩
 have cO:∀m0 t,tC m0->bs=lF m0->lF m0=be 1 m0.kind.toNat++t->l3=t:=λm0 t h1 h2 h3=>by
  have:=(HD m0 h1 h2).2.2;rw[h3] at this;exact List.append_cancel_left this
 have hz:∀m0,tC m0->m0.kind≠7->m0.eZ=⟨0,0,0,0⟩:=λm0 h hk=>by have:=h.eZ;rwa[if_neg hk] at this
 have hwt:∀m0,tC m0->m0.kind≠5->m0.lI=0/\m0.cF=[]:=λm0 h hk=>⟨by have:=h.lI;rwa[if_neg hk] at this,by have:=h.cF;rwa[if_neg hk] at this⟩;have hd:∀m0,tC m0->m0.kind≠1->m0.JV=0:=λm0 h hk=>by have:=h.JV;rwa[if_neg hk] at this
 have hps:∀m0,tC m0->¬(m0.kind=1\/m0.kind=2\/m0.kind=9)->m0.pos=0:=λm0 h hk=>by have:=h.pos;rwa[if_neg hk] at this
 refine aE (k:=.i) (x3:Int) (xj n4 rfl) ?_;refine aF (λhk=>?_) (λRB=>?_)
 ·have hk:(x3:Int)=1:=by simpa using hk
  refine QP n4 (sz:=2) rfl aB aB λx5 l5 sp5 w5 n5 c5 b5 v5=>?_;refine QP n5 (sz:=2) rfl aB aB λx6 l6 sp6 w6 n6 c6 b6 v6=>?_;refine FZ n6 cV (by simp[z0]) rfl rfl λw7 n7=>?_;refine FZ n7 cV (by simp[z0]) rfl rfl λw8 n8=>?_;refine HB ⟨x3,x5,x6,[],0,⟨0,0,0,0⟩⟩ bD l6 sp6 w8 (toV n8) (cY _) λm0 h1 h2=>?_;obtain⟨e1,e2,e3⟩:=HD m0 h1 h2;have Ro:m0.kind=1:=aB;have hp:=h1.pos;have hde:=h1.JV;rw[if_pos (.inl Ro)] at hp;rw[if_pos Ro] at hde;have e4:=cO m0 (be 2 m0.pos.toNat++be 2 m0.JV.toNat) h1 h2 (by unfold lF;rw[if_pos Ro]);obtain⟨q1,rfl,q2⟩:=v5 _ _ e2 e4 (RH hp).2;obtain⟨q3,_,_⟩:=v6 _ [] q2 dP (RH hde).2;have q5:=hz m0 h1 aB;have q6:=hwt m0 h1 aB;obtain⟨k,ps,ds,es,wt,hh⟩:=m0;simp only[gT.mk.injEq];have h02:=hp.1;have h03:=hde.1;simp only at*;exact⟨aB,aB,aB,q6.2.symm,q6.1.symm,q5.symm⟩
 have RB:¬(x3:Int)=1:=by simpa using RB
 intro J2 Rp;have j29:(x3:Int)=2\/(x3:Int)=9->J2 (true,()) w4:=by intro hk;apply Rp;refine aF (λ_=>?_) (λh=>by cases h);refine QP n4 (sz:=2) rfl aB aB λx5 l5 sp5 w5 n5 c5 b5 v5=>?_;refine FZ n5 cV (by simp[z0]) rfl rfl λw7 n7=>?_;refine HB ⟨x3,x5,0,[],0,⟨0,0,0,0⟩⟩ bD l5 sp5 w7 (toV n7) (cY _) λm0 h1 h2=>?_;obtain⟨e1,e2,e3⟩:=HD m0 h1 h2;have Ro:m0.kind=2\/m0.kind=9:=aB;have hp:=h1.pos;rw[if_pos (.inr Ro)] at hp;have e4:=cO m0 (be 2 m0.pos.toNat) h1 h2 (by unfold lF;rw[if_neg aB,if_pos Ro]);obtain⟨q1,_,q2⟩:=v5 _ [] e2 (by rw[e4];simp) (RH hp).2;have q5:=hz m0 h1 aB;have q6:=hwt m0 h1 aB;have q7:=hd m0 h1 aB;obtain⟨k,ps,ds,es,wt,hh⟩:=m0;simp only[gT.mk.injEq];have h02:=hp.1;simp only at*;exact⟨aB,aB,aB,q6.2.symm,q6.1.symm,q5.symm⟩
 have jr:¬((x3:Int)=2\/(x3:Int)=9)->J2 (false,()) w4:=by
  intro hk29;apply Rp;refine aF (λh=>by cases h) (λ_=>aF (λhk=>?_) (λWz=>aF (λhk=>?_) (λhk7=>?_)))
  ·have hk:(x3:Int)=5:=by simpa using hk
   refine QP n4 (sz:=5) rfl aB aB λx5 l5 sp5 w5 n5 c5 b5 v5=>?_;refine FZ n5 cV (by simp[z0]) rfl rfl λw7 n7=>?_;refine QP n7 (sz:=2) rfl aB aB λx8 l8 sp8 w8 n8 c8 b8 v8=>?_;have fr:∀m0,tC m0->bs=lF m0->m0.kind=5/\(x5:Int)=m0.lI/\l8=(m0.cF.flatMap λe=>be 2 e.toNat)/\sp8=false/\x8=m0.cF.length:=λm0 h1 h2=>by
    obtain⟨e1,e2,e3⟩:=HD m0 h1 h2;have Ro:m0.kind=5:=aB;have hw:=h1.lI;have he:=h1.cF;rw[if_pos Ro] at hw he;have e4:=cO m0 (be 5 m0.lI.toNat++(be 2 m0.cF.length++m0.cF.flatMap λe=>be 2 e.toNat)) h1 h2 (by unfold lF;rw[if_neg aB,if_neg aB,if_pos Ro];simp);obtain⟨q1,rfl,q2⟩:=v5 _ _ e2 e4 (Oo hw).2;obtain⟨q3,rfl,q4⟩:=v8 _ _ q2 rfl aB;have:=hw.1;exact⟨Ro,aB,rfl,q4,q3⟩
   have dX:∀es sl l' vN wx,Nu w (bL (uL g l' vN) (bL (tE w.heap.size nG (uA (⟨x3,0,0,es,x5,⟨0,0,0,0⟩⟩,sl))) (pK dA 1 eI sl es))) wx->es.length<=70000->(∀m0,tC m0->bs=lF m0->m0.cF=es)->J1 () wx:=by intro es sl l' vN wx nx Wf hx;refine HB ⟨x3,0,0,es,x5,⟨0,0,0,0⟩⟩ sl l' vN wx nx Wf λm0 h1 h2=>?_;obtain⟨Ro,q1,_⟩:=fr m0 h1 h2;have q2:=hx m0 h1 h2;have q5:=hz m0 h1 aB;have q6:=hps m0 h1 aB;have q7:=hd m0 h1 aB;obtain⟨k,ps,ds,es,wt,hh⟩:=m0;simp only[gT.mk.injEq];simp only at*;exact⟨aB,aB,aB,q2.symm,q1,q5.symm⟩
   refine bK (λc t DR=>∃(n:Nat) (es:cR) (sl:Sl) (l':List cH) (vN:Bool),c=n/\t=((n:Int),())/\es.length+n<=65536/\l'.length<=5000/\Nu w (bL (uL g l' vN) (bL (tE w.heap.size nG (uA (⟨x3,0,0,es,x5,⟨0,0,0,0⟩⟩,sl))) (pK dA 1 eI sl es))) DR/\
    ∀m0,tC m0->bs=lF m0->∃rem,m0.cF=es++rem/\l'=(rem.flatMap λe=>be 2 e.toNat)/\vN=false/\n=rem.length) x8 ⟨x8,[],bD,l8,sp8,rfl,rfl,by simp;omega,aB,toV n8,λm0 h1 h2=>?_⟩ ?_
   ·obtain⟨_,_,q1,q2,q3⟩:=fr m0 h1 h2;exact⟨m0.cF,rfl,q1,q2,q3⟩
   rintro c t DR ⟨n,es,sl,l',vN,hc,rfl,hbn,hl',nx,hx⟩ X hX;dsimp only;refine aI (λhn=>?_) (λhn=>dX es sl l' vN DR nx aB λm0 h1 h2=>?_)
   ·obtain⟨S9,a9,Bt⟩:=nx.foc λS h=>bL.l h;refine aAh a9 λx9 e9 b9=>?_;refine aI (λh9=>?_) (λh9=>dX es sl l' vN DR nx aB λm0 h1 h2=>?_)
    ·have nd:=nx.kp (cB DR);refine aE (k:=.slice) sl (xj nd rfl) ?_;refine QP nd (sz:=2) rfl aB aB λsR l10 sp10 fG n10 c10 b10 v10=>⟨xj n10 rfl,?_⟩;refine cM (cs:=[aD (sR:Int)]) λeQ b11 LR z11=>?_;have n11:=n10.kp LR;refine⟨xj n11 rfl,?_⟩;obtain⟨ZL,JH,UM⟩:=n11.foc λS h=>(bL.r h).c λT hT=>bL.r hT;refine PD (x:=⟨some ⟨fG.heap.size,0,none⟩,1,1⟩) iD eY CI JH (lU eY [(sR:Int)] b11 rfl dP) (by simp;omega) aB λr eO S13 Dc Fw=>?_;have n12:=UM _ eO _ Fw Dc;refine FZ (v:=aW r) n12 pE dP rfl rfl λiE n13=>?_;rw[show aQ ((n:Int)-(1:Int))=((n-1:Nat):Int) by rw[iH aB aB];omega];refine hX (n-1) _ _ aB ⟨n-1,es++[(sR:Int)],r,l10,sp10,rfl,rfl,by simp;omega,aB,n13,λm0 h1 h2=>?_⟩;obtain⟨rem,q1,q2,q3,q4⟩:=hx m0 h1 h2;obtain⟨Ro,_⟩:=fr m0 h1 h2;have he:=h1.cF;rw[if_pos Ro] at he;cases rem with
     |nil=>simp at q4;omega
     |cons a rem=>have ha:=he.2 a (by rw[q1];simp);obtain⟨y1,y2,y3⟩:=v10 a.toNat (rem.flatMap λe=>be 2 e.toNat) q3 (by rw[q2,FU]) (RH ha).2;have:=ha.1;refine⟨rem,?_,y2,y3,by simp at q4;omega⟩;rw[q1,show(sR:Int)=a by omega];simp
    ·obtain⟨rem,q1,q2,q3,q4⟩:=hx m0 h1 h2;have h9':=e9 q3;rw[q2,Pz] at h9';have:rem=[]:=Mq aB;rw[q1,this,rF]
   ·obtain⟨rem,q1,q2,q3,q4⟩:=hx m0 h1 h2;have:rem=[]:=Mq aB;rw[q1,this,rF]
  ·have hk:(x3:Int)=7:=by simpa using hk
   refine QP n4 (sz:=1) rfl aB aB λx5 l5 sp5 w5 n5 c5 b5 v5=>?_;refine QP n5 (sz:=2) rfl aB aB λx6 l6 sp6 w6 n6 c6 b6 v6=>?_;refine QP n6 (sz:=5) rfl aB aB λx7 l7 sp7 w7 n7 c7 b7 v7=>?_;refine QP n7 (sz:=5) rfl aB aB λx8 l8 sp8 w8 n8 c8 b8 v8=>?_;rw[iH (n:=(x6:Int)-(1:Int)) aB aB];obtain⟨S9,bb9,Bt⟩:=n8.foc λS h=>(bL.r h).c λT hT=>bL.l hT;rw[aS,gK];refine DB (v:=.agg #[aD (x5:Int),aD ((x6:Int)-1),aD (x7:Int),aD (x8:Int)]) bb9.1 BY (by simp[Value.cells,z0]) (by simp[Value.cells,Value.oneCell']) λw9 o9 m9 z9=>?_;have n9:=Bt _ w9 _ (bb9.up o9 m9).2 (bb9.up o9 m9).1;refine HB ⟨x3,0,0,[],0,⟨x5,(x6:Int)-1,x7,x8⟩⟩ bD l8 sp8 w9 (toV n9) (cY _) λm0 h1 h2=>?_;obtain⟨e1,e2,e3⟩:=HD m0 h1 h2;have Ro:m0.kind=7:=aB;have hh:=h1.eZ;rw[if_pos Ro] at hh;have e4:=cO m0 (be 1 m0.eZ.cls.toNat++(be 2 (m0.eZ.kL+1).toNat++(be 5 m0.eZ.pL.toNat++be 5 m0.eZ.left.toNat))) h1 h2 (by unfold lF;rw[if_neg aB,if_neg aB,if_neg aB,if_pos Ro];simp);obtain⟨q1,rfl,p1⟩:=v5 _ _ e2 e4 (rng8 hh.1).2;obtain⟨q2,rfl,p2⟩:=v6 _ _ p1 rfl (RH hh.2.1).2;obtain⟨q3,rfl,p3⟩:=v7 _ _ p2 rfl (Oo hh.2.2.1).2;obtain⟨q4,_,_⟩:=v8 _ [] p3 dP (Oo hh.2.2.2).2;have q6:=hwt m0 h1 aB;have q7:=hd m0 h1 aB;have q8:=hps m0 h1 aB;obtain⟨k,ps,ds,es,wt,⟨hc,he,hf,hl⟩⟩:=m0;simp only[gT.mk.injEq,MY.mk.injEq];have y1:=hh.1.1;have y2:=hh.2.1.1;have y3:=hh.2.2.1.1;have y4:=hh.2.2.2.1;simp only at*;exact⟨aB,aB,aB,q6.2.symm,q6.1.symm,aB,aB,aB,aB⟩
  ·have Wz:¬(x3:Int)=5:=by simpa using Wz
   have hk7:¬(x3:Int)=7:=by simpa using hk7
   refine HB ⟨x3,0,0,[],0,⟨0,0,0,0⟩⟩ bD l3 sp3 w4 (toV n4) (cY _) λm0 h1 h2=>?_;obtain⟨e1,e2,e3⟩:=HD m0 h1 h2;have q5:=hz m0 h1 aB;have q6:=hwt m0 h1 aB;have q7:=hd m0 h1 aB;have q8:=hps m0 h1 aB;obtain⟨k,ps,ds,es,wt,hh⟩:=m0;simp only[gT.mk.injEq];simp only at*;exact⟨aB,aB,aB,q6.2.symm,q6.1.symm,q5.symm⟩
 refine aF (λhk=>?_) (λhk=>?_)
 ·rw[hk];exact j29 (.inl (by simpa using hk))
 ·have GS:¬(x3:Int)=2:=by simpa using hk
  by_cases hk9:(x3:Int)=9
  ·rw[show((x3:Int)==(9:Int))=true by simpa using hk9];exact j29 (.inr hk9)
  ·rw[show((x3:Int)==(9:Int))=false by simpa using hk9];exact jr λh=>h.elim GS hk9
section
section
variable{K:Type}[DecidableEq K]{w:aH}{S:BS}{r n:Nat}{ek:K->Value}{kn:oU}{f:K->Option kn.T}
def Zl{t kt et:fL}(ht:prog.underlying t=some (.map kt et))(hk:RU prog kt ek)(h:vL r ek kn f n w S)(x:K)(v:kn.T){Q:aH->Prop}
  (hQ:∀w',vL r ek kn (λy=>if y=x then some v else f y) (if(f x).isSome then n else n+1) w' S->Up S S w w'->Q w'):gP prog t (.map (some r)) (ek x) (kn.aY v) w Q:=
 XM ht hk h.1 x v λw' h' m _=>hQ w' ⟨h',h.2⟩ (Up.at (m.mono λk _ hk=>(h.2 k).2 hk))
def Zm{t kt et u:fL}(ht:prog.underlying t=some (.map kt et))(hk:RU prog kt ek)(h:vL r ek kn f n w S)(x:K){Q:aH->Prop}
  (hQ:∀w',vL r ek kn (λy=>if y=x then none else f y) (if(f x).isSome then n-1 else n) w' S->Up S S w w'->Q w'):qY prog t u (.map (some r)) (ek x) w Q:=
 Jh ht hk h.1 x λw' h' m _=>hQ w' ⟨h',h.2⟩ (Up.at (m.mono λk _ hk=>(h.2 k).2 hk))
end
def JM(s:Sl)(S:BS)(w:aH):=∀b,s.b=some b->¬S b.block/\b.block<w.heap.size
def JM.up{s:Sl}{S S':BS}{w w':aH}(h:JM s S w)(u:Up S S' w w'):JM s S' w':=λb hb=>⟨λhs=>(u.s _ hs).elim (h b hb).1 λhh=>by have:=(h b hb).2;omega,pP (h b hb).2 u.m.size⟩
def JM.rd{α:Type}{n:Nat}{aY:α->gJ}{xs:List α}{s:Sl}{S S':BS}{w w':aH}(h:JM s S w)(u:Up S S' w w')(hr:Rd w s n aY xs)(gQ:∀x,aY x≠[]):Rd w' s n aY xs:=hr.aK u.m gQ λb hb=>(h b hb).1
def JM.kp{s:Sl}{S:BS}{w w':aH}(h:JM s S w)(k:aL w w'):JM s S w':=λb hb=>⟨(h b hb).1,pP (h b hb).2 k.size⟩
structure TimS where
 mb:Nat
 b:Int
 m:Int
 t:Int
 f:Int->Option knW.T
 n:Nat
def Dx(a:Nat)(s:TimS):As:=bL (tE a tTimer [aD s.b,aD s.m,aD s.t,.map (some s.mb)]) (vL s.mb FQ knW s.f s.n)
instance{a:Nat}{s:TimS}:bJ (Dx a s):=by unfold Dx;infer_instance
def Hf(a:Nat)(JF:Int->Prop):As:=Ex λs=>Pr (∀x,(s.f x).isSome=true↔JF x) (Dx a s)
instance{a:Nat}{JF:Int->Prop}:bJ (Hf a JF):=by unfold Hf;infer_instance
section
variable{w:aH}{S:BS}{a:Nat}{s:TimS}{JF:Int->Prop}
def Dx.cells(h:Dx a s w S):w.cell? ((⟨a,0,none⟩:Addr).add 0)=some (aD s.b)/\w.cell? ((⟨a,0,none⟩:Addr).add 1)=some (aD s.m)/\w.cell? ((⟨a,0,none⟩:Addr).add 2)=some (aD s.t)/\w.cell? ((⟨a,0,none⟩:Addr).add 3)=some (.map (some s.mb)):=by
 obtain⟨S1,S2,h1,_⟩:=h;exact⟨aP h1 rfl,aP h1 rfl,aP h1 rfl,aP h1 rfl⟩
def Dx.put(h:Dx a s w S)(x:Int)(v:knW.T){Q:aH->Prop}(hQ:∀w' S',Dx a {s with f:=λy=>if y=x then some v else s.f y,n:=if(s.f x).isSome then s.n else s.n+1} w' S'->Up S S' w w'->Q w'):
  gP prog 358 (.map (some s.mb)) (aD x) (knW.aY v) w Q:=by
 obtain⟨S2,h2,_,eJ⟩:=(bL.r h).put;refine Zl unWait lV h2 x v λw' h' u'=>?_;obtain⟨S',h3,u3⟩:=eJ _ _ _ u' h';exact hQ w' S' h3 u3
def Dx.jm(h:Dx a s w S)(x:Int){Q:aH->Prop}(hQ:∀w' S',Dx a {s with f:=λy=>if y=x then none else s.f y,n:=if(s.f x).isSome then s.n-1 else s.n} w' S'->Up S S' w w'->Q w'):
  qY prog 358 3 (.map (some s.mb)) (aD x) w Q:=by
 obtain⟨S2,h2,_,eJ⟩:=(bL.r h).put;refine Zm unWait lV h2 x λw' h' u'=>?_;obtain⟨S',h3,u3⟩:=eJ _ _ _ u' h';exact hQ w' S' h3 u3
def Wait_i{n:Int}{Q:Int->aH->Prop}(h:Dx a s w S)(hQ:∀x,Q x w):IM (some ⟨a,0,none⟩) n w Q:=by
 unfold IM;obtain⟨c0,c1,_,_⟩:=h.cells;refine aF (λh=>by simp at h) (λ_=>aA rfl (aE (k:=.i) s.b c0 ?_));refine bK (λc t w1=>c=t.1.toNat/\w1=w) n.toNat ⟨rfl,rfl⟩ ?_;rintro c ⟨n,o,_⟩ w1 ⟨rfl,rfl⟩ X hX;dsimp only;refine aI (λhn=>aA rfl (aE (k:=.i) s.m c1 (aI (λ_=>?_) (λ_=>aA rfl (aE (k:=.i) s.m c1 (hQ _)))))) (λ_=>aA rfl (aE (k:=.i) s.m c1 (hQ _)));have e:aQ (n-(1:Int))<=n-1:=by rw[aQ,IntKind.wrap_i64];omega
 exact hX _ _ _ aB ⟨rfl,rfl⟩
def Start_i{id dQ:Int}{Q:aH->Prop}(h:Hf a JF w S)(hQ:∀w' S',Hf a (λx=>x=id\/JF x) w' S'->Up S S' w w'->Q w'):KU (some ⟨a,0,none⟩) id dQ w Q:=by
 unfold KU;obtain⟨s,hi,h⟩:=h;have hd:=bJ.dr h;refine aF (λ_=>aA rfl (aE (k:=.map) (some s.mb) hd.cells.2.2.2 (Wait_i hd λx=>⟨hd.cells.2.2.2,hd.put id ((aQ (dQ+x),(0:Int),()):Int×Int×Unit) λw' S' h' u'=>?_⟩))) (λh=>by simp at h);refine hQ w' S' ⟨_,λy=>?_,h'⟩ ((Up.aO (cB w)).tr u');dsimp only
 by_cases hy:y=id
 ·rw[if_pos hy];exact⟨λ_=>.inl hy,λ_=>rfl⟩
 ·rw[if_neg hy];exact(hi y).trans ⟨.inr,λh=>h.resolve_left hy⟩
def Stop_i{x:Int}{sl:Sl}{Q:aH->Prop}(h:Hf a JF w S)(hr:Rd w sl 1 eI [x])(ho:JM sl S w)(hQ:∀w' S',Hf a (λy=>y≠x/\JF y) w' S'->Up S S' w w'->Q w'):PY (some ⟨a,0,none⟩) sl w Q:=by
 unfold PY;obtain⟨s,hi,h⟩:=h;have hl:sl.l=1:=hr.len;rw[hl];refine aF (λh=>by simp at h) (λ_=>?_);refine bK (λc t w1=>(c=1/\t=(0,())/\w1=w)\/(c=0/\t=(1,())/\Q w1)) 1 (.inl ⟨rfl,rfl,rfl⟩) ?_;rintro c t w1 (⟨rfl,rfl,rfl⟩|⟨rfl,rfl,hq⟩) X hX
 ·dsimp only;refine aI (λ_=>?_) (λh=>absurd (by decide) h);obtain⟨b,hb,cb⟩:=bR (k:=.i) (e:=λx=>x) hr (show [x][0]? =some x from rfl);refine⟨⟨by decide,by decide⟩,aA hb (aE (k:=.i) x cb (aA rfl (aE (k:=.map) (some s.mb) h.cells.2.2.2 (h.jm x λw' S' h' u'=>?_))))⟩;refine hX 0 _ _ aB (.inr ⟨rfl,by rw[iH aB aB];rfl,hQ w' S' ⟨_,λy=>?_,h'⟩ u'⟩);dsimp only
  by_cases hy:y=x
  ·simp[hy]
  ·rw[if_neg hy];exact(hi y).trans ⟨λh=>⟨hy,h⟩,λh=>h.2⟩
 ·dsimp only;exact aI (λh=>absurd h (by decide)) (λ_=>hq)
def TiNew_i{b m t:Int}{Q:cW->Int->aH->Prop}(hv:1<=b/\b<=1000/\b<=m/\m<=1000/\0<=t/\t<=20)(hQ:∀w',Hf (w.heap.size+1) (λ_=>False) w' (λk=>k=w.heap.size+1\/k=w.heap.size)->aL w w'->Q (some ⟨w.heap.size+1,0,none⟩) 0 w'):FC b m t w Q:=by
 unfold FC;refine aI (λh=>aB) (λ_=>aI (λh=>aB) (λ_=>aI (λh=>aB) (λ_=>aI (λh=>aB) (λ_=>aI (λh=>aB) (λ_=>aI (λh=>aB) (λ_=>?_))))));refine rN (ek:=FQ) (kn:=knW) λhm k1=>?_;refine cM (cs:=[aD b,aD m,aD t,.map (some w.heap.size)]) λw2 b2 k2 z2=>?_;have e:(w.alloc (.map #[] 0)).heap.size=w.heap.size+1:=by simp
 rw[e] at b2 ⊢;refine hQ w2 ⟨⟨w.heap.size,b,m,t,λ_=>none,0⟩,λx=>by simp,⟨_,_,b2,⟨hm.aK k2 id,λk=>Iff.rfl⟩,λk h1 h2=>by have h2':k=w.heap.size:=h2;omega,λk=>Iff.rfl⟩⟩ (k1.tr k2)
def nodup_sub{ks ls:cR}(h:ks.Nodup)(hs:∀x∈ks,x∈ls):ks.length<=ls.length:=by
 induction ks generalizing ls with
 |nil=>exact cY _
 |cons a r ih=>
  have ha:=hs a dP;rw[List.nodup_cons] at h;have:=ih (ls:=ls.erase a) h.2 λx hx=>by
   have gQ:x≠a:=λe=>h.1 (e▸hx);exact(List.mem_erase_of_ne gQ).2 (hs x (by simp[hx]))
  rw[List.length_erase_of_mem ha] at this;have:0<ls.length:=List.length_pos_of_mem ha;simp only[mH];omega
end
end
section
structure TO where
 dG:Nat
 next:Int
 f:Int->Option (List cH)
 n:Nat
 JF:Int->Prop
 iA:Bool
structure TO.Ok(s:TO):Prop where
 dG:s.dG<=16
 TP:s.n<=s.dG
 JF:∀x,s.JF x->(s.f x).isSome=true
 len:∀x bs,s.f x=some bs->0<=x/\x<s.next/\bs.length<=70000
 nx:0<=s.next/\s.next-s.n<=1000000000000000
def TO.Ok.new{s:TO}(ok:s.Ok):s.f s.next=none:=by
 cases h:s.f s.next with
 |none=>rfl
 |some bs=>have:=ok.len _ bs h;omega
structure yj(g:Int->Option VK.T)(f:Int->Option (List cH))(w:aH)(S:BS):Prop where
 iff:∀x,(g x).isSome=(f x).isSome
 rd:∀x (sl:Sl) bs,g x=some sl->f x=some bs->Rd w sl 1 eU bs
 lt:∀x (sl:Sl) b,g x=some sl->sl.b=some b->b.block<w.heap.size
 inj:∀x y (sl VH:Sl) b b',g x=some sl->g y=some VH->sl.b=some b->VH.b=some b'->b.block=b'.block->x=y
 all:∀k,S k↔∃x,∃sl:Sl,∃b,g x=some sl/\sl.b=some b/\k=b.block
def Pc(g:Int->Option VK.T)(f:Int->Option (List cH)):As:=λw S=>yj g f w S
instance{g:Int->Option VK.T}{f:Int->Option (List cH)}:bJ (Pc g f):=⟨λh k hk=>by obtain⟨x,sl,b,h1,h2,rfl⟩:=(h.all k).1 hk;exact h.lt x sl b h1 h2,
 λh m hn=>⟨h.iff,λx sl bs h1 h2=>(h.rd x sl bs h1 h2).aK m fV λb hb=>hn _ ((h.all _).2 ⟨x,sl,b,h1,hb,rfl⟩),λx sl b h1 h2=>pP (h.lt x sl b h1 h2) m.size,h.inj,h.all⟩⟩
def Dy(mb:Nat)(g:Int->Option VK.T)(f:Int->Option (List cH))(n:Nat):As:=bL (vL mb FQ VK g n) (Pc g f)
instance{mb:Nat}{g:Int->Option VK.T}{f:Int->Option (List cH)}{n:Nat}:bJ (Dy mb g f n):=by unfold Dy;infer_instance
def JX(a tb mb:Nat)(g:Int->Option VK.T)(s:TO):As:=bL (tE a tSender [.pointer (some ⟨tb,0,none⟩),aD (s.dG:Int),aD s.next,.map (some mb),.bool s.iA]) (bL (Dy mb g s.f s.n) (Hf tb s.JF))
instance{a tb mb:Nat}{g:Int->Option VK.T}{s:TO}:bJ (JX a tb mb g s):=by unfold JX;infer_instance
def ZU(a:Nat)(s:TO):As:=Ex λtb:Nat=>Ex λmb:Nat=>Ex λg:Int->Option VK.T=>JX a tb mb g s
instance{a:Nat}{s:TO}:bJ (ZU a s):=by unfold ZU;infer_instance
section
variable{w:aH}{S:BS}{a tb mb:Nat}{g:Int->Option VK.T}{s:TO}
def JX.cells(h:JX a tb mb g s w S):w.cell? ((⟨a,0,none⟩:Addr).add 0)=some (.pointer (some ⟨tb,0,none⟩))/\w.cell? ((⟨a,0,none⟩:Addr).add 1)=some (aD (s.dG:Int))/\w.cell? ((⟨a,0,none⟩:Addr).add 2)=some (aD s.next)/\w.cell? ((⟨a,0,none⟩:Addr).add 3)=some (.map (some mb))/\w.cell? ((⟨a,0,none⟩:Addr).add 4)=some (.bool s.iA):=by
 obtain⟨S1,S2,h1,_⟩:=h;exact⟨aP h1 rfl,aP h1 rfl,aP h1 rfl,aP h1 rfl,aP h1 rfl⟩
def JX.map(h:JX a tb mb g s w S):kT w mb FQ VK g s.n:=by
 obtain⟨S1,S2,_,⟨S3,S4,⟨S5,S6,h5,_⟩,_⟩,_⟩:=h;exact h5.1
def qg{Q:Bool->aH->Prop}(h:JX a tb mb g s w S)(hQ:Q s.iA w):xX (some ⟨a,0,none⟩) w Q:=by
 unfold xX;exact aF (λh=>by simp at h) (λ_=>aA rfl (aE (k:=.bool) s.iA h.cells.2.2.2.2 hQ))
def Room_i{Q:Int->aH->Prop}(h:JX a tb mb g s w S)(ok:s.Ok)(hQ:∀w',aL w w'->Q (if s.iA then 0 else((s.dG-s.n:Nat):Int)) w'):IT (some ⟨a,0,none⟩) w Q:=by
 unfold IT;refine qg h (aF (λho=>?_) (λho=>?_))
 ·have:=hQ w (aU.refl _ _);rwa[if_pos ho] at this
 ·have hd:=bJ.dr h;refine aA rfl (aE (k:=.i) (s.dG:Int) hd.cells.2.1 (aA rfl (aE (k:=.map) (some mb) hd.cells.2.2.2.1 (Zk UF hd.map ⟨hd.cells.2.1,?_⟩))));have h1:=ok.dG;have h2:=ok.TP;have:=hQ w.drew (cB w);rw[if_neg (by rw[ho];simp)] at this;rw[iH aB aB,show(s.dG:Int)-(s.n:Int)=((s.dG-s.n:Nat):Int) by omega];exact this
def TO.send(s:TO)(bs:List cH):TO:={s with next:=s.next+1,f:=λy=>if y=s.next then some bs else s.f y,n:=s.n+1,JF:=λy=>y=s.next\/s.JF y}
def KA{α:Type}{g:Int->Option α}{x y:Int}{r z:α}(h:(λy=>if y=x then some r else g y) y=some z):(y=x/\z=r)\/(y≠x/\g y=some z):=by
 dsimp only at h
 by_cases hy:y=x
 ·rw[if_pos hy] at h;cases h;exact .inl ⟨hy,rfl⟩
 ·rw[if_neg hy] at h;exact .inr ⟨hy,h⟩
def del_eq{α:Type}{g:Int->Option α}{x y:Int}{z:α}(h:(λy=>if y=x then none else g y) y=some z):y≠x/\g y=some z:=by
 dsimp only at h
 by_cases hy:y=x
 ·rw[if_pos hy] at h;cases h
 ·rw[if_neg hy] at h;exact⟨hy,h⟩
def TO.Ok.send{s:TO}{bs:List cH}(ok:s.Ok)(hr:s.n<s.dG)(hl:bs.length<=70000):(s.send bs).Ok:=by
 refine⟨ok.dG,by show s.n+1<=s.dG;omega,λx hx=>?_,λx b hb=>?_,?_⟩
 ·show(if x=s.next then some bs else s.f x).isSome=true
  by_cases h:x=s.next
  ·rw[if_pos h];rfl
  ·rw[if_neg h];exact ok.JF x (hx.resolve_left h)
 ·have:=ok.nx;show 0<=x/\x<s.next+1/\_
  rcases KA hb with⟨h1,h2⟩|⟨h1,h2⟩
  ·rw[h2];exact⟨aB,aB,hl⟩
  ·have:=ok.len x b h2;exact⟨aB,aB,this.2.2⟩
 ·have:=ok.nx;show 0<=s.next+1/\s.next+1-((s.n+1:Nat):Int)<=_
  omega
def Dy.put{f:Int->Option (List cH)}{n:Nat}{r:Sl}{bs:List cH}{w4:aH}{Q:aH->Prop}(h:Dy mb g f n w S)(k4:aL w w4)(rd4:EG 1 eU r bs w4 (tF r))(fr:∀b,r.b=some b->w.heap.size<=b.block)(x:Int)
  (hQ:∀w5 S',Dy mb (λy=>if y=x then some r else g y) (λy=>if y=x then some bs else f y) (if(f x).isSome then n else n+1) w5 S'->Up S S' w w5->Q w5):gP prog 341 (.map (some mb)) (aD x) (aW r) w4 Q:=by
 have h4:=bJ.kp h k4;have iF:=bJ.iF h;obtain⟨S9,ZD,Sh,hbods,d9,e9⟩:=h4;refine Zl UF lV Sh x r λw5 m5 u5=>?_;have hn:∀k,tF r k->¬S k:=λk ⟨b,hb,e⟩ hs=>by have:=iF _ hs;have:=fr b hb;omega
 have Wr:=bJ.aK rd4 u5.m λk hk lM=>hn k hk ((e9 k).2 (.inl lM));have Oy:yj g f w5 ZD:=bJ.aK (A:=Pc g f) hbods u5.m λk hk lM=>d9 k lM hk;have old:∀y (sl:Sl) b,g y=some sl->sl.b=some b->S b.block:=λy sl b h1 h2=>(e9 _).2 (.inr ((Oy.all _).2 ⟨y,sl,b,h1,h2,rfl⟩))
 let g':Int->Option VK.T:=λy=>if y=x then some r else g y
 let S':BS:=λk=>∃y,∃sl:Sl,∃b,g' y=some sl/\sl.b=some b/\k=b.block
 have sub:∀k,S' k->ZD k\/tF r k:=λk ⟨y,sl,b,h1,h2,e⟩=>by
  rcases KA h1 with⟨_,rfl⟩|⟨_,h1⟩
  ·exact .inr ⟨b,h2,e⟩
  ·exact .inl ((Oy.all _).2 ⟨y,sl,b,h1,h2,e⟩)
 have hB:Pc g' (λy=>if y=x then some bs else f y) w5 S':=by
  refine⟨λy=>?_,λy sl b hx hf=>?_,λy sl b hx hb=>?_,λy z sl VH b b' h1 h2 h3 h4 e=>?_,λk=>Iff.rfl⟩
  ·show(if y=x then(some r:Option VK.T) else g y).isSome=(if y=x then some bs else f y).isSome
   by_cases hxn:y=x
   ·rw[if_pos hxn,if_pos hxn];rfl
   ·rw[if_neg hxn,if_neg hxn];exact Oy.iff y
  ·rcases KA hx with⟨h1,rfl⟩|⟨h1,hx⟩
   ·rcases KA hf with⟨_,rfl⟩|⟨h2,_⟩
    ·exact Wr.1
    ·exact absurd h1 h2
   ·rcases KA hf with⟨h2,_⟩|⟨_,hf⟩
    ·exact absurd h2 h1
    ·exact Oy.rd y sl b hx hf
  ·rcases KA hx with⟨h1,rfl⟩|⟨h1,hx⟩
   ·exact Wr.2.2.1 b hb
   ·exact Oy.lt y sl b hx hb
  ·rcases KA h1 with⟨hy,e1⟩|⟨hy,p1⟩<;>rcases KA h2 with⟨hz,e2⟩|⟨hz,p2⟩
   ·rw[hy,hz]
   ·subst e1;exact(hn b.block ⟨b,h3,rfl⟩ (by rw[e];exact old z VH b' p2 h4)).elim
   ·subst e2;exact(hn b'.block ⟨b',h4,rfl⟩ (by rw[<-e];exact old y sl b p1 h3)).elim
   ·exact Oy.inj y z sl VH b b' p1 p2 h3 h4 e
 have m5':vL mb FQ VK (λy=>if y=x then some r else g y) (if(f x).isSome then n else n+1) w5 S9:=by have:=hbods.iff x;rw[<-this];exact m5
 refine hQ w5 (λk=>S9 k\/S' k) ⟨S9,_,m5',hB,λk h1 h2=>(sub k h2).elim (d9 k h1) λh=>hn k h ((e9 k).2 (.inl h1)),λk=>Iff.rfl⟩ ⟨(k4.wk (F:=S)).tr (u5.m.mono λk _ hk=>(e9 k).2 (.inl hk)),λk hk=>?_⟩;rcases hk with h|h
 ·exact .inl ((e9 k).2 (.inl h))
 ·rcases sub k h with h|⟨b,hb,e⟩
  ·exact .inl ((e9 k).2 (.inr h))
  ·exact .inr (by rw[e];exact fr b hb)
def Send_i{dQ:Int}{body:Sl}{bs:List cH}{Q:Int->Int->aH->Prop}(h:ZU a s w S)(ok:s.Ok)(hb:Rd w body 1 eU bs)(ho:JM body S w)(hl:bs.length<=70000)(jb:s.iA=false)(hrm:s.n<s.dG)
  (hQ:∀w' S',ZU a (s.send bs) w' S'->Up S S' w w'->Q s.next 0 w'):QB (some ⟨a,0,none⟩) dQ body w Q:=by
 unfold QB;obtain⟨tb,mb,g,h⟩:=h;refine qg h (aF (λho=>by rw[jb] at ho;cases ho) (λ_=>Room_i h ok λw1 k1=>aF (λhz=>?_) (λ_=>?_)))
 ·rw[jb] at hz;simp at hz;omega
 have h1:=bJ.kp h k1;have VR:=hb.aK k1 fV λ_ _=>id;refine aA rfl (aE (k:=.i) s.next h1.cells.2.2.1 (aA rfl (aE (k:=.i) s.next h1.cells.2.2.1 (aA rfl ?_))))
 obtain⟨S2,b2,_,HP⟩:=(bL.l h1).put;refine qP b2 cV dP rfl rfl λw3 b3 u3=>?_;obtain⟨S3,h3,v3⟩:=HP _ _ _ u3 b3;have Ma:=bJ.dr h3;have kr:=((ho.kp k1).rd v3 VR fV).aK (cB w3) fV λ_ _=>id;obtain⟨T1,c1,_,_⟩:=(bL.l Ma).put;obtain⟨S7,hBod,_,eJ⟩:=((bL.r Ma).c λT hT=>bL.l hT).put;refine aA rfl (aE (k:=.map) (some mb) (aP c1 rfl) ?_);refine wJ kr aB λr w4 S4 v4 k4 f4 rd4 fr4=>⟨aP (bJ.kp c1 k4) rfl,?_⟩;refine hBod.put k4 rd4 fr4 s.next λw5 S5 h5 u5=>?_
 obtain⟨S6,h6,u6⟩:=eJ _ w5 S5 u5 h5;obtain⟨T6,c6,_,_⟩:=(bL.l h6).put;refine aA rfl (aE (k:=.ptr) (some ⟨tb,0,none⟩) (aP c6 rfl) ?_);obtain⟨S8,h8,_,Yn⟩:=((bL.r h6).c λT hT=>bL.r hT).put;refine Start_i h8 λw9 S9 h9 u9=>?_;obtain⟨ZD,ZI,u10⟩:=Yn _ w9 S9 u9 h9;rw[ok.new,iH (n:=s.next+(1:Int)) (by have:=ok.nx;omega) (by have:=ok.nx;have:=ok.dG;omega)] at ZI
 exact hQ w9 ZD ⟨tb,mb,λy=>if y=s.next then some r else g y,ZI⟩ (((((Up.aO k1).tr v3).tr (Up.aO (cB w3))).tr u6).tr u10)
def Body_i{x:Int}{Q:Sl->Bool->aH->Prop}(h:ZU a s w S)(ok:s.Ok)(hQ:∀r c w',EG 1 eU r ((s.f x).getD []) w' (tF r)->(∀b,r.b=some b->w.heap.size<=b.block)->aL w w'->Q r c w'):QC (some ⟨a,0,none⟩) x w Q:=by
 unfold QC;obtain⟨tb,mb,g,h⟩:=h;have hm:=h.map;refine aF (λh=>by simp at h) (λ_=>aA rfl (aE (k:=.map) (some mb) h.cells.2.2.2.1 ?_));refine PL (kn:=VK) UF lV (z:=(bD:Sl)) UN hm x ?_;obtain⟨S1,S2,_,⟨S3,S4,⟨S5,S6,_,hB,_⟩,_⟩,_⟩:=h;have key:∃r bs,(g x).getD (bD:Sl)=r/\(s.f x).getD []=bs/\Rd w r 1 eU bs/\bs.length<=70000:=by
  have h1:=hB.iff x;cases hg:g x with
  |none=>
   rw[hg] at h1;have:s.f x=none:=by simpa using h1.symm
   rw[this];exact⟨_,_,rfl,rfl,Rd.nil _ _ _,cY _⟩
  |some r=>rw[hg] at h1;obtain⟨bs,hbs⟩:=Mp.1 (show(s.f x).isSome=true from h1.symm);rw[hbs];exact⟨_,_,rfl,rfl,hB.rd x r bs hg hbs,(ok.len x bs hbs).2.2⟩
 obtain⟨r,bs,e1,e2,hr,hl⟩:=key;rw[e2] at hQ;rw[e1];exact wJ hr aB λr' w1 S' _ k1 _ rd fr=>hQ r' _ w1 rd fr k1
def SNew2_i{dG:Nat}{tb:Nat}{S:BS}{Q:cW->Int->aH->Prop}(hw:1<=dG/\dG<=16)(h:Hf tb (λ_=>False) w S)
  (hQ:∀w' S',ZU (w.heap.size+1) ⟨dG,0,λ_=>none,0,λ_=>False,false⟩ w' S'->aL w w'->(∀k,S' k->S k\/w.heap.size<=k)->Q (some ⟨w.heap.size+1,0,none⟩) 0 w'):AZ (dG:Int) (some ⟨tb,0,none⟩) w Q:=by
 unfold AZ;refine aI (λh=>aB) (λ_=>aI (λh=>aB) (λ_=>aF (λh=>by simp at h) (λ_=>?_)));refine rN (ek:=FQ) (kn:=VK) λhm k1=>?_;refine cM (cs:=[.pointer (some ⟨tb,0,none⟩),aD (dG:Int),aD 0,.map (some w.heap.size),.bool false]) λw2 b2 k2 z2=>?_;have e:(w.alloc (.map #[] 0)).heap.size=w.heap.size+1:=by simp
 rw[e] at b2 ⊢;have iF:=bJ.iF h;have hB:Dy w.heap.size (λ_=>none) (λ_=>none) 0 w2 (λk=>k=w.heap.size\/False):=⟨λk=>k=w.heap.size,λ_=>False,⟨hm.aK k2 id,λk=>Iff.rfl⟩,⟨λx=>rfl,λx sl b h=>(by cases h),λx sl b h=>(by cases h),λx y sl VH b b' h=>(by cases h),λk=>⟨False.elim,λ⟨x,sl,b,h,_⟩=>by cases h⟩⟩,λ_ _ h=>h,λ_=>Iff.rfl⟩;refine hQ w2 (λk=>k=w.heap.size+1\/(k=w.heap.size\/False)\/S k) ⟨tb,w.heap.size,λ_=>none,⟨_,_,b2,⟨_,_,hB,bJ.kp (bJ.kp h k1) k2,λk h1 h2=>?_,λ_=>Iff.rfl⟩,λk h1 h2=>?_,λ_=>Iff.rfl⟩⟩ (k1.tr k2) λk hk=>?_
 ·have:=iF k h2;rcases h1 with h1|h1
  ·omega
  ·exact h1
 ·rcases h2 with(h2|h2)|h2
  ·omega
  ·exact h2
  ·have:=iF k h2;omega
 ·rcases hk with hk|(hk|hk)|hk
  ·exact .inr aB
  ·exact .inr aB
  ·exact hk.elim
  ·exact .inl hk
def SAgain(s s':TO):=s'.dG=s.dG/\s'.next=s.next/\s'.f=s.f/\s'.n=s.n/\∀x,s'.JF x->s.JF x
end
end
end Go.Proofs.YtihggjgakbgomaaGreat
namespace Go.Proofs.YtihggjgakbgomaaGreat
open Go Go.Den Go.ChangeMaps Go.MapKept
open Tryz (prog)
section
def delRaw_i{kn:oU}{f:Int->Option kn.T}{n r c:Nat}{w:aH}{es:Array MapEntry}{t et:fL}(ht:prog.underlying t=some (.map 3 et))(h:kT w r FQ kn f n)(Wf:w.heap[r]? =some (.map es c))(x:Int)(hx:(f x).isSome=true){Q:aH->Prop}
  (hQ:∀w' j,w'.heap[r]? =some (.map (es.eraseIdxIfInBounds j) c)->j<es.size->(es.toList[j]?).map (·.key)=some (.int .i64 x)->kT w' r FQ kn (λy=>if y=x then none else f y) (n-1)->aU (λk=>k=r) w w'->w'.heap.size=w.heap.size->Q w'):qY prog t 3 (.map (some r)) (.int .i64 x) w Q:=by
 have h1:qY prog t 3 (.map (some r)) (.int .i64 x) w λw'=>kT w' r FQ kn (λy=>if y=x then none else f y) (n-1)/\aU (λk=>k=r) w w'/\w'.heap.size=w.heap.size:=
  Jh ht lV h x λw' a b e=>⟨by rw[if_pos hx] at a;exact a,b,e⟩
 obtain⟨_,w1,r1,f1,f2,f3⟩:=h1;obtain⟨es',c',l,g1,_,_,_,_,_,_,hf⟩:=h.find lV x w;rw[Wf] at g1;cases g1;rcases hf with⟨_,g,_⟩|⟨j,v,g,_,hjs,uK,qO⟩
 ·rw[g] at hx;cases hx
 ·have r2:(Builtin.delete_ #[t,3] 0 #[.map (some r),.int .i64 x]).run prog w=.ok (.tuple #[]) {w with heap:=w.heap.setIfInBounds r (.map (es.eraseIdxIfInBounds j) c)}:=by
   simp[Builtin.delete_,run_underlying ht,MapKept.run_getObj_map Wf,lV.check,qO,run_setObj_map _ Wf]
  rw[r1] at r2;injection r2 with _ e2;refine⟨_,w1,r1,hQ w1 j ?_ hjs uK f1 f2 f3⟩;rw[e2];exact(heap_set Wf).1
def AckR(s:TO)(LH:Int)(s':TO):=s'.dG=s.dG/\s'.next=s.next/\s'.iA=s.iA/\s'.n<=s.n/\(∀x,s'.JF x->s.JF x)/\(¬LH>s.next->∀x,s'.JF x->¬x<LH)
section
variable{w:aH}{S:BS}{a tb mb:Nat}{g:Int->Option VK.T}{s:TO}
def JX.tim2(h:JX a tb mb g s w S):∃S1,Hf tb s.JF w S1/\¬S1 mb/\(∀k,S1 k->S k)/\∀ids' w' CH,Up S1 CH w w'->Hf tb ids' w' CH->∃S',JX a tb mb g {s with JF:=ids'} w' S'/\Up S S' w w':=by
 obtain⟨S5,S6,CJ,⟨S7,S8,Xl,htim,d7,e7⟩,d5,e5⟩:=h;have hmb:S7 mb:=by obtain⟨S9,ZD,hm,_,_,e9⟩:=Xl;exact(e9 _).2 (.inl ((hm.2 _).2 rfl))
 refine⟨S8,htim,λh=>d7 _ hmb h,λk hk=>(e5 k).2 (.inr ((e7 k).2 (.inr hk))),λids' w' CH u ht=>?_⟩;have b7:=bJ.iF Xl;have b5:=bJ.iF CJ;have dd:=u.mv (λk h1 h2=>d7 k h2 h1) b7;have de:=u.mv (λk h1 h2=>d5 k h2 ((e7 k).2 (.inr h1))) b5;refine⟨λk=>S5 k\/S7 k\/CH k,⟨S5,_,bJ.aK CJ u.m λk hk lM=>d5 k hk ((e7 k).2 (.inr lM)),⟨S7,CH,bJ.aK Xl u.m λk hk lM=>d7 k hk lM,ht,λk h1 h2=>dd k h2 h1,λ_=>Iff.rfl⟩,λk h1 h2=>h2.elim (λh=>d5 k h1 ((e7 k).2 (.inl h))) λh=>de k h h1,λ_=>Iff.rfl⟩,u.m.mono λk _ hk=>(e5 k).2 (.inr ((e7 k).2 (.inr hk))),λk hk=>?_⟩;rcases hk with h|h|h
 ·exact .inl ((e5 k).2 (.inl h))
 ·exact .inl ((e5 k).2 (.inr ((e7 k).2 (.inl h))))
 ·exact(u.s k h).imp (λh=>(e5 k).2 (.inr ((e7 k).2 (.inr h)))) id
def Dy.jm{f:Int->Option (List cH)}{n c:Nat}{es:Array MapEntry}(h:Dy mb g f n w S)(Wf:w.heap[mb]? =some (.map es c))(x:Int)(hx:(g x).isSome=true){Q:aH->Prop}
  (hQ:∀w' j S',Dy mb (λy=>if y=x then none else g y) (λy=>if y=x then none else f y) (n-1) w' S'->(∀k,S' k->S k)->(∀(sl:Sl) b,g x=some sl->sl.b=some b->¬S' b.block/\S b.block)->aU (λk=>k=mb) w w'->S' mb->w'.heap[mb]? =some (.map (es.eraseIdxIfInBounds j) c)->j<es.size->(es.toList[j]?).map (·.key)=some (.int .i64 x)->Q w'):qY prog 341 3 (.map (some mb)) (.int .i64 x) w Q:=by
 obtain⟨S9,ZD,hm,hb,d9,e9⟩:=h;have hmb9:S9 mb:=(hm.2 _).2 rfl;refine delRaw_i UF hm.1 Wf x hx λw' j h1 h2 h3 h4 m _=>?_;have bW:yj g f w' ZD:=bJ.aK (A:=Pc g f) hb m λk hk e=>d9 k (by rw[show k=mb from e];exact hmb9) hk
 let g':Int->Option VK.T:=λy=>if y=x then none else g y
 let S':BS:=λk=>∃y,∃sl:Sl,∃b,g' y=some sl/\sl.b=some b/\k=b.block
 have sub:∀k,S' k->ZD k:=λk ⟨y,sl,b,h1,h2,e⟩=>(bW.all _).2 ⟨y,sl,b,(del_eq h1).2,h2,e⟩;have hB:Pc g' (λy=>if y=x then none else f y) w' S':=by
  refine⟨λy=>?_,λy sl b hx hf=>bW.rd y sl b (del_eq hx).2 (del_eq hf).2,λy sl b hx hb=>bW.lt y sl b (del_eq hx).2 hb,λy z sl VH b b' h1 h2 h3 h4 e=>bW.inj y z sl VH b b' (del_eq h1).2 (del_eq h2).2 h3 h4 e,λk=>Iff.rfl⟩;show(if y=x then(none:Option VK.T) else g y).isSome=(if y=x then none else f y).isSome
  by_cases hxn:y=x
  ·rw[if_pos hxn,if_pos hxn];rfl
  ·rw[if_neg hxn,if_neg hxn];exact bW.iff y
 refine hQ w' j (λk=>S9 k\/S' k) ⟨S9,S',⟨h4,hm.2⟩,hB,λk h1 h2=>d9 k h1 (sub k h2),λk=>Iff.rfl⟩ (λk hk=>(e9 k).2 (hk.imp id (sub k))) (λsl b hg Lz=>?_) m (.inl hmb9) h1 h2 h3;have ZI:ZD b.block:=(bW.all _).2 ⟨x,sl,b,hg,Lz,rfl⟩;refine⟨λhs=>hs.elim (λh=>d9 _ h ZI) λ⟨y,VH,b',q1,q2,q3⟩=>?_,(e9 _).2 (.inr ZI)⟩;obtain⟨hy,q1⟩:=del_eq q1;exact hy (bW.inj y x VH sl b' b q1 hg q2 Lz q3.symm)
def JX.del2{es:Array MapEntry}{c:Nat}(h:JX a tb mb g s w S)(Wf:w.heap[mb]? =some (.map es c))(x:Int)(hx:(g x).isSome=true){Q:aH->Prop}
  (hQ:∀w' j S',JX a tb mb (λy=>if y=x then none else g y) {s with f:=λy=>if y=x then none else s.f y,n:=s.n-1} w' S'->(∀k,S' k->S k)->aU (λk=>k=mb) w w'->S mb->w'.heap[mb]? =some (.map (es.eraseIdxIfInBounds j) c)->j<es.size->(es.toList[j]?).map (·.key)=some (.int .i64 x)->Q w'):qY prog 341 3 (.map (some mb)) (.int .i64 x) w Q:=by
 obtain⟨S5,S6,CJ,⟨S7,S8,Xl,htim,d7,e7⟩,d5,e5⟩:=h;refine Xl.jm Wf x hx λw' j S' h1 hs _ m hmS h2 h3 h4=>?_;have hmb7:S7 mb:=hs _ hmS;exact hQ w' j (λk=>S5 k\/S' k\/S8 k) ⟨S5,_,bJ.aK CJ m λk hk e=>d5 k hk ((e7 k).2 (.inl (by rw[show k=mb from e];exact hmb7))),⟨S',S8,h1,bJ.aK htim m λk hk e=>d7 k (by rw[show k=mb from e];exact hmb7) hk,λk a b=>d7 k (hs k a) b,λ_=>Iff.rfl⟩,λk a b=>d5 k a ((e7 k).2 (b.imp (hs k) id)),λ_=>Iff.rfl⟩ (λk hk=>(e5 k).2 (hk.imp id λh=>(e7 k).2 (h.imp (hs k) id))) m ((e5 _).2 (.inr ((e7 _).2 (.inl hmb7)))) h2 h3 h4
def JX.iff(h:JX a tb mb g s w S)(x:Int):(g x).isSome=(s.f x).isSome:=by
 obtain⟨S5,S6,CJ,⟨S7,S8,⟨S9,ZD,hm,hb,d9,e9⟩,htim,d7,e7⟩,d5,e5⟩:=h;exact hb.iff x
def pj{kn:oU}{f:Int->Option kn.T}{n r c:Nat}{w:aH}{es:Array MapEntry}(h:kT w r FQ kn f n)(Wf:w.heap[r]? =some (.map es c)):(∀e∈es.toList,∃k:Int,e.key=.int .i64 k/\(f k).isSome=true)/\(∀k,(f k).isSome=true->∃e∈es.toList,e.key=.int .i64 k)/\QW es c:=by
 obtain⟨es',c',l,h1,h2,h3,h4,h5,h6,hB⟩:=h;rw[Wf] at h1;cases h1;refine⟨λe he=>?_,λk hk=>?_,hB⟩
 ·have:e.key∈es.toList.map (·.key):=List.mem_map_of_mem he;rw[h2] at this;obtain⟨p,hp,Rm⟩:=mQ.1 this;exact⟨p.1,Rm.symm,by rw[h5,HU];exact List.mem_map_of_mem hp⟩
 ·rw[h5,HU] at hk;obtain⟨p,hp,rfl⟩:=mQ.1 hk;have:FQ p.1∈es.toList.map (·.key):=by rw[h2];exact List.mem_map_of_mem (f:=λp:Int×kn.T=>FQ p.1) hp
  obtain⟨e,he,hke⟩:=mQ.1 this;exact⟨e,he,hke⟩
def Acked_i{LH:Int}{Q:Int->aH->Prop}(h:ZU a s w S)(ok:s.Ok)(We:s.next<=1000000000000000)(hQ:∀c s' w' S',ZU a s' w' S'->Up S S' w w'->AckR s LH s'->s'.Ok->Q c w'):KX (some ⟨a,0,none⟩) LH w Q:=by
 unfold KX;obtain⟨tb,mb,g,h⟩:=h;refine aF (λh=>by simp at h) (λ_=>aA rfl (aE (k:=.int .i64) s.next h.cells.2.2.1 (aI (λhgt=>?_) (λLV=>?_))))
 ·exact hQ 0 s w S ⟨tb,mb,g,h⟩ (Up.refl _ _) ⟨rfl,rfl,rfl,dN _,λ_=>id,λh=>absurd hgt h⟩ ok
 refine aA rfl (aE (k:=.map) (some mb) h.cells.2.2.2.1 ?_);have Sh:=h.map;obtain⟨es,c,Wf⟩:∃es c,w.heap[mb]? =some (.map es c):=by obtain⟨es,c,l,h1,_⟩:=Sh;exact⟨es,c,h1⟩
 have hmb:=Sh.lt;refine⟨w.heap.size,_,run_range_map (P:=prog) w 341 3 41 mb es c UF Wf,?_⟩;obtain⟨w0,hw0⟩:∃w0,w0=w.alloc (.mapIter (some mb) c #[] c):=⟨_,rfl⟩;rw[<-hw0];have k0:aL w w0:=by rw[hw0];exact aL.alloc w _
 have hr0:w0.heap[w.heap.size]? =some (.mapIter (some mb) c #[] c):=by rw[hw0];exact World.alloc_heap_new w _
 have iF:=bJ.iF h;refine bK (λn t w2=>∃(es:Array MapEntry) (GY:Array Nat) (g:Int->Option VK.T) (s2:TO) (S2:BS),n=(leftOf es GY).size/\JX a tb mb g s2 w2 S2/\Up S S2 w w2/\w2.heap[mb]? =some (.map es c)/\w2.heap[w.heap.size]? =some (.mapIter (some mb) c GY c)/\(∀e∈es.toList,e.born<c)/\¬S2 w.heap.size/\
   (∀e∈es.toList,GY.contains e.born=true->∀k:Int,e.key=.int .i64 k->¬k<LH)/\(s2.dG=s.dG/\s2.next=s.next/\s2.iA=s.iA/\s2.n<=s.n/\∀x,s2.JF x->s.JF x)/\s2.Ok) (leftOf es #[]).size
  ⟨es,#[],g,s,S,rfl,bJ.kp h k0,Up.aO k0,k0.block mb hmb id▸Wf,hr0,(pj Sh Wf).2.2.1,λhk=>by have:=iF _ hk;omega,λe _ hc=>by simp at hc,⟨rfl,rfl,rfl,dN _,λ_=>id⟩,ok⟩ ?_
 rintro n t w2 ⟨es,GY,g,s2,S2,rfl,h2,u2,hes2,Bj,QM,hnr,hsn,⟨q1,q2,q3,q4,q5⟩,jx⟩ X hX;have hmap2:=h2.map;obtain⟨key1,key2,hB⟩:=pj hmap2 hes2;have rlt:w.heap.size<w2.heap.size:=(Array.getElem?_eq_some_iff.1 Bj).1;rcases run_next_at (P:=prog) w2 0 w.heap.size mb c c GY es c Bj hes2 QM (dN _) with⟨hz,qO⟩|⟨e,he,w1,Vy,qO⟩
 ·refine⟨false,[],w2,qO,?_⟩;refine hQ _ s2 w2 S2 ⟨tb,mb,g,h2⟩ u2 ⟨q1,q2,q3,q4,q5,λ_ x hx cD=>?_⟩ jx;have hgx:(g x).isSome=true:=by rw[h2.iff];exact jx.JF x hx
  obtain⟨e,he,hke⟩:=key2 x hgx;exact hsn e he (all_seen es GY hz e he) x hke cD
 ·obtain⟨hem,hsb⟩:=mem_left he;obtain⟨k,hk,hgk⟩:=key1 e hem;obtain⟨w3,hw3⟩:∃w3,w3=setBlock w1 w.heap.size (.mapIter (some mb) c (GY.push e.born) c):=⟨_,rfl⟩;rw[hk,<-hw3] at qO;refine⟨true,[.int .i64 k,e.val],w3,qO,?_⟩;have m3:aU (λk=>k=w.heap.size) w2 w3:=by
   have e1:aU (λk=>k=w.heap.size) w1 w3:=by rw[hw3];exact lK w1 _ _
   rcases Vy with rfl|rfl
   ·exact e1
   ·exact(cB w2).wk.tr e1
  have hr3:w3.heap[w.heap.size]? =some (.mapIter (some mb) c (GY.push e.born) c):=by
   have:w.heap.size<w1.heap.size:=by rcases Vy with rfl|rfl<;>exact rlt
   rw[hw3];unfold setBlock;simp[this]
  have gQ:mb≠w.heap.size:=aB;have hes3:w3.heap[mb]? =some (.map es c):=(m3.block mb (pP hmb (by have:=u2.m.size;omega)) gQ).trans hes2;have h3:JX a tb mb g s2 w3 S2:=bJ.aK h2 m3 λk hk e=>hnr (by rw[<-show k=w.heap.size from e];exact hk);have u3:Up S S2 w w3:=⟨u2.m.trans m3 λk hk e=>by have e':k=w.heap.size:=e;omega,u2.s⟩;refine⟨k,[e.val],w3,?_,?_⟩
  ·rw[run_entry_at (P:=prog) w3 w.heap.size mb c GY es c e hr3 hes3 hem hB.2,hk]
  have hsn':∀(es':Array MapEntry),(∀x∈es'.toList,x∈es.toList)->¬(k<LH/\e∈es'.toList)->∀x∈es'.toList,(GY.push e.born).contains x.born=true->∀k':Int,x.key=.int .i64 k'->¬k'<LH:=by
   intro es' ML qU x hx hc k' lM;rw[contains_push] at hc;cases Wh:GY.contains x.born with
   |true=>exact hsn x (ML x hx) Wh k' lM
   |false=>
    rw[Wh,Bool.false_or] at hc;have hb:x.born=e.born:=by simpa using hc
    have hxe:=born_inj hB.2 (ML x hx) hem hb;subst hxe;rw[hk] at lM;cases lM
    exactλcD=>qU ⟨cD,hx⟩
  refine aI (λcD=>?_) (λkF=>?_)
  ·refine aA rfl (aE (k:=.ptr) (some ⟨tb,0,none⟩) h3.cells.1 ?_);refine cM (cs:=[.int .i64 k]) λw4 b4 k4 z4=>?_;have h4:=bJ.kp h3 k4;obtain⟨S4,ht4,hnmb,hS4,eJ⟩:=h4.tim2;have b3:=bJ.iF h3;refine Stop_i (sl:=⟨some ⟨w3.heap.size,0,none⟩,1,1⟩) ht4 (lU eY [k] b4 rfl dP) (λb hb=>by cases hb;exact⟨λhs=>by have:=b3 _ (hS4 _ hs);simp at this,by show w3.heap.size<_;omega⟩) λw5 S5 ht5 u5=>?_;obtain⟨S6,h6,u6⟩:=eJ _ w5 S5 u5 ht5;have rlt3:w.heap.size<w3.heap.size:=by have:=m3.size;omega
   have hr5:w5.heap[w.heap.size]? =some (.mapIter (some mb) c (GY.push e.born) c):=by rw[u5.m.block _ aB λh=>hnr (hS4 _ h),k4.block _ rlt3 id,hr3]
   have hes5:w5.heap[mb]? =some (.map es c):=by have:mb<w3.heap.size:=aB;rw[u5.m.block _ aB hnmb,k4.block _ this id,hes3]
   refine aA rfl (aE (k:=.map) (some mb) h6.cells.2.2.2.1 ?_);refine h6.del2 hes5 k hgk λw7 j S7 h7 hs7 m7 hmS hes7 hj hkj=>?_;have er:(es.eraseIdxIfInBounds j).toList=es.toList.eraseIdx j:=by unfold Array.eraseIdxIfInBounds;rw[dif_pos hj];simp
   have ML:∀x∈(es.eraseIdxIfInBounds j).toList,x∈es.toList:=λx hx=>by rw[er] at hx;exact List.mem_of_mem_eraseIdx hx
   have hne7:¬w.heap.size=mb:=λe=>gQ e.symm;have hr7:w7.heap[w.heap.size]? =some (.mapIter (some mb) c (GY.push e.born) c):=by rw[m7.block _ (by have:=u5.m.size;omega) hne7,hr5]
   have yb:e∉(es.eraseIdxIfInBounds j).toList:=λhx=>by
    have:=(pj h7.map hes7).1 e hx;obtain⟨k',lM,GO⟩:=this;rw[hk] at lM;cases lM;simp at GO
   have gL:(leftOf (es.eraseIdxIfInBounds j) (GY.push e.born)).size<=(leftOf es (GY.push e.born)).size:=by
    have e1:∀(es:Array MapEntry) (p:MapEntry->Bool),(es.filter p).size=(es.toList.filter p).length:=λes p=>by rw[<-Array.toList_filter,Array.length_toList]
    unfold leftOf;rw[e1,e1,er];exact((List.eraseIdx_sublist _ _).filter _).length_le
   have hlt7:=left_shrinks es GY e he;refine hX (leftOf (es.eraseIdxIfInBounds j) (GY.push e.born)).size _ _ aB ⟨es.eraseIdxIfInBounds j,GY.push e.born,_,_,S7,rfl,h7,⟨((u3.tr ((Up.aO k4).tr u6)).m.trans m7 λk' lM e'=>?_),λk' lM=>(u3.tr ((Up.aO k4).tr u6)).s k' (hs7 k' lM)⟩,hes7,hr7,λx hx=>QM x (ML x hx),λhs=>?_,hsn' _ ML λh=>yb h.2,⟨q1,q2,q3,by show s2.n-1<=s.n;omega,λx hx=>q5 x hx.2⟩,⟨jx.dG,by show s2.n-1<=s2.dG;have:=jx.TP;omega,λx hx=>?_,λx bs hb=>?_,?_⟩⟩
   ·have:=(u3.tr ((Up.aO k4).tr u6)).s k' (by rw[show k'=mb from e'];exact hmS);rcases this with h|h
    ·exact h
    ·omega
   ·rcases u6.s _ (hs7 _ hs) with h|h
    ·exact hnr h
    ·omega
   ·dsimp only;rw[if_neg hx.1];exact jx.JF x hx.2
   ·dsimp only at hb
    by_cases Bi:x=k
    ·rw[if_pos Bi] at hb;cases hb
    ·rw[if_neg Bi] at hb;exact jx.len x bs hb
   ·have:=jx.nx;show 0<=s2.next/\s2.next-((s2.n-1:Nat):Int)<=_
    omega
  ·have hlt7:=left_shrinks es GY e he;exact hX _ _ _ hlt7 ⟨es,GY.push e.born,g,s2,S2,rfl,h3,u3,hes3,hr3,QM,hnr,hsn' es (λ_=>id) λh=>kF h.1,⟨q1,q2,q3,q4,q5⟩,jx⟩
end
end
end Go.Proofs.YtihggjgakbgomaaGreat
namespace Go.Proofs.YtihggjgakbgomaaGreat
open Go Go.Den
section
def Hq:∀s:Sl,(eS s).length=1:=λ_=>rfl
def oneS1:∀s:Sl,∀u∈eS s,u.oneCell'=true:=by intro b u hu;simp at hu;subst hu;rfl
def CT(ss:List Sl)(FR:List (List cH)):As:=λw S=>ss.length=FR.length/\(∀(i:Nat) sl bs,ss[i]? =some sl->FR[i]? =some bs->Rd w sl 1 eU bs/\∀b,sl.b=some b->S b.block)/\∀k,S k->k<w.heap.size
instance{ss:List Sl}{FR:List (List cH)}:bJ (CT ss FR):=⟨λh=>h.2.2,λh m hn=>⟨h.1,λi sl bs h1 h2=>⟨(h.2.1 i sl bs h1 h2).1.aK m fV λb hb=>hn _ ((h.2.1 i sl bs h1 h2).2 b hb),(h.2.1 i sl bs h1 h2).2⟩,λk hk=>pP (h.2.2 k hk) m.size⟩⟩
def WL(s:Sl)(FR:List (List cH)):As:=Ex λss=>bL (pK CV 1 eS s ss) (CT ss FR)
instance{s:Sl}{FR:List (List cH)}:bJ (WL s FR):=by unfold WL;infer_instance
def UZ{ss:List Sl}{FR:List (List cH)}{r:Sl}{bs:List cH}{w:aH}{S:BS}(h:bL (CT ss FR) (EG 1 eU r bs) w S):CT (ss++[r]) (FR++[bs]) w S:=by
 have hb:=bJ.iF h;obtain⟨S1,S2,h1,h2,d,e⟩:=h;refine⟨by simp[h1.1],λi sl b hi hj=>?_,hb⟩
 by_cases cD:i<ss.length
 ·rw[Gu cD] at hi;rw[Gu (by rw[<-h1.1];exact cD)] at hj;exact⟨(h1.2.1 i sl b hi hj).1,λa ha=>(e _).2 (.inl ((h1.2.1 i sl b hi hj).2 a ha))⟩
 ·rw[Gv aB] at hi;rw[Gv (by have:=h1.1;omega),<-h1.1] at hj;cases hk:i-ss.length with
  |succ n=>rw[hk] at hi;simp at hi
  |zero=>rw[hk] at hi hj;cases hi;cases hj;exact⟨h2.1,λa ha=>(e _).2 (.inr ((h2.2.2.2 _).2 ⟨a,ha,rfl⟩))⟩
def vecS_nil{wx:aH}:pK CV 1 eS bD ([]:List Sl) wx (λ_=>False):=⟨dE.nil _ _ _ _,λk=>⟨False.elim,λ⟨b,hb,_⟩=>by cases hb⟩⟩
def Fq{wx:aH}:WL bD [] wx (λ_=>False):=⟨[],λ_=>False,λ_=>False,vecS_nil,⟨rfl,λi sl bs h=>by simp at h,λk h=>h.elim⟩,λ_ h _=>h,λk=>⟨.inl,λh=>h.elim id id⟩⟩
def bL.pR{A B:As}{w:aH}{S:BS}(h:A w S)(hB:B w (λ_=>False)):bL A B w S:=⟨S,_,h,hB,λ_ _ h=>h,λk=>⟨.inl,λh=>h.elim id False.elim⟩⟩
structure Wp where
 dG:Nat
 next:Int
 f:Int->Option (List cH)
 n:Nat
structure Wp.Ok(t:Wp):Prop where
 dG:t.dG<=16
 nx:0<=t.next/\t.next<=4294967296
 Xi:∀x bs,t.f x=some bs->t.next<=x/\x<t.next+t.dG/\x<4294967296/\bs.length<=5000
def MO(a mb:Nat)(g:Int->Option VK.T)(t:Wp):As:=bL (tE a tTaker [aD (t.dG:Int),aD t.next,.map (some mb)]) (Dy mb g t.f t.n)
instance{a mb:Nat}{g:Int->Option VK.T}{t:Wp}:bJ (MO a mb g t):=by unfold MO;infer_instance
def He(a:Nat)(t:Wp):As:=Ex λmb:Nat=>Ex λg:Int->Option VK.T=>MO a mb g t
instance{a:Nat}{t:Wp}:bJ (He a t):=by unfold He;infer_instance
section
variable{w:aH}{S:BS}{a mb:Nat}{g:Int->Option VK.T}{t:Wp}
def MO.cells(h:MO a mb g t w S):w.cell? ((⟨a,0,none⟩:Addr).add 0)=some (aD (t.dG:Int))/\w.cell? ((⟨a,0,none⟩:Addr).add 1)=some (aD t.next)/\w.cell? ((⟨a,0,none⟩:Addr).add 2)=some (.map (some mb)):=by
 obtain⟨S1,S2,h1,_⟩:=h;exact⟨aP h1 rfl,aP h1 rfl,aP h1 rfl⟩
def MO.map(h:MO a mb g t w S):kT w mb FQ VK g t.n:=by
 obtain⟨S1,S2,_,⟨S3,S4,h3,_⟩,_⟩:=h;exact h3.1
def MO.bods(h:MO a mb g t w S):∃S',yj g t.f w S':=by
 obtain⟨S1,S2,_,⟨S3,S4,_,h3,_⟩,_⟩:=h;exact⟨_,h3⟩
def MO.Eu(h:MO a mb g t w S)(ok:t.Ok):t.n<=t.dG:=by
 obtain⟨ks,k1,k2,k3⟩:=h.map.Xi;obtain⟨_,hb⟩:=h.bods;have hk:∀x∈ks,t.next<=x/\x<t.next+t.dG:=λx hx=>by
  have:=(k3 x).1 hx;rw[hb.iff] at this;obtain⟨bs,hbs⟩:=Mp.1 this;have:=ok.Xi x bs hbs;exact⟨this.1,this.2.1⟩
 have:=nodup_sub (ls:=(List.range t.dG).map λi:Nat=>t.next+(i:Int)) k1 λx hx=>by
  have:=hk x hx;exact mQ.2 ⟨(x-t.next).toNat,List.mem_range.2 aB,aB⟩
 simp at this;omega
def aAe{Q:Int->aH->Prop}(h:He a t w S)(hQ:Q t.next w):IP (some ⟨a,0,none⟩) w Q:=by
 unfold IP;obtain⟨mb,g,h⟩:=h;exact aF (λh=>by simp at h) (λ_=>aA rfl (aE (k:=.i) t.next h.cells.2.1 hQ))
def TkNew_i{dG:Nat}{Q:cW->Int->aH->Prop}(hw:1<=dG/\dG<=16)
  (hQ:∀w' S',He (w.heap.size+1) ⟨dG,0,λ_=>none,0⟩ w' S'->aL w w'->(∀k,S' k->w.heap.size<=k)->Q (some ⟨w.heap.size+1,0,none⟩) 0 w'):FD (dG:Int) w Q:=by
 unfold FD;refine aI (λh=>aB) (λ_=>aI (λh=>aB) (λ_=>?_));refine rN (ek:=FQ) (kn:=VK) λhm k1=>?_;refine cM (cs:=[aD (dG:Int),aD 0,.map (some w.heap.size)]) λw2 b2 k2 z2=>?_;have e:(w.alloc (.map #[] 0)).heap.size=w.heap.size+1:=by simp
 rw[e] at b2 ⊢;have hB:Dy w.heap.size (λ_=>none) (λ_=>none) 0 w2 (λk=>k=w.heap.size\/False):=⟨λk=>k=w.heap.size,λ_=>False,⟨hm.aK k2 id,λk=>Iff.rfl⟩,⟨λx=>rfl,λx sl b h=>(by cases h),λx sl b h=>(by cases h),λx y sl VH b b' h=>(by cases h),λk=>⟨False.elim,λ⟨x,sl,b,h,_⟩=>by cases h⟩⟩,λ_ _ h=>h,λ_=>Iff.rfl⟩;refine hQ w2 (λk=>k=w.heap.size+1\/(k=w.heap.size\/False)) ⟨w.heap.size,λ_=>none,_,_,b2,hB,λk h1 h2=>?_,λ_=>Iff.rfl⟩ (k1.tr k2) λk hk=>?_
 ·rcases h2 with h2|h2
  ·omega
  ·exact h2
 ·rcases hk with hk|hk|hk
  ·omega
  ·omega
  ·exact hk.elim
def Take_i{seq:Int}{body:Sl}{bs:List cH}{Q:Sl->Bool->aH->Prop}(h:He a t w S)(ok:t.Ok)(hs:u32 seq)(hb:Rd w body 1 eU bs)(ho:JM body S w)(hl:bs.length<=5000)
  (hQ:∀oO FR c t' w' S',bL (He a t') (WL oO FR) w' S'->Up S S' w w'->t'.Ok->t'.dG=t.dG->FR.length<=20->(∀b∈FR,b.length<=5000)->((∀x,t.f x=none)->seq=t.next->0<t.dG->FR=[bs]/\t'.next=t.next+1/\∀x,t'.f x=none)->Q oO c w'):
  PZ (some ⟨a,0,none⟩) seq body w Q:=by
 unfold PZ;obtain⟨mb,g,h⟩:=h;have hw:=ok.dG;have We:=ok.nx;have hd:=bJ.dr h;have kd:=cB w;have no:∀w',aL w w'->¬(seq=t.next/\0<t.dG/\∀x,t.f x=none)->Q bD false w':=λw' k hn=>hQ _ [] _ t w' S (bL.pR ⟨mb,g,bJ.kp h k⟩ Fq) (Up.aO k) ok rfl (cY _) dP λh1 h2 h3=>absurd ⟨h2,h3,h1⟩ hn
 refine aF (λh=>by simp at h) (λ_=>aA rfl (aE (k:=.i) t.next hd.cells.2.1 (aI (λcD=>no _ kd λhh=>aB) (λkF=>?_))))
 refine aA rfl (aE (k:=.i) t.next hd.cells.2.1 (aA rfl (aE (k:=.i) (t.dG:Int) hd.cells.1 ?_)))
 have h1:=hs.1;have h2:=hs.2;rw[iH (n:=seq-t.next) aB aB]
 refine aI (λhgt=>no _ kd λhh=>aB) (λcD=>?_);refine aA rfl (aE (k:=.map) (some mb) hd.cells.2.2 ?_);refine PL (kn:=VK) UF lV (z:=(bD:Sl)) UN hd.map seq ?_;obtain⟨_,hB⟩:=hd.bods;refine aF (λhsm=>no _ kd λhh=>?_) (λhsm=>?_)
 ·rw[hB.iff,hh.2.2] at hsm;cases hsm
 have kdd:=kd.tr (cB w.drew);have hdd:=bJ.kp h kdd;refine aA rfl (aE (k:=.map) (some mb) hdd.cells.2.2 ?_);refine wJ (hb.aK kdd fV λ_ _=>id) aB λr w2 S2 _ k2 _ Ls f2=>⟨(bJ.kp hdd k2).cells.2.2,?_⟩;obtain⟨S3,hBod,_,eJ⟩:=(bL.r hdd).put;refine hBod.put k2 Ls f2 seq λw3 S4 h3 u3=>?_;obtain⟨S5,h5,u5⟩:=eJ _ w3 S4 u3 h3;have hfs:t.f seq=none:=by rw[hB.iff] at hsm;simpa using hsm
 rw[hfs] at h5
 let t1:Wp:=⟨t.dG,t.next,λy=>if y=seq then some bs else t.f y,t.n+1⟩
 have Lt:t1.Ok:=⟨ok.dG,ok.nx,λx b hx=>by
  rcases KA hx with⟨e1,e2⟩|⟨_,hx⟩
  ·exact⟨by show t.next<=x;omega,by show x<t.next+t.dG;omega,aB,by rw[e2];exact hl⟩
  ·exact ok.Xi x b hx⟩
 have U5:Up S S5 w w3:=(Up.aO kdd).tr u5;refine bK (λc tt w4=>∃(oO:Sl) (FR:List (List cH)) (g:Int->Option VK.T) (t':Wp) (S4:BS),c=t'.n/\tt=(oO,())/\bL (MO a mb g t') (WL oO FR) w4 S4/\Up S S4 w w4/\t'.Ok/\t'.dG=t.dG/\FR.length+t'.n<=17/\(∀b∈FR,b.length<=5000)/\
   ((∀x,t.f x=none)->seq=t.next->(FR=[]/\t'.next=t.next/\∀x,t'.f x=if x=seq then some bs else none)\/(FR=[bs]/\t'.next=t.next+1/\∀x,t'.f x=none))) t1.n
  ⟨bD,[],_,t1,S5,rfl,rfl,bL.pR (show MO a mb _ t1 w3 S5 from h5) Fq,U5,Lt,rfl,by have:=(show MO a mb _ t1 w3 S5 from h5).Eu Lt;have:t1.dG=t.dG:=rfl;simp;omega,by simp,λh1 h2=>.inl ⟨rfl,rfl,λx=>by show(if x=seq then some bs else t.f x)=_;rw[h1 x]⟩⟩ ?_
 rintro c tt w4 ⟨oO,FR,g,t',S4,rfl,rfl,h4,u4,Rk,q1,q2,q3,q4⟩ X hX;dsimp only;have h4d:=bJ.dr h4;obtain⟨T,hT,_,_⟩:=(bL.l h4d).put;refine aA rfl (aE (k:=.map) (some mb) hT.cells.2.2 (aA rfl (aE (k:=.i) t'.next hT.cells.2.1 ?_)))
 refine PL (kn:=VK) UF lV (z:=(bD:Sl)) UN hT.map t'.next ?_
 obtain⟨_,hB4⟩:=hT.bods;refine aF (λhn=>?_) (λhy=>?_)
 ·refine hQ oO FR true t' _ S4 (h4d.mono (λ_ h=>⟨mb,g,h⟩) λ_ h=>h) (u4.tr (Up.aO (cB w4))) Rk q1 aB q3 λe1 e2 e3=>?_;rcases q4 e1 e2 with⟨_,e5,e6⟩|h
  ·have:t'.f t'.next=some bs:=by rw[e6,if_pos aB]
   have h7:=hB4.iff t'.next
   rw[this] at h7;rw[h7] at hn;cases hn
  ·exact h
 ·have vf:(g t'.next).isSome=true:=by simpa using hy
  obtain⟨x6,hx6⟩:∃x6:Sl,g t'.next=some x6:=Mp.1 vf
  have hfs6:(t'.f t'.next).isSome=true:=by rw[<-hB4.iff];exact vf
  obtain⟨b6,hb6⟩:=Mp.1 hfs6;have rd6:=hB4.rd t'.next x6 b6 hx6 hb6
  have blk6:=hB4.lt t'.next x6
  have key6:=Rk.Xi _ _ hb6;have ex6:(g t'.next).getD (bD:Sl)=x6:=by rw[hx6];rfl
  rw[ex6];have kdd4:=cB w4.drew;have h4dd:=bJ.kp h4d kdd4;have rd6d:=rd6.aK kdd4 fV λ_ _=>id;obtain⟨ST,SG,hTT,hGG,dTG,eTG⟩:=h4dd;refine aA rfl (aE (k:=.map) (some mb) hTT.cells.2.2 (aA rfl (aE (k:=.i) t'.next hTT.cells.2.1 ?_)))
  obtain⟨SB,SM,CJ,Xl,dBM,eBM⟩:=hTT;obtain⟨es,cl,Wf⟩:∃es c,w4.drew.drew.heap[mb]? =some (.map es c):=by obtain⟨S9,ZD,hm,_⟩:=Xl;obtain⟨es,c,l,h1,_⟩:=hm.1;exact⟨es,c,h1⟩
  refine Xl.jm Wf t'.next vf λw6 j SM' h6 Of hx6b m6 hmS6 _ _ _=>?_
  have hmbM:SM mb:=Of _ hmS6;have mT:∀k,k=mb->SM k:=λk e=>by rw[e];exact hmbM
  have blkT:=bJ.aK CJ m6 λk hk e=>dBM k hk (mT k e);have gg6:=bJ.aK hGG m6 λk hk e=>dTG k ((eBM k).2 (.inr (mT k e))) hk;have rx6:EG 1 eU x6 b6 w6 (tF x6):=by
   refine⟨rd6d.aK m6 fV λb hb e=>(hx6b x6 b hx6 hb).1 ?_,fV,λb hb=>?_,λ_=>Iff.rfl⟩
   ·rw[show b.block=mb from e];exact hmS6
   ·have:=blk6 b hx6 hb;have:=m6.size;simpa using pP ‹b.block<w4.drew.heap.size› this
  have x6S:∀k,tF x6 k->SM k/\¬SM' k:=λk ⟨b,hb,e⟩=>by rw[e];exact⟨(hx6b x6 b hx6 hb).2,(hx6b x6 b hx6 hb).1⟩
  let t2:Wp:=⟨t'.dG,t'.next,λy=>if y=t'.next then none else t'.f y,t'.n-1⟩
  have rI:bL (MO a mb (λy=>if y=t'.next then none else g y) t2) (bL (WL oO FR) (EG 1 eU x6 b6)) w6 (λk=>(SB k\/SM' k)\/(SG k\/tF x6 k)):=
   ⟨λk=>SB k\/SM' k,λk=>SG k\/tF x6 k,⟨SB,SM',blkT,h6,λk h1 h2=>dBM k h1 (Of k h2),λ_=>Iff.rfl⟩,⟨SG,tF x6,gg6,rx6,λk h1 h2=>dTG k ((eBM k).2 (.inr (x6S k h2).1)) h1,λ_=>Iff.rfl⟩,
    λk h1 h2=>h2.elim (λh=>dTG k ((eBM k).2 (h1.imp id (Of k))) h) λh=>h1.elim (λhb=>dBM k hb (x6S k h).1) λhm=>(x6S k h).2 hm,λ_=>Iff.rfl⟩
  have U6:Up S4 (λk=>(SB k\/SM' k)\/(SG k\/tF x6 k)) w4.drew.drew w6:=⟨m6.mono λk _ e=>(eTG k).2 (.inl ((eBM k).2 (.inr (mT k e)))),λk hk=>.inl ((eTG k).2 (by
   rcases hk with(h|h)|(h|h)
   ·exact .inl ((eBM k).2 (.inl h))
   ·exact .inl ((eBM k).2 (.inr (Of k h)))
   ·exact .inr h
   ·exact .inl ((eBM k).2 (.inr (x6S k h).1))))⟩
  refine cM (cs:=[aW x6]) λw7 b7 k7 z7=>?_;have hall7:=bJ.kp rI k7;obtain⟨SX,SY,hX1,⟨SV,SR,⟨ss,hV⟩,hR,dVR,eVR⟩,dXY,eXY⟩:=hall7;have hall7':bL (MO a mb (λy=>if y=t'.next then none else g y) t2) (bL (pK CV 1 eS oO ss) (bL (CT ss FR) (EG 1 eU x6 b6))) w7 (λk=>(SB k\/SM' k)\/(SG k\/tF x6 k)):=
   ⟨SX,SY,hX1,bL.asr ⟨SV,SR,hV,hR,dVR,eVR⟩,dXY,eXY⟩
  have hssl:ss.length=FR.length:=by obtain⟨_,_,_,hL,_⟩:=hV;exact hL.1
  obtain⟨S8,hV8,_,Yn⟩:=((bL.r hall7').c λT hT=>bL.l hT).put;refine PD (x:=⟨some ⟨w6.heap.size,0,none⟩,1,1⟩) OE Hq oneS1 hV8 (lU Hq [x6] b7 rfl dP) (by simp;omega) aB λs2 w8 S9 v9 u9=>?_;obtain⟨ZD,ZI,u10⟩:=Yn _ w8 S9 u9 v9;obtain⟨Ru,hB11,_,Ij⟩:=((bL.l ZI).c λT hT=>bL.l hT).put;refine aA rfl (aE (k:=.i) t'.next (aP hB11 rfl) (aA rfl ?_))
  refine qP hB11 cV dP rfl rfl λw9 b9 u9'=>?_;obtain⟨ZL,Gj,Fw⟩:=Ij _ w9 _ u9' b9;rw[iH (n:=t'.next+(1:Int)) (by have:=Rk.nx;omega) (by have:=Rk.nx;omega)] at Gj
  have hn0:0<t'.n:=by have hT':MO a mb g t' w4.drew T:=hT;obtain⟨ks,k1,k2,k3⟩:=hT'.map.Xi;rw[<-k2];exact List.length_pos_of_mem ((k3 _).2 vf)
  refine hX (t'.n-1) _ _ aB ⟨s2,FR++[b6],_,⟨t'.dG,t'.next+1,λy=>if y=t'.next then none else t'.f y,t'.n-1⟩,ZL,rfl,rfl,Gj.mono (λ_ h=>h) (λ_ h=>⟨ss++[x6],h.mono (λ_ h=>h) λ_ h=>UZ h⟩),(u4.tr (Up.aO ((cB w4).tr kdd4))).tr (((U6.tr (Up.aO k7)).tr u10).tr Fw),⟨Rk.dG,by have:=Rk.nx;show 0<=t'.next+1/\t'.next+1<=4294967296;omega,λx b hx=>?_⟩,q1,by simp;omega,λb hb=>?_,λe1 e2=>.inr ?_⟩
  ·obtain⟨e1,e2⟩:=del_eq hx;have:=Rk.Xi x b e2;show t'.next+1<=x/\x<t'.next+1+t'.dG/\_
   omega
  ·rcases kK.1 hb with hb|hb
   ·exact q3 b hb
   ·rw[mR.1 hb];exact key6.2.2.2
  ·rcases q4 e1 e2 with⟨e3,e4,e5⟩|⟨e3,e4,e5⟩
   ·have:t'.f t'.next=some bs:=by rw[e5,if_pos aB]
    rw[hb6] at this;cases this;refine⟨by rw[e3];rfl,by show t'.next+1=_;omega,λx=>?_⟩
    show(if x=t'.next then none else t'.f x)=none
    by_cases hx:x=t'.next
    ·rw[if_pos hx]
    ·rw[if_neg hx,e5,if_neg aB]
   ·rw[e5] at hb6;cases hb6
end
end
open Tryz (prog)
section
def CP(r:Sl)(gs:List fK):As:=Ex λxs:List GX=>Pr (xs.map (·.1)=gs) (bL (pK HG 6 eG r xs) (CT (xs.map (·.2)) (xs.map (·.1.body))))
instance{r:Sl}{gs:List fK}:bJ (CP r gs):=by unfold CP;infer_instance
def XF{wx:aH}:CP bD [] wx (λ_=>False):=⟨[],rfl,λ_=>False,λ_=>False,⟨dE.nil _ _ _ _,λk=>⟨False.elim,λ⟨b,hb,_⟩=>by cases hb⟩⟩,⟨rfl,λi sl bs h=>by simp at h,λk h=>h.elim⟩,λ_ h _=>h,λk=>⟨.inl,λh=>h.elim id id⟩⟩
def listA_app{ss ss':List Sl}{FR bss':List (List cH)}{w:aH}{S:BS}(h:bL (CT ss FR) (CT ss' bss') w S):CT (ss++ss') (FR++bss') w S:=by
 have hb:=bJ.iF h;obtain⟨S1,S2,h1,h2,d,e⟩:=h;refine⟨by simp[h1.1,h2.1],λi sl b hi hj=>?_,hb⟩
 by_cases cD:i<ss.length
 ·rw[Gu cD] at hi;rw[Gu (by rw[<-h1.1];exact cD)] at hj;exact⟨(h1.2.1 i sl b hi hj).1,λa ha=>(e _).2 (.inl ((h1.2.1 i sl b hi hj).2 a ha))⟩
 ·rw[Gv aB] at hi;rw[Gv (by have:=h1.1;omega),<-h1.1] at hj;exact⟨(h2.2.1 _ sl b hi hj).1,λa ha=>(e _).2 (.inr ((h2.2.1 _ sl b hi hj).2 a ha))⟩
def grs_snoc{r s:Sl}{gs:List fK}{g:fK}{w:aH}{S T:BS}{K:Sl->aH->Prop}(h:CP r gs w S)(hb:EG 1 eU s g.body w T)(hd:∀k,S k->T k->False)(hl:gs.length<=1000)
  (hK:∀r' w' S',CP r' (gs++[g]) w' S'->Up (λk=>S k\/T k) S' w w'->K r' w'):aG w (eG (g,s)).toArray HG λa w1=>aX prog Tb Tb r (.slice (some a) 1 1) w1 K:=by
 refine cM λw1 b1 k1 z1=>?_;obtain⟨xs,rfl,S1,S2,h1,h2,d,e⟩:=h;rw[lT] at hl;have hlr:bL (CT (xs.map (·.2)) (xs.map (·.1.body))) (EG 1 eU s g.body) w (λk=>S2 k\/T k):=bL.yH h2 hb λk a b=>hd k ((e k).2 (.inr a)) b;have rI:bL (pK HG 6 eG r xs) (bL (CT (xs.map (·.2)) (xs.map (·.1.body))) (EG 1 eU s g.body)) w (λk=>S k\/T k):=⟨S1,_,h1,hlr,λk a b=>b.elim (d k a) λb=>hd k ((e k).2 (.inl a)) b,λk=>by show S k\/T k↔_;rw[e k,or_assoc]⟩;obtain⟨S3,h3,_,eJ⟩:=(bL.l (bJ.kp rI k1)).put;refine PD (x:=⟨some ⟨w.heap.size,0,none⟩,1,1⟩) Kq Xh Mm h3 (lU Xh [(g,s)] b1 rfl dP) (by simp;omega) aB λr' w2 S4 v4 u4=>?_;obtain⟨S5,h5,u5⟩:=eJ _ w2 S4 u4 v4;refine hK r' w2 S5 ⟨xs++[(g,s)],by simp,?_⟩ ((Up.aO k1).tr u5);have:=h5.mono (λ_ h=>h) λ_ h=>UZ h;simpa using this
structure lE where
 s:TO
 aM:Int
 t:Wp
 iG:List (List cH)
structure lE.Ok(c:lE):Prop where
 s:c.s.Ok
 t:c.t.Ok
 iG:c.iG.length<=64
 len:∀b∈c.iG,b.length<=70000
def Hj(sl:Sl)(l:List (List cH)):As:=Ex λss=>bL (Sw CV 1 eS sl ss) (CT ss l)
instance{s:Sl}{FR:List (List cH)}:bJ (Hj s FR):=by unfold Hj;infer_instance
def ZV(a sp tp:Nat)(sl:Sl)(c:lE):As:=bL (tE a xd [.pointer (some ⟨sp,0,none⟩),aD c.aM,.pointer (some ⟨tp,0,none⟩),aW sl]) (bL (He tp c.t) (bL (ZU sp c.s) (Hj sl c.iG)))
instance{a sp tp:Nat}{sl:Sl}{c:lE}:bJ (ZV a sp tp sl c):=by unfold ZV;infer_instance
def mJ(a:Nat)(c:lE):As:=Ex λsp:Nat=>Ex λtp:Nat=>Ex λsl:Sl=>ZV a sp tp sl c
instance{a:Nat}{c:lE}:bJ (mJ a c):=by unfold mJ;infer_instance
def lE.Ox(c:lE)(x:Int):fK:=⟨c.aM,1,x,c.t.next,0,(c.s.f x).getD []⟩
def lE.QQ(s:TO)(aM nx:Int)(t:Wp):List (List cH)->List fK×lE
 | []=>([],⟨s,aM,t,[]⟩)
 |b::r=>if s.iA=false/\s.n<s.dG then((⟨aM,1,s.next,nx,0,b⟩:fK)::(QQ (s.send b) aM nx t r).1,(QQ (s.send b) aM nx t r).2) else([],⟨s,aM,t,b::r⟩)
def lE.sC(c:lE):List fK×lE:=QQ c.s c.aM c.t.next c.t c.iG
section
variable{w:aH}{S:BS}{a sp tp:Nat}{sl:Sl}{c:lE}
def ZV.cells(h:ZV a sp tp sl c w S):w.cell? ((⟨a,0,none⟩:Addr).add 0)=some (.pointer (some ⟨sp,0,none⟩))/\w.cell? ((⟨a,0,none⟩:Addr).add 1)=some (aD c.aM)/\w.cell? ((⟨a,0,none⟩:Addr).add 2)=some (.pointer (some ⟨tp,0,none⟩))/\w.cell? ((⟨a,0,none⟩:Addr).add 3)=some (aW sl):=by
 obtain⟨S1,S2,h1,_⟩:=h;exact⟨aP h1 rfl,aP h1 rfl,aP h1 rfl,aP h1 rfl⟩
def ZV.snd(h:ZV a sp tp sl c w S):js w S (ZU sp c.s) λX=>bL (tE a xd [.pointer (some ⟨sp,0,none⟩),aD c.aM,.pointer (some ⟨tp,0,none⟩),aW sl]) (bL (He tp c.t) (bL X (Hj sl c.iG))):=
 (bL.r h).c λT hT=>(bL.r hT).c λT hT=>bL.l hT
def ZV.tkr(h:ZV a sp tp sl c w S):js w S (He tp c.t) λX=>bL (tE a xd [.pointer (some ⟨sp,0,none⟩),aD c.aM,.pointer (some ⟨tp,0,none⟩),aW sl]) (bL X (bL (ZU sp c.s) (Hj sl c.iG))):=
 (bL.r h).c λT hT=>bL.l hT
def ZV.yy(h:ZV a sp tp sl c w S):sl.l=c.iG.length:=by
 obtain⟨S1,S2,_,⟨S3,S4,_,⟨S5,S6,_,⟨ss,S7,S8,hv,hl,_⟩,_⟩,_⟩,_⟩:=h;rw[hv.1.len,hl.1]
def aAi{Q:Bool->aH->Prop}(h:mJ a c w S)(hQ:Q c.s.iA w):CE (some ⟨a,0,none⟩) w Q:=by
 unfold CE;obtain⟨sp,tp,sl,h⟩:=h;obtain⟨S1,⟨tb,mb,g,hs⟩,_,_⟩:=h.snd.put;exact aF (λh=>by simp at h) (λ_=>aA rfl (aE (k:=.ptr) (some ⟨sp,0,none⟩) h.cells.1 (qg hs hQ)))
def data_i{x:Int}{Q:Int×Int×Int×Int×Int×Sl×Unit->aH->Prop}(h:mJ a c w S)(ok:c.Ok)(hQ:∀s w',EG 1 eU s (c.Ox x).body w' (tF s)->(∀b,s.b=some b->w.heap.size<=b.block)->aL w w'->Q (JT (c.Ox x,s)) w'):IU (some ⟨a,0,none⟩) x w Q:=by
 unfold IU;obtain⟨sp,tp,sl,h⟩:=h;refine cM (cs:=eG (⟨0,0,0,0,0,[]⟩,bD)) λw1 b1 k1 z1=>aA rfl ?_;have h1:=bJ.kp h k1;refine aE (k:=.ptr) (some ⟨sp,0,none⟩) h1.cells.1 ?_;obtain⟨S1,hs,_,_⟩:=h1.snd.put;refine Body_i hs ok.s λr c2 w2 rd f2 k2=>?_;have k2d:=k2.tr (cB w2);have h2:=bJ.kp h1 k2d;refine aA rfl (aE (k:=.i) c.aM h2.cells.2.1 (aA rfl (aE (k:=.ptr) (some ⟨tp,0,none⟩) h2.cells.2.2.1 ?_)));obtain⟨S2,ht,_,_⟩:=h2.tkr.put;refine aAe ht ⟨h2.cells.2.1,?_⟩;have o2:=b1.1.aK k2d id;refine fJ (vs:=eG (c.Ox x,r)) o2 sF rfl (Mm _) λw4 o4 m4 _=>?_;refine aZ (l:=kG) (JT (c.Ox x,r)) (o4.holds λj v hj=>by rw[gK];exact hj) ?_;have K:=k1.tr k2d;refine hQ r w4 (bJ.aK (bJ.kp rd (cB w2)) m4 λk ⟨b,hb,e⟩ e2=>?_) (λb hb=>by have:=f2 b hb;omega) (K.fresh m4 λk e=>by rw[show k=w.heap.size from e];exact dN _);have:=f2 b hb;omega
def owd_tail{b:List cH}{r:List (List cH)}(h:Hj sl (b::r) w S):∃S',Hj ⟨aR sl.b sl.c 1 1,sl.l-1,sl.c-1⟩ r w S'/\(∀k,S' k->S k):=by
 obtain⟨ss,S1,S2,hv,hl,d,e⟩:=h;cases ss with
 |nil=>have:=hl.1;simp at this
 |cons x ss=>
  have kI:=hv.1.tail Hq
  let s':Sl:=⟨aR sl.b sl.c 1 1,sl.l-1,sl.c-1⟩
  have ML:∀k,(s'.c≠0/\∃b,s'.b=some b/\k=b.block)->S1 k:=λk ⟨hc,b,hb,e⟩=>by
   obtain⟨a0,ha0,e2⟩:=Ql hb;have Lx:sl.c-1≠0:=hc;exact(hv.2 k).2 ⟨aB,a0,ha0,by rw[e,e2]⟩
  refine⟨λk=>(s'.c≠0/\∃b,s'.b=some b/\k=b.block)\/S2 k,⟨ss,_,S2,⟨kI,λ_=>Iff.rfl⟩,⟨by have:=hl.1;simpa using this,λi sl bs h1 h2=>hl.2.1 (i+1) sl bs (by simpa using h1) (by simpa using h2),hl.2.2⟩,λk h1 h2=>d k (ML k h1) h2,λ_=>Iff.rfl⟩,λk hk=>(e k).2 (hk.imp (ML k) id)⟩
def ot{dQ:Int}{Q:Sl->aH->Prop}(h:mJ a c w S)(ok:c.Ok)(hQ:∀r w' S',bL (mJ a c.sC.2) (CP r c.sC.1) w' S'->Up S S' w w'->c.sC.2.Ok->Q r w'):xY (some ⟨a,0,none⟩) dQ w Q:=by
 unfold xY;refine bK (λn t w1=>∃(r:Sl) (gs:List fK) (c1:lE) (S1:BS),n=c1.iG.length/\t=(r,())/\bL (mJ a c1) (CP r gs) w1 S1/\Up S S1 w w1/\c1.Ok/\gs.length+c1.iG.length<=64/\c.sC=(gs++c1.sC.1,c1.sC.2)) c.iG.length
  ⟨bD,[],c,S,rfl,rfl,bL.pR h XF,Up.refl _ _,ok,by have:=ok.iG;simp;omega,by simp⟩ ?_
 rintro n t w1 ⟨r,gs,c1,S1,rfl,rfl,h1,u1,Lt,Og,hp⟩ X hX;dsimp only;have dX:c1.sC=([],c1)->∀w2,aL w1 w2->Q r w2:=λe w2 k2=>by
  rw[e] at hp;simp only[rF] at hp;rw[hp] at hQ;exact hQ r w2 S1 (bJ.kp h1 k2) (u1.tr (Up.aO k2)) Lt
 obtain⟨SC,SG,⟨sp,tp,sl,hc⟩,hg,dCG,eCG⟩:=h1;have hol:=hc.yy;refine aA rfl (aE (k:=.slice) sl hc.cells.2.2.2 (aI (λhgt=>?_) (λLV=>dX ?_ w1 (aU.refl _ _))))
 ·obtain⟨st,aM,tk,iG⟩:=c1;cases iG with
  |nil=>simp at hol;omega
  |cons b cO=>
   refine aA rfl (aE (k:=.ptr) (some ⟨sp,0,none⟩) hc.cells.1 ?_);obtain⟨SS,⟨tb,mb,g,hs⟩,_,_⟩:=hc.snd.put;refine Room_i hs Lt.s λw2 k2=>?_;have HM:=Lt.s.TP;refine aI (λhx=>?_) (λhx=>dX ?_ w2 k2)
   ·have hcan:st.iA=false/\st.n<st.dG:=by
     cases ho:st.iA with
     |true=>simp[ho] at hx
     |false=>simp only[ho,Bool.false_eq_true,if_false] at hx;have:st.n<=st.dG:=HM;exact⟨rfl,aB⟩
    have kd:=k2.tr (cB w2);have hcd:=bJ.kp hc kd;have Es:=bJ.kp hg kd;refine aA rfl (aE (k:=.ptr) (some ⟨sp,0,none⟩) hcd.cells.1 (aA rfl (aE (k:=.slice) sl hcd.cells.2.2.2 ⟨⟨aB,aB⟩,?_⟩)));obtain⟨SO,hso,_,eJ⟩:=((bL.r hcd).c λT hT=>bL.r hT).put;obtain⟨Sx,Sy,hsA,hoA,dxy,exy⟩:=hso;have hoA2:=hoA;obtain⟨ss,S7,S8,hv,hL,_,Rt⟩:=hoA;cases ss with
    |nil=>have:=hL.1;simp at this
    |cons s3 ss=>
     obtain⟨q,hq,AI⟩:=bR (k:=.slice) (e:=λs:Sl=>s) (hv.1.rd Hq) (show(s3::ss)[0]? =some s3 from rfl);refine aA hq (aE (k:=.slice) s3 AI ?_);obtain⟨rd3,bl3⟩:=hL.2.1 0 s3 b rfl rfl;have gL:b.length<=70000:=Lt.len b dP;have out3:JM s3 Sx w2.drew:=λbb Lz=>⟨λhs=>dxy _ hs ((Rt _).2 (.inr (bl3 bb Lz))),hL.2.2 _ (bl3 bb Lz)⟩;refine Send_i hsA Lt.s rd3 out3 gL hcan.1 hcan.2 λw3 S3 h3 u3=>?_;have bo:=bJ.iF hoA2;have hoA3:=bJ.aK hoA2 u3.m λk hk lM=>dxy k lM hk;obtain⟨S9,ho9,hs9⟩:=owd_tail hoA3;have dd:=u3.mv dxy bo
     let VH:Sl:=⟨aR sl.b sl.c 1 1,sl.l-1,sl.c-1⟩
     have ZI:bL (ZU sp (st.send b)) (Hj VH cO) w3 (λk=>S3 k\/S9 k):=bL.yH h3 ho9 λk h1 h2=>dd k h1 (hs9 k h2);obtain⟨ZD,hc10,u10⟩:=eJ _ w3 _ ⟨u3.m.mono λk _ hk=>(exy k).2 (.inl hk),λk hk=>hk.elim (λh=>(u3.s k h).imp (λh=>(exy k).2 (.inl h)) id) λh=>.inl ((exy k).2 (.inr (hs9 k h)))⟩ ZI;obtain⟨SB,hB,_,backB⟩:=(bL.l hc10).put;refine aA rfl (aE (k:=.slice) sl (aP hB rfl) ⟨⟨aB,aB⟩,aA rfl ?_⟩);refine qP (v:=aW VH) hB iZ dP rfl rfl λw4 b4 u4=>?_;obtain⟨Ru,hc11,Vw⟩:=backB _ w4 _ u4 b4
     let c2:lE:=⟨st.send b,aM,tk,cO⟩
     have QL:mJ a c2 w4 Ru:=⟨sp,tp,VH,hc11⟩;have jx:c2.Ok:=⟨Lt.s.send hcan.2 gL,Lt.t,by have:=Lt.iG;simp at this;show cO.length<=64;omega,λx hx=>Lt.len x (by simp[show x∈cO from hx])⟩;have U4:Up SC Ru w2.drew w4:=u10.tr Vw;have bg:=bJ.iF Es;have hg4:=bJ.aK Es U4.m λk hk lM=>dCG k lM hk;have d4:=U4.mv dCG bg;refine data_i QL jx λs5 w5 Wr f5 k5=>?_;have hdat:c2.Ox st.next=⟨aM,1,st.next,tk.next,0,b⟩:=by
      show(⟨aM,1,st.next,tk.next,0,((if st.next=st.next then some b else st.f st.next)).getD []⟩:fK)=_
      rw[if_pos rfl];rfl
     rw[hdat] at Wr ⊢;have hc5:=bJ.kp QL k5;have hg5:=bJ.kp hg4 k5;have bc4:=bJ.iF QL;have bg4:=bJ.iF hg4;have rI:bL (mJ a c2) (bL (CP r gs) (EG 1 eU s5 b)) w5 (λk=>Ru k\/(SG k\/tF s5 k)):=
      bL.yH hc5 (bL.yH hg5 Wr λk h1 ⟨bb,Lz,e⟩=>by have:=bg4 k h1;have:=f5 bb Lz;omega) λk h1 h2=>h2.elim (d4 k h1) λ⟨bb,Lz,e⟩=>by have:=bc4 k h1;have:=f5 bb Lz;omega
     obtain⟨ZL,hgr,_,UM⟩:=(bL.r rI).put;obtain⟨S13,S14,hg13,hr14,d13,e13⟩:=hgr;refine grs_snoc (g:=⟨aM,1,st.next,tk.next,0,b⟩) hg13 hr14 d13 aB λr' w7 S' hg7 u7=>?_
     obtain⟨S15,h15,u15⟩:=UM _ w7 S' ⟨u7.m.mono λk _ hk=>(e13 k).2 hk,λk hk=>(u7.s k hk).imp (λh=>(e13 k).2 h) id⟩ hg7;have Uall:Up S1 S15 w1 w7:=by
      have m4:Up S1 (λk=>Ru k\/SG k) w1 w4:=(Up.aO (S:=S1) kd).tr ⟨U4.m.mono λk _ hk=>(eCG k).2 (.inl hk),λk hk=>hk.elim (λh=>(U4.s k h).imp (λh=>(eCG k).2 (.inl h)) id) λh=>.inl ((eCG k).2 (.inr h))⟩;refine m4.tr ⟨k5.wk.trans u15.m λk hk h=>?_,λk hk=>?_⟩
      ·rcases h with h|h|⟨bb,Lz,e⟩
       ·exact .inl h
       ·exact .inr h
       ·have:=f5 bb Lz;omega
      ·rcases u15.s k hk with(h|h|⟨bb,Lz,e⟩)|h
       ·exact .inl (.inl h)
       ·exact .inl (.inr h)
       ·exact .inr (by rw[e];exact f5 bb Lz)
       ·exact .inr (jB k5.size h)
     have hpay:(⟨st,aM,tk,b::cO⟩:lE).sC=((⟨aM,1,st.next,tk.next,0,b⟩:fK)::c2.sC.1,c2.sC.2):=by
      show lE.QQ st aM tk.next tk (b::cO)=_
      rw[lE.QQ,if_pos hcan];rfl
     refine hX cO.length _ _ dP ⟨r',gs++[⟨aM,1,st.next,tk.next,0,b⟩],c2,S15,rfl,rfl,h15,u1.tr Uall,jx,by simp at Og;show _+cO.length<=64;simp;omega,?_⟩
     rw[hp,hpay];simp
   ·show lE.QQ st aM tk.next tk (b::cO)=_
    rw[lE.QQ,if_neg λhh=>?_];have:=hh.2;simp only[hh.1,Bool.false_eq_true,if_false] at hx;omega
 ·obtain⟨st,aM,tk,iG⟩:=c1;cases iG with
  |nil=>rfl
  |cons b cO=>simp at hol;omega
end
end
section
def zh{r0 r:Sl}{gs0 gs:List fK}{w:aH}{S0 S:BS}{K:Sl->aH->Prop}(h0:CP r0 gs0 w S0)(h:CP r gs w S)(hd:∀k,S0 k->S k->False)(hl:gs0.length+gs.length<=1000)
  (hK:∀r' w' S',CP r' (gs0++gs) w' S'->Up (λk=>S0 k\/S k) S' w w'->K r' w'):aX prog Tb Tb r0 (aW r) w K:=by
 obtain⟨xs0,rfl,S1,S2,h1,h2,d,e⟩:=h0;obtain⟨xs,rfl,S3,S4,h3,h4,d',e'⟩:=h;rw[lT,lT] at hl;have rI:bL (pK HG 6 eG r0 xs0) (bL (CT (xs0.map (·.2)) (xs0.map (·.1.body))) (CT (xs.map (·.2)) (xs.map (·.1.body)))) w (λk=>S1 k\/(S2 k\/S4 k)):=
  bL.yH h1 (bL.yH h2 h4 λk a b=>hd k ((e k).2 (.inr a)) ((e' k).2 (.inr b))) λk a b=>b.elim (d k a) λb=>hd k ((e k).2 (.inl a)) ((e' k).2 (.inr b))
 obtain⟨S5,h5,_,eJ⟩:=(bL.l rI).put;refine PD Kq Xh Mm h5 (h3.1.rd Xh) aB aB λr' w2 S6 v6 u6=>?_;obtain⟨S7,h7,u7⟩:=eJ _ w2 S6 u6 v6;refine hK r' w2 S7 ⟨xs0++xs,by simp,?_⟩ ⟨u7.m.mono λk _ hk=>?_,λk hk=>(u7.s k hk).imp (λhk=>?_) id⟩
 ·have:=h7.mono (λ_ h=>h) λ_ h=>listA_app h;simpa using this
 ·rcases hk with hk|hk|hk
  ·exact .inl ((e k).2 (.inl hk))
  ·exact .inl ((e k).2 (.inr hk))
  ·exact .inr ((e' k).2 (.inr hk))
 ·rcases hk with hk|hk|hk
  ·exact .inl ((e k).2 (.inl hk))
  ·exact .inl ((e k).2 (.inr hk))
  ·exact .inr ((e' k).2 (.inr hk))
def lE.push(c:lE)(bs:List cH):List fK×lE×Int:=
 if c.s.iA then([],c,6) else if 64<=c.iG.length then([],c,5) else(({c with iG:=c.iG++[bs]}:lE).sC.1,({c with iG:=c.iG++[bs]}:lE).sC.2,0)
structure TakeR(t:Wp)(seq:Int)(bs:List cH)(oO:List (List cH))(t':Wp):Prop where
 ok:t'.Ok
 dG:t'.dG=t.dG
 len:oO.length<=20
 lens:∀b∈oO,b.length<=5000
 one:(∀x,t.f x=none)->seq=t.next->0<t.dG->oO=[bs]/\t'.next=t.next+1/\∀x,t'.f x=none
def zE(c:lE)(g:fK)(oO:List (List cH))(gs:List fK)(c':lE):=
 if c.s.iA=true\/g.aM≠c.aM\/(g.kind≠1/\g.kind≠2) then oO=[]/\gs=[]/\c'=c
 else∃s1,AckR c.s g.LH s1/\s1.Ok/\if g.kind=1 then∃t1,TakeR c.t g.seq g.body oO t1/\gs=⟨c.aM,2,0,t1.next,0,[]⟩::(⟨s1,c.aM,t1,c.iG⟩:lE).sC.1/\c'=(⟨s1,c.aM,t1,c.iG⟩:lE).sC.2
  else oO=[]/\gs=(⟨s1,c.aM,c.t,c.iG⟩:lE).sC.1/\c'=(⟨s1,c.aM,c.t,c.iG⟩:lE).sC.2
def Zg{aM nx:Int}{t:Wp}:∀{l:List (List cH)} {s:TO},(lE.QQ s aM nx t l).1.length<=l.length
 | [],s=>dN _
 |b::r,s=>by
  rw[lE.QQ]
  split
  ·have:=Zg (aM:=aM) (nx:=nx) (t:=t) (l:=r) (s:=s.send b);simp only[mH];omega
  ·exact cY _
section
variable{w:aH}{S:BS}{a sp tp:Nat}{sl:Sl}{c:lE}
def aAn{dQ:Int}{body:Sl}{bs:List cH}{Q:Sl->Int->aH->Prop}(h:mJ a c w S)(ok:c.Ok)(hb:Rd w body 1 eU bs)(hl:bs.length<=70000)
  (hQ:∀r w' S',bL (mJ a (c.push bs).2.1) (CP r (c.push bs).1) w' S'->Up S S' w w'->(c.push bs).2.1.Ok->Q r (c.push bs).2.2 w'):IV (some ⟨a,0,none⟩) dQ body w Q:=by
 unfold IV;refine aAi h (aF (λho=>?_) (λho=>?_))
 ·have e:c.push bs=([],c,6):=by unfold lE.push;rw[if_pos ho]
  rw[e] at hQ;exact hQ _ w S (bL.pR h XF) (Up.refl _ _) ok
 have ho':¬c.s.iA=true:=by rw[ho];simp
 obtain⟨sp,tp,sl,h⟩:=h;have hol:=h.yy;refine aA rfl (aE (k:=.slice) sl h.cells.2.2.2 (aI (λkF=>?_) (λcD=>?_)))
 ·have e:c.push bs=([],c,5):=by unfold lE.push;rw[if_neg ho',if_pos aB]
  rw[e] at hQ;exact hQ _ w S (bL.pR ⟨sp,tp,sl,h⟩ XF) (Up.refl _ _) ok
 have e:c.push bs=(({c with iG:=c.iG++[bs]}:lE).sC.1,({c with iG:=c.iG++[bs]}:lE).sC.2,0):=by unfold lE.push;rw[if_neg ho',if_neg aB]
 rw[e] at hQ;have hd:=bJ.dr h;refine aA rfl (aE (k:=.slice) sl hd.cells.2.2.2 ?_);refine wJ (hb.aK (cB w) fV λ_ _=>id) aB λr w2 S2 _ k2 _ Ls f2=>⟨(bJ.kp hd k2).cells.2.2.2,?_⟩;refine cM (cs:=[aW r]) λw3 b3 k3 z3=>?_;have k23:=k2.tr k3;have h3:=bJ.kp hd k23;refine⟨h3.cells.2.2.2,?_⟩;have bd:=bJ.iF hd;obtain⟨SB,SR,CJ,⟨ST,SQ,sZ,⟨SS,SO,hsn,⟨ss,S7,S8,hv,hL,d78,Rt⟩,dSO,eSO⟩,dT,eT⟩,dB,eB⟩:=h3;have rd3:=bJ.kp Ls k3;have hr:∀k,tF r k->¬S k:=λk ⟨b,hb,e⟩ hs=>by have:=bd k hs;have:=f2 b hb;omega
 have inS:∀k,S7 k\/S8 k->S k:=λk hk=>(eB k).2 (.inr ((eT k).2 (.inr ((eSO k).2 (.inr ((Rt k).2 hk))))));have hol2:ss.length=c.iG.length:=hL.1;have hLR:bL (Sw CV 1 eS sl ss) (bL (CT ss c.iG) (EG 1 eU r bs)) w3 (λk=>S7 k\/(S8 k\/tF r k)):=bL.yH hv (bL.yH hL rd3 λk a b=>hr k b (inS k (.inr a))) λk a b=>b.elim (d78 k a) λb=>hr k b (inS k (.inl a));obtain⟨S9,h9,_,Bt⟩:=(bL.l hLR).put;refine aAc (x:=⟨some ⟨w2.heap.size,0,none⟩,1,1⟩) OE Hq oneS1 h9 (lU Hq [r] b3 rfl dP) (by simp;omega) aB λs4 w4 ZD v10 u10=>?_;obtain⟨Ru,Rq,Vw⟩:=Bt _ w4 ZD u10 v10;have hOw:Hj s4 (c.iG++[bs]) w4 Ru:=⟨ss++[r],Rq.mono (λ_ h=>h) λ_ h=>UZ h⟩;have apart:∀k,(SB k\/ST k\/SS k)->¬(S7 k\/(S8 k\/tF r k)):=λk hk h=>by
  have hso:SO k->False:=λho=>by
   rcases hk with hk|hk|hk
   ·exact dB k hk ((eT k).2 (.inr ((eSO k).2 (.inr ho))))
   ·exact dT k hk ((eSO k).2 (.inr ho))
   ·exact dSO k hk ho
  have hS:S k:=(eB k).2 (by
   rcases hk with hk|hk|hk
   ·exact .inl hk
   ·exact .inr ((eT k).2 (.inl hk))
   ·exact .inr ((eT k).2 (.inr ((eSO k).2 (.inl hk)))))
  rcases h with h|h|h
  ·exact hso ((Rt k).2 (.inl h))
  ·exact hso ((Rt k).2 (.inr h))
  ·exact hr k h hS
 have bB:=bJ.iF CJ;have bT:=bJ.iF sZ;have bS:=bJ.iF hsn;have blk4:=bJ.aK CJ Vw.m λk hk h=>apart k (.inl hk) h;have tk4:=bJ.aK sZ Vw.m λk hk h=>apart k (.inr (.inl hk)) h;have sn4:=bJ.aK hsn Vw.m λk hk h=>apart k (.inr (.inr hk)) h;have dd:∀k,(SB k\/ST k\/SS k)->Ru k->False:=λk hk h=>(Vw.s k h).elim (apart k hk) λh=>by
  rcases hk with hk|hk|hk
  ·have:=bB k hk;omega
  ·have:=bT k hk;omega
  ·have:=bS k hk;omega
 refine aA rfl ?_;have h4:bL (tE a xd [.pointer (some ⟨sp,0,none⟩),aD c.aM,.pointer (some ⟨tp,0,none⟩),aW sl]) (bL (He tp c.t) (bL (ZU sp c.s) (Hj s4 (c.iG++[bs])))) w4 (λk=>SB k\/(ST k\/(SS k\/Ru k))):=
  bL.yH blk4 (bL.yH tk4 (bL.yH sn4 hOw λk h1 h2=>dd k (.inr (.inr h1)) h2) λk h1 h2=>h2.elim (λh=>dT k h1 ((eSO k).2 (.inl h))) λh=>dd k (.inr (.inl h1)) h) λk h1 h2=>by
   rcases h2 with h2|h2|h2
   ·exact dB k h1 ((eT k).2 (.inl h2))
   ·exact dB k h1 ((eT k).2 (.inr ((eSO k).2 (.inl h2))))
   ·exact dd k (.inl h1) h2
 have U4:Up S (λk=>SB k\/(ST k\/(SS k\/Ru k))) w w4:=by
  have K:=(cB w).tr k23;refine⟨K.wk.trans Vw.m λk hk h=>?_,λk hk=>?_⟩
  ·rcases h with h|h|⟨b,hb,e⟩
   ·exact inS k (.inl h)
   ·exact inS k (.inr h)
   ·have:=f2 b hb;simp at this;omega
  ·rcases hk with h|h|h|h
   ·exact .inl ((eB k).2 (.inl h))
   ·exact .inl ((eB k).2 (.inr ((eT k).2 (.inl h))))
   ·exact .inl ((eB k).2 (.inr ((eT k).2 (.inr ((eSO k).2 (.inl h))))))
   ·rcases Vw.s k h with(h|h|⟨b,hb,e⟩)|h
    ·exact .inl (inS k (.inl h))
    ·exact .inl (inS k (.inr h))
    ·have:=f2 b hb;simp at this;exact .inr aB
    ·exact .inr (jB K.size h)
 obtain⟨ZL,Gj,_,UM⟩:=(bL.l h4).put;refine qP (v:=aW s4) Gj iZ dP rfl rfl λw5 b5 u5=>?_;obtain⟨S13,vv,u13⟩:=UM _ w5 _ u5 b5;have hc5:mJ a {c with iG:=c.iG++[bs]} w5 S13:=⟨sp,tp,s4,vv⟩;have ur:({c with iG:=c.iG++[bs]}:lE).Ok:=⟨ok.s,ok.t,by show(c.iG++[bs]).length<=64;simp;omega,λb hb=>by
  rcases kK.1 hb with hb|hb
  ·exact ok.len b hb
  ·rw[mR.1 hb];exact hl⟩
 exact ot hc5 ur λr5 w6 S6 h6 u6 uq=>hQ r5 w6 S6 h6 ((U4.tr u13).tr u6) uq
def Uu{dQ:Int}{g:fK}{ji:Sl}{Q:Sl->Sl->aH->Prop}(h:mJ a c w S)(ok:c.Ok)(We:c.s.next<=1000000000000000)(hg:Rd w ji 1 eU g.body)(ho:JM ji S w)(hl:g.body.length<=5000)(hs:u32 g.seq)
  (hQ:∀ZP FR r gs c' w' S',bL (mJ a c') (bL (WL ZP FR) (CP r gs)) w' S'->Up S S' w w'->zE c g FR gs c'->c'.Ok->Q ZP r w'):CF (some ⟨a,0,none⟩) dQ (JT (g,ji)) w Q:=by
 unfold CF;refine cM (cs:=eG (g,ji)) λw1 b1 k1 z1=>?_;have K:=k1.tr (cB w1);have hd:=bJ.kp h K;have od:=b1.1.aK (cB w1) id;have bd:=bJ.iF h;have no:(c.s.iA=true\/g.aM≠c.aM\/(g.kind≠1/\g.kind≠2))->Q bD bD w1.drew:=λhh=>
  hQ _ [] _ [] c _ S (bL.pR hd (bL.pR Fq XF)) (Up.aO K) (by unfold zE;rw[if_pos hh];exact⟨rfl,rfl,rfl⟩) ok
 intro J1 OV;have tJ:¬(c.s.iA=true\/g.aM≠c.aM\/(g.kind≠1/\g.kind≠2))->J1 (bD,bD,()) w1.drew:=by
  intro qU;apply OV;obtain⟨sp,tp,sl,hc⟩:=hd;have kd2:=cB w1.drew;have QL:=bJ.kp hc kd2;have od2:=od.aK kd2 id;have K2:=K.tr kd2;refine aA rfl (aE (k:=.ptr) (some ⟨sp,0,none⟩) QL.cells.1 (aE (k:=.i) g.LH (dR od2 rfl) ?_));obtain⟨S3,Dj,hS3,Hw⟩:=QL.snd.put;refine Acked_i Dj ok.s We λ_ s1 w3 S4 h4 u4 hA Rk=>?_;obtain⟨S5,h5,u5⟩:=Hw _ w3 S4 u4 h4;have nn:¬S w.heap.size:=λhk=>by have:=bd _ hk;omega
  have o3:=od2.aK u4.m λhk=>nn (hS3 _ hk)
  let c1:lE:=⟨s1,c.aM,c.t,c.iG⟩
  have Lt:c1.Ok:=⟨Rk,ok.t,ok.iG,ok.len⟩;have hc3:ZV a sp tp sl c1 w3 S5:=h5;have U3:Up S S5 w w3:=(Up.aO K2).tr u5;have ux:∀(cc:lE),cc.iG=c.iG->cc.sC.1.length<=64:=λcc e=>by
   have e2:cc.iG.length<=64:=by rw[e];exact ok.iG
   exact jB Zg e2
  refine aE (k:=.i) g.kind (dR o3 rfl) (aF (λhk=>?_) (λhk=>?_))
  ·have RB:g.kind=1:=by simpa using hk
   have kd3:=cB w3;have hc3d:=bJ.kp hc3 kd3;have Mg:=o3.aK kd3 id;refine aA rfl (aE (k:=.ptr) (some ⟨tp,0,none⟩) hc3d.cells.2.2.1 (aE (k:=.i) g.seq (dR Mg rfl) (aE (k:=.slice) ji (dR Mg rfl) ?_)));obtain⟨S6,ht6,hS6,HO⟩:=hc3d.tkr;have U3d:Up S S5 w w3.drew:=U3.tr (Up.aO kd3);have hg3:=ho.rd U3d hg fV;have ho3:=ho.up U3d;refine Take_i ht6 ok.t hs hg3 (λb hb=>⟨λhk=>(ho3 b hb).1 (hS6 _ hk),(ho3 b hb).2⟩) hl λoO FR _ t1 w4 S7 h7 u7 q1 q2 q3 q4 q5=>?_;obtain⟨S8,h8,u8⟩:=HO (He tp t1) (WL oO FR) w4 S7 u7 h7
   let c2:lE:=⟨s1,c.aM,t1,c.iG⟩
   have jx:c2.Ok:=⟨Rk,q1,ok.iG,ok.len⟩;have h8':bL (ZV a sp tp sl c2) (WL oO FR) w4 S8:=h8;have kd4:=cB w4;have h8d:=bJ.kp h8' kd4;obtain⟨S9,hc9,_,_⟩:=(bL.l h8d).put;refine aA rfl (aE (k:=.i) c.aM hc9.cells.2.1 (aA rfl (aE (k:=.ptr) (some ⟨tp,0,none⟩) hc9.cells.2.2.1 ?_)));obtain⟨ZD,ht10,_,_⟩:=hc9.tkr.put;refine aAe ht10 ⟨hc9.cells.2.1,?_⟩
   let ag:fK:=⟨c.aM,2,0,t1.next,0,[]⟩
   refine cM (cs:=eG (ag,bD)) λw6 b6 k6 z6=>?_;have bw4:=bJ.iF h8d;have h6:bL (mJ a c2) (WL oO FR) w6 S8:=(bJ.kp h8d k6).mono (λ_ h=>⟨sp,tp,sl,h⟩) λ_ h=>h;have Wj:CP ⟨some ⟨w4.drew.heap.size,0,none⟩,1,1⟩ [ag] w6 (λk=>k=w4.drew.heap.size\/False):=
    ⟨[(ag,bD)],rfl,bL.yH ⟨dE.new Xh [(ag,bD)] (by simpa using b6.1) (by simp[maxLen]),λk=>⟨λe=>⟨_,rfl,e⟩,λ⟨b,hb,e⟩=>by cases hb;exact e⟩⟩ ⟨rfl,λi sl bs h1 h2=>by
     cases i with
     |succ n=>simp at h1
     |zero=>cases h1;cases h2;exact⟨Rd.nil _ _ _,λb hb=>by cases hb⟩,λk h=>h.elim⟩ λ_ _ h=>h⟩
   have h6a:bL (bL (mJ a c2) (WL oO FR)) (CP ⟨some ⟨w4.drew.heap.size,0,none⟩,1,1⟩ [ag]) w6 (λk=>S8 k\/(k=w4.drew.heap.size\/False)):=bL.yH h6 Wj λk h1 h2=>h2.elim (λe=>by have:=bw4 k h1;omega) id;obtain⟨Ru,hc11,_,Ij⟩:=(bL.l h6a).c λT hT=>bL.l hT;refine ot hc11 jx λr w7 ZL Gj Fw Gc=>?_;obtain⟨S13,vv,u13⟩:=Ij (mJ a c2.sC.2) (CP r c2.sC.1) w7 ZL Fw Gj;have h13':bL (bL (mJ a c2.sC.2) (WL oO FR)) (bL (CP ⟨some ⟨w4.drew.heap.size,0,none⟩,1,1⟩ [ag]) (CP r c2.sC.1)) w7 S13:=vv.asr;obtain⟨S14,h14,_,qa⟩:=(bL.r h13').put;obtain⟨S15,S16,g15,g16,d15,e15⟩:=h14;refine zh g15 g16 d15 (by have:=ux c2 rfl;simp;omega) λr' w8 S17 g17 u17=>?_;obtain⟨jq,h18,uo⟩:=qa _ w8 S17 ⟨u17.m.mono λk _ hk=>(e15 k).2 hk,λk hk=>(u17.s k hk).imp (λh=>(e15 k).2 h) id⟩ g17;have U6:Up S5 (λk=>S8 k\/(k=w4.drew.heap.size\/False)) w3.drew w6:=by have:=(u8.tr (Up.aO kd4)).tr (Up.aO k6);refine⟨this.m,λk hk=>hk.elim (this.s k) λh=>h.elim (λe=>.inr ?_) False.elim⟩;have:=u8.m.size;have e4:w4.drew.heap.size=w4.heap.size:=rfl;omega
   refine hQ oO FR r' (ag::c2.sC.1) c2.sC.2 w8 jq h18.asr (U3d.tr ((U6.tr u13).tr uo)) ?_ Gc;unfold zE;rw[if_neg qU];refine⟨s1,hA,Rk,?_⟩;rw[if_pos RB];exact⟨t1,⟨q1,q2,q3,q4,q5⟩,rfl,rfl⟩
  ·have RB:¬g.kind=1:=by simpa using hk
   have hc3':mJ a c1 w3 S5:=⟨sp,tp,sl,hc3⟩;refine ot hc3' Lt λr w7 ZL Gj Fw Gc=>?_;have vv:bL (mJ a c1.sC.2) (bL (CP bD []) (CP r c1.sC.1)) w7 ZL:=Gj.mono (λ_ h=>h) λ_ h=>(bL.pR h XF).cm;obtain⟨S14,h14,_,qa⟩:=(bL.r vv).put;obtain⟨S15,S16,g15,g16,d15,e15⟩:=h14;refine zh g15 g16 d15 (by have:=ux c1 rfl;simp;omega) λr' w8 S17 g17 u17=>?_;obtain⟨jq,h18,uo⟩:=qa _ w8 S17 ⟨u17.m.mono λk _ hk=>(e15 k).2 hk,λk hk=>(u17.s k hk).imp (λh=>(e15 k).2 h) id⟩ g17;refine hQ bD [] r' _ c1.sC.2 w8 jq (h18.mono (λ_ h=>h) λ_ h=>(bL.pR h Fq).cm) (U3.tr (Fw.tr uo)) ?_ Gc;unfold zE;rw[if_neg qU];refine⟨s1,hA,Rk,?_⟩;rw[if_neg RB];exact⟨rfl,rfl,rfl⟩
 refine aAi hd (aF (λjb=>no (.inl jb)) (λjb=>?_));have hov':¬c.s.iA=true:=by rw[jb];simp
 have hd2:=hd;obtain⟨sp,tp,sl,hc⟩:=hd2;refine aE (k:=.i) g.aM (dR od rfl) (aA rfl (aE (k:=.i) c.aM hc.cells.2.1 (aF (λgQ=>no (.inr (.inl (by simpa using gQ)))) (λheq=>?_))));have Sj:g.aM=c.aM:=by simpa using heq
 refine aE (k:=.i) g.kind (dR od rfl) (aF (λhk=>aE (k:=.i) g.kind (dR od rfl) (aF (λGS=>no (.inr (.inr ⟨by simpa using hk,by simpa using GS⟩))) (λGS=>tJ λhh=>?_))) (λhk=>tJ λhh=>?_))
 ·have:g.kind=2:=by simpa using GS
  rcases hh with h|h|h
  ·exact hov' h
  ·exact h Sj
  ·exact h.2 this
 ·have:g.kind=1:=by simpa using hk
  rcases hh with h|h|h
  ·exact hov' h
  ·exact h Sj
  ·exact h.1 this
end
end
structure vU where
 sT:Nat
 dG:Nat
 MR:Int
 oI:Int
 cap:Int
 idle:Int
structure vU.Ok(c:vU):Prop where
 sT:1<=c.sT/\c.sT<=16
 dG:1<=c.dG/\c.dG<=16
 MR:0<=c.MR/\c.MR<=20
 oI:1<=c.oI/\c.oI<=1000
 cap:c.oI<=c.cap/\c.cap<=1000
 idle:1<=c.idle/\c.idle<=1000
abbrev JU(c:vU):gJ:=[aD (c.sT:Int),aD (c.dG:Int),aD c.MR,aD c.oI,aD c.cap,aD c.idle]
abbrev JR:List CK:=[.i,.i,.i,.i,.i,.i]
abbrev xI(c:vU):Int×Int×Int×Int×Int×Int×Unit:=((c.sT:Int),(c.dG:Int),c.MR,c.oI,c.cap,c.idle,())
def xU{n l h:Int}{w:aH}{Q:Bool->aH->Prop}(hn:l<=n/\n<=h)(hQ:Q true w):gO n l h w Q:=by
 unfold gO;refine aI (λ_=>?_) (λh=>absurd hn.1 aB);rw[decide_eq_true hn.2];exact hQ
def Ut{c:vU}{w:aH}{Q:Int->aH->Prop}(ok:c.Ok)(hQ:∀w',aL w w'->Q 0 w'):nF (xI c) w Q:=by
 unfold nF;have h1:=ok.sT;have h2:=ok.dG;have h3:=ok.MR;have h4:=ok.oI;have h5:=ok.cap;have h6:=ok.idle;refine cM (cs:=JU c) λw1 b1 k1 z1=>?_;refine aE (k:=.i) (c.sT:Int) (aP b1 rfl) (xU aB (aF (λh=>by cases h) (λ_=>?_)));refine aE (k:=.i) (c.dG:Int) (aP b1 rfl) (xU aB (aF (λh=>by cases h) (λ_=>?_)));refine aE (k:=.i) c.MR (aP b1 rfl) (xU aB (aF (λh=>by cases h) (λ_=>?_)));refine aE (k:=.i) c.oI (aP b1 rfl) (xU aB (aF (λh=>by cases h) (λ_=>?_)));refine aE (k:=.i) c.cap (aP b1 rfl) (aE (k:=.i) c.oI (aP b1 rfl) (xU aB (aF (λh=>by cases h) (λ_=>?_))));exact aE (k:=.i) c.idle (aP b1 rfl) (xU aB (aF (λh=>by cases h) (λ_=>hQ w1 k1)))
def snd0(dG:Nat):TO:=⟨dG,0,λ_=>none,0,λ_=>False,false⟩
def tkr0(dG:Nat):Wp:=⟨dG,0,λ_=>none,0⟩
def vJ(dG:Nat)(aM:Int):lE:=⟨snd0 dG,aM,tkr0 dG,[]⟩
def PA{dG:Nat}{aM:Int}(h:dG<=16):(vJ dG aM).Ok:=
 ⟨⟨h,cY _,λx hx=>hx.elim,λx bs hx=>(by cases hx),by show(0:Int)<=0/\(0:Int)-((0:Nat):Int)<=1000000000000000;omega⟩,⟨h,by show(0:Int)<=0/\(0:Int)<=4294967296;omega,λx bs hx=>(by cases hx)⟩,by show([]:List (List cH)).length<=64;simp,λb hb=>by cases hb⟩
def CNew_i{c:vU}{aM:Int}{w:aH}{Q:cW->Int->aH->Prop}(ok:c.Ok)(hc:1<=aM/\aM<=2147483648)
  (hQ:∀g w' S',mJ g (vJ c.dG aM) w' S'->aL w w'->(∀k,S' k->w.heap.size<=k)->Q (some ⟨g,0,none⟩) 0 w'):tW (xI c) aM w Q:=by
 unfold tW;have h3:=ok.MR;have h4:=ok.oI;have h5:=ok.cap;refine cM (cs:=JU c) λw1 b1 k1 z1=>?_;refine aZ (l:=JR) (xI c) (b1.1.holds λj v hj=>by rw[gK];exact hj) ?_;refine Ut ok λw2 k2=>aF (λh=>by simp at h) (λ_=>xU hc (aF (λh=>by cases h) (λ_=>?_)));have b2:=bJ.kp b1 k2;refine aE (k:=.i) c.oI (aP b2 rfl) (aE (k:=.i) c.cap (aP b2 rfl) (aE (k:=.i) c.MR (aP b2 rfl) ?_));refine TiNew_i ⟨h4.1,h4.2,h5.1,h5.2,h3.1,h3.2⟩ λw4 ht k4=>?_;have b4:=bJ.kp b2 k4;refine aE (k:=.i) (c.dG:Int) (aP b4 rfl) ?_;refine SNew2_i ok.dG ht λw5 S5 h5' k5 hs5=>?_;have b5:=bJ.kp b4 k5;refine aE (k:=.i) (c.dG:Int) (aP b5 rfl) ?_;refine TkNew_i ok.dG λw6 S6 h6 k6 Of=>?_;have h5k:=bJ.kp h5' k6;have bn5:=bJ.iF h5';have bn6:=bJ.iF h6;have bn5k:=bJ.iF h5k;have z2:=(k1.tr k2).size;have z4:=k4.size;have z5:=k5.size;refine cM (cs:=[.pointer (some ⟨w4.heap.size+1,0,none⟩),aD aM,.pointer (some ⟨w5.heap.size+1,0,none⟩),aW bD]) λw7 b7 k7 z7=>?_;have hO:Hj bD [] w7 (λ_=>False):=⟨[],_,_,Ez,⟨rfl,λi sl bs h=>by simp at h,λk h=>h.elim⟩,λ_ h _=>h,λk=>⟨.inl,λh=>h.elim id id⟩⟩;have hT:=bJ.kp h6 k7;have hS:=bJ.kp h5k k7;refine hQ w6.heap.size w7 _ ⟨w4.heap.size+1,w5.heap.size+1,bD,bL.yH b7 (bL.yH hT (bL.pR hS hO) λk h1 h2=>?_) λk h1 h2=>?_⟩ (((((k1.tr k2).tr k4).tr k5).tr k6).tr k7) λk hk=>?_
 ·have:=Of k h1;have:=bn5 k h2;omega
 ·rcases h2 with h2|h2
  ·have:=bn6 k h2;omega
  ·have:=bn5k k h2;omega
 ·rcases hk with hk|hk|hk
  ·have:=k6.size;omega
  ·have:=Of k hk;omega
  ·rcases hs5 k hk with h|h
   ·rcases h with h|h
    ·omega
    ·have h':k=w2.heap.size:=h;omega
   ·omega
def PassR(c:lE)(gs:List fK)(e:Int)(c':lE):=∃(s1:TO) (L:cR) (e0:Int),SAgain c.s s1/\s1.Ok/\L.length<=c.s.n/\(c.s.iA=false->(∀x,¬c.s.JF x)->e0=0/\L=[])/\(e0=0->s1.iA=c.s.iA)/\
 if e0=0 then e=0/\gs=L.map (⟨s1,c.aM,c.t,c.iG⟩:lE).Ox++(⟨s1,c.aM,c.t,c.iG⟩:lE).sC.1/\c'=(⟨s1,c.aM,c.t,c.iG⟩:lE).sC.2 else¬e=0/\gs=[]/\c'=⟨s1,c.aM,c.t,c.iG⟩
open Go.IntKind (wrap)
section
def Mul_i{n:Nat}(hn:n<=51){w:aH}{Q:Int->Int->aH->Prop}(hQ:Q 0 (n:Int) w):uF (wrap .u64 (((1:Nat):Int))) (wrap .u64 (n:Int)) w Q:=by
 unfold uF;have key:∀k:Fin 60,nW (wrap .u64 (((1:Nat):Int))) (wrap .u64 (k.val:Int)) w (λa b w'=>a=0/\b=(k.val:Int)/\w'=w):=by intro k;unfold nW;refine⟨by decide,by decide,by decide,by decide,by decide,?_,?_,rfl⟩<;>revert k<;>decide+kernel
 have h:=key ⟨n,aB⟩;unfold nW at h ⊢;obtain⟨_,_,_,_,_,h1,h2,_⟩:=h;refine⟨by decide,by decide,by decide,by decide,by decide,?_⟩;simp only at h1 h2;rw[h1,h2];exact hQ
def Iw(x:Int):∀n:Nat,(List.replicate n x).flatMap eI=List.replicate n (aD x)
 |0=>rfl
 |n+1=>by rw[List.replicate_succ,List.replicate_succ,FU,Iw x n];rfl
def aj{w:aH}{b n:Nat}{Q:Sl->aH->Prop}(h:cX w b dA [aD (-1)])(hn:n<=51)(hQ:∀w',dE w' dA 1 eI ⟨some ⟨w.heap.size,0,none⟩,n,n⟩ (List.replicate n (-1))->aL w w'->Q ⟨some ⟨w.heap.size,0,none⟩,n,n⟩ w'):
  iL ⟨some ⟨b,0,none⟩,1,1⟩ (n:Int) w Q:=by
 unfold iL;refine aI (λh=>aB) (λ_=>?_);refine Mul_i hn ?_;refine aI (λh=>aB) (λ_=>aI (λh=>aB) (λ_=>?_));rw[iH (n:=(n:Int)) aB aB];refine wD iD (aY:=eI) (0:Int) rfl eY aB (lR _) aB aB λw2 v2 k2=>?_;simp only[dU] at v2 ⊢;have dX:∀w',cX w' w.heap.size dA (List.replicate n (aD (-1)))->aL w w'->Q ⟨some ⟨w.heap.size,0,none⟩,n,n⟩ w':=λw' o k=>by
  refine hQ w' ⟨by simp,dN _,by simp[maxLen];omega,.inr ⟨w.heap.size,[],rfl,?_,by rw[rF,bF eY];simp⟩⟩ k;rw[rF,Iw];exact o
 have o2:cX w2 w.heap.size dA (List.replicate n (aD 0)):=by
  rcases v2.gZ with⟨h1,_⟩|⟨g,cO,hg,ho,hl⟩
  ·cases h1
  ·cases hg;rw[Iw] at ho hl;rw[fN,List.length_replicate] at hl;have hl':n+cO.length=n*1:=hl;have hr:cO=[]:=Mq aB;rw[hr,rF] at ho;exact ho
 have hsrc:∀{wx:aH},aL w wx->∀j v,([aD (-1)]:gJ)[j]? =some v->wx.cell? ((⟨b,0,none⟩:Addr).add j)=some v:=λkx=>(h.aK kx id).read λj v hj=>by simpa using hj
 have step:∀{w4:aH} {k m:Nat} {cs:gJ} {sa:Addr} {sl sc:Nat} {K:Int->aH->Prop},cX w4 w.heap.size dA (List.replicate k (aD (-1))++List.replicate (n-k) (aD 0))->aL w w4->k+m<=n->m=min sl (n-k)->cs=List.replicate m (aD (-1))->
   (∀j v,cs[j]? =some v->w4.cell? (sa.add j)=some v)->(∀w5,cX w5 w.heap.size dA (List.replicate (k+m) (aD (-1))++List.replicate (n-(k+m)) (aD 0))->aL w w5->K (m:Int) w5)->
   RR prog yW yW ⟨some ⟨w.heap.size,k,none⟩,n-k,n-k⟩ (.slice (some sa) sl sc) w4 K:=λ{w4 k m cs sa sl sc K} o k4 hkm hm Wh hr hK=>by
  subst Wh;refine NP (n:=1) iD.under cV o (by simp;omega) hr (by simp;omega) (λv hv=>by rw[(List.mem_replicate.1 hv).2];rfl) λw5 o5 m5 _=>?_;rw[<-hm];refine hK w5 ?_ (k4.fresh m5 λk e=>by rw[show k=_ from e];exact dN _);have e1:(List.replicate k (aD (-1))++List.replicate (n-k) (aD 0)).take k=List.replicate k (aD (-1)):=by rw[List.take_append_of_le_length dP,ly6 dP]
  have e2:(List.replicate k (aD (-1))++List.replicate (n-k) (aD 0)).drop (k+(List.replicate m (aD (-1))).length)=List.replicate (n-(k+m)) (aD 0):=by rw[List.drop_append,List.drop_of_length_le dP,List.nil_append,List.drop_replicate];simp;omega
  rw[e1,e2,List.replicate_append_replicate] at o5;exact o5
 have first:=λ(K:WQ Int)=>step (K:=K) (w4:=w2) (k:=0) (m:=min 1 n) (cs:=List.replicate (min 1 n) (aD (-1))) (sa:=⟨b,0,none⟩) (sl:=1) (sc:=1)
 simp only[List.replicate_zero,List.nil_append,Nat.sub_zero,gK] at first
 refine first _ o2 k2 aB trivial trivial (λj v hj=>?_) λw3 o3 k3=>?_
 ·refine hsrc k2 j v ?_;rw[Gt] at hj
  split at hj
  ·have:j=0:=aB;subst this;simpa using hj
  ·cases hj
 refine bK (λc t w4=>∃k:Nat,k<=n/\min 1 n<=k/\c=n-k/\t=((k:Int),())/\cX w4 w.heap.size dA (List.replicate k (aD (-1))++List.replicate (n-k) (aD 0))/\aL w w4) (n-min 1 n) ⟨min 1 n,aB,dN _,rfl,rfl,o3,k3⟩ ?_;rintro c t w4 ⟨k,hk,RB,rfl,rfl,o4,k4⟩ X hX;dsimp only;refine aI (λcD=>?_) (λkF=>?_)
 ·have HC:k<n:=aB;refine⟨⟨aB,aB⟩,⟨aB,aB⟩,?_⟩;rw[dU,lY HC,pF,Nat.sub_zero,Nat.sub_zero,Nat.mul_one];have d4:aL w4 w4.drew:=aU.drew (aU.refl _ w4);have o4d:=o4.aK d4 id;refine step (m:=min k (n-k)) o4d (k4.tr d4) aB rfl rfl (o4d.read λj v hj=>?_) λw5 o5 k5=>?_
  ·rw[Gt] at hj
   split at hj
   ·rw[gK,Gu (by simp;omega),Gt,if_pos aB];exact hj
   ·cases hj
  ·rw[iH (n:=(k:Int)+((min k (n-k):Nat):Int)) aB aB,show(k:Int)+((min k (n-k):Nat):Int)=((k+min k (n-k):Nat):Int) by omega];exact hX (n-(k+min k (n-k))) _ _ aB ⟨k+min k (n-k),aB,aB,rfl,rfl,o5,k5⟩
 ·have:k=n:=aB;subst this;rw[Nat.sub_self,List.replicate_zero,rF] at o4;exact dX w4 o4 k4
structure GSep(W:aH)(Z b1 b5 r g1 B:Nat)(s1 s2:Sl):Prop where
 QI:s1.b=some ⟨g1,0,none⟩
 qT:W.heap.size<=b1/\W.heap.size<=b5/\W.heap.size<=r/\W.heap.size<=g1/\∀b,s2.b=some b->W.heap.size<=b.block
 high:b1<Z/\b5<Z/\r<Z/\g1<Z/\∀b,s2.b=some b->b.block<Z
 ne:b1≠b5/\b1≠r/\b1≠g1/\b5≠r/\b5≠g1/\r≠g1
 ne2:∀b,s2.b=some b->b.block≠b1/\b.block≠b5/\b.block≠r/\b.block≠g1
def SepK(W:aH)(b1 b5 r g1:Nat)(s2:Sl)(k:Nat):=W.heap.size<=k/\k≠b1/\k≠b5/\k≠r/\k≠g1/\∀b,s2.b=some b->k≠b.block
def GSep.new{W:aH}{Z b1 b5 r g1 B:Nat}{s1 s2:Sl}(h:GSep W Z b1 b5 r g1 B s1 s2){k:Nat}(hk:Z<=k):SepK W b1 b5 r g1 s2 k:=by
 obtain⟨h1,h2,h3,h4,h5⟩:=h.high;have:=h.qT.1;exact⟨aB,aB,aB,aB,aB,λb hb e=>by have:=h5 b hb;omega⟩
structure Xc(W:aH)(Z b1 b5 r g1 B:Nat)(s1 s2:Sl)(w:aH)(H:HS)(q:List It)(ds bs:cR)(kn:Int->Option Int):Prop where
 hp:sE w H q
 hg:H.g=B
 mp:∃nm,kT w r FQ Mh kn nm
 v1:dE w dA 1 eI s1 ds
 v2:dE w dA 1 eI s2 bs
 o1:cX w b1 Xx [aW bD,aW bD]
 o5:cX w b5 Xx [aW s1,aW s2]
 kp:aL W w
 sz:Z<=w.heap.size
 sep:∀k,H.dI k->SepK W b1 b5 r g1 s2 k
section
variable{W:aH}{Z b1 b5 r g1 B:Nat}{s1 s2:Sl}{w:aH}{H:HS}{q:List It}{ds bs:cR}{kn:Int->Option Int}
def Xc.aO{w':aH}(h:Xc W Z b1 b5 r g1 B s1 s2 w H q ds bs kn)(k:aL w w'):Xc W Z b1 b5 r g1 B s1 s2 w' H q ds bs kn:=
 ⟨h.hp.aO k,h.hg,h.mp.imp λ_ m=>m.aK k id,h.v1.aK k λ_ _=>id,h.v2.aK k λ_ _=>id,h.o1.aK k id,h.o5.aK k id,h.kp.tr k,jB h.sz k.size,h.sep⟩
def Xc.heap{w':aH}{H':HS}{q':List It}(S:GSep W Z b1 b5 r g1 B s1 s2)(h:Xc W Z b1 b5 r g1 B s1 s2 w H q ds bs kn)(hp:pC w' H' q')(hg:H'.g=H.g)(m:aU H.dI w w')(f:∀k,H'.dI k->H.dI k\/w.heap.size<=k):Xc W Z b1 b5 r g1 B s1 s2 w' H' q' ds bs kn:=by
 refine⟨.inl hp,hg.trans h.hg,h.mp.imp λ_ mm=>mm.aK m λhk=>(h.sep r hk).2.2.2.1 rfl,h.v1.aK m λa ha hk=>?_,h.v2.aK m λa ha hk=>(h.sep _ hk).2.2.2.2.2 a ha rfl,h.o1.aK m λhk=>(h.sep _ hk).2.1 rfl,h.o5.aK m λhk=>(h.sep _ hk).2.2.1 rfl,h.kp.fresh m λk hk=>(h.sep k hk).1,jB h.sz m.size,λk hk=>?_⟩
 ·rw[S.QI] at ha;cases ha;exact(h.sep _ hk).2.2.2.2.1 rfl
 ·rcases f k hk with h1|h1
  ·exact h.sep k h1
  ·exact S.new (jB h.sz h1)
def Xc.map{w':aH}{kn':Int->Option Int}(S:GSep W Z b1 b5 r g1 B s1 s2)(h:Xc W Z b1 b5 r g1 B s1 s2 w H q ds bs kn)(m:aU (λk=>k=r) w w')(mp:∃nm,kT w' r FQ Mh kn' nm):Xc W Z b1 b5 r g1 B s1 s2 w' H q ds bs kn':=by
 have ne:=S.ne;refine⟨h.hp.aK m λk hk e=>(h.sep k hk).2.2.2.1 e,h.hg,mp,h.v1.aK m λa ha e=>?_,h.v2.aK m λa ha e=>(S.ne2 a ha).2.2.1 e,h.o1.aK m λe=>?_,h.o5.aK m λe=>?_,h.kp.fresh m λk e=>?_,jB h.sz m.size,h.sep⟩
 ·rw[S.QI] at ha;cases ha;exact ne.2.2.2.2.2 (Eq.symm e)
 ·exact ne.2.1 e
 ·exact ne.2.2.2.1 e
 ·rw[show k=r from e];exact S.qT.2.2.1
def Xc.cells(h:Xc W Z b1 b5 r g1 B s1 s2 w H q ds bs kn):w.cell? ((⟨b5,0,none⟩:Addr).add 0)=some (aW s1)/\w.cell? ((⟨b5,0,none⟩:Addr).add 1)=some (aW s2):=by
 refine⟨?_,?_⟩<;>rw[aS,h.o5.cell]<;>rfl
end
def UP{w:aH}{g:Nat}{cs:gJ}{a b:Sl}{K:aH->Prop}(h:cX w g Xx cs)(hl:cs.length=2)(hK:∀w',cX w' g Xx [aW a,aW b]->aU (λk=>k=g) w w'->w'.heap.size=w.heap.size->K w'):
  aJ prog Xx ⟨g,0,none⟩ (Value.agg #[Value.slice a.b a.l a.c,Value.slice b.b b.l b.c]) w K:=by
 refine DB h size_Tree (by simp[Value.cells,hl]) (by simp[Value.cells,Value.oneCell']) λw' ho hm hz=>hK w' ?_ hm hz;have:cs.take 0++(Value.agg #[Value.slice a.b a.l a.c,Value.slice b.b b.l b.c]).cells.toList++cs.drop (0+(Value.agg #[Value.slice a.b a.l a.c,Value.slice b.b b.l b.c]).cells.size)=[aW a,aW b]:=by simp[Value.cells,List.drop_of_length_le (show cs.length<=2 by omega)]
 rwa[this] at ho
def grow_i{HL:My}{n:Nat}{A:List bP}{R:cR}{from_:Sl}{fs:cR}{AQ end_:Value}{nx:Int->List bP}{en:bP->Int}{W:aH}{Q:(Sl×Sl×Unit)->aH->Prop}(h:pB W HL n A R)(hn:n<=51)(hf:Rd W from_ 1 eI fs)(JK:fs.length<=1000)
  (hN:Hk n (vV n fs) nx en) (hnl:∀v,(nx v).length<=100000)
  (harcs:∀v w (K:WQ Value),pB w HL n A R->(∀s w',dE w' iI 4 dY s (nx v)->aL w w'->(∀b,s.b=some b->w.heap.size<=b.block)->K (aW s) w')->lX prog AQ [aD v] w K)
  (hend:∀e w (K:WQ Value),(∀w',aL w w'->K (aD (en e)) w')->lX prog end_ [Hd e] w K)
  (hQ:∀s1 s2 ds bs w',Grown n (vV n fs) nx en ds bs->dE w' dA 1 eI s1 ds->dE w' dA 1 eI s2 bs->aL W w'->(∀b,s1.b=some b->W.heap.size<=b.block)->(∀b,s2.b=some b->W.heap.size<=b.block)->Q (s1,s2,()) w'):
  yN (some ⟨HL.gl,0,none⟩) from_ AQ end_ W Q:=by
 unfold yN;refine bG λw1 o1 k1 z1=>?_;refine aF (λh=>by simp at h) (λ_=>?_);refine bG λw3 o3 k3 z3=>?_;have K3:=k1.tr k3;refine aA rfl (aE (k:=.ptr) (some ⟨HL.N.g,0,none⟩) (h.aO K3).c0 (RT (h.aO K3).ME ?_));refine aj o3 hn λw5 v5 k5=>?_;refine IA (v5.rd eY) (by simp;omega) λs2 w6 v6 k6 f6=>?_;have z5:w3.heap.size<w5.heap.size:=v5.lt rfl;have z6:=k6.size;refine rN (ek:=FQ) (kn:=Mh) λhm k7=>?_;have z7:(w6.alloc (.map #[] 0)).heap.size=w6.heap.size+1:=by simp
 generalize w6.alloc (.map #[] 0)=w7 at*;refine bG λw8 o8 k8 z8=>bG λw9 o9 k9 z9=>?_;refine UP (a:=⟨some ⟨w3.heap.size,0,none⟩,n,n⟩) (b:=s2) o9 rfl λfG De VQ z10=>?_;generalize wZ:(⟨some ⟨w3.heap.size,0,none⟩,n,n⟩:Sl)=s1 at*;have QI:s1.b=some ⟨w3.heap.size,0,none⟩:=by rw[<-wZ]
 have f6':∀b,s2.b=some b->w5.heap.size<=b.block/\b.block<w6.heap.size:=λb hb=>⟨f6 b hb,v6.lt hb⟩;have S:GSep W fG.heap.size W.heap.size w8.heap.size w6.heap.size w3.heap.size w7.heap.size s1 s2:=by refine⟨QI,⟨aB,aB,aB,aB,λb hb=>by have:=f6' b hb;omega⟩,⟨aB,aB,aB,aB,λb hb=>by have:=f6' b hb;omega⟩,⟨aB,aB,aB,aB,aB,aB⟩,λb hb=>by have:=f6' b hb;omega⟩
 have k910:aL w8 fG:=k9.fresh VQ λk e=>by rw[show k=_ from e];exact dN _
 have Ol:aL w6 fG:=(k7.tr k8).tr k910;have KW:aL W fG:=((K3.tr k5).tr k6).tr Ol;have St0:Xc W fG.heap.size W.heap.size w8.heap.size w6.heap.size w3.heap.size w7.heap.size s1 s2 fG ⟨w7.heap.size,w7.heap.size,bD⟩ [] (List.replicate n (-1)) (List.replicate n (-1)) (λ_=>none):=by
  refine⟨.inr ⟨rfl,rfl,rfl,o8.aK k910 id⟩,rfl,⟨0,hm.aK (k8.tr k910) id⟩,(v5.aK k6 λ_ _=>id).aK Ol (λ_ _=>id),v6.aK Ol λ_ _=>id,((((o1.aK k3 id).aK k5 id).aK k6 id).aK Ol id),De,KW,dN _,λk hk=>?_⟩;have:k=w7.heap.size:=by
   rcases hk with hk|hk|⟨a,ha,_⟩
   ·exact hk
   ·exact hk
   ·cases ha
  subst this;exact⟨aB,aB,aB,aB,aB,λb hb=>by have:=f6' b hb;omega⟩
 clear o1 o3 v5 v6 f6 f6' hm o8 o9 De VQ k910 Ol k9 k8 k7 k6 k5 k3 K3 k1;generalize fG.heap.size=Z at*;obtain⟨b1,VR⟩:∃b1,b1=W.heap.size:=⟨_,rfl⟩;rw[<-VR] at S St0 ⊢;generalize w8.heap.size=b5 at*;generalize w6.heap.size=r at*;generalize w3.heap.size=g1 at*;generalize w7.heap.size=B at*;clear z1 z3 z5 z6 z7 z8 z9 z10 wZ;refine bK (λc t eQ=>∃(i:Nat) (H:HS) (q:List It) (kn:Int->Option Int),i<=fs.length/\c=fs.length-i/\t=((i:Int),())/\Xc W Z b1 b5 r g1 B s1 s2 eQ H q (List.replicate n (-1)) (List.replicate n (-1)) kn/\Dp q/\CM q/\
   (∀y∈q,y.key=0/\vV n fs y.id/\kn y.id=some (-1))/\(∀j,j<i->∀v,fs[j]? =some v->0<=v->v<n->∃y∈q,y.id=v)) fs.length
  ⟨0,_,[],_,cY _,rfl,rfl,St0,(λx hx=>by cases hx),List.Pairwise.nil,(λy hy=>by cases hy),λj hj=>aB⟩ ?_
 rintro c t eQ ⟨i,H,q,kn,hi,rfl,rfl,st,jL,mU,hq,rI⟩ X hX;dsimp only;have qlen:q.length<=n:=ER (mN mU) jL λy hy=>(hq y hy).2.1.2;refine aI (λcD=>?_) (λkF=>?_)
 ·have hfr:=hf.len;have dL:i<fs.length:=aB;have cI:=cL dL;have gG:=oF dL;generalize fs[i]=v at*;obtain⟨p,hp,hc⟩:=bR (k:=.i) (e:=λx=>x) (hf.aK st.kp cU λ_ _=>id) cI;rw[dU];refine⟨⟨aB,cD⟩,aA hp (aE (k:=.i) v hc ?_)⟩;have skip:¬(0<=v/\v<n)->X (aQ ((i:Int)+1),()) eQ:=λqU=>by
   rw[pI i aB];refine hX _ _ _ aB ⟨i+1,H,q,kn,dL,rfl,rfl,st,jL,mU,hq,λj hj u hu u0 u1=>?_⟩;rcases Nat.lt_or_ge j i with FO|FO
   ·exact rI j FO u hu u0 u1
   ·have:j=i:=aB;subst this;rw[cI] at hu;cases hu;exact absurd ⟨u0,u1⟩ qU
  refine aI (λh0=>?_) (λh0=>skip λh=>h0 h.1);have vw:0<=v:=h0;have hL:=h.aO st.kp;refine aA rfl (aE (k:=.ptr) (some ⟨HL.N.g,0,none⟩) hL.c0 (RT hL.ME ?_));refine aI (λh1=>?_) (λh1=>skip λh=>h1 h.2);have hg:=st.hg;rw[<-hg];refine Ac st.hp aB λiE H13 vv g13 jy f13=>?_;have st13:=st.heap S vv g13 jy f13;obtain⟨nm,hmp⟩:=st13.mp;refine XM (kn:=Mh) pN lV hmp v (-1:Int) λmX hm14 ZF _=>?_;have st14:=st13.map S ZF ⟨_,hm14⟩;rw[pI i aB];refine hX _ _ _ aB ⟨i+1,H13,_,_,dL,rfl,rfl,st14,DF jL v 0,DE mU v 0,λy hy=>?_,λj hj u hu u0 u1=>?_⟩
  ·rcases XP hy with ke|rfl
   ·obtain⟨a1,a2,a3⟩:=hq y ke;refine⟨a1,a2,?_⟩;show(if y.id=v then some (-1:Int) else kn y.id)=some (-1)
    split
    ·rfl
    ·exact a3
   ·exact⟨rfl,⟨gG,vw,h1⟩,if_pos rfl⟩
  ·rcases Nat.lt_or_ge j i with FO|FO
   ·obtain⟨y,hy,e⟩:=rI j FO u hu u0 u1;obtain⟨y',Eo,e',_⟩:=PJ jL (v:=v) (k:=0) hy;exact⟨y',Eo,e'.trans e⟩
   ·have:j=i:=aB;subst this;rw[cI] at hu;cases hu;obtain⟨y,hy,e,_⟩:=XQ (q:=q) (v:=v) (k:=0);exact⟨y,hy,e⟩
 have hfr:=hf.len;have ei:i=fs.length:=aB;subst ei;have G0:uM n (vV n fs) nx en (λ_ _=>True) (List.replicate n (-1)) (List.replicate n (-1)) q kn:=uM.start hN hq λv hv=>by
  obtain⟨j,hj⟩:=pJ.1 hv.1;exact rI j (eR.1 hj).1 v hj hv.2.1 hv.2.2
 clear hX hq rI qlen;generalize hds0:List.replicate n (-1:Int)=ds0 at*;refine bK (λc t gB=>∃(H:HS) (q:List It) (kn:Int->Option Int) (ds bs:cR),c=n-met ds/\t=()/\Xc W Z b1 b5 r g1 B s1 s2 gB H q ds bs kn/\Dp q/\CM q/\uM n (vV n fs) nx en (λ_ _=>True) ds bs q kn) (n-met ds0)
  ⟨H,q,kn,ds0,ds0,rfl,rfl,st,jL,mU,G0⟩ ?_
 clear G0 jL mU st;rintro c t gB ⟨H,q,kn,ds,bs,rfl,rfl,st,jL,mU,G⟩ X hX;have hg:=st.hg;rw[<-hg];refine yh st.hp ?_;cases q with
 |nil=>
  refine aI (λh=>by simp at h) (λ_=>?_);refine aZ (l:=[.slice,.slice]) (s1,s2,()) (iW st.o5) ?_;refine UP (a:=s1) (b:=s2) st.o1 rfl λig o28 m28 _=>?_;refine aZ (l:=[.slice,.slice]) (s1,s2,()) (iW o28) ?_;refine hQ s1 s2 ds bs ig (G.done hN) (st.v1.aK m28 λa ha e=>?_) (st.v2.aK m28 λa ha e=>(S.ne2 a ha).1 e) (st.kp.fresh m28 λk e=>by rw[show k=b1 from e];exact S.qT.1) (λb hb=>?_) (λb hb=>S.qT.2.2.2.2 b hb)
  ·rw[S.QI] at ha;cases ha;exact S.ne.2.2.1 (Eq.symm e)
  ·rw[S.QI] at hb;cases hb;exact S.qT.2.2.2.1
 |cons x q=>
  refine aI (λ_=>?_) (λh=>absurd (by simp only[mH];omega) h);obtain⟨x0,x1,hxd,hxg,hxb,u,hu,_⟩:=G.qi x dP;have Bi:=(hxg.jv hN).2.2;have ya:(x::q).length<=n:=ER (mN mU) jL λy hy=>⟨(G.qi y hy).1,(G.qi y hy).2.1⟩;have hp:pC gB H (x::q):=st.hp.resolve_right λh=>by cases h.1
  refine Pop_i hp (by simp at ya;omega) λmG H17 h17 g17 f17 m17=>?_;have d17:aL mG mG.drew:=aU.drew (aU.refl _ mG);have sB:=(st.heap S h17 g17 m17 λk hk=>.inl ((f17 k).1 hk)).aO d17;obtain⟨G1,hmet⟩:=G.pop hN mU jL hu;have jc:=ZY (ds.set x.id.toNat x.key);rw[oE,G.dl] at jc;refine aE (k:=.slice) s1 sB.cells.1 (aE (k:=.slice) s2 sB.cells.2 ?_);obtain⟨nm,hmp⟩:=sB.mp;refine BZ (kn:=Mh) pN lV (z:=(0:Int)) NI hmp x.id ?_;rw[hu];show _/\_;have v1l:=sB.v1.len;have v2l:=sB.v2.len;have Wg:=G.dl;have FP:=G.bl;refine⟨sB.cells.2,sB.cells.1,⟨x0,aB⟩,aA S.QI ?_⟩;refine sB.v1.store eY S.QI (i:=x.id.toNat) aB x.key (v:=aD x.key) rfl cV (CI _) λqS v19 m19 z19=>?_;have LY:aU (λk=>k=g1) mG.drew qS:=m19;have GV:Xc W Z b1 b5 r g1 B s1 s2 qS H17 q (ds.set x.id.toNat x.key) bs kn:=by refine⟨sB.hp.aK LY λk hk e=>(sB.sep k hk).2.2.2.2.1 e,sB.hg,sB.mp.imp λ_ mm=>mm.aK LY λe=>S.ne.2.2.2.2.2 e,v19,sB.v2.aK LY λa ha e=>(S.ne2 a ha).2.2.2 e,sB.o1.aK LY λe=>S.ne.2.2.1 e,sB.o5.aK LY λe=>S.ne.2.2.2.2.1 e,sB.kp.fresh LY λk e=>by rw[show k=g1 from e];exact S.qT.2.2.2.1,by rw[z19];exact sB.sz,sB.sep⟩
  obtain⟨g2,Bk⟩:∃g2,s2.b=some ⟨g2,0,none⟩:=by
   rcases GV.v2.gZ with⟨_,h2⟩|⟨g,_,hb,_⟩
   ·have:=GV.v2.cap;omega
   ·exact⟨g,hb⟩
  refine⟨GV.cells.2,⟨x0,aB⟩,aA Bk ?_⟩;refine GV.v2.store eY Bk (i:=x.id.toNat) aB u (v:=aD u) rfl cV (CI _) λCG v20 m20 z20=>?_;have m20':aU (λk=>k=g2) qS CG:=m20;have n2:=S.ne2 _ Bk;have st20:Xc W Z b1 b5 r g1 B s1 s2 CG H17 q (ds.set x.id.toNat x.key) (bs.set x.id.toNat u) kn:=by refine⟨GV.hp.aK m20' λk hk e=>(GV.sep k hk).2.2.2.2.2 _ Bk e,GV.hg,GV.mp.imp λ_ mm=>mm.aK m20' λe=>n2.2.2.1 e.symm,GV.v1.aK m20' λa ha e=>?_,v20,GV.o1.aK m20' λe=>n2.1 e.symm,GV.o5.aK m20' λe=>n2.2.1 e.symm,GV.kp.fresh m20' λk e=>by rw[show k=g2 from e];exact S.qT.2.2.2.2 _ Bk,by rw[z20];exact GV.sz,GV.sep⟩;rw[S.QI] at ha;cases ha;exact n2.2.2.2 (Eq.symm e)
  have hdlt:x.id.toNat<ds.length:=aB;have hself:(ds.set x.id.toNat x.key)[x.id.toNat]? =some x.key:=by rw[jC,if_pos rfl,if_pos hdlt]
  have exi:(x.id.toNat:Int)=x.id:=kc x0;have RP:Dp q:=λa ha b hb=>jL a (by simp[ha]) b (by simp[hb]);have xx:CM q:=(List.pairwise_cons.1 mU).2;generalize hds':ds.set x.id.toNat x.key=VU at*;generalize bs.set x.id.toNat u=Oi at*;refine harcs x.id CG _ (h.aO st20.kp) λs5 DR v21 k21 f21=>⟨s5,rfl,?_⟩;have Rz:=st20.aO k21;have l5:=v21.len;have ZG:=hnl x.id;have fr5:∀b,s5.b=some b->CG.heap.size<=b.block/\b.block<DR.heap.size:=λb hb=>⟨f21 b hb,v21.lt hb⟩;refine bK (λc t vP=>∃(i:Nat) (H:HS) (q:List It) (kn:Int->Option Int),i<=(nx x.id).length/\c=(nx x.id).length-i/\t=((i:Int),())/\Xc W Z b1 b5 r g1 B s1 s2 vP H q VU Oi kn/\Dp q/\CM q/\
    uM n (vV n fs) nx en (λv e=>v≠x.id\/e∈(nx x.id).take i) VU Oi q kn/\dE vP iI 4 dY s5 (nx x.id)/\(∀k,H.dI k->∀b,s5.b=some b->k≠b.block)/\DR.heap.size<=vP.heap.size) (nx x.id).length
   ⟨0,H17,q,kn,cY _,rfl,rfl,Rz,RP,xx,G1.mono (λv e _ hh=>hh.resolve_right dP),v21,λk hk b hb e=>by have:=(fr5 b hb).1;have:=st20.hp.lt hk;omega,dN _⟩ ?_
  rintro c t vP ⟨i,H2,q2,kn2,hi,rfl,rfl,st2,LK,RN,G2,v22,sp2,z22⟩ Y hY;dsimp only;have hq2len:q2.length<=n:=ER (mN RN) LK λy hy=>⟨(G2.qi y hy).1,(G2.qi y hy).2.1⟩;refine aI (λcD=>?_) (λkF=>?_)
  ·have dL:i<(nx x.id).length:=aB;have cI:=cL dL;have gG:=oF dL;have sZ:(nx x.id).take (i+1)=(nx x.id).take i++[(nx x.id)[i]]:=oH dL;generalize (nx x.id)[i]=e at*;obtain⟨e0,e1,ew0,ew1⟩:=hN.arc x.id e gG;obtain⟨p,hp,hh⟩:=wC (v22.rd jS) cI;rw[dU];refine⟨⟨aB,cD⟩,aA hp (aZ (nY e) hh ?_)⟩;refine DI (x:=e) λMD k24 o24 _=>?_;refine aZ (nY e) (iW o24) ?_;refine hend e MD _ λZE k25=>⟨en e,rfl,?_⟩;have k225:=k24.tr k25;have st25:=st2.aO k225;have o25:=o24.aK k25 id;have v25:=v22.aK k225 λ_ _=>id;have hdl':=G2.dl;obtain⟨y,hy⟩:∃y,VU[(en e).toNat]? =some y:=⟨_,cL (show(en e).toNat<VU.length by omega)⟩;obtain⟨pa,hpa,hca⟩:=bR (k:=.i) (e:=λx=>x) (st25.v1.rd eY) hy;have tko:∀v' e',e'∈nx v'->(v'≠x.id\/e'∈(nx x.id).take (i+1))->((v'≠x.id\/e'∈(nx x.id).take i)\/(v'=x.id/\e'=e)):=λv' e' _ hh=>by
    rcases hh with h1|h1
    ·exact .inl (.inl h1)
    ·rw[sZ] at h1;rcases kK.1 h1 with h2|h2
     ·exact .inl (.inr h2)
     ·by_cases hv:v'=x.id
      ·exact .inr ⟨hv,by simpa using h2⟩
      ·exact .inl (.inl hv)
   have z25:=k225.size;refine aE (k:=.slice) s1 st25.cells.1 ⟨⟨e0,aB⟩,aA hpa (aE (k:=.i) y hca ?_)⟩;refine aI (λFW=>?_) (λuJ=>?_)
   ·have hy1:y=-1:=by
     rcases G2.Dq _ _ hy with h1|⟨h1,_⟩
     ·exact h1
     ·have hneg':y<0:=FW;omega
    subst hy1;have hwr:aQ (x.key+e.w)=x.key+e.w:=iH (by simp only[BW] at*;omega) (by simp only[BW] at*;omega);refine aE (k:=.i) e.w (qX o25).2.2.1 ?_;rw[hwr];have hg2':=st25.hg;rw[hg,<-hg2'];refine Ac st25.hp aB λOa H26 h26 g26 m26 f26=>?_;have st26:=st25.heap S h26 g26 m26 f26;have G3:=(G2.push hN LK (v:=x.id.toNat) (d:=x.key) (e:=e) hself Bi (by rw[exi];exact gG) hy);rw[exi] at G3;have G4:=G3.mono (Rl:=λv e=>v≠x.id\/e∈(nx x.id).take (i+1)) tko;have sp26:∀k,H26.dI k->∀b,s5.b=some b->k≠b.block:=λk hk b hb e=>by
     rcases f26 k hk with h1|h1
     ·exact sp2 k h1 b hb e
     ·have:=(fr5 b hb).2;omega
    have v26:=v25.aK m26 λb hb hk=>sp2 _ hk b hb rfl;have z26:=m26.size;rw[pI i aB];have hflag:∀b,(oM q2 (en e) (x.key+e.w)).2=b->uM n (vV n fs) nx en (λv e=>v≠x.id\/e∈(nx x.id).take (i+1)) VU Oi (oM q2 (en e) (x.key+e.w)).1 (knP kn2 b (en e) x.id):=λb hb=>by rw[<-hb];exact G4
    refine aF (λhb=>?_) (λhb=>?_)
    ·obtain⟨nm2,hmp2⟩:=st26.mp;refine XM (kn:=Mh) pN lV hmp2 (en e) x.id λRi hm27 m27 z27=>?_;have st27:=st26.map S m27 ⟨_,hm27⟩;refine hY _ _ _ aB ⟨i+1,H26,_,_,dL,rfl,rfl,st27,DF LK _ _,DE RN _ _,hflag true hb,v26.aK m27 λb bW e=>?_,sp26,aB⟩;have:=(fr5 b bW).1;have h1:=S.high.2.2.1;have h2:=st20.sz;omega
    ·exact hY _ _ _ aB ⟨i+1,H26,_,kn2,dL,rfl,rfl,st26,DF LK _ _,DE RN _ _,hflag false hb,v26,sp26,aB⟩
   ·have WT:0<=y:=by have:¬y<0:=uJ;omega
    rw[pI i aB];exact hY _ _ _ aB ⟨i+1,H2,q2,kn2,dL,rfl,rfl,st25,LK,RN,(G2.skip (v:=x.id) (e:=e) hy WT).mono tko,v25,sp2,aB⟩
  ·have ei:i=(nx x.id).length:=aB;subst ei;rw[oV] at G2;refine hX (n-met VU) _ _ aB ⟨H2,q2,kn2,VU,Oi,rfl,rfl,st2,LK,RN,G2.mono λv e he _=>?_⟩
   by_cases hv:v=x.id
   ·exact .inr (hv▸he)
   ·exact .inl hv
end
section
def weight_i{w:aH}{t:Mx}{G:Gr}{i:Int}{Q:Int->aH->Prop}(h:sO w t G)(hi:G.mO i)(hQ:∀w',aL w w'->Q (G.wt i) w'):yT (some ⟨t.t,0,none⟩) i w Q:=by
 unfold yT;refine aA rfl (aE (k:=.ptr) (some ⟨t.H.g,0,none⟩) h.cells.1 ?_);exact KH h hi λa w' hc k _=>aE (k:=.i) (G.wt i) hc (hQ w' k)
def CR(b:Bool):eB b≠[]:=by simp
def XO{c:rZ}{e:Int}(h:(c.length:Int)<=e):kV c e=false:=by
 unfold kV;rw[MJ,List.getElem?_eq_none aB];rfl
def PG{c:rZ}{e:Int}(h0:0<=e)(h:e<c.length):c[e.toNat]? =some (kV c e):=by
 have:e.toNat<c.length:=aB;unfold kV;rw[MJ,cL this];rfl
def shut_i{w:aH}{s:Sl}{c:rZ}{e:Int}{Q:Bool->aH->Prop}(hr:Rd w s 1 eB c)(h0:0<=e)(hQ:Q (kV c e) w):FL s e w Q:=by
 unfold FL;have hl:=hr.len;refine aI (λcD=>?_) (λkF=>by rw[XO aB] at hQ;exact hQ);obtain⟨p,hp,hc⟩:=bR (k:=.bool) (e:=λx=>x) hr (PG h0 aB);exact⟨⟨h0,cD⟩,aA hp (aE (k:=.bool) (kV c e) hc hQ)⟩
structure DSt(W w:aH)(B g1:Nat)(s1:Sl)(H:HS)(q:List It)(ds:cR):Prop where
 hp:sE w H q
 hg:H.g=B
 QI:s1.b=some ⟨g1,0,none⟩
 v1:dE w dA 1 eI s1 ds
 kp:aL W w
 sep:∀k,H.dI k->W.heap.size<=k/\k≠g1
 qT:W.heap.size<=g1
section
variable{W w:aH}{B g1:Nat}{s1:Sl}{H:HS}{q:List It}{ds:cR}
def DSt.aO{w':aH}(h:DSt W w B g1 s1 H q ds)(k:aL w w'):DSt W w' B g1 s1 H q ds:=⟨h.hp.aO k,h.hg,h.QI,h.v1.aK k λ_ _=>id,h.kp.tr k,h.sep,h.qT⟩
def DSt.heap{w':aH}{H':HS}{q':List It}(h:DSt W w B g1 s1 H q ds)(hp:pC w' H' q')(hg:H'.g=H.g)(m:aU H.dI w w')(f:∀k,H'.dI k->H.dI k\/w.heap.size<=k):DSt W w' B g1 s1 H' q' ds:=by
 have hg1:=h.v1.lt h.QI;have hk:=h.kp.size;refine⟨.inl hp,hg.trans h.hg,h.QI,h.v1.aK m λa ha hk=>?_,h.kp.fresh m λk hk=>(h.sep k hk).1,λk lM=>?_,h.qT⟩
 ·rw[h.QI] at ha;cases ha;exact(h.sep _ hk).2 rfl
 ·rcases f k lM with h1|h1
  ·exact h.sep k h1
  ·have Bk:g1<w.heap.size:=hg1;exact⟨aB,aB⟩
end
def To_i{t:Mx}{G:Gr}{node:Int}{dD:Sl}{c:rZ}{W:aH}{Q:Sl->aH->Prop}(h:sO W t G)(hN:G.GR node)(hc:Rd W dD 1 eB c)
  (hQ:∀s ds w',G.pL c node ds->dE w' dA 1 eI s ds->aL W w'->(∀b,s.b=some b->W.heap.size<=b.block)->(∀(v:Nat) x,ds[v]? =some x->-1<=x/\x<=51*BW)->Q s w'):IS (some ⟨t.t,0,none⟩) node dD W Q:=by
 unfold IS;have ok:=h.JG.ok;have hm:=ok.m1;have We:=ok.nxOk c node;refine aF (λh=>by simp at h) (λ_=>aI (λh=>aB) (λ_=>?_));refine aA rfl (aE (k:=.ptr) (some ⟨t.H.g,0,none⟩) h.cells.1 (PE h.JG (aI (λh=>aB) (λ_=>?_))));unfold OI;refine bG λw1 o1 k1 z1=>?_;have h1:=h.aO k1;refine aA rfl (aE (k:=.ptr) (some ⟨t.H.g,0,none⟩) h1.cells.1 (uB h1.JG ?_));refine aj o1 hm.2 λw3 v3 k3=>?_;generalize wZ:(⟨some ⟨w1.heap.size,0,none⟩,G.m,G.m⟩:Sl)=s1 at*;have QI:s1.b=some ⟨w1.heap.size,0,none⟩:=by rw[<-wZ]
 refine bG λw4 o4 k4 z4=>?_;have K4:=(k1.tr k3).tr k4;have h4:=h.aO K4;refine aA rfl (aE (k:=.ptr) (some ⟨t.H.g,0,none⟩) h4.cells.1 ?_);refine gIn_i h4.JG λs2 w5 v5 k5 f5=>?_;have K5:=K4.tr k5;have z13:=v3.lt QI;have zW:=k1.size;have z3:=k3.size;have hl13:w1.heap.size<w3.heap.size:=z13;have St0:DSt W w5 w3.heap.size w1.heap.size s1 ⟨w3.heap.size,w3.heap.size,bD⟩ [] (List.replicate G.m (-1)):=by
  refine⟨.inr ⟨rfl,rfl,rfl,o4.aK k5 id⟩,rfl,QI,(v3.aK k4 λ_ _=>id).aK k5 λ_ _=>id,K5,λk hk=>?_,aB⟩;have:k=w3.heap.size:=by
   rcases hk with hk|hk|⟨a,ha,_⟩
   ·exact hk
   ·exact hk
   ·cases ha
  subst this;exact⟨aB,aB⟩
 have il:=G.ze node;have hsrc:∀e,e∈G.Vx node↔G.src node e:=λe=>G.zc;have l2:=v5.len;have f5':∀b,s2.b=some b->w4.heap.size<=b.block/\b.block<w5.heap.size:=λb hb=>⟨f5 b hb,v5.lt hb⟩;clear o1 v3 o4 f5;generalize hB:w3.heap.size=B at*;generalize hg1:w1.heap.size=g1 at*;refine bK (λc' t' w6=>∃(i:Nat) (H:HS) (q:List It),i<=(G.Vx node).length/\c'=(G.Vx node).length-i/\t'=((i:Int),())/\DSt W w6 B g1 s1 H q (List.replicate G.m (-1))/\Dp q/\CM q/\dE w6 dA 1 eI s2 (G.Vx node)/\(∀k,H.dI k->∀b,s2.b=some b->k≠b.block)/\
   (∀y∈q,y.key=0/\G.src node y.id)/\(∀j,j<i->∀v,(G.Vx node)[j]? =some v->∃y∈q,y.id=v)) (G.Vx node).length
  ⟨0,_,[],cY _,rfl,rfl,St0,(λx hx=>by cases hx),List.Pairwise.nil,v5,λk hk b hb e=>?_,(λy hy=>by cases hy),λj hj=>aB⟩ ?_
 ·have hkb:k=B:=by
   rcases hk with hk|hk|⟨a,ha,_⟩
   ·exact hk
   ·exact hk
   ·cases ha
  have:=f5' b hb;omega
 rintro c' t' w6 ⟨i,H,q,hi,rfl,rfl,st,jL,mU,v6,LU,hq,rI⟩ X hX;dsimp only;have qlen:q.length<=G.m:=ER (mN mU) jL λy hy=>(hq y hy).2.1;refine aI (λcD=>?_) (λkF=>?_)
 ·have dL:i<(G.Vx node).length:=aB;have cI:=cL dL;have gG:=oF dL;generalize (G.Vx node)[i]=v at*;obtain⟨p,hp,hcp⟩:=bR (k:=.i) (e:=λx=>x) (v6.rd eY) cI;rw[dU];refine⟨⟨aB,cD⟩,aA hp (aE (k:=.i) v hcp ?_)⟩;have hg:=st.hg;rw[<-hg];refine Ac st.hp aB λw7 H7 h7 g7 m7 f7=>?_;have Dd:=st.heap h7 g7 m7 f7;rw[pI i aB];refine hX _ _ _ aB ⟨i+1,H7,_,dL,rfl,rfl,Dd,DF jL v 0,DE mU v 0,v6.aK m7 λb hb hk=>LU _ hk b hb rfl,λk hk b hb e=>?_,λy hy=>?_,λj hj u hu=>?_⟩
  ·rcases f7 k hk with h1|h1
   ·exact LU k h1 b hb e
   ·have:=v6.lt hb;omega
  ·rcases XP hy with ke|rfl
   ·exact hq y ke
   ·exact⟨rfl,(hsrc v).1 gG⟩
  ·rcases Nat.lt_or_ge j i with FO|FO
   ·obtain⟨y,hy,e⟩:=rI j FO u hu;obtain⟨y',Eo,e',_⟩:=PJ jL (v:=v) (k:=0) hy;exact⟨y',Eo,e'.trans e⟩
   ·have:j=i:=aB;subst this;rw[cI] at hu;cases hu;obtain⟨y,hy,e,_⟩:=XQ (q:=q) (v:=v) (k:=0);exact⟨y,hy,e⟩
 have ei:i=(G.Vx node).length:=aB;subst ei;have G0:uM G.m (G.src node) (G.nx c) (λe=>e.f) (λ_ _=>True) (List.replicate G.m (-1)) (List.replicate G.m (-1)) q (λ_=>some (-1)):=uM.start We (λy hy=>⟨(hq y hy).1,(hq y hy).2,rfl⟩) λv hv=>by
  obtain⟨j,hj⟩:=pJ.1 ((hsrc v).2 hv);exact rI j (eR.1 hj).1 v hj
 clear hX hq rI qlen kF hi St0 v6 LU f5' v5 l2;generalize hds0:List.replicate G.m (-1:Int)=ds0 at*;refine bK (λc' t' gB=>∃(H:HS) (q:List It) (kn:Int->Option Int) (ds bs:cR),c'=G.m-met ds/\t'=()/\DSt W gB B g1 s1 H q ds/\Dp q/\CM q/\uM G.m (G.src node) (G.nx c) (λe=>e.f) (λ_ _=>True) ds bs q kn) (G.m-met ds0)
  ⟨H,q,_,ds0,ds0,rfl,rfl,st,jL,mU,G0⟩ ?_
 clear G0 jL mU st;rintro c' t' gB ⟨H,q,kn,ds,bs,rfl,rfl,st,jL,mU,GI⟩ X hX;have hg:=st.hg;rw[<-hg];refine yh st.hp ?_;cases q with
 |nil=>
  refine aI (λh=>by simp at h) (λ_=>?_);have gr:=GI.done We;refine hQ s1 ds gB gr.pL st.v1 st.kp (λb hb=>?_) λv x hx=>?_
  ·rw[st.QI] at hb;cases hb;exact st.qT
  ·have:=gr.iF v x hx;simp only[BW] at*;omega
 |cons x q=>
  refine aI (λ_=>?_) (λh=>absurd (by simp only[mH];omega) h);obtain⟨x0,x1,hxd,hxg,hxb,u,hu,_⟩:=GI.qi x dP;have hxE:G.mO x.id:=⟨x0,x1⟩;have Bi:=(hxg.jv We).2.2;have ya:(x::q).length<=G.m:=ER (mN mU) jL λy hy=>⟨(GI.qi y hy).1,(GI.qi y hy).2.1⟩;have hp:pC gB H (x::q):=st.hp.resolve_right λh=>by cases h.1
  refine Pop_i hp (by simp at ya;omega) λmG H17 h17 g17 f17 m17=>?_;have sB:=st.heap h17 g17 m17 λk hk=>.inl ((f17 k).1 hk);obtain⟨G1,hmet⟩:=GI.pop We mU jL hu;have jc:=ZY (ds.set x.id.toNat x.key);rw[oE,GI.dl] at jc;have v1l:=sB.v1.len;have Wg:=GI.dl;refine⟨⟨x0,aB⟩,aA sB.QI ?_⟩;refine sB.v1.store eY sB.QI (i:=x.id.toNat) aB x.key (v:=aD x.key) rfl cV (CI _) λqS v19 m19 z19=>?_;have LY:aU (λk=>k=g1) mG qS:=m19;have GV:DSt W qS B g1 s1 H17 q (ds.set x.id.toNat x.key):=⟨sB.hp.aK LY λk hk e=>(sB.sep k hk).2 e,sB.hg,sB.QI,v19,sB.kp.fresh LY λk e=>by rw[show k=g1 from e];exact sB.qT,sB.sep,sB.qT⟩;have hdlt:x.id.toNat<ds.length:=aB;have hself:(ds.set x.id.toNat x.key)[x.id.toNat]? =some x.key:=by rw[jC,if_pos rfl,if_pos hdlt]
  have exi:(x.id.toNat:Int)=x.id:=kc x0;have RP:Dp q:=λa ha b hb=>jL a (by simp[ha]) b (by simp[hb]);have xx:CM q:=(List.pairwise_cons.1 mU).2;generalize hds':ds.set x.id.toNat x.key=VU at*;generalize bs.set x.id.toNat u=Oi at*;refine shut_i (hc.aK GV.kp CR λ_ _=>id) x0 ?_;refine aF (λhsh=>?_) (λhsh=>?_)
  ·refine hX (G.m-met VU) _ _ aB ⟨H17,q,kn,VU,Oi,rfl,rfl,GV,RP,xx,G1.mono λv e he _ ev=>?_⟩;rw[ev] at he;have:=(G.CX.1 he).1;rw[hsh] at this;cases this
  refine Prev_i (h.aO GV.kp) λs3 DR v21 k21 f21=>?_;have Rz:=GV.aO k21;have l3:=v21.len;have hpl:=G.Ze x.id;have hnxe:G.nx c x.id=(G.oZ x.id).map λa=>(⟨a,x.id,G.wt x.id,-1⟩:bP):=by unfold Gr.nx;rw[if_neg (by rw[hsh];simp)]
  have hpE:∀p∈G.oZ x.id,G.mO p:=λp hp=>(G.fS.1 (G.XT.1 hp)).1;have hpN:∀p∈G.oZ x.id,(⟨p,x.id,G.wt x.id,-1⟩:bP)∈G.nx c x.id:=λp hp=>by rw[hnxe];exact mQ.2 ⟨p,hp,rfl⟩
  have Vy:=ok.w1 hxE;have fr3:∀b,s3.b=some b->qS.heap.size<=b.block/\b.block<DR.heap.size:=λb hb=>⟨f21 b hb,v21.lt hb⟩;refine bK (λc' t' vP=>∃(i:Nat) (H:HS) (q:List It) (kn:Int->Option Int),i<=(G.oZ x.id).length/\c'=(G.oZ x.id).length-i/\t'=((i:Int),())/\DSt W vP B g1 s1 H q VU/\Dp q/\CM q/\
    uM G.m (G.src node) (G.nx c) (λe=>e.f) (λv e=>v≠x.id\/e.f∈(G.oZ x.id).take i) VU Oi q kn/\dE vP dA 1 eI s3 (G.oZ x.id)/\(∀k,H.dI k->∀b,s3.b=some b->k≠b.block)) (G.oZ x.id).length
   ⟨0,H17,q,kn,cY _,rfl,rfl,Rz,RP,xx,G1.mono (λv e _ hh=>hh.resolve_right dP),v21,λk hk b hb e=>by have:=(fr3 b hb).1;have:=GV.hp.lt hk;omega⟩ ?_
  rintro c' t' vP ⟨i,H2,q2,kn2,hi,rfl,rfl,st2,LK,RN,G2,v22,sp2⟩ Y hY;dsimp only;have hq2len:q2.length<=G.m:=ER (mN RN) LK λy hy=>⟨(G2.qi y hy).1,(G2.qi y hy).2.1⟩;refine aI (λcD=>?_) (λkF=>?_)
  ·have dL:i<(G.oZ x.id).length:=aB;have cI:=cL dL;have gG:=oF dL;have sZ:(G.oZ x.id).take (i+1)=(G.oZ x.id).take i++[(G.oZ x.id)[i]]:=oH dL;generalize (G.oZ x.id)[i]=p at*;have hp0:=hpE p gG;have hpn:=hpN p gG;obtain⟨pa,hpa,hca⟩:=bR (k:=.i) (e:=λx=>x) (v22.rd eY) cI;have hdl':=G2.dl;obtain⟨y,hy⟩:∃y,VU[p.toNat]? =some y:=⟨_,cL (show p.toNat<VU.length by have:=hp0.2;omega)⟩;obtain⟨pb,hpb,hcb⟩:=bR (k:=.i) (e:=λx=>x) (st2.v1.rd eY) hy;rw[dU];refine⟨⟨aB,cD⟩,aA hpa (aE (k:=.i) p hca ⟨⟨hp0.1,by have:=hp0.2;omega⟩,aA hpb (aE (k:=.i) y hcb ?_)⟩)⟩;have tko:∀v' (e':bP),e'∈G.nx c v'->(v'≠x.id\/e'.f∈(G.oZ x.id).take (i+1))->((v'≠x.id\/e'.f∈(G.oZ x.id).take i)\/(v'=x.id/\e'=⟨p,x.id,G.wt x.id,-1⟩)):=λv' e' vI hh=>by
    by_cases hv:v'=x.id
    ·rcases hh with h1|h1
     ·exact absurd hv h1
     ·rw[sZ] at h1;rcases kK.1 h1 with h2|h2
      ·exact .inl (.inr h2)
      ·refine .inr ⟨hv,?_⟩;have h3:e'.f=p:=by simpa using h2
       rw[hv] at vI;obtain⟨_,_,h4⟩:=G.CX.1 vI;rw[h4,h3]
    ·exact .inl (.inl hv)
   refine aI (λFW=>?_) (λuJ=>?_)
   ·have hy1:y=-1:=by
     rcases G2.Dq _ _ hy with h1|⟨h1,_⟩
     ·exact h1
     ·have hneg':y<0:=FW;omega
    subst hy1;have hwr:aQ (x.key+G.wt x.id)=x.key+G.wt x.id:=iH (by simp only[BW] at*;omega) (by simp only[BW] at*;omega);refine weight_i (h.aO st2.kp) hxE λMc k23=>?_;have st23:=st2.aO k23;rw[hwr];have hg2':=st23.hg;rw[hg,<-hg2'];refine Ac st23.hp aB λOa H26 h26 g26 m26 f26=>?_;have st26:=st23.heap h26 g26 m26 f26;have G3:=(G2.push We LK (v:=x.id.toNat) (d:=x.key) (e:=⟨p,x.id,G.wt x.id,-1⟩) hself Bi (by rw[exi];exact hpn) hy);rw[exi] at G3;rw[pI i aB];refine hY _ _ _ aB ⟨i+1,H26,_,_,dL,rfl,rfl,st26,DF LK _ _,DE RN _ _,G3.mono tko,(v22.aK k23 λ_ _=>id).aK m26 λb hb hk=>sp2 _ hk b hb rfl,λk hk b hb e=>?_⟩;rcases f26 k hk with h1|h1
    ·exact sp2 k h1 b hb e
    ·have:=v22.lt hb;have:=k23.size;omega
   ·have WT:0<=y:=by have:¬y<0:=uJ;omega
    rw[pI i aB];exact hY _ _ _ aB ⟨i+1,H2,q2,kn2,dL,rfl,rfl,st2,LK,RN,(G2.skip (v:=x.id) (e:=⟨p,x.id,G.wt x.id,-1⟩) hy WT).mono tko,v22,sp2⟩
  ·have ei:i=(G.oZ x.id).length:=aB;subst ei;rw[oV] at G2;refine hX (G.m-met VU) _ _ aB ⟨H2,q2,kn2,VU,Oi,rfl,rfl,st2,LK,RN,G2.mono λv e he _=>?_⟩
   by_cases hv:v=x.id
   ·rw[hv] at he;exact .inr (G.XT.2 (G.CX.1 he).2.1)
   ·exact .inl hv
end
section
def Uh{p:Int->Bool}{x:Int}:∀{l:cR} {i:Nat},(∀y∈l.take i,p y=false)->l[i]? =some x->p x=true->l.find? p=some x
 | [],i,_,h,_=>by simp at h
 |y::l,0,_,h,hp=>by simp at h;subst h;rw[List.find?_cons,hp]
 |y::l,i+1,hn,h,hp=>by
  rw[List.find?_cons,hn y dP];exact Uh (i:=i) (λz hz=>hn z (by rw[List.take_succ_cons];exact WB _ hz)) (by simpa using h) hp
def df(x:Int):ND x x=x:=by unfold ND;split<;>rfl
section
variable{t:Mx}{G:Gr}{pL dD:Sl}{ds:cR}{c:rZ}
def step_i{e:Int}{W:aH}{Q:Int->aH->Prop}(h:sO W t G)(hE:G.mO e)(hf:Rd W pL 1 eI ds)(hl:ds.length=G.m)(hc:Rd W dD 1 eB c)(hb:∀(v:Nat) x,ds[v]? =some x->-1<=x/\x<=102*BW)
  (hQ:∀w',aL W w'->Q (match G.RG c ds e with|some n=>n|none=>-1) w'):BD (some ⟨t.t,0,none⟩) e pL dD W Q:=by
 unfold BD;have ok:=h.JG.ok;have hm:=ok.m1;have JK:=hf.len;have hcl:=hc.len;refine Next_i h λs1 w1 v1 k1 f1=>?_;have l1:=v1.len;have hnl:=G.zF e;have hnE:∀b∈G.gR e,G.mO b:=λb hb=>(G.fS.1 (G.tM.1 hb)).2.1;have gv:∀{x:Int},G.mO x->ds[x.toNat]? =some (kU ds x):=λ{x} hx=>by
  have:x.toNat<ds.length:=by have:=hx.2;omega
  unfold kU;rw[MJ,cL this];rfl
 refine bK (λc' s w2=>∃i:Nat,i<=(G.gR e).length/\c'=(G.gR e).length-i/\s=((i:Int),())/\aL w1 w2/\∀x∈(G.gR e).take i,G.qR c ds e x=false) (G.gR e).length ⟨0,cY _,rfl,rfl,aU.refl _ _,by simp⟩ ?_;rintro c' s w2 ⟨i,hi,rfl,rfl,k2,qU⟩ X hX;dsimp only;refine aI (λcD=>?_) (λkF=>?_)
 ·have dL:i<(G.gR e).length:=aB;have cI:=cL dL;have Xj:=hnE _ (oF dL);have sZ:=oH dL;generalize (G.gR e)[i]=n at*;obtain⟨p,hp,hcp⟩:=bR (k:=.i) (e:=λx=>x) ((v1.aK k2 λ_ _=>id).rd eY) cI;rw[dU];have h2:=h.aO (k1.tr k2);refine⟨⟨aB,cD⟩,aA hp (aE (k:=.i) n hcp (aA rfl (aE (k:=.ptr) (some ⟨t.H.g,0,none⟩) h2.cells.1 ?_)))⟩;refine KH h2 Xj λa3 w5 hc5 k5 _=>?_;have En:=k2.tr k5;have KW5:=k1.tr En;have next:∀wz,aL w1 wz->G.qR c ds e n=false->X (aQ ((i:Int)+1),()) wz:=λwz kz hn=>by
   rw[pI i aB];refine hX _ _ _ aB ⟨i+1,dL,rfl,rfl,kz,λx hx=>?_⟩;rw[sZ] at hx;rcases kK.1 hx with hx|hx
   ·exact qU x hx
   ·have:x=n:=by simpa using hx
    rw[this];exact hn
  intro J hJ;have tJ:∀b,b=kV c n->J (b,()) w5:=by
   rintro b rfl;apply hJ;dsimp only;have d5:aL w5 w5.drew:=aU.drew (aU.refl _ w5);have kd:=En.tr d5;have hfd:=hf.aK (KW5.tr d5) cU λ_ _=>id;have hcd:=d5.cell hc5 id;obtain⟨pn,hpn,Gh⟩:=bR (k:=.i) (e:=λx=>x) hfd (gv Xj);obtain⟨pe,Rm,hce⟩:=bR (k:=.i) (e:=λx=>x) hfd (gv hE);have bn:=hb _ _ (gv Xj);have be:=hb _ _ (gv hE);have hw:=ok.w1 Xj;have In:0<=n/\n<(pL.l:Int):=⟨Xj.1,by have:=Xj.2;omega⟩;have Ie:0<=e/\e<(pL.l:Int):=⟨hE.1,by have:=hE.2;omega⟩;refine aF (λhs=>?_) (λhs=>?_)
   ·have GO:kV c n=false:=by simpa using hs
    have okE:G.qR c ds e n=(decide (0<=kU ds n) && decide (kU ds n+G.wt n=kU ds e)):=by unfold Gr.qR;rw[GO];rfl
    refine aI (λ_=>⟨In,aA hpn (aE (k:=.i) (kU ds n) Gh ?_)⟩) (λh=>absurd In.2 h);refine aI (λh0=>⟨In,aA hpn (aE (k:=.i) (kU ds n) Gh ⟨Ie,aA Rm (aE (k:=.i) (kU ds e) hce ?_)⟩)⟩) (λh0=>next _ kd ?_)
    ·refine aI (λWE=>⟨In,aA hpn (aE (k:=.i) (kU ds n) Gh ⟨Ie,aA Rm (aE (k:=.i) (kU ds e) hce (aE (k:=.i) (G.wt n) hcd ?_))⟩)⟩) (λXk=>next _ kd ?_)
     ·rw[iH (n:=kU ds e-G.wt n) (by simp only[BW] at*;omega) (by simp only[BW] at*;omega)];refine aF (λheq=>?_) (λgQ=>next _ kd ?_)
      ·have Sj:kU ds n=kU ds e-G.wt n:=by simpa using heq
       have oS:G.qR c ds e n=true:=by rw[okE];simp only[tG,decide_eq_true_eq];exact⟨h0,aB⟩
       have:=hQ w5.drew (KW5.tr d5);rw[show G.RG c ds e=some n from Uh qU cI oS] at this;exact this
      ·have ZO:¬kU ds n=kU ds e-G.wt n:=by simpa using gQ
       rw[okE];simp only[Bool.and_eq_false_iff,decide_eq_false_iff_not];exact .inr aB
     ·have hge2':¬kU ds n<kU ds e:=Xk;rw[okE];simp only[Bool.and_eq_false_iff,decide_eq_false_iff_not];exact .inr aB
    ·have vw:¬kU ds n>=0:=h0;rw[okE];simp only[Bool.and_eq_false_iff,decide_eq_false_iff_not];exact .inl aB
   ·have GO:kV c n=true:=by simpa using hs
    exact next _ kd (by unfold Gr.qR;rw[GO];rfl)
  have hc5':=hc.aK KW5 CR λ_ _=>id;refine aI (λhlt3=>?_) (λhge3=>tJ false (XO aB).symm);obtain⟨pc,hpc,hcc⟩:=bR (k:=.bool) (e:=λx=>x) hc5' (PG Xj.1 aB);exact⟨⟨Xj.1,hlt3⟩,aA hpc (aE (k:=.bool) (kV c n) hcc (tJ _ rfl))⟩
 ·have ei:i=(G.gR e).length:=aB;subst ei;rw[oV] at qU;have:=hQ w2 (k1.tr k2);rw[show G.RG c ds e=none from List.find?_eq_none.2 λx hx=>by rw[qU x hx];simp] at this;exact this
def aAp{v e:Int}{W:aH}{Q:Sl->Bool->aH->Prop}(h:sO W t G)(hd:G.pL c v ds)(hf:Rd W pL 1 eI ds)(hc:Rd W dD 1 eB c)(hb:∀(v:Nat) x,ds[v]? =some x->-1<=x/\x<=102*BW)
  (qU:¬(G.mO e/\0<=kU ds e)->Q bD false W) (Sd:∀l s w',G.mO e->0<=kU ds e->G.vT c ds e l->dE w' dA 1 eI s l->aL W w'->(∀b,s.b=some b->W.heap.size<=b.block)->Q s true w'):
  qJ (some ⟨t.t,0,none⟩) e pL dD W Q:=by
 unfold qJ;have ok:=h.JG.ok;have hm:=ok.m1;have hl:=hd.1;have JK:=hf.len;rw[hl] at JK;refine aF (λh=>by simp at h) (λ_=>aI (λh=>qU λh'=>aB) (λh0=>?_));refine aA rfl (aE (k:=.ptr) (some ⟨t.H.g,0,none⟩) h.cells.1 (uB h.JG ?_));rw[JK,df];refine aI (λh=>qU λh'=>aB) (λh1=>?_);have hE:G.mO e:=⟨aB,aB⟩;obtain⟨p,hp,hcp⟩:=bR (k:=.i) (e:=λx=>x) hf (ES hd hE);refine⟨⟨hE.1,hE.2⟩,aA hp (aE (k:=.i) (kU ds e) hcp (aI (λFW=>qU λh'=>?_) (λuJ=>?_)))⟩
 ·have:kU ds e<0:=FW;omega
 have WT:0<=kU ds e:=by have:¬kU ds e<0:=uJ;omega
 obtain⟨tot,mh⟩:=ok.Ud hd (kU ds e).toNat hE WT aB;have htl:=mh.len ok;refine bK (λc' s w2=>∃(bN:Int) (l0 l:cR) (o:Sl),c'=l.length/\s=(bN,o,())/\G.mO bN/\G.vT c ds bN l/\l0++l=tot/\aL W w2/\dE w2 dA 1 eI o l0/\(∀b,o.b=some b->W.heap.size<=b.block)) tot.length
  ⟨e,[],tot,bD,rfl,rfl,hE,mh,rfl,aU.refl _ _,dE.nil _ _ _ _,λb hb=>by cases hb⟩ ?_
 rintro c' s w2 ⟨bN,l0,l,o,rfl,rfl,hcE,hlw,Sk,k2,v2,f2⟩ X hX;dsimp only;obtain⟨p2,Dk,hcp2⟩:=bR (k:=.i) (e:=λx=>x) (hf.aK k2 cU λ_ _=>id) (ES hd hcE);refine⟨⟨hcE.1,hcE.2⟩,aA Dk (aE (k:=.i) (kU ds bN) hcp2 ?_)⟩;cases hlw with
 |nil hz=>refine aI (λh=>absurd (show kU ds bN>0 from h) aB) (λ_=>?_);rw[rF] at Sk;subst Sk;exact Sd _ o w2 hE WT mh v2 k2 f2
 | @cons _ n l hz vO hlw=>
  refine aI (λ_=>?_) (λh=>absurd (show kU ds bN>0 from hz) h);refine step_i (h.aO k2) hcE (hf.aK k2 cU λ_ _=>id) hl (hc.aK k2 CR λ_ _=>id) hb λw3 k3=>?_;rw[vO];dsimp only;have hnE:=(G.fS.1 (G.xP vO).1).2.1;refine aI (λh=>absurd hnE.1 (by have:n<0:=h;omega)) (λ_=>?_);refine bG λw4 o4 k4 z4=>?_;have k34:=k3.tr k4;have v4:=v2.aK k34 λ_ _=>id;have vx:dE w4 dA 1 eI ⟨some ⟨w3.heap.size,0,none⟩,1,1⟩ [n]:=dE.new eY [n] o4 (by simp[maxLen]);have hl0:l0.length<=tot.length:=by rw[<-Sk];simp
  have hz3:=k34.size;have hz2:=k2.size;refine fH iD eY CI v4 (vx.rd eY) (by simp;omega) (by simp;omega) λr w5 v5 m5 f5 _=>?_;refine hX l.length _ _ dP ⟨n,l0++[n],l,r,rfl,rfl,hnE,hlw,by rw[<-Sk];simp,(k2.tr k34).fresh m5 λk ⟨b,hb,e⟩=>by rw[e];exact f2 b hb,v5,λb hb=>?_⟩;rcases f5 with h1|⟨a,ha,cD⟩
  ·exact f2 b (by rw[<-h1];exact hb)
  ·rw[hb] at ha;cases ha;omega
end
end
section
section
variable{HL:My}{n:Nat}{A L:List bP}{R:cR}{W:aH}
def nx_down{fs:cR}(hA:sL n A):Hk n (vV n fs) (EO A R) (λe=>e.f):=by
 refine⟨λv h=>h.2,λv e he=>?_⟩;have hm:=hA.vQ e (iO.1 (jR.1 he).1).1;exact⟨hm.1,hm.2.1,hm.2.2.2.2.2.1,hm.2.2.2.2.2.2.1⟩
def sdown_i{to:Sl}{ts:cR}{Q:(Sl×Sl×Unit)->aH->Prop}(h:pB W HL n A R)(hn:n<=51)(hf:Rd W to 1 eI ts)(JK:ts.length<=1000)
  (hQ:∀s1 s2 ds bs w',Grown n (vV n ts) (EO A R) (λe=>e.f) ds bs->dE w' dA 1 eI s1 ds->dE w' dA 1 eI s2 bs->aL W w'->(∀b,s1.b=some b->W.heap.size<=b.block)->(∀b,s2.b=some b->W.heap.size<=b.block)->Q (s1,s2,()) w'):
  yO (some ⟨HL.gl,0,none⟩) to W Q:=by
 unfold yO;refine bG λw1 o1 k1 z1=>?_;refine grow_i (nx:=EO A R) (en:=λe=>e.f) (h.aO k1) hn (hf.aK k1 cU λ_ _=>id) JK (nx_down h.ME.ok) (λv=>?_) (λv w K hw hK=>?_) (λe w K hK=>?_) λs1 s2 ds bs w2 hG v1 v2 k2 f1 f2=>?_
 ·have:=h.ME.ok.GB v;have:(EO A R v).length<=(oL A v).length:=xG _ _;omega
 ·refine pU S_lL_Down iZ (first:=#[.pointer (some ⟨HL.gl,0,none⟩)]) (cap:=#[]) (gV (ks:=[.c .ptr,.i]) (t:=(some ⟨HL.gl,0,none⟩,v,())) ?_)
  show IN (some ⟨HL.gl,0,none⟩) v w λs w'=>K (aW s) w';exact Down_i hw hK
 ·refine pU Bd iZ (first:=#[]) (cap:=#[]) (gV (ks:=[.agg [.i,.i,.i,.i]]) (t:=(nY e,())) ?_)
  show sJ (nY e) w λx w'=>K (aD x) w';unfold sJ;refine bG λw3 oa k3 _=>?_;exact aE (k:=.i) e.f (qX (x:=e) oa).1 (hK w3 k3)
 ·have z:=k1.size;refine UP (a:=s1) (b:=s2) (o1.aK k2 id) rfl λw3 o3 m3 _=>?_;refine aZ (l:=[.slice,.slice]) (s1,s2,()) (iW o3) ?_;exact hQ s1 s2 ds bs w3 hG (v1.aK m3 λa ha e=>by have:=f1 a ha;have:a.block=W.heap.size:=e;omega) (v2.aK m3 λa ha e=>by have:=f2 a ha;have:a.block=W.heap.size:=e;omega)
   ((k1.tr k2).fresh m3 λk e=>by rw[show k=W.heap.size from e];exact dN _) (λb hb=>by have:=f1 b hb;omega) (λb hb=>by have:=f2 b hb;omega)
end
end
end Go.Proofs.YtihggjgakbgomaaGreat
