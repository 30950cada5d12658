import Derived.Test.YtihggjgakbgomaaGreatA1
import Derived.Test.YtihggjgakbgomaaGreatF1
import Derived.Test.YtihggjgakbgomaaGreatA3
import Derived.Test.YtihggjgakbgomaaGreatQ2
import Derived.Test.YtihggjgakbgomaaGreatQ1
import Derived.Test.YtihggjgakbgomaaGreatF2
import Derived.Test.YtihggjgakbgomaaGreatQ5
import Derived.Test.YtihggjgakbgomaaGreatQ4
import Derived.Test.YtihggjgakbgomaaGreatQ3
import Derived.Test.YtihggjgakbgomaaGreatA2
set_option linter.defProp false
namespace Go.Proofs.YtihggjgakbgomaaGreat
open Go Go.Den
open Tryz (prog)
section
structure qC(W w:aH)(A:Nat)(g:GT)(N:List (Int×Int))(E:List R3)(B:List (Int×Int)):Prop where
 gZ:cX w A gM (VS g)
 vn:dE w wu 2 eP g.1 N
 ve:dE w RE 3 eR3 g.2.1 E
 vb:dE w tBan 2 eP g.2.2.1 B
 n1:∀a,g.1.b=some a->a.block≠A/\W.heap.size<=a.block
 n2:∀a,g.2.1.b=some a->a.block≠A/\W.heap.size<=a.block
 n3:∀a,g.2.2.1.b=some a->a.block≠A/\W.heap.size<=a.block
 n12:∀a b,g.1.b=some a->g.2.1.b=some b->a.block≠b.block
 n13:∀a b,g.1.b=some a->g.2.2.1.b=some b->a.block≠b.block
 n23:∀a b,g.2.1.b=some a->g.2.2.1.b=some b->a.block≠b.block
 Mr:W.heap.size<=A
 kp:aL W w
section
variable{W w:aH}{A:Nat}{g:GT}{N:List (Int×Int)}{E:List R3}{B:List (Int×Int)}
def qC.aO{w':aH}(h:qC W w A g N E B)(k:aL w w'):qC W w' A g N E B:=
 ⟨h.gZ.aK k id,h.vn.aK k λ_ _=>id,h.ve.aK k λ_ _=>id,h.vb.aK k λ_ _=>id,h.n1,h.n2,h.n3,h.n12,h.n13,h.n23,h.Mr,h.kp.tr k⟩
def qC.pushN(h:qC W w A g N E B)(hl:N.length<=100000)(x:Int×Int){K:aH->Prop}(hK:∀w' s,qC W w' A (s,g.2.1,g.2.2.1,()) (N++[x]) E B->aU (λk=>k=A\/∃a,g.1.b=some a/\k=a.block) w w'->(∀a,s.b=some a->g.1.b=some a\/w.heap.size<=a.block)->K w'):
  aG w (eP x).toArray wu λa5 qS=>qS.cell? ((⟨A,0,none⟩:Addr).add 0)=some (Value.slice g.1.b g.1.l g.1.c)/\aX prog nu nu g.1 (Value.slice (some a5) 1 1) qS λ(s4:Sl) CG=>aJ prog nu ((⟨A,0,none⟩:Addr).add 0) (Value.slice s4.b s4.l s4.c) CG K:=by
 refine bG λw1 o1 k1 z1=>?_;have h1:=h.aO k1;refine⟨?_,?_⟩
 ·rw[aS,h1.gZ.cell];rfl
 have vx:dE w1 wu 2 eP ⟨some ⟨w.heap.size,0,none⟩,1,1⟩ [x]:=dE.new WD [x] (by simpa using o1) (by simp[maxLen]);refine fH Kp WD oneP h1.vn (vx.rd WD) (by simp;omega) (by simp;omega) λr w2 v2 m2 f2 _=>?_;have hA:=h.gZ.lt;have hW:=h.kp.size;have lit:((⟨A,0,none⟩:Addr).add 0)=⟨A,0,none⟩:=by rw[aS,gK]
 rw[lit];have o2:=h1.gZ.aK m2 λ⟨a,ha,e⟩=>(h.n1 a ha).1 e.symm;refine cJ (o:=0) (v:=aW r) o2 qp dP rfl rfl λw3 o3 m3 _=>?_;have fr:∀a,r.b=some a->g.1.b=some a\/w.heap.size<=a.block:=λa ha=>by
  rcases f2 with h2|⟨b,hb,cD⟩
  ·exact .inl (by rw[<-h2];exact ha)
  ·rw[ha] at hb;cases hb;exact .inr aB
 have nr:∀a,r.b=some a->a.block≠A/\W.heap.size<=a.block:=λa ha=>by
  rcases fr a ha with h2|h2
  ·exact h.n1 a h2
  ·exact⟨aB,aB⟩
 refine hK w3 r ⟨o3,v2.aK m3 λa ha e=>(nr a ha).1 e,(h1.ve.aK m2 λa ha ⟨b,hb,e⟩=>h.n12 b a hb ha e.symm).aK m3 λa ha e=>(h.n2 a ha).1 e,(h1.vb.aK m2 λa ha ⟨b,hb,e⟩=>h.n13 b a hb ha e.symm).aK m3 λa ha e=>(h.n3 a ha).1 e,nr,h.n2,h.n3,λa b ha hb=>by have:=h.ve.lt hb;rcases fr a ha with h2|h2;exact h.n12 a b h2 hb;omega,λa b ha hb=>by have:=h.vb.lt hb;rcases fr a ha with h2|h2;exact h.n13 a b h2 hb;omega,h.n23,h.Mr,((h.kp.tr k1).fresh m2 λk ⟨a,ha,e⟩=>by rw[e];exact(h.n1 a ha).2).fresh m3 λk e=>by rw[show k=A from e];exact h.Mr⟩ ?_ fr;exact((k1.wk.trans m2 λk _ hk=>.inr hk).trans m3 λk _ e=>.inl e)
def qC.pushE(h:qC W w A g N E B)(hl:E.length<=100000)(x:R3){K:aH->Prop}(hK:∀w' s,qC W w' A (g.1,s,g.2.2.1,()) N (E++[x]) B->aU (λk=>k=A\/∃a,g.2.1.b=some a/\k=a.block) w w'->(∀a,s.b=some a->g.2.1.b=some a\/w.heap.size<=a.block)->K w'):
  aG w (eR3 x).toArray RE λa5 qS=>qS.cell? ((⟨A,0,none⟩:Addr).add 1)=some (Value.slice g.2.1.b g.2.1.l g.2.1.c)/\aX prog nw nw g.2.1 (Value.slice (some a5) 1 1) qS λ(s4:Sl) CG=>aJ prog nw ((⟨A,0,none⟩:Addr).add 1) (Value.slice s4.b s4.l s4.c) CG K:=by
 refine bG λw1 o1 k1 z1=>?_;have h1:=h.aO k1;refine⟨?_,?_⟩
 ·rw[aS,h1.gZ.cell];rfl
 have vx:dE w1 RE 3 eR3 ⟨some ⟨w.heap.size,0,none⟩,1,1⟩ [x]:=dE.new GA [x] (by simpa using o1) (by simp[maxLen]);refine fH Kr GA oneR3 h1.ve (vx.rd GA) (by simp;omega) (by simp;omega) λr w2 v2 m2 f2 _=>?_;have hA:=h.gZ.lt;have hW:=h.kp.size;have lit:((⟨A,0,none⟩:Addr).add 1)=⟨A,1,none⟩:=by rw[aS,gK]
 rw[lit];have o2:=h1.gZ.aK m2 λ⟨a,ha,e⟩=>(h.n2 a ha).1 e.symm;refine cJ (o:=1) (v:=aW r) o2 Jx dP rfl rfl λw3 o3 m3 _=>?_;have fr:∀a,r.b=some a->g.2.1.b=some a\/w.heap.size<=a.block:=λa ha=>by
  rcases f2 with h2|⟨b,hb,cD⟩
  ·exact .inl (by rw[<-h2];exact ha)
  ·rw[ha] at hb;cases hb;exact .inr aB
 have nr:∀a,r.b=some a->a.block≠A/\W.heap.size<=a.block:=λa ha=>by
  rcases fr a ha with h2|h2
  ·exact h.n2 a h2
  ·exact⟨aB,aB⟩
 refine hK w3 r ⟨o3,(h1.vn.aK m2 λa ha ⟨b,hb,e⟩=>h.n12 a b ha hb e).aK m3 λa ha e=>(h.n1 a ha).1 e,v2.aK m3 λa ha e=>(nr a ha).1 e,(h1.vb.aK m2 λa ha ⟨b,hb,e⟩=>h.n23 b a hb ha e.symm).aK m3 λa ha e=>(h.n3 a ha).1 e,h.n1,nr,h.n3,λa b ha hb=>by have:=h.vn.lt ha;rcases fr b hb with h2|h2;exact h.n12 a b ha h2;omega,h.n13,λa b ha hb=>by have:=h.vb.lt hb;rcases fr a ha with h2|h2;exact h.n23 a b h2 hb;omega,h.Mr,((h.kp.tr k1).fresh m2 λk ⟨a,ha,e⟩=>by rw[e];exact(h.n2 a ha).2).fresh m3 λk e=>by rw[show k=A from e];exact h.Mr⟩ ?_ fr;exact((k1.wk.trans m2 λk _ hk=>.inr hk).trans m3 λk _ e=>.inl e)
def qC.pushB(h:qC W w A g N E B)(hl:B.length<=100000)(x:Int×Int){K:aH->Prop}(hK:∀w' s,qC W w' A (g.1,g.2.1,s,()) N E (B++[x])->aU (λk=>k=A\/∃a,g.2.2.1.b=some a/\k=a.block) w w'->(∀a,s.b=some a->g.2.2.1.b=some a\/w.heap.size<=a.block)->K w'):
  aG w (eP x).toArray tBan λa5 qS=>aX prog tsBan tsBan g.2.2.1 (Value.slice (some a5) 1 1) qS λ(s4:Sl) CG=>aJ prog tsBan ((⟨A,0,none⟩:Addr).add 2) (Value.slice s4.b s4.l s4.c) CG K:=by
 refine bG λw1 o1 k1 z1=>?_;have h1:=h.aO k1;have vx:dE w1 tBan 2 eP ⟨some ⟨w.heap.size,0,none⟩,1,1⟩ [x]:=dE.new WD [x] (by simpa using o1) (by simp[maxLen]);refine fH Qe WD oneP h1.vb (vx.rd WD) (by simp;omega) (by simp;omega) λr w2 v2 m2 f2 _=>?_;have hA:=h.gZ.lt;have hW:=h.kp.size;have lit:((⟨A,0,none⟩:Addr).add 2)=⟨A,2,none⟩:=by rw[aS,gK]
 rw[lit];have o2:=h1.gZ.aK m2 λ⟨a,ha,e⟩=>(h.n3 a ha).1 e.symm;refine cJ (o:=2) (v:=aW r) o2 size_sBan dP rfl rfl λw3 o3 m3 _=>?_;have fr:∀a,r.b=some a->g.2.2.1.b=some a\/w.heap.size<=a.block:=λa ha=>by
  rcases f2 with h2|⟨b,hb,cD⟩
  ·exact .inl (by rw[<-h2];exact ha)
  ·rw[ha] at hb;cases hb;exact .inr aB
 have nr:∀a,r.b=some a->a.block≠A/\W.heap.size<=a.block:=λa ha=>by
  rcases fr a ha with h2|h2
  ·exact h.n3 a h2
  ·exact⟨aB,aB⟩
 refine hK w3 r ⟨o3,(h1.vn.aK m2 λa ha ⟨b,hb,e⟩=>h.n13 a b ha hb e).aK m3 λa ha e=>(h.n1 a ha).1 e,(h1.ve.aK m2 λa ha ⟨b,hb,e⟩=>h.n23 a b ha hb e).aK m3 λa ha e=>(h.n2 a ha).1 e,v2.aK m3 λa ha e=>(nr a ha).1 e,h.n1,h.n2,nr,h.n12,λa b ha hb=>by have:=h.vn.lt ha;rcases fr b hb with h2|h2;exact h.n13 a b ha h2;omega,λa b ha hb=>by have:=h.ve.lt ha;rcases fr b hb with h2|h2;exact h.n23 a b ha h2;omega,h.Mr,((h.kp.tr k1).fresh m2 λk ⟨a,ha,e⟩=>by rw[e];exact(h.n3 a ha).2).fresh m3 λk e=>by rw[show k=A from e];exact h.Mr⟩ ?_ fr;exact((k1.wk.trans m2 λk _ hk=>.inr hk).trans m3 λk _ e=>.inl e)
end
def Round24_i{k n:Int}{w:aH}{Q:Int->aH->Prop}(hn:0<n)(h63:n<=1000000)(hQ:∀x,0<=x->x<n->Q x w):yR k n w Q:=by
 unfold yR;have h1:=Int.lt_tmod_of_pos k hn;have h2:=Int.tmod_lt_of_pos k hn;refine⟨aB,aI (λh=>?_) (λh=>?_)⟩
 ·rw[iH (n:=Int.tmod k n+n) aB aB];exact hQ _ aB aB
 ·have h':¬Int.tmod k n<0:=h;exact hQ _ aB h2
def MN{l:Sl}{xs:cR}{i n:Int}{w:aH}{Q:Int->aH->Prop}(hl:Rd w l 1 eI xs)(h0:0<=i)(h1:i<=1000000)(hn:0<n)(h63:n<=1000000)(hQ:∀x w',0<=x->x<n->aL w w'->Q x w'):fX l i n w Q:=by
 unfold fX;have hll:=hl.len;refine aF (λh=>hQ 0 w (lR _) hn (aU.refl _ _)) (λh=>?_);have gQ:¬(l.l:Int)=0:=by simpa using h
 have uJ:0<(l.l:Int):=aB;have d:aL w w.drew:=aU.drew (aU.refl _ w);have m0:0<=Int.tmod i (l.l:Int):=Int.tmod_nonneg _ h0;have m1:=Int.tmod_lt_of_pos i uJ;have cI:=cL (show(Int.tmod i (l.l:Int)).toNat<xs.length by omega);obtain⟨p,hp,hc⟩:=bR (k:=.i) (e:=λx=>x) (hl.aK d cU λ_ _=>id) cI;exact⟨gQ,⟨m0,m1⟩,aA hp (aE (k:=.i) _ hc ⟨by decide,gQ,Round24_i hn h63 λx x0 x1=>hQ x _ x0 x1 d⟩)⟩
def TL(wn hn i:Nat)(k:Nat):Int:=if k=0 then(if i%wn<wn-1 then((i+1:Nat):Int) else-1) else(if i/wn<hn-1 then((i+wn:Nat):Int) else-1)
def MS(wn hn i k:Nat):List (Nat×Nat):=EL wn hn i++(if 1<=k then HN wn hn i 0 else [])++(if 2<=k then HN wn hn i 1 else [])
def Zf{wn hn i k:Nat}(hk:k<2):MS wn hn i (k+1)=MS wn hn i k++HN wn hn i k:=by
 unfold MS;have:k=0\/k=1:=aB;rcases this with rfl|rfl<;>simp
def full_nxt{wn hn i k:Nat}(hk:k<2):(TL wn hn i k<0/\HN wn hn i k=[])\/∃j:Nat,TL wn hn i k=(j:Int)/\HN wn hn i k=[(i,j),(j,i)]:=by
 unfold TL;have:k=0\/k=1:=aB;rcases this with rfl|rfl
 ·by_cases h:i%wn<wn-1
  ·exact .inr ⟨i+1,by simp[h],by simp[HN,h]⟩
  ·exact .inl ⟨by simp[h],by simp[HN,h]⟩
 ·by_cases h:i/wn<hn-1
  ·exact .inr ⟨i+wn,by simp[h],by simp[HN,h]⟩
  ·exact .inl ⟨by simp[h],by simp[HN,h]⟩
def Town_i{l:Sl}{xs:cR}{W:aH}{Q:GT->aH->Prop}(hl:Rd W l 1 eI xs)(hQ:∀g G w',JY w' g G->sM G->G.n<=16->aL W w'->Q g w'):wM l W Q:=by
 unfold wM;refine bG λw1 o1 k1 z1=>bG λw2 o2 k2 z2=>?_;have K2:=k1.tr k2;have st2:qC W w2 w1.heap.size (bD,bD,bD,()) [] [] []:=
  ⟨o2,dE.nil _ _ _ _,dE.nil _ _ _ _,dE.nil _ _ _ _,(λa ha=>by cases ha),(λa ha=>by cases ha),(λa ha=>by cases ha),(λa b ha=>by cases ha),(λa b ha=>by cases ha),(λa b ha=>by cases ha),aB,K2⟩
 have hA1:W.heap.size<w1.heap.size:=aB;generalize hA:w1.heap.size=A at*;have QJ:cX w2 W.heap.size gM (VS (bD,bD,bD,())):=o1.aK k2 id;have ux:∀{wx:aH},aL W wx->Rd wx l 1 eI xs:=λkx=>hl.aK kx cU λ_ _=>id;refine MN (ux K2) (by decide) (by decide) (by decide) (by decide) λx1 w3 sR yG k3=>?_;refine MN (ux (K2.tr k3)) (by decide) (by decide) (by decide) (by decide) λx2 w4 x20 x21 k4=>?_;obtain⟨wn,hwn⟩:∃wn:Nat,(1:Int)+x1=(wn:Int):=⟨(1+x1).toNat,aB⟩;obtain⟨hn,hhn⟩:∃hn:Nat,(1:Int)+x2=(hn:Int):=⟨(1+x2).toNat,aB⟩;have wr1:aQ ((1:Int)+x1)=(wn:Int):=by rw[iH aB aB,hwn]
 have wr2:aQ ((1:Int)+x2)=(hn:Int):=by rw[iH aB aB,hhn]
 have wn1:1<=wn/\wn<=4:=aB;have hn1:1<=hn/\hn<=4:=aB;have hM:wn*hn<=4*4:=TS wn1.2 hn1.2;have hM1:1*1<=wn*hn:=TS wn1.1 hn1.1;have wrM:aQ ((wn:Int)*(hn:Int))=((wn*hn:Nat):Int):=by rw[<-Int.natCast_mul,iH aB aB]
 rw[wr1,wr2,wrM];generalize hMM:wn*hn=M at*;have tm:∀i:Nat,Int.tmod (i:Int) (wn:Int)=((i%wn:Nat):Int):=λi=>(Int.ofNat_tmod i wn).symm;have td:∀i:Nat,Int.tdiv (i:Int) (wn:Int)=((i/wn:Nat):Int):=λi=>(Int.ofNat_tdiv i wn).symm;have gQ:¬(wn:Int)=0:=aB;have st4:=(st2.aO k3).aO k4;refine bK (λc t w5=>∃(i:Nat) (g:GT) (N:List (Int×Int)),i<=M/\c=M-i/\t=((i:Int),())/\qC W w5 A g N [] []/\N.length=i/\(∀p∈N,(0<=p.1/\p.1<=4095)/\0<=p.2/\p.2<=4095)/\cX w5 W.heap.size gM (VS (bD,bD,bD,()))/\(∀a,g.1.b=some a->a.block≠W.heap.size)/\g.2.1.b=none/\g.2.2.1.b=none) M
  ⟨0,_,[],cY _,rfl,rfl,st4,rfl,by simp,(QJ.aK k3 id).aK k4 id,(λa ha=>by cases ha),rfl,rfl⟩ ?_
 clear st2 st4 QJ o1 o2;rintro c t w5 ⟨i,g,N,hi,rfl,rfl,st,hNl,hNo,oR,nR,eb2,Mb⟩ X hX;dsimp only;refine aI (λcD=>?_) (λkF=>?_)
 ·have dL:i<M:=aB;have d5:aL w5 w5.drew:=aU.drew (aU.refl _ w5);have st5:=st.aO d5;have lit0:∀{wx:aH},cX wx A gM (VS g)->wx.cell? ((⟨A,0,none⟩:Addr).add 0)=some (aW g.1):=λh=>by rw[aS,h.cell];rfl
  refine aE (k:=.slice) g.1 (lit0 st5.gZ) ⟨gQ,gQ,?_⟩;rw[iH (n:=(2:Int)+(i:Int)) aB aB];refine MN (ux st5.kp) aB aB (by decide) (by decide) λx3 w6 x30 x31 k6=>?_;have VN:=st5.aO k6;refine⟨lit0 VN.gZ,?_⟩;have hmod:i%wn<wn:=Nat.mod_lt _ aB;have hdiv:i/wn<=i:=Nat.div_le_self _ _;rw[tm,td];generalize i/wn=q at*;generalize i%wn=r at*;rw[iH (n:=(q:Int)) aB aB,iH (n:=(100:Int)*(q:Int)) aB aB,iH (n:=(100:Int)*(r:Int)) aB aB,iH (n:=(100:Int)*(q:Int)+x3) aB aB];refine VN.pushN (x:=((100:Int)*(r:Int),(100:Int)*(q:Int)+x3)) aB λw8 s st8 m8 f8=>?_;rw[pI i aB];have zk:=VN.kp.size;have oR6:=(oR.aK d5 id).aK k6 id;refine hX _ _ _ aB ⟨i+1,_,_,dL,rfl,rfl,st8,by simp[hNl],λp hp=>?_,oR6.aK m8 λhh=>?_,λa ha e=>?_,eb2,Mb⟩
  ·rcases kK.1 hp with hp|hp
   ·exact hNo p hp
   ·have:p=((100:Int)*(r:Int),(100:Int)*(q:Int)+x3):=by simpa using hp
    subst this;exact⟨⟨by show 0<=(100:Int)*_;omega,by show(100:Int)*_<=4095;omega⟩,by show 0<=(100:Int)*_+x3;omega,by show(100:Int)*_+x3<=4095;omega⟩
  ·rcases hh with e|⟨a,ha,e⟩
   ·omega
   ·exact nR a ha e.symm
  ·rcases f8 a ha with h1|h1
   ·exact nR a h1 e
   ·have:=oR6.lt;omega
 have ei:M=i:=aB;subst ei;clear hX kF hi;refine bK (λc t w5=>∃(i:Nat) (g:GT) (E:List R3),i<=M/\c=M-i/\t=((i:Int),())/\qC W w5 A g N E []/\CU wn hn (EL wn hn i) E/\E.length<=2*2*i/\cX w5 W.heap.size gM (VS (bD,bD,bD,()))/\(∀a,g.1.b=some a->a.block≠W.heap.size)/\(∀a,g.2.1.b=some a->a.block≠W.heap.size)/\g.2.2.1.b=none) M
  ⟨0,g,[],cY _,rfl,rfl,st,CU.nil _ _ _,by simp,oR,nR,(λa ha=>by rw[eb2] at ha;cases ha),Mb⟩ ?_
 clear st oR nR eb2 Mb g;rintro c t w5 ⟨i,g,E,hi,rfl,rfl,st,hG,hEl,oR,nR,Oc,Mb⟩ X hX;dsimp only;refine aI (λcD=>?_) (λkF=>?_)
 ·have dL:i<M:=aB;refine fM (vs:=[aD (-1),aD (-1)]) size_Arr2 rfl (by simp[Value.oneCell']) λeO Em GQ z12=>?_;have lj:=st.aO GQ;have oR12:=oR.aK GQ id;have hAlt:=st.gZ.lt;have up:∀{wx wy:aH} {g':GT} {E':List R3} {B':List (Int×Int)},qC W wx A g' N E' B'->aU (λk=>k=w5.heap.size) wx wy->(∀a,g'.1.b=some a->a.block≠w5.heap.size)->(∀a,g'.2.1.b=some a->a.block≠w5.heap.size)->(∀a,g'.2.2.1.b=some a->a.block≠w5.heap.size)->qC W wy A g' N E' B':=λh m h1 h2 h3=>
   ⟨h.gZ.aK m λe=>aB,h.vn.aK m λa ha e=>h1 a ha e,h.ve.aK m λa ha e=>h2 a ha e,h.vb.aK m λa ha e=>h3 a ha e,h.n1,h.n2,h.n3,h.n12,h.n13,h.n23,h.Mr,h.kp.fresh m λk e=>by rw[show k=w5.heap.size from e];exact st.kp.size⟩
  have n1:∀a,g.1.b=some a->a.block≠w5.heap.size:=λa ha e=>by have:=st.vn.lt ha;omega
  have n2:∀a,g.2.1.b=some a->a.block≠w5.heap.size:=λa ha e=>by have:=st.ve.lt ha;omega
  have n3:∀a,g.2.2.1.b=some a->a.block≠w5.heap.size:=λa ha=>by rw[Mb] at ha;cases ha
  have upR:∀{wx wy:aH},cX wx W.heap.size gM (VS (bD,bD,bD,()))->aU (λk=>k=w5.heap.size) wx wy->cX wy W.heap.size gM (VS (bD,bD,bD,())):=λo m=>o.aK m λe=>aB;intro J1 OV;have core1:∀iE,qC W iE A g N E []->cX iE W.heap.size gM (VS (bD,bD,bD,()))->cX iE w5.heap.size On [aD (TL wn hn i 0),aD (-1)]->J1 () iE:=by
   intro iE st13 oR13 o13;apply OV;intro J2 Rp;have core2:∀mX,qC W mX A g N E []->cX mX W.heap.size gM (VS (bD,bD,bD,()))->cX mX w5.heap.size On [aD (TL wn hn i 0),aD (TL wn hn i 1)]->J2 () mX:=by
    intro mX st14 oR14 o14;apply Rp;have h0:CU wn hn (MS wn hn i 0) E:=by unfold MS;simpa using hG
    refine bK (λc t gB=>∃(k:Nat) (g:GT) (E:List R3),k<=2/\c=2-k/\t=((k:Int),())/\qC W gB A g N E []/\CU wn hn (MS wn hn i k) E/\E.length<=2*2*i+2*k/\cX gB W.heap.size gM (VS (bD,bD,bD,()))/\
      cX gB w5.heap.size On [aD (TL wn hn i 0),aD (TL wn hn i 1)]/\(∀a,g.1.b=some a->a.block≠W.heap.size/\a.block≠w5.heap.size)/\(∀a,g.2.1.b=some a->a.block≠W.heap.size/\a.block≠w5.heap.size)/\g.2.2.1.b=none) 2
     ⟨0,g,E,aB,rfl,rfl,st14,h0,aB,oR14,o14,λa ha=>⟨nR a ha,n1 a ha⟩,λa ha=>⟨Oc a ha,n2 a ha⟩,Mb⟩ ?_
    clear st14 oR14 o14 h0;rintro c t gB ⟨k,g,E,hk,rfl,rfl,st,hG,hEl,oR,oN,m1,m2,Mb⟩ Y hY;dsimp only;refine aI (λWE=>?_) (λXk=>?_)
    ·have lM:k<2:=aB;have cN:∀{wx:aH},cX wx w5.heap.size On [aD (TL wn hn i 0),aD (TL wn hn i 1)]->wx.cell? ((⟨w5.heap.size,0,none⟩:Addr).add (k*1))=some (aD (TL wn hn i k)):=λh=>by
      rw[aS,h.cell];have:k=0\/k=1:=aB;rcases this with rfl|rfl<;>rfl
     have B2:0<=(k:Int)/\(k:Int)<((2:Nat):Int):=⟨aB,aB⟩;rw[dU];refine⟨B2,aE (k:=.i) (TL wn hn i k) (cN oN) ?_⟩;rcases full_nxt (wn:=wn) (hn:=hn) (i:=i) lM with⟨FW,hfull⟩|⟨j,hj,hfull⟩
     ·refine aI (λ_=>?_) (λh=>absurd FW h);rw[pI k aB];exact hY _ _ _ aB ⟨k+1,g,E,lM,rfl,rfl,st,by rw[Zf lM];exact hG.TR,aB,oR,oN,m1,m2,Mb⟩
     refine aI (λh=>absurd (show TL wn hn i k<0 from h) aB) (λ_=>?_);rw[iH (n:=(3:Int)*(i:Int)) aB aB,iH (n:=(20:Int)+(3:Int)*(i:Int)) aB aB,iH (n:=(20:Int)+(3:Int)*(i:Int)+(k:Int)) aB aB];refine MN (ux st.kp) aB aB (by decide) (by decide) λx5 jU _ _ Oe=>?_;have st16:=st.aO Oe;have oR16:=oR.aK Oe id;have oN16:=oN.aK Oe id;rw[iH (n:=(90:Int)+(i:Int)) aB aB,iH (n:=(90:Int)+(i:Int)+(k:Int)) aB aB,iH (n:=(60:Int)+(i:Int)) aB aB,iH (n:=(60:Int)+(i:Int)+(k:Int)) aB aB];intro J3 hJ3;have core3:∀mG g' E',qC W mG A g' N E' []->CU wn hn (MS wn hn i k++[(i,j)]) E'->E'.length<=2*2*i+2*k+1->cX mG W.heap.size gM (VS (bD,bD,bD,()))->cX mG w5.heap.size On [aD (TL wn hn i 0),aD (TL wn hn i 1)]->
       (∀a,g'.1.b=some a->a.block≠W.heap.size/\a.block≠w5.heap.size)->(∀a,g'.2.1.b=some a->a.block≠W.heap.size/\a.block≠w5.heap.size)->g'.2.2.1.b=none->J3 () mG:=by
      intro mG g' E' sB hG17 hEl17 oR17 oN17 m17 m27 eb17;apply hJ3;have pk:MS wn hn i (k+1)=MS wn hn i k++[(i,j)]++[(j,i)]:=by rw[Zf lM,hfull];simp
      refine aF (λ_=>?_) (λ_=>?_)
      ·have d17:aL mG mG.drew:=aU.drew (aU.refl _ mG);have Ho:=sB.aO d17;have Ms:∀{wx:aH} {g':GT},cX wx A gM (VS g')->wx.cell? ((⟨A,0,none⟩:Addr).add 1)=some (aW g'.2.1):=λh=>by rw[aS,h.cell];rfl
       refine aE (k:=.slice) g'.2.1 (Ms Ho.gZ) ⟨B2,aE (k:=.i) (TL wn hn i k) (cN (oN17.aK d17 id)) ?_⟩;refine MN (ux Ho.kp) aB aB (by decide) (by decide) λx7 qE x70 x71 iw=>?_;have st18:=Ho.aO iw;refine⟨cN ((oN17.aK d17 id).aK iw id),Ms st18.gZ,?_⟩;rw[iH (n:=(1:Int)+x7) aB aB,hj];refine st18.pushE (x:=((j:Int),(i:Int),(1:Int)+x7)) aB λDR s Rz m21 f21=>?_;have o5:=((oN17.aK d17 id).aK iw id);have oR5:=((oR17.aK d17 id).aK iw id);rw[pI k aB];refine hY _ _ _ aB ⟨k+1,_,_,lM,rfl,rfl,Rz,by rw[pk];exact hG17.push aB aB,by rw[fN,ly0];omega,oR5.aK m21 λhh=>?_,o5.aK m21 λhh=>?_,m17,λa ha=>?_,eb17⟩
       ·rcases hh with e|⟨a,ha,e⟩
        ·omega
        ·exact(m27 a ha).1 e.symm
       ·rcases hh with e|⟨a,ha,e⟩
        ·omega
        ·exact(m27 a ha).2 e.symm
       ·rcases f21 a ha with h1|h1
        ·exact m27 a h1
        ·have:=oR5.lt;have:=o5.lt;exact⟨aB,aB⟩
      ·rw[pI k aB];exact hY _ _ _ aB ⟨k+1,_,_,lM,rfl,rfl,sB,by rw[pk];exact hG17.TR,aB,oR17,oN17,m17,m27,eb17⟩
     refine aF (λ_=>?_) (λ_=>?_)
     ·have d17:aL jU jU.drew:=aU.drew (aU.refl _ jU);have Ho:=st16.aO d17;have Ms:∀{wx:aH} {g':GT},cX wx A gM (VS g')->wx.cell? ((⟨A,0,none⟩:Addr).add 1)=some (aW g'.2.1):=λh=>by rw[aS,h.cell];rfl
      refine aE (k:=.slice) g.2.1 (Ms Ho.gZ) ⟨B2,aE (k:=.i) (TL wn hn i k) (cN (oN16.aK d17 id)) ?_⟩;refine MN (ux Ho.kp) aB aB (by decide) (by decide) λx9 qE x70 x71 iw=>?_;have st18:=Ho.aO iw;refine⟨cN ((oN16.aK d17 id).aK iw id),Ms st18.gZ,?_⟩;rw[iH (n:=(1:Int)+x9) aB aB,hj];refine st18.pushE (x:=((i:Int),(j:Int),(1:Int)+x9)) aB λDR s Rz m21 f21=>?_;have o5:=((oN16.aK d17 id).aK iw id);have oR5:=((oR16.aK d17 id).aK iw id);refine core3 DR _ _ Rz (hG.push aB aB) (by rw[fN,ly0];omega) (oR5.aK m21 λhh=>?_) (o5.aK m21 λhh=>?_) m1 (λa ha=>?_) Mb
      ·rcases hh with e|⟨a,ha,e⟩
       ·omega
       ·exact(m2 a ha).1 e.symm
      ·rcases hh with e|⟨a,ha,e⟩
       ·omega
       ·exact(m2 a ha).2 e.symm
      ·rcases f21 a ha with h1|h1
       ·exact m2 a h1
       ·have:=oR5.lt;have:=o5.lt;exact⟨aB,aB⟩
     ·exact core3 jU g E st16 hG.TR aB oR16 oN16 m1 m2 Mb
    ·have ek:k=2:=aB;subst ek;rw[pI i aB];have e2:MS wn hn i 2=EL wn hn (i+1):=by unfold MS;rw[ru];simp
     rw[e2] at hG;exact hX _ _ _ aB ⟨i+1,g,E,dL,rfl,rfl,st,hG,aB,oR,λa ha=>(m1 a ha).1,λa ha=>(m2 a ha).1,Mb⟩
   refine⟨gQ,?_⟩;have q0:(0:Int)<=((i/wn:Nat):Int):=Int.natCast_nonneg _;rw[td,iH (n:=((i/wn:Nat):Int)) aB (by have:=Nat.div_le_self i wn;omega),iH (n:=(hn:Int)-1) aB aB];refine aI (λhc=>⟨by decide,?_⟩) (λhc=>?_)
   ·have Lx:i/wn<hn-1:=by have:((i/wn:Nat):Int)<(hn:Int)-1:=hc;omega
    rw[show Int.toNat (1:Int)*1=1 from rfl,show((⟨w5.heap.size,0,none⟩:Addr).add 1)=⟨w5.heap.size,1,none⟩ by rw[aS],iH (n:=(i:Int)+(wn:Int)) aB aB];refine cJ (o:=1) (v:=aD ((i:Int)+(wn:Int))) o13 cV dP rfl rfl λmX o14 ZF _=>?_;refine core2 mX (up st13 ZF n1 n2 n3) (upR oR13 ZF) ?_;have:TL wn hn i 1=(i:Int)+(wn:Int):=by unfold TL;simp[Lx]
    rw[this];exact o14
   ·have Lx:¬i/wn<hn-1:=by have:¬((i/wn:Nat):Int)<(hn:Int)-1:=hc;omega
    refine core2 iE st13 oR13 ?_;have:TL wn hn i 1=-1:=by unfold TL;simp[Lx]
    rw[this];exact o13
  refine⟨gQ,?_⟩;rw[tm,iH (n:=(wn:Int)-1) aB aB];have hmod:i%wn<wn:=Nat.mod_lt _ aB;refine aI (λhc=>⟨by decide,?_⟩) (λhc=>?_)
  ·have Lx:i%wn<wn-1:=by have:((i%wn:Nat):Int)<(wn:Int)-1:=hc;omega
   rw[show Int.toNat (0:Int)*1=0 from rfl,add_zero,iH (n:=(i:Int)+(1:Int)) aB aB];refine cJ (o:=0) (v:=aD ((i:Int)+1)) Em cV dP rfl rfl λiE o13 jy _=>?_;refine core1 iE (up lj jy n1 n2 n3) (upR oR12 jy) ?_;have:TL wn hn i 0=(i:Int)+1:=by unfold TL;simp[Lx]
   rw[this];exact o13
  ·have Lx:¬i%wn<wn-1:=by have:¬((i%wn:Nat):Int)<(wn:Int)-1:=hc;omega
   refine core1 eO lj oR12 ?_;have:TL wn hn i 0=-1:=by unfold TL;simp[Lx]
   rw[this];exact Em
 have ei:M=i:=aB;subst ei;have T0:CS M 0 E:=by rw[<-hMM];rw[<-hMM] at hG;exact hG.town aB aB
 have t0l:=T0.len;clear hX kF hi hG hEl;refine bK (λc t w5=>∃(k:Nat) (g:GT) (E:List R3),k<=3/\c=4-k/\t=((k:Int),())/\qC W w5 A g N E []/\CS M k E/\cX w5 W.heap.size gM (VS (bD,bD,bD,()))/\(∀a,g.1.b=some a->a.block≠W.heap.size)/\(∀a,g.2.1.b=some a->a.block≠W.heap.size)/\g.2.2.1.b=none) 4
  ⟨0,g,E,aB,rfl,rfl,st,T0,oR,nR,Oc,Mb⟩ ?_
 clear st oR nR Oc Mb T0 t0l g E;rintro c t w5 ⟨k,g,E,hk,rfl,rfl,st,T,oR,nR,Oc,Mb⟩ X hX;dsimp only;refine MN (ux st.kp) (by decide) (by decide) (by decide) (by decide) λsR w6 xa xb k6=>?_;have VN:=st.aO k6;have oR6:=oR.aK k6 id;have tl:=T.len;refine aI (λcD=>?_) (λkF=>?_)
 ·have lM:k<3:=by have:(k:Int)<sR:=cD;omega
  have d6:aL w6 w6.drew:=aU.drew (aU.refl _ w6);have st6d:=VN.aO d6;have Ms:∀{wx:aH},cX wx A gM (VS g)->wx.cell? ((⟨A,0,none⟩:Addr).add 1)=some (aW g.2.1):=λh=>by rw[aS,h.cell];rfl
  refine aE (k:=.slice) g.2.1 (Ms st6d.gZ) ?_;rw[iH (n:=(4:Int)+(k:Int)) aB aB,iH (n:=(8:Int)+(k:Int)) aB aB,iH (n:=(12:Int)+(k:Int)) aB aB];refine MN (ux st6d.kp) aB aB aB aB λyG w7 a0 a1 k7=>?_;have Dd:=st6d.aO k7;refine⟨Ms Dd.gZ,MN (ux Dd.kp) aB aB aB aB λEk w8 b0 b1 k8=>?_⟩;have st8:=Dd.aO k8;refine⟨Ms st8.gZ,MN (ux st8.kp) aB aB (by decide) (by decide) λRh w9 c0 c1 k9=>?_⟩;have st9:=st8.aO k9;refine⟨Ms st9.gZ,?_⟩;rw[iH (n:=(1:Int)+Rh) aB aB];have oR9:=(((oR6.aK d6 id).aK k7 id).aK k8 id).aK k9 id;refine st9.pushE (x:=(yG,Ek,(1:Int)+Rh)) aB λDR s Rz m21 f21=>?_;rw[pI k aB];refine hX (4-(k+1)) _ _ aB ⟨k+1,_,_,lM,rfl,rfl,Rz,T.push ⟨⟨a0,a1⟩,⟨b0,b1⟩,by show 1<=(1:Int)+Rh;omega,by show(1:Int)+Rh<=40;omega⟩,oR9.aK m21 λhh=>?_,nR,λa ha e=>?_,Mb⟩
  ·rcases hh with e|⟨a,ha,e⟩
   ·omega
   ·exact Oc a ha e.symm
  ·rcases f21 a ha with h1|h1
   ·exact Oc a h1 e
   ·have:=oR9.lt;omega
 have T3:=T.TR hk;clear hX kF;intro J hJ;have tJ:∀w9 g E,qC W w9 A g N E []->CS M 3 E->E≠[]->cX w9 W.heap.size gM (VS (bD,bD,bD,()))->(∀a,g.1.b=some a->a.block≠W.heap.size)->(∀a,g.2.1.b=some a->a.block≠W.heap.size)->g.2.2.1.b=none->J () w9:=by
  clear st VN oR oR6 nR Oc Mb T T3 tl g E;intro w9 g E st T hE1 oR nR Oc Mb;apply hJ;have tl:=T.len;have B0:HQ E 0 0 []:=⟨by simp,by simp,List.Pairwise.nil,by simp⟩;have cells:∀{wx:aH} {g':GT},cX wx A gM (VS g')->_:=λ{wx g'} h=>qM (x:=aW g'.1) (y:=aW g'.2.1) (z:=aW g'.2.2.1) h;refine bK (λc t w5=>∃(a:Nat) (g:GT) (B:List (Int×Int)),a<=E.length/\c=E.length-a/\t=((a:Int),())/\qC W w5 A g N E B/\HQ E a 0 B/\cX w5 W.heap.size gM (VS (bD,bD,bD,()))/\(∀a,g.1.b=some a->a.block≠W.heap.size)/\(∀a,g.2.1.b=some a->a.block≠W.heap.size)/\(∀a,g.2.2.1.b=some a->a.block≠W.heap.size)) E.length
   ⟨0,g,[],cY _,rfl,rfl,st,B0,oR,nR,Oc,λa ha=>by rw[Mb] at ha;cases ha⟩ ?_
  clear st oR nR Oc Mb B0 g;rintro c t w5 ⟨a,g,B,ha,rfl,rfl,st,hB,oR,nR,Oc,nR3⟩ X hX;dsimp only;have el:=st.ve.len;refine aE (k:=.slice) g.2.1 (cells st.gZ).2.1 (aI (λcD=>?_) (λkF=>?_))
  ·have mY:a<E.length:=aB;refine bK (λc t w6=>∃(b:Nat) (g:GT) (B:List (Int×Int)),b<=E.length/\c=E.length-b/\t=((b:Int),())/\qC W w6 A g N E B/\HQ E a b B/\cX w6 W.heap.size gM (VS (bD,bD,bD,()))/\(∀a,g.1.b=some a->a.block≠W.heap.size)/\(∀a,g.2.1.b=some a->a.block≠W.heap.size)/\(∀a,g.2.2.1.b=some a->a.block≠W.heap.size)) E.length
    ⟨0,g,B,cY _,rfl,rfl,st,hB,oR,nR,Oc,nR3⟩ ?_
   clear st oR nR Oc nR3 hB el g B cD;rintro c t w6 ⟨b,g,B,hb,rfl,rfl,st,hB,oR,nR,Oc,nR3⟩ Y hY;dsimp only;have el:=st.ve.len;refine aE (k:=.slice) g.2.1 (cells st.gZ).2.1 (aI (λWE=>?_) (λXk=>?_))
   ·have bW:b<E.length:=aB;have d6:aL w6 w6.drew:=aU.drew (aU.refl _ w6);have VN:=st.aO d6;have oR6:=oR.aK d6 id;have vj:=cL mY;have hgb:=cL bW;have ea:E.getD a (0,0,0)=E[a]:=by rw[MJ,vj];rfl
    have eb:E.getD b (0,0,0)=E[b]:=by rw[MJ,hgb];rfl
    obtain⟨p,hp,_,_,ct,_⟩:=rd3 (VN.ve.rd GA) vj;obtain⟨q,hq,_,cf,_,_⟩:=rd3 (VN.ve.rd GA) hgb;rw[dU,dU];refine aE (k:=.slice) g.2.1 (cells VN.gZ).2.1 ⟨⟨aB,aB⟩,aA hp (aE (k:=.i) _ ct (aE (k:=.slice) g.2.1 (cells VN.gZ).2.1 ⟨⟨aB,aB⟩,aA hq (aE (k:=.i) _ cf ?_)⟩))⟩;rw[pI b aB];refine aF (λhe=>?_) (λhe=>?_)
    ·have vI:(E.getD a (0,0,0)).2.1=(E.getD b (0,0,0)).1:=by rw[ea,eb];simpa using he
     rw[iH (n:=(7:Int)*(a:Int)) aB aB,iH (n:=(7:Int)*(a:Int)+(b:Int)) aB aB];refine MN (ux VN.kp) aB aB (by decide) (by decide) λx16 w7 _ _ k7=>?_;have Dd:=VN.aO k7;have oR7:=oR6.aK k7 id;refine aF (λ_=>?_) (λ_=>?_)
     ·have bl:=hB.len;have fl:=xG (λi=>decide ((E.getD i.toNat (0,0,0)).1=(E.getD a (0,0,0)).2.1)) (kS b);rw[rO] at fl;refine aE (k:=.slice) g.2.2.1 (cells Dd.gZ).2.2 ?_;refine Dd.pushB (x:=((a:Int),(b:Int))) aB λw8 s st8 m8 f8=>?_;refine hY _ _ _ aB ⟨b+1,_,_,bW,rfl,rfl,st8,hB.push mY bW vI,oR7.aK m8 λhh=>?_,nR,Oc,λc hc e=>?_⟩
      ·rcases hh with e|⟨c,hc,e⟩
       ·omega
       ·exact nR3 c hc e.symm
      ·rcases f8 c hc with h1|h1
       ·exact nR3 c h1 e
       ·have:=oR7.lt;omega
     ·exact hY _ _ _ aB ⟨b+1,g,B,bW,rfl,rfl,Dd,hB.skip,oR7,nR,Oc,nR3⟩
    ·exact hY _ _ _ aB ⟨b+1,g,B,bW,rfl,rfl,VN,hB.skip,oR6,nR,Oc,nR3⟩
   ·have eb:b=E.length:=aB;subst eb;rw[pI a aB];exact hX _ _ _ aB ⟨a+1,g,B,mY,rfl,rfl,st,hB.next T,oR,nR,Oc,nR3⟩
  ·have ea:a=E.length:=aB;subst ea;refine aZ (l:=[.slice,.slice,.slice]) g (qV (g:=g) st.gZ) ?_;refine fJ (vs:=VS g) oR zP rfl (Yl g) λw43 o43 m43 _=>?_;refine aZ (l:=[.slice,.slice,.slice]) g (qV (g:=g) o43) ?_;refine hQ g ⟨N,E,B⟩ w43 ⟨(st.vn.aK m43 λa ha e=>nR a ha e).rd WD,(st.ve.aK m43 λa ha e=>Oc a ha e).rd GA,(st.vb.aK m43 λa ha e=>nR3 a ha e).rd WD⟩ (town_ok ⟨aB,aB⟩ hNl hNo T hE1 hB) (by show N.length<=16;omega) (st.kp.fresh m43 λk e=>by rw[show k=W.heap.size from e];exact dN _)
 have el:=VN.ve.len;refine aE (k:=.slice) g.2.1 (by rw[aS,VN.gZ.cell];rfl) (aF (λh0=>?_) (λh0=>?_))
 ·have hl0:(g.2.1.l:Int)=0:=by simpa using h0
  refine bG λw7 o7 k7 z7=>?_;have Dd:=VN.aO k7;have oR7:=oR6.aK k7 id;rw[show((⟨A,0,none⟩:Addr).add 1)=⟨A,1,none⟩ by rw[aS]];have hAlt:=VN.gZ.lt;refine cJ (o:=1) (v:=.slice (some ⟨w6.heap.size,0,none⟩) 1 1) Dd.gZ Jx dP rfl rfl λw8 o8 m8 _=>?_;have ve:dE w7 RE 3 eR3 ⟨some ⟨w6.heap.size,0,none⟩,1,1⟩ [((0:Int),(0:Int),(3:Int))]:=dE.new GA [_] o7 (by simp[maxLen]);refine tJ w8 (g.1,⟨some ⟨w6.heap.size,0,none⟩,1,1⟩,g.2.2.1,()) [((0:Int),(0:Int),(3:Int))] ⟨o8,Dd.vn.aK m8 λa ha e=>(Dd.n1 a ha).1 e,ve.aK m8 λa ha e=>?_,Dd.vb.aK m8 λa ha e=>(Dd.n3 a ha).1 e,Dd.n1,λa ha=>?_,Dd.n3,λa b ha hb=>?_,Dd.n13,λa b ha hb=>?_,Dd.Mr,Dd.kp.fresh m8 λk e=>by rw[show k=A from e];exact Dd.Mr⟩ (CS.one aB) dP (oR7.aK m8 λe=>aB) nR (λa ha e=>?_) Mb
  ·cases ha;have e':w6.heap.size=A:=e;omega
  ·cases ha;exact⟨by show w6.heap.size≠A;omega,VN.kp.size⟩
  ·cases hb;have:=VN.vn.lt ha;show a.block≠w6.heap.size;omega
  ·rw[Mb] at hb;cases hb
  ·cases ha;have e':w6.heap.size=W.heap.size:=e;have:=oR6.lt;omega
 ·have hE0:E≠[]:=λh=>by
   have h1:¬(g.2.1.l:Int)=0:=by simpa using h0
   rw[h] at el;simp at el;omega
  exact tJ w6 g E VN T3 hE0 oR6 nR Oc Mb
end
def Small_i{l:Sl}{xs:cR}{w:aH}{Q:Int×Int×Int×Int×Int×Int×Unit->aH->Prop}(hl:Rd w l 1 eI xs)(hQ:∀c w',c.Ok->aL w w'->Q (xI c) w'):yQ l w Q:=by
 unfold yQ;refine cM (cs:=JU ⟨0,0,0,0,0,0⟩) λw1 b1 k1 z1=>?_;refine MN (hl.aK k1 cU λ_ _=>id) (by decide) (by decide) (by decide) (by decide) λx1 w2 a1 c1 k2=>?_;have K2:=k1.tr k2;refine MN (hl.aK K2 cU λ_ _=>id) (by decide) (by decide) (by decide) (by decide) λx2 w3 a2 c2 k3=>?_;have K3:=K2.tr k3;refine MN (hl.aK K3 cU λ_ _=>id) (by decide) (by decide) (by decide) (by decide) λx3 w4 a3 c3 k4=>?_;have K4:=K3.tr k4;refine MN (hl.aK K4 cU λ_ _=>id) (by decide) (by decide) (by decide) (by decide) λx4 w5 a4 c4 k5=>?_;have K5:=K4.tr k5;rw[iH aB aB,iH aB aB,iH aB aB];refine fM (zs:=JU ⟨0,0,0,0,0,0⟩) (vs:=[aD (1+x1),aD (1+x2),aD x3,aD (1+x4),aD 0,aD 0]) zO rfl (by simp[Value.oneCell']) λw7 o7 k7 z7=>?_;have o7d:=o7.aK (cB w7) id;have K7:=(K5.tr k7).tr (cB w7);refine aE (k:=.i) (1+x4) (dR o7d rfl) ?_;refine MN (hl.aK K7 cU λ_ _=>id) (by decide) (by decide) (by decide) (by decide) λx6 w8 a6 c6 k8=>?_;have o8:=o7d.aK k8 id;refine⟨dR o8 rfl,?_⟩;rw[iH aB aB];have b8:tE w5.heap.size yJ _ w8 (λk=>k=w5.heap.size):=⟨o8,λ_=>Iff.rfl⟩;refine qP b8 cV dP rfl rfl λw9 b9 u9=>?_;have K8:=K7.tr k8;have z5:w.heap.size<=w5.heap.size:=K5.size;have K9:aL w w9:=K8.fresh u9.m λk (e:k=w5.heap.size)=>aB;refine MN (hl.aK K9 cU λ_ _=>id) (by decide) (by decide) (by decide) (by decide) λx7 fG a7 c7 JE=>?_;rw[iH aB aB];refine qP (bJ.kp b9 JE) cV dP rfl rfl λeQ b11 Vw=>?_;have K11:aL w eQ:=(K9.tr JE).fresh Vw.m λk (e:k=w5.heap.size)=>aB
 let c:vU:=⟨(1+x1).toNat,(1+x2).toNat,x3,1+x4,1+x4+x6,5+x7⟩
 have jf:((1+x1).toNat:Int)=1+x1:=aB;have QL:((1+x2).toNat:Int)=1+x2:=aB;have tup:xI c=(1+x1,1+x2,x3,1+x4,1+x4+x6,5+x7,()):=by show(((1+x1).toNat:Int),((1+x2).toNat:Int),_,_,_,_,())=_;rw[jf,QL]
 refine aZ (l:=JR) (1+x1,1+x2,x3,1+x4,1+x4+x6,5+x7,()) (b11.1.holds λj v hj=>by rw[gK];exact hj) ?_;have n15:¬w.heap.size=w5.heap.size:=by have:=(k2.tr (k3.tr (k4.tr k5))).size;omega
 have o1:cX eQ w.heap.size yJ (JU ⟨0,0,0,0,0,0⟩):=by have x1:=b1.1.aK (k2.tr (k3.tr (k4.tr k5))) id;have x2:=((x1.aK k7 id).aK (cB w7) id).aK k8 id;exact((x2.aK u9.m n15).aK JE id).aK Vw.m n15
 refine fJ (vs:=[aD (1+x1),aD (1+x2),aD x3,aD (1+x4),aD (1+x4+x6),aD (5+x7)]) o1 zO rfl (by simp[Value.oneCell']) λeO Em Lu _=>?_;refine aZ (l:=JR) (1+x1,1+x2,x3,1+x4,1+x4+x6,5+x7,()) (Em.holds λj v hj=>by rw[gK];exact hj) ?_;have:=hQ c eO ⟨by show 1<=(1+x1).toNat/\(1+x1).toNat<=16;omega,by show 1<=(1+x2).toNat/\(1+x2).toNat<=16;omega,by show 0<=x3/\x3<=20;omega,by show 1<=1+x4/\1+x4<=1000;omega,by show 1+x4<=1+x4+x6/\1+x4+x6<=1000;omega,by show 1<=5+x7/\5+x7<=1000;omega⟩ (K11.fresh Lu λk (e:k=w.heap.size)=>aB);rw[tup] at this;exact this
structure Made(E:qB)(G:Gr)(a wa n:Nat)(c:vU)(w0 W0 w':aH)(S':BS)(W:iS):Prop where
 x:iN (λ_=>False) E.e a wa W w' S'
 b:Bs W0 E G S' w'
 k:aL w0 w'
 ok:ZJ G 0 n W
 lo:∀k,S' k->w0.heap.size<=k
 w:∃sp tp lp GU ds,W=⟨JN c G.m sp tp lp,ds,[],GU⟩/\ds.map (·.2)=List.replicate n (QU c)
def Made.aO{E:qB}{G:Gr}{a wa n:Nat}{c:vU}{w0 W0 w' w2:aH}{S':BS}{W:iS}(h:Made E G a wa n c w0 W0 w' S' W)(k:aL w' w2):Made E G a wa n c w0 W0 w2 S' W:=⟨h.x.kp k,h.b.kp k,h.k.tr k,h.ok,h.lo,h.w⟩
def Made.iR{E:qB}{G:Gr}{a wa n:Nat}{c:vU}{w0 W0 w':aH}{S':BS}{W:iS}(h:Made E G a wa n c w0 W0 w' S' W):W.iR=[]:=by
 obtain⟨_,_,_,_,_,rfl,_⟩:=h.w;rfl
def NewW_i{g:GT}{G:Gr}{c:vU}{n:Nat}{w:aH}{Q:cW->Int->aH->Prop}(hg:JY w g G)(ok:sM G)(VJ:c.Ok)(hn:1<=n/\n<=16)
  (hQ:∀E a wa W0 w' S' W,Made E G a wa n c w W0 w' S' W->aL w W0->Q (some ⟨wa,0,none⟩) 0 w'):vC g (xI c) (n:Int) w Q:=
 WNew_i hg ok VJ hn λE a wa sp tp lp W0 GU ds w' S' h1 h2 h3 Wk h4 h5 h6=>hQ E a wa W0 w' S' _ ⟨h1,h2,h3,h4,h5,sp,tp,lp,GU,ds,rfl,h6⟩ Wk
section
def ou{w:aH}{a b:Nat}{e e':fL}{cs ds:gJ}(o:cX w a e cs)(o':cX w b e' ds)(gQ:e≠e'):a≠b:=λh=>by
 subst h;have h1:w.heap[a]? =some (.cells cs.toArray e (0,0)):=o;have h2:w.heap[a]? =some (.cells ds.toArray e' (0,0)):=o';rw[h1] at h2;cases h2;exact gQ rfl
def Sls(w:aH)(a:Nat)(t:fL):=∃cs,cX w a t cs/\∀v∈cs,∃s:Sl,v=aW s
section
variable{w w':aH}{a:Nat}
variable{G:Gr}(m:aU (λk=>k=a) w w')(o:Sls w a gM)
include m o
end
def Cfb(w:aH)(a:Nat):=∃T cs,cX w a T cs/\(T=yJ\/T=gM)
section
variable{w w':aH}{a:Nat}{G:Gr}(m:aU (λk=>k=a) w w')(o:Cfb w a)
include m o
set_option linter.unusedSectionVars false
theorem ty_ne{s:Sl}(h:Ty w s):∀b,s.b=some b->¬b.block=a:=λb hb e=>by
 obtain⟨T,cs,oo,hT⟩:=o;obtain⟨t,ds,o2,h1,h2⟩:=h b hb;refine ou o2 oo (λet=>?_) e;rcases hT with rfl|rfl
 ·exact h1 et
 ·exact h2 et
theorem KB{s:Sl}(h:Ty w s):Ty w' s:=λb hb=>by
 have hn:=ty_ne m o h b hb;obtain⟨t,ds,o2,h1⟩:=h b hb;exact⟨t,ds,o2.aK m hn,h1⟩
theorem NB{α:Type}{n:Nat}{aY:α->gJ}{s:Sl}{xs:List α}(h:Rd w s n aY xs)(gQ:∀x,aY x≠[])(ht:Ty w s):Rd w' s n aY xs:=h.aK m gQ (ty_ne m o ht)
theorem Fi{b:Nat}{e:fL}{cs:gJ}(h:cX w b e cs)(h1:e≠yJ)(h2:e≠gM):cX w' b e cs:=by
 obtain⟨T,ds,oo,hT⟩:=o;refine h.aK m λeb=>ou h oo (λet=>?_) eb;rcases hT with rfl|rfl
 ·exact h1 et
 ·exact h2 et
theorem zw{row first:Sl}{n mm:Nat}{key:Int->Int}(h:ByN w row first n mm key)(h1:Ty w row)(h2:Ty w first):ByN w' row first n mm key:=by
 obtain⟨fs,rs,g1,g2,g3⟩:=h;exact⟨fs,rs,NB m o g1 cU h2,NB m o g2 cU h1,g3⟩
theorem gra_cfg{H:Sz}(h:vY w H G):vY w' H G:=by
 obtain⟨t1,t2,t3,t4,t5,t6,t7⟩:=h.Md;exact⟨h.ok,Fi m o h.head (by decide) (by decide),⟨NB m o h.val.nd zC t1,NB m o h.val.ed Aa t2,NB m o h.val.bn zC t3⟩,zw m o h.out t4 t6,zw m o h.MF t5 t7,KB m o t1,KB m o t2,KB m o t3,KB m o t4,KB m o t5,KB m o t6,KB m o t7⟩
theorem Po{s:Sl}{eC:List (cR)}(h:RS w s eC)(ht:∀b,s.b=some b->∃cs,cX w b.block yW cs):RS w' s eC:=by
 obtain⟨ss,h1,h2,h3,h4⟩:=h;have hs:Ty w s:=λb hb=>by obtain⟨cs,o2⟩:=ht b hb;exact⟨yW,cs,o2,by decide,by decide⟩
 refine⟨ss,NB m o h1 eS_ne hs,h2,λi x r hx hr=>NB m o (h3 i x r hx hr) cU (h4 x (kR hx)),λx hx=>KB m o (h4 x hx)⟩
theorem tur_cfg{t:Mx}(h:sO w t G):sO w' t G:=
 ⟨Fi m o h.head (by decide) (by decide),gra_cfg m o h.JG,Po m o h.TL λb hb=>h.Md b (.inl hb),Po m o h.prv λb hb=>h.Md b (.inr hb),λb hb=>by obtain⟨cs,oo⟩:=h.Md b hb;exact⟨cs,Fi m o oo (by decide) (by decide)⟩⟩
theorem lev_cfg{H:My}{n:Nat}{A:List bP}{R:cR}(h:pB w H n A R):pB w' H n A R:=by
 have on:∀{k:Nat} {e:fL} {cs:gJ},cX w k e cs->e≠yJ->e≠gM->¬k=a:=λh h1 h2 eb=>by
  obtain⟨T,ds,oo,hT⟩:=o;refine ou h oo (λet=>?_) eb;rcases hT with rfl|rfl
  ·exact h1 et
  ·exact h2 et
 refine h.aK m λk hk=>?_;rcases hk with rfl|hk|⟨b,hb,hbk⟩
 ·exact on h.head (by decide) (by decide)
 ·have hn:=h.ME.at_;rcases hk with rfl|rfl|rfl|⟨i,s,b,h1,h2,hbk⟩
  ·exact on hn.head (by decide) (by decide)
  ·exact on hn.sU (by decide) (by decide)
  ·exact on hn.LS (by decide) (by decide)
  ·obtain⟨cs,o2⟩:=Fa (hn.row i s h1) h2;have:=on o2 (by decide) (by decide)
   first|(rw[hbk];exact this)|(rw[<-hbk];exact this)
 ·obtain⟨cs,o2⟩:=Fa h.jK hb;have:=on o2 (by decide) (by decide)
  first|(rw[hbk];exact this)|(rw[<-hbk];exact this)
theorem eng_cfg{E:qB}(h:AL w E G):AL w' E G:=by
 obtain⟨os,h1,h2⟩:=h.ord;exact⟨Fi m o h.head (by decide) (by decide),tur_cfg m o h.TJ,lev_cfg m o h.lev,⟨os,NB m o h1 cU h.oty,h2⟩,KB m o h.oty⟩
end
end
open Go.IntKind (wrap)
def Bs.chg{W0 w w2:aH}{E:qB}{G:Gr}{S:BS}{g:Nat}(h:Bs W0 E G S w)(m:aU (λk=>k=g) w w2)(o:Cfb W0 g):∃W0',Bs W0' E G S w2/\W0'.heap.size=W0.heap.size:=by
 have hg:g<W0.heap.size:=by obtain⟨T,cs,oo,_⟩:=o;exact oo.lt
 have Bk:g<w2.heap.size:=pP hg (jB h.k0.size m.size);obtain⟨ob,ZB⟩:∃ob,w2.heap[g]? =some ob:=⟨_,Array.getElem?_eq_getElem Bk⟩
 let W0':aH:={W0 with heap:=W0.heap.setIfInBounds g ob}
 have m0:aU (λk=>k=g) W0 W0':=lK W0 g ob;have QK:W0'.heap.size=W0.heap.size:=by simp[W0']
 refine⟨W0',⟨eng_cfg m0 o h.jl,⟨m.os.trans h.k0.os,m.tape.trans h.k0.tape,m.output.trans h.k0.output,by rw[QK];exact jB h.k0.size m.size,λk hk _=>?_⟩,λk hk=>by rw[QK];exact h.lo k hk⟩,QK⟩;rw[QK] at hk
 by_cases hkg:k=g
 ·subst hkg;rw[ZB];show _=(W0.heap.setIfInBounds k ob)[k]?;rw[Array.getElem?_setIfInBounds];simp[hk]
 ·rw[m.block k (pP hk h.k0.size) hkg,h.k0.block k hk id];show _=(W0.heap.setIfInBounds g ob)[k]?;rw[Array.getElem?_setIfInBounds,if_neg (λe=>hkg e.symm)]
def Made.dJ{E:qB}{G:Gr}{a wa n g:Nat}{c:vU}{w0 w1 W0 w' w2:aH}{S':BS}{W:iS}(h:Made E G a wa n c w1 W0 w' S' W)(m:aU (λk=>k=g) w' w2)(o:Cfb W0 g)(hg:g<w1.heap.size)(h0:w0.heap.size<=g)(hk:aL w0 w1):∃W0',Made E G a wa n c w0 W0' w2 S' W/\W0'.heap.size=W0.heap.size:=by
 obtain⟨W0',hb,QK⟩:=h.b.chg m o;have hx:iN (λk=>k=g) E.e a wa W w' S':=h.x.TZ h.iR;exact⟨W0',⟨(hx.ov m λk hk=>⟨hk,λhs=>by have:=h.lo k hs;have lM:k=g:=hk;omega⟩).TZ h.iR,hb,(hk.tr h.k).fresh m λk e=>by rw[show k=g from e];exact h0,h.ok,λk lM=>jB hk.size (h.lo k lM),h.w⟩,QK⟩
def TopMade_i{l dJ:Sl}{xs cs:cR}{wG:Int}{w:aH}{Q:GT->Int×Int×Int×Int×Int×Int×Unit->cW->Int->aH->Prop}(hl:Rd w l 1 eI xs)(hc:Rd w dJ 1 eI cs)
  (hQ:∀(g:GT) G c n E a wa W0 w' S' W,(g.1.l=G.n/\g.2.1.l=G.m)->sM G->c.Ok->Made E G a wa n c w W0 w' S' W->1<=n/\n<=4->(n:Int)=1+wG%4->Q g (xI c) (some ⟨wa,0,none⟩) (n:Int) w'):KQ l dJ wG w Q:=by
 unfold KQ;refine bG λw1 o1 k1 z1=>?_;refine cM (cs:=JU ⟨0,0,0,0,0,0⟩) λw2 b2 k2 z2=>?_;have K2:=k1.tr k2;refine Town_i (hl.aK K2 cU λ_ _=>id) λg G w3 hg ok hn k3=>?_;refine Small_i (hc.aK (K2.tr k3) cU λ_ _=>id) λc w4 VJ k4=>?_;refine bG λw5 o5 k5 z5=>?_;refine cM (cs:=JU ⟨0,0,0,0,0,0⟩) λw6 b6 k6 z6=>?_;refine fJ (vs:=VS g) (o5.aK k6 id) zP rfl (Yl g) λw7 o7 m7 _=>?_;refine fJ (vs:=JU c) ((b6.1).aK m7 λe=>by have e':w5.heap.size=w4.heap.size:=e;omega) zO rfl (by intro u hu;simp at hu;rcases hu with rfl|rfl|rfl|rfl|rfl|rfl<;>rfl) λw8 o8 m8 _=>?_;have o7':=o7.aK m8 λe=>by have e':w4.heap.size=w5.heap.size:=e;omega
 have K8:aL w4 w8:=((k5.tr k6).fresh m7 λk (e:k=w4.heap.size)=>aB).fresh m8 λk (e:k=w5.heap.size)=>aB;refine XK aB aB ?_;have hd0:=Int.emod_nonneg wG (show(4:Int)≠0 by omega);obtain⟨n,gQ⟩:∃n:Nat,(n:Int)=1+wG%4:=⟨(1+wG%4).toNat,aB⟩;rw[iH aB aB,<-gQ];refine aZ (l:=[.slice,.slice,.slice]) g (qV (g:=g) o7') (aZ (l:=JR) (xI c) (o8.holds λj v hj=>by rw[gK];exact hj) ?_);have Kg:=k4.tr K8;have KW:=(k3.tr k4).tr K8;refine NewW_i (g:=g) (hg.aO Kg) ok VJ aB λE a wa W0 fG ZD W hM kW0=>aF (λh=>by cases h) (λ_=>?_);have KM:=hM.k;have d10:=cB fG;have hM1:=hM.aO d10;have o7d:=(o7'.aK KM id).aK d10 id;have o8d:=(o8.aK KM id).aK d10 id;refine aZ (l:=[.slice,.slice,.slice]) g (qV (g:=g) o7d) (aZ (l:=JR) (xI c) (o8d.holds λj v hj=>by rw[gK];exact hj) ?_);have o1W:cX W0 w.heap.size gM [aW bD,aW bD,aW bD]:=(((o1.aK k2 id).aK KW id).aK kW0 id);have o1x:cX fG.drew w.heap.size gM [aW bD,aW bD,aW bD]:=((((o1.aK k2 id).aK KW id).aK KM id).aK d10 id);have zz:=KW.size;have z34:=k4.size;have z3:=k3.size;refine fJ (vs:=VS g) o1x zP rfl (Yl g) λiE o13 jy _=>?_;obtain⟨W1,hM2,wZ⟩:=hM1.dJ (w0:=w) jy ⟨_,_,o1W,.inr rfl⟩ aB (dN _) (K2.tr KW);refine⟨(o8d.aK jy λe=>by have e':w5.heap.size=w.heap.size:=e;omega).holds λj v hj=>by rw[gK];exact hj,?_⟩;have b2x:cX iE w1.heap.size yJ (JU ⟨0,0,0,0,0,0⟩):=((((b2.1).aK KW id).aK KM id).aK d10 id).aK jy λe=>by have e':w1.heap.size=w.heap.size:=e;omega
 have b2W:cX W1 w1.heap.size yJ (JU ⟨0,0,0,0,0,0⟩):=by
  have h1:w1.heap.size<W1.heap.size:=by rw[wZ];have:=kW0.size;omega
  have:=hM2.b.k0.block w1.heap.size h1 id;unfold cX;rw[<-this];exact b2x
 refine fJ (vs:=JU c) b2x zO rfl (by intro u hu;simp at hu;rcases hu with rfl|rfl|rfl|rfl|rfl|rfl<;>rfl) λmX o14 ZF _=>?_;obtain⟨W2,QM,LU⟩:=hM2.b.chg ZF ⟨_,_,b2W,.inl rfl⟩;have hx14:iN (λk=>k=w1.heap.size) E.e a wa W iE ZD:=hM2.x.TZ hM2.iR;have S10lo:∀k,ZD k->w8.heap.size<=k:=hM.lo;have hM3:Made E G a wa n c w W2 mX ZD W:=⟨(hx14.ov ZF λk hk=>⟨hk,λhs=>by have:=S10lo k hs;have lM:k=w1.heap.size:=hk;omega⟩).TZ hM2.iR,QM,hM2.k.fresh ZF λk e=>by rw[show k=w1.heap.size from e];omega,hM2.ok,hM2.lo,hM2.w⟩;have o13':=o13.aK ZF λe=>by have e':w.heap.size=w1.heap.size:=e;omega
 refine aZ (l:=[.slice,.slice,.slice]) g (qV (g:=g) o13') (aZ (l:=JR) (xI c) (o14.holds λj v hj=>by rw[gK];exact hj) ?_);exact hQ g G c n E a wa W2 mX ZD W ⟨hg.nd.len,hg.ed.len⟩ ok VJ hM3 aB gQ
def ev_row{g:Nat}{ev:GP}{sl:Sl}{w:aH}{P:BS}(o:cX w g Te (vz (ev,sl)))(hr:Rd w sl 1 eU ev.Ws)(hs:∀b,sl.b=some b->P b.block/\b.block<w.heap.size)(hg:P g):RowE P w ⟨some ⟨g,0,none⟩,1,1⟩ [ev]:=
 ⟨[(ev,sl)],rfl,(dE.new xq [(ev,sl)] (by simpa using o) (by simp[maxLen])).rd xq,λb hb=>by cases hb;exact⟨hg,o.lt⟩,λx hx=>by rw[mR.1 hx];exact⟨hr,hs⟩⟩
def kv.one{G:Gr}{W:iS}{ev:GP}{W':iS}{hs:List rC}(h:kv G W [ev] W' hs):MC G W ev W' hs:=by
 generalize hl:[ev]=l at h;cases h with
 |nil=>cases hl
 | @iB QN W1 wZ ev2 W2 LU h1 h2=>
  have gL:QN=[]:=by have:=congrArg List.length hl;simp at this;exact this
  subst gL;have:ev=ev2:=by simpa using hl
  subst this;generalize he:([]:List GP)=l' at h1;cases h1 with
  |nil=>simpa using h2
  |iB a b=>simp at he
def qy{G:Gr}{W:iS}{ev:GP}{W':iS}{hs:List rC}{x:cH}{r:List cH}(h:MC G W ev W' hs)(hk:ev.kind=11)(hd:ev.d=0)(JL:0<W.ds.length)(hr:ev.Ws=x::r)(hx:x≠BitVec.ofNat 8 77):W'=W/\hs=[]:=by
 obtain⟨v',ps,ZN,rfl⟩:=(h.2.2.2 (.inr hk) ⟨aB,aB⟩).2 hk;rcases ZN with⟨hn,_⟩|⟨g,e,Es,hc⟩
 ·exact absurd ⟨aB,aB⟩ hn
 ·rcases hc with⟨_,rfl,rfl,rfl⟩|⟨hg,_⟩
  ·exact⟨by unfold iS.add;simp,rfl⟩
  ·exact absurd hg.1 (Es.nf x r hr hx)
def PC{K:iS->GP->Prop}(jL:Yr K)(hK:∀W ev,ev.kind=11->K W ev){w:aH}{Q:Bool->aH->Prop}(hQ:∀w',aL w w'->Q true w'):nO w Q:=by
 unfold nO;refine cM (cs:=[aD 3,aD 3,aD 5]) λw1 b1 k1 z1=>?_;refine cM (cs:=[aD 1,aD 2,aD 3]) λw2 b2 k2 z2=>?_;refine TopMade_i (lU eY [3,3,5] (bJ.kp b1 k2) rfl dP) (lU eY [1,2,3] b2 rfl dP) λg G c n E a wa W0 w3 S3 W hg ok VJ hM hn gQ=>?_;refine bG λw4 o4 k4 z4=>?_;refine cM (cs:=JU ⟨0,0,0,0,0,0⟩) λw5 b5 k5 z5=>?_;refine fJ (vs:=VS g) (o4.aK k5 id) zP rfl (Yl g) λw6 o6 m6 _=>?_;refine fJ (vs:=JU c) ((b5.1).aK m6 λe=>by have e':w4.heap.size=w3.heap.size:=e;omega) zO rfl (by intro u hu;simp at hu;rcases hu with rfl|rfl|rfl|rfl|rfl|rfl<;>rfl) λw7 o7 m7 _=>?_;have K7:aL w3 w7:=((k4.tr k5).fresh m6 λk (e:k=w3.heap.size)=>aB).fresh m7 λk (e:k=w4.heap.size)=>aB;have hM7:=hM.aO K7;have hn2:n=2:=aB;subst hn2;refine aF (λh=>by cases h) (λ_=>?_);refine wD DO (aY:=eU) (0:cH) rfl Sc aB (lR _) aB aB λw8 v8 k8=>?_;have e200:Int.toNat 200=200:=rfl;rw[e200] at v8 ⊢;obtain⟨s1,wZ⟩:∃s1:Sl,s1=⟨some ⟨w7.heap.size,0,none⟩,200,200⟩:=⟨_,rfl⟩;rw[<-wZ] at v8 ⊢;have QI:s1.b=some ⟨w7.heap.size,0,none⟩:=by rw[wZ]
 have s1l:s1.l=200:=by rw[wZ]
 have hM8:=hM7.aO k8;have TZ:=hM.iR;have GU:W.ds.length=2:=hM.ok.len.1;have lt3:=hM.x.lt;have z7:=K7.size;obtain⟨sp,tp,lp,dsl0,ds0,hWe,hds0⟩:=hM.w;have WW:W.v.t.bI=[]:=by rw[hWe];rfl
 have MM:W.v.dQ=0:=by rw[hWe];rfl
 have n8:∀k,BL s1 k->¬S3 k:=λk ⟨b,hb,e⟩ hs=>by rw[QI] at hb;cases hb;have:=lt3 k hs;have e':k=w7.heap.size:=e;omega
 refine bK (λcc t w9=>∃(i:Nat) (bs:List cH) (S9:BS),i<=5/\cc=5-i/\t=((i:Int),())/\iN (λ_=>False) E.e a wa W w9 S9/\Bs W0 E G S9 w9/\ZJ G (16*i) 2 W/\dE w9 Hn 1 eU s1 bs/\bs.length=200/\(∀k,BL s1 k->¬S9 k)/\aL w w9/\(∀k,S9 k->w.heap.size<=k)) 5
  ⟨0,List.replicate 200 0,S3,aB,rfl,rfl,hM8.x,hM8.b,hM.ok.mono aB,v8,List.length_replicate,n8,((k1.tr k2).tr hM.k).tr (K7.tr k8),λk hk=>jB (k1.tr k2).size (hM.lo k hk)⟩ ?_
 rintro cc t w9 ⟨i,bs,S9,hi,rfl,rfl,x9,b9,ok9,v9,FP,n9,kw9,lo9⟩ X hX;dsimp only;refine aI (λcD=>?_) (λkF=>?_)
 ·have hi5:i<5:=aB;refine⟨⟨aB,by rw[s1l];omega⟩,aA QI ?_⟩;have hw:wrap .u8 (i:Int)=(((BitVec.ofNat 8 i).toNat:Nat):Int):=by
   have:i=0\/i=1\/i=2\/i=3\/i=4:=aB;rcases this with rfl|rfl|rfl|rfl|rfl<;>rfl
  rw[hw];refine v9.store Sc QI (i:=0) aB (BitVec.ofNat 8 i) (v:=.int .u8 (((BitVec.ofNat 8 i).toNat:Nat):Int)) rfl size_Byte (oneU _) λfG v10 VQ _=>?_;have mB:∀k,k=w7.heap.size->BL s1 k:=λk e=>⟨_,QI,e⟩;have m10':aU (BL s1) w9 fG:=VQ.mono λk _ hk=>mB k hk;have xN:iN (BL s1) E.e a wa W w9 S9:=x9.TZ TZ;have sR:iN (λ_=>False) E.e a wa W fG S9:=(xN.ov m10' λk hk=>⟨hk,n9 k hk⟩).TZ TZ;have zb:W0.heap.size<=w7.heap.size:=jB hM.b.k0.size z7;have b10:Bs W0 E G S9 fG:=⟨b9.jl,b9.k0.fresh VQ λk hk=>by rw[show k=w7.heap.size from hk];exact zb,b9.lo⟩
  let ev:GP:=⟨11,0,0,0,bs.set 0 (BitVec.ofNat 8 i)⟩
  refine cM (cs:=vz (ev,s1)) λeQ b11 LR z11=>?_;have yG:=sR.kp LR;have lt9:=sR.lt;have v11:=v10.aK LR λ_ _=>id;have pQ:RowE (λk=>¬S9 k/\k<eQ.heap.size) eQ ⟨some ⟨fG.heap.size,0,none⟩,1,1⟩ [ev]:=ev_row b11.1 (v11.rd Sc) (λb hb=>⟨⟨n9 _ ⟨b,hb,rfl⟩,v11.lt hb⟩,v11.lt hb⟩) ⟨λhs=>by have:=lt9 _ hs;omega,aB⟩;refine do_i jL (λW1 e he _=>hK _ _ (by rw[mR.1 he])) yG (λ_ h=>h.elim) (b10.kp LR) ok9 (by simp;omega) dP (by rw[TZ];simp) (by rw[MM];simp) pQ (λe he=>by rw[mR.1 he];show(bs.set 0 _).length<=5000;rw[oE];omega) λrh hs W' eO ZL g12 kq=>?_;have h1:=kq.one;have hne0:bs≠[]:=λh=>by rw[h] at FP;simp at FP
  obtain⟨rfl,rfl⟩:=qy h1 rfl rfl aB (x:=BitVec.ofNat 8 i) (r:=bs.tail) (by show bs.set 0 _=_;cases bs with
   |nil=>exact absurd rfl hne0
   |cons y ys=>rfl) (by
    have:i=0\/i=1\/i=2\/i=3\/i=4:=aB;rcases this with rfl|rfl|rfl|rfl|rfl<;>decide)
  have hrl:rh.l=0:=g12.BX.len;refine aF (λh=>by rw[hrl] at h;simp at h) (λ_=>?_);rw[pI i aB];refine hX _ _ _ aB ⟨i+1,bs.set 0 (BitVec.ofNat 8 i),ZL,aB,rfl,rfl,g12.x,(b10.kp LR).up g12.up,g12.ok.mono (by simp;omega),v11.aK g12.up.m λb hb=>n9 _ ⟨b,hb,rfl⟩,by rw[oE];exact FP,λk hk hs=>?_,((kw9.fresh VQ λk hk=>by rw[show k=w7.heap.size from hk];exact jB ((k1.tr k2).tr hM.k).size z7).tr LR).fresh g12.up.m λk hk=>lo9 k hk,λk hk=>(g12.up.s k hk).elim (lo9 k) λh=>jB (jB (jB kw9.size VQ.size) LR.size) h⟩;rcases g12.up.s k hs with h|h
  ·exact n9 k hk h
  ·obtain⟨b,hb,e⟩:=hk;have:=v11.lt hb;omega
 ·refine PR x9 (aF (λ_=>PR x9 ?_) (λh=>by cases h));obtain⟨S1,hS1,_⟩:=x9.Fy;refine VLive_i hS1 ok9.v λr eQ v11 LR f11=>?_;have hrl:r.l=0:=by rw[v11.len,WW];rfl
  refine aF (λ_=>?_) (λh=>by rw[hrl] at h;simp at h);refine WBag_i (x9.kp LR) (by rw[TZ];simp) (by rw[TZ];simp) λr2 eO Dc GQ=>?_;have Bj:r2.l=0:=by rw[Dc.len,TZ];rfl
  rw[Bj];exact hQ eO ((kw9.tr LR).tr GQ)
def clsP_rng(ax ay bx mP:Int):0<=Ss ax ay bx mP/\Ss ax ay bx mP<=8:=by
 unfold Ss
 repeat' split
 all_goals omega
def Pw{G:Gr}(ok:sM G):∀(l:cR) (a:Int),(∀x∈l,G.mO x)->(0<=(G.kM a l).1/\(G.kM a l).1<=9)/\(-1<=(G.kM a l).2.1/\(G.kM a l).2.1<51)/\0<=(G.kM a l).2.2/\(G.kM a l).2.2<=40*l.length
 | [],a,_=>by
  show((0:Int)<=9/\(9:Int)<=9)/\((-1:Int)<=-1/\(-1:Int)<51)/\(0:Int)<=0/\(0:Int)<=40*(0:Nat);omega
 |e::l,a,h=>by
  have he:=h e (ly61 ..);obtain⟨i1,i2,i3⟩:=Pw ok l e λx hx=>h x (WB _ hx);have w1:=ok.w1 he;have hm:=ok.m1;have hb:0<=G.Sv a e/\G.Sv a e<=8:=clsP_rng _ _ _ _;rw[Gr.kM,mH]
  split
  ·show(0<=G.Sv a e/\G.Sv a e<=9)/\(-1<=e/\e<51)/\(0:Int)<=0/\(0:Int)<=40*((l.length+1:Nat):Int);omega
  ·show(0<=(G.kM e l).1/\(G.kM e l).1<=9)/\(-1<=(G.kM e l).2.1/\(G.kM e l).2.1<51)/\0<=G.wt e+(G.kM e l).2.2/\G.wt e+(G.kM e l).2.2<=40*((l.length+1:Nat):Int);omega
def Ey{k:Int}(h:k=4\/k=6\/k=8):tC (RL k):=by
 rcases h with rfl|rfl|rfl<;>exact⟨by simp[RL],by simp[RL],by simp[RL],by simp[RL],by simp[RL],by simp[RL]⟩
def wf_open{a n:Int}(ha:u16 a)(hn:u16 n):tC (HK a n):=
 ⟨by simp,by simpa using ha,by simpa using hn,by simp,by simp,by simp⟩
def wf_route{l:cR}{w:Int}(hl:l.length<=51)(hE:∀e∈l,u16 e)(hw:u40 w):tC (pS l w):=
 ⟨by simp[pS],by simp[pS],by simp[pS],by simp only[pS];rw[if_pos trivial];exact⟨aB,hE⟩,by simpa [pS] using hw,by simp[pS]⟩
def wf_next{h:MY}(h1:0<=h.cls/\h.cls<256)(h2:u16 (h.kL+1))(h3:u40 h.pL)(h4:u40 h.left):tC (LJ h):=
 ⟨by simp[LJ],by simp[LJ],by simp[LJ],by simp[LJ],by simp[LJ],by simp only[LJ];rw[if_pos trivial];exact⟨h1,h2,h3,h4⟩⟩
def Sm(m:gT):=tC m/\m.cF.length<=51
def hintS_wf{G:Gr}(ok:sM G){p:zZ}(hE:∀x∈p.jZ,G.mO x)(hl:p.jZ.length<=51):∃m,(kX G p).2=[m]/\Sm m:=by
 unfold kX
 split
 ·exact⟨_,rfl,Ey (.inr (.inr rfl)),cY _⟩
 ·obtain⟨h1,h2,h3⟩:=Pw ok p.jZ p.pos hE;have h4:=Ip ok hE;refine⟨_,rfl,wf_next ⟨h1.1,?_⟩ ⟨?_,?_⟩ ⟨h3.1,?_⟩ ⟨h4.1,?_⟩,cY _⟩
  ·show(G.kM p.pos p.jZ).1<256;omega
  ·show 0<=(G.kM p.pos p.jZ).2.1+1;omega
  ·show(G.kM p.pos p.jZ).2.1+1<65536;omega
  ·show(G.kM p.pos p.jZ).2.2<1099511627776;omega
  ·show G.oP p.jZ<1099511627776;omega
def ask_wf{G:Gr}(ok:sM G){c:rZ}{p:zZ}{z:zZ×List gT}(h:DX G c p z):z.2=[wI]/\Sm wI\/∃l w m,z.2=[pS l w,m]/\Sm (pS l w)/\Sm m:=by
 obtain⟨l,w,f,r,ha,rfl⟩:=h;obtain⟨f1,f2,f3,f4⟩:=ha.EM ok;unfold QV;cases f with
 |false=>exact .inl ⟨rfl,Ey (.inr (.inl rfl)),cY _⟩
 |true=>
  have h4:=Ip ok f1;obtain⟨m,hm,sm⟩:=hintS_wf ok (p:={p with jZ:=l,dI:=true}) f1 f2;have uw:=ok.m1;refine .inr ⟨l,w,m,?_,⟨wf_route f2 (λe he=>?_) ?_,f2⟩,sm⟩
  ·show pS l w::(kX G {p with jZ:=l,dI:=true}).2=_;rw[hm]
  ·have:=f1 e he;have e':0<=e/\e<(G.m:Int):=this;exact⟨e'.1,aB⟩
  ·have hw:=(f3 rfl).2;rw[hw];exact⟨h4.1,aB⟩
def Jc{m:gT}(h:Sm m):(lF m).length<=200:=by
 unfold lF;rw[fN,pT];have:=h.2
 repeat' split
 all_goals simp only[fN,pT,Pz,TW]
 all_goals omega
abbrev Xq(aM a:Int):fK:=⟨aM,2,0,a,0,[]⟩
abbrev Mw(aM k nx:Int)(b:List cH):fK:=⟨aM,1,k,nx,0,b⟩
def np{aM a:Int}(hc:u32 aM)(ha:u32 a):Wo (Xq aM a):=⟨.inr (.inl rfl),hc,by simp,by simpa using ha,by simp,by simp⟩
def Ta{aM k nx:Int}{b:List cH}(hc:u32 aM)(hk:u32 k)(hn:u32 nx)(hb:b.length<=200):Wo (Mw aM k nx b):=⟨.inl rfl,hc,by simpa using hk,by simpa using hn,by simp,by simp only;rw[if_pos trivial];omega⟩
def Kc{c:lE}(h1:c.s.iA=false)(h2:c.iG=[])(h3:c.s.n<c.s.dG)(b:List cH):c.push b=([⟨c.aM,1,c.s.next,c.t.next,0,b⟩],⟨c.s.send b,c.aM,c.t,[]⟩,0):=by
 unfold lE.push;rw[if_neg (by rw[h1];simp),if_neg (by rw[h2];simp)];have hp:({c with iG:=c.iG++[b]}:lE).sC=([⟨c.aM,1,c.s.next,c.t.next,0,b⟩],⟨c.s.send b,c.aM,c.t,[]⟩):=by
  show lE.QQ c.s c.aM c.t.next c.t (c.iG++[b])=_
  rw[h2];show lE.QQ c.s c.aM c.t.next c.t [b]=_
  rw[lE.QQ,if_pos ⟨h1,h3⟩];rfl
 rw[hp]
def WX(aM nx:Int):Int->List (List cH)->List fK
 |_,[]=>[]
 |k,b::r=>Mw aM k nx b::WX aM nx (k+1) r
def WN:TO->List (List cH)->TO
 |s,[]=>s
 |s,b::r=>WN (s.send b) r
def Cc:∀(bs:List (List cH)) (s:TO),(WN s bs).iA=s.iA/\(WN s bs).dG=s.dG/\(WN s bs).next=s.next+bs.length
 | [],s=>⟨rfl,rfl,by simp[WN]⟩
 |b::r,s=>by
  obtain⟨h1,h2,h3⟩:=Cc r (s.send b);refine⟨h1,h2,?_⟩;show(WN (s.send b) r).next=_
  rw[h3,mH];show s.next+1+(r.length:Int)=_
  omega
def Yz:∀(bs:List (List cH)) (s:TO) (aM:Int) (t:Wp),s.iA=false->s.n+bs.length<=s.dG->Dr ⟨s,aM,t,[]⟩ false bs=(WX aM t.next s.next bs,⟨WN s bs,aM,t,[]⟩,false)
 | [],s,aM,t,_,_=>rfl
 |b::r,s,aM,t,h1,h2=>by
  rw[mH] at h2;rw[Dr,Kc (c:=⟨s,aM,t,[]⟩) h1 rfl (by show s.n<s.dG;omega)];have ih:=Yz r (s.send b) aM t h1 (by show s.n+1+r.length<=s.dG;omega);show([Mw aM s.next t.next b]++(Dr ⟨s.send b,aM,t,[]⟩ false r).1,(Dr ⟨s.send b,aM,t,[]⟩ false r).2)=_
  rw[ih];rfl
structure Hl(aM nx nt lo:Int)(c:lE):Prop where
 iA:c.s.iA=false
 iG:c.iG=[]
 aM:c.aM=aM
 next:c.s.next=nx
 tn:c.t.next=nt
 tf:∀x,c.t.f x=none
 tw:0<c.t.dG
 JF:∀x,c.s.JF x->lo<=x/\x<nx
def Hl.ackd{aM nx nt lo a:Int}{c:lE}{s1:TO}(h:Hl aM nx nt lo c)(ha:a<=nx)(hr:AckR c.s a s1)(ok:s1.Ok):s1.iA=false/\s1.next=nx/\∀x,s1.JF x->a<=x/\x<nx:=by
 obtain⟨h1,h2,h3,h4,h5,h6⟩:=hr;have hn:s1.next=nx:=h2.trans h.next
 refine⟨h3.trans h.iA,hn,λx hx=>?_⟩;have cD:=h6 (by rw[h.next];omega) x hx
 cases hf:s1.f x with
 |none=>have:=ok.JF x hx;rw[hf] at this;cases this
 |some bs=>have:=(ok.len x bs hf).2.1;omega
def Hl.LH{aM nx nt lo a:Int}{c c':lE}{oO:List (List cH)}{gs:List fK}(h:Hl aM nx nt lo c)(ha:a<=nx)(hr:zE c (Xq aM a) oO gs c'):oO=[]/\gs=[]/\Hl aM nx nt a c':=by
 unfold zE at hr;rw[if_neg (by rw[h.iA];simp[h.aM])] at hr;obtain⟨s1,hs,Lt,kl⟩:=hr;rw[if_neg (by show¬(2:Int)=1;omega),h.iG] at kl;obtain⟨rfl,h1,rfl⟩:=kl;obtain⟨g1,g2,g3⟩:=h.ackd ha hs Lt;exact⟨rfl,h1,g1,rfl,h.aM,g2,h.tn,h.tf,h.tw,g3⟩
def Hl.data{aM nx nt lo a:Int}{b:List cH}{c c':lE}{oO:List (List cH)}{gs:List fK}(h:Hl aM nx nt lo c)(ha:a<=nx)(hr:zE c (Mw aM nt a b) oO gs c'):oO=[b]/\gs=[Xq aM (nt+1)]/\Hl aM nx (nt+1) a c':=by
 unfold zE at hr;rw[if_neg (by rw[h.iA];simp[h.aM])] at hr;obtain⟨s1,hs,Lt,kl⟩:=hr;rw[if_pos rfl,h.iG] at kl;obtain⟨t1,ht,h1,rfl⟩:=kl;obtain⟨g1,g2,g3⟩:=h.ackd ha hs Lt;obtain⟨e1,e2,e3⟩:=ht.one h.tf h.tn.symm h.tw;have en:t1.next=nt+1:=by rw[e2,h.tn]
 refine⟨e1,?_,g1,rfl,h.aM,g2,en,e3,?_,g3⟩
 ·rw[h1,en,h.aM];rfl
 ·show 0<t1.dG;rw[ht.dG];exact h.tw
def chn0_i{dG:Nat}{aM:Int}(hw:1<=dG):Hl aM 0 0 0 (vJ dG aM):=⟨rfl,rfl,rfl,rfl,rfl,λ_=>rfl,hw,λ_ h=>h.elim⟩
abbrev dnG(g:fK):xJ:=⟨0,false,LL g⟩
abbrev upG(g:fK):xJ:=⟨0,true,LL g⟩
def pok_dn{gs:List fK}{ps:List Pk}(h:F2 (wg (0:Int)) gs ps):(∀g∈gs,Wo g)->ps.map Oh=gs.map dnG:=by
 induction h with
 |nil=>intro _;rfl
 | @cons g p l m h1 _ ih=>intro hw;rw[Dg,Dg,ih λg hg=>hw g (WB _ hg)];obtain⟨p1,p2⟩:=p;obtain⟨e1,e2,e3⟩:=h1;have e4:=e3 (hw _ (ly61 ..));cases e1;cases e4;rfl
def gok_up{gs:List fK}{ds:List (List cH)}(h:F2 GOk gs ds):(∀g∈gs,Wo g)->ds.map (Rj 0)=gs.map upG:=by
 induction h with
 |nil=>intro _;rfl
 | @cons g p l m h1 _ ih=>intro hw;rw[Dg,Dg,ih λg hg=>hw g (WB _ hg)];obtain⟨e2,e3⟩:=h1;have e4:=e3 (hw _ (ly61 ..));cases e4;rfl
section
def recv_n{c c':lE}{g:fK}{oO:List (List cH)}{gs:List fK}(ho:c.iG=[])(hr:zE c g oO gs c'):c'.s.n<=c.s.n/\c'.s.dG=c.s.dG:=by
 unfold zE at hr
 split at hr
 ·obtain⟨_,_,rfl⟩:=hr;exact⟨dN _,rfl⟩
 ·obtain⟨s1,hs,_,kl⟩:=hr;have hw:s1.n<=c.s.n/\s1.dG=c.s.dG:=⟨hs.2.2.2.1,hs.1⟩;rw[ho] at kl
  split at kl
  ·obtain⟨t1,_,_,rfl⟩:=kl;exact hw
  ·obtain⟨_,_,rfl⟩:=kl;exact hw
def qt{V:iT}{p:Nat}{c:lE}(h:V.ch p=c):V.oY p c=V:=by
 subst h;have:(λq=>if q=p then V.ch p else V.ch q)=V.ch:=by
  funext q
  by_cases hq:q=p
  ·rw[if_pos hq,hq]
  ·rw[if_neg hq]
 show({V with ch:=λq=>if q=p then V.ch p else V.ch q}:iT)=V
 rw[this]
def setCh_at{V:iT}{p:Nat}{c:lE}:(V.oY p c).ch p=c:=if_pos rfl
def idx0{l:Nat}(h:0<l):Gz 0 l=0:=by
 unfold Gz;rw[Int.zero_tmod,Int.zero_add,Int.tmod_self];rfl
abbrev EN:GP:=⟨1,0,0,0,[]⟩
abbrev Fo(a v:Int):GP:=⟨7,0,v,a,[]⟩
abbrev evTick:GP:=⟨4,0,0,0,[]⟩
abbrev Tk(e m:Int):GP:=⟨5,0,e,m,[]⟩
section
variable{G:Gr}{W W':iS}{hs:List rC}{u:xJ}{cO:List xJ}{d:Nat}
def Ul(h:MC G W EN W' hs)(hb:W.iR=u::cO):Nb G {W with iR:=cO} u W' hs:=by
 rcases h.1 (.inl rfl) with⟨h0,_⟩|⟨u',hu,kl⟩
 ·rw[hb] at h0;cases h0
 ·have hi:Gz EN.n W.iR.length=0:=idx0 (by rw[hb];simp);rw[hi] at hu kl;rw[if_neg (show¬(1:Int)=3 by omega),if_neg (show¬(1:Int)=2 by omega)] at kl;rw[hb] at hu;cases hu;have:W.rem 0={W with iR:=cO}:=by unfold iS.rem;rw[hb];rfl
  rw[this] at kl;exact kl
def arr_dn{dv:AO}(h:Nb G W u W' hs)(hu:u.up=false)(hd:u.d=0)(JL:W.ds=[(d,dv)]):∃xC ds ms,Tt dv u.data xC ds ms/\W'=({W with ds:=[(d,xC)]}:iS).add (ds.map (Rj 0))/\hs=ms.map λm=>⟨0,xC.aM,false,m⟩:=by
 unfold Nb at h;rw[if_neg (by rw[hu];simp),hd,JL] at h;rcases h with⟨h1,_⟩|⟨d1,dv1,xC,ds,ms,h1,_,h2,h3,h4⟩
 ·exact absurd ⟨lR _,by simp⟩ h1
 ·have h1':some (d,dv)=some (d1,dv1):=h1;cases h1';exact⟨xC,ds,ms,h2,h3,h4⟩
def arr_up(h:Nb G W u W' hs)(hu:u.up=true):∃v' ps,Ia G W.v u.d u.data v' ps hs/\W'=({W with v:=v'}:iS).add (ps.map Oh):=by
 unfold Nb at h;rwa[if_pos hu] at h
def Zv{dv xC:AO}{g0:fK}{ds:List (List cH)}{ms:List gT}{p:Nat}{c:lE}(h:Tt dv (LL g0) xC ds ms)(wf:Wo g0)(hl:dv.oW=true)(hc:g0.aM=dv.aM)(hk:g0.kind≠3)(vq:dv.ch=some (p,c)):
  ∃oO gs c' MG jZ dI,zE c g0 oO gs c'/\F2 GOk gs ds/\F2 (λb x=>MDec b x.1 x.2) oO MG/\ms=UJ MG/\xC=({dv with ch:=some (p,c')}:AO).Om jZ dI:=by
 obtain⟨g,e,hg,Hv⟩:=h;obtain⟨rfl,rfl⟩:=hg.ok _ wf rfl;have Sq:Pb dv g 0:=⟨rfl,hl,hc⟩;rcases Hv with⟨hn,_⟩|⟨_,h3,_⟩|⟨_,_,p1,c1,oO,gs,c',MG,jZ,dI,h1,h2,_,h4,h5,h6,h7⟩
 ·exact absurd Sq hn
 ·exact absurd h3 hk
 ·rw[vq] at h1;cases h1;exact⟨oO,gs,c',MG,jZ,dI,h2,h4,h5,h6,h7⟩
structure Cv(V:iT)(aM:Int)(L:Nat)(i la j:Int)(d:Nat)(W:iS):Prop where
 ds:∃dv p c,W.ds=[(d,dv)]/\dv.oW=true/\dv.aM=aM/\dv.ch=some (p,c)/\Hl aM 1 i la c
 v:∃c,W.v=V.oY 0 c/\Hl aM L 1 j c
structure VI(V:iT)(aM:Int)(en:dF):Prop where
 bI:V.t.bI=[en]
 aN:en.aN=0
 cn:en.aM=aM
 c32:1<=aM/\aM<=1000001
def mz{aM:Int}(h:1<=aM/\aM<=1000001):u32 aM:=⟨aB,aB⟩
variable{V:iT}{aM:Int}{en:dF}{L:Nat}{i la j:Int}
def cv_ack(vi:VI V aM en)(h:Cv V aM L i la j d W)(hb:W.iR=dnG (Xq aM 1)::cO)(ho:MC G W EN W' hs):Cv V aM L i 1 j d W'/\W'.iR=cO/\hs=[]:=by
 obtain⟨⟨dv,p,c,JL,hl,Gh,vq,hi⟩,hv⟩:=h;obtain⟨xC,ds,ms,hr,rfl,rfl⟩:=arr_dn (Ul ho hb) rfl rfl JL;obtain⟨oO,gs,c',MG,jZ,dI,Bj,vf,hdec,rfl,rfl⟩:=Zv hr (np (mz vi.c32) ⟨aB,aB⟩) hl Gh.symm (by show(2:Int)≠3;omega) vq;obtain⟨rfl,rfl,dL⟩:=hi.LH (lR 1) Bj;cases vf;cases hdec;exact⟨⟨⟨_,p,c',rfl,hl,Gh,rfl,dL⟩,hv⟩,by simp[iS.add],rfl⟩
def cv_data{m:gT}(vi:VI V aM en)(h:Cv V aM L i la j d W)(hi0:0<=i/\i<1000)(hm:Sm m)(hb:W.iR=dnG (Mw aM i 1 (lF m))::cO)(ho:MC G W EN W' hs):Cv V aM L (i+1) 1 j d W'/\W'.iR=cO++[upG (Xq aM (i+1))]/\hs=[⟨0,aM,false,m⟩]:=by
 obtain⟨⟨dv,p,c,JL,hl,Gh,vq,hi⟩,hv⟩:=h;obtain⟨xC,ds,ms,hr,rfl,rfl⟩:=arr_dn (Ul ho hb) rfl rfl JL;have jc:=Jc hm;obtain⟨oO,gs,c',MG,jZ,dI,Bj,vf,hdec,rfl,rfl⟩:=Zv hr (Ta (mz vi.c32) ⟨aB,aB⟩ ⟨aB,aB⟩ jc) hl Gh.symm (by show(1:Int)≠3;omega) vq;obtain⟨rfl,rfl,dL⟩:=hi.data (lR 1) Bj;have Vz:=gok_up vf λg hg=>by rw[mR.1 hg];exact np (mz vi.c32) ⟨aB,aB⟩
 cases hdec with
 |cons h1 h2=>
  cases h2;obtain⟨e1,e2⟩:=h1.ok _ hm.1 rfl;refine⟨⟨⟨_,p,c',rfl,hl,Gh,rfl,dL⟩,hv⟩,?_,?_⟩
  ·show cO++ds.map (Rj 0)=_;rw[Vz];rfl
  ·unfold UJ;rw[JO,if_pos (by rw[e2];rfl)];show [(⟨0,dv.aM,false,Prod.fst _⟩:rC)]=_;rw[e1,Gh]
end
def nc(aM:Int):Nat->Nat->List xJ
 |_,0=>[]
 |j,n+1=>upG (Xq aM ((j+1:Nat):Int))::nc aM (j+1) n
def Qn(aM:Int):∀n j,nc aM j n++[upG (Xq aM ((j+n+1:Nat):Int))]=nc aM j (n+1)
 |0,j=>rfl
 |n+1,j=>by
  have e:j+(n+1)+1=j+1+n+1:=aB;rw[e];show _::(nc aM (j+1) n++_)=_::nc aM (j+1) (n+1);rw[Qn aM n (j+1)]
def Qi{aM nx:Int}:∀{k:Int} (l:List (List cH)),(WX aM nx k l).length=l.length
 |_,[]=>rfl
 |_,_::r=>by show(WX aM nx _ r).length+1=_;rw[Qi r];rfl
structure PhA(V:iT)(aM:Int)(d:Nat)(ms:List gT)(W:iS):Prop where
 cv:Cv V aM ms.length 0 0 0 d W
 iR:W.iR=dnG (Xq aM 1)::(WX aM 1 0 (ms.map lF)).map dnG
structure PhB(V:iT)(aM:Int)(d:Nat)(ms:List gT)(i:Nat)(W:iS):Prop where
 le:i<=ms.length
 cv:Cv V aM ms.length i 1 0 d W
 iR:W.iR=(WX aM 1 i ((ms.drop i).map lF)).map dnG++nc aM 0 i
structure PhC(V:iT)(aM:Int)(d:Nat)(ms:List gT)(j:Nat)(W:iS):Prop where
 le:j<=ms.length
 cv:Cv V aM ms.length ms.length 1 j d W
 iR:W.iR=nc aM j (ms.length-j)
section
variable{G:Gr}{W W':iS}{hs:List rC}{d:Nat}{V:iT}{aM:Int}{en:dF}{ms:List gT}
def PhA.step(vi:VI V aM en)(h:PhA V aM d ms W)(ho:MC G W EN W' hs):PhB V aM d ms 0 W'/\hs=[]:=by
 obtain⟨h1,h2,h3⟩:=cv_ack vi h.cv h.iR ho;exact⟨⟨cY _,h1,by rw[h2];show _=_++[];rw[rF];rfl⟩,h3⟩
def PhB.step{i:Nat}(vi:VI V aM en)(h:PhB V aM d ms i W)(hm:∀m∈ms,Sm m)(hl:ms.length<=10)(hi:i<ms.length)(ho:MC G W EN W' hs):PhB V aM d ms (i+1) W'/\∃m,ms[i]? =some m/\hs=[⟨0,aM,false,m⟩]:=by
 obtain⟨LV,hcv,Dv⟩:=h;have hd:ms.drop i=ms[i]::ms.drop (i+1):=(List.getElem_cons_drop (h:=hi)).symm;rw[hd,Dg,WX,Dg,List.cons_append] at Dv;obtain⟨h1,h2,h3⟩:=cv_data vi hcv ⟨aB,aB⟩ (hm _ (oF hi)) Dv ho;have e:((i+1:Nat):Int)=(i:Int)+1:=aB;refine⟨⟨hi,?_,?_⟩,ms[i],cL hi,h3⟩
 ·rw[e];exact h1
 ·rw[h2,sV,<-Qn,e,gK,e]
def kv.snoc_inv{l:List GP}{ev:GP}(h:kv G W (l++[ev]) W' hs):∃W1 h1 h2,kv G W l W1 h1/\MC G W1 ev W' h2/\hs=h1++h2:=by
 generalize he:l++[ev]=l' at h;cases h with
 |nil=>exact absurd he dP
 |iB h1 h2=>obtain⟨rfl,h3⟩:=List.append_inj' he rfl;cases h3;exact⟨_,_,_,h1,h2,rfl⟩
def kv.two{e1 e2:GP}(h:kv G W [e1,e2] W' hs):∃W1 h1 h2,MC G W e1 W1 h1/\MC G W1 e2 W' h2/\hs=h1++h2:=by
 obtain⟨W1,h1,h2,a,b,e⟩:=kv.snoc_inv (l:=[e1]) h;exact⟨W1,h1,h2,a.one,b,e⟩
set_option maxHeartbeats 1000000 in
def begin_run(ok:sM G){dv:AO}{a v:Int}(h:kv G W [Fo a v,EN] W' hs)(Dv:W.iR=[])(JL:W.ds=[(d,dv)])(WW:W.v.t.bI=[])(hm:1<=W.v.t.fF)(hgr:W.v.t.grI 0<dv.aM+1)(hcfg:dv.dJ.dG=W.v.dJ.dG)(QS:3<=W.v.dJ.dG)(Gh:0<=dv.aM/\dv.aM<=1000000)(ha:G.mO a)(hv:G.GR v)(jd:∀k,(W.v.lf k).getD (false:Bool)=false):
  ∃z en V,DX G (Bo W.v.u) (Xd a v) z/\PhA V (dv.aM+1) d (jD::z.2) W'/\VI V (dv.aM+1) en/\en.lH=W.v.dQ/\V.dQ=W.v.dQ/\V.u=W.v.u/\V.dJ=W.v.dJ/\V.t.grI 0=dv.aM+1/\V.t.fF=W.v.t.fF/\∀k,(V.lf k).getD (false:Bool)=false:=by
 have uw:=ok.m1;have hn1:=ok.n1;have mY:0<=a/\a<(G.m:Int):=ha;have kI:0<=v/\v<(G.n:Int):=hv;obtain⟨W1,h1,h2,ho1,Wc,_⟩:=h.two;obtain⟨d1,dv1,xC,ds,hg,vO,rfl,_⟩:=(ho1.2.2.2 (.inl rfl) ⟨lR _,by rw[JL];simp⟩).1 rfl;rw[JL] at hg;have km:some (d,dv)=some (d1,dv1):=hg;cases km;unfold Ab at vO;rw[if_pos (show(0<=a/\a<=65535)/\0<=v/\v<=65535 by omega)] at vO;obtain⟨p,b,hb,rfl,vf⟩:=vO;have sm0:Sm (HK a v):=⟨wf_open ⟨mY.1,aB⟩ ⟨kI.1,aB⟩,cY _⟩;have bW:=hb sm0.1;subst bW;have FP:=Jc sm0;rw[Kc (c:=vJ dv.dJ.dG (dv.aM+1)) rfl rfl (by show 0<dv.dJ.dG;omega)] at vf Wc;have c32:1<=dv.aM+1/\dv.aM+1<=1000001:=aB;have Vz:=gok_up vf λg hg=>by
  rw[mR.1 hg];exact Ta (aM:=dv.aM+1) (k:=0) (nx:=0) (mz c32) ⟨aB,aB⟩ ⟨aB,aB⟩ FP
 have hW1:(({W with ds:=W.ds.set (0:Int).toNat (d,(⟨dv.dJ,some (p,⟨(snd0 dv.dJ.dG).send (lF (HK a v)),dv.aM+1,tkr0 dv.dJ.dG,[]⟩),dv.aM+1,true,0,a,[],false⟩:AO))}:iS).add (ds.map (Rj 0)))=⟨W.v,[(d,⟨dv.dJ,some (p,⟨(snd0 dv.dJ.dG).send (lF (HK a v)),dv.aM+1,tkr0 dv.dJ.dG,[]⟩),dv.aM+1,true,0,a,[],false⟩)],[upG (Mw (dv.aM+1) 0 0 (lF (HK a v)))],W.row⟩:=by rw[Vz,JL];show(⟨W.v,_,W.iR++_,W.row⟩:iS)=_;rw[Dv];rfl
 have ho2':MC G ⟨W.v,[(d,⟨dv.dJ,some (p,⟨(snd0 dv.dJ.dG).send (lF (HK a v)),dv.aM+1,tkr0 dv.dJ.dG,[]⟩),dv.aM+1,true,0,a,[],false⟩)],[upG (Mw (dv.aM+1) 0 0 (lF (HK a v)))],W.row⟩ EN W' h2:=by rw[<-hW1];exact Wc
 obtain⟨v',ps,hr,rfl⟩:=arr_up (Ul ho2' rfl) rfl;have Wb:Ia G W.v 0 (LL (Mw (dv.aM+1) 0 0 (lF (HK a v)))) v' ps h2:=hr;rcases Wb with⟨hn,_⟩|⟨g,e,Es,Hv⟩
 ·exact absurd ⟨lR _,aB⟩ hn
 obtain⟨rfl,rfl⟩:=Es.ok _ (Ta (mz c32) ⟨aB,aB⟩ ⟨aB,aB⟩ FP) rfl;rcases Hv with⟨hn,_⟩|⟨_,⟨_,hB⟩|hE⟩
 ·exact absurd ⟨rfl,by show(1:Int)≠3;omega,by show 1<=dv.aM+1;omega,by show dv.aM+1<=2147483648;omega⟩ hn
 ·obtain⟨m,e,hmd,QL⟩:=hB;obtain⟨rfl,rfl⟩:=hmd.ok _ sm0.1 rfl;have tH:W.v.t.vQ 0 (dv.aM+1)=0:=by
   unfold tD.vQ;rw[if_neg (by show¬dv.aM+1<=W.v.t.grI 0;omega),if_neg (by rw[WW];simp;omega)]
  have Sq:BegC G W.v 0 (Mw (dv.aM+1) 0 0 (lF (HK a v))) (HK a v) 0:=⟨rfl,rfl,rfl,rfl,tH,ha,hv⟩;rcases QL with⟨hn,_⟩|⟨_,en,z,oO,Rr,c1,TK,Ga,e1,e2,e3,e4,hask,hrv,uv,Mn,hsaid,z2,z1,rfl,rfl⟩
  ·exact absurd Sq hn
  have e1':en.aN=0:=e1;have hask':DX G (Bo W.v.u) (Xd a v) z:=hask;have hrv':zE (vJ W.v.dJ.dG (dv.aM+1)) (Mw (dv.aM+1) 0 0 (lF (HK a v))) oO Rr c1:=hrv;obtain⟨rfl,rfl,jf⟩:=(chn0_i (dG:=W.v.dJ.dG) (aM:=dv.aM+1) aB).data (lR 0) hrv';have hcn1:=recv_n rfl hrv';have hsm:∀m∈jD::z.2,Sm m:=by
   intro m hm;rcases jQ.1 hm with rfl|hm
   ·exact⟨Ey (.inl rfl),cY _⟩
   ·rcases ask_wf ok hask' with⟨e,s⟩|⟨l,w,m2,e,s1,s2⟩<;>rw[e] at hm
    ·rw[mR.1 hm];exact s
    ·rcases jQ.1 hm with rfl|hm
     ·exact s1
     ·rw[mR.1 hm];exact s2
  obtain⟨bs,gs,c',lo,lf,ln,Ep,hbs,hsay,hps2,hchs,hlf1,hlf2⟩:=hsaid;have hbs':bs=(jD::z.2).map lF:=by
   clear hsay;have:∀{l:List gT} {bs:List (List cH)},F2 BOk l bs->(∀m∈l,Sm m)->bs=l.map lF:=by
    intro l bs h
    induction h with
    |nil=>intro _;rfl
    |cons h1 _ ih=>intro hw;rw[Dg,ih λm hm=>hw m (WB _ hm),h1 (hw _ (ly61 ..)).1]
   exact this hbs hsm
  subst hbs';obtain⟨s1,cn1,t1,ow1⟩:=c1;obtain⟨i1,i2,i3,i4,i5,i6,i7,i8⟩:=jf;cases i2;have i3':cn1=dv.aM+1:=i3;subst i3';have hsay':Dr ⟨s1,dv.aM+1,t1,[]⟩ false ((jD::z.2).map lF)=(gs,c',lo):=by
   rw[<-hsay];have q1:(((W.v.pR en (vJ W.v.dJ.dG (dv.aM+1)) z.1).oY (0:Int).toNat ⟨s1,dv.aM+1,t1,[]⟩).ch en.aN)=⟨s1,dv.aM+1,t1,[]⟩:=by rw[e1'];exact setCh_at
   rw[q1];have q2:(((W.v.pR en (vJ W.v.dJ.dG (dv.aM+1)) z.1).oY (0:Int).toNat ⟨s1,dv.aM+1,t1,[]⟩).lf en.a)=W.v.lf en.a:=rfl;rw[q2,e4]
  have hzl:(jD::z.2).length<=3:=by rw[mH];omega
  have hnw:s1.n+((jD::z.2).map lF).length<=s1.dG:=by have q1:s1.n=0:=Nat.le_zero.1 hcn1.1;have q2:s1.dG=W.v.dJ.dG:=hcn1.2;rw[q1,q2,lT];omega
  rw[Yz _ _ _ _ i1 hnw] at hsay';cases hsay';have it:t1.next=0+1:=i5
  have is:s1.next=0:=i4
  rw[it,is] at hps2;have hdn2:=pok_dn (gs:=WX (dv.aM+1) (0+1) 0 ((jD::z.2).map lF)) (ps:=Ga) (by rw[e1'] at hps2;exact hps2) (by
   have:∀(l:List gT) (k:Nat),(∀m∈l,Sm m)->k+l.length<=100->∀g∈WX (dv.aM+1) (0+1) k (l.map lF),Wo g:=by
    intro l
    induction l with
    |nil=>intro k _ _ g hg;cases hg
    |cons m r ih=>
     intro k hw hk g hg;rw[mH] at hk;rcases jQ.1 hg with rfl|hg
     ·exact Ta (mz c32) ⟨aB,aB⟩ ⟨aB,aB⟩ (Jc (hw m (ly61 ..)))
     ·refine ih (k+1) (λm hm=>hw m (WB _ hm)) aB g ?_;rw[show((k+1:Nat):Int)=(k:Int)+1 by omega];exact hg
   exact this (jD::z.2) 0 hsm aB)
  have hdn1:=pok_dn uv (by
   intro g hg;rw[mR.1 hg];exact np (aM:=dv.aM+1) (a:=0+1) (mz c32) ⟨aB,aB⟩)
  obtain⟨g1,g2,g3⟩:=Cc ((jD::z.2).map lF) s1;refine⟨z,en,v',hask',⟨⟨⟨_,p,_,rfl,rfl,rfl,rfl,?_⟩,⟨WN s1 ((jD::z.2).map lF),dv.aM+1,t1,[]⟩,?_,?_⟩,?_⟩,⟨?_,e1',e2,c32⟩,e3,?_,?_,?_,?_,?_,λk=>?_⟩
  ·exact⟨rfl,rfl,rfl,rfl,rfl,λ_=>rfl,by show 0<dv.dJ.dG;omega,λx hx=>by
    have QZ:x=0\/False:=hx;rcases QZ with rfl|QZ
    ·omega
    ·exact QZ.elim⟩
  ·show v'=v'.oY 0 _;rw[qt];rw[Ep,e1'];rfl
  ·refine⟨g1.trans i1,rfl,rfl,by rw[g3,is,lT];omega,by rw[it];rfl,i6,i7,λx hx=>?_⟩;have hids:∀(bs:List (List cH)) (s:TO),(WN s bs).JF x->s.JF x\/(s.next<=x/\x<s.next+bs.length):=by
    intro bs
    induction bs with
    |nil=>intro s h;exact .inl h
    |cons b r ih=>
     intro s h;rw[mH];rcases ih _ h with h|h
     ·have h':x=s.next\/s.JF x:=h
      rcases h' with h'|h'
      ·exact .inr aB
      ·exact .inl h'
     ·have h':s.next+1<=x/\x<s.next+1+(r.length:Int):=h
      exact .inr aB
   rcases hids _ _ hx with h|h
   ·have:=i8 x h;omega
   ·rw[is,lT] at h;omega
  ·show []++(TK++Ga).map Oh=_;rw[List.nil_append,xF,hdn1,hdn2];rfl
  ·rw[Ep];show Gy en W.v.t.bI=_;rw[WW];rfl
  ·rw[Ep];rfl
  ·rw[Ep];rfl
  ·rw[Ep];rfl
  ·have hq:v'.t.gr 0=some en.aM:=by
    rw[Ep];exact if_pos (show(0:Int)=(en.aN:Int) by rw[e1'];rfl)
   show(v'.t.gr 0).getD (0:Int)=_;rw[hq];exact e2
  ·rw[Ep];rfl
  ·rw[Ep];show((lf k).getD (false:Bool))=false
   by_cases hk:k=en.a
   ·rw[hk];exact hlf2
   ·rw[hlf1 k hk];exact jd k
 ·obtain⟨f,hf,_⟩:=hE;rw[WW] at hf;cases hf
end
end
section
section
variable{G:Gr}{W W':iS}{hs:List rC}{d:Nat}{V:iT}{aM:Int}{en:dF}{ms:List gT}
structure Qt(V:iT)(aM:Int)(en:dF)(d:Nat)(W:iS):Prop where
 ds:∃dv p c,W.ds=[(d,dv)]/\dv.oW=true/\dv.aM=aM/\dv.ch=some (p,c)/\Quiet c
 bI:W.v.t.bI=[en]
 q:qf W.v
 iR:W.iR=[]
 u:gE 0 W.v.u=[]
 gr:W.v.t.gr=V.t.gr
 dJ:W.v.dJ=V.dJ
def said_wf{c:rZ}{p:zZ}{z:zZ×List gT}(ok:sM G)(h:DX G c p z):(∀m∈jD::z.2,Sm m)/\2<=(jD::z.2).length/\(jD::z.2).length<=3:=by
 have h0:Sm jD:=⟨Ey (.inl rfl),cY _⟩;rcases ask_wf ok h with⟨e,s⟩|⟨l,w,m2,e,s1,s2⟩<;>rw[e]
 ·refine⟨λm hm=>?_,by simp,by simp⟩;rcases jQ.1 hm with rfl|hm
  ·exact h0
  ·rw[mR.1 hm];exact s
 ·refine⟨λm hm=>?_,by simp,by simp⟩;rcases jQ.1 hm with rfl|hm
  ·exact h0
  ·rcases jQ.1 hm with rfl|hm
   ·exact s1
   ·rw[mR.1 hm];exact s2
end
end
section
abbrev ev0(ev:GP):GP×Sl:=(ev,bD)
def lits_row{g:Nat}{QN:List GP}{w:aH}{P:BS}(o:cX w g Te (QN.flatMap λev=>vz (ev0 ev)))(hraw:∀ev∈QN,ev.Ws=[])(hl:QN.length<=1000)(hg:P g):RowE P w ⟨some ⟨g,0,none⟩,QN.length,QN.length⟩ QN:=by
 have hv:=(dE.new xq (QN.map ev0) (by rw[List.flatMap_map];exact o) (by rw[lT];simp only[maxLen];omega)).rd xq;rw[lT] at hv;refine⟨QN.map ev0,by rw[List.map_map];exact List.map_id _,hv,λb hb=>by cases hb;exact⟨hg,o.lt⟩,λx hx=>?_⟩;obtain⟨ev,he,rfl⟩:=mQ.1 hx;refine⟨?_,λb hb=>by cases hb⟩;show Rd w bD 1 eU ev.Ws;rw[hraw ev he];exact Rd.nil _ _ _
structure Wx(N:BS)(E:qB)(G:Gr)(a wa n:Nat)(W0 w0:aH)(B:Int)(W:iS)(w:aH)(S:BS):Prop where
 x:iN N E.e a wa W w S
 b:Bs W0 E G S w
 ok:ZJ G B n W
 k:aL w0 w
 lo:∀k,S k->w0.heap.size<=k
section
variable{N:BS}{E:qB}{G:Gr}{a wa n:Nat}{W0 w0 w w':aH}{B:Int}{W:iS}{S:BS}
def Wx.kp(h:Wx N E G a wa n W0 w0 B W w S)(k:aL w w'):Wx N E G a wa n W0 w0 B W w' S:=⟨h.x.kp k,h.b.kp k,h.ok,h.k.tr k,h.lo⟩
def Th{K:iS->GP->Prop}(jL:Yr K){QN:List GP}{Q:Sl->aH->Prop}(hK:∀W1 ev,ev∈QN->(QN.length=1->W1=W)->K W1 ev)(h:Wx N E G a wa n W0 w0 B W w S)(hN:∀k,N k->k<w.heap.size)(hraw:∀ev∈QN,ev.Ws=[])(hl:QN.length<=10)(hB:B<=100000)(FP:W.iR.length<=200000)(MM:W.v.dQ<=100000)
  (hQ:∀rh hs W' w1 w' S',aL w w1->Wx N E G a wa n W0 w0 (B+16*QN.length) W' w' S'->Up S S' w1 w'->Hh w1.heap.size S' w' rh hs->kv G W QN W' hs->W'.v.dJ=W.v.dJ->W'.iR.length<=W.iR.length+QN.length*yY W.v.dJ n->hs.length<=QN.length*20/\W'.v.dQ<=W.v.dQ+QN.length->Q rh w'):
  aG w (QN.flatMap λev=>vz (ev0 ev)).toArray Te λa4 eO=>AU (some ⟨wa,0,none⟩) ⟨(some a4),QN.length,QN.length⟩ eO Q:=by
 have lt:=h.x.lt;refine cM λw1 b1 k1 z1=>?_;have h1:=h.kp k1;refine do_i jL hK h1.x (λk hk=>pP (hN k hk) k1.size) h1.b h1.ok aB aB aB aB (lits_row b1.1 hraw aB ⟨λhs=>by have:=lt _ hs;omega,b1.1.lt⟩) (λev he=>by rw[hraw ev he];simp) λrh hs W' w' S' g kq=>?_;have z1':=h1.k.size;exact hQ rh hs W' w1 w' S' k1 ⟨g.x,h1.b.up g.up,g.ok,h1.k.fresh g.up.m h1.lo,λk hk=>(g.up.s k hk).elim (h1.lo k) λh=>aB⟩ g.up g.BX kq g.dJ g.len ⟨g.hl,g.dQ⟩
end
end
inductive Dels(G:Gr)(W:iS):Nat->iS->List gT->Prop
 |zero:Dels G W 0 W []
 |succ {i:Nat} {W1 W2:iS} {gs:List gT} {hs:List rC}:Dels G W i W1 gs->MC G W1 EN W2 hs->Dels G W (i+1) W2 (gs++hs.map λh=>h.Df)
def dels_pre{G:Gr}{V:iT}{aM:Int}{en:dF}{d:Nat}{m0 m1:gT}{tl:List gT}{W W':iS}{gs:List gT}{n:Nat}(vi:VI V aM en)(hA:PhA V aM d (m0::m1::tl) W)(hm:∀m∈m0::m1::tl,Sm m)(hl:(m0::m1::tl).length<=10)(h:Dels G W n W' gs):
  (n=0/\gs=[]/\PhA V aM d (m0::m1::tl) W')\/(n=1/\gs=[]/\PhB V aM d (m0::m1::tl) 0 W')\/(n=2/\gs=[m0]/\PhB V aM d (m0::m1::tl) 1 W')\/(3<=n/\∃cO,gs=m0::m1::cO):=by
 induction h with
 |zero=>exact .inl ⟨rfl,rfl,hA⟩
 | @succ i W1 W2 gs hs h1 ho ih=>
  rcases ih with⟨rfl,rfl,h⟩|⟨rfl,rfl,h⟩|⟨rfl,rfl,h⟩|⟨hn,cO,rfl⟩
  ·obtain⟨h',rfl⟩:=h.step vi ho;exact .inr (.inl ⟨rfl,rfl,h'⟩)
  ·obtain⟨h',m,Wy,rfl⟩:=h.step vi hm hl dP ho;have e:m0=m:=by simpa using Wy
   subst e;exact .inr (.inr (.inl ⟨rfl,rfl,h'⟩))
  ·obtain⟨h',m,Wy,rfl⟩:=h.step vi hm hl dP ho;have e:m1=m:=by simpa using Wy
   subst e;exact .inr (.inr (.inr ⟨aB,[],rfl⟩))
  ·exact .inr (.inr (.inr ⟨aB,cO++hs.map λh=>h.Df,by simp⟩))
abbrev BLs(r:Sl):BS:=λk=>∃a,r.b=some a/\k=a.block
def take_i{E:qB}{a wa:Nat}{W:iS}{w:aH}{S:BS}{r s6:Sl}{gs:List gT}{hs:List rC}{lo lo2:Nat}{Qx:(Sl×Int×Unit)->aH->Prop}(h:iN (BLs r) E.e a wa W w S)(pQ:ni lo S w r gs)(hh:Hh lo2 S w s6 hs)(Mj:lo<=lo2/\lo2<=w.heap.size)(hr:∀b,r.b=some b->b.block<lo2)(hl:gs.length+hs.length<=10000)
  (hQ:∀r' w' i,iN (BLs r') E.e a wa W w' S->ni lo S w' r' (gs++hs.map λh=>h.Df)->aU (λk=>lo<=k/\¬S k) w w'->Qx (r',i,()) w'):
  ∀X3:(Sl×Int×Unit)->aH->Prop,(∀(t6:Sl×Int×Unit) (qS:aH),(
  cond (decide (t6.2.1<(s6.l:Int)))
  ((0<=t6.2.1/\t6.2.1<(s6.l:Int))/\
  aC s6.b λa6=>
  fI [.i,.i,.i,.slice,.i,.i,.i,.i,.i] qS ((a6.add (Int.toNat t6.2.1*12)).add 3) λ(t7:Int×Int×Int×Sl×Int×Int×Int×Int×Int×Unit)=>
  aG qS #[aD t7.1,aD t7.2.1,aD t7.2.2.1,Value.slice t7.2.2.2.1.b t7.2.2.2.1.l t7.2.2.2.1.c,aD t7.2.2.2.2.1,aD t7.2.2.2.2.2.1,aD t7.2.2.2.2.2.2.1,aD t7.2.2.2.2.2.2.2.1,aD t7.2.2.2.2.2.2.2.2.1] nG λa7 CG=>
  aX prog wo wo t6.1 (Value.slice (some a7) 1 1) CG λ(s7:Sl) DR=>
  X3 (s7,(aQ (t6.2.1+(1:Int))),()) DR)
  (Qx t6 qS))->X3 t6 qS)->X3 (r,(0:Int),()) w:=by
 have RA:s6.l=hs.length:=hh.len;have hP:xK eI 12 eHd (λh:rC=>h.Df.cF) (λk=>lo2<=k/\¬S k/\k<w.heap.size) w s6 hs:=(hh.rd Yf).wk λk hk cD=>⟨hk.1,hk.2,cD⟩;refine bK (λc t w1=>∃(j:Nat) (r1:Sl),j<=hs.length/\c=hs.length-j/\t=(r1,(j:Int),())/\iN (BLs r1) E.e a wa W w1 S/\ni lo S w1 r1 (gs++(hs.take j).map λh=>h.Df)/\xK eI 12 eHd (λh:rC=>h.Df.cF) (λk=>lo2<=k/\¬S k/\k<w.heap.size) w1 s6 hs/\aU (λk=>lo<=k/\¬S k) w w1/\(∀b,r1.b=some b->b.block<lo2\/w.heap.size<=b.block)) hs.length
  ⟨0,r,cY _,rfl,rfl,h,by rw[List.take_zero,List.map_nil,rF];exact pQ,hP,aU.refl _ _,λb hb=>.inl (hr b hb)⟩ ?_
 rintro c t w1 ⟨j,r1,hj,rfl,rfl,h1,row1,hh1,m1,uu⟩ X hX;dsimp only;have z1:=m1.size;refine aI (λcD=>?_) (λkF=>?_)
 ·have rD:j<hs.length:=aB;have cI:=cL rD;have sZ:=oH rD;generalize hs[j]=x at*;obtain⟨q,sl,hq,hq2,BX,ZB⟩:=hh1.get cI;rw[dU,pI j aB];refine⟨⟨aB,cD⟩,aA hq (aZ (l:=[.i,.i,.i,.slice,.i,.i,.i,.i,.i]) (x.Df.kind,x.Df.pos,x.Df.JV,sl,x.Df.lI,x.Df.eZ.cls,x.Df.eZ.kL,x.Df.eZ.pL,x.Df.eZ.left,()) (Cf.2 (jH.2 λk v hk=>?_)) ?_)⟩
  ·have h3:(eHd (x,sl))[3+k]? =some v:=by
    have e:(eHd (x,sl)).drop 3=uA (x.Df,sl):=rfl;rw[<-ly7,e];exact hk
   have:=jH.1 hq2 (3+k) v h3;rw[gK] at this;rw[show 3+0+k=3+k by omega];exact this
  ·refine fO.xh Al RM RK aB row1 (by simp;omega) aB h1.lt x.Df (sl:=sl) BX (λb bW=>⟨by have:=(ZB b bW).1.1;omega,(ZB b bW).1.2.1,(ZB b bW).2,λb' QM e=>?_⟩) λr' w2 row2 m2 Bj=>?_
   ·have h3:=(ZB b bW).1;rcases uu b' QM with h4|h4<;>omega
   ·have x4:=h1.Rw (N':=λk=>BLs r1 k\/w1.heap.size<=k) λk hk=>hk;have x5:=(x4.ov m2 λk hk=>⟨.inl hk,λhs=>(row1.AJ k hk).2 hs⟩).Rw (N':=BLs r') λk ⟨b,bW,e⟩=>by
     rcases Bj b bW with⟨a',mY,e2⟩|h
     ·exact .inl (.inl ⟨a',mY,by rw[e,e2]⟩)
     ·exact .inl (.inr (by rw[e];exact h))
    refine hX _ _ _ aB ⟨j+1,r',rD,rfl,rfl,x5,?_,hh1.aK eHd_ne m2 λk hk _ ⟨b,bW,e⟩=>?_,m1.trans m2 λk _ hk=>?_,λb bW=>?_⟩
    ·rw[sZ,xF,<-sV];exact row2
    ·rcases uu b bW with h4|h4<;>omega
    ·exact row1.AJ k hk
    ·rcases Bj b bW with⟨a',mY,e2⟩|h
     ·rw[e2];exact uu a' mY
     ·exact .inr aB
 ·have ej:j=hs.length:=aB;subst ej;rw[oV] at row1;exact hQ r1 w1 _ h1 row1 m1
def Made.one{E:qB}{G:Gr}{a wa:Nat}{c:vU}{w0 W0 w':aH}{S':BS}{W:iS}(h:Made E G a wa 1 c w0 W0 w' S' W):∃d,W.ds=[(d,QU c)]/\W.v.t.bI=[]/\W.v.t.grI 0=0/\gE 0 W.v.u=[]/\(∀k,(W.v.lf k).getD (false:Bool)=false)/\W.v.dQ=0/\W.v.dJ=c/\W.v.u=List.replicate G.m 0:=by
 obtain⟨sp,tp,lp,GU,ds,rfl,JL⟩:=h.w;obtain⟨p,rfl⟩:∃p,ds=[p]:=by have:=congrArg List.length JL;simp at this;exact List.length_eq_one_iff.1 this
 obtain⟨d,dv⟩:=p;have e:dv=QU c:=by have:=congrArg List.head? JL;simp[List.replicate] at this;exact this
 subst e;refine⟨d,rfl,rfl,rfl,?_,λ_=>rfl,rfl,rfl,rfl⟩;have:∀(n i:Nat),gE i (List.replicate n 0)=[]:=by
  intro n
  induction n with
  |zero=>intro i;rfl
  |succ n ih=>intro i;rw[List.replicate_succ,gE,ih];rfl
 exact this G.m 0
def raw2(x y:Int):∀ev∈[Fo x y,EN],ev.Ws=[]:=by
 intro ev he;rcases jQ.1 he with rfl|he
 ·rfl
 ·rw[mR.1 he]
def ks2{T:Prop}{C:iS->Prop}{W:iS}{x y:Int}{e:GP}(he:e∈[Fo x y,EN]):KS T C W e:=by
 rcases jQ.1 he with rfl|he
 ·exact .inr (.inr (.inr (.inl rfl)))
 ·rw[mR.1 he];exact .inl rfl
def ks11{T:Prop}{C:iS->Prop}{W:iS}{e:GP}(h:e.kind=11):KS T C W e:=.inr (.inr (.inr (.inr h)))
section
def Pn{n qT high:Int}{w:aH}{Q:Bool->aH->Prop}(hQ:Q (decide (qT<=n/\n<=high)) w):tS n qT high w Q:=by
 unfold tS;refine aI (λh=>?_) (λh=>?_)
 ·have e:decide (n<=high)=decide (qT<=n/\n<=high):=by
   by_cases h2:n<=high
   ·rw[decide_eq_true h2,decide_eq_true ⟨aB,h2⟩]
   ·rw[decide_eq_false h2,decide_eq_false (λh'=>h2 h'.2)]
  rw[e];exact hQ
 ·rw[decide_eq_false (λh'=>h aB)] at hQ;exact hQ
section
variable{g:GT}{G:Gr}{w:aH}(h:JY w g G)(ok:sM G)
include h ok
theorem Ur{e:Int}{Q:Bool->aH->Prop}(hQ:∀w',aL w w'->Q (decide (G.mO e)) w'):vF g e w Q:=by
 unfold vF;have hm:=ok.m1;have hl:g.2.1.l=G.m:=h.ed.len;refine bG λw1 o1 k1 z1=>aE (k:=.slice) g.2.1 (qM o1).2.1 (Pn ?_);rw[iH (n:=(g.2.1.l:Int)-1) aB aB,hl];have:decide (0<=e/\e<=(G.m:Int)-1)=decide (G.mO e):=by have:(0<=e/\e<=(G.m:Int)-1)↔G.mO e:=⟨λh=>⟨h.1,aB⟩,λh=>⟨h.1,by have:=h.2;omega⟩⟩;simp only[this]
 rw[this];exact hQ w1 k1
theorem aAf{e:Int}{Q:Bool->aH->Prop}(hQ:∀w',aL w w'->Q (decide (G.GR e)) w'):zV g e w Q:=by
 unfold zV;have hm:=ok.n1;have hl:g.1.l=G.n:=h.nd.len;refine bG λw1 o1 k1 z1=>aE (k:=.slice) g.1 (qM o1).1 (Pn ?_);rw[iH (n:=(g.1.l:Int)-1) aB aB,hl];have:decide (0<=e/\e<=(G.n:Int)-1)=decide (G.GR e):=by have:(0<=e/\e<=(G.n:Int)-1)↔G.GR e:=⟨λh=>⟨h.1,aB⟩,λh=>⟨h.1,by have:=h.2;omega⟩⟩;simp only[this]
 rw[this];exact hQ w1 k1
omit ok in
theorem RBanned_i{a b:Int}{Q:Bool->aH->Prop}(FP:G.B.length<=1024)(hQ:∀w',aL w w'->Q (decide ((a,b)∈G.B)) w'):yP g a b w Q:=by
 unfold yP;have hl:g.2.2.1.l=G.B.length:=h.bn.len;refine bG λw1 o1 k1 z1=>?_;refine bK (λc t w2=>∃i:Nat,i<=G.B.length/\c=G.B.length-i/\t=((i:Int),())/\aL w1 w2/\(a,b)∉G.B.take i) G.B.length ⟨0,cY _,rfl,rfl,aU.refl _ _,by simp⟩ ?_;rintro c t w2 ⟨i,hi,rfl,rfl,k2,qU⟩ X hX;dsimp only;have c2:=(qM (o1.aK k2 id)).2.2;refine aE (k:=.slice) g.2.2.1 c2 (aI (λcD=>?_) (λkF=>?_))
 ·have dL:i<G.B.length:=aB;have cI:=cL dL;have gG:=oF dL;have sZ:=oH dL;generalize G.B[i]=x at*;obtain⟨p,hp,_,q1,q2⟩:=Ls (h.bn.aK (k1.tr k2) zC λ_ _=>id) cI;rw[dU];have next:x≠(a,b)->X (aQ ((i:Int)+1),()) w2:=λgQ=>by
   rw[pI i aB];refine hX _ _ _ aB ⟨i+1,dL,rfl,rfl,k2,λhm=>?_⟩;rw[sZ] at hm;rcases kK.1 hm with h1|h1
   ·exact qU h1
   ·have:(a,b)=x:=by simpa using h1
    exact gQ this.symm
  have iF:0<=(i:Int)/\(i:Int)<(g.2.2.1.l:Int):=⟨aB,cD⟩;refine aE (k:=.slice) g.2.2.1 c2 ⟨iF,aA hp (aE (k:=.i) x.1 q1 (aF (λh1=>?_) (λh1=>next λe=>?_)))⟩
  ·refine aE (k:=.slice) g.2.2.1 c2 ⟨iF,aA hp (aE (k:=.i) x.2 q2 (aF (λh2=>?_) (λh2=>next λe=>?_)))⟩
   ·have e:x=(a,b):=Prod.ext (by simpa using h1) (by simpa using h2);have:=hQ w2 (k1.tr k2);rw[decide_eq_true (by rw[<-e];exact gG)] at this;exact this
   ·rw[e] at h2;simp at h2
  ·rw[e] at h1;simp at h1
 ·have ei:i=G.B.length:=aB;subst ei;rw[oV] at qU;have:=hQ w2 (k1.tr k2);rw[decide_eq_false qU] at this;exact this
theorem RTurn_i{a b:Int}{Q:Bool->aH->Prop}(hQ:∀w',aL w w'->Q (G.sS a b) w'):FF g a b w Q:=by
 unfold FF;have hl:g.2.1.l=G.m:=h.ed.len;refine bG λw1 o1 k1 z1=>?_;have d1:aL w1 w1.drew:=aU.drew (aU.refl _ w1);have QJ:∀{wx:aH},aL w1 wx->cX wx w.heap.size gM (VS g):=λkx=>o1.aK kx id;refine aZ (l:=[.slice,.slice,.slice]) g (qV (QJ d1)) ?_;refine Ur (h.aO (k1.tr d1)) ok λw2 k2=>?_;have GQ:=d1.tr k2;refine aI (λha=>?_) (λha=>?_)
 ·refine aZ (l:=[.slice,.slice,.slice]) g (qV (QJ GQ)) ?_;refine Ur (h.aO (k1.tr GQ)) ok λw3 k3=>?_;have Di:=GQ.tr k3;have h3:=h.aO (k1.tr Di);refine aI (λhb=>?_) (λhb=>?_)
  ·have c3:=(qM (QJ Di)).2.1;obtain⟨p1,uv,_,_,t1,_⟩:=h3.kL ha;obtain⟨p2,Dk,_,f2,_,_⟩:=h3.kL hb;refine aE (k:=.slice) g.2.1 c3 ⟨⟨ha.1,by rw[hl];exact ha.2⟩,aA uv (aE (k:=.i) (G.to a) t1 ?_)⟩;refine aE (k:=.slice) g.2.1 c3 ⟨⟨hb.1,by rw[hl];exact hb.2⟩,aA Dk (aE (k:=.i) (G.fr b) f2 ?_)⟩;refine aF (λhe=>?_) (λhe=>?_)
   ·refine aZ (l:=[.slice,.slice,.slice]) g (qV (QJ Di)) ?_;refine RBanned_i h3 ok.bl λw4 k4=>?_;have:=hQ w4 (k1.tr (Di.tr k4));unfold Gr.sS at this;have vI:G.to a=G.fr b:=by simpa using he
    rw[decide_eq_true ha,decide_eq_true hb,decide_eq_true vI] at this;exact this
   ·have:=hQ w3 (k1.tr Di);have vI:¬G.to a=G.fr b:=by simpa using he
    unfold Gr.sS at this;rw[decide_eq_true ha,decide_eq_true hb,decide_eq_false vI] at this;exact this
  ·have:=hQ w3 (k1.tr Di);unfold Gr.sS at this;rw[decide_eq_true ha,decide_eq_false hb] at this;exact this
 ·have:=hQ w2 (k1.tr GQ);unfold Gr.sS at this;rw[decide_eq_false ha] at this;exact this
theorem aAg{e:Int}{Q:Sl->aH->Prop}(hQ:∀s w',dE w' dA 1 eI s (G.gR e)->aL w w'->(∀b,s.b=some b->w.heap.size<=b.block)->Q s w'):zX g e w Q:=by
 unfold zX;have hm:=ok.m1;have hl:g.2.1.l=G.m:=h.ed.len;refine bG λw1 o1 k1 z1=>?_;refine bK (λc t w2=>∃(i:Nat) (o:Sl),i<=G.m/\c=G.m-i/\t=(o,(i:Int),())/\aL w1 w2/\dE w2 dA 1 eI o ((kS i).filter λb=>G.sS e b)/\(∀b,o.b=some b->w1.heap.size<=b.block)) G.m
  ⟨0,bD,cY _,rfl,rfl,aU.refl _ _,dE.nil _ _ _ _,λb hb=>by cases hb⟩ ?_
 rintro c t w2 ⟨i,o,hi,rfl,rfl,k2,v2,f2⟩ X hX;dsimp only;have o2:=o1.aK k2 id;refine aE (k:=.slice) g.2.1 (qM o2).2.1 (aI (λcD=>?_) (λkF=>?_))
 ·have dL:i<G.m:=aB;refine aZ (l:=[.slice,.slice,.slice]) g (qV (g:=g) o2) ?_;refine RTurn_i (h.aO (k1.tr k2)) ok λw3 k3=>?_;have v3:=v2.aK k3 λ_ _=>id;have xw:(kS (i+1)).filter (λb=>G.sS e b)=(kS i).filter (λb=>G.sS e b)++if G.sS e (i:Int)=true then [(i:Int)] else []:=by
   rw[xS,TV];congr 1
   by_cases ht:G.sS e (i:Int)=true<;>simp[ht]
  have JK:((kS i).filter λb=>G.sS e b).length<=51:=by have:=xG (λb=>G.sS e b) (kS i);rw[rO] at this;omega
  rw[pI i aB];refine aF (λht=>?_) (λht=>?_)
  ·rw[if_pos ht] at xw;refine bG λw4 o4 k4 z4=>?_;have vx:dE w4 dA 1 eI ⟨some ⟨w3.heap.size,0,none⟩,1,1⟩ [(i:Int)]:=dE.new eY [(i:Int)] o4 (by simp[maxLen]);have z12:=k2.size;have z23:=k3.size;refine fH iD eY CI (v3.aK k4 λ_ _=>id) (vx.rd eY) (by simp only[mH,TW];omega) (by simp only[mH,TW];omega) λr w5 v5 m5 f5 _=>?_;refine hX _ _ _ aB ⟨i+1,r,dL,rfl,rfl,((k2.tr k3).tr k4).fresh m5 λk ⟨b,hb,e⟩=>by rw[e];exact f2 b hb,by rw[xw];exact v5,λb hb=>?_⟩;rcases f5 with h1|⟨a,ha,HC⟩
   ·exact f2 b (by rw[<-h1];exact hb)
   ·rw[hb] at ha;cases ha;omega
  ·rw[if_neg (by rw[ht];simp),rF] at xw;exact hX _ _ _ aB ⟨i+1,o,dL,rfl,rfl,k2.tr k3,by rw[xw];exact v3,f2⟩
 ·have ei:i=G.m:=aB;subst ei;exact hQ o w2 v2 (k1.tr k2) λb hb=>by have:=f2 b hb;omega
theorem RArcs_i{Q:Sl->aH->Prop}(hQ:∀s w',dE w' iI 4 dY s G.AQ->aL w w'->(∀b,s.b=some b->w.heap.size<=b.block)->Q s w'):FG g w Q:=by
 unfold FG;have hm:=ok.m1;have hl:g.2.1.l=G.m:=h.ed.len;generalize hgg:(λa:Int=>(G.gR a).map λb=>(⟨a,b,G.wt b,-1⟩:bP))=gg at*;have hG:G.AQ=(kS G.m).flatMap gg:=by rw[<-hgg];rfl
 have pre:∀a:Nat,a<=G.m->((kS a).flatMap gg).length<=2601:=λa ha=>by
  have:=NO gg 51 (kS a) λx _=>by rw[<-hgg];simp only[lT];have:=G.zF x;omega
  rw[rO] at this;have h2:a*51<=51*51:=QR _ aB;omega
 refine bG λw1 o1 k1 z1=>?_;refine bK (λc s w2=>∃(a:Nat) (o:Sl),a<=G.m/\c=G.m-a/\s=(o,(a:Int),())/\aL w1 w2/\dE w2 iI 4 dY o ((kS a).flatMap gg)/\(∀b,o.b=some b->w1.heap.size<=b.block)) G.m
  ⟨0,bD,cY _,rfl,rfl,aU.refl _ _,dE.nil _ _ _ _,λb hb=>by cases hb⟩ ?_
 rintro c s w2 ⟨a,o,ha,rfl,rfl,k2,v2,f2⟩ X hX;dsimp only;have o2:=o1.aK k2 id;refine aE (k:=.slice) g.2.1 (qM o2).2.1 (aI (λcD=>?_) (λkF=>?_))
 ·have mY:a<G.m:=aB;refine aZ (l:=[.slice,.slice,.slice]) g (qV (g:=g) o2) ?_;refine aAg (h.aO (k1.tr k2)) ok λs2 w3 v3 k3 f3=>?_;have We:=G.zF (a:Int);have hnE:∀b∈G.gR (a:Int),G.mO b:=λb hb=>(G.fS.1 (G.tM.1 hb)).2.1;have vj:gg (a:Int)=(G.gR (a:Int)).map λb=>(⟨(a:Int),b,G.wt b,-1⟩:bP):=by rw[<-hgg]
  generalize G.gR (a:Int)=l at*;have ZG:=v3.len;have uv:=pre a aB;have ne2:∀b,s2.b=some b->∀b',o.b=some b'->b.block≠b'.block:=λb hb b' bW e=>by have:=f3 b hb;have:=v2.lt bW;omega
  have jk:∀b,s2.b=some b->b.block<w3.heap.size:=λb hb=>v3.lt hb;refine bK (λc s w4=>∃(j:Nat) (o:Sl),j<=l.length/\c=l.length-j/\s=(o,(j:Int),())/\aL w1 w4/\dE w4 iI 4 dY o ((kS a).flatMap gg++(l.take j).map λb=>(⟨(a:Int),b,G.wt b,-1⟩:bP))/\(∀b,o.b=some b->w1.heap.size<=b.block)/\dE w4 dA 1 eI s2 l/\
    (∀b,s2.b=some b->∀b',o.b=some b'->b.block≠b'.block)/\w3.heap.size<=w4.heap.size) l.length
   ⟨0,o,cY _,rfl,rfl,k2.tr k3,by simpa using v2.aK k3 λ_ _=>id,f2,v3,ne2,dN _⟩ ?_
  clear v2 f2 ne2 v3;rintro c s w4 ⟨j,o,hj,rfl,rfl,k4,v4,f4,vs4,ne4,z4⟩ Y hY;dsimp only;refine aI (λWE=>?_) (λXk=>?_)
  ·have rD:j<l.length:=aB;have cI:=cL rD;have hEj:=hnE _ (oF rD);have sZ:=oH rD;generalize l[j]=b at*;have d4:aL w4 w4.drew:=aU.drew (aU.refl _ w4);have kd:=k4.tr d4;obtain⟨q,hq,hcq⟩:=bR (k:=.i) (e:=λx=>x) ((vs4.aK d4 λ_ _=>id).rd eY) cI;obtain⟨p,hp,_,_,_,cw⟩:=(h.aO (k1.tr kd)).kL hEj;rw[dU];have iF:0<=(j:Int)/\(j:Int)<(s2.l:Int):=⟨aB,WE⟩;refine⟨iF,aA hq (aE (k:=.i) b hcq (aE (k:=.slice) g.2.1 (qM (o1.aK kd id)).2.1 ⟨iF,aA hq (aE (k:=.i) b hcq ⟨⟨hEj.1,by rw[hl];exact hEj.2⟩,aA hp (aE (k:=.i) (G.wt b) cw ?_)⟩)⟩))⟩;refine bG λw6 o6 k6 z6=>?_;have v6:=(v4.aK d4 λ_ _=>id).aK k6 λ_ _=>id;have vx:dE w6 iI 4 dY ⟨some ⟨w4.drew.heap.size,0,none⟩,1,1⟩ [(⟨(a:Int),b,G.wt b,-1⟩:bP)]:=dE.new jS [_] o6 (by simp[maxLen]);have z46:=(d4.tr k6).size;have z14:=k4.size;have gL:((kS a).flatMap gg++(l.take j).map λb=>(⟨(a:Int),b,G.wt b,-1⟩:bP)).length<=3000:=by rw[fN,lT,rA];omega
   refine fH jW jS Ds v6 (vx.rd jS) (by show _+1<=_;omega) (by show(_+1)*32<=_;omega) λr w7 v7 m7 f7 _=>?_;have K7:aL w1 w7:=(kd.tr k6).fresh m7 λk ⟨b',bW,e⟩=>by rw[e];exact f4 b' bW
   have z7:=m7.size;rw[pI j aB];refine hY _ _ _ aB ⟨j+1,r,rD,rfl,rfl,K7,by rw[sZ,xF,<-sV];exact v7,λb' bW=>?_,((vs4.aK d4 λ_ _=>id).aK k6 λ_ _=>id).aK m7 λb' bW ⟨b'',WH,e⟩=>ne4 b' bW b'' WH e,λb' bW b'' WH=>?_,aB⟩
   ·rcases f7 with h1|⟨a',mY,HC⟩
    ·exact f4 b' (by rw[<-h1];exact bW)
    ·rw[bW] at mY;cases mY;omega
   ·rcases f7 with h1|⟨a',mY,HC⟩
    ·exact ne4 b' bW b'' (by rw[<-h1];exact WH)
    ·rw[WH] at mY;cases mY;have:=jk b' bW;omega
  ·have ej:j=l.length:=aB;subst ej;rw[oV,<-vj] at v4;rw[pI a aB];exact hX _ _ _ aB ⟨a+1,o,mY,rfl,rfl,k4,by rw[xS,HA];simpa using v4,f4⟩
 ·have ea:a=G.m:=aB;subst ea;exact hQ o w2 (by rw[hG];exact v2) (k1.tr k2) λb hb=>by have:=f2 b hb;omega
end
def Zz{w:aH}{s:Sl}{c:rZ}{e:Int}{Q:Bool->aH->Prop}(hr:Rd w s 1 eB c)(h0:0<=e)(hQ:Q (kV c e) w):tT s e w Q:=by
 unfold tT;have hl:=hr.len;refine aI (λ_=>aI (λcD=>?_) (λkF=>by rw[XO aB] at hQ;exact hQ)) (λh=>absurd h0 h);obtain⟨p,hp,hc⟩:=bR (k:=.bool) (e:=λx=>x) hr (PG h0 aB);exact⟨⟨h0,cD⟩,aA hp (aE (k:=.bool) (kV c e) hc hQ)⟩
end
section
def met_pos{ds:cR}{v:Nat}{d:Int}(h:ds[v]? =some d)(h0:0<=d):1<=met ds:=by
 unfold met;exact List.length_pos_of_mem (jR.2 ⟨kR h,by simpa using h0⟩)
section
variable{g:GT}{G:Gr}{W:aH}(h:JY W g G)(ok:sM G)
include h ok
theorem RTo_i{node:Int}{oQ:Sl}{c:rZ}{Q:Sl->aH->Prop}(hN:G.GR node)(hc:Rd W oQ 1 eB c)
  (hQ:∀s ds w',G.pL c node ds->dE w' dA 1 eI s ds->aL W w'->(∀b,s.b=some b->W.heap.size<=b.block)->(∀(v:Nat) x,ds[v]? =some x->-1<=x/\x<=51*BW)->Q s w'):PX g node oQ W Q:=by
 unfold PX;have hm:=ok.m1;have hl:g.2.1.l=G.m:=h.ed.len;have hN':=ok.nxOk c node;refine bG λw1 o1 k1 z1=>?_;refine aZ (l:=[.slice,.slice,.slice]) g (qV (g:=g) o1) ?_;refine aAf (h.aO k1) ok λw2 k2=>?_;rw[decide_eq_true hN];refine aF (λh=>by simp at h) (λ_=>?_);have og:∀{wx:aH},aL w1 wx->cX wx W.heap.size gM (VS g):=λkx=>o1.aK kx id;refine aE (k:=.slice) g.2.1 (qM (og k2)).2.1 ?_;rw[hl];refine wD iD (aY:=eI) (0:Int) rfl eY aB (lR _) aB aB λw3 v3 k3=>?_;simp only[dU] at v3 ⊢;have zB:w2.heap.size<w3.heap.size:=v3.lt rfl;have K3:=k2.tr k3;have z12:=k2.size;generalize hB:w2.heap.size=B at*;have hBW:w1.heap.size<=B:=aB;have fresh:∀b,(⟨some ⟨B,0,none⟩,G.m,G.m⟩:Sl).b=some b->W.heap.size<=b.block:=λb hb=>by cases hb;show W.heap.size<=B;omega
 have put:∀{wx:aH} {ds:cR} {i:Nat} {x:Int} {K:aH->Prop},aL w1 wx->dE wx dA 1 eI ⟨some ⟨B,0,none⟩,G.m,G.m⟩ ds->i<ds.length->(∀wy,dE wy dA 1 eI ⟨some ⟨B,0,none⟩,G.m,G.m⟩ (ds.set i x)->aL w1 wy->aU (λk=>k=B) wx wy->K wy)->
   aJ prog dA ((⟨B,0,none⟩:Addr).add (i*1)) (aD x) wx K:=λ{wx ds i x K} kx vx hi hK=>
  vx.store eY rfl (i:=i) hi x (v:=aD x) rfl cV (CI _) λwy vy my _=>hK wy vy (kx.fresh my λk e=>by rw[show k=B from e];exact hBW) my
 refine bK (λc' t w4=>∃(i:Nat) (ds:cR),i<=G.m/\c'=G.m-i/\t=((i:Int),())/\ds.length=G.m/\(∀j:Nat,j<i->ds[j]? =some (if G.to (j:Int)=node then 0 else-1))/\dE w4 dA 1 eI ⟨some ⟨B,0,none⟩,G.m,G.m⟩ ds/\aL w1 w4) G.m
  ⟨0,List.replicate G.m 0,cY _,rfl,rfl,by simp,λj hj=>aB,v3,K3⟩ ?_
 clear v3 K3 k3;rintro c' t w4 ⟨i,ds,hi,rfl,rfl,dl,JL,v4,k4⟩ X hX;dsimp only;refine aI (λcD=>?_) (λkF=>?_)
 ·have dL:i<G.m:=aB;have hE:G.mO (i:Int):=⟨aB,aB⟩;refine⟨⟨aB,cD⟩,aA rfl ?_⟩;rw[dU];refine put k4 v4 aB λw5 v5 k5 m5=>?_;obtain⟨p,hp,_,_,ct,_⟩:=(h.aO (k1.tr k5)).kL hE;refine aE (k:=.slice) g.2.1 (qM (og k5)).2.1 ⟨⟨aB,aB⟩,aA hp (aE (k:=.i) (G.to (i:Int)) ct ?_)⟩;rw[pI i aB];have dX:∀wy x,dE wy dA 1 eI ⟨some ⟨B,0,none⟩,G.m,G.m⟩ (ds.set i x)->aL w1 wy->x=(if G.to (i:Int)=node then 0 else-1)->X (((i+1:Nat):Int),()) wy:=λwy x vy ky hx=>by
   refine hX _ _ _ aB ⟨i+1,_,dL,rfl,rfl,by rw[oE];exact dl,λj hj=>?_,vy,ky⟩;rw[jC]
   by_cases e:i=j
   ·subst e;rw[if_pos rfl,if_pos aB,hx]
   ·rw[if_neg e];exact JL j aB
  refine aF (λhe=>?_) (λhe=>?_)
  ·have vI:G.to (i:Int)=node:=by simpa using he
   refine⟨⟨aB,aB⟩,aA rfl ?_⟩;refine put k5 v5 (by rw[oE];omega) λw6 v6 k6 m6=>?_;rw[List.set_set] at v6;exact dX w6 0 v6 k6 (by rw[if_pos vI])
  ·have vI:¬G.to (i:Int)=node:=by simpa using he
   exact dX w5 (-1) v5 k5 (by rw[if_neg vI])
 have ei:i=G.m:=aB;subst ei;have b0:Xv G.m (G.src node) (G.nx c) (λe=>e.f) ds:=by
  refine⟨dl,λv hv=>?_,λv d hd=>?_⟩
  ·have hvE:=hv.1;rw[JL v.toNat (by have:=hvE.2;omega),kc hvE.1,if_pos hv.2]
  ·have hv:=(eR.1 hd).1;have h1:=JL v aB;rw[hd] at h1;have h2:=uI h1
   by_cases e:G.to (v:Int)=node
   ·rw[if_pos e] at h2;have:=met_pos hd aB;exact .inr ⟨aB,by rw[h2];exact .nil ⟨⟨aB,aB⟩,e⟩,by simp only[BW];omega⟩
   ·rw[if_neg e] at h2;exact .inl h2
 clear hX JL kF;refine aZ (l:=[.slice,.slice,.slice]) g (qV (g:=g) (og k4)) ?_;refine RArcs_i (h.aO (k1.tr k4)) ok λs4 w7 va7 k7 f7=>?_;have v7:=v4.aK k7 λ_ _=>id;have K7:=k4.tr k7;have vt:=G.ah hm.2;have la:=va7.len;have nB:∀b,s4.b=some b->¬b.block=B:=λb hb e=>by have:=f7 b hb;have:=v4.lt (a:=⟨B,0,none⟩) rfl;have h3:B<w4.heap.size:=this;omega
 have hmemA:∀e∈G.AQ,G.sS e.f e.t=true/\e=⟨e.f,e.t,G.wt e.t,-1⟩:=λe he=>by
  obtain⟨h1,h2,h3⟩:=G.Jd.1 he;exact⟨h1,by cases e;simp_all⟩
 have hnxA:∀(b:Int) (e:bP),e∈G.nx c b->e∈G.AQ/\e.t=b/\kV c b=false:=λb e he=>by
  obtain⟨h1,h2,h3⟩:=G.CX.1 he;have ht:e.t=b:=by rw[h3]
  exact⟨G.Jd.2 ⟨by rw[ht];exact h2,by rw[h3],by rw[h3]⟩,ht,h1⟩
 generalize hA:G.AQ=A at*;refine bK (λc' t w8=>∃(ag:Bool) (ds:cR),t=(ag,())/\c'=(if ag then total ds+1 else 0)/\Xv G.m (G.src node) (G.nx c) (λe=>e.f) ds/\dE w8 dA 1 eI ⟨some ⟨B,0,none⟩,G.m,G.m⟩ ds/\aL w1 w8/\dE w8 iI 4 dY s4 A/\
   (ag=false->∀e∈A,kV c e.t=false->∀x y,ds[e.t.toNat]? =some x->0<=x->ds[e.f.toNat]? =some y->0<=y/\y<=x+e.w)) (total ds+1)
  ⟨true,ds,rfl,rfl,b0,v7,K7,va7,λh=>by cases h⟩ ?_
 clear b0 v7 K7 va7 v4 k4 k7 f7;rintro c' t w8 ⟨ag,ds,rfl,rfl,b8,v8,k8,va8,hfix⟩ Y hY;dsimp only;cases ag with
 |false=>
  refine aF (λh=>by cases h) (λ_=>?_);refine hQ _ ds w8 (b8.done hN' λv x y e hx Wv he hy=>?_) v8 (k1.tr k8) fresh (λv x hx=>?_)
  ·obtain⟨h1,h2,h3⟩:=hnxA _ e he;exact hfix rfl e h1 (by rw[h2];exact h3) x y (by rw[h2,dU];exact hx) Wv hy
  ·have jc:=ZY ds;rw[b8.len] at jc;rcases b8.val v x hx with h1|⟨h0,_,h1⟩
   ·simp only[BW];omega
   ·simp only[BW] at*;omega
 |true=>
  refine aF (λ_=>?_) (λh=>by cases h);simp only[if_true] at hY;refine bK (λc' t w9=>∃(j:Nat) (ag:Bool) (VU:cR),j<=A.length/\c'=A.length-j/\t=(ag,(j:Int),())/\Xv G.m (G.src node) (G.nx c) (λe=>e.f) VU/\dE w9 dA 1 eI ⟨some ⟨B,0,none⟩,G.m,G.m⟩ VU/\aL w1 w9/\dE w9 iI 4 dY s4 A/\(ag=true->total VU<total ds)/\
    (ag=false->VU=ds/\∀e∈A.take j,kV c e.t=false->∀x y,ds[e.t.toNat]? =some x->0<=x->ds[e.f.toNat]? =some y->0<=y/\y<=x+e.w)) A.length
   ⟨0,false,ds,cY _,rfl,rfl,b8,v8,k8,va8,(λh=>by cases h),λ_=>⟨rfl,by simp⟩⟩ ?_
  rintro c' t w9 ⟨j,ag,VU,hj,rfl,rfl,b9,v9,k9,va9,Wj,qU⟩ Z hZ;dsimp only;rw[pI j aB];refine aI (λcD=>?_) (λhge3=>?_)
  ·have rD:j<A.length:=aB;have cI:=cL rD;have gG:=oF rD;have sZ:=oH rD;generalize A[j]=e at*;obtain⟨hturn,he⟩:=hmemA e gG;obtain⟨eF,eT,_⟩:=G.fS.1 hturn;obtain⟨p,hp,hh⟩:=wC (va9.rd jS) cI;rw[dU];refine⟨⟨aB,cD⟩,aA hp (aZ (nY e) hh ?_)⟩;refine DI (x:=e) λeQ LR o11 _=>?_;have oa:=qX o11;have k9_11:=k9.tr LR;have v11:=v9.aK LR λ_ _=>id;have va11:=va9.aK LR λ_ _=>id;refine aE (k:=.i) e.t oa.2.1 ?_;refine Zz (hc.aK (k1.tr k9_11) CR λ_ _=>id) eT.1 ?_;have take1:∀e'∈A.take (j+1),e'∈A.take j\/e'=e:=λe' vI=>by
    rw[sZ] at vI;rcases kK.1 vI with h1|h1
    ·exact .inl h1
    ·exact .inr (by simpa using h1)
   have Gp:∀wz,aL eQ wz->(VU=ds->kV c e.t=false->∀x y,ds[e.t.toNat]? =some x->0<=x->ds[e.f.toNat]? =some y->0<=y/\y<=x+e.w)->Z (ag,((j+1:Nat):Int),()) wz:=λwz kz oS=>by
    refine hZ _ _ _ aB ⟨j+1,ag,VU,rD,rfl,rfl,b9,v11.aK kz λ_ _=>id,k9_11.tr kz,va11.aK kz λ_ _=>id,Wj,λhf=>⟨(qU hf).1,λe' vI=>?_⟩⟩;rcases take1 e' vI with h1|rfl
    ·exact(qU hf).2 e' h1
    ·exact oS (qU hf).1
   refine aF (λhs=>Gp _ (aU.refl _ _) λ_ hf=>by rw[hs] at hf;cases hf) (λhs=>?_);have dl9:=b9.len;obtain⟨x,hx⟩:∃x,VU[e.t.toNat]? =some x:=⟨_,cL (by have:=eT.2;omega)⟩;obtain⟨y,hy⟩:∃y,VU[e.f.toNat]? =some y:=⟨_,cL (by have:=eF.2;omega)⟩;have d11:aL eQ eQ.drew:=aU.drew (aU.refl _ eQ);have vD:=v11.aK d11 λ_ _=>id;obtain⟨px,hpx,cx⟩:=bR (k:=.i) (e:=λx=>x) (v11.rd eY) hx;obtain⟨px',hpx',cx'⟩:=bR (k:=.i) (e:=λx=>x) (vD.rd eY) hx;obtain⟨py,hpy,cy⟩:=bR (k:=.i) (e:=λx=>x) (vD.rd eY) hy;have oD:=qX (o11.aK d11 id);have It:0<=e.t/\e.t<(G.m:Int):=eT;have If:0<=e.f/\e.f<(G.m:Int):=eF;refine aE (k:=.i) e.t oa.2.1 ⟨It,aA hpx (aE (k:=.i) x cx (aI (λWv=>Gp _ (aU.refl _ _) λhd _ x' y' QZ h0 _=>?_) (λWv=>?_)))⟩
   ·rw[hd] at hx;rw[hx] at QZ;cases QZ;have:x<0:=Wv;omega
   have hx0':0<=x:=by have:¬x<0:=Wv;omega
   have xb:x<=51*BW:=by
    have jc:=ZY VU;rw[b9.len] at jc;rcases b9.val _ _ hx with h1|⟨_,_,h1⟩
    ·omega
    ·simp only[BW] at*;omega
   have hw:=ok.w1 eT;have hew:e.w=G.wt e.t:=by rw[he]
   have wxw:aQ (x+e.w)=x+e.w:=iH (by simp only[BW] at*;omega) (by simp only[BW] at*;omega);refine aE (k:=.i) e.t oD.2.1 ⟨It,aA hpx' (aE (k:=.i) x cx' (aE (k:=.i) e.w oD.2.2.1 (aE (k:=.i) e.f oD.1 ⟨If,aA hpy (aE (k:=.i) y cy ?_)⟩)))⟩;rw[wxw];have We:e∈G.nx c (e.t.toNat:Int):=by rw[kc eT.1];exact G.CX.2 ⟨hs,hturn,he⟩
   have go:(y<0\/x+e.w<y)->aJ prog dA ((⟨B,0,none⟩:Addr).add (e.f.toNat*1)) (aD (x+e.w)) eQ.drew λiE=>Z (true,((j+1:Nat):Int),()) iE:=λJS=>by
    refine put (k9_11.tr d11) vD (by have:=eF.2;omega) λwb vb kb mb=>?_;obtain⟨b13,t13⟩:=b9.lower hN' aB hx hx0' We hy JS;refine hZ _ _ _ aB ⟨j+1,true,_,rD,rfl,rfl,b13,vb,kb,(va11.aK d11 λ_ _=>id).aK mb λb hb=>nB b hb,λ_=>?_,λh=>by cases h⟩;cases ag with
    |true=>have:=Wj rfl;omega
    |false=>have:=(qU rfl).1;rw[this] at t13;rw[this];exact t13
   refine aI (λFW=>?_) (λhnn=>?_)
   ·exact aE (k:=.i) e.f oD.1 ⟨If,aA rfl (go (.inl FW))⟩
   ·refine aE (k:=.i) e.f oD.1 ⟨If,aA hpy (aE (k:=.i) y cy ?_)⟩;refine aI (λhgt=>aE (k:=.i) e.f oD.1 ⟨If,aA rfl (go (.inr hgt))⟩) (λLV=>?_);refine Gp _ d11 λhd _ x' y' QZ h0 Eo=>?_;rw[hd] at hx hy;rw[hx] at QZ;rw[hy] at Eo;cases QZ;cases Eo;omega
  ·have ej:j=A.length:=aB;subst ej;rw[oV] at qU;refine hY (if ag then total VU+1 else 0) _ _ ?_ ⟨ag,VU,rfl,rfl,b9,v9,k9,va9,λhf=>?_⟩
   ·cases ag with
    |true=>have:=Wj rfl;simp;omega
    |false=>simp
   ·rw[(qU hf).1];exact(qU hf).2
end
end
section
section
variable{g:GT}{G:Gr}{W:aH}(h:JY W g G)(ok:sM G)
include h ok
theorem RWay_i{e node:Int}{oQ:Sl}{c:rZ}{Q:Sl->Bool->aH->Prop}(hc:Rd W oQ 1 eB c)
  (qU:∀w',aL W w'->(∀d,G.GR node->¬G.gw c node e d)->Q bD false w')
  (Sd:∀d1 l s w',G.mO e->G.GR node->G.pL c node d1->G.vT c d1 e l->dE w' dA 1 eI s l->aL W w'->(∀b,s.b=some b->W.heap.size<=b.block)->Q s true w'):KR g e node oQ W Q:=by
 unfold KR;have hm:=ok.m1;have hl:g.2.1.l=G.m:=h.ed.len;refine bG λw1 o1 k1 z1=>?_;have og:∀{wx:aH},aL w1 wx->cX wx W.heap.size gM (VS g):=λkx=>o1.aK kx id;refine aZ (l:=[.slice,.slice,.slice]) g (qV (g:=g) o1) ?_;refine Ur (h.aO k1) ok λw2 k2=>aF (λhn=>qU w2 (k1.tr k2) λd _ hg=>?_) (λhy=>?_)
 ·have:=(ok.Ih hg).1;rw[decide_eq_true this] at hn;cases hn
 have hE:G.mO e:=by simpa using hy
 refine aZ (l:=[.slice,.slice,.slice]) g (qV (g:=g) (og k2)) ?_;refine aAf (h.aO (k1.tr k2)) ok λw3 k3=>aF (λhn=>qU w3 (k1.tr (k2.tr k3)) λd hN _=>?_) (λhy=>?_)
 ·rw[decide_eq_true hN] at hn;cases hn
 have hN:G.GR node:=by simpa using hy
 have Di:=k2.tr k3;refine aZ (l:=[.slice,.slice,.slice]) g (qV (g:=g) (og Di)) ?_;refine RTo_i (h.aO (k1.tr Di)) ok hN (hc.aK (k1.tr Di) CR λ_ _=>id) λs1 ds w4 hd v4 k4 f4 b4=>?_;have Dh:=Di.tr k4;have JK:=v4.len;rw[hd.1] at JK;obtain⟨p,hp,hcp⟩:=bR (k:=.i) (e:=λx=>x) (v4.rd eY) (ES hd hE);refine⟨⟨hE.1,by rw[JK];exact hE.2⟩,aA hp (aE (k:=.i) (kU ds e) hcp (aI (λFW=>qU w4 (k1.tr Dh) λd _ hg=>?_) (λuJ=>?_)))⟩
 ·have:=(ok.xO hd hg).1;omega
 have WT:0<=kU ds e:=by have:¬kU ds e<0:=uJ;omega
 obtain⟨tot,mh⟩:=ok.Ud hd (kU ds e).toNat hE WT aB;have htl:=mh.len ok;have zW:=(k1.tr Dh).size;refine bK (λc' s w5=>∃(bN:Int) (l0 l:cR) (o:Sl),c'=l.length/\s=(bN,o,())/\G.mO bN/\G.vT c ds bN l/\l0++l=tot/\aL w4 w5/\dE w5 dA 1 eI o l0/\(∀b,o.b=some b->w4.heap.size<=b.block)) tot.length
  ⟨e,[],tot,bD,rfl,rfl,hE,mh,rfl,aU.refl _ _,dE.nil _ _ _ _,λb hb=>by cases hb⟩ ?_
 rintro c' s w5 ⟨bN,l0,l,o,rfl,rfl,hcE,hlw,Sk,iv,vo,fo⟩ X hX;dsimp only;have k5:=Dh.tr iv;have v5:=v4.aK iv λ_ _=>id;obtain⟨p2,Dk,hcp2⟩:=bR (k:=.i) (e:=λx=>x) (v5.rd eY) (ES hd hcE);refine⟨⟨hcE.1,by rw[JK];exact hcE.2⟩,aA Dk (aE (k:=.i) (kU ds bN) hcp2 ?_)⟩;cases hlw with
 |nil hz=>refine aI (λh=>absurd (show kU ds bN>0 from h) aB) (λ_=>?_);rw[rF] at Sk;subst Sk;exact Sd ds _ o w5 hE hN hd mh vo (k1.tr k5) λb hb=>by have:=fo b hb;omega
 | @cons _ n l hz vO hlw=>
  refine aI (λ_=>?_) (λh=>absurd (show kU ds bN>0 from hz) h);refine aZ (l:=[.slice,.slice,.slice]) g (qV (g:=g) (og k5)) ?_;refine aAg (h.aO (k1.tr k5)) ok λs2 w6 v6 k6 f6=>?_;have K6:=k5.tr k6;have l2:=v6.len;have hnl:=G.zF bN;have hnE:∀b∈G.gR bN,G.mO b:=λb hb=>(G.fS.1 (G.tM.1 hb)).2.1;have nE:=(G.fS.1 (G.xP vO).1).2.1;have vs6:=v5.aK k6 λ_ _=>id;have vo6:=vo.aK k6 λ_ _=>id;have l0l:l0.length<=tot.length:=by rw[<-Sk];simp
  have z45:=iv.size;have z56:=k6.size;have app:∀w7,aL w6 w7->(cond (decide (n<(0:Int))) (Q bD false w7) (aG w7 #[aD n] dA λa9 w9=>aX prog yW yW o (Value.slice (some a9) 1 1) w9 λ(s4:Sl) fG=>X (n,s4,()) fG)):=λw7 k7=>by
   refine aI (λh=>absurd nE.1 (by have:n<0:=h;omega)) (λ_=>?_);refine bG λw9 o9 k9 z9=>?_;have k69:=k7.tr k9;have vx:dE w9 dA 1 eI ⟨some ⟨w7.heap.size,0,none⟩,1,1⟩ [n]:=dE.new eY [n] o9 (by simp[maxLen]);have z69:=k69.size;refine fH iD eY CI (vo6.aK k69 λ_ _=>id) (vx.rd eY) (by simp;omega) (by simp;omega) λr fG v10 VQ f10 _=>?_;refine hX l.length _ _ dP ⟨n,l0++[n],l,r,rfl,rfl,nE,hlw,by rw[<-Sk];simp,((iv.tr k6).tr k69).fresh VQ λk ⟨b,hb,e⟩=>by rw[e];exact fo b hb,v10,λb hb=>?_⟩;rcases f10 with h1|⟨a,ha,cD⟩
   ·exact fo b (by rw[<-h1];exact hb)
   ·rw[hb] at ha;cases ha;omega
  have B1:0<=bN/\bN<(s1.l:Int):=⟨hcE.1,by rw[JK];exact hcE.2⟩;refine bK (λc' s w7=>∃(i:Nat) (nx:Int),i<=(G.gR bN).length/\c'=(G.gR bN).length-i/\s=(nx,(i:Int),())/\aL w6 w7/\((nx=-1/\∀x∈(G.gR bN).take i,G.qR c ds bN x=false)\/nx=n)) (G.gR bN).length
   ⟨0,-1,cY _,rfl,rfl,aU.refl _ _,.inl ⟨rfl,by simp⟩⟩ ?_
  rintro c' s w7 ⟨i,nx,hi,rfl,rfl,k7,We⟩ Y hY;dsimp only;refine aI (λcD=>?_) (λkF=>?_)
  ·refine aI (λFW=>?_) (λhnn=>?_)
   ·obtain⟨rfl,hno'⟩:nx=-1/\∀x∈(G.gR bN).take i,G.qR c ds bN x=false:=by
     rcases We with h1|h1
     ·exact h1
     ·have:nx<0:=FW;have:=nE.1;omega
    have dL:i<(G.gR bN).length:=aB;have cI:=cL dL;have hfE:=hnE _ (oF dL);have sZ:=oH dL;generalize (G.gR bN)[i]=f at*;obtain⟨q,hq,hcq⟩:=bR (k:=.i) (e:=λx=>x) ((v6.aK k7 λ_ _=>id).rd eY) cI;rw[dU,pI i aB];have d7:aL w7 w7.drew:=aU.drew (aU.refl _ w7);have k7d:=k7.tr d7;have K7:=K6.tr k7d;refine⟨⟨aB,cD⟩,aA hq (aE (k:=.i) f hcq ?_)⟩;refine Zz (hc.aK (k1.tr K7) CR λ_ _=>id) hfE.1 ?_;have next:∀nx',((nx'=-1/\G.qR c ds bN f=false)\/nx'=n)->Y (nx',((i+1:Nat):Int),()) w7.drew:=λnx' hh=>by
     refine hY _ _ _ aB ⟨i+1,nx',dL,rfl,rfl,k7d,hh.imp (λh1=>⟨h1.1,λx hx=>?_⟩) id⟩;rw[sZ] at hx;rcases kK.1 hx with hx|hx
     ·exact hno' x hx
     ·have:x=f:=by simpa using hx
      rw[this];exact h1.2
    have vd:=(vs6.aK k7 λ_ _=>id).aK d7 λ_ _=>id;obtain⟨pf,hpf,hcf⟩:=bR (k:=.i) (e:=λx=>x) (vd.rd eY) (ES hd hfE);obtain⟨pe,Rm,hce⟩:=bR (k:=.i) (e:=λx=>x) (vd.rd eY) (ES hd hcE);obtain⟨pg,hpg,_,_,_,cw⟩:=(h.aO (k1.tr K7)).kL hfE;have bf:=b4 _ _ (ES hd hfE);have hw:=ok.w1 hfE;have Bf:0<=f/\f<(s1.l:Int):=⟨hfE.1,by rw[JK];exact hfE.2⟩;refine aF (λhs=>?_) (λhs=>?_)
    ·have GO:kV c f=false:=by simpa using hs
     have okE:G.qR c ds bN f=(decide (0<=kU ds f) && decide (kU ds f+G.wt f=kU ds bN)):=by unfold Gr.qR;rw[GO];rfl
     refine⟨Bf,aA hpf (aE (k:=.i) (kU ds f) hcf (aI (λh0=>?_) (λh0=>next _ (.inl ⟨rfl,?_⟩))))⟩
     ·refine⟨Bf,aA hpf (aE (k:=.i) (kU ds f) hcf (aE (k:=.slice) g.2.1 (qM (og K7)).2.1 ⟨⟨hfE.1,by rw[hl];exact hfE.2⟩,aA hpg (aE (k:=.i) (G.wt f) cw ⟨B1,aA Rm (aE (k:=.i) (kU ds bN) hce ?_)⟩)⟩))⟩;rw[iH (n:=kU ds f+G.wt f) (by simp only[BW] at*;omega) (by simp only[BW] at*;omega)];refine aF (λheq=>next _ (.inr ?_)) (λgQ=>next _ (.inl ⟨rfl,?_⟩))
      ·have Sj:kU ds f+G.wt f=kU ds bN:=by simpa using heq
       have oS:G.qR c ds bN f=true:=by rw[okE];simp only[tG,decide_eq_true_eq];exact⟨h0,Sj⟩
       have:=Uh hno' cI oS;unfold Gr.RG at vO;rw[vO] at this;exact(uI this).symm
      ·have ZO:¬kU ds f+G.wt f=kU ds bN:=by simpa using gQ
       rw[okE];simp only[Bool.and_eq_false_iff,decide_eq_false_iff_not];exact .inr ZO
     ·have vw:¬kU ds f>=0:=h0;rw[okE];simp only[Bool.and_eq_false_iff,decide_eq_false_iff_not];exact .inl aB
    ·have GO:kV c f=true:=by simpa using hs
     exact next _ (.inl ⟨rfl,by unfold Gr.qR;rw[GO];rfl⟩)
   ·rcases We with⟨h1,_⟩|rfl
    ·exact absurd (show nx<0 by omega) hnn
    ·exact app w7 k7
  ·rcases We with⟨rfl,hno'⟩|rfl
   ·have ei:i=(G.gR bN).length:=aB;subst ei;rw[oV] at hno';unfold Gr.RG at vO;rw[List.find?_eq_none.2 λx hx=>by rw[hno' x hx];simp] at vO;cases vO
   ·exact app w7 k7
end
end
section
section
variable{g:GT}{G:Gr}{W:aH}(h:JY W g G)(ok:sM G)
include h ok
end
end
def Ints_i{a b:Sl}{xs ys:cR}{w:aH}{Q:Bool->aH->Prop}(ha:Rd w a 1 eI xs)(hb:Rd w b 1 eI ys)(hl:xs.length<1000000)(hQ:∀(r:Bool) w',aL w w'->(r=true↔xs=ys)->Q r w'):BN a b w Q:=by
 unfold BN;have la:=ha.len;have lb:=hb.len;refine aF (λh=>?_) (λh=>?_)
 ·refine hQ false w (aU.refl _ _) ⟨λh=>(by cases h),λe=>?_⟩;rw[la,lb,e] at h;simp at h
 ·have vu:xs.length=ys.length:=by simp at h;omega
  refine bK (λc t w1=>∃(i:Nat),i<=xs.length/\c=xs.length-i/\t=((i:Int),())/\aL w w1/\∀j,j<i->xs[j]? =ys[j]?) xs.length ⟨0,cY _,rfl,rfl,aU.refl _ _,λj hj=>aB⟩ ?_;rintro c t w1 ⟨i,hi,rfl,rfl,k1,he⟩ X hX;dsimp only;refine aI (λcD=>?_) (λkF=>?_)
  ·have hx:=cL (show i<xs.length by omega);have hy:=cL (show i<ys.length by omega);have d1:aL w1 w1.drew:=aU.drew (aU.refl _ w1);have K1:=k1.tr d1;obtain⟨p,hp,hc⟩:=bR (k:=.i) (e:=λx=>x) (ha.aK K1 cU λ_ _=>id) hx;obtain⟨p',hp',Lx⟩:=bR (k:=.i) (e:=λx=>x) (hb.aK K1 cU λ_ _=>id) hy;rw[dU];refine⟨⟨aB,cD⟩,aA hp (aE (k:=.i) xs[i] hc ⟨⟨aB,aB⟩,aA hp' (aE (k:=.i) ys[i] Lx ?_)⟩)⟩;refine aF (λgQ=>?_) (λheq=>?_)
   ·refine hQ false _ K1 ⟨λh=>(by cases h),λe=>?_⟩;subst e;exact absurd gQ (by show¬((xs[i] !=xs[i])=true);simp)
   ·have Sj:xs[i]=ys[i]:=by
     have:(xs[i] !=ys[i])=false:=heq;simpa using this
    rw[iH aB aB];refine hX (xs.length-(i+1)) _ _ aB ⟨i+1,aB,rfl,rfl,K1,λj hj=>?_⟩;rcases Nat.lt_or_ge j i with h|h
    ·exact he j h
    ·have:j=i:=aB;subst this;rw[hx,hy,Sj]
  ·refine hQ true w1 k1 ⟨λ_=>?_,λ_=>rfl⟩;apply yV;intro j
   by_cases hj:j<xs.length
   ·exact he j aB
   ·rw[List.getElem?_eq_none aB,List.getElem?_eq_none aB]
def shut_one{G:Gr}{W W':iS}{hs:List rC}{e m:Int}(h:MC G W (Tk e m) W' hs)(WW:W.v.t.bI=[])(Dv:W.iR=[])(he:0<=e/\e<W.v.u.length)(hm:1<=m/\m<=1048576):W'={W with v:=W.v.Gq (W.v.u.set e.toNat (W.v.dQ+m))}:=by
 obtain⟨v',ps,vO,hnil,rfl,_⟩:=h.2.2.1 rfl;obtain⟨rfl,rfl⟩:=hnil WW;have:W.v.NH (Tk e m).n (Tk e m).m=W.v.u.set e.toNat (W.v.dQ+m):=by unfold iT.NH;rw[if_pos ⟨he.1,he.2,hm.1,hm.2⟩]
 rw[this];show(⟨_,W.ds,W.iR++[],W.row⟩:iS)=_;rw[rF]
def FX(t:Int)(U:cR):cR:=U.map λx=>if x>t then x else 0
def cutU_len(t:Int)(U:cR):(FX t U).length=U.length:=lT _
def cut_zero{U:cR}(h:∀x∈U,0<=x):FX 0 U=U:=by
 unfold FX
 conv=>rhs;rw[<-List.map_id U]
 refine List.map_congr_left λx hx=>?_;have:=h x hx;show(if x>0 then x else 0)=x
 split<;>omega
def cut_step{t:Int}(ht:0<=t)(U:cR):FV (t+1) (FX t U) (gE 0 (FX t U))=FX (t+1) U:=by
 have h:=lapU_all (t+1) (FX t U) [];rw[List.nil_append,List.nil_append] at h;show FV _ _ (gE (List.length ([]:cR)) _)=_;rw[h];unfold FX;rw[List.map_map];refine List.map_congr_left λx _=>?_;show(if(if x>t then x else 0)>0/\(if x>t then x else 0)<=t+1 then 0 else(if x>t then x else 0))=if x>t+1 then x else 0
 by_cases h1:x>t
 ·rw[if_pos h1]
  by_cases h2:x>t+1
  ·rw[if_pos h2,if_neg aB]
  ·rw[if_neg h2,if_pos aB]
 ·rw[if_neg h1,if_neg aB,if_neg aB]
def cut_mask{t:Int}(ht:0<=t)(U:cR):Bo (FX t U)=U.map λx=>decide (x>t):=by
 show(U.map _).map _=_;rw[List.map_map];refine List.map_congr_left λx _=>?_;show decide ((if x>t then x else 0)>0)=decide (x>t)
 by_cases h:x>t
 ·rw[if_pos h,decide_eq_true h,decide_eq_true aB]
 ·rw[if_neg h,decide_eq_false h,decide_eq_false aB]
def opn_yes{t x:Int}{U:cR}{k:Nat}(h:U[k]? =some x)(hx:x>t)(ht:0<=t):gE k (FX t (U.drop k))=((k:Int),x)::gE (k+1) (FX t (U.drop (k+1))):=by
 obtain⟨hk,rfl⟩:=eR.1 h;rw[ly4 hk];show gE k ((if U[k]>t then U[k] else 0)::_)=_
 rw[if_pos hx,gE,if_pos aB]
 rfl
def opn_no{t x:Int}{U:cR}{k:Nat}(h:U[k]? =some x)(hx:¬x>t):gE k (FX t (U.drop k))=gE (k+1) (FX t (U.drop (k+1))):=by
 obtain⟨hk,rfl⟩:=eR.1 h;rw[ly4 hk];show gE k ((if U[k]>t then U[k] else 0)::_)=_
 rw[if_neg hx,gE,if_neg aB]
 rfl
def drop_one{α:Type}{X Y:List α}{n:Nat}{p:α}(h:X.drop n=p::Y):X[n]? =some p/\X.drop (n+1)=Y/\n<X.length:=by
 have hn:n<X.length:=by
  rcases Nat.lt_or_ge n X.length with h1|h1
  ·exact h1
  ·rw[List.drop_of_length_le h1] at h;cases h
 rw[ly4 hn] at h;injection h with h1 h2;exact⟨by rw[cL hn,h1],h2,hn⟩
def tick_one{G:Gr}{W W':iS}{hs:List rC}{d:Nat}{dv:AO}(h:MC G W evTick W' hs)(Dv:W.iR=[])(JL:W.ds=[(d,dv)])(hl:dv.oW=false)(Ha:W.v.t.bI=[])(jd:∀k,(W.v.lf k).getD (false:Bool)=false):
  W'.iR=[]/\W'.ds=[(d,dv)]/\W'.v.t.bI=[]/\W'.v.t.gr=W.v.t.gr/\(∀k,(W'.v.lf k).getD (false:Bool)=false)/\W'.v.dQ=W.v.dQ+1/\W'.v.dJ=W.v.dJ/\W'.v.u=FV (W.v.dQ+1) W.v.u (gE 0 W.v.u):=by
 obtain⟨⟨ps,ups,tv,hb,Wg,hd,hu⟩,rfl⟩:=h.2.1 rfl;obtain⟨q1,q2,q3,_,_,q6⟩:=tv.q ⟨λe he=>(by rw[Ha] at he;cases he),jd⟩ (.inr Ha);rw[Ha] at q1 q3;cases q3;have eu:ups=[]:=hu λi d1 dv1 xC ds hi hr=>by
  unfold Im at hr;have e:(d1,dv1)=(d,dv):=by have:=kR hi;rw[JL] at this;exact mR.1 this
  cases e;rw[if_neg (by rw[hl];simp)] at hr;exact hr.2
 subst eu;have e1:W'.ds=[(d,dv)]:=by obtain⟨xC,ds,h1,h2⟩:=hd 0 d dv (by rw[JL,List.getElem?_cons_zero]);unfold Im at h2;rw[if_neg (by rw[hl];simp)] at h2;rw[h2.1] at h1;rw[JL] at Wg;obtain⟨x,hx⟩:=List.length_eq_one_iff.1 Wg;rw[hx,List.getElem?_cons_zero] at h1;cases h1;exact hx
 exact⟨by rw[hb,Dv];rfl,e1,q1,q2,q6,tv.dQ,tv.dJ,tv.u⟩
def yL:Yr (KS True Nob):=oneS_i λ_=>tick0_ok
structure Sit(d:Nat)(c:vU)(W:iS)(t:Int)(U:cR):Prop where
 iR:W.iR=[]
 ds:W.ds=[(d,QU c)]
 VT:W.v.t.bI=[]
 gr:W.v.t.grI 0=0
 lf:∀k,(W.v.lf k).getD (false:Bool)=false
 dQ:W.v.dQ=t
 dJ:W.v.dJ=c
 u:W.v.u=U
structure Unt(ub m:Nat)(U:cR)(w:aH)(S:BS):Prop where
 v:dE w dA 1 eI ⟨some ⟨ub,0,none⟩,m,m⟩ U
 l:U.length=m
 r:∀x∈U,0<=x/\x<=30
 n:¬S ub
 lt:ub<w.heap.size
def Unt.up{ub m:Nat}{U:cR}{w w1 w':aH}{S S':BS}(h:Unt ub m U w S)(k:aL w w1)(u:Up S S' w1 w'):Unt ub m U w' S':=
 have z:=k.size;have z':=u.m.size
 ⟨(h.v.aK k λ_ _=>id).aK u.m λa ha=>by cases ha;exact h.n,h.l,h.r,λhs=>(u.s _ hs).elim h.n λhh=>by have:=h.lt;omega,by have:=h.lt;omega⟩
def Unt.kp{ub m:Nat}{U:cR}{w w1:aH}{S:BS}(h:Unt ub m U w S)(k:aL w w1):Unt ub m U w1 S:=h.up k (Up.refl _ _)
def Sit.nob{d:Nat}{c:vU}{W:iS}{t:Int}{U:cR}(h:Sit d c W t U):Nob W:=⟨h.VT,λp hp=>by rw[h.ds] at hp;rw[mR.1 hp];rfl⟩
def Told_i{sb s6:Sl}{m:Nat}{t:Int}{U:cR}{w:aH}{X2:aH->Prop}{QF:aH->Prop}(hu:Rd w sb 1 eI U)(hx:Rd w s6 2 eSh (gE 0 (FX t U)))(ht:0<=t)(hm:U.length=m)(h51:m<=51)(hsb:sb.l=m)(hX2:∀w',aL w w'->X2 w'):
  ∀X3:(Int×Int×Unit)->aH->Prop,(∀(t5:Int×Int×Unit) (vP:aH),(
  cond (decide (t5.2.1<(sb.l:Int)))
  ((0<=t5.2.1/\t5.2.1<(sb.l:Int))/\
  aC sb.b λa7=>
  ZA .i vP (a7.add (Int.toNat t5.2.1*1)) λ(x6:Int)=>
  cond (decide (x6>t))
  (cond (decide (t5.1>=(s6.l:Int)))
  (QF vP.drew)
  ((0<=t5.1/\t5.1<(s6.l:Int))/\
  aC s6.b λa8=>
  fI [.i,.i] vP.drew (a8.add (Int.toNat t5.1*2)) λ(t6:Int×Int×Unit)=>
  (0<=t5.2.1/\t5.2.1<(sb.l:Int))/\
  aC sb.b λa9=>
  ZA .i vP.drew (a9.add (Int.toNat t5.2.1*1)) λ(x7:Int)=>
  cond (!((t6.1==t5.2.1) && ((t6.2.1==x7) && true)))
  (QF vP.drew)
  (X3 ((aQ (t5.1+(1:Int))),(aQ (t5.2.1+(1:Int))),()) vP.drew)))
  (X3 (t5.1,(aQ (t5.2.1+(1:Int))),()) vP))
  (cond (t5.1 !=(s6.l:Int))
  (QF vP)
  (X2 vP)))->X3 t5 vP)->
  X3 ((0:Int),(0:Int),()) w:=by
 have ZG:=hx.len;have vt:=PQ (FX t U) 0;rw[cutU_len] at vt;refine bK (λcc t5 w1=>∃(k n:Nat),k<=m/\cc=m-k/\t5=((n:Int),(k:Int),())/\(gE 0 (FX t U)).drop n=gE k (FX t (U.drop k))/\n<=(gE 0 (FX t U)).length/\aL w w1) m
  ⟨0,0,cY _,rfl,rfl,rfl,cY _,aU.refl _ _⟩ ?_
 rintro cc t5 w1 ⟨k,n,hk,rfl,rfl,hdr,hn,k1⟩ X hX;dsimp only;have kd:=k1.tr (cB w1);refine aI (λcD=>?_) (λkF=>?_)
 ·have lM:k<U.length:=aB;have cI:=cL lM;generalize U[k]=x at*;obtain⟨p,hp,hc⟩:=bR (k:=.i) (e:=λx=>x) (hu.aK k1 cU λ_ _=>id) cI;obtain⟨p',hp',Lx⟩:=bR (k:=.i) (e:=λx=>x) (hu.aK kd cU λ_ _=>id) cI;rw[dU,pI k aB];have bk:0<=(k:Int)/\(k:Int)<(sb.l:Int):=⟨aB,cD⟩;refine⟨bk,aA hp (aE (k:=.i) x hc (aI (λhgt=>?_) (λLV=>?_)))⟩
  ·rw[opn_yes cI hgt ht] at hdr;obtain⟨hxn,hdr',hnl⟩:=drop_one hdr;refine aI (λh=>aB) (λWE=>?_);obtain⟨a8,ha8,hh8,_⟩:=Ls (hx.aK kd zC λ_ _=>id) hxn;rw[dU,pI n aB];refine⟨⟨aB,aB⟩,aA ha8 (aZ (l:=[.i,.i]) ((k:Int),x,()) hh8 ⟨bk,aA hp' (aE (k:=.i) x Lx (aF (λh=>by simp at h) (λ_=>?_)))⟩)⟩;exact hX _ _ _ aB ⟨k+1,n+1,aB,rfl,rfl,hdr',hnl,kd⟩
  ·rw[opn_no cI LV] at hdr;exact hX _ _ _ aB ⟨k+1,n,aB,rfl,rfl,hdr,hn,k1⟩
 ·have ek:k=m:=aB;subst ek;rw[<-hm,List.drop_length] at hdr;have hnn:(gE 0 (FX t U)).length<=n:=List.drop_eq_nil_iff.1 hdr;refine aF (λh=>?_) (λ_=>hX2 w1 k1);have e:n=s6.l:=aB;rw[e] at h;simp at h
set_option maxHeartbeats 4000000 in
def su{l oQ:Sl}{xs:cR}{ss:List (Int×Int)}{oX at_ node:Int}{W:aH}{Q:Bool->aH->Prop}(hl:Rd W l 1 eI xs)(hs:Rd W oQ 2 eP ss)(hQ:∀w',aL W w'->Q true w'):wR l oQ oX at_ node W Q:=by
 unfold wR;have RA:=hs.len;refine aI (λ_=>PC yL (λ_ _=>ks11) hQ) (λ_=>aI (λ_=>PC yL (λ_ _=>ks11) hQ) (λZI=>aI (λ_=>PC yL (λ_ _=>ks11) hQ) (λht0=>aI (λ_=>PC yL (λ_ _=>ks11) hQ) (λht40=>?_))));obtain⟨T,hT⟩:∃T:Nat,oX=(T:Int):=⟨oX.toNat,aB⟩;subst hT;refine Town_i hl λg G w3 hg ok hn16 k3=>?_;refine bG λw4 o4 k4 z4=>?_;refine fJ (vs:=VS g) o4 zP rfl (Yl g) λw6 o6 m5 _=>?_;have K5:aL w3 w6:=k4.fresh m5 λk (e:k=w3.heap.size)=>aB;have hg6:=hg.aO K5;have K6:=k3.tr K5;have Of:=hs.aK K6 zC λ_ _=>id;refine aZ (l:=[.slice,.slice,.slice]) g (qV (g:=g) o6) ?_;have VJ:(⟨1,16,0,900,900,1000⟩:vU).Ok:=⟨⟨dN _,by show 1<=16;omega⟩,⟨by show 1<=16;omega,by show 16<=16;omega⟩,by show(0:Int)<=0/\(0:Int)<=20;omega,by show(1:Int)<=900/\(900:Int)<=1000;omega,by show(900:Int)<=900/\(900:Int)<=1000;omega,by show(1:Int)<=1000/\(1000:Int)<=1000;omega⟩;obtain⟨c,hc⟩:∃c:vU,c=⟨1,16,0,900,900,1000⟩:=⟨_,rfl⟩;rw[<-hc] at VJ;have hcw:c.dG=16:=by rw[hc]
 have hmu:yY c 1<=2000:=by rw[hc];decide
 have htup:((1:Int),(16:Int),(0:Int),(900:Int),(900:Int),(1000:Int),())=xI c:=by rw[hc];rfl
 rw[htup];refine NewW_i (g:=g) (c:=c) (n:=1) hg6 ok VJ ⟨aB,aB⟩ λE a wa W0 w7 S7 Wd hM kW0=>aF (λh=>by cases h) (λ_=>aF (λh=>by cases h) (λ_=>PR hM.x (aF (λh=>by cases h) (λ_=>?_))));obtain⟨d,JL,WW,hgr,hu0,jd,hnow0,hcfg0,hu00⟩:=hM.one;have uw:=ok.m1;have hn1:=ok.n1;have gl:g.2.1.l=G.m:=hg.ed.len;have gn:g.1.l=G.n:=hg.nd.len;have KM:=hM.k;have zub:w6.heap.size<=w7.heap.size:=KM.size;have zW0:W0.heap.size<=w7.heap.size:=hM.b.k0.size;have TZ:=hM.iR;refine aE (k:=.slice) g.2.1 (qM (o6.aK KM id)).2.1 ?_;rw[gl];refine wD iD (aY:=eI) 0 rfl eY aB (lR _) aB aB λw8 v8 k8=>?_;simp only[dU] at v8 ⊢;have z8:w7.heap.size<w8.heap.size:=v8.lt rfl;have Wv:Wx (λk=>k=w7.heap.size) E G a wa 1 W0 w6 0 Wd w8 S7:=⟨(hM.x.Rw λk e=>.inr (by rw[e];exact dN _)).kp k8,hM.b.kp k8,hM.ok,KM.tr k8,hM.lo⟩;have n7:¬S7 w7.heap.size:=λh=>by have:=hM.x.lt _ h;omega
 generalize hub:w7.heap.size=ub at*;have un0:Unt ub G.m (List.replicate G.m 0) w8 S7:=⟨v8,List.length_replicate,λx hx=>by rw[List.eq_of_mem_replicate hx];omega,n7,z8⟩;refine bK (λcc t w=>∃(i:Nat) (B:Int) (Wi:iS) (S:BS) (U:cR),i<=ss.length/\cc=ss.length-i/\t=((i:Int),())/\Wx (λk=>k=ub) E G a wa 1 W0 w6 B Wi w S/\(0<=B/\B<=16*i)/\Sit d c Wi 0 U/\Unt ub G.m U w S) ss.length
  ⟨0,0,Wd,S7,_,cY _,rfl,rfl,Wv,aB,⟨TZ,JL,WW,hgr,jd,hnow0,hcfg0,hu00⟩,un0⟩ ?_
 rintro cc t w ⟨i,B,Wi,S,U,hi,rfl,rfl,hx,hB,BV,un⟩ X1 hX1;dsimp only;have kd:=cB w;refine aI (λcD=>?_) (λkF=>?_)
 ·have dL:i<ss.length:=aB;have cI:=cL dL;generalize ss[i]=x at*;have kk:=hx.k.tr kd;obtain⟨p,hp,_,c0,c1⟩:=Ls (Of.aK kk zC λ_ _=>id) cI;rw[dU,pI i aB];have bi:0<=(i:Int)/\(i:Int)<(oQ.l:Int):=⟨aB,cD⟩;refine⟨bi,aA hp ⟨⟨aB,aB⟩,aE (k:=.i) x.1 c0 (aE (k:=.slice) g.2.1 (qM (o6.aK kk id)).2.1 ?_)⟩⟩;rw[gl];refine⟨bi,aA hp ⟨⟨aB,aB⟩,aE (k:=.i) x.2 c1 (XK aB aB ⟨c1,XK aB aB ?_⟩)⟩⟩;have h0:=Int.emod_nonneg x.1 (show(G.m:Int)≠0 by omega);have h1:=Int.emod_lt_of_pos x.1 (show(0:Int)<G.m by omega);have h2:=Int.emod_nonneg x.2 (show(30:Int)≠0 by omega);have h3:=Int.emod_lt_of_pos x.2 (show(0:Int)<30 by omega);rw[iH aB aB];generalize x.1%(G.m:Int)=e at*;generalize hr:1+x.2%30=r at*;refine Th yL (QN:=[Tk e r]) (λ_ v he _=>by rw[mR.1 he];exact .inr (.inr (.inl rfl))) (hx.kp kd) (λk hk=>by rw[hk];exact(un.kp kd).lt) (λev he=>by rw[mR.1 he]) dP aB (by rw[BV.iR];simp) (by rw[BV.dQ];omega) λrh GO W1 w1 gB S15 k1 DS u1 uu kq hcfg1 hbl1 _=>?_;have e1:=shut_one kq.one BV.VT BV.iR ⟨h0,by rw[BV.u,un.l];exact h1⟩ aB;subst e1;have un1:=(un.kp kd).up k1 u1;refine⟨⟨h0,h1⟩,aA rfl ?_⟩;refine un1.v.store eY rfl (i:=e.toNat) (by rw[un1.l];omega) r (v:=aD r) rfl cV (CI _) λjU v16 m16 z16=>?_;have Gs:aU (λk=>k=ub) gB jU:=m16;refine hX1 (ss.length-(i+1)) _ _ aB ⟨i+1,B+16*1,_,S15,U.set e.toNat r,dL,rfl,rfl,⟨DS.x.ov Gs λk hk=>⟨hk,by rw[hk];exact un1.n⟩,⟨DS.b.jl,DS.b.k0.fresh Gs λk hk=>by rw[hk];exact zW0,DS.b.lo⟩,DS.ok,DS.k.fresh Gs λk hk=>by rw[hk];exact zub,DS.lo⟩,aB,⟨BV.iR,BV.ds,BV.VT,BV.gr,BV.lf,BV.dQ,BV.dJ,?_⟩,⟨v16,by rw[oE];exact un.l,λy hy=>?_,un1.n,by rw[z16];exact un1.lt⟩⟩
  ·show Wi.v.u.set _ (Wi.v.dQ+r)=_;rw[BV.dQ,BV.u,Int.zero_add]
  ·rcases List.mem_or_eq_of_mem_set hy with h|h
   ·exact un.r y h
   ·omega
 ·have ei:i=ss.length:=aB;subst ei;refine bK (λcc t w=>∃(j:Nat) (B:Int) (Wi:iS) (S:BS),j<=T/\cc=T-j/\t=(((j+1:Nat):Int),())/\Wx (λk=>k=ub) E G a wa 1 W0 w6 B Wi w S/\(0<=B/\B<=160+16*j)/\Sit d c Wi j (FX j U)/\Unt ub G.m U w S) T
   ⟨0,B,Wi,S,cY _,rfl,rfl,hx,aB,⟨BV.iR,BV.ds,BV.VT,BV.gr,BV.lf,BV.dQ,BV.dJ,by rw[BV.u];exact(cut_zero λx hx=>(un.r x hx).1).symm⟩,un⟩ ?_
  clear un BV hx hX1 hB;rintro cc t w ⟨j,B,Wi,S,hj,rfl,rfl,hx,hB,BV,un⟩ X2 hX2;dsimp only;have kd:=cB w;refine aI (λcD=>?_) (λkF=>?_)
  ·refine Th yL (QN:=[evTick]) (λ_ v he h1=>by rw[mR.1 he,h1 rfl];exact .inr (.inl ⟨trivial,BV.nob,rfl⟩)) hx (λk hk=>by rw[hk];exact un.lt) (λev he=>by rw[mR.1 he]) dP aB (by rw[BV.iR];simp) (by rw[BV.dQ];omega) λrh GO W1 w1 qS S19 k1 DS u1 uu kq hcfg1 hbl1 _=>?_;obtain⟨t1,t2,t3,t4,t5,t6,t7,t8⟩:=tick_one kq.one BV.iR BV.ds rfl BV.VT BV.lf;rw[BV.dQ,BV.u,cut_step aB] at t8;rw[BV.dQ] at t6;have sit1:Sit d c W1 ((j+1:Nat):Int) (FX ((j+1:Nat):Int) U):=⟨t1,t2,t3,by have h:=BV.gr;unfold tD.grI at h ⊢;rw[t4];exact h,t5,t6,t7.trans BV.dJ,t8⟩;have un1:=un.up k1 u1;obtain⟨SS,hSS,_⟩:=DS.x.Fy;refine PR DS.x (VClosed_i hSS DS.ok.v λr DR v21 k21 f21=>?_);rw[sit1.u] at v21;have un21:=un1.kp k21;refine Told_i (t:=((j+1:Nat):Int)) (QF:=Q false) (un21.v.rd eY) (v21.rd xp) aB un21.l aB rfl λvP k22=>?_;rw[pI (j+1) aB];have Ro:=k21.tr k22;exact hX2 _ _ _ aB ⟨j+1,B+16*1,W1,S19,aB,rfl,rfl,DS.kp Ro,aB,sit1,un1.kp Ro⟩
  ·have ej:j=T:=aB;subst ej;have hxd:=hx.kp kd;have und:=un.kp kd;have od:=o6.aK hxd.k id;refine aE (k:=.slice) g.2.1 (qM od).2.1 (aE (k:=.slice) g.1 (qM od).1 ?_);rw[gl,gn];refine XK aB aB ⟨by first|exact(qM od).1|(rw[<-gn];exact(qM od).1),XK aB aB (aE (k:=.slice) g.2.1 (qM od).2.1 ?_)⟩
   rw[gl];have ha:G.mO (at_%(G.m:Int)):=⟨Int.emod_nonneg _ aB,Int.emod_lt_of_pos _ aB⟩;have hv:G.GR (node%(G.n:Int)):=⟨Int.emod_nonneg _ aB,Int.emod_lt_of_pos _ aB⟩;generalize at_%(G.m:Int)=x8 at*;generalize node%(G.n:Int)=x9 at*;clear hg;generalize w.drew=MD at*;refine wD VD (aY:=eB) false rfl Gw aB (lR _) aB aB λZE v25 k25=>?_;simp only[dU] at v25 ⊢;have z25:MD.heap.size<ZE.heap.size:=v25.lt rfl;have hx25:Wx (λk=>k=MD.heap.size) E G a wa 1 W0 w6 B Wi ZE S:=⟨(hxd.x.Rw λk e=>.inr (by rw[e];exact dN _)).kp k25,hxd.b.kp k25,hxd.ok,hxd.k.tr k25,hxd.lo⟩;have nmb:¬S MD.heap.size:=λh=>by have:=hxd.x.lt _ h;omega
   have z6m:w6.heap.size<=MD.heap.size:=hxd.k.size;have z0m:W0.heap.size<=MD.heap.size:=hxd.b.k0.size;have ubm:ub<MD.heap.size:=und.lt;generalize hmb:MD.heap.size=mb at*;obtain⟨M,hM'⟩:∃M:rZ,M=U.map λx=>decide (x>(j:Int)):=⟨_,rfl⟩;have hMl:M.length=G.m:=by rw[hM',lT];exact und.l
   refine bK (λcc t w=>∃(k:Nat) (L:rZ),k<=G.m/\cc=G.m-k/\t=((k:Int),())/\Wx (λk=>k=mb) E G a wa 1 W0 w6 B Wi w S/\Unt ub G.m U w S/\dE w tK 1 eB ⟨some ⟨mb,0,none⟩,G.m,G.m⟩ L/\L.length=G.m/\(∀q,q<k->L[q]? =M[q]?)/\mb<w.heap.size) G.m
    ⟨0,_,cY _,rfl,rfl,hx25,und.kp k25,v25,List.length_replicate,λq hq=>absurd hq (Nat.not_lt_zero _),z25⟩ ?_
   clear hX2;rintro cc t w ⟨k,L,hk,rfl,rfl,Bi,unk,vk,hLl,hL,zk⟩ X4 hX4;dsimp only;refine aI (λhltk=>?_) (λhgek=>?_)
   ·have lM:k<U.length:=by have:=und.l;omega
    have cI:=cL lM;generalize U[k]=x at*;obtain⟨p,hp,hcl⟩:=bR (k:=.i) (e:=λx=>x) (unk.v.rd eY) cI;rw[dU,pI k aB];refine⟨⟨aB,hltk⟩,aA hp (aE (k:=.i) x hcl ⟨⟨aB,hltk⟩,aA rfl ?_⟩)⟩;refine vk.store Gw rfl (i:=k) aB (decide (x>(j:Int))) (v:=.bool (decide (x>(j:Int)))) rfl jG (oneB _) λRi v27 m27 z27=>?_;have m27':aU (λk=>k=mb) w Ri:=m27;refine hX4 (G.m-(k+1)) _ _ aB ⟨k+1,L.set k (decide (x>(j:Int))),aB,rfl,rfl,⟨Bi.x.ov m27' λb hb=>⟨hb,by rw[hb];exact nmb⟩,⟨Bi.b.jl,Bi.b.k0.fresh m27' λb hb=>by rw[hb];exact z0m,Bi.b.lo⟩,Bi.ok,Bi.k.fresh m27' λb hb=>by rw[hb];exact z6m,Bi.lo⟩,⟨unk.v.aK m27' λb hb hh=>(by cases hb;have Gg:ub=mb:=hh;omega),unk.l,unk.r,unk.n,by rw[z27];exact unk.lt⟩,v27,by rw[oE];exact hLl,λq hq=>?_,by rw[z27];exact zk⟩;rw[jC]
    by_cases e:k=q
    ·subst e;rw[if_pos rfl,if_pos aB,hM',oG,cI];rfl
    ·rw[if_neg e];exact hL q aB
   ·have ek:k=G.m:=aB;subst ek;have eL:L=M:=by
     refine yV λq=>?_;rcases Nat.lt_or_ge q G.m with h|h
     ·exact hL q h
     ·rw[List.getElem?_eq_none aB,List.getElem?_eq_none aB]
    subst eL;clear hX4;refine Th yL (QN:=[Fo x8 x9,EN]) (λ_ e he _=>ks2 he) Bi (λk hk=>by rw[hk];exact zk) (raw2 _ _) dP aB (by rw[BV.iR];simp) (by rw[BV.dQ];omega) λrh GO W1 w1 gB S15 k1 DS u1 uu kq hcfg1 hbl1 hnw1=>?_;obtain⟨z,en,V,hask,hA,vi,WU,hVnow,hVu,hVcfg,hVgr,hVmost,hVlf⟩:=begin_run ok kq BV.iR BV.ds BV.VT Bi.ok.v.t.fF.1 (by rw[BV.gr];show(0:Int)<0+1;omega) (by rw[BV.dJ];rfl) (by rw[BV.dJ,hcw];omega) (by show(0:Int)<=0/\(0:Int)<=1000000;omega) ha hv BV.lf;obtain⟨hsm,kj,hl3⟩:=said_wf ok hask;rw[BV.u,cut_mask aB,<-hM'] at hask;have b1l:W1.iR.length<=4:=by rw[hA.iR,mH,lT,Qi,lT];omega
    have c1:W1.v.dJ=c:=hcfg1.trans BV.dJ;have n1:W1.v.dQ<=42:=by have:=hnw1.2;rw[BV.dQ] at this;simp at this;omega
    have zW15:W0.heap.size<=gB.heap.size:=DS.b.k0.size;have z615:w6.heap.size<=gB.heap.size:=DS.k.size;have zk1:=k1.size;have zu1:=u1.m.size;have vM:dE gB tK 1 eB ⟨some ⟨mb,0,none⟩,G.m,G.m⟩ L:=(vk.aK k1 λ_ _=>id).aK u1.m λa ha=>by cases ha;exact nmb
    have nM:¬S15 mb:=λhs=>(u1.s _ hs).elim nmb λhh=>aB;have zM:mb<gB.heap.size:=aB;have row0:ni gB.heap.size S15 gB bD []:=fO.nil;refine bK (λcc t w=>∃(i:Nat) (B:Int) (Wi:iS) (S:BS) (r:Sl) (gs:List gT),i<=6/\cc=6-i/\t=(r,(i:Int),())/\Wx (BLs r) E G a wa 1 W0 w6 B Wi w S/\(0<=B/\B<=1000+16*i)/\Dels G W1 i Wi gs/\ni gB.heap.size S w r gs/\gs.length<=i*20/\Wi.iR.length<=4+i*2000/\Wi.v.dQ<=42+i/\Wi.v.dJ=c/\gB.heap.size<=w.heap.size/\dE w tK 1 eB ⟨some ⟨mb,0,none⟩,G.m,G.m⟩ L/\¬S mb) 6
     ⟨0,B+16*2,W1,S15,bD,[],aB,rfl,rfl,⟨DS.x.Rw λk ⟨b,hb,_⟩=>(by cases hb),DS.b,DS.ok,DS.k,DS.lo⟩,aB,.zero,row0,by simp,aB,aB,c1,dN _,vM,nM⟩ ?_
    rintro cc t jU ⟨i,B2,W2,S2,r,gs,hi6,rfl,rfl,ja,hB2,hdels,pQ,hgl,hbl2,hnow2,hcfg2,hz2,vM2,nM2⟩ X5 hX5;dsimp only;refine aI (λhlt6=>?_) (λhge6=>?_)
    ·refine Th yL (QN:=[EN]) (λ_ e he _=>by rw[mR.1 he];exact .inl rfl) ja (λk ⟨b,hb,e⟩=>by rw[e];exact pQ.lt hb) (λev he=>by rw[mR.1 he]) dP aB aB aB λrh3 Dj W3 mG qE jq Od mf uo hr18 hdo3 hcfg3 hbl3 hhn3=>?_;obtain⟨hhl3,hnw3⟩:=hhn3;have Og:([EN]:List GP).length=1:=rfl;rw[Og] at hhl3 hnw3 hbl3;rw[hcfg2] at hbl3;have row18:=(pQ.kp Od).up uo;have z17:=Od.size;have z18:=uo.size;have vM18:dE qE tK 1 eB ⟨some ⟨mb,0,none⟩,G.m,G.m⟩ L:=(vM2.aK Od λ_ _=>id).aK uo.m λa ha=>by cases ha;exact nM2
     have nM18:¬jq mb:=λhs=>(uo.s _ hs).elim nM2 λhh=>aB;refine take_i (lo:=gB.heap.size) (lo2:=mG.heap.size) mf.x row18 hr18 ⟨aB,z18⟩ (λb hb=>by have:=pQ.lt hb;omega) aB λr' w' i' QZ row' m'=>?_;rw[pI i aB];refine hX5 (6-(i+1)) _ _ aB ⟨i+1,B2+16*1,W3,jq,r',_,aB,rfl,rfl,⟨QZ,⟨mf.b.jl,mf.b.k0.fresh m' λk hk=>by have:=hk.1;omega,mf.b.lo⟩,mf.ok,mf.k.fresh m' λk hk=>by have:=hk.1;omega,mf.lo⟩,aB,.succ hdels hdo3.one,row',by rw[fN,lT];omega,aB,aB,hcfg3.trans hcfg2,by have:=m'.size;omega,vM18.aK m' λa ha hh=>(by cases ha;have:=hh.1;have e:(⟨mb,0,none⟩:Addr).block=mb:=rfl;omega),nM18⟩
    ·have ei:i=6:=aB;subst ei;obtain⟨m1,tl,hz2'⟩:∃m1 tl,z.2=m1::tl:=by
      cases hz:z.2 with
      |nil=>rw[hz] at kj;simp at kj
      |cons x y=>exact⟨x,y,rfl⟩
     obtain⟨m0,hm0⟩:∃m0,m0=jD:=⟨_,rfl⟩;rw[hz2',<-hm0] at hA hsm hl3;obtain⟨cO,rfl⟩:∃cO,gs=m0::m1::cO:=by
      rcases dels_pre vi hA hsm aB hdels with⟨h,_⟩|⟨h,_⟩|⟨h,_⟩|⟨_,h⟩
      ·omega
      ·omega
      ·omega
      ·exact h
     have Oe:=ja.k;refine aZ (l:=[.slice,.slice,.slice]) g (qV (g:=g) (o6.aK Oe id)) ?_;have kAll:=K6.tr Oe;have hrl:=pQ.len;simp only[mH] at hrl;refine RWay_i (g:=g) (hg6.aO Oe) ok (vM2.rd Gw) (λjt k36 qU=>?_) (λd1 la sa jt _ _ hfar hlw va k36 _=>?_)
     ·refine aI (λh=>aB) (λ_=>aF (λ_=>?_) (λh=>by simp at h));obtain⟨ab,sl1,VR,hh1,_⟩:=((pQ.rd RM).kp Tl k36).get (i:=1) (x:=m1) rfl;have e1:m1=wI:=by
       rw[DX.no ok hv (λd=>qU d hv) hask] at hz2';cases hz2';rfl
      refine⟨⟨aB,aB⟩,aA VR (aE (k:=.i) m1.kind (jH.1 hh1 0 _ rfl) (aF (λ_=>PC yL (λ_ _=>ks11) λw' k'=>hQ w' ((kAll.tr k36).tr k')) (λh=>by rw[e1] at h;cases h)))⟩
     ·refine aI (λh=>aB) (λ_=>aF (λh=>by simp at h) (λ_=>?_));obtain⟨ab,sl1,VR,hh1,hrd1,_⟩:=((pQ.rd RM).kp Tl k36).get (i:=1) (x:=m1) rfl;obtain⟨_,_,m,hz3⟩:=DX.yes ok ha hv hfar hlw hask;have e1:m1=pS la (kU d1 x8):=by
       rw[hz2'] at hz3;cases hz3;rfl
      have he:m1.cF=la:=by rw[e1];rfl
      rw[he] at hrd1;have hll:=hlw.len ok;refine⟨⟨aB,aB⟩,aA VR (aE (k:=.i) m1.kind (jH.1 hh1 0 _ rfl) (aF (λ_=>⟨⟨aB,aB⟩,aA VR (aE (k:=.slice) sl1 (jH.1 hh1 3 _ rfl) ?_)⟩) (λh=>by rw[e1] at h;cases h)))⟩;exact Ints_i hrd1 (va.rd eY) aB λr1 Wq k38 hr=>aF (λ_=>PC yL (λ_ _=>ks11) λw' k'=>hQ w' (((kAll.tr k36).tr k38).tr k')) (λh=>by rw[hr.2 rfl] at h;cases h)
end Go.Proofs.YtihggjgakbgomaaGreat
namespace Go.Proofs.YtihggjgakbgomaaGreat
open Go Go.Den Go.ChangeShapes Go.WideShapes Go.ChangeAt Go.RowKit
open Tryz (prog)
def gZ:ownKnob prog.godebug=none:=iZ
def laid:laidOutB prog=true:=iZ
def call_of{g:FuncId}{T:Tr}(hS:pM prog g T){args:gJ}{W:aH}(h:T args W λv w'=>v=.bool true/\Oz W w'):Calls prog g args.toArray W λe w'=>e=.returned (.bool true)/\Oz W w':=
 (hS args W _ h).mono λe w' ⟨v,he,hv,hs⟩=>⟨by rw[he,hv],hs⟩
end Go.Proofs.YtihggjgakbgomaaGreat
namespace Go.Proofs.YtihggjgakbgomaaGreat
open Go Go.Den Go.ChangeShapes Go.WideShapes Go.ChangeAt Go.RowKit
open Tryz (prog)
def i1Of:cR->Int
 | [x]=>x
 |_=>0
def i1Of_enc{r:cR}(h:r.length=1):eI (i1Of r)=r.map (Value.int .i64):=by
 match r,h with
 | [x],_=>rfl
set_option maxRecDepth 100000 in
def arg_is{H:Type}{aY:fL×Value->H}{W:aH}{t b:Nat}{v:Value}{d:DataW H}{ps:List MemPlace}(ht:prog.underlying t=some (.slice dA))(Se:Value.okWide prog W .any b t v)(h:DataW.Trod aY prog W 0 (λ_=>true) true t v d ps):
  ∃(s:Sl) (xs:cR),v=aW s/\Rd W s 1 eI xs:=by
 obtain⟨s,eC,rfl,hr,hl⟩:=af (m:=1) ht iZ iZ Se h;exact⟨s,eC.map i1Of,rfl,hr.map i1Of λr hr=>i1Of_enc (hl r hr)⟩
end Go.Proofs.YtihggjgakbgomaaGreat
namespace Go.Proofs.YtihggjgakbgomaaGreat
open Go Go.Den Go.ChangeShapes Go.WideShapes Go.ChangeAt Go.RowKit
open Tryz (prog)
def p2Of:cR->Int×Int
 | [x,y]=>(x,y)
 |_=>(0,0)
def p2Of_enc{r:cR}(h:r.length=2):eP (p2Of r)=r.map (Value.int .i64):=by
 match r,h with
 | [x,y],_=>rfl
set_option maxRecDepth 100000 in
def arg_p2{H:Type}{aY:fL×Value->H}{W:aH}{t b:Nat}{v:Value}{d:DataW H}{ps:List MemPlace}(ht:prog.underlying t=some (.slice On))(Se:Value.okWide prog W .any b t v)(h:DataW.Trod aY prog W 0 (λ_=>true) true t v d ps):
  ∃(s:Sl) (xs:List (Int×Int)),v=aW s/\Rd W s 2 eP xs:=by
 obtain⟨s,eC,rfl,hr,hl⟩:=af (m:=2) ht iZ iZ Se h;exact⟨s,eC.map p2Of,rfl,hr.map p2Of λr hr=>p2Of_enc (hl r hr)⟩
end Go.Proofs.YtihggjgakbgomaaGreat
