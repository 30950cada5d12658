import Derived.Shelf.SlIterI.Nil
import Derived.Shelf.SlIterI.Sorted
import Derived.Shelf.SortM.Plain
import Derived.Shelf.SortM.SortNone
import Derived.Test.YtihggjgakbgomaaGreatProg
import Derived.KernelRfl
import Derived.Test.YtihggjgakbgomaaGreatA1
import Derived.Test.YtihggjgakbgomaaGreatF1
import Derived.Test.YtihggjgakbgomaaGreatF2
import Derived.Test.YtihggjgakbgomaaGreatA2
namespace Go.Proofs.YtihggjgakbgomaaGreat
open Go Go.Proofs
def Be:Go.Shelf.Ren:=⟨λ|6=>67|8=>119|9=>120|11=>162|13=>164|12=>163|23=>214|24=>215|14=>205|15=>206|16=>207|17=>208|18=>209|19=>210|20=>211|21=>212|22=>213|25=>246|26=>247|27=>248|28=>249|29=>250|30=>216|31=>258|n=>n,λ|26=>3|28=>162|24=>22|0=>0|3=>3|37=>266|48=>322|50=>324|4=>4|40=>316|39=>315|45=>140|5=>5|9=>9|51=>367|55=>371|57=>382|58=>383|33=>146|n=>n,λn=>n⟩
theorem sortedA:SlLaysZI.n6 Tryz.prog Be where
 mixed:=by kernel_rfl
 f6:=⟨"slices.Sorted[int]",by decide,Tryz.func67.trans (congrArg some (by kernel_rfl))⟩
 f8:=⟨"slices.Collect[int]",by decide,Tryz.func119.trans (congrArg some (by kernel_rfl))⟩
 f11:=⟨"slices.AppendSeq[[]int,int]",by decide,Tryz.func162.trans (congrArg some (by kernel_rfl))⟩
 t0:=Tryz.underlying0
 a0:=Tryz.isAgg0
 z0:=Tryz.sizeOf0
 v0:=Tryz.zeroValue0
 t24:=Tryz.underlying22
 a24:=Tryz.isAgg22
 z24:=Tryz.sizeOf22
 v24:=Tryz.zeroValue22
 t26:=Tryz.underlying3
 a26:=Tryz.isAgg3
 z26:=Tryz.sizeOf3
 v26:=Tryz.zeroValue3
 t28:=Tryz.underlying162
 a28:=Tryz.isAgg162
 z28:=Tryz.sizeOf162
 v28:=Tryz.zeroValue162
 i26:=by kernel_rfl
def sortA_ren:Go.Shelf.Ren:=⟨λ|5=>120|8=>164|7=>163|19=>214|20=>215|10=>205|11=>206|12=>207|13=>208|14=>209|15=>210|16=>211|17=>212|18=>213|30=>246|31=>247|32=>248|33=>249|34=>250|35=>216|40=>258|n=>n,λ|23=>22|25=>3|3=>3|32=>266|22=>22|0=>0|44=>322|46=>324|4=>4|36=>316|35=>315|41=>140|5=>5|9=>9|53=>367|57=>371|63=>382|64=>383|n=>n,λn=>n⟩
theorem sortA:SlLaysM.n5 Tryz.prog sortA_ren where
 mixed:=by kernel_rfl
 f5:=⟨"slices.Sort[[]int,int]",by decide,Tryz.func120.trans (congrArg some (by kernel_rfl))⟩
 f7:=⟨"slices.pdqsortOrdered[int]",by decide,Tryz.func163.trans (congrArg some (by kernel_rfl))⟩
 f8:=Tryz.func164.trans (congrArg some (by kernel_rfl))
 f10:=⟨"slices.insertionSortOrdered[int]",by decide,Tryz.func205.trans (congrArg some (by kernel_rfl))⟩
 f11:=⟨"slices.heapSortOrdered[int]",by decide,Tryz.func206.trans (congrArg some (by kernel_rfl))⟩
 f12:=⟨"slices.breakPatternsOrdered[int]",by decide,Tryz.func207.trans (congrArg some (by kernel_rfl))⟩
 f13:=⟨"slices.choosePivotOrdered[int]",by decide,Tryz.func208.trans (congrArg some (by kernel_rfl))⟩
 f14:=⟨"slices.reverseRangeOrdered[int]",by decide,Tryz.func209.trans (congrArg some (by kernel_rfl))⟩
 f15:=⟨"slices.partialInsertionSortOrdered[int]",by decide,Tryz.func210.trans (congrArg some (by kernel_rfl))⟩
 f16:=⟨"cmp.Less[int]",by decide,Tryz.func211.trans (congrArg some (by kernel_rfl))⟩
 f17:=⟨"slices.partitionEqualOrdered[int]",by decide,Tryz.func212.trans (congrArg some (by kernel_rfl))⟩
 f18:=⟨"slices.partitionOrdered[int]",by decide,Tryz.func213.trans (congrArg some (by kernel_rfl))⟩
 f19:=Tryz.func214.trans (congrArg some (by kernel_rfl))
 f20:=Tryz.func215.trans (congrArg some (by kernel_rfl))
 f30:=⟨"slices.siftDownOrdered[int]",by decide,Tryz.func246.trans (congrArg some (by kernel_rfl))⟩
 f31:=Tryz.func247.trans (congrArg some (by kernel_rfl))
 f32:=Tryz.func248.trans (congrArg some (by kernel_rfl))
 f33:=⟨"slices.medianAdjacentOrdered[int]",by decide,Tryz.func249.trans (congrArg some (by kernel_rfl))⟩
 f34:=⟨"slices.medianOrdered[int]",by decide,Tryz.func250.trans (congrArg some (by kernel_rfl))⟩
 f35:=⟨"cmp.isNaN[int]",by decide,Tryz.func216.trans (congrArg some (by kernel_rfl))⟩
 f40:=⟨"slices.order2Ordered[int]",by decide,Tryz.func258.trans (congrArg some (by kernel_rfl))⟩
 t0:=Tryz.underlying0
 a0:=Tryz.isAgg0
 z0:=Tryz.sizeOf0
 v0:=Tryz.zeroValue0
 t3:=Tryz.underlying3
 a3:=Tryz.isAgg3
 z3:=Tryz.sizeOf3
 v3:=Tryz.zeroValue3
 t4:=Tryz.underlying4
 a4:=Tryz.isAgg4
 z4:=Tryz.sizeOf4
 v4:=Tryz.zeroValue4
 t5:=Tryz.underlying5
 a5:=Tryz.isAgg5
 z5:=Tryz.sizeOf5
 v5:=Tryz.zeroValue5
 t9:=Tryz.underlying9
 a9:=Tryz.isAgg9
 z9:=Tryz.sizeOf9
 v9:=Tryz.zeroValue9
 t22:=Tryz.underlying22
 a22:=Tryz.isAgg22
 z22:=Tryz.sizeOf22
 v22:=Tryz.zeroValue22
 t23:=Tryz.underlying22
 a23:=Tryz.isAgg22
 z23:=Tryz.sizeOf22
 v23:=Tryz.zeroValue22
 t25:=Tryz.underlying3
 a25:=Tryz.isAgg3
 z25:=Tryz.sizeOf3
 v25:=Tryz.zeroValue3
 t32:=Tryz.underlying266
 a32:=Tryz.isAgg266
 z32:=Tryz.sizeOf266
 v32:=Tryz.zeroValue266
 t35:=Tryz.underlying315
 a35:=Tryz.isAgg315
 z35:=Tryz.sizeOf315
 v35:=Tryz.zeroValue315
 t36:=Tryz.underlying316
 a36:=Tryz.isAgg316
 z36:=Tryz.sizeOf316
 v36:=Tryz.zeroValue316
 t41:=Tryz.underlying140
 a41:=Tryz.isAgg140
 z41:=Tryz.sizeOf140
 v41:=Tryz.zeroValue140
 t44:=Tryz.underlying322
 a44:=Tryz.isAgg322
 z44:=Tryz.sizeOf322
 v44:=Tryz.zeroValue322
 t46:=Tryz.underlying324
 a46:=Tryz.isAgg324
 z46:=Tryz.sizeOf324
 v46:=Tryz.zeroValue324
 t53:=Tryz.underlying367
 a53:=Tryz.isAgg367
 z53:=Tryz.sizeOf367
 v53:=Tryz.zeroValue367
 t57:=Tryz.underlying371
 a57:=Tryz.isAgg371
 z57:=Tryz.sizeOf371
 v57:=Tryz.zeroValue371
 t63:=Tryz.underlying382
 a63:=Tryz.isAgg382
 z63:=Tryz.sizeOf382
 v63:=Tryz.zeroValue382
 t64:=Tryz.underlying383
 a64:=Tryz.isAgg383
 z64:=Tryz.sizeOf383
 v64:=Tryz.zeroValue383
def Ot:Go.Shelf.Ren:=⟨λ|7=>68|10=>121|n=>n,λ|23=>164|26=>3|3=>102|28=>162|0=>0|27=>161|33=>146|4=>4|n=>n,λn=>n⟩
theorem keysB:SlLaysZI.n7 Tryz.prog Ot where
 mixed:=by kernel_rfl
 f7:=⟨"maps.Keys[map[int]*milepost/table.Entry,int,*milepost/table.Entry]",by decide,Tryz.func68.trans (congrArg some (by kernel_rfl))⟩
 f10:=⟨"maps.Keys[map[int]*milepost/table.Entry,int,*milepost/table.Entry]$1",by decide,Tryz.func121.trans (congrArg some (by kernel_rfl))⟩
 t0:=Tryz.underlying0
 a0:=Tryz.isAgg0
 z0:=Tryz.sizeOf0
 v0:=Tryz.zeroValue0
 t4:=Tryz.underlying4
 a4:=Tryz.isAgg4
 z4:=Tryz.sizeOf4
 v4:=Tryz.zeroValue4
 t23:=Tryz.underlying164
 a23:=Tryz.isAgg164
 z23:=Tryz.sizeOf164
 v23:=Tryz.zeroValue164
 t26:=Tryz.underlying3
 a26:=Tryz.isAgg3
 z26:=Tryz.sizeOf3
 v26:=Tryz.zeroValue3
 t27:=Tryz.underlying161
 a27:=Tryz.isAgg161
 z27:=Tryz.sizeOf161
 v27:=Tryz.zeroValue161
 t28:=Tryz.underlying162
 a28:=Tryz.isAgg162
 z28:=Tryz.sizeOf162
 v28:=Tryz.zeroValue162
 t33:=Tryz.underlying146
 a33:=Tryz.isAgg146
 z33:=Tryz.sizeOf146
 v33:=Tryz.zeroValue146
end Go.Proofs.YtihggjgakbgomaaGreat
namespace Go.Proofs.YtihggjgakbgomaaGreat
open Go Go.Den
open Tryz (prog)
open Go.IntKind (wrap)
theorem jJ:∀x:bO,(dU x).length=4:=λ_=>rfl
theorem Cq:∀x:bO,∀u∈dU x,u.oneCell'=true:=by intro x u hu;simp[dU] at hu;rcases hu with rfl|rfl|rfl|rfl<;>rfl
abbrev Ge(a:bO):Value:=.agg #[aD a.f,aD a.t,aD a.w,aD a.m]
def YV(x y:Int):Int:=if x<y then-1 else if x>y then 1 else 0
theorem PL{x y:Int}{w:aH}{Q:Int->aH->Prop}(hQ:Q (YV x y) w):iW x y w Q:=by
 unfold iW tY;refine aF (λh=>absurd h dN) (λ_=>?_);refine aF (λh=>absurd h dN) (λ_=>?_);unfold YV at hQ;refine aJ (λh=>?_) (λh=>?_)
 ·rwa[if_pos h] at hQ
 ·rw[if_neg h] at hQ;refine aJ (λh=>?_) (λh=>?_)
  ·rwa[if_pos h] at hQ
  ·rwa[if_neg h] at hQ
theorem byTo_c1_i{a:bO}{v:Int}{w:aH}{Q:Int->aH->Prop}(hQ:∀w',aL w w'->Q (YV a.t v) w'):yC (nM a) v w Q:=by
 unfold yC;simp only[aG];refine aE (k:=.i) a.t ?_ (PL (hQ _ (aL.alloc w _)));rw[aS,(cU.iP w _ _).cell];rfl
theorem bj{a:bO}{v:Int}{w:aH}{Q:Int->aH->Prop}(hQ:∀w',aL w w'->Q (YV a.f v) w'):tV (nM a) v w Q:=by
 unfold tV;simp only[aG];refine aE (k:=.i) a.f ?_ (PL (hQ _ (aL.alloc w _)));rw[aS,(cU.iP w _ _).cell];rfl
theorem mid_i(i j:Nat)(h:i+j<9223372036854775808):aQ (Int.fdiv (wrap .u64 (aQ ((i:Int)+(j:Int)))) (2^(min (Int.toNat (1:Int)) (IntKind.bits .u64))))=(((i+j)/2:Nat):Int):=by
 rw[gZ (n:=(i:Int)+(j:Int)) aB aB];have h1:wrap .u64 ((i:Int)+(j:Int))=((i+j:Nat):Int):=by simp[wrap,IntKind.signed,IntKind.bits];omega
 rw[h1];show aQ (Int.fdiv ((i+j:Nat):Int) 2)=_;rw[Int.fdiv_eq_ediv_of_nonneg _ aB,gZ aB aB];omega
theorem vO{w:aH}{s:Sl}{xs:List bO}(h:Rd w s 4 dU xs){i:Nat}{x:bO}(hx:xs[i]? =some x):∃a,s.b=some a/\bQ w (a.add (i*4)) 0 (qT [.i,.i,.i,.i] (nM x)):=h.get i x hx
theorem OB{s:Sl}{xs:List bO}{key:bO->Int}{v:Int}{cmp:Value}{w:aH}{Q:Int->Bool->aH->Prop}(hs:Rd w s 4 dU xs)(mF:YO key xs)(gD:xs.length<4611686018427387904)
  (hcmp:∀(x:bO) (w:aH) (K:WQ Value),(∀w',aL w w'->K (aD (YV (key x) v)) w')->lI prog cmp [Ge x,aD v] w K)
  (hQ:∀(i:Nat) (qI:Bool) w',aL w w'->zS key xs v i->(qI=true↔∃x∈xs,key x=v)->Q (i:Int) qI w'):dX s v cmp w Q:=by
 unfold dX;have hl:=hs.len;refine bL (λn t w'=>∃i j:Nat,i<=j/\j<=xs.length/\n=j-i/\t=((i:Int),(j:Int),())/\aL w w'/\(∀p x,p<i->xs[p]? =some x->key x<v)/\(∀p x,j<=p->xs[p]? =some x->v<=key x)) xs.length
  ⟨0,xs.length,aB,aB,aB,by rw[hl];rfl,aU.refl _ _,λp x hp=>aB,λp x hp hx=>by have:=(eQ.1 hx).1;omega⟩ ?_
 rintro n t w' ⟨i,j,RT,hj,rfl,rfl,hk,Ll,hhi⟩ X hX;dsimp only;have DB:=hs.aK hk WL (λ_ _=>id);refine aJ (λh=>?_) (λh=>?_)
 ·have cC:i<j:=aB;rw[mid_i i j aB];have hm:(i+j)/2<xs.length:=aB;refine⟨aB,⟨aB,aB⟩,?_⟩;obtain⟨a,ha,hh⟩:=vO DB (cM hm);refine aA ha (aX (nM xs[(i+j)/2]) hh ?_);refine hcmp xs[(i+j)/2] w' _ λw2 k2=>⟨_,rfl,?_⟩;rw[gZ (n:=(((i+j)/2:Nat):Int)+1) aB aB];unfold YV;refine aJ (λh=>?_) (λh=>?_)
  ·have hv:key xs[(i+j)/2]<v:=by
    apply Classical.byContradiction;intro hn;rw[if_neg hn] at h;split at h<;>omega
   refine hX (j-((i+j)/2+1)) _ _ aB ⟨(i+j)/2+1,j,aB,hj,rfl,rfl,hk.tr k2,λp x hp hx=>?_,hhi⟩;rcases Nat.lt_or_ge p ((i+j)/2) with h'|h'
   ·have:=mF.get h' hx (cM hm);omega
   ·have:p=(i+j)/2:=aB;subst this;rw[cM hm] at hx;cases hx;exact hv
  ·have hv:v<=key xs[(i+j)/2]:=by
    apply Classical.byContradiction;intro hn;rw[if_pos aB] at h;omega
   refine hX ((i+j)/2-i) _ _ aB ⟨i,(i+j)/2,aB,aB,rfl,rfl,hk.tr k2,Ll,λp x hp hx=>?_⟩;rcases Nat.eq_or_lt_of_le hp with h'|h'
   ·subst h';rw[cM hm] at hx;cases hx;exact hv
   ·have:=mF.get h' (cM hm) hx;omega
 ·have hje:j=i:=aB;subst hje;have qM:zS key xs v j:=⟨hj,Ll,hhi⟩;refine aJ (λh=>?_) (λh=>?_)
  ·have hi:j<xs.length:=aB;refine⟨⟨aB,aB⟩,?_⟩;obtain⟨a,ha,hh⟩:=vO DB (cM hi);refine aA ha (aX (nM xs[j]) hh ?_);refine hcmp xs[j] w' _ λw2 k2=>⟨_,rfl,hQ j _ w2 (hk.tr k2) qM ?_⟩;have h1:=hhi j _ (dL _) (cM hi)
   constructor
   ·intro hc;refine⟨xs[j],mX hi,?_⟩;unfold YV at hc
    by_cases hg:key xs[j]>v
    ·rw[if_neg aB,if_pos hg] at hc;simp at hc
    ·omega
   ·rintro⟨x,hx,fp⟩;have:=qM.qI mF hx fp;rw[cM hi] at this;cases this;unfold YV;rw[if_neg aB,if_neg aB];rfl
  ·have hi:j=xs.length:=aB;refine hQ j false w' hk qM ⟨λh=>by simp at h,?_⟩;rintro⟨x,hx,fp⟩;have:=qM.qI mF hx fp;have:=(eQ.1 this).1;omega
theorem byTo_i{s:Sl}{xs:List bO}{v:Int}{w:aH}{Q:Int->Bool->aH->Prop}(hs:Rd w s 4 dU xs)(mF:YO bO.t xs)(gD:xs.length<4611686018427387904)
  (hQ:∀(i:Nat) (qI:Bool) w',aL w w'->zS bO.t xs v i->(qI=true↔∃x∈xs,x.t=v)->Q (i:Int) qI w'):JZ s v w Q:=
 OB hs mF gD (λx w K hK=>pI Mo iT (gN (ks:=[.agg [.i,.i,.i,.i],.i]) (t:=(nM x,v,())) (byTo_c1_i hK))) hQ
theorem Yu{s:Sl}{xs:List bO}{v:Int}{w:aH}{Q:Int->Bool->aH->Prop}(hs:Rd w s 4 dU xs)(mF:YO bO.f xs)(gD:xs.length<4611686018427387904)
  (hQ:∀(i:Nat) (qI:Bool) w',aL w w'->zS bO.f xs v i->(qI=true↔∃x∈xs,x.f=v)->Q (i:Int) qI w'):AO s v w Q:=
 OB hs mF gD (λx w K hK=>pI Dg iT (gN (ks:=[.agg [.i,.i,.i,.i],.i]) (t:=(nM x,v,())) (bj hK))) hQ
theorem uO(xs:List bO):(xs.flatMap dU).length=xs.length*4:=bF jJ xs
theorem Oo(xs:List bO):∀u∈xs.flatMap dU,u.oneCell'=true:=λu hu=>by obtain⟨x,_,hx⟩:=List.mem_flatMap.1 hu;exact Cq x u hx
theorem Ej{V:Type}{l m:List V}{n:Nat}(h:l.length=n):(l++m).take n=l:=by rw[<-h,List.take_left]
theorem yw{V:Type}{l m:List V}{n:Nat}(h:l.length=n)(k:Nat):(l++m).drop (n+k)=m.drop k:=by rw[<-h,List.drop_length_add_append]
theorem drop_at0{V:Type}{l m:List V}{n:Nat}(h:l.length=n):(l++m).drop n=m:=by rw[<-h,List.drop_left]
theorem splice2{V:Type}{A X2 bI:List V}{n1 n2 k:Nat}(hA:A.length=k)(hc:n1+k<=bI.length):
  ((bI.take n1++A++bI.drop (n1+k)).take (n1+k)++X2++(bI.take n1++A++bI.drop (n1+k)).drop (n1+k+n2))=bI.take n1++A++X2++bI.drop (n1+k+n2):=by
 have hB:(bI.take n1++A).length=n1+k:=by simp;omega
 rw[Ej hB,yw hB,List.drop_drop]
theorem Tt{V:Type}{X1 X2 R A bI:List V}{n1 n2 k:Nat}(h1:X1.length=n1)(h2:X2.length=n2)(hR:k<=R.length)(hc:bI=X1++X2++R):
  ((bI.take (n1+k)++X2++bI.drop (n1+k+n2)).take n1++A++(bI.take (n1+k)++X2++bI.drop (n1+k+n2)).drop (n1+k))=X1++A++X2++R.drop k:=by
 have hcl:bI.length=n1+n2+R.length:=by rw[hc];simp[h1,h2];omega
 have e0:(bI.take (n1+k)).length=n1+k:=by simp;omega
 have e3:bI.drop (n1+k+n2)=R.drop k:=by
  have:(X1++X2).length=n1+n2:=by simp[h1,h2]
  rw[hc,show n1+k+n2=n1+n2+k by omega,yw this]
 have e4:bI.take (n1+k)=X1++(X2++R).take k:=by rw[hc,sL,<-h1,List.take_length_add_append]
 rw[e3];have e5:(bI.take (n1+k)++X2++R.drop k).drop (n1+k)=X2++R.drop k:=by rw[sL,drop_at0 e0]
 rw[e5,e4,sL,sL,sL,Ej h1];simp
theorem Insert_i{s:Sl}{xs:List bO}{a:bO}{i:Nat}{gv:Nat}{w:aH}{Q:Sl->aH->Prop}(hs:dD w iA 4 dU s xs)(hv:cU w gv iA (dU a))(hg:∀b,s.b=some b->b.block≠gv)(hi:i<=xs.length)(hb:xs.length<1099511627776)
  (hQ:∀s' w',dD w' iA 4 dU s' (xs.take i++[a]++xs.drop i)->aU (λk=>∃b,s.b=some b/\k=b.block) w w'->(s'.b=s.b\/∃b,s'.b=some b/\w.heap.size<=b.block)->Q s' w'):
  jX s (i:Int) ⟨some ⟨gv,0,none⟩,1,1⟩ w Q:=by
 unfold jX;have hl:=hs.len;have Rl:=hs.cap;have Rg:=hs.max;have rv:Rd w ⟨some ⟨gv,0,none⟩,1,1⟩ 4 dU [a]:=(dD.mk rfl (dL _) (by simp[maxLen]) (.inr ⟨gv,[],rfl,by simpa using hv,rfl⟩):dD w iA 4 dU ⟨some ⟨gv,0,none⟩,1,1⟩ [a]).rd jJ;refine⟨⟨aB,aB⟩,?_⟩;refine aF (λh=>absurd h dN) (λ_=>?_);refine aF (λh=>?_) (λh=>?_)
 ·have he:i=xs.length:=by
   have:(i:Int)=(s.l:Int):=by simpa using h
   omega
  refine fH jQ jJ Cq hs rv (by simp;omega) (by simp;omega) λr w' hr hm Va _=>?_;exact hQ r w' (by rw[he,oI,List.drop_length];simpa using hr) hm Va
 ·have cC:i<xs.length:=by
   have:(i:Int)≠(s.l:Int):=by simpa using h
   omega
  have e1:aQ ((s.l:Int)+((1:Nat):Int))=((xs.length+1:Nat):Int):=by rw[gZ aB aB];omega
  have e2:aQ ((i:Int)+((1:Nat):Int))=((i+1:Nat):Int):=by rw[gZ aB aB];omega
  rw[e1,e2];have hrs:=hs.rd jJ;have jk:((xs.drop i).flatMap dU).length=(xs.length-i)*4:=by rw[uO,iv]
  refine aJ (λhc=>?_) (λhc=>?_)
  ·--a new block
   refine⟨⟨aB,aB⟩,?_⟩;have e3:aQ (((xs.length+1:Nat):Int)-(i:Int))=((xs.length+1-i:Nat):Int):=by rw[gZ aB aB];omega
   rw[e3];have Gv:=hrs.part (i:=0) (j:=i) (c:=s.c) aB aB aB aB;refine Tz jQ xx (aY:=dU) ⟨0,0,0,0⟩ rfl jJ Gv (by simp;omega) (by simp;omega) (by simp;omega) λs2 w2 hv2 k2 hfr=>?_;have jf:=hv2.len;have PO:=hv2.cap;simp only[Nat.sub_zero,List.drop_zero,fJ,sM,List.length_replicate] at jf;have LJ:s2.l=xs.length+1:=aB;obtain⟨b2,PQ,hfr2⟩:=hfr;rcases hv2.gR with⟨h0,_⟩|⟨g2,cJ,lj,Vc,yL⟩
   ·rw[h0] at PQ;cases PQ
   rw[lj] at PQ;cases PQ;have hfr3:w.heap.size<=g2:=hfr2;refine⟨⟨aB,aB⟩,?_⟩;rw[lj,lJ (by show Int.toNat (i:Int)<s2.c;simp;omega)];simp only[dW];have hvo:cU w2 gv iA (dU a):=hv.aK k2 id;refine MW (t:=DS) jQ.under CJ Vc (cs:=dU a) (by rw[jJ];omega) (hvo.read λj v hj=>by simpa using hj) (by rw[yL,jJ];have:=PU 4 (show i+1<=s2.c by omega);omega) (Cq a) λw3 ho3 m3 z3=>?_;refine⟨⟨aB,aB⟩,⟨aB,aB⟩,?_⟩;have hd3:aL w3 w3.drew:=aU.drew (aU.refl _ w3);have hsrc:∀b,s.b=some b->∀j v,((xs.drop i).flatMap dU)[j]? =some v->w3.drew.cell? ((b.add (i*4)).add j)=some v:=by
    intro b hb j v hj;have Cj:=hrs.part (i:=i) (j:=s.l) (c:=s.c) aB aB aB aB;rw[ly6 (by simp;omega)] at Cj;have bR:aR s.b s.c i 4=some (b.add (i*4)):=by simp[aR,hb];omega
    have BC:=pV Cj jJ (a:=b.add (i*4)) bR j v hj;have FF:b.block<w.heap.size:=hs.lt hb;exact hd3.cell (m3.cell (k2.cell BC id) (by simp;omega)) id
   obtain⟨b,bR,_⟩:=hrs.get i xs[i] (cM cC);have hsb:aR s.b s.c i 4=some (b.add (i*4)):=by simp[aR,bR];omega
   rw[lJ (show i+1<s2.c by omega),hsb];refine MW (t:=DS) jQ.under CJ (ho3.aK hd3 id) (cs:=(xs.drop i).flatMap dU) (by rw[jk];congr 1;omega) (hsrc b bR) (by
    rw[jk];simp only[fJ,sM,iv,yL,jJ];have:=PU 4 (show xs.length+1<=s2.c by omega);omega) (Oo _) λw4 ho4 m4 z4=>?_
   have hw4:aL w w4:=(k2.fresh m3 (λk hk=>by rw[hk];exact hfr3)).fresh ((aL.aK hd3:aU (λk=>k=g2) w3 _).tr m4) (λk hk=>by rw[hk];exact hfr3);have h4:s2.c*4>=(xs.length+1)*4:=PU 4 aB;rw[show(i+1)*4=i*4+4 by omega,jJ,jk,splice2 (jJ a) (by rw[yL];omega)] at ho4;have hX1:(((xs.drop 0).take (i-0)++List.replicate (xs.length+1-i) (⟨0,0,0,0⟩:bO)).flatMap dU++cJ).take (i*4)=(xs.take i).flatMap dU:=by rw[Ow jJ _ _ _ (by simp;omega)];congr 1;rw[List.take_append_of_le_length (by simp;omega)];simp[List.take_take]
   rw[hX1] at ho4;refine hQ s2 w4 ⟨by rw[LJ];simp;omega,PO,hv2.max,.inr ⟨g2,(((xs.drop 0).take (i-0)++List.replicate (xs.length+1-i) (⟨0,0,0,0⟩:bO)).flatMap dU++cJ).drop (i*4+4+(xs.length-i)*4),lj,?_,?_⟩⟩ (aL.aK hw4) (.inr ⟨_,lj,hfr3⟩)
   ·simpa [GK] using ho4
   ·rw[fJ,uO,iv,yL];simp only[fJ,sM,iv,mE,RZ];omega
  ·--in place
   have hsc:xs.length+1<=s.c:=aB;rcases hs.gR with⟨_,h0⟩|⟨g,cJ,Ky,ho,gD⟩
   ·omega
   have h4:(xs.length+1)*4<=s.c*4:=PU 4 hsc;have hrest:4<=cJ.length:=by rw[fJ,uO] at gD;omega
   have fy:gv≠g:=λh=>hg _ Ky h.symm;refine⟨⟨aB,aB⟩,⟨aB,aB⟩,?_⟩;rw[oX,Ky];simp only[dW,Nat.sub_zero];rw[lJ aB];refine Kh hv ho fy aB ?_;refine aF (λ_=>?_) (λh=>by simp at h);refine⟨⟨aB,aB⟩,⟨aB,aB⟩,?_⟩;rw[lJ (show i<s.c by omega)];have hd:aL w w.drew:=aU.drew (aU.refl _ w);have hX2:((xs.flatMap dU++cJ).drop (i*4))=(xs.drop i).flatMap dU++cJ:=flat_drop jJ _ _ _ hi;refine MW (t:=DS) jQ.under CJ (ho.aK hd id) (cs:=(xs.drop i).flatMap dU) (by rw[jk];congr 1;omega) ((ho.aK hd id).read λj v hj=>by
     have:((xs.flatMap dU++cJ).drop (i*4))[j]? =some v:=by rw[hX2,Fw (eQ.1 hj).1];exact hj
     rwa[ly7] at this) (by rw[jk,gD];omega) (Oo _) λw6 ho6 m6 z6=>?_
   refine⟨⟨aB,aB⟩,?_⟩;have hv6:cU w6 gv iA (dU a):=(hv.aK hd id).aK m6 fy;refine MW (t:=DS) jQ.under CJ ho6 (cs:=dU a) (by rw[jJ,Nat.min_eq_left aB]) (hv6.read λj v hj=>by simpa using hj) (by
    rw[jJ];simp only[fJ,sM,iv,gD,jk];omega) (Cq a) λw7 ho7 m7 z7=>?_
   have hX1l:((xs.take i).flatMap dU).length=i*4:=by rw[uO,sM,Nat.min_eq_left hi]
   have hcur:xs.flatMap dU++cJ=(xs.take i).flatMap dU++(xs.drop i).flatMap dU++cJ:=by rw[<-GK,Ls]
   rw[jJ,jk,show(i+1)*4=i*4+4 by omega,Tt hX1l jk hrest hcur] at ho7;refine hQ ⟨some ⟨g,0,none⟩,xs.length+1,s.c⟩ w7 ⟨by simp;omega,hsc,Rg,.inr ⟨g,cJ.drop 4,rfl,?_,?_⟩⟩ ?_ (.inl Ky.symm)
   ·simpa [GK] using ho7
   ·rw[fJ,uO,iv];rw[fJ,uO] at gD;simp only[fJ,sM,iv,mE,RZ];omega
   ·exact(hd.aK.tr (m6.tr m7)).mono λk _ hk=>⟨_,Ky,hk⟩
theorem To{s:Sl}{xs:List bO}{w:aH}{Q:Sl->aH->Prop}(hs:Rd w s 4 dU xs)(hb:xs.length<1099511627776)
  (hQ:∀s' w',dD w' iA 4 dU s' xs->aL w w'->(∀b,s'.b=some b->w.heap.size<=b.block)->Q s' w'):iL s w Q:=by
 unfold iL;refine aF (λh=>?_) (λh=>?_)
 ·have hn:xs=[]:=by
   cases xs with
   |nil=>rfl
   |cons x r=>obtain⟨a,ha,_⟩:=hs.get 0 x rfl;rw[ha] at h;cases h
  subst hn;exact hQ _ w (dD.nil _ _ _ _) (aU.refl _ _) (λb hb=>by cases hb)
 ·simp only[aG];have k1:=aL.alloc w (.cells #[] 128);have v0:dD (w.alloc (.cells #[] 128)) iA 4 dU ⟨some ⟨w.heap.size,0,none⟩,0,0⟩ []:=dD.lit w iA dU jJ [] #[] rfl dN;refine fH jQ jJ Cq v0 (hs.aK k1 WL (λ_ _=>id)) (by simp;omega) (by simp;omega) λr w' hr hm Va _=>?_;refine hQ r w' (by simpa using hr) (aU.fresh k1 hm λk ⟨a,ha,hk⟩=>by cases ha;rw[hk];exact dL _) λb hb=>?_;rcases Va with h1|⟨b',bR,cC⟩
  ·rw[hb] at h1;cases h1;exact dL _
  ·rw[hb] at bR;cases bR;have:=k1.size;omega
theorem Zd{s:Sl}{xs:List bO}{i:Nat}{w:aH}{Q:Sl->aH->Prop}(hs:dD w iA 4 dU s xs)(hi:i<xs.length)(hb:xs.length<1099511627776)
  (hQ:∀s' w',dD w' iA 4 dU s' (xs.take i++xs.drop (i+1))->aU (λk=>∃b,s.b=some b/\k=b.block) w w'->s'.b=s.b->Q s' w'):
  iE s (i:Int) ((i:Int)+1) w Q:=by
 unfold iE;have hl:=hs.len;have Rl:=hs.cap;have Rg:=hs.max;rcases hs.gR with⟨_,h0⟩|⟨g,cJ,Ky,ho,gD⟩
 ·omega
 refine⟨⟨aB,aB⟩,⟨aB,by simp;omega⟩,⟨aB,aB⟩,?_⟩;refine aF (λh=>by simp at h;omega) (λ_=>?_);refine⟨⟨aB,aB⟩,⟨aB,aB⟩,?_⟩;have hd:aL w w.drew:=aU.drew (aU.refl _ w);have ti:Int.toNat (i:Int)=i:=rfl;have tj:Int.toNat ((i:Int)+1)=i+1:=rfl;rw[oX,ti,tj,Nat.sub_zero,Nat.sub_zero];have hvd:=hs.aK hd (λ_ _=>id);have Dx:=hvd.take (i:=i) aB;have YI:=(hvd.rd jJ).part (i:=i+1) (j:=s.l) (c:=s.c) aB aB aB aB;rw[ly6 (by simp;omega)] at YI;have LG:(xs.take i).length+(xs.drop (i+1)).length=xs.length-1:=by simp;omega
 refine Ih jQ jJ Cq Dx YI (by rw[LG];omega) (by rw[LG];omega) λr w1 hr hm Va hrn PW=>?_;have Ni:=hr.len;rw[fJ,LG] at Ni;have gf:=hr.cap;have tl:Int.toNat (s.l:Int)=s.l:=rfl;have tr:Int.toNat (r.l:Int)=r.l:=rfl;rw[tl,tr];obtain rfl:=PW (by rw[LG];show _<=s.c;omega);have e1:i+(s.l-(i+1))=xs.length-1:=aB;simp only[e1] at hr Ni gf tr ⊢;refine⟨⟨aB,aB⟩,⟨aB,aB⟩,?_⟩;rw[Ky,lJ (show xs.length-1<s.c by omega)];rcases hr.gR with⟨h0,_⟩|⟨g',Wt,hbg',ho',QR⟩
 ·rw[Ky] at h0;cases h0
 have:g'=g:=by rw[Ky] at hbg';cases hbg';rfl
 subst this;have IV:((xs.take i++xs.drop (i+1)).flatMap dU).length=(xs.length-1)*4:=by rw[uO,fJ,LG]
 have yL:((xs.take i++xs.drop (i+1)).flatMap dU++Wt).length=s.c*4:=QR;have h4:xs.length*4<=s.c*4:=PU 4 aB;refine ZQ jQ (by simp[Value.oneCell']) ho' (by rw[yL];omega) λw2 zs hz Vc m2 _=>?_;have QC:s.l-(xs.length-1)=1:=aB;rw[QC] at hz Vc;rw[Ej IV] at Vc;refine hQ _ w2 ⟨by rw[fJ,LG],by show xs.length-1<=s.c;omega,Rg,.inr ⟨g',zs++((xs.take i++xs.drop (i+1)).flatMap dU++Wt).drop ((xs.length-1)*4+1*4),rfl,by simpa using Vc,?_⟩⟩ ?_ Ky.symm
 ·show _=s.c*4;simp only[fJ,IV,iv,hz];rw[fJ,IV] at yL;omega
 ·exact((aL.aK hd).tr hm).tr (m2.mono λk _ hk=>⟨_,Ky,hk⟩)
theorem qm{s:Sl}{xs:List bO}{a:bO}{i:Nat}{w:aH}{Q:Sl->aH->Prop}(hs:dD w iA 4 dU s xs)(hi:i<=xs.length)(hb:xs.length<1099511627776)
  (hQ:∀s' w',dD w' iA 4 dU s' (xs.take i++[a]++xs.drop i)->aU (λk=>∃b,s.b=some b/\k=b.block) w w'->(s'.b=s.b\/∃b,s'.b=some b/\w.heap.size<=b.block)->Q s' w'):
  rK s (i:Int) false (nM a) w Q:=by
 unfold rK;simp only[aG];have k1:=aL.alloc w (.cells #[aD a.f,aD a.t,aD a.w,aD a.m] 128);refine aF (λ_=>?_) (λh=>by simp at h);refine aX (nM a) (Bk w _ _) ?_;generalize Uy:w.alloc (.cells #[aD a.f,aD a.t,aD a.w,aD a.m] 128)=w1 at k1 ⊢;have k2:=aL.alloc w1 (.cells #[aD a.f,aD a.t,aD a.w,aD a.m] 128);refine Insert_i ((hs.aK k1 (λ_ _=>id)).aK k2 (λ_ _=>id)) (cU.iP w1 #[aD a.f,aD a.t,aD a.w,aD a.m] 128) (λb bR=>?_) hi hb λs' w' h1 h2 h3=>?_
 ·exact Nat.ne_of_lt ((hs.aK k1 (λ_ _=>id)).lt bR)
 ·refine hQ s' w' h1 (((aL.aK k1).tr (aL.aK k2)).tr h2) (h3.imp id λ⟨b,bR,cC⟩=>⟨b,bR,?_⟩);exact iR (iR k1.size k2.size) cC
theorem laid_at_i{s:Sl}{xs:List bO}{a:bO}{i:Nat}{w:aH}{Q:Sl->aH->Prop}(hs:dD w iA 4 dU s xs)(hi:i<xs.length)
  (hQ:∀w',dD w' iA 4 dU s (xs.set i a)->aU (λk=>∃b,s.b=some b/\k=b.block) w w'->Q s w'):rK s (i:Int) true (nM a) w Q:=by
 unfold rK;simp only[aG];have k1:=aL.alloc w (.cells #[aD a.f,aD a.t,aD a.w,aD a.m] 128);refine aF (λh=>by simp at h) (λ_=>?_);refine aX (nM a) (Bk w _ _) ?_;have hl:=hs.len;have xS:=hs.aK k1 (λ_ _=>id);obtain⟨b,hb,_⟩:=(hs.rd jJ).get i xs[i] (cM hi);refine⟨⟨aB,aB⟩,aA hb ?_⟩;refine xS.store jJ hb hi a rfl CJ (Cq a) λw' h1 h2 _=>hQ w' h1 ((aL.aK k1).tr (h2.mono λk _ hk=>⟨b,hb,hk⟩))
section
abbrev sv(s:Sl):Value:=.slice s.b s.l s.c
structure mY where
 g:Nat
 go:Nat
 gi:Nat
 dZ:List Sl
def mY.dK(N:mY)(k:Nat):Prop:=k=N.g\/k=N.go\/k=N.gi\/∃(i:Nat) (s:Sl) (a:Addr),N.dZ[i]? =some s/\s.b=some a/\a.block=k
structure lX(w:aH)(N:mY)(n:Nat)(X:Nat->List bO):Prop where
 head:cU w N.g tNet [sv ⟨some ⟨N.go,0,none⟩,n,n⟩,sv ⟨some ⟨N.gi,0,none⟩,n,n⟩]
 sK:cU w N.go DS ((N.dZ.take n).map sv)
 LB:cU w N.gi DS ((N.dZ.drop n).map sv)
 len:N.dZ.length=n+n
 row:∀(i:Nat) (s:Sl),N.dZ[i]? =some s->dD w iA 4 dU s (X i)
 sep:∀(i:Nat) (s:Sl) (a:Addr),N.dZ[i]? =some s->s.b=some a->a.block≠N.g/\a.block≠N.go/\a.block≠N.gi
 Eb:∀(i j:Nat) (s u:Sl) (a b:Addr),N.dZ[i]? =some s->N.dZ[j]? =some u->s.b=some a->u.b=some b->a.block=b.block->i=j
 hd:N.g≠N.go/\N.g≠N.gi/\N.go≠N.gi
section
variable{w w':aH}{N:mY}{n:Nat}{X:Nat->List bO}
theorem lX.lt(h:lX w N n X){k:Nat}(hk:N.dK k):k<w.heap.size:=by
 rcases hk with rfl|rfl|rfl|⟨i,s,a,h1,h2,rfl⟩
 ·exact h.head.lt
 ·exact h.sK.lt
 ·exact h.LB.lt
 ·exact(h.row i s h1).lt h2
theorem lX.aK{F:Nat->Prop}(h:lX w N n X)(hm:aU F w w')(hF:∀k,N.dK k->¬F k):lX w' N n X where
 head:=h.head.aK hm (hF _ (.inl rfl))
 sK:=h.sK.aK hm (hF _ (.inr (.inl rfl)))
 LB:=h.LB.aK hm (hF _ (.inr (.inr (.inl rfl))))
 len:=h.len
 row:=λi s hs=>(h.row i s hs).aK hm λa ha=>hF _ (.inr (.inr (.inr ⟨i,s,a,hs,ha,rfl⟩)))
 sep:=h.sep
 Eb:=h.Eb
 hd:=h.hd
theorem lX.aO(h:lX w N n X)(hm:aL w w'):lX w' N n X:=h.aK hm λ_ _=>id
theorem lX.c0(h:lX w N n X):w.cell? ((⟨N.g,0,none⟩:Addr).add 0)=some (sv ⟨some ⟨N.go,0,none⟩,n,n⟩):=by rw[aS,h.head.cell];rfl
theorem lX.c1(h:lX w N n X):w.cell? ((⟨N.g,0,none⟩:Addr).add 1)=some (sv ⟨some ⟨N.gi,0,none⟩,n,n⟩):=by rw[aS,h.head.cell];rfl
theorem lX.out(h:lX w N n X){v:Nat}(hv:v<n):∃s,N.dZ[v]? =some s/\w.cell? ((⟨N.go,0,none⟩:Addr).add (v*1))=some (sv s):=by
 have hl:=h.len;refine⟨N.dZ[v],cM aB,?_⟩;rw[aS,h.sK.cell];simp[VJ hv,cM (show v<N.dZ.length by omega)]
theorem lX.LN(h:lX w N n X){v:Nat}(hv:v<n):∃s,N.dZ[n+v]? =some s/\w.cell? ((⟨N.gi,0,none⟩:Addr).add (v*1))=some (sv s):=by
 have hl:=h.len;refine⟨N.dZ[n+v],cM aB,?_⟩;rw[aS,h.LB.cell];simp[ly7,cM (show n+v<N.dZ.length by omega)]
theorem lX.FZ(h:lX w N n X){i:Nat}{s s':Sl}{xs:List bO}(hs:N.dZ[i]? =some s)(hv:dD w' iA 4 dU s' xs)(ho:cU w' N.go DS (((N.dZ.set i s').take n).map sv))(hi:cU w' N.gi DS (((N.dZ.set i s').drop n).map sv))
  (hm:aU (λk=>(∃a,s.b=some a/\k=a.block)\/k=N.go\/k=N.gi) w w') (hb:∀a,s'.b=some a->s'.b=s.b\/w.heap.size<=a.block):
  lX w' {N with dZ:=N.dZ.set i s'} n (λj=>if j=i then xs else X j):=by
 have hil:i<N.dZ.length:=(eQ.1 hs).1;have old:∀j u,(N.dZ.set i s')[j]? =some u->(j=i/\u=s')\/(j≠i/\N.dZ[j]? =some u):=by
  intro j u hj;rw[jA] at hj
  by_cases EZ:i=j
  ·subst EZ;simp[hil] at hj;exact .inl ⟨rfl,hj.symm⟩
  ·rw[if_neg EZ] at hj;exact .inr ⟨λh=>EZ h.symm,hj⟩
 have Rf:∀a,s'.b=some a->(s.b=some a)\/(∀k,N.dK k->k≠a.block):=by
  intro a ha;rcases hb a ha with h1|h1
  ·exact .inl (h1▸ha)
  ·exact .inr λk hk=>by have:=h.lt hk;omega
 constructor
 ·refine h.head.aK hm ?_;rintro(⟨a,ha,hk⟩|hk|hk)
  ·exact(h.sep i s a hs ha).1 hk.symm
  ·exact h.hd.1 hk
  ·exact h.hd.2.1 hk
 ·exact ho
 ·exact hi
 ·simpa using h.len
 ·intro j u hj;rcases old j u hj with⟨rfl,rfl⟩|⟨gK,qP⟩
  ·simpa using hv
  ·simp only[gK,if_false];refine(h.row j u qP).aK hm λb bR=>?_;rintro(⟨a,ha,hk⟩|hk|hk)
   ·exact gK (h.Eb j i u s b a qP hs bR ha hk)
   ·exact(h.sep j u b qP bR).2.1 hk
   ·exact(h.sep j u b qP bR).2.2 hk
 ·intro j u a hj ha;rcases old j u hj with⟨rfl,rfl⟩|⟨gK,qP⟩
  ·rcases Rf a ha with h1|h1
   ·exact h.sep j s a hs h1
   ·exact⟨λe=>h1 _ (.inl rfl) e.symm,λe=>h1 _ (.inr (.inl rfl)) e.symm,λe=>h1 _ (.inr (.inr (.inl rfl))) e.symm⟩
  ·exact h.sep j u a qP ha
 ·intro j k u x a b hj hk ha bR he;rcases old j u hj with⟨rfl,rfl⟩|⟨gK,qP⟩<;>rcases old k x hk with⟨rfl,rfl⟩|⟨YS,lT⟩
  ·rfl
  ·rcases Rf a ha with h1|h1
   ·exact h.Eb j k s x a b hs lT h1 bR he
   ·exact absurd he.symm (h1 _ (.inr (.inr (.inr ⟨k,x,b,lT,bR,rfl⟩))))
  ·rcases Rf b bR with h1|h1
   ·exact h.Eb j k u s a b qP hs ha h1 he
   ·exact absurd he (h1 _ (.inr (.inr (.inr ⟨j,u,a,qP,ha,rfl⟩))))
  ·exact h.Eb j k u x a b qP lT ha bR he
 ·exact h.hd
theorem mY.OK{i:Nat}{s s':Sl}{P:Nat->Prop}(hs:N.dZ[i]? =some s)(hb:∀a,s'.b=some a->s'.b=s.b\/P a.block){k:Nat}(hk:({N with dZ:=N.dZ.set i s'}:mY).dK k):N.dK k\/P k:=by
 have hil:i<N.dZ.length:=(eQ.1 hs).1;rcases hk with hk|hk|hk|⟨j,u,a,hj,ha,rfl⟩
 ·exact .inl (.inl hk)
 ·exact .inl (.inr (.inl hk))
 ·exact .inl (.inr (.inr (.inl hk)))
 ·simp only[jA] at hj
  by_cases EZ:i=j
  ·subst EZ;simp[hil] at hj;subst hj;rcases hb a ha with h1|h1
   ·exact .inl (.inr (.inr (.inr ⟨i,s,a,hs,h1▸ha,rfl⟩)))
   ·exact .inr h1
  ·rw[if_neg EZ] at hj;exact .inl (.inr (.inr (.inr ⟨j,u,a,hj,ha,rfl⟩)))
theorem lX.mv(h:lX w N n X){v:Nat}(hv:v<n){s s':Sl}{xs:List bO}(hs:N.dZ[v]? =some s)(hvec:dD w' iA 4 dU s' xs)(hm:aU (λk=>∃a,s.b=some a/\k=a.block) w w')(hb:s'.b=s.b\/(∀a,s'.b=some a->w.heap.size<=a.block))
  {K:aH->Prop} (hK:∀w2,lX w2 {N with dZ:=N.dZ.set v s'} n (λj=>if j=v then xs else X j)->aU N.dK w w2->w2.heap.size=w'.heap.size->K w2):aI prog DS ((⟨N.go,0,none⟩:Addr).add (v*1)) (sv s') w' K:=by
 have hl:=h.len;have bR:∀a,s'.b=some a->s'.b=s.b\/w.heap.size<=a.block:=λa ha=>hb.imp id λh=>h a ha;have hns:∀k,(∃a,s.b=some a/\k=a.block)->k≠N.go/\k≠N.gi:=λk ⟨a,ha,hk⟩=>by have:=h.sep v s a hs ha;rw[hk];exact this.2
 have ho:=h.sK.aK hm λhk=>(hns _ hk).1 rfl;have hi:=h.LB.aK hm λhk=>(hns _ hk).2 rfl;rw[aS,gI,Nat.mul_one];refine cH ho Oe (by simp;omega) rfl rfl λw2 Vc jd hz=>?_;have qS:aU (λk=>(∃a,s.b=some a/\k=a.block)\/k=N.go\/k=N.gi) w w2:=(hm.mono λ_ _ h=>.inl h).tr (jd.mono λ_ _ h=>.inr (.inl h));refine hK w2 (h.FZ hs (hvec.aK jd λa ha he=>?_) ?_ ?_ qS bR) (qS.mono λk _ hk=>?_) hz
 ·rcases bR a ha with h1|h1
  ·exact(h.sep v s a hs (h1▸ha)).2.1 he
  ·have:=h.sK.lt;omega
 ·rw[<-List.map_set,<-List.take_set] at Vc;exact Vc
 ·rw[List.drop_set_of_lt aB];exact hi.aK jd λe=>h.hd.2.2 e.symm
 ·rcases hk with⟨a,ha,hk⟩|hk|hk
  ·exact .inr (.inr (.inr ⟨v,s,a,hs,ha,hk.symm⟩))
  ·exact .inr (.inl hk)
  ·exact .inr (.inr (.inl hk))
theorem lX.putIn(h:lX w N n X){v:Nat}(hv:v<n){s s':Sl}{xs:List bO}(hs:N.dZ[n+v]? =some s)(hvec:dD w' iA 4 dU s' xs)(hm:aU (λk=>∃a,s.b=some a/\k=a.block) w w')(hb:s'.b=s.b\/(∀a,s'.b=some a->w.heap.size<=a.block))
  {K:aH->Prop} (hK:∀w2,lX w2 {N with dZ:=N.dZ.set (n+v) s'} n (λj=>if j=n+v then xs else X j)->aU N.dK w w2->w2.heap.size=w'.heap.size->K w2):aI prog DS ((⟨N.gi,0,none⟩:Addr).add (v*1)) (sv s') w' K:=by
 have hl:=h.len;have bR:∀a,s'.b=some a->s'.b=s.b\/w.heap.size<=a.block:=λa ha=>hb.imp id λh=>h a ha;have hns:∀k,(∃a,s.b=some a/\k=a.block)->k≠N.go/\k≠N.gi:=λk ⟨a,ha,hk⟩=>by have:=h.sep (n+v) s a hs ha;rw[hk];exact this.2
 have ho:=h.sK.aK hm λhk=>(hns _ hk).1 rfl;have hi:=h.LB.aK hm λhk=>(hns _ hk).2 rfl;rw[aS,gI,Nat.mul_one];refine cH hi Oe (by simp;omega) rfl rfl λw2 Vc jd hz=>?_;have qS:aU (λk=>(∃a,s.b=some a/\k=a.block)\/k=N.go\/k=N.gi) w w2:=(hm.mono λ_ _ h=>.inl h).tr (jd.mono λ_ _ h=>.inr (.inr h));refine hK w2 (h.FZ hs (hvec.aK jd λa ha he=>?_) ?_ ?_ qS bR) (qS.mono λk _ hk=>?_) hz
 ·rcases bR a ha with h1|h1
  ·exact(h.sep (n+v) s a hs (h1▸ha)).2.2 he
  ·have:=h.LB.lt;omega
 ·rw[List.take_set_of_le aB];exact ho.aK jd h.hd.2.2
 ·rw[<-List.map_set] at Vc;have:(N.dZ.drop n).set v s'=(N.dZ.set (n+v) s').drop n:=by rw[List.drop_set];simp;omega
  rwa[this] at Vc
 ·rcases hk with⟨a,ha,hk⟩|hk|hk
  ·exact .inr (.inr (.inr ⟨n+v,s,a,hs,ha,hk.symm⟩))
  ·exact .inr (.inl hk)
  ·exact .inr (.inr (.inl hk))
end
theorem isV_i{x:Int}{n:Nat}{b:Nat}{w:aH}{K:Value->aH->Prop}(hn:cU w b dG [aD (n:Int)])(hK:∀r:Bool,(r=true↔0<=x/\x<n)->K (.bool r) w):
  lI prog (.func (.func Tv) #[] #[.pointer (some ⟨b,0,none⟩)]) [aD x] w K:=by
 refine pI cg iT (gN (ks:=[.i,.c .ptr]) (t:=(x,some ⟨b,0,none⟩,())) ?_);show ET x (some ⟨b,0,none⟩) w λr w'=>K (.bool r) w';unfold ET;refine aJ (λh=>?_) (λh=>?_)
 ·refine aA rfl (aE (k:=.i) (n:Int) (by rw[hn.cell];rfl) (hK _ ?_));simp;omega
 ·exact hK false (by simp;omega)
theorem may_i{g n:Nat}{si:Value}{o1:cR}{c1:Nat}{a:bO}{w:aH}{Q:Bool->aH->Prop}(hh:cU w g tNet [.slice o1 n c1,si])(hQ:∀w' (r:Bool),aL w w'->(r=true↔FD n a)->Q r w'):
  NB (some ⟨g,0,none⟩) (nM a) w Q:=by
 unfold NB;simp only[aG];have k1:=aL.alloc w (.cells #[aD a.f,aD a.t,aD a.w,aD a.m] 128);have PM:cU (w.alloc (.cells #[aD a.f,aD a.t,aD a.w,aD a.m] 128)) w.heap.size 128 (dU a):=cU.iP w _ 128;generalize Uy:w.alloc (.cells #[aD a.f,aD a.t,aD a.w,aD a.m] 128)=w1 at*;generalize UP:w.heap.size=b1 at*;refine aA rfl (aE (k:=.slice) ⟨o1,n,c1⟩ (by rw[aS,(hh.aK k1 id).cell];rfl) ?_);have k2:=aL.alloc w1 (.cells #[aD 0] 3);have o2:=cU.iP w1 #[aD 0] 3;have cC:b1<w1.heap.size:=PM.lt;have o1'':=PM.aK k2 id;generalize w1.alloc (.cells #[aD 0] 3)=w2 at*;generalize PQ:w1.heap.size=b2 at*;refine cH o2 cZ dN rfl rfl λw3 o3 m3 _=>?_;have oa:=o1''.aK m3 aB;have on:cU w3 b2 dG [aD (n:Int)]:=o3;have hk:aL w w3:=aU.fresh (k1.tr k2) m3 λk hk=>aB;have l0:w3.cell? ((⟨b1,0,none⟩:Addr).add 0)=some (aD a.f):=by rw[aS,oa.cell];rfl
 have l1:w3.cell? ((⟨b1,0,none⟩:Addr).add 1)=some (aD a.t):=by rw[aS,oa.cell];rfl
 have l2:w3.cell? ((⟨b1,0,none⟩:Addr).add 2)=some (aD a.w):=by rw[aS,oa.cell];rfl
 have l3:w3.cell? ((⟨b1,0,none⟩:Addr).add 3)=some (aD a.m):=by rw[aS,oa.cell];rfl
 intro J hJ;have no:¬FD n a->Q false w3:=λh=>hQ w3 false hk ⟨λh=>by simp at h,λh'=>absurd h' h⟩;have hJ':∀mid:Bool,(mid=true↔(a.m=-1\/(0<=a.m/\a.m<n/\a.m≠a.f/\a.m≠a.t)))->J (mid,()) w3:=by
  intro mid hmid;apply hJ;refine aE (k:=.i) a.f l0 ?_;refine isV_i on λr hr=>⟨r,rfl,?_⟩;refine aF (λh=>?_) (λh=>no λhm=>?_)
  ·have h1:=hr.1 h;refine aE (k:=.i) a.t l1 ?_;refine isV_i on λr' Vb=>⟨r',rfl,?_⟩;refine aF (λh=>?_) (λh=>no λhm=>?_)
   ·have h2:=Vb.1 h;refine aE (k:=.i) a.f l0 (aE (k:=.i) a.t l1 ?_);refine aF (λh=>?_) (λh=>no λhm=>?_)
    ·have h3:a.f≠a.t:=by simpa using h
     refine aE (k:=.i) a.w l2 ?_;refine aJ (λh4=>?_) (λh=>no λhm=>?_)
     ·refine aE (k:=.i) a.w l2 ?_;refine aJ (λh5=>?_) (λh=>no λhm=>?_)
      ·refine hQ w3 mid hk ?_;rw[hmid];exact⟨λh=>⟨h1.1,h1.2,h2.1,h2.2,h3,h4,h5,h⟩,λh=>h.2.2.2.2.2.2.2⟩
      ·exact h hm.2.2.2.2.2.2.1
     ·exact h hm.2.2.2.2.2.1
    ·have:a.f=a.t:=by simpa using h
     exact hm.2.2.2.2.1 this
   ·rw[Vb.2 ⟨hm.2.2.1,hm.2.2.2.1⟩] at h;cases h
  ·rw[hr.2 ⟨hm.1,hm.2.1⟩] at h;cases h
 refine aE (k:=.i) a.m l3 ?_;refine aF (λh=>hJ' true ⟨λ_=>.inl (by simpa using h),λ_=>rfl⟩) (λh=>?_);have ua:a.m≠-1:=by simpa using h
 refine aE (k:=.i) a.m l3 ?_;refine isV_i on λr hr=>⟨r,rfl,?_⟩;refine aF (λh=>?_) (λh=>hJ' false ⟨λh=>by simp at h,λh'=>?_⟩)
 ·have h1:=hr.1 h;refine aE (k:=.i) a.m l3 (aE (k:=.i) a.f l0 ?_);refine aF (λh=>?_) (λh=>hJ' false ⟨λh=>by simp at h,λh'=>?_⟩)
  ·have h2:a.m≠a.f:=by simpa using h
   refine aE (k:=.i) a.m l3 (aE (k:=.i) a.t l1 (hJ' _ ?_))
   constructor
   ·intro h;exact .inr ⟨h1.1,h1.2,h2,by simpa using h⟩
   ·rintro(h|h)
    ·exact absurd h ua
    ·simpa using h.2.2.2
  ·have h2:a.m=a.f:=by simpa using h
   rcases h' with h'|h'
   ·exact absurd h' ua
   ·exact absurd h2 h'.2.2.1
 ·rcases h' with h'|h'
  ·exact absurd h' ua
  ·rw[hr.2 ⟨h'.1,h'.2.1⟩] at h;cases h
def kH(n:Nat)(l:List bO)(i:Nat):List bO:=if i<n then eC l (i:Int) else nX l ((i:Int)-n)
structure kY(w:aH)(N:mY)(n:Nat)(l:List bO):Prop where
 at_:lX w N n (kH n l)
 ok:sD n l
 sz:n<=512
theorem kY.aO{w w':aH}{N:mY}{n:Nat}{l:List bO}(h:kY w N n l)(k:aL w w'):kY w' N n l:=⟨h.at_.aO k,h.ok,h.sz⟩
theorem kY.aK{F:Nat->Prop}{w w':aH}{N:mY}{n:Nat}{l:List bO}(h:kY w N n l)(k:aU F w w')(hF:∀k,N.dK k->¬F k):kY w' N n l:=⟨h.at_.aK k hF,h.ok,h.sz⟩
end
section
abbrev Cm(x:It):List Value:=[aD x.id,aD x.key]
abbrev itV(x:It):Value:=.agg #[aD x.id,aD x.key]
abbrev zK(x:It):Int×Int×Unit:=(x.id,x.key,())
theorem sE:∀x:It,(Cm x).length=2:=λ_=>rfl
theorem oneIt:∀x:It,∀u∈Cm x,u.oneCell'=true:=by intro x u hu;simp at hu;rcases hu with rfl|rfl<;>rfl
abbrev FA:Int->Value:=λn=>aD n
abbrev Li:oL:=.i
theorem par_q{i:Nat}(h0:0<i)(h1:i<4611686018427387904):aQ (Int.tdiv (aQ ((i:Int)-1)) 2)=(((i-1)/2:Nat):Int):=by
 rw[gZ (n:=(i:Int)-1) aB aB];have e:((i:Int)-1)=((i-1:Nat):Int):=aB;have e2:Int.tdiv ((i-1:Nat):Int) 2=(((i-1)/2:Nat):Int):=by rw[Int.tdiv_eq_ediv_of_nonneg aB];omega
 rw[e,e2,gZ aB aB]
theorem xK{w:aH}{g:Nat}{cs:List Value}{x:It}{K:aH->Prop}(h:cU w g kX cs)(hl:cs.length=2)(hK:∀w',cU w' g kX (Cm x)->aU (λk=>k=g) w w'->K w'):
  aI prog kX ⟨g,0,none⟩ (itV x) w K:=by
 refine CH h ZJ (by simp[Value.cells,hl]) (by simp[Value.cells,Value.oneCell']) λw' ho hm _=>hK w' ?_ hm;have:cs.take 0++(itV x).cells.toList++cs.drop (0+(itV x).cells.size)=Cm x:=by simp[Value.cells,List.drop_of_length_le (show cs.length<=2 by omega)]
 rwa[this] at ho
theorem ML{w:aH}{g:Nat}{x:It}(h:cU w g kX (Cm x)):bQ w ⟨g,0,none⟩ 0 (qT [.i,.i] (zK x)):=h.holds λj v hj=>by rw[gI];exact hj
theorem GU{w:aH}{s:Sl}{xs:List It}(h:Rd w s 2 Cm xs){i:Nat}{x:It}(hx:xs[i]? =some x):∃a,s.b=some a/\bQ w (a.add (i*2)) 0 (qT [.i,.i] (zK x)):=h.get i x hx
theorem Tl{x y:It}{w:aH}{Q:Bool->aH->Prop}(hQ:∀w',aL w w'->Q (qD x y) w'):kM (zK x) (zK y) w Q:=by
 unfold kM;simp only[aG];have o1:cU (w.alloc (.cells #[aD x.id,aD x.key] kX)) w.heap.size kX (Cm x):=cU.iP w _ _;have k1:=aL.alloc w (.cells #[aD x.id,aD x.key] kX);have xS:(w.alloc (.cells #[aD x.id,aD x.key] kX)).heap.size=w.heap.size+1:=by simp
 generalize w.alloc (.cells #[aD x.id,aD x.key] 242)=w1 at*;have o2:cU (w1.alloc (.cells #[aD y.id,aD y.key] kX)) w1.heap.size kX (Cm y):=cU.iP w1 _ _;have k2:=aL.alloc w1 (.cells #[aD y.id,aD y.key] kX);have PM:=o1.aK k2 id;generalize w1.alloc (.cells #[aD y.id,aD y.key] 242)=w2 at*;have x0:w2.cell? ((⟨w.heap.size,0,none⟩:Addr).add 0)=some (aD x.id):=by rw[aS,PM.cell];rfl
 have x1:w2.cell? ((⟨w.heap.size,0,none⟩:Addr).add 1)=some (aD x.key):=by rw[aS,PM.cell];rfl
 have y0:w2.cell? ((⟨w1.heap.size,0,none⟩:Addr).add 0)=some (aD y.id):=by rw[aS,o2.cell];rfl
 have y1:w2.cell? ((⟨w1.heap.size,0,none⟩:Addr).add 1)=some (aD y.key):=by rw[aS,o2.cell];rfl
 have hk:=k1.tr k2;refine aE (k:=.i) x.key x1 (aE (k:=.i) y.key y1 ?_);refine aJ (λh=>?_) (λh=>?_)
 ·have:qD x y=true:=kI.2 (.inl h);rw[<-this];exact hQ w2 hk
 ·refine aE (k:=.i) x.key x1 (aE (k:=.i) y.key y1 ?_);refine aF (λhe=>?_) (λhe=>?_)
  ·have uK:x.key=y.key:=by simpa using he
   refine aE (k:=.i) x.id x0 (aE (k:=.i) y.id y0 ?_);have:qD x y=decide (x.id<y.id):=by unfold qD;simp[uK]
   rw[<-this];exact hQ w2 hk
  ·have uK:x.key≠y.key:=by simpa using he
   have:qD x y=false:=by
    have:¬qD x y=true:=by rw[kI];omega
    simpa using this
   rw[<-this];exact hQ w2 hk
structure HS where
 g:Nat
 r:Nat
 s:Sl
def HS.dK(H:HS)(k:Nat):Prop:=k=H.g\/k=H.r\/∃a,H.s.b=some a/\k=a.block
structure VD(w:aH)(H:HS)(xs:List It)(f:Int->Option Int):Prop where
 head:cU w H.g vf [sv H.s,.map (some H.r)]
 US:dD w kX 2 Cm H.s xs
 map:∃n,kV w H.r FA Li f n
 gr:H.g≠H.r
 sg:∀a,H.s.b=some a->a.block≠H.g
 sr:∀a,H.s.b=some a->a.block≠H.r
section
variable{w:aH}{H:HS}{xs:List It}{f:Int->Option Int}
theorem VD.lt(h:VD w H xs f){k:Nat}(hk:H.dK k):k<w.heap.size:=by
 rcases hk with rfl|rfl|⟨a,ha,rfl⟩
 ·exact h.head.lt
 ·obtain⟨n,hm⟩:=h.map;exact hm.lt
 ·exact h.US.lt ha
theorem VD.aK{F:Nat->Prop}{w':aH}(h:VD w H xs f)(m:aU F w w')(hF:∀k,H.dK k->¬F k):VD w' H xs f:=
 ⟨h.head.aK m (hF _ (.inl rfl)),h.US.aK m λa ha=>hF _ (.inr (.inr ⟨a,ha,rfl⟩)),by obtain⟨n,hm⟩:=h.map;exact⟨n,hm.aK m (hF _ (.inr (.inl rfl)))⟩,h.gr,h.sg,h.sr⟩
theorem VD.aO{w':aH}(h:VD w H xs f)(k:aL w w'):VD w' H xs f:=h.aK k λ_ _=>id
theorem VD.c0(h:VD w H xs f):w.cell? ((⟨H.g,0,none⟩:Addr).add 0)=some (sv H.s):=by rw[aS,h.head.cell];rfl
theorem VD.c1(h:VD w H xs f):w.cell? ((⟨H.g,0,none⟩:Addr).add 1)=some (.map (some H.r)):=by rw[aS,h.head.cell];rfl
theorem VD.nO(h:VD w H xs f){i:Nat}(hi:i<xs.length):∃b,H.s.b=some b:=by
 obtain⟨a,ha,_⟩:=(h.US.rd sE).get i xs[i] (cM hi);exact⟨a,ha⟩
theorem vv{i:Nat}{x:It}{Q:aH->Prop}(h:VD w H xs f)(hi:i<xs.length)
  (hQ:∀w',VD w' H (xs.set i x) (λv=>if v=x.id then some (i:Int) else f v)->aU H.dK w w'->Q w'):rD (some ⟨H.g,0,none⟩) (i:Int) (zK x) w Q:=by
 unfold rD;simp only[aG];have o1:cU (w.alloc (.cells #[aD x.id,aD x.key] kX)) w.heap.size kX (Cm x):=cU.iP w _ _;have k1:=aL.alloc w (.cells #[aD x.id,aD x.key] kX);generalize w.alloc (.cells #[aD x.id,aD x.key] 242)=w1 at*;have k1d:aL w w1.drew:=k1.drew;have o1d:cU w1.drew w.heap.size kX (Cm x):=o1;have h1:=h.aO k1d;have hl:=h1.US.len;obtain⟨b,hb⟩:=h1.nO hi;have hbw:b.block<w.heap.size:=h.lt (.inr (.inr ⟨b,hb,rfl⟩));refine aA rfl (aE (k:=.slice) H.s h1.c0 (aA rfl (aE (k:=.map) (some H.r) h1.c1 ?_)));refine aE (k:=.i) x.id (by rw[aS,o1d.cell];rfl) (aX (zK x) (ML o1d) ?_);refine⟨⟨aB,aB⟩,aA hb ?_⟩;rw[dW];refine h1.US.store sE hb hi x (v:=itV x) rfl ZJ (oneIt x) λw2 v2 m2 z2=>?_;refine⟨by rw[aS,(o1d.aK m2 aB).cell];rfl,?_⟩;obtain⟨n,hm⟩:=h1.map;refine Th (kn:=Li) pE lF (z:=(0:Int)) MP (hm.aK m2 (Ne.symm (h.sr b hb))) x.id (i:Int) λw3 hm3 m3 _=>?_;refine hQ w3 ⟨(h1.head.aK m2 (Ne.symm (h.sg b hb))).aK m3 h.gr,v2.aK m3 λa ha=>h.sr a ha,⟨_,hm3⟩,h.gr,h.sg,h.sr⟩ ?_;exact(k1d.wk.trans m2 λk _ hk=>.inr (.inr ⟨b,hb,hk⟩)).trans m3 λk _ hk=>.inr (.inl hk)
end
theorem up_i{w:aH}{H:HS}{ys:List It}{f:Int->Option Int}{i:Nat}{Q:aH->Prop}(h:VD w H ys f)(hi:i<ys.length)(gD:ys.length<4611686018427387904)(hu:UpI ys i)(hp:FM f ys i)(ha:QY ys)
  (hQ:∀w' zs f',VD w' H zs f'->HOk zs->uR f' zs->(∀u,u∈zs↔u∈ys)->zs.length=ys.length->aU H.dK w w'->Q w'):Fc (some ⟨H.g,0,none⟩) (i:Int) w Q:=by
 unfold Fc;have hl:=h.US.len;obtain⟨x,hx⟩:∃x,ys[i]? =some x:=⟨_,cM hi⟩;obtain⟨b,hb,hh⟩:=GU (h.US.rd sE) hx;refine aA rfl (aE (k:=.slice) H.s h.c0 ⟨⟨aB,aB⟩,aA hb ?_⟩);rw[dW];refine aX (zK x) hh ?_;simp only[aG];have k1:=aL.alloc w (.cells #[aD 0,aD 0] kX);have o1:cU (w.alloc (.cells #[aD 0,aD 0] kX)) w.heap.size kX (Cm ⟨0,0⟩):=cU.iP w _ _;generalize w.alloc (.cells #[aD 0,aD 0] 242)=w1 at*;refine xK (x:=x) o1 rfl λw2 o2 m2=>?_;have k2:aL w w2:=aU.fresh k1 m2 λk hk=>aB;generalize jl:w.heap.size=b3 at*;have hHb:∀k,H.dK k->¬k=b3:=λk hk e=>by have:=h.lt hk;omega
 have z0:ys.set i x=ys:=by
  apply yG;intro j;rw[jA]
  by_cases e:i=j
  ·subst e;rw[if_pos rfl,if_pos hi,hx]
  ·rw[if_neg e]
 refine bL (λc t w3=>∃(i':Nat) (FV:List It) (f':Int->Option Int),c=i'/\t=((i':Int),())/\VD w3 H FV f'/\i'<FV.length/\FV.length=ys.length/\UpI (FV.set i' x) i'/\FM f' (FV.set i' x) i'/\QY (FV.set i' x)/\
   (∀u,u∈FV.set i' x↔u∈ys)/\cU w3 b3 kX (Cm x)/\aU H.dK w w3) i
  ⟨i,ys,f,rfl,rfl,h.aO k2,hi,rfl,by rw[z0];exact hu,by rw[z0];exact hp,by rw[z0];exact ha,by rw[z0];exactλ_=>Iff.rfl,o2,k2.wk⟩ ?_
 rintro i t w3 ⟨_,FV,f',rfl,rfl,h3,hi3,hl3,hu3,hp3,ha3,hm3,o3,m3⟩ X hX;dsimp only;have Vo:(FV.set i x)[i]? =some x:=by rw[jA,if_pos rfl,if_pos hi3]
 have finish:∀{w4:aH},aL w3 w4->UpI (FV.set i x) i->HOk (FV.set i x)->rD (some ⟨H.g,0,none⟩) (i:Int) (zK x) w4 Q:=λ{w4} k4 _ oJ=>by
  refine vv (x:=x) (h3.aO k4) hi3 λw5 h5 m5=>?_;refine hQ w5 _ _ h5 oJ (hp3.done Vo λj z hj hz e=>hj (ha3 j i z x hz Vo e)) hm3 (by rw[nN];exact hl3) ((m3.tr k4.wk).tr m5)
 have d3:aL w3 w3.drew:=aU.drew (aU.refl _ w3);refine aJ (λuB=>?_) (λDE=>?_)
 ·have hi0:0<i:=aB;have hpi:(i-1)/2<i:=aB;obtain⟨y,hy⟩:∃y,FV[(i-1)/2]? =some y:=⟨_,cM aB⟩;have hzp:(FV.set i x)[(i-1)/2]? =some y:=by rw[jA,if_neg aB];exact hy
  have hpar:=par_q hi0 aB;have La:=h3.aO d3;obtain⟨b',bR,Kw⟩:=GU (La.US.rd sE) hy;refine aX (zK x) (ML (o3.aK d3 id)) (aA rfl (aE (k:=.slice) H.s La.c0 ⟨by decide,?_⟩));rw[hpar,dW];refine⟨⟨aB,aB⟩,aA bR (aX (zK y) Kw ?_)⟩;refine Tl (x:=x) (y:=y) λw4 k4=>?_;have k34:=d3.tr k4;have h4:=h3.aO k34;refine aF (λcC=>?_) (λkC=>?_)
  ·obtain⟨b',bR,Kw⟩:=GU (h4.US.rd sE) hy;refine aA rfl (aE (k:=.slice) H.s h4.c0 ⟨by decide,⟨aB,aB⟩,aA bR (aX (zK y) Kw ?_)⟩);refine vv (x:=y) h4 hi3 λw5 h5 m5=>⟨by decide,?_⟩;have hss:((FV.set i x).set i y).set ((i-1)/2) x=(FV.set i y).set ((i-1)/2) x:=by rw[List.set_set]
   have vE:=up_step hu3 hi0 Vo hzp cC;have hps:=hp3.swap Vo hzp aB;have dK:=ha3.swap Vo hzp;have Vp:=Sc Vo hzp;rw[hss] at vE hps dK;simp only[hss] at Vp;exact hX ((i-1)/2) _ _ aB ⟨(i-1)/2,FV.set i y,_,rfl,rfl,h5,by rw[nN];omega,by rw[nN];exact hl3,vE,hps,dK,λu=>(Vp u).trans (hm3 u),(o3.aK k34 id).aK m5 λhk=>hHb _ hk rfl,(m3.tr k34.wk).tr m5⟩
  ·exact aX (zK x) (ML (o3.aK k34 id)) (finish k34 hu3 (up_end hu3 Vo (.inr ⟨y,hzp,kC⟩)))
 ·exact aX (zK x) (ML (o3.aK d3 id)) (finish d3 hu3 (up_end hu3 Vo (.inl aB)))
theorem down_i{w:aH}{H:HS}{ys:List It}{f:Int->Option Int}{Q:aH->Prop}(h:VD w H ys f)(hi:0<ys.length)(gD:ys.length<2305843009213693952)(hu:Xm ys 0)(hp:FM f ys 0)(ha:QY ys)
  (hQ:∀w' zs f',VD w' H zs f'->HOk zs->uR f' zs->(∀u,u∈zs↔u∈ys)->zs.length=ys.length->aU H.dK w w'->Q w'):PF (some ⟨H.g,0,none⟩) 0 w Q:=by
 unfold PF;have hl:=h.US.len;obtain⟨x,hx⟩:∃x,ys[0]? =some x:=⟨_,cM hi⟩;obtain⟨b,hb,hh⟩:=GU (h.US.rd sE) hx;refine aA rfl (aE (k:=.slice) H.s h.c0 ⟨⟨aB,aB⟩,aA hb ?_⟩);refine aX (zK x) hh ?_;simp only[aG];have k1:=aL.alloc w (.cells #[aD 0,aD 0] kX);have o1:cU (w.alloc (.cells #[aD 0,aD 0] kX)) w.heap.size kX (Cm ⟨0,0⟩):=cU.iP w _ _;generalize w.alloc (.cells #[aD 0,aD 0] 242)=w1 at*;refine xK (x:=x) o1 rfl λw2 o2 m2=>?_;have k2:aL w w2:=aU.fresh k1 m2 λk hk=>aB;generalize jl:w.heap.size=b3 at*;have hHb:∀k,H.dK k->¬k=b3:=λk hk e=>by have:=h.lt hk;omega
 have z0:ys.set 0 x=ys:=by
  apply yG;intro j;rw[jA]
  by_cases e:0=j
  ·subst e;rw[if_pos rfl,if_pos hi,hx]
  ·rw[if_neg e]
 refine bL (λc t w3=>∃(i':Nat) (FV:List It) (f':Int->Option Int),c=ys.length-i'/\t=((i':Int),())/\VD w3 H FV f'/\i'<FV.length/\FV.length=ys.length/\Xm (FV.set i' x) i'/\FM f' (FV.set i' x) i'/\QY (FV.set i' x)/\
   (∀u,u∈FV.set i' x↔u∈ys)/\cU w3 b3 kX (Cm x)/\aU H.dK w w3) ys.length
  ⟨0,ys,f,rfl,rfl,h.aO k2,hi,rfl,by rw[z0];exact hu,by rw[z0];exact hp,by rw[z0];exact ha,by rw[z0];exactλ_=>Iff.rfl,o2,k2.wk⟩ ?_
 rintro c t w3 ⟨i,FV,f',hci,rfl,h3,hi3,hl3,hu3,hp3,ha3,hm3,o3,m3⟩ X hX;subst hci;dsimp only;have Vo:(FV.set i x)[i]? =some x:=by rw[jA,if_pos rfl,if_pos hi3]
 have zne:∀j,j≠i->(FV.set i x)[j]? =FV[j]?:=λj hj=>by rw[jA,if_neg (Ne.symm hj)]
 have hzl:(FV.set i x).length=ys.length:=by rw[nN];exact hl3
 have d3:aL w3 w3.drew:=aU.drew (aU.refl _ w3);have finish:∀{w4:aH},aL w3 w4->HOk (FV.set i x)->rD (some ⟨H.g,0,none⟩) (i:Int) (zK x) w4 Q:=λ{w4} k4 oJ=>by
  refine vv (x:=x) (h3.aO k4) hi3 λw5 h5 m5=>?_;refine hQ w5 _ _ h5 oJ (hp3.done Vo λj z hj hz e=>hj (ha3 j i z x hz Vo e)) hm3 hzl ((m3.tr k4.wk).tr m5)
 have e1:aQ (aQ ((2:Int)*(i:Int))+1)=((2*i+1:Nat):Int):=by rw[gZ (n:=(2:Int)*(i:Int)) aB aB,gZ aB aB];omega
 have e2:aQ (((2*i+1:Nat):Int)+1)=((2*i+2:Nat):Int):=by rw[gZ aB aB];omega
 intro J hJ;have after:∀(k:Nat) (w4:aH),aL w3 w4->(k=2*i+1\/k=2*i+2)->(ys.length<=k->ys.length<=2*i+1)->(∀y,FV[k]? =some y->∀s,0<s->(s-1)/2=i->∀v,FV[s]? =some v->qD v y=false)->J ((k:Int),()) w4:=by
  intro k w4 k4 hk hkl kv;apply hJ;dsimp only;have d4:aL w4 w4.drew:=aU.drew (aU.refl _ w4);have k4d:=k4.tr d4;have h4:=h3.aO k4d;refine aA rfl (aE (k:=.slice) H.s h4.c0 ?_);refine aJ (λkC=>?_) (λcC=>?_)
  ·refine aX (zK x) (ML (o3.aK k4d id)) (finish k4d (Yq hu3 Vo λs hs jb v hv=>?_));have xS:=(eQ.1 hv).1;have:=hkl aB;omega
  ·have hkl':k<FV.length:=aB;obtain⟨y,hy⟩:∃y,FV[k]? =some y:=⟨_,cM hkl'⟩;have hki:k≠i:=aB;have hzk:(FV.set i x)[k]? =some y:=by rw[zne k hki];exact hy
   have hminz:∀s,0<s->(s-1)/2=i->∀v,(FV.set i x)[s]? =some v->qD v y=false:=λs hs jb v hv=>by
    rw[zne s aB] at hv;exact kv y hy s hs jb v hv
   obtain⟨b',bR,Kw⟩:=GU (h4.US.rd sE) hy;have gX:0<=(k:Int)/\(k:Int)<(H.s.l:Int):=⟨aB,aB⟩;rw[dW];refine aA rfl (aE (k:=.slice) H.s h4.c0 ⟨gX,aA bR (aX (zK y) Kw (aX (zK x) (ML (o3.aK k4d id)) ?_))⟩);refine Tl (x:=y) (y:=x) λw6 k6=>?_;have k46:=k4d.tr k6;have h6:=h3.aO k46;refine aF (λhb=>?_) (λhb=>?_)
   ·have kC:qD y x=false:=by simpa using hb
    exact aX (zK x) (ML (o3.aK k46 id)) (finish k46 (Yq hu3 Vo λs hs jb v hv=>le_trans' kC (hminz s hs jb v hv)))
   ·have GM:qD y x=true:=by simpa using hb
    obtain⟨b',bR,Kw⟩:=GU (h6.US.rd sE) hy;refine aA rfl (aE (k:=.slice) H.s h6.c0 ⟨gX,aA bR (aX (zK y) Kw ?_)⟩);refine vv (x:=y) h6 hi3 λw8 h8 m8=>?_;have hss:((FV.set i x).set i y).set k x=(FV.set i y).set k x:=by rw[List.set_set]
    have vE:=down_step hu3 aB aB Vo hzk GM hminz;have hps:=hp3.swap Vo hzk (Ne.symm hki);have dK:=ha3.swap Vo hzk;have Vp:=Sc Vo hzk;rw[hss] at vE hps dK;simp only[hss] at Vp;exact hX (ys.length-k) _ _ aB ⟨k,FV.set i y,_,rfl,rfl,h8,by rw[nN];omega,by rw[nN];exact hl3,vE,hps,dK,λu=>(Vp u).trans (hm3 u),(o3.aK k46 id).aK m8 λhk=>hHb _ hk rfl,(m3.tr k46.wk).tr m8⟩
 have La:=h3.aO d3;refine aA rfl (aE (k:=.slice) H.s La.c0 ?_);rw[e1,e2];refine aJ (λcC=>?_) (λkC=>?_)
 ·have GC:2*i+2<FV.length:=aB;obtain⟨u,hu'⟩:∃u,FV[2*i+2]? =some u:=⟨_,cM GC⟩;obtain⟨v,jZ⟩:∃v,FV[2*i+1]? =some v:=⟨_,cM aB⟩;obtain⟨b1,UP,hh1⟩:=GU (La.US.rd sE) hu';obtain⟨b2,PQ,hh2⟩:=GU (La.US.rd sE) jZ;rw[dW,dW];refine aA rfl (aE (k:=.slice) H.s La.c0 ⟨⟨aB,aB⟩,aA UP (aX (zK u) hh1 ?_)⟩);refine aA rfl (aE (k:=.slice) H.s La.c0 ⟨⟨aB,aB⟩,aA PQ (aX (zK v) hh2 ?_)⟩);refine Tl (x:=u) (y:=v) λw9 k9=>?_;refine aF (λhb=>?_) (λhb=>?_)
  ·refine after (2*i+2) w9 (d3.tr k9) (.inr rfl) (λh=>aB) λy hy s hs jb z hz=>?_;rw[hu'] at hy;cases hy;have:s=2*i+1\/s=2*i+2:=aB;rcases this with rfl|rfl
   ·rw[jZ] at hz;cases hz;exact wg hb
   ·rw[hu'] at hz;cases hz;exact HG _
  ·refine after (2*i+1) w9 (d3.tr k9) (.inl rfl) (λh=>h) λy hy s hs jb z hz=>?_;rw[jZ] at hy;cases hy;have:s=2*i+1\/s=2*i+2:=aB;rcases this with rfl|rfl
   ·rw[jZ] at hz;cases hz;exact HG _
   ·rw[hu'] at hz;cases hz;exact hb
 ·refine after (2*i+1) w3.drew d3 (.inl rfl) (λh=>h) λy hy s hs jb z hz=>?_;have xS:=(eQ.1 hz).1;have:s=2*i+1\/s=2*i+2:=aB;rcases this with rfl|rfl
  ·rw[hy] at hz;cases hz;exact HG _
  ·omega
end
section
theorem mA{q:List It}(h:BQ q):q.Nodup:=h.imp λ{x y} hxy e=>by subst e;rw[HG] at hxy;cases hxy
theorem NN{xs:List It}(h:QY xs):xs.Nodup:=by
 refine Vw.2 λi j hi hj RT e=>?_;have:=h i j _ _ (cM hi) (cM hj) (by rw[e]);omega
theorem Hn{q xs:List It}(h:q.Nodup)(h':xs.Nodup)(hm:∀u,u∈q↔u∈xs):xs.length=q.length:=((List.perm_ext_iff_of_nodup h h').2 hm).length_eq.symm
def oU(w:aH)(H:HS)(q:List It):Prop:=BQ q/\∃xs f,VD w H xs f/\HOk xs/\uR f xs/\(∀u,u∈q↔u∈xs)
def rU(w:aH)(H:HS)(q:List It):Prop:=oU w H q\/(q=[]/\H.s=aZ/\H.r=H.g/\cU w H.g vf [sv aZ,.map none])
section
variable{w:aH}{H:HS}{q:List It}
theorem oU.sO(h:oU w H q):BQ q:=h.1
theorem oU.one(h:oU w H q):Cn q:=by
 obtain⟨_,xs,f,_,_,hp,hm⟩:=h
 exactλx hx y hy e=>hp.one x ((hm x).1 hx) y ((hm y).1 hy) e
theorem oU.lt(h:oU w H q){k:Nat}(hk:H.dK k):k<w.heap.size:=by obtain⟨_,xs,f,h,_⟩:=h;exact h.lt hk
theorem oU.aK{F:Nat->Prop}{w':aH}(h:oU w H q)(m:aU F w w')(hF:∀k,H.dK k->¬F k):oU w' H q:=by
 obtain⟨h0,xs,f,h,r⟩:=h;exact⟨h0,xs,f,h.aK m hF,r⟩
theorem rU.lt(h:rU w H q){k:Nat}(hk:H.dK k):k<w.heap.size:=by
 rcases h with h|⟨_,hs,hr,h⟩
 ·exact h.lt hk
 ·rcases hk with rfl|rfl|⟨a,ha,_⟩
  ·exact h.lt
  ·rw[hr];exact h.lt
  ·rw[hs] at ha;cases ha
theorem rU.aK{F:Nat->Prop}{w':aH}(h:rU w H q)(m:aU F w w')(hF:∀k,H.dK k->¬F k):rU w' H q:=h.imp (λh=>h.aK m hF) λ⟨h0,hs,hr,h⟩=>⟨h0,hs,hr,h.aK m (hF _ (.inl rfl))⟩
theorem rU.aO{w':aH}(h:rU w H q)(k:aL w w'):rU w' H q:=h.aK k λ_ _=>id
theorem xq{Q:Int->aH->Prop}(h:rU w H q)(hQ:Q (q.length:Int) w):CT (some ⟨H.g,0,none⟩) w Q:=by
 unfold CT;refine aF (λh=>by simp at h) (λ_=>aA rfl ?_);rcases h with⟨h0,xs,f,h,_,hp,hm⟩|⟨rfl,hs,hr,h⟩
 ·have:=h.US.len;have hl:=Hn (mA h0) (NN hp.apart) hm;refine aE (k:=.slice) H.s h.c0 ?_;rw[this,hl];exact hQ
 ·exact aE (k:=.slice) aZ (by rw[aS,h.cell];rfl) hQ
theorem XP{v k:Int}(hl:Cs q v k=false)(u:It):u∈(nY q v k).1↔u=⟨v,k⟩\/(u∈q/\u.id≠v):=by
 unfold nY;rw[hl];simp only[Bool.false_eq_true,if_false];rw[yQ,jI];simp
theorem XR(cJ:List Value)(k:Int):∀(ys:List It) (i:Nat) (x:It),ys[i]? =some x->(ys.flatMap Cm++cJ).set (i*2+1) (aD k)=(ys.set i ⟨x.id,k⟩).flatMap Cm++cJ
 | [],i,x,h=>by simp at h
 |y::ys,0,x,h=>by simp at h;subst h;rfl
 |y::ys,i+1,x,h=>by
  simp at h;have ih:=XR cJ k ys i x h;have e:(i+1)*2+1=(i*2+1)+2:=aB;rw[e];simp only[List.set_cons_succ,FE,List.cons_append,List.nil_append];rw[ih]
theorem key_store{s:Sl}{ys:List It}{i:Nat}{x:It}{k:Int}{K:aH->Prop}(h:dD w kX 2 Cm s ys){a:Addr}(ha:s.b=some a)(hx:ys[i]? =some x)
  (hK:∀w',dD w' kX 2 Cm s (ys.set i ⟨x.id,k⟩)->aU (λk=>k=a.block) w w'->K w'):aI prog dG ((a.add (i*2)).add 1) (aD k) w K:=by
 rcases h.gR with⟨h1,_⟩|⟨g,cJ,hb,ho,hl⟩
 ·rw[h1] at ha;cases ha
 ·rw[hb] at ha;cases ha;have hi:=(eQ.1 hx).1;have IV:=bF sE ys;rw[aS,aS,gI];refine cH ho cZ (by rw[fJ,IV];omega) rfl rfl λw' h2 h3 _=>hK w' ⟨by rw[nN];exact h.len,h.cap,h.max,.inr ⟨g,cJ,hb,?_,?_⟩⟩ h3
  ·rw[<-XR cJ k ys i x hx];exact h2
  ·rw[<-hl,fJ,fJ,bF sE,bF sE,nN]
theorem ZG{IN key:Int}{Q:Bool->aH->Prop}(h:rU w H q)(gD:q.length<1000000)
  (hQ:∀w' H',oU w' H' (nY q IN key).1->H'.g=H.g->aU H.dK w w'->(∀k,H'.dK k->H.dK k\/w.heap.size<=k)->Q (nY q IN key).2 w'):rW (some ⟨H.g,0,none⟩) IN key w Q:=by
 unfold rW;refine aF (λh=>by simp at h) (λ_=>?_);intro J hJ;have qU:∀w1 H1,oU w1 H1 q->H1.g=H.g->aU H.dK w w1->(∀k,H1.dK k->H.dK k\/w.heap.size<=k)->J () w1:=by
  intro w1 H1 h1 hg1 m1 f1;apply hJ;rw[<-hg1];obtain⟨h0,xs,f,hA,oJ,hp,hm⟩:=h1;have Ak:=Hn (mA h0) (NN hp.apart) hm;have QC:=hA.US.len;have jB:Cn q:=λx hx y hy e=>hp.one x ((hm x).1 hx) y ((hm y).1 hy) e;obtain⟨n,Rh⟩:=hA.map;refine aA rfl (aE (k:=.map) (some H1.r) hA.c1 ?_);refine OU (kn:=Li) pE lF (z:=(0:Int)) MP Rh IN ?_;intro J2 Qo;have dQ:∀(w3:aH) (H3:HS) (ys:List It) (f3:Int->Option Int) (i:Nat) (x:It),VD w3 H3 ys f3->ys[i]? =some x->x.id=IN->ys.length<2000000->UpI (ys.set i ⟨IN,key⟩) i->FM f3 (ys.set i ⟨IN,key⟩) i->QY (ys.set i ⟨IN,key⟩)->
    (∀u,u∈(nY q IN key).1↔u∈ys.set i ⟨IN,key⟩)->Cs q IN key=false->H3.g=H1.g->aU H.dK w w3->(∀k,H3.dK k->H.dK k\/w.heap.size<=k)->J2 ((i:Int),()) w3:=by
   intro w3 H3 ys f3 i x hA3 hx hid hyl Uz hpl hap gF JB hg3 m3 gu;apply Qo;have hi:=(eQ.1 hx).1;obtain⟨b,hb⟩:=hA3.nO hi;have hl3:=hA3.US.len;rw[<-hg3];refine aA rfl (aE (k:=.slice) H3.s hA3.c0 ⟨⟨aB,aB⟩,aA hb ?_⟩);rw[dW];refine key_store (k:=key) hA3.US hb hx λw4 v4 m4=>?_;rw[hid] at v4;have bh:H3.dK b.block:=.inr (.inr ⟨b,hb,rfl⟩);have hA4:VD w4 H3 (ys.set i ⟨IN,key⟩) f3:=⟨hA3.head.aK m4 (Ne.symm (hA3.sg b hb)),v4,by obtain⟨n,hm⟩:=hA3.map;exact⟨n,hm.aK m4 (Ne.symm (hA3.sr b hb))⟩,hA3.gr,hA3.sg,hA3.sr⟩;have M:∀{wa wb:aH} {G:Nat->Prop},aU H.dK w wa->aU G wa wb->(∀k,G k->H3.dK k)->aU H.dK w wb:=λma mb hG=>ma.trans mb λk hk hGk=>(gu k (hG k hGk)).elim id λh=>absurd h aB;have m4':=M m3 m4 λk hk=>by rw[show k=b.block from hk];exact bh
   refine up_i hA4 (by rw[nN];exact hi) (by rw[nN];omega) Uz hpl hap λw5 zs f5 hA5 hok5 hp5 hm5 hl5 m5=>?_;have hr:(nY q IN key).2=true:=by unfold nY;rw[JB];rfl
   rw[<-hr];exact hQ w5 H3 ⟨CL h0 IN key,zs,f5,hA5,hok5,hp5,λu=>(gF u).trans (hm5 u).symm⟩ (hg3.trans hg1) (M m4' m5 λ_ h=>h) gu
  cases hf:f IN with
  |none=>
   refine aF (λ_=>?_) (λh=>by cases h);have hni:∀z∈xs,z.id≠IN:=λz hz e=>by
    obtain⟨j,hj⟩:=pC.1 hz;have:=hp.at_ j z hj;rw[e,hf] at this;cases this
   have JB:Cs q IN key=false:=by
    have:Fy q IN=none:=by
     cases hk:Fy q IN with
     |none=>rfl
     |some k=>exact absurd rfl (hni _ ((hm _).1 (ZN hk)))
    unfold Cs;rw[this]
   refine aA rfl (aE (k:=.slice) H1.s hA.c0 (aA rfl (aE (k:=.slice) H1.s hA.c0 ?_)));simp only[aG];have k1:=aL.alloc w1 (.cells #[(aD IN),aD key] kX);have hlit:=dD.lit w1 kX Cm sE [(⟨IN,key⟩:It)] #[(aD IN),aD key] rfl (by simp[maxLen]);have hA':=hA.aO k1;generalize w1.alloc (.cells #[aD IN,aD key] 242)=w6 at*;refine fH qv sE oneIt hA'.US (hlit.rd sE) (by simp only[ly0];omega) (by simp only[ly0];omega) λr w7 v7 m7 f7 hrn=>?_;have uf:¬∃a,H1.s.b=some a/\H1.g=a.block:=λ⟨a,ha,e⟩=>hA.sg a ha e.symm;have hrs:¬∃a,H1.s.b=some a/\H1.r=a.block:=λ⟨a,ha,e⟩=>hA.sr a ha e.symm;have hgl:H1.g<w6.heap.size:=hA'.lt (.inl rfl);have hrl:H1.r<w6.heap.size:=hA'.lt (.inr (.inl rfl));have sep:∀a,r.b=some a->a.block≠H1.g/\a.block≠H1.r:=λa ha=>by
    rcases f7 with e|⟨a',e,LK⟩
    ·exact⟨hA.sg a (e▸ha),hA.sr a (e▸ha)⟩
    ·rw[e] at ha;cases ha;exact⟨aB,aB⟩
   refine aA rfl ?_;rw[aS];refine cH (hA'.head.aK m7 uf) Iy dN rfl rfl λw8 o8 m8 _=>?_;have hsl':H1.s.l=xs.length:=QC;rw[hsl'];obtain⟨n',hmap'⟩:=hA'.map;have hA8:VD w8 ⟨H1.g,H1.r,r⟩ (xs++[⟨IN,key⟩]) f:=⟨o8,v7.aK m8 λa ha=>(sep a ha).1,⟨n',(hmap'.aK m7 hrs).aK m8 hA.gr.symm⟩,hA.gr,λa ha=>(sep a ha).1,λa ha=>(sep a ha).2⟩;have LH:(xs++[(⟨IN,key⟩:It)]).set xs.length ⟨IN,key⟩=xs++[⟨IN,key⟩]:=by rw[List.set_append_right _ _ (dL _)];simp
   have cQ:∀(j:Nat) (z:It),(xs++[(⟨IN,key⟩:It)])[j]? =some z->(j<xs.length/\xs[j]? =some z)\/(j=xs.length/\z=⟨IN,key⟩):=λj z hz=>by
    by_cases hj:j<xs.length
    ·rw[Fw hj] at hz;exact .inl ⟨hj,hz⟩
    ·rw[Fx aB] at hz;have:j-xs.length=0:=by have:=(eQ.1 hz).1;simp at this;omega
     rw[this] at hz;simp at hz;exact .inr ⟨aB,hz.symm⟩
   have mw1:aU H.dK w w6:=m1.tr k1.wk;have has1:∀k,H1.dK k->k<w.heap.size->H.dK k:=λk hk cC=>(f1 k hk).elim id λh=>aB;refine dQ w8 ⟨H1.g,H1.r,r⟩ _ f xs.length ⟨IN,key⟩ hA8 dN rfl (by simp;omega) ?_ ?_ ?_ ?_ JB rfl ?_ ?_
   ·rw[LH];refine⟨λj hj YM u v hu hv=>?_,λj hj YM _ u v hu hv=>?_⟩
    ·rcases cQ j v hv with⟨h1,h2⟩|⟨h1,_⟩
     ·rcases cQ _ u hu with⟨h3,h4⟩|⟨h3,_⟩
      ·exact oJ j hj u v h4 h2
      ·omega
     ·omega
    ·rcases cQ j v hv with⟨h1,h2⟩|⟨h1,_⟩<;>omega
   ·rw[LH];refine⟨λj z hj hz=>?_,λv k hv=>?_⟩
    ·rcases cQ j z hz with⟨_,h2⟩|⟨h1,_⟩
     ·exact hp.at_ j z h2
     ·omega
    ·obtain⟨z,hz,e⟩:=hp.dom v k hv;exact⟨z,by simp[hz],e⟩
   ·rw[LH];intro i j x y hx hy e;rcases cQ i x hx with⟨_,h2⟩|⟨h1,rfl⟩<;>rcases cQ j y hy with⟨_,h4⟩|⟨h3,rfl⟩
    ·exact hp.apart i j x y h2 h4 e
    ·exact absurd e (hni x (lD h2))
    ·exact absurd e.symm (hni y (lD h4))
    ·omega
   ·rw[LH];intro u;rw[XP JB,kE,oG,hm]
    constructor
    ·rintro(rfl|⟨h,_⟩)
     ·exact .inr rfl
     ·exact .inl h
    ·rintro(h|rfl)
     ·exact .inr ⟨h,hni u h⟩
     ·exact .inl rfl
   ·refine(mw1.trans m7 λk hk ⟨a,ha,e⟩=>has1 k (.inr (.inr ⟨a,ha,e⟩)) hk).trans m8 λk hk e=>has1 k (.inl e) hk
   ·rintro k (rfl|rfl|⟨a,ha,rfl⟩)
    ·exact f1 _ (.inl rfl)
    ·exact f1 _ (.inr (.inl rfl))
    ·rcases f7 with e|⟨a',e,LK⟩
     ·exact f1 _ (.inr (.inr ⟨a,e▸ha,rfl⟩))
     ·have mU:r.b=some a:=ha;rw[e] at mU;cases mU;exact .inr (iR mw1.size LK)
  |some v=>
   refine aF (λh=>by cases h) (λ_=>?_);obtain⟨z,hz,kj⟩:=hp.dom IN v hf;obtain⟨j,hj⟩:=pC.1 hz;have hvj:v=(j:Int):=by have:=hp.at_ j z hj;rw[kj,hf] at this;exact tZ this
   subst hvj;show aC _ _;have YM:=(eQ.1 hj).1;have hkq:Fy q IN=some z.key:=by rw[<-kj];exact Yi jB ((hm z).2 hz)
   obtain⟨b,hb,hh⟩:=GU (hA.US.rd sE) hj;refine aA rfl (aE (k:=.slice) H1.s hA.c0 ?_);have ej:((some (j:Int):Option Int).getD 0)=(j:Int):=rfl;show(0<=(j:Int)/\(j:Int)<_)/\_;refine⟨⟨aB,aB⟩,aA hb (aE (k:=.i) z.key hh.2.1 ?_)⟩;refine aJ (λkC=>?_) (λcC=>?_)
   ·have JB:Cs q IN key=true:=by unfold Cs;rw[hkq];simpa using kC
    have e1:(nY q IN key)=(q,false):=by unfold nY;rw[JB];rfl
    rw[e1] at hQ;exact hQ w1 H1 ⟨h0,xs,f,hA,oJ,hp,hm⟩ hg1 m1 f1
   ·have JB:Cs q IN key=false:=by unfold Cs;rw[hkq];simp;omega
    have GM:qD ⟨IN,key⟩ z=true:=kI.2 (.inl (by show key<z.key;omega));have LK:=wg GM;have Qu:∀i,(xs.set j ⟨IN,key⟩)[i]? =if i=j then some ⟨IN,key⟩ else xs[i]?:=λi=>by
     rw[jA]
     by_cases e:j=i
     ·subst e;simp[YM]
     ·rw[if_neg e,if_neg (Ne.symm e)]
    refine dQ w1 H1 xs f j z hA hj kj aB ?_ ?_ ?_ ?_ JB rfl m1 f1
    ·refine⟨λi hi RT u v hu hv=>?_,λi hi RT hj0 u v hu hv=>?_⟩
     ·rw[Qu] at hu hv;rw[if_neg RT] at hv
      by_cases e:(i-1)/2=j
      ·rw[if_pos e] at hu;cases hu;exact le_trans' LK (oJ i hi z v (by rw[e];exact hj) hv)
      ·rw[if_neg e] at hu;exact oJ i hi u v hu hv
     ·rw[Qu,if_neg aB] at hu hv;exact le_trans' (oJ j hj0 u z hu hj) (oJ i hi z v (by rw[RT];exact hj) hv)
    ·refine⟨λi x RT hx=>?_,λv k hv=>?_⟩
     ·rw[Qu,if_neg RT] at hx;exact hp.at_ i x hx
     ·obtain⟨y,hy,e⟩:=hp.dom v k hv;obtain⟨i,hi⟩:=pC.1 hy
      by_cases RT:i=j
      ·subst RT;rw[hj] at hi;cases hi;exact⟨⟨IN,key⟩,pC.2 ⟨i,by rw[Qu,if_pos rfl]⟩,kj.symm.trans e⟩
      ·exact⟨y,pC.2 ⟨i,by rw[Qu,if_neg RT];exact hi⟩,e⟩
    ·have eO:∀(i:Nat) (x:It),(xs.set j ⟨IN,key⟩)[i]? =some x->∃y,xs[i]? =some y/\y.id=x.id:=λi x hx=>by
      rw[Qu] at hx
      by_cases e:i=j
      ·rw[if_pos e] at hx;cases hx;subst e;exact⟨z,hj,kj⟩
      ·rw[if_neg e] at hx;exact⟨x,hx,rfl⟩
     intro i i' x y hx hy e;obtain⟨x',h1,e1⟩:=eO i x hx;obtain⟨y',h2,e2⟩:=eO i' y hy;exact hp.apart i i' x' y' h1 h2 (by rw[e1,e2,e])
    ·intro u;rw[XP JB]
     constructor
     ·rintro(rfl|⟨hu,gK⟩)
      ·exact pC.2 ⟨j,by rw[Qu,if_pos rfl]⟩
      ·obtain⟨i,hi⟩:=pC.1 ((hm u).1 hu);have:i≠j:=λe=>by subst e;rw[hj] at hi;cases hi;exact gK kj
       exact pC.2 ⟨i,by rw[Qu,if_neg this];exact hi⟩
     ·intro hu;obtain⟨i,hi⟩:=pC.1 hu;rw[Qu] at hi
      by_cases e:i=j
      ·rw[if_pos e] at hi;cases hi;exact .inl rfl
      ·rw[if_neg e] at hi;refine .inr ⟨(hm u).2 (lD hi),λe'=>e ?_⟩;exact hp.apart i j u z hi hj (by rw[e',kj])
 rcases h with h|⟨rfl,hs,hr,h⟩
 ·obtain⟨_,xs,f,hA,_⟩:=id h;refine aA rfl (aE (k:=.map) (some H.r) hA.c1 ?_);exact aF (λh=>by simp at h) (λ_=>qU w H h rfl (aU.refl _ _) λk hk=>.inl hk)
 ·refine aA rfl (aE (k:=.map) none (by rw[aS,h.cell];rfl) ?_);refine aF (λ_=>?_) (λh=>by simp at h);refine rA (ek:=FA) (kn:=Li) λhm k1=>?_;have cC:=h.lt;have PN:(w.alloc (.map #[] 0)).heap.size=w.heap.size+1:=by simp
  have h1:=h.aK k1 id;generalize w.alloc (.map #[] 0)=w1 at*;refine aA rfl ?_;rw[aS];refine cH h1 Tu dN rfl rfl λw2 o2 m2 _=>?_;refine qU w2 ⟨H.g,w.heap.size,aZ⟩ ⟨List.Pairwise.nil,[],λ_=>none,⟨o2,dD.nil _ _ _ _,⟨_,hm.aK m2 aB⟩,by show H.g≠w.heap.size;omega,(λa ha=>by cases ha),(λa ha=>by cases ha)⟩,?_,⟨by simp,by simp⟩,by simp⟩ rfl (k1.wk.trans m2 λk _ e=>.inl e) ?_
  ·intro j _ u v hu;simp at hu
  ·rintro k (rfl|rfl|⟨a,ha,_⟩)
   ·exact .inl (.inl rfl)
   ·exact .inr (dL _)
   ·cases ha
end
end
section
section
variable{w:aH}{H:HS}{q:List It}
theorem Pop_i{x:It}{Q:Int->Int->Int->aH->Prop}(h:oU w H (x::q))(gD:q.length<1000000)
  (hQ:∀w' H',oU w' H' q->H'.g=H.g->(∀k,H'.dK k↔H.dK k)->aU H.dK w w'->Q x.id x.key 0 w'):HJ (some ⟨H.g,0,none⟩) w Q:=by
 unfold HJ;obtain⟨h0,xs,f,hA,oJ,hp,hm⟩:=id h;have Ak:=Hn (mA h0) (NN hp.apart) hm;have QC:=hA.US.len;have hn:xs.length=q.length+1:=by rw[Ak];simp
 refine xq (.inl h) ?_;refine aF (λh=>by simp at h;omega) (λ_=>?_);obtain⟨r,hr⟩:∃r,xs[0]? =some r:=⟨_,cM aB⟩;have hrx:r=x:=by
  have h1:=(hm r).2 (lD hr);rcases jO.1 h1 with e|h1
  ·exact e
  ·have h2:=(List.pairwise_cons.1 h0).1 r h1;obtain⟨j,hj⟩:=pC.1 ((hm x).1 dN);have:=oJ.min hr j x hj;rw[this] at h2;cases h2
 subst hrx;obtain⟨lE,VY⟩:∃y,xs[xs.length-1]? =some y:=⟨_,cM aB⟩;have wr1:aQ ((H.s.l:Int)-1)=((xs.length-1:Nat):Int):=by rw[gZ aB aB];omega
 have d0:aL w w.drew:=aU.drew (aU.refl _ w);intro J hJ;have after:∀(w2:aH) (b1 b2:Nat),aL w w2->w.heap.size<=b1->w.heap.size<=b2->cU w2 b1 kX (Cm r)->cU w2 b2 kX (Cm lE)->J (some ⟨b1,0,none⟩,some ⟨b2,0,none⟩,()) w2:=by
  intro w2 b1 b2 k2 lb1 lb2 o1 o2;apply hJ;dsimp only;have d2:aL w2 w2.drew:=aU.drew (aU.refl _ w2);have k2d:=k2.tr d2;have hA2:=hA.aO k2d;have p1:=o1.aK d2 id;have p2:=o2.aK d2 id;have nb1:∀k,H.dK k->¬b1=k:=λk hk e=>by have:=hA.lt hk;omega
  have nb2:∀k,H.dK k->¬b2=k:=λk hk e=>by have:=hA.lt hk;omega
  refine aA rfl (aE (k:=.slice) H.s hA2.c0 (aA rfl (aE (k:=.slice) H.s hA2.c0 ?_)));rw[wr1,oX,dW,Nat.sub_zero,Nat.sub_zero];have Rl:=hA2.US.cap;refine⟨⟨aB,aB⟩,aA rfl ?_⟩;rw[aS];refine cH hA2.head Iy dN rfl rfl λw3 o3 m3 _=>?_;have d3:aL w3 w3.drew:=aU.drew (aU.refl _ w3);have gm:∀k,k=H.g->H.dK k:=λk e=>.inl e;have hv3:dD w3.drew kX 2 Cm ⟨H.s.b,xs.length-1,H.s.c⟩ (xs.take (xs.length-1)):=((hA2.US.aK m3 λa ha=>hA.sg a ha).aK d3 (λ_ _=>id)).take aB;obtain⟨n,Rh⟩:=hA2.map;have hmap3:=(Rh.aK m3 (Ne.symm hA.gr)).aK d3 id;have o3':cU w3.drew H.g vf [sv ⟨H.s.b,xs.length-1,H.s.c⟩,.map (some H.r)]:=o3;have q1:=(p1.aK m3 (nb1 _ (.inl rfl))).aK d3 id;have q2:=(p2.aK m3 (nb2 _ (.inl rfl))).aK d3 id;have M3:aU H.dK w w3.drew:=(k2d.wk.trans m3 λk _ e=>gm k e).tr d3.wk;refine aA rfl (aE (k:=.map) (some H.r) (by rw[aS,o3'.cell];rfl) (aA rfl (aE (k:=.i) r.id (by rw[aS,q1.cell];rfl) ?_)));refine Ic (kn:=Li) pE lF hmap3 r.id λw4 hm4 m4 _=>?_;have o4:=o3'.aK m4 hA.gr;have hv4:=hv3.aK m4 λa ha=>hA.sr a ha;have M4:aU H.dK w w4:=M3.trans m4 λk _ e=>.inr (.inl e);have r1:=q1.aK m4 (nb1 _ (.inr (.inl rfl)));have r2:=q2.aK m4 (nb2 _ (.inr (.inl rfl)));have d4:aL w4 w4.drew:=aU.drew (aU.refl _ w4);have has':∀(k:Nat),HS.dK ⟨H.g,H.r,⟨H.s.b,xs.length-1,H.s.c⟩⟩ k↔H.dK k:=λk=>Iff.rfl;have hq':BQ q:=(List.pairwise_cons.1 h0).2;have hrq:r∉q:=λh=>by have:=(List.pairwise_cons.1 h0).1 r h;rw[HG] at this;cases this
  have memq:∀u,u∈q↔u∈xs/\u≠r:=λu=>by
   rw[<-hm u,jO]
   constructor
   ·intro h;exact⟨.inr h,λe=>hrq (e▸h)⟩
   ·rintro⟨h|h,gK⟩
    ·exact absurd h gK
    ·exact h
  refine aA rfl (aE (k:=.slice) ⟨H.s.b,xs.length-1,H.s.c⟩ (by rw[aS,o4.cell];rfl) ?_);refine aJ (λuB=>?_) (λDE=>?_)
  ·have VX:0<xs.length-1:=by simpa using uB
   have Ap:∀j,j<xs.length-1->(xs.take (xs.length-1))[j]? =xs[j]?:=λj hj=>VJ hj;have hA4:VD w4.drew ⟨H.g,H.r,⟨H.s.b,xs.length-1,H.s.c⟩⟩ (xs.take (xs.length-1)) (λy=>if y=r.id then none else f y):=⟨o4.aK d4 id,hv4.aK d4 (λ_ _=>id),⟨_,hm4.aK d4 id⟩,hA.gr,hA.sg,hA.sr⟩
   have ltake:(xs.take (xs.length-1)).length=xs.length-1:=by simp
   obtain⟨b,hb⟩:=hA4.nO (i:=0) aB;refine aA rfl (aE (k:=.slice) ⟨H.s.b,xs.length-1,H.s.c⟩ hA4.c0 (aA rfl (aX (zK lE) (ML (r2.aK d4 id)) ⟨⟨aB,by show(0:Int)<((xs.length-1:Nat):Int);omega⟩,aA hb ?_⟩)));refine hA4.US.store sE hb (i:=0) aB lE (v:=itV lE) rfl ZJ (oneIt lE) λw5 v5 m5 _=>?_;have hA5:VD w5 ⟨H.g,H.r,⟨H.s.b,xs.length-1,H.s.c⟩⟩ ((xs.take (xs.length-1)).set 0 lE) (λy=>if y=r.id then none else f y):=
    ⟨hA4.head.aK m5 (Ne.symm (hA.sg b hb)),v5,by obtain⟨n,hm⟩:=hA4.map;exact⟨n,hm.aK m5 (Ne.symm (hA.sr b hb))⟩,hA.gr,hA.sg,hA.sr⟩
   have bh:H.dK b.block:=.inr (.inr ⟨b,hb,rfl⟩);have M5:aU H.dK w w5:=(M4.tr d4.wk).trans m5 λk _ e=>by rw[show k=b.block from e];exact bh
   have yget:∀j z,((xs.take (xs.length-1)).set 0 lE)[j]? =some z->(j=0/\z=lE)\/(j≠0/\j<xs.length-1/\xs[j]? =some z):=λj z hz=>by
    have YM:=(eQ.1 hz).1;rw[nN,ltake] at YM;rw[jA] at hz
    by_cases e:0=j
    ·subst e;rw[if_pos rfl,if_pos aB] at hz;cases hz;exact .inl ⟨rfl,rfl⟩
    ·rw[if_neg e,Ap j YM] at hz;exact .inr ⟨Ne.symm e,YM,hz⟩
   have yput0:((xs.take (xs.length-1)).set 0 lE)[0]? =some lE:=by rw[jA,if_pos rfl,if_pos aB]
   have yput:∀j z,j≠0->j<xs.length-1->xs[j]? =some z->((xs.take (xs.length-1)).set 0 lE)[j]? =some z:=λj z hj YM hz=>by
    rw[jA,if_neg (Ne.symm hj),Ap j YM];exact hz
   have ne0:∀j z,j≠0->xs[j]? =some z->z.id≠r.id:=λj z hj hz e=>hj (hp.apart j 0 z r hz hr e);have gK:lE.id≠r.id:=ne0 _ _ aB VY;refine down_i (H:=⟨H.g,H.r,⟨H.s.b,xs.length-1,H.s.c⟩⟩) hA5 (by rw[nN];omega) (by rw[nN];omega) ⟨λj hj hj0 u v hu hv=>?_,λj _ _ h0=>aB⟩ ⟨λj z hj hz=>?_,λv k hv=>?_⟩ ?_ λw6 zs f6 hA6 hok6 hp6 hm6 hl6 m6=>?_
   ·rcases yget _ _ hu with⟨h1,_⟩|⟨_,_,h1⟩
    ·omega
    ·rcases yget _ _ hv with⟨h2,_⟩|⟨_,_,h2⟩
     ·omega
     ·exact oJ j hj u v h1 h2
   ·rcases yget _ _ hz with⟨h1,_⟩|⟨_,_,h1⟩
    ·omega
    ·rw[if_neg (ne0 j z hj h1)];exact hp.at_ j z h1
   ·by_cases e:v=r.id
    ·rw[if_pos e] at hv;cases hv
    ·rw[if_neg e] at hv;obtain⟨z,hz,ez⟩:=hp.dom v k hv;obtain⟨j,hj⟩:=pC.1 hz;have YM:=(eQ.1 hj).1;have hj0:j≠0:=λe0=>by subst e0;rw[hr] at hj;cases hj;exact e ez.symm
     by_cases hjn:j=xs.length-1
     ·subst hjn;rw[VY] at hj;cases hj;exact⟨lE,lD yput0,ez⟩
     ·exact⟨z,lD (yput j z hj0 aB hj),ez⟩
   ·intro i j a b ha hb e;rcases yget _ _ ha with⟨h1,rfl⟩|⟨h1,h1',h2⟩<;>rcases yget _ _ hb with⟨h3,rfl⟩|⟨h3,h3',h4⟩
    ·omega
    ·have:=hp.apart _ _ _ _ VY h4 e;omega
    ·have:=hp.apart _ _ _ _ h2 VY e;omega
    ·exact hp.apart _ _ _ _ h2 h4 e
   ·have M6:aU H.dK w w6.drew:=((M5.trans m6 λk _ hk=>hk)).tr (aU.drew (aU.refl _ w6));have d6:aL w6 w6.drew:=aU.drew (aU.refl _ w6);have s1:=(((r1.aK d4 id).aK m5 (nb1 _ bh)).aK m6 λhk=>nb1 _ hk rfl).aK d6 id;refine aA rfl (aE (k:=.i) r.id (by rw[aS,s1.cell];rfl) (aA rfl (aE (k:=.i) r.key (by rw[aS,s1.cell];rfl) ?_)));refine hQ _ ⟨H.g,H.r,⟨H.s.b,xs.length-1,H.s.c⟩⟩ ⟨hq',zs,f6,hA6.aO d6,hok6,hp6,λu=>?_⟩ rfl has' M6;rw[hm6 u,memq u]
    constructor
    ·rintro⟨hu,YS⟩;obtain⟨j,hj⟩:=pC.1 hu;have YM:=(eQ.1 hj).1;have hj0:j≠0:=λe0=>by subst e0;rw[hr] at hj;cases hj;exact YS rfl
     by_cases hjn:j=xs.length-1
     ·subst hjn;rw[VY] at hj;cases hj;exact lD yput0
     ·exact lD (yput j u hj0 aB hj)
    ·intro hu;obtain⟨j,hj⟩:=pC.1 hu;rcases yget _ _ hj with⟨_,rfl⟩|⟨h1,_,h2⟩
     ·exact⟨lD VY,λe=>gK (by rw[e])⟩
     ·exact⟨lD h2,λe=>ne0 j u h1 h2 (by rw[e])⟩
  ·have hn1:xs.length=1:=by
    have:¬((xs.length-1:Nat):Int)>0:=DE;omega
   have hq0:q=[]:=Lu aB;have s1:=r1.aK d4 id;refine aA rfl (aE (k:=.i) r.id (by rw[aS,s1.cell];rfl) (aA rfl (aE (k:=.i) r.key (by rw[aS,s1.cell];rfl) ?_)));have t0:xs.take (xs.length-1)=[]:=by rw[hn1];rfl
   rw[t0] at hv4;refine hQ _ ⟨H.g,H.r,⟨H.s.b,xs.length-1,H.s.c⟩⟩ ⟨hq',[],_,⟨o4.aK d4 id,hv4.aK d4 (λ_ _=>id),⟨_,hm4.aK d4 id⟩,hA.gr,hA.sg,hA.sr⟩,λj _ u v hu=>by simp at hu,⟨by simp,λv k hv=>?_⟩,by rw[hq0];simp⟩ rfl has' (M4.tr d4.wk)
   replace hv:(if v=r.id then none else f v)=some k:=hv
   by_cases e:v=r.id
   ·rw[if_pos e] at hv;cases hv
   ·rw[if_neg e] at hv;obtain⟨z,hz,ez⟩:=hp.dom v k hv;obtain⟨j,hj⟩:=pC.1 hz;have YM:=(eQ.1 hj).1;have:j=0:=aB;subst this;rw[hr] at hj;cases hj;exact absurd ez.symm e
 have hAd:=hA.aO d0;obtain⟨b,hb,hh⟩:=GU (hAd.US.rd sE) hr;obtain⟨b',bR,Kw⟩:=GU (hAd.US.rd sE) VY;refine aA rfl (aE (k:=.slice) H.s hAd.c0 ⟨⟨aB,aB⟩,aA hb (aX (zK r) hh ?_)⟩);refine aA rfl (aE (k:=.slice) H.s hAd.c0 (aA rfl (aE (k:=.slice) H.s hAd.c0 ?_)));rw[wr1,dW];refine⟨⟨aB,aB⟩,aA bR (aX (zK lE) Kw ?_)⟩;simp only[aG];have kA:=aL.alloc w.drew (.cells #[aD 0,aD 0] 242);have oA:cU (w.drew.alloc (.cells #[aD 0,aD 0] 242)) w.drew.heap.size kX (Cm ⟨0,0⟩):=cU.iP w.drew _ _;have sA:(w.drew.alloc (.cells #[aD 0,aD 0] 242)).heap.size=w.heap.size+1:=by simp
 generalize w.drew.alloc (.cells #[aD 0,aD 0] 242)=wA at*;have kB:=aL.alloc wA (.cells #[aD 0,aD 0] 242);have oB:cU (wA.alloc (.cells #[aD 0,aD 0] 242)) wA.heap.size kX (Cm ⟨0,0⟩):=cU.iP wA _ _;generalize wA.alloc (.cells #[aD 0,aD 0] 242)=wB at*;have hA_:=hAd.aO kA;have hB_:=hA_.aO kB;have szd:w.drew.heap.size=w.heap.size:=rfl;rw[szd] at oA ⊢;have cellsOf:∀{wx:aH},VD wx H xs f->bQ wx (b.add (Int.toNat (0:Int)*2)) 0 [aD r.id,aD r.key]/\bQ wx (b'.add ((xs.length-1)*2)) 0 [aD lE.id,aD lE.key]/\wx.cell? ((⟨H.g,0,none⟩:Addr).add 0)=some (.slice H.s.b H.s.l H.s.c):=λ{wx} hx=>by
  obtain⟨c,hc,h1⟩:=GU (hx.US.rd sE) hr;obtain⟨c',Dz,h2⟩:=GU (hx.US.rd sE) VY;rw[hb] at hc;cases hc;rw[bR] at Dz;cases Dz;exact⟨h1,h2,hx.c0⟩
 obtain⟨a1,a2,a3⟩:=cellsOf hA_;obtain⟨b1,b2,b3⟩:=cellsOf hB_;have kAB:aL w wB:=(d0.tr kA).tr kB;have oA':=oA.aK kB id;have lA:∀k,H.dK k->¬k=w.heap.size:=λk hk e=>by have:=hA.lt hk;omega
 have lB:∀k,H.dK k->¬k=wA.heap.size:=λk hk e=>by have:=hA.lt hk;omega
 constructor
 ·refine⟨a2,a3,a3,a1,a3,b2,b3,b3,b1,b3,?_⟩;refine xK (x:=r) oA' rfl λw9 o9 m9=>?_;obtain⟨c1,c2,c3⟩:=cellsOf (hB_.aK m9 lA);refine⟨c2,c3,c3,?_⟩;refine xK (x:=lE) (oB.aK m9 aB) rfl λeZ Cf UZ=>?_;refine after eZ _ _ ((aU.fresh kAB m9 λk e=>aB).fresh UZ λk e=>aB) (dL _) aB (o9.aK UZ aB) Cf
 ·refine⟨a2,a3,a3,a1,a3,b2,b3,b3,b1,b3,?_⟩;refine xK (x:=r) oB rfl λw9 o9 m9=>?_;obtain⟨c1,c2,c3⟩:=cellsOf (hB_.aK m9 lB);refine⟨c2,c3,c3,?_⟩;refine xK (x:=lE) (oA'.aK m9 aB) rfl λeZ Cf UZ=>?_;refine after eZ _ _ ((aU.fresh kAB m9 λk e=>aB).fresh UZ λk e=>aB) aB (dL _) (o9.aK UZ aB) Cf
end
end
theorem iM{w:aH}{g:Nat}{e:TypeId}{cs:List Value}(h:cU w g e cs):bQ w ⟨g,0,none⟩ 0 cs:=h.holds λj v hj=>by simpa using hj
theorem laid_i{key:bO->Int}{s:Sl}{xs:List bO}{a:bO}{i:Nat}{qI:Bool}{w:aH}{Q:Sl->aH->Prop}(hs:dD w iA 4 dU s xs)(mF:YO key xs)(qM:zS key xs (key a) i)(hf:qI=true↔∃x∈xs,key x=key a)(hb:xs.length<=512)
  (hQ:∀s' w',dD w' iA 4 dU s' (DV key xs a)->aU (λk=>∃b,s.b=some b/\k=b.block) w w'->(s'.b=s.b\/∀b,s'.b=some b->w.heap.size<=b.block)->Q s' w'):rK s (i:Int) qI (nM a) w Q:=by
 cases qI with
 |true=>obtain⟨x,hx,hk⟩:=hf.1 rfl;have hi:i<xs.length:=(eQ.1 (qM.qI mF hx hk)).1;exact laid_at_i hs hi λw' h1 h2=>hQ s w' (by rw[<-qM.ins_at mF hx hk];exact h1) h2 (.inl rfl)
 |false=>
  have hn:∀x∈xs,key x≠key a:=λx hx hk=>by have:=hf.2 ⟨x,hx,hk⟩;cases this
  exact qm hs qM.le aB λs' w' h1 h2 h3=>hQ s' w' (by rw[<-qM.ins_new hn];exact h1) h2 (h3.imp id λ⟨b,bR,cC⟩ c hc=>by rw[bR] at hc;cases hc;exact cC)
theorem Put_i{N:mY}{n:Nat}{l:List bO}{a:bO}{w:aH}{Q:Bool->aH->Prop}(h:kY w N n l)
  (hQ:∀w' N',kY w' N' n (vG n l a).1->N'.g=N.g->aU N.dK w w'->(∀k,N'.dK k->N.dK k\/w.heap.size<=k)->Q (vG n l a).2 w'):HI (some ⟨N.g,0,none⟩) (nM a) w Q:=by
 unfold HI;simp only[aG];have k1:=aL.alloc w (.cells #[aD a.f,aD a.t,aD a.w,aD a.m] 128);have oa1:cU (w.alloc (.cells #[aD a.f,aD a.t,aD a.w,aD a.m] 128)) w.heap.size 128 (dU a):=cU.iP w _ 128;generalize Uy:w.alloc (.cells #[aD a.f,aD a.t,aD a.w,aD a.m] 128)=w1 at*;generalize UP:w.heap.size=b1 at*;have hold:∀k,N.dK k->k≠b1:=λk hk=>by have:=h.at_.lt hk;omega
 refine aF (λh=>by simp at h) (λ_=>?_);refine aX (nM a) (iM oa1) ?_;have h1:=h.aO k1;refine may_i h1.at_.head λw2 r k2 hr=>?_;have h2:=h1.aO k2;have GA:=k1.tr k2;have oa2:=oa1.aK k2 id;refine aF (λhr0=>?_) (λhr0=>?_)
 ·have pA:¬FD n a:=λhm=>by rw[hr.2 hm] at hr0;cases hr0
  have e:vG n l a=(l,false):=by unfold vG;rw[if_neg pA]
  rw[e] at hQ;exact hQ w2 N h2 rfl GA.wk λk hk=>.inl hk
 have hm:FD n a:=hr.1 (by cases r<;>simp at hr0 ⊢);have PN:=h.sz;have hf0:=hm.1;have hf1:=hm.2.1;have ht0:=hm.2.2.1;have ht1:=hm.2.2.2.1;obtain⟨v,hv⟩:∃v:Nat,a.f=(v:Int):=⟨a.f.toNat,aB⟩;obtain⟨u,hu⟩:∃u:Nat,a.t=(u:Int):=⟨a.t.toNat,aB⟩;have hvn:v<n:=aB;have Dy:u<n:=aB;have la:∀{w':aH},cU w' b1 128 (dU a)->w'.cell? ((⟨b1,0,none⟩:Addr).add 0)=some (aD (v:Int))/\w'.cell? ((⟨b1,0,none⟩:Addr).add 1)=some (aD (u:Int))/\w'.cell? ((⟨b1,0,none⟩:Addr).add 2)=some (aD a.w):=λho=>by
  refine⟨?_,?_,?_⟩<;>rw[aS,ho.cell]
  ·rw[<-hv];rfl
  ·rw[<-hu];rfl
  ·rfl
 have d2:aL w2 w2.drew:=aU.drew (aU.refl _ w2);have h2':=h2.aO d2;have oa2':=oa2.aK d2 id;refine aA rfl (aE (k:=.slice) ⟨some ⟨N.go,0,none⟩,n,n⟩ h2'.at_.c0 (aE (k:=.i) (v:Int) (la oa2').1 ?_));refine⟨⟨aB,by show _<(n:Int);omega⟩,aA rfl ?_⟩;obtain⟨s,hs,wO⟩:=h2'.at_.out hvn;refine aE (k:=.slice) s wO (aE (k:=.i) (u:Int) (la oa2').2.1 ?_);have qR:=h2'.at_.row v s hs;have hX:kH n l v=eC l a.f:=by rw[hv];simp[kH,hvn]
 rw[hX] at qR;have hlenO:=h.ok.vP a.f;rw[<-hu];refine byTo_i (qR.rd jJ) (h.ok.sO.out a.f) aB λi qI w3 k3 qM Hg=>?_;have h3:=h2'.aO k3;have iz:=(GA.tr d2).tr k3;have oa3:=oa2'.aK k3 id;intro J hJ;have hfind:(qI=true)↔∃x∈l,x.f=a.f/\x.t=a.t:=by
  rw[Hg]
  constructor
  ·rintro⟨x,hx,hk⟩;exact⟨x,(eL.1 hx).1,(eL.1 hx).2,hk⟩
  ·rintro⟨x,hx,QD,GC⟩;exact⟨x,eL.2 ⟨hx,QD⟩,GC⟩
 have hJ':vG n l a=(LS l a,true)->J () w3.drew:=by
  intro e;rw[e] at hQ;apply hJ;have d3:aL w3 w3.drew.drew:=aU.drew (aU.drew (aU.refl _ w3));have h4:=h3.aO d3;have oa4:=oa3.aK d3 id;have k4:=iz.tr d3;generalize w3.drew.drew=w4 at*;refine aA rfl (aE (k:=.slice) ⟨some ⟨N.go,0,none⟩,n,n⟩ h4.at_.c0 (aE (k:=.i) (v:Int) (la oa4).1 ?_));refine aA rfl (aE (k:=.slice) ⟨some ⟨N.go,0,none⟩,n,n⟩ h4.at_.c0 (aE (k:=.i) (v:Int) (la oa4).1 ?_));refine⟨⟨aB,by show _<(n:Int);omega⟩,aA rfl ?_⟩;obtain⟨s',DB,hcell4⟩:=h4.at_.out hvn;rw[hs] at DB;cases DB;refine aE (k:=.slice) s hcell4 (aX (nM a) (iM oa4) ?_);have hrow4:=h4.at_.row v s hs;rw[hX] at hrow4;refine laid_i hrow4 (h.ok.sO.out a.f) qM Hg aB λs6 w5 hv6 m5 hb6=>?_;have gK:∀k,(∃b,s.b=some b/\k=b.block)->N.dK k:=λk ⟨b,hb,hk⟩=>.inr (.inr (.inr ⟨v,s,b,hs,hb,hk.symm⟩));have oa5:=oa4.aK m5 λhk=>hold _ (gK _ hk) rfl;refine⟨(la oa5).1,?_,⟨aB,by show _<(n:Int);omega⟩,aA rfl ?_⟩
  ·have:=h4.at_.head.aK m5 λ⟨b,hb,hk⟩=>(h4.at_.sep v s b hs hb).1 hk.symm;rw[aS,this.cell];rfl
  refine h4.at_.mv hvn hs hv6 m5 hb6 λw6 h6 m6 z6=>?_;have oa6:=oa4.aK m6 λhk=>hold _ hk rfl;have hh6:∀k,({N with dZ:=N.dZ.set v s6}:mY).dK k->N.dK k\/w4.heap.size<=k:=λk hk=>
   mY.OK (P:=λk=>w4.heap.size<=k) hs (λa ha=>hb6.imp id λhq=>hq a ha) hk
  have d6:aL w6 w6.drew:=aU.drew (aU.refl _ w6);have h6':=h6.aO d6;have oa6':=oa6.aK d6 id;refine aA rfl (aE (k:=.slice) ⟨some ⟨N.gi,0,none⟩,n,n⟩ h6'.c1 (aE (k:=.i) (u:Int) (la oa6').2.1 ?_));refine⟨⟨aB,by show _<(n:Int);omega⟩,aA rfl ?_⟩;obtain⟨s8,hs8,hcell8⟩:=h6'.LN Dy;refine aE (k:=.slice) s8 hcell8 (aE (k:=.i) (v:Int) (la oa6').1 ?_);have hX8:(if n+u=v then DV bO.t (eC l a.f) a else kH n l (n+u))=nX l a.t:=by have:¬(n+u=v):=aB;have h2:¬(n+u<n):=aB;simp only[this,if_false,kH,h2];rw[hu];congr 1;omega
  have hrow8:=h6'.row (n+u) s8 hs8;rw[hX8] at hrow8;have hlenI:=h.ok.FJ a.t;rw[<-hv];refine Yu (hrow8.rd jJ) (h.ok.sO.LN a.t) aB λi8 f8 w7 k7 low8 hf8=>?_;have d7:aL w7 w7.drew:=aU.drew (aU.refl _ w7);have k7':=k7.tr d7;have h7:=h6'.aO k7';have oa7:=oa6'.aK k7' id;refine aA rfl (aE (k:=.slice) ⟨some ⟨N.gi,0,none⟩,n,n⟩ h7.c1 (aE (k:=.i) (u:Int) (la oa7).2.1 ?_));refine aA rfl (aE (k:=.slice) ⟨some ⟨N.gi,0,none⟩,n,n⟩ h7.c1 (aE (k:=.i) (u:Int) (la oa7).2.1 ?_));refine⟨⟨aB,by show _<(n:Int);omega⟩,aA rfl ?_⟩;obtain⟨s9,hs9,hcell9⟩:=h7.LN Dy;rw[hs8] at hs9;cases hs9;refine aE (k:=.slice) s8 hcell9 (aX (nM a) (iM oa7) ?_);have hrow9:=h7.row (n+u) s8 hs8;rw[hX8] at hrow9;have hfin:qI=true↔∃x∈nX l a.t,x.f=a.f:=by
   rw[hfind]
   constructor
   ·rintro⟨x,hx,QD,GC⟩;exact⟨x,iF.2 ⟨hx,GC⟩,QD⟩
   ·rintro⟨x,hx,hk⟩;exact⟨x,(iF.1 hx).1,hk,(iF.1 hx).2⟩
  refine laid_i hrow9 (h.ok.sO.LN a.t) low8 hfin aB λUK w8 hv12 m8 hb12=>?_;have hne8:∀k,(∃b,s8.b=some b/\k=b.block)->({N with dZ:=N.dZ.set v s6}:mY).dK k:=λk ⟨b,hb,hk⟩=>.inr (.inr (.inr ⟨n+u,s8,b,hs8,hb,hk.symm⟩));have hb1w:b1<w4.heap.size:=oa4.lt;have hb1n:¬({N with dZ:=N.dZ.set v s6}:mY).dK b1:=λhk=>by
   rcases hh6 b1 hk with h'|h'
   ·exact hold _ h' rfl
   ·omega
  have oa8:=oa7.aK m8 λhk=>hb1n (hne8 _ hk);refine⟨(la oa8).2.1,?_,⟨aB,by show _<(n:Int);omega⟩,aA rfl ?_⟩
  ·have:=h7.head.aK m8 λ⟨b,hb,hk⟩=>(h7.sep (n+u) s8 b hs8 hb).1 hk.symm;rw[aS,this.cell];rfl
  refine h7.putIn Dy hs8 hv12 m8 hb12 λw9 h9 m9 z9=>?_;have m46:aU N.dK w w6:=k4.wk.tr m6;have s67:w4.heap.size<=w7.drew.heap.size:=iR m6.size (iR d6.size k7'.size);have m69:aU N.dK w w9:=((m46.tr d6.wk).tr k7'.wk).trans m9 λk hk lT=>by
   rcases hh6 k lT with h'|h'
   ·exact h'
   ·omega
  refine hQ w9 {N with dZ:=(N.dZ.set v s6).set (n+u) UK} ⟨?_,h.ok.LB hm,h.sz⟩ rfl m69 λk hk=>?_
  ·have Ri:(λj=>if j=n+u then DV bO.f (nX l a.t) a else(λj=>if j=v then DV bO.t (eC l a.f) a else kH n l j) j)=kH n (LS l a):=by
    funext j
    by_cases hj1:j=n+u
    ·subst hj1;have h2:¬(n+u<n):=aB;simp only[if_true,kH,h2,if_false];rw[yn h.ok.sO,if_pos aB];congr 2;omega
    ·simp only[hj1,if_false]
     by_cases hj2:j=v
     ·subst hj2;simp only[if_true,kH,hvn];rw[Yc h.ok.sO,if_pos aB,hv]
     ·simp only[hj2,if_false,kH]
      split
      ·rw[Yc h.ok.sO,if_neg aB]
      ·rw[yn h.ok.sO,if_neg aB]
   rw[<-Ri];exact h9
  ·rcases mY.OK (N:={N with dZ:=N.dZ.set v s6}) (P:=λk=>w7.drew.heap.size<=k) hs8 (λa ha=>hb12.imp id λhq=>hq a ha) hk with h'|h'
   ·rcases hh6 k h' with h''|h''
    ·exact .inl h''
    ·exact .inr aB
   ·exact .inr aB
 have d3:aL w3 w3.drew:=aU.drew (aU.refl _ w3);have h3':=h3.aO d3;have oa3':=oa3.aK d3 id;refine aF (λhfd=>?_) (λhfd=>?_)
 ·obtain⟨x,hx,fp⟩:=Hg.1 hfd;have hxi:=qM.qI (h.ok.sO.out a.f) hx fp;have hi:i<(eC l a.f).length:=(eQ.1 hxi).1;have Ak:=eL.1 hx;have xn:jM l a.f a.t=some x:=by rw[<-Ak.2,<-fp];exact yR h.ok.sO Ak.1
  refine aA rfl (aE (k:=.slice) ⟨some ⟨N.go,0,none⟩,n,n⟩ h3'.at_.c0 (aE (k:=.i) (v:Int) (la oa3').1 ?_));refine⟨⟨aB,by show _<(n:Int);omega⟩,aA rfl ?_⟩;obtain⟨s',DB,hcell3⟩:=h3'.at_.out hvn;rw[hs] at DB;cases DB;refine aE (k:=.slice) s hcell3 ?_;have hrow3:=h3'.at_.row v s hs;rw[hX] at hrow3;have hl3:=hrow3.len;refine⟨⟨aB,aB⟩,?_⟩;obtain⟨b,hb,hh⟩:=(hrow3.rd jJ).get i x hxi;refine aA hb (aE (k:=.i) x.w ?_ (aE (k:=.i) a.w (la oa3').2.2 ?_))
  ·exact(iB.1 hh) 2 _ rfl
  refine aJ (λLK=>?_) (λLK=>?_)
  ·have e:vG n l a=(l,false):=by unfold vG;rw[if_pos hm,xn];simp only[LK,if_true]
   rw[e] at hQ;exact hQ _ N h3' rfl (iz.tr d3).wk λk hk=>.inl hk
  ·exact hJ' (by unfold vG;rw[if_pos hm,xn];simp only[LK,if_false])
 ·have xn:jM l a.f a.t=none:=by
   cases IV:jM l a.f a.t with
   |none=>rfl
   |some x=>obtain⟨h1,h2,h3⟩:=rI IV;rw[hfind.2 ⟨x,h1,h2,h3⟩] at hfd;cases hfd
  exact hJ' (by unfold vG;rw[if_pos hm,xn])
theorem QV{N:mY}{n:Nat}{l:List bO}{w:aH}{Q:Int->aH->Prop}(h:kY w N n l)(hQ:Q (n:Int) w):nF (some ⟨N.g,0,none⟩) w Q:=by
 unfold nF;refine aF (λh=>by simp at h) (λ_=>?_);exact aA rfl (aE (k:=.slice) ⟨some ⟨N.go,0,none⟩,n,n⟩ h.at_.c0 hQ)
theorem has_i{N:mY}{n:Nat}{l:List bO}{v:Int}{w:aH}{Q:Bool->aH->Prop}(h:kY w N n l)(hQ:∀r:Bool,(r=true↔0<=v/\v<n)->Q r w):yU (some ⟨N.g,0,none⟩) v w Q:=by
 unfold yU;refine aJ (λh1=>QV h (hQ _ (by simp;omega))) (λh1=>hQ _ (by simp;omega))
theorem Xk{N:mY}{n:Nat}{l:List bO}{v:Int}{w:aH}{Q:Sl->aH->Prop}(h:kY w N n l)(hQ:∀s' w',dD w' iA 4 dU s' (eC l v)->aL w w'->(∀b,s'.b=some b->w.heap.size<=b.block)->Q s' w'):
  yV (some ⟨N.g,0,none⟩) v w Q:=by
 unfold yV;have PN:=h.sz;refine has_i h λr hr=>aF (λh1=>?_) (λh1=>?_)
 ·have hn:eC l v=[]:=by
   apply List.filter_eq_nil_iff.2;intro x hx hxv;have:=h.ok.vF x hx;have e:x.f=v:=by simpa using hxv
   have:r=true:=hr.2 ⟨by rw[<-e];exact this.1,by rw[<-e];exact this.2.1⟩;rw[this] at h1;cases h1
  exact hQ _ w (by rw[hn];exact dD.nil _ _ _ _) (aU.refl _ _) (λb hb=>by cases hb)
 ·have hv:=hr.1 (by cases r<;>simp at h1 ⊢);obtain⟨u,rfl⟩:∃u:Nat,v=(u:Int):=⟨v.toNat,aB⟩;have hu:u<n:=aB;refine aA rfl (aE (k:=.slice) ⟨some ⟨N.go,0,none⟩,n,n⟩ h.at_.c0 ?_);refine⟨⟨aB,by show _<(n:Int);omega⟩,aA rfl ?_⟩;obtain⟨s,hs,wO⟩:=h.at_.out hu;refine aE (k:=.slice) s wO ?_;have qR:=h.at_.row u s hs;have hX:kH n l u=eC l (u:Int):=by simp[kH,hu]
  rw[hX] at qR;have:=h.ok.vP (u:Int);exact To (qR.rd jJ) aB hQ
theorem In_i{N:mY}{n:Nat}{l:List bO}{v:Int}{w:aH}{Q:Sl->aH->Prop}(h:kY w N n l)(hQ:∀s' w',dD w' iA 4 dU s' (nX l v)->aL w w'->(∀b,s'.b=some b->w.heap.size<=b.block)->Q s' w'):
  AG (some ⟨N.g,0,none⟩) v w Q:=by
 unfold AG;have PN:=h.sz;refine has_i h λr hr=>aF (λh1=>?_) (λh1=>?_)
 ·have hn:nX l v=[]:=by
   apply List.filter_eq_nil_iff.2;intro x hx hxv;have:=h.ok.vF x hx;have e:x.t=v:=by simpa using hxv
   have:r=true:=hr.2 ⟨by rw[<-e];exact this.2.2.1,by rw[<-e];exact this.2.2.2.1⟩;rw[this] at h1;cases h1
  exact hQ _ w (by rw[hn];exact dD.nil _ _ _ _) (aU.refl _ _) (λb hb=>by cases hb)
 ·have hv:=hr.1 (by cases r<;>simp at h1 ⊢);obtain⟨u,rfl⟩:∃u:Nat,v=(u:Int):=⟨v.toNat,aB⟩;have hu:u<n:=aB;refine aA rfl (aE (k:=.slice) ⟨some ⟨N.gi,0,none⟩,n,n⟩ h.at_.c1 ?_);refine⟨⟨aB,by show _<(n:Int);omega⟩,aA rfl ?_⟩;obtain⟨s,hs,wO⟩:=h.at_.LN hu;refine aE (k:=.slice) s wO ?_;have qR:=h.at_.row (n+u) s hs;have hX:kH n l (n+u)=nX l (u:Int):=by
   have:¬(n+u<n):=aB;simp only[kH,this,if_false];congr 1;omega
  rw[hX] at qR;have:=h.ok.FJ (u:Int);exact To (qR.rd jJ) aB hQ
theorem CV{w:aH}{g:Nat}{cs:List Value}{x:bO}{K:aH->Prop}(h:cU w g iA cs)(hl:cs.length=4)(hK:∀w',cU w' g iA (dU x)->aU (λk=>k=g) w w'->K w'):
  aI prog iA ⟨g,0,none⟩ (Ge x) w K:=by
 refine CH h CJ (by simp[Value.cells,hl]) (by simp[Value.cells,Value.oneCell']) λw' ho hm _=>hK w' ?_ hm;have:cs.take 0++(Ge x).cells.toList++cs.drop (0+(Ge x).cells.size)=dU x:=by simp[Value.cells,List.drop_of_length_le (show cs.length<=4 by omega)]
 rwa[this] at ho
theorem All_i{N:mY}{n:Nat}{l:List bO}{w:aH}{Q:Sl->aH->Prop}(h:kY w N n l)(hl:l.length<1099511627776)(hQ:∀s' w',dD w' iA 4 dU s' l->aL w w'->(∀b,s'.b=some b->w.heap.size<=b.block)->Q s' w'):
  XH (some ⟨N.g,0,none⟩) w Q:=by
 unfold XH;have PN:=h.sz;refine QV h ?_;have flen:∀i,i<=n->((List.range i).flatMap λv:Nat=>eC l (v:Int)).length<=l.length:=by intro i hi;have e:=ZO h.ok;obtain⟨d,rfl⟩:∃d,n=i+d:=⟨n-i,aB⟩;rw[List.range_add,GK] at e;rw[<-congrArg List.length e];simp
 refine bL (λm t w'=>∃(i:Nat) (s:Sl),i<=n/\m=n-i/\t=(s,(i:Int),())/\aL w w'/\dD w' iA 4 dU s ((List.range i).flatMap λv:Nat=>eC l (v:Int))/\(∀b,s.b=some b->w.heap.size<=b.block)) n
  ⟨0,aZ,dE _,rfl,rfl,aU.refl _ _,dD.nil _ _ _ _,λb hb=>by cases hb⟩ ?_
 rintro m t w' ⟨i,s,hi,rfl,rfl,hk,hv,hb⟩ X hX;dsimp only;have h':=h.aO hk;refine aJ (λcC=>?_) (λkC=>?_)
 ·have IU:i<n:=aB;refine aA rfl (aE (k:=.slice) ⟨some ⟨N.go,0,none⟩,n,n⟩ h'.at_.c0 ?_);refine⟨⟨aB,by show _<(n:Int);omega⟩,aA rfl ?_⟩;obtain⟨r,hr,wO⟩:=h'.at_.out IU;refine aE (k:=.slice) r wO ?_;have qR:=h'.at_.row i r hr;have hXr:kH n l i=eC l (i:Int):=by simp[kH,IU]
  rw[hXr] at qR;have LG:=flen (i+1) IU;rw[List.range_succ,GK,fJ] at LG;simp only[FE,List.flatMap_nil,uA] at LG;refine fH jQ jJ Cq hv (qR.rd jJ) aB aB λr2 w2 hv2 jd PQ _=>?_;rw[gZ aB aB];refine hX (n-(i+1)) _ _ aB ⟨i+1,r2,IU,rfl,rfl,aU.fresh hk jd (λk ⟨a,ha,hk⟩=>by rw[hk];exact hb a ha),?_,λb bR=>?_⟩
  ·rw[List.range_succ,GK];simpa using hv2
  ·rcases PQ with e|⟨b',e,cC⟩
   ·exact hb b (by rw[<-e];exact bR)
   ·rw[e] at bR;cases bR;have:=hk.size;omega
 ·have IU:i=n:=aB;subst IU;rw[ZO h.ok] at hv;exact hQ s w' hv hk hb
theorem EC{q:List It}(h:q.Nodup)(h1:Cn q){n:Nat}(hb:∀x∈q,0<=x.id/\x.id<n):q.length<=n:=by
 have:(q.map (·.id)).Nodup:=List.pairwise_map.2 (List.Pairwise.imp_of_mem (λ{x y} hx hy hn e=>hn (h1 x hx y hy e)) h);have:=xA this λv hv=>by obtain⟨x,hx,rfl⟩:=mD.1 hv;exact hb x hx
 simpa using this
theorem QZ{N:mY}{n:Nat}{l:List bO}{v:Int}{w:aH}{Q:Bool->aH->Prop}(h:kY w N n l)(hQ:∀r:Bool,(r=true↔0<=v/\v<n)->Q r w):tD (some ⟨N.g,0,none⟩) v w Q:=by
 unfold tD;refine aJ (λh0=>?_) (λh0=>hQ false (by simp;omega));exact QV h (hQ _ (by simp;omega))
theorem seek_i{N:mY}{n:Nat}{L:List bO}{a c:Int}{done:Value}{W:aH}{Q:aH->Prop}(hN:kY W N n L)(ha:0<=a)(mU:a<n){D:Nat->Prop}{C:Nat->aH->Prop}{stop:Nat->Bool}
  (hD:∀k,D k->k<W.heap.size) (hND:∀k,N.dK k->¬D k) (h0:C 0 W)
  (gh:∀k w1 w2,C k w1->aU (λb=>W.heap.size<=b) w1 w2->C k w2)
  (hcall:∀(k:Nat) (x:It) w1 (K:WQ Value),C k w1->(eK n L c a)[k]? =some x->(∀w2,C (k+1) w2->aU D w1 w2->K (.bool (stop k)) w2)->lI prog done [aD x.id,aD x.key] w1 K)
  (hQ:∀m w',C m w'->aU D W w'->m<=(eK n L c a).length->(∀j,j+1<m->stop j=false)->((m=(eK n L c a).length/\∀j,j<m->stop j=false)\/∃j,m=j+1/\stop j=true)->Q w'):vZ (some ⟨N.g,0,none⟩) a c done W Q:=by
 unfold vZ;have hL:=hN.ok;have hn:=hN.sz;simp only[aG];have k1:=aL.alloc W (.cells #[Value.slice none 0 0,Value.map none] 202);have o1:cU (W.alloc (.cells #[Value.slice none 0 0,Value.map none] 202)) W.heap.size vf [sv aZ,.map none]:=cU.iP W _ _;have s1:(W.alloc (.cells #[Value.slice none 0 0,Value.map none] 202)).heap.size=W.heap.size+1:=by simp
 generalize W.alloc (.cells #[Value.slice none 0 0,Value.map none] 202)=w1 at*;generalize hB:W.heap.size=B at*;have hH1:rU w1 ⟨B,B,aZ⟩ []:=.inr ⟨rfl,rfl,rfl,o1⟩;refine rA (ek:=FA) (kn:=.c .bool) λhm k2=>?_;have s2:(w1.alloc (.map #[] 0)).heap.size=w1.heap.size+1:=by simp
 have hH2:=hH1.aO k2;generalize w1.alloc (.map #[] 0)=w2 at*;have rB:B<=w1.heap.size:=aB;have rH:∀k,HS.dK ⟨B,B,aZ⟩ k->k=B:=by
  rintro k (h|h|⟨a,ha,_⟩)
  ·exact h
  ·exact h
  ·cases ha
 generalize hr:w1.heap.size=r at*;have newD:∀{F:Nat->Prop} {wa wb:aH},aU D W wa->aU F wa wb->(∀k,F k->B<=k)->aU D W wb:=λma mb hF=>ma.trans mb λk hk GC=>absurd (hF k GC) aB;have M2:aU D W w2:=(k1.wk).tr k2.wk;have C2:C 0 w2:=gh 0 _ _ h0 ((k1.wk).tr k2.wk);refine ZG hH2 dN λw3 H3 h3 g3 m3 f3=>?_;have hp0:(nY [] a 0).1=[⟨a,0⟩]:=rfl;rw[hp0] at h3;have m3B:∀k,HS.dK ⟨B,B,aZ⟩ k->B<=k:=λk hk=>by rw[rH k hk];exact dL _
 have M3:=newD M2 m3 m3B;have C3:=gh 0 _ _ C2 (m3.mono λk _ hk=>m3B k hk);have hm3:=hm.aK m3 λhk=>by have:=rH r hk;omega
 have hg3:H3.g=B:=g3;have fB:∀k,H3.dK k->B<=k/\k≠r:=λk hk=>(f3 k hk).elim (λh=>by rw[rH k h];exact⟨dL _,aB⟩) λh=>⟨aB,aB⟩;refine bL (λEc t w4=>∃(k:Nat) (H:HS) (nm:Nat),Ec=n+1-k/\k<=n/\(kD L c a k).2.length=k/\oU w4 H (kD L c a k).1/\H.g=B/\(∀b,H.dK b->B<=b/\b≠r)/\
   kV w4 r FA (.c .bool) (λv=>if wR (kD L c a k).2 v then some true else none) nm/\C k w4/\aU D W w4/\(∀j,j<k->stop j=false)) (n+1)
  ⟨0,H3,0,rfl,dE _,rfl,h3,hg3,fB,hm3.congr (λv=>rfl) rfl,C3,M3,λj hj=>aB⟩ ?_
 rintro Ec t w4 ⟨k,H,nm,rfl,hkn,hkl,h4,hg4,fB4,hm4,C4,M4,vE⟩ X hX;have VL:=xV hL c ha mU k;have LH:=run_eq hL c ha mU k;have xe:=run_eq hL c ha mU (k+1);have Xc:kD L c a (k+1)=GS L c (kD L c a k):=rfl;rw[<-hg4];refine xq (.inl h4) ?_;cases hq:(kD L c a k).1 with
 |nil=>
  refine aJ (λh=>by simp at h) (λ_=>?_);have gD:(eK n L c a).length=k:=by
   have h1:=NG hL c ha mU;rcases Nat.lt_or_ge k (eK n L c a).length with cC|kC
   ·have e1:(kD L c a (k+1)).2=(kD L c a k).2:=by
     rw[Xc];unfold GS;rw[hq]
    rw[e1,LH] at xe;have:=congrArg List.length xe;simp only[sM] at this;omega
   ·have:=congrArg List.length LH;simp only[sM] at this;omega
  exact hQ k w4 C4 M4 aB (λj hj=>vE j aB) (.inl ⟨gD.symm,vE⟩)
 |cons x q=>
  refine aJ (λ_=>?_) (λh=>absurd (by simp only[mE];omega) h);rw[hq] at h4 VL;have hxb:=VL.gX x dN;have xh:q.length<=n:=by have:=EC (mA h4.sO) h4.one (n:=n) λy hy=>(VL.gX y (by simp[hy])).2.2;simp at this;omega
  have hkq:k<n:=by have:=VL.len_q;omega
  have hst1:(kD L c a (k+1))=(qF c ((kD L c a k).2++[x]) x.key q (eC L x.id),(kD L c a k).2++[x]):=by rw[Xc];unfold GS;rw[hq]
  have fp:(eK n L c a)[k]? =some x:=by
   rw[hst1] at xe;have:((eK n L c a).take (k+1))[k]? =some x:=by rw[<-xe,Fx aB,hkl];simp
   rwa[VJ (Nat.lt_succ_self k)] at this
  refine Pop_i h4 aB λw6 H6 h6 g6 f6 m6=>?_;have m6B:∀b,H.dK b->B<=b:=λb hb=>(fB4 b hb).1;have M6:=newD M4 m6 m6B;have C6:=gh k _ _ C4 (m6.mono λb _ hb=>m6B b hb);have hm6:=hm4.aK m6 λhb=>(fB4 r hb).2 rfl;have fB6:∀b,H6.dK b->B<=b/\b≠r:=λb hb=>fB4 b ((f6 b).1 hb);refine WT (kn:=.c .bool) XN lF hm6 x.id true λw7 hm7 m7 _=>?_;have h7:=h6.aK m7 λb hb e=>(fB6 b hb).2 e;have M7:=newD M6 m7 λb e=>by rw[show b=r from e];exact rB
  have C7:=gh k _ _ C6 (m7.mono λb _ e=>by rw[show b=r from e];exact rB);have hm7':kV w7 r FA (.c .bool) (λv=>if wR ((kD L c a k).2++[x]) v then some true else none) _:=hm7.congr (λv=>by
   show(if wR ((kD L c a k).2++[x]) v then some true else none)=if v=x.id then some true else if wR (kD L c a k).2 v then some true else none
   unfold wR;rw[List.any_append]
   by_cases e:v=x.id
   ·subst e;simp
   ·have:¬x.id=v:=λe'=>e e'.symm;simp[e,this]) rfl
  refine hcall k x w7 _ C7 fp λw8 C8 m8=>⟨stop k,rfl,?_⟩;have M8:aU D W w8:=M7.tr m8;have hDB:∀b,D b->b<B:=hD;have h8:=h7.aK m8 λb hb hd=>by have:=(fB6 b hb).1;have:=hDB b hd;omega
  have hm8:=hm7'.aK m8 λhd=>by have:=hDB r hd;omega
  cases hsk:stop k with
  |true=>refine aF (λ_=>?_) (λh=>by simp at h);have:=(eQ.1 fp).1;exact hQ (k+1) w8 C8 M8 aB (λj hj=>vE j aB) (.inr ⟨k,rfl,hsk⟩)
  |false=>
   refine aF (λh=>by simp at h) (λ_=>?_);refine Xk (hN.aK M8 hND) λs9 w9 v9 k9 f9=>?_;have M9:aU D W w9:=M8.tr k9.wk;have C9:=gh _ _ _ C8 k9.wk;have h9:=h8.aK k9 λ_ _=>id;have hm9:=hm8.aK k9 id;have hw8:B<=w8.heap.size:=hB▸M8.size;have sl9:=v9.len;have fr9:∀b,s9.b=some b->¬H6.dK b.block/\b.block≠r/\b.block<w9.heap.size/\B<=b.block:=λb hb=>by
    have h1:=f9 b hb;exact⟨λh=>by have:=h8.lt h;omega,λe=>by have:=hm8.lt;omega,v9.lt hb,aB⟩
   have hol:=hL.vP x.id;refine bL (λEc t eZ=>∃(i:Nat) (H':HS),i<=(eC L x.id).length/\Ec=(eC L x.id).length-i/\t=((i:Int),())/\oU eZ H' (qF c ((kD L c a k).2++[x]) x.key q ((eC L x.id).take i))/\H'.g=B/\(∀b,H'.dK b->B<=b/\b≠r)/\
     (∀b,s9.b=some b->¬H'.dK b.block)/\(∃nm',kV eZ r FA (.c .bool) (λv=>if wR ((kD L c a k).2++[x]) v then some true else none) nm')/\C (k+1) eZ/\aU D W eZ/\dD eZ iA 4 dU s9 (eC L x.id)) (eC L x.id).length
    ⟨0,H6,dE _,rfl,rfl,by simpa [qF] using h9,g6.trans hg4,fB6,λb hb=>(fr9 b hb).1,⟨_,hm9⟩,C9,M9,v9⟩ ?_
   rintro Ec t eZ ⟨i,H',hi,rfl,rfl,Ea,g10,fB10,fs10,⟨nm',hm10⟩,C10,M10,v10⟩ Y hY;dsimp only;refine aJ (λcC=>?_) (λkC=>?_)
   ·have dJ:i<(eC L x.id).length:=aB;refine⟨⟨aB,aB⟩,?_⟩;obtain⟨p,hp,hh⟩:=vO (v10.rd jJ) (cM dJ);have gF:=mX dJ;have tk:=Zw c ((kD L c a k).2++[x]) x.key q ((eC L x.id).take i) ((eC L x.id)[i]);rw[<-mM dJ] at tk;generalize (eC L x.id)[i]=e at*;obtain⟨heL,hef⟩:=eL.1 gF;obtain⟨_,_,et0,et1,_,ew0,ew1,_⟩:=hL.vF e heL;refine aA hp (aX (nM e) hh ?_);simp only[aG];have kA:=aL.alloc eZ (.cells #[aD 0,aD 0,aD 0,aD 0] 128);have oA:cU (eZ.alloc (.cells #[aD 0,aD 0,aD 0,aD 0] 128)) eZ.heap.size 128 (dU ⟨0,0,0,0⟩):=cU.iP eZ _ _;generalize eZ.alloc (.cells #[aD 0,aD 0,aD 0,aD 0] 128)=wA at*;refine CV (x:=e) oA rfl λeE Ds Ku=>?_;have GA:aL eZ eE:=aU.fresh kA Ku λb hb=>aB;have Fp:=Ea.aK GA λ_ _=>id;have hm12:=hm10.aK GA id;have C12:=gh _ _ _ C10 GA.wk;have M12:aU D W eE:=M10.tr GA.wk;have Ce:=v10.aK GA λ_ _=>id;have c1:eE.cell? ((⟨eZ.heap.size,0,none⟩:Addr).add 1)=some (aD e.t):=by rw[aS,Ds.cell];rfl
    have c2:eE.cell? ((⟨eZ.heap.size,0,none⟩:Addr).add 2)=some (aD e.w):=by rw[aS,Ds.cell];rfl
    have wi:aQ ((i:Int)+1)=((i+1:Nat):Int):=by rw[gZ aB aB];rfl
    have skip:(e.t=c\/wR ((kD L c a k).2++[x]) e.t=true)->Y (aQ ((i:Int)+1),()) eE:=λhc=>by
     rw[wi];exact hY _ _ _ aB ⟨i+1,H',dJ,rfl,rfl,by rw[tk,if_pos hc];exact Fp,g10,fB10,fs10,⟨_,hm12⟩,C12,M12,Ce⟩
    refine aE (k:=.i) e.t c1 ?_;refine aF (λgK=>?_) (λheq=>skip (.inl (by simpa using heq)));have YS:e.t≠c:=by simpa using gK
    refine aE (k:=.i) e.t c1 ?_;refine BG (kn:=.c .bool) XN lF (z:=false) Oa hm12 e.t ?_;cases IU:wR ((kD L c a k).2++[x]) e.t with
    |true=>exact aF (λh=>by cases h) (λ_=>skip (.inr IU))
    |false=>
     refine aF (λ_=>?_) (λh=>by cases h);refine aE (k:=.i) e.t c1 (aE (k:=.i) e.w c2 ?_);have uC:x.key<=512*1099511627776:=by omega
     rw[gZ (n:=x.key+e.w) aB aB];have hpl:(qF c ((kD L c a k).2++[x]) x.key q ((eC L x.id).take i)).length<=n:=by
      refine EC (mA Ea.sO) Ea.one λy hy=>?_;have hq1:=List.pairwise_cons.1 VL.sO;have jB:Cn q:=λu hu v hv=>VL.one u (by simp[hu]) v (by simp[hv]);rcases(OR (c:=c) (s:=(kD L c a k).2++[x]) (d:=x.key) (l:=(eC L x.id).take i) hq1.2 jB).2.2.1 y hy with ja|⟨e',uK,_,_,rfl⟩
      ·exact(VL.gX y (by simp[ja])).2.2
      ·have:=hL.vF e' (eL.1 (List.mem_of_mem_take uK)).1;exact⟨this.2.2.1,this.2.2.2.1⟩
     rw[hg4,<-g10];refine ZG (.inl Fp) aB λmL H14 h14 g14 YL f14=>?_;have m14B:∀b,H'.dK b->B<=b:=λb hb=>(fB10 b hb).1;have hr12:=hm12.lt;rw[wi];refine hY _ _ _ aB ⟨i+1,H14,dJ,rfl,rfl,?_,by rw[g14,g10],λb hb=>?_,λb hb h=>?_,⟨_,hm12.aK YL λh=>(fB10 r h).2 rfl⟩,gh _ _ _ C12 (YL.mono λb _ hb=>m14B b hb),newD M12 YL m14B,Ce.aK YL λb hb h=>fs10 b hb h⟩
     ·rw[tk,if_neg (λh=>h.elim YS λh=>by rw[IU] at h;cases h)];exact h14
     ·rcases f14 b hb with h|h
      ·exact fB10 b h
      ·exact⟨aB,aB⟩
     ·rcases f14 _ h with h|h
      ·exact fs10 b hb h
      ·have:=Ce.lt hb;omega
   ·have e:i=(eC L x.id).length:=aB;subst e;rw[oI] at Ea;refine hX (n+1-(k+1)) _ _ aB ⟨k+1,H',_,rfl,aB,by rw[hst1];simp[hkl],by rw[hst1];exact Ea,g10,fB10,by rw[hst1];exact hm10,C10,M10,λj hj=>?_⟩;rcases Nat.lt_or_ge j k with h|h
    ·exact vE j h
    ·have:j=k:=aB;rw[this];exact hsk
theorem iC{w:aH}{g:Nat}{e:TypeId}{v:Value}(h:cU w g e [v]):w.cell? ⟨g,0,none⟩=some v:=by rw[h.cell];rfl
theorem Find_c1_i{b1 b2 b3 b4:Nat}{v d to fD st:Int}{fd:Bool}{w:aH}{K:Bool->aH->Prop}(o1:cU w b1 dG [aD to])(o2:cU w b2 dG [aD fD])(o3:cU w b3 dG [aD st])(o4:cU w b4 vI [.bool fd])
  (h1:b1≠b3) (h2:b2≠b3) (h3:b3≠b4) (h4:b1≠b4) (h5:b2≠b4) (vE:-1000000<st/\st<2000000)
  (hK:∀w',cU w' b1 dG [aD to]->cU w' b2 dG [aD fD]->cU w' b3 dG [aD (st-1)]->cU w' b4 vI [.bool (decide (v=to) && decide (d<=fD))]->aU (λb=>b=b3\/b=b4) w w'->K (decide (v=to) ||decide (st-1=0)) w'):
  nJ v d (some ⟨b3,0,none⟩) (some ⟨b1,0,none⟩) (some ⟨b2,0,none⟩) (some ⟨b4,0,none⟩) w K:=by
 unfold nJ;refine aA rfl (aE (k:=.i) st (iC o3) (aA rfl ?_));rw[gZ aB aB];refine cH o3 cZ dN rfl rfl λw1 p3 m1 _=>?_;have p1:=o1.aK m1 h1;have p2:=o2.aK m1 h2;have p4:=o4.aK m1 (Ne.symm h3);have p3':cU w1 b3 dG [aD (st-1)]:=p3;refine aA rfl (aE (k:=.i) to (iC p1) ?_);refine aF (λhe=>?_) (λhe=>?_)
 ·have uK:v=to:=by simpa using he
  refine aA rfl (aE (k:=.i) fD (iC p2) (aA rfl ?_));refine cH p4 iX dN rfl rfl λw2 q4 m2 _=>?_;refine aA rfl (aE (k:=.i) to (iC (p1.aK m2 h4)) ?_);refine aF (λ_=>?_) (λh=>by rw[he] at h;cases h);have:=hK w2 (p1.aK m2 h4) (p2.aK m2 h5) (p3'.aK m2 h3) (by simpa [uK] using q4) ((m1.mono λb _ h=>.inl h).tr (m2.mono λb _ h=>.inr h));simpa [uK] using this
 ·have uK:v≠to:=by simpa using he
  refine aA rfl ?_;refine cH p4 iX dN rfl rfl λw2 q4 m2 _=>?_;refine aA rfl (aE (k:=.i) to (iC (p1.aK m2 h4)) ?_);refine aF (λh=>by rw[he] at h;cases h) (λ_=>?_);refine aA rfl (aE (k:=.i) (st-1) (iC (p3'.aK m2 h3)) ?_);have:=hK w2 (p1.aK m2 h4) (p2.aK m2 h5) (p3'.aK m2 h3) (by simpa [uK] using q4) ((m1.mono λb _ h=>.inl h).tr (m2.mono λb _ h=>.inr h));have e:(decide (v=to) ||decide (st-1=0))=((st-1:Int)==(0:Int)):=by rw[Bool.eq_iff_iff];simp[uK]
  rw[e] at this;exact this
theorem Find_i{N:mY}{n:Nat}{L:List bO}{a to c fD fM:Int}{w:aH}{Q:Bool->aH->Prop}(h:kY w N n L)(hs:fM<1000000)(hQ:∀w',aL w w'->Q (PR n L a to c fD fM) w'):
  wC (some ⟨N.g,0,none⟩) a to c fD fM w Q:=by
 unfold wC;simp only[aG];have k1:=aL.alloc w (.cells #[aD to] 3);have o1:cU (w.alloc (.cells #[aD to] 3)) w.heap.size dG [aD to]:=cU.iP w _ _;have z1:(w.alloc (.cells #[aD to] 3)).heap.size=w.heap.size+1:=by simp
 generalize w.alloc (.cells #[aD to] 3)=w1 at*;have k2:=aL.alloc w1 (.cells #[aD fD] 3);have o2:cU (w1.alloc (.cells #[aD fD] 3)) w1.heap.size dG [aD fD]:=cU.iP w1 _ _;have z2:(w1.alloc (.cells #[aD fD] 3)).heap.size=w1.heap.size+1:=by simp
 generalize w1.alloc (.cells #[aD fD] 3)=w2 at*;have k3:=aL.alloc w2 (.cells #[aD fM] 3);have o3:cU (w2.alloc (.cells #[aD fM] 3)) w2.heap.size dG [aD fM]:=cU.iP w2 _ _;have z3:(w2.alloc (.cells #[aD fM] 3)).heap.size=w2.heap.size+1:=by simp
 generalize w2.alloc (.cells #[aD fM] 3)=w3 at*;have k4:=aL.alloc w3 (.cells #[Value.bool false] 4);have o4:cU (w3.alloc (.cells #[Value.bool false] 4)) w3.heap.size vI [.bool false]:=cU.iP w3 _ _;have z4:(w3.alloc (.cells #[Value.bool false] 4)).heap.size=w3.heap.size+1:=by simp
 generalize w3.alloc (.cells #[Value.bool false] 4)=w4 at*;have p3:=o3.aK k4 id;have p2:=(o2.aK k3 id).aK k4 id;have p1:=((o1.aK k2 id).aK k3 id).aK k4 id;have K4:aL w w4:=((k1.tr k2).tr k3).tr k4;have h4:=h.aO K4;generalize UP:w.heap.size=b1 at*;generalize PQ:w1.heap.size=b2 at*;generalize jl:w2.heap.size=b3 at*;generalize hb4:w3.heap.size=b4 at*;have no:∀{w':aH},aL w w'->cU w' b4 vI [.bool false]->PR n L a to c fD fM=false->aI prog vI ⟨b4,0,none⟩ (.bool false) w' λNc=>Aj .bool Nc ⟨b4,0,none⟩ λb=>Q b Nc:=λ{w'} k o hf=>by
  refine cH o iX dN rfl rfl λNc o'' m'' _=>?_;refine aE (k:=.bool) false (iC o'') ?_;rw[<-hf];exact hQ Nc (k.fresh m'' λb e=>by rw[show b=b4 from e];omega)
 refine QZ h4 λr1 hr1=>?_;refine aF (λhb=>no K4 o4 ?_) (λhb=>?_)
 ·unfold PR;have:¬(0<=a/\a<n):=λh=>by rw[hr1.2 h] at hb;cases hb
  simp only[this,decide_false,Bool.false_and]
 have ha:=hr1.1 (by cases r1<;>simp at hb ⊢);refine aE (k:=.i) to (iC p1) ?_;refine QZ h4 λr2 YI=>?_;refine aF (λhb=>no K4 o4 ?_) (λhb=>?_)
 ·unfold PR;have:¬(0<=to/\to<n):=λh=>by rw[YI.2 h] at hb;cases hb
  simp only[this,decide_false,Bool.false_and,Bool.and_false]
 have ht:=YI.1 (by cases r2<;>simp at hb ⊢);refine aF (λhe=>no K4 o4 ?_) (λgK=>?_)
 ·have:a=c:=by simpa using he
  unfold PR;simp[this]
 have hac:a≠c:=by simpa using gK
 refine aE (k:=.i) fM (iC p3) ?_;have e0:PR n L a to c fD fM=fndB (eK n L c a) to fD fM:=by unfold PR;rw[decide_eq_true ha,decide_eq_true ht,decide_eq_true hac];rfl
 refine aJ (λcC=>no K4 o4 ?_) (λkC=>?_)
 ·rw[e0];unfold fndB;rw[show fM.toNat=0 by omega];rfl
 have hnl:=h4.sz;have QC:=NG h4.ok c ha.1 ha.2;refine seek_i h4 ha.1 ha.2 (D:=λb=>b=b3\/b=b4)
  (C:=λk w'=>k<=n/\cU w' b1 dG [aD to]/\cU w' b2 dG [aD fD]/\cU w' b3 dG [aD (fM-k)]/\cU w' b4 vI [.bool (Sg (eK n L c a) to fD k)])
  (stop:=VP (eK n L c a) to fM) (λb hb=>aB) (λb hb hd=>by have:=h.at_.lt hb;omega) ⟨dE _,p1,p2,by simpa using p3,o4⟩
  (λk wa wb ⟨hk,q1,q2,q3,q4⟩ m=>⟨hk,q1.aK m aB,q2.aK m aB,q3.aK m aB,q4.aK m aB⟩) ?_ ?_
 ·intro k x wa K ⟨hk,q1,q2,q3,q4⟩ hx hK;have hkl:=(eQ.1 hx).1;refine pI YE iT (first:=#[]) (gN (ks:=[.i,.i,.c .ptr,.c .ptr,.c .ptr,.c .ptr]) (t:=(x.id,x.key,some ⟨b3,0,none⟩,some ⟨b1,0,none⟩,some ⟨b2,0,none⟩,some ⟨b4,0,none⟩,())) ?_)
  show nJ x.id x.key (some ⟨b3,0,none⟩) (some ⟨b1,0,none⟩) (some ⟨b2,0,none⟩) (some ⟨b4,0,none⟩) wa λr w'=>K (.bool r) w';refine Find_c1_i q1 q2 q3 q4 aB aB aB aB aB ⟨aB,aB⟩ λwb r1 r2 r3 r4 m=>?_;have e1:(decide (x.id=to) ||decide (fM-(k:Int)-1=0))=VP (eK n L c a) to fM k:=by
   unfold VP;rw[hx];have:decide (fM-(k:Int)-1=0)=decide (fM=(k:Int)+1):=by apply decide_eq_decide.2;omega
   simp only[this]
  rw[e1];refine hK wb ⟨aB,r1,r2,?_,?_⟩ m
  ·have:fM-(k:Int)-1=fM-((k+1:Nat):Int):=aB;rw[<-this];exact r3
  ·have:Sg (eK n L c a) to fD (k+1)=(decide (x.id=to) && decide (x.key<=fD)):=by rw[NK,hx]
   rw[this];exact r4
 ·intro m eN ⟨hk,q1,q2,q3,q4⟩ Kv fu vE hend;have Hg:=found_end (fD:=fD) (Zv h4.ok c ha.1 ha.2) (Mh h4.ok c ha.1 ha.2) aB fu vE hend;rw[Hg] at q4;refine aE (k:=.bool) _ (iC q4) ?_;refine cH q4 iX dN rfl rfl λeE Ds Ku _=>?_;refine aE (k:=.bool) _ (iC Ds) ?_;rw[<-e0];exact hQ eE ((K4.fresh Kv λb hb=>aB).fresh Ku λb e=>by rw[show b=b4 from e];omega)
abbrev eSl(s:Sl):List Value:=[sv s]
theorem Jj{w:aH}{e:TypeId}{g n:Nat}{xs:List Sl}(h:dD w e 1 eSl ⟨some ⟨g,0,none⟩,n,n⟩ xs):cU w g e (xs.map sv):=by
 rcases h.gR with⟨h0,_⟩|⟨g',cJ,hb,ho,hl⟩
 ·cases h0
 ·have:g'=g:=by cases hb;rfl
  subst this;have gD:=h.len;have hf:xs.flatMap eSl=xs.map sv:=by
   clear ho hl hb h gD
   induction xs with
   |nil=>rfl
   |cons x r ih=>simp[FE,ih]
  have hr:cJ=[]:=by rw[fJ,hf,oH] at hl;apply Lu;have:n=xs.length:=gD;simp only at hl;omega
  rw[hr,uA,hf] at ho;exact ho
theorem init_i{w:aH}{n go gi:Nat}(hn:n<=512)(h1:cU w go DS ((List.replicate n (aZ:Sl)).map sv))(h2:cU w gi DS ((List.replicate n (aZ:Sl)).map sv))(gK:go≠gi):
  kY (w.alloc (.cells #[sv ⟨some ⟨go,0,none⟩,n,n⟩,sv ⟨some ⟨gi,0,none⟩,n,n⟩] tNet)) ⟨w.heap.size,go,gi,List.replicate (n+n) aZ⟩ n []:=by
 have k:=aL.alloc w (.cells #[sv ⟨some ⟨go,0,none⟩,n,n⟩,sv ⟨some ⟨gi,0,none⟩,n,n⟩] tNet);have l1:=h1.lt;have l2:=h2.lt;have nil:∀(i:Nat) (s:Sl),(List.replicate (n+n) (aZ:Sl))[i]? =some s->s=aZ:=λi s hs=>by
  rw[Fv] at hs
  split at hs
  ·exact(tZ hs).symm
  ·cases hs
 refine⟨⟨cU.iP w _ _,?_,?_,by simp,?_,?_,?_,?_⟩,sD.nil n,hn⟩
 ·have:(List.replicate (n+n) (aZ:Sl)).take n=List.replicate n aZ:=by simp
  rw[this];exact h1.aK k id
 ·have:(List.replicate (n+n) (aZ:Sl)).drop n=List.replicate n aZ:=by simp
  rw[this];exact h2.aK k id
 ·intro i s hs;rw[nil i s hs];have:kH n [] i=[]:=by simp[kH,eC,nX]
  rw[this];exact dD.nil _ _ _ _
 ·intro i s a hs ha;rw[nil i s hs] at ha;cases ha
 ·intro i j s u a b hs _ ha _ _;rw[nil i s hs] at ha;cases ha
 ·exact⟨λe:w.heap.size=go=>aB,λe:w.heap.size=gi=>aB,gK⟩
theorem New_i{n:Int}{s:Sl}{xs:List bO}{w:aH}{Q:cR->Int->aH->Prop}(hr:Rd w s 4 dU xs)(gD:xs.length<1099511627776)
  (SJ:∀w',aL w w'->¬(0<=n/\n<=512/\∀a∈xs,FD n.toNat a)->Q none 1 w')
  (oJ:∀w' N,0<=n->n<=512->(∀a∈xs,FD n.toNat a)->kY w' N n.toNat (gW n.toNat [] xs)->aL w w'->(∀k,N.dK k->w.heap.size<=k)->Q (some ⟨N.g,0,none⟩) 0 w'):HW n s w Q:=by
 unfold HW;have hl:=hr.len;refine aJ (λh=>SJ w (aU.refl _ _) aB) (λh0=>?_);refine aJ (λh=>SJ w (aU.refl _ _) aB) (λh1=>?_);obtain⟨m,rfl⟩:∃m:Nat,n=(m:Int):=⟨n.toNat,aB⟩;have hm:m<=512:=aB;simp only[dW] at SJ oJ;intro J hJ;have main:∀w1 N,kY w1 N m []->aL w w1->(∀k,N.dK k->w.heap.size<=k)->J (some ⟨N.g,0,none⟩,()) w1:=by
  intro w1 N hN hk hfr;apply hJ;refine bL (λc t w2=>∃(i:Nat) (N2:mY),i<=xs.length/\c=xs.length-i/\t=((i:Int),())/\kY w2 N2 m (gW m [] (xs.take i))/\N2.g=N.g/\aL w w2/\(∀k,N2.dK k->w.heap.size<=k)/\(∀a∈xs.take i,FD m a)) xs.length
   ⟨0,N,dE _,rfl,rfl,by simpa [gW] using hN,rfl,hk,hfr,by simp⟩ ?_
  rintro c t w2 ⟨i,N2,hi,rfl,rfl,hN2,hg,GC,hfr2,sW⟩ X hX;dsimp only;refine aJ (λcC=>?_) (λkC=>?_)
  ·have dJ:i<xs.length:=aB;refine⟨⟨aB,aB⟩,?_⟩;obtain⟨a,ha,hh⟩:=vO (hr.aK GC WL (λ_ _=>id)) (cM dJ);refine aA ha (aX (nM xs[i]) hh ?_);simp only[aG];have k3:=aL.alloc w2 (.cells #[aD 0,aD 0,aD 0,aD 0] 128);have o3:cU (w2.alloc (.cells #[aD 0,aD 0,aD 0,aD 0] 128)) w2.heap.size 128 (dU ⟨0,0,0,0⟩):=cU.iP w2 _ 128;generalize w2.alloc (.cells #[aD 0,aD 0,aD 0,aD 0] 128)=w3 at*;refine CV o3 rfl λw4 o4 m4=>?_;have k4:aL w2 w4:=aU.fresh k3 m4 λk hk=>aB;have hN4:=hN2.aO k4;refine aX (nM xs[i]) (iM o4) ?_;rw[<-hg];refine may_i hN4.at_.head λw5 r k5 hrm=>?_;have hN5:=hN4.aO k5;have o5:=o4.aK k5 id;have k25:=k4.tr k5;refine aF (λhb=>?_) (λhb=>?_)
   ·refine SJ w5 (GC.tr k25) λ⟨_,_,qS⟩=>?_;rw[hrm.2 (qS _ (mX dJ))] at hb;cases hb
   ·have hma:FD m xs[i]:=hrm.1 (by cases r<;>simp at hb ⊢);refine aX (nM xs[i]) (iM o5) ?_;refine Put_i hN5 λw6 N6 hN6 hg6 m6 hf6=>?_;rw[gZ aB aB];refine hX (xs.length-(i+1)) _ _ aB ⟨i+1,N6,dJ,rfl,rfl,?_,by rw[hg6,hg],aU.fresh (GC.tr k25) m6 hfr2,λk hk=>?_,?_⟩
    ·rw[mM dJ,NH];exact hN6
    ·rcases hf6 k hk with h|h
     ·exact hfr2 k h
     ·have:=GC.size;have:=k25.size;omega
    ·rw[mM dJ];intro x hx;rcases kE.1 hx with hx|hx
     ·exact sW x hx
     ·simp at hx;subst hx;exact hma
  ·have dJ:i=xs.length:=aB;subst dJ;rw[oI] at hN2 sW;rw[<-hg];exact oJ w2 N2 aB aB sW hN2 GC hfr2
 have kd:aL w w.drew:=aU.drew (aU.refl _ w);have both:∀{K:aH->Sl->Sl->Prop},(∀w8 g1 g2,cU w8 g1 DS ((List.replicate m (aZ:Sl)).map sv)->cU w8 g2 DS ((List.replicate m (aZ:Sl)).map sv)->g1≠g2->aL w w8->w.heap.size<=g1->w.heap.size<=g2->K w8 ⟨some ⟨g1,0,none⟩,m,m⟩ ⟨some ⟨g2,0,none⟩,m,m⟩)->
   fE prog tssArc (aD (m:Int)) (aD (m:Int)) w.drew λs1 w7=>fE prog tssArc (aD (m:Int)) (aD (m:Int)) w7 λs2 w8=>K w8 s1 s2:=by
  intro K hK;refine wW Jq (aY:=eSl) aZ rfl (λ_=>rfl) aB (lK _) aB aB λw7 hv7 k7=>?_;refine wW Jq (aY:=eSl) aZ rfl (λ_=>rfl) aB (lK _) aB aB λw8 hv8 k8=>?_;have hv7':=hv7.aK k8 (λ_ _=>id);have cC:w.drew.heap.size<w7.heap.size:=hv7.lt rfl;exact hK w8 _ _ (Jj hv7') (Jj hv8) aB ((kd.tr k7).tr k8) (dL _) (iR kd.size k7.size)
 have fr:∀(w8:aH) (g1 g2:Nat),w.heap.size<=g1->w.heap.size<=g2->aL w w8->∀k,(⟨w8.heap.size,g1,g2,List.replicate (m+m) aZ⟩:mY).dK k->w.heap.size<=k:=by
  intro w8 g1 g2 h1 h2 hk k hh;rcases hh with h|h|h|⟨i,s,a,hs,ha,_⟩
  ·rw[h];exact hk.size
  ·rw[h];exact h1
  ·rw[h];exact h2
  ·rw[Fv] at hs
   split at hs
   ·cases hs;cases ha
   ·cases hs
 refine⟨both λw8 g1 g2 h1 h2 gK hk hg1 Al=>?_,both λw8 g1 g2 h1 h2 gK hk hg1 Al=>?_⟩
 ·exact main _ ⟨w8.heap.size,g1,g2,List.replicate (m+m) aZ⟩ (init_i hm h1 h2 gK) (aU.alloc hk _) (fr w8 g1 g2 hg1 Al hk)
 ·exact main _ ⟨w8.heap.size,g2,g1,List.replicate (m+m) aZ⟩ (init_i hm h2 h1 (Ne.symm gK)) (aU.alloc hk _) (fr w8 g2 g1 Al hg1 hk)
theorem Copy_i{N:mY}{n:Nat}{l:List bO}{w:aH}{Q:cR->aH->Prop}(h:kY w N n l)(hl:l.length<1099511627776)
  (hQ:∀w' N',kY w' N' n l->aL w w'->(∀k,N'.dK k->w.heap.size<=k)->Q (some ⟨N'.g,0,none⟩) w'):HX (some ⟨N.g,0,none⟩) w Q:=by
 unfold HX;have PN:=h.sz;refine aF (λh=>by simp at h) (λ_=>?_);refine QV h (All_i h hl λs w' hv hk hb=>?_);refine New_i (hv.rd jJ) hl (λw2 k2 pA=>?_) (λw2 N2 _ _ _ hN2 k2 hfr=>?_)
 ·exact absurd ⟨aB,aB,λa ha=>by simpa using h.ok.vF a ha⟩ pA
 ·simp only[dW] at hN2;have e:gW n [] l=l:=NI (p:=[]) h.ok;rw[e] at hN2;exact hQ w2 N2 hN2 (hk.tr k2) λk lT=>iR hk.size (hfr k lT)
section
section
variable{N:mY}{n:Nat}{X:Nat->List bO}{v:Int}{w:aH}
theorem has_at{Q:Bool->aH->Prop}(h:lX w N n X)(hn:n<=512)(hQ:∀r:Bool,(r=true↔0<=v/\v<n)->Q r w):yU (some ⟨N.g,0,none⟩) v w Q:=by
 unfold yU;refine aJ (λh1=>?_) (λh1=>hQ _ (by simp;omega));unfold nF;refine aF (λh=>by simp at h) (λ_=>?_);exact aA rfl (aE (k:=.slice) ⟨some ⟨N.go,0,none⟩,n,n⟩ h.c0 (hQ _ (by simp;omega)))
theorem In_at{Q:Sl->aH->Prop}(h:lX w N n X)(hn:n<=512)(hX:∀j,(X j).length<=512)(hQ:∀s' w',dD w' iA 4 dU s' (if 0<=v/\v<n then X (n+v.toNat) else [])->aL w w'->(∀b,s'.b=some b->w.heap.size<=b.block)->Q s' w'):
  AG (some ⟨N.g,0,none⟩) v w Q:=by
 unfold AG;refine has_at h hn λr hr=>aF (λh1=>?_) (λh1=>?_)
 ·have:¬(0<=v/\v<n):=λhv=>by rw[hr.2 hv] at h1;cases h1
  rw[if_neg this] at hQ;exact hQ _ w (dD.nil _ _ _ _) (aU.refl _ _) (λb hb=>by cases hb)
 ·have hv:=hr.1 (by cases r<;>simp at h1 ⊢);rw[if_pos hv] at hQ;obtain⟨u,rfl⟩:∃u:Nat,v=(u:Int):=⟨v.toNat,aB⟩;refine aA rfl (aE (k:=.slice) ⟨some ⟨N.gi,0,none⟩,n,n⟩ h.c1 ?_);refine⟨⟨aB,by show _<(n:Int);omega⟩,aA rfl ?_⟩;obtain⟨s,hs,wO⟩:=h.LN (show u<n by omega);refine aE (k:=.slice) s wO ?_;have:=hX (n+u);exact To ((h.row (n+u) s hs).rd jJ) aB λs' w' h1 h2 h3=>hQ s' w' h1 h2 h3
end
theorem NU{l R:List bO}{x:bO}:x∈l.filter (λy=>decide (y∉R))↔x∈l/\x∉R:=by simp
def BP(n:Nat)(l RO RI:List bO)(j:Nat):List bO:=if j<n then(eC l (j:Int)).filter (λy=>decide (y∉RI)) else(nX l ((j:Int)-n)).filter (λy=>decide (y∉RO))
theorem cutX_len{n:Nat}{l RO RI:List bO}(h:sD n l)(hn:n<=512)(j:Nat):(BP n l RO RI j).length<=512:=by
 unfold BP
 split
 ·have:=zL (λy=>decide (y∉RI)) (eC l (j:Int));have:=h.vP (j:Int);omega
 ·have:=zL (λy=>decide (y∉RO)) (nX l ((j:Int)-n));have:=h.FJ ((j:Int)-n);omega
theorem arc_eq{l:List bO}(h:BU l){x y:bO}(hx:x∈l)(hy:y∈l)(hf:x.f=y.f)(ht:x.t=y.t):x=y:=by
 have h1:=yR h hx;have h2:=yR h hy;rw[hf,ht,h2] at h1;exact(tZ h1).symm
theorem Bo{key:bO->Int}{row R:List bO}{a:bO}(hs:YO key row)(h1:∀x∈row,x∉R->key x=key a->x=a):
  (row.filter λy=>decide (y∉R)).filter (λy=>decide (key y≠key a))=row.filter λy=>decide (y∉R++[a]):=by
 refine((hs.filter _).filter _).ext (hs.filter _) λx=>?_;simp only[jI,decide_eq_true_eq,kE,oG,not_or]
 constructor
 ·rintro⟨⟨hx,hn⟩,hk⟩;exact⟨hx,hn,λe=>hk (by rw[e])⟩
 ·rintro⟨hx,hn,gK⟩;exact⟨⟨hx,hn⟩,λhk=>gK (h1 x hx hn hk)⟩
theorem Cut_i{N:mY}{n:Nat}{l:List bO}{v:Int}{w:aH}{Q:aH->Prop}(h:kY w N n l)
  (hQ:∀w' N',kY w' N' n (DF l v)->N'.g=N.g->aU N.dK w w'->(∀k,N'.dK k->N.dK k\/w.heap.size<=k)->Q w'):XG (some ⟨N.g,0,none⟩) v w Q:=by
 unfold XG;have PN:=h.sz;have oJ:=h.ok;refine Xk h λs1 w1 Dx k1 UP=>?_;have h1:=h.aO k1;have r1:=Dx.rd jJ;have hX0:kH n l=BP n l [] []:=by
  funext j
  unfold kH BP
  split<;>exact(List.filter_eq_self.2 dN).symm
 have at1:lX w1 N n (BP n l [] []):=by rw[<-hX0];exact h1.at_
 refine bL (λm t w2=>∃(i:Nat) (N2:mY),i<=(eC l v).length/\m=(eC l v).length-i/\t=((i:Int),())/\lX w2 N2 n (BP n l ((eC l v).take i) [])/\N2.g=N.g/\Rd w2 s1 4 dU (eC l v)/\aU N.dK w w2/\(∀k,N2.dK k->N.dK k\/w1.heap.size<=k)/\w1.heap.size<=w2.heap.size) (eC l v).length
  ⟨0,N,dE _,rfl,rfl,by simpa using at1,rfl,r1,k1.wk,λk hk=>.inl hk,dL _⟩ ?_
 rintro m t w2 ⟨i,N2,hi,rfl,rfl,at2,Al,r2,m2,hf2,z2⟩ X hX;dsimp only;have Ni:=Dx.len;have hlenO:=oJ.vP v;have Va:∀b,s1.b=some b->eC l v≠[]->w.heap.size<=b.block/\b.block<w1.heap.size:=λb hb _=>⟨UP b hb,Dx.lt hb⟩;refine aJ (λcC=>?_) (λkC=>?_)
 ·have dJ:i<(eC l v).length:=aB;refine⟨⟨aB,aB⟩,?_⟩;obtain⟨a0,ha0,hh⟩:=vO r2 (cM dJ);generalize hxa:(eC l v)[i]=a at hh;have ug:(eC l v)[i]? =some a:=by rw[<-hxa];exact cM dJ
  have gF:a∈eC l v:=lD ug;obtain⟨hal,haf⟩:=eL.1 gF;have hma:=oJ.vF a hal;refine aA ha0 (aX (nM a) hh ?_);simp only[aG];have k3:=aL.alloc w2 (.cells #[aD 0,aD 0,aD 0,aD 0] 128);have o3:cU (w2.alloc (.cells #[aD 0,aD 0,aD 0,aD 0] 128)) w2.heap.size 128 (dU ⟨0,0,0,0⟩):=cU.iP w2 _ 128;generalize w2.alloc (.cells #[aD 0,aD 0,aD 0,aD 0] 128)=w3 at*;refine CV o3 rfl λw4 o4 m4=>?_;have k4:aL w2 w4:=aU.fresh k3 m4 λk hk=>aB;generalize PQ:w2.heap.size=b2 at*;have hb2N:¬N2.dK b2:=λhk=>by have:=at2.lt hk;omega
  obtain⟨u,hu⟩:∃u:Nat,a.t=(u:Int):=⟨a.t.toNat,by have:=hma.2.2.1;omega⟩;have Dy:u<n:=by have:=hma.2.2.2.1;omega
  have d4:aL w4 w4.drew:=aU.drew (aU.refl _ w4);have la:∀{w':aH},cU w' b2 128 (dU a)->w'.cell? ((⟨b2,0,none⟩:Addr).add 1)=some (aD (u:Int)):=λho=>by
   rw[aS,ho.cell,<-hu];rfl
  have at4:=(at2.aO k4).aO d4;have o4':=o4.aK d4 id;rw[<-Al];refine aA rfl (aE (k:=.slice) ⟨some ⟨N2.gi,0,none⟩,n,n⟩ at4.c1 (aE (k:=.i) (u:Int) (la o4') ?_));refine⟨⟨aB,by show _<(n:Int);omega⟩,aA rfl ?_⟩;obtain⟨s3,Ci,hc3⟩:=at4.LN Dy;refine aE (k:=.slice) s3 hc3 ?_;have qR:=at4.row (n+u) s3 Ci;have hXe:∀R,BP n l R [] (n+u)=(nX l a.t).filter (λy=>decide (y∉R)):=λR=>by
   have:¬(n+u<n):=aB;simp only[BP,this,if_false,hu];congr 2;omega
  rw[hXe] at qR;have mF:YO bO.f ((nX l a.t).filter (λy=>decide (y∉(eC l v).take i))):=(oJ.sO.LN a.t).filter _;have gD:=zL (λy=>decide (y∉(eC l v).take i)) (nX l a.t);have yL:=oJ.FJ a.t;have ku:a∉(eC l v).take i:=by
   intro IU;obtain⟨p,hp⟩:=pC.1 IU;have hpi:p<i:=by have:=(eQ.1 hp).1;simp at this;omega
   rw[VJ hpi] at hp;have:=(oJ.sO.out v).get hpi hp ug;omega
  have IU:a∈(nX l a.t).filter (λy=>decide (y∉(eC l v).take i)):=by rw[NU];exact⟨iF.2 ⟨hal,rfl⟩,ku⟩
  refine Yu (qR.rd jJ) mF aB λj fnd w5 k5 qM _=>?_;have d5:aL w5 w5.drew:=aU.drew (aU.refl _ w5);have fj:=(d4.tr k5).tr d5;have jm:=(at2.aO k4).aO fj;have o5:=o4.aK fj id;refine aA rfl (aE (k:=.slice) ⟨some ⟨N2.gi,0,none⟩,n,n⟩ jm.c1 (aE (k:=.i) (u:Int) (la o5) ?_));refine aA rfl (aE (k:=.slice) ⟨some ⟨N2.gi,0,none⟩,n,n⟩ jm.c1 (aE (k:=.i) (u:Int) (la o5) ?_));refine⟨⟨aB,by show _<(n:Int);omega⟩,aA rfl ?_⟩;obtain⟨s6,Nh,hc6⟩:=jm.LN Dy;rw[Ci] at Nh;cases Nh;refine aE (k:=.slice) s3 hc6 ?_;have Xd:=jm.row (n+u) s3 Ci;rw[hXe] at Xd;have hj:j<((nX l a.t).filter (λy=>decide (y∉(eC l v).take i))).length:=(eQ.1 (qM.qI mF IU haf)).1;rw[gZ (n:=(j:Int)+1) aB aB];refine Zd Xd hj aB λs7 w6 hv7 m6 hb7=>?_;have gK:∀k,(∃b,s3.b=some b/\k=b.block)->N2.dK k:=λk ⟨b,hb,hk⟩=>.inr (.inr (.inr ⟨n+u,s3,b,Ci,hb,hk.symm⟩));have o6:=o5.aK m6 λhk=>hb2N (gK _ hk);refine⟨la o6,?_,⟨aB,by show _<(n:Int);omega⟩,aA rfl ?_⟩
  ·have:=jm.head.aK m6 λ⟨b,hb,hk⟩=>(jm.sep (n+u) s3 b Ci hb).1 hk.symm;rw[aS,this.cell];rfl
  refine jm.putIn Dy Ci hv7 m6 (.inl hb7) λw7 at7 m7 z7=>?_;rw[gZ (n:=(i:Int)+1) aB aB];have Ri:(λj'=>if j'=n+u then((nX l a.t).filter (λy=>decide (y∉(eC l v).take i))).take j++((nX l a.t).filter (λy=>decide (y∉(eC l v).take i))).drop (j+1) else BP n l ((eC l v).take i) [] j')=BP n l ((eC l v).take (i+1)) []:=by
   funext j'
   rw[List.take_add_one,ug,Option.toList_some]
   split
   ·rename_i he
    subst he;rw[hXe,qM.gz mF IU haf,<-haf];refine Bo (oJ.sO.LN a.t) λx hx _ hk=>?_;obtain⟨OF,fq⟩:=iF.1 hx;exact arc_eq oJ.sO OF hal hk fq
   ·rename_i he
    unfold BP
    split
    ·rfl
    ·refine ly3 λx hx=>?_;have:x≠a:=by
      rintro rfl;have:=(iF.1 hx).2;omega
     simp[this]
  rw[Ri] at at7;have m27:aU N2.dK w2 w7:=(k4.wk.tr fj.wk).tr m7;refine hX ((eC l v).length-(i+1)) _ _ aB ⟨i+1,_,dJ,rfl,rfl,at7,Al,?_,m2.trans m27 (λk hk GC=>?_),λk hk=>?_,by have:=m27.size;omega⟩
  ·refine r2.aK m27 WL λb hb hk=>?_;have bR:=Va b hb (by intro e;rw[e] at dJ;simp at dJ);rcases hf2 _ hk with h'|h'
   ·have:=h.at_.lt h';omega
   ·omega
  ·rcases hf2 k GC with h'|h'
   ·exact h'
   ·have:=k1.size;omega
  ·rcases mY.OK (N:=N2) (P:=λ_=>False) Ci (λa _=>.inl hb7) hk with h'|h'
   ·exact hf2 k h'
   ·exact h'.elim
 ·have dJ:i=(eC l v).length:=aB;subst dJ;rw[oI] at at2;generalize hO:eC l v=O at*;have hmemO:∀x,x∈O↔x∈l/\x.f=v:=λx=>by rw[<-hO];exact eL
  rw[<-Al];refine In_at at2 PN (cutX_len oJ PN) λs8 w8 hv8 k8 hfr8=>?_;have hI:(if 0<=v/\v<n then BP n l O [] (n+v.toNat) else [])=nX l v:=by
   split
   ·rename_i hv
    have:¬(n+v.toNat<n):=aB;simp only[BP,this,if_false];rw[show((n+v.toNat:Nat):Int)-(n:Int)=v by omega];refine List.filter_eq_self.2 λx hx=>?_;obtain⟨OF,fq⟩:=iF.1 hx;have hmx:=(oJ.vF x OF).2.2.2.2.1;simp only[decide_eq_true_eq,hmemO];rintro⟨_,hf⟩;omega
   ·rename_i hv
    symm
    refine List.filter_eq_nil_iff.2 λx hx hxv=>?_;have e:x.t=v:=by simpa using hxv
    have:=oJ.vF x hx;exact hv ⟨by rw[<-e];exact this.2.2.1,by rw[<-e];exact this.2.2.2.1⟩
  rw[hI] at hv8;have at8:=at2.aO k8;have r8:=hv8.rd jJ;have m8:aU N.dK w w8:=m2.trans k8 λ_ _ h=>h.elim;have hl8:=hv8.len;have hlenI:=oJ.FJ v;refine bL (λm t w9=>∃(i:Nat) (N3:mY),i<=(nX l v).length/\m=(nX l v).length-i/\t=((i:Int),())/\lX w9 N3 n (BP n l O ((nX l v).take i))/\N3.g=N.g/\Rd w9 s8 4 dU (nX l v)/\aU N.dK w w9/\(∀k,N3.dK k->N.dK k\/w1.heap.size<=k)/\w8.heap.size<=w9.heap.size/\(∀k,N3.dK k->N2.dK k)) (nX l v).length
   ⟨0,N2,dE _,rfl,rfl,by simpa using at8,Al,r8,m8,hf2,dL _,λk hk=>hk⟩ ?_
  rintro m t w9 ⟨i,N3,hi,rfl,rfl,at9,hg3,r9,m9,hf3,z9,hn3⟩ Y hY;dsimp only;refine aJ (λcC=>?_) (λkC=>?_)
  ·have dJ:i<(nX l v).length:=aB;refine⟨⟨aB,aB⟩,?_⟩;obtain⟨a0,ha0,hh⟩:=vO r9 (cM dJ);generalize hxa:(nX l v)[i]=a at hh;have ug:(nX l v)[i]? =some a:=by rw[<-hxa];exact cM dJ
   have gF:a∈nX l v:=lD ug;obtain⟨hal,Fo⟩:=iF.1 gF;have hma:=oJ.vF a hal;refine aA ha0 (aX (nM a) hh ?_);simp only[aG];have k3:=aL.alloc w9 (.cells #[aD 0,aD 0,aD 0,aD 0] 128);have o3:cU (w9.alloc (.cells #[aD 0,aD 0,aD 0,aD 0] 128)) w9.heap.size 128 (dU ⟨0,0,0,0⟩):=cU.iP w9 _ 128;generalize w9.alloc (.cells #[aD 0,aD 0,aD 0,aD 0] 128)=w3 at*;refine CV o3 rfl λw4 o4 m4=>?_;have k4:aL w9 w4:=aU.fresh k3 m4 λk hk=>aB;generalize PQ:w9.heap.size=b2 at*;have hb2N:¬N3.dK b2:=λhk=>by have:=at9.lt hk;omega
   obtain⟨u,hu⟩:∃u:Nat,a.f=(u:Int):=⟨a.f.toNat,by have:=hma.1;omega⟩;have Dy:u<n:=by have:=hma.2.1;omega
   have d4:aL w4 w4.drew:=aU.drew (aU.refl _ w4);have la:∀{w':aH},cU w' b2 128 (dU a)->w'.cell? ((⟨b2,0,none⟩:Addr).add 0)=some (aD (u:Int)):=λho=>by
    rw[aS,ho.cell,<-hu];rfl
   have at4:=(at9.aO k4).aO d4;have o4':=o4.aK d4 id;rw[Al,<-hg3];refine aA rfl (aE (k:=.slice) ⟨some ⟨N3.go,0,none⟩,n,n⟩ at4.c0 (aE (k:=.i) (u:Int) (la o4') ?_));refine⟨⟨aB,by show _<(n:Int);omega⟩,aA rfl ?_⟩;obtain⟨s3,Ci,hc3⟩:=at4.out Dy;refine aE (k:=.slice) s3 hc3 ?_;have qR:=at4.row u s3 Ci;have hXe:∀R,BP n l O R u=(eC l a.f).filter (λy=>decide (y∉R)):=λR=>by
    simp only[BP,Dy,if_true,hu]
   rw[hXe] at qR;have mF:YO bO.t ((eC l a.f).filter (λy=>decide (y∉(nX l v).take i))):=(oJ.sO.out a.f).filter _;have gD:=zL (λy=>decide (y∉(nX l v).take i)) (eC l a.f);have yL:=oJ.vP a.f;have ku:a∉(nX l v).take i:=by
    intro IU;obtain⟨p,hp⟩:=pC.1 IU;have hpi:p<i:=by have:=(eQ.1 hp).1;simp at this;omega
    rw[VJ hpi] at hp;have:=(oJ.sO.LN v).get hpi hp ug;omega
   have IU:a∈(eC l a.f).filter (λy=>decide (y∉(nX l v).take i)):=by rw[NU];exact⟨eL.2 ⟨hal,rfl⟩,ku⟩
   refine byTo_i (qR.rd jJ) mF aB λj fnd w5 k5 qM _=>?_;have d5:aL w5 w5.drew:=aU.drew (aU.refl _ w5);have fj:=(d4.tr k5).tr d5;have jm:=(at9.aO k4).aO fj;have o5:=o4.aK fj id;refine aA rfl (aE (k:=.slice) ⟨some ⟨N3.go,0,none⟩,n,n⟩ jm.c0 (aE (k:=.i) (u:Int) (la o5) ?_));refine aA rfl (aE (k:=.slice) ⟨some ⟨N3.go,0,none⟩,n,n⟩ jm.c0 (aE (k:=.i) (u:Int) (la o5) ?_));refine⟨⟨aB,by show _<(n:Int);omega⟩,aA rfl ?_⟩;obtain⟨s6,Nh,hc6⟩:=jm.out Dy;rw[Ci] at Nh;cases Nh;refine aE (k:=.slice) s3 hc6 ?_;have Xd:=jm.row u s3 Ci;rw[hXe] at Xd;have hj:j<((eC l a.f).filter (λy=>decide (y∉(nX l v).take i))).length:=(eQ.1 (qM.qI mF IU Fo)).1;rw[gZ (n:=(j:Int)+1) aB aB];refine Zd Xd hj aB λs7 w6 hv7 m6 hb7=>?_;have gK:∀k,(∃b,s3.b=some b/\k=b.block)->N3.dK k:=λk ⟨b,hb,hk⟩=>.inr (.inr (.inr ⟨u,s3,b,Ci,hb,hk.symm⟩));have o6:=o5.aK m6 λhk=>hb2N (gK _ hk);refine⟨la o6,?_,⟨aB,by show _<(n:Int);omega⟩,aA rfl ?_⟩
   ·have:=jm.head.aK m6 λ⟨b,hb,hk⟩=>(jm.sep u s3 b Ci hb).1 hk.symm;rw[aS,this.cell];rfl
   refine jm.mv Dy Ci hv7 m6 (.inl hb7) λw7 at7 m7 z7=>?_;rw[gZ (n:=(i:Int)+1) aB aB];have Ri:(λj'=>if j'=u then((eC l a.f).filter (λy=>decide (y∉(nX l v).take i))).take j++((eC l a.f).filter (λy=>decide (y∉(nX l v).take i))).drop (j+1) else BP n l O ((nX l v).take i) j')=BP n l O ((nX l v).take (i+1)):=by
    funext j'
    rw[List.take_add_one,ug,Option.toList_some]
    split
    ·rename_i he
     subst he;rw[hXe,qM.gz mF IU Fo,<-Fo];refine Bo (oJ.sO.out a.f) λx hx _ hk=>?_;obtain⟨OF,fq⟩:=eL.1 hx;exact arc_eq oJ.sO OF hal fq hk
    ·rename_i he
     unfold BP
     split
     ·refine ly3 λx hx=>?_;have:x≠a:=by
       rintro rfl;have:=(eL.1 hx).2;omega
      simp[this]
     ·rfl
   rw[Ri] at at7;have m97:aU N3.dK w9 w7:=(k4.wk.tr fj.wk).tr m7;have LH:∀k,({N3 with dZ:=N3.dZ.set u s7}:mY).dK k->N3.dK k:=λk hk=>by
    rcases mY.OK (N:=N3) (P:=λ_=>False) Ci (λa _=>.inl hb7) hk with h'|h'
    ·exact h'
    ·exact h'.elim
   refine hY ((nX l v).length-(i+1)) _ _ aB ⟨i+1,_,dJ,rfl,rfl,at7,hg3,?_,m9.trans m97 (λk hk GC=>?_),λk hk=>hf3 k (LH k hk),by have:=m97.size;omega,λk hk=>hn3 k (LH k hk)⟩
   ·refine r9.aK m97 WL λb hb hk=>?_;have hb8:=hfr8 b hb;have:=at2.lt (hn3 _ hk);omega
   ·rcases hf3 k GC with h'|h'
    ·exact h'
    ·have:=k1.size;omega
  ·have dJ:i=(nX l v).length:=aB;subst dJ;rw[oI] at at9;have Ns:∀j,j≠n+v.toNat\/¬(0<=v/\v<n)->j≠v.toNat\/¬(0<=v/\v<n)->BP n l O (nX l v) j=kH n (DF l v) j:=by
    intro j hj1 hj2;unfold BP kH DF
    split
    ·rename_i hjn
     unfold eC;rw[List.filter_filter,List.filter_filter];refine ly3 λx hx=>?_;obtain⟨a1,a2,a3,a4,_⟩:=oJ.vF x hx;apply Bool.eq_iff_iff.2;simp only[sV,decide_eq_true_eq,iF,hx,true_and];omega
    ·rename_i hjn
     unfold nX;rw[List.filter_filter,List.filter_filter];refine ly3 λx hx=>?_;obtain⟨a1,a2,a3,a4,_⟩:=oJ.vF x hx;apply Bool.eq_iff_iff.2;simp only[sV,decide_eq_true_eq,hmemO,hx,true_and];omega
   rw[Al,<-hg3];refine has_at at9 PN λr hr=>aF (λhb=>?_) (λhb=>?_)
   ·have hv:=hr.1 hb;obtain⟨u,rfl⟩:∃u:Nat,v=(u:Int):=⟨v.toNat,aB⟩;have Dy:u<n:=aB;simp only[dW] at Ns;refine aA rfl (aE (k:=.slice) ⟨some ⟨N3.go,0,none⟩,n,n⟩ at9.c0 (aA rfl (aE (k:=.slice) ⟨some ⟨N3.gi,0,none⟩,n,n⟩ at9.c1 ?_)));refine⟨⟨aB,by show _<(n:Int);omega⟩,aA rfl ?_⟩;have d9:aL w9 w9.drew:=aU.drew (aU.refl _ w9);have at9':=at9.aO d9;obtain⟨sa,hsa,_⟩:=at9'.out Dy;refine at9'.mv (s':=aZ) Dy hsa (dD.nil _ _ _ _) (aU.refl _ _) (.inr λa ha=>by cases ha) λeZ at10 UZ _=>?_;refine⟨⟨aB,by show _<(n:Int);omega⟩,aA rfl ?_⟩;obtain⟨sb,hsb,_⟩:=at10.LN Dy;refine at10.putIn (s':=aZ) Dy hsb (dD.nil _ _ _ _) (aU.refl _ _) (.inr λa ha=>by cases ha) λeN at11 Kv _=>?_;have xS:∀k,({N3 with dZ:=N3.dZ.set u aZ}:mY).dK k->N3.dK k:=λk hk=>by
     rcases mY.OK (N:=N3) (P:=λ_=>False) hsa (λa ha=>by cases ha) hk with h'|h'
     ·exact h'
     ·exact h'.elim
    have LJ:∀k,({N3 with dZ:=(N3.dZ.set u aZ).set (n+u) aZ}:mY).dK k->N3.dK k:=λk hk=>by
     rcases mY.OK (N:={N3 with dZ:=N3.dZ.set u aZ}) (P:=λ_=>False) hsb (λa ha=>by cases ha) hk with h'|h'
     ·exact xS k h'
     ·exact h'.elim
    have m911:aU N3.dK w9 eN:=(d9.wk.tr UZ).trans Kv λk _ hk=>xS k hk;refine hQ eN {N3 with dZ:=(N3.dZ.set u aZ).set (n+u) aZ} ⟨?_,oJ.cut _,PN⟩ hg3 (m9.trans m911 λk hk GC=>?_) λk hk=>?_
    ·have Ri:(λj=>if j=n+u then [] else(λj=>if j=u then [] else BP n l O (nX l (u:Int)) j) j)=kH n (DF l (u:Int)):=by
      funext j
      by_cases hj1:j=n+u
      ·subst hj1;have:¬(n+u<n):=aB;simp only[if_true,kH,this,if_false]
       symm
       refine List.filter_eq_nil_iff.2 λx hx hxt=>?_;have h2:=(pT.1 hx).2.2;have:x.t=((n+u:Nat):Int)-n:=by simpa using hxt
       omega
      ·simp only[hj1,if_false]
       by_cases hj2:j=u
       ·subst hj2;simp only[if_true,kH,Dy]
        symm
        refine List.filter_eq_nil_iff.2 λx hx hxf=>?_;have h2:=(pT.1 hx).2.1;have:x.f=(j:Int):=by simpa using hxf
        omega
       ·simp only[hj2,if_false];exact Ns j (.inl hj1) (.inl hj2)
     rw[<-Ri];exact at11
    ·rcases hf3 k GC with h'|h'
     ·exact h'
     ·have:=k1.size;omega
    ·rcases hf3 k (LJ k hk) with h'|h'
     ·exact .inl h'
     ·exact .inr (iR k1.size h')
   ·have hv:¬(0<=v/\v<n):=λhv=>by rw[hr.2 hv] at hb;cases hb
    have Ri:BP n l O (nX l v)=kH n (DF l v):=by
     funext j;exact Ns j (.inr hv) (.inr hv)
    rw[Ri] at at9;exact hQ w9 N3 ⟨at9,oJ.cut _,PN⟩ hg3 m9 λk hk=>(hf3 k hk).imp id λh'=>iR k1.size h'
end
section
section
variable{w w':aH}{g:Nat}{s:Sl}{n:Nat}{l:List bO}
end
end
section
section
variable{w:aH}{g:Nat}{s:Sl}{n:Nat}{l:List bO}
end
end
section
section
variable{w:aH}{g:Nat}{s:Sl}{n:Nat}{l:List bO}
end
end
abbrev eB(b:Bool):List Value:=[.bool b]
theorem Ct:∀b:Bool,(eB b).length=1:=λ_=>rfl
theorem oneB:∀b:Bool,∀u∈eB b,u.oneCell'=true:=by intro b u hu;simp at hu;subst hu;rfl
abbrev eI(n:Int):List Value:=[aD n]
theorem eX:∀b:Int,(eI b).length=1:=λ_=>rfl
theorem FC:∀b:Int,∀u∈eI b,u.oneCell'=true:=by intro b u hu;simp at hu;subst hu;rfl
theorem cI(n:Int):eI n≠[]:=by simp
theorem bP{α:Type}{w:aH}{s:Sl}{k:CK}{e:α->k.T}{xs:List α}(h:Rd w s 1 (λx=>[k.aY (e x)]) xs){i:Nat}{x:α}(hx:xs[i]? =some x):∃a,s.b=some a/\w.cell? (a.add (i*1))=some (k.aY (e x)):=by
 obtain⟨a,ha,hh⟩:=h.get i x hx;exact⟨a,ha,by have:=hh.1;rwa[add_add,Nat.add_zero] at this⟩
abbrev R3:=Int×Int×Int
abbrev eR3(r:R3):List Value:=[aD r.1,aD r.2.1,aD r.2.2]
theorem ZE(r:R3):eR3 r≠[]:=by simp
theorem Ez{k n:Int}{w:aH}{Q:Int->aH->Prop}(hn:0<n)(h63:n<=1000000)(hQ:Q (k%n) w):nW k n w Q:=by
 unfold nW;have h1:=Int.emod_nonneg k (b:=n) aB;have h2:=Int.emod_lt_of_pos k hn;have h3:k.tmod n=if 0<=k then k%n else if k%n=0 then 0 else k%n-n:=by
  rw[Int.tmod_eq_emod];have hd:n ∣ k↔k%n=0:=Int.dvd_iff_emod_eq_zero
  by_cases h0:0<=k
  ·simp[h0]
  ·by_cases hz:k%n=0
   ·simp[h0,hz,hd]
   ·have:(n.natAbs:Int)=n:=aB;simp[h0,hz,hd,this]
 refine⟨aB,aJ (λh=>?_) (λh=>?_)⟩
 ·have e:k.tmod n+n=k%n:=by rw[h3] at h ⊢;split at h<;>rename_i h0<;>simp only[h0,if_true,if_false] at h ⊢<;>(try split at h)<;>(try split)<;>omega
  rw[e,gZ aB aB];exact hQ
 ·have e:k.tmod n=k%n:=by rw[h3] at h ⊢;split at h<;>rename_i h0<;>simp only[h0,if_true,if_false] at h ⊢<;>(try split at h)<;>(try split)<;>omega
  rw[e];exact hQ
theorem pP(i:Nat)(hi:i<1099511627776):aQ ((i:Int)+1)=((i+1:Nat):Int):=by rw[gZ aB aB];rfl
theorem CQ{w:aH}{x:bO}{K:aH->Prop}(hK:∀w',aL w w'->cU w' w.heap.size iA (dU x)->w.heap.size<w'.heap.size->K w'):
  aI prog iA ⟨w.heap.size,0,none⟩ (Ge x) (w.alloc (.cells #[aD 0,aD 0,aD 0,aD 0] iA)) K:=by
 have k:=aL.alloc w (.cells #[aD 0,aD 0,aD 0,aD 0] iA);have o:cU (w.alloc (.cells #[aD 0,aD 0,aD 0,aD 0] iA)) w.heap.size iA (dU ⟨0,0,0,0⟩):=cU.iP w _ _;exact CV o rfl λw' o' m'=>hK w' (aU.fresh k m' λb hb=>aB) o' o'.lt
theorem qJ{w:aH}{g:Nat}{x:bO}(h:cU w g iA (dU x)):w.cell? ((⟨g,0,none⟩:Addr).add 0)=some (aD x.f)/\w.cell? ((⟨g,0,none⟩:Addr).add 1)=some (aD x.t)/\w.cell? ((⟨g,0,none⟩:Addr).add 2)=some (aD x.w)/\w.cell? ((⟨g,0,none⟩:Addr).add 3)=some (aD x.m):=by
 refine⟨?_,?_,?_,?_⟩<;>rw[aS,h.cell]<;>rfl
theorem Bu{N:mY}{n:Nat}{L:List bO}{v:Int}{W:aH}{Q:Sl->aH->Prop}(h:kY W N n L)
  (hQ:∀s w',dD w' iA 4 dU s (fX n L v)->aL W w'->(∀b,s.b=some b->W.heap.size<=b.block)->Q s w'):oY (some ⟨N.g,0,none⟩) v W Q:=by
 unfold oY;have hL:=h.ok;have hn:=h.sz;refine Xk h λs1 w1 v1 k1 f1=>?_;refine In_i (h.aO k1) λs2 w2 v2 k2 f2=>?_;have k02:=k1.tr k2;have h2:=h.aO k02;have Ce:=v1.aK k2 λ_ _=>id;have s1l:=v1.len;have s2l:=v2.len;have il:=hL.FJ v;have ol:=hL.vP v;have slen:∀i,((nX L v).take i).flatMap (λa=>mN n L v a (eC L v))=((nX L v).take i).flatMap (λa=>mN n L v a (eC L v))/\(((nX L v).take i).flatMap (λa=>mN n L v a (eC L v))).length<=262144:=λi=>by
  refine⟨rfl,?_⟩;have h1:=Og n L v ((nX L v).take i);have h2:((nX L v).take i).length<=512:=by rw[sM];omega
  have:((nX L v).take i).length*(eC L v).length<=512*512:=RX h2 aB;omega
 refine bL (λc t w3=>∃(i:Nat) (s:Sl),i<=(nX L v).length/\c=(nX L v).length-i/\t=(s,(i:Int),())/\dD w3 iA 4 dU s (((nX L v).take i).flatMap λa=>mN n L v a (eC L v))/\aL w2 w3/\(∀b,s.b=some b->w2.heap.size<=b.block)) (nX L v).length
  ⟨0,_,dE _,rfl,rfl,by simpa using dD.nil _ _ _ _,aU.refl _ _,λb hb=>by cases hb⟩ ?_
 rintro c t w3 ⟨i,s,hi,rfl,rfl,hv,k3,fs⟩ X hX;dsimp only;refine aJ (λcC=>?_) (λkC=>?_)
 ·have dJ:i<(nX L v).length:=aB;refine⟨⟨aB,aB⟩,?_⟩;obtain⟨p,hp,hh⟩:=vO ((v2.aK k3 λ_ _=>id).rd jJ) (cM dJ);have gF:=mX dJ;have tk:((nX L v).take (i+1)).flatMap (λa=>mN n L v a (eC L v))=((nX L v).take i).flatMap (λa=>mN n L v a (eC L v))++mN n L v (nX L v)[i] (eC L v):=by
   rw[mM dJ,GK];simp
  have UP:=(slen i).2;generalize (nX L v)[i]=a at*;generalize ((nX L v).take i).flatMap (λa=>mN n L v a (eC L v))=P at*;obtain⟨haL,Fo⟩:=iF.1 gF;obtain⟨_,_,_,_,_,aw0,aw1,_⟩:=hL.vF a haL;refine aA hp (aX (nM a) hh ?_);simp only[aG];refine CQ λw5 k5 o5 z5=>?_;have hv5:=hv.aK k5 λ_ _=>id;have ne5:∀b,s.b=some b->b.block≠w3.heap.size:=λb hb e=>by have:=hv.lt hb;omega
  have z23:=k3.size;generalize w3.heap.size=b2 at*;refine bL (λc t w6=>∃(j:Nat) (s':Sl),j<=(eC L v).length/\c=(eC L v).length-j/\t=(s',(j:Int),())/\dD w6 iA 4 dU s' (P++mN n L v a ((eC L v).take j))/\aL w2 w6/\cU w6 b2 iA (dU a)/\(∀b,s'.b=some b->w2.heap.size<=b.block/\b.block≠b2)) (eC L v).length
   ⟨0,s,dE _,rfl,rfl,by simpa [mN] using hv5,k3.tr k5,o5,λb hb=>⟨fs b hb,ne5 b hb⟩⟩ ?_
  rintro c t w6 ⟨j,s',hj,rfl,rfl,hv6,k6,o6,fs6⟩ Y hY;dsimp only;refine aJ (λcC=>?_) (λkC=>?_)
  ·have qP:j<(eC L v).length:=aB;refine⟨⟨aB,aB⟩,?_⟩;obtain⟨p,hp,hh⟩:=vO ((Ce.aK k6 λ_ _=>id).rd jJ) (cM qP);have hmemb:=mX qP;have tkj:mN n L v a ((eC L v).take (j+1))=mN n L v a ((eC L v).take j)++(if GV n L v a (eC L v)[j] then [⟨a.f,(eC L v)[j].t,a.w+(eC L v)[j].w,v⟩] else []):=by
    rw[mM qP,Zr]
   have PQ:=Jc n L v a ((eC L v).take j);have jl:((eC L v).take j).length<=512:=by rw[sM];omega
   generalize (eC L v)[j]=b at*;generalize mN n L v a ((eC L v).take j)=R at*;obtain⟨hbL,hbf⟩:=eL.1 hmemb;obtain⟨_,_,_,_,_,bw0,bw1,_⟩:=hL.vF b hbL;refine aA hp (aX (nM b) hh ?_);refine CQ λw8 k8 o8 z8=>?_;have K8:=k6.tr k8;have o8':=o6.aK k8 id;have hv8:=hv6.aK k8 λ_ _=>id;have ne8:∀b,s'.b=some b->b.block≠w6.heap.size:=λb hb e=>by have:=hv6.lt hb;omega
   have z26:=k6.size;have zb2:=o6.lt;generalize w6.heap.size=b4 at*;obtain⟨a0,a1,a2,_⟩:=qJ o8';obtain⟨c0,c1,c2,_⟩:=qJ o8;have next:∀w',aL w8 w'->GV n L v a b=false->Y (s',aQ ((j:Int)+1),()) w':=λw' k' hn'=>by
    rw[pP j aB];exact hY _ _ _ aB ⟨j+1,s',qP,rfl,rfl,by rw[tkj,hn',if_neg dN,uA];exact hv8.aK k' (λ_ _=>id),K8.tr k',o8'.aK k' id,fs6⟩
   refine aE (k:=.i) a.f a0 (aE (k:=.i) b.t c1 ?_);refine aF (λhe=>?_) (λhe=>?_)
   ·have uK:a.f=b.t:=by simpa using he
    exact next w8 (aU.refl _ _) (by unfold GV;simp[uK])
   ·have uK:a.f≠b.t:=by simpa using he
    refine aE (k:=.i) a.f a0 (aE (k:=.i) b.t c1 (aE (k:=.i) a.w a2 (aE (k:=.i) b.w c2 ?_)));rw[gZ (n:=a.w+b.w) aB aB];refine Find_i (h2.aO K8) aB λw9 k9=>?_;refine aF (λhf=>?_) (λhf=>?_)
    ·exact next w9 k9 (by unfold GV;rw[hf];simp)
    ·have Gx:GV n L v a b=true:=by unfold GV;rw[hf];simp[uK]
     have o9:=o8'.aK k9 id;have q9:=o8.aK k9 id;obtain⟨a0,a1,a2,_⟩:=qJ o9;obtain⟨c0,c1,c2,_⟩:=qJ q9;refine aE (k:=.i) a.f a0 (aE (k:=.i) b.t c1 (aE (k:=.i) a.w a2 (aE (k:=.i) b.w c2 ?_)));rw[gZ (n:=a.w+b.w) aB aB];have hlit:=dD.lit w9 iA dU jJ [(⟨a.f,b.t,a.w+b.w,v⟩:bO)] #[aD a.f,aD b.t,aD (a.w+b.w),aD v] rfl (by simp[maxLen]);have IP:=aL.alloc w9 (.cells #[aD a.f,aD b.t,aD (a.w+b.w),aD v] iA);have Cf:=o9.aK IP id;refine fH jQ jJ Cq ((hv8.aK k9 λ_ _=>id).aK IP (λ_ _=>id)) (hlit.rd jJ) (by rw[fJ];simp only[ly0];omega) (by rw[fJ];simp only[ly0];omega) λr eN v11 Kv f11 _=>?_;rw[pP j aB];have Nn:=(K8.tr k9).tr IP;refine hY _ _ _ aB ⟨j+1,r,qP,rfl,rfl,by rw[tkj,Gx,if_pos rfl,<-sL];exact v11,Nn.fresh Kv λk ⟨b,hb,e⟩=>by subst e;exact(fs6 b hb).1,Cf.aK Kv λ⟨b,hb,e⟩=>(fs6 b hb).2 e.symm,λb hb=>?_⟩;rcases f11 with e|⟨a',e,LK⟩
     ·exact fs6 b (e▸hb)
     ·rw[e] at hb;cases hb;have:=Cf.lt;exact⟨iR Nn.size LK,aB⟩
  ·have e:j=(eC L v).length:=aB;subst e;rw[oI] at hv6;rw[pP i aB];exact hX _ _ _ aB ⟨i+1,s',dJ,rfl,rfl,by rw[tk];exact hv6,k6,λb hb=>(fs6 b hb).1⟩
 ·have e:i=(nX L v).length:=aB;subst e;rw[oI] at hv;exact hQ s w3 hv (k02.tr k3) λb hb=>iR k02.size (fs b hb)
theorem Worth_i{N:mY}{n:Nat}{L:List bO}{v:Int}{W:aH}{Q:Int->aH->Prop}(h:kY W N n L)(hQ:∀w',aL W w'->Q (FG n L v) w'):AM (some ⟨N.g,0,none⟩) v W Q:=by
 unfold AM;refine Bu h λs w1 v1 k1 _=>?_;refine In_i (h.aO k1) λs2 w2 v2 k2 _=>?_;refine Xk ((h.aO k1).aO k2) λs3 w3 v3 k3 _=>?_;have l1:=v1.len;have l2:=v2.len;have l3:=v3.len;have hb:=Oh h.ok h.sz v;have il:=h.ok.FJ v;have ol:=h.ok.vP v;have hn:=h.sz;rw[l1,l2,l3,gZ (n:=((fX n L v).length:Int)-((nX L v).length:Int)) aB aB,gZ aB aB];exact hQ w3 ((k1.tr k2).tr k3)
theorem First_i{N:mY}{n:Nat}{L:List bO}{gone:Sl}{gs:List Bool}{W:aH}{Q:Int->aH->Prop}(h:kY W N n L)(hg:Rd W gone 1 eB gs)(hgl:gs.length<1000000)(hQ:∀w',aL W w'->Q (kT n L gs) w'):AN (some ⟨N.g,0,none⟩) gone W Q:=by
 unfold AN;have hn:=h.sz;have gl:=hg.len;refine QV h ?_;refine bL (λc t w2=>∃(k:Nat),k<=n/\c=n-k/\t=((lO n L gs k).1,(lO n L gs k).2,(k:Int),())/\aL W w2) n
  ⟨0,dE _,rfl,rfl,aU.refl _ _⟩ ?_
 rintro c t w2 ⟨k,hk,rfl,rfl,k2⟩ X hX;dsimp only;refine aJ (λcC=>?_) (λkC=>?_)
 ·have lT:k<n:=aB;have hs:=NZ n L gs k;have next:∀w',aL W w'->∀z,uQ n L gs (lO n L gs k) k=z->X (z.1,z.2,aQ ((k:Int)+1),()) w':=λw' k' z hz=>by
   rw[pP k aB];exact hX _ _ _ aB ⟨k+1,lT,rfl,by rw[hs,hz],k'⟩
  intro J hJ;have go:bW gs k=false->J () w2:=λji=>by
   apply hJ;refine Worth_i (h.aO k2) λw4 k4=>?_;have K4:=k2.tr k4;refine aJ (λh0=>?_) (λh0=>?_)
   ·exact next w4 K4 ((k:Int),FG n L k) (by unfold uQ;rw[ji,if_neg dN,if_pos h0])
   ·refine aJ (λhw=>?_) (λhw=>?_)
    ·exact next w4 K4 ((k:Int),FG n L k) (by unfold uQ;rw[ji,if_neg dN,if_neg h0,if_pos hw])
    ·exact next w4 K4 (lO n L gs k) (by unfold uQ;rw[ji,if_neg dN,if_neg h0,if_neg hw])
  refine aJ (λhl=>?_) (λhl=>?_)
  ·have hkl:k<gs.length:=aB;have cQ:gs[k]? =some gs[k]:=cM hkl;obtain⟨p,hp,hc⟩:=bP (k:=.bool) (e:=λx=>x) (hg.aK k2 dN (λ_ _=>id)) cQ;have hgk:bW gs k=gs[k]:=by unfold bW;rw[LR,cQ];rfl
   rw[dW];refine⟨⟨aB,hl⟩,aA hp (aE (k:=.bool) _ hc ?_)⟩;refine aF (λhb=>?_) (λhb=>go (hgk.trans hb));exact next w2 k2 (lO n L gs k) (by unfold uQ;rw[hgk,hb,if_pos rfl])
  ·refine go ?_;unfold bW;rw[LR,List.getElem?_eq_none aB];rfl
 ·have e:k=n:=aB;subst e;exact hQ w2 k2
theorem bD{w:aH}{cs:Array Value}{t:TypeId}{K:Addr->aH->Prop}(h:∀w',cU w' w.heap.size t cs.toList->aL w w'->w'.heap.size=w.heap.size+1->K ⟨w.heap.size,0,none⟩ w'):aG w cs t K:=
 h _ (cU.iP w cs t) (aL.alloc w _) dN
theorem ck{s:Sl}{xs:List bO}{gz:Value}{p:bO->Bool}{w:aH}{Q:Int->aH->Prop}{C:aH->Prop}(hs:dD w iA 4 dU s xs)(hl:xs.length<1000000)(hC:C w)(gh:∀w1 w2,C w1->aL w1 w2->C w2)
  (hdel:∀x w1 (K:WQ Value),C w1->x∈xs->(∀w2,aL w1 w2->K (.bool (p x)) w2)->lI prog gz [Ge x] w1 K)
  (pA:∀w',aL w w'->(∀x∈xs,p x=false)->Q (-1) w') (Re:∀(i:Nat) w',aL w w'->i<xs.length->(∀j x,j<i->xs[j]? =some x->p x=false)->(∀x,xs[i]? =some x->p x=true)->Q (i:Int) w'):iO s gz w Q:=by
 unfold iO;have sl:=hs.len;refine bL (λc t w1=>∃(i:Nat),i<=xs.length/\c=xs.length-i/\t=((i:Int),())/\aL w w1/\∀j x,j<i->xs[j]? =some x->p x=false) xs.length ⟨0,dE _,rfl,rfl,aU.refl _ _,λj x hj=>aB⟩ ?_;rintro c t w1 ⟨i,hi,rfl,rfl,k1,hn⟩ X hX;refine aJ (λcC=>?_) (λkC=>?_)
 ·have GM:(i:Int)<(s.l:Int):=cC;have dJ:i<xs.length:=aB;have cQ:=cM dJ;have gF:=mX dJ;obtain⟨q,hq,hh⟩:=vO ((hs.aK k1 λ_ _=>id).rd jJ) cQ;generalize xs[i]=x at*;show(0<=(i:Int)/\(i:Int)<(s.l:Int))/\_;rw[dW];refine⟨⟨aB,GM⟩,aA hq (aX (nM x) hh ?_)⟩;refine hdel x w1 _ (gh _ _ hC k1) gF λw2 k2=>⟨p x,rfl,?_⟩;refine aF (λhp=>?_) (λhp=>?_)
  ·exact Re i w2 (k1.tr k2) dJ hn λy hy=>by rw[cQ] at hy;cases hy;exact hp
  ·show X (aQ ((i:Int)+1),()) w2;rw[pP i aB];refine hX _ _ _ aB ⟨i+1,dJ,rfl,rfl,k1.tr k2,λj y hj hy=>?_⟩;rcases Nat.lt_or_ge j i with h|h
   ·exact hn j y h hy
   ·have:j=i:=aB;subst this;rw[cQ] at hy;cases hy;exact hp
 ·have hge':¬(i:Int)<(s.l:Int):=kC;refine pA w1 k1 λx hx=>?_;obtain⟨j,hj⟩:=pC.1 hx;have:=(eQ.1 hj).1;exact hn j x aB hj
theorem KG{s:Sl}{xs:List bO}{gz:Value}{p:bO->Bool}{w:aH}{Q:Sl->aH->Prop}{C:aH->Prop}(hs:dD w iA 4 dU s xs)(hl:xs.length<1000000)(hC:C w)(gh:∀w1 w2,C w1->aU (λk=>∃a,s.b=some a/\k=a.block) w1 w2->C w2)
  (hdel:∀x w1 (K:WQ Value),C w1->x∈xs->(∀w2,aL w1 w2->K (.bool (p x)) w2)->lI prog gz [Ge x] w1 K)
  (hQ:∀s' w',dD w' iA 4 dU s' (xs.filter λx=>!p x)->aU (λk=>∃a,s.b=some a/\k=a.block) w w'->s'.b=s.b->Q s' w'):fL s gz w Q:=by
 unfold fL;have sl:=hs.len;have Rl:=hs.cap;have Rg:=hs.max;refine ck hs hl hC (λw1 w2 c k=>gh w1 w2 c k.wk) hdel (λw1 k1 pA=>?_) (λi0 w1 k1 hi0 hbef Fo=>?_)
 ·refine aF (λ_=>?_) (λh=>by simp at h);have:xs.filter (λx=>!p x)=xs:=List.filter_eq_self.2 λx hx=>by rw[pA x hx];rfl
  exact hQ s w1 (by rw[this];exact hs.aK k1 λ_ _=>id) k1.wk rfl
 ·refine aF (λh=>by simp at h) (λ_=>?_);have pre:(xs.take (i0+1)).filter (λx=>!p x)=xs.take i0:=by
   rw[mM hi0,VH];have e1:(xs.take i0).filter (λx=>!p x)=xs.take i0:=List.filter_eq_self.2 λx hx=>by
    obtain⟨j,hj⟩:=pC.1 hx;have YM:=(eQ.1 hj).1;rw[sM] at YM;rw[VJ aB] at hj;rw[hbef j x aB hj];rfl
   rw[e1,IX,Fo _ (cM hi0)];simp
  rw[pP i0 aB];refine bL (λc t w2=>∃(i j:Nat) (ys:List bO),j<=xs.length/\i<=j/\c=xs.length-j/\t=((i:Int),(j:Int),())/\ys.length=xs.length/\ys.take i=(xs.take j).filter (λx=>!p x)/\ys.drop j=xs.drop j/\dD w2 iA 4 dU s ys/\aU (λk=>∃a,s.b=some a/\k=a.block) w w2) (xs.length-(i0+1))
   ⟨i0,i0+1,xs,hi0,aB,rfl,rfl,rfl,pre.symm,rfl,hs.aK k1 (λ_ _=>id),k1.wk⟩ ?_
  rintro c t w2 ⟨i,j,ys,hj,RT,rfl,rfl,yl,Ap,ydrop,v2,m2⟩ X hX;dsimp only;refine aJ (λcC=>?_) (λkC=>?_)
  ·have qP:j<xs.length:=aB;have cQ:ys[j]? =some xs[j]:=by
    have:=congrArg (·[0]?) ydrop;simp only[ly7,Nat.add_zero] at this;rw[this,cM qP]
   have gF:=mX qP;have tk:(xs.take (j+1)).filter (λx=>!p x)=(xs.take j).filter (λx=>!p x)++(if p xs[j]=true then [] else [xs[j]]):=by rw[mM qP,VH,IX,List.filter_nil];cases p xs[j]<;>simp
   obtain⟨q,hq,hh⟩:=vO (v2.rd jJ) cQ;generalize xs[j]=x at*;rw[dW];refine⟨⟨aB,cC⟩,aA hq (aX (nM x) hh ?_)⟩;simp only[aG];refine CQ λw4 k4 o4 z4=>?_;refine aX (nM x) (iM o4) ?_;have m4:=m2.tr k4.wk;refine hdel x w4 _ (gh _ _ hC m4) gF λw5 k5=>⟨p x,rfl,?_⟩;have m5:=m4.tr k5.wk;have v5:=(v2.aK k4 λ_ _=>id).aK k5 λ_ _=>id;rw[pP j aB];have drop1:∀zs:List bO,zs.drop j=xs.drop j->zs.drop (j+1)=xs.drop (j+1):=λzs h=>by
    rw[<-List.drop_drop,<-List.drop_drop,h]
   refine aF (λhp=>?_) (λhp=>?_)
   ·have hp':p x=false:=by simpa using hp
    refine aX (nM x) (iM (o4.aK k5 id)) ⟨⟨aB,aB⟩,aA hq ?_⟩;rw[dW];refine v5.store jJ hq aB x (v:=Ge x) rfl CJ (Cq x) λw6 v6 m6 _=>?_;rw[pP i aB];refine hX _ _ _ aB ⟨i+1,j+1,ys.set i x,qP,aB,rfl,rfl,by rw[nN];exact yl,?_,?_,v6,m5.tr (m6.mono λk _ e=>⟨q,hq,e⟩)⟩
    ·rw[tk,hp',if_neg dN,<-Ap];have dJ:i<(ys.set i x).length:=by rw[nN];omega
     rw[mM dJ,List.getElem_set_self];congr 1;apply yG;intro m;rw[List.getElem?_take,List.getElem?_take]
     split
     ·rw[jA,if_neg aB]
     ·rfl
    ·rw[<-drop1 ys ydrop];apply yG;intro m;rw[ly7,ly7,jA,if_neg aB]
   ·exact hX _ _ _ aB ⟨i,j+1,ys,qP,aB,rfl,rfl,yl,by rw[tk,if_pos (show p x=true by simpa using hp),uA];exact Ap,drop1 ys ydrop,v5,m5⟩
  ·have ej:j=xs.length:=aB;subst ej;rw[oI] at Ap;rcases v2.gR with⟨_,h0⟩|⟨g,cJ,Ky,ho,gD⟩
   ·omega
   refine⟨⟨aB,aB⟩,?_⟩;rw[dW];have yL:(ys.flatMap dU++cJ).length=s.c*4:=gD;have ti:((ys.flatMap dU++cJ).take (i*4))=(ys.take i).flatMap dU:=Ow jJ ys cJ i aB;have dQ:∀w7,cU w7 g iA ((ys.take i).flatMap dU++((ys.flatMap dU++cJ).drop (i*4)))\/(∃zs:List Value,zs.length=(s.l-i)*4/\cU w7 g iA ((ys.take i).flatMap dU++(zs++(ys.flatMap dU++cJ).drop (i*4+(s.l-i)*4))))->aU (λk=>k=g) w2 w7->
     (0<=(i:Int)/\(i:Int)<=(s.c:Int))/\Q ⟨(aR s.b s.c 0 4),i-0,(s.c-0)⟩ w7:=λw7 ho7 m7=>by
    refine⟨⟨aB,aB⟩,?_⟩;rw[oX,Nat.sub_zero,Nat.sub_zero];have til:((ys.take i).flatMap dU).length=i*4:=by rw[uO,sM,Nat.min_eq_left aB]
    have h4:i*4<=s.c*4:=PU 4 aB;refine hQ _ w7 ⟨by rw[<-Ap,sM,Nat.min_eq_left aB],by show i<=s.c;omega,Rg,.inr ?_⟩ (m2.tr (m7.mono λk _ e=>⟨_,Ky,e⟩)) rfl;rw[<-Ap];rcases ho7 with ho7|⟨zs,hz,ho7⟩
    ·refine⟨g,_,Ky,ho7,?_⟩;show _=s.c*4;rw[fJ,iv,yL,til];omega
    ·refine⟨g,_,Ky,ho7,?_⟩;show _=s.c*4;have:(s.l-i)*4=s.l*4-i*4:=Nat.sub_mul _ _ _;rw[fJ,fJ,iv,yL,til,hz];omega
   by_cases hic:i<s.c
   ·rw[Ky,lJ hic];have h6:(s.l-i)*4=s.l*4-i*4:=Nat.sub_mul _ _ _;refine ZQ jQ (by simp[Value.oneCell']) ho (by rw[yL];omega) λw7 zs hz ho7 m7 _=>?_;rw[ti,sL] at ho7;have:=dQ w7 (.inr ⟨zs,hz,ho7⟩) m7;rw[Ky] at this;exact this
   ·have hic':i=s.c:=aB;have hsl0:s.l-i=0:=aB;rw[hsl0];refine⟨(),w2,?_,?_⟩
    ·cases aR s.b s.c i 4<;>simp[Builtin.clear_,run_underlying jQ.under,AA]
    ·exact dQ w2 (.inl (by rw[<-ti,Ls];exact ho)) (aU.refl _ _)
end Go.Proofs.YtihggjgakbgomaaGreat
