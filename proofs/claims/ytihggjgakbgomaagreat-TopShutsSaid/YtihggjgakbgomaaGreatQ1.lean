import Derived.Shelf.SlIterI.Nil
import Derived.Shelf.SlIterI.Sorted
import Derived.Shelf.SortM.Plain
import Derived.Shelf.SortM.SortNone
import Derived.Test.YtihggjgakbgomaaGreatProg
import Derived.KernelRfl
import Derived.Test.YtihggjgakbgomaaGreatA1
import Derived.Test.YtihggjgakbgomaaGreatF1
import Derived.Test.YtihggjgakbgomaaGreatA2
import Derived.Test.YtihggjgakbgomaaGreatF2
set_option linter.defProp false
namespace Go.Proofs.YtihggjgakbgomaaGreat
open Go Go.Proofs
def Cb:Go.Shelf.Ren:=⟨λ|6=>67|8=>119|9=>120|11=>162|13=>164|12=>163|23=>214|24=>215|14=>205|15=>206|16=>207|17=>208|18=>209|19=>210|20=>211|21=>212|22=>213|25=>246|26=>247|27=>248|28=>249|29=>250|30=>216|31=>258|n=>n,λ|26=>3|28=>162|24=>22|0=>0|3=>3|37=>266|48=>322|50=>324|4=>4|40=>316|39=>315|45=>140|5=>5|9=>9|51=>367|55=>371|57=>382|58=>383|33=>146|n=>n,λn=>n⟩
def sortedA:SlLaysZI.n6 Tryz.prog Cb where
 mixed:=by kernel_rfl
 f6:=⟨"slices.Sorted[int]",by decide,Tryz.func67.trans (congrArg some (by kernel_rfl))⟩
 f8:=⟨"slices.Collect[int]",by decide,Tryz.func119.trans (congrArg some (by kernel_rfl))⟩
 f11:=⟨"slices.AppendSeq[[]int,int]",by decide,Tryz.func162.trans (congrArg some (by kernel_rfl))⟩
 t0:=Tryz.underlying0
 a0:=Tryz.isAgg0
 z0:=Tryz.sizeOf0
 v0:=Tryz.zeroValue0
 t24:=Tryz.underlying22
 a24:=Tryz.isAgg22
 z24:=Tryz.sizeOf22
 v24:=Tryz.zeroValue22
 t26:=Tryz.underlying3
 a26:=Tryz.isAgg3
 z26:=Tryz.sizeOf3
 v26:=Tryz.zeroValue3
 t28:=Tryz.underlying162
 a28:=Tryz.isAgg162
 z28:=Tryz.sizeOf162
 v28:=Tryz.zeroValue162
 i26:=by kernel_rfl
def sortA_ren:Go.Shelf.Ren:=⟨λ|5=>120|8=>164|7=>163|19=>214|20=>215|10=>205|11=>206|12=>207|13=>208|14=>209|15=>210|16=>211|17=>212|18=>213|30=>246|31=>247|32=>248|33=>249|34=>250|35=>216|40=>258|n=>n,λ|23=>22|25=>3|3=>3|32=>266|22=>22|0=>0|44=>322|46=>324|4=>4|36=>316|35=>315|41=>140|5=>5|9=>9|53=>367|57=>371|63=>382|64=>383|n=>n,λn=>n⟩
def sortA:SlLaysM.n5 Tryz.prog sortA_ren where
 mixed:=by kernel_rfl
 f5:=⟨"slices.Sort[[]int,int]",by decide,Tryz.func120.trans (congrArg some (by kernel_rfl))⟩
 f7:=⟨"slices.pdqsortOrdered[int]",by decide,Tryz.func163.trans (congrArg some (by kernel_rfl))⟩
 f8:=Tryz.func164.trans (congrArg some (by kernel_rfl))
 f10:=⟨"slices.insertionSortOrdered[int]",by decide,Tryz.func205.trans (congrArg some (by kernel_rfl))⟩
 f11:=⟨"slices.heapSortOrdered[int]",by decide,Tryz.func206.trans (congrArg some (by kernel_rfl))⟩
 f12:=⟨"slices.breakPatternsOrdered[int]",by decide,Tryz.func207.trans (congrArg some (by kernel_rfl))⟩
 f13:=⟨"slices.choosePivotOrdered[int]",by decide,Tryz.func208.trans (congrArg some (by kernel_rfl))⟩
 f14:=⟨"slices.reverseRangeOrdered[int]",by decide,Tryz.func209.trans (congrArg some (by kernel_rfl))⟩
 f15:=⟨"slices.partialInsertionSortOrdered[int]",by decide,Tryz.func210.trans (congrArg some (by kernel_rfl))⟩
 f16:=⟨"cmp.Less[int]",by decide,Tryz.func211.trans (congrArg some (by kernel_rfl))⟩
 f17:=⟨"slices.partitionEqualOrdered[int]",by decide,Tryz.func212.trans (congrArg some (by kernel_rfl))⟩
 f18:=⟨"slices.partitionOrdered[int]",by decide,Tryz.func213.trans (congrArg some (by kernel_rfl))⟩
 f19:=Tryz.func214.trans (congrArg some (by kernel_rfl))
 f20:=Tryz.func215.trans (congrArg some (by kernel_rfl))
 f30:=⟨"slices.siftDownOrdered[int]",by decide,Tryz.func246.trans (congrArg some (by kernel_rfl))⟩
 f31:=Tryz.func247.trans (congrArg some (by kernel_rfl))
 f32:=Tryz.func248.trans (congrArg some (by kernel_rfl))
 f33:=⟨"slices.medianAdjacentOrdered[int]",by decide,Tryz.func249.trans (congrArg some (by kernel_rfl))⟩
 f34:=⟨"slices.medianOrdered[int]",by decide,Tryz.func250.trans (congrArg some (by kernel_rfl))⟩
 f35:=⟨"cmp.isNaN[int]",by decide,Tryz.func216.trans (congrArg some (by kernel_rfl))⟩
 f40:=⟨"slices.order2Ordered[int]",by decide,Tryz.func258.trans (congrArg some (by kernel_rfl))⟩
 t0:=Tryz.underlying0
 a0:=Tryz.isAgg0
 z0:=Tryz.sizeOf0
 v0:=Tryz.zeroValue0
 t3:=Tryz.underlying3
 a3:=Tryz.isAgg3
 z3:=Tryz.sizeOf3
 v3:=Tryz.zeroValue3
 t4:=Tryz.underlying4
 a4:=Tryz.isAgg4
 z4:=Tryz.sizeOf4
 v4:=Tryz.zeroValue4
 t5:=Tryz.underlying5
 a5:=Tryz.isAgg5
 z5:=Tryz.sizeOf5
 v5:=Tryz.zeroValue5
 t9:=Tryz.underlying9
 a9:=Tryz.isAgg9
 z9:=Tryz.sizeOf9
 v9:=Tryz.zeroValue9
 t22:=Tryz.underlying22
 a22:=Tryz.isAgg22
 z22:=Tryz.sizeOf22
 v22:=Tryz.zeroValue22
 t23:=Tryz.underlying22
 a23:=Tryz.isAgg22
 z23:=Tryz.sizeOf22
 v23:=Tryz.zeroValue22
 t25:=Tryz.underlying3
 a25:=Tryz.isAgg3
 z25:=Tryz.sizeOf3
 v25:=Tryz.zeroValue3
 t32:=Tryz.underlying266
 a32:=Tryz.isAgg266
 z32:=Tryz.sizeOf266
 v32:=Tryz.zeroValue266
 t35:=Tryz.underlying315
 a35:=Tryz.isAgg315
 z35:=Tryz.sizeOf315
 v35:=Tryz.zeroValue315
 t36:=Tryz.underlying316
 a36:=Tryz.isAgg316
 z36:=Tryz.sizeOf316
 v36:=Tryz.zeroValue316
 t41:=Tryz.underlying140
 a41:=Tryz.isAgg140
 z41:=Tryz.sizeOf140
 v41:=Tryz.zeroValue140
 t44:=Tryz.underlying322
 a44:=Tryz.isAgg322
 z44:=Tryz.sizeOf322
 v44:=Tryz.zeroValue322
 t46:=Tryz.underlying324
 a46:=Tryz.isAgg324
 z46:=Tryz.sizeOf324
 v46:=Tryz.zeroValue324
 t53:=Tryz.underlying367
 a53:=Tryz.isAgg367
 z53:=Tryz.sizeOf367
 v53:=Tryz.zeroValue367
 t57:=Tryz.underlying371
 a57:=Tryz.isAgg371
 z57:=Tryz.sizeOf371
 v57:=Tryz.zeroValue371
 t63:=Tryz.underlying382
 a63:=Tryz.isAgg382
 z63:=Tryz.sizeOf382
 v63:=Tryz.zeroValue382
 t64:=Tryz.underlying383
 a64:=Tryz.isAgg383
 z64:=Tryz.sizeOf383
 v64:=Tryz.zeroValue383
def Pv:Go.Shelf.Ren:=⟨λ|7=>68|10=>121|n=>n,λ|23=>164|26=>3|3=>102|28=>162|0=>0|27=>161|33=>146|4=>4|n=>n,λn=>n⟩
def keysB:SlLaysZI.n7 Tryz.prog Pv where
 mixed:=by kernel_rfl
 f7:=⟨"maps.Keys[map[int]*milepost/table.Entry,int,*milepost/table.Entry]",by decide,Tryz.func68.trans (congrArg some (by kernel_rfl))⟩
 f10:=⟨"maps.Keys[map[int]*milepost/table.Entry,int,*milepost/table.Entry]$1",by decide,Tryz.func121.trans (congrArg some (by kernel_rfl))⟩
 t0:=Tryz.underlying0
 a0:=Tryz.isAgg0
 z0:=Tryz.sizeOf0
 v0:=Tryz.zeroValue0
 t4:=Tryz.underlying4
 a4:=Tryz.isAgg4
 z4:=Tryz.sizeOf4
 v4:=Tryz.zeroValue4
 t23:=Tryz.underlying164
 a23:=Tryz.isAgg164
 z23:=Tryz.sizeOf164
 v23:=Tryz.zeroValue164
 t26:=Tryz.underlying3
 a26:=Tryz.isAgg3
 z26:=Tryz.sizeOf3
 v26:=Tryz.zeroValue3
 t27:=Tryz.underlying161
 a27:=Tryz.isAgg161
 z27:=Tryz.sizeOf161
 v27:=Tryz.zeroValue161
 t28:=Tryz.underlying162
 a28:=Tryz.isAgg162
 z28:=Tryz.sizeOf162
 v28:=Tryz.zeroValue162
 t33:=Tryz.underlying146
 a33:=Tryz.isAgg146
 z33:=Tryz.sizeOf146
 v33:=Tryz.zeroValue146
end Go.Proofs.YtihggjgakbgomaaGreat
namespace Go.Proofs.YtihggjgakbgomaaGreat
open Go Go.Den
open Tryz (prog)
open Go.IntKind (wrap)
def jS:∀x:bP,(dY x).length=4:=λ_=>rfl
def Ds:∀x:bP,∀u∈dY x,u.oneCell'=true:=by intro x u hu;simp[dY] at hu;rcases hu with rfl|rfl|rfl|rfl<;>rfl
abbrev Hd(a:bP):Value:=.agg #[aD a.f,aD a.t,aD a.w,aD a.m]
def ZR(x y:Int):Int:=if x<y then-1 else if x>y then 1 else 0
def QH{x y:Int}{w:aH}{Q:Int->aH->Prop}(hQ:Q (ZR x y) w):jF x y w Q:=by
 unfold jF uH;refine aF (λh=>absurd h dP) (λ_=>?_);refine aF (λh=>absurd h dP) (λ_=>?_);unfold ZR at hQ;refine aI (λh=>?_) (λh=>?_)
 ·rwa[if_pos h] at hQ
 ·rw[if_neg h] at hQ;refine aI (λh=>?_) (λh=>?_)
  ·rwa[if_pos h] at hQ
  ·rwa[if_neg h] at hQ
def byTo_c1_i{a:bP}{v:Int}{w:aH}{Q:Int->aH->Prop}(hQ:∀w',aL w w'->Q (ZR a.t v) w'):yS (nY a) v w Q:=by
 unfold yS;simp only[aG];refine aE (k:=.i) a.t ?_ (QH (hQ _ (aL.alloc w _)));rw[aS,(cX.jA w _ _).cell];rfl
def dy{a:bP}{v:Int}{w:aH}{Q:Int->aH->Prop}(hQ:∀w',aL w w'->Q (ZR a.f v) w'):uE (nY a) v w Q:=by
 unfold uE;simp only[aG];refine aE (k:=.i) a.f ?_ (QH (hQ _ (aL.alloc w _)));rw[aS,(cX.jA w _ _).cell];rfl
def mid_i(i j:Nat)(h:i+j<9223372036854775808):aQ (Int.fdiv (wrap .u64 (aQ ((i:Int)+(j:Int)))) (2^(min (Int.toNat (1:Int)) (IntKind.bits .u64))))=(((i+j)/2:Nat):Int):=by
 rw[iH (n:=(i:Int)+(j:Int)) aB aB];have h1:wrap .u64 ((i:Int)+(j:Int))=((i+j:Nat):Int):=by simp[wrap,IntKind.signed,IntKind.bits];omega
 rw[h1];show aQ (Int.fdiv ((i+j:Nat):Int) 2)=_;rw[Int.fdiv_eq_ediv_of_nonneg _ aB,iH aB aB];omega
def wC{w:aH}{s:Sl}{xs:List bP}(h:Rd w s 4 dY xs){i:Nat}{x:bP}(hx:xs[i]? =some x):∃a,s.b=some a/\bQ w (a.add (i*4)) 0 (rJ [.i,.i,.i,.i] (nY x)):=h.get i x hx
def OT{s:Sl}{xs:List bP}{key:bP->Int}{v:Int}{cmp:Value}{w:aH}{Q:Int->Bool->aH->Prop}(hs:Rd w s 4 dY xs)(mU:ZK key xs)(gL:xs.length<4611686018427387904)
  (hcmp:∀(x:bP) (w:aH) (K:WQ Value),(∀w',aL w w'->K (aD (ZR (key x) v)) w')->lX prog cmp [Hd x,aD v] w K)
  (hQ:∀(i:Nat) (qW:Bool) w',aL w w'->AK key xs v i->(qW=true↔∃x∈xs,key x=v)->Q (i:Int) qW w'):eE s v cmp w Q:=by
 unfold eE;have hl:=hs.len;refine bK (λn t w'=>∃i j:Nat,i<=j/\j<=xs.length/\n=j-i/\t=((i:Int),(j:Int),())/\aL w w'/\(∀p x,p<i->xs[p]? =some x->key x<v)/\(∀p x,j<=p->xs[p]? =some x->v<=key x)) xs.length
  ⟨0,xs.length,aB,aB,aB,by rw[hl];rfl,aU.refl _ _,λp x hp=>aB,λp x hp hx=>by have:=(eR.1 hx).1;omega⟩ ?_
 rintro n t w' ⟨i,j,TN,hj,rfl,rfl,hk,Mj,hhi⟩ X hX;dsimp only;have GO:=hs.aK hk XG (λ_ _=>id);refine aI (λh=>?_) (λh=>?_)
 ·have cD:i<j:=aB;rw[mid_i i j aB];have hm:(i+j)/2<xs.length:=aB;refine⟨aB,⟨aB,aB⟩,?_⟩;obtain⟨a,ha,hh⟩:=wC GO (cL hm);refine aA ha (aZ (nY xs[(i+j)/2]) hh ?_);refine hcmp xs[(i+j)/2] w' _ λw2 k2=>⟨_,rfl,?_⟩;rw[iH (n:=(((i+j)/2:Nat):Int)+1) aB aB];unfold ZR;refine aI (λh=>?_) (λh=>?_)
  ·have hv:key xs[(i+j)/2]<v:=by
    apply Classical.byContradiction;intro hn;rw[if_neg hn] at h;split at h<;>omega
   refine hX (j-((i+j)/2+1)) _ _ aB ⟨(i+j)/2+1,j,aB,hj,rfl,rfl,hk.tr k2,λp x hp hx=>?_,hhi⟩;rcases Nat.lt_or_ge p ((i+j)/2) with h'|h'
   ·have:=mU.get h' hx (cL hm);omega
   ·have:p=(i+j)/2:=aB;subst this;rw[cL hm] at hx;cases hx;exact hv
  ·have hv:v<=key xs[(i+j)/2]:=by
    apply Classical.byContradiction;intro hn;rw[if_pos aB] at h;omega
   refine hX ((i+j)/2-i) _ _ aB ⟨i,(i+j)/2,aB,aB,rfl,rfl,hk.tr k2,Mj,λp x hp hx=>?_⟩;rcases Nat.eq_or_lt_of_le hp with h'|h'
   ·subst h';rw[cL hm] at hx;cases hx;exact hv
   ·have:=mU.get h' (cL hm) hx;omega
 ·have hje:j=i:=aB;subst hje;have qT:AK key xs v j:=⟨hj,Mj,hhi⟩;refine aI (λh=>?_) (λh=>?_)
  ·have hi:j<xs.length:=aB;refine⟨⟨aB,aB⟩,?_⟩;obtain⟨a,ha,hh⟩:=wC GO (cL hi);refine aA ha (aZ (nY xs[j]) hh ?_);refine hcmp xs[j] w' _ λw2 k2=>⟨_,rfl,hQ j _ w2 (hk.tr k2) qT ?_⟩;have h1:=hhi j _ (dN _) (cL hi)
   constructor
   ·intro hc;refine⟨xs[j],oF hi,?_⟩;unfold ZR at hc
    by_cases hg:key xs[j]>v
    ·rw[if_neg aB,if_pos hg] at hc;simp at hc
    ·omega
   ·rintro⟨x,hx,Bi⟩;have:=qT.qW mU hx Bi;rw[cL hi] at this;cases this;unfold ZR;rw[if_neg aB,if_neg aB];rfl
  ·have hi:j=xs.length:=aB;refine hQ j false w' hk qT ⟨λh=>by simp at h,?_⟩;rintro⟨x,hx,Bi⟩;have:=qT.qW mU hx Bi;have:=(eR.1 this).1;omega
def byTo_i{s:Sl}{xs:List bP}{v:Int}{w:aH}{Q:Int->Bool->aH->Prop}(hs:Rd w s 4 dY xs)(mU:ZK bP.t xs)(gL:xs.length<4611686018427387904)
  (hQ:∀(i:Nat) (qW:Bool) w',aL w w'->AK bP.t xs v i->(qW=true↔∃x∈xs,x.t=v)->Q (i:Int) qW w'):KT s v w Q:=
 OT hs mU gL (λx w K hK=>pU Nl iZ (gV (ks:=[.agg [.i,.i,.i,.i],.i]) (t:=(nY x,v,())) (byTo_c1_i hK))) hQ
def aa{s:Sl}{xs:List bP}{v:Int}{w:aH}{Q:Int->Bool->aH->Prop}(hs:Rd w s 4 dY xs)(mU:ZK bP.f xs)(gL:xs.length<4611686018427387904)
  (hQ:∀(i:Nat) (qW:Bool) w',aL w w'->AK bP.f xs v i->(qW=true↔∃x∈xs,x.f=v)->Q (i:Int) qW w'):BC s v w Q:=
 OT hs mU gL (λx w K hK=>pU Ed iZ (gV (ks:=[.agg [.i,.i,.i,.i],.i]) (t:=(nY x,v,())) (dy hK))) hQ
def uW(xs:List bP):(xs.flatMap dY).length=xs.length*4:=bF jS xs
def Pt(xs:List bP):∀u∈xs.flatMap dY,u.oneCell'=true:=λu hu=>by obtain⟨x,_,hx⟩:=List.mem_flatMap.1 hu;exact Ds x u hx
def Fc{V:Type}{l m:List V}{n:Nat}(h:l.length=n):(l++m).take n=l:=by rw[<-h,List.take_left]
def zq{V:Type}{l m:List V}{n:Nat}(h:l.length=n)(k:Nat):(l++m).drop (n+k)=m.drop k:=by rw[<-h,List.drop_length_add_append]
def drop_at0{V:Type}{l m:List V}{n:Nat}(h:l.length=n):(l++m).drop n=m:=by rw[<-h,List.drop_left]
def splice2{V:Type}{A X2 bN:List V}{n1 n2 k:Nat}(hA:A.length=k)(hc:n1+k<=bN.length):
  ((bN.take n1++A++bN.drop (n1+k)).take (n1+k)++X2++(bN.take n1++A++bN.drop (n1+k)).drop (n1+k+n2))=bN.take n1++A++X2++bN.drop (n1+k+n2):=by
 have hB:(bN.take n1++A).length=n1+k:=by simp;omega
 rw[Fc hB,zq hB,List.drop_drop]
def Uw{V:Type}{X1 X2 R A bN:List V}{n1 n2 k:Nat}(h1:X1.length=n1)(h2:X2.length=n2)(hR:k<=R.length)(hc:bN=X1++X2++R):
  ((bN.take (n1+k)++X2++bN.drop (n1+k+n2)).take n1++A++(bN.take (n1+k)++X2++bN.drop (n1+k+n2)).drop (n1+k))=X1++A++X2++R.drop k:=by
 have hcl:bN.length=n1+n2+R.length:=by rw[hc];simp[h1,h2];omega
 have e0:(bN.take (n1+k)).length=n1+k:=by simp;omega
 have e3:bN.drop (n1+k+n2)=R.drop k:=by
  have:(X1++X2).length=n1+n2:=by simp[h1,h2]
  rw[hc,show n1+k+n2=n1+n2+k by omega,zq this]
 have e4:bN.take (n1+k)=X1++(X2++R).take k:=by rw[hc,sV,<-h1,List.take_length_add_append]
 rw[e3];have e5:(bN.take (n1+k)++X2++R.drop k).drop (n1+k)=X2++R.drop k:=by rw[sV,drop_at0 e0]
 rw[e5,e4,sV,sV,sV,Fc h1];simp
def Insert_i{s:Sl}{xs:List bP}{a:bP}{i:Nat}{gv:Nat}{w:aH}{Q:Sl->aH->Prop}(hs:dE w iI 4 dY s xs)(hv:cX w gv iI (dY a))(hg:∀b,s.b=some b->b.block≠gv)(hi:i<=xs.length)(hb:xs.length<1099511627776)
  (hQ:∀s' w',dE w' iI 4 dY s' (xs.take i++[a]++xs.drop i)->aU (λk=>∃b,s.b=some b/\k=b.block) w w'->(s'.b=s.b\/∃b,s'.b=some b/\w.heap.size<=b.block)->Q s' w'):
  kE s (i:Int) ⟨some ⟨gv,0,none⟩,1,1⟩ w Q:=by
 unfold kE;have hl:=hs.len;have Sn:=hs.cap;have Sg:=hs.max;have rv:Rd w ⟨some ⟨gv,0,none⟩,1,1⟩ 4 dY [a]:=(dE.mk rfl (dN _) (by simp[maxLen]) (.inr ⟨gv,[],rfl,by simpa using hv,rfl⟩):dE w iI 4 dY ⟨some ⟨gv,0,none⟩,1,1⟩ [a]).rd jS;refine⟨⟨aB,aB⟩,?_⟩;refine aF (λh=>absurd h dP) (λ_=>?_);refine aF (λh=>?_) (λh=>?_)
 ·have he:i=xs.length:=by
   have:(i:Int)=(s.l:Int):=by simpa using h
   omega
  refine fH jW jS Ds hs rv (by simp;omega) (by simp;omega) λr w' hr hm Wa _=>?_;exact hQ r w' (by rw[he,oV,List.drop_length];simpa using hr) hm Wa
 ·have cD:i<xs.length:=by
   have:(i:Int)≠(s.l:Int):=by simpa using h
   omega
  have e1:aQ ((s.l:Int)+((1:Nat):Int))=((xs.length+1:Nat):Int):=by rw[iH aB aB];omega
  have e2:aQ ((i:Int)+((1:Nat):Int))=((i+1:Nat):Int):=by rw[iH aB aB];omega
  rw[e1,e2];have hrs:=hs.rd jS;have Wg:((xs.drop i).flatMap dY).length=(xs.length-i)*4:=by rw[uW,jz]
  refine aI (λhc=>?_) (λhc=>?_)
  ·--a new block
   refine⟨⟨aB,aB⟩,?_⟩;have e3:aQ (((xs.length+1:Nat):Int)-(i:Int))=((xs.length+1-i:Nat):Int):=by rw[iH aB aB];omega
   rw[e3];have Hs:=hrs.part (i:=0) (j:=i) (c:=s.c) aB aB aB aB;refine Vb jW yn (aY:=dY) ⟨0,0,0,0⟩ rfl jS Hs (by simp;omega) (by simp;omega) (by simp;omega) λs2 w2 hv2 k2 hfr=>?_;have kj:=hv2.len;have QL:=hv2.cap;simp only[Nat.sub_zero,List.drop_zero,fN,rA,List.length_replicate] at kj;have LU:s2.l=xs.length+1:=aB;obtain⟨b2,QM,hfr2⟩:=hfr;rcases hv2.gZ with⟨h0,_⟩|⟨g2,cO,mr,Wc,yZ⟩
   ·rw[h0] at QM;cases QM
   rw[mr] at QM;cases QM;have hfr3:w.heap.size<=g2:=hfr2;refine⟨⟨aB,aB⟩,?_⟩;rw[mr,lY (by show Int.toNat (i:Int)<s2.c;simp;omega)];simp only[dU];have hvo:cX w2 gv iI (dY a):=hv.aK k2 id;refine NP (t:=EI) jW.under DD Wc (cs:=dY a) (by rw[jS];omega) (hvo.read λj v hj=>by simpa using hj) (by rw[yZ,jS];have:=QR 4 (show i+1<=s2.c by omega);omega) (Ds a) λw3 ho3 m3 z3=>?_;refine⟨⟨aB,aB⟩,⟨aB,aB⟩,?_⟩;have hd3:aL w3 w3.drew:=aU.drew (aU.refl _ w3);have hsrc:∀b,s.b=some b->∀j v,((xs.drop i).flatMap dY)[j]? =some v->w3.drew.cell? ((b.add (i*4)).add j)=some v:=by
    intro b hb j v hj;have Dk:=hrs.part (i:=i) (j:=s.l) (c:=s.c) aB aB aB aB;rw[ly6 (by simp;omega)] at Dk;have bW:aR s.b s.c i 4=some (b.add (i*4)):=by simp[aR,hb];omega
    have BX:=qG Dk jS (a:=b.add (i*4)) bW j v hj;have CJ:b.block<w.heap.size:=hs.lt hb;exact hd3.cell (m3.cell (k2.cell BX id) (by simp;omega)) id
   obtain⟨b,bW,_⟩:=hrs.get i xs[i] (cL cD);have hsb:aR s.b s.c i 4=some (b.add (i*4)):=by simp[aR,bW];omega
   rw[lY (show i+1<s2.c by omega),hsb];refine NP (t:=EI) jW.under DD (ho3.aK hd3 id) (cs:=(xs.drop i).flatMap dY) (by rw[Wg];congr 1;omega) (hsrc b bW) (by
    rw[Wg];simp only[fN,rA,jz,yZ,jS];have:=QR 4 (show xs.length+1<=s2.c by omega);omega) (Pt _) λw4 ho4 m4 z4=>?_
   have hw4:aL w w4:=(k2.fresh m3 (λk hk=>by rw[hk];exact hfr3)).fresh ((aL.aK hd3:aU (λk=>k=g2) w3 _).tr m4) (λk hk=>by rw[hk];exact hfr3);have h4:s2.c*4>=(xs.length+1)*4:=QR 4 aB;rw[show(i+1)*4=i*4+4 by omega,jS,Wg,splice2 (jS a) (by rw[yZ];omega)] at ho4;have hX1:(((xs.drop 0).take (i-0)++List.replicate (xs.length+1-i) (⟨0,0,0,0⟩:bP)).flatMap dY++cO).take (i*4)=(xs.take i).flatMap dY:=by rw[Py jS _ _ _ (by simp;omega)];congr 1;rw[List.take_append_of_le_length (by simp;omega)];simp[List.take_take]
   rw[hX1] at ho4;refine hQ s2 w4 ⟨by rw[LU];simp;omega,QL,hv2.max,.inr ⟨g2,(((xs.drop 0).take (i-0)++List.replicate (xs.length+1-i) (⟨0,0,0,0⟩:bP)).flatMap dY++cO).drop (i*4+4+(xs.length-i)*4),mr,?_,?_⟩⟩ (aL.aK hw4) (.inr ⟨_,mr,hfr3⟩)
   ·simpa [HA] using ho4
   ·rw[fN,uW,jz,yZ];simp only[fN,rA,jz,mH,TW];omega
  ·--in place
   have hsc:xs.length+1<=s.c:=aB;rcases hs.gZ with⟨_,h0⟩|⟨g,cO,Ly,ho,gL⟩
   ·omega
   have h4:(xs.length+1)*4<=s.c*4:=QR 4 hsc;have hrest:4<=cO.length:=by rw[fN,uW] at gL;omega
   have je:gv≠g:=λh=>hg _ Ly h.symm;refine⟨⟨aB,aB⟩,⟨aB,aB⟩,?_⟩;rw[pF,Ly];simp only[dU,Nat.sub_zero];rw[lY aB];refine Lc hv ho je aB ?_;refine aF (λ_=>?_) (λh=>by simp at h);refine⟨⟨aB,aB⟩,⟨aB,aB⟩,?_⟩;rw[lY (show i<s.c by omega)];have hd:aL w w.drew:=aU.drew (aU.refl _ w);have hX2:((xs.flatMap dY++cO).drop (i*4))=(xs.drop i).flatMap dY++cO:=flat_drop jS _ _ _ hi;refine NP (t:=EI) jW.under DD (ho.aK hd id) (cs:=(xs.drop i).flatMap dY) (by rw[Wg];congr 1;omega) ((ho.aK hd id).read λj v hj=>by
     have:((xs.flatMap dY++cO).drop (i*4))[j]? =some v:=by rw[hX2,Gu (eR.1 hj).1];exact hj
     rwa[ly7] at this) (by rw[Wg,gL];omega) (Pt _) λw6 ho6 m6 z6=>?_
   refine⟨⟨aB,aB⟩,?_⟩;have hv6:cX w6 gv iI (dY a):=(hv.aK hd id).aK m6 je;refine NP (t:=EI) jW.under DD ho6 (cs:=dY a) (by rw[jS,Nat.min_eq_left aB]) (hv6.read λj v hj=>by simpa using hj) (by
    rw[jS];simp only[fN,rA,jz,gL,Wg];omega) (Ds a) λw7 ho7 m7 z7=>?_
   have hX1l:((xs.take i).flatMap dY).length=i*4:=by rw[uW,rA,Nat.min_eq_left hi]
   have hcur:xs.flatMap dY++cO=(xs.take i).flatMap dY++(xs.drop i).flatMap dY++cO:=by rw[<-HA,Mo]
   rw[jS,Wg,show(i+1)*4=i*4+4 by omega,Uw hX1l Wg hrest hcur] at ho7;refine hQ ⟨some ⟨g,0,none⟩,xs.length+1,s.c⟩ w7 ⟨by simp;omega,hsc,Sg,.inr ⟨g,cO.drop 4,rfl,?_,?_⟩⟩ ?_ (.inl Ly.symm)
   ·simpa [HA] using ho7
   ·rw[fN,uW,jz];rw[fN,uW] at gL;simp only[fN,rA,jz,mH,TW];omega
   ·exact(hd.aK.tr (m6.tr m7)).mono λk _ hk=>⟨_,Ly,hk⟩
def Us{s:Sl}{xs:List bP}{w:aH}{Q:Sl->aH->Prop}(hs:Rd w s 4 dY xs)(hb:xs.length<1099511627776)
  (hQ:∀s' w',dE w' iI 4 dY s' xs->aL w w'->(∀b,s'.b=some b->w.heap.size<=b.block)->Q s' w'):iV s w Q:=by
 unfold iV;refine aF (λh=>?_) (λh=>?_)
 ·have hn:xs=[]:=by
   cases xs with
   |nil=>rfl
   |cons x r=>obtain⟨a,ha,_⟩:=hs.get 0 x rfl;rw[ha] at h;cases h
  subst hn;exact hQ _ w (dE.nil _ _ _ _) (aU.refl _ _) (λb hb=>by cases hb)
 ·simp only[aG];have k1:=aL.alloc w (.cells #[] 128);have v0:dE (w.alloc (.cells #[] 128)) iI 4 dY ⟨some ⟨w.heap.size,0,none⟩,0,0⟩ []:=dE.lit w iI dY jS [] #[] rfl dP;refine fH jW jS Ds v0 (hs.aK k1 XG (λ_ _=>id)) (by simp;omega) (by simp;omega) λr w' hr hm Wa _=>?_;refine hQ r w' (by simpa using hr) (aU.fresh k1 hm λk ⟨a,ha,hk⟩=>by cases ha;rw[hk];exact dN _) λb hb=>?_;rcases Wa with h1|⟨b',bW,cD⟩
  ·rw[hb] at h1;cases h1;exact dN _
  ·rw[hb] at bW;cases bW;have:=k1.size;omega
def aq{s:Sl}{xs:List bP}{i:Nat}{w:aH}{Q:Sl->aH->Prop}(hs:dE w iI 4 dY s xs)(hi:i<xs.length)(hb:xs.length<1099511627776)
  (hQ:∀s' w',dE w' iI 4 dY s' (xs.take i++xs.drop (i+1))->aU (λk=>∃b,s.b=some b/\k=b.block) w w'->s'.b=s.b->Q s' w'):
  iM s (i:Int) ((i:Int)+1) w Q:=by
 unfold iM;have hl:=hs.len;have Sn:=hs.cap;have Sg:=hs.max;rcases hs.gZ with⟨_,h0⟩|⟨g,cO,Ly,ho,gL⟩
 ·omega
 refine⟨⟨aB,aB⟩,⟨aB,by simp;omega⟩,⟨aB,aB⟩,?_⟩;refine aF (λh=>by simp at h;omega) (λ_=>?_);refine⟨⟨aB,aB⟩,⟨aB,aB⟩,?_⟩;have hd:aL w w.drew:=aU.drew (aU.refl _ w);have ti:Int.toNat (i:Int)=i:=rfl;have tj:Int.toNat ((i:Int)+1)=i+1:=rfl;rw[pF,ti,tj,Nat.sub_zero,Nat.sub_zero];have hvd:=hs.aK hd (λ_ _=>id);have Ep:=hvd.take (i:=i) aB;have Bj:=(hvd.rd jS).part (i:=i+1) (j:=s.l) (c:=s.c) aB aB aB aB;rw[ly6 (by simp;omega)] at Bj;have LZ:(xs.take i).length+(xs.drop (i+1)).length=xs.length-1:=by simp;omega
 refine Jj jW jS Ds Ep Bj (by rw[LZ];omega) (by rw[LZ];omega) λr w1 hr hm Wa hrn QT=>?_;have Og:=hr.len;rw[fN,LZ] at Og;have jf:=hr.cap;have tl:Int.toNat (s.l:Int)=s.l:=rfl;have tr:Int.toNat (r.l:Int)=r.l:=rfl;rw[tl,tr];obtain rfl:=QT (by rw[LZ];show _<=s.c;omega);have e1:i+(s.l-(i+1))=xs.length-1:=aB;simp only[e1] at hr Og jf tr ⊢;refine⟨⟨aB,aB⟩,⟨aB,aB⟩,?_⟩;rw[Ly,lY (show xs.length-1<s.c by omega)];rcases hr.gZ with⟨h0,_⟩|⟨g',Ya,hbg',ho',RQ⟩
 ·rw[Ly] at h0;cases h0
 have:g'=g:=by rw[Ly] at hbg';cases hbg';rfl
 subst this;have JK:((xs.take i++xs.drop (i+1)).flatMap dY).length=(xs.length-1)*4:=by rw[uW,fN,LZ]
 have yZ:((xs.take i++xs.drop (i+1)).flatMap dY++Ya).length=s.c*4:=RQ;have h4:xs.length*4<=s.c*4:=QR 4 aB;refine Am jW (by simp[Value.oneCell']) ho' (by rw[yZ];omega) λw2 zs hz Wc m2 _=>?_;have RA:s.l-(xs.length-1)=1:=aB;rw[RA] at hz Wc;rw[Fc JK] at Wc;refine hQ _ w2 ⟨by rw[fN,LZ],by show xs.length-1<=s.c;omega,Sg,.inr ⟨g',zs++((xs.take i++xs.drop (i+1)).flatMap dY++Ya).drop ((xs.length-1)*4+1*4),rfl,by simpa using Wc,?_⟩⟩ ?_ Ly.symm
 ·show _=s.c*4;simp only[fN,JK,jz,hz];rw[fN,JK] at yZ;omega
 ·exact((aL.aK hd).tr hm).tr (m2.mono λk _ hk=>⟨_,Ly,hk⟩)
def rb{s:Sl}{xs:List bP}{a:bP}{i:Nat}{w:aH}{Q:Sl->aH->Prop}(hs:dE w iI 4 dY s xs)(hi:i<=xs.length)(hb:xs.length<1099511627776)
  (hQ:∀s' w',dE w' iI 4 dY s' (xs.take i++[a]++xs.drop i)->aU (λk=>∃b,s.b=some b/\k=b.block) w w'->(s'.b=s.b\/∃b,s'.b=some b/\w.heap.size<=b.block)->Q s' w'):
  rU s (i:Int) false (nY a) w Q:=by
 unfold rU;simp only[aG];have k1:=aL.alloc w (.cells #[aD a.f,aD a.t,aD a.w,aD a.m] 128);refine aF (λ_=>?_) (λh=>by simp at h);refine aZ (nY a) (Cg w _ _) ?_;generalize Vy:w.alloc (.cells #[aD a.f,aD a.t,aD a.w,aD a.m] 128)=w1 at k1 ⊢;have k2:=aL.alloc w1 (.cells #[aD a.f,aD a.t,aD a.w,aD a.m] 128);refine Insert_i ((hs.aK k1 (λ_ _=>id)).aK k2 (λ_ _=>id)) (cX.jA w1 #[aD a.f,aD a.t,aD a.w,aD a.m] 128) (λb bW=>?_) hi hb λs' w' h1 h2 h3=>?_
 ·exact Nat.ne_of_lt ((hs.aK k1 (λ_ _=>id)).lt bW)
 ·refine hQ s' w' h1 (((aL.aK k1).tr (aL.aK k2)).tr h2) (h3.imp id λ⟨b,bW,cD⟩=>⟨b,bW,?_⟩);exact jB (jB k1.size k2.size) cD
def laid_at_i{s:Sl}{xs:List bP}{a:bP}{i:Nat}{w:aH}{Q:Sl->aH->Prop}(hs:dE w iI 4 dY s xs)(hi:i<xs.length)
  (hQ:∀w',dE w' iI 4 dY s (xs.set i a)->aU (λk=>∃b,s.b=some b/\k=b.block) w w'->Q s w'):rU s (i:Int) true (nY a) w Q:=by
 unfold rU;simp only[aG];have k1:=aL.alloc w (.cells #[aD a.f,aD a.t,aD a.w,aD a.m] 128);refine aF (λh=>by simp at h) (λ_=>?_);refine aZ (nY a) (Cg w _ _) ?_;have hl:=hs.len;have wZ:=hs.aK k1 (λ_ _=>id);obtain⟨b,hb,_⟩:=(hs.rd jS).get i xs[i] (cL hi);refine⟨⟨aB,aB⟩,aA hb ?_⟩;refine wZ.store jS hb hi a rfl DD (Ds a) λw' h1 h2 _=>hQ w' h1 ((aL.aK k1).tr (h2.mono λk _ hk=>⟨b,hb,hk⟩))
section
structure nI where
 g:Nat
 go:Nat
 gi:Nat
 eC:List Sl
def nI.dI(N:nI)(k:Nat):=k=N.g\/k=N.go\/k=N.gi\/∃(i:Nat) (s:Sl) (a:Addr),N.eC[i]? =some s/\s.b=some a/\a.block=k
structure mL(w:aH)(N:nI)(n:Nat)(X:Nat->List bP):Prop where
 head:cX w N.g tNet [aW ⟨some ⟨N.go,0,none⟩,n,n⟩,aW ⟨some ⟨N.gi,0,none⟩,n,n⟩]
 sU:cX w N.go EI ((N.eC.take n).map aW)
 LS:cX w N.gi EI ((N.eC.drop n).map aW)
 len:N.eC.length=n+n
 row:∀(i:Nat) (s:Sl),N.eC[i]? =some s->dE w iI 4 dY s (X i)
 sep:∀(i:Nat) (s:Sl) (a:Addr),N.eC[i]? =some s->s.b=some a->a.block≠N.g/\a.block≠N.go/\a.block≠N.gi
 Et:∀(i j:Nat) (s u:Sl) (a b:Addr),N.eC[i]? =some s->N.eC[j]? =some u->s.b=some a->u.b=some b->a.block=b.block->i=j
 hd:N.g≠N.go/\N.g≠N.gi/\N.go≠N.gi
section
variable{w w':aH}{N:nI}{n:Nat}{X:Nat->List bP}
def mL.lt(h:mL w N n X){k:Nat}(hk:N.dI k):k<w.heap.size:=by
 rcases hk with rfl|rfl|rfl|⟨i,s,a,h1,h2,rfl⟩
 ·exact h.head.lt
 ·exact h.sU.lt
 ·exact h.LS.lt
 ·exact(h.row i s h1).lt h2
def mL.aK{F:Nat->Prop}(h:mL w N n X)(hm:aU F w w')(hF:∀k,N.dI k->¬F k):mL w' N n X where
 head:=h.head.aK hm (hF _ (.inl rfl))
 sU:=h.sU.aK hm (hF _ (.inr (.inl rfl)))
 LS:=h.LS.aK hm (hF _ (.inr (.inr (.inl rfl))))
 len:=h.len
 row:=λi s hs=>(h.row i s hs).aK hm λa ha=>hF _ (.inr (.inr (.inr ⟨i,s,a,hs,ha,rfl⟩)))
 sep:=h.sep
 Et:=h.Et
 hd:=h.hd
def mL.aO(h:mL w N n X)(hm:aL w w'):mL w' N n X:=h.aK hm λ_ _=>id
def mL.c0(h:mL w N n X):w.cell? ((⟨N.g,0,none⟩:Addr).add 0)=some (aW ⟨some ⟨N.go,0,none⟩,n,n⟩):=by rw[aS,h.head.cell];rfl
def mL.c1(h:mL w N n X):w.cell? ((⟨N.g,0,none⟩:Addr).add 1)=some (aW ⟨some ⟨N.gi,0,none⟩,n,n⟩):=by rw[aS,h.head.cell];rfl
def mL.out(h:mL w N n X){v:Nat}(hv:v<n):∃s,N.eC[v]? =some s/\w.cell? ((⟨N.go,0,none⟩:Addr).add (v*1))=some (aW s):=by
 have hl:=h.len;refine⟨N.eC[v],cL aB,?_⟩;rw[aS,h.sU.cell];simp[WC hv,cL (show v<N.eC.length by omega)]
def mL.MF(h:mL w N n X){v:Nat}(hv:v<n):∃s,N.eC[n+v]? =some s/\w.cell? ((⟨N.gi,0,none⟩:Addr).add (v*1))=some (aW s):=by
 have hl:=h.len;refine⟨N.eC[n+v],cL aB,?_⟩;rw[aS,h.LS.cell];simp[ly7,cL (show n+v<N.eC.length by omega)]
def mL.FN(h:mL w N n X){i:Nat}{s s':Sl}{xs:List bP}(hs:N.eC[i]? =some s)(hv:dE w' iI 4 dY s' xs)(ho:cX w' N.go EI (((N.eC.set i s').take n).map aW))(hi:cX w' N.gi EI (((N.eC.set i s').drop n).map aW))
  (hm:aU (λk=>(∃a,s.b=some a/\k=a.block)\/k=N.go\/k=N.gi) w w') (hb:∀a,s'.b=some a->s'.b=s.b\/w.heap.size<=a.block):
  mL w' {N with eC:=N.eC.set i s'} n (λj=>if j=i then xs else X j):=by
 have hil:i<N.eC.length:=(eR.1 hs).1;have old:∀j u,(N.eC.set i s')[j]? =some u->(j=i/\u=s')\/(j≠i/\N.eC[j]? =some u):=by
  intro j u hj;rw[jC] at hj
  by_cases FO:i=j
  ·subst FO;simp[hil] at hj;exact .inl ⟨rfl,hj.symm⟩
  ·rw[if_neg FO] at hj;exact .inr ⟨λh=>FO h.symm,hj⟩
 have Sf:∀a,s'.b=some a->(s.b=some a)\/(∀k,N.dI k->k≠a.block):=by
  intro a ha;rcases hb a ha with h1|h1
  ·exact .inl (h1▸ha)
  ·exact .inr λk hk=>by have:=h.lt hk;omega
 constructor
 ·refine h.head.aK hm ?_;rintro(⟨a,ha,hk⟩|hk|hk)
  ·exact(h.sep i s a hs ha).1 hk.symm
  ·exact h.hd.1 hk
  ·exact h.hd.2.1 hk
 ·exact ho
 ·exact hi
 ·simpa using h.len
 ·intro j u hj;rcases old j u hj with⟨rfl,rfl⟩|⟨gQ,rD⟩
  ·simpa using hv
  ·simp only[gQ,if_false];refine(h.row j u rD).aK hm λb bW=>?_;rintro(⟨a,ha,hk⟩|hk|hk)
   ·exact gQ (h.Et j i u s b a rD hs bW ha hk)
   ·exact(h.sep j u b rD bW).2.1 hk
   ·exact(h.sep j u b rD bW).2.2 hk
 ·intro j u a hj ha;rcases old j u hj with⟨rfl,rfl⟩|⟨gQ,rD⟩
  ·rcases Sf a ha with h1|h1
   ·exact h.sep j s a hs h1
   ·exact⟨λe=>h1 _ (.inl rfl) e.symm,λe=>h1 _ (.inr (.inl rfl)) e.symm,λe=>h1 _ (.inr (.inr (.inl rfl))) e.symm⟩
  ·exact h.sep j u a rD ha
 ·intro j k u x a b hj hk ha bW he;rcases old j u hj with⟨rfl,rfl⟩|⟨gQ,rD⟩<;>rcases old k x hk with⟨rfl,rfl⟩|⟨ZO,lM⟩
  ·rfl
  ·rcases Sf a ha with h1|h1
   ·exact h.Et j k s x a b hs lM h1 bW he
   ·exact absurd he.symm (h1 _ (.inr (.inr (.inr ⟨k,x,b,lM,bW,rfl⟩))))
  ·rcases Sf b bW with h1|h1
   ·exact h.Et j k u s a b rD hs ha h1 he
   ·exact absurd he (h1 _ (.inr (.inr (.inr ⟨j,u,a,rD,ha,rfl⟩))))
  ·exact h.Et j k u x a b rD lM ha bW he
 ·exact h.hd
def nI.OZ{i:Nat}{s s':Sl}{P:Nat->Prop}(hs:N.eC[i]? =some s)(hb:∀a,s'.b=some a->s'.b=s.b\/P a.block){k:Nat}(hk:({N with eC:=N.eC.set i s'}:nI).dI k):N.dI k\/P k:=by
 have hil:i<N.eC.length:=(eR.1 hs).1;rcases hk with hk|hk|hk|⟨j,u,a,hj,ha,rfl⟩
 ·exact .inl (.inl hk)
 ·exact .inl (.inr (.inl hk))
 ·exact .inl (.inr (.inr (.inl hk)))
 ·simp only[jC] at hj
  by_cases FO:i=j
  ·subst FO;simp[hil] at hj;subst hj;rcases hb a ha with h1|h1
   ·exact .inl (.inr (.inr (.inr ⟨i,s,a,hs,h1▸ha,rfl⟩)))
   ·exact .inr h1
  ·rw[if_neg FO] at hj;exact .inl (.inr (.inr (.inr ⟨j,u,a,hj,ha,rfl⟩)))
def mL.oq(h:mL w N n X){v:Nat}(hv:v<n){s s':Sl}{xs:List bP}(hs:N.eC[v]? =some s)(hvec:dE w' iI 4 dY s' xs)(hm:aU (λk=>∃a,s.b=some a/\k=a.block) w w')(hb:s'.b=s.b\/(∀a,s'.b=some a->w.heap.size<=a.block))
  {K:aH->Prop} (hK:∀w2,mL w2 {N with eC:=N.eC.set v s'} n (λj=>if j=v then xs else X j)->aU N.dI w w2->w2.heap.size=w'.heap.size->K w2):aJ prog EI ((⟨N.go,0,none⟩:Addr).add (v*1)) (aW s') w' K:=by
 have hl:=h.len;have bW:∀a,s'.b=some a->s'.b=s.b\/w.heap.size<=a.block:=λa ha=>hb.imp id λh=>h a ha;have hns:∀k,(∃a,s.b=some a/\k=a.block)->k≠N.go/\k≠N.gi:=λk ⟨a,ha,hk⟩=>by have:=h.sep v s a hs ha;rw[hk];exact this.2
 have ho:=h.sU.aK hm λhk=>(hns _ hk).1 rfl;have hi:=h.LS.aK hm λhk=>(hns _ hk).2 rfl;rw[aS,gK,Nat.mul_one];refine cJ ho Ph (by simp;omega) rfl rfl λw2 Wc ki hz=>?_;have rI:aU (λk=>(∃a,s.b=some a/\k=a.block)\/k=N.go\/k=N.gi) w w2:=(hm.mono λ_ _ h=>.inl h).tr (ki.mono λ_ _ h=>.inr (.inl h));refine hK w2 (h.FN hs (hvec.aK ki λa ha he=>?_) ?_ ?_ rI bW) (rI.mono λk _ hk=>?_) hz
 ·rcases bW a ha with h1|h1
  ·exact(h.sep v s a hs (h1▸ha)).2.1 he
  ·have:=h.sU.lt;omega
 ·rw[<-List.map_set,<-List.take_set] at Wc;exact Wc
 ·rw[List.drop_set_of_lt aB];exact hi.aK ki λe=>h.hd.2.2 e.symm
 ·rcases hk with⟨a,ha,hk⟩|hk|hk
  ·exact .inr (.inr (.inr ⟨v,s,a,hs,ha,hk.symm⟩))
  ·exact .inr (.inl hk)
  ·exact .inr (.inr (.inl hk))
def mL.putIn(h:mL w N n X){v:Nat}(hv:v<n){s s':Sl}{xs:List bP}(hs:N.eC[n+v]? =some s)(hvec:dE w' iI 4 dY s' xs)(hm:aU (λk=>∃a,s.b=some a/\k=a.block) w w')(hb:s'.b=s.b\/(∀a,s'.b=some a->w.heap.size<=a.block))
  {K:aH->Prop} (hK:∀w2,mL w2 {N with eC:=N.eC.set (n+v) s'} n (λj=>if j=n+v then xs else X j)->aU N.dI w w2->w2.heap.size=w'.heap.size->K w2):aJ prog EI ((⟨N.gi,0,none⟩:Addr).add (v*1)) (aW s') w' K:=by
 have hl:=h.len;have bW:∀a,s'.b=some a->s'.b=s.b\/w.heap.size<=a.block:=λa ha=>hb.imp id λh=>h a ha;have hns:∀k,(∃a,s.b=some a/\k=a.block)->k≠N.go/\k≠N.gi:=λk ⟨a,ha,hk⟩=>by have:=h.sep (n+v) s a hs ha;rw[hk];exact this.2
 have ho:=h.sU.aK hm λhk=>(hns _ hk).1 rfl;have hi:=h.LS.aK hm λhk=>(hns _ hk).2 rfl;rw[aS,gK,Nat.mul_one];refine cJ hi Ph (by simp;omega) rfl rfl λw2 Wc ki hz=>?_;have rI:aU (λk=>(∃a,s.b=some a/\k=a.block)\/k=N.go\/k=N.gi) w w2:=(hm.mono λ_ _ h=>.inl h).tr (ki.mono λ_ _ h=>.inr (.inr h));refine hK w2 (h.FN hs (hvec.aK ki λa ha he=>?_) ?_ ?_ rI bW) (rI.mono λk _ hk=>?_) hz
 ·rcases bW a ha with h1|h1
  ·exact(h.sep (n+v) s a hs (h1▸ha)).2.2 he
  ·have:=h.LS.lt;omega
 ·rw[List.take_set_of_le aB];exact ho.aK ki h.hd.2.2
 ·rw[<-List.map_set] at Wc;have:(N.eC.drop n).set v s'=(N.eC.set (n+v) s').drop n:=by rw[List.drop_set];simp;omega
  rwa[this] at Wc
 ·rcases hk with⟨a,ha,hk⟩|hk|hk
  ·exact .inr (.inr (.inr ⟨n+v,s,a,hs,ha,hk.symm⟩))
  ·exact .inr (.inl hk)
  ·exact .inr (.inr (.inl hk))
end
def isV_i{x:Int}{n:Nat}{b:Nat}{w:aH}{K:Value->aH->Prop}(hn:cX w b dA [aD (n:Int)])(hK:∀r:Bool,(r=true↔0<=x/\x<n)->K (.bool r) w):
  lX prog (.func (.func Uy) #[] #[.pointer (some ⟨b,0,none⟩)]) [aD x] w K:=by
 refine pU ff iZ (gV (ks:=[.i,.c .ptr]) (t:=(x,some ⟨b,0,none⟩,())) ?_);show FH x (some ⟨b,0,none⟩) w λr w'=>K (.bool r) w';unfold FH;refine aI (λh=>?_) (λh=>?_)
 ·refine aA rfl (aE (k:=.i) (n:Int) (by rw[hn.cell];rfl) (hK _ ?_));simp;omega
 ·exact hK false (by simp;omega)
def may_i{g n:Nat}{si:Value}{o1:cW}{c1:Nat}{a:bP}{w:aH}{Q:Bool->aH->Prop}(hh:cX w g tNet [.slice o1 n c1,si])(hQ:∀w' (r:Bool),aL w w'->(r=true↔FT n a)->Q r w'):
  NU (some ⟨g,0,none⟩) (nY a) w Q:=by
 unfold NU;simp only[aG];have k1:=aL.alloc w (.cells #[aD a.f,aD a.t,aD a.w,aD a.m] 128);have QJ:cX (w.alloc (.cells #[aD a.f,aD a.t,aD a.w,aD a.m] 128)) w.heap.size 128 (dY a):=cX.jA w _ 128;generalize Vy:w.alloc (.cells #[aD a.f,aD a.t,aD a.w,aD a.m] 128)=w1 at*;generalize VR:w.heap.size=b1 at*;refine aA rfl (aE (k:=.slice) ⟨o1,n,c1⟩ (by rw[aS,(hh.aK k1 id).cell];rfl) ?_);have k2:=aL.alloc w1 (.cells #[aD 0] 3);have o2:=cX.jA w1 #[aD 0] 3;have cD:b1<w1.heap.size:=QJ.lt;have o1'':=QJ.aK k2 id;generalize w1.alloc (.cells #[aD 0] 3)=w2 at*;generalize QM:w1.heap.size=b2 at*;refine cJ o2 cV dP rfl rfl λw3 o3 m3 _=>?_;have oa:=o1''.aK m3 aB;have on:cX w3 b2 dA [aD (n:Int)]:=o3;have hk:aL w w3:=aU.fresh (k1.tr k2) m3 λk hk=>aB;have l0:w3.cell? ((⟨b1,0,none⟩:Addr).add 0)=some (aD a.f):=by rw[aS,oa.cell];rfl
 have l1:w3.cell? ((⟨b1,0,none⟩:Addr).add 1)=some (aD a.t):=by rw[aS,oa.cell];rfl
 have l2:w3.cell? ((⟨b1,0,none⟩:Addr).add 2)=some (aD a.w):=by rw[aS,oa.cell];rfl
 have l3:w3.cell? ((⟨b1,0,none⟩:Addr).add 3)=some (aD a.m):=by rw[aS,oa.cell];rfl
 intro J hJ;have no:¬FT n a->Q false w3:=λh=>hQ w3 false hk ⟨λh=>by simp at h,λh'=>absurd h' h⟩;have hJ':∀mid:Bool,(mid=true↔(a.m=-1\/(0<=a.m/\a.m<n/\a.m≠a.f/\a.m≠a.t)))->J (mid,()) w3:=by
  intro mid hmid;apply hJ;refine aE (k:=.i) a.f l0 ?_;refine isV_i on λr hr=>⟨r,rfl,?_⟩;refine aF (λh=>?_) (λh=>no λhm=>?_)
  ·have h1:=hr.1 h;refine aE (k:=.i) a.t l1 ?_;refine isV_i on λr' Wb=>⟨r',rfl,?_⟩;refine aF (λh=>?_) (λh=>no λhm=>?_)
   ·have h2:=Wb.1 h;refine aE (k:=.i) a.f l0 (aE (k:=.i) a.t l1 ?_);refine aF (λh=>?_) (λh=>no λhm=>?_)
    ·have h3:a.f≠a.t:=by simpa using h
     refine aE (k:=.i) a.w l2 ?_;refine aI (λh4=>?_) (λh=>no λhm=>?_)
     ·refine aE (k:=.i) a.w l2 ?_;refine aI (λh5=>?_) (λh=>no λhm=>?_)
      ·refine hQ w3 mid hk ?_;rw[hmid];exact⟨λh=>⟨h1.1,h1.2,h2.1,h2.2,h3,h4,h5,h⟩,λh=>h.2.2.2.2.2.2.2⟩
      ·exact h hm.2.2.2.2.2.2.1
     ·exact h hm.2.2.2.2.2.1
    ·have:a.f=a.t:=by simpa using h
     exact hm.2.2.2.2.1 this
   ·rw[Wb.2 ⟨hm.2.2.1,hm.2.2.2.1⟩] at h;cases h
  ·rw[hr.2 ⟨hm.1,hm.2.1⟩] at h;cases h
 refine aE (k:=.i) a.m l3 ?_;refine aF (λh=>hJ' true ⟨λ_=>.inl (by simpa using h),λ_=>rfl⟩) (λh=>?_);have uw:a.m≠-1:=by simpa using h
 refine aE (k:=.i) a.m l3 ?_;refine isV_i on λr hr=>⟨r,rfl,?_⟩;refine aF (λh=>?_) (λh=>hJ' false ⟨λh=>by simp at h,λh'=>?_⟩)
 ·have h1:=hr.1 h;refine aE (k:=.i) a.m l3 (aE (k:=.i) a.f l0 ?_);refine aF (λh=>?_) (λh=>hJ' false ⟨λh=>by simp at h,λh'=>?_⟩)
  ·have h2:a.m≠a.f:=by simpa using h
   refine aE (k:=.i) a.m l3 (aE (k:=.i) a.t l1 (hJ' _ ?_))
   constructor
   ·intro h;exact .inr ⟨h1.1,h1.2,h2,by simpa using h⟩
   ·rintro(h|h)
    ·exact absurd h uw
    ·simpa using h.2.2.2
  ·have h2:a.m=a.f:=by simpa using h
   rcases h' with h'|h'
   ·exact absurd h' uw
   ·exact absurd h2 h'.2.2.1
 ·rcases h' with h'|h'
  ·exact absurd h' uw
  ·rw[hr.2 ⟨h'.1,h'.2.1⟩] at h;cases h
def kN(n:Nat)(l:List bP)(i:Nat):List bP:=if i<n then eN l (i:Int) else oL l ((i:Int)-n)
structure lP(w:aH)(N:nI)(n:Nat)(l:List bP):Prop where
 at_:mL w N n (kN n l)
 ok:sL n l
 sz:n<=512
def lP.aO{w w':aH}{N:nI}{n:Nat}{l:List bP}(h:lP w N n l)(k:aL w w'):lP w' N n l:=⟨h.at_.aO k,h.ok,h.sz⟩
def lP.aK{F:Nat->Prop}{w w':aH}{N:nI}{n:Nat}{l:List bP}(h:lP w N n l)(k:aU F w w')(hF:∀k,N.dI k->¬F k):lP w' N n l:=⟨h.at_.aK k hF,h.ok,h.sz⟩
end
section
abbrev Dm(x:It):gJ:=[aD x.id,aD x.key]
abbrev itV(x:It):Value:=.agg #[aD x.id,aD x.key]
abbrev AB(x:It):Int×Int×Unit:=(x.id,x.key,())
def sN:∀x:It,(Dm x).length=2:=λ_=>rfl
def oneIt:∀x:It,∀u∈Dm x,u.oneCell'=true:=by intro x u hu;simp at hu;rcases hu with rfl|rfl<;>rfl
abbrev FQ:Int->Value:=λn=>aD n
abbrev Mh:oU:=.i
def par_q{i:Nat}(h0:0<i)(h1:i<4611686018427387904):aQ (Int.tdiv (aQ ((i:Int)-1)) 2)=(((i-1)/2:Nat):Int):=by
 rw[iH (n:=(i:Int)-1) aB aB];have e:((i:Int)-1)=((i-1:Nat):Int):=aB;have e2:Int.tdiv ((i-1:Nat):Int) 2=(((i-1)/2:Nat):Int):=by rw[Int.tdiv_eq_ediv_of_nonneg aB];omega
 rw[e,e2,iH aB aB]
def yB{w:aH}{g:Nat}{cs:gJ}{x:It}{K:aH->Prop}(h:cX w g lO cs)(hl:cs.length=2)(hK:∀w',cX w' g lO (Dm x)->aU (λk=>k=g) w w'->K w'):
  aJ prog lO ⟨g,0,none⟩ (itV x) w K:=by
 refine DB h Af (by simp[Value.cells,hl]) (by simp[Value.cells,Value.oneCell']) λw' ho hm _=>hK w' ?_ hm;have:cs.take 0++(itV x).cells.toList++cs.drop (0+(itV x).cells.size)=Dm x:=by simp[Value.cells,List.drop_of_length_le (show cs.length<=2 by omega)]
 rwa[this] at ho
def NC{w:aH}{g:Nat}{x:It}(h:cX w g lO (Dm x)):bQ w ⟨g,0,none⟩ 0 (rJ [.i,.i] (AB x)):=h.holds λj v hj=>by rw[gK];exact hj
def HI{w:aH}{s:Sl}{xs:List It}(h:Rd w s 2 Dm xs){i:Nat}{x:It}(hx:xs[i]? =some x):∃a,s.b=some a/\bQ w (a.add (i*2)) 0 (rJ [.i,.i] (AB x)):=h.get i x hx
def Un{x y:It}{w:aH}{Q:Bool->aH->Prop}(hQ:∀w',aL w w'->Q (qN x y) w'):kY (AB x) (AB y) w Q:=by
 unfold kY;simp only[aG];have o1:cX (w.alloc (.cells #[aD x.id,aD x.key] lO)) w.heap.size lO (Dm x):=cX.jA w _ _;have k1:=aL.alloc w (.cells #[aD x.id,aD x.key] lO);have wZ:(w.alloc (.cells #[aD x.id,aD x.key] lO)).heap.size=w.heap.size+1:=by simp
 generalize w.alloc (.cells #[aD x.id,aD x.key] 242)=w1 at*;have o2:cX (w1.alloc (.cells #[aD y.id,aD y.key] lO)) w1.heap.size lO (Dm y):=cX.jA w1 _ _;have k2:=aL.alloc w1 (.cells #[aD y.id,aD y.key] lO);have QJ:=o1.aK k2 id;generalize w1.alloc (.cells #[aD y.id,aD y.key] 242)=w2 at*;have x0:w2.cell? ((⟨w.heap.size,0,none⟩:Addr).add 0)=some (aD x.id):=by rw[aS,QJ.cell];rfl
 have x1:w2.cell? ((⟨w.heap.size,0,none⟩:Addr).add 1)=some (aD x.key):=by rw[aS,QJ.cell];rfl
 have y0:w2.cell? ((⟨w1.heap.size,0,none⟩:Addr).add 0)=some (aD y.id):=by rw[aS,o2.cell];rfl
 have y1:w2.cell? ((⟨w1.heap.size,0,none⟩:Addr).add 1)=some (aD y.key):=by rw[aS,o2.cell];rfl
 have hk:=k1.tr k2;refine aE (k:=.i) x.key x1 (aE (k:=.i) y.key y1 ?_);refine aI (λh=>?_) (λh=>?_)
 ·have:qN x y=true:=kO.2 (.inl h);rw[<-this];exact hQ w2 hk
 ·refine aE (k:=.i) x.key x1 (aE (k:=.i) y.key y1 ?_);refine aF (λhe=>?_) (λhe=>?_)
  ·have vI:x.key=y.key:=by simpa using he
   refine aE (k:=.i) x.id x0 (aE (k:=.i) y.id y0 ?_);have:qN x y=decide (x.id<y.id):=by unfold qN;simp[vI]
   rw[<-this];exact hQ w2 hk
  ·have vI:x.key≠y.key:=by simpa using he
   have:qN x y=false:=by
    have:¬qN x y=true:=by rw[kO];omega
    simpa using this
   rw[<-this];exact hQ w2 hk
structure HS where
 g:Nat
 r:Nat
 s:Sl
def HS.dI(H:HS)(k:Nat):=k=H.g\/k=H.r\/∃a,H.s.b=some a/\k=a.block
structure VY(w:aH)(H:HS)(xs:List It)(f:Int->Option Int):Prop where
 head:cX w H.g wv [aW H.s,.map (some H.r)]
 VM:dE w lO 2 Dm H.s xs
 map:∃n,kT w H.r FQ Mh f n
 gr:H.g≠H.r
 sg:∀a,H.s.b=some a->a.block≠H.g
 sr:∀a,H.s.b=some a->a.block≠H.r
section
variable{w:aH}{H:HS}{xs:List It}{f:Int->Option Int}
def VY.lt(h:VY w H xs f){k:Nat}(hk:H.dI k):k<w.heap.size:=by
 rcases hk with rfl|rfl|⟨a,ha,rfl⟩
 ·exact h.head.lt
 ·obtain⟨n,hm⟩:=h.map;exact hm.lt
 ·exact h.VM.lt ha
def VY.aK{F:Nat->Prop}{w':aH}(h:VY w H xs f)(m:aU F w w')(hF:∀k,H.dI k->¬F k):VY w' H xs f:=
 ⟨h.head.aK m (hF _ (.inl rfl)),h.VM.aK m λa ha=>hF _ (.inr (.inr ⟨a,ha,rfl⟩)),by obtain⟨n,hm⟩:=h.map;exact⟨n,hm.aK m (hF _ (.inr (.inl rfl)))⟩,h.gr,h.sg,h.sr⟩
def VY.aO{w':aH}(h:VY w H xs f)(k:aL w w'):VY w' H xs f:=h.aK k λ_ _=>id
def VY.c0(h:VY w H xs f):w.cell? ((⟨H.g,0,none⟩:Addr).add 0)=some (aW H.s):=by rw[aS,h.head.cell];rfl
def VY.c1(h:VY w H xs f):w.cell? ((⟨H.g,0,none⟩:Addr).add 1)=some (.map (some H.r)):=by rw[aS,h.head.cell];rfl
def VY.oI(h:VY w H xs f){i:Nat}(hi:i<xs.length):∃b,H.s.b=some b:=by
 obtain⟨a,ha,_⟩:=(h.VM.rd sN).get i xs[i] (cL hi);exact⟨a,ha⟩
def xi{i:Nat}{x:It}{Q:aH->Prop}(h:VY w H xs f)(hi:i<xs.length)
  (hQ:∀w',VY w' H (xs.set i x) (λv=>if v=x.id then some (i:Int) else f v)->aU H.dI w w'->Q w'):rP (some ⟨H.g,0,none⟩) (i:Int) (AB x) w Q:=by
 unfold rP;simp only[aG];have o1:cX (w.alloc (.cells #[aD x.id,aD x.key] lO)) w.heap.size lO (Dm x):=cX.jA w _ _;have k1:=aL.alloc w (.cells #[aD x.id,aD x.key] lO);generalize w.alloc (.cells #[aD x.id,aD x.key] 242)=w1 at*;have k1d:aL w w1.drew:=k1.drew;have o1d:cX w1.drew w.heap.size lO (Dm x):=o1;have h1:=h.aO k1d;have hl:=h1.VM.len;obtain⟨b,hb⟩:=h1.oI hi;have hbw:b.block<w.heap.size:=h.lt (.inr (.inr ⟨b,hb,rfl⟩));refine aA rfl (aE (k:=.slice) H.s h1.c0 (aA rfl (aE (k:=.map) (some H.r) h1.c1 ?_)));refine aE (k:=.i) x.id (by rw[aS,o1d.cell];rfl) (aZ (AB x) (NC o1d) ?_);refine⟨⟨aB,aB⟩,aA hb ?_⟩;rw[dU];refine h1.VM.store sN hb hi x (v:=itV x) rfl Af (oneIt x) λw2 v2 m2 z2=>?_;refine⟨by rw[aS,(o1d.aK m2 aB).cell];rfl,?_⟩;obtain⟨n,hm⟩:=h1.map;refine Ui (kn:=Mh) pN lV (z:=(0:Int)) NI (hm.aK m2 (Ne.symm (h.sr b hb))) x.id (i:Int) λw3 hm3 m3 _=>?_;refine hQ w3 ⟨(h1.head.aK m2 (Ne.symm (h.sg b hb))).aK m3 h.gr,v2.aK m3 λa ha=>h.sr a ha,⟨_,hm3⟩,h.gr,h.sg,h.sr⟩ ?_;exact(k1d.wk.trans m2 λk _ hk=>.inr (.inr ⟨b,hb,hk⟩)).trans m3 λk _ hk=>.inr (.inl hk)
end
def up_i{w:aH}{H:HS}{ys:List It}{f:Int->Option Int}{i:Nat}{Q:aH->Prop}(h:VY w H ys f)(hi:i<ys.length)(gL:ys.length<4611686018427387904)(hu:UpI ys i)(hp:GD f ys i)(ha:RW ys)
  (hQ:∀w' zs f',VY w' H zs f'->HOk zs->uZ f' zs->(∀u,u∈zs↔u∈ys)->zs.length=ys.length->aU H.dI w w'->Q w'):Fu (some ⟨H.g,0,none⟩) (i:Int) w Q:=by
 unfold Fu;have hl:=h.VM.len;obtain⟨x,hx⟩:∃x,ys[i]? =some x:=⟨_,cL hi⟩;obtain⟨b,hb,hh⟩:=HI (h.VM.rd sN) hx;refine aA rfl (aE (k:=.slice) H.s h.c0 ⟨⟨aB,aB⟩,aA hb ?_⟩);rw[dU];refine aZ (AB x) hh ?_;simp only[aG];have k1:=aL.alloc w (.cells #[aD 0,aD 0] lO);have o1:cX (w.alloc (.cells #[aD 0,aD 0] lO)) w.heap.size lO (Dm ⟨0,0⟩):=cX.jA w _ _;generalize w.alloc (.cells #[aD 0,aD 0] 242)=w1 at*;refine yB (x:=x) o1 rfl λw2 o2 m2=>?_;have k2:aL w w2:=aU.fresh k1 m2 λk hk=>aB;generalize kr:w.heap.size=b3 at*;have hHb:∀k,H.dI k->¬k=b3:=λk hk e=>by have:=h.lt hk;omega
 have z0:ys.set i x=ys:=by
  apply yV;intro j;rw[jC]
  by_cases e:i=j
  ·subst e;rw[if_pos rfl,if_pos hi,hx]
  ·rw[if_neg e]
 refine bK (λc t w3=>∃(i':Nat) (GN:List It) (f':Int->Option Int),c=i'/\t=((i':Int),())/\VY w3 H GN f'/\i'<GN.length/\GN.length=ys.length/\UpI (GN.set i' x) i'/\GD f' (GN.set i' x) i'/\RW (GN.set i' x)/\
   (∀u,u∈GN.set i' x↔u∈ys)/\cX w3 b3 lO (Dm x)/\aU H.dI w w3) i
  ⟨i,ys,f,rfl,rfl,h.aO k2,hi,rfl,by rw[z0];exact hu,by rw[z0];exact hp,by rw[z0];exact ha,by rw[z0];exactλ_=>Iff.rfl,o2,k2.wk⟩ ?_
 rintro i t w3 ⟨_,GN,f',rfl,rfl,h3,hi3,hl3,hu3,hp3,ha3,hm3,o3,m3⟩ X hX;dsimp only;have Wu:(GN.set i x)[i]? =some x:=by rw[jC,if_pos rfl,if_pos hi3]
 have finish:∀{w4:aH},aL w3 w4->UpI (GN.set i x) i->HOk (GN.set i x)->rP (some ⟨H.g,0,none⟩) (i:Int) (AB x) w4 Q:=λ{w4} k4 _ oS=>by
  refine xi (x:=x) (h3.aO k4) hi3 λw5 h5 m5=>?_;refine hQ w5 _ _ h5 oS (hp3.done Wu λj z hj hz e=>hj (ha3 j i z x hz Wu e)) hm3 (by rw[oE];exact hl3) ((m3.tr k4.wk).tr m5)
 have d3:aL w3 w3.drew:=aU.drew (aU.refl _ w3);refine aI (λuJ=>?_) (λFW=>?_)
 ·have hi0:0<i:=aB;have hpi:(i-1)/2<i:=aB;obtain⟨y,hy⟩:∃y,GN[(i-1)/2]? =some y:=⟨_,cL aB⟩;have hzp:(GN.set i x)[(i-1)/2]? =some y:=by rw[jC,if_neg aB];exact hy
  have hpar:=par_q hi0 aB;have Ma:=h3.aO d3;obtain⟨b',bW,Gg⟩:=HI (Ma.VM.rd sN) hy;refine aZ (AB x) (NC (o3.aK d3 id)) (aA rfl (aE (k:=.slice) H.s Ma.c0 ⟨by decide,?_⟩));rw[hpar,dU];refine⟨⟨aB,aB⟩,aA bW (aZ (AB y) Gg ?_)⟩;refine Un (x:=x) (y:=y) λw4 k4=>?_;have k34:=d3.tr k4;have h4:=h3.aO k34;refine aF (λcD=>?_) (λkF=>?_)
  ·obtain⟨b',bW,Gg⟩:=HI (h4.VM.rd sN) hy;refine aA rfl (aE (k:=.slice) H.s h4.c0 ⟨by decide,⟨aB,aB⟩,aA bW (aZ (AB y) Gg ?_)⟩);refine xi (x:=y) h4 hi3 λw5 h5 m5=>⟨by decide,?_⟩;have hss:((GN.set i x).set i y).set ((i-1)/2) x=(GN.set i y).set ((i-1)/2) x:=by rw[List.set_set]
   have vO:=up_step hu3 hi0 Wu hzp cD;have hps:=hp3.swap Wu hzp aB;have dI:=ha3.swap Wu hzp;have Ww:=Tf Wu hzp;rw[hss] at vO hps dI;simp only[hss] at Ww;exact hX ((i-1)/2) _ _ aB ⟨(i-1)/2,GN.set i y,_,rfl,rfl,h5,by rw[oE];omega,by rw[oE];exact hl3,vO,hps,dI,λu=>(Ww u).trans (hm3 u),(o3.aK k34 id).aK m5 λhk=>hHb _ hk rfl,(m3.tr k34.wk).tr m5⟩
  ·exact aZ (AB x) (NC (o3.aK k34 id)) (finish k34 hu3 (up_end hu3 Wu (.inr ⟨y,hzp,kF⟩)))
 ·exact aZ (AB x) (NC (o3.aK d3 id)) (finish d3 hu3 (up_end hu3 Wu (.inl aB)))
def down_i{w:aH}{H:HS}{ys:List It}{f:Int->Option Int}{Q:aH->Prop}(h:VY w H ys f)(hi:0<ys.length)(gL:ys.length<2305843009213693952)(hu:Ys ys 0)(hp:GD f ys 0)(ha:RW ys)
  (hQ:∀w' zs f',VY w' H zs f'->HOk zs->uZ f' zs->(∀u,u∈zs↔u∈ys)->zs.length=ys.length->aU H.dI w w'->Q w'):QA (some ⟨H.g,0,none⟩) 0 w Q:=by
 unfold QA;have hl:=h.VM.len;obtain⟨x,hx⟩:∃x,ys[0]? =some x:=⟨_,cL hi⟩;obtain⟨b,hb,hh⟩:=HI (h.VM.rd sN) hx;refine aA rfl (aE (k:=.slice) H.s h.c0 ⟨⟨aB,aB⟩,aA hb ?_⟩);refine aZ (AB x) hh ?_;simp only[aG];have k1:=aL.alloc w (.cells #[aD 0,aD 0] lO);have o1:cX (w.alloc (.cells #[aD 0,aD 0] lO)) w.heap.size lO (Dm ⟨0,0⟩):=cX.jA w _ _;generalize w.alloc (.cells #[aD 0,aD 0] 242)=w1 at*;refine yB (x:=x) o1 rfl λw2 o2 m2=>?_;have k2:aL w w2:=aU.fresh k1 m2 λk hk=>aB;generalize kr:w.heap.size=b3 at*;have hHb:∀k,H.dI k->¬k=b3:=λk hk e=>by have:=h.lt hk;omega
 have z0:ys.set 0 x=ys:=by
  apply yV;intro j;rw[jC]
  by_cases e:0=j
  ·subst e;rw[if_pos rfl,if_pos hi,hx]
  ·rw[if_neg e]
 refine bK (λc t w3=>∃(i':Nat) (GN:List It) (f':Int->Option Int),c=ys.length-i'/\t=((i':Int),())/\VY w3 H GN f'/\i'<GN.length/\GN.length=ys.length/\Ys (GN.set i' x) i'/\GD f' (GN.set i' x) i'/\RW (GN.set i' x)/\
   (∀u,u∈GN.set i' x↔u∈ys)/\cX w3 b3 lO (Dm x)/\aU H.dI w w3) ys.length
  ⟨0,ys,f,rfl,rfl,h.aO k2,hi,rfl,by rw[z0];exact hu,by rw[z0];exact hp,by rw[z0];exact ha,by rw[z0];exactλ_=>Iff.rfl,o2,k2.wk⟩ ?_
 rintro c t w3 ⟨i,GN,f',hci,rfl,h3,hi3,hl3,hu3,hp3,ha3,hm3,o3,m3⟩ X hX;subst hci;dsimp only;have Wu:(GN.set i x)[i]? =some x:=by rw[jC,if_pos rfl,if_pos hi3]
 have zne:∀j,j≠i->(GN.set i x)[j]? =GN[j]?:=λj hj=>by rw[jC,if_neg (Ne.symm hj)]
 have hzl:(GN.set i x).length=ys.length:=by rw[oE];exact hl3
 have d3:aL w3 w3.drew:=aU.drew (aU.refl _ w3);have finish:∀{w4:aH},aL w3 w4->HOk (GN.set i x)->rP (some ⟨H.g,0,none⟩) (i:Int) (AB x) w4 Q:=λ{w4} k4 oS=>by
  refine xi (x:=x) (h3.aO k4) hi3 λw5 h5 m5=>?_;refine hQ w5 _ _ h5 oS (hp3.done Wu λj z hj hz e=>hj (ha3 j i z x hz Wu e)) hm3 hzl ((m3.tr k4.wk).tr m5)
 have e1:aQ (aQ ((2:Int)*(i:Int))+1)=((2*i+1:Nat):Int):=by rw[iH (n:=(2:Int)*(i:Int)) aB aB,iH aB aB];omega
 have e2:aQ (((2*i+1:Nat):Int)+1)=((2*i+2:Nat):Int):=by rw[iH aB aB];omega
 intro J hJ;have after:∀(k:Nat) (w4:aH),aL w3 w4->(k=2*i+1\/k=2*i+2)->(ys.length<=k->ys.length<=2*i+1)->(∀y,GN[k]? =some y->∀s,0<s->(s-1)/2=i->∀v,GN[s]? =some v->qN v y=false)->J ((k:Int),()) w4:=by
  intro k w4 k4 hk hkl ml;apply hJ;dsimp only;have d4:aL w4 w4.drew:=aU.drew (aU.refl _ w4);have k4d:=k4.tr d4;have h4:=h3.aO k4d;refine aA rfl (aE (k:=.slice) H.s h4.c0 ?_);refine aI (λkF=>?_) (λcD=>?_)
  ·refine aZ (AB x) (NC (o3.aK k4d id)) (finish k4d (Zw hu3 Wu λs hs kg v hv=>?_));have wZ:=(eR.1 hv).1;have:=hkl aB;omega
  ·have hkl':k<GN.length:=aB;obtain⟨y,hy⟩:∃y,GN[k]? =some y:=⟨_,cL hkl'⟩;have hki:k≠i:=aB;have hzk:(GN.set i x)[k]? =some y:=by rw[zne k hki];exact hy
   have hminz:∀s,0<s->(s-1)/2=i->∀v,(GN.set i x)[s]? =some v->qN v y=false:=λs hs kg v hv=>by
    rw[zne s aB] at hv;exact ml y hy s hs kg v hv
   obtain⟨b',bW,Gg⟩:=HI (h4.VM.rd sN) hy;have iF:0<=(k:Int)/\(k:Int)<(H.s.l:Int):=⟨aB,aB⟩;rw[dU];refine aA rfl (aE (k:=.slice) H.s h4.c0 ⟨iF,aA bW (aZ (AB y) Gg (aZ (AB x) (NC (o3.aK k4d id)) ?_))⟩);refine Un (x:=y) (y:=x) λw6 k6=>?_;have k46:=k4d.tr k6;have h6:=h3.aO k46;refine aF (λhb=>?_) (λhb=>?_)
   ·have kF:qN y x=false:=by simpa using hb
    exact aZ (AB x) (NC (o3.aK k46 id)) (finish k46 (Zw hu3 Wu λs hs kg v hv=>le_trans' kF (hminz s hs kg v hv)))
   ·have HC:qN y x=true:=by simpa using hb
    obtain⟨b',bW,Gg⟩:=HI (h6.VM.rd sN) hy;refine aA rfl (aE (k:=.slice) H.s h6.c0 ⟨iF,aA bW (aZ (AB y) Gg ?_)⟩);refine xi (x:=y) h6 hi3 λw8 h8 m8=>?_;have hss:((GN.set i x).set i y).set k x=(GN.set i y).set k x:=by rw[List.set_set]
    have vO:=down_step hu3 aB aB Wu hzk HC hminz;have hps:=hp3.swap Wu hzk (Ne.symm hki);have dI:=ha3.swap Wu hzk;have Ww:=Tf Wu hzk;rw[hss] at vO hps dI;simp only[hss] at Ww;exact hX (ys.length-k) _ _ aB ⟨k,GN.set i y,_,rfl,rfl,h8,by rw[oE];omega,by rw[oE];exact hl3,vO,hps,dI,λu=>(Ww u).trans (hm3 u),(o3.aK k46 id).aK m8 λhk=>hHb _ hk rfl,(m3.tr k46.wk).tr m8⟩
 have Ma:=h3.aO d3;refine aA rfl (aE (k:=.slice) H.s Ma.c0 ?_);rw[e1,e2];refine aI (λcD=>?_) (λkF=>?_)
 ·have GS:2*i+2<GN.length:=aB;obtain⟨u,hu'⟩:∃u,GN[2*i+2]? =some u:=⟨_,cL GS⟩;obtain⟨v,kI⟩:∃v,GN[2*i+1]? =some v:=⟨_,cL aB⟩;obtain⟨b1,VR,hh1⟩:=HI (Ma.VM.rd sN) hu';obtain⟨b2,QM,hh2⟩:=HI (Ma.VM.rd sN) kI;rw[dU,dU];refine aA rfl (aE (k:=.slice) H.s Ma.c0 ⟨⟨aB,aB⟩,aA VR (aZ (AB u) hh1 ?_)⟩);refine aA rfl (aE (k:=.slice) H.s Ma.c0 ⟨⟨aB,aB⟩,aA QM (aZ (AB v) hh2 ?_)⟩);refine Un (x:=u) (y:=v) λw9 k9=>?_;refine aF (λhb=>?_) (λhb=>?_)
  ·refine after (2*i+2) w9 (d3.tr k9) (.inr rfl) (λh=>aB) λy hy s hs kg z hz=>?_;rw[hu'] at hy;cases hy;have:s=2*i+1\/s=2*i+2:=aB;rcases this with rfl|rfl
   ·rw[kI] at hz;cases hz;exact xo hb
   ·rw[hu'] at hz;cases hz;exact HW _
  ·refine after (2*i+1) w9 (d3.tr k9) (.inl rfl) (λh=>h) λy hy s hs kg z hz=>?_;rw[kI] at hy;cases hy;have:s=2*i+1\/s=2*i+2:=aB;rcases this with rfl|rfl
   ·rw[kI] at hz;cases hz;exact HW _
   ·rw[hu'] at hz;cases hz;exact hb
 ·refine after (2*i+1) w3.drew d3 (.inl rfl) (λh=>h) λy hy s hs kg z hz=>?_;have wZ:=(eR.1 hz).1;have:s=2*i+1\/s=2*i+2:=aB;rcases this with rfl|rfl
  ·rw[hy] at hz;cases hz;exact HW _
  ·omega
end
section
def mN{q:List It}(h:CM q):q.Nodup:=h.imp λ{x y} hxy e=>by subst e;rw[HW] at hxy;cases hxy
def OG{xs:List It}(h:RW xs):xs.Nodup:=by
 refine Xg.2 λi j hi hj TN e=>?_;have:=h i j _ _ (cL hi) (cL hj) (by rw[e]);omega
def Ir{q xs:List It}(h:q.Nodup)(h':xs.Nodup)(hm:∀u,u∈q↔u∈xs):xs.length=q.length:=((List.perm_ext_iff_of_nodup h h').2 hm).length_eq.symm
def pC(w:aH)(H:HS)(q:List It):=CM q/\∃xs f,VY w H xs f/\HOk xs/\uZ f xs/\(∀u,u∈q↔u∈xs)
def sE(w:aH)(H:HS)(q:List It):=pC w H q\/(q=[]/\H.s=bD/\H.r=H.g/\cX w H.g wv [aW bD,.map none])
section
variable{w:aH}{H:HS}{q:List It}
def pC.sY(h:pC w H q):CM q:=h.1
def pC.one(h:pC w H q):Dp q:=by
 obtain⟨_,xs,f,_,_,hp,hm⟩:=h
 exactλx hx y hy e=>hp.one x ((hm x).1 hx) y ((hm y).1 hy) e
def pC.lt(h:pC w H q){k:Nat}(hk:H.dI k):k<w.heap.size:=by obtain⟨_,xs,f,h,_⟩:=h;exact h.lt hk
def pC.aK{F:Nat->Prop}{w':aH}(h:pC w H q)(m:aU F w w')(hF:∀k,H.dI k->¬F k):pC w' H q:=by
 obtain⟨h0,xs,f,h,r⟩:=h;exact⟨h0,xs,f,h.aK m hF,r⟩
def sE.lt(h:sE w H q){k:Nat}(hk:H.dI k):k<w.heap.size:=by
 rcases h with h|⟨_,hs,hr,h⟩
 ·exact h.lt hk
 ·rcases hk with rfl|rfl|⟨a,ha,_⟩
  ·exact h.lt
  ·rw[hr];exact h.lt
  ·rw[hs] at ha;cases ha
def sE.aK{F:Nat->Prop}{w':aH}(h:sE w H q)(m:aU F w w')(hF:∀k,H.dI k->¬F k):sE w' H q:=h.imp (λh=>h.aK m hF) λ⟨h0,hs,hr,h⟩=>⟨h0,hs,hr,h.aK m (hF _ (.inl rfl))⟩
def sE.aO{w':aH}(h:sE w H q)(k:aL w w'):sE w' H q:=h.aK k λ_ _=>id
def yh{Q:Int->aH->Prop}(h:sE w H q)(hQ:Q (q.length:Int) w):DL (some ⟨H.g,0,none⟩) w Q:=by
 unfold DL;refine aF (λh=>by simp at h) (λ_=>aA rfl ?_);rcases h with⟨h0,xs,f,h,_,hp,hm⟩|⟨rfl,hs,hr,h⟩
 ·have:=h.VM.len;have hl:=Ir (mN h0) (OG hp.apart) hm;refine aE (k:=.slice) H.s h.c0 ?_;rw[this,hl];exact hQ
 ·exact aE (k:=.slice) bD (by rw[aS,h.cell];rfl) hQ
def YI{v k:Int}(hl:Du q v k=false)(u:It):u∈(oM q v k).1↔u=⟨v,k⟩\/(u∈q/\u.id≠v):=by
 unfold oM;rw[hl];simp only[Bool.false_eq_true,if_false];rw[zG,jR];simp
def YK(cO:gJ)(k:Int):∀(ys:List It) (i:Nat) (x:It),ys[i]? =some x->(ys.flatMap Dm++cO).set (i*2+1) (aD k)=(ys.set i ⟨x.id,k⟩).flatMap Dm++cO
 | [],i,x,h=>by simp at h
 |y::ys,0,x,h=>by simp at h;subst h;rfl
 |y::ys,i+1,x,h=>by
  simp at h;have ih:=YK cO k ys i x h;have e:(i+1)*2+1=(i*2+1)+2:=aB;rw[e];simp only[List.set_cons_succ,FU,List.cons_append,List.nil_append];rw[ih]
def key_store{s:Sl}{ys:List It}{i:Nat}{x:It}{k:Int}{K:aH->Prop}(h:dE w lO 2 Dm s ys){a:Addr}(ha:s.b=some a)(hx:ys[i]? =some x)
  (hK:∀w',dE w' lO 2 Dm s (ys.set i ⟨x.id,k⟩)->aU (λk=>k=a.block) w w'->K w'):aJ prog dA ((a.add (i*2)).add 1) (aD k) w K:=by
 rcases h.gZ with⟨h1,_⟩|⟨g,cO,hb,ho,hl⟩
 ·rw[h1] at ha;cases ha
 ·rw[hb] at ha;cases ha;have hi:=(eR.1 hx).1;have JK:=bF sN ys;rw[aS,aS,gK];refine cJ ho cV (by rw[fN,JK];omega) rfl rfl λw' h2 h3 _=>hK w' ⟨by rw[oE];exact h.len,h.cap,h.max,.inr ⟨g,cO,hb,?_,?_⟩⟩ h3
  ·rw[<-YK cO k ys i x hx];exact h2
  ·rw[<-hl,fN,fN,bF sN,bF sN,oE]
def Ac{JD key:Int}{Q:Bool->aH->Prop}(h:sE w H q)(gL:q.length<1000000)
  (hQ:∀w' H',pC w' H' (oM q JD key).1->H'.g=H.g->aU H.dI w w'->(∀k,H'.dI k->H.dI k\/w.heap.size<=k)->Q (oM q JD key).2 w'):sG (some ⟨H.g,0,none⟩) JD key w Q:=by
 unfold sG;refine aF (λh=>by simp at h) (λ_=>?_);intro J hJ;have tJ:∀w1 H1,pC w1 H1 q->H1.g=H.g->aU H.dI w w1->(∀k,H1.dI k->H.dI k\/w.heap.size<=k)->J () w1:=by
  intro w1 H1 h1 hg1 m1 f1;apply hJ;rw[<-hg1];obtain⟨h0,xs,f,hA,oS,hp,hm⟩:=h1;have ZG:=Ir (mN h0) (OG hp.apart) hm;have RA:=hA.VM.len;have jL:Dp q:=λx hx y hy e=>hp.one x ((hm x).1 hx) y ((hm y).1 hy) e;obtain⟨n,Sh⟩:=hA.map;refine aA rfl (aE (k:=.map) (some H1.r) hA.c1 ?_);refine PL (kn:=Mh) pN lV (z:=(0:Int)) NI Sh JD ?_;intro J2 Rp;have dX:∀(w3:aH) (H3:HS) (ys:List It) (f3:Int->Option Int) (i:Nat) (x:It),VY w3 H3 ys f3->ys[i]? =some x->x.id=JD->ys.length<2000000->UpI (ys.set i ⟨JD,key⟩) i->GD f3 (ys.set i ⟨JD,key⟩) i->RW (ys.set i ⟨JD,key⟩)->
    (∀u,u∈(oM q JD key).1↔u∈ys.set i ⟨JD,key⟩)->Du q JD key=false->H3.g=H1.g->aU H.dI w w3->(∀k,H3.dI k->H.dI k\/w.heap.size<=k)->J2 ((i:Int),()) w3:=by
   intro w3 H3 ys f3 i x hA3 hx hid hyl Vz hpl hap gG JS hg3 m3 jk;apply Rp;have hi:=(eR.1 hx).1;obtain⟨b,hb⟩:=hA3.oI hi;have hl3:=hA3.VM.len;rw[<-hg3];refine aA rfl (aE (k:=.slice) H3.s hA3.c0 ⟨⟨aB,aB⟩,aA hb ?_⟩);rw[dU];refine key_store (k:=key) hA3.VM hb hx λw4 v4 m4=>?_;rw[hid] at v4;have bh:H3.dI b.block:=.inr (.inr ⟨b,hb,rfl⟩);have hA4:VY w4 H3 (ys.set i ⟨JD,key⟩) f3:=⟨hA3.head.aK m4 (Ne.symm (hA3.sg b hb)),v4,by obtain⟨n,hm⟩:=hA3.map;exact⟨n,hm.aK m4 (Ne.symm (hA3.sr b hb))⟩,hA3.gr,hA3.sg,hA3.sr⟩;have M:∀{wa wb:aH} {G:Nat->Prop},aU H.dI w wa->aU G wa wb->(∀k,G k->H3.dI k)->aU H.dI w wb:=λma mb hG=>ma.trans mb λk hk hGk=>(jk k (hG k hGk)).elim id λh=>absurd h aB;have m4':=M m3 m4 λk hk=>by rw[show k=b.block from hk];exact bh
   refine up_i hA4 (by rw[oE];exact hi) (by rw[oE];omega) Vz hpl hap λw5 zs f5 hA5 hok5 hp5 hm5 hl5 m5=>?_;have hr:(oM q JD key).2=true:=by unfold oM;rw[JS];rfl
   rw[<-hr];exact hQ w5 H3 ⟨DE h0 JD key,zs,f5,hA5,hok5,hp5,λu=>(gG u).trans (hm5 u).symm⟩ (hg3.trans hg1) (M m4' m5 λ_ h=>h) jk
  cases hf:f JD with
  |none=>
   refine aF (λ_=>?_) (λh=>by cases h);have hni:∀z∈xs,z.id≠JD:=λz hz e=>by
    obtain⟨j,hj⟩:=pJ.1 hz;have:=hp.at_ j z hj;rw[e,hf] at this;cases this
   have JS:Du q JD key=false:=by
    have:Gx q JD=none:=by
     cases hk:Gx q JD with
     |none=>rfl
     |some k=>exact absurd rfl (hni _ ((hm _).1 (Aj hk)))
    unfold Du;rw[this]
   refine aA rfl (aE (k:=.slice) H1.s hA.c0 (aA rfl (aE (k:=.slice) H1.s hA.c0 ?_)));simp only[aG];have k1:=aL.alloc w1 (.cells #[(aD JD),aD key] lO);have hlit:=dE.lit w1 lO Dm sN [(⟨JD,key⟩:It)] #[(aD JD),aD key] rfl (by simp[maxLen]);have hA':=hA.aO k1;generalize w1.alloc (.cells #[aD JD,aD key] 242)=w6 at*;refine fH sj sN oneIt hA'.VM (hlit.rd sN) (by simp only[ly0];omega) (by simp only[ly0];omega) λr w7 v7 m7 f7 hrn=>?_;have vf:¬∃a,H1.s.b=some a/\H1.g=a.block:=λ⟨a,ha,e⟩=>hA.sg a ha e.symm;have hrs:¬∃a,H1.s.b=some a/\H1.r=a.block:=λ⟨a,ha,e⟩=>hA.sr a ha e.symm;have hgl:H1.g<w6.heap.size:=hA'.lt (.inl rfl);have hrl:H1.r<w6.heap.size:=hA'.lt (.inr (.inl rfl));have sep:∀a,r.b=some a->a.block≠H1.g/\a.block≠H1.r:=λa ha=>by
    rcases f7 with e|⟨a',e,LV⟩
    ·exact⟨hA.sg a (e▸ha),hA.sr a (e▸ha)⟩
    ·rw[e] at ha;cases ha;exact⟨aB,aB⟩
   refine aA rfl ?_;rw[aS];refine cJ (hA'.head.aK m7 vf) Jw dP rfl rfl λw8 o8 m8 _=>?_;have hsl':H1.s.l=xs.length:=RA;rw[hsl'];obtain⟨n',hmap'⟩:=hA'.map;have hA8:VY w8 ⟨H1.g,H1.r,r⟩ (xs++[⟨JD,key⟩]) f:=⟨o8,v7.aK m8 λa ha=>(sep a ha).1,⟨n',(hmap'.aK m7 hrs).aK m8 hA.gr.symm⟩,hA.gr,λa ha=>(sep a ha).1,λa ha=>(sep a ha).2⟩;have MA:(xs++[(⟨JD,key⟩:It)]).set xs.length ⟨JD,key⟩=xs++[⟨JD,key⟩]:=by rw[List.set_append_right _ _ (dN _)];simp
   have cI:∀(j:Nat) (z:It),(xs++[(⟨JD,key⟩:It)])[j]? =some z->(j<xs.length/\xs[j]? =some z)\/(j=xs.length/\z=⟨JD,key⟩):=λj z hz=>by
    by_cases hj:j<xs.length
    ·rw[Gu hj] at hz;exact .inl ⟨hj,hz⟩
    ·rw[Gv aB] at hz;have:j-xs.length=0:=by have:=(eR.1 hz).1;simp at this;omega
     rw[this] at hz;simp at hz;exact .inr ⟨aB,hz.symm⟩
   have mw1:aU H.dI w w6:=m1.tr k1.wk;have has1:∀k,H1.dI k->k<w.heap.size->H.dI k:=λk hk cD=>(f1 k hk).elim id λh=>aB;refine dX w8 ⟨H1.g,H1.r,r⟩ _ f xs.length ⟨JD,key⟩ hA8 dP rfl (by simp;omega) ?_ ?_ ?_ ?_ JS rfl ?_ ?_
   ·rw[MA];refine⟨λj hj ZH u v hu hv=>?_,λj hj ZH _ u v hu hv=>?_⟩
    ·rcases cI j v hv with⟨h1,h2⟩|⟨h1,_⟩
     ·rcases cI _ u hu with⟨h3,h4⟩|⟨h3,_⟩
      ·exact oS j hj u v h4 h2
      ·omega
     ·omega
    ·rcases cI j v hv with⟨h1,h2⟩|⟨h1,_⟩<;>omega
   ·rw[MA];refine⟨λj z hj hz=>?_,λv k hv=>?_⟩
    ·rcases cI j z hz with⟨_,h2⟩|⟨h1,_⟩
     ·exact hp.at_ j z h2
     ·omega
    ·obtain⟨z,hz,e⟩:=hp.dom v k hv;exact⟨z,by simp[hz],e⟩
   ·rw[MA];intro i j x y hx hy e;rcases cI i x hx with⟨_,h2⟩|⟨h1,rfl⟩<;>rcases cI j y hy with⟨_,h4⟩|⟨h3,rfl⟩
    ·exact hp.apart i j x y h2 h4 e
    ·exact absurd e (hni x (kR h2))
    ·exact absurd e.symm (hni y (kR h4))
    ·omega
   ·rw[MA];intro u;rw[YI JS,kK,mR,hm]
    constructor
    ·rintro(rfl|⟨h,_⟩)
     ·exact .inr rfl
     ·exact .inl h
    ·rintro(h|rfl)
     ·exact .inr ⟨h,hni u h⟩
     ·exact .inl rfl
   ·refine(mw1.trans m7 λk hk ⟨a,ha,e⟩=>has1 k (.inr (.inr ⟨a,ha,e⟩)) hk).trans m8 λk hk e=>has1 k (.inl e) hk
   ·rintro k (rfl|rfl|⟨a,ha,rfl⟩)
    ·exact f1 _ (.inl rfl)
    ·exact f1 _ (.inr (.inl rfl))
    ·rcases f7 with e|⟨a',e,LV⟩
     ·exact f1 _ (.inr (.inr ⟨a,e▸ha,rfl⟩))
     ·have mY:r.b=some a:=ha;rw[e] at mY;cases mY;exact .inr (jB mw1.size LV)
  |some v=>
   refine aF (λh=>by cases h) (λ_=>?_);obtain⟨z,hz,me⟩:=hp.dom JD v hf;obtain⟨j,hj⟩:=pJ.1 hz;have hvj:v=(j:Int):=by have:=hp.at_ j z hj;rw[me,hf] at this;exact uI this
   subst hvj;show aC _ _;have ZH:=(eR.1 hj).1;have hkq:Gx q JD=some z.key:=by rw[<-me];exact Zo jL ((hm z).2 hz)
   obtain⟨b,hb,hh⟩:=HI (hA.VM.rd sN) hj;refine aA rfl (aE (k:=.slice) H1.s hA.c0 ?_);have ej:((some (j:Int):Option Int).getD 0)=(j:Int):=rfl;show(0<=(j:Int)/\(j:Int)<_)/\_;refine⟨⟨aB,aB⟩,aA hb (aE (k:=.i) z.key hh.2.1 ?_)⟩;refine aI (λkF=>?_) (λcD=>?_)
   ·have JS:Du q JD key=true:=by unfold Du;rw[hkq];simpa using kF
    have e1:(oM q JD key)=(q,false):=by unfold oM;rw[JS];rfl
    rw[e1] at hQ;exact hQ w1 H1 ⟨h0,xs,f,hA,oS,hp,hm⟩ hg1 m1 f1
   ·have JS:Du q JD key=false:=by unfold Du;rw[hkq];simp;omega
    have HC:qN ⟨JD,key⟩ z=true:=kO.2 (.inl (by show key<z.key;omega));have LV:=xo HC;have Rv:∀i,(xs.set j ⟨JD,key⟩)[i]? =if i=j then some ⟨JD,key⟩ else xs[i]?:=λi=>by
     rw[jC]
     by_cases e:j=i
     ·subst e;simp[ZH]
     ·rw[if_neg e,if_neg (Ne.symm e)]
    refine dX w1 H1 xs f j z hA hj me aB ?_ ?_ ?_ ?_ JS rfl m1 f1
    ·refine⟨λi hi TN u v hu hv=>?_,λi hi TN hj0 u v hu hv=>?_⟩
     ·rw[Rv] at hu hv;rw[if_neg TN] at hv
      by_cases e:(i-1)/2=j
      ·rw[if_pos e] at hu;cases hu;exact le_trans' LV (oS i hi z v (by rw[e];exact hj) hv)
      ·rw[if_neg e] at hu;exact oS i hi u v hu hv
     ·rw[Rv,if_neg aB] at hu hv;exact le_trans' (oS j hj0 u z hu hj) (oS i hi z v (by rw[TN];exact hj) hv)
    ·refine⟨λi x TN hx=>?_,λv k hv=>?_⟩
     ·rw[Rv,if_neg TN] at hx;exact hp.at_ i x hx
     ·obtain⟨y,hy,e⟩:=hp.dom v k hv;obtain⟨i,hi⟩:=pJ.1 hy
      by_cases TN:i=j
      ·subst TN;rw[hj] at hi;cases hi;exact⟨⟨JD,key⟩,pJ.2 ⟨i,by rw[Rv,if_pos rfl]⟩,me.symm.trans e⟩
      ·exact⟨y,pJ.2 ⟨i,by rw[Rv,if_neg TN];exact hi⟩,e⟩
    ·have eJ:∀(i:Nat) (x:It),(xs.set j ⟨JD,key⟩)[i]? =some x->∃y,xs[i]? =some y/\y.id=x.id:=λi x hx=>by
      rw[Rv] at hx
      by_cases e:i=j
      ·rw[if_pos e] at hx;cases hx;subst e;exact⟨z,hj,me⟩
      ·rw[if_neg e] at hx;exact⟨x,hx,rfl⟩
     intro i i' x y hx hy e;obtain⟨x',h1,e1⟩:=eJ i x hx;obtain⟨y',h2,e2⟩:=eJ i' y hy;exact hp.apart i i' x' y' h1 h2 (by rw[e1,e2,e])
    ·intro u;rw[YI JS]
     constructor
     ·rintro(rfl|⟨hu,gQ⟩)
      ·exact pJ.2 ⟨j,by rw[Rv,if_pos rfl]⟩
      ·obtain⟨i,hi⟩:=pJ.1 ((hm u).1 hu);have:i≠j:=λe=>by subst e;rw[hj] at hi;cases hi;exact gQ me
       exact pJ.2 ⟨i,by rw[Rv,if_neg this];exact hi⟩
     ·intro hu;obtain⟨i,hi⟩:=pJ.1 hu;rw[Rv] at hi
      by_cases e:i=j
      ·rw[if_pos e] at hi;cases hi;exact .inl rfl
      ·rw[if_neg e] at hi;refine .inr ⟨(hm u).2 (kR hi),λe'=>e ?_⟩;exact hp.apart i j u z hi hj (by rw[e',me])
 rcases h with h|⟨rfl,hs,hr,h⟩
 ·obtain⟨_,xs,f,hA,_⟩:=id h;refine aA rfl (aE (k:=.map) (some H.r) hA.c1 ?_);exact aF (λh=>by simp at h) (λ_=>tJ w H h rfl (aU.refl _ _) λk hk=>.inl hk)
 ·refine aA rfl (aE (k:=.map) none (by rw[aS,h.cell];rfl) ?_);refine aF (λ_=>?_) (λh=>by simp at h);refine rN (ek:=FQ) (kn:=Mh) λhm k1=>?_;have cD:=h.lt;have QK:(w.alloc (.map #[] 0)).heap.size=w.heap.size+1:=by simp
  have h1:=h.aK k1 id;generalize w.alloc (.map #[] 0)=w1 at*;refine aA rfl ?_;rw[aS];refine cJ h1 Ux dP rfl rfl λw2 o2 m2 _=>?_;refine tJ w2 ⟨H.g,w.heap.size,bD⟩ ⟨List.Pairwise.nil,[],λ_=>none,⟨o2,dE.nil _ _ _ _,⟨_,hm.aK m2 aB⟩,by show H.g≠w.heap.size;omega,(λa ha=>by cases ha),(λa ha=>by cases ha)⟩,?_,⟨by simp,by simp⟩,by simp⟩ rfl (k1.wk.trans m2 λk _ e=>.inl e) ?_
  ·intro j _ u v hu;simp at hu
  ·rintro k (rfl|rfl|⟨a,ha,_⟩)
   ·exact .inl (.inl rfl)
   ·exact .inr (dN _)
   ·cases ha
end
end
section
section
variable{w:aH}{H:HS}{q:List It}
def Pop_i{x:It}{Q:Int->Int->Int->aH->Prop}(h:pC w H (x::q))(gL:q.length<1000000)
  (hQ:∀w' H',pC w' H' q->H'.g=H.g->(∀k,H'.dI k↔H.dI k)->aU H.dI w w'->Q x.id x.key 0 w'):HZ (some ⟨H.g,0,none⟩) w Q:=by
 unfold HZ;obtain⟨h0,xs,f,hA,oS,hp,hm⟩:=id h;have ZG:=Ir (mN h0) (OG hp.apart) hm;have RA:=hA.VM.len;have hn:xs.length=q.length+1:=by rw[ZG];simp
 refine yh (.inl h) ?_;refine aF (λh=>by simp at h;omega) (λ_=>?_);obtain⟨r,hr⟩:∃r,xs[0]? =some r:=⟨_,cL aB⟩;have hrx:r=x:=by
  have h1:=(hm r).2 (kR hr);rcases jQ.1 h1 with e|h1
  ·exact e
  ·have h2:=(List.pairwise_cons.1 h0).1 r h1;obtain⟨j,hj⟩:=pJ.1 ((hm x).1 dP);have:=oS.min hr j x hj;rw[this] at h2;cases h2
 subst hrx;obtain⟨lH,WU⟩:∃y,xs[xs.length-1]? =some y:=⟨_,cL aB⟩;have wr1:aQ ((H.s.l:Int)-1)=((xs.length-1:Nat):Int):=by rw[iH aB aB];omega
 have d0:aL w w.drew:=aU.drew (aU.refl _ w);intro J hJ;have after:∀(w2:aH) (b1 b2:Nat),aL w w2->w.heap.size<=b1->w.heap.size<=b2->cX w2 b1 lO (Dm r)->cX w2 b2 lO (Dm lH)->J (some ⟨b1,0,none⟩,some ⟨b2,0,none⟩,()) w2:=by
  intro w2 b1 b2 k2 lb1 lb2 o1 o2;apply hJ;dsimp only;have d2:aL w2 w2.drew:=aU.drew (aU.refl _ w2);have k2d:=k2.tr d2;have hA2:=hA.aO k2d;have p1:=o1.aK d2 id;have p2:=o2.aK d2 id;have nb1:∀k,H.dI k->¬b1=k:=λk hk e=>by have:=hA.lt hk;omega
  have nb2:∀k,H.dI k->¬b2=k:=λk hk e=>by have:=hA.lt hk;omega
  refine aA rfl (aE (k:=.slice) H.s hA2.c0 (aA rfl (aE (k:=.slice) H.s hA2.c0 ?_)));rw[wr1,pF,dU,Nat.sub_zero,Nat.sub_zero];have Sn:=hA2.VM.cap;refine⟨⟨aB,aB⟩,aA rfl ?_⟩;rw[aS];refine cJ hA2.head Jw dP rfl rfl λw3 o3 m3 _=>?_;have d3:aL w3 w3.drew:=aU.drew (aU.refl _ w3);have gm:∀k,k=H.g->H.dI k:=λk e=>.inl e;have hv3:dE w3.drew lO 2 Dm ⟨H.s.b,xs.length-1,H.s.c⟩ (xs.take (xs.length-1)):=((hA2.VM.aK m3 λa ha=>hA.sg a ha).aK d3 (λ_ _=>id)).take aB;obtain⟨n,Sh⟩:=hA2.map;have hmap3:=(Sh.aK m3 (Ne.symm hA.gr)).aK d3 id;have o3':cX w3.drew H.g wv [aW ⟨H.s.b,xs.length-1,H.s.c⟩,.map (some H.r)]:=o3;have q1:=(p1.aK m3 (nb1 _ (.inl rfl))).aK d3 id;have q2:=(p2.aK m3 (nb2 _ (.inl rfl))).aK d3 id;have M3:aU H.dI w w3.drew:=(k2d.wk.trans m3 λk _ e=>gm k e).tr d3.wk;refine aA rfl (aE (k:=.map) (some H.r) (by rw[aS,o3'.cell];rfl) (aA rfl (aE (k:=.i) r.id (by rw[aS,q1.cell];rfl) ?_)));refine Jh (kn:=Mh) pN lV hmap3 r.id λw4 hm4 m4 _=>?_;have o4:=o3'.aK m4 hA.gr;have hv4:=hv3.aK m4 λa ha=>hA.sr a ha;have M4:aU H.dI w w4:=M3.trans m4 λk _ e=>.inr (.inl e);have r1:=q1.aK m4 (nb1 _ (.inr (.inl rfl)));have r2:=q2.aK m4 (nb2 _ (.inr (.inl rfl)));have d4:aL w4 w4.drew:=aU.drew (aU.refl _ w4);have has':∀(k:Nat),HS.dI ⟨H.g,H.r,⟨H.s.b,xs.length-1,H.s.c⟩⟩ k↔H.dI k:=λk=>Iff.rfl;have hq':CM q:=(List.pairwise_cons.1 h0).2;have hrq:r∉q:=λh=>by have:=(List.pairwise_cons.1 h0).1 r h;rw[HW] at this;cases this
  have memq:∀u,u∈q↔u∈xs/\u≠r:=λu=>by
   rw[<-hm u,jQ]
   constructor
   ·intro h;exact⟨.inr h,λe=>hrq (e▸h)⟩
   ·rintro⟨h|h,gQ⟩
    ·exact absurd h gQ
    ·exact h
  refine aA rfl (aE (k:=.slice) ⟨H.s.b,xs.length-1,H.s.c⟩ (by rw[aS,o4.cell];rfl) ?_);refine aI (λuJ=>?_) (λFW=>?_)
  ·have WT:0<xs.length-1:=by simpa using uJ
   have Bm:∀j,j<xs.length-1->(xs.take (xs.length-1))[j]? =xs[j]?:=λj hj=>WC hj;have hA4:VY w4.drew ⟨H.g,H.r,⟨H.s.b,xs.length-1,H.s.c⟩⟩ (xs.take (xs.length-1)) (λy=>if y=r.id then none else f y):=⟨o4.aK d4 id,hv4.aK d4 (λ_ _=>id),⟨_,hm4.aK d4 id⟩,hA.gr,hA.sg,hA.sr⟩
   have ltake:(xs.take (xs.length-1)).length=xs.length-1:=by simp
   obtain⟨b,hb⟩:=hA4.oI (i:=0) aB;refine aA rfl (aE (k:=.slice) ⟨H.s.b,xs.length-1,H.s.c⟩ hA4.c0 (aA rfl (aZ (AB lH) (NC (r2.aK d4 id)) ⟨⟨aB,by show(0:Int)<((xs.length-1:Nat):Int);omega⟩,aA hb ?_⟩)));refine hA4.VM.store sN hb (i:=0) aB lH (v:=itV lH) rfl Af (oneIt lH) λw5 v5 m5 _=>?_;have hA5:VY w5 ⟨H.g,H.r,⟨H.s.b,xs.length-1,H.s.c⟩⟩ ((xs.take (xs.length-1)).set 0 lH) (λy=>if y=r.id then none else f y):=
    ⟨hA4.head.aK m5 (Ne.symm (hA.sg b hb)),v5,by obtain⟨n,hm⟩:=hA4.map;exact⟨n,hm.aK m5 (Ne.symm (hA.sr b hb))⟩,hA.gr,hA.sg,hA.sr⟩
   have bh:H.dI b.block:=.inr (.inr ⟨b,hb,rfl⟩);have M5:aU H.dI w w5:=(M4.tr d4.wk).trans m5 λk _ e=>by rw[show k=b.block from e];exact bh
   have yget:∀j z,((xs.take (xs.length-1)).set 0 lH)[j]? =some z->(j=0/\z=lH)\/(j≠0/\j<xs.length-1/\xs[j]? =some z):=λj z hz=>by
    have ZH:=(eR.1 hz).1;rw[oE,ltake] at ZH;rw[jC] at hz
    by_cases e:0=j
    ·subst e;rw[if_pos rfl,if_pos aB] at hz;cases hz;exact .inl ⟨rfl,rfl⟩
    ·rw[if_neg e,Bm j ZH] at hz;exact .inr ⟨Ne.symm e,ZH,hz⟩
   have yput0:((xs.take (xs.length-1)).set 0 lH)[0]? =some lH:=by rw[jC,if_pos rfl,if_pos aB]
   have yput:∀j z,j≠0->j<xs.length-1->xs[j]? =some z->((xs.take (xs.length-1)).set 0 lH)[j]? =some z:=λj z hj ZH hz=>by
    rw[jC,if_neg (Ne.symm hj),Bm j ZH];exact hz
   have ne0:∀j z,j≠0->xs[j]? =some z->z.id≠r.id:=λj z hj hz e=>hj (hp.apart j 0 z r hz hr e);have gQ:lH.id≠r.id:=ne0 _ _ aB WU;refine down_i (H:=⟨H.g,H.r,⟨H.s.b,xs.length-1,H.s.c⟩⟩) hA5 (by rw[oE];omega) (by rw[oE];omega) ⟨λj hj hj0 u v hu hv=>?_,λj _ _ h0=>aB⟩ ⟨λj z hj hz=>?_,λv k hv=>?_⟩ ?_ λw6 zs f6 hA6 hok6 hp6 hm6 hl6 m6=>?_
   ·rcases yget _ _ hu with⟨h1,_⟩|⟨_,_,h1⟩
    ·omega
    ·rcases yget _ _ hv with⟨h2,_⟩|⟨_,_,h2⟩
     ·omega
     ·exact oS j hj u v h1 h2
   ·rcases yget _ _ hz with⟨h1,_⟩|⟨_,_,h1⟩
    ·omega
    ·rw[if_neg (ne0 j z hj h1)];exact hp.at_ j z h1
   ·by_cases e:v=r.id
    ·rw[if_pos e] at hv;cases hv
    ·rw[if_neg e] at hv;obtain⟨z,hz,ez⟩:=hp.dom v k hv;obtain⟨j,hj⟩:=pJ.1 hz;have ZH:=(eR.1 hj).1;have hj0:j≠0:=λe0=>by subst e0;rw[hr] at hj;cases hj;exact e ez.symm
     by_cases hjn:j=xs.length-1
     ·subst hjn;rw[WU] at hj;cases hj;exact⟨lH,kR yput0,ez⟩
     ·exact⟨z,kR (yput j z hj0 aB hj),ez⟩
   ·intro i j a b ha hb e;rcases yget _ _ ha with⟨h1,rfl⟩|⟨h1,h1',h2⟩<;>rcases yget _ _ hb with⟨h3,rfl⟩|⟨h3,Wk,h4⟩
    ·omega
    ·have:=hp.apart _ _ _ _ WU h4 e;omega
    ·have:=hp.apart _ _ _ _ h2 WU e;omega
    ·exact hp.apart _ _ _ _ h2 h4 e
   ·have M6:aU H.dI w w6.drew:=((M5.trans m6 λk _ hk=>hk)).tr (aU.drew (aU.refl _ w6));have d6:aL w6 w6.drew:=aU.drew (aU.refl _ w6);have s1:=(((r1.aK d4 id).aK m5 (nb1 _ bh)).aK m6 λhk=>nb1 _ hk rfl).aK d6 id;refine aA rfl (aE (k:=.i) r.id (by rw[aS,s1.cell];rfl) (aA rfl (aE (k:=.i) r.key (by rw[aS,s1.cell];rfl) ?_)));refine hQ _ ⟨H.g,H.r,⟨H.s.b,xs.length-1,H.s.c⟩⟩ ⟨hq',zs,f6,hA6.aO d6,hok6,hp6,λu=>?_⟩ rfl has' M6;rw[hm6 u,memq u]
    constructor
    ·rintro⟨hu,ZO⟩;obtain⟨j,hj⟩:=pJ.1 hu;have ZH:=(eR.1 hj).1;have hj0:j≠0:=λe0=>by subst e0;rw[hr] at hj;cases hj;exact ZO rfl
     by_cases hjn:j=xs.length-1
     ·subst hjn;rw[WU] at hj;cases hj;exact kR yput0
     ·exact kR (yput j u hj0 aB hj)
    ·intro hu;obtain⟨j,hj⟩:=pJ.1 hu;rcases yget _ _ hj with⟨_,rfl⟩|⟨h1,_,h2⟩
     ·exact⟨kR WU,λe=>gQ (by rw[e])⟩
     ·exact⟨kR h2,λe=>ne0 j u h1 h2 (by rw[e])⟩
  ·have hn1:xs.length=1:=by
    have:¬((xs.length-1:Nat):Int)>0:=FW;omega
   have hq0:q=[]:=Mq aB;have s1:=r1.aK d4 id;refine aA rfl (aE (k:=.i) r.id (by rw[aS,s1.cell];rfl) (aA rfl (aE (k:=.i) r.key (by rw[aS,s1.cell];rfl) ?_)));have t0:xs.take (xs.length-1)=[]:=by rw[hn1];rfl
   rw[t0] at hv4;refine hQ _ ⟨H.g,H.r,⟨H.s.b,xs.length-1,H.s.c⟩⟩ ⟨hq',[],_,⟨o4.aK d4 id,hv4.aK d4 (λ_ _=>id),⟨_,hm4.aK d4 id⟩,hA.gr,hA.sg,hA.sr⟩,λj _ u v hu=>by simp at hu,⟨by simp,λv k hv=>?_⟩,by rw[hq0];simp⟩ rfl has' (M4.tr d4.wk)
   replace hv:(if v=r.id then none else f v)=some k:=hv
   by_cases e:v=r.id
   ·rw[if_pos e] at hv;cases hv
   ·rw[if_neg e] at hv;obtain⟨z,hz,ez⟩:=hp.dom v k hv;obtain⟨j,hj⟩:=pJ.1 hz;have ZH:=(eR.1 hj).1;have:j=0:=aB;subst this;rw[hr] at hj;cases hj;exact absurd ez.symm e
 have hAd:=hA.aO d0;obtain⟨b,hb,hh⟩:=HI (hAd.VM.rd sN) hr;obtain⟨b',bW,Gg⟩:=HI (hAd.VM.rd sN) WU;refine aA rfl (aE (k:=.slice) H.s hAd.c0 ⟨⟨aB,aB⟩,aA hb (aZ (AB r) hh ?_)⟩);refine aA rfl (aE (k:=.slice) H.s hAd.c0 (aA rfl (aE (k:=.slice) H.s hAd.c0 ?_)));rw[wr1,dU];refine⟨⟨aB,aB⟩,aA bW (aZ (AB lH) Gg ?_)⟩;simp only[aG];have kA:=aL.alloc w.drew (.cells #[aD 0,aD 0] 242);have oA:cX (w.drew.alloc (.cells #[aD 0,aD 0] 242)) w.drew.heap.size lO (Dm ⟨0,0⟩):=cX.jA w.drew _ _;have sA:(w.drew.alloc (.cells #[aD 0,aD 0] 242)).heap.size=w.heap.size+1:=by simp
 generalize w.drew.alloc (.cells #[aD 0,aD 0] 242)=wA at*;have kB:=aL.alloc wA (.cells #[aD 0,aD 0] 242);have oB:cX (wA.alloc (.cells #[aD 0,aD 0] 242)) wA.heap.size lO (Dm ⟨0,0⟩):=cX.jA wA _ _;generalize wA.alloc (.cells #[aD 0,aD 0] 242)=wB at*;have hA_:=hAd.aO kA;have hB_:=hA_.aO kB;have szd:w.drew.heap.size=w.heap.size:=rfl;rw[szd] at oA ⊢;have cellsOf:∀{wx:aH},VY wx H xs f->bQ wx (b.add (Int.toNat (0:Int)*2)) 0 [aD r.id,aD r.key]/\bQ wx (b'.add ((xs.length-1)*2)) 0 [aD lH.id,aD lH.key]/\wx.cell? ((⟨H.g,0,none⟩:Addr).add 0)=some (aW H.s):=λ{wx} hx=>by
  obtain⟨c,hc,h1⟩:=HI (hx.VM.rd sN) hr;obtain⟨c',Lx,h2⟩:=HI (hx.VM.rd sN) WU;rw[hb] at hc;cases hc;rw[bW] at Lx;cases Lx;exact⟨h1,h2,hx.c0⟩
 obtain⟨a1,a2,a3⟩:=cellsOf hA_;obtain⟨b1,b2,b3⟩:=cellsOf hB_;have kAB:aL w wB:=(d0.tr kA).tr kB;have oA':=oA.aK kB id;have lA:∀k,H.dI k->¬k=w.heap.size:=λk hk e=>by have:=hA.lt hk;omega
 have lB:∀k,H.dI k->¬k=wA.heap.size:=λk hk e=>by have:=hA.lt hk;omega
 constructor
 ·refine⟨a2,a3,a3,a1,a3,b2,b3,b3,b1,b3,?_⟩;refine yB (x:=r) oA' rfl λw9 o9 m9=>?_;obtain⟨c1,c2,c3⟩:=cellsOf (hB_.aK m9 lA);refine⟨c2,c3,c3,?_⟩;refine yB (x:=lH) (oB.aK m9 aB) rfl λfG De VQ=>?_;refine after fG _ _ ((aU.fresh kAB m9 λk e=>aB).fresh VQ λk e=>aB) (dN _) aB (o9.aK VQ aB) De
 ·refine⟨a2,a3,a3,a1,a3,b2,b3,b3,b1,b3,?_⟩;refine yB (x:=r) oB rfl λw9 o9 m9=>?_;obtain⟨c1,c2,c3⟩:=cellsOf (hB_.aK m9 lB);refine⟨c2,c3,c3,?_⟩;refine yB (x:=lH) (oA'.aK m9 aB) rfl λfG De VQ=>?_;refine after fG _ _ ((aU.fresh kAB m9 λk e=>aB).fresh VQ λk e=>aB) aB (dN _) (o9.aK VQ aB) De
end
end
def iW{w:aH}{g:Nat}{e:fL}{cs:gJ}(h:cX w g e cs):bQ w ⟨g,0,none⟩ 0 cs:=h.holds λj v hj=>by simpa using hj
def laid_i{key:bP->Int}{s:Sl}{xs:List bP}{a:bP}{i:Nat}{qW:Bool}{w:aH}{Q:Sl->aH->Prop}(hs:dE w iI 4 dY s xs)(mU:ZK key xs)(qT:AK key xs (key a) i)(hf:qW=true↔∃x∈xs,key x=key a)(hb:xs.length<=512)
  (hQ:∀s' w',dE w' iI 4 dY s' (EK key xs a)->aU (λk=>∃b,s.b=some b/\k=b.block) w w'->(s'.b=s.b\/∀b,s'.b=some b->w.heap.size<=b.block)->Q s' w'):rU s (i:Int) qW (nY a) w Q:=by
 cases qW with
 |true=>obtain⟨x,hx,hk⟩:=hf.1 rfl;have hi:i<xs.length:=(eR.1 (qT.qW mU hx hk)).1;exact laid_at_i hs hi λw' h1 h2=>hQ s w' (by rw[<-qT.ins_at mU hx hk];exact h1) h2 (.inl rfl)
 |false=>
  have hn:∀x∈xs,key x≠key a:=λx hx hk=>by have:=hf.2 ⟨x,hx,hk⟩;cases this
  exact rb hs qT.le aB λs' w' h1 h2 h3=>hQ s' w' (by rw[<-qT.ins_new hn];exact h1) h2 (h3.imp id λ⟨b,bW,cD⟩ c hc=>by rw[bW] at hc;cases hc;exact cD)
def Put_i{N:nI}{n:Nat}{l:List bP}{a:bP}{w:aH}{Q:Bool->aH->Prop}(h:lP w N n l)
  (hQ:∀w' N',lP w' N' n (vR n l a).1->N'.g=N.g->aU N.dI w w'->(∀k,N'.dI k->N.dI k\/w.heap.size<=k)->Q (vR n l a).2 w'):HY (some ⟨N.g,0,none⟩) (nY a) w Q:=by
 unfold HY;simp only[aG];have k1:=aL.alloc w (.cells #[aD a.f,aD a.t,aD a.w,aD a.m] 128);have oa1:cX (w.alloc (.cells #[aD a.f,aD a.t,aD a.w,aD a.m] 128)) w.heap.size 128 (dY a):=cX.jA w _ 128;generalize Vy:w.alloc (.cells #[aD a.f,aD a.t,aD a.w,aD a.m] 128)=w1 at*;generalize VR:w.heap.size=b1 at*;have hold:∀k,N.dI k->k≠b1:=λk hk=>by have:=h.at_.lt hk;omega
 refine aF (λh=>by simp at h) (λ_=>?_);refine aZ (nY a) (iW oa1) ?_;have h1:=h.aO k1;refine may_i h1.at_.head λw2 r k2 hr=>?_;have h2:=h1.aO k2;have GQ:=k1.tr k2;have oa2:=oa1.aK k2 id;refine aF (λhr0=>?_) (λhr0=>?_)
 ·have qU:¬FT n a:=λhm=>by rw[hr.2 hm] at hr0;cases hr0
  have e:vR n l a=(l,false):=by unfold vR;rw[if_neg qU]
  rw[e] at hQ;exact hQ w2 N h2 rfl GQ.wk λk hk=>.inl hk
 have hm:FT n a:=hr.1 (by cases r<;>simp at hr0 ⊢);have QK:=h.sz;have hf0:=hm.1;have hf1:=hm.2.1;have ht0:=hm.2.2.1;have ht1:=hm.2.2.2.1;obtain⟨v,hv⟩:∃v:Nat,a.f=(v:Int):=⟨a.f.toNat,aB⟩;obtain⟨u,hu⟩:∃u:Nat,a.t=(u:Int):=⟨a.t.toNat,aB⟩;have hvn:v<n:=aB;have Er:u<n:=aB;have la:∀{w':aH},cX w' b1 128 (dY a)->w'.cell? ((⟨b1,0,none⟩:Addr).add 0)=some (aD (v:Int))/\w'.cell? ((⟨b1,0,none⟩:Addr).add 1)=some (aD (u:Int))/\w'.cell? ((⟨b1,0,none⟩:Addr).add 2)=some (aD a.w):=λho=>by
  refine⟨?_,?_,?_⟩<;>rw[aS,ho.cell]
  ·rw[<-hv];rfl
  ·rw[<-hu];rfl
  ·rfl
 have d2:aL w2 w2.drew:=aU.drew (aU.refl _ w2);have h2':=h2.aO d2;have oa2':=oa2.aK d2 id;refine aA rfl (aE (k:=.slice) ⟨some ⟨N.go,0,none⟩,n,n⟩ h2'.at_.c0 (aE (k:=.i) (v:Int) (la oa2').1 ?_));refine⟨⟨aB,by show _<(n:Int);omega⟩,aA rfl ?_⟩;obtain⟨s,hs,AI⟩:=h2'.at_.out hvn;refine aE (k:=.slice) s AI (aE (k:=.i) (u:Int) (la oa2').2.1 ?_);have pQ:=h2'.at_.row v s hs;have hX:kN n l v=eN l a.f:=by rw[hv];simp[kN,hvn]
 rw[hX] at pQ;have hlenO:=h.ok.wF a.f;rw[<-hu];refine byTo_i (pQ.rd jS) (h.ok.sY.out a.f) aB λi qW w3 k3 qT Ig=>?_;have h3:=h2'.aO k3;have k23:=(GQ.tr d2).tr k3;have oa3:=oa2'.aK k3 id;intro J hJ;have hfind:(qW=true)↔∃x∈l,x.f=a.f/\x.t=a.t:=by
  rw[Ig]
  constructor
  ·rintro⟨x,hx,hk⟩;exact⟨x,(fD.1 hx).1,(fD.1 hx).2,hk⟩
  ·rintro⟨x,hx,RB,GS⟩;exact⟨x,fD.2 ⟨hx,RB⟩,GS⟩
 have hJ':vR n l a=(MK l a,true)->J () w3.drew:=by
  intro e;rw[e] at hQ;apply hJ;have d3:aL w3 w3.drew.drew:=aU.drew (aU.drew (aU.refl _ w3));have h4:=h3.aO d3;have oa4:=oa3.aK d3 id;have k4:=k23.tr d3;generalize w3.drew.drew=w4 at*;refine aA rfl (aE (k:=.slice) ⟨some ⟨N.go,0,none⟩,n,n⟩ h4.at_.c0 (aE (k:=.i) (v:Int) (la oa4).1 ?_));refine aA rfl (aE (k:=.slice) ⟨some ⟨N.go,0,none⟩,n,n⟩ h4.at_.c0 (aE (k:=.i) (v:Int) (la oa4).1 ?_));refine⟨⟨aB,by show _<(n:Int);omega⟩,aA rfl ?_⟩;obtain⟨s',GO,hcell4⟩:=h4.at_.out hvn;rw[hs] at GO;cases GO;refine aE (k:=.slice) s hcell4 (aZ (nY a) (iW oa4) ?_);have hrow4:=h4.at_.row v s hs;rw[hX] at hrow4;refine laid_i hrow4 (h.ok.sY.out a.f) qT Ig aB λs6 w5 hv6 m5 hb6=>?_;have gQ:∀k,(∃b,s.b=some b/\k=b.block)->N.dI k:=λk ⟨b,hb,hk⟩=>.inr (.inr (.inr ⟨v,s,b,hs,hb,hk.symm⟩));have oa5:=oa4.aK m5 λhk=>hold _ (gQ _ hk) rfl;refine⟨(la oa5).1,?_,⟨aB,by show _<(n:Int);omega⟩,aA rfl ?_⟩
  ·have:=h4.at_.head.aK m5 λ⟨b,hb,hk⟩=>(h4.at_.sep v s b hs hb).1 hk.symm;rw[aS,this.cell];rfl
  refine h4.at_.oq hvn hs hv6 m5 hb6 λw6 h6 m6 z6=>?_;have oa6:=oa4.aK m6 λhk=>hold _ hk rfl;have hh6:∀k,({N with eC:=N.eC.set v s6}:nI).dI k->N.dI k\/w4.heap.size<=k:=λk hk=>
   nI.OZ (P:=λk=>w4.heap.size<=k) hs (λa ha=>hb6.imp id λhq=>hq a ha) hk
  have d6:aL w6 w6.drew:=aU.drew (aU.refl _ w6);have h6':=h6.aO d6;have oa6':=oa6.aK d6 id;refine aA rfl (aE (k:=.slice) ⟨some ⟨N.gi,0,none⟩,n,n⟩ h6'.c1 (aE (k:=.i) (u:Int) (la oa6').2.1 ?_));refine⟨⟨aB,by show _<(n:Int);omega⟩,aA rfl ?_⟩;obtain⟨s8,hs8,hcell8⟩:=h6'.MF Er;refine aE (k:=.slice) s8 hcell8 (aE (k:=.i) (v:Int) (la oa6').1 ?_);have hX8:(if n+u=v then EK bP.t (eN l a.f) a else kN n l (n+u))=oL l a.t:=by have:¬(n+u=v):=aB;have h2:¬(n+u<n):=aB;simp only[this,if_false,kN,h2];rw[hu];congr 1;omega
  have hrow8:=h6'.row (n+u) s8 hs8;rw[hX8] at hrow8;have hlenI:=h.ok.GB a.t;rw[<-hv];refine aa (hrow8.rd jS) (h.ok.sY.MF a.t) aB λi8 f8 w7 k7 low8 hf8=>?_;have d7:aL w7 w7.drew:=aU.drew (aU.refl _ w7);have k7':=k7.tr d7;have h7:=h6'.aO k7';have oa7:=oa6'.aK k7' id;refine aA rfl (aE (k:=.slice) ⟨some ⟨N.gi,0,none⟩,n,n⟩ h7.c1 (aE (k:=.i) (u:Int) (la oa7).2.1 ?_));refine aA rfl (aE (k:=.slice) ⟨some ⟨N.gi,0,none⟩,n,n⟩ h7.c1 (aE (k:=.i) (u:Int) (la oa7).2.1 ?_));refine⟨⟨aB,by show _<(n:Int);omega⟩,aA rfl ?_⟩;obtain⟨s9,hs9,hcell9⟩:=h7.MF Er;rw[hs8] at hs9;cases hs9;refine aE (k:=.slice) s8 hcell9 (aZ (nY a) (iW oa7) ?_);have hrow9:=h7.row (n+u) s8 hs8;rw[hX8] at hrow9;have hfin:qW=true↔∃x∈oL l a.t,x.f=a.f:=by
   rw[hfind]
   constructor
   ·rintro⟨x,hx,RB,GS⟩;exact⟨x,iO.2 ⟨hx,GS⟩,RB⟩
   ·rintro⟨x,hx,hk⟩;exact⟨x,(iO.1 hx).1,hk,(iO.1 hx).2⟩
  refine laid_i hrow9 (h.ok.sY.MF a.t) low8 hfin aB λEl w8 hv12 m8 hb12=>?_;have hne8:∀k,(∃b,s8.b=some b/\k=b.block)->({N with eC:=N.eC.set v s6}:nI).dI k:=λk ⟨b,hb,hk⟩=>.inr (.inr (.inr ⟨n+u,s8,b,hs8,hb,hk.symm⟩));have hb1w:b1<w4.heap.size:=oa4.lt;have hb1n:¬({N with eC:=N.eC.set v s6}:nI).dI b1:=λhk=>by
   rcases hh6 b1 hk with h'|h'
   ·exact hold _ h' rfl
   ·omega
  have oa8:=oa7.aK m8 λhk=>hb1n (hne8 _ hk);refine⟨(la oa8).2.1,?_,⟨aB,by show _<(n:Int);omega⟩,aA rfl ?_⟩
  ·have:=h7.head.aK m8 λ⟨b,hb,hk⟩=>(h7.sep (n+u) s8 b hs8 hb).1 hk.symm;rw[aS,this.cell];rfl
  refine h7.putIn Er hs8 hv12 m8 hb12 λw9 h9 m9 z9=>?_;have m46:aU N.dI w w6:=k4.wk.tr m6;have s67:w4.heap.size<=w7.drew.heap.size:=jB m6.size (jB d6.size k7'.size);have m69:aU N.dI w w9:=((m46.tr d6.wk).tr k7'.wk).trans m9 λk hk lM=>by
   rcases hh6 k lM with h'|h'
   ·exact h'
   ·omega
  refine hQ w9 {N with eC:=(N.eC.set v s6).set (n+u) El} ⟨?_,h.ok.LS hm,h.sz⟩ rfl m69 λk hk=>?_
  ·have Si:(λj=>if j=n+u then EK bP.f (oL l a.t) a else(λj=>if j=v then EK bP.t (eN l a.f) a else kN n l j) j)=kN n (MK l a):=by
    funext j
    by_cases hj1:j=n+u
    ·subst hj1;have h2:¬(n+u<n):=aB;simp only[if_true,kN,h2,if_false];rw[zf h.ok.sY,if_pos aB];congr 2;omega
    ·simp only[hj1,if_false]
     by_cases hj2:j=v
     ·subst hj2;simp only[if_true,kN,hvn];rw[Zh h.ok.sY,if_pos aB,hv]
     ·simp only[hj2,if_false,kN]
      split
      ·rw[Zh h.ok.sY,if_neg aB]
      ·rw[zf h.ok.sY,if_neg aB]
   rw[<-Si];exact h9
  ·rcases nI.OZ (N:={N with eC:=N.eC.set v s6}) (P:=λk=>w7.drew.heap.size<=k) hs8 (λa ha=>hb12.imp id λhq=>hq a ha) hk with h'|h'
   ·rcases hh6 k h' with h''|h''
    ·exact .inl h''
    ·exact .inr aB
   ·exact .inr aB
 have d3:aL w3 w3.drew:=aU.drew (aU.refl _ w3);have Wk:=h3.aO d3;have oa3':=oa3.aK d3 id;refine aF (λhfd=>?_) (λhfd=>?_)
 ·obtain⟨x,hx,Bi⟩:=Ig.1 hfd;have hxi:=qT.qW (h.ok.sY.out a.f) hx Bi;have hi:i<(eN l a.f).length:=(eR.1 hxi).1;have ZG:=fD.1 hx;have ye:jT l a.f a.t=some x:=by rw[<-ZG.2,<-Bi];exact zH h.ok.sY ZG.1
  refine aA rfl (aE (k:=.slice) ⟨some ⟨N.go,0,none⟩,n,n⟩ Wk.at_.c0 (aE (k:=.i) (v:Int) (la oa3').1 ?_));refine⟨⟨aB,by show _<(n:Int);omega⟩,aA rfl ?_⟩;obtain⟨s',GO,hcell3⟩:=Wk.at_.out hvn;rw[hs] at GO;cases GO;refine aE (k:=.slice) s hcell3 ?_;have Ow:=Wk.at_.row v s hs;rw[hX] at Ow;have hl3:=Ow.len;refine⟨⟨aB,aB⟩,?_⟩;obtain⟨b,hb,hh⟩:=(Ow.rd jS).get i x hxi;refine aA hb (aE (k:=.i) x.w ?_ (aE (k:=.i) a.w (la oa3').2.2 ?_))
  ·exact(jH.1 hh) 2 _ rfl
  refine aI (λLV=>?_) (λLV=>?_)
  ·have e:vR n l a=(l,false):=by unfold vR;rw[if_pos hm,ye];simp only[LV,if_true]
   rw[e] at hQ;exact hQ _ N Wk rfl (k23.tr d3).wk λk hk=>.inl hk
  ·exact hJ' (by unfold vR;rw[if_pos hm,ye];simp only[LV,if_false])
 ·have ye:jT l a.f a.t=none:=by
   cases JK:jT l a.f a.t with
   |none=>rfl
   |some x=>obtain⟨h1,h2,h3⟩:=rS JK;rw[hfind.2 ⟨x,h1,h2,h3⟩] at hfd;cases hfd
  exact hJ' (by unfold vR;rw[if_pos hm,ye])
def RT{N:nI}{n:Nat}{l:List bP}{w:aH}{Q:Int->aH->Prop}(h:lP w N n l)(hQ:Q (n:Int) w):nN (some ⟨N.g,0,none⟩) w Q:=by
 unfold nN;refine aF (λh=>by simp at h) (λ_=>?_);exact aA rfl (aE (k:=.slice) ⟨some ⟨N.go,0,none⟩,n,n⟩ h.at_.c0 hQ)
def has_i{N:nI}{n:Nat}{l:List bP}{v:Int}{w:aH}{Q:Bool->aH->Prop}(h:lP w N n l)(hQ:∀r:Bool,(r=true↔0<=v/\v<n)->Q r w):zK (some ⟨N.g,0,none⟩) v w Q:=by
 unfold zK;refine aI (λh1=>RT h (hQ _ (by simp;omega))) (λh1=>hQ _ (by simp;omega))
def Yq{N:nI}{n:Nat}{l:List bP}{v:Int}{w:aH}{Q:Sl->aH->Prop}(h:lP w N n l)(hQ:∀s' w',dE w' iI 4 dY s' (eN l v)->aL w w'->(∀b,s'.b=some b->w.heap.size<=b.block)->Q s' w'):
  zL (some ⟨N.g,0,none⟩) v w Q:=by
 unfold zL;have QK:=h.sz;refine has_i h λr hr=>aF (λh1=>?_) (λh1=>?_)
 ·have hn:eN l v=[]:=by
   apply List.filter_eq_nil_iff.2;intro x hx hxv;have:=h.ok.vQ x hx;have e:x.f=v:=by simpa using hxv
   have:r=true:=hr.2 ⟨by rw[<-e];exact this.1,by rw[<-e];exact this.2.1⟩;rw[this] at h1;cases h1
  exact hQ _ w (by rw[hn];exact dE.nil _ _ _ _) (aU.refl _ _) (λb hb=>by cases hb)
 ·have hv:=hr.1 (by cases r<;>simp at h1 ⊢);obtain⟨u,rfl⟩:∃u:Nat,v=(u:Int):=⟨v.toNat,aB⟩;have hu:u<n:=aB;refine aA rfl (aE (k:=.slice) ⟨some ⟨N.go,0,none⟩,n,n⟩ h.at_.c0 ?_);refine⟨⟨aB,by show _<(n:Int);omega⟩,aA rfl ?_⟩;obtain⟨s,hs,AI⟩:=h.at_.out hu;refine aE (k:=.slice) s AI ?_;have pQ:=h.at_.row u s hs;have hX:kN n l u=eN l (u:Int):=by simp[kN,hu]
  rw[hX] at pQ;have:=h.ok.wF (u:Int);exact Us (pQ.rd jS) aB hQ
def In_i{N:nI}{n:Nat}{l:List bP}{v:Int}{w:aH}{Q:Sl->aH->Prop}(h:lP w N n l)(hQ:∀s' w',dE w' iI 4 dY s' (oL l v)->aL w w'->(∀b,s'.b=some b->w.heap.size<=b.block)->Q s' w'):
  AV (some ⟨N.g,0,none⟩) v w Q:=by
 unfold AV;have QK:=h.sz;refine has_i h λr hr=>aF (λh1=>?_) (λh1=>?_)
 ·have hn:oL l v=[]:=by
   apply List.filter_eq_nil_iff.2;intro x hx hxv;have:=h.ok.vQ x hx;have e:x.t=v:=by simpa using hxv
   have:r=true:=hr.2 ⟨by rw[<-e];exact this.2.2.1,by rw[<-e];exact this.2.2.2.1⟩;rw[this] at h1;cases h1
  exact hQ _ w (by rw[hn];exact dE.nil _ _ _ _) (aU.refl _ _) (λb hb=>by cases hb)
 ·have hv:=hr.1 (by cases r<;>simp at h1 ⊢);obtain⟨u,rfl⟩:∃u:Nat,v=(u:Int):=⟨v.toNat,aB⟩;have hu:u<n:=aB;refine aA rfl (aE (k:=.slice) ⟨some ⟨N.gi,0,none⟩,n,n⟩ h.at_.c1 ?_);refine⟨⟨aB,by show _<(n:Int);omega⟩,aA rfl ?_⟩;obtain⟨s,hs,AI⟩:=h.at_.MF hu;refine aE (k:=.slice) s AI ?_;have pQ:=h.at_.row (n+u) s hs;have hX:kN n l (n+u)=oL l (u:Int):=by
   have:¬(n+u<n):=aB;simp only[kN,this,if_false];congr 1;omega
  rw[hX] at pQ;have:=h.ok.GB (u:Int);exact Us (pQ.rd jS) aB hQ
def DN{w:aH}{g:Nat}{cs:gJ}{x:bP}{K:aH->Prop}(h:cX w g iI cs)(hl:cs.length=4)(hK:∀w',cX w' g iI (dY x)->aU (λk=>k=g) w w'->K w'):
  aJ prog iI ⟨g,0,none⟩ (Hd x) w K:=by
 refine DB h DD (by simp[Value.cells,hl]) (by simp[Value.cells,Value.oneCell']) λw' ho hm _=>hK w' ?_ hm;have:cs.take 0++(Hd x).cells.toList++cs.drop (0+(Hd x).cells.size)=dY x:=by simp[Value.cells,List.drop_of_length_le (show cs.length<=4 by omega)]
 rwa[this] at ho
def All_i{N:nI}{n:Nat}{l:List bP}{w:aH}{Q:Sl->aH->Prop}(h:lP w N n l)(hl:l.length<1099511627776)(hQ:∀s' w',dE w' iI 4 dY s' l->aL w w'->(∀b,s'.b=some b->w.heap.size<=b.block)->Q s' w'):
  YA (some ⟨N.g,0,none⟩) w Q:=by
 unfold YA;have QK:=h.sz;refine RT h ?_;have flen:∀i,i<=n->((List.range i).flatMap λv:Nat=>eN l (v:Int)).length<=l.length:=by intro i hi;have e:=Ak h.ok;obtain⟨d,rfl⟩:∃d,n=i+d:=⟨n-i,aB⟩;rw[List.range_add,HA] at e;rw[<-congrArg List.length e];simp
 refine bK (λm t w'=>∃(i:Nat) (s:Sl),i<=n/\m=n-i/\t=(s,(i:Int),())/\aL w w'/\dE w' iI 4 dY s ((List.range i).flatMap λv:Nat=>eN l (v:Int))/\(∀b,s.b=some b->w.heap.size<=b.block)) n
  ⟨0,bD,cY _,rfl,rfl,aU.refl _ _,dE.nil _ _ _ _,λb hb=>by cases hb⟩ ?_
 rintro m t w' ⟨i,s,hi,rfl,rfl,hk,hv,hb⟩ X hX;dsimp only;have h':=h.aO hk;refine aI (λcD=>?_) (λkF=>?_)
 ·have JJ:i<n:=aB;refine aA rfl (aE (k:=.slice) ⟨some ⟨N.go,0,none⟩,n,n⟩ h'.at_.c0 ?_);refine⟨⟨aB,by show _<(n:Int);omega⟩,aA rfl ?_⟩;obtain⟨r,hr,AI⟩:=h'.at_.out JJ;refine aE (k:=.slice) r AI ?_;have pQ:=h'.at_.row i r hr;have hXr:kN n l i=eN l (i:Int):=by simp[kN,JJ]
  rw[hXr] at pQ;have LZ:=flen (i+1) JJ;rw[List.range_succ,HA,fN] at LZ;simp only[FU,List.flatMap_nil,rF] at LZ;refine fH jW jS Ds hv (pQ.rd jS) aB aB λr2 w2 hv2 ki QM _=>?_;rw[iH aB aB];refine hX (n-(i+1)) _ _ aB ⟨i+1,r2,JJ,rfl,rfl,aU.fresh hk ki (λk ⟨a,ha,hk⟩=>by rw[hk];exact hb a ha),?_,λb bW=>?_⟩
  ·rw[List.range_succ,HA];simpa using hv2
  ·rcases QM with e|⟨b',e,cD⟩
   ·exact hb b (by rw[<-e];exact bW)
   ·rw[e] at bW;cases bW;have:=hk.size;omega
 ·have JJ:i=n:=aB;subst JJ;rw[Ak h.ok] at hv;exact hQ s w' hv hk hb
def ER{q:List It}(h:q.Nodup)(h1:Dp q){n:Nat}(hb:∀x∈q,0<=x.id/\x.id<n):q.length<=n:=by
 have:(q.map (·.id)).Nodup:=List.pairwise_map.2 (List.Pairwise.imp_of_mem (λ{x y} hx hy hn e=>hn (h1 x hx y hy e)) h);have:=xR this λv hv=>by obtain⟨x,hx,rfl⟩:=mQ.1 hv;exact hb x hx
 simpa using this
def RX{N:nI}{n:Nat}{l:List bP}{v:Int}{w:aH}{Q:Bool->aH->Prop}(h:lP w N n l)(hQ:∀r:Bool,(r=true↔0<=v/\v<n)->Q r w):tP (some ⟨N.g,0,none⟩) v w Q:=by
 unfold tP;refine aI (λh0=>?_) (λh0=>hQ false (by simp;omega));exact RT h (hQ _ (by simp;omega))
def seek_i{N:nI}{n:Nat}{L:List bP}{a c:Int}{done:Value}{W:aH}{Q:aH->Prop}(hN:lP W N n L)(ha:0<=a)(mY:a<n){D:Nat->Prop}{C:Nat->aH->Prop}{stop:Nat->Bool}
  (hD:∀k,D k->k<W.heap.size) (hND:∀k,N.dI k->¬D k) (h0:C 0 W)
  (jg:∀k w1 w2,C k w1->aU (λb=>W.heap.size<=b) w1 w2->C k w2)
  (hcall:∀(k:Nat) (x:It) w1 (K:WQ Value),C k w1->(eX n L c a)[k]? =some x->(∀w2,C (k+1) w2->aU D w1 w2->K (.bool (stop k)) w2)->lX prog done [aD x.id,aD x.key] w1 K)
  (hQ:∀m w',C m w'->aU D W w'->m<=(eX n L c a).length->(∀j,j+1<m->stop j=false)->((m=(eX n L c a).length/\∀j,j<m->stop j=false)\/∃j,m=j+1/\stop j=true)->Q w'):wP (some ⟨N.g,0,none⟩) a c done W Q:=by
 unfold wP;have hL:=hN.ok;have hn:=hN.sz;simp only[aG];have k1:=aL.alloc W (.cells #[Value.slice none 0 0,Value.map none] 202);have o1:cX (W.alloc (.cells #[Value.slice none 0 0,Value.map none] 202)) W.heap.size wv [aW bD,.map none]:=cX.jA W _ _;have s1:(W.alloc (.cells #[Value.slice none 0 0,Value.map none] 202)).heap.size=W.heap.size+1:=by simp
 generalize W.alloc (.cells #[Value.slice none 0 0,Value.map none] 202)=w1 at*;generalize hB:W.heap.size=B at*;have hH1:sE w1 ⟨B,B,bD⟩ []:=.inr ⟨rfl,rfl,rfl,o1⟩;refine rN (ek:=FQ) (kn:=.c .bool) λhm k2=>?_;have s2:(w1.alloc (.map #[] 0)).heap.size=w1.heap.size+1:=by simp
 have hH2:=hH1.aO k2;generalize w1.alloc (.map #[] 0)=w2 at*;have rB:B<=w1.heap.size:=aB;have rH:∀k,HS.dI ⟨B,B,bD⟩ k->k=B:=by
  rintro k (h|h|⟨a,ha,_⟩)
  ·exact h
  ·exact h
  ·cases ha
 generalize hr:w1.heap.size=r at*;have newD:∀{F:Nat->Prop} {wa wb:aH},aU D W wa->aU F wa wb->(∀k,F k->B<=k)->aU D W wb:=λma mb hF=>ma.trans mb λk hk GS=>absurd (hF k GS) aB;have M2:aU D W w2:=(k1.wk).tr k2.wk;have C2:C 0 w2:=jg 0 _ _ h0 ((k1.wk).tr k2.wk);refine Ac hH2 dP λw3 H3 h3 g3 m3 f3=>?_;have hp0:(oM [] a 0).1=[⟨a,0⟩]:=rfl;rw[hp0] at h3;have m3B:∀k,HS.dI ⟨B,B,bD⟩ k->B<=k:=λk hk=>by rw[rH k hk];exact dN _
 have M3:=newD M2 m3 m3B;have C3:=jg 0 _ _ C2 (m3.mono λk _ hk=>m3B k hk);have hm3:=hm.aK m3 λhk=>by have:=rH r hk;omega
 have hg3:H3.g=B:=g3;have fB:∀k,H3.dI k->B<=k/\k≠r:=λk hk=>(f3 k hk).elim (λh=>by rw[rH k h];exact⟨dN _,aB⟩) λh=>⟨aB,aB⟩;refine bK (λEu t w4=>∃(k:Nat) (H:HS) (nm:Nat),Eu=n+1-k/\k<=n/\(kJ L c a k).2.length=k/\pC w4 H (kJ L c a k).1/\H.g=B/\(∀b,H.dI b->B<=b/\b≠r)/\
   kT w4 r FQ (.c .bool) (λv=>if xH (kJ L c a k).2 v then some true else none) nm/\C k w4/\aU D W w4/\(∀j,j<k->stop j=false)) (n+1)
  ⟨0,H3,0,rfl,cY _,rfl,h3,hg3,fB,hm3.congr (λv=>rfl) rfl,C3,M3,λj hj=>aB⟩ ?_
 rintro Eu t w4 ⟨k,H,nm,rfl,hkn,hkl,h4,hg4,fB4,hm4,C4,M4,vO⟩ X hX;have WG:=yK hL c ha mY k;have MA:=run_eq hL c ha mY k;have xy:=run_eq hL c ha mY (k+1);have Yh:kJ L c a (k+1)=HH L c (kJ L c a k):=rfl;rw[<-hg4];refine yh (.inl h4) ?_;cases hq:(kJ L c a k).1 with
 |nil=>
  refine aI (λh=>by simp at h) (λ_=>?_);have gL:(eX n L c a).length=k:=by
   have h1:=NZ hL c ha mY;rcases Nat.lt_or_ge k (eX n L c a).length with cD|kF
   ·have e1:(kJ L c a (k+1)).2=(kJ L c a k).2:=by
     rw[Yh];unfold HH;rw[hq]
    rw[e1,MA] at xy;have:=congrArg List.length xy;simp only[rA] at this;omega
   ·have:=congrArg List.length MA;simp only[rA] at this;omega
  exact hQ k w4 C4 M4 aB (λj hj=>vO j aB) (.inl ⟨gL.symm,vO⟩)
 |cons x q=>
  refine aI (λ_=>?_) (λh=>absurd (by simp only[mH];omega) h);rw[hq] at h4 WG;have hxb:=WG.iF x dP;have ya:q.length<=n:=by have:=ER (mN h4.sY) h4.one (n:=n) λy hy=>(WG.iF y (by simp[hy])).2.2;simp at this;omega
  have hkq:k<n:=by have:=WG.len_q;omega
  have hst1:(kJ L c a (k+1))=(qQ c ((kJ L c a k).2++[x]) x.key q (eN L x.id),(kJ L c a k).2++[x]):=by rw[Yh];unfold HH;rw[hq]
  have Bi:(eX n L c a)[k]? =some x:=by
   rw[hst1] at xy;have:((eX n L c a).take (k+1))[k]? =some x:=by rw[<-xy,Gv aB,hkl];simp
   rwa[WC (Nat.lt_succ_self k)] at this
  refine Pop_i h4 aB λw6 H6 h6 g6 f6 m6=>?_;have m6B:∀b,H.dI b->B<=b:=λb hb=>(fB4 b hb).1;have M6:=newD M4 m6 m6B;have C6:=jg k _ _ C4 (m6.mono λb _ hb=>m6B b hb);have hm6:=hm4.aK m6 λhb=>(fB4 r hb).2 rfl;have fB6:∀b,H6.dI b->B<=b/\b≠r:=λb hb=>fB4 b ((f6 b).1 hb);refine XM (kn:=.c .bool) YG lV hm6 x.id true λw7 hm7 m7 _=>?_;have h7:=h6.aK m7 λb hb e=>(fB6 b hb).2 e;have M7:=newD M6 m7 λb e=>by rw[show b=r from e];exact rB
  have C7:=jg k _ _ C6 (m7.mono λb _ e=>by rw[show b=r from e];exact rB);have hm7':kT w7 r FQ (.c .bool) (λv=>if xH ((kJ L c a k).2++[x]) v then some true else none) _:=hm7.congr (λv=>by
   show(if xH ((kJ L c a k).2++[x]) v then some true else none)=if v=x.id then some true else if xH (kJ L c a k).2 v then some true else none
   unfold xH;rw[List.any_append]
   by_cases e:v=x.id
   ·subst e;simp
   ·have:¬x.id=v:=λe'=>e e'.symm;simp[e,this]) rfl
  refine hcall k x w7 _ C7 Bi λw8 C8 m8=>⟨stop k,rfl,?_⟩;have M8:aU D W w8:=M7.tr m8;have hDB:∀b,D b->b<B:=hD;have h8:=h7.aK m8 λb hb hd=>by have:=(fB6 b hb).1;have:=hDB b hd;omega
  have hm8:=hm7'.aK m8 λhd=>by have:=hDB r hd;omega
  cases hsk:stop k with
  |true=>refine aF (λ_=>?_) (λh=>by simp at h);have:=(eR.1 Bi).1;exact hQ (k+1) w8 C8 M8 aB (λj hj=>vO j aB) (.inr ⟨k,rfl,hsk⟩)
  |false=>
   refine aF (λh=>by simp at h) (λ_=>?_);refine Yq (hN.aK M8 hND) λs9 w9 v9 k9 f9=>?_;have M9:aU D W w9:=M8.tr k9.wk;have C9:=jg _ _ _ C8 k9.wk;have h9:=h8.aK k9 λ_ _=>id;have hm9:=hm8.aK k9 id;have hw8:B<=w8.heap.size:=hB▸M8.size;have sl9:=v9.len;have fr9:∀b,s9.b=some b->¬H6.dI b.block/\b.block≠r/\b.block<w9.heap.size/\B<=b.block:=λb hb=>by
    have h1:=f9 b hb;exact⟨λh=>by have:=h8.lt h;omega,λe=>by have:=hm8.lt;omega,v9.lt hb,aB⟩
   have hol:=hL.wF x.id;refine bK (λEu t fG=>∃(i:Nat) (H':HS),i<=(eN L x.id).length/\Eu=(eN L x.id).length-i/\t=((i:Int),())/\pC fG H' (qQ c ((kJ L c a k).2++[x]) x.key q ((eN L x.id).take i))/\H'.g=B/\(∀b,H'.dI b->B<=b/\b≠r)/\
     (∀b,s9.b=some b->¬H'.dI b.block)/\(∃nm',kT fG r FQ (.c .bool) (λv=>if xH ((kJ L c a k).2++[x]) v then some true else none) nm')/\C (k+1) fG/\aU D W fG/\dE fG iI 4 dY s9 (eN L x.id)) (eN L x.id).length
    ⟨0,H6,cY _,rfl,rfl,by simpa [qQ] using h9,g6.trans hg4,fB6,λb hb=>(fr9 b hb).1,⟨_,hm9⟩,C9,M9,v9⟩ ?_
   rintro Eu t fG ⟨i,H',hi,rfl,rfl,ZI,g10,fB10,fs10,⟨nm',hm10⟩,C10,M10,v10⟩ Y hY;dsimp only;refine aI (λcD=>?_) (λkF=>?_)
   ·have dL:i<(eN L x.id).length:=aB;refine⟨⟨aB,aB⟩,?_⟩;obtain⟨p,hp,hh⟩:=wC (v10.rd jS) (cL dL);have gG:=oF dL;have tk:=cu c ((kJ L c a k).2++[x]) x.key q ((eN L x.id).take i) ((eN L x.id)[i]);rw[<-oH dL] at tk;generalize (eN L x.id)[i]=e at*;obtain⟨heL,hef⟩:=fD.1 gG;obtain⟨_,_,et0,et1,_,ew0,ew1,_⟩:=hL.vQ e heL;refine aA hp (aZ (nY e) hh ?_);simp only[aG];have kA:=aL.alloc fG (.cells #[aD 0,aD 0,aD 0,aD 0] 128);have oA:cX (fG.alloc (.cells #[aD 0,aD 0,aD 0,aD 0] 128)) fG.heap.size 128 (dY ⟨0,0,0,0⟩):=cX.jA fG _ _;generalize fG.alloc (.cells #[aD 0,aD 0,aD 0,aD 0] 128)=wA at*;refine DN (x:=e) oA rfl λeO Em Lu=>?_;have GQ:aL fG eO:=aU.fresh kA Lu λb hb=>aB;have Gj:=ZI.aK GQ λ_ _=>id;have hm12:=hm10.aK GQ id;have C12:=jg _ _ _ C10 GQ.wk;have M12:aU D W eO:=M10.tr GQ.wk;have Dc:=v10.aK GQ λ_ _=>id;have c1:eO.cell? ((⟨fG.heap.size,0,none⟩:Addr).add 1)=some (aD e.t):=by rw[aS,Em.cell];rfl
    have c2:eO.cell? ((⟨fG.heap.size,0,none⟩:Addr).add 2)=some (aD e.w):=by rw[aS,Em.cell];rfl
    have wi:aQ ((i:Int)+1)=((i+1:Nat):Int):=by rw[iH aB aB];rfl
    have skip:(e.t=c\/xH ((kJ L c a k).2++[x]) e.t=true)->Y (aQ ((i:Int)+1),()) eO:=λhc=>by
     rw[wi];exact hY _ _ _ aB ⟨i+1,H',dL,rfl,rfl,by rw[tk,if_pos hc];exact Gj,g10,fB10,fs10,⟨_,hm12⟩,C12,M12,Dc⟩
    refine aE (k:=.i) e.t c1 ?_;refine aF (λgQ=>?_) (λheq=>skip (.inl (by simpa using heq)));have ZO:e.t≠c:=by simpa using gQ
    refine aE (k:=.i) e.t c1 ?_;refine BZ (kn:=.c .bool) YG lV (z:=false) Pd hm12 e.t ?_;cases JJ:xH ((kJ L c a k).2++[x]) e.t with
    |true=>exact aF (λh=>by cases h) (λ_=>skip (.inr JJ))
    |false=>
     refine aF (λ_=>?_) (λh=>by cases h);refine aE (k:=.i) e.t c1 (aE (k:=.i) e.w c2 ?_);have uK:x.key<=512*1099511627776:=by omega
     rw[iH (n:=x.key+e.w) aB aB];have hpl:(qQ c ((kJ L c a k).2++[x]) x.key q ((eN L x.id).take i)).length<=n:=by
      refine ER (mN ZI.sY) ZI.one λy hy=>?_;have hq1:=List.pairwise_cons.1 WG.sY;have jL:Dp q:=λu hu v hv=>WG.one u (by simp[hu]) v (by simp[hv]);rcases(PI (c:=c) (s:=(kJ L c a k).2++[x]) (d:=x.key) (l:=(eN L x.id).take i) hq1.2 jL).2.2.1 y hy with ke|⟨e',vI,_,_,rfl⟩
      ·exact(WG.iF y (by simp[ke])).2.2
      ·have:=hL.vQ e' (fD.1 (List.mem_of_mem_take vI)).1;exact⟨this.2.2.1,this.2.2.2.1⟩
     rw[hg4,<-g10];refine Ac (.inl Gj) aB λmX H14 h14 g14 ZF f14=>?_;have m14B:∀b,H'.dI b->B<=b:=λb hb=>(fB10 b hb).1;have hr12:=hm12.lt;rw[wi];refine hY _ _ _ aB ⟨i+1,H14,dL,rfl,rfl,?_,by rw[g14,g10],λb hb=>?_,λb hb h=>?_,⟨_,hm12.aK ZF λh=>(fB10 r h).2 rfl⟩,jg _ _ _ C12 (ZF.mono λb _ hb=>m14B b hb),newD M12 ZF m14B,Dc.aK ZF λb hb h=>fs10 b hb h⟩
     ·rw[tk,if_neg (λh=>h.elim ZO λh=>by rw[JJ] at h;cases h)];exact h14
     ·rcases f14 b hb with h|h
      ·exact fB10 b h
      ·exact⟨aB,aB⟩
     ·rcases f14 _ h with h|h
      ·exact fs10 b hb h
      ·have:=Dc.lt hb;omega
   ·have e:i=(eN L x.id).length:=aB;subst e;rw[oV] at ZI;refine hX (n+1-(k+1)) _ _ aB ⟨k+1,H',_,rfl,aB,by rw[hst1];simp[hkl],by rw[hst1];exact ZI,g10,fB10,by rw[hst1];exact hm10,C10,M10,λj hj=>?_⟩;rcases Nat.lt_or_ge j k with h|h
    ·exact vO j h
    ·have:j=k:=aB;rw[this];exact hsk
def iK{w:aH}{g:Nat}{e:fL}{v:Value}(h:cX w g e [v]):w.cell? ⟨g,0,none⟩=some v:=by rw[h.cell];rfl
def Find_c1_i{b1 b2 b3 b4:Nat}{v d to fF st:Int}{fd:Bool}{w:aH}{K:Bool->aH->Prop}(o1:cX w b1 dA [aD to])(o2:cX w b2 dA [aD fF])(o3:cX w b3 dA [aD st])(o4:cX w b4 tK [.bool fd])
  (h1:b1≠b3) (h2:b2≠b3) (h3:b3≠b4) (h4:b1≠b4) (h5:b2≠b4) (vO:-1000000<st/\st<2000000)
  (hK:∀w',cX w' b1 dA [aD to]->cX w' b2 dA [aD fF]->cX w' b3 dA [aD (st-1)]->cX w' b4 tK [.bool (decide (v=to) && decide (d<=fF))]->aU (λb=>b=b3\/b=b4) w w'->K (decide (v=to) ||decide (st-1=0)) w'):
  nU v d (some ⟨b3,0,none⟩) (some ⟨b1,0,none⟩) (some ⟨b2,0,none⟩) (some ⟨b4,0,none⟩) w K:=by
 unfold nU;refine aA rfl (aE (k:=.i) st (iK o3) (aA rfl ?_));rw[iH aB aB];refine cJ o3 cV dP rfl rfl λw1 p3 m1 _=>?_;have p1:=o1.aK m1 h1;have p2:=o2.aK m1 h2;have p4:=o4.aK m1 (Ne.symm h3);have p3':cX w1 b3 dA [aD (st-1)]:=p3;refine aA rfl (aE (k:=.i) to (iK p1) ?_);refine aF (λhe=>?_) (λhe=>?_)
 ·have vI:v=to:=by simpa using he
  refine aA rfl (aE (k:=.i) fF (iK p2) (aA rfl ?_));refine cJ p4 jG dP rfl rfl λw2 q4 m2 _=>?_;refine aA rfl (aE (k:=.i) to (iK (p1.aK m2 h4)) ?_);refine aF (λ_=>?_) (λh=>by rw[he] at h;cases h);have:=hK w2 (p1.aK m2 h4) (p2.aK m2 h5) (p3'.aK m2 h3) (by simpa [vI] using q4) ((m1.mono λb _ h=>.inl h).tr (m2.mono λb _ h=>.inr h));simpa [vI] using this
 ·have vI:v≠to:=by simpa using he
  refine aA rfl ?_;refine cJ p4 jG dP rfl rfl λw2 q4 m2 _=>?_;refine aA rfl (aE (k:=.i) to (iK (p1.aK m2 h4)) ?_);refine aF (λh=>by rw[he] at h;cases h) (λ_=>?_);refine aA rfl (aE (k:=.i) (st-1) (iK (p3'.aK m2 h3)) ?_);have:=hK w2 (p1.aK m2 h4) (p2.aK m2 h5) (p3'.aK m2 h3) (by simpa [vI] using q4) ((m1.mono λb _ h=>.inl h).tr (m2.mono λb _ h=>.inr h));have e:(decide (v=to) ||decide (st-1=0))=((st-1:Int)==(0:Int)):=by rw[Bool.eq_iff_iff];simp[vI]
  rw[e] at this;exact this
def Find_i{N:nI}{n:Nat}{L:List bP}{a to c fF fR:Int}{w:aH}{Q:Bool->aH->Prop}(h:lP w N n L)(hs:fR<1000000)(hQ:∀w',aL w w'->Q (QO n L a to c fF fR) w'):
  wQ (some ⟨N.g,0,none⟩) a to c fF fR w Q:=by
 unfold wQ;simp only[aG];have k1:=aL.alloc w (.cells #[aD to] 3);have o1:cX (w.alloc (.cells #[aD to] 3)) w.heap.size dA [aD to]:=cX.jA w _ _;have z1:(w.alloc (.cells #[aD to] 3)).heap.size=w.heap.size+1:=by simp
 generalize w.alloc (.cells #[aD to] 3)=w1 at*;have k2:=aL.alloc w1 (.cells #[aD fF] 3);have o2:cX (w1.alloc (.cells #[aD fF] 3)) w1.heap.size dA [aD fF]:=cX.jA w1 _ _;have z2:(w1.alloc (.cells #[aD fF] 3)).heap.size=w1.heap.size+1:=by simp
 generalize w1.alloc (.cells #[aD fF] 3)=w2 at*;have k3:=aL.alloc w2 (.cells #[aD fR] 3);have o3:cX (w2.alloc (.cells #[aD fR] 3)) w2.heap.size dA [aD fR]:=cX.jA w2 _ _;have z3:(w2.alloc (.cells #[aD fR] 3)).heap.size=w2.heap.size+1:=by simp
 generalize w2.alloc (.cells #[aD fR] 3)=w3 at*;have k4:=aL.alloc w3 (.cells #[Value.bool false] 4);have o4:cX (w3.alloc (.cells #[Value.bool false] 4)) w3.heap.size tK [.bool false]:=cX.jA w3 _ _;have z4:(w3.alloc (.cells #[Value.bool false] 4)).heap.size=w3.heap.size+1:=by simp
 generalize w3.alloc (.cells #[Value.bool false] 4)=w4 at*;have p3:=o3.aK k4 id;have p2:=(o2.aK k3 id).aK k4 id;have p1:=((o1.aK k2 id).aK k3 id).aK k4 id;have K4:aL w w4:=((k1.tr k2).tr k3).tr k4;have h4:=h.aO K4;generalize VR:w.heap.size=b1 at*;generalize QM:w1.heap.size=b2 at*;generalize kr:w2.heap.size=b3 at*;generalize hb4:w3.heap.size=b4 at*;have no:∀{w':aH},aL w w'->cX w' b4 tK [.bool false]->QO n L a to c fF fR=false->aJ prog tK ⟨b4,0,none⟩ (.bool false) w' λOb=>ZA .bool Ob ⟨b4,0,none⟩ λb=>Q b Ob:=λ{w'} k o hf=>by
  refine cJ o jG dP rfl rfl λOb o'' m'' _=>?_;refine aE (k:=.bool) false (iK o'') ?_;rw[<-hf];exact hQ Ob (k.fresh m'' λb e=>by rw[show b=b4 from e];omega)
 refine RX h4 λr1 uu=>?_;refine aF (λhb=>no K4 o4 ?_) (λhb=>?_)
 ·unfold QO;have:¬(0<=a/\a<n):=λh=>by rw[uu.2 h] at hb;cases hb
  simp only[this,decide_false,Bool.false_and]
 have ha:=uu.1 (by cases r1<;>simp at hb ⊢);refine aE (k:=.i) to (iK p1) ?_;refine RX h4 λr2 Bj=>?_;refine aF (λhb=>no K4 o4 ?_) (λhb=>?_)
 ·unfold QO;have:¬(0<=to/\to<n):=λh=>by rw[Bj.2 h] at hb;cases hb
  simp only[this,decide_false,Bool.false_and,Bool.and_false]
 have ht:=Bj.1 (by cases r2<;>simp at hb ⊢);refine aF (λhe=>no K4 o4 ?_) (λgQ=>?_)
 ·have:a=c:=by simpa using he
  unfold QO;simp[this]
 have hac:a≠c:=by simpa using gQ
 refine aE (k:=.i) fR (iK p3) ?_;have e0:QO n L a to c fF fR=fndB (eX n L c a) to fF fR:=by unfold QO;rw[decide_eq_true ha,decide_eq_true ht,decide_eq_true hac];rfl
 refine aI (λcD=>no K4 o4 ?_) (λkF=>?_)
 ·rw[e0];unfold fndB;rw[show fR.toNat=0 by omega];rfl
 have hnl:=h4.sz;have RA:=NZ h4.ok c ha.1 ha.2;refine seek_i h4 ha.1 ha.2 (D:=λb=>b=b3\/b=b4)
  (C:=λk w'=>k<=n/\cX w' b1 dA [aD to]/\cX w' b2 dA [aD fF]/\cX w' b3 dA [aD (fR-k)]/\cX w' b4 tK [.bool (Tj (eX n L c a) to fF k)])
  (stop:=WM (eX n L c a) to fR) (λb hb=>aB) (λb hb hd=>by have:=h.at_.lt hb;omega) ⟨cY _,p1,p2,by simpa using p3,o4⟩
  (λk wa wb ⟨hk,q1,q2,q3,q4⟩ m=>⟨hk,q1.aK m aB,q2.aK m aB,q3.aK m aB,q4.aK m aB⟩) ?_ ?_
 ·intro k x wa K ⟨hk,q1,q2,q3,q4⟩ hx hK;have hkl:=(eR.1 hx).1;refine pU YW iZ (first:=#[]) (gV (ks:=[.i,.i,.c .ptr,.c .ptr,.c .ptr,.c .ptr]) (t:=(x.id,x.key,some ⟨b3,0,none⟩,some ⟨b1,0,none⟩,some ⟨b2,0,none⟩,some ⟨b4,0,none⟩,())) ?_)
  show nU x.id x.key (some ⟨b3,0,none⟩) (some ⟨b1,0,none⟩) (some ⟨b2,0,none⟩) (some ⟨b4,0,none⟩) wa λr w'=>K (.bool r) w';refine Find_c1_i q1 q2 q3 q4 aB aB aB aB aB ⟨aB,aB⟩ λwb r1 r2 r3 r4 m=>?_;have e1:(decide (x.id=to) ||decide (fR-(k:Int)-1=0))=WM (eX n L c a) to fR k:=by
   unfold WM;rw[hx];have:decide (fR-(k:Int)-1=0)=decide (fR=(k:Int)+1):=by apply decide_eq_decide.2;omega
   simp only[this]
  rw[e1];refine hK wb ⟨aB,r1,r2,?_,?_⟩ m
  ·have:fR-(k:Int)-1=fR-((k+1:Nat):Int):=aB;rw[<-this];exact r3
  ·have:Tj (eX n L c a) to fF (k+1)=(decide (x.id=to) && decide (x.key<=fF)):=by rw[OD,hx]
   rw[this];exact r4
 ·intro m eQ ⟨hk,q1,q2,q3,q4⟩ Lv jc vO hend;have Ig:=found_end (fF:=fF) (cr h4.ok c ha.1 ha.2) (Nd h4.ok c ha.1 ha.2) aB jc vO hend;rw[Ig] at q4;refine aE (k:=.bool) _ (iK q4) ?_;refine cJ q4 jG dP rfl rfl λeO Em Lu _=>?_;refine aE (k:=.bool) _ (iK Em) ?_;rw[<-e0];exact hQ eO ((K4.fresh Lv λb hb=>aB).fresh Lu λb e=>by rw[show b=b4 from e];omega)
abbrev eSl(s:Sl):gJ:=[aW s]
def Ki{w:aH}{e:fL}{g n:Nat}{xs:List Sl}(h:dE w e 1 eSl ⟨some ⟨g,0,none⟩,n,n⟩ xs):cX w g e (xs.map aW):=by
 rcases h.gZ with⟨h0,_⟩|⟨g',cO,hb,ho,hl⟩
 ·cases h0
 ·have:g'=g:=by cases hb;rfl
  subst this;have gL:=h.len;have hf:xs.flatMap eSl=xs.map aW:=by
   clear ho hl hb h gL
   induction xs with
   |nil=>rfl
   |cons x r ih=>simp[FU,ih]
  have hr:cO=[]:=by rw[fN,hf,lT] at hl;apply Mq;have:n=xs.length:=gL;simp only at hl;omega
  rw[hr,rF,hf] at ho;exact ho
def init_i{w:aH}{n go gi:Nat}(hn:n<=512)(h1:cX w go EI ((List.replicate n (bD:Sl)).map aW))(h2:cX w gi EI ((List.replicate n (bD:Sl)).map aW))(gQ:go≠gi):
  lP (w.alloc (.cells #[aW ⟨some ⟨go,0,none⟩,n,n⟩,aW ⟨some ⟨gi,0,none⟩,n,n⟩] tNet)) ⟨w.heap.size,go,gi,List.replicate (n+n) bD⟩ n []:=by
 have k:=aL.alloc w (.cells #[aW ⟨some ⟨go,0,none⟩,n,n⟩,aW ⟨some ⟨gi,0,none⟩,n,n⟩] tNet);have l1:=h1.lt;have l2:=h2.lt;have nil:∀(i:Nat) (s:Sl),(List.replicate (n+n) (bD:Sl))[i]? =some s->s=bD:=λi s hs=>by
  rw[Gt] at hs
  split at hs
  ·exact(uI hs).symm
  ·cases hs
 refine⟨⟨cX.jA w _ _,?_,?_,by simp,?_,?_,?_,?_⟩,sL.nil n,hn⟩
 ·have:(List.replicate (n+n) (bD:Sl)).take n=List.replicate n bD:=by simp
  rw[this];exact h1.aK k id
 ·have:(List.replicate (n+n) (bD:Sl)).drop n=List.replicate n bD:=by simp
  rw[this];exact h2.aK k id
 ·intro i s hs;rw[nil i s hs];have:kN n [] i=[]:=by simp[kN,eN,oL]
  rw[this];exact dE.nil _ _ _ _
 ·intro i s a hs ha;rw[nil i s hs] at ha;cases ha
 ·intro i j s u a b hs _ ha _ _;rw[nil i s hs] at ha;cases ha
 ·exact⟨λe:w.heap.size=go=>aB,λe:w.heap.size=gi=>aB,gQ⟩
def New_i{n:Int}{s:Sl}{xs:List bP}{w:aH}{Q:cW->Int->aH->Prop}(hr:Rd w s 4 dY xs)(gL:xs.length<1099511627776)
  (TY:∀w',aL w w'->¬(0<=n/\n<=512/\∀a∈xs,FT n.toNat a)->Q none 1 w')
  (oS:∀w' N,0<=n->n<=512->(∀a∈xs,FT n.toNat a)->lP w' N n.toNat (iC n.toNat [] xs)->aL w w'->(∀k,N.dI k->w.heap.size<=k)->Q (some ⟨N.g,0,none⟩) 0 w'):IK n s w Q:=by
 unfold IK;have hl:=hr.len;refine aI (λh=>TY w (aU.refl _ _) aB) (λh0=>?_);refine aI (λh=>TY w (aU.refl _ _) aB) (λh1=>?_);obtain⟨m,rfl⟩:∃m:Nat,n=(m:Int):=⟨n.toNat,aB⟩;have hm:m<=512:=aB;simp only[dU] at TY oS;intro J hJ;have main:∀w1 N,lP w1 N m []->aL w w1->(∀k,N.dI k->w.heap.size<=k)->J (some ⟨N.g,0,none⟩,()) w1:=by
  intro w1 N hN hk hfr;apply hJ;refine bK (λc t w2=>∃(i:Nat) (N2:nI),i<=xs.length/\c=xs.length-i/\t=((i:Int),())/\lP w2 N2 m (iC m [] (xs.take i))/\N2.g=N.g/\aL w w2/\(∀k,N2.dI k->w.heap.size<=k)/\(∀a∈xs.take i,FT m a)) xs.length
   ⟨0,N,cY _,rfl,rfl,by simpa [iC] using hN,rfl,hk,hfr,by simp⟩ ?_
  rintro c t w2 ⟨i,N2,hi,rfl,rfl,hN2,hg,GS,hfr2,tH⟩ X hX;dsimp only;refine aI (λcD=>?_) (λkF=>?_)
  ·have dL:i<xs.length:=aB;refine⟨⟨aB,aB⟩,?_⟩;obtain⟨a,ha,hh⟩:=wC (hr.aK GS XG (λ_ _=>id)) (cL dL);refine aA ha (aZ (nY xs[i]) hh ?_);simp only[aG];have k3:=aL.alloc w2 (.cells #[aD 0,aD 0,aD 0,aD 0] 128);have o3:cX (w2.alloc (.cells #[aD 0,aD 0,aD 0,aD 0] 128)) w2.heap.size 128 (dY ⟨0,0,0,0⟩):=cX.jA w2 _ 128;generalize w2.alloc (.cells #[aD 0,aD 0,aD 0,aD 0] 128)=w3 at*;refine DN o3 rfl λw4 o4 m4=>?_;have k4:aL w2 w4:=aU.fresh k3 m4 λk hk=>aB;have hN4:=hN2.aO k4;refine aZ (nY xs[i]) (iW o4) ?_;rw[<-hg];refine may_i hN4.at_.head λw5 r k5 hrm=>?_;have hN5:=hN4.aO k5;have o5:=o4.aK k5 id;have k25:=k4.tr k5;refine aF (λhb=>?_) (λhb=>?_)
   ·refine TY w5 (GS.tr k25) λ⟨_,_,rI⟩=>?_;rw[hrm.2 (rI _ (oF dL))] at hb;cases hb
   ·have hma:FT m xs[i]:=hrm.1 (by cases r<;>simp at hb ⊢);refine aZ (nY xs[i]) (iW o5) ?_;refine Put_i hN5 λw6 N6 hN6 hg6 m6 hf6=>?_;rw[iH aB aB];refine hX (xs.length-(i+1)) _ _ aB ⟨i+1,N6,dL,rfl,rfl,?_,by rw[hg6,hg],aU.fresh (GS.tr k25) m6 hfr2,λk hk=>?_,?_⟩
    ·rw[oH dL,OA];exact hN6
    ·rcases hf6 k hk with h|h
     ·exact hfr2 k h
     ·have:=GS.size;have:=k25.size;omega
    ·rw[oH dL];intro x hx;rcases kK.1 hx with hx|hx
     ·exact tH x hx
     ·simp at hx;subst hx;exact hma
  ·have dL:i=xs.length:=aB;subst dL;rw[oV] at hN2 tH;rw[<-hg];exact oS w2 N2 aB aB tH hN2 GS hfr2
 have kd:aL w w.drew:=aU.drew (aU.refl _ w);have both:∀{K:aH->Sl->Sl->Prop},(∀w8 g1 g2,cX w8 g1 EI ((List.replicate m (bD:Sl)).map aW)->cX w8 g2 EI ((List.replicate m (bD:Sl)).map aW)->g1≠g2->aL w w8->w.heap.size<=g1->w.heap.size<=g2->K w8 ⟨some ⟨g1,0,none⟩,m,m⟩ ⟨some ⟨g2,0,none⟩,m,m⟩)->
   fE prog tssArc (aD (m:Int)) (aD (m:Int)) w.drew λs1 w7=>fE prog tssArc (aD (m:Int)) (aD (m:Int)) w7 λs2 w8=>K w8 s1 s2:=by
  intro K hK;refine wD Ko (aY:=eSl) bD rfl (λ_=>rfl) aB (lR _) aB aB λw7 hv7 k7=>?_;refine wD Ko (aY:=eSl) bD rfl (λ_=>rfl) aB (lR _) aB aB λw8 hv8 k8=>?_;have hv7':=hv7.aK k8 (λ_ _=>id);have cD:w.drew.heap.size<w7.heap.size:=hv7.lt rfl;exact hK w8 _ _ (Ki hv7') (Ki hv8) aB ((kd.tr k7).tr k8) (dN _) (jB kd.size k7.size)
 have fr:∀(w8:aH) (g1 g2:Nat),w.heap.size<=g1->w.heap.size<=g2->aL w w8->∀k,(⟨w8.heap.size,g1,g2,List.replicate (m+m) bD⟩:nI).dI k->w.heap.size<=k:=by
  intro w8 g1 g2 h1 h2 hk k hh;rcases hh with h|h|h|⟨i,s,a,hs,ha,_⟩
  ·rw[h];exact hk.size
  ·rw[h];exact h1
  ·rw[h];exact h2
  ·rw[Gt] at hs
   split at hs
   ·cases hs;cases ha
   ·cases hs
 refine⟨both λw8 g1 g2 h1 h2 gQ hk hg1 Bk=>?_,both λw8 g1 g2 h1 h2 gQ hk hg1 Bk=>?_⟩
 ·exact main _ ⟨w8.heap.size,g1,g2,List.replicate (m+m) bD⟩ (init_i hm h1 h2 gQ) (aU.alloc hk _) (fr w8 g1 g2 hg1 Bk hk)
 ·exact main _ ⟨w8.heap.size,g2,g1,List.replicate (m+m) bD⟩ (init_i hm h2 h1 (Ne.symm gQ)) (aU.alloc hk _) (fr w8 g2 g1 Bk hg1 hk)
def Copy_i{N:nI}{n:Nat}{l:List bP}{w:aH}{Q:cW->aH->Prop}(h:lP w N n l)(hl:l.length<1099511627776)
  (hQ:∀w' N',lP w' N' n l->aL w w'->(∀k,N'.dI k->w.heap.size<=k)->Q (some ⟨N'.g,0,none⟩) w'):IL (some ⟨N.g,0,none⟩) w Q:=by
 unfold IL;have QK:=h.sz;refine aF (λh=>by simp at h) (λ_=>?_);refine RT h (All_i h hl λs w' hv hk hb=>?_);refine New_i (hv.rd jS) hl (λw2 k2 qU=>?_) (λw2 N2 _ _ _ hN2 k2 hfr=>?_)
 ·exact absurd ⟨aB,aB,λa ha=>by simpa using h.ok.vQ a ha⟩ qU
 ·simp only[dU] at hN2;have e:iC n [] l=l:=OB (p:=[]) h.ok;rw[e] at hN2;exact hQ w2 N2 hN2 (hk.tr k2) λk lM=>jB hk.size (hfr k lM)
section
section
variable{N:nI}{n:Nat}{X:Nat->List bP}{v:Int}{w:aH}
def has_at{Q:Bool->aH->Prop}(h:mL w N n X)(hn:n<=512)(hQ:∀r:Bool,(r=true↔0<=v/\v<n)->Q r w):zK (some ⟨N.g,0,none⟩) v w Q:=by
 unfold zK;refine aI (λh1=>?_) (λh1=>hQ _ (by simp;omega));unfold nN;refine aF (λh=>by simp at h) (λ_=>?_);exact aA rfl (aE (k:=.slice) ⟨some ⟨N.go,0,none⟩,n,n⟩ h.c0 (hQ _ (by simp;omega)))
def In_at{Q:Sl->aH->Prop}(h:mL w N n X)(hn:n<=512)(hX:∀j,(X j).length<=512)(hQ:∀s' w',dE w' iI 4 dY s' (if 0<=v/\v<n then X (n+v.toNat) else [])->aL w w'->(∀b,s'.b=some b->w.heap.size<=b.block)->Q s' w'):
  AV (some ⟨N.g,0,none⟩) v w Q:=by
 unfold AV;refine has_at h hn λr hr=>aF (λh1=>?_) (λh1=>?_)
 ·have:¬(0<=v/\v<n):=λhv=>by rw[hr.2 hv] at h1;cases h1
  rw[if_neg this] at hQ;exact hQ _ w (dE.nil _ _ _ _) (aU.refl _ _) (λb hb=>by cases hb)
 ·have hv:=hr.1 (by cases r<;>simp at h1 ⊢);rw[if_pos hv] at hQ;obtain⟨u,rfl⟩:∃u:Nat,v=(u:Int):=⟨v.toNat,aB⟩;refine aA rfl (aE (k:=.slice) ⟨some ⟨N.gi,0,none⟩,n,n⟩ h.c1 ?_);refine⟨⟨aB,by show _<(n:Int);omega⟩,aA rfl ?_⟩;obtain⟨s,hs,AI⟩:=h.MF (show u<n by omega);refine aE (k:=.slice) s AI ?_;have:=hX (n+u);exact Us ((h.row (n+u) s hs).rd jS) aB λs' w' h1 h2 h3=>hQ s' w' h1 h2 h3
end
def OM{l R:List bP}{x:bP}:x∈l.filter (λy=>decide (y∉R))↔x∈l/\x∉R:=by simp
def CL(n:Nat)(l RO RI:List bP)(j:Nat):List bP:=if j<n then(eN l (j:Int)).filter (λy=>decide (y∉RI)) else(oL l ((j:Int)-n)).filter (λy=>decide (y∉RO))
def cutX_len{n:Nat}{l RO RI:List bP}(h:sL n l)(hn:n<=512)(j:Nat):(CL n l RO RI j).length<=512:=by
 unfold CL
 split
 ·have:=xG (λy=>decide (y∉RI)) (eN l (j:Int));have:=h.wF (j:Int);omega
 ·have:=xG (λy=>decide (y∉RO)) (oL l ((j:Int)-n));have:=h.GB ((j:Int)-n);omega
def arc_eq{l:List bP}(h:CO l){x y:bP}(hx:x∈l)(hy:y∈l)(hf:x.f=y.f)(ht:x.t=y.t):x=y:=by
 have h1:=zH h hx;have h2:=zH h hy;rw[hf,ht,h2] at h1;exact(uI h1).symm
def Ck{key:bP->Int}{row R:List bP}{a:bP}(hs:ZK key row)(h1:∀x∈row,x∉R->key x=key a->x=a):
  (row.filter λy=>decide (y∉R)).filter (λy=>decide (key y≠key a))=row.filter λy=>decide (y∉R++[a]):=by
 refine((hs.filter _).filter _).ext (hs.filter _) λx=>?_;simp only[jR,decide_eq_true_eq,kK,mR,not_or]
 constructor
 ·rintro⟨⟨hx,hn⟩,hk⟩;exact⟨hx,hn,λe=>hk (by rw[e])⟩
 ·rintro⟨hx,hn,gQ⟩;exact⟨⟨hx,hn⟩,λhk=>gQ (h1 x hx hn hk)⟩
def Cut_i{N:nI}{n:Nat}{l:List bP}{v:Int}{w:aH}{Q:aH->Prop}(h:lP w N n l)
  (hQ:∀w' N',lP w' N' n (DU l v)->N'.g=N.g->aU N.dI w w'->(∀k,N'.dI k->N.dI k\/w.heap.size<=k)->Q w'):XZ (some ⟨N.g,0,none⟩) v w Q:=by
 unfold XZ;have QK:=h.sz;have oS:=h.ok;refine Yq h λs1 w1 Ep k1 VR=>?_;have h1:=h.aO k1;have r1:=Ep.rd jS;have hX0:kN n l=CL n l [] []:=by
  funext j
  unfold kN CL
  split<;>exact(List.filter_eq_self.2 dP).symm
 have at1:mL w1 N n (CL n l [] []):=by rw[<-hX0];exact h1.at_
 refine bK (λm t w2=>∃(i:Nat) (N2:nI),i<=(eN l v).length/\m=(eN l v).length-i/\t=((i:Int),())/\mL w2 N2 n (CL n l ((eN l v).take i) [])/\N2.g=N.g/\Rd w2 s1 4 dY (eN l v)/\aU N.dI w w2/\(∀k,N2.dI k->N.dI k\/w1.heap.size<=k)/\w1.heap.size<=w2.heap.size) (eN l v).length
  ⟨0,N,cY _,rfl,rfl,by simpa using at1,rfl,r1,k1.wk,λk hk=>.inl hk,dN _⟩ ?_
 rintro m t w2 ⟨i,N2,hi,rfl,rfl,at2,Bk,r2,m2,hf2,z2⟩ X hX;dsimp only;have Og:=Ep.len;have hlenO:=oS.wF v;have Wa:∀b,s1.b=some b->eN l v≠[]->w.heap.size<=b.block/\b.block<w1.heap.size:=λb hb _=>⟨VR b hb,Ep.lt hb⟩;refine aI (λcD=>?_) (λkF=>?_)
 ·have dL:i<(eN l v).length:=aB;refine⟨⟨aB,aB⟩,?_⟩;obtain⟨a0,ha0,hh⟩:=wC r2 (cL dL);generalize hxa:(eN l v)[i]=a at hh;have vj:(eN l v)[i]? =some a:=by rw[<-hxa];exact cL dL
  have gG:a∈eN l v:=kR vj;obtain⟨vt,haf⟩:=fD.1 gG;have hma:=oS.vQ a vt;refine aA ha0 (aZ (nY a) hh ?_);simp only[aG];have k3:=aL.alloc w2 (.cells #[aD 0,aD 0,aD 0,aD 0] 128);have o3:cX (w2.alloc (.cells #[aD 0,aD 0,aD 0,aD 0] 128)) w2.heap.size 128 (dY ⟨0,0,0,0⟩):=cX.jA w2 _ 128;generalize w2.alloc (.cells #[aD 0,aD 0,aD 0,aD 0] 128)=w3 at*;refine DN o3 rfl λw4 o4 m4=>?_;have k4:aL w2 w4:=aU.fresh k3 m4 λk hk=>aB;generalize QM:w2.heap.size=b2 at*;have hb2N:¬N2.dI b2:=λhk=>by have:=at2.lt hk;omega
  obtain⟨u,hu⟩:∃u:Nat,a.t=(u:Int):=⟨a.t.toNat,by have:=hma.2.2.1;omega⟩;have Er:u<n:=by have:=hma.2.2.2.1;omega
  have d4:aL w4 w4.drew:=aU.drew (aU.refl _ w4);have la:∀{w':aH},cX w' b2 128 (dY a)->w'.cell? ((⟨b2,0,none⟩:Addr).add 1)=some (aD (u:Int)):=λho=>by
   rw[aS,ho.cell,<-hu];rfl
  have at4:=(at2.aO k4).aO d4;have o4':=o4.aK d4 id;rw[<-Bk];refine aA rfl (aE (k:=.slice) ⟨some ⟨N2.gi,0,none⟩,n,n⟩ at4.c1 (aE (k:=.i) (u:Int) (la o4') ?_));refine⟨⟨aB,by show _<(n:Int);omega⟩,aA rfl ?_⟩;obtain⟨s3,Dj,hc3⟩:=at4.MF Er;refine aE (k:=.slice) s3 hc3 ?_;have pQ:=at4.row (n+u) s3 Dj;have hXe:∀R,CL n l R [] (n+u)=(oL l a.t).filter (λy=>decide (y∉R)):=λR=>by
   have:¬(n+u<n):=aB;simp only[CL,this,if_false,hu];congr 2;omega
  rw[hXe] at pQ;have mU:ZK bP.f ((oL l a.t).filter (λy=>decide (y∉(eN l v).take i))):=(oS.sY.MF a.t).filter _;have gL:=xG (λy=>decide (y∉(eN l v).take i)) (oL l a.t);have yZ:=oS.GB a.t;have mj:a∉(eN l v).take i:=by
   intro JJ;obtain⟨p,hp⟩:=pJ.1 JJ;have hpi:p<i:=by have:=(eR.1 hp).1;simp at this;omega
   rw[WC hpi] at hp;have:=(oS.sY.out v).get hpi hp vj;omega
  have JJ:a∈(oL l a.t).filter (λy=>decide (y∉(eN l v).take i)):=by rw[OM];exact⟨iO.2 ⟨vt,rfl⟩,mj⟩
  refine aa (pQ.rd jS) mU aB λj fnd w5 k5 qT _=>?_;have d5:aL w5 w5.drew:=aU.drew (aU.refl _ w5);have iv:=(d4.tr k5).tr d5;have ku:=(at2.aO k4).aO iv;have o5:=o4.aK iv id;refine aA rfl (aE (k:=.slice) ⟨some ⟨N2.gi,0,none⟩,n,n⟩ ku.c1 (aE (k:=.i) (u:Int) (la o5) ?_));refine aA rfl (aE (k:=.slice) ⟨some ⟨N2.gi,0,none⟩,n,n⟩ ku.c1 (aE (k:=.i) (u:Int) (la o5) ?_));refine⟨⟨aB,by show _<(n:Int);omega⟩,aA rfl ?_⟩;obtain⟨s6,Of,hc6⟩:=ku.MF Er;rw[Dj] at Of;cases Of;refine aE (k:=.slice) s3 hc6 ?_;have Yi:=ku.row (n+u) s3 Dj;rw[hXe] at Yi;have hj:j<((oL l a.t).filter (λy=>decide (y∉(eN l v).take i))).length:=(eR.1 (qT.qW mU JJ haf)).1;rw[iH (n:=(j:Int)+1) aB aB];refine aq Yi hj aB λs7 w6 hv7 m6 hb7=>?_;have gQ:∀k,(∃b,s3.b=some b/\k=b.block)->N2.dI k:=λk ⟨b,hb,hk⟩=>.inr (.inr (.inr ⟨n+u,s3,b,Dj,hb,hk.symm⟩));have o6:=o5.aK m6 λhk=>hb2N (gQ _ hk);refine⟨la o6,?_,⟨aB,by show _<(n:Int);omega⟩,aA rfl ?_⟩
  ·have:=ku.head.aK m6 λ⟨b,hb,hk⟩=>(ku.sep (n+u) s3 b Dj hb).1 hk.symm;rw[aS,this.cell];rfl
  refine ku.putIn Er Dj hv7 m6 (.inl hb7) λw7 at7 m7 z7=>?_;rw[iH (n:=(i:Int)+1) aB aB];have Si:(λj'=>if j'=n+u then((oL l a.t).filter (λy=>decide (y∉(eN l v).take i))).take j++((oL l a.t).filter (λy=>decide (y∉(eN l v).take i))).drop (j+1) else CL n l ((eN l v).take i) [] j')=CL n l ((eN l v).take (i+1)) []:=by
   funext j'
   rw[List.take_add_one,vj,Option.toList_some]
   split
   ·rename_i he
    subst he;rw[hXe,qT.jm mU JJ haf,<-haf];refine Ck (oS.sY.MF a.t) λx hx _ hk=>?_;obtain⟨DS,ja⟩:=iO.1 hx;exact arc_eq oS.sY DS vt hk ja
   ·rename_i he
    unfold CL
    split
    ·rfl
    ·refine ly3 λx hx=>?_;have:x≠a:=by
      rintro rfl;have:=(iO.1 hx).2;omega
     simp[this]
  rw[Si] at at7;have m27:aU N2.dI w2 w7:=(k4.wk.tr iv.wk).tr m7;refine hX ((eN l v).length-(i+1)) _ _ aB ⟨i+1,_,dL,rfl,rfl,at7,Bk,?_,m2.trans m27 (λk hk GS=>?_),λk hk=>?_,by have:=m27.size;omega⟩
  ·refine r2.aK m27 XG λb hb hk=>?_;have bW:=Wa b hb (by intro e;rw[e] at dL;simp at dL);rcases hf2 _ hk with h'|h'
   ·have:=h.at_.lt h';omega
   ·omega
  ·rcases hf2 k GS with h'|h'
   ·exact h'
   ·have:=k1.size;omega
  ·rcases nI.OZ (N:=N2) (P:=λ_=>False) Dj (λa _=>.inl hb7) hk with h'|h'
   ·exact hf2 k h'
   ·exact h'.elim
 ·have dL:i=(eN l v).length:=aB;subst dL;rw[oV] at at2;generalize hO:eN l v=O at*;have hmemO:∀x,x∈O↔x∈l/\x.f=v:=λx=>by rw[<-hO];exact fD
  rw[<-Bk];refine In_at at2 QK (cutX_len oS QK) λs8 w8 hv8 k8 hfr8=>?_;have hI:(if 0<=v/\v<n then CL n l O [] (n+v.toNat) else [])=oL l v:=by
   split
   ·rename_i hv
    have:¬(n+v.toNat<n):=aB;simp only[CL,this,if_false];rw[show((n+v.toNat:Nat):Int)-(n:Int)=v by omega];refine List.filter_eq_self.2 λx hx=>?_;obtain⟨DS,ja⟩:=iO.1 hx;have hmx:=(oS.vQ x DS).2.2.2.2.1;simp only[decide_eq_true_eq,hmemO];rintro⟨_,hf⟩;omega
   ·rename_i hv
    symm
    refine List.filter_eq_nil_iff.2 λx hx hxv=>?_;have e:x.t=v:=by simpa using hxv
    have:=oS.vQ x hx;exact hv ⟨by rw[<-e];exact this.2.2.1,by rw[<-e];exact this.2.2.2.1⟩
  rw[hI] at hv8;have at8:=at2.aO k8;have r8:=hv8.rd jS;have m8:aU N.dI w w8:=m2.trans k8 λ_ _ h=>h.elim;have hl8:=hv8.len;have hlenI:=oS.GB v;refine bK (λm t w9=>∃(i:Nat) (N3:nI),i<=(oL l v).length/\m=(oL l v).length-i/\t=((i:Int),())/\mL w9 N3 n (CL n l O ((oL l v).take i))/\N3.g=N.g/\Rd w9 s8 4 dY (oL l v)/\aU N.dI w w9/\(∀k,N3.dI k->N.dI k\/w1.heap.size<=k)/\w8.heap.size<=w9.heap.size/\(∀k,N3.dI k->N2.dI k)) (oL l v).length
   ⟨0,N2,cY _,rfl,rfl,by simpa using at8,Bk,r8,m8,hf2,dN _,λk hk=>hk⟩ ?_
  rintro m t w9 ⟨i,N3,hi,rfl,rfl,at9,hg3,r9,m9,hf3,z9,hn3⟩ Y hY;dsimp only;refine aI (λcD=>?_) (λkF=>?_)
  ·have dL:i<(oL l v).length:=aB;refine⟨⟨aB,aB⟩,?_⟩;obtain⟨a0,ha0,hh⟩:=wC r9 (cL dL);generalize hxa:(oL l v)[i]=a at hh;have vj:(oL l v)[i]? =some a:=by rw[<-hxa];exact cL dL
   have gG:a∈oL l v:=kR vj;obtain⟨vt,Gi⟩:=iO.1 gG;have hma:=oS.vQ a vt;refine aA ha0 (aZ (nY a) hh ?_);simp only[aG];have k3:=aL.alloc w9 (.cells #[aD 0,aD 0,aD 0,aD 0] 128);have o3:cX (w9.alloc (.cells #[aD 0,aD 0,aD 0,aD 0] 128)) w9.heap.size 128 (dY ⟨0,0,0,0⟩):=cX.jA w9 _ 128;generalize w9.alloc (.cells #[aD 0,aD 0,aD 0,aD 0] 128)=w3 at*;refine DN o3 rfl λw4 o4 m4=>?_;have k4:aL w9 w4:=aU.fresh k3 m4 λk hk=>aB;generalize QM:w9.heap.size=b2 at*;have hb2N:¬N3.dI b2:=λhk=>by have:=at9.lt hk;omega
   obtain⟨u,hu⟩:∃u:Nat,a.f=(u:Int):=⟨a.f.toNat,by have:=hma.1;omega⟩;have Er:u<n:=by have:=hma.2.1;omega
   have d4:aL w4 w4.drew:=aU.drew (aU.refl _ w4);have la:∀{w':aH},cX w' b2 128 (dY a)->w'.cell? ((⟨b2,0,none⟩:Addr).add 0)=some (aD (u:Int)):=λho=>by
    rw[aS,ho.cell,<-hu];rfl
   have at4:=(at9.aO k4).aO d4;have o4':=o4.aK d4 id;rw[Bk,<-hg3];refine aA rfl (aE (k:=.slice) ⟨some ⟨N3.go,0,none⟩,n,n⟩ at4.c0 (aE (k:=.i) (u:Int) (la o4') ?_));refine⟨⟨aB,by show _<(n:Int);omega⟩,aA rfl ?_⟩;obtain⟨s3,Dj,hc3⟩:=at4.out Er;refine aE (k:=.slice) s3 hc3 ?_;have pQ:=at4.row u s3 Dj;have hXe:∀R,CL n l O R u=(eN l a.f).filter (λy=>decide (y∉R)):=λR=>by
    simp only[CL,Er,if_true,hu]
   rw[hXe] at pQ;have mU:ZK bP.t ((eN l a.f).filter (λy=>decide (y∉(oL l v).take i))):=(oS.sY.out a.f).filter _;have gL:=xG (λy=>decide (y∉(oL l v).take i)) (eN l a.f);have yZ:=oS.wF a.f;have mj:a∉(oL l v).take i:=by
    intro JJ;obtain⟨p,hp⟩:=pJ.1 JJ;have hpi:p<i:=by have:=(eR.1 hp).1;simp at this;omega
    rw[WC hpi] at hp;have:=(oS.sY.MF v).get hpi hp vj;omega
   have JJ:a∈(eN l a.f).filter (λy=>decide (y∉(oL l v).take i)):=by rw[OM];exact⟨fD.2 ⟨vt,rfl⟩,mj⟩
   refine byTo_i (pQ.rd jS) mU aB λj fnd w5 k5 qT _=>?_;have d5:aL w5 w5.drew:=aU.drew (aU.refl _ w5);have iv:=(d4.tr k5).tr d5;have ku:=(at9.aO k4).aO iv;have o5:=o4.aK iv id;refine aA rfl (aE (k:=.slice) ⟨some ⟨N3.go,0,none⟩,n,n⟩ ku.c0 (aE (k:=.i) (u:Int) (la o5) ?_));refine aA rfl (aE (k:=.slice) ⟨some ⟨N3.go,0,none⟩,n,n⟩ ku.c0 (aE (k:=.i) (u:Int) (la o5) ?_));refine⟨⟨aB,by show _<(n:Int);omega⟩,aA rfl ?_⟩;obtain⟨s6,Of,hc6⟩:=ku.out Er;rw[Dj] at Of;cases Of;refine aE (k:=.slice) s3 hc6 ?_;have Yi:=ku.row u s3 Dj;rw[hXe] at Yi;have hj:j<((eN l a.f).filter (λy=>decide (y∉(oL l v).take i))).length:=(eR.1 (qT.qW mU JJ Gi)).1;rw[iH (n:=(j:Int)+1) aB aB];refine aq Yi hj aB λs7 w6 hv7 m6 hb7=>?_;have gQ:∀k,(∃b,s3.b=some b/\k=b.block)->N3.dI k:=λk ⟨b,hb,hk⟩=>.inr (.inr (.inr ⟨u,s3,b,Dj,hb,hk.symm⟩));have o6:=o5.aK m6 λhk=>hb2N (gQ _ hk);refine⟨la o6,?_,⟨aB,by show _<(n:Int);omega⟩,aA rfl ?_⟩
   ·have:=ku.head.aK m6 λ⟨b,hb,hk⟩=>(ku.sep u s3 b Dj hb).1 hk.symm;rw[aS,this.cell];rfl
   refine ku.oq Er Dj hv7 m6 (.inl hb7) λw7 at7 m7 z7=>?_;rw[iH (n:=(i:Int)+1) aB aB];have Si:(λj'=>if j'=u then((eN l a.f).filter (λy=>decide (y∉(oL l v).take i))).take j++((eN l a.f).filter (λy=>decide (y∉(oL l v).take i))).drop (j+1) else CL n l O ((oL l v).take i) j')=CL n l O ((oL l v).take (i+1)):=by
    funext j'
    rw[List.take_add_one,vj,Option.toList_some]
    split
    ·rename_i he
     subst he;rw[hXe,qT.jm mU JJ Gi,<-Gi];refine Ck (oS.sY.out a.f) λx hx _ hk=>?_;obtain⟨DS,ja⟩:=fD.1 hx;exact arc_eq oS.sY DS vt ja hk
    ·rename_i he
     unfold CL
     split
     ·refine ly3 λx hx=>?_;have:x≠a:=by
       rintro rfl;have:=(fD.1 hx).2;omega
      simp[this]
     ·rfl
   rw[Si] at at7;have m97:aU N3.dI w9 w7:=(k4.wk.tr iv.wk).tr m7;have MA:∀k,({N3 with eC:=N3.eC.set u s7}:nI).dI k->N3.dI k:=λk hk=>by
    rcases nI.OZ (N:=N3) (P:=λ_=>False) Dj (λa _=>.inl hb7) hk with h'|h'
    ·exact h'
    ·exact h'.elim
   refine hY ((oL l v).length-(i+1)) _ _ aB ⟨i+1,_,dL,rfl,rfl,at7,hg3,?_,m9.trans m97 (λk hk GS=>?_),λk hk=>hf3 k (MA k hk),by have:=m97.size;omega,λk hk=>hn3 k (MA k hk)⟩
   ·refine r9.aK m97 XG λb hb hk=>?_;have hb8:=hfr8 b hb;have:=at2.lt (hn3 _ hk);omega
   ·rcases hf3 k GS with h'|h'
    ·exact h'
    ·have:=k1.size;omega
  ·have dL:i=(oL l v).length:=aB;subst dL;rw[oV] at at9;have Ov:∀j,j≠n+v.toNat\/¬(0<=v/\v<n)->j≠v.toNat\/¬(0<=v/\v<n)->CL n l O (oL l v) j=kN n (DU l v) j:=by
    intro j hj1 hj2;unfold CL kN DU
    split
    ·rename_i hjn
     unfold eN;rw[List.filter_filter,List.filter_filter];refine ly3 λx hx=>?_;obtain⟨a1,a2,a3,a4,_⟩:=oS.vQ x hx;apply Bool.eq_iff_iff.2;simp only[tG,decide_eq_true_eq,iO,hx,true_and];omega
    ·rename_i hjn
     unfold oL;rw[List.filter_filter,List.filter_filter];refine ly3 λx hx=>?_;obtain⟨a1,a2,a3,a4,_⟩:=oS.vQ x hx;apply Bool.eq_iff_iff.2;simp only[tG,decide_eq_true_eq,hmemO,hx,true_and];omega
   rw[Bk,<-hg3];refine has_at at9 QK λr hr=>aF (λhb=>?_) (λhb=>?_)
   ·have hv:=hr.1 hb;obtain⟨u,rfl⟩:∃u:Nat,v=(u:Int):=⟨v.toNat,aB⟩;have Er:u<n:=aB;simp only[dU] at Ov;refine aA rfl (aE (k:=.slice) ⟨some ⟨N3.go,0,none⟩,n,n⟩ at9.c0 (aA rfl (aE (k:=.slice) ⟨some ⟨N3.gi,0,none⟩,n,n⟩ at9.c1 ?_)));refine⟨⟨aB,by show _<(n:Int);omega⟩,aA rfl ?_⟩;have d9:aL w9 w9.drew:=aU.drew (aU.refl _ w9);have at9':=at9.aO d9;obtain⟨sa,hsa,_⟩:=at9'.out Er;refine at9'.oq (s':=bD) Er hsa (dE.nil _ _ _ _) (aU.refl _ _) (.inr λa ha=>by cases ha) λfG at10 VQ _=>?_;refine⟨⟨aB,by show _<(n:Int);omega⟩,aA rfl ?_⟩;obtain⟨sb,hsb,_⟩:=at10.MF Er;refine at10.putIn (s':=bD) Er hsb (dE.nil _ _ _ _) (aU.refl _ _) (.inr λa ha=>by cases ha) λeQ at11 Lv _=>?_;have wZ:∀k,({N3 with eC:=N3.eC.set u bD}:nI).dI k->N3.dI k:=λk hk=>by
     rcases nI.OZ (N:=N3) (P:=λ_=>False) hsa (λa ha=>by cases ha) hk with h'|h'
     ·exact h'
     ·exact h'.elim
    have LU:∀k,({N3 with eC:=(N3.eC.set u bD).set (n+u) bD}:nI).dI k->N3.dI k:=λk hk=>by
     rcases nI.OZ (N:={N3 with eC:=N3.eC.set u bD}) (P:=λ_=>False) hsb (λa ha=>by cases ha) hk with h'|h'
     ·exact wZ k h'
     ·exact h'.elim
    have m911:aU N3.dI w9 eQ:=(d9.wk.tr VQ).trans Lv λk _ hk=>wZ k hk;refine hQ eQ {N3 with eC:=(N3.eC.set u bD).set (n+u) bD} ⟨?_,oS.cut _,QK⟩ hg3 (m9.trans m911 λk hk GS=>?_) λk hk=>?_
    ·have Si:(λj=>if j=n+u then [] else(λj=>if j=u then [] else CL n l O (oL l (u:Int)) j) j)=kN n (DU l (u:Int)):=by
      funext j
      by_cases hj1:j=n+u
      ·subst hj1;have:¬(n+u<n):=aB;simp only[if_true,kN,this,if_false]
       symm
       refine List.filter_eq_nil_iff.2 λx hx hxt=>?_;have h2:=(qD.1 hx).2.2;have:x.t=((n+u:Nat):Int)-n:=by simpa using hxt
       omega
      ·simp only[hj1,if_false]
       by_cases hj2:j=u
       ·subst hj2;simp only[if_true,kN,Er]
        symm
        refine List.filter_eq_nil_iff.2 λx hx hxf=>?_;have h2:=(qD.1 hx).2.1;have:x.f=(j:Int):=by simpa using hxf
        omega
       ·simp only[hj2,if_false];exact Ov j (.inl hj1) (.inl hj2)
     rw[<-Si];exact at11
    ·rcases hf3 k GS with h'|h'
     ·exact h'
     ·have:=k1.size;omega
    ·rcases hf3 k (LU k hk) with h'|h'
     ·exact .inl h'
     ·exact .inr (jB k1.size h')
   ·have hv:¬(0<=v/\v<n):=λhv=>by rw[hr.2 hv] at hb;cases hb
    have Si:CL n l O (oL l v)=kN n (DU l v):=by
     funext j;exact Ov j (.inr hv) (.inr hv)
    rw[Si] at at9;exact hQ w9 N3 ⟨at9,oS.cut _,QK⟩ hg3 m9 λk hk=>(hf3 k hk).imp id λh'=>jB k1.size h'
end
section
section
variable{w w':aH}{g:Nat}{s:Sl}{n:Nat}{l:List bP}
end
end
section
section
variable{w:aH}{g:Nat}{s:Sl}{n:Nat}{l:List bP}
end
end
section
section
variable{w:aH}{g:Nat}{s:Sl}{n:Nat}{l:List bP}
end
end
abbrev eB(b:Bool):gJ:=[.bool b]
def Gw:∀b:Bool,(eB b).length=1:=λ_=>rfl
def oneB:∀b:Bool,∀u∈eB b,u.oneCell'=true:=by intro b u hu;simp at hu;subst hu;rfl
abbrev eI(n:Int):gJ:=[aD n]
def eY:∀b:Int,(eI b).length=1:=λ_=>rfl
def CI:∀b:Int,∀u∈eI b,u.oneCell'=true:=by intro b u hu;simp at hu;subst hu;rfl
def cU(n:Int):eI n≠[]:=by simp
def bR{α:Type}{w:aH}{s:Sl}{k:CK}{e:α->k.T}{xs:List α}(h:Rd w s 1 (λx=>[k.aY (e x)]) xs){i:Nat}{x:α}(hx:xs[i]? =some x):∃a,s.b=some a/\w.cell? (a.add (i*1))=some (k.aY (e x)):=by
 obtain⟨a,ha,hh⟩:=h.get i x hx;exact⟨a,ha,by have:=hh.1;rwa[add_add,Nat.add_zero] at this⟩
abbrev R3:=Int×Int×Int
abbrev eR3(r:R3):gJ:=[aD r.1,aD r.2.1,aD r.2.2]
def Aa(r:R3):eR3 r≠[]:=by simp
def XK{k n:Int}{w:aH}{Q:Int->aH->Prop}(hn:0<n)(h63:n<=1000000)(hQ:Q (k%n) w):lZ k n w Q:=by
 unfold lZ;have h1:=Int.emod_nonneg k (b:=n) aB;have h2:=Int.emod_lt_of_pos k hn;have h3:k.tmod n=if 0<=k then k%n else if k%n=0 then 0 else k%n-n:=by
  rw[Int.tmod_eq_emod];have hd:n ∣ k↔k%n=0:=Int.dvd_iff_emod_eq_zero
  by_cases h0:0<=k
  ·simp[h0]
  ·by_cases hz:k%n=0
   ·simp[h0,hz,hd]
   ·have:(n.natAbs:Int)=n:=aB;simp[h0,hz,hd,this]
 refine⟨aB,aI (λh=>?_) (λh=>?_)⟩
 ·have e:k.tmod n+n=k%n:=by rw[h3] at h ⊢;split at h<;>rename_i h0<;>simp only[h0,if_true,if_false] at h ⊢<;>(try split at h)<;>(try split)<;>omega
  rw[e,iH aB aB];exact hQ
 ·have e:k.tmod n=k%n:=by rw[h3] at h ⊢;split at h<;>rename_i h0<;>simp only[h0,if_true,if_false] at h ⊢<;>(try split at h)<;>(try split)<;>omega
  rw[e];exact hQ
def pI(i:Nat)(hi:i<1099511627776):aQ ((i:Int)+1)=((i+1:Nat):Int):=by rw[iH aB aB];rfl
def DI{w:aH}{x:bP}{K:aH->Prop}(hK:∀w',aL w w'->cX w' w.heap.size iI (dY x)->w.heap.size<w'.heap.size->K w'):
  aJ prog iI ⟨w.heap.size,0,none⟩ (Hd x) (w.alloc (.cells #[aD 0,aD 0,aD 0,aD 0] iI)) K:=by
 have k:=aL.alloc w (.cells #[aD 0,aD 0,aD 0,aD 0] iI);have o:cX (w.alloc (.cells #[aD 0,aD 0,aD 0,aD 0] iI)) w.heap.size iI (dY ⟨0,0,0,0⟩):=cX.jA w _ _;exact DN o rfl λw' o' m'=>hK w' (aU.fresh k m' λb hb=>aB) o' o'.lt
def qX{w:aH}{g:Nat}{x:bP}(h:cX w g iI (dY x)):w.cell? ((⟨g,0,none⟩:Addr).add 0)=some (aD x.f)/\w.cell? ((⟨g,0,none⟩:Addr).add 1)=some (aD x.t)/\w.cell? ((⟨g,0,none⟩:Addr).add 2)=some (aD x.w)/\w.cell? ((⟨g,0,none⟩:Addr).add 3)=some (aD x.m):=by
 refine⟨?_,?_,?_,?_⟩<;>rw[aS,h.cell]<;>rfl
def Cq{N:nI}{n:Nat}{L:List bP}{v:Int}{W:aH}{Q:Sl->aH->Prop}(h:lP W N n L)
  (hQ:∀s w',dE w' iI 4 dY s (gC n L v)->aL W w'->(∀b,s.b=some b->W.heap.size<=b.block)->Q s w'):pG (some ⟨N.g,0,none⟩) v W Q:=by
 unfold pG;have hL:=h.ok;have hn:=h.sz;refine Yq h λs1 w1 v1 k1 f1=>?_;refine In_i (h.aO k1) λs2 w2 v2 k2 f2=>?_;have k02:=k1.tr k2;have h2:=h.aO k02;have Dc:=v1.aK k2 λ_ _=>id;have s1l:=v1.len;have s2l:=v2.len;have il:=hL.GB v;have ol:=hL.wF v;have slen:∀i,((oL L v).take i).flatMap (λa=>mZ n L v a (eN L v))=((oL L v).take i).flatMap (λa=>mZ n L v a (eN L v))/\(((oL L v).take i).flatMap (λa=>mZ n L v a (eN L v))).length<=262144:=λi=>by
  refine⟨rfl,?_⟩;have h1:=Pj n L v ((oL L v).take i);have h2:((oL L v).take i).length<=512:=by rw[rA];omega
  have:((oL L v).take i).length*(eN L v).length<=512*512:=TS h2 aB;omega
 refine bK (λc t w3=>∃(i:Nat) (s:Sl),i<=(oL L v).length/\c=(oL L v).length-i/\t=(s,(i:Int),())/\dE w3 iI 4 dY s (((oL L v).take i).flatMap λa=>mZ n L v a (eN L v))/\aL w2 w3/\(∀b,s.b=some b->w2.heap.size<=b.block)) (oL L v).length
  ⟨0,_,cY _,rfl,rfl,by simpa using dE.nil _ _ _ _,aU.refl _ _,λb hb=>by cases hb⟩ ?_
 rintro c t w3 ⟨i,s,hi,rfl,rfl,hv,k3,fs⟩ X hX;dsimp only;refine aI (λcD=>?_) (λkF=>?_)
 ·have dL:i<(oL L v).length:=aB;refine⟨⟨aB,aB⟩,?_⟩;obtain⟨p,hp,hh⟩:=wC ((v2.aK k3 λ_ _=>id).rd jS) (cL dL);have gG:=oF dL;have tk:((oL L v).take (i+1)).flatMap (λa=>mZ n L v a (eN L v))=((oL L v).take i).flatMap (λa=>mZ n L v a (eN L v))++mZ n L v (oL L v)[i] (eN L v):=by
   rw[oH dL,HA];simp
  have VR:=(slen i).2;generalize (oL L v)[i]=a at*;generalize ((oL L v).take i).flatMap (λa=>mZ n L v a (eN L v))=P at*;obtain⟨haL,Gi⟩:=iO.1 gG;obtain⟨_,_,_,_,_,aw0,aw1,_⟩:=hL.vQ a haL;refine aA hp (aZ (nY a) hh ?_);simp only[aG];refine DI λw5 k5 o5 z5=>?_;have hv5:=hv.aK k5 λ_ _=>id;have ne5:∀b,s.b=some b->b.block≠w3.heap.size:=λb hb e=>by have:=hv.lt hb;omega
  have z23:=k3.size;generalize w3.heap.size=b2 at*;refine bK (λc t w6=>∃(j:Nat) (s':Sl),j<=(eN L v).length/\c=(eN L v).length-j/\t=(s',(j:Int),())/\dE w6 iI 4 dY s' (P++mZ n L v a ((eN L v).take j))/\aL w2 w6/\cX w6 b2 iI (dY a)/\(∀b,s'.b=some b->w2.heap.size<=b.block/\b.block≠b2)) (eN L v).length
   ⟨0,s,cY _,rfl,rfl,by simpa [mZ] using hv5,k3.tr k5,o5,λb hb=>⟨fs b hb,ne5 b hb⟩⟩ ?_
  rintro c t w6 ⟨j,s',hj,rfl,rfl,hv6,k6,o6,fs6⟩ Y hY;dsimp only;refine aI (λcD=>?_) (λkF=>?_)
  ·have rD:j<(eN L v).length:=aB;refine⟨⟨aB,aB⟩,?_⟩;obtain⟨p,hp,hh⟩:=wC ((Dc.aK k6 λ_ _=>id).rd jS) (cL rD);have hmemb:=oF rD;have tkj:mZ n L v a ((eN L v).take (j+1))=mZ n L v a ((eN L v).take j)++(if HJ n L v a (eN L v)[j] then [⟨a.f,(eN L v)[j].t,a.w+(eN L v)[j].w,v⟩] else []):=by
    rw[oH rD,bz]
   have QM:=Jz n L v a ((eN L v).take j);have kr:((eN L v).take j).length<=512:=by rw[rA];omega
   generalize (eN L v)[j]=b at*;generalize mZ n L v a ((eN L v).take j)=R at*;obtain⟨hbL,hbf⟩:=fD.1 hmemb;obtain⟨_,_,_,_,_,bw0,bw1,_⟩:=hL.vQ b hbL;refine aA hp (aZ (nY b) hh ?_);refine DI λw8 k8 o8 z8=>?_;have K8:=k6.tr k8;have o8':=o6.aK k8 id;have hv8:=hv6.aK k8 λ_ _=>id;have ne8:∀b,s'.b=some b->b.block≠w6.heap.size:=λb hb e=>by have:=hv6.lt hb;omega
   have z26:=k6.size;have zb2:=o6.lt;generalize w6.heap.size=b4 at*;obtain⟨a0,a1,a2,_⟩:=qX o8';obtain⟨c0,c1,c2,_⟩:=qX o8;have next:∀w',aL w8 w'->HJ n L v a b=false->Y (s',aQ ((j:Int)+1),()) w':=λw' k' hn'=>by
    rw[pI j aB];exact hY _ _ _ aB ⟨j+1,s',rD,rfl,rfl,by rw[tkj,hn',if_neg dP,rF];exact hv8.aK k' (λ_ _=>id),K8.tr k',o8'.aK k' id,fs6⟩
   refine aE (k:=.i) a.f a0 (aE (k:=.i) b.t c1 ?_);refine aF (λhe=>?_) (λhe=>?_)
   ·have vI:a.f=b.t:=by simpa using he
    exact next w8 (aU.refl _ _) (by unfold HJ;simp[vI])
   ·have vI:a.f≠b.t:=by simpa using he
    refine aE (k:=.i) a.f a0 (aE (k:=.i) b.t c1 (aE (k:=.i) a.w a2 (aE (k:=.i) b.w c2 ?_)));rw[iH (n:=a.w+b.w) aB aB];refine Find_i (h2.aO K8) aB λw9 k9=>?_;refine aF (λhf=>?_) (λhf=>?_)
    ·exact next w9 k9 (by unfold HJ;rw[hf];simp)
    ·have Hu:HJ n L v a b=true:=by unfold HJ;rw[hf];simp[vI]
     have o9:=o8'.aK k9 id;have q9:=o8.aK k9 id;obtain⟨a0,a1,a2,_⟩:=qX o9;obtain⟨c0,c1,c2,_⟩:=qX q9;refine aE (k:=.i) a.f a0 (aE (k:=.i) b.t c1 (aE (k:=.i) a.w a2 (aE (k:=.i) b.w c2 ?_)));rw[iH (n:=a.w+b.w) aB aB];have hlit:=dE.lit w9 iI dY jS [(⟨a.f,b.t,a.w+b.w,v⟩:bP)] #[aD a.f,aD b.t,aD (a.w+b.w),aD v] rfl (by simp[maxLen]);have JE:=aL.alloc w9 (.cells #[aD a.f,aD b.t,aD (a.w+b.w),aD v] iI);have De:=o9.aK JE id;refine fH jW jS Ds ((hv8.aK k9 λ_ _=>id).aK JE (λ_ _=>id)) (hlit.rd jS) (by rw[fN];simp only[ly0];omega) (by rw[fN];simp only[ly0];omega) λr eQ v11 Lv f11 _=>?_;rw[pI j aB];have Ol:=(K8.tr k9).tr JE;refine hY _ _ _ aB ⟨j+1,r,rD,rfl,rfl,by rw[tkj,Hu,if_pos rfl,<-sV];exact v11,Ol.fresh Lv λk ⟨b,hb,e⟩=>by subst e;exact(fs6 b hb).1,De.aK Lv λ⟨b,hb,e⟩=>(fs6 b hb).2 e.symm,λb hb=>?_⟩;rcases f11 with e|⟨a',e,LV⟩
     ·exact fs6 b (e▸hb)
     ·rw[e] at hb;cases hb;have:=De.lt;exact⟨jB Ol.size LV,aB⟩
  ·have e:j=(eN L v).length:=aB;subst e;rw[oV] at hv6;rw[pI i aB];exact hX _ _ _ aB ⟨i+1,s',dL,rfl,rfl,by rw[tk];exact hv6,k6,λb hb=>(fs6 b hb).1⟩
 ·have e:i=(oL L v).length:=aB;subst e;rw[oV] at hv;exact hQ s w3 hv (k02.tr k3) λb hb=>jB k02.size (fs b hb)
def Worth_i{N:nI}{n:Nat}{L:List bP}{v:Int}{W:aH}{Q:Int->aH->Prop}(h:lP W N n L)(hQ:∀w',aL W w'->Q (FY n L v) w'):BA (some ⟨N.g,0,none⟩) v W Q:=by
 unfold BA;refine Cq h λs w1 v1 k1 _=>?_;refine In_i (h.aO k1) λs2 w2 v2 k2 _=>?_;refine Yq ((h.aO k1).aO k2) λs3 w3 v3 k3 _=>?_;have l1:=v1.len;have l2:=v2.len;have l3:=v3.len;have hb:=Pm h.ok h.sz v;have il:=h.ok.GB v;have ol:=h.ok.wF v;have hn:=h.sz;rw[l1,l2,l3,iH (n:=((gC n L v).length:Int)-((oL L v).length:Int)) aB aB,iH aB aB];exact hQ w3 ((k1.tr k2).tr k3)
def First_i{N:nI}{n:Nat}{L:List bP}{gone:Sl}{gs:rZ}{W:aH}{Q:Int->aH->Prop}(h:lP W N n L)(hg:Rd W gone 1 eB gs)(hgl:gs.length<1000000)(hQ:∀w',aL W w'->Q (lJ n L gs) w'):BB (some ⟨N.g,0,none⟩) gone W Q:=by
 unfold BB;have hn:=h.sz;have gl:=hg.len;refine RT h ?_;refine bK (λc t w2=>∃(k:Nat),k<=n/\c=n-k/\t=((mD n L gs k).1,(mD n L gs k).2,(k:Int),())/\aL W w2) n
  ⟨0,cY _,rfl,rfl,aU.refl _ _⟩ ?_
 rintro c t w2 ⟨k,hk,rfl,rfl,k2⟩ X hX;dsimp only;refine aI (λcD=>?_) (λkF=>?_)
 ·have lM:k<n:=aB;have hs:=OR n L gs k;have next:∀w',aL W w'->∀z,uY n L gs (mD n L gs k) k=z->X (z.1,z.2,aQ ((k:Int)+1),()) w':=λw' k' z hz=>by
   rw[pI k aB];exact hX _ _ _ aB ⟨k+1,lM,rfl,by rw[hs,hz],k'⟩
  intro J hJ;have go:bY gs k=false->J () w2:=λkm=>by
   apply hJ;refine Worth_i (h.aO k2) λw4 k4=>?_;have K4:=k2.tr k4;refine aI (λh0=>?_) (λh0=>?_)
   ·exact next w4 K4 ((k:Int),FY n L k) (by unfold uY;rw[km,if_neg dP,if_pos h0])
   ·refine aI (λhw=>?_) (λhw=>?_)
    ·exact next w4 K4 ((k:Int),FY n L k) (by unfold uY;rw[km,if_neg dP,if_neg h0,if_pos hw])
    ·exact next w4 K4 (mD n L gs k) (by unfold uY;rw[km,if_neg dP,if_neg h0,if_neg hw])
  refine aI (λhl=>?_) (λhl=>?_)
  ·have hkl:k<gs.length:=aB;have cI:gs[k]? =some gs[k]:=cL hkl;obtain⟨p,hp,hc⟩:=bR (k:=.bool) (e:=λx=>x) (hg.aK k2 dP (λ_ _=>id)) cI;have hgk:bY gs k=gs[k]:=by unfold bY;rw[MJ,cI];rfl
   rw[dU];refine⟨⟨aB,hl⟩,aA hp (aE (k:=.bool) _ hc ?_)⟩;refine aF (λhb=>?_) (λhb=>go (hgk.trans hb));exact next w2 k2 (mD n L gs k) (by unfold uY;rw[hgk,hb,if_pos rfl])
  ·refine go ?_;unfold bY;rw[MJ,List.getElem?_eq_none aB];rfl
 ·have e:k=n:=aB;subst e;exact hQ w2 k2
def bG{w:aH}{cs:Array Value}{t:fL}{K:Addr->aH->Prop}(h:∀w',cX w' w.heap.size t cs.toList->aL w w'->w'.heap.size=w.heap.size+1->K ⟨w.heap.size,0,none⟩ w'):aG w cs t K:=
 h _ (cX.jA w cs t) (aL.alloc w _) dP
def fh{s:Sl}{xs:List bP}{jm:Value}{p:bP->Bool}{w:aH}{Q:Int->aH->Prop}{C:aH->Prop}(hs:dE w iI 4 dY s xs)(hl:xs.length<1000000)(hC:C w)(jg:∀w1 w2,C w1->aL w1 w2->C w2)
  (hdel:∀x w1 (K:WQ Value),C w1->x∈xs->(∀w2,aL w1 w2->K (.bool (p x)) w2)->lX prog jm [Hd x] w1 K)
  (qU:∀w',aL w w'->(∀x∈xs,p x=false)->Q (-1) w') (Sd:∀(i:Nat) w',aL w w'->i<xs.length->(∀j x,j<i->xs[j]? =some x->p x=false)->(∀x,xs[i]? =some x->p x=true)->Q (i:Int) w'):iY s jm w Q:=by
 unfold iY;have sl:=hs.len;refine bK (λc t w1=>∃(i:Nat),i<=xs.length/\c=xs.length-i/\t=((i:Int),())/\aL w w1/\∀j x,j<i->xs[j]? =some x->p x=false) xs.length ⟨0,cY _,rfl,rfl,aU.refl _ _,λj x hj=>aB⟩ ?_;rintro c t w1 ⟨i,hi,rfl,rfl,k1,hn⟩ X hX;refine aI (λcD=>?_) (λkF=>?_)
 ·have HC:(i:Int)<(s.l:Int):=cD;have dL:i<xs.length:=aB;have cI:=cL dL;have gG:=oF dL;obtain⟨q,hq,hh⟩:=wC ((hs.aK k1 λ_ _=>id).rd jS) cI;generalize xs[i]=x at*;show(0<=(i:Int)/\(i:Int)<(s.l:Int))/\_;rw[dU];refine⟨⟨aB,HC⟩,aA hq (aZ (nY x) hh ?_)⟩;refine hdel x w1 _ (jg _ _ hC k1) gG λw2 k2=>⟨p x,rfl,?_⟩;refine aF (λhp=>?_) (λhp=>?_)
  ·exact Sd i w2 (k1.tr k2) dL hn λy hy=>by rw[cI] at hy;cases hy;exact hp
  ·show X (aQ ((i:Int)+1),()) w2;rw[pI i aB];refine hX _ _ _ aB ⟨i+1,dL,rfl,rfl,k1.tr k2,λj y hj hy=>?_⟩;rcases Nat.lt_or_ge j i with h|h
   ·exact hn j y h hy
   ·have:j=i:=aB;subst this;rw[cI] at hy;cases hy;exact hp
 ·have hge':¬(i:Int)<(s.l:Int):=kF;refine qU w1 k1 λx hx=>?_;obtain⟨j,hj⟩:=pJ.1 hx;have:=(eR.1 hj).1;exact hn j x aB hj
def LB{s:Sl}{xs:List bP}{jm:Value}{p:bP->Bool}{w:aH}{Q:Sl->aH->Prop}{C:aH->Prop}(hs:dE w iI 4 dY s xs)(hl:xs.length<1000000)(hC:C w)(jg:∀w1 w2,C w1->aU (λk=>∃a,s.b=some a/\k=a.block) w1 w2->C w2)
  (hdel:∀x w1 (K:WQ Value),C w1->x∈xs->(∀w2,aL w1 w2->K (.bool (p x)) w2)->lX prog jm [Hd x] w1 K)
  (hQ:∀s' w',dE w' iI 4 dY s' (xs.filter λx=>!p x)->aU (λk=>∃a,s.b=some a/\k=a.block) w w'->s'.b=s.b->Q s' w'):fP s jm w Q:=by
 unfold fP;have sl:=hs.len;have Sn:=hs.cap;have Sg:=hs.max;refine fh hs hl hC (λw1 w2 c k=>jg w1 w2 c k.wk) hdel (λw1 k1 qU=>?_) (λi0 w1 k1 hi0 hbef Gi=>?_)
 ·refine aF (λ_=>?_) (λh=>by simp at h);have:xs.filter (λx=>!p x)=xs:=List.filter_eq_self.2 λx hx=>by rw[qU x hx];rfl
  exact hQ s w1 (by rw[this];exact hs.aK k1 λ_ _=>id) k1.wk rfl
 ·refine aF (λh=>by simp at h) (λ_=>?_);have pre:(xs.take (i0+1)).filter (λx=>!p x)=xs.take i0:=by
   rw[oH hi0,TV];have e1:(xs.take i0).filter (λx=>!p x)=xs.take i0:=List.filter_eq_self.2 λx hx=>by
    obtain⟨j,hj⟩:=pJ.1 hx;have ZH:=(eR.1 hj).1;rw[rA] at ZH;rw[WC aB] at hj;rw[hbef j x aB hj];rfl
   rw[e1,JO,Gi _ (cL hi0)];simp
  rw[pI i0 aB];refine bK (λc t w2=>∃(i j:Nat) (ys:List bP),j<=xs.length/\i<=j/\c=xs.length-j/\t=((i:Int),(j:Int),())/\ys.length=xs.length/\ys.take i=(xs.take j).filter (λx=>!p x)/\ys.drop j=xs.drop j/\dE w2 iI 4 dY s ys/\aU (λk=>∃a,s.b=some a/\k=a.block) w w2) (xs.length-(i0+1))
   ⟨i0,i0+1,xs,hi0,aB,rfl,rfl,rfl,pre.symm,rfl,hs.aK k1 (λ_ _=>id),k1.wk⟩ ?_
  rintro c t w2 ⟨i,j,ys,hj,TN,rfl,rfl,yl,Bm,ydrop,v2,m2⟩ X hX;dsimp only;refine aI (λcD=>?_) (λkF=>?_)
  ·have rD:j<xs.length:=aB;have cI:ys[j]? =some xs[j]:=by
    have:=congrArg (·[0]?) ydrop;simp only[ly7,Nat.add_zero] at this;rw[this,cL rD]
   have gG:=oF rD;have tk:(xs.take (j+1)).filter (λx=>!p x)=(xs.take j).filter (λx=>!p x)++(if p xs[j]=true then [] else [xs[j]]):=by rw[oH rD,TV,JO,List.filter_nil];cases p xs[j]<;>simp
   obtain⟨q,hq,hh⟩:=wC (v2.rd jS) cI;generalize xs[j]=x at*;rw[dU];refine⟨⟨aB,cD⟩,aA hq (aZ (nY x) hh ?_)⟩;simp only[aG];refine DI λw4 k4 o4 z4=>?_;refine aZ (nY x) (iW o4) ?_;have m4:=m2.tr k4.wk;refine hdel x w4 _ (jg _ _ hC m4) gG λw5 k5=>⟨p x,rfl,?_⟩;have m5:=m4.tr k5.wk;have v5:=(v2.aK k4 λ_ _=>id).aK k5 λ_ _=>id;rw[pI j aB];have drop1:∀zs:List bP,zs.drop j=xs.drop j->zs.drop (j+1)=xs.drop (j+1):=λzs h=>by
    rw[<-List.drop_drop,<-List.drop_drop,h]
   refine aF (λhp=>?_) (λhp=>?_)
   ·have hp':p x=false:=by simpa using hp
    refine aZ (nY x) (iW (o4.aK k5 id)) ⟨⟨aB,aB⟩,aA hq ?_⟩;rw[dU];refine v5.store jS hq aB x (v:=Hd x) rfl DD (Ds x) λw6 v6 m6 _=>?_;rw[pI i aB];refine hX _ _ _ aB ⟨i+1,j+1,ys.set i x,rD,aB,rfl,rfl,by rw[oE];exact yl,?_,?_,v6,m5.tr (m6.mono λk _ e=>⟨q,hq,e⟩)⟩
    ·rw[tk,hp',if_neg dP,<-Bm];have dL:i<(ys.set i x).length:=by rw[oE];omega
     rw[oH dL,List.getElem_set_self];congr 1;apply yV;intro m;rw[List.getElem?_take,List.getElem?_take]
     split
     ·rw[jC,if_neg aB]
     ·rfl
    ·rw[<-drop1 ys ydrop];apply yV;intro m;rw[ly7,ly7,jC,if_neg aB]
   ·exact hX _ _ _ aB ⟨i,j+1,ys,rD,aB,rfl,rfl,yl,by rw[tk,if_pos (show p x=true by simpa using hp),rF];exact Bm,drop1 ys ydrop,v5,m5⟩
  ·have ej:j=xs.length:=aB;subst ej;rw[oV] at Bm;rcases v2.gZ with⟨_,h0⟩|⟨g,cO,Ly,ho,gL⟩
   ·omega
   refine⟨⟨aB,aB⟩,?_⟩;rw[dU];have yZ:(ys.flatMap dY++cO).length=s.c*4:=gL;have ti:((ys.flatMap dY++cO).take (i*4))=(ys.take i).flatMap dY:=Py jS ys cO i aB;have dX:∀w7,cX w7 g iI ((ys.take i).flatMap dY++((ys.flatMap dY++cO).drop (i*4)))\/(∃zs:gJ,zs.length=(s.l-i)*4/\cX w7 g iI ((ys.take i).flatMap dY++(zs++(ys.flatMap dY++cO).drop (i*4+(s.l-i)*4))))->aU (λk=>k=g) w2 w7->
     (0<=(i:Int)/\(i:Int)<=(s.c:Int))/\Q ⟨(aR s.b s.c 0 4),i-0,(s.c-0)⟩ w7:=λw7 ho7 m7=>by
    refine⟨⟨aB,aB⟩,?_⟩;rw[pF,Nat.sub_zero,Nat.sub_zero];have til:((ys.take i).flatMap dY).length=i*4:=by rw[uW,rA,Nat.min_eq_left aB]
    have h4:i*4<=s.c*4:=QR 4 aB;refine hQ _ w7 ⟨by rw[<-Bm,rA,Nat.min_eq_left aB],by show i<=s.c;omega,Sg,.inr ?_⟩ (m2.tr (m7.mono λk _ e=>⟨_,Ly,e⟩)) rfl;rw[<-Bm];rcases ho7 with ho7|⟨zs,hz,ho7⟩
    ·refine⟨g,_,Ly,ho7,?_⟩;show _=s.c*4;rw[fN,jz,yZ,til];omega
    ·refine⟨g,_,Ly,ho7,?_⟩;show _=s.c*4;have:(s.l-i)*4=s.l*4-i*4:=Nat.sub_mul _ _ _;rw[fN,fN,jz,yZ,til,hz];omega
   by_cases hic:i<s.c
   ·rw[Ly,lY hic];have h6:(s.l-i)*4=s.l*4-i*4:=Nat.sub_mul _ _ _;refine Am jW (by simp[Value.oneCell']) ho (by rw[yZ];omega) λw7 zs hz ho7 m7 _=>?_;rw[ti,sV] at ho7;have:=dX w7 (.inr ⟨zs,hz,ho7⟩) m7;rw[Ly] at this;exact this
   ·have hic':i=s.c:=aB;have hsl0:s.l-i=0:=aB;rw[hsl0];refine⟨(),w2,?_,?_⟩
    ·cases aR s.b s.c i 4<;>simp[Builtin.clear_,run_underlying jW.under,AD]
    ·exact dX w2 (.inl (by rw[<-ti,Mo];exact ho)) (aU.refl _ _)
end Go.Proofs.YtihggjgakbgomaaGreat
