import Derived.Shelf.SlIterI.Nil
import Derived.Shelf.SlIterI.Sorted
import Derived.Shelf.SortM.Plain
import Derived.Shelf.SortM.SortNone
import Derived.Test.YtihggjgakbgomaaGreatProg
import Derived.KernelRfl
import Derived.Test.YtihggjgakbgomaaGreatA1
import Derived.Test.YtihggjgakbgomaaGreatF1
import Derived.Test.YtihggjgakbgomaaGreatF2
import Derived.Test.YtihggjgakbgomaaGreatA2
namespace Go.Proofs.YtihggjgakbgomaaGreat
open Go Go.Proofs
def Pc:Go.Shelf.Ren:=⟨λ|7=>254|10=>260|n=>n,λ|23=>358|26=>3|3=>378|28=>162|0=>0|27=>161|33=>146|4=>4|n=>n,λn=>n⟩
theorem keysA:SlLaysZI.n7 Tryz.prog Pc where
 mixed:=by kernel_rfl
 f7:=⟨"maps.Keys[map[int]milepost/timer.wait,int,milepost/timer.wait]",by decide,Tryz.func254.trans (congrArg some (by kernel_rfl))⟩
 f10:=⟨"maps.Keys[map[int]milepost/timer.wait,int,milepost/timer.wait]$1",by decide,Tryz.func260.trans (congrArg some (by kernel_rfl))⟩
 t0:=Tryz.underlying0
 a0:=Tryz.isAgg0
 z0:=Tryz.sizeOf0
 v0:=Tryz.zeroValue0
 t4:=Tryz.underlying4
 a4:=Tryz.isAgg4
 z4:=Tryz.sizeOf4
 v4:=Tryz.zeroValue4
 t23:=Tryz.underlying358
 a23:=Tryz.isAgg358
 z23:=Tryz.sizeOf358
 v23:=Tryz.zeroValue358
 t26:=Tryz.underlying3
 a26:=Tryz.isAgg3
 z26:=Tryz.sizeOf3
 v26:=Tryz.zeroValue3
 t27:=Tryz.underlying161
 a27:=Tryz.isAgg161
 z27:=Tryz.sizeOf161
 v27:=Tryz.zeroValue161
 t28:=Tryz.underlying162
 a28:=Tryz.isAgg162
 z28:=Tryz.sizeOf162
 v28:=Tryz.zeroValue162
 t33:=Tryz.underlying146
 a33:=Tryz.isAgg146
 z33:=Tryz.sizeOf146
 v33:=Tryz.zeroValue146
def Bm:Go.Shelf.Ren:=⟨λ|6=>67|8=>119|9=>120|11=>162|13=>164|12=>163|23=>214|24=>215|14=>205|15=>206|16=>207|17=>208|18=>209|19=>210|20=>211|21=>212|22=>213|25=>246|26=>247|27=>248|28=>249|29=>250|30=>216|31=>258|n=>n,λ|26=>3|28=>162|24=>22|0=>0|3=>3|37=>266|48=>322|50=>324|4=>4|40=>316|39=>315|45=>140|5=>5|9=>9|51=>367|55=>371|57=>382|58=>383|33=>146|n=>n,λn=>n⟩
theorem wg:SlLaysZI.n6 Tryz.prog Bm where
 mixed:=by kernel_rfl
 f6:=⟨"slices.Sorted[int]",by decide,Tryz.func67.trans (congrArg some (by kernel_rfl))⟩
 f8:=⟨"slices.Collect[int]",by decide,Tryz.func119.trans (congrArg some (by kernel_rfl))⟩
 f11:=⟨"slices.AppendSeq[[]int,int]",by decide,Tryz.func162.trans (congrArg some (by kernel_rfl))⟩
 t0:=Tryz.underlying0
 a0:=Tryz.isAgg0
 z0:=Tryz.sizeOf0
 v0:=Tryz.zeroValue0
 t24:=Tryz.underlying22
 a24:=Tryz.isAgg22
 z24:=Tryz.sizeOf22
 v24:=Tryz.zeroValue22
 t26:=Tryz.underlying3
 a26:=Tryz.isAgg3
 z26:=Tryz.sizeOf3
 v26:=Tryz.zeroValue3
 t28:=Tryz.underlying162
 a28:=Tryz.isAgg162
 z28:=Tryz.sizeOf162
 v28:=Tryz.zeroValue162
 i26:=by kernel_rfl
def aAv:Go.Shelf.Ren:=⟨λ|5=>120|8=>164|7=>163|19=>214|20=>215|10=>205|11=>206|12=>207|13=>208|14=>209|15=>210|16=>211|17=>212|18=>213|30=>246|31=>247|32=>248|33=>249|34=>250|35=>216|40=>258|n=>n,λ|23=>22|25=>3|3=>3|32=>266|22=>22|0=>0|44=>322|46=>324|4=>4|36=>316|35=>315|41=>140|5=>5|9=>9|53=>367|57=>371|63=>382|64=>383|n=>n,λn=>n⟩
theorem sortA:SlLaysM.n5 Tryz.prog aAv where
 mixed:=by kernel_rfl
 f5:=⟨"slices.Sort[[]int,int]",by decide,Tryz.func120.trans (congrArg some (by kernel_rfl))⟩
 f7:=⟨"slices.pdqsortOrdered[int]",by decide,Tryz.func163.trans (congrArg some (by kernel_rfl))⟩
 f8:=Tryz.func164.trans (congrArg some (by kernel_rfl))
 f10:=⟨"slices.insertionSortOrdered[int]",by decide,Tryz.func205.trans (congrArg some (by kernel_rfl))⟩
 f11:=⟨"slices.heapSortOrdered[int]",by decide,Tryz.func206.trans (congrArg some (by kernel_rfl))⟩
 f12:=⟨"slices.breakPatternsOrdered[int]",by decide,Tryz.func207.trans (congrArg some (by kernel_rfl))⟩
 f13:=⟨"slices.choosePivotOrdered[int]",by decide,Tryz.func208.trans (congrArg some (by kernel_rfl))⟩
 f14:=⟨"slices.reverseRangeOrdered[int]",by decide,Tryz.func209.trans (congrArg some (by kernel_rfl))⟩
 f15:=⟨"slices.partialInsertionSortOrdered[int]",by decide,Tryz.func210.trans (congrArg some (by kernel_rfl))⟩
 f16:=⟨"cmp.Less[int]",by decide,Tryz.func211.trans (congrArg some (by kernel_rfl))⟩
 f17:=⟨"slices.partitionEqualOrdered[int]",by decide,Tryz.func212.trans (congrArg some (by kernel_rfl))⟩
 f18:=⟨"slices.partitionOrdered[int]",by decide,Tryz.func213.trans (congrArg some (by kernel_rfl))⟩
 f19:=Tryz.func214.trans (congrArg some (by kernel_rfl))
 f20:=Tryz.func215.trans (congrArg some (by kernel_rfl))
 f30:=⟨"slices.siftDownOrdered[int]",by decide,Tryz.func246.trans (congrArg some (by kernel_rfl))⟩
 f31:=Tryz.func247.trans (congrArg some (by kernel_rfl))
 f32:=Tryz.func248.trans (congrArg some (by kernel_rfl))
 f33:=⟨"slices.medianAdjacentOrdered[int]",by decide,Tryz.func249.trans (congrArg some (by kernel_rfl))⟩
 f34:=⟨"slices.medianOrdered[int]",by decide,Tryz.func250.trans (congrArg some (by kernel_rfl))⟩
 f35:=⟨"cmp.isNaN[int]",by decide,Tryz.func216.trans (congrArg some (by kernel_rfl))⟩
 f40:=⟨"slices.order2Ordered[int]",by decide,Tryz.func258.trans (congrArg some (by kernel_rfl))⟩
 t0:=Tryz.underlying0
 a0:=Tryz.isAgg0
 z0:=Tryz.sizeOf0
 v0:=Tryz.zeroValue0
 t3:=Tryz.underlying3
 a3:=Tryz.isAgg3
 z3:=Tryz.sizeOf3
 v3:=Tryz.zeroValue3
 t4:=Tryz.underlying4
 a4:=Tryz.isAgg4
 z4:=Tryz.sizeOf4
 v4:=Tryz.zeroValue4
 t5:=Tryz.underlying5
 a5:=Tryz.isAgg5
 z5:=Tryz.sizeOf5
 v5:=Tryz.zeroValue5
 t9:=Tryz.underlying9
 a9:=Tryz.isAgg9
 z9:=Tryz.sizeOf9
 v9:=Tryz.zeroValue9
 t22:=Tryz.underlying22
 a22:=Tryz.isAgg22
 z22:=Tryz.sizeOf22
 v22:=Tryz.zeroValue22
 t23:=Tryz.underlying22
 a23:=Tryz.isAgg22
 z23:=Tryz.sizeOf22
 v23:=Tryz.zeroValue22
 t25:=Tryz.underlying3
 a25:=Tryz.isAgg3
 z25:=Tryz.sizeOf3
 v25:=Tryz.zeroValue3
 t32:=Tryz.underlying266
 a32:=Tryz.isAgg266
 z32:=Tryz.sizeOf266
 v32:=Tryz.zeroValue266
 t35:=Tryz.underlying315
 a35:=Tryz.isAgg315
 z35:=Tryz.sizeOf315
 v35:=Tryz.zeroValue315
 t36:=Tryz.underlying316
 a36:=Tryz.isAgg316
 z36:=Tryz.sizeOf316
 v36:=Tryz.zeroValue316
 t41:=Tryz.underlying140
 a41:=Tryz.isAgg140
 z41:=Tryz.sizeOf140
 v41:=Tryz.zeroValue140
 t44:=Tryz.underlying322
 a44:=Tryz.isAgg322
 z44:=Tryz.sizeOf322
 v44:=Tryz.zeroValue322
 t46:=Tryz.underlying324
 a46:=Tryz.isAgg324
 z46:=Tryz.sizeOf324
 v46:=Tryz.zeroValue324
 t53:=Tryz.underlying367
 a53:=Tryz.isAgg367
 z53:=Tryz.sizeOf367
 v53:=Tryz.zeroValue367
 t57:=Tryz.underlying371
 a57:=Tryz.isAgg371
 z57:=Tryz.sizeOf371
 v57:=Tryz.zeroValue371
 t63:=Tryz.underlying382
 a63:=Tryz.isAgg382
 z63:=Tryz.sizeOf382
 v63:=Tryz.zeroValue382
 t64:=Tryz.underlying383
 a64:=Tryz.isAgg383
 z64:=Tryz.sizeOf383
 v64:=Tryz.zeroValue383
def Pb:Go.Shelf.Ren:=⟨λ|7=>68|10=>121|n=>n,λ|23=>164|26=>3|3=>102|28=>162|0=>0|27=>161|33=>146|4=>4|n=>n,λn=>n⟩
theorem keysB:SlLaysZI.n7 Tryz.prog Pb where
 mixed:=by kernel_rfl
 f7:=⟨"maps.Keys[map[int]*milepost/table.Entry,int,*milepost/table.Entry]",by decide,Tryz.func68.trans (congrArg some (by kernel_rfl))⟩
 f10:=⟨"maps.Keys[map[int]*milepost/table.Entry,int,*milepost/table.Entry]$1",by decide,Tryz.func121.trans (congrArg some (by kernel_rfl))⟩
 t0:=Tryz.underlying0
 a0:=Tryz.isAgg0
 z0:=Tryz.sizeOf0
 v0:=Tryz.zeroValue0
 t4:=Tryz.underlying4
 a4:=Tryz.isAgg4
 z4:=Tryz.sizeOf4
 v4:=Tryz.zeroValue4
 t23:=Tryz.underlying164
 a23:=Tryz.isAgg164
 z23:=Tryz.sizeOf164
 v23:=Tryz.zeroValue164
 t26:=Tryz.underlying3
 a26:=Tryz.isAgg3
 z26:=Tryz.sizeOf3
 v26:=Tryz.zeroValue3
 t27:=Tryz.underlying161
 a27:=Tryz.isAgg161
 z27:=Tryz.sizeOf161
 v27:=Tryz.zeroValue161
 t28:=Tryz.underlying162
 a28:=Tryz.isAgg162
 z28:=Tryz.sizeOf162
 v28:=Tryz.zeroValue162
 t33:=Tryz.underlying146
 a33:=Tryz.isAgg146
 z33:=Tryz.sizeOf146
 v33:=Tryz.zeroValue146
end Go.Proofs.YtihggjgakbgomaaGreat
namespace Go.Proofs.YtihggjgakbgomaaGreat
open Go Go.Den
open Tryz (prog)
open Go.IntKind (wrap)
theorem kL:∀x:bQ,(eC x).length=4:=λ_=>rfl
theorem Fl:∀x:bQ,∀u∈eC x,u.oneCell'=true:=by intro x u hu;simp[eC] at hu;rcases hu with rfl|rfl|rfl|rfl<;>rfl
abbrev Gb(a:bQ):Value:=.agg #[aD a.f,aD a.t,aD a.w,aD a.m]
def YV(x y:Int):Int:=if x<y then-1 else if x>y then 1 else 0
theorem PV{x y:Int}{w:aH}{Q:Int->aH->Prop}(hQ:Q (YV x y) w):iW x y w Q:=by
 unfold iW tM;refine aF (λh=>absurd h dJ) (λ_=>?_);refine aF (λh=>absurd h dJ) (λ_=>?_);unfold YV at hQ;refine aJ (λh=>?_) (λh=>?_)
 ·rwa[if_pos h] at hQ
 ·rw[if_neg h] at hQ
  refine aJ (λh=>?_) (λh=>?_)
  ·rwa[if_pos h] at hQ
  ·rwa[if_neg h] at hQ
theorem aA3{a:bQ}{v:Int}{w:aH}{Q:Int->aH->Prop}(hQ:∀w',aN w w'->Q (YV a.t v) w'):xT (nY a) v w Q:=by
 unfold xT;simp only[aG];refine aE (k:=.i) a.t ?_ (PV (hQ _ (aN.alloc w _)));rw[aS,(cW.iS w _ _).cell];rfl
theorem bt{a:bQ}{v:Int}{w:aH}{Q:Int->aH->Prop}(hQ:∀w',aN w w'->Q (YV a.f v) w'):tJ (nY a) v w Q:=by
 unfold tJ;simp only[aG];refine aE (k:=.i) a.f ?_ (PV (hQ _ (aN.alloc w _)));rw[aS,(cW.iS w _ _).cell];rfl
theorem mid_i(i j:Nat)(h:i+j<9223372036854775808):aQ (Int.fdiv (wrap .u64 (aQ ((i:Int)+(j:Int)))) (2^(min (Int.toNat (1:Int)) (IntKind.bits .u64))))=(((i+j)/2:Nat):Int):=by
 rw[gV (n:=(i:Int)+(j:Int)) aB aB];have h1:wrap .u64 ((i:Int)+(j:Int))=((i+j:Nat):Int):=by simp[wrap,IntKind.signed,IntKind.bits];omega
 rw[h1];show aQ (Int.fdiv ((i+j:Nat):Int) 2)=_;rw[Int.fdiv_eq_ediv_of_nonneg _ aB,gV aB aB];omega
theorem wR{w:aH}{s:Sl}{xs:List bQ}(h:Rd w s 4 eC xs){i:Nat}{x:bQ}(hx:xs[i]? =some x):∃a,s.b=some a/\bW w (a.add (i*4)) 0 (qP [.i,.i,.i,.i] (nY x)):=h.get i x hx
theorem OM{s:Sl}{xs:List bQ}{key:bQ->Int}{v:Int}{cmp:Value}{w:aH}{Q:Int->Bool->aH->Prop}(hs:Rd w s 4 eC xs)(lU:YR key xs)(fW:xs.length<4611686018427387904)
  (hcmp:∀(x:bQ) (w:aH) (K:WQ Value),(∀w',aN w w'->K (aD (YV (key x) v)) w')->lQ prog cmp [Gb x,aD v] w K)
  (hQ:∀(i:Nat) (qJ:Bool) w',aN w w'->zJ key xs v i->(qJ=true↔∃x∈xs,key x=v)->Q (i:Int) qJ w'):dV s v cmp w Q:=by
 unfold dV;have hl:=hs.len;refine bK (λn t w'=>∃i j:Nat,i<=j/\j<=xs.length/\n=j-i/\t=((i:Int),(j:Int),())/\aN w w'/\(∀p x,p<i->xs[p]? =some x->key x<v)/\(∀p x,j<=p->xs[p]? =some x->v<=key x)) xs.length
  ⟨0,xs.length,aB,aB,aB,by rw[hl];rfl,aY.refl _ _,λp x hp=>aB,λp x hp hx=>by have:=(kY.1 hx).1;omega⟩ ?_
 rintro n t w' ⟨i,j,RW,hj,rfl,rfl,hk,Ds,hhi⟩ X hX;dsimp only;have QL:=hs.aL hk WG (λ_ _=>id);refine aJ (λh=>?_) (λh=>?_)
 ·have cL:i<j:=aB
  rw[mid_i i j aB];have hm:(i+j)/2<xs.length:=aB;refine⟨aB,⟨aB,aB⟩,?_⟩;obtain⟨a,ha,hh⟩:=wR QL (gU hm);refine aA ha (bJ (nY xs[(i+j)/2]) hh ?_);refine hcmp xs[(i+j)/2] w' _ λw2 k2=>⟨_,rfl,?_⟩;rw[gV (n:=(((i+j)/2:Nat):Int)+1) aB aB];unfold YV;refine aJ (λh=>?_) (λh=>?_)
  ·have hv:key xs[(i+j)/2]<v:=by
    apply Classical.byContradiction;intro hn;rw[if_neg hn] at h;split at h<;>omega
   refine hX (j-((i+j)/2+1)) _ _ aB ⟨(i+j)/2+1,j,aB,hj,rfl,rfl,hk.tr k2,λp x hp hx=>?_,hhi⟩;rcases Nat.lt_or_ge p ((i+j)/2) with h'|h'
   ·have:=lU.get h' hx (gU hm);omega
   ·have:p=(i+j)/2:=aB
    subst this;rw[gU hm] at hx;cases hx;exact hv
  ·have hv:v<=key xs[(i+j)/2]:=by
    apply Classical.byContradiction;intro hn;rw[if_pos aB] at h;omega
   refine hX ((i+j)/2-i) _ _ aB ⟨i,(i+j)/2,aB,aB,rfl,rfl,hk.tr k2,Ds,λp x hp hx=>?_⟩;rcases Nat.eq_or_lt_of_le hp with h'|h'
   ·subst h';rw[gU hm] at hx;cases hx;exact hv
   ·have:=lU.get h' (gU hm) hx;omega
 ·have hje:j=i:=aB
  subst hje;have qN:zJ key xs v j:=⟨hj,Ds,hhi⟩;refine aJ (λh=>?_) (λh=>?_)
  ·have hi:j<xs.length:=aB
   refine⟨⟨aB,aB⟩,?_⟩;obtain⟨a,ha,hh⟩:=wR QL (gU hi);refine aA ha (bJ (nY xs[j]) hh ?_);refine hcmp xs[j] w' _ λw2 k2=>⟨_,rfl,hQ j _ w2 (hk.tr k2) qN ?_⟩;have h1:=hhi j _ (iX _) (gU hi)
   constructor
   ·intro hc
    refine⟨xs[j],oE hi,?_⟩;unfold YV at hc
    by_cases hg:key xs[j]>v
    ·rw[if_neg aB,if_pos hg] at hc;simp at hc
    ·omega
   ·rintro⟨x,hx,fh⟩
    have:=qN.qJ lU hx fh;rw[gU hi] at this;cases this;unfold YV;rw[if_neg aB,if_neg aB];rfl
  ·have hi:j=xs.length:=aB
   refine hQ j false w' hk qN ⟨λh=>by simp at h,?_⟩;rintro⟨x,hx,fh⟩;have:=qN.qJ lU hx fh;have:=(kY.1 this).1;omega
theorem byTo_i{s:Sl}{xs:List bQ}{v:Int}{w:aH}{Q:Int->Bool->aH->Prop}(hs:Rd w s 4 eC xs)(lU:YR bQ.t xs)(fW:xs.length<4611686018427387904)
  (hQ:∀(i:Nat) (qJ:Bool) w',aN w w'->zJ bQ.t xs v i->(qJ=true↔∃x∈xs,x.t=v)->Q (i:Int) qJ w'):KD s v w Q:=
 OM hs lU fW (λx w K hK=>pI Mv iH (gJ (ks:=[.agg [.i,.i,.i,.i],.i]) (t:=(nY x,v,())) (aA3 hK))) hQ
theorem Zh{s:Sl}{xs:List bQ}{v:Int}{w:aH}{Q:Int->Bool->aH->Prop}(hs:Rd w s 4 eC xs)(lU:YR bQ.f xs)(fW:xs.length<4611686018427387904)
  (hQ:∀(i:Nat) (qJ:Bool) w',aN w w'->zJ bQ.f xs v i->(qJ=true↔∃x∈xs,x.f=v)->Q (i:Int) qJ w'):zZ s v w Q:=
 OM hs lU fW (λx w K hK=>pI Dc iH (gJ (ks:=[.agg [.i,.i,.i,.i],.i]) (t:=(nY x,v,())) (bt hK))) hQ
theorem uC(xs:List bQ):(xs.flatMap eC).length=xs.length*4:=bI kL xs
theorem Oy(xs:List bQ):∀u∈xs.flatMap eC,u.oneCell'=true:=λu hu=>by obtain⟨x,_,hx⟩:=List.mem_flatMap.1 hu;exact Fl x u hx
theorem Ed{V:Type}{l m:List V}{n:Nat}(h:l.length=n):(l++m).take n=l:=by rw[<-h,List.take_left]
theorem xw{V:Type}{l m:List V}{n:Nat}(h:l.length=n)(k:Nat):(l++m).drop (n+k)=m.drop k:=by rw[<-h,List.drop_length_add_append]
theorem drop_at0{V:Type}{l m:List V}{n:Nat}(h:l.length=n):(l++m).drop n=m:=by rw[<-h,List.drop_left]
theorem splice2{V:Type}{A X2 bN:List V}{n1 n2 k:Nat}(hA:A.length=k)(hc:n1+k<=bN.length):
  ((bN.take n1++A++bN.drop (n1+k)).take (n1+k)++X2++(bN.take n1++A++bN.drop (n1+k)).drop (n1+k+n2))=bN.take n1++A++X2++bN.drop (n1+k+n2):=by
 have hB:(bN.take n1++A).length=n1+k:=by simp;omega
 rw[Ed hB,xw hB,List.drop_drop]
theorem Uh{V:Type}{X1 X2 R A bN:List V}{n1 n2 k:Nat}(h1:X1.length=n1)(h2:X2.length=n2)(hR:k<=R.length)(hc:bN=X1++X2++R):
  ((bN.take (n1+k)++X2++bN.drop (n1+k+n2)).take n1++A++(bN.take (n1+k)++X2++bN.drop (n1+k+n2)).drop (n1+k))=X1++A++X2++R.drop k:=by
 have hcl:bN.length=n1+n2+R.length:=by rw[hc];simp[h1,h2];omega
 have e0:(bN.take (n1+k)).length=n1+k:=by simp;omega
 have e3:bN.drop (n1+k+n2)=R.drop k:=by
  have:(X1++X2).length=n1+n2:=by simp[h1,h2]
  rw[hc,show n1+k+n2=n1+n2+k by omega,xw this]
 have e4:bN.take (n1+k)=X1++(X2++R).take k:=by
  rw[hc,sH,<-h1,List.take_length_add_append]
 rw[e3];have e5:(bN.take (n1+k)++X2++R.drop k).drop (n1+k)=X2++R.drop k:=by rw[sH,drop_at0 e0]
 rw[e5,e4,sH,sH,sH,Ed h1];simp
theorem Insert_i{s:Sl}{xs:List bQ}{a:bQ}{i:Nat}{gv:Nat}{w:aH}{Q:Sl->aH->Prop}(hs:dP w iT 4 eC s xs)(hv:cW w gv iT (eC a))(hg:∀b,s.b=some b->b.block≠gv)(hi:i<=xs.length)(hb:xs.length<1099511627776)
  (hQ:∀s' w',dP w' iT 4 eC s' (xs.take i++[a]++xs.drop i)->aY (λk=>∃b,s.b=some b/\k=b.block) w w'->(s'.b=s.b\/∃b,s'.b=some b/\w.heap.size<=b.block)->Q s' w'):
  jX s (i:Int) ⟨some ⟨gv,0,none⟩,1,1⟩ w Q:=by
 unfold jX;have hl:=hs.len;have Rs:=hs.cap;have Rp:=hs.max;have rv:Rd w ⟨some ⟨gv,0,none⟩,1,1⟩ 4 eC [a]:=(dP.mk rfl (iX _) (by simp[maxLen]) (.inr ⟨gv,[],rfl,by simpa using hv,rfl⟩):dP w iT 4 eC ⟨some ⟨gv,0,none⟩,1,1⟩ [a]).rd kL;refine⟨⟨aB,aB⟩,?_⟩;refine aF (λh=>absurd h dJ) (λ_=>?_);refine aF (λh=>?_) (λh=>?_)
 ·have he:i=xs.length:=by
   have:(i:Int)=(s.l:Int):=by simpa using h
   omega
  refine fO kO kL Fl hs rv (by simp;omega) (by simp;omega) λr w' hr hm Vp _=>?_;exact hQ r w' (by rw[he,pF,List.drop_length];simpa using hr) hm Vp
 ·have cL:i<xs.length:=by
   have:(i:Int)≠(s.l:Int):=by simpa using h
   omega
  have e1:aQ ((s.l:Int)+((1:Nat):Int))=((xs.length+1:Nat):Int):=by rw[gV aB aB];omega
  have e2:aQ ((i:Int)+((1:Nat):Int))=((i+1:Nat):Int):=by rw[gV aB aB];omega
  rw[e1,e2];have hrs:=hs.rd kL;have ie:((xs.drop i).flatMap eC).length=(xs.length-i)*4:=by rw[uC,List.length_drop]
  refine aJ (λhc=>?_) (λhc=>?_)
  ·--a new block
   refine⟨⟨aB,aB⟩,?_⟩;have e3:aQ (((xs.length+1:Nat):Int)-(i:Int))=((xs.length+1-i:Nat):Int):=by rw[gV aB aB];omega
   rw[e3];have Gq:=hrs.part (i:=0) (j:=i) (c:=s.c) aB aB aB aB;refine Um kO vu (aX:=eC) ⟨0,0,0,0⟩ rfl kL Gq (by simp;omega) (by simp;omega) (by simp;omega) λs2 w2 hv2 k2 hfr=>?_;have fo:=hv2.len;have PX:=hv2.cap;simp only[Nat.sub_zero,List.drop_zero,mH,qF,List.length_replicate] at fo;have IT:s2.l=xs.length+1:=aB;obtain⟨b2,RX,hfr2⟩:=hfr;rcases hv2.gN with⟨h0,_⟩|⟨g2,cR,jt,Vq,yD⟩
   ·rw[h0] at RX;cases RX
   rw[jt] at RX;cases RX;have hfr3:w.heap.size<=g2:=hfr2;refine⟨⟨aB,aB⟩,?_⟩;rw[jt,lR (by show Int.toNat (i:Int)<s2.c;simp;omega)];simp only[lJ];have hvo:cW w2 gv iT (eC a):=hv.aL k2 id;refine NH (t:=DP) kO.under CF Vq (cs:=eC a) (by rw[kL];omega) (hvo.read λj v hj=>by simpa using hj) (by rw[yD,kL];have:=QB 4 (show i+1<=s2.c by omega);omega) (Fl a) λw3 ho3 m3 z3=>?_;refine⟨⟨aB,aB⟩,⟨aB,aB⟩,?_⟩;have hd3:aN w3 w3.drew:=aY.drew (aY.refl _ w3);have aAh:∀b,s.b=some b->∀j v,((xs.drop i).flatMap eC)[j]? =some v->w3.drew.cell? ((b.add (i*4)).add j)=some v:=by
    intro b hb j v hj;have Ln:=hrs.part (i:=i) (j:=s.l) (c:=s.c) aB aB aB aB;rw[List.take_of_length_le (by simp;omega)] at Ln;have bY:aR s.b s.c i 4=some (b.add (i*4)):=by simp[aR,hb];omega
    have CU:=pX Ln kL (a:=b.add (i*4)) bY j v hj;have BI:b.block<w.heap.size:=hs.lt hb;exact hd3.cell (m3.cell (k2.cell CU id) (by simp;omega)) id
   obtain⟨b,bY,_⟩:=hrs.get i xs[i] (gU cL);have hsb:aR s.b s.c i 4=some (b.add (i*4)):=by simp[aR,bY];omega
   rw[lR (show i+1<s2.c by omega),hsb];refine NH (t:=DP) kO.under CF (ho3.aL hd3 id) (cs:=(xs.drop i).flatMap eC) (by rw[ie];congr 1;omega) (aAh b bY) (by
    rw[ie];simp only[mH,qF,List.length_drop,yD,kL];have:=QB 4 (show xs.length+1<=s2.c by omega);omega) (Oy _) λw4 ho4 m4 z4=>?_
   have hw4:aN w w4:=(k2.fresh m3 (λk hk=>by rw[hk];exact hfr3)).fresh ((aN.aL hd3:aY (λk=>k=g2) w3 _).tr m4) (λk hk=>by rw[hk];exact hfr3);have h4:s2.c*4>=(xs.length+1)*4:=QB 4 aB;rw[show(i+1)*4=i*4+4 by omega,kL,ie,splice2 (kL a) (by rw[yD];omega)] at ho4;have hX1:(((xs.drop 0).take (i-0)++List.replicate (xs.length+1-i) (⟨0,0,0,0⟩:bQ)).flatMap eC++cR).take (i*4)=(xs.take i).flatMap eC:=by
    rw[Pf kL _ _ _ (by simp;omega)];congr 1;rw[List.take_append_of_le_length (by simp;omega)];simp[List.take_take]
   rw[hX1] at ho4;refine hQ s2 w4 ⟨by rw[IT];simp;omega,PX,hv2.max,.inr ⟨g2,(((xs.drop 0).take (i-0)++List.replicate (xs.length+1-i) (⟨0,0,0,0⟩:bQ)).flatMap eC++cR).drop (i*4+4+(xs.length-i)*4),jt,?_,?_⟩⟩ (aN.aL hw4) (.inr ⟨_,jt,hfr3⟩)
   ·simpa [JC] using ho4
   ·rw[mH,uC,List.length_drop,yD]
    simp only[mH,qF,List.length_drop,mV,List.length_nil];omega
  ·--in place
   have hsc:xs.length+1<=s.c:=aB;rcases hs.gN with⟨_,h0⟩|⟨g,cR,Lc,ho,fW⟩
   ·omega
   have h4:(xs.length+1)*4<=s.c*4:=QB 4 hsc;have hrest:4<=cR.length:=by rw[mH,uC] at fW;omega
   have fq:gv≠g:=λh=>hg _ Lc h.symm;refine⟨⟨aB,aB⟩,⟨aB,aB⟩,?_⟩;rw[oV,Lc];simp only[lJ,Nat.sub_zero];rw[lR aB];refine Kf hv ho fq aB ?_;refine aF (λ_=>?_) (λh=>by simp at h);refine⟨⟨aB,aB⟩,⟨aB,aB⟩,?_⟩;rw[lR (show i<s.c by omega)];have hd:aN w w.drew:=aY.drew (aY.refl _ w);have hX2:((xs.flatMap eC++cR).drop (i*4))=(xs.drop i).flatMap eC++cR:=aAW kL _ _ _ hi;refine NH (t:=DP) kO.under CF (ho.aL hd id) (cs:=(xs.drop i).flatMap eC) (by rw[ie];congr 1;omega) ((ho.aL hd id).read λj v hj=>by
     have:((xs.flatMap eC++cR).drop (i*4))[j]? =some v:=by rw[hX2,Fp (kY.1 hj).1];exact hj
     rwa[List.getElem?_drop] at this) (by rw[ie,fW];omega) (Oy _) λw6 ho6 m6 z6=>?_
   refine⟨⟨aB,aB⟩,?_⟩;have hv6:cW w6 gv iT (eC a):=(hv.aL hd id).aL m6 fq;refine NH (t:=DP) kO.under CF ho6 (cs:=eC a) (by rw[kL,Nat.min_eq_left aB]) (hv6.read λj v hj=>by simpa using hj) (by
    rw[kL];simp only[mH,qF,List.length_drop,fW,ie];omega) (Fl a) λw7 ho7 m7 z7=>?_
   have hX1l:((xs.take i).flatMap eC).length=i*4:=by rw[uC,qF,Nat.min_eq_left hi]
   have hcur:xs.flatMap eC++cR=(xs.take i).flatMap eC++(xs.drop i).flatMap eC++cR:=by rw[<-JC,Cs]
   rw[kL,ie,show(i+1)*4=i*4+4 by omega,Uh hX1l ie hrest hcur] at ho7;refine hQ ⟨some ⟨g,0,none⟩,xs.length+1,s.c⟩ w7 ⟨by simp;omega,hsc,Rp,.inr ⟨g,cR.drop 4,rfl,?_,?_⟩⟩ ?_ (.inl Lc.symm)
   ·simpa [JC] using ho7
   ·rw[mH,uC,List.length_drop]
    rw[mH,uC] at fW;simp only[mH,qF,List.length_drop,mV,List.length_nil];omega
   ·exact(hd.aL.tr (m6.tr m7)).mono λk _ hk=>⟨_,Lc,hk⟩
theorem Ud{s:Sl}{xs:List bQ}{w:aH}{Q:Sl->aH->Prop}(hs:Rd w s 4 eC xs)(hb:xs.length<1099511627776)
  (hQ:∀s' w',dP w' iT 4 eC s' xs->aN w w'->(∀b,s'.b=some b->w.heap.size<=b.block)->Q s' w'):iO s w Q:=by
 unfold iO;refine aF (λh=>?_) (λh=>?_)
 ·have hn:xs=[]:=by
   cases xs with
   |nil=>rfl
   |cons x r=>obtain⟨a,ha,_⟩:=hs.get 0 x rfl;rw[ha] at h;cases h
  subst hn;exact hQ _ w (dP.nil _ _ _ _) (aY.refl _ _) (λb hb=>by cases hb)
 ·simp only[aG]
  have k1:=aN.alloc w (.cells #[] 128);have v0:dP (w.alloc (.cells #[] 128)) iT 4 eC ⟨some ⟨w.heap.size,0,none⟩,0,0⟩ []:=dP.lit w iT eC kL [] #[] rfl dJ;refine fO kO kL Fl v0 (hs.aL k1 WG (λ_ _=>id)) (by simp;omega) (by simp;omega) λr w' hr hm Vp _=>?_;refine hQ r w' (by simpa using hr) (aY.fresh k1 hm λk ⟨a,ha,hk⟩=>by cases ha;rw[hk];exact iX _) λb hb=>?_;rcases Vp with h1|⟨b',bY,cL⟩
  ·rw[hb] at h1;cases h1;exact iX _
  ·rw[hb] at bY;cases bY;have:=k1.size;omega
theorem Zm{s:Sl}{xs:List bQ}{i:Nat}{w:aH}{Q:Sl->aH->Prop}(hs:dP w iT 4 eC s xs)(hi:i<xs.length)(hb:xs.length<1099511627776)
  (hQ:∀s' w',dP w' iT 4 eC s' (xs.take i++xs.drop (i+1))->aY (λk=>∃b,s.b=some b/\k=b.block) w w'->s'.b=s.b->Q s' w'):
  iA s (i:Int) ((i:Int)+1) w Q:=by
 unfold iA;have hl:=hs.len;have Rs:=hs.cap;have Rp:=hs.max;rcases hs.gN with⟨_,h0⟩|⟨g,cR,Lc,ho,fW⟩
 ·omega
 refine⟨⟨aB,aB⟩,⟨aB,by simp;omega⟩,⟨aB,aB⟩,?_⟩;refine aF (λh=>by simp at h;omega) (λ_=>?_);refine⟨⟨aB,aB⟩,⟨aB,aB⟩,?_⟩;have hd:aN w w.drew:=aY.drew (aY.refl _ w);have ti:Int.toNat (i:Int)=i:=rfl;have tj:Int.toNat ((i:Int)+1)=i+1:=rfl;rw[oV,ti,tj,Nat.sub_zero,Nat.sub_zero];have hvd:=hs.aL hd (λ_ _=>id);have Dq:=hvd.take (i:=i) aB;have Fe:=(hvd.rd kL).part (i:=i+1) (j:=s.l) (c:=s.c) aB aB aB aB;rw[List.take_of_length_le (by simp;omega)] at Fe;have LJ:(xs.take i).length+(xs.drop (i+1)).length=xs.length-1:=by simp;omega
 refine Ii kO kL Fl Dq Fe (by rw[LJ];omega) (by rw[LJ];omega) λr w1 hr hm Vp hrn QD=>?_;have Vs:=hr.len;rw[mH,LJ] at Vs;have Vu:=hr.cap;have tl:Int.toNat (s.l:Int)=s.l:=rfl;have tr:Int.toNat (r.l:Int)=r.l:=rfl;rw[tl,tr];obtain rfl:=QD (by rw[LJ];show _<=s.c;omega);have e1:i+(s.l-(i+1))=xs.length-1:=aB;simp only[e1] at hr Vs Vu tr ⊢;refine⟨⟨aB,aB⟩,⟨aB,aB⟩,?_⟩;rw[Lc,lR (show xs.length-1<s.c by omega)];rcases hr.gN with⟨h0,_⟩|⟨g',Xl,hbg',ho',QW⟩
 ·rw[Lc] at h0;cases h0
 have:g'=g:=by rw[Lc] at hbg';cases hbg';rfl
 subst this;have QN:((xs.take i++xs.drop (i+1)).flatMap eC).length=(xs.length-1)*4:=by rw[uC,mH,LJ]
 have yD:((xs.take i++xs.drop (i+1)).flatMap eC++Xl).length=s.c*4:=QW;have h4:xs.length*4<=s.c*4:=QB 4 aB;refine ZR kO (by simp[Value.oneCell']) ho' (by rw[yD];omega) λw2 zs hz Vq m2 _=>?_;have KU:s.l-(xs.length-1)=1:=aB;rw[KU] at hz Vq;rw[Ed QN] at Vq;refine hQ _ w2 ⟨by rw[mH,LJ],by show xs.length-1<=s.c;omega,Rp,.inr ⟨g',zs++((xs.take i++xs.drop (i+1)).flatMap eC++Xl).drop ((xs.length-1)*4+1*4),rfl,by simpa using Vq,?_⟩⟩ ?_ Lc.symm
 ·show _=s.c*4
  simp only[mH,QN,List.length_drop,hz];rw[mH,QN] at yD;omega
 ·exact((aN.aL hd).tr hm).tr (m2.mono λk _ hk=>⟨_,Lc,hk⟩)
theorem ot{s:Sl}{xs:List bQ}{a:bQ}{i:Nat}{w:aH}{Q:Sl->aH->Prop}(hs:dP w iT 4 eC s xs)(hi:i<=xs.length)(hb:xs.length<1099511627776)
  (hQ:∀s' w',dP w' iT 4 eC s' (xs.take i++[a]++xs.drop i)->aY (λk=>∃b,s.b=some b/\k=b.block) w w'->(s'.b=s.b\/∃b,s'.b=some b/\w.heap.size<=b.block)->Q s' w'):
  rC s (i:Int) false (nY a) w Q:=by
 unfold rC;simp only[aG];have k1:=aN.alloc w (.cells #[aD a.f,aD a.t,aD a.w,aD a.m] 128);refine aF (λ_=>?_) (λh=>by simp at h);refine bJ (nY a) (Bq w _ _) ?_;generalize Vn:w.alloc (.cells #[aD a.f,aD a.t,aD a.w,aD a.m] 128)=w1 at k1 ⊢;have k2:=aN.alloc w1 (.cells #[aD a.f,aD a.t,aD a.w,aD a.m] 128);refine Insert_i ((hs.aL k1 (λ_ _=>id)).aL k2 (λ_ _=>id)) (cW.iS w1 #[aD a.f,aD a.t,aD a.w,aD a.m] 128) (λb bY=>?_) hi hb λs' w' h1 h2 h3=>?_
 ·exact Nat.ne_of_lt ((hs.aL k1 (λ_ _=>id)).lt bY)
 ·refine hQ s' w' h1 (((aN.aL k1).tr (aN.aL k2)).tr h2) (h3.imp id λ⟨b,bY,cL⟩=>⟨b,bY,?_⟩)
  exact iG (iG k1.size k2.size) cL
theorem aAQ{s:Sl}{xs:List bQ}{a:bQ}{i:Nat}{w:aH}{Q:Sl->aH->Prop}(hs:dP w iT 4 eC s xs)(hi:i<xs.length)
  (hQ:∀w',dP w' iT 4 eC s (xs.set i a)->aY (λk=>∃b,s.b=some b/\k=b.block) w w'->Q s w'):rC s (i:Int) true (nY a) w Q:=by
 unfold rC;simp only[aG];have k1:=aN.alloc w (.cells #[aD a.f,aD a.t,aD a.w,aD a.m] 128);refine aF (λh=>by simp at h) (λ_=>?_);refine bJ (nY a) (Bq w _ _) ?_;have hl:=hs.len;have vY:=hs.aL k1 (λ_ _=>id);obtain⟨b,hb,_⟩:=(hs.rd kL).get i xs[i] (gU hi);refine⟨⟨aB,aB⟩,aA hb ?_⟩;refine vY.store kL hb hi a rfl CF (Fl a) λw' h1 h2 _=>hQ w' h1 ((aN.aL k1).tr (h2.mono λk _ hk=>⟨b,hb,hk⟩))
section
abbrev sv(s:Sl):Value:=.slice s.b s.l s.c
structure mZ where
 g:Nat
 go:Nat
 gi:Nat
 dY:List Sl
def mZ.dK(N:mZ)(k:Nat):Prop:=k=N.g\/k=N.go\/k=N.gi\/∃(i:Nat) (s:Sl) (a:Addr),N.dY[i]? =some s/\s.b=some a/\a.block=k
structure mD(w:aH)(N:mZ)(n:Nat)(X:Nat->List bQ):Prop where
 head:cW w N.g tNet [sv ⟨some ⟨N.go,0,none⟩,n,n⟩,sv ⟨some ⟨N.gi,0,none⟩,n,n⟩]
 sF:cW w N.go DP ((N.dY.take n).map sv)
 LG:cW w N.gi DP ((N.dY.drop n).map sv)
 len:N.dY.length=n+n
 row:∀(i:Nat) (s:Sl),N.dY[i]? =some s->dP w iT 4 eC s (X i)
 sep:∀(i:Nat) (s:Sl) (a:Addr),N.dY[i]? =some s->s.b=some a->a.block≠N.g/\a.block≠N.go/\a.block≠N.gi
 Dw:∀(i j:Nat) (s u:Sl) (a b:Addr),N.dY[i]? =some s->N.dY[j]? =some u->s.b=some a->u.b=some b->a.block=b.block->i=j
 hd:N.g≠N.go/\N.g≠N.gi/\N.go≠N.gi
section
variable{w w':aH}{N:mZ}{n:Nat}{X:Nat->List bQ}
theorem mD.lt(h:mD w N n X){k:Nat}(hk:N.dK k):k<w.heap.size:=by
 rcases hk with rfl|rfl|rfl|⟨i,s,a,h1,h2,rfl⟩
 ·exact h.head.lt
 ·exact h.sF.lt
 ·exact h.LG.lt
 ·exact(h.row i s h1).lt h2
theorem mD.aL{F:Nat->Prop}(h:mD w N n X)(hm:aY F w w')(hF:∀k,N.dK k->¬F k):mD w' N n X where
 head:=h.head.aL hm (hF _ (.inl rfl))
 sF:=h.sF.aL hm (hF _ (.inr (.inl rfl)))
 LG:=h.LG.aL hm (hF _ (.inr (.inr (.inl rfl))))
 len:=h.len
 row:=λi s hs=>(h.row i s hs).aL hm λa ha=>hF _ (.inr (.inr (.inr ⟨i,s,a,hs,ha,rfl⟩)))
 sep:=h.sep
 Dw:=h.Dw
 hd:=h.hd
theorem mD.aO(h:mD w N n X)(hm:aN w w'):mD w' N n X:=h.aL hm λ_ _=>id
theorem mD.c0(h:mD w N n X):w.cell? ((⟨N.g,0,none⟩:Addr).add 0)=some (sv ⟨some ⟨N.go,0,none⟩,n,n⟩):=by rw[aS,h.head.cell];rfl
theorem mD.c1(h:mD w N n X):w.cell? ((⟨N.g,0,none⟩:Addr).add 1)=some (sv ⟨some ⟨N.gi,0,none⟩,n,n⟩):=by rw[aS,h.head.cell];rfl
theorem mD.out(h:mD w N n X){v:Nat}(hv:v<n):∃s,N.dY[v]? =some s/\w.cell? ((⟨N.go,0,none⟩:Addr).add (v*1))=some (sv s):=by
 have hl:=h.len;refine⟨N.dY[v],gU aB,?_⟩;rw[aS,h.sF.cell];simp[VE hv,gU (show v<N.dY.length by omega)]
theorem mD.LU(h:mD w N n X){v:Nat}(hv:v<n):∃s,N.dY[n+v]? =some s/\w.cell? ((⟨N.gi,0,none⟩:Addr).add (v*1))=some (sv s):=by
 have hl:=h.len;refine⟨N.dY[n+v],gU aB,?_⟩;rw[aS,h.LG.cell];simp[List.getElem?_drop,gU (show n+v<N.dY.length by omega)]
theorem mD.EX(h:mD w N n X){i:Nat}{s s':Sl}{xs:List bQ}(hs:N.dY[i]? =some s)(hv:dP w' iT 4 eC s' xs)(ho:cW w' N.go DP (((N.dY.set i s').take n).map sv))(hi:cW w' N.gi DP (((N.dY.set i s').drop n).map sv))
  (hm:aY (λk=>(∃a,s.b=some a/\k=a.block)\/k=N.go\/k=N.gi) w w') (hb:∀a,s'.b=some a->s'.b=s.b\/w.heap.size<=a.block):
  mD w' {N with dY:=N.dY.set i s'} n (λj=>if j=i then xs else X j):=by
 have hil:i<N.dY.length:=(kY.1 hs).1;have old:∀j u,(N.dY.set i s')[j]? =some u->(j=i/\u=s')\/(j≠i/\N.dY[j]? =some u):=by
  intro j u hj;rw[wC] at hj
  by_cases CV:i=j
  ·subst CV;simp[hil] at hj;exact .inl ⟨rfl,hj.symm⟩
  ·rw[if_neg CV] at hj;exact .inr ⟨λh=>CV h.symm,hj⟩
 have Ro:∀a,s'.b=some a->(s.b=some a)\/(∀k,N.dK k->k≠a.block):=by
  intro a ha;rcases hb a ha with h1|h1
  ·exact .inl (h1▸ha)
  ·exact .inr λk hk=>by have:=h.lt hk;omega
 constructor
 ·refine h.head.aL hm ?_
  rintro(⟨a,ha,hk⟩|hk|hk)
  ·exact(h.sep i s a hs ha).1 hk.symm
  ·exact h.hd.1 hk
  ·exact h.hd.2.1 hk
 ·exact ho
 ·exact hi
 ·simpa using h.len
 ·intro j u hj
  rcases old j u hj with⟨rfl,rfl⟩|⟨gH,wG⟩
  ·simpa using hv
  ·simp only[gH,if_false]
   refine(h.row j u wG).aL hm λb bY=>?_;rintro(⟨a,ha,hk⟩|hk|hk)
   ·exact gH (h.Dw j i u s b a wG hs bY ha hk)
   ·exact(h.sep j u b wG bY).2.1 hk
   ·exact(h.sep j u b wG bY).2.2 hk
 ·intro j u a hj ha
  rcases old j u hj with⟨rfl,rfl⟩|⟨gH,wG⟩
  ·rcases Ro a ha with h1|h1
   ·exact h.sep j s a hs h1
   ·exact⟨λe=>h1 _ (.inl rfl) e.symm,λe=>h1 _ (.inr (.inl rfl)) e.symm,λe=>h1 _ (.inr (.inr (.inl rfl))) e.symm⟩
  ·exact h.sep j u a wG ha
 ·intro j k u x a b hj hk ha bY he
  rcases old j u hj with⟨rfl,rfl⟩|⟨gH,wG⟩<;>rcases old k x hk with⟨rfl,rfl⟩|⟨Fw,lT⟩
  ·rfl
  ·rcases Ro a ha with h1|h1
   ·exact h.Dw j k s x a b hs lT h1 bY he
   ·exact absurd he.symm (h1 _ (.inr (.inr (.inr ⟨k,x,b,lT,bY,rfl⟩))))
  ·rcases Ro b bY with h1|h1
   ·exact h.Dw j k u s a b wG hs ha h1 he
   ·exact absurd he (h1 _ (.inr (.inr (.inr ⟨j,u,a,wG,ha,rfl⟩))))
  ·exact h.Dw j k u x a b wG lT ha bY he
 ·exact h.hd
theorem mZ.OU{i:Nat}{s s':Sl}{P:Nat->Prop}(hs:N.dY[i]? =some s)(hb:∀a,s'.b=some a->s'.b=s.b\/P a.block){k:Nat}(hk:({N with dY:=N.dY.set i s'}:mZ).dK k):N.dK k\/P k:=by
 have hil:i<N.dY.length:=(kY.1 hs).1;rcases hk with hk|hk|hk|⟨j,u,a,hj,ha,rfl⟩
 ·exact .inl (.inl hk)
 ·exact .inl (.inr (.inl hk))
 ·exact .inl (.inr (.inr (.inl hk)))
 ·simp only[wC] at hj
  by_cases CV:i=j
  ·subst CV
   simp[hil] at hj;subst hj;rcases hb a ha with h1|h1
   ·exact .inl (.inr (.inr (.inr ⟨i,s,a,hs,h1▸ha,rfl⟩)))
   ·exact .inr h1
  ·rw[if_neg CV] at hj
   exact .inl (.inr (.inr (.inr ⟨j,u,a,hj,ha,rfl⟩)))
theorem mD.kq(h:mD w N n X){v:Nat}(hv:v<n){s s':Sl}{xs:List bQ}(hs:N.dY[v]? =some s)(hvec:dP w' iT 4 eC s' xs)(hm:aY (λk=>∃a,s.b=some a/\k=a.block) w w')(hb:s'.b=s.b\/(∀a,s'.b=some a->w.heap.size<=a.block))
  {K:aH->Prop} (hK:∀w2,mD w2 {N with dY:=N.dY.set v s'} n (λj=>if j=v then xs else X j)->aY N.dK w w2->w2.heap.size=w'.heap.size->K w2):aI prog DP ((⟨N.go,0,none⟩:Addr).add (v*1)) (sv s') w' K:=by
 have hl:=h.len;have bY:∀a,s'.b=some a->s'.b=s.b\/w.heap.size<=a.block:=λa ha=>hb.imp id λh=>h a ha;have hns:∀k,(∃a,s.b=some a/\k=a.block)->k≠N.go/\k≠N.gi:=λk ⟨a,ha,hk⟩=>by have:=h.sep v s a hs ha;rw[hk];exact this.2
 have ho:=h.sF.aL hm λhk=>(hns _ hk).1 rfl;have hi:=h.LG.aL hm λhk=>(hns _ hk).2 rfl;rw[aS,pU,Nat.mul_one];refine cI ho On (by simp;omega) rfl rfl λw2 Vq yz hz=>?_;have oF:aY (λk=>(∃a,s.b=some a/\k=a.block)\/k=N.go\/k=N.gi) w w2:=(hm.mono λ_ _ h=>.inl h).tr (yz.mono λ_ _ h=>.inr (.inl h));refine hK w2 (h.EX hs (hvec.aL yz λa ha he=>?_) ?_ ?_ oF bY) (oF.mono λk _ hk=>?_) hz
 ·rcases bY a ha with h1|h1
  ·exact(h.sep v s a hs (h1▸ha)).2.1 he
  ·have:=h.sF.lt;omega
 ·rw[<-List.map_set,<-List.take_set] at Vq;exact Vq
 ·rw[List.drop_set_of_lt aB];exact hi.aL yz λe=>h.hd.2.2 e.symm
 ·rcases hk with⟨a,ha,hk⟩|hk|hk
  ·exact .inr (.inr (.inr ⟨v,s,a,hs,ha,hk.symm⟩))
  ·exact .inr (.inl hk)
  ·exact .inr (.inr (.inl hk))
theorem mD.putIn(h:mD w N n X){v:Nat}(hv:v<n){s s':Sl}{xs:List bQ}(hs:N.dY[n+v]? =some s)(hvec:dP w' iT 4 eC s' xs)(hm:aY (λk=>∃a,s.b=some a/\k=a.block) w w')(hb:s'.b=s.b\/(∀a,s'.b=some a->w.heap.size<=a.block))
  {K:aH->Prop} (hK:∀w2,mD w2 {N with dY:=N.dY.set (n+v) s'} n (λj=>if j=n+v then xs else X j)->aY N.dK w w2->w2.heap.size=w'.heap.size->K w2):aI prog DP ((⟨N.gi,0,none⟩:Addr).add (v*1)) (sv s') w' K:=by
 have hl:=h.len;have bY:∀a,s'.b=some a->s'.b=s.b\/w.heap.size<=a.block:=λa ha=>hb.imp id λh=>h a ha;have hns:∀k,(∃a,s.b=some a/\k=a.block)->k≠N.go/\k≠N.gi:=λk ⟨a,ha,hk⟩=>by have:=h.sep (n+v) s a hs ha;rw[hk];exact this.2
 have ho:=h.sF.aL hm λhk=>(hns _ hk).1 rfl;have hi:=h.LG.aL hm λhk=>(hns _ hk).2 rfl;rw[aS,pU,Nat.mul_one];refine cI hi On (by simp;omega) rfl rfl λw2 Vq yz hz=>?_;have oF:aY (λk=>(∃a,s.b=some a/\k=a.block)\/k=N.go\/k=N.gi) w w2:=(hm.mono λ_ _ h=>.inl h).tr (yz.mono λ_ _ h=>.inr (.inr h));refine hK w2 (h.EX hs (hvec.aL yz λa ha he=>?_) ?_ ?_ oF bY) (oF.mono λk _ hk=>?_) hz
 ·rcases bY a ha with h1|h1
  ·exact(h.sep (n+v) s a hs (h1▸ha)).2.2 he
  ·have:=h.LG.lt;omega
 ·rw[List.take_set_of_le aB];exact ho.aL yz h.hd.2.2
 ·rw[<-List.map_set] at Vq
  have:(N.dY.drop n).set v s'=(N.dY.set (n+v) s').drop n:=by rw[List.drop_set];simp;omega
  rwa[this] at Vq
 ·rcases hk with⟨a,ha,hk⟩|hk|hk
  ·exact .inr (.inr (.inr ⟨n+v,s,a,hs,ha,hk.symm⟩))
  ·exact .inr (.inl hk)
  ·exact .inr (.inr (.inl hk))
end
theorem isV_i{x:Int}{n:Nat}{b:Nat}{w:aH}{K:Value->aH->Prop}(hn:cW w b cZ [aD (n:Int)])(hK:∀r:Bool,(r=true↔0<=x/\x<n)->K (.bool r) w):
  lQ prog (.func (.func Uj) #[] #[.pointer (some ⟨b,0,none⟩)]) [aD x] w K:=by
 refine pI cr iH (gJ (ks:=[.i,.c .ptr]) (t:=(x,some ⟨b,0,none⟩,())) ?_);show EO x (some ⟨b,0,none⟩) w λr w'=>K (.bool r) w';unfold EO;refine aJ (λh=>?_) (λh=>?_)
 ·refine aA rfl (aE (k:=.i) (n:Int) (by rw[hn.cell];rfl) (hK _ ?_))
  simp;omega
 ·exact hK false (by simp;omega)
theorem may_i{g n:Nat}{si:Value}{o1:cO}{c1:Nat}{a:bQ}{w:aH}{Q:Bool->aH->Prop}(hh:cW w g tNet [.slice o1 n c1,si])(hQ:∀w' (r:Bool),aN w w'->(r=true↔FA n a)->Q r w'):
  NL (some ⟨g,0,none⟩) (nY a) w Q:=by
 unfold NL;simp only[aG];have k1:=aN.alloc w (.cells #[aD a.f,aD a.t,aD a.w,aD a.m] 128);have YG:cW (w.alloc (.cells #[aD a.f,aD a.t,aD a.w,aD a.m] 128)) w.heap.size 128 (eC a):=cW.iS w _ 128;generalize Vn:w.alloc (.cells #[aD a.f,aD a.t,aD a.w,aD a.m] 128)=w1 at*;generalize Du:w.heap.size=b1 at*;refine aA rfl (aE (k:=.slice) ⟨o1,n,c1⟩ (by rw[aS,(hh.aL k1 id).cell];rfl) ?_);have k2:=aN.alloc w1 (.cells #[aD 0] 3);have o2:=cW.iS w1 #[aD 0] 3;have cL:b1<w1.heap.size:=YG.lt;have o1'':=YG.aL k2 id;generalize w1.alloc (.cells #[aD 0] 3)=w2 at*;generalize RX:w1.heap.size=b2 at*;refine cI o2 cY dJ rfl rfl λw3 o3 m3 _=>?_;have oa:=o1''.aL m3 aB;have on:cW w3 b2 cZ [aD (n:Int)]:=o3;have hk:aN w w3:=aY.fresh (k1.tr k2) m3 λk hk=>aB;have l0:w3.cell? ((⟨b1,0,none⟩:Addr).add 0)=some (aD a.f):=by rw[aS,oa.cell];rfl
 have l1:w3.cell? ((⟨b1,0,none⟩:Addr).add 1)=some (aD a.t):=by rw[aS,oa.cell];rfl
 have l2:w3.cell? ((⟨b1,0,none⟩:Addr).add 2)=some (aD a.w):=by rw[aS,oa.cell];rfl
 have l3:w3.cell? ((⟨b1,0,none⟩:Addr).add 3)=some (aD a.m):=by rw[aS,oa.cell];rfl
 intro J hJ;have no:¬FA n a->Q false w3:=λh=>hQ w3 false hk ⟨λh=>by simp at h,λh'=>absurd h' h⟩;have hJ':∀mid:Bool,(mid=true↔(a.m=-1\/(0<=a.m/\a.m<n/\a.m≠a.f/\a.m≠a.t)))->J (mid,()) w3:=by
  intro mid hmid;apply hJ;refine aE (k:=.i) a.f l0 ?_;refine isV_i on λr hr=>⟨r,rfl,?_⟩;refine aF (λh=>?_) (λh=>no λhm=>?_)
  ·have h1:=hr.1 h
   refine aE (k:=.i) a.t l1 ?_;refine isV_i on λr' No=>⟨r',rfl,?_⟩;refine aF (λh=>?_) (λh=>no λhm=>?_)
   ·have h2:=No.1 h
    refine aE (k:=.i) a.f l0 (aE (k:=.i) a.t l1 ?_);refine aF (λh=>?_) (λh=>no λhm=>?_)
    ·have h3:a.f≠a.t:=by simpa using h
     refine aE (k:=.i) a.w l2 ?_;refine aJ (λh4=>?_) (λh=>no λhm=>?_)
     ·refine aE (k:=.i) a.w l2 ?_
      refine aJ (λh5=>?_) (λh=>no λhm=>?_)
      ·refine hQ w3 mid hk ?_
       rw[hmid];exact⟨λh=>⟨h1.1,h1.2,h2.1,h2.2,h3,h4,h5,h⟩,λh=>h.2.2.2.2.2.2.2⟩
      ·exact h hm.2.2.2.2.2.2.1
     ·exact h hm.2.2.2.2.2.1
    ·have:a.f=a.t:=by simpa using h
     exact hm.2.2.2.2.1 this
   ·rw[No.2 ⟨hm.2.2.1,hm.2.2.2.1⟩] at h;cases h
  ·rw[hr.2 ⟨hm.1,hm.2.1⟩] at h;cases h
 refine aE (k:=.i) a.m l3 ?_;refine aF (λh=>hJ' true ⟨λ_=>.inl (by simpa using h),λ_=>rfl⟩) (λh=>?_);have ra:a.m≠-1:=by simpa using h
 refine aE (k:=.i) a.m l3 ?_;refine isV_i on λr hr=>⟨r,rfl,?_⟩;refine aF (λh=>?_) (λh=>hJ' false ⟨λh=>by simp at h,λh'=>?_⟩)
 ·have h1:=hr.1 h
  refine aE (k:=.i) a.m l3 (aE (k:=.i) a.f l0 ?_);refine aF (λh=>?_) (λh=>hJ' false ⟨λh=>by simp at h,λh'=>?_⟩)
  ·have h2:a.m≠a.f:=by simpa using h
   refine aE (k:=.i) a.m l3 (aE (k:=.i) a.t l1 (hJ' _ ?_))
   constructor
   ·intro h;exact .inr ⟨h1.1,h1.2,h2,by simpa using h⟩
   ·rintro(h|h)
    ·exact absurd h ra
    ·simpa using h.2.2.2
  ·have h2:a.m=a.f:=by simpa using h
   rcases h' with h'|h'
   ·exact absurd h' ra
   ·exact absurd h2 h'.2.2.1
 ·rcases h' with h'|h'
  ·exact absurd h' ra
  ·rw[hr.2 ⟨h'.1,h'.2.1⟩] at h;cases h
def kE(n:Nat)(l:List bQ)(i:Nat):List bQ:=if i<n then dZ l (i:Int) else nQ l ((i:Int)-n)
structure lI(w:aH)(N:mZ)(n:Nat)(l:List bQ):Prop where
 at_:mD w N n (kE n l)
 ok:rV n l
 sz:n<=512
theorem lI.aO{w w':aH}{N:mZ}{n:Nat}{l:List bQ}(h:lI w N n l)(k:aN w w'):lI w' N n l:=⟨h.at_.aO k,h.ok,h.sz⟩
theorem lI.aL{F:Nat->Prop}{w w':aH}{N:mZ}{n:Nat}{l:List bQ}(h:lI w N n l)(k:aY F w w')(hF:∀k,N.dK k->¬F k):lI w' N n l:=⟨h.at_.aL k hF,h.ok,h.sz⟩
end
section
abbrev Cn(x:It):List Value:=[aD x.id,aD x.key]
abbrev itV(x:It):Value:=.agg #[aD x.id,aD x.key]
abbrev zB(x:It):Int×Int×Unit:=(x.id,x.key,())
theorem rW:∀x:It,(Cn x).length=2:=λ_=>rfl
theorem oneIt:∀x:It,∀u∈Cn x,u.oneCell'=true:=by intro x u hu;simp at hu;rcases hu with rfl|rfl<;>rfl
abbrev CW:Int->Value:=λn=>aD n
abbrev Ll:oH:=.i
theorem par_q{i:Nat}(h0:0<i)(h1:i<4611686018427387904):aQ (Int.tdiv (aQ ((i:Int)-1)) 2)=(((i-1)/2:Nat):Int):=by
 rw[gV (n:=(i:Int)-1) aB aB];have e:((i:Int)-1)=((i-1:Nat):Int):=aB;have e2:Int.tdiv ((i-1:Nat):Int) 2=(((i-1)/2:Nat):Int):=by
  rw[Int.tdiv_eq_ediv_of_nonneg aB];omega
 rw[e,e2,gV aB aB]
theorem xD{w:aH}{g:Nat}{cs:List Value}{x:It}{K:aH->Prop}(h:cW w g lH cs)(hl:cs.length=2)(hK:∀w',cW w' g lH (Cn x)->aY (λk=>k=g) w w'->K w'):
  aI prog lH ⟨g,0,none⟩ (itV x) w K:=by
 refine CD h ZJ (by simp[Value.cells,hl]) (by simp[Value.cells,Value.oneCell']) λw' ho hm _=>hK w' ?_ hm;have:cs.take 0++(itV x).cells.toList++cs.drop (0+(itV x).cells.size)=Cn x:=by
  simp[Value.cells,List.drop_of_length_le (show cs.length<=2 by omega)]
 rwa[this] at ho
theorem MV{w:aH}{g:Nat}{x:It}(h:cW w g lH (Cn x)):bW w ⟨g,0,none⟩ 0 (qP [.i,.i] (zB x)):=h.holds λj v hj=>by rw[pU];exact hj
theorem GP{w:aH}{s:Sl}{xs:List It}(h:Rd w s 2 Cn xs){i:Nat}{x:It}(hx:xs[i]? =some x):∃a,s.b=some a/\bW w (a.add (i*2)) 0 (qP [.i,.i] (zB x)):=h.get i x hx
theorem Tw{x y:It}{w:aH}{Q:Bool->aH->Prop}(hQ:∀w',aN w w'->Q (qG x y) w'):kP (zB x) (zB y) w Q:=by
 unfold kP;simp only[aG];have o1:cW (w.alloc (.cells #[aD x.id,aD x.key] lH)) w.heap.size lH (Cn x):=cW.iS w _ _;have k1:=aN.alloc w (.cells #[aD x.id,aD x.key] lH);have vY:(w.alloc (.cells #[aD x.id,aD x.key] lH)).heap.size=w.heap.size+1:=by simp
 generalize w.alloc (.cells #[aD x.id,aD x.key] 242)=w1 at*;have o2:cW (w1.alloc (.cells #[aD y.id,aD y.key] lH)) w1.heap.size lH (Cn y):=cW.iS w1 _ _;have k2:=aN.alloc w1 (.cells #[aD y.id,aD y.key] lH);have YG:=o1.aL k2 id;generalize w1.alloc (.cells #[aD y.id,aD y.key] 242)=w2 at*;have x0:w2.cell? ((⟨w.heap.size,0,none⟩:Addr).add 0)=some (aD x.id):=by rw[aS,YG.cell];rfl
 have x1:w2.cell? ((⟨w.heap.size,0,none⟩:Addr).add 1)=some (aD x.key):=by rw[aS,YG.cell];rfl
 have y0:w2.cell? ((⟨w1.heap.size,0,none⟩:Addr).add 0)=some (aD y.id):=by rw[aS,o2.cell];rfl
 have y1:w2.cell? ((⟨w1.heap.size,0,none⟩:Addr).add 1)=some (aD y.key):=by rw[aS,o2.cell];rfl
 have hk:=k1.tr k2;refine aE (k:=.i) x.key x1 (aE (k:=.i) y.key y1 ?_);refine aJ (λh=>?_) (λh=>?_)
 ·have:qG x y=true:=kH.2 (.inl h)
  rw[<-this];exact hQ w2 hk
 ·refine aE (k:=.i) x.key x1 (aE (k:=.i) y.key y1 ?_)
  refine aF (λhe=>?_) (λhe=>?_)
  ·have uM:x.key=y.key:=by simpa using he
   refine aE (k:=.i) x.id x0 (aE (k:=.i) y.id y0 ?_);have:qG x y=decide (x.id<y.id):=by unfold qG;simp[uM]
   rw[<-this];exact hQ w2 hk
  ·have uM:x.key≠y.key:=by simpa using he
   have:qG x y=false:=by
    have:¬qG x y=true:=by rw[kH];omega
    simpa using this
   rw[<-this];exact hQ w2 hk
structure HS where
 g:Nat
 r:Nat
 s:Sl
def HS.dK(H:HS)(k:Nat):Prop:=k=H.g\/k=H.r\/∃a,H.s.b=some a/\k=a.block
structure VA(w:aH)(H:HS)(xs:List It)(f:Int->Option Int):Prop where
 head:cW w H.g su [sv H.s,.map (some H.r)]
 UP:dP w lH 2 Cn H.s xs
 map:∃n,jT w H.r CW Ll f n
 gr:H.g≠H.r
 sg:∀a,H.s.b=some a->a.block≠H.g
 sr:∀a,H.s.b=some a->a.block≠H.r
section
variable{w:aH}{H:HS}{xs:List It}{f:Int->Option Int}
theorem VA.lt(h:VA w H xs f){k:Nat}(hk:H.dK k):k<w.heap.size:=by
 rcases hk with rfl|rfl|⟨a,ha,rfl⟩
 ·exact h.head.lt
 ·obtain⟨n,hm⟩:=h.map;exact hm.lt
 ·exact h.UP.lt ha
theorem VA.aL{F:Nat->Prop}{w':aH}(h:VA w H xs f)(m:aY F w w')(hF:∀k,H.dK k->¬F k):VA w' H xs f:=
 ⟨h.head.aL m (hF _ (.inl rfl)),h.UP.aL m λa ha=>hF _ (.inr (.inr ⟨a,ha,rfl⟩)),by obtain⟨n,hm⟩:=h.map;exact⟨n,hm.aL m (hF _ (.inr (.inl rfl)))⟩,h.gr,h.sg,h.sr⟩
theorem VA.aO{w':aH}(h:VA w H xs f)(k:aN w w'):VA w' H xs f:=h.aL k λ_ _=>id
theorem VA.c0(h:VA w H xs f):w.cell? ((⟨H.g,0,none⟩:Addr).add 0)=some (sv H.s):=by rw[aS,h.head.cell];rfl
theorem VA.c1(h:VA w H xs f):w.cell? ((⟨H.g,0,none⟩:Addr).add 1)=some (.map (some H.r)):=by rw[aS,h.head.cell];rfl
theorem VA.nN(h:VA w H xs f){i:Nat}(hi:i<xs.length):∃b,H.s.b=some b:=by
 obtain⟨a,ha,_⟩:=(h.UP.rd rW).get i xs[i] (gU hi);exact⟨a,ha⟩
theorem th{i:Nat}{x:It}{Q:aH->Prop}(h:VA w H xs f)(hi:i<xs.length)
  (hQ:∀w',VA w' H (xs.set i x) (λv=>if v=x.id then some (i:Int) else f v)->aY H.dK w w'->Q w'):qW (some ⟨H.g,0,none⟩) (i:Int) (zB x) w Q:=by
 unfold qW;simp only[aG];have o1:cW (w.alloc (.cells #[aD x.id,aD x.key] lH)) w.heap.size lH (Cn x):=cW.iS w _ _;have k1:=aN.alloc w (.cells #[aD x.id,aD x.key] lH);generalize w.alloc (.cells #[aD x.id,aD x.key] 242)=w1 at*;have k1d:aN w w1.drew:=k1.drew;have o1d:cW w1.drew w.heap.size lH (Cn x):=o1;have h1:=h.aO k1d;have hl:=h1.UP.len;obtain⟨b,hb⟩:=h1.nN hi;have hbw:b.block<w.heap.size:=h.lt (.inr (.inr ⟨b,hb,rfl⟩));refine aA rfl (aE (k:=.slice) H.s h1.c0 (aA rfl (aE (k:=.map) (some H.r) h1.c1 ?_)));refine aE (k:=.i) x.id (by rw[aS,o1d.cell];rfl) (bJ (zB x) (MV o1d) ?_);refine⟨⟨aB,aB⟩,aA hb ?_⟩;rw[lJ];refine h1.UP.store rW hb hi x (v:=itV x) rfl ZJ (oneIt x) λw2 v2 m2 z2=>?_;refine⟨by rw[aS,(o1d.aL m2 aB).cell];rfl,?_⟩;obtain⟨n,hm⟩:=h1.map;refine Ts (kn:=Ll) pB kT (z:=(0:Int)) NA (hm.aL m2 (Ne.symm (h.sr b hb))) x.id (i:Int) λw3 hm3 m3 _=>?_;refine hQ w3 ⟨(h1.head.aL m2 (Ne.symm (h.sg b hb))).aL m3 h.gr,v2.aL m3 λa ha=>h.sr a ha,⟨_,hm3⟩,h.gr,h.sg,h.sr⟩ ?_;exact(k1d.wk.trans m2 λk _ hk=>.inr (.inr ⟨b,hb,hk⟩)).trans m3 λk _ hk=>.inr (.inl hk)
end
theorem up_i{w:aH}{H:HS}{ys:List It}{f:Int->Option Int}{i:Nat}{Q:aH->Prop}(h:VA w H ys f)(hi:i<ys.length)(fW:ys.length<4611686018427387904)(hu:UpI ys i)(hp:FK f ys i)(ha:RF ys)
  (hQ:∀w' zs f',VA w' H zs f'->HOk zs->uF f' zs->(∀u,u∈zs↔u∈ys)->zs.length=ys.length->aY H.dK w w'->Q w'):Es (some ⟨H.g,0,none⟩) (i:Int) w Q:=by
 unfold Es;have hl:=h.UP.len;obtain⟨x,hx⟩:∃x,ys[i]? =some x:=⟨_,gU hi⟩;obtain⟨b,hb,hh⟩:=GP (h.UP.rd rW) hx;refine aA rfl (aE (k:=.slice) H.s h.c0 ⟨⟨aB,aB⟩,aA hb ?_⟩);rw[lJ];refine bJ (zB x) hh ?_;simp only[aG];have k1:=aN.alloc w (.cells #[aD 0,aD 0] lH);have o1:cW (w.alloc (.cells #[aD 0,aD 0] lH)) w.heap.size lH (Cn ⟨0,0⟩):=cW.iS w _ _;generalize w.alloc (.cells #[aD 0,aD 0] 242)=w1 at*;refine xD (x:=x) o1 rfl λw2 o2 m2=>?_;have k2:aN w w2:=aY.fresh k1 m2 λk hk=>aB;generalize Nq:w.heap.size=b3 at*;have hHb:∀k,H.dK k->¬k=b3:=λk hk e=>by have:=h.lt hk;omega
 have z0:ys.set i x=ys:=by
  apply BH;intro j;rw[wC]
  by_cases e:i=j
  ·subst e;rw[if_pos rfl,if_pos hi,hx]
  ·rw[if_neg e]
 refine bK (λc t w3=>∃(i':Nat) (FU:List It) (f':Int->Option Int),c=i'/\t=((i':Int),())/\VA w3 H FU f'/\i'<FU.length/\FU.length=ys.length/\UpI (FU.set i' x) i'/\FK f' (FU.set i' x) i'/\RF (FU.set i' x)/\
   (∀u,u∈FU.set i' x↔u∈ys)/\cW w3 b3 lH (Cn x)/\aY H.dK w w3) i
  ⟨i,ys,f,rfl,rfl,h.aO k2,hi,rfl,by rw[z0];exact hu,by rw[z0];exact hp,by rw[z0];exact ha,by rw[z0];exactλ_=>Iff.rfl,o2,k2.wk⟩ ?_
 rintro i t w3 ⟨_,FU,f',rfl,rfl,h3,hi3,hl3,hu3,hp3,ha3,hm3,o3,m3⟩ X hX;dsimp only;have Wg:(FU.set i x)[i]? =some x:=by rw[wC,if_pos rfl,if_pos hi3]
 have finish:∀{w4:aH},aN w3 w4->UpI (FU.set i x) i->HOk (FU.set i x)->qW (some ⟨H.g,0,none⟩) (i:Int) (zB x) w4 Q:=λ{w4} k4 _ mL=>by
  refine th (x:=x) (h3.aO k4) hi3 λw5 h5 m5=>?_;refine hQ w5 _ _ h5 mL (hp3.done Wg λj z hj hz e=>hj (ha3 j i z x hz Wg e)) hm3 (by rw[pR];exact hl3) ((m3.tr k4.wk).tr m5)
 have d3:aN w3 w3.drew:=aY.drew (aY.refl _ w3);refine aJ (λuN=>?_) (λQC=>?_)
 ·have hi0:0<i:=aB
  have hpi:(i-1)/2<i:=aB;obtain⟨y,hy⟩:∃y,FU[(i-1)/2]? =some y:=⟨_,gU aB⟩;have hzp:(FU.set i x)[(i-1)/2]? =some y:=by rw[wC,if_neg aB];exact hy
  have hpar:=par_q hi0 aB;have Ar:=h3.aO d3;obtain⟨b',bY,La⟩:=GP (Ar.UP.rd rW) hy;refine bJ (zB x) (MV (o3.aL d3 id)) (aA rfl (aE (k:=.slice) H.s Ar.c0 ⟨by decide,?_⟩));rw[hpar,lJ];refine⟨⟨aB,aB⟩,aA bY (bJ (zB y) La ?_)⟩;refine Tw (x:=x) (y:=y) λw4 k4=>?_;have k34:=d3.tr k4;have h4:=h3.aO k34;refine aF (λcL=>?_) (λlK=>?_)
  ·obtain⟨b',bY,La⟩:=GP (h4.UP.rd rW) hy
   refine aA rfl (aE (k:=.slice) H.s h4.c0 ⟨by decide,⟨aB,aB⟩,aA bY (bJ (zB y) La ?_)⟩);refine th (x:=y) h4 hi3 λw5 h5 m5=>⟨by decide,?_⟩;have hss:((FU.set i x).set i y).set ((i-1)/2) x=(FU.set i y).set ((i-1)/2) x:=by rw[List.set_set]
   have BB:=up_step hu3 hi0 Wg hzp cL;have Qx:=hp3.swap Wg hzp aB;have dK:=ha3.swap Wg hzp;have Vr:=Sj Wg hzp;rw[hss] at BB Qx dK;simp only[hss] at Vr;exact hX ((i-1)/2) _ _ aB ⟨(i-1)/2,FU.set i y,_,rfl,rfl,h5,by rw[pR];omega,by rw[pR];exact hl3,BB,Qx,dK,λu=>(Vr u).trans (hm3 u),(o3.aL k34 id).aL m5 λhk=>hHb _ hk rfl,(m3.tr k34.wk).tr m5⟩
  ·exact bJ (zB x) (MV (o3.aL k34 id)) (finish k34 hu3 (up_end hu3 Wg (.inr ⟨y,hzp,lK⟩)))
 ·exact bJ (zB x) (MV (o3.aL d3 id)) (finish d3 hu3 (up_end hu3 Wg (.inl aB)))
theorem down_i{w:aH}{H:HS}{ys:List It}{f:Int->Option Int}{Q:aH->Prop}(h:VA w H ys f)(hi:0<ys.length)(fW:ys.length<2305843009213693952)(hu:Yd ys 0)(hp:FK f ys 0)(ha:RF ys)
  (hQ:∀w' zs f',VA w' H zs f'->HOk zs->uF f' zs->(∀u,u∈zs↔u∈ys)->zs.length=ys.length->aY H.dK w w'->Q w'):PO (some ⟨H.g,0,none⟩) 0 w Q:=by
 unfold PO;have hl:=h.UP.len;obtain⟨x,hx⟩:∃x,ys[0]? =some x:=⟨_,gU hi⟩;obtain⟨b,hb,hh⟩:=GP (h.UP.rd rW) hx;refine aA rfl (aE (k:=.slice) H.s h.c0 ⟨⟨aB,aB⟩,aA hb ?_⟩);refine bJ (zB x) hh ?_;simp only[aG];have k1:=aN.alloc w (.cells #[aD 0,aD 0] lH);have o1:cW (w.alloc (.cells #[aD 0,aD 0] lH)) w.heap.size lH (Cn ⟨0,0⟩):=cW.iS w _ _;generalize w.alloc (.cells #[aD 0,aD 0] 242)=w1 at*;refine xD (x:=x) o1 rfl λw2 o2 m2=>?_;have k2:aN w w2:=aY.fresh k1 m2 λk hk=>aB;generalize Nq:w.heap.size=b3 at*;have hHb:∀k,H.dK k->¬k=b3:=λk hk e=>by have:=h.lt hk;omega
 have z0:ys.set 0 x=ys:=by
  apply BH;intro j;rw[wC]
  by_cases e:0=j
  ·subst e;rw[if_pos rfl,if_pos hi,hx]
  ·rw[if_neg e]
 refine bK (λc t w3=>∃(i':Nat) (FU:List It) (f':Int->Option Int),c=ys.length-i'/\t=((i':Int),())/\VA w3 H FU f'/\i'<FU.length/\FU.length=ys.length/\Yd (FU.set i' x) i'/\FK f' (FU.set i' x) i'/\RF (FU.set i' x)/\
   (∀u,u∈FU.set i' x↔u∈ys)/\cW w3 b3 lH (Cn x)/\aY H.dK w w3) ys.length
  ⟨0,ys,f,rfl,rfl,h.aO k2,hi,rfl,by rw[z0];exact hu,by rw[z0];exact hp,by rw[z0];exact ha,by rw[z0];exactλ_=>Iff.rfl,o2,k2.wk⟩ ?_
 rintro c t w3 ⟨i,FU,f',hci,rfl,h3,hi3,hl3,hu3,hp3,ha3,hm3,o3,m3⟩ X hX;subst hci;dsimp only;have Wg:(FU.set i x)[i]? =some x:=by rw[wC,if_pos rfl,if_pos hi3]
 have zne:∀j,j≠i->(FU.set i x)[j]? =FU[j]?:=λj hj=>by rw[wC,if_neg (Ne.symm hj)]
 have hzl:(FU.set i x).length=ys.length:=by rw[pR];exact hl3
 have d3:aN w3 w3.drew:=aY.drew (aY.refl _ w3);have finish:∀{w4:aH},aN w3 w4->HOk (FU.set i x)->qW (some ⟨H.g,0,none⟩) (i:Int) (zB x) w4 Q:=λ{w4} k4 mL=>by
  refine th (x:=x) (h3.aO k4) hi3 λw5 h5 m5=>?_;refine hQ w5 _ _ h5 mL (hp3.done Wg λj z hj hz e=>hj (ha3 j i z x hz Wg e)) hm3 hzl ((m3.tr k4.wk).tr m5)
 have e1:aQ (aQ ((2:Int)*(i:Int))+1)=((2*i+1:Nat):Int):=by
  rw[gV (n:=(2:Int)*(i:Int)) aB aB,gV aB aB];omega
 have e2:aQ (((2*i+1:Nat):Int)+1)=((2*i+2:Nat):Int):=by
  rw[gV aB aB];omega
 intro J hJ;have after:∀(k:Nat) (w4:aH),aN w3 w4->(k=2*i+1\/k=2*i+2)->(ys.length<=k->ys.length<=2*i+1)->(∀y,FU[k]? =some y->∀s,0<s->(s-1)/2=i->∀v,FU[s]? =some v->qG v y=false)->J ((k:Int),()) w4:=by
  intro k w4 k4 hk hkl jo;apply hJ;dsimp only;have d4:aN w4 w4.drew:=aY.drew (aY.refl _ w4);have k4d:=k4.tr d4;have h4:=h3.aO k4d;refine aA rfl (aE (k:=.slice) H.s h4.c0 ?_);refine aJ (λlK=>?_) (λcL=>?_)
  ·refine bJ (zB x) (MV (o3.aL k4d id)) (finish k4d (Ze hu3 Wg λs hs gy v hv=>?_))
   have vY:=(kY.1 hv).1;have:=hkl aB;omega
  ·have hkl':k<FU.length:=aB
   obtain⟨y,hy⟩:∃y,FU[k]? =some y:=⟨_,gU hkl'⟩;have hki:k≠i:=aB;have hzk:(FU.set i x)[k]? =some y:=by rw[zne k hki];exact hy
   have hminz:∀s,0<s->(s-1)/2=i->∀v,(FU.set i x)[s]? =some v->qG v y=false:=λs hs gy v hv=>by
    rw[zne s aB] at hv;exact jo y hy s hs gy v hv
   obtain⟨b',bY,La⟩:=GP (h4.UP.rd rW) hy;have gI:0<=(k:Int)/\(k:Int)<(H.s.l:Int):=⟨aB,aB⟩;rw[lJ];refine aA rfl (aE (k:=.slice) H.s h4.c0 ⟨gI,aA bY (bJ (zB y) La (bJ (zB x) (MV (o3.aL k4d id)) ?_))⟩);refine Tw (x:=y) (y:=x) λw6 k6=>?_;have k46:=k4d.tr k6;have h6:=h3.aO k46;refine aF (λhb=>?_) (λhb=>?_)
   ·have lK:qG y x=false:=by simpa using hb
    exact bJ (zB x) (MV (o3.aL k46 id)) (finish k46 (Ze hu3 Wg λs hs gy v hv=>le_trans' lK (hminz s hs gy v hv)))
   ·have GJ:qG y x=true:=by simpa using hb
    obtain⟨b',bY,La⟩:=GP (h6.UP.rd rW) hy;refine aA rfl (aE (k:=.slice) H.s h6.c0 ⟨gI,aA bY (bJ (zB y) La ?_)⟩);refine th (x:=y) h6 hi3 λw8 h8 m8=>?_;have hss:((FU.set i x).set i y).set k x=(FU.set i y).set k x:=by rw[List.set_set]
    have BB:=aAY hu3 aB aB Wg hzk GJ hminz;have Qx:=hp3.swap Wg hzk (Ne.symm hki);have dK:=ha3.swap Wg hzk;have Vr:=Sj Wg hzk;rw[hss] at BB Qx dK;simp only[hss] at Vr;exact hX (ys.length-k) _ _ aB ⟨k,FU.set i y,_,rfl,rfl,h8,by rw[pR];omega,by rw[pR];exact hl3,BB,Qx,dK,λu=>(Vr u).trans (hm3 u),(o3.aL k46 id).aL m8 λhk=>hHb _ hk rfl,(m3.tr k46.wk).tr m8⟩
 have Ar:=h3.aO d3;refine aA rfl (aE (k:=.slice) H.s Ar.c0 ?_);rw[e1,e2];refine aJ (λcL=>?_) (λlK=>?_)
 ·have DL:2*i+2<FU.length:=aB
  obtain⟨u,fj⟩:∃u,FU[2*i+2]? =some u:=⟨_,gU DL⟩;obtain⟨v,jY⟩:∃v,FU[2*i+1]? =some v:=⟨_,gU aB⟩;obtain⟨b1,Du,hh1⟩:=GP (Ar.UP.rd rW) fj;obtain⟨b2,RX,hh2⟩:=GP (Ar.UP.rd rW) jY;rw[lJ,lJ];refine aA rfl (aE (k:=.slice) H.s Ar.c0 ⟨⟨aB,aB⟩,aA Du (bJ (zB u) hh1 ?_)⟩);refine aA rfl (aE (k:=.slice) H.s Ar.c0 ⟨⟨aB,aB⟩,aA RX (bJ (zB v) hh2 ?_)⟩);refine Tw (x:=u) (y:=v) λw9 k9=>?_;refine aF (λhb=>?_) (λhb=>?_)
  ·refine after (2*i+2) w9 (d3.tr k9) (.inr rfl) (λh=>aB) λy hy s hs gy z hz=>?_
   rw[fj] at hy;cases hy;have:s=2*i+1\/s=2*i+2:=aB;rcases this with rfl|rfl
   ·rw[jY] at hz;cases hz;exact ua hb
   ·rw[fj] at hz;cases hz;exact HG _
  ·refine after (2*i+1) w9 (d3.tr k9) (.inl rfl) (λh=>h) λy hy s hs gy z hz=>?_
   rw[jY] at hy;cases hy;have:s=2*i+1\/s=2*i+2:=aB;rcases this with rfl|rfl
   ·rw[jY] at hz;cases hz;exact HG _
   ·rw[fj] at hz;cases hz;exact hb
 ·refine after (2*i+1) w3.drew d3 (.inl rfl) (λh=>h) λy hy s hs gy z hz=>?_
  have vY:=(kY.1 hz).1;have:s=2*i+1\/s=2*i+2:=aB;rcases this with rfl|rfl
  ·rw[hy] at hz;cases hz;exact HG _
  ·omega
end
section
theorem mG{q:List It}(h:BK q):q.Nodup:=h.imp λ{x y} hxy e=>by subst e;rw[HG] at hxy;cases hxy
theorem NY{xs:List It}(h:RF xs):xs.Nodup:=by
 refine Ws.2 λi j hi hj RW e=>?_;have:=h i j _ _ (gU hi) (gU hj) (by rw[e]);omega
theorem Ho{q xs:List It}(h:q.Nodup)(h':xs.Nodup)(hm:∀u,u∈q↔u∈xs):xs.length=q.length:=((List.perm_ext_iff_of_nodup h h').2 hm).length_eq.symm
def oO(w:aH)(H:HS)(q:List It):Prop:=BK q/\∃xs f,VA w H xs f/\HOk xs/\uF f xs/\(∀u,u∈q↔u∈xs)
def rO(w:aH)(H:HS)(q:List It):Prop:=oO w H q\/(q=[]/\H.s=bD/\H.r=H.g/\cW w H.g su [sv bD,.map none])
section
variable{w:aH}{H:HS}{q:List It}
theorem oO.sC(h:oO w H q):BK q:=h.1
theorem oO.one(h:oO w H q):Co q:=by
 obtain⟨_,xs,f,_,_,hp,hm⟩:=h
 exactλx hx y hy e=>hp.one x ((hm x).1 hx) y ((hm y).1 hy) e
theorem oO.lt(h:oO w H q){k:Nat}(hk:H.dK k):k<w.heap.size:=by obtain⟨_,xs,f,h,_⟩:=h;exact h.lt hk
theorem oO.aL{F:Nat->Prop}{w':aH}(h:oO w H q)(m:aY F w w')(hF:∀k,H.dK k->¬F k):oO w' H q:=by
 obtain⟨h0,xs,f,h,r⟩:=h;exact⟨h0,xs,f,h.aL m hF,r⟩
theorem rO.lt(h:rO w H q){k:Nat}(hk:H.dK k):k<w.heap.size:=by
 rcases h with h|⟨_,hs,hr,h⟩
 ·exact h.lt hk
 ·rcases hk with rfl|rfl|⟨a,ha,_⟩
  ·exact h.lt
  ·rw[hr];exact h.lt
  ·rw[hs] at ha;cases ha
theorem rO.aL{F:Nat->Prop}{w':aH}(h:rO w H q)(m:aY F w w')(hF:∀k,H.dK k->¬F k):rO w' H q:=h.imp (λh=>h.aL m hF) λ⟨h0,hs,hr,h⟩=>⟨h0,hs,hr,h.aL m (hF _ (.inl rfl))⟩
theorem rO.aO{w':aH}(h:rO w H q)(k:aN w w'):rO w' H q:=h.aL k λ_ _=>id
theorem vf{Q:Int->aH->Prop}(h:rO w H q)(hQ:Q (q.length:Int) w):CO (some ⟨H.g,0,none⟩) w Q:=by
 unfold CO;refine aF (λh=>by simp at h) (λ_=>aA rfl ?_);rcases h with⟨h0,xs,f,h,_,hp,hm⟩|⟨rfl,hs,hr,h⟩
 ·have:=h.UP.len
  have hl:=Ho (mG h0) (NY hp.apart) hm;refine aE (k:=.slice) H.s h.c0 ?_;rw[this,hl];exact hQ
 ·exact aE (k:=.slice) bD (by rw[aS,h.cell];rfl) hQ
theorem XM{v k:Int}(hl:Cu q v k=false)(u:It):u∈(nW q v k).1↔u=⟨v,k⟩\/(u∈q/\u.id≠v):=by
 unfold nW;rw[hl];simp only[Bool.false_eq_true,if_false];rw[yI,jG];simp
theorem XO(cR:List Value)(k:Int):∀(ys:List It) (i:Nat) (x:It),ys[i]? =some x->(ys.flatMap Cn++cR).set (i*2+1) (aD k)=(ys.set i ⟨x.id,k⟩).flatMap Cn++cR
 | [],i,x,h=>by simp at h
 |y::ys,0,x,h=>by simp at h;subst h;rfl
 |y::ys,i+1,x,h=>by
  simp at h;have ih:=XO cR k ys i x h;have e:(i+1)*2+1=(i*2+1)+2:=aB;rw[e];simp only[List.set_cons_succ,FC,List.cons_append,List.nil_append];rw[ih]
theorem aAR{s:Sl}{ys:List It}{i:Nat}{x:It}{k:Int}{K:aH->Prop}(h:dP w lH 2 Cn s ys){a:Addr}(ha:s.b=some a)(hx:ys[i]? =some x)
  (hK:∀w',dP w' lH 2 Cn s (ys.set i ⟨x.id,k⟩)->aY (λk=>k=a.block) w w'->K w'):aI prog cZ ((a.add (i*2)).add 1) (aD k) w K:=by
 rcases h.gN with⟨h1,_⟩|⟨g,cR,hb,ho,hl⟩
 ·rw[h1] at ha;cases ha
 ·rw[hb] at ha;cases ha
  have hi:=(kY.1 hx).1;have QN:=bI rW ys;rw[aS,aS,pU];refine cI ho cY (by rw[mH,QN];omega) rfl rfl λw' h2 h3 _=>hK w' ⟨by rw[pR];exact h.len,h.cap,h.max,.inr ⟨g,cR,hb,?_,?_⟩⟩ h3
  ·rw[<-XO cR k ys i x hx];exact h2
  ·rw[<-hl,mH,mH,bI rW,bI rW,pR]
theorem ZH{IQ key:Int}{Q:Bool->aH->Prop}(h:rO w H q)(fW:q.length<1000000)
  (hQ:∀w' H',oO w' H' (nW q IQ key).1->H'.g=H.g->aY H.dK w w'->(∀k,H'.dK k->H.dK k\/w.heap.size<=k)->Q (nW q IQ key).2 w'):rQ (some ⟨H.g,0,none⟩) IQ key w Q:=by
 unfold rQ;refine aF (λh=>by simp at h) (λ_=>?_);intro J hJ;have sS:∀w1 H1,oO w1 H1 q->H1.g=H.g->aY H.dK w w1->(∀k,H1.dK k->H.dK k\/w.heap.size<=k)->J () w1:=by
  intro w1 H1 h1 hg1 m1 f1;apply hJ;rw[<-hg1];obtain⟨h0,xs,f,hA,mL,hp,hm⟩:=h1;have Cj:=Ho (mG h0) (NY hp.apart) hm;have KU:=hA.UP.len;have jA:Co q:=λx hx y hy e=>hp.one x ((hm x).1 hx) y ((hm y).1 hy) e;obtain⟨n,Rq⟩:=hA.map;refine aA rfl (aE (k:=.map) (some H1.r) hA.c1 ?_);refine PE (kn:=Ll) pB kT (z:=(0:Int)) NA Rq IQ ?_;intro J2 Ra;have dW:∀(w3:aH) (H3:HS) (ys:List It) (f3:Int->Option Int) (i:Nat) (x:It),VA w3 H3 ys f3->ys[i]? =some x->x.id=IQ->ys.length<2000000->UpI (ys.set i ⟨IQ,key⟩) i->FK f3 (ys.set i ⟨IQ,key⟩) i->RF (ys.set i ⟨IQ,key⟩)->
    (∀u,u∈(nW q IQ key).1↔u∈ys.set i ⟨IQ,key⟩)->Cu q IQ key=false->H3.g=H1.g->aY H.dK w w3->(∀k,H3.dK k->H.dK k\/w.heap.size<=k)->J2 ((i:Int),()) w3:=by
   intro w3 H3 ys f3 i x hA3 hx hid hyl Vo hpl hap fP MB zc m3 ry;apply Ra;have hi:=(kY.1 hx).1;obtain⟨b,hb⟩:=hA3.nN hi;have hl3:=hA3.UP.len;rw[<-zc];refine aA rfl (aE (k:=.slice) H3.s hA3.c0 ⟨⟨aB,aB⟩,aA hb ?_⟩);rw[lJ];refine aAR (k:=key) hA3.UP hb hx λw4 v4 m4=>?_;rw[hid] at v4;have bh:H3.dK b.block:=.inr (.inr ⟨b,hb,rfl⟩);have hA4:VA w4 H3 (ys.set i ⟨IQ,key⟩) f3:=⟨hA3.head.aL m4 (Ne.symm (hA3.sg b hb)),v4,by obtain⟨n,hm⟩:=hA3.map;exact⟨n,hm.aL m4 (Ne.symm (hA3.sr b hb))⟩,hA3.gr,hA3.sg,hA3.sr⟩;have M:∀{wa wb:aH} {G:Nat->Prop},aY H.dK w wa->aY G wa wb->(∀k,G k->H3.dK k)->aY H.dK w wb:=λma mb hG=>ma.trans mb λk hk hGk=>(ry k (hG k hGk)).elim id λh=>absurd h aB;have m4':=M m3 m4 λk hk=>by rw[show k=b.block from hk];exact bh
   refine up_i hA4 (by rw[pR];exact hi) (by rw[pR];omega) Vo hpl hap λw5 zs f5 hA5 hok5 hp5 Kz hl5 m5=>?_;have hr:(nW q IQ key).2=true:=by unfold nW;rw[MB];rfl
   rw[<-hr];exact hQ w5 H3 ⟨CG h0 IQ key,zs,f5,hA5,hok5,hp5,λu=>(fP u).trans (Kz u).symm⟩ (zc.trans hg1) (M m4' m5 λ_ h=>h) ry
  cases hf:f IQ with
  |none=>
   refine aF (λ_=>?_) (λh=>by cases h);have hni:∀z∈xs,z.id≠IQ:=λz hz e=>by
    obtain⟨j,hj⟩:=oZ.1 hz;have:=hp.at_ j z hj;rw[e,hf] at this;cases this
   have MB:Cu q IQ key=false:=by
    have:Fs q IQ=none:=by
     cases hk:Fs q IQ with
     |none=>rfl
     |some k=>exact absurd rfl (hni _ ((hm _).1 (ZO hk)))
    unfold Cu;rw[this]
   refine aA rfl (aE (k:=.slice) H1.s hA.c0 (aA rfl (aE (k:=.slice) H1.s hA.c0 ?_)));simp only[aG];have k1:=aN.alloc w1 (.cells #[(aD IQ),aD key] lH);have hlit:=dP.lit w1 lH Cn rW [(⟨IQ,key⟩:It)] #[(aD IQ),aD key] rfl (by simp[maxLen]);have hA':=hA.aO k1;generalize w1.alloc (.cells #[aD IQ,aD key] 242)=w6 at*;refine fO pt rW oneIt hA'.UP (hlit.rd rW) (by simp only[List.length_singleton];omega) (by simp only[List.length_singleton];omega) λr w7 v7 m7 f7 hrn=>?_;have rj:¬∃a,H1.s.b=some a/\H1.g=a.block:=λ⟨a,ha,e⟩=>hA.sg a ha e.symm;have hrs:¬∃a,H1.s.b=some a/\H1.r=a.block:=λ⟨a,ha,e⟩=>hA.sr a ha e.symm;have hgl:H1.g<w6.heap.size:=hA'.lt (.inl rfl);have hrl:H1.r<w6.heap.size:=hA'.lt (.inr (.inl rfl));have sep:∀a,r.b=some a->a.block≠H1.g/\a.block≠H1.r:=λa ha=>by
    rcases f7 with e|⟨a',e,FX⟩
    ·exact⟨hA.sg a (e▸ha),hA.sr a (e▸ha)⟩
    ·rw[e] at ha;cases ha;exact⟨aB,aB⟩
   refine aA rfl ?_;rw[aS];refine cI (hA'.head.aL m7 rj) Iz dJ rfl rfl λw8 o8 m8 _=>?_;have hsl':H1.s.l=xs.length:=KU;rw[hsl'];obtain⟨n',hmap'⟩:=hA'.map;have hA8:VA w8 ⟨H1.g,H1.r,r⟩ (xs++[⟨IQ,key⟩]) f:=⟨o8,v7.aL m8 λa ha=>(sep a ha).1,⟨n',(hmap'.aL m7 hrs).aL m8 hA.gr.symm⟩,hA.gr,λa ha=>(sep a ha).1,λa ha=>(sep a ha).2⟩;have GH:(xs++[(⟨IQ,key⟩:It)]).set xs.length ⟨IQ,key⟩=xs++[⟨IQ,key⟩]:=by
    rw[List.set_append_right _ _ (iX _)];simp
   have cU:∀(j:Nat) (z:It),(xs++[(⟨IQ,key⟩:It)])[j]? =some z->(j<xs.length/\xs[j]? =some z)\/(j=xs.length/\z=⟨IQ,key⟩):=λj z hz=>by
    by_cases hj:j<xs.length
    ·rw[Fp hj] at hz;exact .inl ⟨hj,hz⟩
    ·rw[Fq aB] at hz
     have:j-xs.length=0:=by have:=(kY.1 hz).1;simp at this;omega
     rw[this] at hz;simp at hz;exact .inr ⟨aB,hz.symm⟩
   have mw1:aY H.dK w w6:=m1.tr k1.wk;have has1:∀k,H1.dK k->k<w.heap.size->H.dK k:=λk hk cL=>(f1 k hk).elim id λh=>aB;refine dW w8 ⟨H1.g,H1.r,r⟩ _ f xs.length ⟨IQ,key⟩ hA8 dJ rfl (by simp;omega) ?_ ?_ ?_ ?_ MB rfl ?_ ?_
   ·rw[GH]
    refine⟨λj hj YH u v hu hv=>?_,λj hj YH _ u v hu hv=>?_⟩
    ·rcases cU j v hv with⟨h1,h2⟩|⟨h1,_⟩
     ·rcases cU _ u hu with⟨h3,h4⟩|⟨h3,_⟩
      ·exact mL j hj u v h4 h2
      ·omega
     ·omega
    ·rcases cU j v hv with⟨h1,h2⟩|⟨h1,_⟩<;>omega
   ·rw[GH]
    refine⟨λj z hj hz=>?_,λv k hv=>?_⟩
    ·rcases cU j z hz with⟨_,h2⟩|⟨h1,_⟩
     ·exact hp.at_ j z h2
     ·omega
    ·obtain⟨z,hz,e⟩:=hp.dom v k hv
     exact⟨z,by simp[hz],e⟩
   ·rw[GH]
    intro i j x y hx hy e;rcases cU i x hx with⟨_,h2⟩|⟨h1,rfl⟩<;>rcases cU j y hy with⟨_,h4⟩|⟨h3,rfl⟩
    ·exact hp.apart i j x y h2 h4 e
    ·exact absurd e (hni x (zN h2))
    ·exact absurd e.symm (hni y (zN h4))
    ·omega
   ·rw[GH]
    intro u;rw[XM MB,jS,kZ,hm]
    constructor
    ·rintro(rfl|⟨h,_⟩)
     ·exact .inr rfl
     ·exact .inl h
    ·rintro(h|rfl)
     ·exact .inr ⟨h,hni u h⟩
     ·exact .inl rfl
   ·refine(mw1.trans m7 λk hk ⟨a,ha,e⟩=>has1 k (.inr (.inr ⟨a,ha,e⟩)) hk).trans m8 λk hk e=>has1 k (.inl e) hk
   ·rintro k (rfl|rfl|⟨a,ha,rfl⟩)
    ·exact f1 _ (.inl rfl)
    ·exact f1 _ (.inr (.inl rfl))
    ·rcases f7 with e|⟨a',e,FX⟩
     ·exact f1 _ (.inr (.inr ⟨a,e▸ha,rfl⟩))
     ·have pE:r.b=some a:=ha
      rw[e] at pE;cases pE;exact .inr (iG mw1.size FX)
  |some v=>
   refine aF (λh=>by cases h) (λ_=>?_);obtain⟨z,hz,jg⟩:=hp.dom IQ v hf;obtain⟨j,hj⟩:=oZ.1 hz;have hvj:v=(j:Int):=by have:=hp.at_ j z hj;rw[jg,hf] at this;exact uZ this
   subst hvj;show aC _ _;have YH:=(kY.1 hj).1;have hkq:Fs q IQ=some z.key:=by rw[<-jg];exact Yw jA ((hm z).2 hz)
   obtain⟨b,hb,hh⟩:=GP (hA.UP.rd rW) hj;refine aA rfl (aE (k:=.slice) H1.s hA.c0 ?_);have ej:((some (j:Int):Option Int).getD 0)=(j:Int):=rfl;show(0<=(j:Int)/\(j:Int)<_)/\_;refine⟨⟨aB,aB⟩,aA hb (aE (k:=.i) z.key hh.2.1 ?_)⟩;refine aJ (λlK=>?_) (λcL=>?_)
   ·have MB:Cu q IQ key=true:=by unfold Cu;rw[hkq];simpa using lK
    have e1:(nW q IQ key)=(q,false):=by unfold nW;rw[MB];rfl
    rw[e1] at hQ;exact hQ w1 H1 ⟨h0,xs,f,hA,mL,hp,hm⟩ hg1 m1 f1
   ·have MB:Cu q IQ key=false:=by unfold Cu;rw[hkq];simp;omega
    have GJ:qG ⟨IQ,key⟩ z=true:=kH.2 (.inl (by show key<z.key;omega));have FX:=ua GJ;have Rf:∀i,(xs.set j ⟨IQ,key⟩)[i]? =if i=j then some ⟨IQ,key⟩ else xs[i]?:=λi=>by
     rw[wC]
     by_cases e:j=i
     ·subst e;simp[YH]
     ·rw[if_neg e,if_neg (Ne.symm e)]
    refine dW w1 H1 xs f j z hA hj jg aB ?_ ?_ ?_ ?_ MB rfl m1 f1
    ·refine⟨λi hi RW u v hu hv=>?_,λi hi RW hj0 u v hu hv=>?_⟩
     ·rw[Rf] at hu hv
      rw[if_neg RW] at hv
      by_cases e:(i-1)/2=j
      ·rw[if_pos e] at hu;cases hu
       exact le_trans' FX (mL i hi z v (by rw[e];exact hj) hv)
      ·rw[if_neg e] at hu;exact mL i hi u v hu hv
     ·rw[Rf,if_neg aB] at hu hv
      exact le_trans' (mL j hj0 u z hu hj) (mL i hi z v (by rw[RW];exact hj) hv)
    ·refine⟨λi x RW hx=>?_,λv k hv=>?_⟩
     ·rw[Rf,if_neg RW] at hx;exact hp.at_ i x hx
     ·obtain⟨y,hy,e⟩:=hp.dom v k hv
      obtain⟨i,hi⟩:=oZ.1 hy
      by_cases RW:i=j
      ·subst RW
       rw[hj] at hi;cases hi;exact⟨⟨IQ,key⟩,oZ.2 ⟨i,by rw[Rf,if_pos rfl]⟩,jg.symm.trans e⟩
      ·exact⟨y,oZ.2 ⟨i,by rw[Rf,if_neg RW];exact hi⟩,e⟩
    ·have dN:∀(i:Nat) (x:It),(xs.set j ⟨IQ,key⟩)[i]? =some x->∃y,xs[i]? =some y/\y.id=x.id:=λi x hx=>by
      rw[Rf] at hx
      by_cases e:i=j
      ·rw[if_pos e] at hx;cases hx;subst e;exact⟨z,hj,jg⟩
      ·rw[if_neg e] at hx;exact⟨x,hx,rfl⟩
     intro i i' x y hx hy e;obtain⟨x',h1,e1⟩:=dN i x hx;obtain⟨y',h2,e2⟩:=dN i' y hy;exact hp.apart i i' x' y' h1 h2 (by rw[e1,e2,e])
    ·intro u
     rw[XM MB]
     constructor
     ·rintro(rfl|⟨hu,gH⟩)
      ·exact oZ.2 ⟨j,by rw[Rf,if_pos rfl]⟩
      ·obtain⟨i,hi⟩:=oZ.1 ((hm u).1 hu)
       have:i≠j:=λe=>by subst e;rw[hj] at hi;cases hi;exact gH jg
       exact oZ.2 ⟨i,by rw[Rf,if_neg this];exact hi⟩
     ·intro hu
      obtain⟨i,hi⟩:=oZ.1 hu;rw[Rf] at hi
      by_cases e:i=j
      ·rw[if_pos e] at hi;cases hi;exact .inl rfl
      ·rw[if_neg e] at hi
       refine .inr ⟨(hm u).2 (zN hi),λe'=>e ?_⟩;exact hp.apart i j u z hi hj (by rw[e',jg])
 rcases h with h|⟨rfl,hs,hr,h⟩
 ·obtain⟨_,xs,f,hA,_⟩:=id h
  refine aA rfl (aE (k:=.map) (some H.r) hA.c1 ?_);exact aF (λh=>by simp at h) (λ_=>sS w H h rfl (aY.refl _ _) λk hk=>.inl hk)
 ·refine aA rfl (aE (k:=.map) none (by rw[aS,h.cell];rfl) ?_)
  refine aF (λ_=>?_) (λh=>by simp at h);refine qV (ek:=CW) (kn:=Ll) λhm k1=>?_;have cL:=h.lt;have LP:(w.alloc (.map #[] 0)).heap.size=w.heap.size+1:=by simp
  have h1:=h.aL k1 id;generalize w.alloc (.map #[] 0)=w1 at*;refine aA rfl ?_;rw[aS];refine cI h1 Ui dJ rfl rfl λw2 o2 m2 _=>?_;refine sS w2 ⟨H.g,w.heap.size,bD⟩ ⟨List.Pairwise.nil,[],λ_=>none,⟨o2,dP.nil _ _ _ _,⟨_,hm.aL m2 aB⟩,by show H.g≠w.heap.size;omega,(λa ha=>by cases ha),(λa ha=>by cases ha)⟩,?_,⟨by simp,by simp⟩,by simp⟩ rfl (k1.wk.trans m2 λk _ e=>.inl e) ?_
  ·intro j _ u v hu;simp at hu
  ·rintro k (rfl|rfl|⟨a,ha,_⟩)
   ·exact .inl (.inl rfl)
   ·exact .inr (iX _)
   ·cases ha
end
end
section
section
variable{w:aH}{H:HS}{q:List It}
theorem Pop_i{x:It}{Q:Int->Int->Int->aH->Prop}(h:oO w H (x::q))(fW:q.length<1000000)
  (hQ:∀w' H',oO w' H' q->H'.g=H.g->(∀k,H'.dK k↔H.dK k)->aY H.dK w w'->Q x.id x.key 0 w'):HK (some ⟨H.g,0,none⟩) w Q:=by
 unfold HK;obtain⟨h0,xs,f,hA,mL,hp,hm⟩:=id h;have Cj:=Ho (mG h0) (NY hp.apart) hm;have KU:=hA.UP.len;have hn:xs.length=q.length+1:=by rw[Cj];simp
 refine vf (.inl h) ?_;refine aF (λh=>by simp at h;omega) (λ_=>?_);obtain⟨r,hr⟩:∃r,xs[0]? =some r:=⟨_,gU aB⟩;have hrx:r=x:=by
  have h1:=(hm r).2 (zN hr);rcases jL.1 h1 with e|h1
  ·exact e
  ·have h2:=(List.pairwise_cons.1 h0).1 r h1
   obtain⟨j,hj⟩:=oZ.1 ((hm x).1 dJ);have:=mL.min hr j x hj;rw[this] at h2;cases h2
 subst hrx;obtain⟨kM,QX⟩:∃y,xs[xs.length-1]? =some y:=⟨_,gU aB⟩;have wr1:aQ ((H.s.l:Int)-1)=((xs.length-1:Nat):Int):=by rw[gV aB aB];omega
 have d0:aN w w.drew:=aY.drew (aY.refl _ w);intro J hJ;have after:∀(w2:aH) (b1 b2:Nat),aN w w2->w.heap.size<=b1->w.heap.size<=b2->cW w2 b1 lH (Cn r)->cW w2 b2 lH (Cn kM)->J (some ⟨b1,0,none⟩,some ⟨b2,0,none⟩,()) w2:=by
  intro w2 b1 b2 k2 lb1 lb2 o1 o2;apply hJ;dsimp only;have d2:aN w2 w2.drew:=aY.drew (aY.refl _ w2);have k2d:=k2.tr d2;have hA2:=hA.aO k2d;have p1:=o1.aL d2 id;have p2:=o2.aL d2 id;have nb1:∀k,H.dK k->¬b1=k:=λk hk e=>by have:=hA.lt hk;omega
  have nb2:∀k,H.dK k->¬b2=k:=λk hk e=>by have:=hA.lt hk;omega
  refine aA rfl (aE (k:=.slice) H.s hA2.c0 (aA rfl (aE (k:=.slice) H.s hA2.c0 ?_)));rw[wr1,oV,lJ,Nat.sub_zero,Nat.sub_zero];have Rs:=hA2.UP.cap;refine⟨⟨aB,aB⟩,aA rfl ?_⟩;rw[aS];refine cI hA2.head Iz dJ rfl rfl λw3 o3 m3 _=>?_;have d3:aN w3 w3.drew:=aY.drew (aY.refl _ w3);have gm:∀k,k=H.g->H.dK k:=λk e=>.inl e;have hv3:dP w3.drew lH 2 Cn ⟨H.s.b,xs.length-1,H.s.c⟩ (xs.take (xs.length-1)):=((hA2.UP.aL m3 λa ha=>hA.sg a ha).aL d3 (λ_ _=>id)).take aB;obtain⟨n,Rq⟩:=hA2.map;have hmap3:=(Rq.aL m3 (Ne.symm hA.gr)).aL d3 id;have o3':cW w3.drew H.g su [sv ⟨H.s.b,xs.length-1,H.s.c⟩,.map (some H.r)]:=o3;have q1:=(p1.aL m3 (nb1 _ (.inl rfl))).aL d3 id;have q2:=(p2.aL m3 (nb2 _ (.inl rfl))).aL d3 id;have M3:aY H.dK w w3.drew:=(k2d.wk.trans m3 λk _ e=>gm k e).tr d3.wk;refine aA rfl (aE (k:=.map) (some H.r) (by rw[aS,o3'.cell];rfl) (aA rfl (aE (k:=.i) r.id (by rw[aS,q1.cell];rfl) ?_)));refine Ig (kn:=Ll) pB kT hmap3 r.id λw4 hm4 m4 _=>?_;have o4:=o3'.aL m4 hA.gr;have hv4:=hv3.aL m4 λa ha=>hA.sr a ha;have M4:aY H.dK w w4:=M3.trans m4 λk _ e=>.inr (.inl e);have r1:=q1.aL m4 (nb1 _ (.inr (.inl rfl)));have r2:=q2.aL m4 (nb2 _ (.inr (.inl rfl)));have d4:aN w4 w4.drew:=aY.drew (aY.refl _ w4);have has':∀(k:Nat),HS.dK ⟨H.g,H.r,⟨H.s.b,xs.length-1,H.s.c⟩⟩ k↔H.dK k:=λk=>Iff.rfl;have hq':BK q:=(List.pairwise_cons.1 h0).2;have hrq:r∉q:=λh=>by have:=(List.pairwise_cons.1 h0).1 r h;rw[HG] at this;cases this
  have memq:∀u,u∈q↔u∈xs/\u≠r:=λu=>by
   rw[<-hm u,jL]
   constructor
   ·intro h;exact⟨.inr h,λe=>hrq (e▸h)⟩
   ·rintro⟨h|h,gH⟩
    ·exact absurd h gH
    ·exact h
  refine aA rfl (aE (k:=.slice) ⟨H.s.b,xs.length-1,H.s.c⟩ (by rw[aS,o4.cell];rfl) ?_);refine aJ (λuN=>?_) (λQC=>?_)
  ·have Gp:0<xs.length-1:=by simpa using uN
   have Aw:∀j,j<xs.length-1->(xs.take (xs.length-1))[j]? =xs[j]?:=λj hj=>VE hj;have hA4:VA w4.drew ⟨H.g,H.r,⟨H.s.b,xs.length-1,H.s.c⟩⟩ (xs.take (xs.length-1)) (λy=>if y=r.id then none else f y):=⟨o4.aL d4 id,hv4.aL d4 (λ_ _=>id),⟨_,hm4.aL d4 id⟩,hA.gr,hA.sg,hA.sr⟩
   have ltake:(xs.take (xs.length-1)).length=xs.length-1:=by simp
   obtain⟨b,hb⟩:=hA4.nN (i:=0) aB;refine aA rfl (aE (k:=.slice) ⟨H.s.b,xs.length-1,H.s.c⟩ hA4.c0 (aA rfl (bJ (zB kM) (MV (r2.aL d4 id)) ⟨⟨aB,by show(0:Int)<((xs.length-1:Nat):Int);omega⟩,aA hb ?_⟩)));refine hA4.UP.store rW hb (i:=0) aB kM (v:=itV kM) rfl ZJ (oneIt kM) λw5 v5 m5 _=>?_;have hA5:VA w5 ⟨H.g,H.r,⟨H.s.b,xs.length-1,H.s.c⟩⟩ ((xs.take (xs.length-1)).set 0 kM) (λy=>if y=r.id then none else f y):=
    ⟨hA4.head.aL m5 (Ne.symm (hA.sg b hb)),v5,by obtain⟨n,hm⟩:=hA4.map;exact⟨n,hm.aL m5 (Ne.symm (hA.sr b hb))⟩,hA.gr,hA.sg,hA.sr⟩
   have bh:H.dK b.block:=.inr (.inr ⟨b,hb,rfl⟩);have M5:aY H.dK w w5:=(M4.tr d4.wk).trans m5 λk _ e=>by rw[show k=b.block from e];exact bh
   have zq:∀j z,((xs.take (xs.length-1)).set 0 kM)[j]? =some z->(j=0/\z=kM)\/(j≠0/\j<xs.length-1/\xs[j]? =some z):=λj z hz=>by
    have YH:=(kY.1 hz).1;rw[pR,ltake] at YH;rw[wC] at hz
    by_cases e:0=j
    ·subst e;rw[if_pos rfl,if_pos aB] at hz;cases hz;exact .inl ⟨rfl,rfl⟩
    ·rw[if_neg e,Aw j YH] at hz;exact .inr ⟨Ne.symm e,YH,hz⟩
   have yput0:((xs.take (xs.length-1)).set 0 kM)[0]? =some kM:=by rw[wC,if_pos rfl,if_pos aB]
   have yput:∀j z,j≠0->j<xs.length-1->xs[j]? =some z->((xs.take (xs.length-1)).set 0 kM)[j]? =some z:=λj z hj YH hz=>by
    rw[wC,if_neg (Ne.symm hj),Aw j YH];exact hz
   have ne0:∀j z,j≠0->xs[j]? =some z->z.id≠r.id:=λj z hj hz e=>hj (hp.apart j 0 z r hz hr e);have gH:kM.id≠r.id:=ne0 _ _ aB QX;refine down_i (H:=⟨H.g,H.r,⟨H.s.b,xs.length-1,H.s.c⟩⟩) hA5 (by rw[pR];omega) (by rw[pR];omega) ⟨λj hj hj0 u v hu hv=>?_,λj _ _ h0=>aB⟩ ⟨λj z hj hz=>?_,λv k hv=>?_⟩ ?_ λw6 zs f6 hA6 hok6 hp6 hm6 hl6 m6=>?_
   ·rcases zq _ _ hu with⟨h1,_⟩|⟨_,_,h1⟩
    ·omega
    ·rcases zq _ _ hv with⟨h2,_⟩|⟨_,_,h2⟩
     ·omega
     ·exact mL j hj u v h1 h2
   ·rcases zq _ _ hz with⟨h1,_⟩|⟨_,_,h1⟩
    ·omega
    ·rw[if_neg (ne0 j z hj h1)];exact hp.at_ j z h1
   ·by_cases e:v=r.id
    ·rw[if_pos e] at hv;cases hv
    ·rw[if_neg e] at hv
     obtain⟨z,hz,ez⟩:=hp.dom v k hv;obtain⟨j,hj⟩:=oZ.1 hz;have YH:=(kY.1 hj).1;have hj0:j≠0:=λe0=>by subst e0;rw[hr] at hj;cases hj;exact e ez.symm
     by_cases hjn:j=xs.length-1
     ·subst hjn
      rw[QX] at hj;cases hj;exact⟨kM,zN yput0,ez⟩
     ·exact⟨z,zN (yput j z hj0 aB hj),ez⟩
   ·intro i j a b ha hb e
    rcases zq _ _ ha with⟨h1,rfl⟩|⟨h1,h1',h2⟩<;>rcases zq _ _ hb with⟨h3,rfl⟩|⟨h3,Wk,h4⟩
    ·omega
    ·have:=hp.apart _ _ _ _ QX h4 e;omega
    ·have:=hp.apart _ _ _ _ h2 QX e;omega
    ·exact hp.apart _ _ _ _ h2 h4 e
   ·have M6:aY H.dK w w6.drew:=((M5.trans m6 λk _ hk=>hk)).tr (aY.drew (aY.refl _ w6))
    have d6:aN w6 w6.drew:=aY.drew (aY.refl _ w6);have s1:=(((r1.aL d4 id).aL m5 (nb1 _ bh)).aL m6 λhk=>nb1 _ hk rfl).aL d6 id;refine aA rfl (aE (k:=.i) r.id (by rw[aS,s1.cell];rfl) (aA rfl (aE (k:=.i) r.key (by rw[aS,s1.cell];rfl) ?_)));refine hQ _ ⟨H.g,H.r,⟨H.s.b,xs.length-1,H.s.c⟩⟩ ⟨hq',zs,f6,hA6.aO d6,hok6,hp6,λu=>?_⟩ rfl has' M6;rw[hm6 u,memq u]
    constructor
    ·rintro⟨hu,Fw⟩
     obtain⟨j,hj⟩:=oZ.1 hu;have YH:=(kY.1 hj).1;have hj0:j≠0:=λe0=>by subst e0;rw[hr] at hj;cases hj;exact Fw rfl
     by_cases hjn:j=xs.length-1
     ·subst hjn
      rw[QX] at hj;cases hj;exact zN yput0
     ·exact zN (yput j u hj0 aB hj)
    ·intro hu
     obtain⟨j,hj⟩:=oZ.1 hu;rcases zq _ _ hj with⟨_,rfl⟩|⟨h1,_,h2⟩
     ·exact⟨zN QX,λe=>gH (by rw[e])⟩
     ·exact⟨zN h2,λe=>ne0 j u h1 h2 (by rw[e])⟩
  ·have hn1:xs.length=1:=by
    have:¬((xs.length-1:Nat):Int)>0:=QC;omega
   have hq0:q=[]:=Ct aB;have s1:=r1.aL d4 id;refine aA rfl (aE (k:=.i) r.id (by rw[aS,s1.cell];rfl) (aA rfl (aE (k:=.i) r.key (by rw[aS,s1.cell];rfl) ?_)));have t0:xs.take (xs.length-1)=[]:=by rw[hn1];rfl
   rw[t0] at hv4;refine hQ _ ⟨H.g,H.r,⟨H.s.b,xs.length-1,H.s.c⟩⟩ ⟨hq',[],_,⟨o4.aL d4 id,hv4.aL d4 (λ_ _=>id),⟨_,hm4.aL d4 id⟩,hA.gr,hA.sg,hA.sr⟩,λj _ u v hu=>by simp at hu,⟨by simp,λv k hv=>?_⟩,by rw[hq0];simp⟩ rfl has' (M4.tr d4.wk)
   replace hv:(if v=r.id then none else f v)=some k:=hv
   by_cases e:v=r.id
   ·rw[if_pos e] at hv;cases hv
   ·rw[if_neg e] at hv
    obtain⟨z,hz,ez⟩:=hp.dom v k hv;obtain⟨j,hj⟩:=oZ.1 hz;have YH:=(kY.1 hj).1;have:j=0:=aB;subst this;rw[hr] at hj;cases hj;exact absurd ez.symm e
 have hAd:=hA.aO d0;obtain⟨b,hb,hh⟩:=GP (hAd.UP.rd rW) hr;obtain⟨b',bY,La⟩:=GP (hAd.UP.rd rW) QX;refine aA rfl (aE (k:=.slice) H.s hAd.c0 ⟨⟨aB,aB⟩,aA hb (bJ (zB r) hh ?_)⟩);refine aA rfl (aE (k:=.slice) H.s hAd.c0 (aA rfl (aE (k:=.slice) H.s hAd.c0 ?_)));rw[wr1,lJ];refine⟨⟨aB,aB⟩,aA bY (bJ (zB kM) La ?_)⟩;simp only[aG];have kA:=aN.alloc w.drew (.cells #[aD 0,aD 0] 242);have oA:cW (w.drew.alloc (.cells #[aD 0,aD 0] 242)) w.drew.heap.size lH (Cn ⟨0,0⟩):=cW.iS w.drew _ _;have sA:(w.drew.alloc (.cells #[aD 0,aD 0] 242)).heap.size=w.heap.size+1:=by simp
 generalize w.drew.alloc (.cells #[aD 0,aD 0] 242)=wA at*;have kB:=aN.alloc wA (.cells #[aD 0,aD 0] 242);have oB:cW (wA.alloc (.cells #[aD 0,aD 0] 242)) wA.heap.size lH (Cn ⟨0,0⟩):=cW.iS wA _ _;generalize wA.alloc (.cells #[aD 0,aD 0] 242)=wB at*;have hA_:=hAd.aO kA;have hB_:=hA_.aO kB;have szd:w.drew.heap.size=w.heap.size:=rfl;rw[szd] at oA ⊢;have cellsOf:∀{wx:aH},VA wx H xs f->bW wx (b.add (Int.toNat (0:Int)*2)) 0 [aD r.id,aD r.key]/\bW wx (b'.add ((xs.length-1)*2)) 0 [aD kM.id,aD kM.key]/\wx.cell? ((⟨H.g,0,none⟩:Addr).add 0)=some (.slice H.s.b H.s.l H.s.c):=λ{wx} hx=>by
  obtain⟨c,hc,h1⟩:=GP (hx.UP.rd rW) hr;obtain⟨c',Vv,h2⟩:=GP (hx.UP.rd rW) QX;rw[hb] at hc;cases hc;rw[bY] at Vv;cases Vv;exact⟨h1,h2,hx.c0⟩
 obtain⟨a1,a2,a3⟩:=cellsOf hA_;obtain⟨b1,b2,b3⟩:=cellsOf hB_;have kAB:aN w wB:=(d0.tr kA).tr kB;have oA':=oA.aL kB id;have lA:∀k,H.dK k->¬k=w.heap.size:=λk hk e=>by have:=hA.lt hk;omega
 have lB:∀k,H.dK k->¬k=wA.heap.size:=λk hk e=>by have:=hA.lt hk;omega
 constructor
 ·refine⟨a2,a3,a3,a1,a3,b2,b3,b3,b1,b3,?_⟩
  refine xD (x:=r) oA' rfl λw9 o9 m9=>?_;obtain⟨c1,c2,c3⟩:=cellsOf (hB_.aL m9 lA);refine⟨c2,c3,c3,?_⟩;refine xD (x:=kM) (oB.aL m9 aB) rfl λeY Ci YN=>?_;refine after eY _ _ ((aY.fresh kAB m9 λk e=>aB).fresh YN λk e=>aB) (iX _) aB (o9.aL YN aB) Ci
 ·refine⟨a2,a3,a3,a1,a3,b2,b3,b3,b1,b3,?_⟩
  refine xD (x:=r) oB rfl λw9 o9 m9=>?_;obtain⟨c1,c2,c3⟩:=cellsOf (hB_.aL m9 lB);refine⟨c2,c3,c3,?_⟩;refine xD (x:=kM) (oA'.aL m9 aB) rfl λeY Ci YN=>?_;refine after eY _ _ ((aY.fresh kAB m9 λk e=>aB).fresh YN λk e=>aB) aB (iX _) (o9.aL YN aB) Ci
end
end
theorem iP{w:aH}{g:Nat}{e:TypeId}{cs:List Value}(h:cW w g e cs):bW w ⟨g,0,none⟩ 0 cs:=h.holds λj v hj=>by simpa using hj
theorem laid_i{key:bQ->Int}{s:Sl}{xs:List bQ}{a:bQ}{i:Nat}{qJ:Bool}{w:aH}{Q:Sl->aH->Prop}(hs:dP w iT 4 eC s xs)(lU:YR key xs)(qN:zJ key xs (key a) i)(hf:qJ=true↔∃x∈xs,key x=key a)(hb:xs.length<=512)
  (hQ:∀s' w',dP w' iT 4 eC s' (DR key xs a)->aY (λk=>∃b,s.b=some b/\k=b.block) w w'->(s'.b=s.b\/∀b,s'.b=some b->w.heap.size<=b.block)->Q s' w'):rC s (i:Int) qJ (nY a) w Q:=by
 cases qJ with
 |true=>
  obtain⟨x,hx,hk⟩:=hf.1 rfl;have hi:i<xs.length:=(kY.1 (qN.qJ lU hx hk)).1;exact aAQ hs hi λw' h1 h2=>hQ s w' (by rw[<-qN.ins_at lU hx hk];exact h1) h2 (.inl rfl)
 |false=>
  have hn:∀x∈xs,key x≠key a:=λx hx hk=>by have:=hf.2 ⟨x,hx,hk⟩;cases this
  exact ot hs qN.le aB λs' w' h1 h2 h3=>hQ s' w' (by rw[<-qN.ins_new hn];exact h1) h2 (h3.imp id λ⟨b,bY,cL⟩ c hc=>by rw[bY] at hc;cases hc;exact cL)
theorem Put_i{N:mZ}{n:Nat}{l:List bQ}{a:bQ}{w:aH}{Q:Bool->aH->Prop}(h:lI w N n l)
  (hQ:∀w' N',lI w' N' n (uY n l a).1->N'.g=N.g->aY N.dK w w'->(∀k,N'.dK k->N.dK k\/w.heap.size<=k)->Q (uY n l a).2 w'):HJ (some ⟨N.g,0,none⟩) (nY a) w Q:=by
 unfold HJ;simp only[aG];have k1:=aN.alloc w (.cells #[aD a.f,aD a.t,aD a.w,aD a.m] 128);have oa1:cW (w.alloc (.cells #[aD a.f,aD a.t,aD a.w,aD a.m] 128)) w.heap.size 128 (eC a):=cW.iS w _ 128;generalize Vn:w.alloc (.cells #[aD a.f,aD a.t,aD a.w,aD a.m] 128)=w1 at*;generalize Du:w.heap.size=b1 at*;have hold:∀k,N.dK k->k≠b1:=λk hk=>by have:=h.at_.lt hk;omega
 refine aF (λh=>by simp at h) (λ_=>?_);refine bJ (nY a) (iP oa1) ?_;have h1:=h.aO k1;refine may_i h1.at_.head λw2 r k2 hr=>?_;have h2:=h1.aO k2;have LO:=k1.tr k2;have oa2:=oa1.aL k2 id;refine aF (λhr0=>?_) (λhr0=>?_)
 ·have uX:¬FA n a:=λhm=>by rw[hr.2 hm] at hr0;cases hr0
  have e:uY n l a=(l,false):=by unfold uY;rw[if_neg uX]
  rw[e] at hQ;exact hQ w2 N h2 rfl LO.wk λk hk=>.inl hk
 have hm:FA n a:=hr.1 (by cases r<;>simp at hr0 ⊢);have LP:=h.sz;have hf0:=hm.1;have hf1:=hm.2.1;have ht0:=hm.2.2.1;have ht1:=hm.2.2.2.1;obtain⟨v,hv⟩:∃v:Nat,a.f=(v:Int):=⟨a.f.toNat,aB⟩;obtain⟨u,hu⟩:∃u:Nat,a.t=(u:Int):=⟨a.t.toNat,aB⟩;have hvn:v<n:=aB;have Dr:u<n:=aB;have la:∀{w':aH},cW w' b1 128 (eC a)->w'.cell? ((⟨b1,0,none⟩:Addr).add 0)=some (aD (v:Int))/\w'.cell? ((⟨b1,0,none⟩:Addr).add 1)=some (aD (u:Int))/\w'.cell? ((⟨b1,0,none⟩:Addr).add 2)=some (aD a.w):=λho=>by
  refine⟨?_,?_,?_⟩<;>rw[aS,ho.cell]
  ·rw[<-hv];rfl
  ·rw[<-hu];rfl
  ·rfl
 have d2:aN w2 w2.drew:=aY.drew (aY.refl _ w2);have h2':=h2.aO d2;have oa2':=oa2.aL d2 id;refine aA rfl (aE (k:=.slice) ⟨some ⟨N.go,0,none⟩,n,n⟩ h2'.at_.c0 (aE (k:=.i) (v:Int) (la oa2').1 ?_));refine⟨⟨aB,by show _<(n:Int);omega⟩,aA rfl ?_⟩;obtain⟨s,hs,tZ⟩:=h2'.at_.out hvn;refine aE (k:=.slice) s tZ (aE (k:=.i) (u:Int) (la oa2').2.1 ?_);have rL:=h2'.at_.row v s hs;have hX:kE n l v=dZ l a.f:=by rw[hv];simp[kE,hvn]
 rw[hX] at rL;have hlenO:=h.ok.vG a.f;rw[<-hu];refine byTo_i (rL.rd kL) (h.ok.sC.out a.f) aB λi qJ w3 k3 qN Hc=>?_;have h3:=h2'.aO k3;have qy:=(LO.tr d2).tr k3;have oa3:=oa2'.aL k3 id;intro J hJ;have hfind:(qJ=true)↔∃x∈l,x.f=a.f/\x.t=a.t:=by
  rw[Hc]
  constructor
  ·rintro⟨x,hx,hk⟩;exact⟨x,(eJ.1 hx).1,(eJ.1 hx).2,hk⟩
  ·rintro⟨x,hx,QM,DL⟩;exact⟨x,eJ.2 ⟨hx,QM⟩,DL⟩
 have hJ':uY n l a=(MA l a,true)->J () w3.drew:=by
  intro e;rw[e] at hQ;apply hJ;have d3:aN w3 w3.drew.drew:=aY.drew (aY.drew (aY.refl _ w3));have h4:=h3.aO d3;have oa4:=oa3.aL d3 id;have k4:=qy.tr d3;generalize w3.drew.drew=w4 at*;refine aA rfl (aE (k:=.slice) ⟨some ⟨N.go,0,none⟩,n,n⟩ h4.at_.c0 (aE (k:=.i) (v:Int) (la oa4).1 ?_));refine aA rfl (aE (k:=.slice) ⟨some ⟨N.go,0,none⟩,n,n⟩ h4.at_.c0 (aE (k:=.i) (v:Int) (la oa4).1 ?_));refine⟨⟨aB,by show _<(n:Int);omega⟩,aA rfl ?_⟩;obtain⟨s',QL,hcell4⟩:=h4.at_.out hvn;rw[hs] at QL;cases QL;refine aE (k:=.slice) s hcell4 (bJ (nY a) (iP oa4) ?_);have hrow4:=h4.at_.row v s hs;rw[hX] at hrow4;refine laid_i hrow4 (h.ok.sC.out a.f) qN Hc aB λs6 w5 hv6 m5 hb6=>?_;have gH:∀k,(∃b,s.b=some b/\k=b.block)->N.dK k:=λk ⟨b,hb,hk⟩=>.inr (.inr (.inr ⟨v,s,b,hs,hb,hk.symm⟩));have oa5:=oa4.aL m5 λhk=>hold _ (gH _ hk) rfl;refine⟨(la oa5).1,?_,⟨aB,by show _<(n:Int);omega⟩,aA rfl ?_⟩
  ·have:=h4.at_.head.aL m5 λ⟨b,hb,hk⟩=>(h4.at_.sep v s b hs hb).1 hk.symm
   rw[aS,this.cell];rfl
  refine h4.at_.kq hvn hs hv6 m5 hb6 λw6 h6 m6 z6=>?_;have oa6:=oa4.aL m6 λhk=>hold _ hk rfl;have hh6:∀k,({N with dY:=N.dY.set v s6}:mZ).dK k->N.dK k\/w4.heap.size<=k:=λk hk=>
   mZ.OU (P:=λk=>w4.heap.size<=k) hs (λa ha=>hb6.imp id λhq=>hq a ha) hk
  have d6:aN w6 w6.drew:=aY.drew (aY.refl _ w6);have h6':=h6.aO d6;have oa6':=oa6.aL d6 id;refine aA rfl (aE (k:=.slice) ⟨some ⟨N.gi,0,none⟩,n,n⟩ h6'.c1 (aE (k:=.i) (u:Int) (la oa6').2.1 ?_));refine⟨⟨aB,by show _<(n:Int);omega⟩,aA rfl ?_⟩;obtain⟨s8,hs8,hcell8⟩:=h6'.LU Dr;refine aE (k:=.slice) s8 hcell8 (aE (k:=.i) (v:Int) (la oa6').1 ?_);have hX8:(if n+u=v then DR bQ.t (dZ l a.f) a else kE n l (n+u))=nQ l a.t:=by
   have:¬(n+u=v):=aB;have h2:¬(n+u<n):=aB;simp only[this,if_false,kE,h2];rw[hu];congr 1;omega
  have hrow8:=h6'.row (n+u) s8 hs8;rw[hX8] at hrow8;have hlenI:=h.ok.FH a.t;rw[<-hv];refine Zh (hrow8.rd kL) (h.ok.sC.LU a.t) aB λi8 f8 w7 k7 low8 hf8=>?_;have d7:aN w7 w7.drew:=aY.drew (aY.refl _ w7);have k7':=k7.tr d7;have h7:=h6'.aO k7';have oa7:=oa6'.aL k7' id;refine aA rfl (aE (k:=.slice) ⟨some ⟨N.gi,0,none⟩,n,n⟩ h7.c1 (aE (k:=.i) (u:Int) (la oa7).2.1 ?_));refine aA rfl (aE (k:=.slice) ⟨some ⟨N.gi,0,none⟩,n,n⟩ h7.c1 (aE (k:=.i) (u:Int) (la oa7).2.1 ?_));refine⟨⟨aB,by show _<(n:Int);omega⟩,aA rfl ?_⟩;obtain⟨s9,hs9,hcell9⟩:=h7.LU Dr;rw[hs8] at hs9;cases hs9;refine aE (k:=.slice) s8 hcell9 (bJ (nY a) (iP oa7) ?_);have hrow9:=h7.row (n+u) s8 hs8;rw[hX8] at hrow9;have hfin:qJ=true↔∃x∈nQ l a.t,x.f=a.f:=by
   rw[hfind]
   constructor
   ·rintro⟨x,hx,QM,DL⟩;exact⟨x,iB.2 ⟨hx,DL⟩,QM⟩
   ·rintro⟨x,hx,hk⟩;exact⟨x,(iB.1 hx).1,hk,(iB.1 hx).2⟩
  refine laid_i hrow9 (h.ok.sC.LU a.t) low8 hfin aB λQK w8 hv12 m8 hb12=>?_;have hne8:∀k,(∃b,s8.b=some b/\k=b.block)->({N with dY:=N.dY.set v s6}:mZ).dK k:=λk ⟨b,hb,hk⟩=>.inr (.inr (.inr ⟨n+u,s8,b,hs8,hb,hk.symm⟩));have hb1w:b1<w4.heap.size:=oa4.lt;have hb1n:¬({N with dY:=N.dY.set v s6}:mZ).dK b1:=λhk=>by
   rcases hh6 b1 hk with h'|h'
   ·exact hold _ h' rfl
   ·omega
  have oa8:=oa7.aL m8 λhk=>hb1n (hne8 _ hk);refine⟨(la oa8).2.1,?_,⟨aB,by show _<(n:Int);omega⟩,aA rfl ?_⟩
  ·have:=h7.head.aL m8 λ⟨b,hb,hk⟩=>(h7.sep (n+u) s8 b hs8 hb).1 hk.symm
   rw[aS,this.cell];rfl
  refine h7.putIn Dr hs8 hv12 m8 hb12 λw9 h9 m9 z9=>?_;have m46:aY N.dK w w6:=k4.wk.tr m6;have s67:w4.heap.size<=w7.drew.heap.size:=iG m6.size (iG d6.size k7'.size);have m69:aY N.dK w w9:=((m46.tr d6.wk).tr k7'.wk).trans m9 λk hk lT=>by
   rcases hh6 k lT with h'|h'
   ·exact h'
   ·omega
  refine hQ w9 {N with dY:=(N.dY.set v s6).set (n+u) QK} ⟨?_,h.ok.LG hm,h.sz⟩ rfl m69 λk hk=>?_
  ·have Rr:(λj=>if j=n+u then DR bQ.f (nQ l a.t) a else(λj=>if j=v then DR bQ.t (dZ l a.f) a else kE n l j) j)=kE n (MA l a):=by
    funext j
    by_cases hj1:j=n+u
    ·subst hj1
     have h2:¬(n+u<n):=aB;simp only[if_true,kE,h2,if_false];rw[xn h.ok.sC,if_pos aB];congr 2;omega
    ·simp only[hj1,if_false]
     by_cases hj2:j=v
     ·subst hj2
      simp only[if_true,kE,hvn];rw[Yp h.ok.sC,if_pos aB,hv]
     ·simp only[hj2,if_false,kE]
      split
      ·rw[Yp h.ok.sC,if_neg aB]
      ·rw[xn h.ok.sC,if_neg aB]
   rw[<-Rr];exact h9
  ·rcases mZ.OU (N:={N with dY:=N.dY.set v s6}) (P:=λk=>w7.drew.heap.size<=k) hs8 (λa ha=>hb12.imp id λhq=>hq a ha) hk with h'|h'
   ·rcases hh6 k h' with h''|h''
    ·exact .inl h''
    ·exact .inr aB
   ·exact .inr aB
 have d3:aN w3 w3.drew:=aY.drew (aY.refl _ w3);have Wk:=h3.aO d3;have oa3':=oa3.aL d3 id;refine aF (λhfd=>?_) (λhfd=>?_)
 ·obtain⟨x,hx,fh⟩:=Hc.1 hfd
  have hxi:=qN.qJ (h.ok.sC.out a.f) hx fh;have hi:i<(dZ l a.f).length:=(kY.1 hxi).1;have Cj:=eJ.1 hx;have uv:jM l a.f a.t=some x:=by rw[<-Cj.2,<-fh];exact yJ h.ok.sC Cj.1
  refine aA rfl (aE (k:=.slice) ⟨some ⟨N.go,0,none⟩,n,n⟩ Wk.at_.c0 (aE (k:=.i) (v:Int) (la oa3').1 ?_));refine⟨⟨aB,by show _<(n:Int);omega⟩,aA rfl ?_⟩;obtain⟨s',QL,hcell3⟩:=Wk.at_.out hvn;rw[hs] at QL;cases QL;refine aE (k:=.slice) s hcell3 ?_;have Xu:=Wk.at_.row v s hs;rw[hX] at Xu;have hl3:=Xu.len;refine⟨⟨aB,aB⟩,?_⟩;obtain⟨b,hb,hh⟩:=(Xu.rd kL).get i x hxi;refine aA hb (aE (k:=.i) x.w ?_ (aE (k:=.i) a.w (la oa3').2.2 ?_))
  ·exact(oS.1 hh) 2 _ rfl
  refine aJ (λFX=>?_) (λFX=>?_)
  ·have e:uY n l a=(l,false):=by unfold uY;rw[if_pos hm,uv];simp only[FX,if_true]
   rw[e] at hQ;exact hQ _ N Wk rfl (qy.tr d3).wk λk hk=>.inl hk
  ·exact hJ' (by unfold uY;rw[if_pos hm,uv];simp only[FX,if_false])
 ·have uv:jM l a.f a.t=none:=by
   cases QN:jM l a.f a.t with
   |none=>rfl
   |some x=>
    obtain⟨h1,h2,h3⟩:=qZ QN;rw[hfind.2 ⟨x,h1,h2,h3⟩] at hfd;cases hfd
  exact hJ' (by unfold uY;rw[if_pos hm,uv])
theorem RC{N:mZ}{n:Nat}{l:List bQ}{w:aH}{Q:Int->aH->Prop}(h:lI w N n l)(hQ:Q (n:Int) w):nE (some ⟨N.g,0,none⟩) w Q:=by
 unfold nE;refine aF (λh=>by simp at h) (λ_=>?_);exact aA rfl (aE (k:=.slice) ⟨some ⟨N.go,0,none⟩,n,n⟩ h.at_.c0 hQ)
theorem has_i{N:mZ}{n:Nat}{l:List bQ}{v:Int}{w:aH}{Q:Bool->aH->Prop}(h:lI w N n l)(hQ:∀r:Bool,(r=true↔0<=v/\v<n)->Q r w):yN (some ⟨N.g,0,none⟩) v w Q:=by
 unfold yN;refine aJ (λh1=>RC h (hQ _ (by simp;omega))) (λh1=>hQ _ (by simp;omega))
theorem Yb{N:mZ}{n:Nat}{l:List bQ}{v:Int}{w:aH}{Q:Sl->aH->Prop}(h:lI w N n l)(hQ:∀s' w',dP w' iT 4 eC s' (dZ l v)->aN w w'->(∀b,s'.b=some b->w.heap.size<=b.block)->Q s' w'):
  yO (some ⟨N.g,0,none⟩) v w Q:=by
 unfold yO;have LP:=h.sz;refine has_i h λr hr=>aF (λh1=>?_) (λh1=>?_)
 ·have hn:dZ l v=[]:=by
   apply List.filter_eq_nil_iff.2;intro x hx hxv;have:=h.ok.uV x hx;have e:x.f=v:=by simpa using hxv
   have:r=true:=hr.2 ⟨by rw[<-e];exact this.1,by rw[<-e];exact this.2.1⟩;rw[this] at h1;cases h1
  exact hQ _ w (by rw[hn];exact dP.nil _ _ _ _) (aY.refl _ _) (λb hb=>by cases hb)
 ·have hv:=hr.1 (by cases r<;>simp at h1 ⊢)
  obtain⟨u,rfl⟩:∃u:Nat,v=(u:Int):=⟨v.toNat,aB⟩;have hu:u<n:=aB;refine aA rfl (aE (k:=.slice) ⟨some ⟨N.go,0,none⟩,n,n⟩ h.at_.c0 ?_);refine⟨⟨aB,by show _<(n:Int);omega⟩,aA rfl ?_⟩;obtain⟨s,hs,tZ⟩:=h.at_.out hu;refine aE (k:=.slice) s tZ ?_;have rL:=h.at_.row u s hs;have hX:kE n l u=dZ l (u:Int):=by simp[kE,hu]
  rw[hX] at rL;have:=h.ok.vG (u:Int);exact Ud (rL.rd kL) aB hQ
theorem In_i{N:mZ}{n:Nat}{l:List bQ}{v:Int}{w:aH}{Q:Sl->aH->Prop}(h:lI w N n l)(hQ:∀s' w',dP w' iT 4 eC s' (nQ l v)->aN w w'->(∀b,s'.b=some b->w.heap.size<=b.block)->Q s' w'):
  zR (some ⟨N.g,0,none⟩) v w Q:=by
 unfold zR;have LP:=h.sz;refine has_i h λr hr=>aF (λh1=>?_) (λh1=>?_)
 ·have hn:nQ l v=[]:=by
   apply List.filter_eq_nil_iff.2;intro x hx hxv;have:=h.ok.uV x hx;have e:x.t=v:=by simpa using hxv
   have:r=true:=hr.2 ⟨by rw[<-e];exact this.2.2.1,by rw[<-e];exact this.2.2.2.1⟩;rw[this] at h1;cases h1
  exact hQ _ w (by rw[hn];exact dP.nil _ _ _ _) (aY.refl _ _) (λb hb=>by cases hb)
 ·have hv:=hr.1 (by cases r<;>simp at h1 ⊢)
  obtain⟨u,rfl⟩:∃u:Nat,v=(u:Int):=⟨v.toNat,aB⟩;have hu:u<n:=aB;refine aA rfl (aE (k:=.slice) ⟨some ⟨N.gi,0,none⟩,n,n⟩ h.at_.c1 ?_);refine⟨⟨aB,by show _<(n:Int);omega⟩,aA rfl ?_⟩;obtain⟨s,hs,tZ⟩:=h.at_.LU hu;refine aE (k:=.slice) s tZ ?_;have rL:=h.at_.row (n+u) s hs;have hX:kE n l (n+u)=nQ l (u:Int):=by
   have:¬(n+u<n):=aB;simp only[kE,this,if_false];congr 1;omega
  rw[hX] at rL;have:=h.ok.FH (u:Int);exact Ud (rL.rd kL) aB hQ
theorem CQ{w:aH}{g:Nat}{cs:List Value}{x:bQ}{K:aH->Prop}(h:cW w g iT cs)(hl:cs.length=4)(hK:∀w',cW w' g iT (eC x)->aY (λk=>k=g) w w'->K w'):
  aI prog iT ⟨g,0,none⟩ (Gb x) w K:=by
 refine CD h CF (by simp[Value.cells,hl]) (by simp[Value.cells,Value.oneCell']) λw' ho hm _=>hK w' ?_ hm;have:cs.take 0++(Gb x).cells.toList++cs.drop (0+(Gb x).cells.size)=eC x:=by
  simp[Value.cells,List.drop_of_length_le (show cs.length<=4 by omega)]
 rwa[this] at ho
theorem All_i{N:mZ}{n:Nat}{l:List bQ}{w:aH}{Q:Sl->aH->Prop}(h:lI w N n l)(hl:l.length<1099511627776)(hQ:∀s' w',dP w' iT 4 eC s' l->aN w w'->(∀b,s'.b=some b->w.heap.size<=b.block)->Q s' w'):
  XC (some ⟨N.g,0,none⟩) w Q:=by
 unfold XC;have LP:=h.sz;refine RC h ?_;have flen:∀i,i<=n->((List.range i).flatMap λv:Nat=>dZ l (v:Int)).length<=l.length:=by
  intro i hi;have e:=ZP h.ok;obtain⟨d,rfl⟩:∃d,n=i+d:=⟨n-i,aB⟩;rw[List.range_add,JC] at e;rw[<-congrArg List.length e];simp
 refine bK (λm t w'=>∃(i:Nat) (s:Sl),i<=n/\m=n-i/\t=(s,(i:Int),())/\aN w w'/\dP w' iT 4 eC s ((List.range i).flatMap λv:Nat=>dZ l (v:Int))/\(∀b,s.b=some b->w.heap.size<=b.block)) n
  ⟨0,bD,iF _,rfl,rfl,aY.refl _ _,dP.nil _ _ _ _,λb hb=>by cases hb⟩ ?_
 rintro m t w' ⟨i,s,hi,rfl,rfl,hk,hv,hb⟩ X hX;dsimp only;have h':=h.aO hk;refine aJ (λcL=>?_) (λlK=>?_)
 ·have IW:i<n:=aB
  refine aA rfl (aE (k:=.slice) ⟨some ⟨N.go,0,none⟩,n,n⟩ h'.at_.c0 ?_);refine⟨⟨aB,by show _<(n:Int);omega⟩,aA rfl ?_⟩;obtain⟨r,hr,tZ⟩:=h'.at_.out IW;refine aE (k:=.slice) r tZ ?_;have rL:=h'.at_.row i r hr;have hXr:kE n l i=dZ l (i:Int):=by simp[kE,IW]
  rw[hXr] at rL;have LJ:=flen (i+1) IW;rw[List.range_succ,JC,mH] at LJ;simp only[FC,List.flatMap_nil,sG] at LJ;refine fO kO kL Fl hv (rL.rd kL) aB aB λr2 w2 hv2 yz RX _=>?_;rw[gV aB aB];refine hX (n-(i+1)) _ _ aB ⟨i+1,r2,IW,rfl,rfl,aY.fresh hk yz (λk ⟨a,ha,hk⟩=>by rw[hk];exact hb a ha),?_,λb bY=>?_⟩
  ·rw[List.range_succ,JC];simpa using hv2
  ·rcases RX with e|⟨b',e,cL⟩
   ·exact hb b (by rw[<-e];exact bY)
   ·rw[e] at bY;cases bY;have:=hk.size;omega
 ·have IW:i=n:=aB
  subst IW;rw[ZP h.ok] at hv;exact hQ s w' hv hk hb
theorem DZ{q:List It}(h:q.Nodup)(h1:Co q){n:Nat}(hb:∀x∈q,0<=x.id/\x.id<n):q.length<=n:=by
 have:(q.map (·.id)).Nodup:=List.pairwise_map.2 (List.Pairwise.imp_of_mem (λ{x y} hx hy hn e=>hn (h1 x hx y hy e)) h);have:=wU this λv hv=>by obtain⟨x,hx,rfl⟩:=lN.1 hv;exact hb x hx
 simpa using this
theorem RG{N:mZ}{n:Nat}{l:List bQ}{v:Int}{w:aH}{Q:Bool->aH->Prop}(h:lI w N n l)(hQ:∀r:Bool,(r=true↔0<=v/\v<n)->Q r w):sW (some ⟨N.g,0,none⟩) v w Q:=by
 unfold sW;refine aJ (λh0=>?_) (λh0=>hQ false (by simp;omega));exact RC h (hQ _ (by simp;omega))
theorem seek_i{N:mZ}{n:Nat}{L:List bQ}{a c:Int}{done:Value}{W:aH}{Q:aH->Prop}(hN:lI W N n L)(ha:0<=a)(pE:a<n){D:Nat->Prop}{C:Nat->aH->Prop}{stop:Nat->Bool}
  (hD:∀k,D k->k<W.heap.size) (hND:∀k,N.dK k->¬D k) (h0:C 0 W)
  (ft:∀k w1 w2,C k w1->aY (λb=>W.heap.size<=b) w1 w2->C k w2)
  (hcall:∀(k:Nat) (x:It) w1 (K:WQ Value),C k w1->(eF n L c a)[k]? =some x->(∀w2,C (k+1) w2->aY D w1 w2->K (.bool (stop k)) w2)->lQ prog done [aD x.id,aD x.key] w1 K)
  (hQ:∀m w',C m w'->aY D W w'->m<=(eF n L c a).length->(∀j,j+1<m->stop j=false)->((m=(eF n L c a).length/\∀j,j<m->stop j=false)\/∃j,m=j+1/\stop j=true)->Q w'):vP (some ⟨N.g,0,none⟩) a c done W Q:=by
 unfold vP;have hL:=hN.ok;have hn:=hN.sz;simp only[aG];have k1:=aN.alloc W (.cells #[Value.slice none 0 0,Value.map none] 202);have o1:cW (W.alloc (.cells #[Value.slice none 0 0,Value.map none] 202)) W.heap.size su [sv bD,.map none]:=cW.iS W _ _;have s1:(W.alloc (.cells #[Value.slice none 0 0,Value.map none] 202)).heap.size=W.heap.size+1:=by simp
 generalize W.alloc (.cells #[Value.slice none 0 0,Value.map none] 202)=w1 at*;generalize hB:W.heap.size=B at*;have hH1:rO w1 ⟨B,B,bD⟩ []:=.inr ⟨rfl,rfl,rfl,o1⟩;refine qV (ek:=CW) (kn:=.c .bool) λhm k2=>?_;have s2:(w1.alloc (.map #[] 0)).heap.size=w1.heap.size+1:=by simp
 have hH2:=hH1.aO k2;generalize w1.alloc (.map #[] 0)=w2 at*;have rB:B<=w1.heap.size:=aB;have rH:∀k,HS.dK ⟨B,B,bD⟩ k->k=B:=by
  rintro k (h|h|⟨a,ha,_⟩)
  ·exact h
  ·exact h
  ·cases ha
 generalize hr:w1.heap.size=r at*;have newD:∀{F:Nat->Prop} {wa wb:aH},aY D W wa->aY F wa wb->(∀k,F k->B<=k)->aY D W wb:=λma mb hF=>ma.trans mb λk hk DL=>absurd (hF k DL) aB;have M2:aY D W w2:=(k1.wk).tr k2.wk;have C2:C 0 w2:=ft 0 _ _ h0 ((k1.wk).tr k2.wk);refine ZH hH2 dJ λw3 H3 h3 g3 m3 f3=>?_;have hp0:(nW [] a 0).1=[⟨a,0⟩]:=rfl;rw[hp0] at h3;have m3B:∀k,HS.dK ⟨B,B,bD⟩ k->B<=k:=λk hk=>by rw[rH k hk];exact iX _
 have M3:=newD M2 m3 m3B;have C3:=ft 0 _ _ C2 (m3.mono λk _ hk=>m3B k hk);have hm3:=hm.aL m3 λhk=>by have:=rH r hk;omega
 have zc:H3.g=B:=g3;have fB:∀k,H3.dK k->B<=k/\k≠r:=λk hk=>(f3 k hk).elim (λh=>by rw[rH k h];exact⟨iX _,aB⟩) λh=>⟨aB,aB⟩;refine bK (λYP t w4=>∃(k:Nat) (H:HS) (nm:Nat),YP=n+1-k/\k<=n/\(jZ L c a k).2.length=k/\oO w4 H (jZ L c a k).1/\H.g=B/\(∀b,H.dK b->B<=b/\b≠r)/\
   jT w4 r CW (.c .bool) (λv=>if wN (jZ L c a k).2 v then some true else none) nm/\C k w4/\aY D W w4/\(∀j,j<k->stop j=false)) (n+1)
  ⟨0,H3,0,rfl,iF _,rfl,h3,zc,fB,hm3.congr (λv=>rfl) rfl,C3,M3,λj hj=>aB⟩ ?_
 rintro YP t w4 ⟨k,H,nm,rfl,hkn,hkl,h4,hg4,fB4,hm4,C4,M4,BB⟩ X hX;have VH:=xM hL c ha pE k;have GH:=run_eq hL c ha pE k;have ui:=run_eq hL c ha pE (k+1);have Xt:jZ L c a (k+1)=GO L c (jZ L c a k):=rfl;rw[<-hg4];refine vf (.inl h4) ?_;cases hq:(jZ L c a k).1 with
 |nil=>
  refine aJ (λh=>by simp at h) (λ_=>?_);have fW:(eF n L c a).length=k:=by
   have h1:=NQ hL c ha pE;rcases Nat.lt_or_ge k (eF n L c a).length with cL|lK
   ·have e1:(jZ L c a (k+1)).2=(jZ L c a k).2:=by
     rw[Xt];unfold GO;rw[hq]
    rw[e1,GH] at ui;have:=congrArg List.length ui;simp only[qF] at this;omega
   ·have:=congrArg List.length GH
    simp only[qF] at this;omega
  exact hQ k w4 C4 M4 aB (λj hj=>BB j aB) (.inl ⟨fW.symm,BB⟩)
 |cons x q=>
  refine aJ (λ_=>?_) (λh=>absurd (by simp only[mV];omega) h);rw[hq] at h4 VH;have hxb:=VH.gI x dJ;have uk:q.length<=n:=by
   have:=DZ (mG h4.sC) h4.one (n:=n) λy hy=>(VH.gI y (by simp[hy])).2.2;simp at this;omega
  have hkq:k<n:=by have:=VH.len_q;omega
  have hst1:(jZ L c a (k+1))=(qI c ((jZ L c a k).2++[x]) x.key q (dZ L x.id),(jZ L c a k).2++[x]):=by
   rw[Xt];unfold GO;rw[hq]
  have fh:(eF n L c a)[k]? =some x:=by
   rw[hst1] at ui;have:((eF n L c a).take (k+1))[k]? =some x:=by
    rw[<-ui,Fq aB,hkl];simp
   rwa[VE (Nat.lt_succ_self k)] at this
  refine Pop_i h4 aB λw6 H6 h6 g6 f6 m6=>?_;have m6B:∀b,H.dK b->B<=b:=λb hb=>(fB4 b hb).1;have M6:=newD M4 m6 m6B;have C6:=ft k _ _ C4 (m6.mono λb _ hb=>m6B b hb);have hm6:=hm4.aL m6 λhb=>(fB4 r hb).2 rfl;have fB6:∀b,H6.dK b->B<=b/\b≠r:=λb hb=>fB4 b ((f6 b).1 hb);refine WM (kn:=.c .bool) XK kT hm6 x.id true λw7 hm7 m7 _=>?_;have h7:=h6.aL m7 λb hb e=>(fB6 b hb).2 e;have M7:=newD M6 m7 λb e=>by rw[show b=r from e];exact rB
  have C7:=ft k _ _ C6 (m7.mono λb _ e=>by rw[show b=r from e];exact rB);have hm7':jT w7 r CW (.c .bool) (λv=>if wN ((jZ L c a k).2++[x]) v then some true else none) _:=hm7.congr (λv=>by
   show(if wN ((jZ L c a k).2++[x]) v then some true else none)=if v=x.id then some true else if wN (jZ L c a k).2 v then some true else none
   unfold wN;rw[List.any_append]
   by_cases e:v=x.id
   ·subst e;simp
   ·have:¬x.id=v:=λe'=>e e'.symm
    simp[e,this]) rfl
  refine hcall k x w7 _ C7 fh λw8 C8 m8=>⟨stop k,rfl,?_⟩;have M8:aY D W w8:=M7.tr m8;have hDB:∀b,D b->b<B:=hD;have h8:=h7.aL m8 λb hb hd=>by have:=(fB6 b hb).1;have:=hDB b hd;omega
  have hm8:=hm7'.aL m8 λhd=>by have:=hDB r hd;omega
  cases hsk:stop k with
  |true=>
   refine aF (λ_=>?_) (λh=>by simp at h);have:=(kY.1 fh).1;exact hQ (k+1) w8 C8 M8 aB (λj hj=>BB j aB) (.inr ⟨k,rfl,hsk⟩)
  |false=>
   refine aF (λh=>by simp at h) (λ_=>?_);refine Yb (hN.aL M8 hND) λs9 w9 v9 k9 f9=>?_;have M9:aY D W w9:=M8.tr k9.wk;have C9:=ft _ _ _ C8 k9.wk;have h9:=h8.aL k9 λ_ _=>id;have hm9:=hm8.aL k9 id;have hw8:B<=w8.heap.size:=hB▸M8.size;have sl9:=v9.len;have fr9:∀b,s9.b=some b->¬H6.dK b.block/\b.block≠r/\b.block<w9.heap.size/\B<=b.block:=λb hb=>by
    have h1:=f9 b hb;exact⟨λh=>by have:=h8.lt h;omega,λe=>by have:=hm8.lt;omega,v9.lt hb,aB⟩
   have hol:=hL.vG x.id;refine bK (λYP t eY=>∃(i:Nat) (H':HS),i<=(dZ L x.id).length/\YP=(dZ L x.id).length-i/\t=((i:Int),())/\oO eY H' (qI c ((jZ L c a k).2++[x]) x.key q ((dZ L x.id).take i))/\H'.g=B/\(∀b,H'.dK b->B<=b/\b≠r)/\
     (∀b,s9.b=some b->¬H'.dK b.block)/\(∃nm',jT eY r CW (.c .bool) (λv=>if wN ((jZ L c a k).2++[x]) v then some true else none) nm')/\C (k+1) eY/\aY D W eY/\dP eY iT 4 eC s9 (dZ L x.id)) (dZ L x.id).length
    ⟨0,H6,iF _,rfl,rfl,by simpa [qI] using h9,g6.trans hg4,fB6,λb hb=>(fr9 b hb).1,⟨_,hm9⟩,C9,M9,v9⟩ ?_
   rintro YP t eY ⟨i,H',hi,rfl,rfl,IX,g10,fB10,fs10,⟨nm',hm10⟩,C10,M10,v10⟩ Y hY;dsimp only;refine aJ (λcL=>?_) (λlK=>?_)
   ·have dF:i<(dZ L x.id).length:=aB
    refine⟨⟨aB,aB⟩,?_⟩;obtain⟨p,hp,hh⟩:=wR (v10.rd kL) (gU dF);have fP:=oE dF;have tk:=ai c ((jZ L c a k).2++[x]) x.key q ((dZ L x.id).take i) ((dZ L x.id)[i]);rw[<-FW dF] at tk;generalize (dZ L x.id)[i]=e at*;obtain⟨heL,hef⟩:=eJ.1 fP;obtain⟨_,_,et0,et1,_,ew0,ew1,_⟩:=hL.uV e heL;refine aA hp (bJ (nY e) hh ?_);simp only[aG];have kA:=aN.alloc eY (.cells #[aD 0,aD 0,aD 0,aD 0] 128);have oA:cW (eY.alloc (.cells #[aD 0,aD 0,aD 0,aD 0] 128)) eY.heap.size 128 (eC ⟨0,0,0,0⟩):=cW.iS eY _ _;generalize eY.alloc (.cells #[aD 0,aD 0,aD 0,aD 0] 128)=wA at*;refine CQ (x:=e) oA rfl λeQ Dm Am=>?_;have LO:aN eY eQ:=aY.fresh kA Am λb hb=>aB;have Ck:=IX.aL LO λ_ _=>id;have aAi:=hm10.aL LO id;have C12:=ft _ _ _ C10 LO.wk;have M12:aY D W eQ:=M10.tr LO.wk;have YK:=v10.aL LO λ_ _=>id;have c1:eQ.cell? ((⟨eY.heap.size,0,none⟩:Addr).add 1)=some (aD e.t):=by rw[aS,Dm.cell];rfl
    have c2:eQ.cell? ((⟨eY.heap.size,0,none⟩:Addr).add 2)=some (aD e.w):=by rw[aS,Dm.cell];rfl
    have wi:aQ ((i:Int)+1)=((i+1:Nat):Int):=by rw[gV aB aB];rfl
    have skip:(e.t=c\/wN ((jZ L c a k).2++[x]) e.t=true)->Y (aQ ((i:Int)+1),()) eQ:=λhc=>by
     rw[wi];exact hY _ _ _ aB ⟨i+1,H',dF,rfl,rfl,by rw[tk,if_pos hc];exact Ck,g10,fB10,fs10,⟨_,aAi⟩,C12,M12,YK⟩
    refine aE (k:=.i) e.t c1 ?_;refine aF (λgH=>?_) (λheq=>skip (.inl (by simpa using heq)));have Fw:e.t≠c:=by simpa using gH
    refine aE (k:=.i) e.t c1 ?_;refine wV (kn:=.c .bool) XK kT (z:=false) Oi aAi e.t ?_;cases IW:wN ((jZ L c a k).2++[x]) e.t with
    |true=>
     exact aF (λh=>by cases h) (λ_=>skip (.inr IW))
    |false=>
     refine aF (λ_=>?_) (λh=>by cases h);refine aE (k:=.i) e.t c1 (aE (k:=.i) e.w c2 ?_);have tP:x.key<=512*1099511627776:=by
      omega
     rw[gV (n:=x.key+e.w) aB aB];have hpl:(qI c ((jZ L c a k).2++[x]) x.key q ((dZ L x.id).take i)).length<=n:=by
      refine DZ (mG IX.sC) IX.one λy hy=>?_;have hq1:=List.pairwise_cons.1 VH.sC;have jA:Co q:=λu hu v hv=>VH.one u (by simp[hu]) v (by simp[hv]);rcases(PB (c:=c) (s:=(jZ L c a k).2++[x]) (d:=x.key) (l:=(dZ L x.id).take i) hq1.2 jA).2.2.1 y hy with gu|⟨e',uM,_,_,rfl⟩
      ·exact(VH.gI y (by simp[gu])).2.2
      ·have:=hL.uV e' (eJ.1 (List.mem_of_mem_take uM)).1
       exact⟨this.2.2.1,this.2.2.2.1⟩
     rw[hg4,<-g10];refine ZH (.inl Ck) aB λmQ H14 h14 g14 YM f14=>?_;have m14B:∀b,H'.dK b->B<=b:=λb hb=>(fB10 b hb).1;have hr12:=aAi.lt;rw[wi];refine hY _ _ _ aB ⟨i+1,H14,dF,rfl,rfl,?_,by rw[g14,g10],λb hb=>?_,λb hb h=>?_,⟨_,aAi.aL YM λh=>(fB10 r h).2 rfl⟩,ft _ _ _ C12 (YM.mono λb _ hb=>m14B b hb),newD M12 YM m14B,YK.aL YM λb hb h=>fs10 b hb h⟩
     ·rw[tk,if_neg (λh=>h.elim Fw λh=>by rw[IW] at h;cases h)]
      exact h14
     ·rcases f14 b hb with h|h
      ·exact fB10 b h
      ·exact⟨aB,aB⟩
     ·rcases f14 _ h with h|h
      ·exact fs10 b hb h
      ·have:=YK.lt hb;omega
   ·have e:i=(dZ L x.id).length:=aB
    subst e;rw[pF] at IX;refine hX (n+1-(k+1)) _ _ aB ⟨k+1,H',_,rfl,aB,by rw[hst1];simp[hkl],by rw[hst1];exact IX,g10,fB10,by rw[hst1];exact hm10,C10,M10,λj hj=>?_⟩;rcases Nat.lt_or_ge j k with h|h
    ·exact BB j h
    ·have:j=k:=aB
     rw[this];exact hsk
theorem gY{w:aH}{g:Nat}{e:TypeId}{v:Value}(h:cW w g e [v]):w.cell? ⟨g,0,none⟩=some v:=by rw[h.cell];rfl
theorem aBi{b1 b2 b3 b4:Nat}{v d to eE st:Int}{fd:Bool}{w:aH}{K:Bool->aH->Prop}(o1:cW w b1 cZ [aD to])(o2:cW w b2 cZ [aD eE])(o3:cW w b3 cZ [aD st])(o4:cW w b4 yB [.bool fd])
  (h1:b1≠b3) (h2:b2≠b3) (h3:b3≠b4) (h4:b1≠b4) (h5:b2≠b4) (BB:-1000000<st/\st<2000000)
  (hK:∀w',cW w' b1 cZ [aD to]->cW w' b2 cZ [aD eE]->cW w' b3 cZ [aD (st-1)]->cW w' b4 yB [.bool (decide (v=to) && decide (d<=eE))]->aY (λb=>b=b3\/b=b4) w w'->K (decide (v=to) ||decide (st-1=0)) w'):
  nG v d (some ⟨b3,0,none⟩) (some ⟨b1,0,none⟩) (some ⟨b2,0,none⟩) (some ⟨b4,0,none⟩) w K:=by
 unfold nG;refine aA rfl (aE (k:=.i) st (gY o3) (aA rfl ?_));rw[gV aB aB];refine cI o3 cY dJ rfl rfl λw1 p3 m1 _=>?_;have p1:=o1.aL m1 h1;have p2:=o2.aL m1 h2;have p4:=o4.aL m1 (Ne.symm h3);have p3':cW w1 b3 cZ [aD (st-1)]:=p3;refine aA rfl (aE (k:=.i) to (gY p1) ?_);refine aF (λhe=>?_) (λhe=>?_)
 ·have uM:v=to:=by simpa using he
  refine aA rfl (aE (k:=.i) eE (gY p2) (aA rfl ?_));refine cI p4 iL dJ rfl rfl λw2 q4 m2 _=>?_;refine aA rfl (aE (k:=.i) to (gY (p1.aL m2 h4)) ?_);refine aF (λ_=>?_) (λh=>by rw[he] at h;cases h);have:=hK w2 (p1.aL m2 h4) (p2.aL m2 h5) (p3'.aL m2 h3) (by simpa [uM] using q4) ((m1.mono λb _ h=>.inl h).tr (m2.mono λb _ h=>.inr h));simpa [uM] using this
 ·have uM:v≠to:=by simpa using he
  refine aA rfl ?_;refine cI p4 iL dJ rfl rfl λw2 q4 m2 _=>?_;refine aA rfl (aE (k:=.i) to (gY (p1.aL m2 h4)) ?_);refine aF (λh=>by rw[he] at h;cases h) (λ_=>?_);refine aA rfl (aE (k:=.i) (st-1) (gY (p3'.aL m2 h3)) ?_);have:=hK w2 (p1.aL m2 h4) (p2.aL m2 h5) (p3'.aL m2 h3) (by simpa [uM] using q4) ((m1.mono λb _ h=>.inl h).tr (m2.mono λb _ h=>.inr h));have e:(decide (v=to) ||decide (st-1=0))=((st-1:Int)==(0:Int)):=by rw[Bool.eq_iff_iff];simp[uM]
  rw[e] at this;exact this
theorem Find_i{N:mZ}{n:Nat}{L:List bQ}{a to c eE fH:Int}{w:aH}{Q:Bool->aH->Prop}(h:lI w N n L)(hs:fH<1000000)(hQ:∀w',aN w w'->Q (PZ n L a to c eE fH) w'):
  vQ (some ⟨N.g,0,none⟩) a to c eE fH w Q:=by
 unfold vQ;simp only[aG];have k1:=aN.alloc w (.cells #[aD to] 3);have o1:cW (w.alloc (.cells #[aD to] 3)) w.heap.size cZ [aD to]:=cW.iS w _ _;have z1:(w.alloc (.cells #[aD to] 3)).heap.size=w.heap.size+1:=by simp
 generalize w.alloc (.cells #[aD to] 3)=w1 at*;have k2:=aN.alloc w1 (.cells #[aD eE] 3);have o2:cW (w1.alloc (.cells #[aD eE] 3)) w1.heap.size cZ [aD eE]:=cW.iS w1 _ _;have z2:(w1.alloc (.cells #[aD eE] 3)).heap.size=w1.heap.size+1:=by simp
 generalize w1.alloc (.cells #[aD eE] 3)=w2 at*;have k3:=aN.alloc w2 (.cells #[aD fH] 3);have o3:cW (w2.alloc (.cells #[aD fH] 3)) w2.heap.size cZ [aD fH]:=cW.iS w2 _ _;have z3:(w2.alloc (.cells #[aD fH] 3)).heap.size=w2.heap.size+1:=by simp
 generalize w2.alloc (.cells #[aD fH] 3)=w3 at*;have k4:=aN.alloc w3 (.cells #[Value.bool false] 4);have o4:cW (w3.alloc (.cells #[Value.bool false] 4)) w3.heap.size yB [.bool false]:=cW.iS w3 _ _;have z4:(w3.alloc (.cells #[Value.bool false] 4)).heap.size=w3.heap.size+1:=by simp
 generalize w3.alloc (.cells #[Value.bool false] 4)=w4 at*;have p3:=o3.aL k4 id;have p2:=(o2.aL k3 id).aL k4 id;have p1:=((o1.aL k2 id).aL k3 id).aL k4 id;have K4:aN w w4:=((k1.tr k2).tr k3).tr k4;have h4:=h.aO K4;generalize Du:w.heap.size=b1 at*;generalize RX:w1.heap.size=b2 at*;generalize Nq:w2.heap.size=b3 at*;generalize hb4:w3.heap.size=b4 at*;have no:∀{w':aH},aN w w'->cW w' b4 yB [.bool false]->PZ n L a to c eE fH=false->aI prog yB ⟨b4,0,none⟩ (.bool false) w' λDk=>xY .bool Dk ⟨b4,0,none⟩ λb=>Q b Dk:=λ{w'} k o hf=>by
  refine cI o iL dJ rfl rfl λDk o'' m'' _=>?_;refine aE (k:=.bool) false (gY o'') ?_;rw[<-hf];exact hQ Dk (k.fresh m'' λb e=>by rw[show b=b4 from e];omega)
 refine RG h4 λr1 yy=>?_;refine aF (λhb=>no K4 o4 ?_) (λhb=>?_)
 ·unfold PZ
  have:¬(0<=a/\a<n):=λh=>by rw[yy.2 h] at hb;cases hb
  simp only[this,decide_false,Bool.false_and]
 have ha:=yy.1 (by cases r1<;>simp at hb ⊢);refine aE (k:=.i) to (gY p1) ?_;refine RG h4 λr2 Fe=>?_;refine aF (λhb=>no K4 o4 ?_) (λhb=>?_)
 ·unfold PZ
  have:¬(0<=to/\to<n):=λh=>by rw[Fe.2 h] at hb;cases hb
  simp only[this,decide_false,Bool.false_and,Bool.and_false]
 have ht:=Fe.1 (by cases r2<;>simp at hb ⊢);refine aF (λhe=>no K4 o4 ?_) (λgH=>?_)
 ·have:a=c:=by simpa using he
  unfold PZ;simp[this]
 have hac:a≠c:=by simpa using gH
 refine aE (k:=.i) fH (gY p3) ?_;have e0:PZ n L a to c eE fH=aAl (eF n L c a) to eE fH:=by
  unfold PZ;rw[decide_eq_true ha,decide_eq_true ht,decide_eq_true hac];rfl
 refine aJ (λcL=>no K4 o4 ?_) (λlK=>?_)
 ·rw[e0]
  unfold aAl;rw[show fH.toNat=0 by omega];rfl
 have hnl:=h4.sz;have KU:=NQ h4.ok c ha.1 ha.2;refine seek_i h4 ha.1 ha.2 (D:=λb=>b=b3\/b=b4)
  (C:=λk w'=>k<=n/\cW w' b1 cZ [aD to]/\cW w' b2 cZ [aD eE]/\cW w' b3 cZ [aD (fH-k)]/\cW w' b4 yB [.bool (Sr (eF n L c a) to eE k)])
  (stop:=VQ (eF n L c a) to fH) (λb hb=>aB) (λb hb hd=>by have:=h.at_.lt hb;omega) ⟨iF _,p1,p2,by simpa using p3,o4⟩
  (λk wa wb ⟨hk,q1,q2,q3,q4⟩ m=>⟨hk,q1.aL m aB,q2.aL m aB,q3.aL m aB,q4.aL m aB⟩) ?_ ?_
 ·intro k x wa K ⟨hk,q1,q2,q3,q4⟩ hx hK
  have hkl:=(kY.1 hx).1;refine pI YA iH (first:=#[]) (gJ (ks:=[.i,.i,.c .ptr,.c .ptr,.c .ptr,.c .ptr]) (t:=(x.id,x.key,some ⟨b3,0,none⟩,some ⟨b1,0,none⟩,some ⟨b2,0,none⟩,some ⟨b4,0,none⟩,())) ?_)
  show nG x.id x.key (some ⟨b3,0,none⟩) (some ⟨b1,0,none⟩) (some ⟨b2,0,none⟩) (some ⟨b4,0,none⟩) wa λr w'=>K (.bool r) w';refine aBi q1 q2 q3 q4 aB aB aB aB aB ⟨aB,aB⟩ λwb r1 r2 r3 r4 m=>?_;have e1:(decide (x.id=to) ||decide (fH-(k:Int)-1=0))=VQ (eF n L c a) to fH k:=by
   unfold VQ;rw[hx];have:decide (fH-(k:Int)-1=0)=decide (fH=(k:Int)+1):=by
    apply decide_eq_decide.2;omega
   simp only[this]
  rw[e1];refine hK wb ⟨aB,r1,r2,?_,?_⟩ m
  ·have:fH-(k:Int)-1=fH-((k+1:Nat):Int):=aB
   rw[<-this];exact r3
  ·have:Sr (eF n L c a) to eE (k+1)=(decide (x.id=to) && decide (x.key<=eE)):=by rw[NU,hx]
   rw[this];exact r4
 ·intro m eN ⟨hk,q1,q2,q3,q4⟩ Ku hml BB hend
  have Hc:=aAV (eE:=eE) (ah h4.ok c ha.1 ha.2) (Mo h4.ok c ha.1 ha.2) aB hml BB hend;rw[Hc] at q4;refine aE (k:=.bool) _ (gY q4) ?_;refine cI q4 iL dJ rfl rfl λeQ Dm Am _=>?_;refine aE (k:=.bool) _ (gY Dm) ?_;rw[<-e0];exact hQ eQ ((K4.fresh Ku λb hb=>aB).fresh Am λb e=>by rw[show b=b4 from e];omega)
abbrev eSl(s:Sl):List Value:=[sv s]
theorem Jk{w:aH}{e:TypeId}{g n:Nat}{xs:List Sl}(h:dP w e 1 eSl ⟨some ⟨g,0,none⟩,n,n⟩ xs):cW w g e (xs.map sv):=by
 rcases h.gN with⟨h0,_⟩|⟨g',cR,hb,ho,hl⟩
 ·cases h0
 ·have:g'=g:=by cases hb;rfl
  subst this;have fW:=h.len;have hf:xs.flatMap eSl=xs.map sv:=by
   clear ho hl hb h fW
   induction xs with
   |nil=>rfl
   |cons x r ih=>simp[FC,ih]
  have hr:cR=[]:=by
   rw[mH,hf,lD] at hl;apply Ct;have:n=xs.length:=fW;simp only at hl;omega
  rw[hr,sG,hf] at ho;exact ho
theorem init_i{w:aH}{n go gi:Nat}(hn:n<=512)(h1:cW w go DP ((List.replicate n (bD:Sl)).map sv))(h2:cW w gi DP ((List.replicate n (bD:Sl)).map sv))(gH:go≠gi):
  lI (w.alloc (.cells #[sv ⟨some ⟨go,0,none⟩,n,n⟩,sv ⟨some ⟨gi,0,none⟩,n,n⟩] tNet)) ⟨w.heap.size,go,gi,List.replicate (n+n) bD⟩ n []:=by
 have k:=aN.alloc w (.cells #[sv ⟨some ⟨go,0,none⟩,n,n⟩,sv ⟨some ⟨gi,0,none⟩,n,n⟩] tNet);have l1:=h1.lt;have l2:=h2.lt;have nil:∀(i:Nat) (s:Sl),(List.replicate (n+n) (bD:Sl))[i]? =some s->s=bD:=λi s hs=>by
  rw[Fm] at hs
  split at hs
  ·exact(uZ hs).symm
  ·cases hs
 refine⟨⟨cW.iS w _ _,?_,?_,by simp,?_,?_,?_,?_⟩,rV.nil n,hn⟩
 ·have:(List.replicate (n+n) (bD:Sl)).take n=List.replicate n bD:=by simp
  rw[this];exact h1.aL k id
 ·have:(List.replicate (n+n) (bD:Sl)).drop n=List.replicate n bD:=by simp
  rw[this];exact h2.aL k id
 ·intro i s hs
  rw[nil i s hs];have:kE n [] i=[]:=by simp[kE,dZ,nQ]
  rw[this];exact dP.nil _ _ _ _
 ·intro i s a hs ha;rw[nil i s hs] at ha;cases ha
 ·intro i j s u a b hs _ ha _ _;rw[nil i s hs] at ha;cases ha
 ·exact⟨λe:w.heap.size=go=>aB,λe:w.heap.size=gi=>aB,gH⟩
theorem New_i{n:Int}{s:Sl}{xs:List bQ}{w:aH}{Q:cO->Int->aH->Prop}(hr:Rd w s 4 eC xs)(fW:xs.length<1099511627776)
  (SK:∀w',aN w w'->¬(0<=n/\n<=512/\∀a∈xs,FA n.toNat a)->Q none 1 w')
  (mL:∀w' N,0<=n->n<=512->(∀a∈xs,FA n.toNat a)->lI w' N n.toNat (gO n.toNat [] xs)->aN w w'->(∀k,N.dK k->w.heap.size<=k)->Q (some ⟨N.g,0,none⟩) 0 w'):HZ n s w Q:=by
 unfold HZ;have hl:=hr.len;refine aJ (λh=>SK w (aY.refl _ _) aB) (λh0=>?_);refine aJ (λh=>SK w (aY.refl _ _) aB) (λh1=>?_);obtain⟨m,rfl⟩:∃m:Nat,n=(m:Int):=⟨n.toNat,aB⟩;have hm:m<=512:=aB;simp only[lJ] at SK mL;intro J hJ;have main:∀w1 N,lI w1 N m []->aN w w1->(∀k,N.dK k->w.heap.size<=k)->J (some ⟨N.g,0,none⟩,()) w1:=by
  intro w1 N hN hk hfr;apply hJ;refine bK (λc t w2=>∃(i:Nat) (N2:mZ),i<=xs.length/\c=xs.length-i/\t=((i:Int),())/\lI w2 N2 m (gO m [] (xs.take i))/\N2.g=N.g/\aN w w2/\(∀k,N2.dK k->w.heap.size<=k)/\(∀a∈xs.take i,FA m a)) xs.length
   ⟨0,N,iF _,rfl,rfl,by simpa [gO] using hN,rfl,hk,hfr,by simp⟩ ?_
  rintro c t w2 ⟨i,N2,hi,rfl,rfl,hN2,hg,DL,hfr2,sQ⟩ X hX;dsimp only;refine aJ (λcL=>?_) (λlK=>?_)
  ·have dF:i<xs.length:=aB
   refine⟨⟨aB,aB⟩,?_⟩;obtain⟨a,ha,hh⟩:=wR (hr.aL DL WG (λ_ _=>id)) (gU dF);refine aA ha (bJ (nY xs[i]) hh ?_);simp only[aG];have k3:=aN.alloc w2 (.cells #[aD 0,aD 0,aD 0,aD 0] 128);have o3:cW (w2.alloc (.cells #[aD 0,aD 0,aD 0,aD 0] 128)) w2.heap.size 128 (eC ⟨0,0,0,0⟩):=cW.iS w2 _ 128;generalize w2.alloc (.cells #[aD 0,aD 0,aD 0,aD 0] 128)=w3 at*;refine CQ o3 rfl λw4 o4 m4=>?_;have k4:aN w2 w4:=aY.fresh k3 m4 λk hk=>aB;have hN4:=hN2.aO k4;refine bJ (nY xs[i]) (iP o4) ?_;rw[<-hg];refine may_i hN4.at_.head λw5 r k5 hrm=>?_;have hN5:=hN4.aO k5;have o5:=o4.aL k5 id;have k25:=k4.tr k5;refine aF (λhb=>?_) (λhb=>?_)
   ·refine SK w5 (DL.tr k25) λ⟨_,_,oF⟩=>?_
    rw[hrm.2 (oF _ (oE dF))] at hb;cases hb
   ·have hma:FA m xs[i]:=hrm.1 (by cases r<;>simp at hb ⊢)
    refine bJ (nY xs[i]) (iP o5) ?_;refine Put_i hN5 λw6 N6 hN6 hg6 m6 hf6=>?_;rw[gV aB aB];refine hX (xs.length-(i+1)) _ _ aB ⟨i+1,N6,dF,rfl,rfl,?_,by rw[hg6,hg],aY.fresh (DL.tr k25) m6 hfr2,λk hk=>?_,?_⟩
    ·rw[FW dF,NR];exact hN6
    ·rcases hf6 k hk with h|h
     ·exact hfr2 k h
     ·have:=DL.size;have:=k25.size;omega
    ·rw[FW dF]
     intro x hx;rcases jS.1 hx with hx|hx
     ·exact sQ x hx
     ·simp at hx;subst hx;exact hma
  ·have dF:i=xs.length:=aB
   subst dF;rw[pF] at hN2 sQ;rw[<-hg];exact mL w2 N2 aB aB sQ hN2 DL hfr2
 have kd:aN w w.drew:=aY.drew (aY.refl _ w);have both:∀{K:aH->Sl->Sl->Prop},(∀w8 g1 g2,cW w8 g1 DP ((List.replicate m (bD:Sl)).map sv)->cW w8 g2 DP ((List.replicate m (bD:Sl)).map sv)->g1≠g2->aN w w8->w.heap.size<=g1->w.heap.size<=g2->K w8 ⟨some ⟨g1,0,none⟩,m,m⟩ ⟨some ⟨g2,0,none⟩,m,m⟩)->
   fK prog tssArc (aD (m:Int)) (aD (m:Int)) w.drew λs1 w7=>fK prog tssArc (aD (m:Int)) (aD (m:Int)) w7 λs2 w8=>K w8 s1 s2:=by
  intro K hK;refine BZ Jr (aX:=eSl) bD rfl (λ_=>rfl) aB (lM _) aB aB λw7 hv7 k7=>?_;refine BZ Jr (aX:=eSl) bD rfl (λ_=>rfl) aB (lM _) aB aB λw8 hv8 k8=>?_;have hv7':=hv7.aL k8 (λ_ _=>id);have cL:w.drew.heap.size<w7.heap.size:=hv7.lt rfl;exact hK w8 _ _ (Jk hv7') (Jk hv8) aB ((kd.tr k7).tr k8) (iX _) (iG kd.size k7.size)
 have fr:∀(w8:aH) (g1 g2:Nat),w.heap.size<=g1->w.heap.size<=g2->aN w w8->∀k,(⟨w8.heap.size,g1,g2,List.replicate (m+m) bD⟩:mZ).dK k->w.heap.size<=k:=by
  intro w8 g1 g2 h1 h2 hk k hh;rcases hh with h|h|h|⟨i,s,a,hs,ha,_⟩
  ·rw[h];exact hk.size
  ·rw[h];exact h1
  ·rw[h];exact h2
  ·rw[Fm] at hs
   split at hs
   ·cases hs;cases ha
   ·cases hs
 refine⟨both λw8 g1 g2 h1 h2 gH hk hg1 Ap=>?_,both λw8 g1 g2 h1 h2 gH hk hg1 Ap=>?_⟩
 ·exact main _ ⟨w8.heap.size,g1,g2,List.replicate (m+m) bD⟩ (init_i hm h1 h2 gH) (aY.alloc hk _) (fr w8 g1 g2 hg1 Ap hk)
 ·exact main _ ⟨w8.heap.size,g2,g1,List.replicate (m+m) bD⟩ (init_i hm h2 h1 (Ne.symm gH)) (aY.alloc hk _) (fr w8 g2 g1 Ap hg1 hk)
theorem Copy_i{N:mZ}{n:Nat}{l:List bQ}{w:aH}{Q:cO->aH->Prop}(h:lI w N n l)(hl:l.length<1099511627776)
  (hQ:∀w' N',lI w' N' n l->aN w w'->(∀k,N'.dK k->w.heap.size<=k)->Q (some ⟨N'.g,0,none⟩) w'):IA (some ⟨N.g,0,none⟩) w Q:=by
 unfold IA;have LP:=h.sz;refine aF (λh=>by simp at h) (λ_=>?_);refine RC h (All_i h hl λs w' hv hk hb=>?_);refine New_i (hv.rd kL) hl (λw2 k2 uX=>?_) (λw2 N2 _ _ _ hN2 k2 hfr=>?_)
 ·exact absurd ⟨aB,aB,λa ha=>by simpa using h.ok.uV a ha⟩ uX
 ·simp only[lJ] at hN2
  have e:gO n [] l=l:=NS (p:=[]) h.ok;rw[e] at hN2;exact hQ w2 N2 hN2 (hk.tr k2) λk lT=>iG hk.size (hfr k lT)
section
section
variable{N:mZ}{n:Nat}{X:Nat->List bQ}{v:Int}{w:aH}
theorem has_at{Q:Bool->aH->Prop}(h:mD w N n X)(hn:n<=512)(hQ:∀r:Bool,(r=true↔0<=v/\v<n)->Q r w):yN (some ⟨N.g,0,none⟩) v w Q:=by
 unfold yN;refine aJ (λh1=>?_) (λh1=>hQ _ (by simp;omega));unfold nE;refine aF (λh=>by simp at h) (λ_=>?_);exact aA rfl (aE (k:=.slice) ⟨some ⟨N.go,0,none⟩,n,n⟩ h.c0 (hQ _ (by simp;omega)))
theorem In_at{Q:Sl->aH->Prop}(h:mD w N n X)(hn:n<=512)(hX:∀j,(X j).length<=512)(hQ:∀s' w',dP w' iT 4 eC s' (if 0<=v/\v<n then X (n+v.toNat) else [])->aN w w'->(∀b,s'.b=some b->w.heap.size<=b.block)->Q s' w'):
  zR (some ⟨N.g,0,none⟩) v w Q:=by
 unfold zR;refine has_at h hn λr hr=>aF (λh1=>?_) (λh1=>?_)
 ·have:¬(0<=v/\v<n):=λhv=>by rw[hr.2 hv] at h1;cases h1
  rw[if_neg this] at hQ;exact hQ _ w (dP.nil _ _ _ _) (aY.refl _ _) (λb hb=>by cases hb)
 ·have hv:=hr.1 (by cases r<;>simp at h1 ⊢)
  rw[if_pos hv] at hQ;obtain⟨u,rfl⟩:∃u:Nat,v=(u:Int):=⟨v.toNat,aB⟩;refine aA rfl (aE (k:=.slice) ⟨some ⟨N.gi,0,none⟩,n,n⟩ h.c1 ?_);refine⟨⟨aB,by show _<(n:Int);omega⟩,aA rfl ?_⟩;obtain⟨s,hs,tZ⟩:=h.LU (show u<n by omega);refine aE (k:=.slice) s tZ ?_;have:=hX (n+u);exact Ud ((h.row (n+u) s hs).rd kL) aB λs' w' h1 h2 h3=>hQ s' w' h1 h2 h3
end
theorem OF{l R:List bQ}{x:bQ}:x∈l.filter (λy=>decide (y∉R))↔x∈l/\x∉R:=by simp
def BJ(n:Nat)(l RO RI:List bQ)(j:Nat):List bQ:=if j<n then(dZ l (j:Int)).filter (λy=>decide (y∉RI)) else(nQ l ((j:Int)-n)).filter (λy=>decide (y∉RO))
theorem cutX_len{n:Nat}{l RO RI:List bQ}(h:rV n l)(hn:n<=512)(j:Nat):(BJ n l RO RI j).length<=512:=by
 unfold BJ
 split
 ·have:=wD (λy=>decide (y∉RI)) (dZ l (j:Int));have:=h.vG (j:Int);omega
 ·have:=wD (λy=>decide (y∉RO)) (nQ l ((j:Int)-n));have:=h.FH ((j:Int)-n);omega
theorem arc_eq{l:List bQ}(h:BN l){x y:bQ}(hx:x∈l)(hy:y∈l)(hf:x.f=y.f)(ht:x.t=y.t):x=y:=by
 have h1:=yJ h hx;have h2:=yJ h hy;rw[hf,ht,h2] at h1;exact(uZ h1).symm
theorem Bv{key:bQ->Int}{row R:List bQ}{a:bQ}(hs:YR key row)(h1:∀x∈row,x∉R->key x=key a->x=a):
  (row.filter λy=>decide (y∉R)).filter (λy=>decide (key y≠key a))=row.filter λy=>decide (y∉R++[a]):=by
 refine((hs.filter _).filter _).ext (hs.filter _) λx=>?_;simp only[jG,decide_eq_true_eq,jS,kZ,not_or]
 constructor
 ·rintro⟨⟨hx,hn⟩,hk⟩
  exact⟨hx,hn,λe=>hk (by rw[e])⟩
 ·rintro⟨hx,hn,gH⟩
  exact⟨⟨hx,hn⟩,λhk=>gH (h1 x hx hn hk)⟩
theorem Cut_i{N:mZ}{n:Nat}{l:List bQ}{v:Int}{w:aH}{Q:aH->Prop}(h:lI w N n l)
  (hQ:∀w' N',lI w' N' n (DB l v)->N'.g=N.g->aY N.dK w w'->(∀k,N'.dK k->N.dK k\/w.heap.size<=k)->Q w'):XB (some ⟨N.g,0,none⟩) v w Q:=by
 unfold XB;have LP:=h.sz;have mL:=h.ok;refine Yb h λs1 w1 Dq k1 Du=>?_;have h1:=h.aO k1;have r1:=Dq.rd kL;have hX0:kE n l=BJ n l [] []:=by
  funext j
  unfold kE BJ
  split<;>exact(List.filter_eq_self.2 dJ).symm
 have at1:mD w1 N n (BJ n l [] []):=by rw[<-hX0];exact h1.at_
 refine bK (λm t w2=>∃(i:Nat) (N2:mZ),i<=(dZ l v).length/\m=(dZ l v).length-i/\t=((i:Int),())/\mD w2 N2 n (BJ n l ((dZ l v).take i) [])/\N2.g=N.g/\Rd w2 s1 4 eC (dZ l v)/\aY N.dK w w2/\(∀k,N2.dK k->N.dK k\/w1.heap.size<=k)/\w1.heap.size<=w2.heap.size) (dZ l v).length
  ⟨0,N,iF _,rfl,rfl,by simpa using at1,rfl,r1,k1.wk,λk hk=>.inl hk,iX _⟩ ?_
 rintro m t w2 ⟨i,N2,hi,rfl,rfl,at2,Ap,r2,m2,hf2,z2⟩ X hX;dsimp only;have Vs:=Dq.len;have hlenO:=mL.vG v;have Vp:∀b,s1.b=some b->dZ l v≠[]->w.heap.size<=b.block/\b.block<w1.heap.size:=λb hb _=>⟨Du b hb,Dq.lt hb⟩;refine aJ (λcL=>?_) (λlK=>?_)
 ·have dF:i<(dZ l v).length:=aB
  refine⟨⟨aB,aB⟩,?_⟩;obtain⟨a0,ha0,hh⟩:=wR r2 (gU dF);generalize hxa:(dZ l v)[i]=a at hh;have hga:(dZ l v)[i]? =some a:=by rw[<-hxa];exact gU dF
  have fP:a∈dZ l v:=zN hga;obtain⟨hal,haf⟩:=eJ.1 fP;have hma:=mL.uV a hal;refine aA ha0 (bJ (nY a) hh ?_);simp only[aG];have k3:=aN.alloc w2 (.cells #[aD 0,aD 0,aD 0,aD 0] 128);have o3:cW (w2.alloc (.cells #[aD 0,aD 0,aD 0,aD 0] 128)) w2.heap.size 128 (eC ⟨0,0,0,0⟩):=cW.iS w2 _ 128;generalize w2.alloc (.cells #[aD 0,aD 0,aD 0,aD 0] 128)=w3 at*;refine CQ o3 rfl λw4 o4 m4=>?_;have k4:aN w2 w4:=aY.fresh k3 m4 λk hk=>aB;generalize RX:w2.heap.size=b2 at*;have hb2N:¬N2.dK b2:=λhk=>by have:=at2.lt hk;omega
  obtain⟨u,hu⟩:∃u:Nat,a.t=(u:Int):=⟨a.t.toNat,by have:=hma.2.2.1;omega⟩;have Dr:u<n:=by have:=hma.2.2.2.1;omega
  have d4:aN w4 w4.drew:=aY.drew (aY.refl _ w4);have la:∀{w':aH},cW w' b2 128 (eC a)->w'.cell? ((⟨b2,0,none⟩:Addr).add 1)=some (aD (u:Int)):=λho=>by
   rw[aS,ho.cell,<-hu];rfl
  have at4:=(at2.aO k4).aO d4;have o4':=o4.aL d4 id;rw[<-Ap];refine aA rfl (aE (k:=.slice) ⟨some ⟨N2.gi,0,none⟩,n,n⟩ at4.c1 (aE (k:=.i) (u:Int) (la o4') ?_));refine⟨⟨aB,by show _<(n:Int);omega⟩,aA rfl ?_⟩;obtain⟨s3,Fc,hc3⟩:=at4.LU Dr;refine aE (k:=.slice) s3 hc3 ?_;have rL:=at4.row (n+u) s3 Fc;have hXe:∀R,BJ n l R [] (n+u)=(nQ l a.t).filter (λy=>decide (y∉R)):=λR=>by
   have:¬(n+u<n):=aB;simp only[BJ,this,if_false,hu];congr 2;omega
  rw[hXe] at rL;have lU:YR bQ.f ((nQ l a.t).filter (λy=>decide (y∉(dZ l v).take i))):=(mL.sC.LU a.t).filter _;have fW:=wD (λy=>decide (y∉(dZ l v).take i)) (nQ l a.t);have yD:=mL.FH a.t;have jm:a∉(dZ l v).take i:=by
   intro IW;obtain⟨p,hp⟩:=oZ.1 IW;have hpi:p<i:=by have:=(kY.1 hp).1;simp at this;omega
   rw[VE hpi] at hp;have:=(mL.sC.out v).get hpi hp hga;omega
  have IW:a∈(nQ l a.t).filter (λy=>decide (y∉(dZ l v).take i)):=by
   rw[OF];exact⟨iB.2 ⟨hal,rfl⟩,jm⟩
  refine Zh (rL.rd kL) lU aB λj fnd w5 k5 qN _=>?_;have d5:aN w5 w5.drew:=aY.drew (aY.refl _ w5);have k45:=(d4.tr k5).tr d5;have ig:=(at2.aO k4).aO k45;have o5:=o4.aL k45 id;refine aA rfl (aE (k:=.slice) ⟨some ⟨N2.gi,0,none⟩,n,n⟩ ig.c1 (aE (k:=.i) (u:Int) (la o5) ?_));refine aA rfl (aE (k:=.slice) ⟨some ⟨N2.gi,0,none⟩,n,n⟩ ig.c1 (aE (k:=.i) (u:Int) (la o5) ?_));refine⟨⟨aB,by show _<(n:Int);omega⟩,aA rfl ?_⟩;obtain⟨s6,Qw,hc6⟩:=ig.LU Dr;rw[Fc] at Qw;cases Qw;refine aE (k:=.slice) s3 hc6 ?_;have Bb:=ig.row (n+u) s3 Fc;rw[hXe] at Bb;have hj:j<((nQ l a.t).filter (λy=>decide (y∉(dZ l v).take i))).length:=(kY.1 (qN.qJ lU IW haf)).1;rw[gV (n:=(j:Int)+1) aB aB];refine Zm Bb hj aB λs7 w6 hv7 m6 hb7=>?_;have gH:∀k,(∃b,s3.b=some b/\k=b.block)->N2.dK k:=λk ⟨b,hb,hk⟩=>.inr (.inr (.inr ⟨n+u,s3,b,Fc,hb,hk.symm⟩));have o6:=o5.aL m6 λhk=>hb2N (gH _ hk);refine⟨la o6,?_,⟨aB,by show _<(n:Int);omega⟩,aA rfl ?_⟩
  ·have:=ig.head.aL m6 λ⟨b,hb,hk⟩=>(ig.sep (n+u) s3 b Fc hb).1 hk.symm
   rw[aS,this.cell];rfl
  refine ig.putIn Dr Fc hv7 m6 (.inl hb7) λw7 at7 m7 z7=>?_;rw[gV (n:=(i:Int)+1) aB aB];have Rr:(λj'=>if j'=n+u then((nQ l a.t).filter (λy=>decide (y∉(dZ l v).take i))).take j++((nQ l a.t).filter (λy=>decide (y∉(dZ l v).take i))).drop (j+1) else BJ n l ((dZ l v).take i) [] j')=BJ n l ((dZ l v).take (i+1)) []:=by
   funext j'
   rw[List.take_add_one,hga,Option.toList_some]
   split
   ·rename_i he
    subst he;rw[hXe,qN.Wm lU IW haf,<-haf];refine Bv (mL.sC.LU a.t) λx hx _ hk=>?_;obtain⟨An,Wh⟩:=iB.1 hx;exact arc_eq mL.sC An hal hk Wh
   ·rename_i he
    unfold BJ
    split
    ·rfl
    ·refine List.filter_congr λx hx=>?_
     have:x≠a:=by
      rintro rfl;have:=(iB.1 hx).2;omega
     simp[this]
  rw[Rr] at at7;have m27:aY N2.dK w2 w7:=(k4.wk.tr k45.wk).tr m7;refine hX ((dZ l v).length-(i+1)) _ _ aB ⟨i+1,_,dF,rfl,rfl,at7,Ap,?_,m2.trans m27 (λk hk DL=>?_),λk hk=>?_,by have:=m27.size;omega⟩
  ·refine r2.aL m27 WG λb hb hk=>?_
   have bY:=Vp b hb (by intro e;rw[e] at dF;simp at dF);rcases hf2 _ hk with h'|h'
   ·have:=h.at_.lt h';omega
   ·omega
  ·rcases hf2 k DL with h'|h'
   ·exact h'
   ·have:=k1.size;omega
  ·rcases mZ.OU (N:=N2) (P:=λ_=>False) Fc (λa _=>.inl hb7) hk with h'|h'
   ·exact hf2 k h'
   ·exact h'.elim
 ·have dF:i=(dZ l v).length:=aB
  subst dF;rw[pF] at at2;generalize hO:dZ l v=O at*;have hmemO:∀x,x∈O↔x∈l/\x.f=v:=λx=>by rw[<-hO];exact eJ
  rw[<-Ap];refine In_at at2 LP (cutX_len mL LP) λs8 w8 hv8 k8 hfr8=>?_;have hI:(if 0<=v/\v<n then BJ n l O [] (n+v.toNat) else [])=nQ l v:=by
   split
   ·rename_i hv
    have:¬(n+v.toNat<n):=aB;simp only[BJ,this,if_false];rw[show((n+v.toNat:Nat):Int)-(n:Int)=v by omega];refine List.filter_eq_self.2 λx hx=>?_;obtain⟨An,Wh⟩:=iB.1 hx;have hmx:=(mL.uV x An).2.2.2.2.1;simp only[decide_eq_true_eq,hmemO];rintro⟨_,hf⟩;omega
   ·rename_i hv
    symm
    refine List.filter_eq_nil_iff.2 λx hx hxv=>?_;have e:x.t=v:=by simpa using hxv
    have:=mL.uV x hx;exact hv ⟨by rw[<-e];exact this.2.2.1,by rw[<-e];exact this.2.2.2.1⟩
  rw[hI] at hv8;have at8:=at2.aO k8;have r8:=hv8.rd kL;have m8:aY N.dK w w8:=m2.trans k8 λ_ _ h=>h.elim;have hl8:=hv8.len;have hlenI:=mL.FH v;refine bK (λm t w9=>∃(i:Nat) (N3:mZ),i<=(nQ l v).length/\m=(nQ l v).length-i/\t=((i:Int),())/\mD w9 N3 n (BJ n l O ((nQ l v).take i))/\N3.g=N.g/\Rd w9 s8 4 eC (nQ l v)/\aY N.dK w w9/\(∀k,N3.dK k->N.dK k\/w1.heap.size<=k)/\w8.heap.size<=w9.heap.size/\(∀k,N3.dK k->N2.dK k)) (nQ l v).length
   ⟨0,N2,iF _,rfl,rfl,by simpa using at8,Ap,r8,m8,hf2,iX _,λk hk=>hk⟩ ?_
  rintro m t w9 ⟨i,N3,hi,rfl,rfl,at9,zc,r9,m9,hf3,z9,hn3⟩ Y hY;dsimp only;refine aJ (λcL=>?_) (λlK=>?_)
  ·have dF:i<(nQ l v).length:=aB
   refine⟨⟨aB,aB⟩,?_⟩;obtain⟨a0,ha0,hh⟩:=wR r9 (gU dF);generalize hxa:(nQ l v)[i]=a at hh;have hga:(nQ l v)[i]? =some a:=by rw[<-hxa];exact gU dF
   have fP:a∈nQ l v:=zN hga;obtain⟨hal,Vw⟩:=iB.1 fP;have hma:=mL.uV a hal;refine aA ha0 (bJ (nY a) hh ?_);simp only[aG];have k3:=aN.alloc w9 (.cells #[aD 0,aD 0,aD 0,aD 0] 128);have o3:cW (w9.alloc (.cells #[aD 0,aD 0,aD 0,aD 0] 128)) w9.heap.size 128 (eC ⟨0,0,0,0⟩):=cW.iS w9 _ 128;generalize w9.alloc (.cells #[aD 0,aD 0,aD 0,aD 0] 128)=w3 at*;refine CQ o3 rfl λw4 o4 m4=>?_;have k4:aN w9 w4:=aY.fresh k3 m4 λk hk=>aB;generalize RX:w9.heap.size=b2 at*;have hb2N:¬N3.dK b2:=λhk=>by have:=at9.lt hk;omega
   obtain⟨u,hu⟩:∃u:Nat,a.f=(u:Int):=⟨a.f.toNat,by have:=hma.1;omega⟩;have Dr:u<n:=by have:=hma.2.1;omega
   have d4:aN w4 w4.drew:=aY.drew (aY.refl _ w4);have la:∀{w':aH},cW w' b2 128 (eC a)->w'.cell? ((⟨b2,0,none⟩:Addr).add 0)=some (aD (u:Int)):=λho=>by
    rw[aS,ho.cell,<-hu];rfl
   have at4:=(at9.aO k4).aO d4;have o4':=o4.aL d4 id;rw[Ap,<-zc];refine aA rfl (aE (k:=.slice) ⟨some ⟨N3.go,0,none⟩,n,n⟩ at4.c0 (aE (k:=.i) (u:Int) (la o4') ?_));refine⟨⟨aB,by show _<(n:Int);omega⟩,aA rfl ?_⟩;obtain⟨s3,Fc,hc3⟩:=at4.out Dr;refine aE (k:=.slice) s3 hc3 ?_;have rL:=at4.row u s3 Fc;have hXe:∀R,BJ n l O R u=(dZ l a.f).filter (λy=>decide (y∉R)):=λR=>by
    simp only[BJ,Dr,if_true,hu]
   rw[hXe] at rL;have lU:YR bQ.t ((dZ l a.f).filter (λy=>decide (y∉(nQ l v).take i))):=(mL.sC.out a.f).filter _;have fW:=wD (λy=>decide (y∉(nQ l v).take i)) (dZ l a.f);have yD:=mL.vG a.f;have jm:a∉(nQ l v).take i:=by
    intro IW;obtain⟨p,hp⟩:=oZ.1 IW;have hpi:p<i:=by have:=(kY.1 hp).1;simp at this;omega
    rw[VE hpi] at hp;have:=(mL.sC.LU v).get hpi hp hga;omega
   have IW:a∈(dZ l a.f).filter (λy=>decide (y∉(nQ l v).take i)):=by
    rw[OF];exact⟨eJ.2 ⟨hal,rfl⟩,jm⟩
   refine byTo_i (rL.rd kL) lU aB λj fnd w5 k5 qN _=>?_;have d5:aN w5 w5.drew:=aY.drew (aY.refl _ w5);have k45:=(d4.tr k5).tr d5;have ig:=(at9.aO k4).aO k45;have o5:=o4.aL k45 id;refine aA rfl (aE (k:=.slice) ⟨some ⟨N3.go,0,none⟩,n,n⟩ ig.c0 (aE (k:=.i) (u:Int) (la o5) ?_));refine aA rfl (aE (k:=.slice) ⟨some ⟨N3.go,0,none⟩,n,n⟩ ig.c0 (aE (k:=.i) (u:Int) (la o5) ?_));refine⟨⟨aB,by show _<(n:Int);omega⟩,aA rfl ?_⟩;obtain⟨s6,Qw,hc6⟩:=ig.out Dr;rw[Fc] at Qw;cases Qw;refine aE (k:=.slice) s3 hc6 ?_;have Bb:=ig.row u s3 Fc;rw[hXe] at Bb;have hj:j<((dZ l a.f).filter (λy=>decide (y∉(nQ l v).take i))).length:=(kY.1 (qN.qJ lU IW Vw)).1;rw[gV (n:=(j:Int)+1) aB aB];refine Zm Bb hj aB λs7 w6 hv7 m6 hb7=>?_;have gH:∀k,(∃b,s3.b=some b/\k=b.block)->N3.dK k:=λk ⟨b,hb,hk⟩=>.inr (.inr (.inr ⟨u,s3,b,Fc,hb,hk.symm⟩));have o6:=o5.aL m6 λhk=>hb2N (gH _ hk);refine⟨la o6,?_,⟨aB,by show _<(n:Int);omega⟩,aA rfl ?_⟩
   ·have:=ig.head.aL m6 λ⟨b,hb,hk⟩=>(ig.sep u s3 b Fc hb).1 hk.symm
    rw[aS,this.cell];rfl
   refine ig.kq Dr Fc hv7 m6 (.inl hb7) λw7 at7 m7 z7=>?_;rw[gV (n:=(i:Int)+1) aB aB];have Rr:(λj'=>if j'=u then((dZ l a.f).filter (λy=>decide (y∉(nQ l v).take i))).take j++((dZ l a.f).filter (λy=>decide (y∉(nQ l v).take i))).drop (j+1) else BJ n l O ((nQ l v).take i) j')=BJ n l O ((nQ l v).take (i+1)):=by
    funext j'
    rw[List.take_add_one,hga,Option.toList_some]
    split
    ·rename_i he
     subst he;rw[hXe,qN.Wm lU IW Vw,<-Vw];refine Bv (mL.sC.out a.f) λx hx _ hk=>?_;obtain⟨An,Wh⟩:=eJ.1 hx;exact arc_eq mL.sC An hal Wh hk
    ·rename_i he
     unfold BJ
     split
     ·refine List.filter_congr λx hx=>?_
      have:x≠a:=by
       rintro rfl;have:=(eJ.1 hx).2;omega
      simp[this]
     ·rfl
   rw[Rr] at at7;have m97:aY N3.dK w9 w7:=(k4.wk.tr k45.wk).tr m7;have GH:∀k,({N3 with dY:=N3.dY.set u s7}:mZ).dK k->N3.dK k:=λk hk=>by
    rcases mZ.OU (N:=N3) (P:=λ_=>False) Fc (λa _=>.inl hb7) hk with h'|h'
    ·exact h'
    ·exact h'.elim
   refine hY ((nQ l v).length-(i+1)) _ _ aB ⟨i+1,_,dF,rfl,rfl,at7,zc,?_,m9.trans m97 (λk hk DL=>?_),λk hk=>hf3 k (GH k hk),by have:=m97.size;omega,λk hk=>hn3 k (GH k hk)⟩
   ·refine r9.aL m97 WG λb hb hk=>?_
    have hb8:=hfr8 b hb;have:=at2.lt (hn3 _ hk);omega
   ·rcases hf3 k DL with h'|h'
    ·exact h'
    ·have:=k1.size;omega
  ·have dF:i=(nQ l v).length:=aB
   subst dF;rw[pF] at at9;have Od:∀j,j≠n+v.toNat\/¬(0<=v/\v<n)->j≠v.toNat\/¬(0<=v/\v<n)->BJ n l O (nQ l v) j=kE n (DB l v) j:=by
    intro j hj1 hj2;unfold BJ kE DB
    split
    ·rename_i hjn
     unfold dZ;rw[List.filter_filter,List.filter_filter];refine List.filter_congr λx hx=>?_;obtain⟨a1,a2,a3,a4,_⟩:=mL.uV x hx;apply Bool.eq_iff_iff.2;simp only[tO,decide_eq_true_eq,iB,hx,true_and];omega
    ·rename_i hjn
     unfold nQ;rw[List.filter_filter,List.filter_filter];refine List.filter_congr λx hx=>?_;obtain⟨a1,a2,a3,a4,_⟩:=mL.uV x hx;apply Bool.eq_iff_iff.2;simp only[tO,decide_eq_true_eq,hmemO,hx,true_and];omega
   rw[Ap,<-zc];refine has_at at9 LP λr hr=>aF (λhb=>?_) (λhb=>?_)
   ·have hv:=hr.1 hb
    obtain⟨u,rfl⟩:∃u:Nat,v=(u:Int):=⟨v.toNat,aB⟩;have Dr:u<n:=aB;simp only[lJ] at Od;refine aA rfl (aE (k:=.slice) ⟨some ⟨N3.go,0,none⟩,n,n⟩ at9.c0 (aA rfl (aE (k:=.slice) ⟨some ⟨N3.gi,0,none⟩,n,n⟩ at9.c1 ?_)));refine⟨⟨aB,by show _<(n:Int);omega⟩,aA rfl ?_⟩;have d9:aN w9 w9.drew:=aY.drew (aY.refl _ w9);have at9':=at9.aO d9;obtain⟨sa,hsa,_⟩:=at9'.out Dr;refine at9'.kq (s':=bD) Dr hsa (dP.nil _ _ _ _) (aY.refl _ _) (.inr λa ha=>by cases ha) λeY at10 YN _=>?_;refine⟨⟨aB,by show _<(n:Int);omega⟩,aA rfl ?_⟩;obtain⟨sb,hsb,_⟩:=at10.LU Dr;refine at10.putIn (s':=bD) Dr hsb (dP.nil _ _ _ _) (aY.refl _ _) (.inr λa ha=>by cases ha) λeN at11 Ku _=>?_;have vY:∀k,({N3 with dY:=N3.dY.set u bD}:mZ).dK k->N3.dK k:=λk hk=>by
     rcases mZ.OU (N:=N3) (P:=λ_=>False) hsa (λa ha=>by cases ha) hk with h'|h'
     ·exact h'
     ·exact h'.elim
    have IT:∀k,({N3 with dY:=(N3.dY.set u bD).set (n+u) bD}:mZ).dK k->N3.dK k:=λk hk=>by
     rcases mZ.OU (N:={N3 with dY:=N3.dY.set u bD}) (P:=λ_=>False) hsb (λa ha=>by cases ha) hk with h'|h'
     ·exact vY k h'
     ·exact h'.elim
    have m911:aY N3.dK w9 eN:=(d9.wk.tr YN).trans Ku λk _ hk=>vY k hk;refine hQ eN {N3 with dY:=(N3.dY.set u bD).set (n+u) bD} ⟨?_,mL.cut _,LP⟩ zc (m9.trans m911 λk hk DL=>?_) λk hk=>?_
    ·have Rr:(λj=>if j=n+u then [] else(λj=>if j=u then [] else BJ n l O (nQ l (u:Int)) j) j)=kE n (DB l (u:Int)):=by
      funext j
      by_cases hj1:j=n+u
      ·subst hj1
       have:¬(n+u<n):=aB;simp only[if_true,kE,this,if_false]
       symm
       refine List.filter_eq_nil_iff.2 λx hx hxt=>?_;have h2:=(pT.1 hx).2.2;have:x.t=((n+u:Nat):Int)-n:=by simpa using hxt
       omega
      ·simp only[hj1,if_false]
       by_cases hj2:j=u
       ·subst hj2
        simp only[if_true,kE,Dr]
        symm
        refine List.filter_eq_nil_iff.2 λx hx hxf=>?_;have h2:=(pT.1 hx).2.1;have:x.f=(j:Int):=by simpa using hxf
        omega
       ·simp only[hj2,if_false]
        exact Od j (.inl hj1) (.inl hj2)
     rw[<-Rr];exact at11
    ·rcases hf3 k DL with h'|h'
     ·exact h'
     ·have:=k1.size;omega
    ·rcases hf3 k (IT k hk) with h'|h'
     ·exact .inl h'
     ·exact .inr (iG k1.size h')
   ·have hv:¬(0<=v/\v<n):=λhv=>by rw[hr.2 hv] at hb;cases hb
    have Rr:BJ n l O (nQ l v)=kE n (DB l v):=by
     funext j;exact Od j (.inr hv) (.inr hv)
    rw[Rr] at at9;exact hQ w9 N3 ⟨at9,mL.cut _,LP⟩ zc m9 λk hk=>(hf3 k hk).imp id λh'=>iG k1.size h'
end
section
section
variable{w w':aH}{g:Nat}{s:Sl}{n:Nat}{l:List bQ}
end
end
section
section
variable{w:aH}{g:Nat}{s:Sl}{n:Nat}{l:List bQ}
end
end
section
section
variable{w:aH}{g:Nat}{s:Sl}{n:Nat}{l:List bQ}
end
end
abbrev eB(b:Bool):List Value:=[.bool b]
theorem Wu:∀b:Bool,(eB b).length=1:=λ_=>rfl
theorem oneB:∀b:Bool,∀u∈eB b,u.oneCell'=true:=by intro b u hu;simp at hu;subst hu;rfl
abbrev eI(n:Int):List Value:=[aD n]
theorem fM:∀b:Int,(eI b).length=1:=λ_=>rfl
theorem EZ:∀b:Int,∀u∈eI b,u.oneCell'=true:=by intro b u hu;simp at hu;subst hu;rfl
theorem dA(n:Int):eI n≠[]:=by simp
theorem cQ{α:Type}{w:aH}{s:Sl}{k:CK}{e:α->k.T}{xs:List α}(h:Rd w s 1 (λx=>[k.aX (e x)]) xs){i:Nat}{x:α}(hx:xs[i]? =some x):∃a,s.b=some a/\w.cell? (a.add (i*1))=some (k.aX (e x)):=by
 obtain⟨a,ha,hh⟩:=h.get i x hx;exact⟨a,ha,by have:=hh.1;rwa[add_add,Nat.add_zero] at this⟩
abbrev R3:=Int×Int×Int
abbrev eR3(r:R3):List Value:=[aD r.1,aD r.2.1,aD r.2.2]
theorem ZE(r:R3):eR3 r≠[]:=by simp
theorem Ub{k n:Int}{w:aH}{Q:Int->aH->Prop}(hn:0<n)(h63:n<=1000000)(hQ:Q (k%n) w):qC k n w Q:=by
 unfold qC;have h1:=Int.emod_nonneg k (b:=n) aB;have h2:=Int.emod_lt_of_pos k hn;have h3:k.tmod n=if 0<=k then k%n else if k%n=0 then 0 else k%n-n:=by
  rw[Int.tmod_eq_emod];have hd:n ∣ k↔k%n=0:=Int.dvd_iff_emod_eq_zero
  by_cases h0:0<=k
  ·simp[h0]
  ·by_cases hz:k%n=0
   ·simp[h0,hz,hd]
   ·have:(n.natAbs:Int)=n:=aB
    simp[h0,hz,hd,this]
 refine⟨aB,aJ (λh=>?_) (λh=>?_)⟩
 ·have e:k.tmod n+n=k%n:=by rw[h3] at h ⊢;split at h<;>rename_i h0<;>simp only[h0,if_true,if_false] at h ⊢<;>(try split at h)<;>(try split)<;>omega
  rw[e,gV aB aB];exact hQ
 ·have e:k.tmod n=k%n:=by rw[h3] at h ⊢;split at h<;>rename_i h0<;>simp only[h0,if_true,if_false] at h ⊢<;>(try split at h)<;>(try split)<;>omega
  rw[e];exact hQ
theorem qM(i:Nat)(hi:i<1099511627776):aQ ((i:Int)+1)=((i+1:Nat):Int):=by rw[gV aB aB];rfl
theorem HH{w:aH}{x:bQ}{K:aH->Prop}(hK:∀w',aN w w'->cW w' w.heap.size iT (eC x)->w.heap.size<w'.heap.size->K w'):
  aI prog iT ⟨w.heap.size,0,none⟩ (Gb x) (w.alloc (.cells #[aD 0,aD 0,aD 0,aD 0] iT)) K:=by
 have k:=aN.alloc w (.cells #[aD 0,aD 0,aD 0,aD 0] iT);have o:cW (w.alloc (.cells #[aD 0,aD 0,aD 0,aD 0] iT)) w.heap.size iT (eC ⟨0,0,0,0⟩):=cW.iS w _ _;exact CQ o rfl λw' o' m'=>hK w' (aY.fresh k m' λb hb=>aB) o' o'.lt
theorem tE{w:aH}{g:Nat}{x:bQ}(h:cW w g iT (eC x)):w.cell? ((⟨g,0,none⟩:Addr).add 0)=some (aD x.f)/\w.cell? ((⟨g,0,none⟩:Addr).add 1)=some (aD x.t)/\w.cell? ((⟨g,0,none⟩:Addr).add 2)=some (aD x.w)/\w.cell? ((⟨g,0,none⟩:Addr).add 3)=some (aD x.m):=by
 refine⟨?_,?_,?_,?_⟩<;>rw[aS,h.cell]<;>rfl
theorem Bz{N:mZ}{n:Nat}{L:List bQ}{v:Int}{W:aH}{Q:Sl->aH->Prop}(h:lI W N n L)
  (hQ:∀s w',dP w' iT 4 eC s (fU n L v)->aN W w'->(∀b,s.b=some b->W.heap.size<=b.block)->Q s w'):oW (some ⟨N.g,0,none⟩) v W Q:=by
 unfold oW;have hL:=h.ok;have hn:=h.sz;refine Yb h λs1 w1 v1 k1 f1=>?_;refine In_i (h.aO k1) λs2 w2 v2 k2 f2=>?_;have k02:=k1.tr k2;have h2:=h.aO k02;have YK:=v1.aL k2 λ_ _=>id;have s1l:=v1.len;have s2l:=v2.len;have il:=hL.FH v;have ol:=hL.vG v;have slen:∀i,((nQ L v).take i).flatMap (λa=>mN n L v a (dZ L v))=((nQ L v).take i).flatMap (λa=>mN n L v a (dZ L v))/\(((nQ L v).take i).flatMap (λa=>mN n L v a (dZ L v))).length<=262144:=λi=>by
  refine⟨rfl,?_⟩;have h1:=Oo n L v ((nQ L v).take i);have h2:((nQ L v).take i).length<=512:=by rw[qF];omega
  have:((nQ L v).take i).length*(dZ L v).length<=512*512:=JA h2 aB;omega
 refine bK (λc t w3=>∃(i:Nat) (s:Sl),i<=(nQ L v).length/\c=(nQ L v).length-i/\t=(s,(i:Int),())/\dP w3 iT 4 eC s (((nQ L v).take i).flatMap λa=>mN n L v a (dZ L v))/\aN w2 w3/\(∀b,s.b=some b->w2.heap.size<=b.block)) (nQ L v).length
  ⟨0,_,iF _,rfl,rfl,by simpa using dP.nil _ _ _ _,aY.refl _ _,λb hb=>by cases hb⟩ ?_
 rintro c t w3 ⟨i,s,hi,rfl,rfl,hv,k3,fs⟩ X hX;dsimp only;refine aJ (λcL=>?_) (λlK=>?_)
 ·have dF:i<(nQ L v).length:=aB
  refine⟨⟨aB,aB⟩,?_⟩;obtain⟨p,hp,hh⟩:=wR ((v2.aL k3 λ_ _=>id).rd kL) (gU dF);have fP:=oE dF;have tk:((nQ L v).take (i+1)).flatMap (λa=>mN n L v a (dZ L v))=((nQ L v).take i).flatMap (λa=>mN n L v a (dZ L v))++mN n L v (nQ L v)[i] (dZ L v):=by
   rw[FW dF,JC];simp
  have Du:=(slen i).2;generalize (nQ L v)[i]=a at*;generalize ((nQ L v).take i).flatMap (λa=>mN n L v a (dZ L v))=P at*;obtain⟨haL,Vw⟩:=iB.1 fP;obtain⟨_,_,_,_,_,aw0,aw1,_⟩:=hL.uV a haL;refine aA hp (bJ (nY a) hh ?_);simp only[aG];refine HH λw5 k5 o5 z5=>?_;have qz:=hv.aL k5 λ_ _=>id;have ne5:∀b,s.b=some b->b.block≠w3.heap.size:=λb hb e=>by have:=hv.lt hb;omega
  have z23:=k3.size;generalize w3.heap.size=b2 at*;refine bK (λc t w6=>∃(j:Nat) (s':Sl),j<=(dZ L v).length/\c=(dZ L v).length-j/\t=(s',(j:Int),())/\dP w6 iT 4 eC s' (P++mN n L v a ((dZ L v).take j))/\aN w2 w6/\cW w6 b2 iT (eC a)/\(∀b,s'.b=some b->w2.heap.size<=b.block/\b.block≠b2)) (dZ L v).length
   ⟨0,s,iF _,rfl,rfl,by simpa [mN] using qz,k3.tr k5,o5,λb hb=>⟨fs b hb,ne5 b hb⟩⟩ ?_
  rintro c t w6 ⟨j,s',hj,rfl,rfl,hv6,k6,o6,fs6⟩ Y hY;dsimp only;refine aJ (λcL=>?_) (λlK=>?_)
  ·have wG:j<(dZ L v).length:=aB
   refine⟨⟨aB,aB⟩,?_⟩;obtain⟨p,hp,hh⟩:=wR ((YK.aL k6 λ_ _=>id).rd kL) (gU wG);have hmemb:=oE wG;have tkj:mN n L v a ((dZ L v).take (j+1))=mN n L v a ((dZ L v).take j)++(if GQ n L v a (dZ L v)[j] then [⟨a.f,(dZ L v)[j].t,a.w+(dZ L v)[j].w,v⟩] else []):=by
    rw[FW wG,aa]
   have RX:=Jc n L v a ((dZ L v).take j);have Nq:((dZ L v).take j).length<=512:=by rw[qF];omega
   generalize (dZ L v)[j]=b at*;generalize mN n L v a ((dZ L v).take j)=R at*;obtain⟨hbL,hbf⟩:=eJ.1 hmemb;obtain⟨_,_,_,_,_,bw0,bw1,_⟩:=hL.uV b hbL;refine aA hp (bJ (nY b) hh ?_);refine HH λw8 k8 o8 z8=>?_;have K8:=k6.tr k8;have o8':=o6.aL k8 id;have hv8:=hv6.aL k8 λ_ _=>id;have ne8:∀b,s'.b=some b->b.block≠w6.heap.size:=λb hb e=>by have:=hv6.lt hb;omega
   have z26:=k6.size;have zb2:=o6.lt;generalize w6.heap.size=b4 at*;obtain⟨a0,a1,a2,_⟩:=tE o8';obtain⟨c0,c1,c2,_⟩:=tE o8;have next:∀w',aN w8 w'->GQ n L v a b=false->Y (s',aQ ((j:Int)+1),()) w':=λw' k' hn'=>by
    rw[qM j aB];exact hY _ _ _ aB ⟨j+1,s',wG,rfl,rfl,by rw[tkj,hn',if_neg dJ,sG];exact hv8.aL k' (λ_ _=>id),K8.tr k',o8'.aL k' id,fs6⟩
   refine aE (k:=.i) a.f a0 (aE (k:=.i) b.t c1 ?_);refine aF (λhe=>?_) (λhe=>?_)
   ·have uM:a.f=b.t:=by simpa using he
    exact next w8 (aY.refl _ _) (by unfold GQ;simp[uM])
   ·have uM:a.f≠b.t:=by simpa using he
    refine aE (k:=.i) a.f a0 (aE (k:=.i) b.t c1 (aE (k:=.i) a.w a2 (aE (k:=.i) b.w c2 ?_)));rw[gV (n:=a.w+b.w) aB aB];refine Find_i (h2.aO K8) aB λw9 k9=>?_;refine aF (λhf=>?_) (λhf=>?_)
    ·exact next w9 k9 (by unfold GQ;rw[hf];simp)
    ·have Gt:GQ n L v a b=true:=by unfold GQ;rw[hf];simp[uM]
     have o9:=o8'.aL k9 id;have q9:=o8.aL k9 id;obtain⟨a0,a1,a2,_⟩:=tE o9;obtain⟨c0,c1,c2,_⟩:=tE q9;refine aE (k:=.i) a.f a0 (aE (k:=.i) b.t c1 (aE (k:=.i) a.w a2 (aE (k:=.i) b.w c2 ?_)));rw[gV (n:=a.w+b.w) aB aB];have hlit:=dP.lit w9 iT eC kL [(⟨a.f,b.t,a.w+b.w,v⟩:bQ)] #[aD a.f,aD b.t,aD (a.w+b.w),aD v] rfl (by simp[maxLen]);have IS:=aN.alloc w9 (.cells #[aD a.f,aD b.t,aD (a.w+b.w),aD v] iT);have Ci:=o9.aL IS id;refine fO kO kL Fl ((hv8.aL k9 λ_ _=>id).aL IS (λ_ _=>id)) (hlit.rd kL) (by rw[mH];simp only[List.length_singleton];omega) (by rw[mH];simp only[List.length_singleton];omega) λr eN v11 Ku f11 _=>?_;rw[qM j aB];have Ny:=(K8.tr k9).tr IS;refine hY _ _ _ aB ⟨j+1,r,wG,rfl,rfl,by rw[tkj,Gt,if_pos rfl,<-sH];exact v11,Ny.fresh Ku λk ⟨b,hb,e⟩=>by subst e;exact(fs6 b hb).1,Ci.aL Ku λ⟨b,hb,e⟩=>(fs6 b hb).2 e.symm,λb hb=>?_⟩;rcases f11 with e|⟨a',e,FX⟩
     ·exact fs6 b (e▸hb)
     ·rw[e] at hb;cases hb
      have:=Ci.lt;exact⟨iG Ny.size FX,aB⟩
  ·have e:j=(dZ L v).length:=aB
   subst e;rw[pF] at hv6;rw[qM i aB];exact hX _ _ _ aB ⟨i+1,s',dF,rfl,rfl,by rw[tk];exact hv6,k6,λb hb=>(fs6 b hb).1⟩
 ·have e:i=(nQ L v).length:=aB
  subst e;rw[pF] at hv;exact hQ s w3 hv (k02.tr k3) λb hb=>iG k02.size (fs b hb)
theorem Worth_i{N:mZ}{n:Nat}{L:List bQ}{v:Int}{W:aH}{Q:Int->aH->Prop}(h:lI W N n L)(hQ:∀w',aN W w'->Q (FE n L v) w'):zX (some ⟨N.g,0,none⟩) v W Q:=by
 unfold zX;refine Bz h λs w1 v1 k1 _=>?_;refine In_i (h.aO k1) λs2 w2 v2 k2 _=>?_;refine Yb ((h.aO k1).aO k2) λs3 w3 v3 k3 _=>?_;have l1:=v1.len;have l2:=v2.len;have l3:=v3.len;have hb:=Oq h.ok h.sz v;have il:=h.ok.FH v;have ol:=h.ok.vG v;have hn:=h.sz;rw[l1,l2,l3,gV (n:=((fU n L v).length:Int)-((nQ L v).length:Int)) aB aB,gV aB aB];exact hQ w3 ((k1.tr k2).tr k3)
theorem First_i{N:mZ}{n:Nat}{L:List bQ}{gone:Sl}{gs:List Bool}{W:aH}{Q:Int->aH->Prop}(h:lI W N n L)(hg:Rd W gone 1 eB gs)(hgl:gs.length<1000000)(hQ:∀w',aN W w'->Q (kU n L gs) w'):zY (some ⟨N.g,0,none⟩) gone W Q:=by
 unfold zY;have hn:=h.sz;have gl:=hg.len;refine RC h ?_;refine bK (λc t w2=>∃(k:Nat),k<=n/\c=n-k/\t=((lX n L gs k).1,(lX n L gs k).2,(k:Int),())/\aN W w2) n
  ⟨0,iF _,rfl,rfl,aY.refl _ _⟩ ?_
 rintro c t w2 ⟨k,hk,rfl,rfl,k2⟩ X hX;dsimp only;refine aJ (λcL=>?_) (λlK=>?_)
 ·have lT:k<n:=aB
  have hs:=OK n L gs k;have next:∀w',aN W w'->∀z,uE n L gs (lX n L gs k) k=z->X (z.1,z.2,aQ ((k:Int)+1),()) w':=λw' k' z hz=>by
   rw[qM k aB];exact hX _ _ _ aB ⟨k+1,lT,rfl,by rw[hs,hz],k'⟩
  intro J hJ;have go:cB gs k=false->J () w2:=λib=>by
   apply hJ;refine Worth_i (h.aO k2) λw4 k4=>?_;have K4:=k2.tr k4;refine aJ (λh0=>?_) (λh0=>?_)
   ·exact next w4 K4 ((k:Int),FE n L k) (by unfold uE;rw[ib,if_neg dJ,if_pos h0])
   ·refine aJ (λhw=>?_) (λhw=>?_)
    ·exact next w4 K4 ((k:Int),FE n L k) (by unfold uE;rw[ib,if_neg dJ,if_neg h0,if_pos hw])
    ·exact next w4 K4 (lX n L gs k) (by unfold uE;rw[ib,if_neg dJ,if_neg h0,if_neg hw])
  refine aJ (λhl=>?_) (λhl=>?_)
  ·have hkl:k<gs.length:=aB
   have cU:gs[k]? =some gs[k]:=gU hkl;obtain⟨p,hp,hc⟩:=cQ (k:=.bool) (e:=λx=>x) (hg.aL k2 dJ (λ_ _=>id)) cU;have hgk:cB gs k=gs[k]:=by unfold cB;rw[LZ,cU];rfl
   rw[lJ];refine⟨⟨aB,hl⟩,aA hp (aE (k:=.bool) _ hc ?_)⟩;refine aF (λhb=>?_) (λhb=>go (hgk.trans hb));exact next w2 k2 (lX n L gs k) (by unfold uE;rw[hgk,hb,if_pos rfl])
  ·refine go ?_
   unfold cB;rw[LZ,List.getElem?_eq_none aB];rfl
 ·have e:k=n:=aB
  subst e;exact hQ w2 k2
theorem bP{w:aH}{cs:Array Value}{t:TypeId}{K:Addr->aH->Prop}(h:∀w',cW w' w.heap.size t cs.toList->aN w w'->w'.heap.size=w.heap.size+1->K ⟨w.heap.size,0,none⟩ w'):aG w cs t K:=
 h _ (cW.iS w cs t) (aN.alloc w _) dJ
theorem cw{s:Sl}{xs:List bQ}{Wm:Value}{p:bQ->Bool}{w:aH}{Q:Int->aH->Prop}{C:aH->Prop}(hs:dP w iT 4 eC s xs)(hl:xs.length<1000000)(hC:C w)(ft:∀w1 w2,C w1->aN w1 w2->C w2)
  (hdel:∀x w1 (K:WQ Value),C w1->x∈xs->(∀w2,aN w1 w2->K (.bool (p x)) w2)->lQ prog Wm [Gb x] w1 K)
  (uX:∀w',aN w w'->(∀x∈xs,p x=false)->Q (-1) w') (ji:∀(i:Nat) w',aN w w'->i<xs.length->(∀j x,j<i->xs[j]? =some x->p x=false)->(∀x,xs[i]? =some x->p x=true)->Q (i:Int) w'):iR s Wm w Q:=by
 unfold iR;have sl:=hs.len;refine bK (λc t w1=>∃(i:Nat),i<=xs.length/\c=xs.length-i/\t=((i:Int),())/\aN w w1/\∀j x,j<i->xs[j]? =some x->p x=false) xs.length ⟨0,iF _,rfl,rfl,aY.refl _ _,λj x hj=>aB⟩ ?_;rintro c t w1 ⟨i,hi,rfl,rfl,k1,hn⟩ X hX;refine aJ (λcL=>?_) (λlK=>?_)
 ·have GJ:(i:Int)<(s.l:Int):=cL
  have dF:i<xs.length:=aB;have cU:=gU dF;have fP:=oE dF;obtain⟨q,hq,hh⟩:=wR ((hs.aL k1 λ_ _=>id).rd kL) cU;generalize xs[i]=x at*;show(0<=(i:Int)/\(i:Int)<(s.l:Int))/\_;rw[lJ];refine⟨⟨aB,GJ⟩,aA hq (bJ (nY x) hh ?_)⟩;refine hdel x w1 _ (ft _ _ hC k1) fP λw2 k2=>⟨p x,rfl,?_⟩;refine aF (λhp=>?_) (λhp=>?_)
  ·exact ji i w2 (k1.tr k2) dF hn λy hy=>by rw[cU] at hy;cases hy;exact hp
  ·show X (aQ ((i:Int)+1),()) w2
   rw[qM i aB];refine hX _ _ _ aB ⟨i+1,dF,rfl,rfl,k1.tr k2,λj y hj hy=>?_⟩;rcases Nat.lt_or_ge j i with h|h
   ·exact hn j y h hy
   ·have:j=i:=aB
    subst this;rw[cU] at hy;cases hy;exact hp
 ·have hge':¬(i:Int)<(s.l:Int):=lK
  refine uX w1 k1 λx hx=>?_;obtain⟨j,hj⟩:=oZ.1 hx;have:=(kY.1 hj).1;exact hn j x aB hj
theorem KN{s:Sl}{xs:List bQ}{Wm:Value}{p:bQ->Bool}{w:aH}{Q:Sl->aH->Prop}{C:aH->Prop}(hs:dP w iT 4 eC s xs)(hl:xs.length<1000000)(hC:C w)(ft:∀w1 w2,C w1->aY (λk=>∃a,s.b=some a/\k=a.block) w1 w2->C w2)
  (hdel:∀x w1 (K:WQ Value),C w1->x∈xs->(∀w2,aN w1 w2->K (.bool (p x)) w2)->lQ prog Wm [Gb x] w1 K)
  (hQ:∀s' w',dP w' iT 4 eC s' (xs.filter λx=>!p x)->aY (λk=>∃a,s.b=some a/\k=a.block) w w'->s'.b=s.b->Q s' w'):fG s Wm w Q:=by
 unfold fG;have sl:=hs.len;have Rs:=hs.cap;have Rp:=hs.max;refine cw hs hl hC (λw1 w2 c k=>ft w1 w2 c k.wk) hdel (λw1 k1 uX=>?_) (λi0 w1 k1 hi0 hbef Vw=>?_)
 ·refine aF (λ_=>?_) (λh=>by simp at h)
  have:xs.filter (λx=>!p x)=xs:=List.filter_eq_self.2 λx hx=>by rw[uX x hx];rfl
  exact hQ s w1 (by rw[this];exact hs.aL k1 λ_ _=>id) k1.wk rfl
 ·refine aF (λh=>by simp at h) (λ_=>?_)
  have pre:(xs.take (i0+1)).filter (λx=>!p x)=xs.take i0:=by
   rw[FW hi0,JB];have e1:(xs.take i0).filter (λx=>!p x)=xs.take i0:=List.filter_eq_self.2 λx hx=>by
    obtain⟨j,hj⟩:=oZ.1 hx;have YH:=(kY.1 hj).1;rw[qF] at YH;rw[VE aB] at hj;rw[hbef j x aB hj];rfl
   rw[e1,FB,Vw _ (gU hi0)];simp
  rw[qM i0 aB];refine bK (λc t w2=>∃(i j:Nat) (ys:List bQ),j<=xs.length/\i<=j/\c=xs.length-j/\t=((i:Int),(j:Int),())/\ys.length=xs.length/\ys.take i=(xs.take j).filter (λx=>!p x)/\ys.drop j=xs.drop j/\dP w2 iT 4 eC s ys/\aY (λk=>∃a,s.b=some a/\k=a.block) w w2) (xs.length-(i0+1))
   ⟨i0,i0+1,xs,hi0,aB,rfl,rfl,rfl,pre.symm,rfl,hs.aL k1 (λ_ _=>id),k1.wk⟩ ?_
  rintro c t w2 ⟨i,j,ys,hj,RW,rfl,rfl,yl,Aw,ydrop,v2,m2⟩ X hX;dsimp only;refine aJ (λcL=>?_) (λlK=>?_)
  ·have wG:j<xs.length:=aB
   have cU:ys[j]? =some xs[j]:=by
    have:=congrArg (·[0]?) ydrop;simp only[List.getElem?_drop,Nat.add_zero] at this;rw[this,gU wG]
   have fP:=oE wG;have tk:(xs.take (j+1)).filter (λx=>!p x)=(xs.take j).filter (λx=>!p x)++(if p xs[j]=true then [] else [xs[j]]):=by
    rw[FW wG,JB,FB,List.filter_nil];cases p xs[j]<;>simp
   obtain⟨q,hq,hh⟩:=wR (v2.rd kL) cU;generalize xs[j]=x at*;rw[lJ];refine⟨⟨aB,cL⟩,aA hq (bJ (nY x) hh ?_)⟩;simp only[aG];refine HH λw4 k4 o4 z4=>?_;refine bJ (nY x) (iP o4) ?_;have m4:=m2.tr k4.wk;refine hdel x w4 _ (ft _ _ hC m4) fP λw5 k5=>⟨p x,rfl,?_⟩;have m5:=m4.tr k5.wk;have v5:=(v2.aL k4 λ_ _=>id).aL k5 λ_ _=>id;rw[qM j aB];have drop1:∀zs:List bQ,zs.drop j=xs.drop j->zs.drop (j+1)=xs.drop (j+1):=λzs h=>by
    rw[<-List.drop_drop,<-List.drop_drop,h]
   refine aF (λhp=>?_) (λhp=>?_)
   ·have hp':p x=false:=by simpa using hp
    refine bJ (nY x) (iP (o4.aL k5 id)) ⟨⟨aB,aB⟩,aA hq ?_⟩;rw[lJ];refine v5.store kL hq aB x (v:=Gb x) rfl CF (Fl x) λw6 v6 m6 _=>?_;rw[qM i aB];refine hX _ _ _ aB ⟨i+1,j+1,ys.set i x,wG,aB,rfl,rfl,by rw[pR];exact yl,?_,?_,v6,m5.tr (m6.mono λk _ e=>⟨q,hq,e⟩)⟩
    ·rw[tk,hp',if_neg dJ,<-Aw]
     have dF:i<(ys.set i x).length:=by rw[pR];omega
     rw[FW dF,List.getElem_set_self];congr 1;apply BH;intro m;rw[List.getElem?_take,List.getElem?_take]
     split
     ·rw[wC,if_neg aB]
     ·rfl
    ·rw[<-drop1 ys ydrop]
     apply BH;intro m;rw[List.getElem?_drop,List.getElem?_drop,wC,if_neg aB]
   ·exact hX _ _ _ aB ⟨i,j+1,ys,wG,aB,rfl,rfl,yl,by rw[tk,if_pos (show p x=true by simpa using hp),sG];exact Aw,drop1 ys ydrop,v5,m5⟩
  ·have ej:j=xs.length:=aB
   subst ej;rw[pF] at Aw;rcases v2.gN with⟨_,h0⟩|⟨g,cR,Lc,ho,fW⟩
   ·omega
   refine⟨⟨aB,aB⟩,?_⟩;rw[lJ];have yD:(ys.flatMap eC++cR).length=s.c*4:=fW;have ti:((ys.flatMap eC++cR).take (i*4))=(ys.take i).flatMap eC:=Pf kL ys cR i aB;have dW:∀w7,cW w7 g iT ((ys.take i).flatMap eC++((ys.flatMap eC++cR).drop (i*4)))\/(∃zs:List Value,zs.length=(s.l-i)*4/\cW w7 g iT ((ys.take i).flatMap eC++(zs++(ys.flatMap eC++cR).drop (i*4+(s.l-i)*4))))->aY (λk=>k=g) w2 w7->
     (0<=(i:Int)/\(i:Int)<=(s.c:Int))/\Q ⟨(aR s.b s.c 0 4),i-0,(s.c-0)⟩ w7:=λw7 ho7 m7=>by
    refine⟨⟨aB,aB⟩,?_⟩;rw[oV,Nat.sub_zero,Nat.sub_zero];have til:((ys.take i).flatMap eC).length=i*4:=by rw[uC,qF,Nat.min_eq_left aB]
    have h4:i*4<=s.c*4:=QB 4 aB;refine hQ _ w7 ⟨by rw[<-Aw,qF,Nat.min_eq_left aB],by show i<=s.c;omega,Rp,.inr ?_⟩ (m2.tr (m7.mono λk _ e=>⟨_,Lc,e⟩)) rfl;rw[<-Aw];rcases ho7 with ho7|⟨zs,hz,ho7⟩
    ·refine⟨g,_,Lc,ho7,?_⟩
     show _=s.c*4;rw[mH,List.length_drop,yD,til];omega
    ·refine⟨g,_,Lc,ho7,?_⟩
     show _=s.c*4;have:(s.l-i)*4=s.l*4-i*4:=Nat.sub_mul _ _ _;rw[mH,mH,List.length_drop,yD,til,hz];omega
   by_cases hic:i<s.c
   ·rw[Lc,lR hic]
    have h6:(s.l-i)*4=s.l*4-i*4:=Nat.sub_mul _ _ _;refine ZR kO (by simp[Value.oneCell']) ho (by rw[yD];omega) λw7 zs hz ho7 m7 _=>?_;rw[ti,sH] at ho7;have:=dW w7 (.inr ⟨zs,hz,ho7⟩) m7;rw[Lc] at this;exact this
   ·have hic':i=s.c:=aB
    have hsl0:s.l-i=0:=aB;rw[hsl0];refine⟨(),w2,?_,?_⟩
    ·cases aR s.b s.c i 4<;>simp[Builtin.clear_,run_underlying kO.under,zD]
    ·exact dW w2 (.inl (by rw[<-ti,Cs];exact ho)) (aY.refl _ _)
end Go.Proofs.YtihggjgakbgomaaGreat
