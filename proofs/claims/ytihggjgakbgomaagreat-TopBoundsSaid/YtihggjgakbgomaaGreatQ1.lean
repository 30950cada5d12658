import Derived.Shelf.SlIterI.Nil
import Derived.Shelf.SlIterI.Sorted
import Derived.Shelf.SortM.Plain
import Derived.Shelf.SortM.SortNone
import Derived.Test.YtihggjgakbgomaaGreatProg
import Derived.KernelRfl
import Derived.Test.YtihggjgakbgomaaGreatA1
import Derived.Test.YtihggjgakbgomaaGreatF1
import Derived.Test.YtihggjgakbgomaaGreatF2
import Derived.Test.YtihggjgakbgomaaGreatA2
namespace Go.Proofs.YtihggjgakbgomaaGreat
open Go Go.Proofs
def Ny:Go.Shelf.Ren:=⟨λ|7=>254|10=>260|n=>n,λ|23=>358|26=>3|3=>378|28=>162|0=>0|27=>161|33=>146|4=>4|n=>n,λn=>n⟩
theorem keysA:SlLaysZI.n7 Tryz.prog Ny where
 mixed:=by kernel_rfl
 f7:=⟨"maps.Keys[map[int]milepost/timer.wait,int,milepost/timer.wait]",by decide,Tryz.func254.trans (congrArg some (by kernel_rfl))⟩
 f10:=⟨"maps.Keys[map[int]milepost/timer.wait,int,milepost/timer.wait]$1",by decide,Tryz.func260.trans (congrArg some (by kernel_rfl))⟩
 t0:=Tryz.underlying0
 a0:=Tryz.isAgg0
 z0:=Tryz.sizeOf0
 v0:=Tryz.zeroValue0
 t4:=Tryz.underlying4
 a4:=Tryz.isAgg4
 z4:=Tryz.sizeOf4
 v4:=Tryz.zeroValue4
 t23:=Tryz.underlying358
 a23:=Tryz.isAgg358
 z23:=Tryz.sizeOf358
 v23:=Tryz.zeroValue358
 t26:=Tryz.underlying3
 a26:=Tryz.isAgg3
 z26:=Tryz.sizeOf3
 v26:=Tryz.zeroValue3
 t27:=Tryz.underlying161
 a27:=Tryz.isAgg161
 z27:=Tryz.sizeOf161
 v27:=Tryz.zeroValue161
 t28:=Tryz.underlying162
 a28:=Tryz.isAgg162
 z28:=Tryz.sizeOf162
 v28:=Tryz.zeroValue162
 t33:=Tryz.underlying146
 a33:=Tryz.isAgg146
 z33:=Tryz.sizeOf146
 v33:=Tryz.zeroValue146
def Ay:Go.Shelf.Ren:=⟨λ|6=>67|8=>119|9=>120|11=>162|13=>164|12=>163|23=>214|24=>215|14=>205|15=>206|16=>207|17=>208|18=>209|19=>210|20=>211|21=>212|22=>213|25=>246|26=>247|27=>248|28=>249|29=>250|30=>216|31=>258|n=>n,λ|26=>3|28=>162|24=>22|0=>0|3=>3|37=>266|48=>322|50=>324|4=>4|40=>316|39=>315|45=>140|5=>5|9=>9|51=>367|55=>371|57=>382|58=>383|33=>146|n=>n,λn=>n⟩
theorem ru:SlLaysZI.n6 Tryz.prog Ay where
 mixed:=by kernel_rfl
 f6:=⟨"slices.Sorted[int]",by decide,Tryz.func67.trans (congrArg some (by kernel_rfl))⟩
 f8:=⟨"slices.Collect[int]",by decide,Tryz.func119.trans (congrArg some (by kernel_rfl))⟩
 f11:=⟨"slices.AppendSeq[[]int,int]",by decide,Tryz.func162.trans (congrArg some (by kernel_rfl))⟩
 t0:=Tryz.underlying0
 a0:=Tryz.isAgg0
 z0:=Tryz.sizeOf0
 v0:=Tryz.zeroValue0
 t24:=Tryz.underlying22
 a24:=Tryz.isAgg22
 z24:=Tryz.sizeOf22
 v24:=Tryz.zeroValue22
 t26:=Tryz.underlying3
 a26:=Tryz.isAgg3
 z26:=Tryz.sizeOf3
 v26:=Tryz.zeroValue3
 t28:=Tryz.underlying162
 a28:=Tryz.isAgg162
 z28:=Tryz.sizeOf162
 v28:=Tryz.zeroValue162
 i26:=by kernel_rfl
def yv:Go.Shelf.Ren:=⟨λ|5=>120|8=>164|7=>163|19=>214|20=>215|10=>205|11=>206|12=>207|13=>208|14=>209|15=>210|16=>211|17=>212|18=>213|30=>246|31=>247|32=>248|33=>249|34=>250|35=>216|40=>258|n=>n,λ|23=>22|25=>3|3=>3|32=>266|22=>22|0=>0|44=>322|46=>324|4=>4|36=>316|35=>315|41=>140|5=>5|9=>9|53=>367|57=>371|63=>382|64=>383|n=>n,λn=>n⟩
theorem sortA:SlLaysM.n5 Tryz.prog yv where
 mixed:=by kernel_rfl
 f5:=⟨"slices.Sort[[]int,int]",by decide,Tryz.func120.trans (congrArg some (by kernel_rfl))⟩
 f7:=⟨"slices.pdqsortOrdered[int]",by decide,Tryz.func163.trans (congrArg some (by kernel_rfl))⟩
 f8:=Tryz.func164.trans (congrArg some (by kernel_rfl))
 f10:=⟨"slices.insertionSortOrdered[int]",by decide,Tryz.func205.trans (congrArg some (by kernel_rfl))⟩
 f11:=⟨"slices.heapSortOrdered[int]",by decide,Tryz.func206.trans (congrArg some (by kernel_rfl))⟩
 f12:=⟨"slices.breakPatternsOrdered[int]",by decide,Tryz.func207.trans (congrArg some (by kernel_rfl))⟩
 f13:=⟨"slices.choosePivotOrdered[int]",by decide,Tryz.func208.trans (congrArg some (by kernel_rfl))⟩
 f14:=⟨"slices.reverseRangeOrdered[int]",by decide,Tryz.func209.trans (congrArg some (by kernel_rfl))⟩
 f15:=⟨"slices.partialInsertionSortOrdered[int]",by decide,Tryz.func210.trans (congrArg some (by kernel_rfl))⟩
 f16:=⟨"cmp.Less[int]",by decide,Tryz.func211.trans (congrArg some (by kernel_rfl))⟩
 f17:=⟨"slices.partitionEqualOrdered[int]",by decide,Tryz.func212.trans (congrArg some (by kernel_rfl))⟩
 f18:=⟨"slices.partitionOrdered[int]",by decide,Tryz.func213.trans (congrArg some (by kernel_rfl))⟩
 f19:=Tryz.func214.trans (congrArg some (by kernel_rfl))
 f20:=Tryz.func215.trans (congrArg some (by kernel_rfl))
 f30:=⟨"slices.siftDownOrdered[int]",by decide,Tryz.func246.trans (congrArg some (by kernel_rfl))⟩
 f31:=Tryz.func247.trans (congrArg some (by kernel_rfl))
 f32:=Tryz.func248.trans (congrArg some (by kernel_rfl))
 f33:=⟨"slices.medianAdjacentOrdered[int]",by decide,Tryz.func249.trans (congrArg some (by kernel_rfl))⟩
 f34:=⟨"slices.medianOrdered[int]",by decide,Tryz.func250.trans (congrArg some (by kernel_rfl))⟩
 f35:=⟨"cmp.isNaN[int]",by decide,Tryz.func216.trans (congrArg some (by kernel_rfl))⟩
 f40:=⟨"slices.order2Ordered[int]",by decide,Tryz.func258.trans (congrArg some (by kernel_rfl))⟩
 t0:=Tryz.underlying0
 a0:=Tryz.isAgg0
 z0:=Tryz.sizeOf0
 v0:=Tryz.zeroValue0
 t3:=Tryz.underlying3
 a3:=Tryz.isAgg3
 z3:=Tryz.sizeOf3
 v3:=Tryz.zeroValue3
 t4:=Tryz.underlying4
 a4:=Tryz.isAgg4
 z4:=Tryz.sizeOf4
 v4:=Tryz.zeroValue4
 t5:=Tryz.underlying5
 a5:=Tryz.isAgg5
 z5:=Tryz.sizeOf5
 v5:=Tryz.zeroValue5
 t9:=Tryz.underlying9
 a9:=Tryz.isAgg9
 z9:=Tryz.sizeOf9
 v9:=Tryz.zeroValue9
 t22:=Tryz.underlying22
 a22:=Tryz.isAgg22
 z22:=Tryz.sizeOf22
 v22:=Tryz.zeroValue22
 t23:=Tryz.underlying22
 a23:=Tryz.isAgg22
 z23:=Tryz.sizeOf22
 v23:=Tryz.zeroValue22
 t25:=Tryz.underlying3
 a25:=Tryz.isAgg3
 z25:=Tryz.sizeOf3
 v25:=Tryz.zeroValue3
 t32:=Tryz.underlying266
 a32:=Tryz.isAgg266
 z32:=Tryz.sizeOf266
 v32:=Tryz.zeroValue266
 t35:=Tryz.underlying315
 a35:=Tryz.isAgg315
 z35:=Tryz.sizeOf315
 v35:=Tryz.zeroValue315
 t36:=Tryz.underlying316
 a36:=Tryz.isAgg316
 z36:=Tryz.sizeOf316
 v36:=Tryz.zeroValue316
 t41:=Tryz.underlying140
 a41:=Tryz.isAgg140
 z41:=Tryz.sizeOf140
 v41:=Tryz.zeroValue140
 t44:=Tryz.underlying322
 a44:=Tryz.isAgg322
 z44:=Tryz.sizeOf322
 v44:=Tryz.zeroValue322
 t46:=Tryz.underlying324
 a46:=Tryz.isAgg324
 z46:=Tryz.sizeOf324
 v46:=Tryz.zeroValue324
 t53:=Tryz.underlying367
 a53:=Tryz.isAgg367
 z53:=Tryz.sizeOf367
 v53:=Tryz.zeroValue367
 t57:=Tryz.underlying371
 a57:=Tryz.isAgg371
 z57:=Tryz.sizeOf371
 v57:=Tryz.zeroValue371
 t63:=Tryz.underlying382
 a63:=Tryz.isAgg382
 z63:=Tryz.sizeOf382
 v63:=Tryz.zeroValue382
 t64:=Tryz.underlying383
 a64:=Tryz.isAgg383
 z64:=Tryz.sizeOf383
 v64:=Tryz.zeroValue383
def Nx:Go.Shelf.Ren:=⟨λ|7=>68|10=>121|n=>n,λ|23=>164|26=>3|3=>102|28=>162|0=>0|27=>161|33=>146|4=>4|n=>n,λn=>n⟩
theorem keysB:SlLaysZI.n7 Tryz.prog Nx where
 mixed:=by kernel_rfl
 f7:=⟨"maps.Keys[map[int]*milepost/table.Entry,int,*milepost/table.Entry]",by decide,Tryz.func68.trans (congrArg some (by kernel_rfl))⟩
 f10:=⟨"maps.Keys[map[int]*milepost/table.Entry,int,*milepost/table.Entry]$1",by decide,Tryz.func121.trans (congrArg some (by kernel_rfl))⟩
 t0:=Tryz.underlying0
 a0:=Tryz.isAgg0
 z0:=Tryz.sizeOf0
 v0:=Tryz.zeroValue0
 t4:=Tryz.underlying4
 a4:=Tryz.isAgg4
 z4:=Tryz.sizeOf4
 v4:=Tryz.zeroValue4
 t23:=Tryz.underlying164
 a23:=Tryz.isAgg164
 z23:=Tryz.sizeOf164
 v23:=Tryz.zeroValue164
 t26:=Tryz.underlying3
 a26:=Tryz.isAgg3
 z26:=Tryz.sizeOf3
 v26:=Tryz.zeroValue3
 t27:=Tryz.underlying161
 a27:=Tryz.isAgg161
 z27:=Tryz.sizeOf161
 v27:=Tryz.zeroValue161
 t28:=Tryz.underlying162
 a28:=Tryz.isAgg162
 z28:=Tryz.sizeOf162
 v28:=Tryz.zeroValue162
 t33:=Tryz.underlying146
 a33:=Tryz.isAgg146
 z33:=Tryz.sizeOf146
 v33:=Tryz.zeroValue146
end Go.Proofs.YtihggjgakbgomaaGreat
namespace Go.Proofs.YtihggjgakbgomaaGreat
open Go Go.Den
open Tryz (prog)
open Go.IntKind (wrap)
theorem kI:∀x:bQ,(dZ x).length=4:=λ_=>rfl
theorem Es:∀x:bQ,∀u∈dZ x,u.oneCell'=true:=by intro x u hu;simp[dZ] at hu;rcases hu with rfl|rfl|rfl|rfl<;>rfl
abbrev Fe(a:bQ):Value:=.agg #[aD a.f,aD a.t,aD a.w,aD a.m]
def YK(x y:Int):Int:=if x<y then-1 else if x>y then 1 else 0
theorem PL{x y:Int}{w:aH}{Q:Int->aH->Prop}(hQ:Q (YK x y) w):iX x y w Q:=by
 unfold iX sZ;refine aF (λh=>absurd h dK) (λ_=>?_);refine aF (λh=>absurd h dK) (λ_=>?_);unfold YK at hQ;refine aJ (λh=>?_) (λh=>?_)
 ·rwa[if_pos h] at hQ
 ·rw[if_neg h] at hQ
  refine aJ (λh=>?_) (λh=>?_)
  ·rwa[if_pos h] at hQ
  ·rwa[if_neg h] at hQ
theorem aAm{a:bQ}{v:Int}{w:aH}{Q:Int->aH->Prop}(hQ:∀w',aM w w'->Q (YK a.t v) w'):xE (nM a) v w Q:=by
 unfold xE;simp only[aG];refine aE (k:=.i) a.t ?_ (PL (hQ _ (aM.alloc w _)));rw[aS,(cW.iP w _ _).cell];rfl
theorem Zf{a:bQ}{v:Int}{w:aH}{Q:Int->aH->Prop}(hQ:∀w',aM w w'->Q (YK a.f v) w'):sW (nM a) v w Q:=by
 unfold sW;simp only[aG];refine aE (k:=.i) a.f ?_ (PL (hQ _ (aM.alloc w _)));rw[aS,(cW.iP w _ _).cell];rfl
theorem mid_i(i j:Nat)(h:i+j<9223372036854775808):aQ (Int.fdiv (wrap .u64 (aQ ((i:Int)+(j:Int)))) (2^(min (Int.toNat (1:Int)) (IntKind.bits .u64))))=(((i+j)/2:Nat):Int):=by
 rw[gM (n:=(i:Int)+(j:Int)) aB aB];have h1:wrap .u64 ((i:Int)+(j:Int))=((i+j:Nat):Int):=by simp[wrap,IntKind.signed,IntKind.bits];omega
 rw[h1];show aQ (Int.fdiv ((i+j:Nat):Int) 2)=_;rw[Int.fdiv_eq_ediv_of_nonneg _ aB,gM aB aB];omega
theorem wG{w:aH}{s:Sl}{xs:List bQ}(h:Rd w s 4 dZ xs){i:Nat}{x:bQ}(hx:xs[i]? =some x):∃a,s.b=some a/\bY w (a.add (i*4)) 0 (qG [.i,.i,.i,.i] (nM x)):=h.get i x hx
theorem NY{s:Sl}{xs:List bQ}{key:bQ->Int}{v:Int}{cmp:Value}{w:aH}{Q:Int->Bool->aH->Prop}(hs:Rd w s 4 dZ xs)(lM:FN key xs)(fU:xs.length<4611686018427387904)
  (hcmp:∀(x:bQ) (w:aH) (K:WQ Value),(∀w',aM w w'->K (aD (YK (key x) v)) w')->lI prog cmp [Fe x,aD v] w K)
  (hQ:∀(i:Nat) (qA:Bool) w',aM w w'->zB key xs v i->(qA=true↔∃x∈xs,key x=v)->Q (i:Int) qA w'):dW s v cmp w Q:=by
 unfold dW;have hl:=hs.len;refine bO (λn t w'=>∃i j:Nat,i<=j/\j<=xs.length/\n=j-i/\t=((i:Int),(j:Int),())/\aM w w'/\(∀p x,p<i->xs[p]? =some x->key x<v)/\(∀p x,j<=p->xs[p]? =some x->v<=key x)) xs.length
  ⟨0,xs.length,aB,aB,aB,by rw[hl];rfl,aW.refl _ _,λp x hp=>aB,λp x hp hx=>by have:=(kU.1 hx).1;omega⟩ ?_
 rintro n t w' ⟨i,j,RL,hj,rfl,rfl,hk,YC,hhi⟩ X hX;dsimp only;have QA:=hs.aK hk VQ (λ_ _=>id);refine aJ (λh=>?_) (λh=>?_)
 ·have cJ:i<j:=aB
  rw[mid_i i j aB];have hm:(i+j)/2<xs.length:=aB;refine⟨aB,⟨aB,aB⟩,?_⟩;obtain⟨a,ha,hh⟩:=wG QA (gS hm);refine aA ha (bJ (nM xs[(i+j)/2]) hh ?_);refine hcmp xs[(i+j)/2] w' _ λw2 k2=>⟨_,rfl,?_⟩;rw[gM (n:=(((i+j)/2:Nat):Int)+1) aB aB];unfold YK;refine aJ (λh=>?_) (λh=>?_)
  ·have hv:key xs[(i+j)/2]<v:=by
    apply Classical.byContradiction;intro hn;rw[if_neg hn] at h;split at h<;>omega
   refine hX (j-((i+j)/2+1)) _ _ aB ⟨(i+j)/2+1,j,aB,hj,rfl,rfl,hk.tr k2,λp x hp hx=>?_,hhi⟩;rcases Nat.lt_or_ge p ((i+j)/2) with h'|h'
   ·have:=lM.get h' hx (gS hm);omega
   ·have:p=(i+j)/2:=aB
    subst this;rw[gS hm] at hx;cases hx;exact hv
  ·have hv:v<=key xs[(i+j)/2]:=by
    apply Classical.byContradiction;intro hn;rw[if_pos aB] at h;omega
   refine hX ((i+j)/2-i) _ _ aB ⟨i,(i+j)/2,aB,aB,rfl,rfl,hk.tr k2,YC,λp x hp hx=>?_⟩;rcases Nat.eq_or_lt_of_le hp with h'|h'
   ·subst h';rw[gS hm] at hx;cases hx;exact hv
   ·have:=lM.get h' (gS hm) hx;omega
 ·have hje:j=i:=aB
  subst hje;have qE:zB key xs v j:=⟨hj,YC,hhi⟩;refine aJ (λh=>?_) (λh=>?_)
  ·have hi:j<xs.length:=aB
   refine⟨⟨aB,aB⟩,?_⟩;obtain⟨a,ha,hh⟩:=wG QA (gS hi);refine aA ha (bJ (nM xs[j]) hh ?_);refine hcmp xs[j] w' _ λw2 k2=>⟨_,rfl,hQ j _ w2 (hk.tr k2) qE ?_⟩;have h1:=hhi j _ (iT _) (gS hi)
   constructor
   ·intro hc
    refine⟨xs[j],nC hi,?_⟩;unfold YK at hc
    by_cases hg:key xs[j]>v
    ·rw[if_neg aB,if_pos hg] at hc;simp at hc
    ·omega
   ·rintro⟨x,hx,bj⟩
    have:=qE.qA lM hx bj;rw[gS hi] at this;cases this;unfold YK;rw[if_neg aB,if_neg aB];rfl
  ·have hi:j=xs.length:=aB
   refine hQ j false w' hk qE ⟨λh=>by simp at h,?_⟩;rintro⟨x,hx,bj⟩;have:=qE.qA lM hx bj;have:=(kU.1 this).1;omega
theorem byTo_i{s:Sl}{xs:List bQ}{v:Int}{w:aH}{Q:Int->Bool->aH->Prop}(hs:Rd w s 4 dZ xs)(lM:FN bQ.t xs)(fU:xs.length<4611686018427387904)
  (hQ:∀(i:Nat) (qA:Bool) w',aM w w'->zB bQ.t xs v i->(qA=true↔∃x∈xs,x.t=v)->Q (i:Int) qA w'):JS s v w Q:=
 NY hs lM fU (λx w K hK=>pA Ma iA (gI (ks:=[.agg [.i,.i,.i,.i],.i]) (t:=(nM x,v,())) (aAm hK))) hQ
theorem Xp{s:Sl}{xs:List bQ}{v:Int}{w:aH}{Q:Int->Bool->aH->Prop}(hs:Rd w s 4 dZ xs)(lM:FN bQ.f xs)(fU:xs.length<4611686018427387904)
  (hQ:∀(i:Nat) (qA:Bool) w',aM w w'->zB bQ.f xs v i->(qA=true↔∃x∈xs,x.f=v)->Q (i:Int) qA w'):zS s v w Q:=
 NY hs lM fU (λx w K hK=>pA Cm iA (gI (ks:=[.agg [.i,.i,.i,.i],.i]) (t:=(nM x,v,())) (Zf hK))) hQ
theorem tS(xs:List bQ):(xs.flatMap dZ).length=xs.length*4:=bI kI xs
theorem Nt(xs:List bQ):∀u∈xs.flatMap dZ,u.oneCell'=true:=λu hu=>by obtain⟨x,_,hx⟩:=List.mem_flatMap.1 hu;exact Es x u hx
theorem Dk{V:Type}{l m:List V}{n:Nat}(h:l.length=n):(l++m).take n=l:=by rw[<-h,List.take_left]
theorem ub{V:Type}{l m:List V}{n:Nat}(h:l.length=n)(k:Nat):(l++m).drop (n+k)=m.drop k:=by rw[<-h,List.drop_length_add_append]
theorem drop_at0{V:Type}{l m:List V}{n:Nat}(h:l.length=n):(l++m).drop n=m:=by rw[<-h,List.drop_left]
theorem splice2{V:Type}{A X2 bP:List V}{n1 n2 k:Nat}(hA:A.length=k)(hc:n1+k<=bP.length):
  ((bP.take n1++A++bP.drop (n1+k)).take (n1+k)++X2++(bP.take n1++A++bP.drop (n1+k)).drop (n1+k+n2))=bP.take n1++A++X2++bP.drop (n1+k+n2):=by
 have hB:(bP.take n1++A).length=n1+k:=by simp;omega
 rw[Dk hB,ub hB,List.drop_drop]
theorem Sj{V:Type}{X1 X2 R A bP:List V}{n1 n2 k:Nat}(h1:X1.length=n1)(h2:X2.length=n2)(hR:k<=R.length)(hc:bP=X1++X2++R):
  ((bP.take (n1+k)++X2++bP.drop (n1+k+n2)).take n1++A++(bP.take (n1+k)++X2++bP.drop (n1+k+n2)).drop (n1+k))=X1++A++X2++R.drop k:=by
 have hcl:bP.length=n1+n2+R.length:=by rw[hc];simp[h1,h2];omega
 have e0:(bP.take (n1+k)).length=n1+k:=by simp;omega
 have e3:bP.drop (n1+k+n2)=R.drop k:=by
  have:(X1++X2).length=n1+n2:=by simp[h1,h2]
  rw[hc,show n1+k+n2=n1+n2+k by omega,ub this]
 have e4:bP.take (n1+k)=X1++(X2++R).take k:=by
  rw[hc,sB,<-h1,List.take_length_add_append]
 rw[e3];have e5:(bP.take (n1+k)++X2++R.drop k).drop (n1+k)=X2++R.drop k:=by rw[sB,drop_at0 e0]
 rw[e5,e4,sB,sB,sB,Dk h1];simp
theorem Insert_i{s:Sl}{xs:List bQ}{a:bQ}{i:Nat}{gv:Nat}{w:aH}{Q:Sl->aH->Prop}(hs:dP w iR 4 dZ s xs)(hv:cW w gv iR (dZ a))(hg:∀b,s.b=some b->b.block≠gv)(hi:i<=xs.length)(hb:xs.length<1099511627776)
  (hQ:∀s' w',dP w' iR 4 dZ s' (xs.take i++[a]++xs.drop i)->aW (λk=>∃b,s.b=some b/\k=b.block) w w'->(s'.b=s.b\/∃b,s'.b=some b/\w.heap.size<=b.block)->Q s' w'):
  jT s (i:Int) ⟨some ⟨gv,0,none⟩,1,1⟩ w Q:=by
 unfold jT;have hl:=hs.len;have Qi:=hs.cap;have Qf:=hs.max;have rv:Rd w ⟨some ⟨gv,0,none⟩,1,1⟩ 4 dZ [a]:=(dP.mk rfl (iT _) (by simp[maxLen]) (.inr ⟨gv,[],rfl,by simpa using hv,rfl⟩):dP w iR 4 dZ ⟨some ⟨gv,0,none⟩,1,1⟩ [a]).rd kI;refine⟨⟨aB,aB⟩,?_⟩;refine aF (λh=>absurd h dK) (λ_=>?_);refine aF (λh=>?_) (λh=>?_)
 ·have he:i=xs.length:=by
   have:(i:Int)=(s.l:Int):=by simpa using h
   omega
  refine fN kK kI Es hs rv (by simp;omega) (by simp;omega) λr w' hr hm Kt _=>?_;exact hQ r w' (by rw[he,oY,List.drop_length];simpa using hr) hm Kt
 ·have cJ:i<xs.length:=by
   have:(i:Int)≠(s.l:Int):=by simpa using h
   omega
  have e1:aQ ((s.l:Int)+((1:Nat):Int))=((xs.length+1:Nat):Int):=by rw[gM aB aB];omega
  have e2:aQ ((i:Int)+((1:Nat):Int))=((i+1:Nat):Int):=by rw[gM aB aB];omega
  rw[e1,e2];have hrs:=hs.rd kI;have dm:((xs.drop i).flatMap dZ).length=(xs.length-i)*4:=by rw[tS,List.length_drop]
  refine aJ (λhc=>?_) (λhc=>?_)
  ·--a new block
   refine⟨⟨aB,aB⟩,?_⟩;have e3:aQ (((xs.length+1:Nat):Int)-(i:Int))=((xs.length+1-i:Nat):Int):=by rw[gM aB aB];omega
   rw[e3];have Fu:=hrs.part (i:=0) (j:=i) (c:=s.c) aB aB aB aB;refine Sq kK qz (aY:=dZ) ⟨0,0,0,0⟩ rfl kI Fu (by simp;omega) (by simp;omega) (by simp;omega) λs2 w2 hv2 k2 hfr=>?_;have Uk:=hv2.len;have RM:=hv2.cap;simp only[Nat.sub_zero,List.drop_zero,mJ,pV,List.length_replicate] at Uk;have FM:s2.l=xs.length+1:=aB;obtain⟨b2,RN,hfr2⟩:=hfr;rcases hv2.gN with⟨h0,_⟩|⟨g2,dE,fo,dh,xR⟩
   ·rw[h0] at RN;cases RN
   rw[fo] at RN;cases RN;have hfr3:w.heap.size<=g2:=hfr2;refine⟨⟨aB,aB⟩,?_⟩;rw[fo,lJ (by show Int.toNat (i:Int)<s2.c;simp;omega)];simp only[kE];have hvo:cW w2 gv iR (dZ a):=hv.aK k2 id;refine MU (t:=DJ) kK.under BZ dh (cs:=dZ a) (by rw[kI];omega) (hvo.read λj v hj=>by simpa using hj) (by rw[xR,kI];have:=RT 4 (show i+1<=s2.c by omega);omega) (Es a) λw3 ho3 m3 z3=>?_;refine⟨⟨aB,aB⟩,⟨aB,aB⟩,?_⟩;have hd3:aM w3 w3.drew:=aW.drew (aW.refl _ w3);have yc:∀b,s.b=some b->∀j v,((xs.drop i).flatMap dZ)[j]? =some v->w3.drew.cell? ((b.add (i*4)).add j)=some v:=by
    intro b hb j v hj;have Ku:=hrs.part (i:=i) (j:=s.l) (c:=s.c) aB aB aB aB;rw[List.take_of_length_le (by simp;omega)] at Ku;have bW:aR s.b s.c i 4=some (b.add (i*4)):=by simp[aR,hb];omega
    have AS:=pP Ku kI (a:=b.add (i*4)) bW j v hj;have AY:b.block<w.heap.size:=hs.lt hb;exact hd3.cell (m3.cell (k2.cell AS id) (by simp;omega)) id
   obtain⟨b,bW,_⟩:=hrs.get i xs[i] (gS cJ);have hsb:aR s.b s.c i 4=some (b.add (i*4)):=by simp[aR,bW];omega
   rw[lJ (show i+1<s2.c by omega),hsb];refine MU (t:=DJ) kK.under BZ (ho3.aK hd3 id) (cs:=(xs.drop i).flatMap dZ) (by rw[dm];congr 1;omega) (yc b bW) (by
    rw[dm];simp only[mJ,pV,List.length_drop,xR,kI];have:=RT 4 (show xs.length+1<=s2.c by omega);omega) (Nt _) λw4 ho4 m4 z4=>?_
   have hw4:aM w w4:=(k2.fresh m3 (λk hk=>by rw[hk];exact hfr3)).fresh ((aM.aK hd3:aW (λk=>k=g2) w3 _).tr m4) (λk hk=>by rw[hk];exact hfr3);have h4:s2.c*4>=(xs.length+1)*4:=RT 4 aB;rw[show(i+1)*4=i*4+4 by omega,kI,dm,splice2 (kI a) (by rw[xR];omega)] at ho4;have hX1:(((xs.drop 0).take (i-0)++List.replicate (xs.length+1-i) (⟨0,0,0,0⟩:bQ)).flatMap dZ++dE).take (i*4)=(xs.take i).flatMap dZ:=by
    rw[Oa kI _ _ _ (by simp;omega)];congr 1;rw[List.take_append_of_le_length (by simp;omega)];simp[List.take_take]
   rw[hX1] at ho4;refine hQ s2 w4 ⟨by rw[FM];simp;omega,RM,hv2.max,.inr ⟨g2,(((xs.drop 0).take (i-0)++List.replicate (xs.length+1-i) (⟨0,0,0,0⟩:bQ)).flatMap dZ++dE).drop (i*4+4+(xs.length-i)*4),fo,?_,?_⟩⟩ (aM.aK hw4) (.inr ⟨_,fo,hfr3⟩)
   ·simpa [IS] using ho4
   ·rw[mJ,tS,List.length_drop,xR]
    simp only[mJ,pV,List.length_drop,nQ,List.length_nil];omega
  ·--in place
   have hsc:xs.length+1<=s.c:=aB;rcases hs.gN with⟨_,h0⟩|⟨g,dE,Kh,ho,fU⟩
   ·omega
   have h4:(xs.length+1)*4<=s.c*4:=RT 4 hsc;have hrest:4<=dE.length:=by rw[mJ,tS] at fU;omega
   have bt:gv≠g:=λh=>hg _ Kh h.symm;refine⟨⟨aB,aB⟩,⟨aB,aB⟩,?_⟩;rw[oH,Kh];simp only[kE,Nat.sub_zero];rw[lJ aB];refine Jg hv ho bt aB ?_;refine aF (λ_=>?_) (λh=>by simp at h);refine⟨⟨aB,aB⟩,⟨aB,aB⟩,?_⟩;rw[lJ (show i<s.c by omega)];have hd:aM w w.drew:=aW.drew (aW.refl _ w);have hX2:((xs.flatMap dZ++dE).drop (i*4))=(xs.drop i).flatMap dZ++dE:=aAf kI _ _ _ hi;refine MU (t:=DJ) kK.under BZ (ho.aK hd id) (cs:=(xs.drop i).flatMap dZ) (by rw[dm];congr 1;omega) ((ho.aK hd id).read λj v hj=>by
     have:((xs.flatMap dZ++dE).drop (i*4))[j]? =some v:=by rw[hX2,Ev (kU.1 hj).1];exact hj
     rwa[List.getElem?_drop] at this) (by rw[dm,fU];omega) (Nt _) λw6 ho6 m6 z6=>?_
   refine⟨⟨aB,aB⟩,?_⟩;have hv6:cW w6 gv iR (dZ a):=(hv.aK hd id).aK m6 bt;refine MU (t:=DJ) kK.under BZ ho6 (cs:=dZ a) (by rw[kI,Nat.min_eq_left aB]) (hv6.read λj v hj=>by simpa using hj) (by
    rw[kI];simp only[mJ,pV,List.length_drop,fU,dm];omega) (Es a) λw7 ho7 m7 z7=>?_
   have hX1l:((xs.take i).flatMap dZ).length=i*4:=by rw[tS,pV,Nat.min_eq_left hi]
   have hcur:xs.flatMap dZ++dE=(xs.take i).flatMap dZ++(xs.drop i).flatMap dZ++dE:=by rw[<-IS,Cb]
   rw[kI,dm,show(i+1)*4=i*4+4 by omega,Sj hX1l dm hrest hcur] at ho7;refine hQ ⟨some ⟨g,0,none⟩,xs.length+1,s.c⟩ w7 ⟨by simp;omega,hsc,Qf,.inr ⟨g,dE.drop 4,rfl,?_,?_⟩⟩ ?_ (.inl Kh.symm)
   ·simpa [IS] using ho7
   ·rw[mJ,tS,List.length_drop]
    rw[mJ,tS] at fU;simp only[mJ,pV,List.length_drop,nQ,List.length_nil];omega
   ·exact(hd.aK.tr (m6.tr m7)).mono λk _ hk=>⟨_,Kh,hk⟩
theorem Sf{s:Sl}{xs:List bQ}{w:aH}{Q:Sl->aH->Prop}(hs:Rd w s 4 dZ xs)(hb:xs.length<1099511627776)
  (hQ:∀s' w',dP w' iR 4 dZ s' xs->aM w w'->(∀b,s'.b=some b->w.heap.size<=b.block)->Q s' w'):iL s w Q:=by
 unfold iL;refine aF (λh=>?_) (λh=>?_)
 ·have hn:xs=[]:=by
   cases xs with
   |nil=>rfl
   |cons x r=>obtain⟨a,ha,_⟩:=hs.get 0 x rfl;rw[ha] at h;cases h
  subst hn;exact hQ _ w (dP.nil _ _ _ _) (aW.refl _ _) (λb hb=>by cases hb)
 ·simp only[aG]
  have k1:=aM.alloc w (.cells #[] 128);have v0:dP (w.alloc (.cells #[] 128)) iR 4 dZ ⟨some ⟨w.heap.size,0,none⟩,0,0⟩ []:=dP.lit w iR dZ kI [] #[] rfl dK;refine fN kK kI Es v0 (hs.aK k1 VQ (λ_ _=>id)) (by simp;omega) (by simp;omega) λr w' hr hm Kt _=>?_;refine hQ r w' (by simpa using hr) (aW.fresh k1 hm λk ⟨a,ha,hk⟩=>by cases ha;rw[hk];exact iT _) λb hb=>?_;rcases Kt with h1|⟨b',bW,cJ⟩
  ·rw[hb] at h1;cases h1;exact iT _
  ·rw[hb] at bW;cases bW;have:=k1.size;omega
theorem Xv{s:Sl}{xs:List bQ}{i:Nat}{w:aH}{Q:Sl->aH->Prop}(hs:dP w iR 4 dZ s xs)(hi:i<xs.length)(hb:xs.length<1099511627776)
  (hQ:∀s' w',dP w' iR 4 dZ s' (xs.take i++xs.drop (i+1))->aW (λk=>∃b,s.b=some b/\k=b.block) w w'->s'.b=s.b->Q s' w'):
  gZ s (i:Int) ((i:Int)+1) w Q:=by
 unfold gZ;have hl:=hs.len;have Qi:=hs.cap;have Qf:=hs.max;rcases hs.gN with⟨_,h0⟩|⟨g,dE,Kh,ho,fU⟩
 ·omega
 refine⟨⟨aB,aB⟩,⟨aB,by simp;omega⟩,⟨aB,aB⟩,?_⟩;refine aF (λh=>by simp at h;omega) (λ_=>?_);refine⟨⟨aB,aB⟩,⟨aB,aB⟩,?_⟩;have hd:aM w w.drew:=aW.drew (aW.refl _ w);have ti:Int.toNat (i:Int)=i:=rfl;have tj:Int.toNat ((i:Int)+1)=i+1:=rfl;rw[oH,ti,tj,Nat.sub_zero,Nat.sub_zero];have hvd:=hs.aK hd (λ_ _=>id);have db:=hvd.take (i:=i) aB;have Pn:=(hvd.rd kI).part (i:=i+1) (j:=s.l) (c:=s.c) aB aB aB aB;rw[List.take_of_length_le (by simp;omega)] at Pn;have KY:(xs.take i).length+(xs.drop (i+1)).length=xs.length-1:=by simp;omega
 refine Hf kK kI Es db Pn (by rw[KY];omega) (by rw[KY];omega) λr w1 hr hm Kt hrn PS=>?_;have Kc:=hr.len;rw[mJ,KY] at Kc;have bu:=hr.cap;have tl:Int.toNat (s.l:Int)=s.l:=rfl;have tr:Int.toNat (r.l:Int)=r.l:=rfl;rw[tl,tr];obtain rfl:=PS (by rw[KY];show _<=s.c;omega);have e1:i+(s.l-(i+1))=xs.length-1:=aB;simp only[e1] at hr Kc bu tr ⊢;refine⟨⟨aB,aB⟩,⟨aB,aB⟩,?_⟩;rw[Kh,lJ (show xs.length-1<s.c by omega)];rcases hr.gN with⟨h0,_⟩|⟨g',Vo,hbg',ho',QL⟩
 ·rw[Kh] at h0;cases h0
 have:g'=g:=by rw[Kh] at hbg';cases hbg';rfl
 subst this;have QC:((xs.take i++xs.drop (i+1)).flatMap dZ).length=(xs.length-1)*4:=by rw[tS,mJ,KY]
 have xR:((xs.take i++xs.drop (i+1)).flatMap dZ++Vo).length=s.c*4:=QL;have h4:xs.length*4<=s.c*4:=RT 4 aB;refine ZG kK (by simp[Value.oneCell']) ho' (by rw[xR];omega) λw2 zs hz dh m2 _=>?_;have IK:s.l-(xs.length-1)=1:=aB;rw[IK] at hz dh;rw[Dk QC] at dh;refine hQ _ w2 ⟨by rw[mJ,KY],by show xs.length-1<=s.c;omega,Qf,.inr ⟨g',zs++((xs.take i++xs.drop (i+1)).flatMap dZ++Vo).drop ((xs.length-1)*4+1*4),rfl,by simpa using dh,?_⟩⟩ ?_ Kh.symm
 ·show _=s.c*4
  simp only[mJ,QC,List.length_drop,hz];rw[mJ,QC] at xR;omega
 ·exact((aM.aK hd).tr hm).tr (m2.mono λk _ hk=>⟨_,Kh,hk⟩)
theorem kg{s:Sl}{xs:List bQ}{a:bQ}{i:Nat}{w:aH}{Q:Sl->aH->Prop}(hs:dP w iR 4 dZ s xs)(hi:i<=xs.length)(hb:xs.length<1099511627776)
  (hQ:∀s' w',dP w' iR 4 dZ s' (xs.take i++[a]++xs.drop i)->aW (λk=>∃b,s.b=some b/\k=b.block) w w'->(s'.b=s.b\/∃b,s'.b=some b/\w.heap.size<=b.block)->Q s' w'):
  qS s (i:Int) false (nM a) w Q:=by
 unfold qS;simp only[aG];have k1:=aM.alloc w (.cells #[aD a.f,aD a.t,aD a.w,aD a.m] 128);refine aF (λ_=>?_) (λh=>by simp at h);refine bJ (nM a) (Bb w _ _) ?_;generalize Tv:w.alloc (.cells #[aD a.f,aD a.t,aD a.w,aD a.m] 128)=w1 at k1 ⊢;have k2:=aM.alloc w1 (.cells #[aD a.f,aD a.t,aD a.w,aD a.m] 128);refine Insert_i ((hs.aK k1 (λ_ _=>id)).aK k2 (λ_ _=>id)) (cW.iP w1 #[aD a.f,aD a.t,aD a.w,aD a.m] 128) (λb bW=>?_) hi hb λs' w' h1 h2 h3=>?_
 ·exact Nat.ne_of_lt ((hs.aK k1 (λ_ _=>id)).lt bW)
 ·refine hQ s' w' h1 (((aM.aK k1).tr (aM.aK k2)).tr h2) (h3.imp id λ⟨b,bW,cJ⟩=>⟨b,bW,?_⟩)
  exact iF (iF k1.size k2.size) cJ
theorem zx{s:Sl}{xs:List bQ}{a:bQ}{i:Nat}{w:aH}{Q:Sl->aH->Prop}(hs:dP w iR 4 dZ s xs)(hi:i<xs.length)
  (hQ:∀w',dP w' iR 4 dZ s (xs.set i a)->aW (λk=>∃b,s.b=some b/\k=b.block) w w'->Q s w'):qS s (i:Int) true (nM a) w Q:=by
 unfold qS;simp only[aG];have k1:=aM.alloc w (.cells #[aD a.f,aD a.t,aD a.w,aD a.m] 128);refine aF (λh=>by simp at h) (λ_=>?_);refine bJ (nM a) (Bb w _ _) ?_;have hl:=hs.len;have tM:=hs.aK k1 (λ_ _=>id);obtain⟨b,hb,_⟩:=(hs.rd kI).get i xs[i] (gS hi);refine⟨⟨aB,aB⟩,aA hb ?_⟩;refine tM.store kI hb hi a rfl BZ (Es a) λw' h1 h2 _=>hQ w' h1 ((aM.aK k1).tr (h2.mono λk _ hk=>⟨b,hb,hk⟩))
section
abbrev sv(s:Sl):Value:=.slice s.b s.l s.c
structure mO where
 g:Nat
 go:Nat
 gi:Nat
 dV:List Sl
def mO.dF(N:mO)(k:Nat):Prop:=k=N.g\/k=N.go\/k=N.gi\/∃(i:Nat) (s:Sl) (a:Addr),N.dV[i]? =some s/\s.b=some a/\a.block=k
structure lW(w:aH)(N:mO)(n:Nat)(X:Nat->List bQ):Prop where
 head:cW w N.g tNet [sv ⟨some ⟨N.go,0,none⟩,n,n⟩,sv ⟨some ⟨N.gi,0,none⟩,n,n⟩]
 rU:cW w N.go DJ ((N.dV.take n).map sv)
 KT:cW w N.gi DJ ((N.dV.drop n).map sv)
 len:N.dV.length=n+n
 row:∀(i:Nat) (s:Sl),N.dV[i]? =some s->dP w iR 4 dZ s (X i)
 sep:∀(i:Nat) (s:Sl) (a:Addr),N.dV[i]? =some s->s.b=some a->a.block≠N.g/\a.block≠N.go/\a.block≠N.gi
 De:∀(i j:Nat) (s u:Sl) (a b:Addr),N.dV[i]? =some s->N.dV[j]? =some u->s.b=some a->u.b=some b->a.block=b.block->i=j
 hd:N.g≠N.go/\N.g≠N.gi/\N.go≠N.gi
section
variable{w w':aH}{N:mO}{n:Nat}{X:Nat->List bQ}
theorem lW.lt(h:lW w N n X){k:Nat}(hk:N.dF k):k<w.heap.size:=by
 rcases hk with rfl|rfl|rfl|⟨i,s,a,h1,h2,rfl⟩
 ·exact h.head.lt
 ·exact h.rU.lt
 ·exact h.KT.lt
 ·exact(h.row i s h1).lt h2
theorem lW.aK{F:Nat->Prop}(h:lW w N n X)(hm:aW F w w')(hF:∀k,N.dF k->¬F k):lW w' N n X where
 head:=h.head.aK hm (hF _ (.inl rfl))
 rU:=h.rU.aK hm (hF _ (.inr (.inl rfl)))
 KT:=h.KT.aK hm (hF _ (.inr (.inr (.inl rfl))))
 len:=h.len
 row:=λi s hs=>(h.row i s hs).aK hm λa ha=>hF _ (.inr (.inr (.inr ⟨i,s,a,hs,ha,rfl⟩)))
 sep:=h.sep
 De:=h.De
 hd:=h.hd
theorem lW.aN(h:lW w N n X)(hm:aM w w'):lW w' N n X:=h.aK hm λ_ _=>id
theorem lW.c0(h:lW w N n X):w.cell? ((⟨N.g,0,none⟩:Addr).add 0)=some (sv ⟨some ⟨N.go,0,none⟩,n,n⟩):=by rw[aS,h.head.cell];rfl
theorem lW.c1(h:lW w N n X):w.cell? ((⟨N.g,0,none⟩:Addr).add 1)=some (sv ⟨some ⟨N.gi,0,none⟩,n,n⟩):=by rw[aS,h.head.cell];rfl
theorem lW.out(h:lW w N n X){v:Nat}(hv:v<n):∃s,N.dV[v]? =some s/\w.cell? ((⟨N.go,0,none⟩:Addr).add (v*1))=some (sv s):=by
 have hl:=h.len;refine⟨N.dV[v],gS aB,?_⟩;rw[aS,h.rU.cell];simp[UP hv,gS (show v<N.dV.length by omega)]
theorem lW.LK(h:lW w N n X){v:Nat}(hv:v<n):∃s,N.dV[n+v]? =some s/\w.cell? ((⟨N.gi,0,none⟩:Addr).add (v*1))=some (sv s):=by
 have hl:=h.len;refine⟨N.dV[n+v],gS aB,?_⟩;rw[aS,h.KT.cell];simp[List.getElem?_drop,gS (show n+v<N.dV.length by omega)]
theorem lW.EO(h:lW w N n X){i:Nat}{s s':Sl}{xs:List bQ}(hs:N.dV[i]? =some s)(hv:dP w' iR 4 dZ s' xs)(ho:cW w' N.go DJ (((N.dV.set i s').take n).map sv))(hi:cW w' N.gi DJ (((N.dV.set i s').drop n).map sv))
  (hm:aW (λk=>(∃a,s.b=some a/\k=a.block)\/k=N.go\/k=N.gi) w w') (hb:∀a,s'.b=some a->s'.b=s.b\/w.heap.size<=a.block):
  lW w' {N with dV:=N.dV.set i s'} n (λj=>if j=i then xs else X j):=by
 have hil:i<N.dV.length:=(kU.1 hs).1;have old:∀j u,(N.dV.set i s')[j]? =some u->(j=i/\u=s')\/(j≠i/\N.dV[j]? =some u):=by
  intro j u hj;rw[vR] at hj
  by_cases CP:i=j
  ·subst CP;simp[hil] at hj;exact .inl ⟨rfl,hj.symm⟩
  ·rw[if_neg CP] at hj;exact .inr ⟨λh=>CP h.symm,hj⟩
 have Qe:∀a,s'.b=some a->(s.b=some a)\/(∀k,N.dF k->k≠a.block):=by
  intro a ha;rcases hb a ha with h1|h1
  ·exact .inl (h1▸ha)
  ·exact .inr λk hk=>by have:=h.lt hk;omega
 constructor
 ·refine h.head.aK hm ?_
  rintro(⟨a,ha,hk⟩|hk|hk)
  ·exact(h.sep i s a hs ha).1 hk.symm
  ·exact h.hd.1 hk
  ·exact h.hd.2.1 hk
 ·exact ho
 ·exact hi
 ·simpa using h.len
 ·intro j u hj
  rcases old j u hj with⟨rfl,rfl⟩|⟨gF,uC⟩
  ·simpa using hv
  ·simp only[gF,if_false]
   refine(h.row j u uC).aK hm λb bW=>?_;rintro(⟨a,ha,hk⟩|hk|hk)
   ·exact gF (h.De j i u s b a uC hs bW ha hk)
   ·exact(h.sep j u b uC bW).2.1 hk
   ·exact(h.sep j u b uC bW).2.2 hk
 ·intro j u a hj ha
  rcases old j u hj with⟨rfl,rfl⟩|⟨gF,uC⟩
  ·rcases Qe a ha with h1|h1
   ·exact h.sep j s a hs h1
   ·exact⟨λe=>h1 _ (.inl rfl) e.symm,λe=>h1 _ (.inr (.inl rfl)) e.symm,λe=>h1 _ (.inr (.inr (.inl rfl))) e.symm⟩
  ·exact h.sep j u a uC ha
 ·intro j k u x a b hj hk ha bW he
  rcases old j u hj with⟨rfl,rfl⟩|⟨gF,uC⟩<;>rcases old k x hk with⟨rfl,rfl⟩|⟨Ez,lD⟩
  ·rfl
  ·rcases Qe a ha with h1|h1
   ·exact h.De j k s x a b hs lD h1 bW he
   ·exact absurd he.symm (h1 _ (.inr (.inr (.inr ⟨k,x,b,lD,bW,rfl⟩))))
  ·rcases Qe b bW with h1|h1
   ·exact h.De j k u s a b uC hs ha h1 he
   ·exact absurd he (h1 _ (.inr (.inr (.inr ⟨j,u,a,uC,ha,rfl⟩))))
  ·exact h.De j k u x a b uC lD ha bW he
 ·exact h.hd
theorem mO.OD{i:Nat}{s s':Sl}{P:Nat->Prop}(hs:N.dV[i]? =some s)(hb:∀a,s'.b=some a->s'.b=s.b\/P a.block){k:Nat}(hk:({N with dV:=N.dV.set i s'}:mO).dF k):N.dF k\/P k:=by
 have hil:i<N.dV.length:=(kU.1 hs).1;rcases hk with hk|hk|hk|⟨j,u,a,hj,ha,rfl⟩
 ·exact .inl (.inl hk)
 ·exact .inl (.inr (.inl hk))
 ·exact .inl (.inr (.inr (.inl hk)))
 ·simp only[vR] at hj
  by_cases CP:i=j
  ·subst CP
   simp[hil] at hj;subst hj;rcases hb a ha with h1|h1
   ·exact .inl (.inr (.inr (.inr ⟨i,s,a,hs,h1▸ha,rfl⟩)))
   ·exact .inr h1
  ·rw[if_neg CP] at hj
   exact .inl (.inr (.inr (.inr ⟨j,u,a,hj,ha,rfl⟩)))
theorem lW.ib(h:lW w N n X){v:Nat}(hv:v<n){s s':Sl}{xs:List bQ}(hs:N.dV[v]? =some s)(hvec:dP w' iR 4 dZ s' xs)(hm:aW (λk=>∃a,s.b=some a/\k=a.block) w w')(hb:s'.b=s.b\/(∀a,s'.b=some a->w.heap.size<=a.block))
  {K:aH->Prop} (hK:∀w2,lW w2 {N with dV:=N.dV.set v s'} n (λj=>if j=v then xs else X j)->aW N.dF w w2->w2.heap.size=w'.heap.size->K w2):aI prog DJ ((⟨N.go,0,none⟩:Addr).add (v*1)) (sv s') w' K:=by
 have hl:=h.len;have bW:∀a,s'.b=some a->s'.b=s.b\/w.heap.size<=a.block:=λa ha=>hb.imp id λh=>h a ha;have hns:∀k,(∃a,s.b=some a/\k=a.block)->k≠N.go/\k≠N.gi:=λk ⟨a,ha,hk⟩=>by have:=h.sep v s a hs ha;rw[hk];exact this.2
 have ho:=h.rU.aK hm λhk=>(hns _ hk).1 rfl;have hi:=h.KT.aK hm λhk=>(hns _ hk).2 rfl;rw[aS,pM,Nat.mul_one];refine cI ho Nl (by simp;omega) rfl rfl λw2 dh wg hz=>?_;have oM:aW (λk=>(∃a,s.b=some a/\k=a.block)\/k=N.go\/k=N.gi) w w2:=(hm.mono λ_ _ h=>.inl h).tr (wg.mono λ_ _ h=>.inr (.inl h));refine hK w2 (h.EO hs (hvec.aK wg λa ha he=>?_) ?_ ?_ oM bW) (oM.mono λk _ hk=>?_) hz
 ·rcases bW a ha with h1|h1
  ·exact(h.sep v s a hs (h1▸ha)).2.1 he
  ·have:=h.rU.lt;omega
 ·rw[<-List.map_set,<-List.take_set] at dh;exact dh
 ·rw[List.drop_set_of_lt aB];exact hi.aK wg λe=>h.hd.2.2 e.symm
 ·rcases hk with⟨a,ha,hk⟩|hk|hk
  ·exact .inr (.inr (.inr ⟨v,s,a,hs,ha,hk.symm⟩))
  ·exact .inr (.inl hk)
  ·exact .inr (.inr (.inl hk))
theorem lW.putIn(h:lW w N n X){v:Nat}(hv:v<n){s s':Sl}{xs:List bQ}(hs:N.dV[n+v]? =some s)(hvec:dP w' iR 4 dZ s' xs)(hm:aW (λk=>∃a,s.b=some a/\k=a.block) w w')(hb:s'.b=s.b\/(∀a,s'.b=some a->w.heap.size<=a.block))
  {K:aH->Prop} (hK:∀w2,lW w2 {N with dV:=N.dV.set (n+v) s'} n (λj=>if j=n+v then xs else X j)->aW N.dF w w2->w2.heap.size=w'.heap.size->K w2):aI prog DJ ((⟨N.gi,0,none⟩:Addr).add (v*1)) (sv s') w' K:=by
 have hl:=h.len;have bW:∀a,s'.b=some a->s'.b=s.b\/w.heap.size<=a.block:=λa ha=>hb.imp id λh=>h a ha;have hns:∀k,(∃a,s.b=some a/\k=a.block)->k≠N.go/\k≠N.gi:=λk ⟨a,ha,hk⟩=>by have:=h.sep (n+v) s a hs ha;rw[hk];exact this.2
 have ho:=h.rU.aK hm λhk=>(hns _ hk).1 rfl;have hi:=h.KT.aK hm λhk=>(hns _ hk).2 rfl;rw[aS,pM,Nat.mul_one];refine cI hi Nl (by simp;omega) rfl rfl λw2 dh wg hz=>?_;have oM:aW (λk=>(∃a,s.b=some a/\k=a.block)\/k=N.go\/k=N.gi) w w2:=(hm.mono λ_ _ h=>.inl h).tr (wg.mono λ_ _ h=>.inr (.inr h));refine hK w2 (h.EO hs (hvec.aK wg λa ha he=>?_) ?_ ?_ oM bW) (oM.mono λk _ hk=>?_) hz
 ·rcases bW a ha with h1|h1
  ·exact(h.sep (n+v) s a hs (h1▸ha)).2.2 he
  ·have:=h.KT.lt;omega
 ·rw[List.take_set_of_le aB];exact ho.aK wg h.hd.2.2
 ·rw[<-List.map_set] at dh
  have:(N.dV.drop n).set v s'=(N.dV.set (n+v) s').drop n:=by rw[List.drop_set];simp;omega
  rwa[this] at dh
 ·rcases hk with⟨a,ha,hk⟩|hk|hk
  ·exact .inr (.inr (.inr ⟨n+v,s,a,hs,ha,hk.symm⟩))
  ·exact .inr (.inl hk)
  ·exact .inr (.inr (.inl hk))
end
theorem isV_i{x:Int}{n:Nat}{b:Nat}{w:aH}{K:Value->aH->Prop}(hn:cW w b cY [aD (n:Int)])(hK:∀r:Bool,(r=true↔0<=x/\x<n)->K (.bool r) w):
  lI prog (.func (.func Sm) #[] #[.pointer (some ⟨b,0,none⟩)]) [aD x] w K:=by
 refine pA Zn iA (gI (ks:=[.i,.c .ptr]) (t:=(x,some ⟨b,0,none⟩,())) ?_);show EH x (some ⟨b,0,none⟩) w λr w'=>K (.bool r) w';unfold EH;refine aJ (λh=>?_) (λh=>?_)
 ·refine aA rfl (aE (k:=.i) (n:Int) (by rw[hn.cell];rfl) (hK _ ?_))
  simp;omega
 ·exact hK false (by simp;omega)
theorem may_i{g n:Nat}{si:Value}{o1:cL}{c1:Nat}{a:bQ}{w:aH}{Q:Bool->aH->Prop}(hh:cW w g tNet [.slice o1 n c1,si])(hQ:∀w' (r:Bool),aM w w'->(r=true↔ET n a)->Q r w'):
  MY (some ⟨g,0,none⟩) (nM a) w Q:=by
 unfold MY;simp only[aG];have k1:=aM.alloc w (.cells #[aD a.f,aD a.t,aD a.w,aD a.m] 128);have RJ:cW (w.alloc (.cells #[aD a.f,aD a.t,aD a.w,aD a.m] 128)) w.heap.size 128 (dZ a):=cW.iP w _ 128;generalize Tv:w.alloc (.cells #[aD a.f,aD a.t,aD a.w,aD a.m] 128)=w1 at*;generalize YD:w.heap.size=b1 at*;refine aA rfl (aE (k:=.slice) ⟨o1,n,c1⟩ (by rw[aS,(hh.aK k1 id).cell];rfl) ?_);have k2:=aM.alloc w1 (.cells #[aD 0] 3);have o2:=cW.iP w1 #[aD 0] 3;have cJ:b1<w1.heap.size:=RJ.lt;have o1'':=RJ.aK k2 id;generalize w1.alloc (.cells #[aD 0] 3)=w2 at*;generalize RN:w1.heap.size=b2 at*;refine cI o2 cU dK rfl rfl λw3 o3 m3 _=>?_;have oa:=o1''.aK m3 aB;have on:cW w3 b2 cY [aD (n:Int)]:=o3;have hk:aM w w3:=aW.fresh (k1.tr k2) m3 λk hk=>aB;have l0:w3.cell? ((⟨b1,0,none⟩:Addr).add 0)=some (aD a.f):=by rw[aS,oa.cell];rfl
 have l1:w3.cell? ((⟨b1,0,none⟩:Addr).add 1)=some (aD a.t):=by rw[aS,oa.cell];rfl
 have l2:w3.cell? ((⟨b1,0,none⟩:Addr).add 2)=some (aD a.w):=by rw[aS,oa.cell];rfl
 have l3:w3.cell? ((⟨b1,0,none⟩:Addr).add 3)=some (aD a.m):=by rw[aS,oa.cell];rfl
 intro J hJ;have no:¬ET n a->Q false w3:=λh=>hQ w3 false hk ⟨λh=>by simp at h,λh'=>absurd h' h⟩;have hJ':∀mid:Bool,(mid=true↔(a.m=-1\/(0<=a.m/\a.m<n/\a.m≠a.f/\a.m≠a.t)))->J (mid,()) w3:=by
  intro mid hmid;apply hJ;refine aE (k:=.i) a.f l0 ?_;refine isV_i on λr hr=>⟨r,rfl,?_⟩;refine aF (λh=>?_) (λh=>no λhm=>?_)
  ·have h1:=hr.1 h
   refine aE (k:=.i) a.t l1 ?_;refine isV_i on λr' bm=>⟨r',rfl,?_⟩;refine aF (λh=>?_) (λh=>no λhm=>?_)
   ·have h2:=bm.1 h
    refine aE (k:=.i) a.f l0 (aE (k:=.i) a.t l1 ?_);refine aF (λh=>?_) (λh=>no λhm=>?_)
    ·have h3:a.f≠a.t:=by simpa using h
     refine aE (k:=.i) a.w l2 ?_;refine aJ (λh4=>?_) (λh=>no λhm=>?_)
     ·refine aE (k:=.i) a.w l2 ?_
      refine aJ (λh5=>?_) (λh=>no λhm=>?_)
      ·refine hQ w3 mid hk ?_
       rw[hmid];exact⟨λh=>⟨h1.1,h1.2,h2.1,h2.2,h3,h4,h5,h⟩,λh=>h.2.2.2.2.2.2.2⟩
      ·exact h hm.2.2.2.2.2.2.1
     ·exact h hm.2.2.2.2.2.1
    ·have:a.f=a.t:=by simpa using h
     exact hm.2.2.2.2.1 this
   ·rw[bm.2 ⟨hm.2.2.1,hm.2.2.2.1⟩] at h;cases h
  ·rw[hr.2 ⟨hm.1,hm.2.1⟩] at h;cases h
 refine aE (k:=.i) a.m l3 ?_;refine aF (λh=>hJ' true ⟨λ_=>.inl (by simpa using h),λ_=>rfl⟩) (λh=>?_);have hm1:a.m≠-1:=by simpa using h
 refine aE (k:=.i) a.m l3 ?_;refine isV_i on λr hr=>⟨r,rfl,?_⟩;refine aF (λh=>?_) (λh=>hJ' false ⟨λh=>by simp at h,λh'=>?_⟩)
 ·have h1:=hr.1 h
  refine aE (k:=.i) a.m l3 (aE (k:=.i) a.f l0 ?_);refine aF (λh=>?_) (λh=>hJ' false ⟨λh=>by simp at h,λh'=>?_⟩)
  ·have h2:a.m≠a.f:=by simpa using h
   refine aE (k:=.i) a.m l3 (aE (k:=.i) a.t l1 (hJ' _ ?_))
   constructor
   ·intro h;exact .inr ⟨h1.1,h1.2,h2,by simpa using h⟩
   ·rintro(h|h)
    ·exact absurd h hm1
    ·simpa using h.2.2.2
  ·have h2:a.m=a.f:=by simpa using h
   rcases h' with h'|h'
   ·exact absurd h' hm1
   ·exact absurd h2 h'.2.2.1
 ·rcases h' with h'|h'
  ·exact absurd h' hm1
  ·rw[hr.2 ⟨h'.1,h'.2.1⟩] at h;cases h
def jX(n:Nat)(l:List bQ)(i:Nat):List bQ:=if i<n then dY l (i:Int) else nJ l ((i:Int)-n)
structure kZ(w:aH)(N:mO)(n:Nat)(l:List bQ):Prop where
 at_:lW w N n (jX n l)
 ok:rP n l
 sz:n<=512
theorem kZ.aN{w w':aH}{N:mO}{n:Nat}{l:List bQ}(h:kZ w N n l)(k:aM w w'):kZ w' N n l:=⟨h.at_.aN k,h.ok,h.sz⟩
theorem kZ.aK{F:Nat->Prop}{w w':aH}{N:mO}{n:Nat}{l:List bQ}(h:kZ w N n l)(k:aW F w w')(hF:∀k,N.dF k->¬F k):kZ w' N n l:=⟨h.at_.aK k hF,h.ok,h.sz⟩
end
section
abbrev Bx(x:It):List Value:=[aD x.id,aD x.key]
abbrev itV(x:It):Value:=.agg #[aD x.id,aD x.key]
abbrev yO(x:It):Int×Int×Unit:=(x.id,x.key,())
theorem rQ:∀x:It,(Bx x).length=2:=λ_=>rfl
theorem oneIt:∀x:It,∀u∈Bx x,u.oneCell'=true:=by intro x u hu;simp at hu;rcases hu with rfl|rfl<;>rfl
abbrev CR:Int->Value:=λn=>aD n
abbrev Kr:nO:=.i
theorem par{i:Nat}(h0:0<i)(h1:i<4611686018427387904):aQ (Int.tdiv (aQ ((i:Int)-1)) 2)=(((i-1)/2:Nat):Int):=by
 rw[gM (n:=(i:Int)-1) aB aB];have e:((i:Int)-1)=((i-1:Nat):Int):=aB;have e2:Int.tdiv ((i-1:Nat):Int) 2=(((i-1)/2:Nat):Int):=by
  rw[Int.tdiv_eq_ediv_of_nonneg aB];omega
 rw[e,e2,gM aB aB]
theorem wS{w:aH}{g:Nat}{cs:List Value}{x:It}{K:aH->Prop}(h:cW w g kY cs)(hl:cs.length=2)(hK:∀w',cW w' g kY (Bx x)->aW (λk=>k=g) w w'->K w'):
  aI prog kY ⟨g,0,none⟩ (itV x) w K:=by
 refine BX h YY (by simp[Value.cells,hl]) (by simp[Value.cells,Value.oneCell']) λw' ho hm _=>hK w' ?_ hm;have:cs.take 0++(itV x).cells.toList++cs.drop (0+(itV x).cells.size)=Bx x:=by
  simp[Value.cells,List.drop_of_length_le (show cs.length<=2 by omega)]
 rwa[this] at ho
theorem MH{w:aH}{g:Nat}{x:It}(h:cW w g kY (Bx x)):bY w ⟨g,0,none⟩ 0 (qG [.i,.i] (yO x)):=h.holds λj v hj=>by rw[pM];exact hj
theorem GF{w:aH}{s:Sl}{xs:List It}(h:Rd w s 2 Bx xs){i:Nat}{x:It}(hx:xs[i]? =some x):∃a,s.b=some a/\bY w (a.add (i*2)) 0 (qG [.i,.i] (yO x)):=h.get i x hx
theorem Sb{x y:It}{w:aH}{Q:Bool->aH->Prop}(hQ:∀w',aM w w'->Q (pW x y) w'):kL (yO x) (yO y) w Q:=by
 unfold kL;simp only[aG];have o1:cW (w.alloc (.cells #[aD x.id,aD x.key] kY)) w.heap.size kY (Bx x):=cW.iP w _ _;have k1:=aM.alloc w (.cells #[aD x.id,aD x.key] kY);have tM:(w.alloc (.cells #[aD x.id,aD x.key] kY)).heap.size=w.heap.size+1:=by simp
 generalize w.alloc (.cells #[aD x.id,aD x.key] 242)=w1 at*;have o2:cW (w1.alloc (.cells #[aD y.id,aD y.key] kY)) w1.heap.size kY (Bx y):=cW.iP w1 _ _;have k2:=aM.alloc w1 (.cells #[aD y.id,aD y.key] kY);have RJ:=o1.aK k2 id;generalize w1.alloc (.cells #[aD y.id,aD y.key] 242)=w2 at*;have x0:w2.cell? ((⟨w.heap.size,0,none⟩:Addr).add 0)=some (aD x.id):=by rw[aS,RJ.cell];rfl
 have x1:w2.cell? ((⟨w.heap.size,0,none⟩:Addr).add 1)=some (aD x.key):=by rw[aS,RJ.cell];rfl
 have y0:w2.cell? ((⟨w1.heap.size,0,none⟩:Addr).add 0)=some (aD y.id):=by rw[aS,o2.cell];rfl
 have y1:w2.cell? ((⟨w1.heap.size,0,none⟩:Addr).add 1)=some (aD y.key):=by rw[aS,o2.cell];rfl
 have hk:=k1.tr k2;refine aE (k:=.i) x.key x1 (aE (k:=.i) y.key y1 ?_);refine aJ (λh=>?_) (λh=>?_)
 ·have:pW x y=true:=jZ.2 (.inl h)
  rw[<-this];exact hQ w2 hk
 ·refine aE (k:=.i) x.key x1 (aE (k:=.i) y.key y1 ?_)
  refine aF (λhe=>?_) (λhe=>?_)
  ·have vT:x.key=y.key:=by simpa using he
   refine aE (k:=.i) x.id x0 (aE (k:=.i) y.id y0 ?_);have:pW x y=decide (x.id<y.id):=by unfold pW;simp[vT]
   rw[<-this];exact hQ w2 hk
  ·have vT:x.key≠y.key:=by simpa using he
   have:pW x y=false:=by
    have:¬pW x y=true:=by rw[jZ];omega
    simpa using this
   rw[<-this];exact hQ w2 hk
structure HS where
 g:Nat
 r:Nat
 s:Sl
def HS.dF(H:HS)(k:Nat):Prop:=k=H.g\/k=H.r\/∃a,H.s.b=some a/\k=a.block
structure UK(w:aH)(H:HS)(xs:List It)(f:Int->Option Int):Prop where
 head:cW w H.g oq [sv H.s,.map (some H.r)]
 UE:dP w kY 2 Bx H.s xs
 map:∃n,jP w H.r CR Kr f n
 gr:H.g≠H.r
 sg:∀a,H.s.b=some a->a.block≠H.g
 sr:∀a,H.s.b=some a->a.block≠H.r
section
variable{w:aH}{H:HS}{xs:List It}{f:Int->Option Int}
theorem UK.lt(h:UK w H xs f){k:Nat}(hk:H.dF k):k<w.heap.size:=by
 rcases hk with rfl|rfl|⟨a,ha,rfl⟩
 ·exact h.head.lt
 ·obtain⟨n,hm⟩:=h.map;exact hm.lt
 ·exact h.UE.lt ha
theorem UK.aK{F:Nat->Prop}{w':aH}(h:UK w H xs f)(m:aW F w w')(hF:∀k,H.dF k->¬F k):UK w' H xs f:=
 ⟨h.head.aK m (hF _ (.inl rfl)),h.UE.aK m λa ha=>hF _ (.inr (.inr ⟨a,ha,rfl⟩)),by obtain⟨n,hm⟩:=h.map;exact⟨n,hm.aK m (hF _ (.inr (.inl rfl)))⟩,h.gr,h.sg,h.sr⟩
theorem UK.aN{w':aH}(h:UK w H xs f)(k:aM w w'):UK w' H xs f:=h.aK k λ_ _=>id
theorem UK.c0(h:UK w H xs f):w.cell? ((⟨H.g,0,none⟩:Addr).add 0)=some (sv H.s):=by rw[aS,h.head.cell];rfl
theorem UK.c1(h:UK w H xs f):w.cell? ((⟨H.g,0,none⟩:Addr).add 1)=some (.map (some H.r)):=by rw[aS,h.head.cell];rfl
theorem UK.nE(h:UK w H xs f){i:Nat}(hi:i<xs.length):∃b,H.s.b=some b:=by
 obtain⟨a,ha,_⟩:=(h.UE.rd rQ).get i xs[i] (gS hi);exact⟨a,ha⟩
theorem ph{i:Nat}{x:It}{Q:aH->Prop}(h:UK w H xs f)(hi:i<xs.length)
  (hQ:∀w',UK w' H (xs.set i x) (λv=>if v=x.id then some (i:Int) else f v)->aW H.dF w w'->Q w'):qN (some ⟨H.g,0,none⟩) (i:Int) (yO x) w Q:=by
 unfold qN;simp only[aG];have o1:cW (w.alloc (.cells #[aD x.id,aD x.key] kY)) w.heap.size kY (Bx x):=cW.iP w _ _;have k1:=aM.alloc w (.cells #[aD x.id,aD x.key] kY);generalize w.alloc (.cells #[aD x.id,aD x.key] 242)=w1 at*;have k1d:aM w w1.drew:=k1.drew;have o1d:cW w1.drew w.heap.size kY (Bx x):=o1;have h1:=h.aN k1d;have hl:=h1.UE.len;obtain⟨b,hb⟩:=h1.nE hi;have hbw:b.block<w.heap.size:=h.lt (.inr (.inr ⟨b,hb,rfl⟩));refine aA rfl (aE (k:=.slice) H.s h1.c0 (aA rfl (aE (k:=.map) (some H.r) h1.c1 ?_)));refine aE (k:=.i) x.id (by rw[aS,o1d.cell];rfl) (bJ (yO x) (MH o1d) ?_);refine⟨⟨aB,aB⟩,aA hb ?_⟩;rw[kE];refine h1.UE.store rQ hb hi x (v:=itV x) rfl YY (oneIt x) λw2 v2 m2 z2=>?_;refine⟨by rw[aS,(o1d.aK m2 aB).cell];rfl,?_⟩;obtain⟨n,hm⟩:=h1.map;refine Rw (kn:=Kr) oS kP (z:=(0:Int)) MN (hm.aK m2 (Ne.symm (h.sr b hb))) x.id (i:Int) λw3 hm3 m3 _=>?_;refine hQ w3 ⟨(h1.head.aK m2 (Ne.symm (h.sg b hb))).aK m3 h.gr,v2.aK m3 λa ha=>h.sr a ha,⟨_,hm3⟩,h.gr,h.sg,h.sr⟩ ?_;exact(k1d.wk.trans m2 λk _ hk=>.inr (.inr ⟨b,hb,hk⟩)).trans m3 λk _ hk=>.inr (.inl hk)
end
theorem up_i{w:aH}{H:HS}{ys:List It}{f:Int->Option Int}{i:Nat}{Q:aH->Prop}(h:UK w H ys f)(hi:i<ys.length)(fU:ys.length<4611686018427387904)(hu:UpI ys i)(hp:FD f ys i)(ha:QT ys)
  (hQ:∀w' zs f',UK w' H zs f'->HOk zs->tV f' zs->(∀u,u∈zs↔u∈ys)->zs.length=ys.length->aW H.dF w w'->Q w'):Ea (some ⟨H.g,0,none⟩) (i:Int) w Q:=by
 unfold Ea;have hl:=h.UE.len;obtain⟨x,hx⟩:∃x,ys[i]? =some x:=⟨_,gS hi⟩;obtain⟨b,hb,hh⟩:=GF (h.UE.rd rQ) hx;refine aA rfl (aE (k:=.slice) H.s h.c0 ⟨⟨aB,aB⟩,aA hb ?_⟩);rw[kE];refine bJ (yO x) hh ?_;simp only[aG];have k1:=aM.alloc w (.cells #[aD 0,aD 0] kY);have o1:cW (w.alloc (.cells #[aD 0,aD 0] kY)) w.heap.size kY (Bx ⟨0,0⟩):=cW.iP w _ _;generalize w.alloc (.cells #[aD 0,aD 0] 242)=w1 at*;refine wS (x:=x) o1 rfl λw2 o2 m2=>?_;have k2:aM w w2:=aW.fresh k1 m2 λk hk=>aB;generalize Ky:w.heap.size=b3 at*;have hHb:∀k,H.dF k->¬k=b3:=λk hk e=>by have:=h.lt hk;omega
 have z0:ys.set i x=ys:=by
  apply AX;intro j;rw[vR]
  by_cases e:i=j
  ·subst e;rw[if_pos rfl,if_pos hi,hx]
  ·rw[if_neg e]
 refine bO (λc t w3=>∃(i':Nat) (FL:List It) (f':Int->Option Int),c=i'/\t=((i':Int),())/\UK w3 H FL f'/\i'<FL.length/\FL.length=ys.length/\UpI (FL.set i' x) i'/\FD f' (FL.set i' x) i'/\QT (FL.set i' x)/\
   (∀u,u∈FL.set i' x↔u∈ys)/\cW w3 b3 kY (Bx x)/\aW H.dF w w3) i
  ⟨i,ys,f,rfl,rfl,h.aN k2,hi,rfl,by rw[z0];exact hu,by rw[z0];exact hp,by rw[z0];exact ha,by rw[z0];exactλ_=>Iff.rfl,o2,k2.wk⟩ ?_
 rintro i t w3 ⟨_,FL,f',rfl,rfl,h3,hi3,hl3,hu3,hp3,ha3,hm3,o3,m3⟩ X hX;dsimp only;have Ug:(FL.set i x)[i]? =some x:=by rw[vR,if_pos rfl,if_pos hi3]
 have finish:∀{w4:aH},aM w3 w4->UpI (FL.set i x) i->HOk (FL.set i x)->qN (some ⟨H.g,0,none⟩) (i:Int) (yO x) w4 Q:=λ{w4} k4 _ kH=>by
  refine ph (x:=x) (h3.aN k4) hi3 λw5 h5 m5=>?_;refine hQ w5 _ _ h5 kH (hp3.done Ug λj z hj hz e=>hj (ha3 j i z x hz Ug e)) hm3 (by rw[pI];exact hl3) ((m3.tr k4.wk).tr m5)
 have d3:aM w3 w3.drew:=aW.drew (aW.refl _ w3);refine aJ (λuP=>?_) (λPR=>?_)
 ·have hi0:0<i:=aB
  have hpi:(i-1)/2<i:=aB;obtain⟨y,hy⟩:∃y,FL[(i-1)/2]? =some y:=⟨_,gS aB⟩;have hzp:(FL.set i x)[(i-1)/2]? =some y:=by rw[vR,if_neg aB];exact hy
  have hpar:=par hi0 aB;have Ae:=h3.aN d3;obtain⟨b',bW,Kd⟩:=GF (Ae.UE.rd rQ) hy;refine bJ (yO x) (MH (o3.aK d3 id)) (aA rfl (aE (k:=.slice) H.s Ae.c0 ⟨by decide,?_⟩));rw[hpar,kE];refine⟨⟨aB,aB⟩,aA bW (bJ (yO y) Kd ?_)⟩;refine Sb (x:=x) (y:=y) λw4 k4=>?_;have k34:=d3.tr k4;have h4:=h3.aN k34;refine aF (λcJ=>?_) (λkT=>?_)
  ·obtain⟨b',bW,Kd⟩:=GF (h4.UE.rd rQ) hy
   refine aA rfl (aE (k:=.slice) H.s h4.c0 ⟨by decide,⟨aB,aB⟩,aA bW (bJ (yO y) Kd ?_)⟩);refine ph (x:=y) h4 hi3 λw5 h5 m5=>⟨by decide,?_⟩;have hss:((FL.set i x).set i y).set ((i-1)/2) x=(FL.set i y).set ((i-1)/2) x:=by rw[List.set_set]
   have EP:=up_step hu3 hi0 Ug hzp cJ;have Uh:=hp3.swap Ug hzp aB;have dF:=ha3.swap Ug hzp;have Uj:=Qv Ug hzp;rw[hss] at EP Uh dF;simp only[hss] at Uj;exact hX ((i-1)/2) _ _ aB ⟨(i-1)/2,FL.set i y,_,rfl,rfl,h5,by rw[pI];omega,by rw[pI];exact hl3,EP,Uh,dF,λu=>(Uj u).trans (hm3 u),(o3.aK k34 id).aK m5 λhk=>hHb _ hk rfl,(m3.tr k34.wk).tr m5⟩
  ·exact bJ (yO x) (MH (o3.aK k34 id)) (finish k34 hu3 (up_end hu3 Ug (.inr ⟨y,hzp,kT⟩)))
 ·exact bJ (yO x) (MH (o3.aK d3 id)) (finish d3 hu3 (up_end hu3 Ug (.inl aB)))
theorem down_i{w:aH}{H:HS}{ys:List It}{f:Int->Option Int}{Q:aH->Prop}(h:UK w H ys f)(hi:0<ys.length)(fU:ys.length<2305843009213693952)(hu:Wk ys 0)(hp:FD f ys 0)(ha:QT ys)
  (hQ:∀w' zs f',UK w' H zs f'->HOk zs->tV f' zs->(∀u,u∈zs↔u∈ys)->zs.length=ys.length->aW H.dF w w'->Q w'):PD (some ⟨H.g,0,none⟩) 0 w Q:=by
 unfold PD;have hl:=h.UE.len;obtain⟨x,hx⟩:∃x,ys[0]? =some x:=⟨_,gS hi⟩;obtain⟨b,hb,hh⟩:=GF (h.UE.rd rQ) hx;refine aA rfl (aE (k:=.slice) H.s h.c0 ⟨⟨aB,aB⟩,aA hb ?_⟩);refine bJ (yO x) hh ?_;simp only[aG];have k1:=aM.alloc w (.cells #[aD 0,aD 0] kY);have o1:cW (w.alloc (.cells #[aD 0,aD 0] kY)) w.heap.size kY (Bx ⟨0,0⟩):=cW.iP w _ _;generalize w.alloc (.cells #[aD 0,aD 0] 242)=w1 at*;refine wS (x:=x) o1 rfl λw2 o2 m2=>?_;have k2:aM w w2:=aW.fresh k1 m2 λk hk=>aB;generalize Ky:w.heap.size=b3 at*;have hHb:∀k,H.dF k->¬k=b3:=λk hk e=>by have:=h.lt hk;omega
 have z0:ys.set 0 x=ys:=by
  apply AX;intro j;rw[vR]
  by_cases e:0=j
  ·subst e;rw[if_pos rfl,if_pos hi,hx]
  ·rw[if_neg e]
 refine bO (λc t w3=>∃(i':Nat) (FL:List It) (f':Int->Option Int),c=ys.length-i'/\t=((i':Int),())/\UK w3 H FL f'/\i'<FL.length/\FL.length=ys.length/\Wk (FL.set i' x) i'/\FD f' (FL.set i' x) i'/\QT (FL.set i' x)/\
   (∀u,u∈FL.set i' x↔u∈ys)/\cW w3 b3 kY (Bx x)/\aW H.dF w w3) ys.length
  ⟨0,ys,f,rfl,rfl,h.aN k2,hi,rfl,by rw[z0];exact hu,by rw[z0];exact hp,by rw[z0];exact ha,by rw[z0];exactλ_=>Iff.rfl,o2,k2.wk⟩ ?_
 rintro c t w3 ⟨i,FL,f',hci,rfl,h3,hi3,hl3,hu3,hp3,ha3,hm3,o3,m3⟩ X hX;subst hci;dsimp only;have Ug:(FL.set i x)[i]? =some x:=by rw[vR,if_pos rfl,if_pos hi3]
 have zne:∀j,j≠i->(FL.set i x)[j]? =FL[j]?:=λj hj=>by rw[vR,if_neg (Ne.symm hj)]
 have hzl:(FL.set i x).length=ys.length:=by rw[pI];exact hl3
 have d3:aM w3 w3.drew:=aW.drew (aW.refl _ w3);have finish:∀{w4:aH},aM w3 w4->HOk (FL.set i x)->qN (some ⟨H.g,0,none⟩) (i:Int) (yO x) w4 Q:=λ{w4} k4 kH=>by
  refine ph (x:=x) (h3.aN k4) hi3 λw5 h5 m5=>?_;refine hQ w5 _ _ h5 kH (hp3.done Ug λj z hj hz e=>hj (ha3 j i z x hz Ug e)) hm3 hzl ((m3.tr k4.wk).tr m5)
 have e1:aQ (aQ ((2:Int)*(i:Int))+1)=((2*i+1:Nat):Int):=by
  rw[gM (n:=(2:Int)*(i:Int)) aB aB,gM aB aB];omega
 have e2:aQ (((2*i+1:Nat):Int)+1)=((2*i+2:Nat):Int):=by
  rw[gM aB aB];omega
 intro J hJ;have after:∀(k:Nat) (w4:aH),aM w3 w4->(k=2*i+1\/k=2*i+2)->(ys.length<=k->ys.length<=2*i+1)->(∀y,FL[k]? =some y->∀s,0<s->(s-1)/2=i->∀v,FL[s]? =some v->pW v y=false)->J ((k:Int),()) w4:=by
  intro k w4 k4 hk hkl fk;apply hJ;dsimp only;have d4:aM w4 w4.drew:=aW.drew (aW.refl _ w4);have k4d:=k4.tr d4;have h4:=h3.aN k4d;refine aA rfl (aE (k:=.slice) H.s h4.c0 ?_);refine aJ (λkT=>?_) (λcJ=>?_)
  ·refine bJ (yO x) (MH (o3.aK k4d id)) (finish k4d (Xm hu3 Ug λs hs df v hv=>?_))
   have tM:=(kU.1 hv).1;have:=hkl aB;omega
  ·have hkl':k<FL.length:=aB
   obtain⟨y,hy⟩:∃y,FL[k]? =some y:=⟨_,gS hkl'⟩;have hki:k≠i:=aB;have hzk:(FL.set i x)[k]? =some y:=by rw[zne k hki];exact hy
   have hminz:∀s,0<s->(s-1)/2=i->∀v,(FL.set i x)[s]? =some v->pW v y=false:=λs hs df v hv=>by
    rw[zne s aB] at hv;exact fk y hy s hs df v hv
   obtain⟨b',bW,Kd⟩:=GF (h4.UE.rd rQ) hy;have gH:0<=(k:Int)/\(k:Int)<(H.s.l:Int):=⟨aB,aB⟩;rw[kE];refine aA rfl (aE (k:=.slice) H.s h4.c0 ⟨gH,aA bW (bJ (yO y) Kd (bJ (yO x) (MH (o3.aK k4d id)) ?_))⟩);refine Sb (x:=y) (y:=x) λw6 k6=>?_;have k46:=k4d.tr k6;have h6:=h3.aN k46;refine aF (λhb=>?_) (λhb=>?_)
   ·have kT:pW y x=false:=by simpa using hb
    exact bJ (yO x) (MH (o3.aK k46 id)) (finish k46 (Xm hu3 Ug λs hs df v hv=>le_trans' kT (hminz s hs df v hv)))
   ·have FY:pW y x=true:=by simpa using hb
    obtain⟨b',bW,Kd⟩:=GF (h6.UE.rd rQ) hy;refine aA rfl (aE (k:=.slice) H.s h6.c0 ⟨gH,aA bW (bJ (yO y) Kd ?_)⟩);refine ph (x:=y) h6 hi3 λw8 h8 m8=>?_;have hss:((FL.set i x).set i y).set k x=(FL.set i y).set k x:=by rw[List.set_set]
    have EP:=aAh hu3 aB aB Ug hzk FY hminz;have Uh:=hp3.swap Ug hzk (Ne.symm hki);have dF:=ha3.swap Ug hzk;have Uj:=Qv Ug hzk;rw[hss] at EP Uh dF;simp only[hss] at Uj;exact hX (ys.length-k) _ _ aB ⟨k,FL.set i y,_,rfl,rfl,h8,by rw[pI];omega,by rw[pI];exact hl3,EP,Uh,dF,λu=>(Uj u).trans (hm3 u),(o3.aK k46 id).aK m8 λhk=>hHb _ hk rfl,(m3.tr k46.wk).tr m8⟩
 have Ae:=h3.aN d3;refine aA rfl (aE (k:=.slice) H.s Ae.c0 ?_);rw[e1,e2];refine aJ (λcJ=>?_) (λkT=>?_)
 ·have DG:2*i+2<FL.length:=aB
  obtain⟨u,we⟩:∃u,FL[2*i+2]? =some u:=⟨_,gS DG⟩;obtain⟨v,kF⟩:∃v,FL[2*i+1]? =some v:=⟨_,gS aB⟩;obtain⟨b1,YD,hh1⟩:=GF (Ae.UE.rd rQ) we;obtain⟨b2,RN,hh2⟩:=GF (Ae.UE.rd rQ) kF;rw[kE,kE];refine aA rfl (aE (k:=.slice) H.s Ae.c0 ⟨⟨aB,aB⟩,aA YD (bJ (yO u) hh1 ?_)⟩);refine aA rfl (aE (k:=.slice) H.s Ae.c0 ⟨⟨aB,aB⟩,aA RN (bJ (yO v) hh2 ?_)⟩);refine Sb (x:=u) (y:=v) λw9 k9=>?_;refine aF (λhb=>?_) (λhb=>?_)
  ·refine after (2*i+2) w9 (d3.tr k9) (.inr rfl) (λh=>aB) λy hy s hs df z hz=>?_
   rw[we] at hy;cases hy;have:s=2*i+1\/s=2*i+2:=aB;rcases this with rfl|rfl
   ·rw[kF] at hz;cases hz;exact pz hb
   ·rw[we] at hz;cases hz;exact GU _
  ·refine after (2*i+1) w9 (d3.tr k9) (.inl rfl) (λh=>h) λy hy s hs df z hz=>?_
   rw[kF] at hy;cases hy;have:s=2*i+1\/s=2*i+2:=aB;rcases this with rfl|rfl
   ·rw[kF] at hz;cases hz;exact GU _
   ·rw[we] at hz;cases hz;exact hb
 ·refine after (2*i+1) w3.drew d3 (.inl rfl) (λh=>h) λy hy s hs df z hz=>?_
  have tM:=(kU.1 hz).1;have:s=2*i+1\/s=2*i+2:=aB;rcases this with rfl|rfl
  ·rw[hy] at hz;cases hz;exact GU _
  ·omega
end
section
theorem lZ{q:List It}(h:BB q):q.Nodup:=h.imp λ{x y} hxy e=>by subst e;rw[GU] at hxy;cases hxy
theorem NM{xs:List It}(h:QT xs):xs.Nodup:=by
 refine Qb.2 λi j hi hj RL e=>?_;have:=h i j _ _ (gS hi) (gS hj) (by rw[e]);omega
theorem Gn{q xs:List It}(h:q.Nodup)(h':xs.Nodup)(hm:∀u,u∈q↔u∈xs):xs.length=q.length:=((List.perm_ext_iff_of_nodup h h').2 hm).length_eq.symm
def oD(w:aH)(H:HS)(q:List It):Prop:=BB q/\∃xs f,UK w H xs f/\HOk xs/\tV f xs/\(∀u,u∈q↔u∈xs)
def rE(w:aH)(H:HS)(q:List It):Prop:=oD w H q\/(q=[]/\H.s=bD/\H.r=H.g/\cW w H.g oq [sv bD,.map none])
section
variable{w:aH}{H:HS}{q:List It}
theorem oD.rN(h:oD w H q):BB q:=h.1
theorem oD.one(h:oD w H q):By q:=by
 obtain⟨_,xs,f,_,_,hp,hm⟩:=h
 exactλx hx y hy e=>hp.one x ((hm x).1 hx) y ((hm y).1 hy) e
theorem oD.lt(h:oD w H q){k:Nat}(hk:H.dF k):k<w.heap.size:=by obtain⟨_,xs,f,h,_⟩:=h;exact h.lt hk
theorem oD.aK{F:Nat->Prop}{w':aH}(h:oD w H q)(m:aW F w w')(hF:∀k,H.dF k->¬F k):oD w' H q:=by
 obtain⟨h0,xs,f,h,r⟩:=h;exact⟨h0,xs,f,h.aK m hF,r⟩
theorem rE.lt(h:rE w H q){k:Nat}(hk:H.dF k):k<w.heap.size:=by
 rcases h with h|⟨_,hs,hr,h⟩
 ·exact h.lt hk
 ·rcases hk with rfl|rfl|⟨a,ha,_⟩
  ·exact h.lt
  ·rw[hr];exact h.lt
  ·rw[hs] at ha;cases ha
theorem rE.aK{F:Nat->Prop}{w':aH}(h:rE w H q)(m:aW F w w')(hF:∀k,H.dF k->¬F k):rE w' H q:=h.imp (λh=>h.aK m hF) λ⟨h0,hs,hr,h⟩=>⟨h0,hs,hr,h.aK m (hF _ (.inl rfl))⟩
theorem rE.aN{w':aH}(h:rE w H q)(k:aM w w'):rE w' H q:=h.aK k λ_ _=>id
theorem qu{Q:Int->aH->Prop}(h:rE w H q)(hQ:Q (q.length:Int) w):CH (some ⟨H.g,0,none⟩) w Q:=by
 unfold CH;refine aF (λh=>by simp at h) (λ_=>aA rfl ?_);rcases h with⟨h0,xs,f,h,_,hp,hm⟩|⟨rfl,hs,hr,h⟩
 ·have:=h.UE.len
  have hl:=Gn (lZ h0) (NM hp.apart) hm;refine aE (k:=.slice) H.s h.c0 ?_;rw[this,hl];exact hQ
 ·exact aE (k:=.slice) bD (by rw[aS,h.cell];rfl) hQ
theorem WZ{v k:Int}(hl:Cd q v k=false)(u:It):u∈(nK q v k).1↔u=⟨v,k⟩\/(u∈q/\u.id≠v):=by
 unfold nK;rw[hl];simp only[Bool.false_eq_true,if_false];rw[xU,jE];simp
theorem XB(dE:List Value)(k:Int):∀(ys:List It) (i:Nat) (x:It),ys[i]? =some x->(ys.flatMap Bx++dE).set (i*2+1) (aD k)=(ys.set i ⟨x.id,k⟩).flatMap Bx++dE
 | [],i,x,h=>by simp at h
 |y::ys,0,x,h=>by simp at h;subst h;rfl
 |y::ys,i+1,x,h=>by
  simp at h;have ih:=XB dE k ys i x h;have e:(i+1)*2+1=(i*2+1)+2:=aB;rw[e];simp only[List.set_cons_succ,EV,List.cons_append,List.nil_append];rw[ih]
theorem aAa{s:Sl}{ys:List It}{i:Nat}{x:It}{k:Int}{K:aH->Prop}(h:dP w kY 2 Bx s ys){a:Addr}(ha:s.b=some a)(hx:ys[i]? =some x)
  (hK:∀w',dP w' kY 2 Bx s (ys.set i ⟨x.id,k⟩)->aW (λk=>k=a.block) w w'->K w'):aI prog cY ((a.add (i*2)).add 1) (aD k) w K:=by
 rcases h.gN with⟨h1,_⟩|⟨g,dE,hb,ho,hl⟩
 ·rw[h1] at ha;cases ha
 ·rw[hb] at ha;cases ha
  have hi:=(kU.1 hx).1;have QC:=bI rQ ys;rw[aS,aS,pM];refine cI ho cU (by rw[mJ,QC];omega) rfl rfl λw' h2 h3 _=>hK w' ⟨by rw[pI];exact h.len,h.cap,h.max,.inr ⟨g,dE,hb,?_,?_⟩⟩ h3
  ·rw[<-XB dE k ys i x hx];exact h2
  ·rw[<-hl,mJ,mJ,bI rQ,bI rQ,pI]
theorem YW{IF key:Int}{Q:Bool->aH->Prop}(h:rE w H q)(fU:q.length<1000000)
  (hQ:∀w' H',oD w' H' (nK q IF key).1->H'.g=H.g->aW H.dF w w'->(∀k,H'.dF k->H.dF k\/w.heap.size<=k)->Q (nK q IF key).2 w'):rI (some ⟨H.g,0,none⟩) IF key w Q:=by
 unfold rI;refine aF (λh=>by simp at h) (λ_=>?_);intro J hJ;have sD:∀w1 H1,oD w1 H1 q->H1.g=H.g->aW H.dF w w1->(∀k,H1.dF k->H.dF k\/w.heap.size<=k)->J () w1:=by
  intro w1 H1 h1 hg1 m1 f1;apply hJ;rw[<-hg1];obtain⟨h0,xs,f,hA,kH,hp,hm⟩:=h1;have Ac:=Gn (lZ h0) (NM hp.apart) hm;have IK:=hA.UE.len;have jW:By q:=λx hx y hy e=>hp.one x ((hm x).1 hx) y ((hm y).1 hy) e;obtain⟨n,Qg⟩:=hA.map;refine aA rfl (aE (k:=.map) (some H1.r) hA.c1 ?_);refine OO (kn:=Kr) oS kP (z:=(0:Int)) MN Qg IF ?_;intro J2 El;have dQ:∀(w3:aH) (H3:HS) (ys:List It) (f3:Int->Option Int) (i:Nat) (x:It),UK w3 H3 ys f3->ys[i]? =some x->x.id=IF->ys.length<2000000->UpI (ys.set i ⟨IF,key⟩) i->FD f3 (ys.set i ⟨IF,key⟩) i->QT (ys.set i ⟨IF,key⟩)->
    (∀u,u∈(nK q IF key).1↔u∈ys.set i ⟨IF,key⟩)->Cd q IF key=false->H3.g=H1.g->aW H.dF w w3->(∀k,H3.dF k->H.dF k\/w.heap.size<=k)->J2 ((i:Int),()) w3:=by
   intro w3 H3 ys f3 i x hA3 hx hid hyl na hpl hap fP LP wo m3 nq;apply El;have hi:=(kU.1 hx).1;obtain⟨b,hb⟩:=hA3.nE hi;have hl3:=hA3.UE.len;rw[<-wo];refine aA rfl (aE (k:=.slice) H3.s hA3.c0 ⟨⟨aB,aB⟩,aA hb ?_⟩);rw[kE];refine aAa (k:=key) hA3.UE hb hx λw4 v4 m4=>?_;rw[hid] at v4;have bh:H3.dF b.block:=.inr (.inr ⟨b,hb,rfl⟩);have hA4:UK w4 H3 (ys.set i ⟨IF,key⟩) f3:=⟨hA3.head.aK m4 (Ne.symm (hA3.sg b hb)),v4,by obtain⟨n,hm⟩:=hA3.map;exact⟨n,hm.aK m4 (Ne.symm (hA3.sr b hb))⟩,hA3.gr,hA3.sg,hA3.sr⟩;have M:∀{wa wb:aH} {G:Nat->Prop},aW H.dF w wa->aW G wa wb->(∀k,G k->H3.dF k)->aW H.dF w wb:=λma mb hG=>ma.trans mb λk hk hGk=>(nq k (hG k hGk)).elim id λh=>absurd h aB;have m4':=M m3 m4 λk hk=>by rw[show k=b.block from hk];exact bh
   refine up_i hA4 (by rw[pI];exact hi) (by rw[pI];omega) na hpl hap λw5 zs f5 hA5 hok5 hp5 Ka hl5 m5=>?_;have hr:(nK q IF key).2=true:=by unfold nK;rw[LP];rfl
   rw[<-hr];exact hQ w5 H3 ⟨CA h0 IF key,zs,f5,hA5,hok5,hp5,λu=>(fP u).trans (Ka u).symm⟩ (wo.trans hg1) (M m4' m5 λ_ h=>h) nq
  cases hf:f IF with
  |none=>
   refine aF (λ_=>?_) (λh=>by cases h);have hni:∀z∈xs,z.id≠IF:=λz hz e=>by
    obtain⟨j,hj⟩:=oL.1 hz;have:=hp.at_ j z hj;rw[e,hf] at this;cases this
   have LP:Cd q IF key=false:=by
    have:Ey q IF=none:=by
     cases hk:Ey q IF with
     |none=>rfl
     |some k=>exact absurd rfl (hni _ ((hm _).1 (ZD hk)))
    unfold Cd;rw[this]
   refine aA rfl (aE (k:=.slice) H1.s hA.c0 (aA rfl (aE (k:=.slice) H1.s hA.c0 ?_)));simp only[aG];have k1:=aM.alloc w1 (.cells #[(aD IF),aD key] kY);have hlit:=dP.lit w1 kY Bx rQ [(⟨IF,key⟩:It)] #[(aD IF),aD key] rfl (by simp[maxLen]);have hA':=hA.aN k1;generalize w1.alloc (.cells #[aD IF,aD key] 242)=w6 at*;refine fN kr rQ oneIt hA'.UE (hlit.rd rQ) (by simp only[List.length_singleton];omega) (by simp only[List.length_singleton];omega) λr w7 v7 m7 f7 hrn=>?_;have hgs:¬∃a,H1.s.b=some a/\H1.g=a.block:=λ⟨a,ha,e⟩=>hA.sg a ha e.symm;have hrs:¬∃a,H1.s.b=some a/\H1.r=a.block:=λ⟨a,ha,e⟩=>hA.sr a ha e.symm;have hgl:H1.g<w6.heap.size:=hA'.lt (.inl rfl);have hrl:H1.r<w6.heap.size:=hA'.lt (.inr (.inl rfl));have sep:∀a,r.b=some a->a.block≠H1.g/\a.block≠H1.r:=λa ha=>by
    rcases f7 with e|⟨a',e,IL⟩
    ·exact⟨hA.sg a (e▸ha),hA.sr a (e▸ha)⟩
    ·rw[e] at ha;cases ha;exact⟨aB,aB⟩
   refine aA rfl ?_;rw[aS];refine cI (hA'.head.aK m7 hgs) Hs dK rfl rfl λw8 o8 m8 _=>?_;have hsl':H1.s.l=xs.length:=IK;rw[hsl'];obtain⟨n',hmap'⟩:=hA'.map;have hA8:UK w8 ⟨H1.g,H1.r,r⟩ (xs++[⟨IF,key⟩]) f:=⟨o8,v7.aK m8 λa ha=>(sep a ha).1,⟨n',(hmap'.aK m7 hrs).aK m8 hA.gr.symm⟩,hA.gr,λa ha=>(sep a ha).1,λa ha=>(sep a ha).2⟩;have FX:(xs++[(⟨IF,key⟩:It)]).set xs.length ⟨IF,key⟩=xs++[⟨IF,key⟩]:=by
    rw[List.set_append_right _ _ (iT _)];simp
   have cV:∀(j:Nat) (z:It),(xs++[(⟨IF,key⟩:It)])[j]? =some z->(j<xs.length/\xs[j]? =some z)\/(j=xs.length/\z=⟨IF,key⟩):=λj z hz=>by
    by_cases hj:j<xs.length
    ·rw[Ev hj] at hz;exact .inl ⟨hj,hz⟩
    ·rw[Ew aB] at hz
     have:j-xs.length=0:=by have:=(kU.1 hz).1;simp at this;omega
     rw[this] at hz;simp at hz;exact .inr ⟨aB,hz.symm⟩
   have mw1:aW H.dF w w6:=m1.tr k1.wk;have has1:∀k,H1.dF k->k<w.heap.size->H.dF k:=λk hk cJ=>(f1 k hk).elim id λh=>aB;refine dQ w8 ⟨H1.g,H1.r,r⟩ _ f xs.length ⟨IF,key⟩ hA8 dK rfl (by simp;omega) ?_ ?_ ?_ ?_ LP rfl ?_ ?_
   ·rw[FX]
    refine⟨λj hj XS u v hu hv=>?_,λj hj XS _ u v hu hv=>?_⟩
    ·rcases cV j v hv with⟨h1,h2⟩|⟨h1,_⟩
     ·rcases cV _ u hu with⟨h3,h4⟩|⟨h3,_⟩
      ·exact kH j hj u v h4 h2
      ·omega
     ·omega
    ·rcases cV j v hv with⟨h1,h2⟩|⟨h1,_⟩<;>omega
   ·rw[FX]
    refine⟨λj z hj hz=>?_,λv k hv=>?_⟩
    ·rcases cV j z hz with⟨_,h2⟩|⟨h1,_⟩
     ·exact hp.at_ j z h2
     ·omega
    ·obtain⟨z,hz,e⟩:=hp.dom v k hv
     exact⟨z,by simp[hz],e⟩
   ·rw[FX]
    intro i j x y hx hy e;rcases cV i x hx with⟨_,h2⟩|⟨h1,rfl⟩<;>rcases cV j y hy with⟨_,h4⟩|⟨h3,rfl⟩
    ·exact hp.apart i j x y h2 h4 e
    ·exact absurd e (hni x (zF h2))
    ·exact absurd e.symm (hni y (zF h4))
    ·omega
   ·rw[FX]
    intro u;rw[WZ LP,jK,uE,hm]
    constructor
    ·rintro(rfl|⟨h,_⟩)
     ·exact .inr rfl
     ·exact .inl h
    ·rintro(h|rfl)
     ·exact .inr ⟨h,hni u h⟩
     ·exact .inl rfl
   ·refine(mw1.trans m7 λk hk ⟨a,ha,e⟩=>has1 k (.inr (.inr ⟨a,ha,e⟩)) hk).trans m8 λk hk e=>has1 k (.inl e) hk
   ·rintro k (rfl|rfl|⟨a,ha,rfl⟩)
    ·exact f1 _ (.inl rfl)
    ·exact f1 _ (.inr (.inl rfl))
    ·rcases f7 with e|⟨a',e,IL⟩
     ·exact f1 _ (.inr (.inr ⟨a,e▸ha,rfl⟩))
     ·have pH:r.b=some a:=ha
      rw[e] at pH;cases pH;exact .inr (iF mw1.size IL)
  |some v=>
   refine aF (λh=>by cases h) (λ_=>?_);obtain⟨z,hz,fg⟩:=hp.dom IF v hf;obtain⟨j,hj⟩:=oL.1 hz;have hvj:v=(j:Int):=by have:=hp.at_ j z hj;rw[fg,hf] at this;exact uO this
   subst hvj;show aC _ _;have XS:=(kU.1 hj).1;have hkq:Ey q IF=some z.key:=by rw[<-fg];exact Xf jW ((hm z).2 hz)
   obtain⟨b,hb,hh⟩:=GF (hA.UE.rd rQ) hj;refine aA rfl (aE (k:=.slice) H1.s hA.c0 ?_);have ej:((some (j:Int):Option Int).getD 0)=(j:Int):=rfl;show(0<=(j:Int)/\(j:Int)<_)/\_;refine⟨⟨aB,aB⟩,aA hb (aE (k:=.i) z.key hh.2.1 ?_)⟩;refine aJ (λkT=>?_) (λcJ=>?_)
   ·have LP:Cd q IF key=true:=by unfold Cd;rw[hkq];simpa using kT
    have e1:(nK q IF key)=(q,false):=by unfold nK;rw[LP];rfl
    rw[e1] at hQ;exact hQ w1 H1 ⟨h0,xs,f,hA,kH,hp,hm⟩ hg1 m1 f1
   ·have LP:Cd q IF key=false:=by unfold Cd;rw[hkq];simp;omega
    have FY:pW ⟨IF,key⟩ z=true:=jZ.2 (.inl (by show key<z.key;omega));have IL:=pz FY;have Pt:∀i,(xs.set j ⟨IF,key⟩)[i]? =if i=j then some ⟨IF,key⟩ else xs[i]?:=λi=>by
     rw[vR]
     by_cases e:j=i
     ·subst e;simp[XS]
     ·rw[if_neg e,if_neg (Ne.symm e)]
    refine dQ w1 H1 xs f j z hA hj fg aB ?_ ?_ ?_ ?_ LP rfl m1 f1
    ·refine⟨λi hi RL u v hu hv=>?_,λi hi RL wj u v hu hv=>?_⟩
     ·rw[Pt] at hu hv
      rw[if_neg RL] at hv
      by_cases e:(i-1)/2=j
      ·rw[if_pos e] at hu;cases hu
       exact le_trans' IL (kH i hi z v (by rw[e];exact hj) hv)
      ·rw[if_neg e] at hu;exact kH i hi u v hu hv
     ·rw[Pt,if_neg aB] at hu hv
      exact le_trans' (kH j wj u z hu hj) (kH i hi z v (by rw[RL];exact hj) hv)
    ·refine⟨λi x RL hx=>?_,λv k hv=>?_⟩
     ·rw[Pt,if_neg RL] at hx;exact hp.at_ i x hx
     ·obtain⟨y,hy,e⟩:=hp.dom v k hv
      obtain⟨i,hi⟩:=oL.1 hy
      by_cases RL:i=j
      ·subst RL
       rw[hj] at hi;cases hi;exact⟨⟨IF,key⟩,oL.2 ⟨i,by rw[Pt,if_pos rfl]⟩,fg.symm.trans e⟩
      ·exact⟨y,oL.2 ⟨i,by rw[Pt,if_neg RL];exact hi⟩,e⟩
    ·have dL:∀(i:Nat) (x:It),(xs.set j ⟨IF,key⟩)[i]? =some x->∃y,xs[i]? =some y/\y.id=x.id:=λi x hx=>by
      rw[Pt] at hx
      by_cases e:i=j
      ·rw[if_pos e] at hx;cases hx;subst e;exact⟨z,hj,fg⟩
      ·rw[if_neg e] at hx;exact⟨x,hx,rfl⟩
     intro i i' x y hx hy e;obtain⟨x',h1,e1⟩:=dL i x hx;obtain⟨y',h2,e2⟩:=dL i' y hy;exact hp.apart i i' x' y' h1 h2 (by rw[e1,e2,e])
    ·intro u
     rw[WZ LP]
     constructor
     ·rintro(rfl|⟨hu,gF⟩)
      ·exact oL.2 ⟨j,by rw[Pt,if_pos rfl]⟩
      ·obtain⟨i,hi⟩:=oL.1 ((hm u).1 hu)
       have:i≠j:=λe=>by subst e;rw[hj] at hi;cases hi;exact gF fg
       exact oL.2 ⟨i,by rw[Pt,if_neg this];exact hi⟩
     ·intro hu
      obtain⟨i,hi⟩:=oL.1 hu;rw[Pt] at hi
      by_cases e:i=j
      ·rw[if_pos e] at hi;cases hi;exact .inl rfl
      ·rw[if_neg e] at hi
       refine .inr ⟨(hm u).2 (zF hi),λe'=>e ?_⟩;exact hp.apart i j u z hi hj (by rw[e',fg])
 rcases h with h|⟨rfl,hs,hr,h⟩
 ·obtain⟨_,xs,f,hA,_⟩:=id h
  refine aA rfl (aE (k:=.map) (some H.r) hA.c1 ?_);exact aF (λh=>by simp at h) (λ_=>sD w H h rfl (aW.refl _ _) λk hk=>.inl hk)
 ·refine aA rfl (aE (k:=.map) none (by rw[aS,h.cell];rfl) ?_)
  refine aF (λ_=>?_) (λh=>by simp at h);refine qM (ek:=CR) (kn:=Kr) λhm k1=>?_;have cJ:=h.lt;have LD:(w.alloc (.map #[] 0)).heap.size=w.heap.size+1:=by simp
  have h1:=h.aK k1 id;generalize w.alloc (.map #[] 0)=w1 at*;refine aA rfl ?_;rw[aS];refine cI h1 Sk dK rfl rfl λw2 o2 m2 _=>?_;refine sD w2 ⟨H.g,w.heap.size,bD⟩ ⟨List.Pairwise.nil,[],λ_=>none,⟨o2,dP.nil _ _ _ _,⟨_,hm.aK m2 aB⟩,by show H.g≠w.heap.size;omega,(λa ha=>by cases ha),(λa ha=>by cases ha)⟩,?_,⟨by simp,by simp⟩,by simp⟩ rfl (k1.wk.trans m2 λk _ e=>.inl e) ?_
  ·intro j _ u v hu;simp at hu
  ·rintro k (rfl|rfl|⟨a,ha,_⟩)
   ·exact .inl (.inl rfl)
   ·exact .inr (iT _)
   ·cases ha
end
end
section
section
variable{w:aH}{H:HS}{q:List It}
theorem Pop_i{x:It}{Q:Int->Int->Int->aH->Prop}(h:oD w H (x::q))(fU:q.length<1000000)
  (hQ:∀w' H',oD w' H' q->H'.g=H.g->(∀k,H'.dF k↔H.dF k)->aW H.dF w w'->Q x.id x.key 0 w'):HB (some ⟨H.g,0,none⟩) w Q:=by
 unfold HB;obtain⟨h0,xs,f,hA,kH,hp,hm⟩:=id h;have Ac:=Gn (lZ h0) (NM hp.apart) hm;have IK:=hA.UE.len;have hn:xs.length=q.length+1:=by rw[Ac];simp
 refine qu (.inl h) ?_;refine aF (λh=>by simp at h;omega) (λ_=>?_);obtain⟨r,hr⟩:∃r,xs[0]? =some r:=⟨_,gS aB⟩;have hrx:r=x:=by
  have h1:=(hm r).2 (zF hr);rcases lL.1 h1 with e|h1
  ·exact e
  ·have h2:=(List.pairwise_cons.1 h0).1 r h1
   obtain⟨j,hj⟩:=oL.1 ((hm x).1 dK);have:=kH.min hr j x hj;rw[this] at h2;cases h2
 subst hrx;obtain⟨kO,Am⟩:∃y,xs[xs.length-1]? =some y:=⟨_,gS aB⟩;have wr1:aQ ((H.s.l:Int)-1)=((xs.length-1:Nat):Int):=by rw[gM aB aB];omega
 have d0:aM w w.drew:=aW.drew (aW.refl _ w);intro J hJ;have after:∀(w2:aH) (b1 b2:Nat),aM w w2->w.heap.size<=b1->w.heap.size<=b2->cW w2 b1 kY (Bx r)->cW w2 b2 kY (Bx kO)->J (some ⟨b1,0,none⟩,some ⟨b2,0,none⟩,()) w2:=by
  intro w2 b1 b2 k2 lb1 lb2 o1 o2;apply hJ;dsimp only;have d2:aM w2 w2.drew:=aW.drew (aW.refl _ w2);have k2d:=k2.tr d2;have hA2:=hA.aN k2d;have p1:=o1.aK d2 id;have p2:=o2.aK d2 id;have nb1:∀k,H.dF k->¬b1=k:=λk hk e=>by have:=hA.lt hk;omega
  have nb2:∀k,H.dF k->¬b2=k:=λk hk e=>by have:=hA.lt hk;omega
  refine aA rfl (aE (k:=.slice) H.s hA2.c0 (aA rfl (aE (k:=.slice) H.s hA2.c0 ?_)));rw[wr1,oH,kE,Nat.sub_zero,Nat.sub_zero];have Qi:=hA2.UE.cap;refine⟨⟨aB,aB⟩,aA rfl ?_⟩;rw[aS];refine cI hA2.head Hs dK rfl rfl λw3 o3 m3 _=>?_;have d3:aM w3 w3.drew:=aW.drew (aW.refl _ w3);have gm:∀k,k=H.g->H.dF k:=λk e=>.inl e;have hv3:dP w3.drew kY 2 Bx ⟨H.s.b,xs.length-1,H.s.c⟩ (xs.take (xs.length-1)):=((hA2.UE.aK m3 λa ha=>hA.sg a ha).aK d3 (λ_ _=>id)).take aB;obtain⟨n,Qg⟩:=hA2.map;have hmap3:=(Qg.aK m3 (Ne.symm hA.gr)).aK d3 id;have o3':cW w3.drew H.g oq [sv ⟨H.s.b,xs.length-1,H.s.c⟩,.map (some H.r)]:=o3;have q1:=(p1.aK m3 (nb1 _ (.inl rfl))).aK d3 id;have q2:=(p2.aK m3 (nb2 _ (.inl rfl))).aK d3 id;have M3:aW H.dF w w3.drew:=(k2d.wk.trans m3 λk _ e=>gm k e).tr d3.wk;refine aA rfl (aE (k:=.map) (some H.r) (by rw[aS,o3'.cell];rfl) (aA rfl (aE (k:=.i) r.id (by rw[aS,q1.cell];rfl) ?_)));refine Hd (kn:=Kr) oS kP hmap3 r.id λw4 hm4 m4 _=>?_;have o4:=o3'.aK m4 hA.gr;have hv4:=hv3.aK m4 λa ha=>hA.sr a ha;have M4:aW H.dF w w4:=M3.trans m4 λk _ e=>.inr (.inl e);have r1:=q1.aK m4 (nb1 _ (.inr (.inl rfl)));have r2:=q2.aK m4 (nb2 _ (.inr (.inl rfl)));have d4:aM w4 w4.drew:=aW.drew (aW.refl _ w4);have has':∀(k:Nat),HS.dF ⟨H.g,H.r,⟨H.s.b,xs.length-1,H.s.c⟩⟩ k↔H.dF k:=λk=>Iff.rfl;have hq':BB q:=(List.pairwise_cons.1 h0).2;have hrq:r∉q:=λh=>by have:=(List.pairwise_cons.1 h0).1 r h;rw[GU] at this;cases this
  have memq:∀u,u∈q↔u∈xs/\u≠r:=λu=>by
   rw[<-hm u,lL]
   constructor
   ·intro h;exact⟨.inr h,λe=>hrq (e▸h)⟩
   ·rintro⟨h|h,gF⟩
    ·exact absurd h gF
    ·exact h
  refine aA rfl (aE (k:=.slice) ⟨H.s.b,xs.length-1,H.s.c⟩ (by rw[aS,o4.cell];rfl) ?_);refine aJ (λuP=>?_) (λPR=>?_)
  ·have Fs:0<xs.length-1:=by simpa using uP
   have Ah:∀j,j<xs.length-1->(xs.take (xs.length-1))[j]? =xs[j]?:=λj hj=>UP hj;have hA4:UK w4.drew ⟨H.g,H.r,⟨H.s.b,xs.length-1,H.s.c⟩⟩ (xs.take (xs.length-1)) (λy=>if y=r.id then none else f y):=⟨o4.aK d4 id,hv4.aK d4 (λ_ _=>id),⟨_,hm4.aK d4 id⟩,hA.gr,hA.sg,hA.sr⟩
   have ltake:(xs.take (xs.length-1)).length=xs.length-1:=by simp
   obtain⟨b,hb⟩:=hA4.nE (i:=0) aB;refine aA rfl (aE (k:=.slice) ⟨H.s.b,xs.length-1,H.s.c⟩ hA4.c0 (aA rfl (bJ (yO kO) (MH (r2.aK d4 id)) ⟨⟨aB,by show(0:Int)<((xs.length-1:Nat):Int);omega⟩,aA hb ?_⟩)));refine hA4.UE.store rQ hb (i:=0) aB kO (v:=itV kO) rfl YY (oneIt kO) λw5 v5 m5 _=>?_;have hA5:UK w5 ⟨H.g,H.r,⟨H.s.b,xs.length-1,H.s.c⟩⟩ ((xs.take (xs.length-1)).set 0 kO) (λy=>if y=r.id then none else f y):=
    ⟨hA4.head.aK m5 (Ne.symm (hA.sg b hb)),v5,by obtain⟨n,hm⟩:=hA4.map;exact⟨n,hm.aK m5 (Ne.symm (hA.sr b hb))⟩,hA.gr,hA.sg,hA.sr⟩
   have bh:H.dF b.block:=.inr (.inr ⟨b,hb,rfl⟩);have M5:aW H.dF w w5:=(M4.tr d4.wk).trans m5 λk _ e=>by rw[show k=b.block from e];exact bh
   have xo:∀j z,((xs.take (xs.length-1)).set 0 kO)[j]? =some z->(j=0/\z=kO)\/(j≠0/\j<xs.length-1/\xs[j]? =some z):=λj z hz=>by
    have XS:=(kU.1 hz).1;rw[pI,ltake] at XS;rw[vR] at hz
    by_cases e:0=j
    ·subst e;rw[if_pos rfl,if_pos aB] at hz;cases hz;exact .inl ⟨rfl,rfl⟩
    ·rw[if_neg e,Ah j XS] at hz;exact .inr ⟨Ne.symm e,XS,hz⟩
   have yput0:((xs.take (xs.length-1)).set 0 kO)[0]? =some kO:=by rw[vR,if_pos rfl,if_pos aB]
   have yput:∀j z,j≠0->j<xs.length-1->xs[j]? =some z->((xs.take (xs.length-1)).set 0 kO)[j]? =some z:=λj z hj XS hz=>by
    rw[vR,if_neg (Ne.symm hj),Ah j XS];exact hz
   have ne0:∀j z,j≠0->xs[j]? =some z->z.id≠r.id:=λj z hj hz e=>hj (hp.apart j 0 z r hz hr e);have gF:kO.id≠r.id:=ne0 _ _ aB Am;refine down_i (H:=⟨H.g,H.r,⟨H.s.b,xs.length-1,H.s.c⟩⟩) hA5 (by rw[pI];omega) (by rw[pI];omega) ⟨λj hj wj u v hu hv=>?_,λj _ _ h0=>aB⟩ ⟨λj z hj hz=>?_,λv k hv=>?_⟩ ?_ λw6 zs f6 hA6 hok6 hp6 hm6 hl6 m6=>?_
   ·rcases xo _ _ hu with⟨h1,_⟩|⟨_,_,h1⟩
    ·omega
    ·rcases xo _ _ hv with⟨h2,_⟩|⟨_,_,h2⟩
     ·omega
     ·exact kH j hj u v h1 h2
   ·rcases xo _ _ hz with⟨h1,_⟩|⟨_,_,h1⟩
    ·omega
    ·rw[if_neg (ne0 j z hj h1)];exact hp.at_ j z h1
   ·by_cases e:v=r.id
    ·rw[if_pos e] at hv;cases hv
    ·rw[if_neg e] at hv
     obtain⟨z,hz,ez⟩:=hp.dom v k hv;obtain⟨j,hj⟩:=oL.1 hz;have XS:=(kU.1 hj).1;have wj:j≠0:=λe0=>by subst e0;rw[hr] at hj;cases hj;exact e ez.symm
     by_cases hjn:j=xs.length-1
     ·subst hjn
      rw[Am] at hj;cases hj;exact⟨kO,zF yput0,ez⟩
     ·exact⟨z,zF (yput j z wj aB hj),ez⟩
   ·intro i j a b ha hb e
    rcases xo _ _ ha with⟨h1,rfl⟩|⟨h1,h1',h2⟩<;>rcases xo _ _ hb with⟨h3,rfl⟩|⟨h3,XU,h4⟩
    ·omega
    ·have:=hp.apart _ _ _ _ Am h4 e;omega
    ·have:=hp.apart _ _ _ _ h2 Am e;omega
    ·exact hp.apart _ _ _ _ h2 h4 e
   ·have M6:aW H.dF w w6.drew:=((M5.trans m6 λk _ hk=>hk)).tr (aW.drew (aW.refl _ w6))
    have d6:aM w6 w6.drew:=aW.drew (aW.refl _ w6);have s1:=(((r1.aK d4 id).aK m5 (nb1 _ bh)).aK m6 λhk=>nb1 _ hk rfl).aK d6 id;refine aA rfl (aE (k:=.i) r.id (by rw[aS,s1.cell];rfl) (aA rfl (aE (k:=.i) r.key (by rw[aS,s1.cell];rfl) ?_)));refine hQ _ ⟨H.g,H.r,⟨H.s.b,xs.length-1,H.s.c⟩⟩ ⟨hq',zs,f6,hA6.aN d6,hok6,hp6,λu=>?_⟩ rfl has' M6;rw[hm6 u,memq u]
    constructor
    ·rintro⟨hu,Ez⟩
     obtain⟨j,hj⟩:=oL.1 hu;have XS:=(kU.1 hj).1;have wj:j≠0:=λe0=>by subst e0;rw[hr] at hj;cases hj;exact Ez rfl
     by_cases hjn:j=xs.length-1
     ·subst hjn
      rw[Am] at hj;cases hj;exact zF yput0
     ·exact zF (yput j u wj aB hj)
    ·intro hu
     obtain⟨j,hj⟩:=oL.1 hu;rcases xo _ _ hj with⟨_,rfl⟩|⟨h1,_,h2⟩
     ·exact⟨zF Am,λe=>gF (by rw[e])⟩
     ·exact⟨zF h2,λe=>ne0 j u h1 h2 (by rw[e])⟩
  ·have hn1:xs.length=1:=by
    have:¬((xs.length-1:Nat):Int)>0:=PR;omega
   have hq0:q=[]:=Cc aB;have s1:=r1.aK d4 id;refine aA rfl (aE (k:=.i) r.id (by rw[aS,s1.cell];rfl) (aA rfl (aE (k:=.i) r.key (by rw[aS,s1.cell];rfl) ?_)));have t0:xs.take (xs.length-1)=[]:=by rw[hn1];rfl
   rw[t0] at hv4;refine hQ _ ⟨H.g,H.r,⟨H.s.b,xs.length-1,H.s.c⟩⟩ ⟨hq',[],_,⟨o4.aK d4 id,hv4.aK d4 (λ_ _=>id),⟨_,hm4.aK d4 id⟩,hA.gr,hA.sg,hA.sr⟩,λj _ u v hu=>by simp at hu,⟨by simp,λv k hv=>?_⟩,by rw[hq0];simp⟩ rfl has' (M4.tr d4.wk)
   replace hv:(if v=r.id then none else f v)=some k:=hv
   by_cases e:v=r.id
   ·rw[if_pos e] at hv;cases hv
   ·rw[if_neg e] at hv
    obtain⟨z,hz,ez⟩:=hp.dom v k hv;obtain⟨j,hj⟩:=oL.1 hz;have XS:=(kU.1 hj).1;have:j=0:=aB;subst this;rw[hr] at hj;cases hj;exact absurd ez.symm e
 have hAd:=hA.aN d0;obtain⟨b,hb,hh⟩:=GF (hAd.UE.rd rQ) hr;obtain⟨b',bW,Kd⟩:=GF (hAd.UE.rd rQ) Am;refine aA rfl (aE (k:=.slice) H.s hAd.c0 ⟨⟨aB,aB⟩,aA hb (bJ (yO r) hh ?_)⟩);refine aA rfl (aE (k:=.slice) H.s hAd.c0 (aA rfl (aE (k:=.slice) H.s hAd.c0 ?_)));rw[wr1,kE];refine⟨⟨aB,aB⟩,aA bW (bJ (yO kO) Kd ?_)⟩;simp only[aG];have kA:=aM.alloc w.drew (.cells #[aD 0,aD 0] 242);have oA:cW (w.drew.alloc (.cells #[aD 0,aD 0] 242)) w.drew.heap.size kY (Bx ⟨0,0⟩):=cW.iP w.drew _ _;have sA:(w.drew.alloc (.cells #[aD 0,aD 0] 242)).heap.size=w.heap.size+1:=by simp
 generalize w.drew.alloc (.cells #[aD 0,aD 0] 242)=wA at*;have kB:=aM.alloc wA (.cells #[aD 0,aD 0] 242);have oB:cW (wA.alloc (.cells #[aD 0,aD 0] 242)) wA.heap.size kY (Bx ⟨0,0⟩):=cW.iP wA _ _;generalize wA.alloc (.cells #[aD 0,aD 0] 242)=wB at*;have hA_:=hAd.aN kA;have hB_:=hA_.aN kB;have szd:w.drew.heap.size=w.heap.size:=rfl;rw[szd] at oA ⊢;have cellsOf:∀{wx:aH},UK wx H xs f->bY wx (b.add (Int.toNat (0:Int)*2)) 0 [aD r.id,aD r.key]/\bY wx (b'.add ((xs.length-1)*2)) 0 [aD kO.id,aD kO.key]/\wx.cell? ((⟨H.g,0,none⟩:Addr).add 0)=some (.slice H.s.b H.s.l H.s.c):=λ{wx} hx=>by
  obtain⟨c,hc,h1⟩:=GF (hx.UE.rd rQ) hr;obtain⟨c',Tz,h2⟩:=GF (hx.UE.rd rQ) Am;rw[hb] at hc;cases hc;rw[bW] at Tz;cases Tz;exact⟨h1,h2,hx.c0⟩
 obtain⟨a1,a2,a3⟩:=cellsOf hA_;obtain⟨b1,b2,b3⟩:=cellsOf hB_;have kAB:aM w wB:=(d0.tr kA).tr kB;have oA':=oA.aK kB id;have lA:∀k,H.dF k->¬k=w.heap.size:=λk hk e=>by have:=hA.lt hk;omega
 have lB:∀k,H.dF k->¬k=wA.heap.size:=λk hk e=>by have:=hA.lt hk;omega
 constructor
 ·refine⟨a2,a3,a3,a1,a3,b2,b3,b3,b1,b3,?_⟩
  refine wS (x:=r) oA' rfl λw9 o9 m9=>?_;obtain⟨c1,c2,c3⟩:=cellsOf (hB_.aK m9 lA);refine⟨c2,c3,c3,?_⟩;refine wS (x:=kO) (oB.aK m9 aB) rfl λeR Br YB=>?_;refine after eR _ _ ((aW.fresh kAB m9 λk e=>aB).fresh YB λk e=>aB) (iT _) aB (o9.aK YB aB) Br
 ·refine⟨a2,a3,a3,a1,a3,b2,b3,b3,b1,b3,?_⟩
  refine wS (x:=r) oB rfl λw9 o9 m9=>?_;obtain⟨c1,c2,c3⟩:=cellsOf (hB_.aK m9 lB);refine⟨c2,c3,c3,?_⟩;refine wS (x:=kO) (oA'.aK m9 aB) rfl λeR Br YB=>?_;refine after eR _ _ ((aW.fresh kAB m9 λk e=>aB).fresh YB λk e=>aB) aB (iT _) (o9.aK YB aB) Br
end
end
theorem iM{w:aH}{g:Nat}{e:TypeId}{cs:List Value}(h:cW w g e cs):bY w ⟨g,0,none⟩ 0 cs:=h.holds λj v hj=>by simpa using hj
theorem laid_i{key:bQ->Int}{s:Sl}{xs:List bQ}{a:bQ}{i:Nat}{qA:Bool}{w:aH}{Q:Sl->aH->Prop}(hs:dP w iR 4 dZ s xs)(lM:FN key xs)(qE:zB key xs (key a) i)(hf:qA=true↔∃x∈xs,key x=key a)(hb:xs.length<=512)
  (hQ:∀s' w',dP w' iR 4 dZ s' (DL key xs a)->aW (λk=>∃b,s.b=some b/\k=b.block) w w'->(s'.b=s.b\/∀b,s'.b=some b->w.heap.size<=b.block)->Q s' w'):qS s (i:Int) qA (nM a) w Q:=by
 cases qA with
 |true=>
  obtain⟨x,hx,hk⟩:=hf.1 rfl;have hi:i<xs.length:=(kU.1 (qE.qA lM hx hk)).1;exact zx hs hi λw' h1 h2=>hQ s w' (by rw[<-qE.ins_at lM hx hk];exact h1) h2 (.inl rfl)
 |false=>
  have hn:∀x∈xs,key x≠key a:=λx hx hk=>by have:=hf.2 ⟨x,hx,hk⟩;cases this
  exact kg hs qE.le aB λs' w' h1 h2 h3=>hQ s' w' (by rw[<-qE.ins_new hn];exact h1) h2 (h3.imp id λ⟨b,bW,cJ⟩ c hc=>by rw[bW] at hc;cases hc;exact cJ)
theorem Put_i{N:mO}{n:Nat}{l:List bQ}{a:bQ}{w:aH}{Q:Bool->aH->Prop}(h:kZ w N n l)
  (hQ:∀w' N',kZ w' N' n (uN n l a).1->N'.g=N.g->aW N.dF w w'->(∀k,N'.dF k->N.dF k\/w.heap.size<=k)->Q (uN n l a).2 w'):HA (some ⟨N.g,0,none⟩) (nM a) w Q:=by
 unfold HA;simp only[aG];have k1:=aM.alloc w (.cells #[aD a.f,aD a.t,aD a.w,aD a.m] 128);have oa1:cW (w.alloc (.cells #[aD a.f,aD a.t,aD a.w,aD a.m] 128)) w.heap.size 128 (dZ a):=cW.iP w _ 128;generalize Tv:w.alloc (.cells #[aD a.f,aD a.t,aD a.w,aD a.m] 128)=w1 at*;generalize YD:w.heap.size=b1 at*;have hold:∀k,N.dF k->k≠b1:=λk hk=>by have:=h.at_.lt hk;omega
 refine aF (λh=>by simp at h) (λ_=>?_);refine bJ (nM a) (iM oa1) ?_;have h1:=h.aN k1;refine may_i h1.at_.head λw2 r k2 hr=>?_;have h2:=h1.aN k2;have KF:=k1.tr k2;have oa2:=oa1.aK k2 id;refine aF (λhr0=>?_) (λhr0=>?_)
 ·have vS:¬ET n a:=λhm=>by rw[hr.2 hm] at hr0;cases hr0
  have e:uN n l a=(l,false):=by unfold uN;rw[if_neg vS]
  rw[e] at hQ;exact hQ w2 N h2 rfl KF.wk λk hk=>.inl hk
 have hm:ET n a:=hr.1 (by cases r<;>simp at hr0 ⊢);have LD:=h.sz;have hf0:=hm.1;have hf1:=hm.2.1;have ht0:=hm.2.2.1;have ht1:=hm.2.2.2.1;obtain⟨v,hv⟩:∃v:Nat,a.f=(v:Int):=⟨a.f.toNat,aB⟩;obtain⟨u,hu⟩:∃u:Nat,a.t=(u:Int):=⟨a.t.toNat,aB⟩;have hvn:v<n:=aB;have Dc:u<n:=aB;have la:∀{w':aH},cW w' b1 128 (dZ a)->w'.cell? ((⟨b1,0,none⟩:Addr).add 0)=some (aD (v:Int))/\w'.cell? ((⟨b1,0,none⟩:Addr).add 1)=some (aD (u:Int))/\w'.cell? ((⟨b1,0,none⟩:Addr).add 2)=some (aD a.w):=λho=>by
  refine⟨?_,?_,?_⟩<;>rw[aS,ho.cell]
  ·rw[<-hv];rfl
  ·rw[<-hu];rfl
  ·rfl
 have d2:aM w2 w2.drew:=aW.drew (aW.refl _ w2);have h2':=h2.aN d2;have oa2':=oa2.aK d2 id;refine aA rfl (aE (k:=.slice) ⟨some ⟨N.go,0,none⟩,n,n⟩ h2'.at_.c0 (aE (k:=.i) (v:Int) (la oa2').1 ?_));refine⟨⟨aB,by show _<(n:Int);omega⟩,aA rfl ?_⟩;obtain⟨s,hs,tO⟩:=h2'.at_.out hvn;refine aE (k:=.slice) s tO (aE (k:=.i) (u:Int) (la oa2').2.1 ?_);have nN:=h2'.at_.row v s hs;have hX:jX n l v=dY l a.f:=by rw[hv];simp[jX,hvn]
 rw[hX] at nN;have hlenO:=h.ok.uY a.f;rw[<-hu];refine byTo_i (nN.rd kI) (h.ok.rN.out a.f) aB λi qA w3 k3 qE Gd=>?_;have h3:=h2'.aN k3;have k23:=(KF.tr d2).tr k3;have oa3:=oa2'.aK k3 id;intro J hJ;have hfind:(qA=true)↔∃x∈l,x.f=a.f/\x.t=a.t:=by
  rw[Gd]
  constructor
  ·rintro⟨x,hx,hk⟩;exact⟨x,(eJ.1 hx).1,(eJ.1 hx).2,hk⟩
  ·rintro⟨x,hx,QB,DG⟩;exact⟨x,eJ.2 ⟨hx,QB⟩,DG⟩
 have hJ':uN n l a=(LO l a,true)->J () w3.drew:=by
  intro e;rw[e] at hQ;apply hJ;have d3:aM w3 w3.drew.drew:=aW.drew (aW.drew (aW.refl _ w3));have h4:=h3.aN d3;have oa4:=oa3.aK d3 id;have k4:=k23.tr d3;generalize w3.drew.drew=w4 at*;refine aA rfl (aE (k:=.slice) ⟨some ⟨N.go,0,none⟩,n,n⟩ h4.at_.c0 (aE (k:=.i) (v:Int) (la oa4).1 ?_));refine aA rfl (aE (k:=.slice) ⟨some ⟨N.go,0,none⟩,n,n⟩ h4.at_.c0 (aE (k:=.i) (v:Int) (la oa4).1 ?_));refine⟨⟨aB,by show _<(n:Int);omega⟩,aA rfl ?_⟩;obtain⟨s',QA,hcell4⟩:=h4.at_.out hvn;rw[hs] at QA;cases QA;refine aE (k:=.slice) s hcell4 (bJ (nM a) (iM oa4) ?_);have hrow4:=h4.at_.row v s hs;rw[hX] at hrow4;refine laid_i hrow4 (h.ok.rN.out a.f) qE Gd aB λs6 w5 hv6 m5 hb6=>?_;have gF:∀k,(∃b,s.b=some b/\k=b.block)->N.dF k:=λk ⟨b,hb,hk⟩=>.inr (.inr (.inr ⟨v,s,b,hs,hb,hk.symm⟩));have oa5:=oa4.aK m5 λhk=>hold _ (gF _ hk) rfl;refine⟨(la oa5).1,?_,⟨aB,by show _<(n:Int);omega⟩,aA rfl ?_⟩
  ·have:=h4.at_.head.aK m5 λ⟨b,hb,hk⟩=>(h4.at_.sep v s b hs hb).1 hk.symm
   rw[aS,this.cell];rfl
  refine h4.at_.ib hvn hs hv6 m5 hb6 λw6 h6 m6 z6=>?_;have oa6:=oa4.aK m6 λhk=>hold _ hk rfl;have hh6:∀k,({N with dV:=N.dV.set v s6}:mO).dF k->N.dF k\/w4.heap.size<=k:=λk hk=>
   mO.OD (P:=λk=>w4.heap.size<=k) hs (λa ha=>hb6.imp id λhq=>hq a ha) hk
  have d6:aM w6 w6.drew:=aW.drew (aW.refl _ w6);have h6':=h6.aN d6;have oa6':=oa6.aK d6 id;refine aA rfl (aE (k:=.slice) ⟨some ⟨N.gi,0,none⟩,n,n⟩ h6'.c1 (aE (k:=.i) (u:Int) (la oa6').2.1 ?_));refine⟨⟨aB,by show _<(n:Int);omega⟩,aA rfl ?_⟩;obtain⟨s8,hs8,hcell8⟩:=h6'.LK Dc;refine aE (k:=.slice) s8 hcell8 (aE (k:=.i) (v:Int) (la oa6').1 ?_);have hX8:(if n+u=v then DL bQ.t (dY l a.f) a else jX n l (n+u))=nJ l a.t:=by
   have:¬(n+u=v):=aB;have h2:¬(n+u<n):=aB;simp only[this,if_false,jX,h2];rw[hu];congr 1;omega
  have hrow8:=h6'.row (n+u) s8 hs8;rw[hX8] at hrow8;have hlenI:=h.ok.FA a.t;rw[<-hv];refine Xp (hrow8.rd kI) (h.ok.rN.LK a.t) aB λi8 f8 w7 k7 low8 hf8=>?_;have d7:aM w7 w7.drew:=aW.drew (aW.refl _ w7);have k7':=k7.tr d7;have h7:=h6'.aN k7';have oa7:=oa6'.aK k7' id;refine aA rfl (aE (k:=.slice) ⟨some ⟨N.gi,0,none⟩,n,n⟩ h7.c1 (aE (k:=.i) (u:Int) (la oa7).2.1 ?_));refine aA rfl (aE (k:=.slice) ⟨some ⟨N.gi,0,none⟩,n,n⟩ h7.c1 (aE (k:=.i) (u:Int) (la oa7).2.1 ?_));refine⟨⟨aB,by show _<(n:Int);omega⟩,aA rfl ?_⟩;obtain⟨s9,hs9,hcell9⟩:=h7.LK Dc;rw[hs8] at hs9;cases hs9;refine aE (k:=.slice) s8 hcell9 (bJ (nM a) (iM oa7) ?_);have qj:=h7.row (n+u) s8 hs8;rw[hX8] at qj;have hfin:qA=true↔∃x∈nJ l a.t,x.f=a.f:=by
   rw[hfind]
   constructor
   ·rintro⟨x,hx,QB,DG⟩;exact⟨x,iB.2 ⟨hx,DG⟩,QB⟩
   ·rintro⟨x,hx,hk⟩;exact⟨x,(iB.1 hx).1,hk,(iB.1 hx).2⟩
  refine laid_i qj (h.ok.rN.LK a.t) low8 hfin aB λPY w8 hv12 m8 hb12=>?_;have hne8:∀k,(∃b,s8.b=some b/\k=b.block)->({N with dV:=N.dV.set v s6}:mO).dF k:=λk ⟨b,hb,hk⟩=>.inr (.inr (.inr ⟨n+u,s8,b,hs8,hb,hk.symm⟩));have hb1w:b1<w4.heap.size:=oa4.lt;have hb1n:¬({N with dV:=N.dV.set v s6}:mO).dF b1:=λhk=>by
   rcases hh6 b1 hk with h'|h'
   ·exact hold _ h' rfl
   ·omega
  have oa8:=oa7.aK m8 λhk=>hb1n (hne8 _ hk);refine⟨(la oa8).2.1,?_,⟨aB,by show _<(n:Int);omega⟩,aA rfl ?_⟩
  ·have:=h7.head.aK m8 λ⟨b,hb,hk⟩=>(h7.sep (n+u) s8 b hs8 hb).1 hk.symm
   rw[aS,this.cell];rfl
  refine h7.putIn Dc hs8 hv12 m8 hb12 λw9 h9 m9 z9=>?_;have m46:aW N.dF w w6:=k4.wk.tr m6;have s67:w4.heap.size<=w7.drew.heap.size:=iF m6.size (iF d6.size k7'.size);have m69:aW N.dF w w9:=((m46.tr d6.wk).tr k7'.wk).trans m9 λk hk lD=>by
   rcases hh6 k lD with h'|h'
   ·exact h'
   ·omega
  refine hQ w9 {N with dV:=(N.dV.set v s6).set (n+u) PY} ⟨?_,h.ok.KT hm,h.sz⟩ rfl m69 λk hk=>?_
  ·have Qh:(λj=>if j=n+u then DL bQ.f (nJ l a.t) a else(λj=>if j=v then DL bQ.t (dY l a.f) a else jX n l j) j)=jX n (LO l a):=by
    funext j
    by_cases hj1:j=n+u
    ·subst hj1
     have h2:¬(n+u<n):=aB;simp only[if_true,jX,h2,if_false];rw[th h.ok.rN,if_pos aB];congr 2;omega
    ·simp only[hj1,if_false]
     by_cases hj2:j=v
     ·subst hj2
      simp only[if_true,jX,hvn];rw[Wx h.ok.rN,if_pos aB,hv]
     ·simp only[hj2,if_false,jX]
      split
      ·rw[Wx h.ok.rN,if_neg aB]
      ·rw[th h.ok.rN,if_neg aB]
   rw[<-Qh];exact h9
  ·rcases mO.OD (N:={N with dV:=N.dV.set v s6}) (P:=λk=>w7.drew.heap.size<=k) hs8 (λa ha=>hb12.imp id λhq=>hq a ha) hk with h'|h'
   ·rcases hh6 k h' with h''|h''
    ·exact .inl h''
    ·exact .inr aB
   ·exact .inr aB
 have d3:aM w3 w3.drew:=aW.drew (aW.refl _ w3);have XU:=h3.aN d3;have oa3':=oa3.aK d3 id;refine aF (λhfd=>?_) (λhfd=>?_)
 ·obtain⟨x,hx,bj⟩:=Gd.1 hfd
  have hxi:=qE.qA (h.ok.rN.out a.f) hx bj;have hi:i<(dY l a.f).length:=(kU.1 hxi).1;have Ac:=eJ.1 hx;have qp:jJ l a.f a.t=some x:=by rw[<-Ac.2,<-bj];exact xV h.ok.rN Ac.1
  refine aA rfl (aE (k:=.slice) ⟨some ⟨N.go,0,none⟩,n,n⟩ XU.at_.c0 (aE (k:=.i) (v:Int) (la oa3').1 ?_));refine⟨⟨aB,by show _<(n:Int);omega⟩,aA rfl ?_⟩;obtain⟨s',QA,hcell3⟩:=XU.at_.out hvn;rw[hs] at QA;cases QA;refine aE (k:=.slice) s hcell3 ?_;have Vz:=XU.at_.row v s hs;rw[hX] at Vz;have hl3:=Vz.len;refine⟨⟨aB,aB⟩,?_⟩;obtain⟨b,hb,hh⟩:=(Vz.rd kI).get i x hxi;refine aA hb (aE (k:=.i) x.w ?_ (aE (k:=.i) a.w (la oa3').2.2 ?_))
  ·exact(oG.1 hh) 2 _ rfl
  refine aJ (λIL=>?_) (λIL=>?_)
  ·have e:uN n l a=(l,false):=by unfold uN;rw[if_pos hm,qp];simp only[IL,if_true]
   rw[e] at hQ;exact hQ _ N XU rfl (k23.tr d3).wk λk hk=>.inl hk
  ·exact hJ' (by unfold uN;rw[if_pos hm,qp];simp only[IL,if_false])
 ·have qp:jJ l a.f a.t=none:=by
   cases QC:jJ l a.f a.t with
   |none=>rfl
   |some x=>
    obtain⟨h1,h2,h3⟩:=qQ QC;rw[hfind.2 ⟨x,h1,h2,h3⟩] at hfd;cases hfd
  exact hJ' (by unfold uN;rw[if_pos hm,qp])
theorem QP{N:mO}{n:Nat}{l:List bQ}{w:aH}{Q:Int->aH->Prop}(h:kZ w N n l)(hQ:Q (n:Int) w):mR (some ⟨N.g,0,none⟩) w Q:=by
 unfold mR;refine aF (λh=>by simp at h) (λ_=>?_);exact aA rfl (aE (k:=.slice) ⟨some ⟨N.go,0,none⟩,n,n⟩ h.at_.c0 hQ)
theorem has_i{N:mO}{n:Nat}{l:List bQ}{v:Int}{w:aH}{Q:Bool->aH->Prop}(h:kZ w N n l)(hQ:∀r:Bool,(r=true↔0<=v/\v<n)->Q r w):xY (some ⟨N.g,0,none⟩) v w Q:=by
 unfold xY;refine aJ (λh1=>QP h (hQ _ (by simp;omega))) (λh1=>hQ _ (by simp;omega))
theorem Wj{N:mO}{n:Nat}{l:List bQ}{v:Int}{w:aH}{Q:Sl->aH->Prop}(h:kZ w N n l)(hQ:∀s' w',dP w' iR 4 dZ s' (dY l v)->aM w w'->(∀b,s'.b=some b->w.heap.size<=b.block)->Q s' w'):
  xZ (some ⟨N.g,0,none⟩) v w Q:=by
 unfold xZ;have LD:=h.sz;refine has_i h λr hr=>aF (λh1=>?_) (λh1=>?_)
 ·have hn:dY l v=[]:=by
   apply List.filter_eq_nil_iff.2;intro x hx hxv;have:=h.ok.vQ x hx;have e:x.f=v:=by simpa using hxv
   have:r=true:=hr.2 ⟨by rw[<-e];exact this.1,by rw[<-e];exact this.2.1⟩;rw[this] at h1;cases h1
  exact hQ _ w (by rw[hn];exact dP.nil _ _ _ _) (aW.refl _ _) (λb hb=>by cases hb)
 ·have hv:=hr.1 (by cases r<;>simp at h1 ⊢)
  obtain⟨u,rfl⟩:∃u:Nat,v=(u:Int):=⟨v.toNat,aB⟩;have hu:u<n:=aB;refine aA rfl (aE (k:=.slice) ⟨some ⟨N.go,0,none⟩,n,n⟩ h.at_.c0 ?_);refine⟨⟨aB,by show _<(n:Int);omega⟩,aA rfl ?_⟩;obtain⟨s,hs,tO⟩:=h.at_.out hu;refine aE (k:=.slice) s tO ?_;have nN:=h.at_.row u s hs;have hX:jX n l u=dY l (u:Int):=by simp[jX,hu]
  rw[hX] at nN;have:=h.ok.uY (u:Int);exact Sf (nN.rd kI) aB hQ
theorem In_i{N:mO}{n:Nat}{l:List bQ}{v:Int}{w:aH}{Q:Sl->aH->Prop}(h:kZ w N n l)(hQ:∀s' w',dP w' iR 4 dZ s' (nJ l v)->aM w w'->(∀b,s'.b=some b->w.heap.size<=b.block)->Q s' w'):
  zJ (some ⟨N.g,0,none⟩) v w Q:=by
 unfold zJ;have LD:=h.sz;refine has_i h λr hr=>aF (λh1=>?_) (λh1=>?_)
 ·have hn:nJ l v=[]:=by
   apply List.filter_eq_nil_iff.2;intro x hx hxv;have:=h.ok.vQ x hx;have e:x.t=v:=by simpa using hxv
   have:r=true:=hr.2 ⟨by rw[<-e];exact this.2.2.1,by rw[<-e];exact this.2.2.2.1⟩;rw[this] at h1;cases h1
  exact hQ _ w (by rw[hn];exact dP.nil _ _ _ _) (aW.refl _ _) (λb hb=>by cases hb)
 ·have hv:=hr.1 (by cases r<;>simp at h1 ⊢)
  obtain⟨u,rfl⟩:∃u:Nat,v=(u:Int):=⟨v.toNat,aB⟩;have hu:u<n:=aB;refine aA rfl (aE (k:=.slice) ⟨some ⟨N.gi,0,none⟩,n,n⟩ h.at_.c1 ?_);refine⟨⟨aB,by show _<(n:Int);omega⟩,aA rfl ?_⟩;obtain⟨s,hs,tO⟩:=h.at_.LK hu;refine aE (k:=.slice) s tO ?_;have nN:=h.at_.row (n+u) s hs;have hX:jX n l (n+u)=nJ l (u:Int):=by
   have:¬(n+u<n):=aB;simp only[jX,this,if_false];congr 1;omega
  rw[hX] at nN;have:=h.ok.FA (u:Int);exact Sf (nN.rd kI) aB hQ
theorem CJ{w:aH}{g:Nat}{cs:List Value}{x:bQ}{K:aH->Prop}(h:cW w g iR cs)(hl:cs.length=4)(hK:∀w',cW w' g iR (dZ x)->aW (λk=>k=g) w w'->K w'):
  aI prog iR ⟨g,0,none⟩ (Fe x) w K:=by
 refine BX h BZ (by simp[Value.cells,hl]) (by simp[Value.cells,Value.oneCell']) λw' ho hm _=>hK w' ?_ hm;have:cs.take 0++(Fe x).cells.toList++cs.drop (0+(Fe x).cells.size)=dZ x:=by
  simp[Value.cells,List.drop_of_length_le (show cs.length<=4 by omega)]
 rwa[this] at ho
theorem All_i{N:mO}{n:Nat}{l:List bQ}{w:aH}{Q:Sl->aH->Prop}(h:kZ w N n l)(hl:l.length<1099511627776)(hQ:∀s' w',dP w' iR 4 dZ s' l->aM w w'->(∀b,s'.b=some b->w.heap.size<=b.block)->Q s' w'):
  WO (some ⟨N.g,0,none⟩) w Q:=by
 unfold WO;have LD:=h.sz;refine QP h ?_;have flen:∀i,i<=n->((List.range i).flatMap λv:Nat=>dY l (v:Int)).length<=l.length:=by
  intro i hi;have e:=ZE h.ok;obtain⟨d,rfl⟩:∃d,n=i+d:=⟨n-i,aB⟩;rw[List.range_add,IS] at e;rw[<-congrArg List.length e];simp
 refine bO (λm t w'=>∃(i:Nat) (s:Sl),i<=n/\m=n-i/\t=(s,(i:Int),())/\aM w w'/\dP w' iR 4 dZ s ((List.range i).flatMap λv:Nat=>dY l (v:Int))/\(∀b,s.b=some b->w.heap.size<=b.block)) n
  ⟨0,bD,iG _,rfl,rfl,aW.refl _ _,dP.nil _ _ _ _,λb hb=>by cases hb⟩ ?_
 rintro m t w' ⟨i,s,hi,rfl,rfl,hk,hv,hb⟩ X hX;dsimp only;have h':=h.aN hk;refine aJ (λcJ=>?_) (λkT=>?_)
 ·have IM:i<n:=aB
  refine aA rfl (aE (k:=.slice) ⟨some ⟨N.go,0,none⟩,n,n⟩ h'.at_.c0 ?_);refine⟨⟨aB,by show _<(n:Int);omega⟩,aA rfl ?_⟩;obtain⟨r,hr,tO⟩:=h'.at_.out IM;refine aE (k:=.slice) r tO ?_;have nN:=h'.at_.row i r hr;have hXr:jX n l i=dY l (i:Int):=by simp[jX,IM]
  rw[hXr] at nN;have KY:=flen (i+1) IM;rw[List.range_succ,IS,mJ] at KY;simp only[EV,List.flatMap_nil,tB] at KY;refine fN kK kI Es hv (nN.rd kI) aB aB λr2 w2 hv2 wg RN _=>?_;rw[gM aB aB];refine hX (n-(i+1)) _ _ aB ⟨i+1,r2,IM,rfl,rfl,aW.fresh hk wg (λk ⟨a,ha,hk⟩=>by rw[hk];exact hb a ha),?_,λb bW=>?_⟩
  ·rw[List.range_succ,IS];simpa using hv2
  ·rcases RN with e|⟨b',e,cJ⟩
   ·exact hb b (by rw[<-e];exact bW)
   ·rw[e] at bW;cases bW;have:=hk.size;omega
 ·have IM:i=n:=aB
  subst IM;rw[ZE h.ok] at hv;exact hQ s w' hv hk hb
theorem DS{q:List It}(h:q.Nodup)(h1:By q){n:Nat}(hb:∀x∈q,0<=x.id/\x.id<n):q.length<=n:=by
 have:(q.map (·.id)).Nodup:=List.pairwise_map.2 (List.Pairwise.imp_of_mem (λ{x y} hx hy hn e=>hn (h1 x hx y hy e)) h);have:=wJ this λv hv=>by obtain⟨x,hx,rfl⟩:=lK.1 hv;exact hb x hx
 simpa using this
theorem QU{N:mO}{n:Nat}{l:List bQ}{v:Int}{w:aH}{Q:Bool->aH->Prop}(h:kZ w N n l)(hQ:∀r:Bool,(r=true↔0<=v/\v<n)->Q r w):sH (some ⟨N.g,0,none⟩) v w Q:=by
 unfold sH;refine aJ (λh0=>?_) (λh0=>hQ false (by simp;omega));exact QP h (hQ _ (by simp;omega))
theorem seek_i{N:mO}{n:Nat}{L:List bQ}{a c:Int}{done:Value}{W:aH}{Q:aH->Prop}(hN:kZ W N n L)(ha:0<=a)(pH:a<n){D:Nat->Prop}{C:Nat->aH->Prop}{stop:Nat->Bool}
  (hD:∀k,D k->k<W.heap.size) (hND:∀k,N.dF k->¬D k) (h0:C 0 W)
  (bz:∀k w1 w2,C k w1->aW (λb=>W.heap.size<=b) w1 w2->C k w2)
  (hcall:∀(k:Nat) (x:It) w1 (K:WQ Value),C k w1->(eE n L c a)[k]? =some x->(∀w2,C (k+1) w2->aW D w1 w2->K (.bool (stop k)) w2)->lI prog done [aD x.id,aD x.key] w1 K)
  (hQ:∀m w',C m w'->aW D W w'->m<=(eE n L c a).length->(∀j,j+1<m->stop j=false)->((m=(eE n L c a).length/\∀j,j<m->stop j=false)\/∃j,m=j+1/\stop j=true)->Q w'):vG (some ⟨N.g,0,none⟩) a c done W Q:=by
 unfold vG;have hL:=hN.ok;have hn:=hN.sz;simp only[aG];have k1:=aM.alloc W (.cells #[Value.slice none 0 0,Value.map none] 202);have o1:cW (W.alloc (.cells #[Value.slice none 0 0,Value.map none] 202)) W.heap.size oq [sv bD,.map none]:=cW.iP W _ _;have s1:(W.alloc (.cells #[Value.slice none 0 0,Value.map none] 202)).heap.size=W.heap.size+1:=by simp
 generalize W.alloc (.cells #[Value.slice none 0 0,Value.map none] 202)=w1 at*;generalize hB:W.heap.size=B at*;have hH1:rE w1 ⟨B,B,bD⟩ []:=.inr ⟨rfl,rfl,rfl,o1⟩;refine qM (ek:=CR) (kn:=.c .bool) λhm k2=>?_;have s2:(w1.alloc (.map #[] 0)).heap.size=w1.heap.size+1:=by simp
 have hH2:=hH1.aN k2;generalize w1.alloc (.map #[] 0)=w2 at*;have rB:B<=w1.heap.size:=aB;have rH:∀k,HS.dF ⟨B,B,bD⟩ k->k=B:=by
  rintro k (h|h|⟨a,ha,_⟩)
  ·exact h
  ·exact h
  ·cases ha
 generalize hr:w1.heap.size=r at*;have newD:∀{F:Nat->Prop} {wa wb:aH},aW D W wa->aW F wa wb->(∀k,F k->B<=k)->aW D W wb:=λma mb hF=>ma.trans mb λk hk DG=>absurd (hF k DG) aB;have M2:aW D W w2:=(k1.wk).tr k2.wk;have C2:C 0 w2:=bz 0 _ _ h0 ((k1.wk).tr k2.wk);refine YW hH2 dK λw3 H3 h3 g3 m3 f3=>?_;have hp0:(nK [] a 0).1=[⟨a,0⟩]:=rfl;rw[hp0] at h3;have m3B:∀k,HS.dF ⟨B,B,bD⟩ k->B<=k:=λk hk=>by rw[rH k hk];exact iT _
 have M3:=newD M2 m3 m3B;have C3:=bz 0 _ _ C2 (m3.mono λk _ hk=>m3B k hk);have hm3:=hm.aK m3 λhk=>by have:=rH r hk;omega
 have wo:H3.g=B:=g3;have fB:∀k,H3.dF k->B<=k/\k≠r:=λk hk=>(f3 k hk).elim (λh=>by rw[rH k h];exact⟨iT _,aB⟩) λh=>⟨aB,aB⟩;refine bO (λYE t w4=>∃(k:Nat) (H:HS) (nm:Nat),YE=n+1-k/\k<=n/\(jU L c a k).2.length=k/\oD w4 H (jU L c a k).1/\H.g=B/\(∀b,H.dF b->B<=b/\b≠r)/\
   jP w4 r CR (.c .bool) (λv=>if wF (jU L c a k).2 v then some true else none) nm/\C k w4/\aW D W w4/\(∀j,j<k->stop j=false)) (n+1)
  ⟨0,H3,0,rfl,iG _,rfl,h3,wo,fB,hm3.congr (λv=>rfl) rfl,C3,M3,λj hj=>aB⟩ ?_
 rintro YE t w4 ⟨k,H,nm,rfl,hkn,hkl,h4,hg4,fB4,hm4,C4,M4,EP⟩ X hX;have US:=wZ hL c ha pH k;have FX:=run_eq hL c ha pH k;have qg:=run_eq hL c ha pH (k+1);have Vy:jU L c a (k+1)=GD L c (jU L c a k):=rfl;rw[<-hg4];refine qu (.inl h4) ?_;cases hq:(jU L c a k).1 with
 |nil=>
  refine aJ (λh=>by simp at h) (λ_=>?_);have fU:(eE n L c a).length=k:=by
   have h1:=ND hL c ha pH;rcases Nat.lt_or_ge k (eE n L c a).length with cJ|kT
   ·have e1:(jU L c a (k+1)).2=(jU L c a k).2:=by
     rw[Vy];unfold GD;rw[hq]
    rw[e1,FX] at qg;have:=congrArg List.length qg;simp only[pV] at this;omega
   ·have:=congrArg List.length FX
    simp only[pV] at this;omega
  exact hQ k w4 C4 M4 aB (λj hj=>EP j aB) (.inl ⟨fU.symm,EP⟩)
 |cons x q=>
  refine aJ (λ_=>?_) (λh=>absurd (by simp only[nQ];omega) h);rw[hq] at h4 US;have hxb:=US.gH x dK;have qk:q.length<=n:=by
   have:=DS (lZ h4.rN) h4.one (n:=n) λy hy=>(US.gH y (by simp[hy])).2.2;simp at this;omega
  have hkq:k<n:=by have:=US.len_q;omega
  have hst1:(jU L c a (k+1))=(pY c ((jU L c a k).2++[x]) x.key q (dY L x.id),(jU L c a k).2++[x]):=by
   rw[Vy];unfold GD;rw[hq]
  have bj:(eE n L c a)[k]? =some x:=by
   rw[hst1] at qg;have:((eE n L c a).take (k+1))[k]? =some x:=by
    rw[<-qg,Ew aB,hkl];simp
   rwa[UP (Nat.lt_succ_self k)] at this
  refine Pop_i h4 aB λw6 H6 h6 g6 f6 m6=>?_;have m6B:∀b,H.dF b->B<=b:=λb hb=>(fB4 b hb).1;have M6:=newD M4 m6 m6B;have C6:=bz k _ _ C4 (m6.mono λb _ hb=>m6B b hb);have hm6:=hm4.aK m6 λhb=>(fB4 r hb).2 rfl;have fB6:∀b,H6.dF b->B<=b/\b≠r:=λb hb=>fB4 b ((f6 b).1 hb);refine VX (kn:=.c .bool) WX kP hm6 x.id true λw7 hm7 m7 _=>?_;have h7:=h6.aK m7 λb hb e=>(fB6 b hb).2 e;have M7:=newD M6 m7 λb e=>by rw[show b=r from e];exact rB
  have C7:=bz k _ _ C6 (m7.mono λb _ e=>by rw[show b=r from e];exact rB);have hm7':jP w7 r CR (.c .bool) (λv=>if wF ((jU L c a k).2++[x]) v then some true else none) _:=hm7.congr (λv=>by
   show(if wF ((jU L c a k).2++[x]) v then some true else none)=if v=x.id then some true else if wF (jU L c a k).2 v then some true else none
   unfold wF;rw[List.any_append]
   by_cases e:v=x.id
   ·subst e;simp
   ·have:¬x.id=v:=λe'=>e e'.symm
    simp[e,this]) rfl
  refine hcall k x w7 _ C7 bj λw8 C8 m8=>⟨stop k,rfl,?_⟩;have M8:aW D W w8:=M7.tr m8;have hDB:∀b,D b->b<B:=hD;have h8:=h7.aK m8 λb hb hd=>by have:=(fB6 b hb).1;have:=hDB b hd;omega
  have hm8:=hm7'.aK m8 λhd=>by have:=hDB r hd;omega
  cases hsk:stop k with
  |true=>
   refine aF (λ_=>?_) (λh=>by simp at h);have:=(kU.1 bj).1;exact hQ (k+1) w8 C8 M8 aB (λj hj=>EP j aB) (.inr ⟨k,rfl,hsk⟩)
  |false=>
   refine aF (λh=>by simp at h) (λ_=>?_);refine Wj (hN.aK M8 hND) λs9 w9 v9 k9 f9=>?_;have M9:aW D W w9:=M8.tr k9.wk;have C9:=bz _ _ _ C8 k9.wk;have h9:=h8.aK k9 λ_ _=>id;have hm9:=hm8.aK k9 id;have hw8:B<=w8.heap.size:=hB▸M8.size;have sl9:=v9.len;have fr9:∀b,s9.b=some b->¬H6.dF b.block/\b.block≠r/\b.block<w9.heap.size/\B<=b.block:=λb hb=>by
    have h1:=f9 b hb;exact⟨λh=>by have:=h8.lt h;omega,λe=>by have:=hm8.lt;omega,v9.lt hb,aB⟩
   have hol:=hL.uY x.id;refine bO (λYE t eR=>∃(i:Nat) (H':HS),i<=(dY L x.id).length/\YE=(dY L x.id).length-i/\t=((i:Int),())/\oD eR H' (pY c ((jU L c a k).2++[x]) x.key q ((dY L x.id).take i))/\H'.g=B/\(∀b,H'.dF b->B<=b/\b≠r)/\
     (∀b,s9.b=some b->¬H'.dF b.block)/\(∃nm',jP eR r CR (.c .bool) (λv=>if wF ((jU L c a k).2++[x]) v then some true else none) nm')/\C (k+1) eR/\aW D W eR/\dP eR iR 4 dZ s9 (dY L x.id)) (dY L x.id).length
    ⟨0,H6,iG _,rfl,rfl,by simpa [pY] using h9,g6.trans hg4,fB6,λb hb=>(fr9 b hb).1,⟨_,hm9⟩,C9,M9,v9⟩ ?_
   rintro YE t eR ⟨i,H',hi,rfl,rfl,IN,g10,fB10,fs10,⟨nm',hm10⟩,C10,M10,v10⟩ Y hY;dsimp only;refine aJ (λcJ=>?_) (λkT=>?_)
   ·have dI:i<(dY L x.id).length:=aB
    refine⟨⟨aB,aB⟩,?_⟩;obtain⟨p,hp,hh⟩:=wG (v10.rd kI) (gS dI);have fP:=nC dI;have tk:=Yo c ((jU L c a k).2++[x]) x.key q ((dY L x.id).take i) ((dY L x.id)[i]);rw[<-FO dI] at tk;generalize (dY L x.id)[i]=e at*;obtain⟨heL,hef⟩:=eJ.1 fP;obtain⟨_,_,et0,et1,_,ew0,ew1,_⟩:=hL.vQ e heL;refine aA hp (bJ (nM e) hh ?_);simp only[aG];have kA:=aM.alloc eR (.cells #[aD 0,aD 0,aD 0,aD 0] 128);have oA:cW (eR.alloc (.cells #[aD 0,aD 0,aD 0,aD 0] 128)) eR.heap.size 128 (dZ ⟨0,0,0,0⟩):=cW.iP eR _ _;generalize eR.alloc (.cells #[aD 0,aD 0,aD 0,aD 0] 128)=wA at*;refine CJ (x:=e) oA rfl λeQ Cz Ab=>?_;have KF:aM eR eQ:=aW.fresh kA Ab λb hb=>aB;have Bv:=IN.aK KF λ_ _=>id;have yd:=hm10.aK KF id;have C12:=bz _ _ _ C10 KF.wk;have M12:aW D W eQ:=M10.tr KF.wk;have XZ:=v10.aK KF λ_ _=>id;have c1:eQ.cell? ((⟨eR.heap.size,0,none⟩:Addr).add 1)=some (aD e.t):=by rw[aS,Cz.cell];rfl
    have c2:eQ.cell? ((⟨eR.heap.size,0,none⟩:Addr).add 2)=some (aD e.w):=by rw[aS,Cz.cell];rfl
    have wi:aQ ((i:Int)+1)=((i+1:Nat):Int):=by rw[gM aB aB];rfl
    have skip:(e.t=c\/wF ((jU L c a k).2++[x]) e.t=true)->Y (aQ ((i:Int)+1),()) eQ:=λhc=>by
     rw[wi];exact hY _ _ _ aB ⟨i+1,H',dI,rfl,rfl,by rw[tk,if_pos hc];exact Bv,g10,fB10,fs10,⟨_,yd⟩,C12,M12,XZ⟩
    refine aE (k:=.i) e.t c1 ?_;refine aF (λgF=>?_) (λheq=>skip (.inl (by simpa using heq)));have Ez:e.t≠c:=by simpa using gF
    refine aE (k:=.i) e.t c1 ?_;refine wK (kn:=.c .bool) WX kP (z:=false) Ng yd e.t ?_;cases IM:wF ((jU L c a k).2++[x]) e.t with
    |true=>
     exact aF (λh=>by cases h) (λ_=>skip (.inr IM))
    |false=>
     refine aF (λ_=>?_) (λh=>by cases h);refine aE (k:=.i) e.t c1 (aE (k:=.i) e.w c2 ?_);have tD:x.key<=512*1099511627776:=by
      omega
     rw[gM (n:=x.key+e.w) aB aB];have hpl:(pY c ((jU L c a k).2++[x]) x.key q ((dY L x.id).take i)).length<=n:=by
      refine DS (lZ IN.rN) IN.one λy hy=>?_;have hq1:=List.pairwise_cons.1 US.rN;have jW:By q:=λu hu v hv=>US.one u (by simp[hu]) v (by simp[hv]);rcases(OL (c:=c) (s:=(jU L c a k).2++[x]) (d:=x.key) (l:=(dY L x.id).take i) hq1.2 jW).2.2.1 y hy with da|⟨e',vT,_,_,rfl⟩
      ·exact(US.gH y (by simp[da])).2.2
      ·have:=hL.vQ e' (eJ.1 (List.mem_of_mem_take vT)).1
       exact⟨this.2.2.1,this.2.2.2.1⟩
     rw[hg4,<-g10];refine YW (.inl Bv) aB λmC H14 h14 g14 YA f14=>?_;have m14B:∀b,H'.dF b->B<=b:=λb hb=>(fB10 b hb).1;have hr12:=yd.lt;rw[wi];refine hY _ _ _ aB ⟨i+1,H14,dI,rfl,rfl,?_,by rw[g14,g10],λb hb=>?_,λb hb h=>?_,⟨_,yd.aK YA λh=>(fB10 r h).2 rfl⟩,bz _ _ _ C12 (YA.mono λb _ hb=>m14B b hb),newD M12 YA m14B,XZ.aK YA λb hb h=>fs10 b hb h⟩
     ·rw[tk,if_neg (λh=>h.elim Ez λh=>by rw[IM] at h;cases h)]
      exact h14
     ·rcases f14 b hb with h|h
      ·exact fB10 b h
      ·exact⟨aB,aB⟩
     ·rcases f14 _ h with h|h
      ·exact fs10 b hb h
      ·have:=XZ.lt hb;omega
   ·have e:i=(dY L x.id).length:=aB
    subst e;rw[oY] at IN;refine hX (n+1-(k+1)) _ _ aB ⟨k+1,H',_,rfl,aB,by rw[hst1];simp[hkl],by rw[hst1];exact IN,g10,fB10,by rw[hst1];exact hm10,C10,M10,λj hj=>?_⟩;rcases Nat.lt_or_ge j k with h|h
    ·exact EP j h
    ·have:j=k:=aB
     rw[this];exact hsk
theorem gX{w:aH}{g:Nat}{e:TypeId}{v:Value}(h:cW w g e [v]):w.cell? ⟨g,0,none⟩=some v:=by rw[h.cell];rfl
theorem aAy{b1 b2 b3 b4:Nat}{v d to eO st:Int}{fd:Bool}{w:aH}{K:Bool->aH->Prop}(o1:cW w b1 cY [aD to])(o2:cW w b2 cY [aD eO])(o3:cW w b3 cY [aD st])(o4:cW w b4 xP [.bool fd])
  (h1:b1≠b3) (h2:b2≠b3) (h3:b3≠b4) (h4:b1≠b4) (h5:b2≠b4) (EP:-1000000<st/\st<2000000)
  (hK:∀w',cW w' b1 cY [aD to]->cW w' b2 cY [aD eO]->cW w' b3 cY [aD (st-1)]->cW w' b4 xP [.bool (decide (v=to) && decide (d<=eO))]->aW (λb=>b=b3\/b=b4) w w'->K (decide (v=to) ||decide (st-1=0)) w'):
  mV v d (some ⟨b3,0,none⟩) (some ⟨b1,0,none⟩) (some ⟨b2,0,none⟩) (some ⟨b4,0,none⟩) w K:=by
 unfold mV;refine aA rfl (aE (k:=.i) st (gX o3) (aA rfl ?_));rw[gM aB aB];refine cI o3 cU dK rfl rfl λw1 p3 m1 _=>?_;have p1:=o1.aK m1 h1;have p2:=o2.aK m1 h2;have p4:=o4.aK m1 (Ne.symm h3);have p3':cW w1 b3 cY [aD (st-1)]:=p3;refine aA rfl (aE (k:=.i) to (gX p1) ?_);refine aF (λhe=>?_) (λhe=>?_)
 ·have vT:v=to:=by simpa using he
  refine aA rfl (aE (k:=.i) eO (gX p2) (aA rfl ?_));refine cI p4 gV dK rfl rfl λw2 q4 m2 _=>?_;refine aA rfl (aE (k:=.i) to (gX (p1.aK m2 h4)) ?_);refine aF (λ_=>?_) (λh=>by rw[he] at h;cases h);have:=hK w2 (p1.aK m2 h4) (p2.aK m2 h5) (p3'.aK m2 h3) (by simpa [vT] using q4) ((m1.mono λb _ h=>.inl h).tr (m2.mono λb _ h=>.inr h));simpa [vT] using this
 ·have vT:v≠to:=by simpa using he
  refine aA rfl ?_;refine cI p4 gV dK rfl rfl λw2 q4 m2 _=>?_;refine aA rfl (aE (k:=.i) to (gX (p1.aK m2 h4)) ?_);refine aF (λh=>by rw[he] at h;cases h) (λ_=>?_);refine aA rfl (aE (k:=.i) (st-1) (gX (p3'.aK m2 h3)) ?_);have:=hK w2 (p1.aK m2 h4) (p2.aK m2 h5) (p3'.aK m2 h3) (by simpa [vT] using q4) ((m1.mono λb _ h=>.inl h).tr (m2.mono λb _ h=>.inr h));have e:(decide (v=to) ||decide (st-1=0))=((st-1:Int)==(0:Int)):=by rw[Bool.eq_iff_iff];simp[vT]
  rw[e] at this;exact this
theorem Find_i{N:mO}{n:Nat}{L:List bQ}{a to c eO fI:Int}{w:aH}{Q:Bool->aH->Prop}(h:kZ w N n L)(hs:fI<1000000)(hQ:∀w',aM w w'->Q (PO n L a to c eO fI) w'):
  vH (some ⟨N.g,0,none⟩) a to c eO fI w Q:=by
 unfold vH;simp only[aG];have k1:=aM.alloc w (.cells #[aD to] 3);have o1:cW (w.alloc (.cells #[aD to] 3)) w.heap.size cY [aD to]:=cW.iP w _ _;have z1:(w.alloc (.cells #[aD to] 3)).heap.size=w.heap.size+1:=by simp
 generalize w.alloc (.cells #[aD to] 3)=w1 at*;have k2:=aM.alloc w1 (.cells #[aD eO] 3);have o2:cW (w1.alloc (.cells #[aD eO] 3)) w1.heap.size cY [aD eO]:=cW.iP w1 _ _;have z2:(w1.alloc (.cells #[aD eO] 3)).heap.size=w1.heap.size+1:=by simp
 generalize w1.alloc (.cells #[aD eO] 3)=w2 at*;have k3:=aM.alloc w2 (.cells #[aD fI] 3);have o3:cW (w2.alloc (.cells #[aD fI] 3)) w2.heap.size cY [aD fI]:=cW.iP w2 _ _;have z3:(w2.alloc (.cells #[aD fI] 3)).heap.size=w2.heap.size+1:=by simp
 generalize w2.alloc (.cells #[aD fI] 3)=w3 at*;have k4:=aM.alloc w3 (.cells #[Value.bool false] 4);have o4:cW (w3.alloc (.cells #[Value.bool false] 4)) w3.heap.size xP [.bool false]:=cW.iP w3 _ _;have z4:(w3.alloc (.cells #[Value.bool false] 4)).heap.size=w3.heap.size+1:=by simp
 generalize w3.alloc (.cells #[Value.bool false] 4)=w4 at*;have p3:=o3.aK k4 id;have p2:=(o2.aK k3 id).aK k4 id;have p1:=((o1.aK k2 id).aK k3 id).aK k4 id;have K4:aM w w4:=((k1.tr k2).tr k3).tr k4;have h4:=h.aN K4;generalize YD:w.heap.size=b1 at*;generalize RN:w1.heap.size=b2 at*;generalize Ky:w2.heap.size=b3 at*;generalize hb4:w3.heap.size=b4 at*;have no:∀{w':aH},aM w w'->cW w' b4 xP [.bool false]->PO n L a to c eO fI=false->aI prog xP ⟨b4,0,none⟩ (.bool false) w' λCw=>xJ .bool Cw ⟨b4,0,none⟩ λb=>Q b Cw:=λ{w'} k o hf=>by
  refine cI o gV dK rfl rfl λCw o'' m'' _=>?_;refine aE (k:=.bool) false (gX o'') ?_;rw[<-hf];exact hQ Cw (k.fresh m'' λb e=>by rw[show b=b4 from e];omega)
 refine QU h4 λr1 hr1=>?_;refine aF (λhb=>no K4 o4 ?_) (λhb=>?_)
 ·unfold PO
  have:¬(0<=a/\a<n):=λh=>by rw[hr1.2 h] at hb;cases hb
  simp only[this,decide_false,Bool.false_and]
 have ha:=hr1.1 (by cases r1<;>simp at hb ⊢);refine aE (k:=.i) to (gX p1) ?_;refine QU h4 λr2 Pn=>?_;refine aF (λhb=>no K4 o4 ?_) (λhb=>?_)
 ·unfold PO
  have:¬(0<=to/\to<n):=λh=>by rw[Pn.2 h] at hb;cases hb
  simp only[this,decide_false,Bool.false_and,Bool.and_false]
 have ht:=Pn.1 (by cases r2<;>simp at hb ⊢);refine aF (λhe=>no K4 o4 ?_) (λgF=>?_)
 ·have:a=c:=by simpa using he
  unfold PO;simp[this]
 have hac:a≠c:=by simpa using gF
 refine aE (k:=.i) fI (gX p3) ?_;have e0:PO n L a to c eO fI=yg (eE n L c a) to eO fI:=by
  unfold PO;rw[decide_eq_true ha,decide_eq_true ht,decide_eq_true hac];rfl
 refine aJ (λcJ=>no K4 o4 ?_) (λkT=>?_)
 ·rw[e0]
  unfold yg;rw[show fI.toNat=0 by omega];rfl
 have hnl:=h4.sz;have IK:=ND h4.ok c ha.1 ha.2;refine seek_i h4 ha.1 ha.2 (D:=λb=>b=b3\/b=b4)
  (C:=λk w'=>k<=n/\cW w' b1 cY [aD to]/\cW w' b2 cY [aD eO]/\cW w' b3 cY [aD (fI-k)]/\cW w' b4 xP [.bool (Ra (eE n L c a) to eO k)])
  (stop:=VB (eE n L c a) to fI) (λb hb=>aB) (λb hb hd=>by have:=h.at_.lt hb;omega) ⟨iG _,p1,p2,by simpa using p3,o4⟩
  (λk wa wb ⟨hk,q1,q2,q3,q4⟩ m=>⟨hk,q1.aK m aB,q2.aK m aB,q3.aK m aB,q4.aK m aB⟩) ?_ ?_
 ·intro k x wa K ⟨hk,q1,q2,q3,q4⟩ hx hK
  have hkl:=(kU.1 hx).1;refine pA XM iA (first:=#[]) (gI (ks:=[.i,.i,.c .ptr,.c .ptr,.c .ptr,.c .ptr]) (t:=(x.id,x.key,some ⟨b3,0,none⟩,some ⟨b1,0,none⟩,some ⟨b2,0,none⟩,some ⟨b4,0,none⟩,())) ?_)
  show mV x.id x.key (some ⟨b3,0,none⟩) (some ⟨b1,0,none⟩) (some ⟨b2,0,none⟩) (some ⟨b4,0,none⟩) wa λr w'=>K (.bool r) w';refine aAy q1 q2 q3 q4 aB aB aB aB aB ⟨aB,aB⟩ λwb r1 r2 r3 r4 m=>?_;have e1:(decide (x.id=to) ||decide (fI-(k:Int)-1=0))=VB (eE n L c a) to fI k:=by
   unfold VB;rw[hx];have:decide (fI-(k:Int)-1=0)=decide (fI=(k:Int)+1):=by
    apply decide_eq_decide.2;omega
   simp only[this]
  rw[e1];refine hK wb ⟨aB,r1,r2,?_,?_⟩ m
  ·have:fI-(k:Int)-1=fI-((k+1:Nat):Int):=aB
   rw[<-this];exact r3
  ·have:Ra (eE n L c a) to eO (k+1)=(decide (x.id=to) && decide (x.key<=eO)):=by rw[NI,hx]
   rw[this];exact r4
 ·intro m eC ⟨hk,q1,q2,q3,q4⟩ Jv hml EP hend
  have Gd:=aAe (eO:=eO) (Yn h4.ok c ha.1 ha.2) (Lt h4.ok c ha.1 ha.2) aB hml EP hend;rw[Gd] at q4;refine aE (k:=.bool) _ (gX q4) ?_;refine cI q4 gV dK rfl rfl λeQ Cz Ab _=>?_;refine aE (k:=.bool) _ (gX Cz) ?_;rw[<-e0];exact hQ eQ ((K4.fresh Jv λb hb=>aB).fresh Ab λb e=>by rw[show b=b4 from e];omega)
abbrev eSl(s:Sl):List Value:=[sv s]
theorem Ih{w:aH}{e:TypeId}{g n:Nat}{xs:List Sl}(h:dP w e 1 eSl ⟨some ⟨g,0,none⟩,n,n⟩ xs):cW w g e (xs.map sv):=by
 rcases h.gN with⟨h0,_⟩|⟨g',dE,hb,ho,hl⟩
 ·cases h0
 ·have:g'=g:=by cases hb;rfl
  subst this;have fU:=h.len;have hf:xs.flatMap eSl=xs.map sv:=by
   clear ho hl hb h fU
   induction xs with
   |nil=>rfl
   |cons x r ih=>simp[EV,ih]
  have hr:dE=[]:=by
   rw[mJ,hf,oK] at hl;apply Cc;have:n=xs.length:=fU;simp only at hl;omega
  rw[hr,tB,hf] at ho;exact ho
theorem init_i{w:aH}{n go gi:Nat}(hn:n<=512)(h1:cW w go DJ ((List.replicate n (bD:Sl)).map sv))(h2:cW w gi DJ ((List.replicate n (bD:Sl)).map sv))(gF:go≠gi):
  kZ (w.alloc (.cells #[sv ⟨some ⟨go,0,none⟩,n,n⟩,sv ⟨some ⟨gi,0,none⟩,n,n⟩] tNet)) ⟨w.heap.size,go,gi,List.replicate (n+n) bD⟩ n []:=by
 have k:=aM.alloc w (.cells #[sv ⟨some ⟨go,0,none⟩,n,n⟩,sv ⟨some ⟨gi,0,none⟩,n,n⟩] tNet);have l1:=h1.lt;have l2:=h2.lt;have nil:∀(i:Nat) (s:Sl),(List.replicate (n+n) (bD:Sl))[i]? =some s->s=bD:=λi s hs=>by
  rw[Et] at hs
  split at hs
  ·exact(uO hs).symm
  ·cases hs
 refine⟨⟨cW.iP w _ _,?_,?_,by simp,?_,?_,?_,?_⟩,rP.nil n,hn⟩
 ·have:(List.replicate (n+n) (bD:Sl)).take n=List.replicate n bD:=by simp
  rw[this];exact h1.aK k id
 ·have:(List.replicate (n+n) (bD:Sl)).drop n=List.replicate n bD:=by simp
  rw[this];exact h2.aK k id
 ·intro i s hs
  rw[nil i s hs];have:jX n [] i=[]:=by simp[jX,dY,nJ]
  rw[this];exact dP.nil _ _ _ _
 ·intro i s a hs ha;rw[nil i s hs] at ha;cases ha
 ·intro i j s u a b hs _ ha _ _;rw[nil i s hs] at ha;cases ha
 ·exact⟨λe:w.heap.size=go=>aB,λe:w.heap.size=gi=>aB,gF⟩
theorem New_i{n:Int}{s:Sl}{xs:List bQ}{w:aH}{Q:cL->Int->aH->Prop}(hr:Rd w s 4 dZ xs)(fU:xs.length<1099511627776)
  (RX:∀w',aM w w'->¬(0<=n/\n<=512/\∀a∈xs,ET n.toNat a)->Q none 1 w')
  (kH:∀w' N,0<=n->n<=512->(∀a∈xs,ET n.toNat a)->kZ w' N n.toNat (gP n.toNat [] xs)->aM w w'->(∀k,N.dF k->w.heap.size<=k)->Q (some ⟨N.g,0,none⟩) 0 w'):HN n s w Q:=by
 unfold HN;have hl:=hr.len;refine aJ (λh=>RX w (aW.refl _ _) aB) (λh0=>?_);refine aJ (λh=>RX w (aW.refl _ _) aB) (λh1=>?_);obtain⟨m,rfl⟩:∃m:Nat,n=(m:Int):=⟨n.toNat,aB⟩;have hm:m<=512:=aB;simp only[kE] at RX kH;intro J hJ;have main:∀w1 N,kZ w1 N m []->aM w w1->(∀k,N.dF k->w.heap.size<=k)->J (some ⟨N.g,0,none⟩,()) w1:=by
  intro w1 N hN hk hfr;apply hJ;refine bO (λc t w2=>∃(i:Nat) (N2:mO),i<=xs.length/\c=xs.length-i/\t=((i:Int),())/\kZ w2 N2 m (gP m [] (xs.take i))/\N2.g=N.g/\aM w w2/\(∀k,N2.dF k->w.heap.size<=k)/\(∀a∈xs.take i,ET m a)) xs.length
   ⟨0,N,iG _,rfl,rfl,by simpa [gP] using hN,rfl,hk,hfr,by simp⟩ ?_
  rintro c t w2 ⟨i,N2,hi,rfl,rfl,hN2,hg,DG,hfr2,uF⟩ X hX;dsimp only;refine aJ (λcJ=>?_) (λkT=>?_)
  ·have dI:i<xs.length:=aB
   refine⟨⟨aB,aB⟩,?_⟩;obtain⟨a,ha,hh⟩:=wG (hr.aK DG VQ (λ_ _=>id)) (gS dI);refine aA ha (bJ (nM xs[i]) hh ?_);simp only[aG];have k3:=aM.alloc w2 (.cells #[aD 0,aD 0,aD 0,aD 0] 128);have o3:cW (w2.alloc (.cells #[aD 0,aD 0,aD 0,aD 0] 128)) w2.heap.size 128 (dZ ⟨0,0,0,0⟩):=cW.iP w2 _ 128;generalize w2.alloc (.cells #[aD 0,aD 0,aD 0,aD 0] 128)=w3 at*;refine CJ o3 rfl λw4 o4 m4=>?_;have k4:aM w2 w4:=aW.fresh k3 m4 λk hk=>aB;have hN4:=hN2.aN k4;refine bJ (nM xs[i]) (iM o4) ?_;rw[<-hg];refine may_i hN4.at_.head λw5 r k5 hrm=>?_;have hN5:=hN4.aN k5;have o5:=o4.aK k5 id;have k25:=k4.tr k5;refine aF (λhb=>?_) (λhb=>?_)
   ·refine RX w5 (DG.tr k25) λ⟨_,_,oM⟩=>?_
    rw[hrm.2 (oM _ (nC dI))] at hb;cases hb
   ·have hma:ET m xs[i]:=hrm.1 (by cases r<;>simp at hb ⊢)
    refine bJ (nM xs[i]) (iM o5) ?_;refine Put_i hN5 λw6 N6 hN6 hg6 m6 hf6=>?_;rw[gM aB aB];refine hX (xs.length-(i+1)) _ _ aB ⟨i+1,N6,dI,rfl,rfl,?_,by rw[hg6,hg],aW.fresh (DG.tr k25) m6 hfr2,λk hk=>?_,?_⟩
    ·rw[FO dI,NF];exact hN6
    ·rcases hf6 k hk with h|h
     ·exact hfr2 k h
     ·have:=DG.size;have:=k25.size;omega
    ·rw[FO dI]
     intro x hx;rcases jK.1 hx with hx|hx
     ·exact uF x hx
     ·simp at hx;subst hx;exact hma
  ·have dI:i=xs.length:=aB
   subst dI;rw[oY] at hN2 uF;rw[<-hg];exact kH w2 N2 aB aB uF hN2 DG hfr2
 have kd:aM w w.drew:=aW.drew (aW.refl _ w);have both:∀{K:aH->Sl->Sl->Prop},(∀w8 g1 g2,cW w8 g1 DJ ((List.replicate m (bD:Sl)).map sv)->cW w8 g2 DJ ((List.replicate m (bD:Sl)).map sv)->g1≠g2->aM w w8->w.heap.size<=g1->w.heap.size<=g2->K w8 ⟨some ⟨g1,0,none⟩,m,m⟩ ⟨some ⟨g2,0,none⟩,m,m⟩)->
   fM prog tssArc (aD (m:Int)) (aD (m:Int)) w.drew λs1 w7=>fM prog tssArc (aD (m:Int)) (aD (m:Int)) w7 λs2 w8=>K w8 s1 s2:=by
  intro K hK;refine BQ Ip (aY:=eSl) bD rfl (λ_=>rfl) aB (oX _) aB aB λw7 hv7 k7=>?_;refine BQ Ip (aY:=eSl) bD rfl (λ_=>rfl) aB (oX _) aB aB λw8 hv8 k8=>?_;have hv7':=hv7.aK k8 (λ_ _=>id);have cJ:w.drew.heap.size<w7.heap.size:=hv7.lt rfl;exact hK w8 _ _ (Ih hv7') (Ih hv8) aB ((kd.tr k7).tr k8) (iT _) (iF kd.size k7.size)
 have fr:∀(w8:aH) (g1 g2:Nat),w.heap.size<=g1->w.heap.size<=g2->aM w w8->∀k,(⟨w8.heap.size,g1,g2,List.replicate (m+m) bD⟩:mO).dF k->w.heap.size<=k:=by
  intro w8 g1 g2 h1 h2 hk k hh;rcases hh with h|h|h|⟨i,s,a,hs,ha,_⟩
  ·rw[h];exact hk.size
  ·rw[h];exact h1
  ·rw[h];exact h2
  ·rw[Et] at hs
   split at hs
   ·cases hs;cases ha
   ·cases hs
 refine⟨both λw8 g1 g2 h1 h2 gF hk hg1 Ad=>?_,both λw8 g1 g2 h1 h2 gF hk hg1 Ad=>?_⟩
 ·exact main _ ⟨w8.heap.size,g1,g2,List.replicate (m+m) bD⟩ (init_i hm h1 h2 gF) (aW.alloc hk _) (fr w8 g1 g2 hg1 Ad hk)
 ·exact main _ ⟨w8.heap.size,g2,g1,List.replicate (m+m) bD⟩ (init_i hm h2 h1 (Ne.symm gF)) (aW.alloc hk _) (fr w8 g2 g1 Ad hg1 hk)
theorem Copy_i{N:mO}{n:Nat}{l:List bQ}{w:aH}{Q:cL->aH->Prop}(h:kZ w N n l)(hl:l.length<1099511627776)
  (hQ:∀w' N',kZ w' N' n l->aM w w'->(∀k,N'.dF k->w.heap.size<=k)->Q (some ⟨N'.g,0,none⟩) w'):HO (some ⟨N.g,0,none⟩) w Q:=by
 unfold HO;have LD:=h.sz;refine aF (λh=>by simp at h) (λ_=>?_);refine QP h (All_i h hl λs w' hv hk hb=>?_);refine New_i (hv.rd kI) hl (λw2 k2 vS=>?_) (λw2 N2 _ _ _ hN2 k2 hfr=>?_)
 ·exact absurd ⟨aB,aB,λa ha=>by simpa using h.ok.vQ a ha⟩ vS
 ·simp only[kE] at hN2
  have e:gP n [] l=l:=NG (p:=[]) h.ok;rw[e] at hN2;exact hQ w2 N2 hN2 (hk.tr k2) λk lD=>iF hk.size (hfr k lD)
section
section
variable{N:mO}{n:Nat}{X:Nat->List bQ}{v:Int}{w:aH}
theorem has_at{Q:Bool->aH->Prop}(h:lW w N n X)(hn:n<=512)(hQ:∀r:Bool,(r=true↔0<=v/\v<n)->Q r w):xY (some ⟨N.g,0,none⟩) v w Q:=by
 unfold xY;refine aJ (λh1=>?_) (λh1=>hQ _ (by simp;omega));unfold mR;refine aF (λh=>by simp at h) (λ_=>?_);exact aA rfl (aE (k:=.slice) ⟨some ⟨N.go,0,none⟩,n,n⟩ h.c0 (hQ _ (by simp;omega)))
theorem In_at{Q:Sl->aH->Prop}(h:lW w N n X)(hn:n<=512)(hX:∀j,(X j).length<=512)(hQ:∀s' w',dP w' iR 4 dZ s' (if 0<=v/\v<n then X (n+v.toNat) else [])->aM w w'->(∀b,s'.b=some b->w.heap.size<=b.block)->Q s' w'):
  zJ (some ⟨N.g,0,none⟩) v w Q:=by
 unfold zJ;refine has_at h hn λr hr=>aF (λh1=>?_) (λh1=>?_)
 ·have:¬(0<=v/\v<n):=λhv=>by rw[hr.2 hv] at h1;cases h1
  rw[if_neg this] at hQ;exact hQ _ w (dP.nil _ _ _ _) (aW.refl _ _) (λb hb=>by cases hb)
 ·have hv:=hr.1 (by cases r<;>simp at h1 ⊢)
  rw[if_pos hv] at hQ;obtain⟨u,rfl⟩:∃u:Nat,v=(u:Int):=⟨v.toNat,aB⟩;refine aA rfl (aE (k:=.slice) ⟨some ⟨N.gi,0,none⟩,n,n⟩ h.c1 ?_);refine⟨⟨aB,by show _<(n:Int);omega⟩,aA rfl ?_⟩;obtain⟨s,hs,tO⟩:=h.LK (show u<n by omega);refine aE (k:=.slice) s tO ?_;have:=hX (n+u);exact Sf ((h.row (n+u) s hs).rd kI) aB λs' w' h1 h2 h3=>hQ s' w' h1 h2 h3
end
theorem NR{l R:List bQ}{x:bQ}:x∈l.filter (λy=>decide (y∉R))↔x∈l/\x∉R:=by simp
def AZ(n:Nat)(l RO RI:List bQ)(j:Nat):List bQ:=if j<n then(dY l (j:Int)).filter (λy=>decide (y∉RI)) else(nJ l ((j:Int)-n)).filter (λy=>decide (y∉RO))
theorem cutX_len{n:Nat}{l RO RI:List bQ}(h:rP n l)(hn:n<=512)(j:Nat):(AZ n l RO RI j).length<=512:=by
 unfold AZ
 split
 ·have:=vU (λy=>decide (y∉RI)) (dY l (j:Int));have:=h.uY (j:Int);omega
 ·have:=vU (λy=>decide (y∉RO)) (nJ l ((j:Int)-n));have:=h.FA ((j:Int)-n);omega
theorem arc_eq{l:List bQ}(h:BD l){x y:bQ}(hx:x∈l)(hy:y∈l)(hf:x.f=y.f)(ht:x.t=y.t):x=y:=by
 have h1:=xV h hx;have h2:=xV h hy;rw[hf,ht,h2] at h1;exact(uO h1).symm
theorem Bf{key:bQ->Int}{row R:List bQ}{a:bQ}(hs:FN key row)(h1:∀x∈row,x∉R->key x=key a->x=a):
  (row.filter λy=>decide (y∉R)).filter (λy=>decide (key y≠key a))=row.filter λy=>decide (y∉R++[a]):=by
 refine((hs.filter _).filter _).ext (hs.filter _) λx=>?_;simp only[jE,decide_eq_true_eq,jK,uE,not_or]
 constructor
 ·rintro⟨⟨hx,hn⟩,hk⟩
  exact⟨hx,hn,λe=>hk (by rw[e])⟩
 ·rintro⟨hx,hn,gF⟩
  exact⟨⟨hx,hn⟩,λhk=>gF (h1 x hx hn hk)⟩
theorem Cut_i{N:mO}{n:Nat}{l:List bQ}{v:Int}{w:aH}{Q:aH->Prop}(h:kZ w N n l)
  (hQ:∀w' N',kZ w' N' n (CV l v)->N'.g=N.g->aW N.dF w w'->(∀k,N'.dF k->N.dF k\/w.heap.size<=k)->Q w'):WN (some ⟨N.g,0,none⟩) v w Q:=by
 unfold WN;have LD:=h.sz;have kH:=h.ok;refine Wj h λs1 w1 db k1 YD=>?_;have h1:=h.aN k1;have r1:=db.rd kI;have hX0:jX n l=AZ n l [] []:=by
  funext j
  unfold jX AZ
  split<;>exact(List.filter_eq_self.2 dK).symm
 have at1:lW w1 N n (AZ n l [] []):=by rw[<-hX0];exact h1.at_
 refine bO (λm t w2=>∃(i:Nat) (N2:mO),i<=(dY l v).length/\m=(dY l v).length-i/\t=((i:Int),())/\lW w2 N2 n (AZ n l ((dY l v).take i) [])/\N2.g=N.g/\Rd w2 s1 4 dZ (dY l v)/\aW N.dF w w2/\(∀k,N2.dF k->N.dF k\/w1.heap.size<=k)/\w1.heap.size<=w2.heap.size) (dY l v).length
  ⟨0,N,iG _,rfl,rfl,by simpa using at1,rfl,r1,k1.wk,λk hk=>.inl hk,iT _⟩ ?_
 rintro m t w2 ⟨i,N2,hi,rfl,rfl,at2,Ad,r2,m2,hf2,z2⟩ X hX;dsimp only;have Kc:=db.len;have hlenO:=kH.uY v;have Kt:∀b,s1.b=some b->dY l v≠[]->w.heap.size<=b.block/\b.block<w1.heap.size:=λb hb _=>⟨YD b hb,db.lt hb⟩;refine aJ (λcJ=>?_) (λkT=>?_)
 ·have dI:i<(dY l v).length:=aB
  refine⟨⟨aB,aB⟩,?_⟩;obtain⟨a0,nk,hh⟩:=wG r2 (gS dI);generalize hxa:(dY l v)[i]=a at hh;have hga:(dY l v)[i]? =some a:=by rw[<-hxa];exact gS dI
  have fP:a∈dY l v:=zF hga;obtain⟨hal,haf⟩:=eJ.1 fP;have hma:=kH.vQ a hal;refine aA nk (bJ (nM a) hh ?_);simp only[aG];have k3:=aM.alloc w2 (.cells #[aD 0,aD 0,aD 0,aD 0] 128);have o3:cW (w2.alloc (.cells #[aD 0,aD 0,aD 0,aD 0] 128)) w2.heap.size 128 (dZ ⟨0,0,0,0⟩):=cW.iP w2 _ 128;generalize w2.alloc (.cells #[aD 0,aD 0,aD 0,aD 0] 128)=w3 at*;refine CJ o3 rfl λw4 o4 m4=>?_;have k4:aM w2 w4:=aW.fresh k3 m4 λk hk=>aB;generalize RN:w2.heap.size=b2 at*;have hb2N:¬N2.dF b2:=λhk=>by have:=at2.lt hk;omega
  obtain⟨u,hu⟩:∃u:Nat,a.t=(u:Int):=⟨a.t.toNat,by have:=hma.2.2.1;omega⟩;have Dc:u<n:=by have:=hma.2.2.2.1;omega
  have d4:aM w4 w4.drew:=aW.drew (aW.refl _ w4);have la:∀{w':aH},cW w' b2 128 (dZ a)->w'.cell? ((⟨b2,0,none⟩:Addr).add 1)=some (aD (u:Int)):=λho=>by
   rw[aS,ho.cell,<-hu];rfl
  have at4:=(at2.aN k4).aN d4;have o4':=o4.aK d4 id;rw[<-Ad];refine aA rfl (aE (k:=.slice) ⟨some ⟨N2.gi,0,none⟩,n,n⟩ at4.c1 (aE (k:=.i) (u:Int) (la o4') ?_));refine⟨⟨aB,by show _<(n:Int);omega⟩,aA rfl ?_⟩;obtain⟨s3,Bu,hc3⟩:=at4.LK Dc;refine aE (k:=.slice) s3 hc3 ?_;have nN:=at4.row (n+u) s3 Bu;have hXe:∀R,AZ n l R [] (n+u)=(nJ l a.t).filter (λy=>decide (y∉R)):=λR=>by
   have:¬(n+u<n):=aB;simp only[AZ,this,if_false,hu];congr 2;omega
  rw[hXe] at nN;have lM:FN bQ.f ((nJ l a.t).filter (λy=>decide (y∉(dY l v).take i))):=(kH.rN.LK a.t).filter _;have fU:=vU (λy=>decide (y∉(dY l v).take i)) (nJ l a.t);have xR:=kH.FA a.t;have fj:a∉(dY l v).take i:=by
   intro IM;obtain⟨p,hp⟩:=oL.1 IM;have hpi:p<i:=by have:=(kU.1 hp).1;simp at this;omega
   rw[UP hpi] at hp;have:=(kH.rN.out v).get hpi hp hga;omega
  have IM:a∈(nJ l a.t).filter (λy=>decide (y∉(dY l v).take i)):=by
   rw[NR];exact⟨iB.2 ⟨hal,rfl⟩,fj⟩
  refine Xp (nN.rd kI) lM aB λj fnd w5 k5 qE _=>?_;have d5:aM w5 w5.drew:=aW.drew (aW.refl _ w5);have k45:=(d4.tr k5).tr d5;have dq:=(at2.aN k4).aN k45;have o5:=o4.aK k45 id;refine aA rfl (aE (k:=.slice) ⟨some ⟨N2.gi,0,none⟩,n,n⟩ dq.c1 (aE (k:=.i) (u:Int) (la o5) ?_));refine aA rfl (aE (k:=.slice) ⟨some ⟨N2.gi,0,none⟩,n,n⟩ dq.c1 (aE (k:=.i) (u:Int) (la o5) ?_));refine⟨⟨aB,by show _<(n:Int);omega⟩,aA rfl ?_⟩;obtain⟨s6,Pm,hc6⟩:=dq.LK Dc;rw[Bu] at Pm;cases Pm;refine aE (k:=.slice) s3 hc6 ?_;have QJ:=dq.row (n+u) s3 Bu;rw[hXe] at QJ;have hj:j<((nJ l a.t).filter (λy=>decide (y∉(dY l v).take i))).length:=(kU.1 (qE.qA lM IM haf)).1;rw[gM (n:=(j:Int)+1) aB aB];refine Xv QJ hj aB λs7 w6 hv7 m6 hb7=>?_;have gF:∀k,(∃b,s3.b=some b/\k=b.block)->N2.dF k:=λk ⟨b,hb,hk⟩=>.inr (.inr (.inr ⟨n+u,s3,b,Bu,hb,hk.symm⟩));have o6:=o5.aK m6 λhk=>hb2N (gF _ hk);refine⟨la o6,?_,⟨aB,by show _<(n:Int);omega⟩,aA rfl ?_⟩
  ·have:=dq.head.aK m6 λ⟨b,hb,hk⟩=>(dq.sep (n+u) s3 b Bu hb).1 hk.symm
   rw[aS,this.cell];rfl
  refine dq.putIn Dc Bu hv7 m6 (.inl hb7) λw7 at7 m7 z7=>?_;rw[gM (n:=(i:Int)+1) aB aB];have Qh:(λj'=>if j'=n+u then((nJ l a.t).filter (λy=>decide (y∉(dY l v).take i))).take j++((nJ l a.t).filter (λy=>decide (y∉(dY l v).take i))).drop (j+1) else AZ n l ((dY l v).take i) [] j')=AZ n l ((dY l v).take (i+1)) []:=by
   funext j'
   rw[List.take_add_one,hga,Option.toList_some]
   split
   ·rename_i he
    subst he;rw[hXe,qE.Un lM IM haf,<-haf];refine Bf (kH.rN.LK a.t) λx hx _ hk=>?_;obtain⟨Db,vz⟩:=iB.1 hx;exact arc_eq kH.rN Db hal hk vz
   ·rename_i he
    unfold AZ
    split
    ·rfl
    ·refine List.filter_congr λx hx=>?_
     have:x≠a:=by
      rintro rfl;have:=(iB.1 hx).2;omega
     simp[this]
  rw[Qh] at at7;have m27:aW N2.dF w2 w7:=(k4.wk.tr k45.wk).tr m7;refine hX ((dY l v).length-(i+1)) _ _ aB ⟨i+1,_,dI,rfl,rfl,at7,Ad,?_,m2.trans m27 (λk hk DG=>?_),λk hk=>?_,by have:=m27.size;omega⟩
  ·refine r2.aK m27 VQ λb hb hk=>?_
   have bW:=Kt b hb (by intro e;rw[e] at dI;simp at dI);rcases hf2 _ hk with h'|h'
   ·have:=h.at_.lt h';omega
   ·omega
  ·rcases hf2 k DG with h'|h'
   ·exact h'
   ·have:=k1.size;omega
  ·rcases mO.OD (N:=N2) (P:=λ_=>False) Bu (λa _=>.inl hb7) hk with h'|h'
   ·exact hf2 k h'
   ·exact h'.elim
 ·have dI:i=(dY l v).length:=aB
  subst dI;rw[oY] at at2;generalize hO:dY l v=O at*;have hmemO:∀x,x∈O↔x∈l/\x.f=v:=λx=>by rw[<-hO];exact eJ
  rw[<-Ad];refine In_at at2 LD (cutX_len kH LD) λs8 w8 hv8 k8 hfr8=>?_;have hI:(if 0<=v/\v<n then AZ n l O [] (n+v.toNat) else [])=nJ l v:=by
   split
   ·rename_i hv
    have:¬(n+v.toNat<n):=aB;simp only[AZ,this,if_false];rw[show((n+v.toNat:Nat):Int)-(n:Int)=v by omega];refine List.filter_eq_self.2 λx hx=>?_;obtain⟨Db,vz⟩:=iB.1 hx;have hmx:=(kH.vQ x Db).2.2.2.2.1;simp only[decide_eq_true_eq,hmemO];rintro⟨_,hf⟩;omega
   ·rename_i hv
    symm
    refine List.filter_eq_nil_iff.2 λx hx hxv=>?_;have e:x.t=v:=by simpa using hxv
    have:=kH.vQ x hx;exact hv ⟨by rw[<-e];exact this.2.2.1,by rw[<-e];exact this.2.2.2.1⟩
  rw[hI] at hv8;have at8:=at2.aN k8;have r8:=hv8.rd kI;have m8:aW N.dF w w8:=m2.trans k8 λ_ _ h=>h.elim;have hl8:=hv8.len;have hlenI:=kH.FA v;refine bO (λm t w9=>∃(i:Nat) (N3:mO),i<=(nJ l v).length/\m=(nJ l v).length-i/\t=((i:Int),())/\lW w9 N3 n (AZ n l O ((nJ l v).take i))/\N3.g=N.g/\Rd w9 s8 4 dZ (nJ l v)/\aW N.dF w w9/\(∀k,N3.dF k->N.dF k\/w1.heap.size<=k)/\w8.heap.size<=w9.heap.size/\(∀k,N3.dF k->N2.dF k)) (nJ l v).length
   ⟨0,N2,iG _,rfl,rfl,by simpa using at8,Ad,r8,m8,hf2,iT _,λk hk=>hk⟩ ?_
  rintro m t w9 ⟨i,N3,hi,rfl,rfl,at9,wo,r9,m9,hf3,z9,hn3⟩ Y hY;dsimp only;refine aJ (λcJ=>?_) (λkT=>?_)
  ·have dI:i<(nJ l v).length:=aB
   refine⟨⟨aB,aB⟩,?_⟩;obtain⟨a0,nk,hh⟩:=wG r9 (gS dI);generalize hxa:(nJ l v)[i]=a at hh;have hga:(nJ l v)[i]? =some a:=by rw[<-hxa];exact gS dI
   have fP:a∈nJ l v:=zF hga;obtain⟨hal,Ua⟩:=iB.1 fP;have hma:=kH.vQ a hal;refine aA nk (bJ (nM a) hh ?_);simp only[aG];have k3:=aM.alloc w9 (.cells #[aD 0,aD 0,aD 0,aD 0] 128);have o3:cW (w9.alloc (.cells #[aD 0,aD 0,aD 0,aD 0] 128)) w9.heap.size 128 (dZ ⟨0,0,0,0⟩):=cW.iP w9 _ 128;generalize w9.alloc (.cells #[aD 0,aD 0,aD 0,aD 0] 128)=w3 at*;refine CJ o3 rfl λw4 o4 m4=>?_;have k4:aM w9 w4:=aW.fresh k3 m4 λk hk=>aB;generalize RN:w9.heap.size=b2 at*;have hb2N:¬N3.dF b2:=λhk=>by have:=at9.lt hk;omega
   obtain⟨u,hu⟩:∃u:Nat,a.f=(u:Int):=⟨a.f.toNat,by have:=hma.1;omega⟩;have Dc:u<n:=by have:=hma.2.1;omega
   have d4:aM w4 w4.drew:=aW.drew (aW.refl _ w4);have la:∀{w':aH},cW w' b2 128 (dZ a)->w'.cell? ((⟨b2,0,none⟩:Addr).add 0)=some (aD (u:Int)):=λho=>by
    rw[aS,ho.cell,<-hu];rfl
   have at4:=(at9.aN k4).aN d4;have o4':=o4.aK d4 id;rw[Ad,<-wo];refine aA rfl (aE (k:=.slice) ⟨some ⟨N3.go,0,none⟩,n,n⟩ at4.c0 (aE (k:=.i) (u:Int) (la o4') ?_));refine⟨⟨aB,by show _<(n:Int);omega⟩,aA rfl ?_⟩;obtain⟨s3,Bu,hc3⟩:=at4.out Dc;refine aE (k:=.slice) s3 hc3 ?_;have nN:=at4.row u s3 Bu;have hXe:∀R,AZ n l O R u=(dY l a.f).filter (λy=>decide (y∉R)):=λR=>by
    simp only[AZ,Dc,if_true,hu]
   rw[hXe] at nN;have lM:FN bQ.t ((dY l a.f).filter (λy=>decide (y∉(nJ l v).take i))):=(kH.rN.out a.f).filter _;have fU:=vU (λy=>decide (y∉(nJ l v).take i)) (dY l a.f);have xR:=kH.uY a.f;have fj:a∉(nJ l v).take i:=by
    intro IM;obtain⟨p,hp⟩:=oL.1 IM;have hpi:p<i:=by have:=(kU.1 hp).1;simp at this;omega
    rw[UP hpi] at hp;have:=(kH.rN.LK v).get hpi hp hga;omega
   have IM:a∈(dY l a.f).filter (λy=>decide (y∉(nJ l v).take i)):=by
    rw[NR];exact⟨eJ.2 ⟨hal,rfl⟩,fj⟩
   refine byTo_i (nN.rd kI) lM aB λj fnd w5 k5 qE _=>?_;have d5:aM w5 w5.drew:=aW.drew (aW.refl _ w5);have k45:=(d4.tr k5).tr d5;have dq:=(at9.aN k4).aN k45;have o5:=o4.aK k45 id;refine aA rfl (aE (k:=.slice) ⟨some ⟨N3.go,0,none⟩,n,n⟩ dq.c0 (aE (k:=.i) (u:Int) (la o5) ?_));refine aA rfl (aE (k:=.slice) ⟨some ⟨N3.go,0,none⟩,n,n⟩ dq.c0 (aE (k:=.i) (u:Int) (la o5) ?_));refine⟨⟨aB,by show _<(n:Int);omega⟩,aA rfl ?_⟩;obtain⟨s6,Pm,hc6⟩:=dq.out Dc;rw[Bu] at Pm;cases Pm;refine aE (k:=.slice) s3 hc6 ?_;have QJ:=dq.row u s3 Bu;rw[hXe] at QJ;have hj:j<((dY l a.f).filter (λy=>decide (y∉(nJ l v).take i))).length:=(kU.1 (qE.qA lM IM Ua)).1;rw[gM (n:=(j:Int)+1) aB aB];refine Xv QJ hj aB λs7 w6 hv7 m6 hb7=>?_;have gF:∀k,(∃b,s3.b=some b/\k=b.block)->N3.dF k:=λk ⟨b,hb,hk⟩=>.inr (.inr (.inr ⟨u,s3,b,Bu,hb,hk.symm⟩));have o6:=o5.aK m6 λhk=>hb2N (gF _ hk);refine⟨la o6,?_,⟨aB,by show _<(n:Int);omega⟩,aA rfl ?_⟩
   ·have:=dq.head.aK m6 λ⟨b,hb,hk⟩=>(dq.sep u s3 b Bu hb).1 hk.symm
    rw[aS,this.cell];rfl
   refine dq.ib Dc Bu hv7 m6 (.inl hb7) λw7 at7 m7 z7=>?_;rw[gM (n:=(i:Int)+1) aB aB];have Qh:(λj'=>if j'=u then((dY l a.f).filter (λy=>decide (y∉(nJ l v).take i))).take j++((dY l a.f).filter (λy=>decide (y∉(nJ l v).take i))).drop (j+1) else AZ n l O ((nJ l v).take i) j')=AZ n l O ((nJ l v).take (i+1)):=by
    funext j'
    rw[List.take_add_one,hga,Option.toList_some]
    split
    ·rename_i he
     subst he;rw[hXe,qE.Un lM IM Ua,<-Ua];refine Bf (kH.rN.out a.f) λx hx _ hk=>?_;obtain⟨Db,vz⟩:=eJ.1 hx;exact arc_eq kH.rN Db hal vz hk
    ·rename_i he
     unfold AZ
     split
     ·refine List.filter_congr λx hx=>?_
      have:x≠a:=by
       rintro rfl;have:=(eJ.1 hx).2;omega
      simp[this]
     ·rfl
   rw[Qh] at at7;have m97:aW N3.dF w9 w7:=(k4.wk.tr k45.wk).tr m7;have FX:∀k,({N3 with dV:=N3.dV.set u s7}:mO).dF k->N3.dF k:=λk hk=>by
    rcases mO.OD (N:=N3) (P:=λ_=>False) Bu (λa _=>.inl hb7) hk with h'|h'
    ·exact h'
    ·exact h'.elim
   refine hY ((nJ l v).length-(i+1)) _ _ aB ⟨i+1,_,dI,rfl,rfl,at7,wo,?_,m9.trans m97 (λk hk DG=>?_),λk hk=>hf3 k (FX k hk),by have:=m97.size;omega,λk hk=>hn3 k (FX k hk)⟩
   ·refine r9.aK m97 VQ λb hb hk=>?_
    have hb8:=hfr8 b hb;have:=at2.lt (hn3 _ hk);omega
   ·rcases hf3 k DG with h'|h'
    ·exact h'
    ·have:=k1.size;omega
  ·have dI:i=(nJ l v).length:=aB
   subst dI;rw[oY] at at9;have Na:∀j,j≠n+v.toNat\/¬(0<=v/\v<n)->j≠v.toNat\/¬(0<=v/\v<n)->AZ n l O (nJ l v) j=jX n (CV l v) j:=by
    intro j hj1 hj2;unfold AZ jX CV
    split
    ·rename_i hjn
     unfold dY;rw[List.filter_filter,List.filter_filter];refine List.filter_congr λx hx=>?_;obtain⟨a1,a2,a3,a4,_⟩:=kH.vQ x hx;apply Bool.eq_iff_iff.2;simp only[tC,decide_eq_true_eq,iB,hx,true_and];omega
    ·rename_i hjn
     unfold nJ;rw[List.filter_filter,List.filter_filter];refine List.filter_congr λx hx=>?_;obtain⟨a1,a2,a3,a4,_⟩:=kH.vQ x hx;apply Bool.eq_iff_iff.2;simp only[tC,decide_eq_true_eq,hmemO,hx,true_and];omega
   rw[Ad,<-wo];refine has_at at9 LD λr hr=>aF (λhb=>?_) (λhb=>?_)
   ·have hv:=hr.1 hb
    obtain⟨u,rfl⟩:∃u:Nat,v=(u:Int):=⟨v.toNat,aB⟩;have Dc:u<n:=aB;simp only[kE] at Na;refine aA rfl (aE (k:=.slice) ⟨some ⟨N3.go,0,none⟩,n,n⟩ at9.c0 (aA rfl (aE (k:=.slice) ⟨some ⟨N3.gi,0,none⟩,n,n⟩ at9.c1 ?_)));refine⟨⟨aB,by show _<(n:Int);omega⟩,aA rfl ?_⟩;have d9:aM w9 w9.drew:=aW.drew (aW.refl _ w9);have at9':=at9.aN d9;obtain⟨sa,hsa,_⟩:=at9'.out Dc;refine at9'.ib (s':=bD) Dc hsa (dP.nil _ _ _ _) (aW.refl _ _) (.inr λa ha=>by cases ha) λeR at10 YB _=>?_;refine⟨⟨aB,by show _<(n:Int);omega⟩,aA rfl ?_⟩;obtain⟨sb,hsb,_⟩:=at10.LK Dc;refine at10.putIn (s':=bD) Dc hsb (dP.nil _ _ _ _) (aW.refl _ _) (.inr λa ha=>by cases ha) λeC at11 Jv _=>?_;have tM:∀k,({N3 with dV:=N3.dV.set u bD}:mO).dF k->N3.dF k:=λk hk=>by
     rcases mO.OD (N:=N3) (P:=λ_=>False) hsa (λa ha=>by cases ha) hk with h'|h'
     ·exact h'
     ·exact h'.elim
    have FM:∀k,({N3 with dV:=(N3.dV.set u bD).set (n+u) bD}:mO).dF k->N3.dF k:=λk hk=>by
     rcases mO.OD (N:={N3 with dV:=N3.dV.set u bD}) (P:=λ_=>False) hsb (λa ha=>by cases ha) hk with h'|h'
     ·exact tM k h'
     ·exact h'.elim
    have m911:aW N3.dF w9 eC:=(d9.wk.tr YB).trans Jv λk _ hk=>tM k hk;refine hQ eC {N3 with dV:=(N3.dV.set u bD).set (n+u) bD} ⟨?_,kH.cut _,LD⟩ wo (m9.trans m911 λk hk DG=>?_) λk hk=>?_
    ·have Qh:(λj=>if j=n+u then [] else(λj=>if j=u then [] else AZ n l O (nJ l (u:Int)) j) j)=jX n (CV l (u:Int)):=by
      funext j
      by_cases hj1:j=n+u
      ·subst hj1
       have:¬(n+u<n):=aB;simp only[if_true,jX,this,if_false]
       symm
       refine List.filter_eq_nil_iff.2 λx hx hxt=>?_;have h2:=(pL.1 hx).2.2;have:x.t=((n+u:Nat):Int)-n:=by simpa using hxt
       omega
      ·simp only[hj1,if_false]
       by_cases hj2:j=u
       ·subst hj2
        simp only[if_true,jX,Dc]
        symm
        refine List.filter_eq_nil_iff.2 λx hx hxf=>?_;have h2:=(pL.1 hx).2.1;have:x.f=(j:Int):=by simpa using hxf
        omega
       ·simp only[hj2,if_false]
        exact Na j (.inl hj1) (.inl hj2)
     rw[<-Qh];exact at11
    ·rcases hf3 k DG with h'|h'
     ·exact h'
     ·have:=k1.size;omega
    ·rcases hf3 k (FM k hk) with h'|h'
     ·exact .inl h'
     ·exact .inr (iF k1.size h')
   ·have hv:¬(0<=v/\v<n):=λhv=>by rw[hr.2 hv] at hb;cases hb
    have Qh:AZ n l O (nJ l v)=jX n (CV l v):=by
     funext j;exact Na j (.inr hv) (.inr hv)
    rw[Qh] at at9;exact hQ w9 N3 ⟨at9,kH.cut _,LD⟩ wo m9 λk hk=>(hf3 k hk).imp id λh'=>iF k1.size h'
end
section
section
variable{w w':aH}{g:Nat}{s:Sl}{n:Nat}{l:List bQ}
end
end
section
section
variable{w:aH}{g:Nat}{s:Sl}{n:Nat}{l:List bQ}
end
end
section
section
variable{w:aH}{g:Nat}{s:Sl}{n:Nat}{l:List bQ}
end
end
abbrev eB(b:Bool):List Value:=[.bool b]
theorem Uv:∀b:Bool,(eB b).length=1:=λ_=>rfl
theorem oneB:∀b:Bool,∀u∈eB b,u.oneCell'=true:=by intro b u hu;simp at hu;subst hu;rfl
abbrev eI(n:Int):List Value:=[aD n]
theorem fG:∀b:Int,(eI b).length=1:=λ_=>rfl
theorem ES:∀b:Int,∀u∈eI b,u.oneCell'=true:=by intro b u hu;simp at hu;subst hu;rfl
theorem cR(n:Int):eI n≠[]:=by simp
theorem cF{α:Type}{w:aH}{s:Sl}{k:CK}{e:α->k.T}{xs:List α}(h:Rd w s 1 (λx=>[k.aY (e x)]) xs){i:Nat}{x:α}(hx:xs[i]? =some x):∃a,s.b=some a/\w.cell? (a.add (i*1))=some (k.aY (e x)):=by
 obtain⟨a,ha,hh⟩:=h.get i x hx;exact⟨a,ha,by have:=hh.1;rwa[add_add,Nat.add_zero] at this⟩
abbrev R3:=Int×Int×Int
abbrev cr(r:R3):List Value:=[aD r.1,aD r.2.1,aD r.2.2]
theorem YU(r:R3):cr r≠[]:=by simp
theorem Round_i{k n:Int}{w:aH}{Q:Int->aH->Prop}(hn:0<n)(h63:n<=1000000)(hQ:Q (k%n) w):xH k n w Q:=by
 unfold xH;have h1:=Int.emod_nonneg k (b:=n) aB;have h2:=Int.emod_lt_of_pos k hn;have h3:k.tmod n=if 0<=k then k%n else if k%n=0 then 0 else k%n-n:=by
  rw[Int.tmod_eq_emod];have hd:n ∣ k↔k%n=0:=Int.dvd_iff_emod_eq_zero
  by_cases h0:0<=k
  ·simp[h0]
  ·by_cases hz:k%n=0
   ·simp[h0,hz,hd]
   ·have:(n.natAbs:Int)=n:=aB
    simp[h0,hz,hd,this]
 refine⟨aB,aJ (λh=>?_) (λh=>?_)⟩
 ·have e:k.tmod n+n=k%n:=by rw[h3] at h ⊢;split at h<;>rename_i h0<;>simp only[h0,if_true,if_false] at h ⊢<;>(try split at h)<;>(try split)<;>omega
  rw[e,gM aB aB];exact hQ
 ·have e:k.tmod n=k%n:=by rw[h3] at h ⊢;split at h<;>rename_i h0<;>simp only[h0,if_true,if_false] at h ⊢<;>(try split at h)<;>(try split)<;>omega
  rw[e];exact hQ
theorem pZ(i:Nat)(hi:i<1099511627776):aQ ((i:Int)+1)=((i+1:Nat):Int):=by rw[gM aB aB];rfl
theorem GV{w:aH}{x:bQ}{K:aH->Prop}(hK:∀w',aM w w'->cW w' w.heap.size iR (dZ x)->w.heap.size<w'.heap.size->K w'):
  aI prog iR ⟨w.heap.size,0,none⟩ (Fe x) (w.alloc (.cells #[aD 0,aD 0,aD 0,aD 0] iR)) K:=by
 have k:=aM.alloc w (.cells #[aD 0,aD 0,aD 0,aD 0] iR);have o:cW (w.alloc (.cells #[aD 0,aD 0,aD 0,aD 0] iR)) w.heap.size iR (dZ ⟨0,0,0,0⟩):=cW.iP w _ _;exact CJ o rfl λw' o' m'=>hK w' (aW.fresh k m' λb hb=>aB) o' o'.lt
theorem sQ{w:aH}{g:Nat}{x:bQ}(h:cW w g iR (dZ x)):w.cell? ((⟨g,0,none⟩:Addr).add 0)=some (aD x.f)/\w.cell? ((⟨g,0,none⟩:Addr).add 1)=some (aD x.t)/\w.cell? ((⟨g,0,none⟩:Addr).add 2)=some (aD x.w)/\w.cell? ((⟨g,0,none⟩:Addr).add 3)=some (aD x.m):=by
 refine⟨?_,?_,?_,?_⟩<;>rw[aS,h.cell]<;>rfl
theorem Bj{N:mO}{n:Nat}{L:List bQ}{v:Int}{W:aH}{Q:Sl->aH->Prop}(h:kZ W N n L)
  (hQ:∀s w',dP w' iR 4 dZ s (fV n L v)->aM W w'->(∀b,s.b=some b->W.heap.size<=b.block)->Q s w'):oI (some ⟨N.g,0,none⟩) v W Q:=by
 unfold oI;have hL:=h.ok;have hn:=h.sz;refine Wj h λs1 w1 v1 k1 f1=>?_;refine In_i (h.aN k1) λs2 w2 v2 k2 f2=>?_;have k02:=k1.tr k2;have h2:=h.aN k02;have XZ:=v1.aK k2 λ_ _=>id;have s1l:=v1.len;have s2l:=v2.len;have il:=hL.FA v;have ol:=hL.uY v;have slen:∀i,((nJ L v).take i).flatMap (λa=>mG n L v a (dY L v))=((nJ L v).take i).flatMap (λa=>mG n L v a (dY L v))/\(((nJ L v).take i).flatMap (λa=>mG n L v a (dY L v))).length<=262144:=λi=>by
  refine⟨rfl,?_⟩;have h1:=Nm n L v ((nJ L v).take i);have h2:((nJ L v).take i).length<=512:=by rw[pV];omega
  have:((nJ L v).take i).length*(dY L v).length<=512*512:=EU h2 aB;omega
 refine bO (λc t w3=>∃(i:Nat) (s:Sl),i<=(nJ L v).length/\c=(nJ L v).length-i/\t=(s,(i:Int),())/\dP w3 iR 4 dZ s (((nJ L v).take i).flatMap λa=>mG n L v a (dY L v))/\aM w2 w3/\(∀b,s.b=some b->w2.heap.size<=b.block)) (nJ L v).length
  ⟨0,_,iG _,rfl,rfl,by simpa using dP.nil _ _ _ _,aW.refl _ _,λb hb=>by cases hb⟩ ?_
 rintro c t w3 ⟨i,s,hi,rfl,rfl,hv,k3,fs⟩ X hX;dsimp only;refine aJ (λcJ=>?_) (λkT=>?_)
 ·have dI:i<(nJ L v).length:=aB
  refine⟨⟨aB,aB⟩,?_⟩;obtain⟨p,hp,hh⟩:=wG ((v2.aK k3 λ_ _=>id).rd kI) (gS dI);have fP:=nC dI;have tk:((nJ L v).take (i+1)).flatMap (λa=>mG n L v a (dY L v))=((nJ L v).take i).flatMap (λa=>mG n L v a (dY L v))++mG n L v (nJ L v)[i] (dY L v):=by
   rw[FO dI,IS];simp
  have YD:=(slen i).2;generalize (nJ L v)[i]=a at*;generalize ((nJ L v).take i).flatMap (λa=>mG n L v a (dY L v))=P at*;obtain⟨haL,Ua⟩:=iB.1 fP;obtain⟨_,_,_,_,_,aw0,aw1,_⟩:=hL.vQ a haL;refine aA hp (bJ (nM a) hh ?_);simp only[aG];refine GV λw5 k5 o5 z5=>?_;have mz:=hv.aK k5 λ_ _=>id;have ne5:∀b,s.b=some b->b.block≠w3.heap.size:=λb hb e=>by have:=hv.lt hb;omega
  have z23:=k3.size;generalize w3.heap.size=b2 at*;refine bO (λc t w6=>∃(j:Nat) (s':Sl),j<=(dY L v).length/\c=(dY L v).length-j/\t=(s',(j:Int),())/\dP w6 iR 4 dZ s' (P++mG n L v a ((dY L v).take j))/\aM w2 w6/\cW w6 b2 iR (dZ a)/\(∀b,s'.b=some b->w2.heap.size<=b.block/\b.block≠b2)) (dY L v).length
   ⟨0,s,iG _,rfl,rfl,by simpa [mG] using mz,k3.tr k5,o5,λb hb=>⟨fs b hb,ne5 b hb⟩⟩ ?_
  rintro c t w6 ⟨j,s',hj,rfl,rfl,hv6,k6,o6,fs6⟩ Y hY;dsimp only;refine aJ (λcJ=>?_) (λkT=>?_)
  ·have uC:j<(dY L v).length:=aB
   refine⟨⟨aB,aB⟩,?_⟩;obtain⟨p,hp,hh⟩:=wG ((XZ.aK k6 λ_ _=>id).rd kI) (gS uC);have hmemb:=nC uC;have tkj:mG n L v a ((dY L v).take (j+1))=mG n L v a ((dY L v).take j)++(if GH n L v a (dY L v)[j] then [⟨a.f,(dY L v)[j].t,a.w+(dY L v)[j].w,v⟩] else []):=by
    rw[FO uC,Yj]
   have RN:=Hw n L v a ((dY L v).take j);have Ky:((dY L v).take j).length<=512:=by rw[pV];omega
   generalize (dY L v)[j]=b at*;generalize mG n L v a ((dY L v).take j)=R at*;obtain⟨hbL,hbf⟩:=eJ.1 hmemb;obtain⟨_,_,_,_,_,bw0,bw1,_⟩:=hL.vQ b hbL;refine aA hp (bJ (nM b) hh ?_);refine GV λw8 k8 o8 z8=>?_;have K8:=k6.tr k8;have o8':=o6.aK k8 id;have hv8:=hv6.aK k8 λ_ _=>id;have ne8:∀b,s'.b=some b->b.block≠w6.heap.size:=λb hb e=>by have:=hv6.lt hb;omega
   have z26:=k6.size;have zb2:=o6.lt;generalize w6.heap.size=b4 at*;obtain⟨a0,a1,a2,_⟩:=sQ o8';obtain⟨c0,c1,c2,_⟩:=sQ o8;have next:∀w',aM w8 w'->GH n L v a b=false->Y (s',aQ ((j:Int)+1),()) w':=λw' k' hn'=>by
    rw[pZ j aB];exact hY _ _ _ aB ⟨j+1,s',uC,rfl,rfl,by rw[tkj,hn',if_neg dK,tB];exact hv8.aK k' (λ_ _=>id),K8.tr k',o8'.aK k' id,fs6⟩
   refine aE (k:=.i) a.f a0 (aE (k:=.i) b.t c1 ?_);refine aF (λhe=>?_) (λhe=>?_)
   ·have vT:a.f=b.t:=by simpa using he
    exact next w8 (aW.refl _ _) (by unfold GH;simp[vT])
   ·have vT:a.f≠b.t:=by simpa using he
    refine aE (k:=.i) a.f a0 (aE (k:=.i) b.t c1 (aE (k:=.i) a.w a2 (aE (k:=.i) b.w c2 ?_)));rw[gM (n:=a.w+b.w) aB aB];refine Find_i (h2.aN K8) aB λw9 k9=>?_;refine aF (λhf=>?_) (λhf=>?_)
    ·exact next w9 k9 (by unfold GH;rw[hf];simp)
    ·have Fw:GH n L v a b=true:=by unfold GH;rw[hf];simp[vT]
     have o9:=o8'.aK k9 id;have q9:=o8.aK k9 id;obtain⟨a0,a1,a2,_⟩:=sQ o9;obtain⟨c0,c1,c2,_⟩:=sQ q9;refine aE (k:=.i) a.f a0 (aE (k:=.i) b.t c1 (aE (k:=.i) a.w a2 (aE (k:=.i) b.w c2 ?_)));rw[gM (n:=a.w+b.w) aB aB];have hlit:=dP.lit w9 iR dZ kI [(⟨a.f,b.t,a.w+b.w,v⟩:bQ)] #[aD a.f,aD b.t,aD (a.w+b.w),aD v] rfl (by simp[maxLen]);have IG:=aM.alloc w9 (.cells #[aD a.f,aD b.t,aD (a.w+b.w),aD v] iR);have Br:=o9.aK IG id;refine fN kK kI Es ((hv8.aK k9 λ_ _=>id).aK IG (λ_ _=>id)) (hlit.rd kI) (by rw[mJ];simp only[List.length_singleton];omega) (by rw[mJ];simp only[List.length_singleton];omega) λr eC v11 Jv f11 _=>?_;rw[pZ j aB];have Mw:=(K8.tr k9).tr IG;refine hY _ _ _ aB ⟨j+1,r,uC,rfl,rfl,by rw[tkj,Fw,if_pos rfl,<-sB];exact v11,Mw.fresh Jv λk ⟨b,hb,e⟩=>by subst e;exact(fs6 b hb).1,Br.aK Jv λ⟨b,hb,e⟩=>(fs6 b hb).2 e.symm,λb hb=>?_⟩;rcases f11 with e|⟨a',e,IL⟩
     ·exact fs6 b (e▸hb)
     ·rw[e] at hb;cases hb
      have:=Br.lt;exact⟨iF Mw.size IL,aB⟩
  ·have e:j=(dY L v).length:=aB
   subst e;rw[oY] at hv6;rw[pZ i aB];exact hX _ _ _ aB ⟨i+1,s',dI,rfl,rfl,by rw[tk];exact hv6,k6,λb hb=>(fs6 b hb).1⟩
 ·have e:i=(nJ L v).length:=aB
  subst e;rw[oY] at hv;exact hQ s w3 hv (k02.tr k3) λb hb=>iF k02.size (fs b hb)
theorem Worth_i{N:mO}{n:Nat}{L:List bQ}{v:Int}{W:aH}{Q:Int->aH->Prop}(h:kZ W N n L)(hQ:∀w',aM W w'->Q (EX n L v) w'):zQ (some ⟨N.g,0,none⟩) v W Q:=by
 unfold zQ;refine Bj h λs w1 v1 k1 _=>?_;refine In_i (h.aN k1) λs2 w2 v2 k2 _=>?_;refine Wj ((h.aN k1).aN k2) λs3 w3 v3 k3 _=>?_;have l1:=v1.len;have l2:=v2.len;have l3:=v3.len;have hb:=Nn h.ok h.sz v;have il:=h.ok.FA v;have ol:=h.ok.uY v;have hn:=h.sz;rw[l1,l2,l3,gM (n:=((fV n L v).length:Int)-((nJ L v).length:Int)) aB aB,gM aB aB];exact hQ w3 ((k1.tr k2).tr k3)
theorem First_i{N:mO}{n:Nat}{L:List bQ}{gone:Sl}{gs:List Bool}{W:aH}{Q:Int->aH->Prop}(h:kZ W N n L)(hg:Rd W gone 1 eB gs)(hgl:gs.length<1000000)(hQ:∀w',aM W w'->Q (kQ n L gs) w'):zR (some ⟨N.g,0,none⟩) gone W Q:=by
 unfold zR;have hn:=h.sz;have gl:=hg.len;refine QP h ?_;refine bO (λc t w2=>∃(k:Nat),k<=n/\c=n-k/\t=((lQ n L gs k).1,(lQ n L gs k).2,(k:Int),())/\aM W w2) n
  ⟨0,iG _,rfl,rfl,aW.refl _ _⟩ ?_
 rintro c t w2 ⟨k,hk,rfl,rfl,k2⟩ X hX;dsimp only;refine aJ (λcJ=>?_) (λkT=>?_)
 ·have lD:k<n:=aB
  have hs:=NW n L gs k;have next:∀w',aM W w'->∀z,tU n L gs (lQ n L gs k) k=z->X (z.1,z.2,aQ ((k:Int)+1),()) w':=λw' k' z hz=>by
   rw[pZ k aB];exact hX _ _ _ aB ⟨k+1,lD,rfl,by rw[hs,hz],k'⟩
  intro J hJ;have go:cB gs k=false->J () w2:=λwu=>by
   apply hJ;refine Worth_i (h.aN k2) λw4 k4=>?_;have K4:=k2.tr k4;refine aJ (λh0=>?_) (λh0=>?_)
   ·exact next w4 K4 ((k:Int),EX n L k) (by unfold tU;rw[wu,if_neg dK,if_pos h0])
   ·refine aJ (λhw=>?_) (λhw=>?_)
    ·exact next w4 K4 ((k:Int),EX n L k) (by unfold tU;rw[wu,if_neg dK,if_neg h0,if_pos hw])
    ·exact next w4 K4 (lQ n L gs k) (by unfold tU;rw[wu,if_neg dK,if_neg h0,if_neg hw])
  refine aJ (λhl=>?_) (λhl=>?_)
  ·have hkl:k<gs.length:=aB
   have cV:gs[k]? =some gs[k]:=gS hkl;obtain⟨p,hp,hc⟩:=cF (k:=.bool) (e:=λx=>x) (hg.aK k2 dK (λ_ _=>id)) cV;have hgk:cB gs k=gs[k]:=by unfold cB;rw[LN,cV];rfl
   rw[kE];refine⟨⟨aB,hl⟩,aA hp (aE (k:=.bool) _ hc ?_)⟩;refine aF (λhb=>?_) (λhb=>go (hgk.trans hb));exact next w2 k2 (lQ n L gs k) (by unfold tU;rw[hgk,hb,if_pos rfl])
  ·refine go ?_
   unfold cB;rw[LN,List.getElem?_eq_none aB];rfl
 ·have e:k=n:=aB
  subst e;exact hQ w2 k2
theorem bK{w:aH}{cs:Array Value}{t:TypeId}{K:Addr->aH->Prop}(h:∀w',cW w' w.heap.size t cs.toList->aM w w'->w'.heap.size=w.heap.size+1->K ⟨w.heap.size,0,none⟩ w'):aG w cs t K:=
 h _ (cW.iP w cs t) (aM.alloc w _) dK
theorem Zp{s:Sl}{xs:List bQ}{Un:Value}{p:bQ->Bool}{w:aH}{Q:Int->aH->Prop}{C:aH->Prop}(hs:dP w iR 4 dZ s xs)(hl:xs.length<1000000)(hC:C w)(bz:∀w1 w2,C w1->aM w1 w2->C w2)
  (hdel:∀x w1 (K:WQ Value),C w1->x∈xs->(∀w2,aM w1 w2->K (.bool (p x)) w2)->lI prog Un [Fe x] w1 K)
  (vS:∀w',aM w w'->(∀x∈xs,p x=false)->Q (-1) w') (Qc:∀(i:Nat) w',aM w w'->i<xs.length->(∀j x,j<i->xs[j]? =some x->p x=false)->(∀x,xs[i]? =some x->p x=true)->Q (i:Int) w'):iO s Un w Q:=by
 unfold iO;have sl:=hs.len;refine bO (λc t w1=>∃(i:Nat),i<=xs.length/\c=xs.length-i/\t=((i:Int),())/\aM w w1/\∀j x,j<i->xs[j]? =some x->p x=false) xs.length ⟨0,iG _,rfl,rfl,aW.refl _ _,λj x hj=>aB⟩ ?_;rintro c t w1 ⟨i,hi,rfl,rfl,k1,hn⟩ X hX;refine aJ (λcJ=>?_) (λkT=>?_)
 ·have FY:(i:Int)<(s.l:Int):=cJ
  have dI:i<xs.length:=aB;have cV:=gS dI;have fP:=nC dI;obtain⟨q,hq,hh⟩:=wG ((hs.aK k1 λ_ _=>id).rd kI) cV;generalize xs[i]=x at*;show(0<=(i:Int)/\(i:Int)<(s.l:Int))/\_;rw[kE];refine⟨⟨aB,FY⟩,aA hq (bJ (nM x) hh ?_)⟩;refine hdel x w1 _ (bz _ _ hC k1) fP λw2 k2=>⟨p x,rfl,?_⟩;refine aF (λhp=>?_) (λhp=>?_)
  ·exact Qc i w2 (k1.tr k2) dI hn λy hy=>by rw[cV] at hy;cases hy;exact hp
  ·show X (aQ ((i:Int)+1),()) w2
   rw[pZ i aB];refine hX _ _ _ aB ⟨i+1,dI,rfl,rfl,k1.tr k2,λj y hj hy=>?_⟩;rcases Nat.lt_or_ge j i with h|h
   ·exact hn j y h hy
   ·have:j=i:=aB
    subst this;rw[cV] at hy;cases hy;exact hp
 ·have hge':¬(i:Int)<(s.l:Int):=kT
  refine vS w1 k1 λx hx=>?_;obtain⟨j,hj⟩:=oL.1 hx;have:=(kU.1 hj).1;exact hn j x aB hj
theorem KA{s:Sl}{xs:List bQ}{Un:Value}{p:bQ->Bool}{w:aH}{Q:Sl->aH->Prop}{C:aH->Prop}(hs:dP w iR 4 dZ s xs)(hl:xs.length<1000000)(hC:C w)(bz:∀w1 w2,C w1->aW (λk=>∃a,s.b=some a/\k=a.block) w1 w2->C w2)
  (hdel:∀x w1 (K:WQ Value),C w1->x∈xs->(∀w2,aM w1 w2->K (.bool (p x)) w2)->lI prog Un [Fe x] w1 K)
  (hQ:∀s' w',dP w' iR 4 dZ s' (xs.filter λx=>!p x)->aW (λk=>∃a,s.b=some a/\k=a.block) w w'->s'.b=s.b->Q s' w'):fF s Un w Q:=by
 unfold fF;have sl:=hs.len;have Qi:=hs.cap;have Qf:=hs.max;refine Zp hs hl hC (λw1 w2 c k=>bz w1 w2 c k.wk) hdel (λw1 k1 vS=>?_) (λi0 w1 k1 hi0 hbef Ua=>?_)
 ·refine aF (λ_=>?_) (λh=>by simp at h)
  have:xs.filter (λx=>!p x)=xs:=List.filter_eq_self.2 λx hx=>by rw[vS x hx];rfl
  exact hQ s w1 (by rw[this];exact hs.aK k1 λ_ _=>id) k1.wk rfl
 ·refine aF (λh=>by simp at h) (λ_=>?_)
  have pre:(xs.take (i0+1)).filter (λx=>!p x)=xs.take i0:=by
   rw[FO hi0,IQ];have e1:(xs.take i0).filter (λx=>!p x)=xs.take i0:=List.filter_eq_self.2 λx hx=>by
    obtain⟨j,hj⟩:=oL.1 hx;have XS:=(kU.1 hj).1;rw[pV] at XS;rw[UP aB] at hj;rw[hbef j x aB hj];rfl
   rw[e1,KX,Ua _ (gS hi0)];simp
  rw[pZ i0 aB];refine bO (λc t w2=>∃(i j:Nat) (ys:List bQ),j<=xs.length/\i<=j/\c=xs.length-j/\t=((i:Int),(j:Int),())/\ys.length=xs.length/\ys.take i=(xs.take j).filter (λx=>!p x)/\ys.drop j=xs.drop j/\dP w2 iR 4 dZ s ys/\aW (λk=>∃a,s.b=some a/\k=a.block) w w2) (xs.length-(i0+1))
   ⟨i0,i0+1,xs,hi0,aB,rfl,rfl,rfl,pre.symm,rfl,hs.aK k1 (λ_ _=>id),k1.wk⟩ ?_
  rintro c t w2 ⟨i,j,ys,hj,RL,rfl,rfl,yl,Ah,ydrop,v2,m2⟩ X hX;dsimp only;refine aJ (λcJ=>?_) (λkT=>?_)
  ·have uC:j<xs.length:=aB
   have cV:ys[j]? =some xs[j]:=by
    have:=congrArg (·[0]?) ydrop;simp only[List.getElem?_drop,Nat.add_zero] at this;rw[this,gS uC]
   have fP:=nC uC;have tk:(xs.take (j+1)).filter (λx=>!p x)=(xs.take j).filter (λx=>!p x)++(if p xs[j]=true then [] else [xs[j]]):=by
    rw[FO uC,IQ,KX,List.filter_nil];cases p xs[j]<;>simp
   obtain⟨q,hq,hh⟩:=wG (v2.rd kI) cV;generalize xs[j]=x at*;rw[kE];refine⟨⟨aB,cJ⟩,aA hq (bJ (nM x) hh ?_)⟩;simp only[aG];refine GV λw4 k4 o4 z4=>?_;refine bJ (nM x) (iM o4) ?_;have m4:=m2.tr k4.wk;refine hdel x w4 _ (bz _ _ hC m4) fP λw5 k5=>⟨p x,rfl,?_⟩;have m5:=m4.tr k5.wk;have v5:=(v2.aK k4 λ_ _=>id).aK k5 λ_ _=>id;rw[pZ j aB];have drop1:∀zs:List bQ,zs.drop j=xs.drop j->zs.drop (j+1)=xs.drop (j+1):=λzs h=>by
    rw[<-List.drop_drop,<-List.drop_drop,h]
   refine aF (λhp=>?_) (λhp=>?_)
   ·have hp':p x=false:=by simpa using hp
    refine bJ (nM x) (iM (o4.aK k5 id)) ⟨⟨aB,aB⟩,aA hq ?_⟩;rw[kE];refine v5.store kI hq aB x (v:=Fe x) rfl BZ (Es x) λw6 v6 m6 _=>?_;rw[pZ i aB];refine hX _ _ _ aB ⟨i+1,j+1,ys.set i x,uC,aB,rfl,rfl,by rw[pI];exact yl,?_,?_,v6,m5.tr (m6.mono λk _ e=>⟨q,hq,e⟩)⟩
    ·rw[tk,hp',if_neg dK,<-Ah]
     have dI:i<(ys.set i x).length:=by rw[pI];omega
     rw[FO dI,List.getElem_set_self];congr 1;apply AX;intro m;rw[List.getElem?_take,List.getElem?_take]
     split
     ·rw[vR,if_neg aB]
     ·rfl
    ·rw[<-drop1 ys ydrop]
     apply AX;intro m;rw[List.getElem?_drop,List.getElem?_drop,vR,if_neg aB]
   ·exact hX _ _ _ aB ⟨i,j+1,ys,uC,aB,rfl,rfl,yl,by rw[tk,if_pos (show p x=true by simpa using hp),tB];exact Ah,drop1 ys ydrop,v5,m5⟩
  ·have ej:j=xs.length:=aB
   subst ej;rw[oY] at Ah;rcases v2.gN with⟨_,h0⟩|⟨g,dE,Kh,ho,fU⟩
   ·omega
   refine⟨⟨aB,aB⟩,?_⟩;rw[kE];have xR:(ys.flatMap dZ++dE).length=s.c*4:=fU;have ti:((ys.flatMap dZ++dE).take (i*4))=(ys.take i).flatMap dZ:=Oa kI ys dE i aB;have dQ:∀w7,cW w7 g iR ((ys.take i).flatMap dZ++((ys.flatMap dZ++dE).drop (i*4)))\/(∃zs:List Value,zs.length=(s.l-i)*4/\cW w7 g iR ((ys.take i).flatMap dZ++(zs++(ys.flatMap dZ++dE).drop (i*4+(s.l-i)*4))))->aW (λk=>k=g) w2 w7->
     (0<=(i:Int)/\(i:Int)<=(s.c:Int))/\Q ⟨(aR s.b s.c 0 4),i-0,(s.c-0)⟩ w7:=λw7 ho7 m7=>by
    refine⟨⟨aB,aB⟩,?_⟩;rw[oH,Nat.sub_zero,Nat.sub_zero];have til:((ys.take i).flatMap dZ).length=i*4:=by rw[tS,pV,Nat.min_eq_left aB]
    have h4:i*4<=s.c*4:=RT 4 aB;refine hQ _ w7 ⟨by rw[<-Ah,pV,Nat.min_eq_left aB],by show i<=s.c;omega,Qf,.inr ?_⟩ (m2.tr (m7.mono λk _ e=>⟨_,Kh,e⟩)) rfl;rw[<-Ah];rcases ho7 with ho7|⟨zs,hz,ho7⟩
    ·refine⟨g,_,Kh,ho7,?_⟩
     show _=s.c*4;rw[mJ,List.length_drop,xR,til];omega
    ·refine⟨g,_,Kh,ho7,?_⟩
     show _=s.c*4;have:(s.l-i)*4=s.l*4-i*4:=Nat.sub_mul _ _ _;rw[mJ,mJ,List.length_drop,xR,til,hz];omega
   by_cases hic:i<s.c
   ·rw[Kh,lJ hic]
    have h6:(s.l-i)*4=s.l*4-i*4:=Nat.sub_mul _ _ _;refine ZG kK (by simp[Value.oneCell']) ho (by rw[xR];omega) λw7 zs hz ho7 m7 _=>?_;rw[ti,sB] at ho7;have:=dQ w7 (.inr ⟨zs,hz,ho7⟩) m7;rw[Kh] at this;exact this
   ·have hic':i=s.c:=aB
    have hsl0:s.l-i=0:=aB;rw[hsl0];refine⟨(),w2,?_,?_⟩
    ·cases aR s.b s.c i 4<;>simp[Builtin.clear_,run_underlying kK.under,yS]
    ·exact dQ w2 (.inl (by rw[<-ti,Cb];exact ho)) (aW.refl _ _)
end Go.Proofs.YtihggjgakbgomaaGreat
