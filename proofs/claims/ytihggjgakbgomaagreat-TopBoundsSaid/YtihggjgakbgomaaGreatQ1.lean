import Derived.Shelf.SlIterI.Nil
import Derived.Shelf.SlIterI.Sorted
import Derived.Shelf.SortM.Plain
import Derived.Shelf.SortM.SortNone
import Derived.Test.YtihggjgakbgomaaGreatProg
import Derived.KernelRfl
import Derived.Test.YtihggjgakbgomaaGreatA1
import Derived.Test.YtihggjgakbgomaaGreatF1
import Derived.Test.YtihggjgakbgomaaGreatF2
import Derived.Test.YtihggjgakbgomaaGreatA2
namespace Go.Proofs.YtihggjgakbgomaaGreat
open Go Go.Proofs
def Nz:Go.Shelf.Ren:=⟨λ|7=>254|10=>260|n=>n,λ|23=>358|26=>3|3=>378|28=>162|0=>0|27=>161|33=>146|4=>4|n=>n,λn=>n⟩
theorem keysA:SlLaysZI.n7 Tryz.prog Nz where
 mixed:=by kernel_rfl
 f7:=⟨"maps.Keys[map[int]milepost/timer.wait,int,milepost/timer.wait]",by decide,Tryz.func254.trans (congrArg some (by kernel_rfl))⟩
 f10:=⟨"maps.Keys[map[int]milepost/timer.wait,int,milepost/timer.wait]$1",by decide,Tryz.func260.trans (congrArg some (by kernel_rfl))⟩
 t0:=Tryz.underlying0
 a0:=Tryz.isAgg0
 z0:=Tryz.sizeOf0
 v0:=Tryz.zeroValue0
 t4:=Tryz.underlying4
 a4:=Tryz.isAgg4
 z4:=Tryz.sizeOf4
 v4:=Tryz.zeroValue4
 t23:=Tryz.underlying358
 a23:=Tryz.isAgg358
 z23:=Tryz.sizeOf358
 v23:=Tryz.zeroValue358
 t26:=Tryz.underlying3
 a26:=Tryz.isAgg3
 z26:=Tryz.sizeOf3
 v26:=Tryz.zeroValue3
 t27:=Tryz.underlying161
 a27:=Tryz.isAgg161
 z27:=Tryz.sizeOf161
 v27:=Tryz.zeroValue161
 t28:=Tryz.underlying162
 a28:=Tryz.isAgg162
 z28:=Tryz.sizeOf162
 v28:=Tryz.zeroValue162
 t33:=Tryz.underlying146
 a33:=Tryz.isAgg146
 z33:=Tryz.sizeOf146
 v33:=Tryz.zeroValue146
def Ba:Go.Shelf.Ren:=⟨λ|6=>67|8=>119|9=>120|11=>162|13=>164|12=>163|23=>214|24=>215|14=>205|15=>206|16=>207|17=>208|18=>209|19=>210|20=>211|21=>212|22=>213|25=>246|26=>247|27=>248|28=>249|29=>250|30=>216|31=>258|n=>n,λ|26=>3|28=>162|24=>22|0=>0|3=>3|37=>266|48=>322|50=>324|4=>4|40=>316|39=>315|45=>140|5=>5|9=>9|51=>367|55=>371|57=>382|58=>383|33=>146|n=>n,λn=>n⟩
theorem rz:SlLaysZI.n6 Tryz.prog Ba where
 mixed:=by kernel_rfl
 f6:=⟨"slices.Sorted[int]",by decide,Tryz.func67.trans (congrArg some (by kernel_rfl))⟩
 f8:=⟨"slices.Collect[int]",by decide,Tryz.func119.trans (congrArg some (by kernel_rfl))⟩
 f11:=⟨"slices.AppendSeq[[]int,int]",by decide,Tryz.func162.trans (congrArg some (by kernel_rfl))⟩
 t0:=Tryz.underlying0
 a0:=Tryz.isAgg0
 z0:=Tryz.sizeOf0
 v0:=Tryz.zeroValue0
 t24:=Tryz.underlying22
 a24:=Tryz.isAgg22
 z24:=Tryz.sizeOf22
 v24:=Tryz.zeroValue22
 t26:=Tryz.underlying3
 a26:=Tryz.isAgg3
 z26:=Tryz.sizeOf3
 v26:=Tryz.zeroValue3
 t28:=Tryz.underlying162
 a28:=Tryz.isAgg162
 z28:=Tryz.sizeOf162
 v28:=Tryz.zeroValue162
 i26:=by kernel_rfl
def yx:Go.Shelf.Ren:=⟨λ|5=>120|8=>164|7=>163|19=>214|20=>215|10=>205|11=>206|12=>207|13=>208|14=>209|15=>210|16=>211|17=>212|18=>213|30=>246|31=>247|32=>248|33=>249|34=>250|35=>216|40=>258|n=>n,λ|23=>22|25=>3|3=>3|32=>266|22=>22|0=>0|44=>322|46=>324|4=>4|36=>316|35=>315|41=>140|5=>5|9=>9|53=>367|57=>371|63=>382|64=>383|n=>n,λn=>n⟩
theorem sortA:SlLaysM.n5 Tryz.prog yx where
 mixed:=by kernel_rfl
 f5:=⟨"slices.Sort[[]int,int]",by decide,Tryz.func120.trans (congrArg some (by kernel_rfl))⟩
 f7:=⟨"slices.pdqsortOrdered[int]",by decide,Tryz.func163.trans (congrArg some (by kernel_rfl))⟩
 f8:=Tryz.func164.trans (congrArg some (by kernel_rfl))
 f10:=⟨"slices.insertionSortOrdered[int]",by decide,Tryz.func205.trans (congrArg some (by kernel_rfl))⟩
 f11:=⟨"slices.heapSortOrdered[int]",by decide,Tryz.func206.trans (congrArg some (by kernel_rfl))⟩
 f12:=⟨"slices.breakPatternsOrdered[int]",by decide,Tryz.func207.trans (congrArg some (by kernel_rfl))⟩
 f13:=⟨"slices.choosePivotOrdered[int]",by decide,Tryz.func208.trans (congrArg some (by kernel_rfl))⟩
 f14:=⟨"slices.reverseRangeOrdered[int]",by decide,Tryz.func209.trans (congrArg some (by kernel_rfl))⟩
 f15:=⟨"slices.partialInsertionSortOrdered[int]",by decide,Tryz.func210.trans (congrArg some (by kernel_rfl))⟩
 f16:=⟨"cmp.Less[int]",by decide,Tryz.func211.trans (congrArg some (by kernel_rfl))⟩
 f17:=⟨"slices.partitionEqualOrdered[int]",by decide,Tryz.func212.trans (congrArg some (by kernel_rfl))⟩
 f18:=⟨"slices.partitionOrdered[int]",by decide,Tryz.func213.trans (congrArg some (by kernel_rfl))⟩
 f19:=Tryz.func214.trans (congrArg some (by kernel_rfl))
 f20:=Tryz.func215.trans (congrArg some (by kernel_rfl))
 f30:=⟨"slices.siftDownOrdered[int]",by decide,Tryz.func246.trans (congrArg some (by kernel_rfl))⟩
 f31:=Tryz.func247.trans (congrArg some (by kernel_rfl))
 f32:=Tryz.func248.trans (congrArg some (by kernel_rfl))
 f33:=⟨"slices.medianAdjacentOrdered[int]",by decide,Tryz.func249.trans (congrArg some (by kernel_rfl))⟩
 f34:=⟨"slices.medianOrdered[int]",by decide,Tryz.func250.trans (congrArg some (by kernel_rfl))⟩
 f35:=⟨"cmp.isNaN[int]",by decide,Tryz.func216.trans (congrArg some (by kernel_rfl))⟩
 f40:=⟨"slices.order2Ordered[int]",by decide,Tryz.func258.trans (congrArg some (by kernel_rfl))⟩
 t0:=Tryz.underlying0
 a0:=Tryz.isAgg0
 z0:=Tryz.sizeOf0
 v0:=Tryz.zeroValue0
 t3:=Tryz.underlying3
 a3:=Tryz.isAgg3
 z3:=Tryz.sizeOf3
 v3:=Tryz.zeroValue3
 t4:=Tryz.underlying4
 a4:=Tryz.isAgg4
 z4:=Tryz.sizeOf4
 v4:=Tryz.zeroValue4
 t5:=Tryz.underlying5
 a5:=Tryz.isAgg5
 z5:=Tryz.sizeOf5
 v5:=Tryz.zeroValue5
 t9:=Tryz.underlying9
 a9:=Tryz.isAgg9
 z9:=Tryz.sizeOf9
 v9:=Tryz.zeroValue9
 t22:=Tryz.underlying22
 a22:=Tryz.isAgg22
 z22:=Tryz.sizeOf22
 v22:=Tryz.zeroValue22
 t23:=Tryz.underlying22
 a23:=Tryz.isAgg22
 z23:=Tryz.sizeOf22
 v23:=Tryz.zeroValue22
 t25:=Tryz.underlying3
 a25:=Tryz.isAgg3
 z25:=Tryz.sizeOf3
 v25:=Tryz.zeroValue3
 t32:=Tryz.underlying266
 a32:=Tryz.isAgg266
 z32:=Tryz.sizeOf266
 v32:=Tryz.zeroValue266
 t35:=Tryz.underlying315
 a35:=Tryz.isAgg315
 z35:=Tryz.sizeOf315
 v35:=Tryz.zeroValue315
 t36:=Tryz.underlying316
 a36:=Tryz.isAgg316
 z36:=Tryz.sizeOf316
 v36:=Tryz.zeroValue316
 t41:=Tryz.underlying140
 a41:=Tryz.isAgg140
 z41:=Tryz.sizeOf140
 v41:=Tryz.zeroValue140
 t44:=Tryz.underlying322
 a44:=Tryz.isAgg322
 z44:=Tryz.sizeOf322
 v44:=Tryz.zeroValue322
 t46:=Tryz.underlying324
 a46:=Tryz.isAgg324
 z46:=Tryz.sizeOf324
 v46:=Tryz.zeroValue324
 t53:=Tryz.underlying367
 a53:=Tryz.isAgg367
 z53:=Tryz.sizeOf367
 v53:=Tryz.zeroValue367
 t57:=Tryz.underlying371
 a57:=Tryz.isAgg371
 z57:=Tryz.sizeOf371
 v57:=Tryz.zeroValue371
 t63:=Tryz.underlying382
 a63:=Tryz.isAgg382
 z63:=Tryz.sizeOf382
 v63:=Tryz.zeroValue382
 t64:=Tryz.underlying383
 a64:=Tryz.isAgg383
 z64:=Tryz.sizeOf383
 v64:=Tryz.zeroValue383
def Ny:Go.Shelf.Ren:=⟨λ|7=>68|10=>121|n=>n,λ|23=>164|26=>3|3=>102|28=>162|0=>0|27=>161|33=>146|4=>4|n=>n,λn=>n⟩
theorem keysB:SlLaysZI.n7 Tryz.prog Ny where
 mixed:=by kernel_rfl
 f7:=⟨"maps.Keys[map[int]*milepost/table.Entry,int,*milepost/table.Entry]",by decide,Tryz.func68.trans (congrArg some (by kernel_rfl))⟩
 f10:=⟨"maps.Keys[map[int]*milepost/table.Entry,int,*milepost/table.Entry]$1",by decide,Tryz.func121.trans (congrArg some (by kernel_rfl))⟩
 t0:=Tryz.underlying0
 a0:=Tryz.isAgg0
 z0:=Tryz.sizeOf0
 v0:=Tryz.zeroValue0
 t4:=Tryz.underlying4
 a4:=Tryz.isAgg4
 z4:=Tryz.sizeOf4
 v4:=Tryz.zeroValue4
 t23:=Tryz.underlying164
 a23:=Tryz.isAgg164
 z23:=Tryz.sizeOf164
 v23:=Tryz.zeroValue164
 t26:=Tryz.underlying3
 a26:=Tryz.isAgg3
 z26:=Tryz.sizeOf3
 v26:=Tryz.zeroValue3
 t27:=Tryz.underlying161
 a27:=Tryz.isAgg161
 z27:=Tryz.sizeOf161
 v27:=Tryz.zeroValue161
 t28:=Tryz.underlying162
 a28:=Tryz.isAgg162
 z28:=Tryz.sizeOf162
 v28:=Tryz.zeroValue162
 t33:=Tryz.underlying146
 a33:=Tryz.isAgg146
 z33:=Tryz.sizeOf146
 v33:=Tryz.zeroValue146
end Go.Proofs.YtihggjgakbgomaaGreat
namespace Go.Proofs.YtihggjgakbgomaaGreat
open Go Go.Den
open Tryz (prog)
open Go.IntKind (wrap)
theorem kI:∀x:bQ,(eC x).length=4:=λ_=>rfl
theorem Eu:∀x:bQ,∀u∈eC x,u.oneCell'=true:=by intro x u hu;simp[eC] at hu;rcases hu with rfl|rfl|rfl|rfl<;>rfl
abbrev Fg(a:bQ):Value:=.agg #[aD a.f,aD a.t,aD a.w,aD a.m]
def YM(x y:Int):Int:=if x<y then-1 else if x>y then 1 else 0
theorem PN{x y:Int}{w:aH}{Q:Int->aH->Prop}(hQ:Q (YM x y) w):iX x y w Q:=by
 unfold iX tB;refine aF (λh=>absurd h dL) (λ_=>?_);refine aF (λh=>absurd h dL) (λ_=>?_);unfold YM at hQ;refine aJ (λh=>?_) (λh=>?_)
 ·rwa[if_pos h] at hQ
 ·rw[if_neg h] at hQ
  refine aJ (λh=>?_) (λh=>?_)
  ·rwa[if_pos h] at hQ
  ·rwa[if_neg h] at hQ
theorem aAo{a:bQ}{v:Int}{w:aH}{Q:Int->aH->Prop}(hQ:∀w',aM w w'->Q (YM a.t v) w'):xG (nN a) v w Q:=by
 unfold xG;simp only[aG];refine aE (k:=.i) a.t ?_ (PN (hQ _ (aM.alloc w _)));rw[aS,(cW.iP w _ _).cell];rfl
theorem Zg{a:bQ}{v:Int}{w:aH}{Q:Int->aH->Prop}(hQ:∀w',aM w w'->Q (YM a.f v) w'):sY (nN a) v w Q:=by
 unfold sY;simp only[aG];refine aE (k:=.i) a.f ?_ (PN (hQ _ (aM.alloc w _)));rw[aS,(cW.iP w _ _).cell];rfl
theorem mid_i(i j:Nat)(h:i+j<9223372036854775808):aQ (Int.fdiv (wrap .u64 (aQ ((i:Int)+(j:Int)))) (2^(min (Int.toNat (1:Int)) (IntKind.bits .u64))))=(((i+j)/2:Nat):Int):=by
 rw[gM (n:=(i:Int)+(j:Int)) aB aB];have h1:wrap .u64 ((i:Int)+(j:Int))=((i+j:Nat):Int):=by simp[wrap,IntKind.signed,IntKind.bits];omega
 rw[h1];show aQ (Int.fdiv ((i+j:Nat):Int) 2)=_;rw[Int.fdiv_eq_ediv_of_nonneg _ aB,gM aB aB];omega
theorem wI{w:aH}{s:Sl}{xs:List bQ}(h:Rd w s 4 eC xs){i:Nat}{x:bQ}(hx:xs[i]? =some x):∃a,s.b=some a/\bY w (a.add (i*4)) 0 (qH [.i,.i,.i,.i] (nN x)):=h.get i x hx
theorem OA{s:Sl}{xs:List bQ}{key:bQ->Int}{v:Int}{cmp:Value}{w:aH}{Q:Int->Bool->aH->Prop}(hs:Rd w s 4 eC xs)(lM:YH key xs)(fU:xs.length<4611686018427387904)
  (hcmp:∀(x:bQ) (w:aH) (K:WQ Value),(∀w',aM w w'->K (aD (YM (key x) v)) w')->lI prog cmp [Fg x,aD v] w K)
  (hQ:∀(i:Nat) (qB:Bool) w',aM w w'->zD key xs v i->(qB=true↔∃x∈xs,key x=v)->Q (i:Int) qB w'):dX s v cmp w Q:=by
 unfold dX;have hl:=hs.len;refine bO (λn t w'=>∃i j:Nat,i<=j/\j<=xs.length/\n=j-i/\t=((i:Int),(j:Int),())/\aM w w'/\(∀p x,p<i->xs[p]? =some x->key x<v)/\(∀p x,j<=p->xs[p]? =some x->v<=key x)) xs.length
  ⟨0,xs.length,aB,aB,aB,by rw[hl];rfl,aW.refl _ _,λp x hp=>aB,λp x hp hx=>by have:=(kU.1 hx).1;omega⟩ ?_
 rintro n t w' ⟨i,j,RN,hj,rfl,rfl,hk,YD,hhi⟩ X hX;dsimp only;have QC:=hs.aK hk VS (λ_ _=>id);refine aJ (λh=>?_) (λh=>?_)
 ·have cJ:i<j:=aB
  rw[mid_i i j aB];have hm:(i+j)/2<xs.length:=aB;refine⟨aB,⟨aB,aB⟩,?_⟩;obtain⟨a,ha,hh⟩:=wI QC (gS hm);refine aA ha (bJ (nN xs[(i+j)/2]) hh ?_);refine hcmp xs[(i+j)/2] w' _ λw2 k2=>⟨_,rfl,?_⟩;rw[gM (n:=(((i+j)/2:Nat):Int)+1) aB aB];unfold YM;refine aJ (λh=>?_) (λh=>?_)
  ·have hv:key xs[(i+j)/2]<v:=by
    apply Classical.byContradiction;intro hn;rw[if_neg hn] at h;split at h<;>omega
   refine hX (j-((i+j)/2+1)) _ _ aB ⟨(i+j)/2+1,j,aB,hj,rfl,rfl,hk.tr k2,λp x hp hx=>?_,hhi⟩;rcases Nat.lt_or_ge p ((i+j)/2) with h'|h'
   ·have:=lM.get h' hx (gS hm);omega
   ·have:p=(i+j)/2:=aB
    subst this;rw[gS hm] at hx;cases hx;exact hv
  ·have hv:v<=key xs[(i+j)/2]:=by
    apply Classical.byContradiction;intro hn;rw[if_pos aB] at h;omega
   refine hX ((i+j)/2-i) _ _ aB ⟨i,(i+j)/2,aB,aB,rfl,rfl,hk.tr k2,YD,λp x hp hx=>?_⟩;rcases Nat.eq_or_lt_of_le hp with h'|h'
   ·subst h';rw[gS hm] at hx;cases hx;exact hv
   ·have:=lM.get h' (gS hm) hx;omega
 ·have hje:j=i:=aB
  subst hje;have qF:zD key xs v j:=⟨hj,YD,hhi⟩;refine aJ (λh=>?_) (λh=>?_)
  ·have hi:j<xs.length:=aB
   refine⟨⟨aB,aB⟩,?_⟩;obtain⟨a,ha,hh⟩:=wI QC (gS hi);refine aA ha (bJ (nN xs[j]) hh ?_);refine hcmp xs[j] w' _ λw2 k2=>⟨_,rfl,hQ j _ w2 (hk.tr k2) qF ?_⟩;have h1:=hhi j _ (iT _) (gS hi)
   constructor
   ·intro hc
    refine⟨xs[j],nE hi,?_⟩;unfold YM at hc
    by_cases hg:key xs[j]>v
    ·rw[if_neg aB,if_pos hg] at hc;simp at hc
    ·omega
   ·rintro⟨x,hx,bm⟩
    have:=qF.qB lM hx bm;rw[gS hi] at this;cases this;unfold YM;rw[if_neg aB,if_neg aB];rfl
  ·have hi:j=xs.length:=aB
   refine hQ j false w' hk qF ⟨λh=>by simp at h,?_⟩;rintro⟨x,hx,bm⟩;have:=qF.qB lM hx bm;have:=(kU.1 this).1;omega
theorem byTo_i{s:Sl}{xs:List bQ}{v:Int}{w:aH}{Q:Int->Bool->aH->Prop}(hs:Rd w s 4 eC xs)(lM:YH bQ.t xs)(fU:xs.length<4611686018427387904)
  (hQ:∀(i:Nat) (qB:Bool) w',aM w w'->zD bQ.t xs v i->(qB=true↔∃x∈xs,x.t=v)->Q (i:Int) qB w'):JU s v w Q:=
 OA hs lM fU (λx w K hK=>pB Mb iA (gI (ks:=[.agg [.i,.i,.i,.i],.i]) (t:=(nN x,v,())) (aAo hK))) hQ
theorem Xq{s:Sl}{xs:List bQ}{v:Int}{w:aH}{Q:Int->Bool->aH->Prop}(hs:Rd w s 4 eC xs)(lM:YH bQ.f xs)(fU:xs.length<4611686018427387904)
  (hQ:∀(i:Nat) (qB:Bool) w',aM w w'->zD bQ.f xs v i->(qB=true↔∃x∈xs,x.f=v)->Q (i:Int) qB w'):zU s v w Q:=
 OA hs lM fU (λx w K hK=>pB Co iA (gI (ks:=[.agg [.i,.i,.i,.i],.i]) (t:=(nN x,v,())) (Zg hK))) hQ
theorem tU(xs:List bQ):(xs.flatMap eC).length=xs.length*4:=bI kI xs
theorem Nv(xs:List bQ):∀u∈xs.flatMap eC,u.oneCell'=true:=λu hu=>by obtain⟨x,_,hx⟩:=List.mem_flatMap.1 hu;exact Eu x u hx
theorem Dm{V:Type}{l m:List V}{n:Nat}(h:l.length=n):(l++m).take n=l:=by rw[<-h,List.take_left]
theorem ud{V:Type}{l m:List V}{n:Nat}(h:l.length=n)(k:Nat):(l++m).drop (n+k)=m.drop k:=by rw[<-h,List.drop_length_add_append]
theorem drop_at0{V:Type}{l m:List V}{n:Nat}(h:l.length=n):(l++m).drop n=m:=by rw[<-h,List.drop_left]
theorem splice2{V:Type}{A X2 bP:List V}{n1 n2 k:Nat}(hA:A.length=k)(hc:n1+k<=bP.length):
  ((bP.take n1++A++bP.drop (n1+k)).take (n1+k)++X2++(bP.take n1++A++bP.drop (n1+k)).drop (n1+k+n2))=bP.take n1++A++X2++bP.drop (n1+k+n2):=by
 have hB:(bP.take n1++A).length=n1+k:=by simp;omega
 rw[Dm hB,ud hB,List.drop_drop]
theorem Sk{V:Type}{X1 X2 R A bP:List V}{n1 n2 k:Nat}(h1:X1.length=n1)(h2:X2.length=n2)(hR:k<=R.length)(hc:bP=X1++X2++R):
  ((bP.take (n1+k)++X2++bP.drop (n1+k+n2)).take n1++A++(bP.take (n1+k)++X2++bP.drop (n1+k+n2)).drop (n1+k))=X1++A++X2++R.drop k:=by
 have hcl:bP.length=n1+n2+R.length:=by rw[hc];simp[h1,h2];omega
 have e0:(bP.take (n1+k)).length=n1+k:=by simp;omega
 have e3:bP.drop (n1+k+n2)=R.drop k:=by
  have:(X1++X2).length=n1+n2:=by simp[h1,h2]
  rw[hc,show n1+k+n2=n1+n2+k by omega,ud this]
 have e4:bP.take (n1+k)=X1++(X2++R).take k:=by
  rw[hc,sD,<-h1,List.take_length_add_append]
 rw[e3];have e5:(bP.take (n1+k)++X2++R.drop k).drop (n1+k)=X2++R.drop k:=by rw[sD,drop_at0 e0]
 rw[e5,e4,sD,sD,sD,Dm h1];simp
theorem Insert_i{s:Sl}{xs:List bQ}{a:bQ}{i:Nat}{gv:Nat}{w:aH}{Q:Sl->aH->Prop}(hs:dQ w iR 4 eC s xs)(hv:cW w gv iR (eC a))(hg:∀b,s.b=some b->b.block≠gv)(hi:i<=xs.length)(hb:xs.length<1099511627776)
  (hQ:∀s' w',dQ w' iR 4 eC s' (xs.take i++[a]++xs.drop i)->aW (λk=>∃b,s.b=some b/\k=b.block) w w'->(s'.b=s.b\/∃b,s'.b=some b/\w.heap.size<=b.block)->Q s' w'):
  jT s (i:Int) ⟨some ⟨gv,0,none⟩,1,1⟩ w Q:=by
 unfold jT;have hl:=hs.len;have Qj:=hs.cap;have Qg:=hs.max;have rv:Rd w ⟨some ⟨gv,0,none⟩,1,1⟩ 4 eC [a]:=(dQ.mk rfl (iT _) (by simp[maxLen]) (.inr ⟨gv,[],rfl,by simpa using hv,rfl⟩):dQ w iR 4 eC ⟨some ⟨gv,0,none⟩,1,1⟩ [a]).rd kI;refine⟨⟨aB,aB⟩,?_⟩;refine aF (λh=>absurd h dL) (λ_=>?_);refine aF (λh=>?_) (λh=>?_)
 ·have he:i=xs.length:=by
   have:(i:Int)=(s.l:Int):=by simpa using h
   omega
  refine fN kK kI Eu hs rv (by simp;omega) (by simp;omega) λr w' hr hm Kv _=>?_;exact hQ r w' (by rw[he,oZ,List.drop_length];simpa using hr) hm Kv
 ·have cJ:i<xs.length:=by
   have:(i:Int)≠(s.l:Int):=by simpa using h
   omega
  have e1:aQ ((s.l:Int)+((1:Nat):Int))=((xs.length+1:Nat):Int):=by rw[gM aB aB];omega
  have e2:aQ ((i:Int)+((1:Nat):Int))=((i+1:Nat):Int):=by rw[gM aB aB];omega
  rw[e1,e2];have hrs:=hs.rd kI;have dp:((xs.drop i).flatMap eC).length=(xs.length-i)*4:=by rw[tU,List.length_drop]
  refine aJ (λhc=>?_) (λhc=>?_)
  ·--a new block
   refine⟨⟨aB,aB⟩,?_⟩;have e3:aQ (((xs.length+1:Nat):Int)-(i:Int))=((xs.length+1-i:Nat):Int):=by rw[gM aB aB];omega
   rw[e3];have Fw:=hrs.part (i:=0) (j:=i) (c:=s.c) aB aB aB aB;refine Sr kK rb (aY:=eC) ⟨0,0,0,0⟩ rfl kI Fw (by simp;omega) (by simp;omega) (by simp;omega) λs2 w2 hv2 k2 hfr=>?_;have Ul:=hv2.len;have RP:=hv2.cap;simp only[Nat.sub_zero,List.drop_zero,mL,pW,List.length_replicate] at Ul;have FP:s2.l=xs.length+1:=aB;obtain⟨b2,RQ,hfr2⟩:=hfr;rcases hv2.gN with⟨h0,_⟩|⟨g2,dE,fp,di,xT⟩
   ·rw[h0] at RQ;cases RQ
   rw[fp] at RQ;cases RQ;have hfr3:w.heap.size<=g2:=hfr2;refine⟨⟨aB,aB⟩,?_⟩;rw[fp,lJ (by show Int.toNat (i:Int)<s2.c;simp;omega)];simp only[kE];have hvo:cW w2 gv iR (eC a):=hv.aK k2 id;refine MW (t:=DL) kK.under CB di (cs:=eC a) (by rw[kI];omega) (hvo.read λj v hj=>by simpa using hj) (by rw[xT,kI];have:=RV 4 (show i+1<=s2.c by omega);omega) (Eu a) λw3 ho3 m3 z3=>?_;refine⟨⟨aB,aB⟩,⟨aB,aB⟩,?_⟩;have hd3:aM w3 w3.drew:=aW.drew (aW.refl _ w3);have ye:∀b,s.b=some b->∀j v,((xs.drop i).flatMap eC)[j]? =some v->w3.drew.cell? ((b.add (i*4)).add j)=some v:=by
    intro b hb j v hj;have Ky:=hrs.part (i:=i) (j:=s.l) (c:=s.c) aB aB aB aB;rw[List.take_of_length_le (by simp;omega)] at Ky;have bW:aR s.b s.c i 4=some (b.add (i*4)):=by simp[aR,hb];omega
    have AV:=pQ Ky kI (a:=b.add (i*4)) bW j v hj;have BA:b.block<w.heap.size:=hs.lt hb;exact hd3.cell (m3.cell (k2.cell AV id) (by simp;omega)) id
   obtain⟨b,bW,_⟩:=hrs.get i xs[i] (gS cJ);have hsb:aR s.b s.c i 4=some (b.add (i*4)):=by simp[aR,bW];omega
   rw[lJ (show i+1<s2.c by omega),hsb];refine MW (t:=DL) kK.under CB (ho3.aK hd3 id) (cs:=(xs.drop i).flatMap eC) (by rw[dp];congr 1;omega) (ye b bW) (by
    rw[dp];simp only[mL,pW,List.length_drop,xT,kI];have:=RV 4 (show xs.length+1<=s2.c by omega);omega) (Nv _) λw4 ho4 m4 z4=>?_
   have hw4:aM w w4:=(k2.fresh m3 (λk hk=>by rw[hk];exact hfr3)).fresh ((aM.aK hd3:aW (λk=>k=g2) w3 _).tr m4) (λk hk=>by rw[hk];exact hfr3);have h4:s2.c*4>=(xs.length+1)*4:=RV 4 aB;rw[show(i+1)*4=i*4+4 by omega,kI,dp,splice2 (kI a) (by rw[xT];omega)] at ho4;have hX1:(((xs.drop 0).take (i-0)++List.replicate (xs.length+1-i) (⟨0,0,0,0⟩:bQ)).flatMap eC++dE).take (i*4)=(xs.take i).flatMap eC:=by
    rw[Ob kI _ _ _ (by simp;omega)];congr 1;rw[List.take_append_of_le_length (by simp;omega)];simp[List.take_take]
   rw[hX1] at ho4;refine hQ s2 w4 ⟨by rw[FP];simp;omega,RP,hv2.max,.inr ⟨g2,(((xs.drop 0).take (i-0)++List.replicate (xs.length+1-i) (⟨0,0,0,0⟩:bQ)).flatMap eC++dE).drop (i*4+4+(xs.length-i)*4),fp,?_,?_⟩⟩ (aM.aK hw4) (.inr ⟨_,fp,hfr3⟩)
   ·simpa [IU] using ho4
   ·rw[mL,tU,List.length_drop,xT]
    simp only[mL,pW,List.length_drop,nU,List.length_nil];omega
  ·--in place
   have hsc:xs.length+1<=s.c:=aB;rcases hs.gN with⟨_,h0⟩|⟨g,dE,Kj,ho,fU⟩
   ·omega
   have h4:(xs.length+1)*4<=s.c*4:=RV 4 hsc;have hrest:4<=dE.length:=by rw[mL,tU] at fU;omega
   have bu:gv≠g:=λh=>hg _ Kj h.symm;refine⟨⟨aB,aB⟩,⟨aB,aB⟩,?_⟩;rw[oI,Kj];simp only[kE,Nat.sub_zero];rw[lJ aB];refine Ji hv ho bu aB ?_;refine aF (λ_=>?_) (λh=>by simp at h);refine⟨⟨aB,aB⟩,⟨aB,aB⟩,?_⟩;rw[lJ (show i<s.c by omega)];have hd:aM w w.drew:=aW.drew (aW.refl _ w);have hX2:((xs.flatMap eC++dE).drop (i*4))=(xs.drop i).flatMap eC++dE:=aAh kI _ _ _ hi;refine MW (t:=DL) kK.under CB (ho.aK hd id) (cs:=(xs.drop i).flatMap eC) (by rw[dp];congr 1;omega) ((ho.aK hd id).read λj v hj=>by
     have:((xs.flatMap eC++dE).drop (i*4))[j]? =some v:=by rw[hX2,Ey (kU.1 hj).1];exact hj
     rwa[List.getElem?_drop] at this) (by rw[dp,fU];omega) (Nv _) λw6 ho6 m6 z6=>?_
   refine⟨⟨aB,aB⟩,?_⟩;have hv6:cW w6 gv iR (eC a):=(hv.aK hd id).aK m6 bu;refine MW (t:=DL) kK.under CB ho6 (cs:=eC a) (by rw[kI,Nat.min_eq_left aB]) (hv6.read λj v hj=>by simpa using hj) (by
    rw[kI];simp only[mL,pW,List.length_drop,fU,dp];omega) (Eu a) λw7 ho7 m7 z7=>?_
   have hX1l:((xs.take i).flatMap eC).length=i*4:=by rw[tU,pW,Nat.min_eq_left hi]
   have hcur:xs.flatMap eC++dE=(xs.take i).flatMap eC++(xs.drop i).flatMap eC++dE:=by rw[<-IU,Cd]
   rw[kI,dp,show(i+1)*4=i*4+4 by omega,Sk hX1l dp hrest hcur] at ho7;refine hQ ⟨some ⟨g,0,none⟩,xs.length+1,s.c⟩ w7 ⟨by simp;omega,hsc,Qg,.inr ⟨g,dE.drop 4,rfl,?_,?_⟩⟩ ?_ (.inl Kj.symm)
   ·simpa [IU] using ho7
   ·rw[mL,tU,List.length_drop]
    rw[mL,tU] at fU;simp only[mL,pW,List.length_drop,nU,List.length_nil];omega
   ·exact(hd.aK.tr (m6.tr m7)).mono λk _ hk=>⟨_,Kj,hk⟩
theorem Sg{s:Sl}{xs:List bQ}{w:aH}{Q:Sl->aH->Prop}(hs:Rd w s 4 eC xs)(hb:xs.length<1099511627776)
  (hQ:∀s' w',dQ w' iR 4 eC s' xs->aM w w'->(∀b,s'.b=some b->w.heap.size<=b.block)->Q s' w'):iL s w Q:=by
 unfold iL;refine aF (λh=>?_) (λh=>?_)
 ·have hn:xs=[]:=by
   cases xs with
   |nil=>rfl
   |cons x r=>obtain⟨a,ha,_⟩:=hs.get 0 x rfl;rw[ha] at h;cases h
  subst hn;exact hQ _ w (dQ.nil _ _ _ _) (aW.refl _ _) (λb hb=>by cases hb)
 ·simp only[aG]
  have k1:=aM.alloc w (.cells #[] 128);have v0:dQ (w.alloc (.cells #[] 128)) iR 4 eC ⟨some ⟨w.heap.size,0,none⟩,0,0⟩ []:=dQ.lit w iR eC kI [] #[] rfl dL;refine fN kK kI Eu v0 (hs.aK k1 VS (λ_ _=>id)) (by simp;omega) (by simp;omega) λr w' hr hm Kv _=>?_;refine hQ r w' (by simpa using hr) (aW.fresh k1 hm λk ⟨a,ha,hk⟩=>by cases ha;rw[hk];exact iT _) λb hb=>?_;rcases Kv with h1|⟨b',bW,cJ⟩
  ·rw[hb] at h1;cases h1;exact iT _
  ·rw[hb] at bW;cases bW;have:=k1.size;omega
theorem Xw{s:Sl}{xs:List bQ}{i:Nat}{w:aH}{Q:Sl->aH->Prop}(hs:dQ w iR 4 eC s xs)(hi:i<xs.length)(hb:xs.length<1099511627776)
  (hQ:∀s' w',dQ w' iR 4 eC s' (xs.take i++xs.drop (i+1))->aW (λk=>∃b,s.b=some b/\k=b.block) w w'->s'.b=s.b->Q s' w'):
  gZ s (i:Int) ((i:Int)+1) w Q:=by
 unfold gZ;have hl:=hs.len;have Qj:=hs.cap;have Qg:=hs.max;rcases hs.gN with⟨_,h0⟩|⟨g,dE,Kj,ho,fU⟩
 ·omega
 refine⟨⟨aB,aB⟩,⟨aB,by simp;omega⟩,⟨aB,aB⟩,?_⟩;refine aF (λh=>by simp at h;omega) (λ_=>?_);refine⟨⟨aB,aB⟩,⟨aB,aB⟩,?_⟩;have hd:aM w w.drew:=aW.drew (aW.refl _ w);have ti:Int.toNat (i:Int)=i:=rfl;have tj:Int.toNat ((i:Int)+1)=i+1:=rfl;rw[oI,ti,tj,Nat.sub_zero,Nat.sub_zero];have hvd:=hs.aK hd (λ_ _=>id);have df:=hvd.take (i:=i) aB;have Po:=(hvd.rd kI).part (i:=i+1) (j:=s.l) (c:=s.c) aB aB aB aB;rw[List.take_of_length_le (by simp;omega)] at Po;have LA:(xs.take i).length+(xs.drop (i+1)).length=xs.length-1:=by simp;omega
 refine Hh kK kI Eu df Po (by rw[LA];omega) (by rw[LA];omega) λr w1 hr hm Kv hrn PU=>?_;have Ke:=hr.len;rw[mL,LA] at Ke;have bw:=hr.cap;have tl:Int.toNat (s.l:Int)=s.l:=rfl;have tr:Int.toNat (r.l:Int)=r.l:=rfl;rw[tl,tr];obtain rfl:=PU (by rw[LA];show _<=s.c;omega);have e1:i+(s.l-(i+1))=xs.length-1:=aB;simp only[e1] at hr Ke bw tr ⊢;refine⟨⟨aB,aB⟩,⟨aB,aB⟩,?_⟩;rw[Kj,lJ (show xs.length-1<s.c by omega)];rcases hr.gN with⟨h0,_⟩|⟨g',Vp,hbg',ho',QN⟩
 ·rw[Kj] at h0;cases h0
 have:g'=g:=by rw[Kj] at hbg';cases hbg';rfl
 subst this;have QE:((xs.take i++xs.drop (i+1)).flatMap eC).length=(xs.length-1)*4:=by rw[tU,mL,LA]
 have xT:((xs.take i++xs.drop (i+1)).flatMap eC++Vp).length=s.c*4:=QN;have h4:xs.length*4<=s.c*4:=RV 4 aB;refine ZI kK (by simp[Value.oneCell']) ho' (by rw[xT];omega) λw2 zs hz di m2 _=>?_;have IM:s.l-(xs.length-1)=1:=aB;rw[IM] at hz di;rw[Dm QE] at di;refine hQ _ w2 ⟨by rw[mL,LA],by show xs.length-1<=s.c;omega,Qg,.inr ⟨g',zs++((xs.take i++xs.drop (i+1)).flatMap eC++Vp).drop ((xs.length-1)*4+1*4),rfl,by simpa using di,?_⟩⟩ ?_ Kj.symm
 ·show _=s.c*4
  simp only[mL,QE,List.length_drop,hz];rw[mL,QE] at xT;omega
 ·exact((aM.aK hd).tr hm).tr (m2.mono λk _ hk=>⟨_,Kj,hk⟩)
theorem ki{s:Sl}{xs:List bQ}{a:bQ}{i:Nat}{w:aH}{Q:Sl->aH->Prop}(hs:dQ w iR 4 eC s xs)(hi:i<=xs.length)(hb:xs.length<1099511627776)
  (hQ:∀s' w',dQ w' iR 4 eC s' (xs.take i++[a]++xs.drop i)->aW (λk=>∃b,s.b=some b/\k=b.block) w w'->(s'.b=s.b\/∃b,s'.b=some b/\w.heap.size<=b.block)->Q s' w'):
  qU s (i:Int) false (nN a) w Q:=by
 unfold qU;simp only[aG];have k1:=aM.alloc w (.cells #[aD a.f,aD a.t,aD a.w,aD a.m] 128);refine aF (λ_=>?_) (λh=>by simp at h);refine bJ (nN a) (Bd w _ _) ?_;generalize Tw:w.alloc (.cells #[aD a.f,aD a.t,aD a.w,aD a.m] 128)=w1 at k1 ⊢;have k2:=aM.alloc w1 (.cells #[aD a.f,aD a.t,aD a.w,aD a.m] 128);refine Insert_i ((hs.aK k1 (λ_ _=>id)).aK k2 (λ_ _=>id)) (cW.iP w1 #[aD a.f,aD a.t,aD a.w,aD a.m] 128) (λb bW=>?_) hi hb λs' w' h1 h2 h3=>?_
 ·exact Nat.ne_of_lt ((hs.aK k1 (λ_ _=>id)).lt bW)
 ·refine hQ s' w' h1 (((aM.aK k1).tr (aM.aK k2)).tr h2) (h3.imp id λ⟨b,bW,cJ⟩=>⟨b,bW,?_⟩)
  exact iF (iF k1.size k2.size) cJ
theorem aAb{s:Sl}{xs:List bQ}{a:bQ}{i:Nat}{w:aH}{Q:Sl->aH->Prop}(hs:dQ w iR 4 eC s xs)(hi:i<xs.length)
  (hQ:∀w',dQ w' iR 4 eC s (xs.set i a)->aW (λk=>∃b,s.b=some b/\k=b.block) w w'->Q s w'):qU s (i:Int) true (nN a) w Q:=by
 unfold qU;simp only[aG];have k1:=aM.alloc w (.cells #[aD a.f,aD a.t,aD a.w,aD a.m] 128);refine aF (λh=>by simp at h) (λ_=>?_);refine bJ (nN a) (Bd w _ _) ?_;have hl:=hs.len;have tO:=hs.aK k1 (λ_ _=>id);obtain⟨b,hb,_⟩:=(hs.rd kI).get i xs[i] (gS hi);refine⟨⟨aB,aB⟩,aA hb ?_⟩;refine tO.store kI hb hi a rfl CB (Eu a) λw' h1 h2 _=>hQ w' h1 ((aM.aK k1).tr (h2.mono λk _ hk=>⟨b,hb,hk⟩))
section
abbrev sv(s:Sl):Value:=.slice s.b s.l s.c
structure mP where
 g:Nat
 go:Nat
 gi:Nat
 dW:List Sl
def mP.dF(N:mP)(k:Nat):Prop:=k=N.g\/k=N.go\/k=N.gi\/∃(i:Nat) (s:Sl) (a:Addr),N.dW[i]? =some s/\s.b=some a/\a.block=k
structure lW(w:aH)(N:mP)(n:Nat)(X:Nat->List bQ):Prop where
 head:cW w N.g tNet [sv ⟨some ⟨N.go,0,none⟩,n,n⟩,sv ⟨some ⟨N.gi,0,none⟩,n,n⟩]
 rW:cW w N.go DL ((N.dW.take n).map sv)
 KV:cW w N.gi DL ((N.dW.drop n).map sv)
 len:N.dW.length=n+n
 row:∀(i:Nat) (s:Sl),N.dW[i]? =some s->dQ w iR 4 eC s (X i)
 sep:∀(i:Nat) (s:Sl) (a:Addr),N.dW[i]? =some s->s.b=some a->a.block≠N.g/\a.block≠N.go/\a.block≠N.gi
 Dg:∀(i j:Nat) (s u:Sl) (a b:Addr),N.dW[i]? =some s->N.dW[j]? =some u->s.b=some a->u.b=some b->a.block=b.block->i=j
 hd:N.g≠N.go/\N.g≠N.gi/\N.go≠N.gi
section
variable{w w':aH}{N:mP}{n:Nat}{X:Nat->List bQ}
theorem lW.lt(h:lW w N n X){k:Nat}(hk:N.dF k):k<w.heap.size:=by
 rcases hk with rfl|rfl|rfl|⟨i,s,a,h1,h2,rfl⟩
 ·exact h.head.lt
 ·exact h.rW.lt
 ·exact h.KV.lt
 ·exact(h.row i s h1).lt h2
theorem lW.aK{F:Nat->Prop}(h:lW w N n X)(hm:aW F w w')(hF:∀k,N.dF k->¬F k):lW w' N n X where
 head:=h.head.aK hm (hF _ (.inl rfl))
 rW:=h.rW.aK hm (hF _ (.inr (.inl rfl)))
 KV:=h.KV.aK hm (hF _ (.inr (.inr (.inl rfl))))
 len:=h.len
 row:=λi s hs=>(h.row i s hs).aK hm λa ha=>hF _ (.inr (.inr (.inr ⟨i,s,a,hs,ha,rfl⟩)))
 sep:=h.sep
 Dg:=h.Dg
 hd:=h.hd
theorem lW.aN(h:lW w N n X)(hm:aM w w'):lW w' N n X:=h.aK hm λ_ _=>id
theorem lW.c0(h:lW w N n X):w.cell? ((⟨N.g,0,none⟩:Addr).add 0)=some (sv ⟨some ⟨N.go,0,none⟩,n,n⟩):=by rw[aS,h.head.cell];rfl
theorem lW.c1(h:lW w N n X):w.cell? ((⟨N.g,0,none⟩:Addr).add 1)=some (sv ⟨some ⟨N.gi,0,none⟩,n,n⟩):=by rw[aS,h.head.cell];rfl
theorem lW.out(h:lW w N n X){v:Nat}(hv:v<n):∃s,N.dW[v]? =some s/\w.cell? ((⟨N.go,0,none⟩:Addr).add (v*1))=some (sv s):=by
 have hl:=h.len;refine⟨N.dW[v],gS aB,?_⟩;rw[aS,h.rW.cell];simp[UR hv,gS (show v<N.dW.length by omega)]
theorem lW.LM(h:lW w N n X){v:Nat}(hv:v<n):∃s,N.dW[n+v]? =some s/\w.cell? ((⟨N.gi,0,none⟩:Addr).add (v*1))=some (sv s):=by
 have hl:=h.len;refine⟨N.dW[n+v],gS aB,?_⟩;rw[aS,h.KV.cell];simp[List.getElem?_drop,gS (show n+v<N.dW.length by omega)]
theorem lW.ES(h:lW w N n X){i:Nat}{s s':Sl}{xs:List bQ}(hs:N.dW[i]? =some s)(hv:dQ w' iR 4 eC s' xs)(ho:cW w' N.go DL (((N.dW.set i s').take n).map sv))(hi:cW w' N.gi DL (((N.dW.set i s').drop n).map sv))
  (hm:aW (λk=>(∃a,s.b=some a/\k=a.block)\/k=N.go\/k=N.gi) w w') (hb:∀a,s'.b=some a->s'.b=s.b\/w.heap.size<=a.block):
  lW w' {N with dW:=N.dW.set i s'} n (λj=>if j=i then xs else X j):=by
 have hil:i<N.dW.length:=(kU.1 hs).1;have old:∀j u,(N.dW.set i s')[j]? =some u->(j=i/\u=s')\/(j≠i/\N.dW[j]? =some u):=by
  intro j u hj;rw[vT] at hj
  by_cases CR:i=j
  ·subst CR;simp[hil] at hj;exact .inl ⟨rfl,hj.symm⟩
  ·rw[if_neg CR] at hj;exact .inr ⟨λh=>CR h.symm,hj⟩
 have Qf:∀a,s'.b=some a->(s.b=some a)\/(∀k,N.dF k->k≠a.block):=by
  intro a ha;rcases hb a ha with h1|h1
  ·exact .inl (h1▸ha)
  ·exact .inr λk hk=>by have:=h.lt hk;omega
 constructor
 ·refine h.head.aK hm ?_
  rintro(⟨a,ha,hk⟩|hk|hk)
  ·exact(h.sep i s a hs ha).1 hk.symm
  ·exact h.hd.1 hk
  ·exact h.hd.2.1 hk
 ·exact ho
 ·exact hi
 ·simpa using h.len
 ·intro j u hj
  rcases old j u hj with⟨rfl,rfl⟩|⟨gF,uE⟩
  ·simpa using hv
  ·simp only[gF,if_false]
   refine(h.row j u uE).aK hm λb bW=>?_;rintro(⟨a,ha,hk⟩|hk|hk)
   ·exact gF (h.Dg j i u s b a uE hs bW ha hk)
   ·exact(h.sep j u b uE bW).2.1 hk
   ·exact(h.sep j u b uE bW).2.2 hk
 ·intro j u a hj ha
  rcases old j u hj with⟨rfl,rfl⟩|⟨gF,uE⟩
  ·rcases Qf a ha with h1|h1
   ·exact h.sep j s a hs h1
   ·exact⟨λe=>h1 _ (.inl rfl) e.symm,λe=>h1 _ (.inr (.inl rfl)) e.symm,λe=>h1 _ (.inr (.inr (.inl rfl))) e.symm⟩
  ·exact h.sep j u a uE ha
 ·intro j k u x a b hj hk ha bW he
  rcases old j u hj with⟨rfl,rfl⟩|⟨gF,uE⟩<;>rcases old k x hk with⟨rfl,rfl⟩|⟨Fb,lD⟩
  ·rfl
  ·rcases Qf a ha with h1|h1
   ·exact h.Dg j k s x a b hs lD h1 bW he
   ·exact absurd he.symm (h1 _ (.inr (.inr (.inr ⟨k,x,b,lD,bW,rfl⟩))))
  ·rcases Qf b bW with h1|h1
   ·exact h.Dg j k u s a b uE hs ha h1 he
   ·exact absurd he (h1 _ (.inr (.inr (.inr ⟨j,u,a,uE,ha,rfl⟩))))
  ·exact h.Dg j k u x a b uE lD ha bW he
 ·exact h.hd
theorem mP.OF{i:Nat}{s s':Sl}{P:Nat->Prop}(hs:N.dW[i]? =some s)(hb:∀a,s'.b=some a->s'.b=s.b\/P a.block){k:Nat}(hk:({N with dW:=N.dW.set i s'}:mP).dF k):N.dF k\/P k:=by
 have hil:i<N.dW.length:=(kU.1 hs).1;rcases hk with hk|hk|hk|⟨j,u,a,hj,ha,rfl⟩
 ·exact .inl (.inl hk)
 ·exact .inl (.inr (.inl hk))
 ·exact .inl (.inr (.inr (.inl hk)))
 ·simp only[vT] at hj
  by_cases CR:i=j
  ·subst CR
   simp[hil] at hj;subst hj;rcases hb a ha with h1|h1
   ·exact .inl (.inr (.inr (.inr ⟨i,s,a,hs,h1▸ha,rfl⟩)))
   ·exact .inr h1
  ·rw[if_neg CR] at hj
   exact .inl (.inr (.inr (.inr ⟨j,u,a,hj,ha,rfl⟩)))
theorem lW.ie(h:lW w N n X){v:Nat}(hv:v<n){s s':Sl}{xs:List bQ}(hs:N.dW[v]? =some s)(hvec:dQ w' iR 4 eC s' xs)(hm:aW (λk=>∃a,s.b=some a/\k=a.block) w w')(hb:s'.b=s.b\/(∀a,s'.b=some a->w.heap.size<=a.block))
  {K:aH->Prop} (hK:∀w2,lW w2 {N with dW:=N.dW.set v s'} n (λj=>if j=v then xs else X j)->aW N.dF w w2->w2.heap.size=w'.heap.size->K w2):aI prog DL ((⟨N.go,0,none⟩:Addr).add (v*1)) (sv s') w' K:=by
 have hl:=h.len;have bW:∀a,s'.b=some a->s'.b=s.b\/w.heap.size<=a.block:=λa ha=>hb.imp id λh=>h a ha;have hns:∀k,(∃a,s.b=some a/\k=a.block)->k≠N.go/\k≠N.gi:=λk ⟨a,ha,hk⟩=>by have:=h.sep v s a hs ha;rw[hk];exact this.2
 have ho:=h.rW.aK hm λhk=>(hns _ hk).1 rfl;have hi:=h.KV.aK hm λhk=>(hns _ hk).2 rfl;rw[aS,pN,Nat.mul_one];refine cI ho Nm (by simp;omega) rfl rfl λw2 di wj hz=>?_;have oO:aW (λk=>(∃a,s.b=some a/\k=a.block)\/k=N.go\/k=N.gi) w w2:=(hm.mono λ_ _ h=>.inl h).tr (wj.mono λ_ _ h=>.inr (.inl h));refine hK w2 (h.ES hs (hvec.aK wj λa ha he=>?_) ?_ ?_ oO bW) (oO.mono λk _ hk=>?_) hz
 ·rcases bW a ha with h1|h1
  ·exact(h.sep v s a hs (h1▸ha)).2.1 he
  ·have:=h.rW.lt;omega
 ·rw[<-List.map_set,<-List.take_set] at di;exact di
 ·rw[List.drop_set_of_lt aB];exact hi.aK wj λe=>h.hd.2.2 e.symm
 ·rcases hk with⟨a,ha,hk⟩|hk|hk
  ·exact .inr (.inr (.inr ⟨v,s,a,hs,ha,hk.symm⟩))
  ·exact .inr (.inl hk)
  ·exact .inr (.inr (.inl hk))
theorem lW.putIn(h:lW w N n X){v:Nat}(hv:v<n){s s':Sl}{xs:List bQ}(hs:N.dW[n+v]? =some s)(hvec:dQ w' iR 4 eC s' xs)(hm:aW (λk=>∃a,s.b=some a/\k=a.block) w w')(hb:s'.b=s.b\/(∀a,s'.b=some a->w.heap.size<=a.block))
  {K:aH->Prop} (hK:∀w2,lW w2 {N with dW:=N.dW.set (n+v) s'} n (λj=>if j=n+v then xs else X j)->aW N.dF w w2->w2.heap.size=w'.heap.size->K w2):aI prog DL ((⟨N.gi,0,none⟩:Addr).add (v*1)) (sv s') w' K:=by
 have hl:=h.len;have bW:∀a,s'.b=some a->s'.b=s.b\/w.heap.size<=a.block:=λa ha=>hb.imp id λh=>h a ha;have hns:∀k,(∃a,s.b=some a/\k=a.block)->k≠N.go/\k≠N.gi:=λk ⟨a,ha,hk⟩=>by have:=h.sep (n+v) s a hs ha;rw[hk];exact this.2
 have ho:=h.rW.aK hm λhk=>(hns _ hk).1 rfl;have hi:=h.KV.aK hm λhk=>(hns _ hk).2 rfl;rw[aS,pN,Nat.mul_one];refine cI hi Nm (by simp;omega) rfl rfl λw2 di wj hz=>?_;have oO:aW (λk=>(∃a,s.b=some a/\k=a.block)\/k=N.go\/k=N.gi) w w2:=(hm.mono λ_ _ h=>.inl h).tr (wj.mono λ_ _ h=>.inr (.inr h));refine hK w2 (h.ES hs (hvec.aK wj λa ha he=>?_) ?_ ?_ oO bW) (oO.mono λk _ hk=>?_) hz
 ·rcases bW a ha with h1|h1
  ·exact(h.sep (n+v) s a hs (h1▸ha)).2.2 he
  ·have:=h.KV.lt;omega
 ·rw[List.take_set_of_le aB];exact ho.aK wj h.hd.2.2
 ·rw[<-List.map_set] at di
  have:(N.dW.drop n).set v s'=(N.dW.set (n+v) s').drop n:=by rw[List.drop_set];simp;omega
  rwa[this] at di
 ·rcases hk with⟨a,ha,hk⟩|hk|hk
  ·exact .inr (.inr (.inr ⟨n+v,s,a,hs,ha,hk.symm⟩))
  ·exact .inr (.inl hk)
  ·exact .inr (.inr (.inl hk))
end
theorem isV_i{x:Int}{n:Nat}{b:Nat}{w:aH}{K:Value->aH->Prop}(hn:cW w b cY [aD (n:Int)])(hK:∀r:Bool,(r=true↔0<=x/\x<n)->K (.bool r) w):
  lI prog (.func (.func Sn) #[] #[.pointer (some ⟨b,0,none⟩)]) [aD x] w K:=by
 refine pB Zo iA (gI (ks:=[.i,.c .ptr]) (t:=(x,some ⟨b,0,none⟩,())) ?_);show EK x (some ⟨b,0,none⟩) w λr w'=>K (.bool r) w';unfold EK;refine aJ (λh=>?_) (λh=>?_)
 ·refine aA rfl (aE (k:=.i) (n:Int) (by rw[hn.cell];rfl) (hK _ ?_))
  simp;omega
 ·exact hK false (by simp;omega)
theorem may_i{g n:Nat}{si:Value}{o1:cL}{c1:Nat}{a:bQ}{w:aH}{Q:Bool->aH->Prop}(hh:cW w g tNet [.slice o1 n c1,si])(hQ:∀w' (r:Bool),aM w w'->(r=true↔EW n a)->Q r w'):
  NA (some ⟨g,0,none⟩) (nN a) w Q:=by
 unfold NA;simp only[aG];have k1:=aM.alloc w (.cells #[aD a.f,aD a.t,aD a.w,aD a.m] 128);have RL:cW (w.alloc (.cells #[aD a.f,aD a.t,aD a.w,aD a.m] 128)) w.heap.size 128 (eC a):=cW.iP w _ 128;generalize Tw:w.alloc (.cells #[aD a.f,aD a.t,aD a.w,aD a.m] 128)=w1 at*;generalize YE:w.heap.size=b1 at*;refine aA rfl (aE (k:=.slice) ⟨o1,n,c1⟩ (by rw[aS,(hh.aK k1 id).cell];rfl) ?_);have k2:=aM.alloc w1 (.cells #[aD 0] 3);have o2:=cW.iP w1 #[aD 0] 3;have cJ:b1<w1.heap.size:=RL.lt;have o1'':=RL.aK k2 id;generalize w1.alloc (.cells #[aD 0] 3)=w2 at*;generalize RQ:w1.heap.size=b2 at*;refine cI o2 cU dL rfl rfl λw3 o3 m3 _=>?_;have oa:=o1''.aK m3 aB;have on:cW w3 b2 cY [aD (n:Int)]:=o3;have hk:aM w w3:=aW.fresh (k1.tr k2) m3 λk hk=>aB;have l0:w3.cell? ((⟨b1,0,none⟩:Addr).add 0)=some (aD a.f):=by rw[aS,oa.cell];rfl
 have l1:w3.cell? ((⟨b1,0,none⟩:Addr).add 1)=some (aD a.t):=by rw[aS,oa.cell];rfl
 have l2:w3.cell? ((⟨b1,0,none⟩:Addr).add 2)=some (aD a.w):=by rw[aS,oa.cell];rfl
 have l3:w3.cell? ((⟨b1,0,none⟩:Addr).add 3)=some (aD a.m):=by rw[aS,oa.cell];rfl
 intro J hJ;have no:¬EW n a->Q false w3:=λh=>hQ w3 false hk ⟨λh=>by simp at h,λh'=>absurd h' h⟩;have hJ':∀mid:Bool,(mid=true↔(a.m=-1\/(0<=a.m/\a.m<n/\a.m≠a.f/\a.m≠a.t)))->J (mid,()) w3:=by
  intro mid hmid;apply hJ;refine aE (k:=.i) a.f l0 ?_;refine isV_i on λr hr=>⟨r,rfl,?_⟩;refine aF (λh=>?_) (λh=>no λhm=>?_)
  ·have h1:=hr.1 h
   refine aE (k:=.i) a.t l1 ?_;refine isV_i on λr' bp=>⟨r',rfl,?_⟩;refine aF (λh=>?_) (λh=>no λhm=>?_)
   ·have h2:=bp.1 h
    refine aE (k:=.i) a.f l0 (aE (k:=.i) a.t l1 ?_);refine aF (λh=>?_) (λh=>no λhm=>?_)
    ·have h3:a.f≠a.t:=by simpa using h
     refine aE (k:=.i) a.w l2 ?_;refine aJ (λh4=>?_) (λh=>no λhm=>?_)
     ·refine aE (k:=.i) a.w l2 ?_
      refine aJ (λh5=>?_) (λh=>no λhm=>?_)
      ·refine hQ w3 mid hk ?_
       rw[hmid];exact⟨λh=>⟨h1.1,h1.2,h2.1,h2.2,h3,h4,h5,h⟩,λh=>h.2.2.2.2.2.2.2⟩
      ·exact h hm.2.2.2.2.2.2.1
     ·exact h hm.2.2.2.2.2.1
    ·have:a.f=a.t:=by simpa using h
     exact hm.2.2.2.2.1 this
   ·rw[bp.2 ⟨hm.2.2.1,hm.2.2.2.1⟩] at h;cases h
  ·rw[hr.2 ⟨hm.1,hm.2.1⟩] at h;cases h
 refine aE (k:=.i) a.m l3 ?_;refine aF (λh=>hJ' true ⟨λ_=>.inl (by simpa using h),λ_=>rfl⟩) (λh=>?_);have hm1:a.m≠-1:=by simpa using h
 refine aE (k:=.i) a.m l3 ?_;refine isV_i on λr hr=>⟨r,rfl,?_⟩;refine aF (λh=>?_) (λh=>hJ' false ⟨λh=>by simp at h,λh'=>?_⟩)
 ·have h1:=hr.1 h
  refine aE (k:=.i) a.m l3 (aE (k:=.i) a.f l0 ?_);refine aF (λh=>?_) (λh=>hJ' false ⟨λh=>by simp at h,λh'=>?_⟩)
  ·have h2:a.m≠a.f:=by simpa using h
   refine aE (k:=.i) a.m l3 (aE (k:=.i) a.t l1 (hJ' _ ?_))
   constructor
   ·intro h;exact .inr ⟨h1.1,h1.2,h2,by simpa using h⟩
   ·rintro(h|h)
    ·exact absurd h hm1
    ·simpa using h.2.2.2
  ·have h2:a.m=a.f:=by simpa using h
   rcases h' with h'|h'
   ·exact absurd h' hm1
   ·exact absurd h2 h'.2.2.1
 ·rcases h' with h'|h'
  ·exact absurd h' hm1
  ·rw[hr.2 ⟨h'.1,h'.2.1⟩] at h;cases h
def jX(n:Nat)(l:List bQ)(i:Nat):List bQ:=if i<n then dZ l (i:Int) else nK l ((i:Int)-n)
structure kZ(w:aH)(N:mP)(n:Nat)(l:List bQ):Prop where
 at_:lW w N n (jX n l)
 ok:rR n l
 sz:n<=512
theorem kZ.aN{w w':aH}{N:mP}{n:Nat}{l:List bQ}(h:kZ w N n l)(k:aM w w'):kZ w' N n l:=⟨h.at_.aN k,h.ok,h.sz⟩
theorem kZ.aK{F:Nat->Prop}{w w':aH}{N:mP}{n:Nat}{l:List bQ}(h:kZ w N n l)(k:aW F w w')(hF:∀k,N.dF k->¬F k):kZ w' N n l:=⟨h.at_.aK k hF,h.ok,h.sz⟩
end
section
abbrev Bz(x:It):List Value:=[aD x.id,aD x.key]
abbrev itV(x:It):Value:=.agg #[aD x.id,aD x.key]
abbrev yQ(x:It):Int×Int×Unit:=(x.id,x.key,())
theorem rS:∀x:It,(Bz x).length=2:=λ_=>rfl
theorem oneIt:∀x:It,∀u∈Bz x,u.oneCell'=true:=by intro x u hu;simp at hu;rcases hu with rfl|rfl<;>rfl
abbrev CT:Int->Value:=λn=>aD n
abbrev Kt:nP:=.i
theorem par_q{i:Nat}(h0:0<i)(h1:i<4611686018427387904):aQ (Int.tdiv (aQ ((i:Int)-1)) 2)=(((i-1)/2:Nat):Int):=by
 rw[gM (n:=(i:Int)-1) aB aB];have e:((i:Int)-1)=((i-1:Nat):Int):=aB;have e2:Int.tdiv ((i-1:Nat):Int) 2=(((i-1)/2:Nat):Int):=by
  rw[Int.tdiv_eq_ediv_of_nonneg aB];omega
 rw[e,e2,gM aB aB]
theorem wU{w:aH}{g:Nat}{cs:List Value}{x:It}{K:aH->Prop}(h:cW w g kY cs)(hl:cs.length=2)(hK:∀w',cW w' g kY (Bz x)->aW (λk=>k=g) w w'->K w'):
  aI prog kY ⟨g,0,none⟩ (itV x) w K:=by
 refine BZ h ZA (by simp[Value.cells,hl]) (by simp[Value.cells,Value.oneCell']) λw' ho hm _=>hK w' ?_ hm;have:cs.take 0++(itV x).cells.toList++cs.drop (0+(itV x).cells.size)=Bz x:=by
  simp[Value.cells,List.drop_of_length_le (show cs.length<=2 by omega)]
 rwa[this] at ho
theorem MJ{w:aH}{g:Nat}{x:It}(h:cW w g kY (Bz x)):bY w ⟨g,0,none⟩ 0 (qH [.i,.i] (yQ x)):=h.holds λj v hj=>by rw[pN];exact hj
theorem GH{w:aH}{s:Sl}{xs:List It}(h:Rd w s 2 Bz xs){i:Nat}{x:It}(hx:xs[i]? =some x):∃a,s.b=some a/\bY w (a.add (i*2)) 0 (qH [.i,.i] (yQ x)):=h.get i x hx
theorem Sc{x y:It}{w:aH}{Q:Bool->aH->Prop}(hQ:∀w',aM w w'->Q (pX x y) w'):kL (yQ x) (yQ y) w Q:=by
 unfold kL;simp only[aG];have o1:cW (w.alloc (.cells #[aD x.id,aD x.key] kY)) w.heap.size kY (Bz x):=cW.iP w _ _;have k1:=aM.alloc w (.cells #[aD x.id,aD x.key] kY);have tO:(w.alloc (.cells #[aD x.id,aD x.key] kY)).heap.size=w.heap.size+1:=by simp
 generalize w.alloc (.cells #[aD x.id,aD x.key] 242)=w1 at*;have o2:cW (w1.alloc (.cells #[aD y.id,aD y.key] kY)) w1.heap.size kY (Bz y):=cW.iP w1 _ _;have k2:=aM.alloc w1 (.cells #[aD y.id,aD y.key] kY);have RL:=o1.aK k2 id;generalize w1.alloc (.cells #[aD y.id,aD y.key] 242)=w2 at*;have x0:w2.cell? ((⟨w.heap.size,0,none⟩:Addr).add 0)=some (aD x.id):=by rw[aS,RL.cell];rfl
 have x1:w2.cell? ((⟨w.heap.size,0,none⟩:Addr).add 1)=some (aD x.key):=by rw[aS,RL.cell];rfl
 have y0:w2.cell? ((⟨w1.heap.size,0,none⟩:Addr).add 0)=some (aD y.id):=by rw[aS,o2.cell];rfl
 have y1:w2.cell? ((⟨w1.heap.size,0,none⟩:Addr).add 1)=some (aD y.key):=by rw[aS,o2.cell];rfl
 have hk:=k1.tr k2;refine aE (k:=.i) x.key x1 (aE (k:=.i) y.key y1 ?_);refine aJ (λh=>?_) (λh=>?_)
 ·have:pX x y=true:=jZ.2 (.inl h)
  rw[<-this];exact hQ w2 hk
 ·refine aE (k:=.i) x.key x1 (aE (k:=.i) y.key y1 ?_)
  refine aF (λhe=>?_) (λhe=>?_)
  ·have vV:x.key=y.key:=by simpa using he
   refine aE (k:=.i) x.id x0 (aE (k:=.i) y.id y0 ?_);have:pX x y=decide (x.id<y.id):=by unfold pX;simp[vV]
   rw[<-this];exact hQ w2 hk
  ·have vV:x.key≠y.key:=by simpa using he
   have:pX x y=false:=by
    have:¬pX x y=true:=by rw[jZ];omega
    simpa using this
   rw[<-this];exact hQ w2 hk
structure HS where
 g:Nat
 r:Nat
 s:Sl
def HS.dF(H:HS)(k:Nat):Prop:=k=H.g\/k=H.r\/∃a,H.s.b=some a/\k=a.block
structure UM(w:aH)(H:HS)(xs:List It)(f:Int->Option Int):Prop where
 head:cW w H.g ou [sv H.s,.map (some H.r)]
 UG:dQ w kY 2 Bz H.s xs
 map:∃n,jP w H.r CT Kt f n
 gr:H.g≠H.r
 sg:∀a,H.s.b=some a->a.block≠H.g
 sr:∀a,H.s.b=some a->a.block≠H.r
section
variable{w:aH}{H:HS}{xs:List It}{f:Int->Option Int}
theorem UM.lt(h:UM w H xs f){k:Nat}(hk:H.dF k):k<w.heap.size:=by
 rcases hk with rfl|rfl|⟨a,ha,rfl⟩
 ·exact h.head.lt
 ·obtain⟨n,hm⟩:=h.map;exact hm.lt
 ·exact h.UG.lt ha
theorem UM.aK{F:Nat->Prop}{w':aH}(h:UM w H xs f)(m:aW F w w')(hF:∀k,H.dF k->¬F k):UM w' H xs f:=
 ⟨h.head.aK m (hF _ (.inl rfl)),h.UG.aK m λa ha=>hF _ (.inr (.inr ⟨a,ha,rfl⟩)),by obtain⟨n,hm⟩:=h.map;exact⟨n,hm.aK m (hF _ (.inr (.inl rfl)))⟩,h.gr,h.sg,h.sr⟩
theorem UM.aN{w':aH}(h:UM w H xs f)(k:aM w w'):UM w' H xs f:=h.aK k λ_ _=>id
theorem UM.c0(h:UM w H xs f):w.cell? ((⟨H.g,0,none⟩:Addr).add 0)=some (sv H.s):=by rw[aS,h.head.cell];rfl
theorem UM.c1(h:UM w H xs f):w.cell? ((⟨H.g,0,none⟩:Addr).add 1)=some (.map (some H.r)):=by rw[aS,h.head.cell];rfl
theorem UM.nF(h:UM w H xs f){i:Nat}(hi:i<xs.length):∃b,H.s.b=some b:=by
 obtain⟨a,ha,_⟩:=(h.UG.rd rS).get i xs[i] (gS hi);exact⟨a,ha⟩
theorem po{i:Nat}{x:It}{Q:aH->Prop}(h:UM w H xs f)(hi:i<xs.length)
  (hQ:∀w',UM w' H (xs.set i x) (λv=>if v=x.id then some (i:Int) else f v)->aW H.dF w w'->Q w'):qP (some ⟨H.g,0,none⟩) (i:Int) (yQ x) w Q:=by
 unfold qP;simp only[aG];have o1:cW (w.alloc (.cells #[aD x.id,aD x.key] kY)) w.heap.size kY (Bz x):=cW.iP w _ _;have k1:=aM.alloc w (.cells #[aD x.id,aD x.key] kY);generalize w.alloc (.cells #[aD x.id,aD x.key] 242)=w1 at*;have k1d:aM w w1.drew:=k1.drew;have o1d:cW w1.drew w.heap.size kY (Bz x):=o1;have h1:=h.aN k1d;have hl:=h1.UG.len;obtain⟨b,hb⟩:=h1.nF hi;have hbw:b.block<w.heap.size:=h.lt (.inr (.inr ⟨b,hb,rfl⟩));refine aA rfl (aE (k:=.slice) H.s h1.c0 (aA rfl (aE (k:=.map) (some H.r) h1.c1 ?_)));refine aE (k:=.i) x.id (by rw[aS,o1d.cell];rfl) (bJ (yQ x) (MJ o1d) ?_);refine⟨⟨aB,aB⟩,aA hb ?_⟩;rw[kE];refine h1.UG.store rS hb hi x (v:=itV x) rfl ZA (oneIt x) λw2 v2 m2 z2=>?_;refine⟨by rw[aS,(o1d.aK m2 aB).cell];rfl,?_⟩;obtain⟨n,hm⟩:=h1.map;refine Rx (kn:=Kt) oU kP (z:=(0:Int)) MP (hm.aK m2 (Ne.symm (h.sr b hb))) x.id (i:Int) λw3 hm3 m3 _=>?_;refine hQ w3 ⟨(h1.head.aK m2 (Ne.symm (h.sg b hb))).aK m3 h.gr,v2.aK m3 λa ha=>h.sr a ha,⟨_,hm3⟩,h.gr,h.sg,h.sr⟩ ?_;exact(k1d.wk.trans m2 λk _ hk=>.inr (.inr ⟨b,hb,hk⟩)).trans m3 λk _ hk=>.inr (.inl hk)
end
theorem up_i{w:aH}{H:HS}{ys:List It}{f:Int->Option Int}{i:Nat}{Q:aH->Prop}(h:UM w H ys f)(hi:i<ys.length)(fU:ys.length<4611686018427387904)(hu:UpI ys i)(hp:FG f ys i)(ha:QV ys)
  (hQ:∀w' zs f',UM w' H zs f'->HOk zs->tX f' zs->(∀u,u∈zs↔u∈ys)->zs.length=ys.length->aW H.dF w w'->Q w'):Ec (some ⟨H.g,0,none⟩) (i:Int) w Q:=by
 unfold Ec;have hl:=h.UG.len;obtain⟨x,hx⟩:∃x,ys[i]? =some x:=⟨_,gS hi⟩;obtain⟨b,hb,hh⟩:=GH (h.UG.rd rS) hx;refine aA rfl (aE (k:=.slice) H.s h.c0 ⟨⟨aB,aB⟩,aA hb ?_⟩);rw[kE];refine bJ (yQ x) hh ?_;simp only[aG];have k1:=aM.alloc w (.cells #[aD 0,aD 0] kY);have o1:cW (w.alloc (.cells #[aD 0,aD 0] kY)) w.heap.size kY (Bz ⟨0,0⟩):=cW.iP w _ _;generalize w.alloc (.cells #[aD 0,aD 0] 242)=w1 at*;refine wU (x:=x) o1 rfl λw2 o2 m2=>?_;have k2:aM w w2:=aW.fresh k1 m2 λk hk=>aB;generalize La:w.heap.size=b3 at*;have hHb:∀k,H.dF k->¬k=b3:=λk hk e=>by have:=h.lt hk;omega
 have z0:ys.set i x=ys:=by
  apply AZ;intro j;rw[vT]
  by_cases e:i=j
  ·subst e;rw[if_pos rfl,if_pos hi,hx]
  ·rw[if_neg e]
 refine bO (λc t w3=>∃(i':Nat) (FO:List It) (f':Int->Option Int),c=i'/\t=((i':Int),())/\UM w3 H FO f'/\i'<FO.length/\FO.length=ys.length/\UpI (FO.set i' x) i'/\FG f' (FO.set i' x) i'/\QV (FO.set i' x)/\
   (∀u,u∈FO.set i' x↔u∈ys)/\cW w3 b3 kY (Bz x)/\aW H.dF w w3) i
  ⟨i,ys,f,rfl,rfl,h.aN k2,hi,rfl,by rw[z0];exact hu,by rw[z0];exact hp,by rw[z0];exact ha,by rw[z0];exactλ_=>Iff.rfl,o2,k2.wk⟩ ?_
 rintro i t w3 ⟨_,FO,f',rfl,rfl,h3,hi3,hl3,hu3,hp3,ha3,hm3,o3,m3⟩ X hX;dsimp only;have Uh:(FO.set i x)[i]? =some x:=by rw[vT,if_pos rfl,if_pos hi3]
 have finish:∀{w4:aH},aM w3 w4->UpI (FO.set i x) i->HOk (FO.set i x)->qP (some ⟨H.g,0,none⟩) (i:Int) (yQ x) w4 Q:=λ{w4} k4 _ kH=>by
  refine po (x:=x) (h3.aN k4) hi3 λw5 h5 m5=>?_;refine hQ w5 _ _ h5 kH (hp3.done Uh λj z hj hz e=>hj (ha3 j i z x hz Uh e)) hm3 (by rw[pJ];exact hl3) ((m3.tr k4.wk).tr m5)
 have d3:aM w3 w3.drew:=aW.drew (aW.refl _ w3);refine aJ (λuR=>?_) (λPT=>?_)
 ·have hi0:0<i:=aB
  have hpi:(i-1)/2<i:=aB;obtain⟨y,hy⟩:∃y,FO[(i-1)/2]? =some y:=⟨_,gS aB⟩;have hzp:(FO.set i x)[(i-1)/2]? =some y:=by rw[vT,if_neg aB];exact hy
  have hpar:=par_q hi0 aB;have Ag:=h3.aN d3;obtain⟨b',bW,Kf⟩:=GH (Ag.UG.rd rS) hy;refine bJ (yQ x) (MJ (o3.aK d3 id)) (aA rfl (aE (k:=.slice) H.s Ag.c0 ⟨by decide,?_⟩));rw[hpar,kE];refine⟨⟨aB,aB⟩,aA bW (bJ (yQ y) Kf ?_)⟩;refine Sc (x:=x) (y:=y) λw4 k4=>?_;have k34:=d3.tr k4;have h4:=h3.aN k34;refine aF (λcJ=>?_) (λkT=>?_)
  ·obtain⟨b',bW,Kf⟩:=GH (h4.UG.rd rS) hy
   refine aA rfl (aE (k:=.slice) H.s h4.c0 ⟨by decide,⟨aB,aB⟩,aA bW (bJ (yQ y) Kf ?_)⟩);refine po (x:=y) h4 hi3 λw5 h5 m5=>⟨by decide,?_⟩;have hss:((FO.set i x).set i y).set ((i-1)/2) x=(FO.set i y).set ((i-1)/2) x:=by rw[List.set_set]
   have ET:=up_step hu3 hi0 Uh hzp cJ;have Ui:=hp3.swap Uh hzp aB;have dF:=ha3.swap Uh hzp;have Uk:=Qw Uh hzp;rw[hss] at ET Ui dF;simp only[hss] at Uk;exact hX ((i-1)/2) _ _ aB ⟨(i-1)/2,FO.set i y,_,rfl,rfl,h5,by rw[pJ];omega,by rw[pJ];exact hl3,ET,Ui,dF,λu=>(Uk u).trans (hm3 u),(o3.aK k34 id).aK m5 λhk=>hHb _ hk rfl,(m3.tr k34.wk).tr m5⟩
  ·exact bJ (yQ x) (MJ (o3.aK k34 id)) (finish k34 hu3 (up_end hu3 Uh (.inr ⟨y,hzp,kT⟩)))
 ·exact bJ (yQ x) (MJ (o3.aK d3 id)) (finish d3 hu3 (up_end hu3 Uh (.inl aB)))
theorem down_i{w:aH}{H:HS}{ys:List It}{f:Int->Option Int}{Q:aH->Prop}(h:UM w H ys f)(hi:0<ys.length)(fU:ys.length<2305843009213693952)(hu:Wl ys 0)(hp:FG f ys 0)(ha:QV ys)
  (hQ:∀w' zs f',UM w' H zs f'->HOk zs->tX f' zs->(∀u,u∈zs↔u∈ys)->zs.length=ys.length->aW H.dF w w'->Q w'):PF (some ⟨H.g,0,none⟩) 0 w Q:=by
 unfold PF;have hl:=h.UG.len;obtain⟨x,hx⟩:∃x,ys[0]? =some x:=⟨_,gS hi⟩;obtain⟨b,hb,hh⟩:=GH (h.UG.rd rS) hx;refine aA rfl (aE (k:=.slice) H.s h.c0 ⟨⟨aB,aB⟩,aA hb ?_⟩);refine bJ (yQ x) hh ?_;simp only[aG];have k1:=aM.alloc w (.cells #[aD 0,aD 0] kY);have o1:cW (w.alloc (.cells #[aD 0,aD 0] kY)) w.heap.size kY (Bz ⟨0,0⟩):=cW.iP w _ _;generalize w.alloc (.cells #[aD 0,aD 0] 242)=w1 at*;refine wU (x:=x) o1 rfl λw2 o2 m2=>?_;have k2:aM w w2:=aW.fresh k1 m2 λk hk=>aB;generalize La:w.heap.size=b3 at*;have hHb:∀k,H.dF k->¬k=b3:=λk hk e=>by have:=h.lt hk;omega
 have z0:ys.set 0 x=ys:=by
  apply AZ;intro j;rw[vT]
  by_cases e:0=j
  ·subst e;rw[if_pos rfl,if_pos hi,hx]
  ·rw[if_neg e]
 refine bO (λc t w3=>∃(i':Nat) (FO:List It) (f':Int->Option Int),c=ys.length-i'/\t=((i':Int),())/\UM w3 H FO f'/\i'<FO.length/\FO.length=ys.length/\Wl (FO.set i' x) i'/\FG f' (FO.set i' x) i'/\QV (FO.set i' x)/\
   (∀u,u∈FO.set i' x↔u∈ys)/\cW w3 b3 kY (Bz x)/\aW H.dF w w3) ys.length
  ⟨0,ys,f,rfl,rfl,h.aN k2,hi,rfl,by rw[z0];exact hu,by rw[z0];exact hp,by rw[z0];exact ha,by rw[z0];exactλ_=>Iff.rfl,o2,k2.wk⟩ ?_
 rintro c t w3 ⟨i,FO,f',hci,rfl,h3,hi3,hl3,hu3,hp3,ha3,hm3,o3,m3⟩ X hX;subst hci;dsimp only;have Uh:(FO.set i x)[i]? =some x:=by rw[vT,if_pos rfl,if_pos hi3]
 have zne:∀j,j≠i->(FO.set i x)[j]? =FO[j]?:=λj hj=>by rw[vT,if_neg (Ne.symm hj)]
 have hzl:(FO.set i x).length=ys.length:=by rw[pJ];exact hl3
 have d3:aM w3 w3.drew:=aW.drew (aW.refl _ w3);have finish:∀{w4:aH},aM w3 w4->HOk (FO.set i x)->qP (some ⟨H.g,0,none⟩) (i:Int) (yQ x) w4 Q:=λ{w4} k4 kH=>by
  refine po (x:=x) (h3.aN k4) hi3 λw5 h5 m5=>?_;refine hQ w5 _ _ h5 kH (hp3.done Uh λj z hj hz e=>hj (ha3 j i z x hz Uh e)) hm3 hzl ((m3.tr k4.wk).tr m5)
 have e1:aQ (aQ ((2:Int)*(i:Int))+1)=((2*i+1:Nat):Int):=by
  rw[gM (n:=(2:Int)*(i:Int)) aB aB,gM aB aB];omega
 have e2:aQ (((2*i+1:Nat):Int)+1)=((2*i+2:Nat):Int):=by
  rw[gM aB aB];omega
 intro J hJ;have after:∀(k:Nat) (w4:aH),aM w3 w4->(k=2*i+1\/k=2*i+2)->(ys.length<=k->ys.length<=2*i+1)->(∀y,FO[k]? =some y->∀s,0<s->(s-1)/2=i->∀v,FO[s]? =some v->pX v y=false)->J ((k:Int),()) w4:=by
  intro k w4 k4 hk hkl fm;apply hJ;dsimp only;have d4:aM w4 w4.drew:=aW.drew (aW.refl _ w4);have k4d:=k4.tr d4;have h4:=h3.aN k4d;refine aA rfl (aE (k:=.slice) H.s h4.c0 ?_);refine aJ (λkT=>?_) (λcJ=>?_)
  ·refine bJ (yQ x) (MJ (o3.aK k4d id)) (finish k4d (Xn hu3 Uh λs hs dg v hv=>?_))
   have tO:=(kU.1 hv).1;have:=hkl aB;omega
  ·have hkl':k<FO.length:=aB
   obtain⟨y,hy⟩:∃y,FO[k]? =some y:=⟨_,gS hkl'⟩;have hki:k≠i:=aB;have hzk:(FO.set i x)[k]? =some y:=by rw[zne k hki];exact hy
   have hminz:∀s,0<s->(s-1)/2=i->∀v,(FO.set i x)[s]? =some v->pX v y=false:=λs hs dg v hv=>by
    rw[zne s aB] at hv;exact fm y hy s hs dg v hv
   obtain⟨b',bW,Kf⟩:=GH (h4.UG.rd rS) hy;have gH:0<=(k:Int)/\(k:Int)<(H.s.l:Int):=⟨aB,aB⟩;rw[kE];refine aA rfl (aE (k:=.slice) H.s h4.c0 ⟨gH,aA bW (bJ (yQ y) Kf (bJ (yQ x) (MJ (o3.aK k4d id)) ?_))⟩);refine Sc (x:=y) (y:=x) λw6 k6=>?_;have k46:=k4d.tr k6;have h6:=h3.aN k46;refine aF (λhb=>?_) (λhb=>?_)
   ·have kT:pX y x=false:=by simpa using hb
    exact bJ (yQ x) (MJ (o3.aK k46 id)) (finish k46 (Xn hu3 Uh λs hs dg v hv=>le_trans' kT (hminz s hs dg v hv)))
   ·have GA:pX y x=true:=by simpa using hb
    obtain⟨b',bW,Kf⟩:=GH (h6.UG.rd rS) hy;refine aA rfl (aE (k:=.slice) H.s h6.c0 ⟨gH,aA bW (bJ (yQ y) Kf ?_)⟩);refine po (x:=y) h6 hi3 λw8 h8 m8=>?_;have hss:((FO.set i x).set i y).set k x=(FO.set i y).set k x:=by rw[List.set_set]
    have ET:=aAj hu3 aB aB Uh hzk GA hminz;have Ui:=hp3.swap Uh hzk (Ne.symm hki);have dF:=ha3.swap Uh hzk;have Uk:=Qw Uh hzk;rw[hss] at ET Ui dF;simp only[hss] at Uk;exact hX (ys.length-k) _ _ aB ⟨k,FO.set i y,_,rfl,rfl,h8,by rw[pJ];omega,by rw[pJ];exact hl3,ET,Ui,dF,λu=>(Uk u).trans (hm3 u),(o3.aK k46 id).aK m8 λhk=>hHb _ hk rfl,(m3.tr k46.wk).tr m8⟩
 have Ag:=h3.aN d3;refine aA rfl (aE (k:=.slice) H.s Ag.c0 ?_);rw[e1,e2];refine aJ (λcJ=>?_) (λkT=>?_)
 ·have DI:2*i+2<FO.length:=aB
  obtain⟨u,wh⟩:∃u,FO[2*i+2]? =some u:=⟨_,gS DI⟩;obtain⟨v,kF⟩:∃v,FO[2*i+1]? =some v:=⟨_,gS aB⟩;obtain⟨b1,YE,hh1⟩:=GH (Ag.UG.rd rS) wh;obtain⟨b2,RQ,hh2⟩:=GH (Ag.UG.rd rS) kF;rw[kE,kE];refine aA rfl (aE (k:=.slice) H.s Ag.c0 ⟨⟨aB,aB⟩,aA YE (bJ (yQ u) hh1 ?_)⟩);refine aA rfl (aE (k:=.slice) H.s Ag.c0 ⟨⟨aB,aB⟩,aA RQ (bJ (yQ v) hh2 ?_)⟩);refine Sc (x:=u) (y:=v) λw9 k9=>?_;refine aF (λhb=>?_) (λhb=>?_)
  ·refine after (2*i+2) w9 (d3.tr k9) (.inr rfl) (λh=>aB) λy hy s hs dg z hz=>?_
   rw[wh] at hy;cases hy;have:s=2*i+1\/s=2*i+2:=aB;rcases this with rfl|rfl
   ·rw[kF] at hz;cases hz;exact qb hb
   ·rw[wh] at hz;cases hz;exact GY _
  ·refine after (2*i+1) w9 (d3.tr k9) (.inl rfl) (λh=>h) λy hy s hs dg z hz=>?_
   rw[kF] at hy;cases hy;have:s=2*i+1\/s=2*i+2:=aB;rcases this with rfl|rfl
   ·rw[kF] at hz;cases hz;exact GY _
   ·rw[wh] at hz;cases hz;exact hb
 ·refine after (2*i+1) w3.drew d3 (.inl rfl) (λh=>h) λy hy s hs dg z hz=>?_
  have tO:=(kU.1 hz).1;have:s=2*i+1\/s=2*i+2:=aB;rcases this with rfl|rfl
  ·rw[hy] at hz;cases hz;exact GY _
  ·omega
end
section
theorem lZ{q:List It}(h:BD q):q.Nodup:=h.imp λ{x y} hxy e=>by subst e;rw[GY] at hxy;cases hxy
theorem NO{xs:List It}(h:QV xs):xs.Nodup:=by
 refine Qc.2 λi j hi hj RN e=>?_;have:=h i j _ _ (gS hi) (gS hj) (by rw[e]);omega
theorem Gq{q xs:List It}(h:q.Nodup)(h':xs.Nodup)(hm:∀u,u∈q↔u∈xs):xs.length=q.length:=((List.perm_ext_iff_of_nodup h h').2 hm).length_eq.symm
def oE(w:aH)(H:HS)(q:List It):Prop:=BD q/\∃xs f,UM w H xs f/\HOk xs/\tX f xs/\(∀u,u∈q↔u∈xs)
def rI(w:aH)(H:HS)(q:List It):Prop:=oE w H q\/(q=[]/\H.s=bD/\H.r=H.g/\cW w H.g ou [sv bD,.map none])
section
variable{w:aH}{H:HS}{q:List It}
theorem oE.rP(h:oE w H q):BD q:=h.1
theorem oE.one(h:oE w H q):Ca q:=by
 obtain⟨_,xs,f,_,_,hp,hm⟩:=h
 exactλx hx y hy e=>hp.one x ((hm x).1 hx) y ((hm y).1 hy) e
theorem oE.lt(h:oE w H q){k:Nat}(hk:H.dF k):k<w.heap.size:=by obtain⟨_,xs,f,h,_⟩:=h;exact h.lt hk
theorem oE.aK{F:Nat->Prop}{w':aH}(h:oE w H q)(m:aW F w w')(hF:∀k,H.dF k->¬F k):oE w' H q:=by
 obtain⟨h0,xs,f,h,r⟩:=h;exact⟨h0,xs,f,h.aK m hF,r⟩
theorem rI.lt(h:rI w H q){k:Nat}(hk:H.dF k):k<w.heap.size:=by
 rcases h with h|⟨_,hs,hr,h⟩
 ·exact h.lt hk
 ·rcases hk with rfl|rfl|⟨a,ha,_⟩
  ·exact h.lt
  ·rw[hr];exact h.lt
  ·rw[hs] at ha;cases ha
theorem rI.aK{F:Nat->Prop}{w':aH}(h:rI w H q)(m:aW F w w')(hF:∀k,H.dF k->¬F k):rI w' H q:=h.imp (λh=>h.aK m hF) λ⟨h0,hs,hr,h⟩=>⟨h0,hs,hr,h.aK m (hF _ (.inl rfl))⟩
theorem rI.aN{w':aH}(h:rI w H q)(k:aM w w'):rI w' H q:=h.aK k λ_ _=>id
theorem qw{Q:Int->aH->Prop}(h:rI w H q)(hQ:Q (q.length:Int) w):CJ (some ⟨H.g,0,none⟩) w Q:=by
 unfold CJ;refine aF (λh=>by simp at h) (λ_=>aA rfl ?_);rcases h with⟨h0,xs,f,h,_,hp,hm⟩|⟨rfl,hs,hr,h⟩
 ·have:=h.UG.len
  have hl:=Gq (lZ h0) (NO hp.apart) hm;refine aE (k:=.slice) H.s h.c0 ?_;rw[this,hl];exact hQ
 ·exact aE (k:=.slice) bD (by rw[aS,h.cell];rfl) hQ
theorem XB{v k:Int}(hl:Cf q v k=false)(u:It):u∈(nL q v k).1↔u=⟨v,k⟩\/(u∈q/\u.id≠v):=by
 unfold nL;rw[hl];simp only[Bool.false_eq_true,if_false];rw[xW,jE];simp
theorem XD(dE:List Value)(k:Int):∀(ys:List It) (i:Nat) (x:It),ys[i]? =some x->(ys.flatMap Bz++dE).set (i*2+1) (aD k)=(ys.set i ⟨x.id,k⟩).flatMap Bz++dE
 | [],i,x,h=>by simp at h
 |y::ys,0,x,h=>by simp at h;subst h;rfl
 |y::ys,i+1,x,h=>by
  simp at h;have ih:=XD dE k ys i x h;have e:(i+1)*2+1=(i*2+1)+2:=aB;rw[e];simp only[List.set_cons_succ,EY,List.cons_append,List.nil_append];rw[ih]
theorem aAc{s:Sl}{ys:List It}{i:Nat}{x:It}{k:Int}{K:aH->Prop}(h:dQ w kY 2 Bz s ys){a:Addr}(ha:s.b=some a)(hx:ys[i]? =some x)
  (hK:∀w',dQ w' kY 2 Bz s (ys.set i ⟨x.id,k⟩)->aW (λk=>k=a.block) w w'->K w'):aI prog cY ((a.add (i*2)).add 1) (aD k) w K:=by
 rcases h.gN with⟨h1,_⟩|⟨g,dE,hb,ho,hl⟩
 ·rw[h1] at ha;cases ha
 ·rw[hb] at ha;cases ha
  have hi:=(kU.1 hx).1;have QE:=bI rS ys;rw[aS,aS,pN];refine cI ho cU (by rw[mL,QE];omega) rfl rfl λw' h2 h3 _=>hK w' ⟨by rw[pJ];exact h.len,h.cap,h.max,.inr ⟨g,dE,hb,?_,?_⟩⟩ h3
  ·rw[<-XD dE k ys i x hx];exact h2
  ·rw[<-hl,mL,mL,bI rS,bI rS,pJ]
theorem YY{IH key:Int}{Q:Bool->aH->Prop}(h:rI w H q)(fU:q.length<1000000)
  (hQ:∀w' H',oE w' H' (nL q IH key).1->H'.g=H.g->aW H.dF w w'->(∀k,H'.dF k->H.dF k\/w.heap.size<=k)->Q (nL q IH key).2 w'):rK (some ⟨H.g,0,none⟩) IH key w Q:=by
 unfold rK;refine aF (λh=>by simp at h) (λ_=>?_);intro J hJ;have sF:∀w1 H1,oE w1 H1 q->H1.g=H.g->aW H.dF w w1->(∀k,H1.dF k->H.dF k\/w.heap.size<=k)->J () w1:=by
  intro w1 H1 h1 hg1 m1 f1;apply hJ;rw[<-hg1];obtain⟨h0,xs,f,hA,kH,hp,hm⟩:=h1;have Ae:=Gq (lZ h0) (NO hp.apart) hm;have IM:=hA.UG.len;have jW:Ca q:=λx hx y hy e=>hp.one x ((hm x).1 hx) y ((hm y).1 hy) e;obtain⟨n,Qh⟩:=hA.map;refine aA rfl (aE (k:=.map) (some H1.r) hA.c1 ?_);refine OQ (kn:=Kt) oU kP (z:=(0:Int)) MP Qh IH ?_;intro J2 En;have dR:∀(w3:aH) (H3:HS) (ys:List It) (f3:Int->Option Int) (i:Nat) (x:It),UM w3 H3 ys f3->ys[i]? =some x->x.id=IH->ys.length<2000000->UpI (ys.set i ⟨IH,key⟩) i->FG f3 (ys.set i ⟨IH,key⟩) i->QV (ys.set i ⟨IH,key⟩)->
    (∀u,u∈(nL q IH key).1↔u∈ys.set i ⟨IH,key⟩)->Cf q IH key=false->H3.g=H1.g->aW H.dF w w3->(∀k,H3.dF k->H.dF k\/w.heap.size<=k)->J2 ((i:Int),()) w3:=by
   intro w3 H3 ys f3 i x hA3 hx hid hyl nj hpl hap fP LR wv m3 nu;apply En;have hi:=(kU.1 hx).1;obtain⟨b,hb⟩:=hA3.nF hi;have hl3:=hA3.UG.len;rw[<-wv];refine aA rfl (aE (k:=.slice) H3.s hA3.c0 ⟨⟨aB,aB⟩,aA hb ?_⟩);rw[kE];refine aAc (k:=key) hA3.UG hb hx λw4 v4 m4=>?_;rw[hid] at v4;have bh:H3.dF b.block:=.inr (.inr ⟨b,hb,rfl⟩);have hA4:UM w4 H3 (ys.set i ⟨IH,key⟩) f3:=⟨hA3.head.aK m4 (Ne.symm (hA3.sg b hb)),v4,by obtain⟨n,hm⟩:=hA3.map;exact⟨n,hm.aK m4 (Ne.symm (hA3.sr b hb))⟩,hA3.gr,hA3.sg,hA3.sr⟩;have M:∀{wa wb:aH} {G:Nat->Prop},aW H.dF w wa->aW G wa wb->(∀k,G k->H3.dF k)->aW H.dF w wb:=λma mb hG=>ma.trans mb λk hk hGk=>(nu k (hG k hGk)).elim id λh=>absurd h aB;have m4':=M m3 m4 λk hk=>by rw[show k=b.block from hk];exact bh
   refine up_i hA4 (by rw[pJ];exact hi) (by rw[pJ];omega) nj hpl hap λw5 zs f5 hA5 hok5 hp5 Kd hl5 m5=>?_;have hr:(nL q IH key).2=true:=by unfold nL;rw[LR];rfl
   rw[<-hr];exact hQ w5 H3 ⟨CC h0 IH key,zs,f5,hA5,hok5,hp5,λu=>(fP u).trans (Kd u).symm⟩ (wv.trans hg1) (M m4' m5 λ_ h=>h) nu
  cases hf:f IH with
  |none=>
   refine aF (λ_=>?_) (λh=>by cases h);have hni:∀z∈xs,z.id≠IH:=λz hz e=>by
    obtain⟨j,hj⟩:=oM.1 hz;have:=hp.at_ j z hj;rw[e,hf] at this;cases this
   have LR:Cf q IH key=false:=by
    have:Fa q IH=none:=by
     cases hk:Fa q IH with
     |none=>rfl
     |some k=>exact absurd rfl (hni _ ((hm _).1 (ZF hk)))
    unfold Cf;rw[this]
   refine aA rfl (aE (k:=.slice) H1.s hA.c0 (aA rfl (aE (k:=.slice) H1.s hA.c0 ?_)));simp only[aG];have k1:=aM.alloc w1 (.cells #[(aD IH),aD key] kY);have hlit:=dQ.lit w1 kY Bz rS [(⟨IH,key⟩:It)] #[(aD IH),aD key] rfl (by simp[maxLen]);have hA':=hA.aN k1;generalize w1.alloc (.cells #[aD IH,aD key] 242)=w6 at*;refine fN kv rS oneIt hA'.UG (hlit.rd rS) (by simp only[List.length_singleton];omega) (by simp only[List.length_singleton];omega) λr w7 v7 m7 f7 hrn=>?_;have hgs:¬∃a,H1.s.b=some a/\H1.g=a.block:=λ⟨a,ha,e⟩=>hA.sg a ha e.symm;have hrs:¬∃a,H1.s.b=some a/\H1.r=a.block:=λ⟨a,ha,e⟩=>hA.sr a ha e.symm;have hgl:H1.g<w6.heap.size:=hA'.lt (.inl rfl);have hrl:H1.r<w6.heap.size:=hA'.lt (.inr (.inl rfl));have sep:∀a,r.b=some a->a.block≠H1.g/\a.block≠H1.r:=λa ha=>by
    rcases f7 with e|⟨a',e,IN⟩
    ·exact⟨hA.sg a (e▸ha),hA.sr a (e▸ha)⟩
    ·rw[e] at ha;cases ha;exact⟨aB,aB⟩
   refine aA rfl ?_;rw[aS];refine cI (hA'.head.aK m7 hgs) Hu dL rfl rfl λw8 o8 m8 _=>?_;have hsl':H1.s.l=xs.length:=IM;rw[hsl'];obtain⟨n',hmap'⟩:=hA'.map;have hA8:UM w8 ⟨H1.g,H1.r,r⟩ (xs++[⟨IH,key⟩]) f:=⟨o8,v7.aK m8 λa ha=>(sep a ha).1,⟨n',(hmap'.aK m7 hrs).aK m8 hA.gr.symm⟩,hA.gr,λa ha=>(sep a ha).1,λa ha=>(sep a ha).2⟩;have FZ:(xs++[(⟨IH,key⟩:It)]).set xs.length ⟨IH,key⟩=xs++[⟨IH,key⟩]:=by
    rw[List.set_append_right _ _ (iT _)];simp
   have cV:∀(j:Nat) (z:It),(xs++[(⟨IH,key⟩:It)])[j]? =some z->(j<xs.length/\xs[j]? =some z)\/(j=xs.length/\z=⟨IH,key⟩):=λj z hz=>by
    by_cases hj:j<xs.length
    ·rw[Ey hj] at hz;exact .inl ⟨hj,hz⟩
    ·rw[Ez aB] at hz
     have:j-xs.length=0:=by have:=(kU.1 hz).1;simp at this;omega
     rw[this] at hz;simp at hz;exact .inr ⟨aB,hz.symm⟩
   have mw1:aW H.dF w w6:=m1.tr k1.wk;have has1:∀k,H1.dF k->k<w.heap.size->H.dF k:=λk hk cJ=>(f1 k hk).elim id λh=>aB;refine dR w8 ⟨H1.g,H1.r,r⟩ _ f xs.length ⟨IH,key⟩ hA8 dL rfl (by simp;omega) ?_ ?_ ?_ ?_ LR rfl ?_ ?_
   ·rw[FZ]
    refine⟨λj hj XT u v hu hv=>?_,λj hj XT _ u v hu hv=>?_⟩
    ·rcases cV j v hv with⟨h1,h2⟩|⟨h1,_⟩
     ·rcases cV _ u hu with⟨h3,h4⟩|⟨h3,_⟩
      ·exact kH j hj u v h4 h2
      ·omega
     ·omega
    ·rcases cV j v hv with⟨h1,h2⟩|⟨h1,_⟩<;>omega
   ·rw[FZ]
    refine⟨λj z hj hz=>?_,λv k hv=>?_⟩
    ·rcases cV j z hz with⟨_,h2⟩|⟨h1,_⟩
     ·exact hp.at_ j z h2
     ·omega
    ·obtain⟨z,hz,e⟩:=hp.dom v k hv
     exact⟨z,by simp[hz],e⟩
   ·rw[FZ]
    intro i j x y hx hy e;rcases cV i x hx with⟨_,h2⟩|⟨h1,rfl⟩<;>rcases cV j y hy with⟨_,h4⟩|⟨h3,rfl⟩
    ·exact hp.apart i j x y h2 h4 e
    ·exact absurd e (hni x (zH h2))
    ·exact absurd e.symm (hni y (zH h4))
    ·omega
   ·rw[FZ]
    intro u;rw[XB LR,jK,uG,hm]
    constructor
    ·rintro(rfl|⟨h,_⟩)
     ·exact .inr rfl
     ·exact .inl h
    ·rintro(h|rfl)
     ·exact .inr ⟨h,hni u h⟩
     ·exact .inl rfl
   ·refine(mw1.trans m7 λk hk ⟨a,ha,e⟩=>has1 k (.inr (.inr ⟨a,ha,e⟩)) hk).trans m8 λk hk e=>has1 k (.inl e) hk
   ·rintro k (rfl|rfl|⟨a,ha,rfl⟩)
    ·exact f1 _ (.inl rfl)
    ·exact f1 _ (.inr (.inl rfl))
    ·rcases f7 with e|⟨a',e,IN⟩
     ·exact f1 _ (.inr (.inr ⟨a,e▸ha,rfl⟩))
     ·have pI:r.b=some a:=ha
      rw[e] at pI;cases pI;exact .inr (iF mw1.size IN)
  |some v=>
   refine aF (λh=>by cases h) (λ_=>?_);obtain⟨z,hz,fh⟩:=hp.dom IH v hf;obtain⟨j,hj⟩:=oM.1 hz;have hvj:v=(j:Int):=by have:=hp.at_ j z hj;rw[fh,hf] at this;exact uQ this
   subst hvj;show aC _ _;have XT:=(kU.1 hj).1;have hkq:Fa q IH=some z.key:=by rw[<-fh];exact Xg jW ((hm z).2 hz)
   obtain⟨b,hb,hh⟩:=GH (hA.UG.rd rS) hj;refine aA rfl (aE (k:=.slice) H1.s hA.c0 ?_);have ej:((some (j:Int):Option Int).getD 0)=(j:Int):=rfl;show(0<=(j:Int)/\(j:Int)<_)/\_;refine⟨⟨aB,aB⟩,aA hb (aE (k:=.i) z.key hh.2.1 ?_)⟩;refine aJ (λkT=>?_) (λcJ=>?_)
   ·have LR:Cf q IH key=true:=by unfold Cf;rw[hkq];simpa using kT
    have e1:(nL q IH key)=(q,false):=by unfold nL;rw[LR];rfl
    rw[e1] at hQ;exact hQ w1 H1 ⟨h0,xs,f,hA,kH,hp,hm⟩ hg1 m1 f1
   ·have LR:Cf q IH key=false:=by unfold Cf;rw[hkq];simp;omega
    have GA:pX ⟨IH,key⟩ z=true:=jZ.2 (.inl (by show key<z.key;omega));have IN:=qb GA;have Pu:∀i,(xs.set j ⟨IH,key⟩)[i]? =if i=j then some ⟨IH,key⟩ else xs[i]?:=λi=>by
     rw[vT]
     by_cases e:j=i
     ·subst e;simp[XT]
     ·rw[if_neg e,if_neg (Ne.symm e)]
    refine dR w1 H1 xs f j z hA hj fh aB ?_ ?_ ?_ ?_ LR rfl m1 f1
    ·refine⟨λi hi RN u v hu hv=>?_,λi hi RN wu u v hu hv=>?_⟩
     ·rw[Pu] at hu hv
      rw[if_neg RN] at hv
      by_cases e:(i-1)/2=j
      ·rw[if_pos e] at hu;cases hu
       exact le_trans' IN (kH i hi z v (by rw[e];exact hj) hv)
      ·rw[if_neg e] at hu;exact kH i hi u v hu hv
     ·rw[Pu,if_neg aB] at hu hv
      exact le_trans' (kH j wu u z hu hj) (kH i hi z v (by rw[RN];exact hj) hv)
    ·refine⟨λi x RN hx=>?_,λv k hv=>?_⟩
     ·rw[Pu,if_neg RN] at hx;exact hp.at_ i x hx
     ·obtain⟨y,hy,e⟩:=hp.dom v k hv
      obtain⟨i,hi⟩:=oM.1 hy
      by_cases RN:i=j
      ·subst RN
       rw[hj] at hi;cases hi;exact⟨⟨IH,key⟩,oM.2 ⟨i,by rw[Pu,if_pos rfl]⟩,fh.symm.trans e⟩
      ·exact⟨y,oM.2 ⟨i,by rw[Pu,if_neg RN];exact hi⟩,e⟩
    ·have dN:∀(i:Nat) (x:It),(xs.set j ⟨IH,key⟩)[i]? =some x->∃y,xs[i]? =some y/\y.id=x.id:=λi x hx=>by
      rw[Pu] at hx
      by_cases e:i=j
      ·rw[if_pos e] at hx;cases hx;subst e;exact⟨z,hj,fh⟩
      ·rw[if_neg e] at hx;exact⟨x,hx,rfl⟩
     intro i i' x y hx hy e;obtain⟨x',h1,e1⟩:=dN i x hx;obtain⟨y',h2,e2⟩:=dN i' y hy;exact hp.apart i i' x' y' h1 h2 (by rw[e1,e2,e])
    ·intro u
     rw[XB LR]
     constructor
     ·rintro(rfl|⟨hu,gF⟩)
      ·exact oM.2 ⟨j,by rw[Pu,if_pos rfl]⟩
      ·obtain⟨i,hi⟩:=oM.1 ((hm u).1 hu)
       have:i≠j:=λe=>by subst e;rw[hj] at hi;cases hi;exact gF fh
       exact oM.2 ⟨i,by rw[Pu,if_neg this];exact hi⟩
     ·intro hu
      obtain⟨i,hi⟩:=oM.1 hu;rw[Pu] at hi
      by_cases e:i=j
      ·rw[if_pos e] at hi;cases hi;exact .inl rfl
      ·rw[if_neg e] at hi
       refine .inr ⟨(hm u).2 (zH hi),λe'=>e ?_⟩;exact hp.apart i j u z hi hj (by rw[e',fh])
 rcases h with h|⟨rfl,hs,hr,h⟩
 ·obtain⟨_,xs,f,hA,_⟩:=id h
  refine aA rfl (aE (k:=.map) (some H.r) hA.c1 ?_);exact aF (λh=>by simp at h) (λ_=>sF w H h rfl (aW.refl _ _) λk hk=>.inl hk)
 ·refine aA rfl (aE (k:=.map) none (by rw[aS,h.cell];rfl) ?_)
  refine aF (λ_=>?_) (λh=>by simp at h);refine qO (ek:=CT) (kn:=Kt) λhm k1=>?_;have cJ:=h.lt;have LG:(w.alloc (.map #[] 0)).heap.size=w.heap.size+1:=by simp
  have h1:=h.aK k1 id;generalize w.alloc (.map #[] 0)=w1 at*;refine aA rfl ?_;rw[aS];refine cI h1 Sm dL rfl rfl λw2 o2 m2 _=>?_;refine sF w2 ⟨H.g,w.heap.size,bD⟩ ⟨List.Pairwise.nil,[],λ_=>none,⟨o2,dQ.nil _ _ _ _,⟨_,hm.aK m2 aB⟩,by show H.g≠w.heap.size;omega,(λa ha=>by cases ha),(λa ha=>by cases ha)⟩,?_,⟨by simp,by simp⟩,by simp⟩ rfl (k1.wk.trans m2 λk _ e=>.inl e) ?_
  ·intro j _ u v hu;simp at hu
  ·rintro k (rfl|rfl|⟨a,ha,_⟩)
   ·exact .inl (.inl rfl)
   ·exact .inr (iT _)
   ·cases ha
end
end
section
section
variable{w:aH}{H:HS}{q:List It}
theorem Pop_i{x:It}{Q:Int->Int->Int->aH->Prop}(h:oE w H (x::q))(fU:q.length<1000000)
  (hQ:∀w' H',oE w' H' q->H'.g=H.g->(∀k,H'.dF k↔H.dF k)->aW H.dF w w'->Q x.id x.key 0 w'):HD (some ⟨H.g,0,none⟩) w Q:=by
 unfold HD;obtain⟨h0,xs,f,hA,kH,hp,hm⟩:=id h;have Ae:=Gq (lZ h0) (NO hp.apart) hm;have IM:=hA.UG.len;have hn:xs.length=q.length+1:=by rw[Ae];simp
 refine qw (.inl h) ?_;refine aF (λh=>by simp at h;omega) (λ_=>?_);obtain⟨r,hr⟩:∃r,xs[0]? =some r:=⟨_,gS aB⟩;have hrx:r=x:=by
  have h1:=(hm r).2 (zH hr);rcases lL.1 h1 with e|h1
  ·exact e
  ·have h2:=(List.pairwise_cons.1 h0).1 r h1
   obtain⟨j,hj⟩:=oM.1 ((hm x).1 dL);have:=kH.min hr j x hj;rw[this] at h2;cases h2
 subst hrx;obtain⟨kO,Ao⟩:∃y,xs[xs.length-1]? =some y:=⟨_,gS aB⟩;have wr1:aQ ((H.s.l:Int)-1)=((xs.length-1:Nat):Int):=by rw[gM aB aB];omega
 have d0:aM w w.drew:=aW.drew (aW.refl _ w);intro J hJ;have after:∀(w2:aH) (b1 b2:Nat),aM w w2->w.heap.size<=b1->w.heap.size<=b2->cW w2 b1 kY (Bz r)->cW w2 b2 kY (Bz kO)->J (some ⟨b1,0,none⟩,some ⟨b2,0,none⟩,()) w2:=by
  intro w2 b1 b2 k2 lb1 lb2 o1 o2;apply hJ;dsimp only;have d2:aM w2 w2.drew:=aW.drew (aW.refl _ w2);have k2d:=k2.tr d2;have hA2:=hA.aN k2d;have p1:=o1.aK d2 id;have p2:=o2.aK d2 id;have nb1:∀k,H.dF k->¬b1=k:=λk hk e=>by have:=hA.lt hk;omega
  have nb2:∀k,H.dF k->¬b2=k:=λk hk e=>by have:=hA.lt hk;omega
  refine aA rfl (aE (k:=.slice) H.s hA2.c0 (aA rfl (aE (k:=.slice) H.s hA2.c0 ?_)));rw[wr1,oI,kE,Nat.sub_zero,Nat.sub_zero];have Qj:=hA2.UG.cap;refine⟨⟨aB,aB⟩,aA rfl ?_⟩;rw[aS];refine cI hA2.head Hu dL rfl rfl λw3 o3 m3 _=>?_;have d3:aM w3 w3.drew:=aW.drew (aW.refl _ w3);have gm:∀k,k=H.g->H.dF k:=λk e=>.inl e;have hv3:dQ w3.drew kY 2 Bz ⟨H.s.b,xs.length-1,H.s.c⟩ (xs.take (xs.length-1)):=((hA2.UG.aK m3 λa ha=>hA.sg a ha).aK d3 (λ_ _=>id)).take aB;obtain⟨n,Qh⟩:=hA2.map;have hmap3:=(Qh.aK m3 (Ne.symm hA.gr)).aK d3 id;have o3':cW w3.drew H.g ou [sv ⟨H.s.b,xs.length-1,H.s.c⟩,.map (some H.r)]:=o3;have q1:=(p1.aK m3 (nb1 _ (.inl rfl))).aK d3 id;have q2:=(p2.aK m3 (nb2 _ (.inl rfl))).aK d3 id;have M3:aW H.dF w w3.drew:=(k2d.wk.trans m3 λk _ e=>gm k e).tr d3.wk;refine aA rfl (aE (k:=.map) (some H.r) (by rw[aS,o3'.cell];rfl) (aA rfl (aE (k:=.i) r.id (by rw[aS,q1.cell];rfl) ?_)));refine Hf (kn:=Kt) oU kP hmap3 r.id λw4 hm4 m4 _=>?_;have o4:=o3'.aK m4 hA.gr;have hv4:=hv3.aK m4 λa ha=>hA.sr a ha;have M4:aW H.dF w w4:=M3.trans m4 λk _ e=>.inr (.inl e);have r1:=q1.aK m4 (nb1 _ (.inr (.inl rfl)));have r2:=q2.aK m4 (nb2 _ (.inr (.inl rfl)));have d4:aM w4 w4.drew:=aW.drew (aW.refl _ w4);have has':∀(k:Nat),HS.dF ⟨H.g,H.r,⟨H.s.b,xs.length-1,H.s.c⟩⟩ k↔H.dF k:=λk=>Iff.rfl;have hq':BD q:=(List.pairwise_cons.1 h0).2;have hrq:r∉q:=λh=>by have:=(List.pairwise_cons.1 h0).1 r h;rw[GY] at this;cases this
  have memq:∀u,u∈q↔u∈xs/\u≠r:=λu=>by
   rw[<-hm u,lL]
   constructor
   ·intro h;exact⟨.inr h,λe=>hrq (e▸h)⟩
   ·rintro⟨h|h,gF⟩
    ·exact absurd h gF
    ·exact h
  refine aA rfl (aE (k:=.slice) ⟨H.s.b,xs.length-1,H.s.c⟩ (by rw[aS,o4.cell];rfl) ?_);refine aJ (λuR=>?_) (λPT=>?_)
  ·have Fv:0<xs.length-1:=by simpa using uR
   have Aj:∀j,j<xs.length-1->(xs.take (xs.length-1))[j]? =xs[j]?:=λj hj=>UR hj;have hA4:UM w4.drew ⟨H.g,H.r,⟨H.s.b,xs.length-1,H.s.c⟩⟩ (xs.take (xs.length-1)) (λy=>if y=r.id then none else f y):=⟨o4.aK d4 id,hv4.aK d4 (λ_ _=>id),⟨_,hm4.aK d4 id⟩,hA.gr,hA.sg,hA.sr⟩
   have ltake:(xs.take (xs.length-1)).length=xs.length-1:=by simp
   obtain⟨b,hb⟩:=hA4.nF (i:=0) aB;refine aA rfl (aE (k:=.slice) ⟨H.s.b,xs.length-1,H.s.c⟩ hA4.c0 (aA rfl (bJ (yQ kO) (MJ (r2.aK d4 id)) ⟨⟨aB,by show(0:Int)<((xs.length-1:Nat):Int);omega⟩,aA hb ?_⟩)));refine hA4.UG.store rS hb (i:=0) aB kO (v:=itV kO) rfl ZA (oneIt kO) λw5 v5 m5 _=>?_;have hA5:UM w5 ⟨H.g,H.r,⟨H.s.b,xs.length-1,H.s.c⟩⟩ ((xs.take (xs.length-1)).set 0 kO) (λy=>if y=r.id then none else f y):=
    ⟨hA4.head.aK m5 (Ne.symm (hA.sg b hb)),v5,by obtain⟨n,hm⟩:=hA4.map;exact⟨n,hm.aK m5 (Ne.symm (hA.sr b hb))⟩,hA.gr,hA.sg,hA.sr⟩
   have bh:H.dF b.block:=.inr (.inr ⟨b,hb,rfl⟩);have M5:aW H.dF w w5:=(M4.tr d4.wk).trans m5 λk _ e=>by rw[show k=b.block from e];exact bh
   have xq:∀j z,((xs.take (xs.length-1)).set 0 kO)[j]? =some z->(j=0/\z=kO)\/(j≠0/\j<xs.length-1/\xs[j]? =some z):=λj z hz=>by
    have XT:=(kU.1 hz).1;rw[pJ,ltake] at XT;rw[vT] at hz
    by_cases e:0=j
    ·subst e;rw[if_pos rfl,if_pos aB] at hz;cases hz;exact .inl ⟨rfl,rfl⟩
    ·rw[if_neg e,Aj j XT] at hz;exact .inr ⟨Ne.symm e,XT,hz⟩
   have yput0:((xs.take (xs.length-1)).set 0 kO)[0]? =some kO:=by rw[vT,if_pos rfl,if_pos aB]
   have yput:∀j z,j≠0->j<xs.length-1->xs[j]? =some z->((xs.take (xs.length-1)).set 0 kO)[j]? =some z:=λj z hj XT hz=>by
    rw[vT,if_neg (Ne.symm hj),Aj j XT];exact hz
   have ne0:∀j z,j≠0->xs[j]? =some z->z.id≠r.id:=λj z hj hz e=>hj (hp.apart j 0 z r hz hr e);have gF:kO.id≠r.id:=ne0 _ _ aB Ao;refine down_i (H:=⟨H.g,H.r,⟨H.s.b,xs.length-1,H.s.c⟩⟩) hA5 (by rw[pJ];omega) (by rw[pJ];omega) ⟨λj hj wu u v hu hv=>?_,λj _ _ h0=>aB⟩ ⟨λj z hj hz=>?_,λv k hv=>?_⟩ ?_ λw6 zs f6 hA6 hok6 hp6 hm6 hl6 m6=>?_
   ·rcases xq _ _ hu with⟨h1,_⟩|⟨_,_,h1⟩
    ·omega
    ·rcases xq _ _ hv with⟨h2,_⟩|⟨_,_,h2⟩
     ·omega
     ·exact kH j hj u v h1 h2
   ·rcases xq _ _ hz with⟨h1,_⟩|⟨_,_,h1⟩
    ·omega
    ·rw[if_neg (ne0 j z hj h1)];exact hp.at_ j z h1
   ·by_cases e:v=r.id
    ·rw[if_pos e] at hv;cases hv
    ·rw[if_neg e] at hv
     obtain⟨z,hz,ez⟩:=hp.dom v k hv;obtain⟨j,hj⟩:=oM.1 hz;have XT:=(kU.1 hj).1;have wu:j≠0:=λe0=>by subst e0;rw[hr] at hj;cases hj;exact e ez.symm
     by_cases hjn:j=xs.length-1
     ·subst hjn
      rw[Ao] at hj;cases hj;exact⟨kO,zH yput0,ez⟩
     ·exact⟨z,zH (yput j z wu aB hj),ez⟩
   ·intro i j a b ha hb e
    rcases xq _ _ ha with⟨h1,rfl⟩|⟨h1,h1',h2⟩<;>rcases xq _ _ hb with⟨h3,rfl⟩|⟨h3,XV,h4⟩
    ·omega
    ·have:=hp.apart _ _ _ _ Ao h4 e;omega
    ·have:=hp.apart _ _ _ _ h2 Ao e;omega
    ·exact hp.apart _ _ _ _ h2 h4 e
   ·have M6:aW H.dF w w6.drew:=((M5.trans m6 λk _ hk=>hk)).tr (aW.drew (aW.refl _ w6))
    have d6:aM w6 w6.drew:=aW.drew (aW.refl _ w6);have s1:=(((r1.aK d4 id).aK m5 (nb1 _ bh)).aK m6 λhk=>nb1 _ hk rfl).aK d6 id;refine aA rfl (aE (k:=.i) r.id (by rw[aS,s1.cell];rfl) (aA rfl (aE (k:=.i) r.key (by rw[aS,s1.cell];rfl) ?_)));refine hQ _ ⟨H.g,H.r,⟨H.s.b,xs.length-1,H.s.c⟩⟩ ⟨hq',zs,f6,hA6.aN d6,hok6,hp6,λu=>?_⟩ rfl has' M6;rw[hm6 u,memq u]
    constructor
    ·rintro⟨hu,Fb⟩
     obtain⟨j,hj⟩:=oM.1 hu;have XT:=(kU.1 hj).1;have wu:j≠0:=λe0=>by subst e0;rw[hr] at hj;cases hj;exact Fb rfl
     by_cases hjn:j=xs.length-1
     ·subst hjn
      rw[Ao] at hj;cases hj;exact zH yput0
     ·exact zH (yput j u wu aB hj)
    ·intro hu
     obtain⟨j,hj⟩:=oM.1 hu;rcases xq _ _ hj with⟨_,rfl⟩|⟨h1,_,h2⟩
     ·exact⟨zH Ao,λe=>gF (by rw[e])⟩
     ·exact⟨zH h2,λe=>ne0 j u h1 h2 (by rw[e])⟩
  ·have hn1:xs.length=1:=by
    have:¬((xs.length-1:Nat):Int)>0:=PT;omega
   have hq0:q=[]:=Ce aB;have s1:=r1.aK d4 id;refine aA rfl (aE (k:=.i) r.id (by rw[aS,s1.cell];rfl) (aA rfl (aE (k:=.i) r.key (by rw[aS,s1.cell];rfl) ?_)));have t0:xs.take (xs.length-1)=[]:=by rw[hn1];rfl
   rw[t0] at hv4;refine hQ _ ⟨H.g,H.r,⟨H.s.b,xs.length-1,H.s.c⟩⟩ ⟨hq',[],_,⟨o4.aK d4 id,hv4.aK d4 (λ_ _=>id),⟨_,hm4.aK d4 id⟩,hA.gr,hA.sg,hA.sr⟩,λj _ u v hu=>by simp at hu,⟨by simp,λv k hv=>?_⟩,by rw[hq0];simp⟩ rfl has' (M4.tr d4.wk)
   replace hv:(if v=r.id then none else f v)=some k:=hv
   by_cases e:v=r.id
   ·rw[if_pos e] at hv;cases hv
   ·rw[if_neg e] at hv
    obtain⟨z,hz,ez⟩:=hp.dom v k hv;obtain⟨j,hj⟩:=oM.1 hz;have XT:=(kU.1 hj).1;have:j=0:=aB;subst this;rw[hr] at hj;cases hj;exact absurd ez.symm e
 have hAd:=hA.aN d0;obtain⟨b,hb,hh⟩:=GH (hAd.UG.rd rS) hr;obtain⟨b',bW,Kf⟩:=GH (hAd.UG.rd rS) Ao;refine aA rfl (aE (k:=.slice) H.s hAd.c0 ⟨⟨aB,aB⟩,aA hb (bJ (yQ r) hh ?_)⟩);refine aA rfl (aE (k:=.slice) H.s hAd.c0 (aA rfl (aE (k:=.slice) H.s hAd.c0 ?_)));rw[wr1,kE];refine⟨⟨aB,aB⟩,aA bW (bJ (yQ kO) Kf ?_)⟩;simp only[aG];have kA:=aM.alloc w.drew (.cells #[aD 0,aD 0] 242);have oA:cW (w.drew.alloc (.cells #[aD 0,aD 0] 242)) w.drew.heap.size kY (Bz ⟨0,0⟩):=cW.iP w.drew _ _;have sA:(w.drew.alloc (.cells #[aD 0,aD 0] 242)).heap.size=w.heap.size+1:=by simp
 generalize w.drew.alloc (.cells #[aD 0,aD 0] 242)=wA at*;have kB:=aM.alloc wA (.cells #[aD 0,aD 0] 242);have oB:cW (wA.alloc (.cells #[aD 0,aD 0] 242)) wA.heap.size kY (Bz ⟨0,0⟩):=cW.iP wA _ _;generalize wA.alloc (.cells #[aD 0,aD 0] 242)=wB at*;have hA_:=hAd.aN kA;have hB_:=hA_.aN kB;have szd:w.drew.heap.size=w.heap.size:=rfl;rw[szd] at oA ⊢;have cellsOf:∀{wx:aH},UM wx H xs f->bY wx (b.add (Int.toNat (0:Int)*2)) 0 [aD r.id,aD r.key]/\bY wx (b'.add ((xs.length-1)*2)) 0 [aD kO.id,aD kO.key]/\wx.cell? ((⟨H.g,0,none⟩:Addr).add 0)=some (.slice H.s.b H.s.l H.s.c):=λ{wx} hx=>by
  obtain⟨c,hc,h1⟩:=GH (hx.UG.rd rS) hr;obtain⟨c',Ua,h2⟩:=GH (hx.UG.rd rS) Ao;rw[hb] at hc;cases hc;rw[bW] at Ua;cases Ua;exact⟨h1,h2,hx.c0⟩
 obtain⟨a1,a2,a3⟩:=cellsOf hA_;obtain⟨b1,b2,b3⟩:=cellsOf hB_;have kAB:aM w wB:=(d0.tr kA).tr kB;have oA':=oA.aK kB id;have lA:∀k,H.dF k->¬k=w.heap.size:=λk hk e=>by have:=hA.lt hk;omega
 have lB:∀k,H.dF k->¬k=wA.heap.size:=λk hk e=>by have:=hA.lt hk;omega
 constructor
 ·refine⟨a2,a3,a3,a1,a3,b2,b3,b3,b1,b3,?_⟩
  refine wU (x:=r) oA' rfl λw9 o9 m9=>?_;obtain⟨c1,c2,c3⟩:=cellsOf (hB_.aK m9 lA);refine⟨c2,c3,c3,?_⟩;refine wU (x:=kO) (oB.aK m9 aB) rfl λeV Bu YC=>?_;refine after eV _ _ ((aW.fresh kAB m9 λk e=>aB).fresh YC λk e=>aB) (iT _) aB (o9.aK YC aB) Bu
 ·refine⟨a2,a3,a3,a1,a3,b2,b3,b3,b1,b3,?_⟩
  refine wU (x:=r) oB rfl λw9 o9 m9=>?_;obtain⟨c1,c2,c3⟩:=cellsOf (hB_.aK m9 lB);refine⟨c2,c3,c3,?_⟩;refine wU (x:=kO) (oA'.aK m9 aB) rfl λeV Bu YC=>?_;refine after eV _ _ ((aW.fresh kAB m9 λk e=>aB).fresh YC λk e=>aB) aB (iT _) (o9.aK YC aB) Bu
end
end
theorem iM{w:aH}{g:Nat}{e:TypeId}{cs:List Value}(h:cW w g e cs):bY w ⟨g,0,none⟩ 0 cs:=h.holds λj v hj=>by simpa using hj
theorem laid_i{key:bQ->Int}{s:Sl}{xs:List bQ}{a:bQ}{i:Nat}{qB:Bool}{w:aH}{Q:Sl->aH->Prop}(hs:dQ w iR 4 eC s xs)(lM:YH key xs)(qF:zD key xs (key a) i)(hf:qB=true↔∃x∈xs,key x=key a)(hb:xs.length<=512)
  (hQ:∀s' w',dQ w' iR 4 eC s' (DN key xs a)->aW (λk=>∃b,s.b=some b/\k=b.block) w w'->(s'.b=s.b\/∀b,s'.b=some b->w.heap.size<=b.block)->Q s' w'):qU s (i:Int) qB (nN a) w Q:=by
 cases qB with
 |true=>
  obtain⟨x,hx,hk⟩:=hf.1 rfl;have hi:i<xs.length:=(kU.1 (qF.qB lM hx hk)).1;exact aAb hs hi λw' h1 h2=>hQ s w' (by rw[<-qF.ins_at lM hx hk];exact h1) h2 (.inl rfl)
 |false=>
  have hn:∀x∈xs,key x≠key a:=λx hx hk=>by have:=hf.2 ⟨x,hx,hk⟩;cases this
  exact ki hs qF.le aB λs' w' h1 h2 h3=>hQ s' w' (by rw[<-qF.ins_new hn];exact h1) h2 (h3.imp id λ⟨b,bW,cJ⟩ c hc=>by rw[bW] at hc;cases hc;exact cJ)
theorem Put_i{N:mP}{n:Nat}{l:List bQ}{a:bQ}{w:aH}{Q:Bool->aH->Prop}(h:kZ w N n l)
  (hQ:∀w' N',kZ w' N' n (uP n l a).1->N'.g=N.g->aW N.dF w w'->(∀k,N'.dF k->N.dF k\/w.heap.size<=k)->Q (uP n l a).2 w'):HC (some ⟨N.g,0,none⟩) (nN a) w Q:=by
 unfold HC;simp only[aG];have k1:=aM.alloc w (.cells #[aD a.f,aD a.t,aD a.w,aD a.m] 128);have oa1:cW (w.alloc (.cells #[aD a.f,aD a.t,aD a.w,aD a.m] 128)) w.heap.size 128 (eC a):=cW.iP w _ 128;generalize Tw:w.alloc (.cells #[aD a.f,aD a.t,aD a.w,aD a.m] 128)=w1 at*;generalize YE:w.heap.size=b1 at*;have hold:∀k,N.dF k->k≠b1:=λk hk=>by have:=h.at_.lt hk;omega
 refine aF (λh=>by simp at h) (λ_=>?_);refine bJ (nN a) (iM oa1) ?_;have h1:=h.aN k1;refine may_i h1.at_.head λw2 r k2 hr=>?_;have h2:=h1.aN k2;have KH:=k1.tr k2;have oa2:=oa1.aK k2 id;refine aF (λhr0=>?_) (λhr0=>?_)
 ·have vU:¬EW n a:=λhm=>by rw[hr.2 hm] at hr0;cases hr0
  have e:uP n l a=(l,false):=by unfold uP;rw[if_neg vU]
  rw[e] at hQ;exact hQ w2 N h2 rfl KH.wk λk hk=>.inl hk
 have hm:EW n a:=hr.1 (by cases r<;>simp at hr0 ⊢);have LG:=h.sz;have hf0:=hm.1;have hf1:=hm.2.1;have ht0:=hm.2.2.1;have ht1:=hm.2.2.2.1;obtain⟨v,hv⟩:∃v:Nat,a.f=(v:Int):=⟨a.f.toNat,aB⟩;obtain⟨u,hu⟩:∃u:Nat,a.t=(u:Int):=⟨a.t.toNat,aB⟩;have hvn:v<n:=aB;have De:u<n:=aB;have la:∀{w':aH},cW w' b1 128 (eC a)->w'.cell? ((⟨b1,0,none⟩:Addr).add 0)=some (aD (v:Int))/\w'.cell? ((⟨b1,0,none⟩:Addr).add 1)=some (aD (u:Int))/\w'.cell? ((⟨b1,0,none⟩:Addr).add 2)=some (aD a.w):=λho=>by
  refine⟨?_,?_,?_⟩<;>rw[aS,ho.cell]
  ·rw[<-hv];rfl
  ·rw[<-hu];rfl
  ·rfl
 have d2:aM w2 w2.drew:=aW.drew (aW.refl _ w2);have h2':=h2.aN d2;have oa2':=oa2.aK d2 id;refine aA rfl (aE (k:=.slice) ⟨some ⟨N.go,0,none⟩,n,n⟩ h2'.at_.c0 (aE (k:=.i) (v:Int) (la oa2').1 ?_));refine⟨⟨aB,by show _<(n:Int);omega⟩,aA rfl ?_⟩;obtain⟨s,hs,tQ⟩:=h2'.at_.out hvn;refine aE (k:=.slice) s tQ (aE (k:=.i) (u:Int) (la oa2').2.1 ?_);have nO:=h2'.at_.row v s hs;have hX:jX n l v=dZ l a.f:=by rw[hv];simp[jX,hvn]
 rw[hX] at nO;have hlenO:=h.ok.vA a.f;rw[<-hu];refine byTo_i (nO.rd kI) (h.ok.rP.out a.f) aB λi qB w3 k3 qF Gf=>?_;have h3:=h2'.aN k3;have k23:=(KH.tr d2).tr k3;have oa3:=oa2'.aK k3 id;intro J hJ;have hfind:(qB=true)↔∃x∈l,x.f=a.f/\x.t=a.t:=by
  rw[Gf]
  constructor
  ·rintro⟨x,hx,hk⟩;exact⟨x,(eK.1 hx).1,(eK.1 hx).2,hk⟩
  ·rintro⟨x,hx,QD,DI⟩;exact⟨x,eK.2 ⟨hx,QD⟩,DI⟩
 have hJ':uP n l a=(LQ l a,true)->J () w3.drew:=by
  intro e;rw[e] at hQ;apply hJ;have d3:aM w3 w3.drew.drew:=aW.drew (aW.drew (aW.refl _ w3));have h4:=h3.aN d3;have oa4:=oa3.aK d3 id;have k4:=k23.tr d3;generalize w3.drew.drew=w4 at*;refine aA rfl (aE (k:=.slice) ⟨some ⟨N.go,0,none⟩,n,n⟩ h4.at_.c0 (aE (k:=.i) (v:Int) (la oa4).1 ?_));refine aA rfl (aE (k:=.slice) ⟨some ⟨N.go,0,none⟩,n,n⟩ h4.at_.c0 (aE (k:=.i) (v:Int) (la oa4).1 ?_));refine⟨⟨aB,by show _<(n:Int);omega⟩,aA rfl ?_⟩;obtain⟨s',QC,hcell4⟩:=h4.at_.out hvn;rw[hs] at QC;cases QC;refine aE (k:=.slice) s hcell4 (bJ (nN a) (iM oa4) ?_);have hrow4:=h4.at_.row v s hs;rw[hX] at hrow4;refine laid_i hrow4 (h.ok.rP.out a.f) qF Gf aB λs6 w5 hv6 m5 hb6=>?_;have gF:∀k,(∃b,s.b=some b/\k=b.block)->N.dF k:=λk ⟨b,hb,hk⟩=>.inr (.inr (.inr ⟨v,s,b,hs,hb,hk.symm⟩));have oa5:=oa4.aK m5 λhk=>hold _ (gF _ hk) rfl;refine⟨(la oa5).1,?_,⟨aB,by show _<(n:Int);omega⟩,aA rfl ?_⟩
  ·have:=h4.at_.head.aK m5 λ⟨b,hb,hk⟩=>(h4.at_.sep v s b hs hb).1 hk.symm
   rw[aS,this.cell];rfl
  refine h4.at_.ie hvn hs hv6 m5 hb6 λw6 h6 m6 z6=>?_;have oa6:=oa4.aK m6 λhk=>hold _ hk rfl;have hh6:∀k,({N with dW:=N.dW.set v s6}:mP).dF k->N.dF k\/w4.heap.size<=k:=λk hk=>
   mP.OF (P:=λk=>w4.heap.size<=k) hs (λa ha=>hb6.imp id λhq=>hq a ha) hk
  have d6:aM w6 w6.drew:=aW.drew (aW.refl _ w6);have h6':=h6.aN d6;have oa6':=oa6.aK d6 id;refine aA rfl (aE (k:=.slice) ⟨some ⟨N.gi,0,none⟩,n,n⟩ h6'.c1 (aE (k:=.i) (u:Int) (la oa6').2.1 ?_));refine⟨⟨aB,by show _<(n:Int);omega⟩,aA rfl ?_⟩;obtain⟨s8,hs8,hcell8⟩:=h6'.LM De;refine aE (k:=.slice) s8 hcell8 (aE (k:=.i) (v:Int) (la oa6').1 ?_);have hX8:(if n+u=v then DN bQ.t (dZ l a.f) a else jX n l (n+u))=nK l a.t:=by
   have:¬(n+u=v):=aB;have h2:¬(n+u<n):=aB;simp only[this,if_false,jX,h2];rw[hu];congr 1;omega
  have hrow8:=h6'.row (n+u) s8 hs8;rw[hX8] at hrow8;have hlenI:=h.ok.FD a.t;rw[<-hv];refine Xq (hrow8.rd kI) (h.ok.rP.LM a.t) aB λi8 f8 w7 k7 low8 hf8=>?_;have d7:aM w7 w7.drew:=aW.drew (aW.refl _ w7);have k7':=k7.tr d7;have h7:=h6'.aN k7';have oa7:=oa6'.aK k7' id;refine aA rfl (aE (k:=.slice) ⟨some ⟨N.gi,0,none⟩,n,n⟩ h7.c1 (aE (k:=.i) (u:Int) (la oa7).2.1 ?_));refine aA rfl (aE (k:=.slice) ⟨some ⟨N.gi,0,none⟩,n,n⟩ h7.c1 (aE (k:=.i) (u:Int) (la oa7).2.1 ?_));refine⟨⟨aB,by show _<(n:Int);omega⟩,aA rfl ?_⟩;obtain⟨s9,hs9,hcell9⟩:=h7.LM De;rw[hs8] at hs9;cases hs9;refine aE (k:=.slice) s8 hcell9 (bJ (nN a) (iM oa7) ?_);have ql:=h7.row (n+u) s8 hs8;rw[hX8] at ql;have hfin:qB=true↔∃x∈nK l a.t,x.f=a.f:=by
   rw[hfind]
   constructor
   ·rintro⟨x,hx,QD,DI⟩;exact⟨x,iB.2 ⟨hx,DI⟩,QD⟩
   ·rintro⟨x,hx,hk⟩;exact⟨x,(iB.1 hx).1,hk,(iB.1 hx).2⟩
  refine laid_i ql (h.ok.rP.LM a.t) low8 hfin aB λQA w8 hv12 m8 hb12=>?_;have hne8:∀k,(∃b,s8.b=some b/\k=b.block)->({N with dW:=N.dW.set v s6}:mP).dF k:=λk ⟨b,hb,hk⟩=>.inr (.inr (.inr ⟨n+u,s8,b,hs8,hb,hk.symm⟩));have hb1w:b1<w4.heap.size:=oa4.lt;have hb1n:¬({N with dW:=N.dW.set v s6}:mP).dF b1:=λhk=>by
   rcases hh6 b1 hk with h'|h'
   ·exact hold _ h' rfl
   ·omega
  have oa8:=oa7.aK m8 λhk=>hb1n (hne8 _ hk);refine⟨(la oa8).2.1,?_,⟨aB,by show _<(n:Int);omega⟩,aA rfl ?_⟩
  ·have:=h7.head.aK m8 λ⟨b,hb,hk⟩=>(h7.sep (n+u) s8 b hs8 hb).1 hk.symm
   rw[aS,this.cell];rfl
  refine h7.putIn De hs8 hv12 m8 hb12 λw9 h9 m9 z9=>?_;have m46:aW N.dF w w6:=k4.wk.tr m6;have s67:w4.heap.size<=w7.drew.heap.size:=iF m6.size (iF d6.size k7'.size);have m69:aW N.dF w w9:=((m46.tr d6.wk).tr k7'.wk).trans m9 λk hk lD=>by
   rcases hh6 k lD with h'|h'
   ·exact h'
   ·omega
  refine hQ w9 {N with dW:=(N.dW.set v s6).set (n+u) QA} ⟨?_,h.ok.KV hm,h.sz⟩ rfl m69 λk hk=>?_
  ·have Qi:(λj=>if j=n+u then DN bQ.f (nK l a.t) a else(λj=>if j=v then DN bQ.t (dZ l a.f) a else jX n l j) j)=jX n (LQ l a):=by
    funext j
    by_cases hj1:j=n+u
    ·subst hj1
     have h2:¬(n+u<n):=aB;simp only[if_true,jX,h2,if_false];rw[tq h.ok.rP,if_pos aB];congr 2;omega
    ·simp only[hj1,if_false]
     by_cases hj2:j=v
     ·subst hj2
      simp only[if_true,jX,hvn];rw[Wy h.ok.rP,if_pos aB,hv]
     ·simp only[hj2,if_false,jX]
      split
      ·rw[Wy h.ok.rP,if_neg aB]
      ·rw[tq h.ok.rP,if_neg aB]
   rw[<-Qi];exact h9
  ·rcases mP.OF (N:={N with dW:=N.dW.set v s6}) (P:=λk=>w7.drew.heap.size<=k) hs8 (λa ha=>hb12.imp id λhq=>hq a ha) hk with h'|h'
   ·rcases hh6 k h' with h''|h''
    ·exact .inl h''
    ·exact .inr aB
   ·exact .inr aB
 have d3:aM w3 w3.drew:=aW.drew (aW.refl _ w3);have XV:=h3.aN d3;have oa3':=oa3.aK d3 id;refine aF (λhfd=>?_) (λhfd=>?_)
 ·obtain⟨x,hx,bm⟩:=Gf.1 hfd
  have hxi:=qF.qB (h.ok.rP.out a.f) hx bm;have hi:i<(dZ l a.f).length:=(kU.1 hxi).1;have Ae:=eK.1 hx;have qs:jJ l a.f a.t=some x:=by rw[<-Ae.2,<-bm];exact xX h.ok.rP Ae.1
  refine aA rfl (aE (k:=.slice) ⟨some ⟨N.go,0,none⟩,n,n⟩ XV.at_.c0 (aE (k:=.i) (v:Int) (la oa3').1 ?_));refine⟨⟨aB,by show _<(n:Int);omega⟩,aA rfl ?_⟩;obtain⟨s',QC,hcell3⟩:=XV.at_.out hvn;rw[hs] at QC;cases QC;refine aE (k:=.slice) s hcell3 ?_;have Wa:=XV.at_.row v s hs;rw[hX] at Wa;have hl3:=Wa.len;refine⟨⟨aB,aB⟩,?_⟩;obtain⟨b,hb,hh⟩:=(Wa.rd kI).get i x hxi;refine aA hb (aE (k:=.i) x.w ?_ (aE (k:=.i) a.w (la oa3').2.2 ?_))
  ·exact(oH.1 hh) 2 _ rfl
  refine aJ (λIN=>?_) (λIN=>?_)
  ·have e:uP n l a=(l,false):=by unfold uP;rw[if_pos hm,qs];simp only[IN,if_true]
   rw[e] at hQ;exact hQ _ N XV rfl (k23.tr d3).wk λk hk=>.inl hk
  ·exact hJ' (by unfold uP;rw[if_pos hm,qs];simp only[IN,if_false])
 ·have qs:jJ l a.f a.t=none:=by
   cases QE:jJ l a.f a.t with
   |none=>rfl
   |some x=>
    obtain⟨h1,h2,h3⟩:=qS QE;rw[hfind.2 ⟨x,h1,h2,h3⟩] at hfd;cases hfd
  exact hJ' (by unfold uP;rw[if_pos hm,qs])
theorem QR{N:mP}{n:Nat}{l:List bQ}{w:aH}{Q:Int->aH->Prop}(h:kZ w N n l)(hQ:Q (n:Int) w):mU (some ⟨N.g,0,none⟩) w Q:=by
 unfold mU;refine aF (λh=>by simp at h) (λ_=>?_);exact aA rfl (aE (k:=.slice) ⟨some ⟨N.go,0,none⟩,n,n⟩ h.at_.c0 hQ)
theorem has_i{N:mP}{n:Nat}{l:List bQ}{v:Int}{w:aH}{Q:Bool->aH->Prop}(h:kZ w N n l)(hQ:∀r:Bool,(r=true↔0<=v/\v<n)->Q r w):yA (some ⟨N.g,0,none⟩) v w Q:=by
 unfold yA;refine aJ (λh1=>QR h (hQ _ (by simp;omega))) (λh1=>hQ _ (by simp;omega))
theorem Wk{N:mP}{n:Nat}{l:List bQ}{v:Int}{w:aH}{Q:Sl->aH->Prop}(h:kZ w N n l)(hQ:∀s' w',dQ w' iR 4 eC s' (dZ l v)->aM w w'->(∀b,s'.b=some b->w.heap.size<=b.block)->Q s' w'):
  yB (some ⟨N.g,0,none⟩) v w Q:=by
 unfold yB;have LG:=h.sz;refine has_i h λr hr=>aF (λh1=>?_) (λh1=>?_)
 ·have hn:dZ l v=[]:=by
   apply List.filter_eq_nil_iff.2;intro x hx hxv;have:=h.ok.vS x hx;have e:x.f=v:=by simpa using hxv
   have:r=true:=hr.2 ⟨by rw[<-e];exact this.1,by rw[<-e];exact this.2.1⟩;rw[this] at h1;cases h1
  exact hQ _ w (by rw[hn];exact dQ.nil _ _ _ _) (aW.refl _ _) (λb hb=>by cases hb)
 ·have hv:=hr.1 (by cases r<;>simp at h1 ⊢)
  obtain⟨u,rfl⟩:∃u:Nat,v=(u:Int):=⟨v.toNat,aB⟩;have hu:u<n:=aB;refine aA rfl (aE (k:=.slice) ⟨some ⟨N.go,0,none⟩,n,n⟩ h.at_.c0 ?_);refine⟨⟨aB,by show _<(n:Int);omega⟩,aA rfl ?_⟩;obtain⟨s,hs,tQ⟩:=h.at_.out hu;refine aE (k:=.slice) s tQ ?_;have nO:=h.at_.row u s hs;have hX:jX n l u=dZ l (u:Int):=by simp[jX,hu]
  rw[hX] at nO;have:=h.ok.vA (u:Int);exact Sg (nO.rd kI) aB hQ
theorem In_i{N:mP}{n:Nat}{l:List bQ}{v:Int}{w:aH}{Q:Sl->aH->Prop}(h:kZ w N n l)(hQ:∀s' w',dQ w' iR 4 eC s' (nK l v)->aM w w'->(∀b,s'.b=some b->w.heap.size<=b.block)->Q s' w'):
  zL (some ⟨N.g,0,none⟩) v w Q:=by
 unfold zL;have LG:=h.sz;refine has_i h λr hr=>aF (λh1=>?_) (λh1=>?_)
 ·have hn:nK l v=[]:=by
   apply List.filter_eq_nil_iff.2;intro x hx hxv;have:=h.ok.vS x hx;have e:x.t=v:=by simpa using hxv
   have:r=true:=hr.2 ⟨by rw[<-e];exact this.2.2.1,by rw[<-e];exact this.2.2.2.1⟩;rw[this] at h1;cases h1
  exact hQ _ w (by rw[hn];exact dQ.nil _ _ _ _) (aW.refl _ _) (λb hb=>by cases hb)
 ·have hv:=hr.1 (by cases r<;>simp at h1 ⊢)
  obtain⟨u,rfl⟩:∃u:Nat,v=(u:Int):=⟨v.toNat,aB⟩;have hu:u<n:=aB;refine aA rfl (aE (k:=.slice) ⟨some ⟨N.gi,0,none⟩,n,n⟩ h.at_.c1 ?_);refine⟨⟨aB,by show _<(n:Int);omega⟩,aA rfl ?_⟩;obtain⟨s,hs,tQ⟩:=h.at_.LM hu;refine aE (k:=.slice) s tQ ?_;have nO:=h.at_.row (n+u) s hs;have hX:jX n l (n+u)=nK l (u:Int):=by
   have:¬(n+u<n):=aB;simp only[jX,this,if_false];congr 1;omega
  rw[hX] at nO;have:=h.ok.FD (u:Int);exact Sg (nO.rd kI) aB hQ
theorem CM{w:aH}{g:Nat}{cs:List Value}{x:bQ}{K:aH->Prop}(h:cW w g iR cs)(hl:cs.length=4)(hK:∀w',cW w' g iR (eC x)->aW (λk=>k=g) w w'->K w'):
  aI prog iR ⟨g,0,none⟩ (Fg x) w K:=by
 refine BZ h CB (by simp[Value.cells,hl]) (by simp[Value.cells,Value.oneCell']) λw' ho hm _=>hK w' ?_ hm;have:cs.take 0++(Fg x).cells.toList++cs.drop (0+(Fg x).cells.size)=eC x:=by
  simp[Value.cells,List.drop_of_length_le (show cs.length<=4 by omega)]
 rwa[this] at ho
theorem All_i{N:mP}{n:Nat}{l:List bQ}{w:aH}{Q:Sl->aH->Prop}(h:kZ w N n l)(hl:l.length<1099511627776)(hQ:∀s' w',dQ w' iR 4 eC s' l->aM w w'->(∀b,s'.b=some b->w.heap.size<=b.block)->Q s' w'):
  WS (some ⟨N.g,0,none⟩) w Q:=by
 unfold WS;have LG:=h.sz;refine QR h ?_;have flen:∀i,i<=n->((List.range i).flatMap λv:Nat=>dZ l (v:Int)).length<=l.length:=by
  intro i hi;have e:=ZG h.ok;obtain⟨d,rfl⟩:∃d,n=i+d:=⟨n-i,aB⟩;rw[List.range_add,IU] at e;rw[<-congrArg List.length e];simp
 refine bO (λm t w'=>∃(i:Nat) (s:Sl),i<=n/\m=n-i/\t=(s,(i:Int),())/\aM w w'/\dQ w' iR 4 eC s ((List.range i).flatMap λv:Nat=>dZ l (v:Int))/\(∀b,s.b=some b->w.heap.size<=b.block)) n
  ⟨0,bD,iG _,rfl,rfl,aW.refl _ _,dQ.nil _ _ _ _,λb hb=>by cases hb⟩ ?_
 rintro m t w' ⟨i,s,hi,rfl,rfl,hk,hv,hb⟩ X hX;dsimp only;have h':=h.aN hk;refine aJ (λcJ=>?_) (λkT=>?_)
 ·have IP:i<n:=aB
  refine aA rfl (aE (k:=.slice) ⟨some ⟨N.go,0,none⟩,n,n⟩ h'.at_.c0 ?_);refine⟨⟨aB,by show _<(n:Int);omega⟩,aA rfl ?_⟩;obtain⟨r,hr,tQ⟩:=h'.at_.out IP;refine aE (k:=.slice) r tQ ?_;have nO:=h'.at_.row i r hr;have hXr:jX n l i=dZ l (i:Int):=by simp[jX,IP]
  rw[hXr] at nO;have LA:=flen (i+1) IP;rw[List.range_succ,IU,mL] at LA;simp only[EY,List.flatMap_nil,tD] at LA;refine fN kK kI Eu hv (nO.rd kI) aB aB λr2 w2 hv2 wj RQ _=>?_;rw[gM aB aB];refine hX (n-(i+1)) _ _ aB ⟨i+1,r2,IP,rfl,rfl,aW.fresh hk wj (λk ⟨a,ha,hk⟩=>by rw[hk];exact hb a ha),?_,λb bW=>?_⟩
  ·rw[List.range_succ,IU];simpa using hv2
  ·rcases RQ with e|⟨b',e,cJ⟩
   ·exact hb b (by rw[<-e];exact bW)
   ·rw[e] at bW;cases bW;have:=hk.size;omega
 ·have IP:i=n:=aB
  subst IP;rw[ZG h.ok] at hv;exact hQ s w' hv hk hb
theorem DV{q:List It}(h:q.Nodup)(h1:Ca q){n:Nat}(hb:∀x∈q,0<=x.id/\x.id<n):q.length<=n:=by
 have:(q.map (·.id)).Nodup:=List.pairwise_map.2 (List.Pairwise.imp_of_mem (λ{x y} hx hy hn e=>hn (h1 x hx y hy e)) h);have:=wL this λv hv=>by obtain⟨x,hx,rfl⟩:=lK.1 hv;exact hb x hx
 simpa using this
theorem QW{N:mP}{n:Nat}{l:List bQ}{v:Int}{w:aH}{Q:Bool->aH->Prop}(h:kZ w N n l)(hQ:∀r:Bool,(r=true↔0<=v/\v<n)->Q r w):sJ (some ⟨N.g,0,none⟩) v w Q:=by
 unfold sJ;refine aJ (λh0=>?_) (λh0=>hQ false (by simp;omega));exact QR h (hQ _ (by simp;omega))
theorem seek_i{N:mP}{n:Nat}{L:List bQ}{a c:Int}{done:Value}{W:aH}{Q:aH->Prop}(hN:kZ W N n L)(ha:0<=a)(pI:a<n){D:Nat->Prop}{C:Nat->aH->Prop}{stop:Nat->Bool}
  (hD:∀k,D k->k<W.heap.size) (hND:∀k,N.dF k->¬D k) (h0:C 0 W)
  (cg:∀k w1 w2,C k w1->aW (λb=>W.heap.size<=b) w1 w2->C k w2)
  (hcall:∀(k:Nat) (x:It) w1 (K:WQ Value),C k w1->(eF n L c a)[k]? =some x->(∀w2,C (k+1) w2->aW D w1 w2->K (.bool (stop k)) w2)->lI prog done [aD x.id,aD x.key] w1 K)
  (hQ:∀m w',C m w'->aW D W w'->m<=(eF n L c a).length->(∀j,j+1<m->stop j=false)->((m=(eF n L c a).length/\∀j,j<m->stop j=false)\/∃j,m=j+1/\stop j=true)->Q w'):vI (some ⟨N.g,0,none⟩) a c done W Q:=by
 unfold vI;have hL:=hN.ok;have hn:=hN.sz;simp only[aG];have k1:=aM.alloc W (.cells #[Value.slice none 0 0,Value.map none] 202);have o1:cW (W.alloc (.cells #[Value.slice none 0 0,Value.map none] 202)) W.heap.size ou [sv bD,.map none]:=cW.iP W _ _;have s1:(W.alloc (.cells #[Value.slice none 0 0,Value.map none] 202)).heap.size=W.heap.size+1:=by simp
 generalize W.alloc (.cells #[Value.slice none 0 0,Value.map none] 202)=w1 at*;generalize hB:W.heap.size=B at*;have hH1:rI w1 ⟨B,B,bD⟩ []:=.inr ⟨rfl,rfl,rfl,o1⟩;refine qO (ek:=CT) (kn:=.c .bool) λhm k2=>?_;have s2:(w1.alloc (.map #[] 0)).heap.size=w1.heap.size+1:=by simp
 have hH2:=hH1.aN k2;generalize w1.alloc (.map #[] 0)=w2 at*;have rB:B<=w1.heap.size:=aB;have rH:∀k,HS.dF ⟨B,B,bD⟩ k->k=B:=by
  rintro k (h|h|⟨a,ha,_⟩)
  ·exact h
  ·exact h
  ·cases ha
 generalize hr:w1.heap.size=r at*;have newD:∀{F:Nat->Prop} {wa wb:aH},aW D W wa->aW F wa wb->(∀k,F k->B<=k)->aW D W wb:=λma mb hF=>ma.trans mb λk hk DI=>absurd (hF k DI) aB;have M2:aW D W w2:=(k1.wk).tr k2.wk;have C2:C 0 w2:=cg 0 _ _ h0 ((k1.wk).tr k2.wk);refine YY hH2 dL λw3 H3 h3 g3 m3 f3=>?_;have hp0:(nL [] a 0).1=[⟨a,0⟩]:=rfl;rw[hp0] at h3;have m3B:∀k,HS.dF ⟨B,B,bD⟩ k->B<=k:=λk hk=>by rw[rH k hk];exact iT _
 have M3:=newD M2 m3 m3B;have C3:=cg 0 _ _ C2 (m3.mono λk _ hk=>m3B k hk);have hm3:=hm.aK m3 λhk=>by have:=rH r hk;omega
 have wv:H3.g=B:=g3;have fB:∀k,H3.dF k->B<=k/\k≠r:=λk hk=>(f3 k hk).elim (λh=>by rw[rH k h];exact⟨iT _,aB⟩) λh=>⟨aB,aB⟩;refine bO (λYF t w4=>∃(k:Nat) (H:HS) (nm:Nat),YF=n+1-k/\k<=n/\(jU L c a k).2.length=k/\oE w4 H (jU L c a k).1/\H.g=B/\(∀b,H.dF b->B<=b/\b≠r)/\
   jP w4 r CT (.c .bool) (λv=>if wH (jU L c a k).2 v then some true else none) nm/\C k w4/\aW D W w4/\(∀j,j<k->stop j=false)) (n+1)
  ⟨0,H3,0,rfl,iG _,rfl,h3,wv,fB,hm3.congr (λv=>rfl) rfl,C3,M3,λj hj=>aB⟩ ?_
 rintro YF t w4 ⟨k,H,nm,rfl,hkn,hkl,h4,hg4,fB4,hm4,C4,M4,ET⟩ X hX;have UW:=xB hL c ha pI k;have FZ:=run_eq hL c ha pI k;have qj:=run_eq hL c ha pI (k+1);have Vz:jU L c a (k+1)=GG L c (jU L c a k):=rfl;rw[<-hg4];refine qw (.inl h4) ?_;cases hq:(jU L c a k).1 with
 |nil=>
  refine aJ (λh=>by simp at h) (λ_=>?_);have fU:(eF n L c a).length=k:=by
   have h1:=NG hL c ha pI;rcases Nat.lt_or_ge k (eF n L c a).length with cJ|kT
   ·have e1:(jU L c a (k+1)).2=(jU L c a k).2:=by
     rw[Vz];unfold GG;rw[hq]
    rw[e1,FZ] at qj;have:=congrArg List.length qj;simp only[pW] at this;omega
   ·have:=congrArg List.length FZ
    simp only[pW] at this;omega
  exact hQ k w4 C4 M4 aB (λj hj=>ET j aB) (.inl ⟨fU.symm,ET⟩)
 |cons x q=>
  refine aJ (λ_=>?_) (λh=>absurd (by simp only[nU];omega) h);rw[hq] at h4 UW;have hxb:=UW.gH x dL;have qm:q.length<=n:=by
   have:=DV (lZ h4.rP) h4.one (n:=n) λy hy=>(UW.gH y (by simp[hy])).2.2;simp at this;omega
  have hkq:k<n:=by have:=UW.len_q;omega
  have hst1:(jU L c a (k+1))=(pZ c ((jU L c a k).2++[x]) x.key q (dZ L x.id),(jU L c a k).2++[x]):=by
   rw[Vz];unfold GG;rw[hq]
  have bm:(eF n L c a)[k]? =some x:=by
   rw[hst1] at qj;have:((eF n L c a).take (k+1))[k]? =some x:=by
    rw[<-qj,Ez aB,hkl];simp
   rwa[UR (Nat.lt_succ_self k)] at this
  refine Pop_i h4 aB λw6 H6 h6 g6 f6 m6=>?_;have m6B:∀b,H.dF b->B<=b:=λb hb=>(fB4 b hb).1;have M6:=newD M4 m6 m6B;have C6:=cg k _ _ C4 (m6.mono λb _ hb=>m6B b hb);have hm6:=hm4.aK m6 λhb=>(fB4 r hb).2 rfl;have fB6:∀b,H6.dF b->B<=b/\b≠r:=λb hb=>fB4 b ((f6 b).1 hb);refine VZ (kn:=.c .bool) WZ kP hm6 x.id true λw7 hm7 m7 _=>?_;have h7:=h6.aK m7 λb hb e=>(fB6 b hb).2 e;have M7:=newD M6 m7 λb e=>by rw[show b=r from e];exact rB
  have C7:=cg k _ _ C6 (m7.mono λb _ e=>by rw[show b=r from e];exact rB);have hm7':jP w7 r CT (.c .bool) (λv=>if wH ((jU L c a k).2++[x]) v then some true else none) _:=hm7.congr (λv=>by
   show(if wH ((jU L c a k).2++[x]) v then some true else none)=if v=x.id then some true else if wH (jU L c a k).2 v then some true else none
   unfold wH;rw[List.any_append]
   by_cases e:v=x.id
   ·subst e;simp
   ·have:¬x.id=v:=λe'=>e e'.symm
    simp[e,this]) rfl
  refine hcall k x w7 _ C7 bm λw8 C8 m8=>⟨stop k,rfl,?_⟩;have M8:aW D W w8:=M7.tr m8;have hDB:∀b,D b->b<B:=hD;have h8:=h7.aK m8 λb hb hd=>by have:=(fB6 b hb).1;have:=hDB b hd;omega
  have hm8:=hm7'.aK m8 λhd=>by have:=hDB r hd;omega
  cases hsk:stop k with
  |true=>
   refine aF (λ_=>?_) (λh=>by simp at h);have:=(kU.1 bm).1;exact hQ (k+1) w8 C8 M8 aB (λj hj=>ET j aB) (.inr ⟨k,rfl,hsk⟩)
  |false=>
   refine aF (λh=>by simp at h) (λ_=>?_);refine Wk (hN.aK M8 hND) λs9 w9 v9 k9 f9=>?_;have M9:aW D W w9:=M8.tr k9.wk;have C9:=cg _ _ _ C8 k9.wk;have h9:=h8.aK k9 λ_ _=>id;have hm9:=hm8.aK k9 id;have hw8:B<=w8.heap.size:=hB▸M8.size;have sl9:=v9.len;have fr9:∀b,s9.b=some b->¬H6.dF b.block/\b.block≠r/\b.block<w9.heap.size/\B<=b.block:=λb hb=>by
    have h1:=f9 b hb;exact⟨λh=>by have:=h8.lt h;omega,λe=>by have:=hm8.lt;omega,v9.lt hb,aB⟩
   have hol:=hL.vA x.id;refine bO (λYF t eV=>∃(i:Nat) (H':HS),i<=(dZ L x.id).length/\YF=(dZ L x.id).length-i/\t=((i:Int),())/\oE eV H' (pZ c ((jU L c a k).2++[x]) x.key q ((dZ L x.id).take i))/\H'.g=B/\(∀b,H'.dF b->B<=b/\b≠r)/\
     (∀b,s9.b=some b->¬H'.dF b.block)/\(∃nm',jP eV r CT (.c .bool) (λv=>if wH ((jU L c a k).2++[x]) v then some true else none) nm')/\C (k+1) eV/\aW D W eV/\dQ eV iR 4 eC s9 (dZ L x.id)) (dZ L x.id).length
    ⟨0,H6,iG _,rfl,rfl,by simpa [pZ] using h9,g6.trans hg4,fB6,λb hb=>(fr9 b hb).1,⟨_,hm9⟩,C9,M9,v9⟩ ?_
   rintro YF t eV ⟨i,H',hi,rfl,rfl,IQ,g10,fB10,fs10,⟨nm',hm10⟩,C10,M10,v10⟩ Y hY;dsimp only;refine aJ (λcJ=>?_) (λkT=>?_)
   ·have dJ:i<(dZ L x.id).length:=aB
    refine⟨⟨aB,aB⟩,?_⟩;obtain⟨p,hp,hh⟩:=wI (v10.rd kI) (gS dJ);have fP:=nE dJ;have tk:=Yp c ((jU L c a k).2++[x]) x.key q ((dZ L x.id).take i) ((dZ L x.id)[i]);rw[<-FQ dJ] at tk;generalize (dZ L x.id)[i]=e at*;obtain⟨heL,hef⟩:=eK.1 fP;obtain⟨_,_,et0,et1,_,ew0,ew1,_⟩:=hL.vS e heL;refine aA hp (bJ (nN e) hh ?_);simp only[aG];have kA:=aM.alloc eV (.cells #[aD 0,aD 0,aD 0,aD 0] 128);have oA:cW (eV.alloc (.cells #[aD 0,aD 0,aD 0,aD 0] 128)) eV.heap.size 128 (eC ⟨0,0,0,0⟩):=cW.iP eV _ _;generalize eV.alloc (.cells #[aD 0,aD 0,aD 0,aD 0] 128)=wA at*;refine CM (x:=e) oA rfl λeR Db Ad=>?_;have KH:aM eV eR:=aW.fresh kA Ad λb hb=>aB;have Bx:=IQ.aK KH λ_ _=>id;have yf:=hm10.aK KH id;have C12:=cg _ _ _ C10 KH.wk;have M12:aW D W eR:=M10.tr KH.wk;have YA:=v10.aK KH λ_ _=>id;have c1:eR.cell? ((⟨eV.heap.size,0,none⟩:Addr).add 1)=some (aD e.t):=by rw[aS,Db.cell];rfl
    have c2:eR.cell? ((⟨eV.heap.size,0,none⟩:Addr).add 2)=some (aD e.w):=by rw[aS,Db.cell];rfl
    have wi:aQ ((i:Int)+1)=((i+1:Nat):Int):=by rw[gM aB aB];rfl
    have skip:(e.t=c\/wH ((jU L c a k).2++[x]) e.t=true)->Y (aQ ((i:Int)+1),()) eR:=λhc=>by
     rw[wi];exact hY _ _ _ aB ⟨i+1,H',dJ,rfl,rfl,by rw[tk,if_pos hc];exact Bx,g10,fB10,fs10,⟨_,yf⟩,C12,M12,YA⟩
    refine aE (k:=.i) e.t c1 ?_;refine aF (λgF=>?_) (λheq=>skip (.inl (by simpa using heq)));have Fb:e.t≠c:=by simpa using gF
    refine aE (k:=.i) e.t c1 ?_;refine wM (kn:=.c .bool) WZ kP (z:=false) Nh yf e.t ?_;cases IP:wH ((jU L c a k).2++[x]) e.t with
    |true=>
     exact aF (λh=>by cases h) (λ_=>skip (.inr IP))
    |false=>
     refine aF (λ_=>?_) (λh=>by cases h);refine aE (k:=.i) e.t c1 (aE (k:=.i) e.w c2 ?_);have tF:x.key<=512*1099511627776:=by
      omega
     rw[gM (n:=x.key+e.w) aB aB];have hpl:(pZ c ((jU L c a k).2++[x]) x.key q ((dZ L x.id).take i)).length<=n:=by
      refine DV (lZ IQ.rP) IQ.one λy hy=>?_;have hq1:=List.pairwise_cons.1 UW.rP;have jW:Ca q:=λu hu v hv=>UW.one u (by simp[hu]) v (by simp[hv]);rcases(ON (c:=c) (s:=(jU L c a k).2++[x]) (d:=x.key) (l:=(dZ L x.id).take i) hq1.2 jW).2.2.1 y hy with db|⟨e',vV,_,_,rfl⟩
      ·exact(UW.gH y (by simp[db])).2.2
      ·have:=hL.vS e' (eK.1 (List.mem_of_mem_take vV)).1
       exact⟨this.2.2.1,this.2.2.2.1⟩
     rw[hg4,<-g10];refine YY (.inl Bx) aB λmC H14 h14 g14 YB f14=>?_;have m14B:∀b,H'.dF b->B<=b:=λb hb=>(fB10 b hb).1;have hr12:=yf.lt;rw[wi];refine hY _ _ _ aB ⟨i+1,H14,dJ,rfl,rfl,?_,by rw[g14,g10],λb hb=>?_,λb hb h=>?_,⟨_,yf.aK YB λh=>(fB10 r h).2 rfl⟩,cg _ _ _ C12 (YB.mono λb _ hb=>m14B b hb),newD M12 YB m14B,YA.aK YB λb hb h=>fs10 b hb h⟩
     ·rw[tk,if_neg (λh=>h.elim Fb λh=>by rw[IP] at h;cases h)]
      exact h14
     ·rcases f14 b hb with h|h
      ·exact fB10 b h
      ·exact⟨aB,aB⟩
     ·rcases f14 _ h with h|h
      ·exact fs10 b hb h
      ·have:=YA.lt hb;omega
   ·have e:i=(dZ L x.id).length:=aB
    subst e;rw[oZ] at IQ;refine hX (n+1-(k+1)) _ _ aB ⟨k+1,H',_,rfl,aB,by rw[hst1];simp[hkl],by rw[hst1];exact IQ,g10,fB10,by rw[hst1];exact hm10,C10,M10,λj hj=>?_⟩;rcases Nat.lt_or_ge j k with h|h
    ·exact ET j h
    ·have:j=k:=aB
     rw[this];exact hsk
theorem gX{w:aH}{g:Nat}{e:TypeId}{v:Value}(h:cW w g e [v]):w.cell? ⟨g,0,none⟩=some v:=by rw[h.cell];rfl
theorem aAA{b1 b2 b3 b4:Nat}{v d to eQ st:Int}{fd:Bool}{w:aH}{K:Bool->aH->Prop}(o1:cW w b1 cY [aD to])(o2:cW w b2 cY [aD eQ])(o3:cW w b3 cY [aD st])(o4:cW w b4 xR [.bool fd])
  (h1:b1≠b3) (h2:b2≠b3) (h3:b3≠b4) (h4:b1≠b4) (h5:b2≠b4) (ET:-1000000<st/\st<2000000)
  (hK:∀w',cW w' b1 cY [aD to]->cW w' b2 cY [aD eQ]->cW w' b3 cY [aD (st-1)]->cW w' b4 xR [.bool (decide (v=to) && decide (d<=eQ))]->aW (λb=>b=b3\/b=b4) w w'->K (decide (v=to) ||decide (st-1=0)) w'):
  mY v d (some ⟨b3,0,none⟩) (some ⟨b1,0,none⟩) (some ⟨b2,0,none⟩) (some ⟨b4,0,none⟩) w K:=by
 unfold mY;refine aA rfl (aE (k:=.i) st (gX o3) (aA rfl ?_));rw[gM aB aB];refine cI o3 cU dL rfl rfl λw1 p3 m1 _=>?_;have p1:=o1.aK m1 h1;have p2:=o2.aK m1 h2;have p4:=o4.aK m1 (Ne.symm h3);have p3':cW w1 b3 cY [aD (st-1)]:=p3;refine aA rfl (aE (k:=.i) to (gX p1) ?_);refine aF (λhe=>?_) (λhe=>?_)
 ·have vV:v=to:=by simpa using he
  refine aA rfl (aE (k:=.i) eQ (gX p2) (aA rfl ?_));refine cI p4 gV dL rfl rfl λw2 q4 m2 _=>?_;refine aA rfl (aE (k:=.i) to (gX (p1.aK m2 h4)) ?_);refine aF (λ_=>?_) (λh=>by rw[he] at h;cases h);have:=hK w2 (p1.aK m2 h4) (p2.aK m2 h5) (p3'.aK m2 h3) (by simpa [vV] using q4) ((m1.mono λb _ h=>.inl h).tr (m2.mono λb _ h=>.inr h));simpa [vV] using this
 ·have vV:v≠to:=by simpa using he
  refine aA rfl ?_;refine cI p4 gV dL rfl rfl λw2 q4 m2 _=>?_;refine aA rfl (aE (k:=.i) to (gX (p1.aK m2 h4)) ?_);refine aF (λh=>by rw[he] at h;cases h) (λ_=>?_);refine aA rfl (aE (k:=.i) (st-1) (gX (p3'.aK m2 h3)) ?_);have:=hK w2 (p1.aK m2 h4) (p2.aK m2 h5) (p3'.aK m2 h3) (by simpa [vV] using q4) ((m1.mono λb _ h=>.inl h).tr (m2.mono λb _ h=>.inr h));have e:(decide (v=to) ||decide (st-1=0))=((st-1:Int)==(0:Int)):=by rw[Bool.eq_iff_iff];simp[vV]
  rw[e] at this;exact this
theorem Find_i{N:mP}{n:Nat}{L:List bQ}{a to c eQ fJ:Int}{w:aH}{Q:Bool->aH->Prop}(h:kZ w N n L)(hs:fJ<1000000)(hQ:∀w',aM w w'->Q (PR n L a to c eQ fJ) w'):
  vJ (some ⟨N.g,0,none⟩) a to c eQ fJ w Q:=by
 unfold vJ;simp only[aG];have k1:=aM.alloc w (.cells #[aD to] 3);have o1:cW (w.alloc (.cells #[aD to] 3)) w.heap.size cY [aD to]:=cW.iP w _ _;have z1:(w.alloc (.cells #[aD to] 3)).heap.size=w.heap.size+1:=by simp
 generalize w.alloc (.cells #[aD to] 3)=w1 at*;have k2:=aM.alloc w1 (.cells #[aD eQ] 3);have o2:cW (w1.alloc (.cells #[aD eQ] 3)) w1.heap.size cY [aD eQ]:=cW.iP w1 _ _;have z2:(w1.alloc (.cells #[aD eQ] 3)).heap.size=w1.heap.size+1:=by simp
 generalize w1.alloc (.cells #[aD eQ] 3)=w2 at*;have k3:=aM.alloc w2 (.cells #[aD fJ] 3);have o3:cW (w2.alloc (.cells #[aD fJ] 3)) w2.heap.size cY [aD fJ]:=cW.iP w2 _ _;have z3:(w2.alloc (.cells #[aD fJ] 3)).heap.size=w2.heap.size+1:=by simp
 generalize w2.alloc (.cells #[aD fJ] 3)=w3 at*;have k4:=aM.alloc w3 (.cells #[Value.bool false] 4);have o4:cW (w3.alloc (.cells #[Value.bool false] 4)) w3.heap.size xR [.bool false]:=cW.iP w3 _ _;have z4:(w3.alloc (.cells #[Value.bool false] 4)).heap.size=w3.heap.size+1:=by simp
 generalize w3.alloc (.cells #[Value.bool false] 4)=w4 at*;have p3:=o3.aK k4 id;have p2:=(o2.aK k3 id).aK k4 id;have p1:=((o1.aK k2 id).aK k3 id).aK k4 id;have K4:aM w w4:=((k1.tr k2).tr k3).tr k4;have h4:=h.aN K4;generalize YE:w.heap.size=b1 at*;generalize RQ:w1.heap.size=b2 at*;generalize La:w2.heap.size=b3 at*;generalize hb4:w3.heap.size=b4 at*;have no:∀{w':aH},aM w w'->cW w' b4 xR [.bool false]->PR n L a to c eQ fJ=false->aI prog xR ⟨b4,0,none⟩ (.bool false) w' λCy=>xL .bool Cy ⟨b4,0,none⟩ λb=>Q b Cy:=λ{w'} k o hf=>by
  refine cI o gV dL rfl rfl λCy o'' m'' _=>?_;refine aE (k:=.bool) false (gX o'') ?_;rw[<-hf];exact hQ Cy (k.fresh m'' λb e=>by rw[show b=b4 from e];omega)
 refine QW h4 λr1 hr1=>?_;refine aF (λhb=>no K4 o4 ?_) (λhb=>?_)
 ·unfold PR
  have:¬(0<=a/\a<n):=λh=>by rw[hr1.2 h] at hb;cases hb
  simp only[this,decide_false,Bool.false_and]
 have ha:=hr1.1 (by cases r1<;>simp at hb ⊢);refine aE (k:=.i) to (gX p1) ?_;refine QW h4 λr2 Po=>?_;refine aF (λhb=>no K4 o4 ?_) (λhb=>?_)
 ·unfold PR
  have:¬(0<=to/\to<n):=λh=>by rw[Po.2 h] at hb;cases hb
  simp only[this,decide_false,Bool.false_and,Bool.and_false]
 have ht:=Po.1 (by cases r2<;>simp at hb ⊢);refine aF (λhe=>no K4 o4 ?_) (λgF=>?_)
 ·have:a=c:=by simpa using he
  unfold PR;simp[this]
 have hac:a≠c:=by simpa using gF
 refine aE (k:=.i) fJ (gX p3) ?_;have e0:PR n L a to c eQ fJ=yi (eF n L c a) to eQ fJ:=by
  unfold PR;rw[decide_eq_true ha,decide_eq_true ht,decide_eq_true hac];rfl
 refine aJ (λcJ=>no K4 o4 ?_) (λkT=>?_)
 ·rw[e0]
  unfold yi;rw[show fJ.toNat=0 by omega];rfl
 have hnl:=h4.sz;have IM:=NG h4.ok c ha.1 ha.2;refine seek_i h4 ha.1 ha.2 (D:=λb=>b=b3\/b=b4)
  (C:=λk w'=>k<=n/\cW w' b1 cY [aD to]/\cW w' b2 cY [aD eQ]/\cW w' b3 cY [aD (fJ-k)]/\cW w' b4 xR [.bool (Rb (eF n L c a) to eQ k)])
  (stop:=VD (eF n L c a) to fJ) (λb hb=>aB) (λb hb hd=>by have:=h.at_.lt hb;omega) ⟨iG _,p1,p2,by simpa using p3,o4⟩
  (λk wa wb ⟨hk,q1,q2,q3,q4⟩ m=>⟨hk,q1.aK m aB,q2.aK m aB,q3.aK m aB,q4.aK m aB⟩) ?_ ?_
 ·intro k x wa K ⟨hk,q1,q2,q3,q4⟩ hx hK
  have hkl:=(kU.1 hx).1;refine pB XO iA (first:=#[]) (gI (ks:=[.i,.i,.c .ptr,.c .ptr,.c .ptr,.c .ptr]) (t:=(x.id,x.key,some ⟨b3,0,none⟩,some ⟨b1,0,none⟩,some ⟨b2,0,none⟩,some ⟨b4,0,none⟩,())) ?_)
  show mY x.id x.key (some ⟨b3,0,none⟩) (some ⟨b1,0,none⟩) (some ⟨b2,0,none⟩) (some ⟨b4,0,none⟩) wa λr w'=>K (.bool r) w';refine aAA q1 q2 q3 q4 aB aB aB aB aB ⟨aB,aB⟩ λwb r1 r2 r3 r4 m=>?_;have e1:(decide (x.id=to) ||decide (fJ-(k:Int)-1=0))=VD (eF n L c a) to fJ k:=by
   unfold VD;rw[hx];have:decide (fJ-(k:Int)-1=0)=decide (fJ=(k:Int)+1):=by
    apply decide_eq_decide.2;omega
   simp only[this]
  rw[e1];refine hK wb ⟨aB,r1,r2,?_,?_⟩ m
  ·have:fJ-(k:Int)-1=fJ-((k+1:Nat):Int):=aB
   rw[<-this];exact r3
  ·have:Rb (eF n L c a) to eQ (k+1)=(decide (x.id=to) && decide (x.key<=eQ)):=by rw[NK,hx]
   rw[this];exact r4
 ·intro m eE ⟨hk,q1,q2,q3,q4⟩ Jx hml ET hend
  have Gf:=aAg (eQ:=eQ) (Yo h4.ok c ha.1 ha.2) (Lu h4.ok c ha.1 ha.2) aB hml ET hend;rw[Gf] at q4;refine aE (k:=.bool) _ (gX q4) ?_;refine cI q4 gV dL rfl rfl λeR Db Ad _=>?_;refine aE (k:=.bool) _ (gX Db) ?_;rw[<-e0];exact hQ eR ((K4.fresh Jx λb hb=>aB).fresh Ad λb e=>by rw[show b=b4 from e];omega)
abbrev eSl(s:Sl):List Value:=[sv s]
theorem Ij{w:aH}{e:TypeId}{g n:Nat}{xs:List Sl}(h:dQ w e 1 eSl ⟨some ⟨g,0,none⟩,n,n⟩ xs):cW w g e (xs.map sv):=by
 rcases h.gN with⟨h0,_⟩|⟨g',dE,hb,ho,hl⟩
 ·cases h0
 ·have:g'=g:=by cases hb;rfl
  subst this;have fU:=h.len;have hf:xs.flatMap eSl=xs.map sv:=by
   clear ho hl hb h fU
   induction xs with
   |nil=>rfl
   |cons x r ih=>simp[EY,ih]
  have hr:dE=[]:=by
   rw[mL,hf,oL] at hl;apply Ce;have:n=xs.length:=fU;simp only at hl;omega
  rw[hr,tD,hf] at ho;exact ho
theorem init_i{w:aH}{n go gi:Nat}(hn:n<=512)(h1:cW w go DL ((List.replicate n (bD:Sl)).map sv))(h2:cW w gi DL ((List.replicate n (bD:Sl)).map sv))(gF:go≠gi):
  kZ (w.alloc (.cells #[sv ⟨some ⟨go,0,none⟩,n,n⟩,sv ⟨some ⟨gi,0,none⟩,n,n⟩] tNet)) ⟨w.heap.size,go,gi,List.replicate (n+n) bD⟩ n []:=by
 have k:=aM.alloc w (.cells #[sv ⟨some ⟨go,0,none⟩,n,n⟩,sv ⟨some ⟨gi,0,none⟩,n,n⟩] tNet);have l1:=h1.lt;have l2:=h2.lt;have nil:∀(i:Nat) (s:Sl),(List.replicate (n+n) (bD:Sl))[i]? =some s->s=bD:=λi s hs=>by
  rw[Ev] at hs
  split at hs
  ·exact(uQ hs).symm
  ·cases hs
 refine⟨⟨cW.iP w _ _,?_,?_,by simp,?_,?_,?_,?_⟩,rR.nil n,hn⟩
 ·have:(List.replicate (n+n) (bD:Sl)).take n=List.replicate n bD:=by simp
  rw[this];exact h1.aK k id
 ·have:(List.replicate (n+n) (bD:Sl)).drop n=List.replicate n bD:=by simp
  rw[this];exact h2.aK k id
 ·intro i s hs
  rw[nil i s hs];have:jX n [] i=[]:=by simp[jX,dZ,nK]
  rw[this];exact dQ.nil _ _ _ _
 ·intro i s a hs ha;rw[nil i s hs] at ha;cases ha
 ·intro i j s u a b hs _ ha _ _;rw[nil i s hs] at ha;cases ha
 ·exact⟨λe:w.heap.size=go=>aB,λe:w.heap.size=gi=>aB,gF⟩
theorem New_i{n:Int}{s:Sl}{xs:List bQ}{w:aH}{Q:cL->Int->aH->Prop}(hr:Rd w s 4 eC xs)(fU:xs.length<1099511627776)
  (RZ:∀w',aM w w'->¬(0<=n/\n<=512/\∀a∈xs,EW n.toNat a)->Q none 1 w')
  (kH:∀w' N,0<=n->n<=512->(∀a∈xs,EW n.toNat a)->kZ w' N n.toNat (gP n.toNat [] xs)->aM w w'->(∀k,N.dF k->w.heap.size<=k)->Q (some ⟨N.g,0,none⟩) 0 w'):HP n s w Q:=by
 unfold HP;have hl:=hr.len;refine aJ (λh=>RZ w (aW.refl _ _) aB) (λh0=>?_);refine aJ (λh=>RZ w (aW.refl _ _) aB) (λh1=>?_);obtain⟨m,rfl⟩:∃m:Nat,n=(m:Int):=⟨n.toNat,aB⟩;have hm:m<=512:=aB;simp only[kE] at RZ kH;intro J hJ;have main:∀w1 N,kZ w1 N m []->aM w w1->(∀k,N.dF k->w.heap.size<=k)->J (some ⟨N.g,0,none⟩,()) w1:=by
  intro w1 N hN hk hfr;apply hJ;refine bO (λc t w2=>∃(i:Nat) (N2:mP),i<=xs.length/\c=xs.length-i/\t=((i:Int),())/\kZ w2 N2 m (gP m [] (xs.take i))/\N2.g=N.g/\aM w w2/\(∀k,N2.dF k->w.heap.size<=k)/\(∀a∈xs.take i,EW m a)) xs.length
   ⟨0,N,iG _,rfl,rfl,by simpa [gP] using hN,rfl,hk,hfr,by simp⟩ ?_
  rintro c t w2 ⟨i,N2,hi,rfl,rfl,hN2,hg,DI,hfr2,uH⟩ X hX;dsimp only;refine aJ (λcJ=>?_) (λkT=>?_)
  ·have dJ:i<xs.length:=aB
   refine⟨⟨aB,aB⟩,?_⟩;obtain⟨a,ha,hh⟩:=wI (hr.aK DI VS (λ_ _=>id)) (gS dJ);refine aA ha (bJ (nN xs[i]) hh ?_);simp only[aG];have k3:=aM.alloc w2 (.cells #[aD 0,aD 0,aD 0,aD 0] 128);have o3:cW (w2.alloc (.cells #[aD 0,aD 0,aD 0,aD 0] 128)) w2.heap.size 128 (eC ⟨0,0,0,0⟩):=cW.iP w2 _ 128;generalize w2.alloc (.cells #[aD 0,aD 0,aD 0,aD 0] 128)=w3 at*;refine CM o3 rfl λw4 o4 m4=>?_;have k4:aM w2 w4:=aW.fresh k3 m4 λk hk=>aB;have hN4:=hN2.aN k4;refine bJ (nN xs[i]) (iM o4) ?_;rw[<-hg];refine may_i hN4.at_.head λw5 r k5 hrm=>?_;have hN5:=hN4.aN k5;have o5:=o4.aK k5 id;have k25:=k4.tr k5;refine aF (λhb=>?_) (λhb=>?_)
   ·refine RZ w5 (DI.tr k25) λ⟨_,_,oO⟩=>?_
    rw[hrm.2 (oO _ (nE dJ))] at hb;cases hb
   ·have hma:EW m xs[i]:=hrm.1 (by cases r<;>simp at hb ⊢)
    refine bJ (nN xs[i]) (iM o5) ?_;refine Put_i hN5 λw6 N6 hN6 hg6 m6 hf6=>?_;rw[gM aB aB];refine hX (xs.length-(i+1)) _ _ aB ⟨i+1,N6,dJ,rfl,rfl,?_,by rw[hg6,hg],aW.fresh (DI.tr k25) m6 hfr2,λk hk=>?_,?_⟩
    ·rw[FQ dJ,NH];exact hN6
    ·rcases hf6 k hk with h|h
     ·exact hfr2 k h
     ·have:=DI.size;have:=k25.size;omega
    ·rw[FQ dJ]
     intro x hx;rcases jK.1 hx with hx|hx
     ·exact uH x hx
     ·simp at hx;subst hx;exact hma
  ·have dJ:i=xs.length:=aB
   subst dJ;rw[oZ] at hN2 uH;rw[<-hg];exact kH w2 N2 aB aB uH hN2 DI hfr2
 have kd:aM w w.drew:=aW.drew (aW.refl _ w);have both:∀{K:aH->Sl->Sl->Prop},(∀w8 g1 g2,cW w8 g1 DL ((List.replicate m (bD:Sl)).map sv)->cW w8 g2 DL ((List.replicate m (bD:Sl)).map sv)->g1≠g2->aM w w8->w.heap.size<=g1->w.heap.size<=g2->K w8 ⟨some ⟨g1,0,none⟩,m,m⟩ ⟨some ⟨g2,0,none⟩,m,m⟩)->
   fM prog tssArc (aD (m:Int)) (aD (m:Int)) w.drew λs1 w7=>fM prog tssArc (aD (m:Int)) (aD (m:Int)) w7 λs2 w8=>K w8 s1 s2:=by
  intro K hK;refine BU Ir (aY:=eSl) bD rfl (λ_=>rfl) aB (oY _) aB aB λw7 hv7 k7=>?_;refine BU Ir (aY:=eSl) bD rfl (λ_=>rfl) aB (oY _) aB aB λw8 hv8 k8=>?_;have hv7':=hv7.aK k8 (λ_ _=>id);have cJ:w.drew.heap.size<w7.heap.size:=hv7.lt rfl;exact hK w8 _ _ (Ij hv7') (Ij hv8) aB ((kd.tr k7).tr k8) (iT _) (iF kd.size k7.size)
 have fr:∀(w8:aH) (g1 g2:Nat),w.heap.size<=g1->w.heap.size<=g2->aM w w8->∀k,(⟨w8.heap.size,g1,g2,List.replicate (m+m) bD⟩:mP).dF k->w.heap.size<=k:=by
  intro w8 g1 g2 h1 h2 hk k hh;rcases hh with h|h|h|⟨i,s,a,hs,ha,_⟩
  ·rw[h];exact hk.size
  ·rw[h];exact h1
  ·rw[h];exact h2
  ·rw[Ev] at hs
   split at hs
   ·cases hs;cases ha
   ·cases hs
 refine⟨both λw8 g1 g2 h1 h2 gF hk hg1 Af=>?_,both λw8 g1 g2 h1 h2 gF hk hg1 Af=>?_⟩
 ·exact main _ ⟨w8.heap.size,g1,g2,List.replicate (m+m) bD⟩ (init_i hm h1 h2 gF) (aW.alloc hk _) (fr w8 g1 g2 hg1 Af hk)
 ·exact main _ ⟨w8.heap.size,g2,g1,List.replicate (m+m) bD⟩ (init_i hm h2 h1 (Ne.symm gF)) (aW.alloc hk _) (fr w8 g2 g1 Af hg1 hk)
theorem Copy_i{N:mP}{n:Nat}{l:List bQ}{w:aH}{Q:cL->aH->Prop}(h:kZ w N n l)(hl:l.length<1099511627776)
  (hQ:∀w' N',kZ w' N' n l->aM w w'->(∀k,N'.dF k->w.heap.size<=k)->Q (some ⟨N'.g,0,none⟩) w'):HR (some ⟨N.g,0,none⟩) w Q:=by
 unfold HR;have LG:=h.sz;refine aF (λh=>by simp at h) (λ_=>?_);refine QR h (All_i h hl λs w' hv hk hb=>?_);refine New_i (hv.rd kI) hl (λw2 k2 vU=>?_) (λw2 N2 _ _ _ hN2 k2 hfr=>?_)
 ·exact absurd ⟨aB,aB,λa ha=>by simpa using h.ok.vS a ha⟩ vU
 ·simp only[kE] at hN2
  have e:gP n [] l=l:=NI (p:=[]) h.ok;rw[e] at hN2;exact hQ w2 N2 hN2 (hk.tr k2) λk lD=>iF hk.size (hfr k lD)
section
section
variable{N:mP}{n:Nat}{X:Nat->List bQ}{v:Int}{w:aH}
theorem has_at{Q:Bool->aH->Prop}(h:lW w N n X)(hn:n<=512)(hQ:∀r:Bool,(r=true↔0<=v/\v<n)->Q r w):yA (some ⟨N.g,0,none⟩) v w Q:=by
 unfold yA;refine aJ (λh1=>?_) (λh1=>hQ _ (by simp;omega));unfold mU;refine aF (λh=>by simp at h) (λ_=>?_);exact aA rfl (aE (k:=.slice) ⟨some ⟨N.go,0,none⟩,n,n⟩ h.c0 (hQ _ (by simp;omega)))
theorem In_at{Q:Sl->aH->Prop}(h:lW w N n X)(hn:n<=512)(hX:∀j,(X j).length<=512)(hQ:∀s' w',dQ w' iR 4 eC s' (if 0<=v/\v<n then X (n+v.toNat) else [])->aM w w'->(∀b,s'.b=some b->w.heap.size<=b.block)->Q s' w'):
  zL (some ⟨N.g,0,none⟩) v w Q:=by
 unfold zL;refine has_at h hn λr hr=>aF (λh1=>?_) (λh1=>?_)
 ·have:¬(0<=v/\v<n):=λhv=>by rw[hr.2 hv] at h1;cases h1
  rw[if_neg this] at hQ;exact hQ _ w (dQ.nil _ _ _ _) (aW.refl _ _) (λb hb=>by cases hb)
 ·have hv:=hr.1 (by cases r<;>simp at h1 ⊢)
  rw[if_pos hv] at hQ;obtain⟨u,rfl⟩:∃u:Nat,v=(u:Int):=⟨v.toNat,aB⟩;refine aA rfl (aE (k:=.slice) ⟨some ⟨N.gi,0,none⟩,n,n⟩ h.c1 ?_);refine⟨⟨aB,by show _<(n:Int);omega⟩,aA rfl ?_⟩;obtain⟨s,hs,tQ⟩:=h.LM (show u<n by omega);refine aE (k:=.slice) s tQ ?_;have:=hX (n+u);exact Sg ((h.row (n+u) s hs).rd kI) aB λs' w' h1 h2 h3=>hQ s' w' h1 h2 h3
end
theorem NT{l R:List bQ}{x:bQ}:x∈l.filter (λy=>decide (y∉R))↔x∈l/\x∉R:=by simp
def BB(n:Nat)(l RO RI:List bQ)(j:Nat):List bQ:=if j<n then(dZ l (j:Int)).filter (λy=>decide (y∉RI)) else(nK l ((j:Int)-n)).filter (λy=>decide (y∉RO))
theorem cutX_len{n:Nat}{l RO RI:List bQ}(h:rR n l)(hn:n<=512)(j:Nat):(BB n l RO RI j).length<=512:=by
 unfold BB
 split
 ·have:=vW (λy=>decide (y∉RI)) (dZ l (j:Int));have:=h.vA (j:Int);omega
 ·have:=vW (λy=>decide (y∉RO)) (nK l ((j:Int)-n));have:=h.FD ((j:Int)-n);omega
theorem arc_eq{l:List bQ}(h:BG l){x y:bQ}(hx:x∈l)(hy:y∈l)(hf:x.f=y.f)(ht:x.t=y.t):x=y:=by
 have h1:=xX h hx;have h2:=xX h hy;rw[hf,ht,h2] at h1;exact(uQ h1).symm
theorem Bh{key:bQ->Int}{row R:List bQ}{a:bQ}(hs:YH key row)(h1:∀x∈row,x∉R->key x=key a->x=a):
  (row.filter λy=>decide (y∉R)).filter (λy=>decide (key y≠key a))=row.filter λy=>decide (y∉R++[a]):=by
 refine((hs.filter _).filter _).ext (hs.filter _) λx=>?_;simp only[jE,decide_eq_true_eq,jK,uG,not_or]
 constructor
 ·rintro⟨⟨hx,hn⟩,hk⟩
  exact⟨hx,hn,λe=>hk (by rw[e])⟩
 ·rintro⟨hx,hn,gF⟩
  exact⟨⟨hx,hn⟩,λhk=>gF (h1 x hx hn hk)⟩
theorem Cut_i{N:mP}{n:Nat}{l:List bQ}{v:Int}{w:aH}{Q:aH->Prop}(h:kZ w N n l)
  (hQ:∀w' N',kZ w' N' n (CX l v)->N'.g=N.g->aW N.dF w w'->(∀k,N'.dF k->N.dF k\/w.heap.size<=k)->Q w'):WR (some ⟨N.g,0,none⟩) v w Q:=by
 unfold WR;have LG:=h.sz;have kH:=h.ok;refine Wk h λs1 w1 df k1 YE=>?_;have h1:=h.aN k1;have r1:=df.rd kI;have hX0:jX n l=BB n l [] []:=by
  funext j
  unfold jX BB
  split<;>exact(List.filter_eq_self.2 dL).symm
 have at1:lW w1 N n (BB n l [] []):=by rw[<-hX0];exact h1.at_
 refine bO (λm t w2=>∃(i:Nat) (N2:mP),i<=(dZ l v).length/\m=(dZ l v).length-i/\t=((i:Int),())/\lW w2 N2 n (BB n l ((dZ l v).take i) [])/\N2.g=N.g/\Rd w2 s1 4 eC (dZ l v)/\aW N.dF w w2/\(∀k,N2.dF k->N.dF k\/w1.heap.size<=k)/\w1.heap.size<=w2.heap.size) (dZ l v).length
  ⟨0,N,iG _,rfl,rfl,by simpa using at1,rfl,r1,k1.wk,λk hk=>.inl hk,iT _⟩ ?_
 rintro m t w2 ⟨i,N2,hi,rfl,rfl,at2,Af,r2,m2,hf2,z2⟩ X hX;dsimp only;have Ke:=df.len;have hlenO:=kH.vA v;have Kv:∀b,s1.b=some b->dZ l v≠[]->w.heap.size<=b.block/\b.block<w1.heap.size:=λb hb _=>⟨YE b hb,df.lt hb⟩;refine aJ (λcJ=>?_) (λkT=>?_)
 ·have dJ:i<(dZ l v).length:=aB
  refine⟨⟨aB,aB⟩,?_⟩;obtain⟨a0,nq,hh⟩:=wI r2 (gS dJ);generalize hxa:(dZ l v)[i]=a at hh;have hga:(dZ l v)[i]? =some a:=by rw[<-hxa];exact gS dJ
  have fP:a∈dZ l v:=zH hga;obtain⟨hal,haf⟩:=eK.1 fP;have hma:=kH.vS a hal;refine aA nq (bJ (nN a) hh ?_);simp only[aG];have k3:=aM.alloc w2 (.cells #[aD 0,aD 0,aD 0,aD 0] 128);have o3:cW (w2.alloc (.cells #[aD 0,aD 0,aD 0,aD 0] 128)) w2.heap.size 128 (eC ⟨0,0,0,0⟩):=cW.iP w2 _ 128;generalize w2.alloc (.cells #[aD 0,aD 0,aD 0,aD 0] 128)=w3 at*;refine CM o3 rfl λw4 o4 m4=>?_;have k4:aM w2 w4:=aW.fresh k3 m4 λk hk=>aB;generalize RQ:w2.heap.size=b2 at*;have hb2N:¬N2.dF b2:=λhk=>by have:=at2.lt hk;omega
  obtain⟨u,hu⟩:∃u:Nat,a.t=(u:Int):=⟨a.t.toNat,by have:=hma.2.2.1;omega⟩;have De:u<n:=by have:=hma.2.2.2.1;omega
  have d4:aM w4 w4.drew:=aW.drew (aW.refl _ w4);have la:∀{w':aH},cW w' b2 128 (eC a)->w'.cell? ((⟨b2,0,none⟩:Addr).add 1)=some (aD (u:Int)):=λho=>by
   rw[aS,ho.cell,<-hu];rfl
  have at4:=(at2.aN k4).aN d4;have o4':=o4.aK d4 id;rw[<-Af];refine aA rfl (aE (k:=.slice) ⟨some ⟨N2.gi,0,none⟩,n,n⟩ at4.c1 (aE (k:=.i) (u:Int) (la o4') ?_));refine⟨⟨aB,by show _<(n:Int);omega⟩,aA rfl ?_⟩;obtain⟨s3,Bw,hc3⟩:=at4.LM De;refine aE (k:=.slice) s3 hc3 ?_;have nO:=at4.row (n+u) s3 Bw;have hXe:∀R,BB n l R [] (n+u)=(nK l a.t).filter (λy=>decide (y∉R)):=λR=>by
   have:¬(n+u<n):=aB;simp only[BB,this,if_false,hu];congr 2;omega
  rw[hXe] at nO;have lM:YH bQ.f ((nK l a.t).filter (λy=>decide (y∉(dZ l v).take i))):=(kH.rP.LM a.t).filter _;have fU:=vW (λy=>decide (y∉(dZ l v).take i)) (nK l a.t);have xT:=kH.FD a.t;have fk:a∉(dZ l v).take i:=by
   intro IP;obtain⟨p,hp⟩:=oM.1 IP;have hpi:p<i:=by have:=(kU.1 hp).1;simp at this;omega
   rw[UR hpi] at hp;have:=(kH.rP.out v).get hpi hp hga;omega
  have IP:a∈(nK l a.t).filter (λy=>decide (y∉(dZ l v).take i)):=by
   rw[NT];exact⟨iB.2 ⟨hal,rfl⟩,fk⟩
  refine Xq (nO.rd kI) lM aB λj fnd w5 k5 qF _=>?_;have d5:aM w5 w5.drew:=aW.drew (aW.refl _ w5);have k45:=(d4.tr k5).tr d5;have dt:=(at2.aN k4).aN k45;have o5:=o4.aK k45 id;refine aA rfl (aE (k:=.slice) ⟨some ⟨N2.gi,0,none⟩,n,n⟩ dt.c1 (aE (k:=.i) (u:Int) (la o5) ?_));refine aA rfl (aE (k:=.slice) ⟨some ⟨N2.gi,0,none⟩,n,n⟩ dt.c1 (aE (k:=.i) (u:Int) (la o5) ?_));refine⟨⟨aB,by show _<(n:Int);omega⟩,aA rfl ?_⟩;obtain⟨s6,Pn,hc6⟩:=dt.LM De;rw[Bw] at Pn;cases Pn;refine aE (k:=.slice) s3 hc6 ?_;have QL:=dt.row (n+u) s3 Bw;rw[hXe] at QL;have hj:j<((nK l a.t).filter (λy=>decide (y∉(dZ l v).take i))).length:=(kU.1 (qF.qB lM IP haf)).1;rw[gM (n:=(j:Int)+1) aB aB];refine Xw QL hj aB λs7 w6 hv7 m6 hb7=>?_;have gF:∀k,(∃b,s3.b=some b/\k=b.block)->N2.dF k:=λk ⟨b,hb,hk⟩=>.inr (.inr (.inr ⟨n+u,s3,b,Bw,hb,hk.symm⟩));have o6:=o5.aK m6 λhk=>hb2N (gF _ hk);refine⟨la o6,?_,⟨aB,by show _<(n:Int);omega⟩,aA rfl ?_⟩
  ·have:=dt.head.aK m6 λ⟨b,hb,hk⟩=>(dt.sep (n+u) s3 b Bw hb).1 hk.symm
   rw[aS,this.cell];rfl
  refine dt.putIn De Bw hv7 m6 (.inl hb7) λw7 at7 m7 z7=>?_;rw[gM (n:=(i:Int)+1) aB aB];have Qi:(λj'=>if j'=n+u then((nK l a.t).filter (λy=>decide (y∉(dZ l v).take i))).take j++((nK l a.t).filter (λy=>decide (y∉(dZ l v).take i))).drop (j+1) else BB n l ((dZ l v).take i) [] j')=BB n l ((dZ l v).take (i+1)) []:=by
   funext j'
   rw[List.take_add_one,hga,Option.toList_some]
   split
   ·rename_i he
    subst he;rw[hXe,qF.Uo lM IP haf,<-haf];refine Bh (kH.rP.LM a.t) λx hx _ hk=>?_;obtain⟨Dd,we⟩:=iB.1 hx;exact arc_eq kH.rP Dd hal hk we
   ·rename_i he
    unfold BB
    split
    ·rfl
    ·refine List.filter_congr λx hx=>?_
     have:x≠a:=by
      rintro rfl;have:=(iB.1 hx).2;omega
     simp[this]
  rw[Qi] at at7;have m27:aW N2.dF w2 w7:=(k4.wk.tr k45.wk).tr m7;refine hX ((dZ l v).length-(i+1)) _ _ aB ⟨i+1,_,dJ,rfl,rfl,at7,Af,?_,m2.trans m27 (λk hk DI=>?_),λk hk=>?_,by have:=m27.size;omega⟩
  ·refine r2.aK m27 VS λb hb hk=>?_
   have bW:=Kv b hb (by intro e;rw[e] at dJ;simp at dJ);rcases hf2 _ hk with h'|h'
   ·have:=h.at_.lt h';omega
   ·omega
  ·rcases hf2 k DI with h'|h'
   ·exact h'
   ·have:=k1.size;omega
  ·rcases mP.OF (N:=N2) (P:=λ_=>False) Bw (λa _=>.inl hb7) hk with h'|h'
   ·exact hf2 k h'
   ·exact h'.elim
 ·have dJ:i=(dZ l v).length:=aB
  subst dJ;rw[oZ] at at2;generalize hO:dZ l v=O at*;have hmemO:∀x,x∈O↔x∈l/\x.f=v:=λx=>by rw[<-hO];exact eK
  rw[<-Af];refine In_at at2 LG (cutX_len kH LG) λs8 w8 hv8 k8 hfr8=>?_;have hI:(if 0<=v/\v<n then BB n l O [] (n+v.toNat) else [])=nK l v:=by
   split
   ·rename_i hv
    have:¬(n+v.toNat<n):=aB;simp only[BB,this,if_false];rw[show((n+v.toNat:Nat):Int)-(n:Int)=v by omega];refine List.filter_eq_self.2 λx hx=>?_;obtain⟨Dd,we⟩:=iB.1 hx;have hmx:=(kH.vS x Dd).2.2.2.2.1;simp only[decide_eq_true_eq,hmemO];rintro⟨_,hf⟩;omega
   ·rename_i hv
    symm
    refine List.filter_eq_nil_iff.2 λx hx hxv=>?_;have e:x.t=v:=by simpa using hxv
    have:=kH.vS x hx;exact hv ⟨by rw[<-e];exact this.2.2.1,by rw[<-e];exact this.2.2.2.1⟩
  rw[hI] at hv8;have at8:=at2.aN k8;have r8:=hv8.rd kI;have m8:aW N.dF w w8:=m2.trans k8 λ_ _ h=>h.elim;have hl8:=hv8.len;have hlenI:=kH.FD v;refine bO (λm t w9=>∃(i:Nat) (N3:mP),i<=(nK l v).length/\m=(nK l v).length-i/\t=((i:Int),())/\lW w9 N3 n (BB n l O ((nK l v).take i))/\N3.g=N.g/\Rd w9 s8 4 eC (nK l v)/\aW N.dF w w9/\(∀k,N3.dF k->N.dF k\/w1.heap.size<=k)/\w8.heap.size<=w9.heap.size/\(∀k,N3.dF k->N2.dF k)) (nK l v).length
   ⟨0,N2,iG _,rfl,rfl,by simpa using at8,Af,r8,m8,hf2,iT _,λk hk=>hk⟩ ?_
  rintro m t w9 ⟨i,N3,hi,rfl,rfl,at9,wv,r9,m9,hf3,z9,hn3⟩ Y hY;dsimp only;refine aJ (λcJ=>?_) (λkT=>?_)
  ·have dJ:i<(nK l v).length:=aB
   refine⟨⟨aB,aB⟩,?_⟩;obtain⟨a0,nq,hh⟩:=wI r9 (gS dJ);generalize hxa:(nK l v)[i]=a at hh;have hga:(nK l v)[i]? =some a:=by rw[<-hxa];exact gS dJ
   have fP:a∈nK l v:=zH hga;obtain⟨hal,Ub⟩:=iB.1 fP;have hma:=kH.vS a hal;refine aA nq (bJ (nN a) hh ?_);simp only[aG];have k3:=aM.alloc w9 (.cells #[aD 0,aD 0,aD 0,aD 0] 128);have o3:cW (w9.alloc (.cells #[aD 0,aD 0,aD 0,aD 0] 128)) w9.heap.size 128 (eC ⟨0,0,0,0⟩):=cW.iP w9 _ 128;generalize w9.alloc (.cells #[aD 0,aD 0,aD 0,aD 0] 128)=w3 at*;refine CM o3 rfl λw4 o4 m4=>?_;have k4:aM w9 w4:=aW.fresh k3 m4 λk hk=>aB;generalize RQ:w9.heap.size=b2 at*;have hb2N:¬N3.dF b2:=λhk=>by have:=at9.lt hk;omega
   obtain⟨u,hu⟩:∃u:Nat,a.f=(u:Int):=⟨a.f.toNat,by have:=hma.1;omega⟩;have De:u<n:=by have:=hma.2.1;omega
   have d4:aM w4 w4.drew:=aW.drew (aW.refl _ w4);have la:∀{w':aH},cW w' b2 128 (eC a)->w'.cell? ((⟨b2,0,none⟩:Addr).add 0)=some (aD (u:Int)):=λho=>by
    rw[aS,ho.cell,<-hu];rfl
   have at4:=(at9.aN k4).aN d4;have o4':=o4.aK d4 id;rw[Af,<-wv];refine aA rfl (aE (k:=.slice) ⟨some ⟨N3.go,0,none⟩,n,n⟩ at4.c0 (aE (k:=.i) (u:Int) (la o4') ?_));refine⟨⟨aB,by show _<(n:Int);omega⟩,aA rfl ?_⟩;obtain⟨s3,Bw,hc3⟩:=at4.out De;refine aE (k:=.slice) s3 hc3 ?_;have nO:=at4.row u s3 Bw;have hXe:∀R,BB n l O R u=(dZ l a.f).filter (λy=>decide (y∉R)):=λR=>by
    simp only[BB,De,if_true,hu]
   rw[hXe] at nO;have lM:YH bQ.t ((dZ l a.f).filter (λy=>decide (y∉(nK l v).take i))):=(kH.rP.out a.f).filter _;have fU:=vW (λy=>decide (y∉(nK l v).take i)) (dZ l a.f);have xT:=kH.vA a.f;have fk:a∉(nK l v).take i:=by
    intro IP;obtain⟨p,hp⟩:=oM.1 IP;have hpi:p<i:=by have:=(kU.1 hp).1;simp at this;omega
    rw[UR hpi] at hp;have:=(kH.rP.LM v).get hpi hp hga;omega
   have IP:a∈(dZ l a.f).filter (λy=>decide (y∉(nK l v).take i)):=by
    rw[NT];exact⟨eK.2 ⟨hal,rfl⟩,fk⟩
   refine byTo_i (nO.rd kI) lM aB λj fnd w5 k5 qF _=>?_;have d5:aM w5 w5.drew:=aW.drew (aW.refl _ w5);have k45:=(d4.tr k5).tr d5;have dt:=(at9.aN k4).aN k45;have o5:=o4.aK k45 id;refine aA rfl (aE (k:=.slice) ⟨some ⟨N3.go,0,none⟩,n,n⟩ dt.c0 (aE (k:=.i) (u:Int) (la o5) ?_));refine aA rfl (aE (k:=.slice) ⟨some ⟨N3.go,0,none⟩,n,n⟩ dt.c0 (aE (k:=.i) (u:Int) (la o5) ?_));refine⟨⟨aB,by show _<(n:Int);omega⟩,aA rfl ?_⟩;obtain⟨s6,Pn,hc6⟩:=dt.out De;rw[Bw] at Pn;cases Pn;refine aE (k:=.slice) s3 hc6 ?_;have QL:=dt.row u s3 Bw;rw[hXe] at QL;have hj:j<((dZ l a.f).filter (λy=>decide (y∉(nK l v).take i))).length:=(kU.1 (qF.qB lM IP Ub)).1;rw[gM (n:=(j:Int)+1) aB aB];refine Xw QL hj aB λs7 w6 hv7 m6 hb7=>?_;have gF:∀k,(∃b,s3.b=some b/\k=b.block)->N3.dF k:=λk ⟨b,hb,hk⟩=>.inr (.inr (.inr ⟨u,s3,b,Bw,hb,hk.symm⟩));have o6:=o5.aK m6 λhk=>hb2N (gF _ hk);refine⟨la o6,?_,⟨aB,by show _<(n:Int);omega⟩,aA rfl ?_⟩
   ·have:=dt.head.aK m6 λ⟨b,hb,hk⟩=>(dt.sep u s3 b Bw hb).1 hk.symm
    rw[aS,this.cell];rfl
   refine dt.ie De Bw hv7 m6 (.inl hb7) λw7 at7 m7 z7=>?_;rw[gM (n:=(i:Int)+1) aB aB];have Qi:(λj'=>if j'=u then((dZ l a.f).filter (λy=>decide (y∉(nK l v).take i))).take j++((dZ l a.f).filter (λy=>decide (y∉(nK l v).take i))).drop (j+1) else BB n l O ((nK l v).take i) j')=BB n l O ((nK l v).take (i+1)):=by
    funext j'
    rw[List.take_add_one,hga,Option.toList_some]
    split
    ·rename_i he
     subst he;rw[hXe,qF.Uo lM IP Ub,<-Ub];refine Bh (kH.rP.out a.f) λx hx _ hk=>?_;obtain⟨Dd,we⟩:=eK.1 hx;exact arc_eq kH.rP Dd hal we hk
    ·rename_i he
     unfold BB
     split
     ·refine List.filter_congr λx hx=>?_
      have:x≠a:=by
       rintro rfl;have:=(eK.1 hx).2;omega
      simp[this]
     ·rfl
   rw[Qi] at at7;have m97:aW N3.dF w9 w7:=(k4.wk.tr k45.wk).tr m7;have FZ:∀k,({N3 with dW:=N3.dW.set u s7}:mP).dF k->N3.dF k:=λk hk=>by
    rcases mP.OF (N:=N3) (P:=λ_=>False) Bw (λa _=>.inl hb7) hk with h'|h'
    ·exact h'
    ·exact h'.elim
   refine hY ((nK l v).length-(i+1)) _ _ aB ⟨i+1,_,dJ,rfl,rfl,at7,wv,?_,m9.trans m97 (λk hk DI=>?_),λk hk=>hf3 k (FZ k hk),by have:=m97.size;omega,λk hk=>hn3 k (FZ k hk)⟩
   ·refine r9.aK m97 VS λb hb hk=>?_
    have hb8:=hfr8 b hb;have:=at2.lt (hn3 _ hk);omega
   ·rcases hf3 k DI with h'|h'
    ·exact h'
    ·have:=k1.size;omega
  ·have dJ:i=(nK l v).length:=aB
   subst dJ;rw[oZ] at at9;have Nb:∀j,j≠n+v.toNat\/¬(0<=v/\v<n)->j≠v.toNat\/¬(0<=v/\v<n)->BB n l O (nK l v) j=jX n (CX l v) j:=by
    intro j hj1 hj2;unfold BB jX CX
    split
    ·rename_i hjn
     unfold dZ;rw[List.filter_filter,List.filter_filter];refine List.filter_congr λx hx=>?_;obtain⟨a1,a2,a3,a4,_⟩:=kH.vS x hx;apply Bool.eq_iff_iff.2;simp only[tE,decide_eq_true_eq,iB,hx,true_and];omega
    ·rename_i hjn
     unfold nK;rw[List.filter_filter,List.filter_filter];refine List.filter_congr λx hx=>?_;obtain⟨a1,a2,a3,a4,_⟩:=kH.vS x hx;apply Bool.eq_iff_iff.2;simp only[tE,decide_eq_true_eq,hmemO,hx,true_and];omega
   rw[Af,<-wv];refine has_at at9 LG λr hr=>aF (λhb=>?_) (λhb=>?_)
   ·have hv:=hr.1 hb
    obtain⟨u,rfl⟩:∃u:Nat,v=(u:Int):=⟨v.toNat,aB⟩;have De:u<n:=aB;simp only[kE] at Nb;refine aA rfl (aE (k:=.slice) ⟨some ⟨N3.go,0,none⟩,n,n⟩ at9.c0 (aA rfl (aE (k:=.slice) ⟨some ⟨N3.gi,0,none⟩,n,n⟩ at9.c1 ?_)));refine⟨⟨aB,by show _<(n:Int);omega⟩,aA rfl ?_⟩;have d9:aM w9 w9.drew:=aW.drew (aW.refl _ w9);have at9':=at9.aN d9;obtain⟨sa,hsa,_⟩:=at9'.out De;refine at9'.ie (s':=bD) De hsa (dQ.nil _ _ _ _) (aW.refl _ _) (.inr λa ha=>by cases ha) λeV at10 YC _=>?_;refine⟨⟨aB,by show _<(n:Int);omega⟩,aA rfl ?_⟩;obtain⟨sb,hsb,_⟩:=at10.LM De;refine at10.putIn (s':=bD) De hsb (dQ.nil _ _ _ _) (aW.refl _ _) (.inr λa ha=>by cases ha) λeE at11 Jx _=>?_;have tO:∀k,({N3 with dW:=N3.dW.set u bD}:mP).dF k->N3.dF k:=λk hk=>by
     rcases mP.OF (N:=N3) (P:=λ_=>False) hsa (λa ha=>by cases ha) hk with h'|h'
     ·exact h'
     ·exact h'.elim
    have FP:∀k,({N3 with dW:=(N3.dW.set u bD).set (n+u) bD}:mP).dF k->N3.dF k:=λk hk=>by
     rcases mP.OF (N:={N3 with dW:=N3.dW.set u bD}) (P:=λ_=>False) hsb (λa ha=>by cases ha) hk with h'|h'
     ·exact tO k h'
     ·exact h'.elim
    have m911:aW N3.dF w9 eE:=(d9.wk.tr YC).trans Jx λk _ hk=>tO k hk;refine hQ eE {N3 with dW:=(N3.dW.set u bD).set (n+u) bD} ⟨?_,kH.cut _,LG⟩ wv (m9.trans m911 λk hk DI=>?_) λk hk=>?_
    ·have Qi:(λj=>if j=n+u then [] else(λj=>if j=u then [] else BB n l O (nK l (u:Int)) j) j)=jX n (CX l (u:Int)):=by
      funext j
      by_cases hj1:j=n+u
      ·subst hj1
       have:¬(n+u<n):=aB;simp only[if_true,jX,this,if_false]
       symm
       refine List.filter_eq_nil_iff.2 λx hx hxt=>?_;have h2:=(pM.1 hx).2.2;have:x.t=((n+u:Nat):Int)-n:=by simpa using hxt
       omega
      ·simp only[hj1,if_false]
       by_cases hj2:j=u
       ·subst hj2
        simp only[if_true,jX,De]
        symm
        refine List.filter_eq_nil_iff.2 λx hx hxf=>?_;have h2:=(pM.1 hx).2.1;have:x.f=(j:Int):=by simpa using hxf
        omega
       ·simp only[hj2,if_false]
        exact Nb j (.inl hj1) (.inl hj2)
     rw[<-Qi];exact at11
    ·rcases hf3 k DI with h'|h'
     ·exact h'
     ·have:=k1.size;omega
    ·rcases hf3 k (FP k hk) with h'|h'
     ·exact .inl h'
     ·exact .inr (iF k1.size h')
   ·have hv:¬(0<=v/\v<n):=λhv=>by rw[hr.2 hv] at hb;cases hb
    have Qi:BB n l O (nK l v)=jX n (CX l v):=by
     funext j;exact Nb j (.inr hv) (.inr hv)
    rw[Qi] at at9;exact hQ w9 N3 ⟨at9,kH.cut _,LG⟩ wv m9 λk hk=>(hf3 k hk).imp id λh'=>iF k1.size h'
end
section
section
variable{w w':aH}{g:Nat}{s:Sl}{n:Nat}{l:List bQ}
end
end
section
section
variable{w:aH}{g:Nat}{s:Sl}{n:Nat}{l:List bQ}
end
end
section
section
variable{w:aH}{g:Nat}{s:Sl}{n:Nat}{l:List bQ}
end
end
abbrev eB(b:Bool):List Value:=[.bool b]
theorem Uw:∀b:Bool,(eB b).length=1:=λ_=>rfl
theorem oneB:∀b:Bool,∀u∈eB b,u.oneCell'=true:=by intro b u hu;simp at hu;subst hu;rfl
abbrev eI(n:Int):List Value:=[aD n]
theorem fH:∀b:Int,(eI b).length=1:=λ_=>rfl
theorem EV:∀b:Int,∀u∈eI b,u.oneCell'=true:=by intro b u hu;simp at hu;subst hu;rfl
theorem cR(n:Int):eI n≠[]:=by simp
theorem cF{α:Type}{w:aH}{s:Sl}{k:CK}{e:α->k.T}{xs:List α}(h:Rd w s 1 (λx=>[k.aY (e x)]) xs){i:Nat}{x:α}(hx:xs[i]? =some x):∃a,s.b=some a/\w.cell? (a.add (i*1))=some (k.aY (e x)):=by
 obtain⟨a,ha,hh⟩:=h.get i x hx;exact⟨a,ha,by have:=hh.1;rwa[add_add,Nat.add_zero] at this⟩
abbrev R3:=Int×Int×Int
abbrev cu(r:R3):List Value:=[aD r.1,aD r.2.1,aD r.2.2]
theorem YW(r:R3):cu r≠[]:=by simp
theorem Round_i{k n:Int}{w:aH}{Q:Int->aH->Prop}(hn:0<n)(h63:n<=1000000)(hQ:Q (k%n) w):xJ k n w Q:=by
 unfold xJ;have h1:=Int.emod_nonneg k (b:=n) aB;have h2:=Int.emod_lt_of_pos k hn;have h3:k.tmod n=if 0<=k then k%n else if k%n=0 then 0 else k%n-n:=by
  rw[Int.tmod_eq_emod];have hd:n ∣ k↔k%n=0:=Int.dvd_iff_emod_eq_zero
  by_cases h0:0<=k
  ·simp[h0]
  ·by_cases hz:k%n=0
   ·simp[h0,hz,hd]
   ·have:(n.natAbs:Int)=n:=aB
    simp[h0,hz,hd,this]
 refine⟨aB,aJ (λh=>?_) (λh=>?_)⟩
 ·have e:k.tmod n+n=k%n:=by rw[h3] at h ⊢;split at h<;>rename_i h0<;>simp only[h0,if_true,if_false] at h ⊢<;>(try split at h)<;>(try split)<;>omega
  rw[e,gM aB aB];exact hQ
 ·have e:k.tmod n=k%n:=by rw[h3] at h ⊢;split at h<;>rename_i h0<;>simp only[h0,if_true,if_false] at h ⊢<;>(try split at h)<;>(try split)<;>omega
  rw[e];exact hQ
theorem qA(i:Nat)(hi:i<1099511627776):aQ ((i:Int)+1)=((i+1:Nat):Int):=by rw[gM aB aB];rfl
theorem GZ{w:aH}{x:bQ}{K:aH->Prop}(hK:∀w',aM w w'->cW w' w.heap.size iR (eC x)->w.heap.size<w'.heap.size->K w'):
  aI prog iR ⟨w.heap.size,0,none⟩ (Fg x) (w.alloc (.cells #[aD 0,aD 0,aD 0,aD 0] iR)) K:=by
 have k:=aM.alloc w (.cells #[aD 0,aD 0,aD 0,aD 0] iR);have o:cW (w.alloc (.cells #[aD 0,aD 0,aD 0,aD 0] iR)) w.heap.size iR (eC ⟨0,0,0,0⟩):=cW.iP w _ _;exact CM o rfl λw' o' m'=>hK w' (aW.fresh k m' λb hb=>aB) o' o'.lt
theorem sS{w:aH}{g:Nat}{x:bQ}(h:cW w g iR (eC x)):w.cell? ((⟨g,0,none⟩:Addr).add 0)=some (aD x.f)/\w.cell? ((⟨g,0,none⟩:Addr).add 1)=some (aD x.t)/\w.cell? ((⟨g,0,none⟩:Addr).add 2)=some (aD x.w)/\w.cell? ((⟨g,0,none⟩:Addr).add 3)=some (aD x.m):=by
 refine⟨?_,?_,?_,?_⟩<;>rw[aS,h.cell]<;>rfl
theorem Bl{N:mP}{n:Nat}{L:List bQ}{v:Int}{W:aH}{Q:Sl->aH->Prop}(h:kZ W N n L)
  (hQ:∀s w',dQ w' iR 4 eC s (fV n L v)->aM W w'->(∀b,s.b=some b->W.heap.size<=b.block)->Q s w'):oJ (some ⟨N.g,0,none⟩) v W Q:=by
 unfold oJ;have hL:=h.ok;have hn:=h.sz;refine Wk h λs1 w1 v1 k1 f1=>?_;refine In_i (h.aN k1) λs2 w2 v2 k2 f2=>?_;have k02:=k1.tr k2;have h2:=h.aN k02;have YA:=v1.aK k2 λ_ _=>id;have s1l:=v1.len;have s2l:=v2.len;have il:=hL.FD v;have ol:=hL.vA v;have slen:∀i,((nK L v).take i).flatMap (λa=>mH n L v a (dZ L v))=((nK L v).take i).flatMap (λa=>mH n L v a (dZ L v))/\(((nK L v).take i).flatMap (λa=>mH n L v a (dZ L v))).length<=262144:=λi=>by
  refine⟨rfl,?_⟩;have h1:=Nn n L v ((nK L v).take i);have h2:((nK L v).take i).length<=512:=by rw[pW];omega
  have:((nK L v).take i).length*(dZ L v).length<=512*512:=EX h2 aB;omega
 refine bO (λc t w3=>∃(i:Nat) (s:Sl),i<=(nK L v).length/\c=(nK L v).length-i/\t=(s,(i:Int),())/\dQ w3 iR 4 eC s (((nK L v).take i).flatMap λa=>mH n L v a (dZ L v))/\aM w2 w3/\(∀b,s.b=some b->w2.heap.size<=b.block)) (nK L v).length
  ⟨0,_,iG _,rfl,rfl,by simpa using dQ.nil _ _ _ _,aW.refl _ _,λb hb=>by cases hb⟩ ?_
 rintro c t w3 ⟨i,s,hi,rfl,rfl,hv,k3,fs⟩ X hX;dsimp only;refine aJ (λcJ=>?_) (λkT=>?_)
 ·have dJ:i<(nK L v).length:=aB
  refine⟨⟨aB,aB⟩,?_⟩;obtain⟨p,hp,hh⟩:=wI ((v2.aK k3 λ_ _=>id).rd kI) (gS dJ);have fP:=nE dJ;have tk:((nK L v).take (i+1)).flatMap (λa=>mH n L v a (dZ L v))=((nK L v).take i).flatMap (λa=>mH n L v a (dZ L v))++mH n L v (nK L v)[i] (dZ L v):=by
   rw[FQ dJ,IU];simp
  have YE:=(slen i).2;generalize (nK L v)[i]=a at*;generalize ((nK L v).take i).flatMap (λa=>mH n L v a (dZ L v))=P at*;obtain⟨haL,Ub⟩:=iB.1 fP;obtain⟨_,_,_,_,_,aw0,aw1,_⟩:=hL.vS a haL;refine aA hp (bJ (nN a) hh ?_);simp only[aG];refine GZ λw5 k5 o5 z5=>?_;have ni:=hv.aK k5 λ_ _=>id;have ne5:∀b,s.b=some b->b.block≠w3.heap.size:=λb hb e=>by have:=hv.lt hb;omega
  have z23:=k3.size;generalize w3.heap.size=b2 at*;refine bO (λc t w6=>∃(j:Nat) (s':Sl),j<=(dZ L v).length/\c=(dZ L v).length-j/\t=(s',(j:Int),())/\dQ w6 iR 4 eC s' (P++mH n L v a ((dZ L v).take j))/\aM w2 w6/\cW w6 b2 iR (eC a)/\(∀b,s'.b=some b->w2.heap.size<=b.block/\b.block≠b2)) (dZ L v).length
   ⟨0,s,iG _,rfl,rfl,by simpa [mH] using ni,k3.tr k5,o5,λb hb=>⟨fs b hb,ne5 b hb⟩⟩ ?_
  rintro c t w6 ⟨j,s',hj,rfl,rfl,hv6,k6,o6,fs6⟩ Y hY;dsimp only;refine aJ (λcJ=>?_) (λkT=>?_)
  ·have uE:j<(dZ L v).length:=aB
   refine⟨⟨aB,aB⟩,?_⟩;obtain⟨p,hp,hh⟩:=wI ((YA.aK k6 λ_ _=>id).rd kI) (gS uE);have hmemb:=nE uE;have tkj:mH n L v a ((dZ L v).take (j+1))=mH n L v a ((dZ L v).take j)++(if GK n L v a (dZ L v)[j] then [⟨a.f,(dZ L v)[j].t,a.w+(dZ L v)[j].w,v⟩] else []):=by
    rw[FQ uE,Yk]
   have RQ:=Hy n L v a ((dZ L v).take j);have La:((dZ L v).take j).length<=512:=by rw[pW];omega
   generalize (dZ L v)[j]=b at*;generalize mH n L v a ((dZ L v).take j)=R at*;obtain⟨hbL,hbf⟩:=eK.1 hmemb;obtain⟨_,_,_,_,_,bw0,bw1,_⟩:=hL.vS b hbL;refine aA hp (bJ (nN b) hh ?_);refine GZ λw8 k8 o8 z8=>?_;have K8:=k6.tr k8;have o8':=o6.aK k8 id;have hv8:=hv6.aK k8 λ_ _=>id;have ne8:∀b,s'.b=some b->b.block≠w6.heap.size:=λb hb e=>by have:=hv6.lt hb;omega
   have z26:=k6.size;have zb2:=o6.lt;generalize w6.heap.size=b4 at*;obtain⟨a0,a1,a2,_⟩:=sS o8';obtain⟨c0,c1,c2,_⟩:=sS o8;have next:∀w',aM w8 w'->GK n L v a b=false->Y (s',aQ ((j:Int)+1),()) w':=λw' k' hn'=>by
    rw[qA j aB];exact hY _ _ _ aB ⟨j+1,s',uE,rfl,rfl,by rw[tkj,hn',if_neg dL,tD];exact hv8.aK k' (λ_ _=>id),K8.tr k',o8'.aK k' id,fs6⟩
   refine aE (k:=.i) a.f a0 (aE (k:=.i) b.t c1 ?_);refine aF (λhe=>?_) (λhe=>?_)
   ·have vV:a.f=b.t:=by simpa using he
    exact next w8 (aW.refl _ _) (by unfold GK;simp[vV])
   ·have vV:a.f≠b.t:=by simpa using he
    refine aE (k:=.i) a.f a0 (aE (k:=.i) b.t c1 (aE (k:=.i) a.w a2 (aE (k:=.i) b.w c2 ?_)));rw[gM (n:=a.w+b.w) aB aB];refine Find_i (h2.aN K8) aB λw9 k9=>?_;refine aF (λhf=>?_) (λhf=>?_)
    ·exact next w9 k9 (by unfold GK;rw[hf];simp)
    ·have Fy:GK n L v a b=true:=by unfold GK;rw[hf];simp[vV]
     have o9:=o8'.aK k9 id;have q9:=o8.aK k9 id;obtain⟨a0,a1,a2,_⟩:=sS o9;obtain⟨c0,c1,c2,_⟩:=sS q9;refine aE (k:=.i) a.f a0 (aE (k:=.i) b.t c1 (aE (k:=.i) a.w a2 (aE (k:=.i) b.w c2 ?_)));rw[gM (n:=a.w+b.w) aB aB];have hlit:=dQ.lit w9 iR eC kI [(⟨a.f,b.t,a.w+b.w,v⟩:bQ)] #[aD a.f,aD b.t,aD (a.w+b.w),aD v] rfl (by simp[maxLen]);have II:=aM.alloc w9 (.cells #[aD a.f,aD b.t,aD (a.w+b.w),aD v] iR);have Bu:=o9.aK II id;refine fN kK kI Eu ((hv8.aK k9 λ_ _=>id).aK II (λ_ _=>id)) (hlit.rd kI) (by rw[mL];simp only[List.length_singleton];omega) (by rw[mL];simp only[List.length_singleton];omega) λr eE v11 Jx f11 _=>?_;rw[qA j aB];have Mx:=(K8.tr k9).tr II;refine hY _ _ _ aB ⟨j+1,r,uE,rfl,rfl,by rw[tkj,Fy,if_pos rfl,<-sD];exact v11,Mx.fresh Jx λk ⟨b,hb,e⟩=>by subst e;exact(fs6 b hb).1,Bu.aK Jx λ⟨b,hb,e⟩=>(fs6 b hb).2 e.symm,λb hb=>?_⟩;rcases f11 with e|⟨a',e,IN⟩
     ·exact fs6 b (e▸hb)
     ·rw[e] at hb;cases hb
      have:=Bu.lt;exact⟨iF Mx.size IN,aB⟩
  ·have e:j=(dZ L v).length:=aB
   subst e;rw[oZ] at hv6;rw[qA i aB];exact hX _ _ _ aB ⟨i+1,s',dJ,rfl,rfl,by rw[tk];exact hv6,k6,λb hb=>(fs6 b hb).1⟩
 ·have e:i=(nK L v).length:=aB
  subst e;rw[oZ] at hv;exact hQ s w3 hv (k02.tr k3) λb hb=>iF k02.size (fs b hb)
theorem Worth_i{N:mP}{n:Nat}{L:List bQ}{v:Int}{W:aH}{Q:Int->aH->Prop}(h:kZ W N n L)(hQ:∀w',aM W w'->Q (FA n L v) w'):zS (some ⟨N.g,0,none⟩) v W Q:=by
 unfold zS;refine Bl h λs w1 v1 k1 _=>?_;refine In_i (h.aN k1) λs2 w2 v2 k2 _=>?_;refine Wk ((h.aN k1).aN k2) λs3 w3 v3 k3 _=>?_;have l1:=v1.len;have l2:=v2.len;have l3:=v3.len;have hb:=No h.ok h.sz v;have il:=h.ok.FD v;have ol:=h.ok.vA v;have hn:=h.sz;rw[l1,l2,l3,gM (n:=((fV n L v).length:Int)-((nK L v).length:Int)) aB aB,gM aB aB];exact hQ w3 ((k1.tr k2).tr k3)
theorem First_i{N:mP}{n:Nat}{L:List bQ}{gone:Sl}{gs:List Bool}{W:aH}{Q:Int->aH->Prop}(h:kZ W N n L)(hg:Rd W gone 1 eB gs)(hgl:gs.length<1000000)(hQ:∀w',aM W w'->Q (kQ n L gs) w'):zT (some ⟨N.g,0,none⟩) gone W Q:=by
 unfold zT;have hn:=h.sz;have gl:=hg.len;refine QR h ?_;refine bO (λc t w2=>∃(k:Nat),k<=n/\c=n-k/\t=((lQ n L gs k).1,(lQ n L gs k).2,(k:Int),())/\aM W w2) n
  ⟨0,iG _,rfl,rfl,aW.refl _ _⟩ ?_
 rintro c t w2 ⟨k,hk,rfl,rfl,k2⟩ X hX;dsimp only;refine aJ (λcJ=>?_) (λkT=>?_)
 ·have lD:k<n:=aB
  have hs:=NY n L gs k;have next:∀w',aM W w'->∀z,tW n L gs (lQ n L gs k) k=z->X (z.1,z.2,aQ ((k:Int)+1),()) w':=λw' k' z hz=>by
   rw[qA k aB];exact hX _ _ _ aB ⟨k+1,lD,rfl,by rw[hs,hz],k'⟩
  intro J hJ;have go:cB gs k=false->J () w2:=λxd=>by
   apply hJ;refine Worth_i (h.aN k2) λw4 k4=>?_;have K4:=k2.tr k4;refine aJ (λh0=>?_) (λh0=>?_)
   ·exact next w4 K4 ((k:Int),FA n L k) (by unfold tW;rw[xd,if_neg dL,if_pos h0])
   ·refine aJ (λhw=>?_) (λhw=>?_)
    ·exact next w4 K4 ((k:Int),FA n L k) (by unfold tW;rw[xd,if_neg dL,if_neg h0,if_pos hw])
    ·exact next w4 K4 (lQ n L gs k) (by unfold tW;rw[xd,if_neg dL,if_neg h0,if_neg hw])
  refine aJ (λhl=>?_) (λhl=>?_)
  ·have hkl:k<gs.length:=aB
   have cV:gs[k]? =some gs[k]:=gS hkl;obtain⟨p,hp,hc⟩:=cF (k:=.bool) (e:=λx=>x) (hg.aK k2 dL (λ_ _=>id)) cV;have hgk:cB gs k=gs[k]:=by unfold cB;rw[LP,cV];rfl
   rw[kE];refine⟨⟨aB,hl⟩,aA hp (aE (k:=.bool) _ hc ?_)⟩;refine aF (λhb=>?_) (λhb=>go (hgk.trans hb));exact next w2 k2 (lQ n L gs k) (by unfold tW;rw[hgk,hb,if_pos rfl])
  ·refine go ?_
   unfold cB;rw[LP,List.getElem?_eq_none aB];rfl
 ·have e:k=n:=aB
  subst e;exact hQ w2 k2
theorem bK{w:aH}{cs:Array Value}{t:TypeId}{K:Addr->aH->Prop}(h:∀w',cW w' w.heap.size t cs.toList->aM w w'->w'.heap.size=w.heap.size+1->K ⟨w.heap.size,0,none⟩ w'):aG w cs t K:=
 h _ (cW.iP w cs t) (aM.alloc w _) dL
theorem Zq{s:Sl}{xs:List bQ}{Uo:Value}{p:bQ->Bool}{w:aH}{Q:Int->aH->Prop}{C:aH->Prop}(hs:dQ w iR 4 eC s xs)(hl:xs.length<1000000)(hC:C w)(cg:∀w1 w2,C w1->aM w1 w2->C w2)
  (hdel:∀x w1 (K:WQ Value),C w1->x∈xs->(∀w2,aM w1 w2->K (.bool (p x)) w2)->lI prog Uo [Fg x] w1 K)
  (vU:∀w',aM w w'->(∀x∈xs,p x=false)->Q (-1) w') (Qd:∀(i:Nat) w',aM w w'->i<xs.length->(∀j x,j<i->xs[j]? =some x->p x=false)->(∀x,xs[i]? =some x->p x=true)->Q (i:Int) w'):iO s Uo w Q:=by
 unfold iO;have sl:=hs.len;refine bO (λc t w1=>∃(i:Nat),i<=xs.length/\c=xs.length-i/\t=((i:Int),())/\aM w w1/\∀j x,j<i->xs[j]? =some x->p x=false) xs.length ⟨0,iG _,rfl,rfl,aW.refl _ _,λj x hj=>aB⟩ ?_;rintro c t w1 ⟨i,hi,rfl,rfl,k1,hn⟩ X hX;refine aJ (λcJ=>?_) (λkT=>?_)
 ·have GA:(i:Int)<(s.l:Int):=cJ
  have dJ:i<xs.length:=aB;have cV:=gS dJ;have fP:=nE dJ;obtain⟨q,hq,hh⟩:=wI ((hs.aK k1 λ_ _=>id).rd kI) cV;generalize xs[i]=x at*;show(0<=(i:Int)/\(i:Int)<(s.l:Int))/\_;rw[kE];refine⟨⟨aB,GA⟩,aA hq (bJ (nN x) hh ?_)⟩;refine hdel x w1 _ (cg _ _ hC k1) fP λw2 k2=>⟨p x,rfl,?_⟩;refine aF (λhp=>?_) (λhp=>?_)
  ·exact Qd i w2 (k1.tr k2) dJ hn λy hy=>by rw[cV] at hy;cases hy;exact hp
  ·show X (aQ ((i:Int)+1),()) w2
   rw[qA i aB];refine hX _ _ _ aB ⟨i+1,dJ,rfl,rfl,k1.tr k2,λj y hj hy=>?_⟩;rcases Nat.lt_or_ge j i with h|h
   ·exact hn j y h hy
   ·have:j=i:=aB
    subst this;rw[cV] at hy;cases hy;exact hp
 ·have hge':¬(i:Int)<(s.l:Int):=kT
  refine vU w1 k1 λx hx=>?_;obtain⟨j,hj⟩:=oM.1 hx;have:=(kU.1 hj).1;exact hn j x aB hj
theorem KC{s:Sl}{xs:List bQ}{Uo:Value}{p:bQ->Bool}{w:aH}{Q:Sl->aH->Prop}{C:aH->Prop}(hs:dQ w iR 4 eC s xs)(hl:xs.length<1000000)(hC:C w)(cg:∀w1 w2,C w1->aW (λk=>∃a,s.b=some a/\k=a.block) w1 w2->C w2)
  (hdel:∀x w1 (K:WQ Value),C w1->x∈xs->(∀w2,aM w1 w2->K (.bool (p x)) w2)->lI prog Uo [Fg x] w1 K)
  (hQ:∀s' w',dQ w' iR 4 eC s' (xs.filter λx=>!p x)->aW (λk=>∃a,s.b=some a/\k=a.block) w w'->s'.b=s.b->Q s' w'):fG s Uo w Q:=by
 unfold fG;have sl:=hs.len;have Qj:=hs.cap;have Qg:=hs.max;refine Zq hs hl hC (λw1 w2 c k=>cg w1 w2 c k.wk) hdel (λw1 k1 vU=>?_) (λi0 w1 k1 hi0 hbef Ub=>?_)
 ·refine aF (λ_=>?_) (λh=>by simp at h)
  have:xs.filter (λx=>!p x)=xs:=List.filter_eq_self.2 λx hx=>by rw[vU x hx];rfl
  exact hQ s w1 (by rw[this];exact hs.aK k1 λ_ _=>id) k1.wk rfl
 ·refine aF (λh=>by simp at h) (λ_=>?_)
  have pre:(xs.take (i0+1)).filter (λx=>!p x)=xs.take i0:=by
   rw[FQ hi0,IT];have e1:(xs.take i0).filter (λx=>!p x)=xs.take i0:=List.filter_eq_self.2 λx hx=>by
    obtain⟨j,hj⟩:=oM.1 hx;have XT:=(kU.1 hj).1;rw[pW] at XT;rw[UR aB] at hj;rw[hbef j x aB hj];rfl
   rw[e1,KZ,Ub _ (gS hi0)];simp
  rw[qA i0 aB];refine bO (λc t w2=>∃(i j:Nat) (ys:List bQ),j<=xs.length/\i<=j/\c=xs.length-j/\t=((i:Int),(j:Int),())/\ys.length=xs.length/\ys.take i=(xs.take j).filter (λx=>!p x)/\ys.drop j=xs.drop j/\dQ w2 iR 4 eC s ys/\aW (λk=>∃a,s.b=some a/\k=a.block) w w2) (xs.length-(i0+1))
   ⟨i0,i0+1,xs,hi0,aB,rfl,rfl,rfl,pre.symm,rfl,hs.aK k1 (λ_ _=>id),k1.wk⟩ ?_
  rintro c t w2 ⟨i,j,ys,hj,RN,rfl,rfl,yl,Aj,ydrop,v2,m2⟩ X hX;dsimp only;refine aJ (λcJ=>?_) (λkT=>?_)
  ·have uE:j<xs.length:=aB
   have cV:ys[j]? =some xs[j]:=by
    have:=congrArg (·[0]?) ydrop;simp only[List.getElem?_drop,Nat.add_zero] at this;rw[this,gS uE]
   have fP:=nE uE;have tk:(xs.take (j+1)).filter (λx=>!p x)=(xs.take j).filter (λx=>!p x)++(if p xs[j]=true then [] else [xs[j]]):=by
    rw[FQ uE,IT,KZ,List.filter_nil];cases p xs[j]<;>simp
   obtain⟨q,hq,hh⟩:=wI (v2.rd kI) cV;generalize xs[j]=x at*;rw[kE];refine⟨⟨aB,cJ⟩,aA hq (bJ (nN x) hh ?_)⟩;simp only[aG];refine GZ λw4 k4 o4 z4=>?_;refine bJ (nN x) (iM o4) ?_;have m4:=m2.tr k4.wk;refine hdel x w4 _ (cg _ _ hC m4) fP λw5 k5=>⟨p x,rfl,?_⟩;have m5:=m4.tr k5.wk;have v5:=(v2.aK k4 λ_ _=>id).aK k5 λ_ _=>id;rw[qA j aB];have drop1:∀zs:List bQ,zs.drop j=xs.drop j->zs.drop (j+1)=xs.drop (j+1):=λzs h=>by
    rw[<-List.drop_drop,<-List.drop_drop,h]
   refine aF (λhp=>?_) (λhp=>?_)
   ·have hp':p x=false:=by simpa using hp
    refine bJ (nN x) (iM (o4.aK k5 id)) ⟨⟨aB,aB⟩,aA hq ?_⟩;rw[kE];refine v5.store kI hq aB x (v:=Fg x) rfl CB (Eu x) λw6 v6 m6 _=>?_;rw[qA i aB];refine hX _ _ _ aB ⟨i+1,j+1,ys.set i x,uE,aB,rfl,rfl,by rw[pJ];exact yl,?_,?_,v6,m5.tr (m6.mono λk _ e=>⟨q,hq,e⟩)⟩
    ·rw[tk,hp',if_neg dL,<-Aj]
     have dJ:i<(ys.set i x).length:=by rw[pJ];omega
     rw[FQ dJ,List.getElem_set_self];congr 1;apply AZ;intro m;rw[List.getElem?_take,List.getElem?_take]
     split
     ·rw[vT,if_neg aB]
     ·rfl
    ·rw[<-drop1 ys ydrop]
     apply AZ;intro m;rw[List.getElem?_drop,List.getElem?_drop,vT,if_neg aB]
   ·exact hX _ _ _ aB ⟨i,j+1,ys,uE,aB,rfl,rfl,yl,by rw[tk,if_pos (show p x=true by simpa using hp),tD];exact Aj,drop1 ys ydrop,v5,m5⟩
  ·have ej:j=xs.length:=aB
   subst ej;rw[oZ] at Aj;rcases v2.gN with⟨_,h0⟩|⟨g,dE,Kj,ho,fU⟩
   ·omega
   refine⟨⟨aB,aB⟩,?_⟩;rw[kE];have xT:(ys.flatMap eC++dE).length=s.c*4:=fU;have ti:((ys.flatMap eC++dE).take (i*4))=(ys.take i).flatMap eC:=Ob kI ys dE i aB;have dR:∀w7,cW w7 g iR ((ys.take i).flatMap eC++((ys.flatMap eC++dE).drop (i*4)))\/(∃zs:List Value,zs.length=(s.l-i)*4/\cW w7 g iR ((ys.take i).flatMap eC++(zs++(ys.flatMap eC++dE).drop (i*4+(s.l-i)*4))))->aW (λk=>k=g) w2 w7->
     (0<=(i:Int)/\(i:Int)<=(s.c:Int))/\Q ⟨(aR s.b s.c 0 4),i-0,(s.c-0)⟩ w7:=λw7 ho7 m7=>by
    refine⟨⟨aB,aB⟩,?_⟩;rw[oI,Nat.sub_zero,Nat.sub_zero];have til:((ys.take i).flatMap eC).length=i*4:=by rw[tU,pW,Nat.min_eq_left aB]
    have h4:i*4<=s.c*4:=RV 4 aB;refine hQ _ w7 ⟨by rw[<-Aj,pW,Nat.min_eq_left aB],by show i<=s.c;omega,Qg,.inr ?_⟩ (m2.tr (m7.mono λk _ e=>⟨_,Kj,e⟩)) rfl;rw[<-Aj];rcases ho7 with ho7|⟨zs,hz,ho7⟩
    ·refine⟨g,_,Kj,ho7,?_⟩
     show _=s.c*4;rw[mL,List.length_drop,xT,til];omega
    ·refine⟨g,_,Kj,ho7,?_⟩
     show _=s.c*4;have:(s.l-i)*4=s.l*4-i*4:=Nat.sub_mul _ _ _;rw[mL,mL,List.length_drop,xT,til,hz];omega
   by_cases hic:i<s.c
   ·rw[Kj,lJ hic]
    have h6:(s.l-i)*4=s.l*4-i*4:=Nat.sub_mul _ _ _;refine ZI kK (by simp[Value.oneCell']) ho (by rw[xT];omega) λw7 zs hz ho7 m7 _=>?_;rw[ti,sD] at ho7;have:=dR w7 (.inr ⟨zs,hz,ho7⟩) m7;rw[Kj] at this;exact this
   ·have hic':i=s.c:=aB
    have hsl0:s.l-i=0:=aB;rw[hsl0];refine⟨(),w2,?_,?_⟩
    ·cases aR s.b s.c i 4<;>simp[Builtin.clear_,run_underlying kK.under,yU]
    ·exact dR w2 (.inl (by rw[<-ti,Cd];exact ho)) (aW.refl _ _)
end Go.Proofs.YtihggjgakbgomaaGreat
