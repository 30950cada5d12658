import Derived.Deep.Slices
import Derived.Test.YtihggjgakbgomaaGreatA1
import Derived.Test.YtihggjgakbgomaaGreatA2
set_option linter.defProp false
namespace Go.Den
open Go
def HN(w h i:Nat):Nat->List (Nat×Nat)
 |0=>if i%w<w-1 then [(i,i+1),(i+1,i)] else []
 |_=>if i/w<h-1 then [(i,i+w),(i+w,i)] else []
def EL(w h i:Nat):List (Nat×Nat):=(List.range i).flatMap λi=>HN w h i 0++HN w h i 1
def rr:∀w:Fin 5,∀h:Fin 5,(EL w h (w*h)).length<=48/\(∀p∈EL w h (w*h),p.1<w.val*h.val/\p.2<w.val*h.val)/\∀v:Fin 17,((EL w h (w*h)).filter λp=>p.1==v.val).length<=4:=by decide+kernel
def ru(w h i:Nat):EL w h (i+1)=EL w h i++HN w h i 0++HN w h i 1:=by
 unfold EL;rw[List.range_succ,HA];simp[sV]
abbrev E3:=Int×Int×Int
def ftE(e:E3):Nat×Nat:=(e.1.toNat,e.2.1.toNat)
structure CU(w h:Nat)(L:List (Nat×Nat))(E:List E3):Prop where
 sub:(E.map ftE).Sublist L
 ok:∀e∈E,0<=e.1/\0<=e.2.1/\1<=e.2.2/\e.2.2<=40
def CU.nil(w h:Nat)(L:List (Nat×Nat)):CU w h L []:=⟨by simp,by simp⟩
def CU.TR{w h:Nat}{L M:List (Nat×Nat)}{E:List E3}(g:CU w h L E):CU w h (L++M) E:=⟨g.sub.trans (List.sublist_append_left L M),g.ok⟩
def CU.push{w h:Nat}{L:List (Nat×Nat)}{E:List E3}(g:CU w h L E){p:Nat×Nat}{x:Int}(h0:1<=x)(h1:x<=40):CU w h (L++[p]) (E++[((p.1:Int),(p.2:Int),x)]):=by
 refine⟨?_,λe he=>?_⟩
 ·rw[xF];refine g.sub.append ?_;have:ftE ((p.1:Int),(p.2:Int),x)=p:=by simp[ftE]
  simp[this]
 ·rcases kK.1 he with he|he
  ·exact g.ok e he
  ·have:e=((p.1:Int),(p.2:Int),x):=by simpa using he
   subst this;exact⟨Int.natCast_nonneg _,Int.natCast_nonneg _,h0,h1⟩
structure CS(n k:Nat)(E:List E3):Prop where
 len:E.length<=48+k
 ok:∀e∈E,(0<=e.1/\e.1<n)/\(0<=e.2.1/\e.2.1<n)/\1<=e.2.2/\e.2.2<=40
 deg:∀v:Int,(E.filter λe=>decide (e.1=v)).length<=4+k
def CU.town{w h:Nat}(hw:w<5)(hh:h<5){E:List E3}(g:CU w h (EL w h (w*h)) E):CS (w*h) 0 E:=by
 obtain⟨f1,f2,f3⟩:(EL w h (w*h)).length<=48/\(∀p∈EL w h (w*h),p.1<w*h/\p.2<w*h)/\∀v:Fin 17,((EL w h (w*h)).filter λp=>p.1==v.val).length<=4:=rr ⟨w,hw⟩ ⟨h,hh⟩;have JJ:∀e∈E,e.1<(w*h:Nat)/\e.2.1<(w*h:Nat):=λe he=>by
  have hm:=g.sub.subset (mQ.2 ⟨e,he,rfl⟩);have h1:=f2 _ hm;have h2:=g.ok e he;unfold ftE at h1;simp only at h1;omega
 refine⟨?_,λe he=>?_,λv=>?_⟩
 ·have:=g.sub.length_le;rw[lT] at this;omega
 ·have h1:=g.ok e he;have h2:=JJ e he;exact⟨⟨h1.1,h2.1⟩,⟨h1.2.1,h2.2⟩,h1.2.2⟩
 ·by_cases hv:0<=v/\v<17
  ·have h1:=(g.sub.filter λp=>p.1==v.toNat).length_le;have h2:((EL w h (w*h)).filter λp=>p.1==v.toNat).length<=4:=f3 ⟨v.toNat,aB⟩;have h3:(E.filter λe=>decide (e.1=v)).length=((E.map ftE).filter λp=>p.1==v.toNat).length:=by
    rw[List.filter_map,lT];congr 1;refine ly3 λe he=>?_;have h4:=g.ok e he;have h5:(e.1=v)↔(e.1.toNat=v.toNat):=aB;simp only[Function.comp,ftE]
    by_cases h6:e.1=v
    ·rw[decide_eq_true h6];simp[h6]
    ·rw[decide_eq_false h6];symm;simpa usingλh=>h6 (h5.2 h)
   omega
  ·have:(E.filter λe=>decide (e.1=v))=[]:=by
    rw[List.filter_eq_nil_iff];intro e he h1;have h2:=g.ok e he;have h3:=JJ e he;have h4:e.1=v:=by simpa using h1
    have:w*h<=4*4:=TS aB aB;omega
   rw[this];simp
def CS.push{n k:Nat}{E:List E3}(h:CS n k E){e:E3}(he:(0<=e.1/\e.1<n)/\(0<=e.2.1/\e.2.1<n)/\1<=e.2.2/\e.2.2<=40):CS n (k+1) (E++[e]):=by
 refine⟨by rw[fN];have:=h.len;simp;omega,λx hx=>?_,λv=>?_⟩
 ·rcases kK.1 hx with hx|hx
  ·exact h.ok x hx
  ·have:x=e:=by simpa using hx
   rw[this];exact he
 ·rw[TV,fN];have h1:=h.deg v;have h2:=xG (λe=>decide (e.1=v)) [e];simp only[mH,TW] at h2;omega
def CS.TR{n k j:Nat}{E:List E3}(h:CS n k E)(hj:k<=j):CS n j E:=⟨by have:=h.len;omega,h.ok,λv=>by have:=h.deg v;omega⟩
def CS.one{n:Nat}(hn:0<n):CS n 3 [(0,0,3)]:=by
 refine⟨by simp,λe he=>?_,λv=>jB (xG _ _) dP⟩;have:e=(0,0,3):=by simpa using he
 subst this;exact⟨⟨by simp,by simpa using hn⟩,⟨by simp,by simpa using hn⟩,by simp,by simp⟩
def Zx(p:E3->Bool):∀E:List E3,((List.range E.length).filter λi=>p (E.getD i (0,0,0))).length=(E.filter p).length
 | []=>rfl
 |e::E=>by
  have ih:=Zx p E;rw[mH,List.range_succ_eq_map,JO,List.filter_map];have h1:((λi=>p ((e::E).getD i (0,0,0))) ∘ Nat.succ)=λi=>p (E.getD i (0,0,0)):=by funext i;simp
  rw[h1];simp only[List.getD_cons_zero,JO];simp only[MJ] at ih
  split<;>simp[ih]
def sn(p:E3->Bool)(E:List E3):((kS E.length).filter λi=>p (E.getD i.toNat (0,0,0))).length=(E.filter p).length:=by
 unfold kS;rw[List.filter_map,lT,<-Zx]
 rfl
structure HQ(E:List E3)(a b:Nat)(B:List (Int×Int)):Prop where
 len:B.length<=7*a+((kS b).filter λi=>decide ((E.getD i.toNat (0,0,0)).1=(E.getD a (0,0,0)).2.1)).length
 ok:∀x∈B,(0<=x.1/\x.1<E.length)/\(0<=x.2/\x.2<E.length)/\(E.getD x.1.toNat (0,0,0)).2.1=(E.getD x.2.toNat (0,0,0)).1
 sY:B.Pairwise JQ
 lH:∀x∈B,JQ x ((a:Int),(b:Int))
def HQ.skip{E:List E3}{a b:Nat}{B:List (Int×Int)}(h:HQ E a b B):HQ E a (b+1) B:=by
 refine⟨?_,h.ok,h.sY,λx hx=>?_⟩
 ·rw[xS,TV,fN];have:=h.len;omega
 ·have:=h.lH x hx;unfold JQ at*;omega
def HQ.push{E:List E3}{a b:Nat}{B:List (Int×Int)}(h:HQ E a b B)(ha:a<E.length)(hb:b<E.length)(he:(E.getD a (0,0,0)).2.1=(E.getD b (0,0,0)).1):HQ E a (b+1) (B++[((a:Int),(b:Int))]):=by
 refine⟨?_,λx hx=>?_,?_,λx hx=>?_⟩
 ·rw[xS,TV,fN,fN];have h1:([(b:Int)].filter λi=>decide ((E.getD i.toNat (0,0,0)).1=(E.getD a (0,0,0)).2.1))=[(b:Int)]:=by
   simp only[JO,dU,he,decide_true,if_true,List.filter_nil]
  rw[h1];have:=h.len;simp only[mH,TW];omega
 ·rcases kK.1 hx with hx|hx
  ·exact h.ok x hx
  ·have:x=((a:Int),(b:Int)):=by simpa using hx
   subst this;exact⟨⟨aB,aB⟩,⟨aB,aB⟩,by simpa using he⟩
 ·rw[List.pairwise_append];refine⟨h.sY,by simp,λx hx y hy=>?_⟩;have:y=((a:Int),(b:Int)):=by simpa using hy
  subst this;exact h.lH x hx
 ·rcases kK.1 hx with hx|hx
  ·have:=h.lH x hx;unfold JQ at*;omega
  ·have:x=((a:Int),(b:Int)):=by simpa using hx
   subst this;unfold JQ;omega
def HQ.next{n:Nat}{E:List E3}(hE:CS n 3 E){a:Nat}{B:List (Int×Int)}(h:HQ E a E.length B):HQ E (a+1) 0 B:=by
 refine⟨?_,h.ok,h.sY,λx hx=>?_⟩
 ·have h1:=h.len;have h2:=sn (λe=>decide (e.1=(E.getD a (0,0,0)).2.1)) E;rw[h2] at h1;have:=hE.deg (E.getD a (0,0,0)).2.1;have h3:((kS 0).filter λi=>decide ((E.getD i.toNat (0,0,0)).1=(E.getD (a+1) (0,0,0)).2.1)).length=0:=by simp[kS]
  omega
 ·have:=h.lH x hx;have:=(h.ok x hx).2.1.2;unfold JQ at*;omega
def town_ok{n:Nat}{N:List (Int×Int)}{E:List E3}{B:List (Int×Int)}(hn:1<=n/\n<=16)(hN:N.length=n)(hNo:∀p∈N,(0<=p.1/\p.1<=4095)/\0<=p.2/\p.2<=4095)(hE:CS n 3 E)(hE1:E≠[])(hB:HQ E E.length 0 B):sM ⟨N,E,B⟩:=by
 have uJ:0<E.length:=List.length_pos_iff.2 hE1;have hl:=hE.len;refine⟨⟨by show 1<=N.length;omega,by show N.length<=256;omega⟩,⟨uJ,hl⟩,hNo,λe he=>?_,?_,λb hb=>?_,hB.sY⟩
 ·have:=hE.ok e he;show(0<=e.1/\e.1<(N.length:Nat))/\(0<=e.2.1/\e.2.1<(N.length:Nat))/\_;rw[hN];exact this
 ·have h1:=hB.len;have h3:((kS 0).filter λi=>decide ((E.getD i.toNat (0,0,0)).1=(E.getD E.length (0,0,0)).2.1)).length=0:=by simp[kS]
  show B.length<=1024;omega
 ·exact hB.ok b hb
def hintS_pos(G:Gr)(p:zZ):(kX G p).1.pos=p.pos/\(kX G p).1.node=p.node/\(kX G p).1.jZ=p.jZ/\(kX G p).1.dI=p.dI:=by
 unfold kX;split<;>exact⟨rfl,rfl,rfl,rfl⟩
def askW_pos(G:Gr)(p:zZ)(l:cR)(w:Int)(f:Bool):(QV G p l w f).1.pos=p.pos/\(QV G p l w f).1.node=p.node/\(QV G p l w f).1.jZ=l/\(QV G p l w f).1.dI=f:=by
 unfold QV
 split
 ·rename_i h;have:=hintS_pos G {p with jZ:=l,dI:=true};exact⟨this.1,this.2.1,this.2.2.1,by rw[this.2.2.2,h]⟩
 ·rename_i h;exact⟨rfl,rfl,rfl,by cases f<;>simp_all⟩
def sM.ansD{G:Gr}(ok:sM G){v e:Int}{c:rZ}{ds l:cR}{w:Int}{f r:Bool}(hd:G.pL c v ds)(he:G.mO e)(hv:G.GR v)(h:G.LP v e c l w f r):
  (f=true/\G.vT c ds e l/\w=kU ds e/\w=G.oP l/\0<=kU ds e)\/(f=false/\l=[]/\w=0/\kU ds e<0):=by
 cases h with
 |no qU=>refine .inr ⟨rfl,rfl,rfl,?_⟩;refine Int.not_le.1 λh0=>qU _ hv (ok.NG hd he h0)
 |near _ _ h0 hl hs=>obtain⟨h1,h2⟩:=ok.lway_same h0 hd he hl hs;have h3:=(h1.EM ok).1;have h4:=(ok.xO hd (ok.Fl h0 he hl hs)).1;exact .inl ⟨rfl,h1,h3,rfl,h4⟩
 | @pL d0 d1 l0 _ _ _ h0 h1 hl0 hs hl=>have e1:d1=ds:=h1.one hd;subst e1;have h3:=(hl.EM ok).1;have hg:=ok.Fl h1 he hl λx hx=>((hl.EM ok).2.2.1 x hx).2;exact .inl ⟨rfl,hl,h3,rfl,(ok.xO h1 hg).1⟩
def sM.to_iff{G:Gr}(ok:sM G){v e:Int}{c:rZ}{ds:cR}(hd:G.pL c v ds)(he:G.mO e)(h0:0<=kU ds e):G.to e=v↔kU ds e=0:=by
 refine⟨λh=>?_,λh=>(ok.Io hd he h).2⟩;have:=ok.xO hd (.nil ⟨he,h⟩);omega
def DX.told{G:Gr}(ok:sM G){c:rZ}{ds:cR}{p:zZ}{z:zZ×List gT}(hp:G.mO p.pos)(hn:G.GR p.node)(hd:G.pL c p.node ds)(h:DX G c p z):
  z.1.pos=p.pos/\z.1.node=p.node/\((kU ds p.pos<0/\z.1.dI=false/\z.1.jZ=[]/\z.2=[wI]/\z.1.iA=p.iA)\/
  (0<=kU ds p.pos/\z.1.dI=true/\G.vT c ds p.pos z.1.jZ/\∃m,z.2=[pS z.1.jZ (kU ds p.pos),m]/\
   ((kU ds p.pos=0/\m=XU/\z.1.iA=true)\/(0<kU ds p.pos/\m=LJ (G.eZ p.pos z.1.jZ)/\z.1.iA=p.iA)))):=by
 obtain⟨l,w,f,r,ha,rfl⟩:=h;obtain⟨h1,h2,h3,h4⟩:=askW_pos G p l w f;refine⟨h1,h2,?_⟩;rw[h3,h4];rcases ok.ansD hd hp hn ha with⟨rfl,hl,hw,_,h0⟩|⟨rfl,rfl,rfl,h0⟩
 ·refine .inr ⟨h0,rfl,hl,?_⟩;unfold QV;rw[if_pos rfl];unfold kX
  by_cases e:G.to p.pos=p.node
  ·rw[if_pos e];exact⟨_,by rw[hw],.inl ⟨(ok.to_iff hd hp h0).1 e,rfl,rfl⟩⟩
  ·rw[if_neg e];have:kU ds p.pos≠0:=λh=>e ((ok.to_iff hd hp h0).2 h);exact⟨_,by rw[hw],.inr ⟨aB,rfl,rfl⟩⟩
 ·refine .inl ⟨h0,rfl,rfl,?_⟩;unfold QV;rw[if_neg dP];exact⟨rfl,rfl⟩
structure FallI(G:Gr)(v:Int)(ds:cR)(p:zZ):Prop where
 node:p.node=v
 pos:G.mO p.pos
 st:(p.iA=true/\p.dI=true/\kU ds p.pos=0)\/(p.iA=false/\((p.dI=true/\0<kU ds p.pos/\G.vT [] ds p.pos p.jZ)\/(p.dI=false/\kU ds p.pos<0)))
structure FallS(G:Gr)(v:Int)(ds:cR)(p:zZ)(x:Int)(z:zZ×List gT):Prop where
 inv:FallI G v ds z.1
 pos:z.1.pos=x
 lH:∃i m,z.2=i++[m]/\(kU ds x=0->m.kind=8)/\(kU ds x<0->m.kind=6)/\(0<kU ds x->m.kind=7/\m.eZ.left=kU ds x)
 on:p.jZ.head? =some x->z.2.length=1/\kU ds x=kU ds p.pos-G.wt x/\z.1.jZ=p.jZ.tail
 off:p.jZ.head?≠some x->x≠p.pos->∃m i,z.2=m::i/\(m.kind=5/\m.lI=kU ds x\/m.kind=6)
def DX.no{G:Gr}(ok:sM G){c:rZ}{p:zZ}{z:zZ×List gT}(hn:G.GR p.node)(qU:∀d,¬G.gw c p.node p.pos d)(h:DX G c p z):z=({p with jZ:=[],dI:=false},[wI]):=by
 obtain⟨l,w,f,r,hA,rfl⟩:=h;cases hA with
 |no _=>unfold QV;rw[if_neg dP]
 |near _ he h0 hl hs=>exact absurd (ok.Fl h0 he hl hs) (qU _)
 |pL _ he _ h1 _ _ hl=>exact absurd (ok.Fl h1 he hl λx hx=>((hl.EM ok).2.2.1 x hx).2) (qU _)
def DX.yes{G:Gr}(ok:sM G){c:rZ}{ds l:cR}{p:zZ}{z:zZ×List gT}(hp:G.mO p.pos)(hn:G.GR p.node)(hd:G.pL c p.node ds)(hl:G.vT c ds p.pos l)(h:DX G c p z):
  z.1.dI=true/\z.1.jZ=l/\∃m,z.2=[pS l (kU ds p.pos),m]:=by
 obtain⟨_,_,h3⟩:=h.told ok hp hn hd;rcases h3 with⟨h4,_⟩|⟨_,h5,h6,m,h7,_⟩
 ·cases hl with
  |nil h=>omega
  |cons h _ _=>omega
 ·have e:=h6.uniq hl;rw[e] at h7;exact⟨h5,e,m,h7⟩
end Go.Den
namespace Go.Den
open Go Go.ChangeShapes Go.WideShapes Go.ChangeAt Go.RowKit Go.Deep
section
def ZZ(P:YZ):Nat->fL->Nat->Bool
 |0,_,_=>false
 |d+1,t,i=>match P.underlying t with
  |some (.int .i64)=>Nat.beq i 0
  |some (.struct fs)=>fs.toList.any λf=>Nat.ble f.offset i && Nat.blt i (f.offset+P.cellsOf f.type) && ZZ P d f.type (i-f.offset)
  |some (.array n e)=>Nat.blt 0 (P.cellsOf e) && Nat.blt (i/P.cellsOf e) n && ZZ P d e (i%P.cellsOf e)
  |_=>false
def leaves64(P:YZ)(t:fL)(n:Nat):Bool:=Hx (λi=>ZZ P 5 t i) n
def mapM_each{α β:Type}{f:α->Option β}:∀{l:List α} {ys:List β},l.mapM f=some ys->∀x∈l,∃y,f x=some y
 | [],_,_,x,hx=>by cases hx
 |a::l,ys,h,x,hx=>by
  simp only[List.mapM_cons,Option.bind_eq_bind,Option.pure_def] at h;cases ha:f a with
  |none=>simp[ha] at h
  |some y=>
   cases hl:l.mapM f with
   |none=>simp[ha,hl] at h
   |some zs=>
    rcases jQ.1 hx with e|hx
    ·subst e;exact⟨y,ha⟩
    ·exact mapM_each hl x hx
section
variable{H:Type}{aY:fL×Value->H}{P:YZ}{w:aH}{oI:Nat}{spare:Nat->Bool}{held:Bool}
def OC:∀(d:Nat) {fuel:Nat} {t:fL} {cs:gJ} {x:DataW H×List MemPlace} {i:Nat},ZZ P d t i=true->DataW.trod aY P w oI spare held fuel t cs=some x->∃n:Int,cs[i]? =some (.int .i64 n)
 |0,_,_,_,_,_,h,_=>by simp[ZZ] at h
 |d+1,0,_,_,_,_,_,hx=>by simp[DataW.trod] at hx
 |d+1,fuel+1,t,cs,x,i,h,hx=>by
  unfold ZZ at h;cases hu:P.underlying t with
  |none=>rw[hu] at h;cases h
  |some u=>
   rw[hu] at h;cases u
   case int k=>
    cases k<;>try (cases h;done)
    obtain⟨n,hc,_,_⟩:=DataW.trod_int hu hx;have hi:i=0:=JP h;subst hi;exact⟨n,by rw[hc];rfl⟩
   case struct fs=>
    have QZ:(if cs.length=P.cellsOf t then(fs.toList.mapM λf=>DataW.trod aY P w oI spare held fuel f.type ((cs.drop f.offset).take (P.cellsOf f.type))).map λxs=>(DataW.agg (xs.map (·.1)),xs.flatMap (·.2)) else none)=some x:=by
     rw[<-hx]
     conv=>rhs;unfold DataW.trod;rw[hu]
    split at QZ
    ·simp only[List.any_eq_true,tG] at h;obtain⟨f,hf,⟨h1,h2⟩,h3⟩:=h;cases hm:(fs.toList.mapM λf=>DataW.trod aY P w oI spare held fuel f.type ((cs.drop f.offset).take (P.cellsOf f.type))) with
     |none=>rw[hm] at QZ;cases QZ
     |some ys=>
      obtain⟨y,hy⟩:=mapM_each hm f hf;obtain⟨n,hn⟩:=OC d h3 hy;have l1:f.offset<=i:=Nat.le_of_ble_eq_true h1;have l2:i<f.offset+P.cellsOf f.type:=by simpa using h2
      rw[WC aB,ly7,show f.offset+(i-f.offset)=i by omega] at hn;exact⟨n,hn⟩
    ·cases QZ
   case array m e=>
    have QZ:(if cs.length=P.cellsOf t then((List.range m).mapM λi=>DataW.trod aY P w oI spare held fuel e ((cs.drop (i*P.cellsOf e)).take (P.cellsOf e))).map λxs=>(DataW.agg (xs.map (·.1)),xs.flatMap (·.2)) else none)=some x:=by
     rw[<-hx]
     conv=>rhs;unfold DataW.trod;rw[hu]
    split at QZ
    ·simp only[tG] at h;obtain⟨⟨h0,h1⟩,h3⟩:=h;have l0:0<P.cellsOf e:=by simpa using h0
     have l1:i/P.cellsOf e<m:=by simpa using h1
     cases hm:((List.range m).mapM λi=>DataW.trod aY P w oI spare held fuel e ((cs.drop (i*P.cellsOf e)).take (P.cellsOf e))) with
     |none=>rw[hm] at QZ;cases QZ
     |some ys=>obtain⟨y,hy⟩:=mapM_each hm (i/P.cellsOf e) (List.mem_range.2 l1);obtain⟨n,hn⟩:=OC d h3 hy;rw[WC (Nat.mod_lt _ l0),ly7,Nat.div_add_mod'] at hn;exact⟨n,hn⟩
    ·cases QZ
   all_goals cases h
def af{t e:fL}{m b:Nat}{v:Value}{d:DataW H}{ps:List MemPlace}(ht:P.underlying t=some (.slice e))(hc:P.cellsOf e=m)(jd:leaves64 P e m=true)
  (Se:Value.okWide P w .any b t v) (h:DataW.Trod aY P w 0 (λ_=>true) true t v d ps):
  ∃(s:Sl) (eC:List cR),v=aW s/\Rd w s m (λr=>r.map (Value.int .i64)) eC/\(∀r∈eC,r.length=m):=by
 obtain⟨a1,len,cap,rfl⟩:=okWide_slice ht Se;obtain⟨fuel,hf⟩:=h;rcases open_slice ht hf with⟨Wh,hx⟩|⟨a,len',cap',k,n,D,Pl,Wh,_,hl,hm,hk,_,hel⟩
 ·simp[Value.cells] at Wh;obtain⟨rfl,rfl,rfl⟩:=Wh;exact⟨bD,[],rfl,Rd.nil _ _ _,by simp⟩
 ·simp[Value.cells] at Wh;obtain⟨rfl,rfl,rfl⟩:=Wh;have lM:k=cap:=by simpa using hk
  have each:∀i,i<len->∃r:cR,r.length=m/\bQ w (a.add (i*m)) 0 (r.map (Value.int .i64)):=by
   intro i hi;obtain⟨cs,h1,h2⟩:=hel i aB;rw[hc] at h1;obtain⟨_,gL,AI⟩:=World.cells?_some h1;have hints:∀j,j<m->∃n:Int,cs[j]? =some (.int .i64 n):=λj hj=>OC 5 (yC jd j hj) h2;have conv:∀(cs:gJ),(∀j,j<cs.length->∃n:Int,cs[j]? =some (.int .i64 n))->∃r:cR,cs=r.map (Value.int .i64):=by
    intro cs
    induction cs with
    |nil=>intro _;exact⟨[],rfl⟩
    |cons c cs ih=>intro hh;obtain⟨n,hn⟩:=hh 0 dP;simp at hn;obtain⟨r,hr⟩:=ih λj hj=>hh (j+1) (by simpa using hj);exact⟨n::r,by rw[hn,hr];rfl⟩
   obtain⟨r,hr⟩:=conv cs λj hj=>hints j aB;refine⟨r,by rw[<-gL,hr];simp,?_⟩;rw[jH];intro j v hj;rw[<-hr] at hj;have hjm:j<m:=by have:=(eR.1 hj).1;omega
   rw[gK,AI j hjm];exact hj
  obtain⟨eC,hlr,Ov⟩:∃eC:List cR,eC.length=len/\∀i r,eC[i]? =some r->r.length=m/\bQ w (a.add (i*m)) 0 (r.map (Value.int .i64)):=by
   have build:∀q,q<=len->∃eC:List cR,eC.length=q/\∀i r,eC[i]? =some r->r.length=m/\bQ w (a.add (i*m)) 0 (r.map (Value.int .i64)):=by
    intro q
    induction q with
    |zero=>intro _;exact⟨[],rfl,by simp⟩
    |succ q ih=>
     intro hq;obtain⟨eC,h1,h2⟩:=ih aB;obtain⟨r,h3,h4⟩:=each q aB;refine⟨eC++[r],by simp[h1],λi r' hi=>?_⟩
     by_cases hiq:i<eC.length
     ·rw[Gu hiq] at hi;exact h2 i r' hi
     ·rw[Gv aB] at hi;have:i-eC.length=0:=by have:=(eR.1 hi).1;simp at this;omega
      rw[this] at hi;simp at hi;subst hi;have:i=q:=aB;subst this;exact⟨h3,h4⟩
   exact build len (dN _)
  exact⟨⟨some a,len,cap⟩,eC,rfl,⟨hlr.symm,hl,λi r hi=>⟨a,rfl,(Ov i r hi).2⟩⟩,λr hr=>by obtain⟨i,hi⟩:=pJ.1 hr;exact(Ov i r hi).1⟩
end
def Rd.map{α β:Type}{w:aH}{s:Sl}{n:Nat}{e:α->gJ}{e':β->gJ}{xs:List α}(h:Rd w s n e xs)(f:α->β)(hf:∀x∈xs,e' (f x)=e x):Rd w s n e' (xs.map f):=by
 refine⟨by rw[lT];exact h.len,h.cap,λi y hy=>?_⟩;rw[oG] at hy;cases hx:xs[i]? with
 |none=>rw[hx] at hy;cases hy
 |some x=>rw[hx] at hy;cases hy;obtain⟨a,ha,hh⟩:=h.get i x hx;exact⟨a,ha,by rw[hf x (kR hx)];exact hh⟩
end
end Go.Den
namespace Go.Den
open Go Go.ChangeShapes Go.WideShapes Go.ChangeAt Go.RowKit Go.Deep
section
section
variable{H:Type}{aY:fL×Value->H}{P:YZ}{w:aH}
end
end
end Go.Den
namespace Go.Den
open Go Go.ChangeShapes Go.WideShapes Go.ChangeAt Go.RowKit Go.Deep
section
section
variable{H:Type}{aY:fL×Value->H}{P:YZ}{w:aH}
end
end
end Go.Den
